/- rational: the operations. -/
import Derived.Test.YtcaiedfkohigjaaGreatZ9
namespace Go.Proofs.YtcaiedfkohigjaaGreat
open Go.RowKit
/-- The sign of a difference. -/
def cmpR (a b : Rat) : Int := bif decide (a < b) then -1 else bif decide (b < a) then 1 else 0
theorem cmpR_lt {a b : Rat} (h : a < b) : cmpR a b = -1 := by unfold cmpR; rw [decide_eq_true h]; rfl
theorem cmpR_gt {a b : Rat} (h : b < a) : cmpR a b = 1 := by unfold cmpR; rw [decide_eq_false (by grind), decide_eq_true h]; rfl
theorem cmpR_eq (a : Rat) : cmpR a a = 0 := by unfold cmpR; rw [decide_eq_false (by grind)]; rfl
theorem cmpR_num (a b : Rat) : cmpI (a.num * (b.den : Int)) (b.num * (a.den : Int)) = cmpR a b := by
  unfold cmpI cmpR
  rw [show decide (a.num * (b.den : Int) < b.num * (a.den : Int)) = decide (a < b) from decide_eq_decide.2 (Rat.lt_iff a b).symm, show decide (b.num * (a.den : Int) < a.num * (b.den : Int)) = decide (b < a) from decide_eq_decide.2 (Rat.lt_iff b a).symm]
theorem cmpR_zero (a : Rat) : cmpI a.num 0 = cmpR a 0 := by
  rw [← cmpR_num]
  simp
def red_sp : Spec := { keep := false, run := fun _ args k => match args with
  | [.d (.st (.pair .bool (.sl (.int .u32)))) x, .d (.st (.pair .bool (.sl (.int .u32)))) y] => match decide (redP x y) with
    | true => k [RV.d (.st (.pair (.st (.pair .bool (.sl (.int .u32)))) (.st (.pair .bool (.sl (.int .u32)))))) (redR x y)]
    | false => none
  | _ => none }
theorem red_spec : callable Tryz.prog 69 = true ∧ SpecOk Tryz.prog 69 red_sp ∧ ∀ g, red_sp.mut_ = some g → MCon Tryz.prog 69 g := by
  refine ⟨by kernel_rfl, fun R args k r h => ?_, fun g h => by simp [red_sp] at h⟩
  unfold red_sp at h
  dsimp only at h
  split at h <;> try (cases h; done)
  split at h <;> try (cases h; done)
  rename_i hd
  exact ⟨_, h, red_con _ _ (of_decide_eq_true hd)⟩

def cmp_nt : NT := [((53, 3), { keep := [0, 1, 8], hl := 0 }), ((53, 5), { keep := [0, 1, 5, 10], hl := 0 })]
noncomputable def cmp_C : Ctx := ⟨Tryz.prog, ft, tys, [], cmp_nt⟩
def cmp_t (_k : Nat → Cfg → Option (List RV)) (x : Int) (y : Int) : Option (List RV) := match x != x with | true => (match y != y with | true => some [RV.d (.int .i64) 0] | false => some [RV.d (.int .i64) (-1)]) | false => (match y != y with | true => some [RV.d (.int .i64) 1] | false => (match decide (x < y) with | true => some [RV.d (.int .i64) (-1)] | false => (match decide (x > y) with | true => some [RV.d (.int .i64) 1] | false => some [RV.d (.int .i64) 0])))
theorem cmp_eq (k : Nat → Cfg → Option (List RV)) (x : Int) (y : Int) : go Tryz.prog ft tys [] cmp_nt k 4000 (start 53 [SI x, SI y]) (.node 0) = cmp_t k x y := (go2_eq _ _ _ _ _ _ _ _ _).symm.trans (show go2 Tryz.prog ft tys [] cmp_nt k 4000 (start 53 [SI x, SI y]) (.node 0) = cmp_t k x y by kernel_rfl)
theorem cmp_s (x : Int) (y : Int) {rX : List RV} (hX : ∃ nX, cmp_t (cmp_C.k nX) x y = some rX) : cmp_C.Res 53 [SI x, SI y] rX := by
  obtain ⟨nX, hX⟩ := hX
  exact ⟨nX, (cmp_eq _ x y).trans hX⟩
theorem cmp_con (x y : Int) : Con Tryz.prog 53 [.d (.int .i64) x, .d (.int .i64) y] [.d (.int .i64) (cmpI x y)] := by
  refine Ctx.Res.con (C := cmp_C) (ctx_ok (E := []) trivial) (cmp_s _ _ ⟨0, ?_⟩) (fn := Tryz.f53) (by kernel_rfl) (by kernel_rfl)
  unfold cmp_t
  rw [show (x != x) = false by simp, show (y != y) = false by simp]
  dsimp only
  rcases Int.lt_trichotomy x y with h | h | h
  · rw [cmpI_lt h, decide_eq_true h]
  · subst h; rw [cmpI_eq, decide_eq_false (show ¬ x < x by omega)]
  · rw [cmpI_gt h, decide_eq_false (show ¬ x < y by omega), decide_eq_true (show x > y from h)]
def cmp_sp : Spec := { keep := true, run := fun _ args k => match args with
  | [.d (.int .i64) x, .d (.int .i64) y] => k [RV.d (.int .i64) (cmpI x y)]
  | _ => none }
theorem cmp_spec : callable Tryz.prog 53 = true ∧ SpecOk Tryz.prog 53 cmp_sp ∧ ∀ g, cmp_sp.mut_ = some g → MCon Tryz.prog 53 g := by
  refine ⟨by kernel_rfl, fun R args k r h => ?_, fun g h => by simp [cmp_sp] at h⟩
  unfold cmp_sp at h
  dsimp only at h
  split at h <;> try (cases h; done)
  exact ⟨_, h, cmp_con _ _ ⟩

def envBg9 : Env := [(60, fri_sp), (79, isg_sp), (55, icm_sp), (144, iad_sp), (97, ing_sp), (56, imu_sp), (88, unt_sp), (69, red_sp), (53, cmp_sp)]
theorem envBg9_ok : EnvAll Tryz.prog envBg9 := ⟨fri_spec, isg_spec, icm_spec, iad_spec, ing_spec, imu_spec, unt_spec, red_spec, cmp_spec, trivial⟩
def who_nt : NT := []
noncomputable def who_C : Ctx := ⟨Tryz.prog, ft, tys, envBg9, who_nt⟩
def who_t (_k : Nat → Cfg → Option (List RV)) (x : Bool × List Int) : Option (List RV) := some [RV.d (.st (.pair (.st (.pair .bool (.sl (.int .u32)))) (.st (.pair .bool (.sl (.int .u32)))))) (x, (encI 1))]
theorem who_eq (k : Nat → Cfg → Option (List RV)) (x : Bool × List Int) : go Tryz.prog ft tys envBg9 who_nt k 4000 (start 59 [.d (.st (.pair .bool (.sl (.int .u32)))) x]) (.node 0) = who_t k x := (go2_eq _ _ _ _ _ _ _ _ _).symm.trans (show go2 Tryz.prog ft tys envBg9 who_nt k 4000 (start 59 [.d (.st (.pair .bool (.sl (.int .u32)))) x]) (.node 0) = who_t k x by kernel_rfl)
theorem who_s (x : Bool × List Int) {rX : List RV} (hX : ∃ nX, who_t (who_C.k nX) x = some rX) : who_C.Res 59 [.d (.st (.pair .bool (.sl (.int .u32)))) x] rX := by
  obtain ⟨nX, hX⟩ := hX
  exact ⟨nX, (who_eq _ x).trans hX⟩
theorem who_con (x : BI) : Con Tryz.prog 59 [.d (.st (.pair .bool (.sl (.int .u32)))) x] [.d (.st (.pair (.st (.pair .bool (.sl (.int .u32)))) (.st (.pair .bool (.sl (.int .u32)))))) (x, encI 1)] :=
  Ctx.Res.con (C := who_C) (ctx_ok envBg9_ok) (who_s _ ⟨0, rfl⟩) (fn := Tryz.f59) (by kernel_rfl) (by kernel_rfl)
def who_sp : Spec := { keep := false, run := fun _ args k => match args with
  | [.d (.st (.pair .bool (.sl (.int .u32)))) x] => k [RV.d (.st (.pair (.st (.pair .bool (.sl (.int .u32)))) (.st (.pair .bool (.sl (.int .u32)))))) (x, encI 1)]
  | _ => none }
theorem who_spec : callable Tryz.prog 59 = true ∧ SpecOk Tryz.prog 59 who_sp ∧ ∀ g, who_sp.mut_ = some g → MCon Tryz.prog 59 g := by
  refine ⟨by kernel_rfl, fun R args k r h => ?_, fun g h => by simp [who_sp] at h⟩
  unfold who_sp at h
  dsimp only at h
  split at h <;> try (cases h; done)
  exact ⟨_, h, who_con _ ⟩

def rsg_nt : NT := []
noncomputable def rsg_C : Ctx := ⟨Tryz.prog, ft, tys, envBg9, rsg_nt⟩
def rsg_t (_k : Nat → Cfg → Option (List RV)) (a : (Bool × List Int) × Bool × List Int) : Option (List RV) := match decide (okI a.1) with | true => some [RV.d (.int .i64) (cmpI (decI a.1) 0)] | false => none
theorem rsg_eq (k : Nat → Cfg → Option (List RV)) (a : (Bool × List Int) × Bool × List Int) : go Tryz.prog ft tys envBg9 rsg_nt k 4000 (start 54 [.d (.st (.pair (.st (.pair .bool (.sl (.int .u32)))) (.st (.pair .bool (.sl (.int .u32)))))) a]) (.node 0) = rsg_t k a := (go2_eq _ _ _ _ _ _ _ _ _).symm.trans (show go2 Tryz.prog ft tys envBg9 rsg_nt k 4000 (start 54 [.d (.st (.pair (.st (.pair .bool (.sl (.int .u32)))) (.st (.pair .bool (.sl (.int .u32)))))) a]) (.node 0) = rsg_t k a by kernel_rfl)
theorem rsg_s (a : (Bool × List Int) × Bool × List Int) {rX : List RV} (hX : ∃ nX, rsg_t (rsg_C.k nX) a = some rX) : rsg_C.Res 54 [.d (.st (.pair (.st (.pair .bool (.sl (.int .u32)))) (.st (.pair .bool (.sl (.int .u32)))))) a] rX := by
  obtain ⟨nX, hX⟩ := hX
  exact ⟨nX, (rsg_eq _ a).trans hX⟩
theorem rsg_con (a : BR) (h : okR a) : Con Tryz.prog 54 [.d (.st (.pair (.st (.pair .bool (.sl (.int .u32)))) (.st (.pair .bool (.sl (.int .u32)))))) a] [.d (.int .i64) (cmpR (decR a) 0)] := by
  refine Ctx.Res.con (C := rsg_C) (ctx_ok envBg9_ok) (rsg_s _ ⟨0, ?_⟩) (fn := Tryz.f54) (by kernel_rfl) (by kernel_rfl)
  unfold rsg_t
  rw [decide_eq_true h.1, ← cmpR_zero, (okR_num h).1]
def rsg_sp : Spec := { keep := true, run := fun _ args k => match args with
  | [.d (.st (.pair (.st (.pair .bool (.sl (.int .u32)))) (.st (.pair .bool (.sl (.int .u32)))))) a] => match decide (okR a) with
    | true => k [RV.d (.int .i64) (cmpR (decR a) 0)]
    | false => none
  | _ => none }
theorem rsg_spec : callable Tryz.prog 54 = true ∧ SpecOk Tryz.prog 54 rsg_sp ∧ ∀ g, rsg_sp.mut_ = some g → MCon Tryz.prog 54 g := by
  refine ⟨by kernel_rfl, fun R args k r h => ?_, fun g h => by simp [rsg_sp] at h⟩
  unfold rsg_sp at h
  dsimp only at h
  split at h <;> try (cases h; done)
  split at h <;> try (cases h; done)
  rename_i hd
  exact ⟨_, h, rsg_con _ (of_decide_eq_true hd)⟩

def envBg10 : Env := [(60, fri_sp), (79, isg_sp), (55, icm_sp), (144, iad_sp), (97, ing_sp), (56, imu_sp), (88, unt_sp), (69, red_sp), (53, cmp_sp), (59, who_sp), (54, rsg_sp)]
theorem envBg10_ok : EnvAll Tryz.prog envBg10 := ⟨fri_spec, isg_spec, icm_spec, iad_spec, ing_spec, imu_spec, unt_spec, red_spec, cmp_spec, who_spec, rsg_spec, trivial⟩
def rfi_nt : NT := []
noncomputable def rfi_C : Ctx := ⟨Tryz.prog, ft, tys, envBg10, rfi_nt⟩
def rfi_t (_k : Nat → Cfg → Option (List RV)) (n : Int) : Option (List RV) := match decide (i64P n) with | true => some [RV.d (.st (.pair (.st (.pair .bool (.sl (.int .u32)))) (.st (.pair .bool (.sl (.int .u32)))))) ((encI n), (encI 1))] | false => none
theorem rfi_eq (k : Nat → Cfg → Option (List RV)) (n : Int) : go Tryz.prog ft tys envBg10 rfi_nt k 4000 (start 28 [SI n]) (.node 0) = rfi_t k n := (go2_eq _ _ _ _ _ _ _ _ _).symm.trans (show go2 Tryz.prog ft tys envBg10 rfi_nt k 4000 (start 28 [SI n]) (.node 0) = rfi_t k n by kernel_rfl)
theorem rfi_s (n : Int) {rX : List RV} (hX : ∃ nX, rfi_t (rfi_C.k nX) n = some rX) : rfi_C.Res 28 [SI n] rX := by
  obtain ⟨nX, hX⟩ := hX
  exact ⟨nX, (rfi_eq _ n).trans hX⟩
def rcm_nt : NT := []
noncomputable def rcm_C : Ctx := ⟨Tryz.prog, ft, tys, envBg10, rcm_nt⟩
def rcm_t (_k : Nat → Cfg → Option (List RV)) (a : (Bool × List Int) × Bool × List Int) (b : (Bool × List Int) × Bool × List Int) : Option (List RV) := match decide (okR a) with | true => (match decide (okR b) with | true => (match (cmpI (cmpR (decR a) 0) (cmpR (decR b) 0)) != 0 with | true => some [RV.d (.int .i64) (cmpI (cmpR (decR a) 0) (cmpR (decR b) 0))] | false => (match decide (okI a.1 ∧ okI b.2) with | true => (match decide (okI b.1 ∧ okI a.2) with | true => (match decide (okI (encI (decI a.1 * decI b.2)) ∧ okI (encI (decI b.1 * decI a.2))) with | true => some [RV.d (.int .i64) (cmpI (decI (encI (decI a.1 * decI b.2))) (decI (encI (decI b.1 * decI a.2))))] | false => none) | false => none) | false => none)) | false => none) | false => none
theorem rcm_eq (k : Nat → Cfg → Option (List RV)) (a : (Bool × List Int) × Bool × List Int) (b : (Bool × List Int) × Bool × List Int) : go Tryz.prog ft tys envBg10 rcm_nt k 4000 (start 25 [.d (.st (.pair (.st (.pair .bool (.sl (.int .u32)))) (.st (.pair .bool (.sl (.int .u32)))))) a, .d (.st (.pair (.st (.pair .bool (.sl (.int .u32)))) (.st (.pair .bool (.sl (.int .u32)))))) b]) (.node 0) = rcm_t k a b := (go2_eq _ _ _ _ _ _ _ _ _).symm.trans (show go2 Tryz.prog ft tys envBg10 rcm_nt k 4000 (start 25 [.d (.st (.pair (.st (.pair .bool (.sl (.int .u32)))) (.st (.pair .bool (.sl (.int .u32)))))) a, .d (.st (.pair (.st (.pair .bool (.sl (.int .u32)))) (.st (.pair .bool (.sl (.int .u32)))))) b]) (.node 0) = rcm_t k a b by kernel_rfl)
theorem rcm_s (a : (Bool × List Int) × Bool × List Int) (b : (Bool × List Int) × Bool × List Int) {rX : List RV} (hX : ∃ nX, rcm_t (rcm_C.k nX) a b = some rX) : rcm_C.Res 25 [.d (.st (.pair (.st (.pair .bool (.sl (.int .u32)))) (.st (.pair .bool (.sl (.int .u32)))))) a, .d (.st (.pair (.st (.pair .bool (.sl (.int .u32)))) (.st (.pair .bool (.sl (.int .u32)))))) b] rX := by
  obtain ⟨nX, hX⟩ := hX
  exact ⟨nX, (rcm_eq _ a b).trans hX⟩
def rad_nt : NT := []
noncomputable def rad_C : Ctx := ⟨Tryz.prog, ft, tys, envBg10, rad_nt⟩
def rad_t (_k : Nat → Cfg → Option (List RV)) (a : (Bool × List Int) × Bool × List Int) (b : (Bool × List Int) × Bool × List Int) : Option (List RV) := match decide (okI a.2 ∧ okI b.2) with | true => (match (cmpI (decI a.2) (decI b.2)) == 0 with | true => (match decide (okI a.1 ∧ okI b.1) with | true => (match decide (redP (encI (decI a.1 + decI b.1)) a.2) with | true => some [RV.d (.st (.pair (.st (.pair .bool (.sl (.int .u32)))) (.st (.pair .bool (.sl (.int .u32)))))) (((redR (encI (decI a.1 + decI b.1)) a.2).1), ((redR (encI (decI a.1 + decI b.1)) a.2).2))] | false => none) | false => none) | false => (match decide (okI a.1 ∧ okI b.2) with | true => (match decide (okI b.1 ∧ okI a.2) with | true => (match decide (okI (encI (decI a.1 * decI b.2)) ∧ okI (encI (decI b.1 * decI a.2))) with | true => (match decide (okI a.2 ∧ okI b.2) with | true => (match decide (redP (encI (decI (encI (decI a.1 * decI b.2)) + decI (encI (decI b.1 * decI a.2)))) (encI (decI a.2 * decI b.2))) with | true => some [RV.d (.st (.pair (.st (.pair .bool (.sl (.int .u32)))) (.st (.pair .bool (.sl (.int .u32)))))) (((redR (encI (decI (encI (decI a.1 * decI b.2)) + decI (encI (decI b.1 * decI a.2)))) (encI (decI a.2 * decI b.2))).1), ((redR (encI (decI (encI (decI a.1 * decI b.2)) + decI (encI (decI b.1 * decI a.2)))) (encI (decI a.2 * decI b.2))).2))] | false => none) | false => none) | false => none) | false => none) | false => none)) | false => none
theorem rad_eq (k : Nat → Cfg → Option (List RV)) (a : (Bool × List Int) × Bool × List Int) (b : (Bool × List Int) × Bool × List Int) : go Tryz.prog ft tys envBg10 rad_nt k 4000 (start 146 [.d (.st (.pair (.st (.pair .bool (.sl (.int .u32)))) (.st (.pair .bool (.sl (.int .u32)))))) a, .d (.st (.pair (.st (.pair .bool (.sl (.int .u32)))) (.st (.pair .bool (.sl (.int .u32)))))) b]) (.node 0) = rad_t k a b := (go2_eq _ _ _ _ _ _ _ _ _).symm.trans (show go2 Tryz.prog ft tys envBg10 rad_nt k 4000 (start 146 [.d (.st (.pair (.st (.pair .bool (.sl (.int .u32)))) (.st (.pair .bool (.sl (.int .u32)))))) a, .d (.st (.pair (.st (.pair .bool (.sl (.int .u32)))) (.st (.pair .bool (.sl (.int .u32)))))) b]) (.node 0) = rad_t k a b by kernel_rfl)
theorem rad_s (a : (Bool × List Int) × Bool × List Int) (b : (Bool × List Int) × Bool × List Int) {rX : List RV} (hX : ∃ nX, rad_t (rad_C.k nX) a b = some rX) : rad_C.Res 146 [.d (.st (.pair (.st (.pair .bool (.sl (.int .u32)))) (.st (.pair .bool (.sl (.int .u32)))))) a, .d (.st (.pair (.st (.pair .bool (.sl (.int .u32)))) (.st (.pair .bool (.sl (.int .u32)))))) b] rX := by
  obtain ⟨nX, hX⟩ := hX
  exact ⟨nX, (rad_eq _ a b).trans hX⟩
def rng_nt : NT := []
noncomputable def rng_C : Ctx := ⟨Tryz.prog, ft, tys, envBg10, rng_nt⟩
def rng_t (_k : Nat → Cfg → Option (List RV)) (a : (Bool × List Int) × Bool × List Int) : Option (List RV) := match decide (okI a.1) with | true => some [RV.d (.st (.pair (.st (.pair .bool (.sl (.int .u32)))) (.st (.pair .bool (.sl (.int .u32)))))) ((encI (-decI a.1)), a.2)] | false => none
theorem rng_eq (k : Nat → Cfg → Option (List RV)) (a : (Bool × List Int) × Bool × List Int) : go Tryz.prog ft tys envBg10 rng_nt k 4000 (start 160 [.d (.st (.pair (.st (.pair .bool (.sl (.int .u32)))) (.st (.pair .bool (.sl (.int .u32)))))) a]) (.node 0) = rng_t k a := (go2_eq _ _ _ _ _ _ _ _ _).symm.trans (show go2 Tryz.prog ft tys envBg10 rng_nt k 4000 (start 160 [.d (.st (.pair (.st (.pair .bool (.sl (.int .u32)))) (.st (.pair .bool (.sl (.int .u32)))))) a]) (.node 0) = rng_t k a by kernel_rfl)
theorem rng_s (a : (Bool × List Int) × Bool × List Int) {rX : List RV} (hX : ∃ nX, rng_t (rng_C.k nX) a = some rX) : rng_C.Res 160 [.d (.st (.pair (.st (.pair .bool (.sl (.int .u32)))) (.st (.pair .bool (.sl (.int .u32)))))) a] rX := by
  obtain ⟨nX, hX⟩ := hX
  exact ⟨nX, (rng_eq _ a).trans hX⟩
def rmu_nt : NT := []
noncomputable def rmu_C : Ctx := ⟨Tryz.prog, ft, tys, envBg10, rmu_nt⟩
def rmu_t (_k : Nat → Cfg → Option (List RV)) (a : (Bool × List Int) × Bool × List Int) (b : (Bool × List Int) × Bool × List Int) : Option (List RV) := match decide (okI a.1 ∧ okI b.1) with | true => (match decide (okI a.2 ∧ okI b.2) with | true => (match decide (redP (encI (decI a.1 * decI b.1)) (encI (decI a.2 * decI b.2))) with | true => some [RV.d (.st (.pair (.st (.pair .bool (.sl (.int .u32)))) (.st (.pair .bool (.sl (.int .u32)))))) (((redR (encI (decI a.1 * decI b.1)) (encI (decI a.2 * decI b.2))).1), ((redR (encI (decI a.1 * decI b.1)) (encI (decI a.2 * decI b.2))).2))] | false => none) | false => none) | false => none
theorem rmu_eq (k : Nat → Cfg → Option (List RV)) (a : (Bool × List Int) × Bool × List Int) (b : (Bool × List Int) × Bool × List Int) : go Tryz.prog ft tys envBg10 rmu_nt k 4000 (start 39 [.d (.st (.pair (.st (.pair .bool (.sl (.int .u32)))) (.st (.pair .bool (.sl (.int .u32)))))) a, .d (.st (.pair (.st (.pair .bool (.sl (.int .u32)))) (.st (.pair .bool (.sl (.int .u32)))))) b]) (.node 0) = rmu_t k a b := (go2_eq _ _ _ _ _ _ _ _ _).symm.trans (show go2 Tryz.prog ft tys envBg10 rmu_nt k 4000 (start 39 [.d (.st (.pair (.st (.pair .bool (.sl (.int .u32)))) (.st (.pair .bool (.sl (.int .u32)))))) a, .d (.st (.pair (.st (.pair .bool (.sl (.int .u32)))) (.st (.pair .bool (.sl (.int .u32)))))) b]) (.node 0) = rmu_t k a b by kernel_rfl)
theorem rmu_s (a : (Bool × List Int) × Bool × List Int) (b : (Bool × List Int) × Bool × List Int) {rX : List RV} (hX : ∃ nX, rmu_t (rmu_C.k nX) a b = some rX) : rmu_C.Res 39 [.d (.st (.pair (.st (.pair .bool (.sl (.int .u32)))) (.st (.pair .bool (.sl (.int .u32)))))) a, .d (.st (.pair (.st (.pair .bool (.sl (.int .u32)))) (.st (.pair .bool (.sl (.int .u32)))))) b] rX := by
  obtain ⟨nX, hX⟩ := hX
  exact ⟨nX, (rmu_eq _ a b).trans hX⟩
def rdi_nt : NT := []
noncomputable def rdi_C : Ctx := ⟨Tryz.prog, ft, tys, envBg10, rdi_nt⟩
def rdi_t (_k : Nat → Cfg → Option (List RV)) (a : (Bool × List Int) × Bool × List Int) (b : (Bool × List Int) × Bool × List Int) : Option (List RV) := match decide (okR b) with | true => (match (cmpR (decR b) 0) == 0 with | true => some [RV.d (.st (.pair (.st (.pair .bool (.sl (.int .u32)))) (.st (.pair .bool (.sl (.int .u32)))))) ((false, []), (false, [])), RV.d (.int .i64) 6] | false => (match decide (okI a.1 ∧ okI b.2) with | true => (match decide (okI a.2 ∧ okI b.1) with | true => (match decide (redP (encI (decI a.1 * decI b.2)) (encI (decI a.2 * decI b.1))) with | true => some [RV.d (.st (.pair (.st (.pair .bool (.sl (.int .u32)))) (.st (.pair .bool (.sl (.int .u32)))))) (((redR (encI (decI a.1 * decI b.2)) (encI (decI a.2 * decI b.1))).1), ((redR (encI (decI a.1 * decI b.2)) (encI (decI a.2 * decI b.1))).2)), RV.d (.int .i64) 0] | false => none) | false => none) | false => none)) | false => none
theorem rdi_eq (k : Nat → Cfg → Option (List RV)) (a : (Bool × List Int) × Bool × List Int) (b : (Bool × List Int) × Bool × List Int) : go Tryz.prog ft tys envBg10 rdi_nt k 4000 (start 123 [.d (.st (.pair (.st (.pair .bool (.sl (.int .u32)))) (.st (.pair .bool (.sl (.int .u32)))))) a, .d (.st (.pair (.st (.pair .bool (.sl (.int .u32)))) (.st (.pair .bool (.sl (.int .u32)))))) b]) (.node 0) = rdi_t k a b := (go2_eq _ _ _ _ _ _ _ _ _).symm.trans (show go2 Tryz.prog ft tys envBg10 rdi_nt k 4000 (start 123 [.d (.st (.pair (.st (.pair .bool (.sl (.int .u32)))) (.st (.pair .bool (.sl (.int .u32)))))) a, .d (.st (.pair (.st (.pair .bool (.sl (.int .u32)))) (.st (.pair .bool (.sl (.int .u32)))))) b]) (.node 0) = rdi_t k a b by kernel_rfl)
theorem rdi_s (a : (Bool × List Int) × Bool × List Int) (b : (Bool × List Int) × Bool × List Int) {rX : List RV} (hX : ∃ nX, rdi_t (rdi_C.k nX) a b = some rX) : rdi_C.Res 123 [.d (.st (.pair (.st (.pair .bool (.sl (.int .u32)))) (.st (.pair .bool (.sl (.int .u32)))))) a, .d (.st (.pair (.st (.pair .bool (.sl (.int .u32)))) (.st (.pair .bool (.sl (.int .u32)))))) b] rX := by
  obtain ⟨nX, hX⟩ := hX
  exact ⟨nX, (rdi_eq _ a b).trans hX⟩
theorem rfi_con (n : Int) (h : i64P n) : Con Tryz.prog 28 [.d (.int .i64) n] [.d (.st (.pair (.st (.pair .bool (.sl (.int .u32)))) (.st (.pair .bool (.sl (.int .u32)))))) (encR (n : Rat))] := by
  refine Ctx.Res.con (C := rfi_C) (ctx_ok envBg10_ok) (rfi_s _ ⟨0, ?_⟩) (fn := Tryz.f28) (by kernel_rfl) (by kernel_rfl)
  unfold rfi_t encR
  rw [decide_eq_true h, Rat.num_intCast, Rat.den_intCast]
  rfl
theorem okR_sz {a : BR} (h : okR a) : szI (decI a.1) ≤ 100000 ∧ szI (decI a.2) ≤ 100000 := by
  have h1 := okR_bd h
  obtain ⟨e1, e2⟩ := okR_num h
  unfold bdR at h1
  rw [e1, e2] at h1
  exact h1
theorem cmp_signs (a b : Rat) : (cmpI (cmpR a 0) (cmpR b 0) ≠ 0 → cmpI (cmpR a 0) (cmpR b 0) = cmpR a b) := by
  rcases (by grind : a < 0 ∨ a = 0 ∨ 0 < a) with h1 | h1 | h1 <;> rcases (by grind : b < 0 ∨ b = 0 ∨ 0 < b) with h2 | h2 | h2
  · rw [cmpR_lt h1, cmpR_lt h2]; intro h; exact absurd (cmpI_eq _) h
  · rw [cmpR_lt h1, h2, cmpR_eq, cmpR_lt h1]; intro; rfl
  · rw [cmpR_lt h1, cmpR_gt h2, cmpR_lt (by grind)]; intro; rfl
  · rw [h1, cmpR_eq, cmpR_lt h2, cmpR_gt h2]; intro; rfl
  · rw [h1, h2, cmpR_eq]; intro h; exact absurd (cmpI_eq _) h
  · rw [h1, cmpR_eq, cmpR_gt h2, cmpR_lt h2]; intro; rfl
  · rw [cmpR_gt h1, cmpR_lt h2, cmpR_gt (by grind)]; intro; rfl
  · rw [cmpR_gt h1, h2, cmpR_eq, cmpR_gt h1]; intro; rfl
  · rw [cmpR_gt h1, cmpR_gt h2]; intro h; exact absurd (cmpI_eq _) h
theorem rcm_con (a b : BR) (h : okR a ∧ okR b) : Con Tryz.prog 25 [.d (.st (.pair (.st (.pair .bool (.sl (.int .u32)))) (.st (.pair .bool (.sl (.int .u32)))))) a, .d (.st (.pair (.st (.pair .bool (.sl (.int .u32)))) (.st (.pair .bool (.sl (.int .u32)))))) b] [.d (.int .i64) (cmpR (decR a) (decR b))] := by
  refine Ctx.Res.con (C := rcm_C) (ctx_ok envBg10_ok) (rcm_s _ _ ⟨0, ?_⟩) (fn := Tryz.f25) (by kernel_rfl) (by kernel_rfl)
  obtain ⟨ha, hb⟩ := h
  obtain ⟨a1, a2⟩ := okR_num ha
  obtain ⟨b1, b2⟩ := okR_num hb
  obtain ⟨sa1, sa2⟩ := okR_sz ha
  obtain ⟨sb1, sb2⟩ := okR_sz hb
  have h1 := szI_mul sa1 sb2
  have h2 := szI_mul sb1 sa2
  unfold rcm_t
  rw [decide_eq_true ha, decide_eq_true hb]
  dsimp only
  have hs := cmp_signs (decR a) (decR b)
  by_cases hc : cmpI (cmpR (decR a) 0) (cmpR (decR b) 0) = 0
  · rw [hc, decide_eq_true (show okI a.1 ∧ okI b.2 from ⟨ha.1, hb.2.1⟩), decide_eq_true (show okI b.1 ∧ okI a.2 from ⟨hb.1, ha.2.1⟩), decide_eq_true (show okI (encI (decI a.1 * decI b.2)) ∧ okI (encI (decI b.1 * decI a.2)) from ⟨okI_enc (by omega), okI_enc (by omega)⟩), dec_enc, dec_enc, ← a1, ← a2, ← b1, ← b2, cmpR_num]
    rfl
  · rw [show (cmpI (cmpR (decR a) 0) (cmpR (decR b) 0) != 0) = true by simpa using hc, hs hc]
theorem rng_con (a : BR) (h : okR a) : Con Tryz.prog 160 [.d (.st (.pair (.st (.pair .bool (.sl (.int .u32)))) (.st (.pair .bool (.sl (.int .u32)))))) a] [.d (.st (.pair (.st (.pair .bool (.sl (.int .u32)))) (.st (.pair .bool (.sl (.int .u32)))))) (encR (-decR a))] := by
  refine Ctx.Res.con (C := rng_C) (ctx_ok envBg10_ok) (rng_s _ ⟨0, ?_⟩) (fn := Tryz.f160) (by kernel_rfl) (by kernel_rfl)
  obtain ⟨a1, a2⟩ := okR_num h
  unfold rng_t
  have e : encR (-decR a) = (encI (-decI a.1), a.2) := by
    unfold encR
    rw [Rat.neg_num, a1, show ((-decR a).den : Int) = ((decR a).den : Int) from rfl, a2, ← okI_eq h.2.1]
  rw [decide_eq_true h.1, e]
theorem rad_con (a b : BR) (h : okR a ∧ okR b) : Con Tryz.prog 146 [.d (.st (.pair (.st (.pair .bool (.sl (.int .u32)))) (.st (.pair .bool (.sl (.int .u32)))))) a, .d (.st (.pair (.st (.pair .bool (.sl (.int .u32)))) (.st (.pair .bool (.sl (.int .u32)))))) b] [.d (.st (.pair (.st (.pair .bool (.sl (.int .u32)))) (.st (.pair .bool (.sl (.int .u32)))))) (encR (decR a + decR b))] := by
  refine Ctx.Res.con (C := rad_C) (ctx_ok envBg10_ok) (rad_s _ _ ⟨0, ?_⟩) (fn := Tryz.f146) (by kernel_rfl) (by kernel_rfl)
  obtain ⟨ha, hb⟩ := h
  obtain ⟨a1, a2⟩ := okR_num ha
  obtain ⟨b1, b2⟩ := okR_num hb
  obtain ⟨sa1, sa2⟩ := okR_sz ha
  obtain ⟨sb1, sb2⟩ := okR_sz hb
  have pa := ha.2.2.1
  have pb := hb.2.2.1
  have h1 := szI_mul sa1 sb2
  have h2 := szI_mul sb1 sa2
  have h3 := szI_mul sa2 sb2
  have h4 := szI_add h1 h2
  have h5 := szI_add sa1 sb1
  have hda : decR a = Rat.divInt (decI a.1) (decI a.2) := by rw [← a1, ← a2, Rat.num_divInt_den]
  have hdb : decR b = Rat.divInt (decI b.1) (decI b.2) := by rw [← b1, ← b2, Rat.num_divInt_den]
  unfold rad_t
  rw [decide_eq_true (show okI a.2 ∧ okI b.2 from ⟨ha.2.1, hb.2.1⟩)]
  dsimp only
  by_cases hc : decI a.2 = decI b.2
  · rw [hc, cmpI_eq, decide_eq_true (show okI a.1 ∧ okI b.1 from ⟨ha.1, hb.1⟩)]
    rw [decide_eq_true (show redP (encI (decI a.1 + decI b.1)) a.2 from ⟨okI_enc (by omega), ha.2.1, by omega⟩)]
    have e : redR (encI (decI a.1 + decI b.1)) a.2 = encR (decR a + decR b) := by
      unfold redR
      rw [dec_enc, hda, hdb, ← hc, Rat.divInt_eq_div, Rat.divInt_eq_div, Rat.divInt_eq_div, Rat.intCast_add]
      congr 1
      grind
    rw [e]
    rfl
  · have hcm : (cmpI (decI a.2) (decI b.2) == 0) = false := by
      rcases Int.lt_or_lt_of_ne hc with h | h
      · rw [cmpI_lt h]; rfl
      · rw [cmpI_gt h]; rfl
    rw [hcm, decide_eq_true (show okI a.1 ∧ okI b.2 from ⟨ha.1, hb.2.1⟩), decide_eq_true (show okI b.1 ∧ okI a.2 from ⟨hb.1, ha.2.1⟩), decide_eq_true (show okI (encI (decI a.1 * decI b.2)) ∧ okI (encI (decI b.1 * decI a.2)) from ⟨okI_enc (by omega), okI_enc (by omega)⟩)]
    simp only [dec_enc]
    rw [decide_eq_true (show redP (encI (decI a.1 * decI b.2 + decI b.1 * decI a.2)) (encI (decI a.2 * decI b.2)) from ⟨okI_enc (by omega), okI_enc (by omega), by rw [dec_enc]; exact Int.mul_ne_zero (by omega) (by omega)⟩)]
    have e : redR (encI (decI a.1 * decI b.2 + decI b.1 * decI a.2)) (encI (decI a.2 * decI b.2)) = encR (decR a + decR b) := by
      unfold redR
      rw [dec_enc, dec_enc, hda, hdb, Rat.divInt_add_divInt _ _ (by omega) (by omega)]
    rw [e]
theorem rmu_con (a b : BR) (h : okR a ∧ okR b) : Con Tryz.prog 39 [.d (.st (.pair (.st (.pair .bool (.sl (.int .u32)))) (.st (.pair .bool (.sl (.int .u32)))))) a, .d (.st (.pair (.st (.pair .bool (.sl (.int .u32)))) (.st (.pair .bool (.sl (.int .u32)))))) b] [.d (.st (.pair (.st (.pair .bool (.sl (.int .u32)))) (.st (.pair .bool (.sl (.int .u32)))))) (encR (decR a * decR b))] := by
  refine Ctx.Res.con (C := rmu_C) (ctx_ok envBg10_ok) (rmu_s _ _ ⟨0, ?_⟩) (fn := Tryz.f39) (by kernel_rfl) (by kernel_rfl)
  obtain ⟨ha, hb⟩ := h
  obtain ⟨a1, a2⟩ := okR_num ha
  obtain ⟨b1, b2⟩ := okR_num hb
  obtain ⟨sa1, sa2⟩ := okR_sz ha
  obtain ⟨sb1, sb2⟩ := okR_sz hb
  have pa := ha.2.2.1
  have pb := hb.2.2.1
  have h1 := szI_mul sa1 sb1
  have h3 := szI_mul sa2 sb2
  have hda : decR a = Rat.divInt (decI a.1) (decI a.2) := by rw [← a1, ← a2, Rat.num_divInt_den]
  have hdb : decR b = Rat.divInt (decI b.1) (decI b.2) := by rw [← b1, ← b2, Rat.num_divInt_den]
  unfold rmu_t
  rw [decide_eq_true (show okI a.1 ∧ okI b.1 from ⟨ha.1, hb.1⟩), decide_eq_true (show okI a.2 ∧ okI b.2 from ⟨ha.2.1, hb.2.1⟩), decide_eq_true (show redP (encI (decI a.1 * decI b.1)) (encI (decI a.2 * decI b.2)) from ⟨okI_enc (by omega), okI_enc (by omega), by rw [dec_enc]; exact Int.mul_ne_zero (by omega) (by omega)⟩)]
  have e : redR (encI (decI a.1 * decI b.1)) (encI (decI a.2 * decI b.2)) = encR (decR a * decR b) := by
    unfold redR
    rw [dec_enc, dec_enc, hda, hdb, Rat.divInt_mul_divInt]
  rw [e]
def rdiP (a b : BR) : Prop := okR a ∧ okR b ∧ decI b.1 ≠ 0
instance (a b : BR) : Decidable (rdiP a b) := by unfold rdiP; infer_instance
theorem rdi_con (a b : BR) (h : rdiP a b) : Con Tryz.prog 123 [.d (.st (.pair (.st (.pair .bool (.sl (.int .u32)))) (.st (.pair .bool (.sl (.int .u32)))))) a, .d (.st (.pair (.st (.pair .bool (.sl (.int .u32)))) (.st (.pair .bool (.sl (.int .u32)))))) b] [.d (.st (.pair (.st (.pair .bool (.sl (.int .u32)))) (.st (.pair .bool (.sl (.int .u32)))))) (encR (decR a / decR b)), .d (.int .i64) 0] := by
  refine Ctx.Res.con (C := rdi_C) (ctx_ok envBg10_ok) (rdi_s _ _ ⟨0, ?_⟩) (fn := Tryz.f123) (by kernel_rfl) (by kernel_rfl)
  obtain ⟨ha, hb, hne⟩ := h
  obtain ⟨a1, a2⟩ := okR_num ha
  obtain ⟨b1, b2⟩ := okR_num hb
  obtain ⟨sa1, sa2⟩ := okR_sz ha
  obtain ⟨sb1, sb2⟩ := okR_sz hb
  have pa := ha.2.2.1
  have h1 := szI_mul sa1 sb2
  have h3 := szI_mul sa2 sb1
  have hda : decR a = Rat.divInt (decI a.1) (decI a.2) := by rw [← a1, ← a2, Rat.num_divInt_den]
  have hdb : decR b = Rat.divInt (decI b.1) (decI b.2) := by rw [← b1, ← b2, Rat.num_divInt_den]
  have hnz : (cmpR (decR b) 0 == 0) = false := by
    rw [← cmpR_zero, b1]
    rcases Int.lt_or_lt_of_ne hne with h | h
    · rw [cmpI_lt h]; rfl
    · rw [cmpI_gt h]; rfl
  unfold rdi_t
  rw [decide_eq_true hb, hnz, decide_eq_true (show okI a.1 ∧ okI b.2 from ⟨ha.1, hb.2.1⟩), decide_eq_true (show okI a.2 ∧ okI b.1 from ⟨ha.2.1, hb.1⟩), decide_eq_true (show redP (encI (decI a.1 * decI b.2)) (encI (decI a.2 * decI b.1)) from ⟨okI_enc (by omega), okI_enc (by omega), by rw [dec_enc]; exact Int.mul_ne_zero (by omega) hne⟩)]
  have e : redR (encI (decI a.1 * decI b.2)) (encI (decI a.2 * decI b.1)) = encR (decR a / decR b) := by
    unfold redR
    rw [dec_enc, dec_enc, hda, hdb, Rat.div_def, Rat.inv_divInt, Rat.divInt_mul_divInt]
  rw [e]
def rad_sp : Spec := { keep := false, run := fun _ args k => match args with
  | [.d (.st (.pair (.st (.pair .bool (.sl (.int .u32)))) (.st (.pair .bool (.sl (.int .u32)))))) a, .d (.st (.pair (.st (.pair .bool (.sl (.int .u32)))) (.st (.pair .bool (.sl (.int .u32)))))) b] => match decide (okR a ∧ okR b) with
    | true => k [RV.d (.st (.pair (.st (.pair .bool (.sl (.int .u32)))) (.st (.pair .bool (.sl (.int .u32)))))) (encR (decR a + decR b))]
    | false => none
  | _ => none }
theorem rad_spec : callable Tryz.prog 146 = true ∧ SpecOk Tryz.prog 146 rad_sp ∧ ∀ g, rad_sp.mut_ = some g → MCon Tryz.prog 146 g := by
  refine ⟨by kernel_rfl, fun R args k r h => ?_, fun g h => by simp [rad_sp] at h⟩
  unfold rad_sp at h
  dsimp only at h
  split at h <;> try (cases h; done)
  split at h <;> try (cases h; done)
  rename_i hd
  exact ⟨_, h, rad_con _ _ (of_decide_eq_true hd)⟩

def rng_sp : Spec := { keep := false, run := fun _ args k => match args with
  | [.d (.st (.pair (.st (.pair .bool (.sl (.int .u32)))) (.st (.pair .bool (.sl (.int .u32)))))) a] => match decide (okR a) with
    | true => k [RV.d (.st (.pair (.st (.pair .bool (.sl (.int .u32)))) (.st (.pair .bool (.sl (.int .u32)))))) (encR (-decR a))]
    | false => none
  | _ => none }
theorem rng_spec : callable Tryz.prog 160 = true ∧ SpecOk Tryz.prog 160 rng_sp ∧ ∀ g, rng_sp.mut_ = some g → MCon Tryz.prog 160 g := by
  refine ⟨by kernel_rfl, fun R args k r h => ?_, fun g h => by simp [rng_sp] at h⟩
  unfold rng_sp at h
  dsimp only at h
  split at h <;> try (cases h; done)
  split at h <;> try (cases h; done)
  rename_i hd
  exact ⟨_, h, rng_con _ (of_decide_eq_true hd)⟩

def envBg11 : Env := [(60, fri_sp), (79, isg_sp), (55, icm_sp), (144, iad_sp), (97, ing_sp), (56, imu_sp), (88, unt_sp), (69, red_sp), (53, cmp_sp), (59, who_sp), (54, rsg_sp), (146, rad_sp), (160, rng_sp)]
theorem envBg11_ok : EnvAll Tryz.prog envBg11 := ⟨fri_spec, isg_spec, icm_spec, iad_spec, ing_spec, imu_spec, unt_spec, red_spec, cmp_spec, who_spec, rsg_spec, rad_spec, rng_spec, trivial⟩
def rsu_nt : NT := []
noncomputable def rsu_C : Ctx := ⟨Tryz.prog, ft, tys, envBg11, rsu_nt⟩
def rsu_t (_k : Nat → Cfg → Option (List RV)) (a : (Bool × List Int) × Bool × List Int) (b : (Bool × List Int) × Bool × List Int) : Option (List RV) := match decide (okR b) with | true => (match decide (okR a ∧ okR (encR (-decR b))) with | true => some [RV.d (.st (.pair (.st (.pair .bool (.sl (.int .u32)))) (.st (.pair .bool (.sl (.int .u32)))))) (((encR (decR a + decR (encR (-decR b)))).1), ((encR (decR a + decR (encR (-decR b)))).2))] | false => none) | false => none
theorem rsu_eq (k : Nat → Cfg → Option (List RV)) (a : (Bool × List Int) × Bool × List Int) (b : (Bool × List Int) × Bool × List Int) : go Tryz.prog ft tys envBg11 rsu_nt k 4000 (start 145 [.d (.st (.pair (.st (.pair .bool (.sl (.int .u32)))) (.st (.pair .bool (.sl (.int .u32)))))) a, .d (.st (.pair (.st (.pair .bool (.sl (.int .u32)))) (.st (.pair .bool (.sl (.int .u32)))))) b]) (.node 0) = rsu_t k a b := (go2_eq _ _ _ _ _ _ _ _ _).symm.trans (show go2 Tryz.prog ft tys envBg11 rsu_nt k 4000 (start 145 [.d (.st (.pair (.st (.pair .bool (.sl (.int .u32)))) (.st (.pair .bool (.sl (.int .u32)))))) a, .d (.st (.pair (.st (.pair .bool (.sl (.int .u32)))) (.st (.pair .bool (.sl (.int .u32)))))) b]) (.node 0) = rsu_t k a b by kernel_rfl)
theorem rsu_s (a : (Bool × List Int) × Bool × List Int) (b : (Bool × List Int) × Bool × List Int) {rX : List RV} (hX : ∃ nX, rsu_t (rsu_C.k nX) a b = some rX) : rsu_C.Res 145 [.d (.st (.pair (.st (.pair .bool (.sl (.int .u32)))) (.st (.pair .bool (.sl (.int .u32)))))) a, .d (.st (.pair (.st (.pair .bool (.sl (.int .u32)))) (.st (.pair .bool (.sl (.int .u32)))))) b] rX := by
  obtain ⟨nX, hX⟩ := hX
  exact ⟨nX, (rsu_eq _ a b).trans hX⟩
theorem rsu_con (a b : BR) (h : okR a ∧ okR b) : Con Tryz.prog 145 [.d (.st (.pair (.st (.pair .bool (.sl (.int .u32)))) (.st (.pair .bool (.sl (.int .u32)))))) a, .d (.st (.pair (.st (.pair .bool (.sl (.int .u32)))) (.st (.pair .bool (.sl (.int .u32)))))) b] [.d (.st (.pair (.st (.pair .bool (.sl (.int .u32)))) (.st (.pair .bool (.sl (.int .u32)))))) (encR (decR a - decR b))] := by
  refine Ctx.Res.con (C := rsu_C) (ctx_ok envBg11_ok) (rsu_s _ _ ⟨0, ?_⟩) (fn := Tryz.f145) (by kernel_rfl) (by kernel_rfl)
  obtain ⟨ha, hb⟩ := h
  unfold rsu_t
  rw [decide_eq_true hb, dec_encR, Rat.sub_eq_add_neg, decide_eq_true (show okR a ∧ okR (encR (-decR b)) from ⟨ha, okR_enc (bdR_neg (okR_bd hb)) (Nat.le_refl _)⟩)]
end Go.Proofs.YtcaiedfkohigjaaGreat
/- integer: Sqrt, Int64. -/
namespace Go.Proofs.YtcaiedfkohigjaaGreat
open Go.RowKit
/-- The square root, rounded down, with fuel. -/
def isqF : Nat → Nat → Nat
  | 0, _ => 0
  | f + 1, n => bif decide (n = 0) then 0 else bif decide ((2 * isqF f (n / 4) + 1) * (2 * isqF f (n / 4) + 1) ≤ n) then 2 * isqF f (n / 4) + 1 else 2 * isqF f (n / 4)
def isqN (n : Nat) : Nat := isqF (n.log2 + 1) n
theorem isqF_ok : ∀ (f n : Nat), n < 2 ^ f → isqF f n * isqF f n ≤ n ∧ n < (isqF f n + 1) * (isqF f n + 1)
  | 0, n, h => by
    have : n = 0 := by simpa using h
    subst this
    exact ⟨Nat.le_refl _, by decide⟩
  | f + 1, n, h => by
    rcases Nat.eq_zero_or_pos n with h0 | h0
    · subst h0
      show isqF (f + 1) 0 * isqF (f + 1) 0 ≤ 0 ∧ _
      exact ⟨Nat.le_refl _, by show 0 < (0 + 1) * (0 + 1); decide⟩
    · have h4 : n / 4 < 2 ^ f := by
        rw [Nat.pow_succ] at h
        omega
      obtain ⟨h1, h2⟩ := isqF_ok f (n / 4) h4
      simp only [isqF]
      rw [decide_eq_false (show ¬ n = 0 by omega)]
      generalize isqF f (n / 4) = s at h1 h2
      have e1 : (2 * s) * (2 * s) = 4 * (s * s) := by grind
      have e2 : (2 * s + 1 + 1) * (2 * s + 1 + 1) = 4 * ((s + 1) * (s + 1)) := by grind
      by_cases hc : (2 * s + 1) * (2 * s + 1) ≤ n
      · rw [decide_eq_true hc]
        exact ⟨hc, by show n < (2 * s + 1 + 1) * (2 * s + 1 + 1); rw [e2]; omega⟩
      · rw [decide_eq_false hc]
        exact ⟨by show (2 * s) * (2 * s) ≤ n; rw [e1]; omega, by show n < (2 * s + 1) * (2 * s + 1); omega⟩
theorem isqN_ok (n : Nat) : isqN n * isqN n ≤ n ∧ n < (isqN n + 1) * (isqN n + 1) := isqF_ok _ n Nat.lt_log2_self
/-- The square root of an integer that is not negative. -/
def isqI (z : Int) : Int := (isqN z.toNat : Int)
theorem isqI_ok {z : Int} (h : 0 ≤ z) : 0 ≤ isqI z ∧ isqI z * isqI z ≤ z ∧ z < (isqI z + 1) * (isqI z + 1) := by
  obtain ⟨h1, h2⟩ := isqN_ok z.toNat
  unfold isqI
  have h3 : ((isqN z.toNat * isqN z.toNat : Nat) : Int) ≤ (z.toNat : Int) := by omega
  have h4 : (z.toNat : Int) < (((isqN z.toNat + 1) * (isqN z.toNat + 1) : Nat) : Int) := by omega
  rw [Int.natCast_mul] at h3 h4
  exact ⟨by omega, by omega, by simp only [Int.natCast_add, Int.natCast_one] at h4; omega⟩
theorem sq_mono {a b : Int} (ha : 0 ≤ a) (h : a ≤ b) : a * a ≤ b * b := Int.mul_le_mul h h ha (by omega)
theorem sq_lt {a b : Int} (hb : 0 ≤ b) (h : a * a < b * b) : a < b := by
  apply Classical.byContradiction
  intro hc
  have := sq_mono hb (show b ≤ a by omega)
  omega
theorem isqI_eq {z s : Int} (h0 : 0 ≤ s) (h1 : s * s ≤ z) (h2 : z < (s + 1) * (s + 1)) : isqI z = s := by
  obtain ⟨g0, g1, g2⟩ := isqI_ok (show 0 ≤ z by have := sq_mono (a := 0) (by omega) h0; omega)
  have a1 := sq_lt (b := s + 1) (a := isqI z) (by omega) (by omega)
  have a2 := sq_lt (b := isqI z + 1) (a := s) (by omega) (by omega)
  omega
/-- A step of Newton's method. -/
theorem newton {a x s : Int} (hx : 0 < x) (_hs : 0 ≤ s) (h1 : s * s ≤ a) : s ≤ (x + a / x) / 2 := by
  have hq := Int.mul_ediv_add_emod a x
  have hm := Int.emod_lt_of_pos a hx
  apply Classical.byContradiction
  intro hc
  have h2 : a / x ≤ 2 * s - x - 1 := by omega
  have h3 : x * (a / x) ≤ x * (2 * s - x - 1) := Int.mul_le_mul_of_nonneg_left h2 (by omega)
  have h4 : 0 ≤ (s - x) * (s - x) := by
    rcases Int.le_total 0 (s - x) with h | h
    · exact Int.mul_nonneg h h
    · exact Int.mul_nonneg_of_nonpos_of_nonpos h h
  grind
theorem newton_end {a x s : Int} (hx : 0 < x) (hs : s ≤ x) (_h1 : s * s ≤ a) (h2 : a < (s + 1) * (s + 1)) (h3 : 0 ≤ s) (h : x ≤ (x + a / x) / 2) : x = s := by
  have hq := Int.mul_ediv_add_emod a x
  have hm := Int.emod_nonneg a (show x ≠ 0 by omega)
  have h4 : x ≤ a / x := by omega
  have h5 : x * x ≤ x * (a / x) := Int.mul_le_mul_of_nonneg_left h4 (by omega)
  have := sq_lt (a := x) (b := s + 1) (by omega) (by omega)
  omega
def sqtI (x : BI) : BI := bif x.1 then (false, []) else encI (isqI (decI x))
def sqtE (x : BI) : Int := bif x.1 then 7 else 0
def envBg12 : Env := [(60, fri_sp), (55, icm_sp), (144, iad_sp), (81, sgd_sp), (117, idm_sp)]
theorem envBg12_ok : EnvAll Tryz.prog envBg12 := ⟨fri_spec, icm_spec, iad_spec, sgd_spec, idm_spec, trivial⟩
def isq_nt : NT := [((118, 25), { keep := [1, 2, 5, 6], hl := 6 })]
noncomputable def isq_C : Ctx := ⟨Tryz.prog, ft, tys, envBg12, isq_nt⟩
def isq_h25 (x : Bool × List Int) (b4_0 : Bool) (b4_1 : List Int) : Cfg := ⟨118, [.blk 0], [(1, .box 0 0), (2, .box 1 0), (5, .box 4 0), (6, .box 5 0)], [.box 39 [SB x.1, .d (.sl (.int .u32)) x.2], .box 39 [SB false, .nil], .gone, .row 137 (.int .u32) ([1]), .box 39 [SB b4_0, .d (.sl (.int .u32)) b4_1], .box 39 [SB ((encI (2 : Int)).1), .d (.sl (.int .u32)) ((encI (2 : Int)).2)]], 0, []⟩
noncomputable def isq_t (k : Nat → Cfg → Option (List RV)) (x : Bool × List Int) : Option (List RV) := match x.1 with | true => some [RV.d (.st (.pair .bool (.sl (.int .u32)))) (false, []), RV.d (.int .i64) 7] | false => (match (x.2.length : Int) == 0 with | true => some [RV.d (.st (.pair .bool (.sl (.int .u32)))) (false, []), RV.d (.int .i64) 0] | false => (match decide ((0 : Int) ≤ IntKind.i64.wrap (Int.tdiv (IntKind.i64.wrap ((x.2.length : Int) + 1)) 2) ∧ (IntKind.i64.wrap (Int.tdiv (IntKind.i64.wrap ((x.2.length : Int) + 1)) 2)) * ((4 : Nat) : Int) ≤ 140737488355328 ∧ IntKind.i64.wrap (Int.tdiv (IntKind.i64.wrap ((x.2.length : Int) + 1)) 2) ≤ 140737488355328) with | true => (match decide (((List.replicate (IntKind.i64.wrap (Int.tdiv (IntKind.i64.wrap ((x.2.length : Int) + 1)) 2)).toNat (0 : Int)).length + ([1]).length) * 4 ≤ 140737488355328 ∧ (List.replicate (IntKind.i64.wrap (Int.tdiv (IntKind.i64.wrap ((x.2.length : Int) + 1)) 2)).toNat (0 : Int)).length + ([1]).length ≤ 140737488355328) with | true => (match decide (LimS ((List.replicate (IntKind.i64.wrap (Int.tdiv (IntKind.i64.wrap ((x.2.length : Int) + 1)) 2)).toNat (0 : Int)) ++ ([1]))) with | true => (match decide (i64P (2 : Int)) with | true => k 25 (isq_h25 x ((encI (sgnI false (val ((List.replicate (IntKind.i64.wrap (Int.tdiv (IntKind.i64.wrap ((x.2.length : Int) + 1)) 2)).toNat (0 : Int)) ++ ([1]))))).1) ((encI (sgnI false (val ((List.replicate (IntKind.i64.wrap (Int.tdiv (IntKind.i64.wrap ((x.2.length : Int) + 1)) 2)).toNat (0 : Int)) ++ ([1]))))).2)) | false => none) | false => none) | false => none) | false => none))
theorem isq_eq (k : Nat → Cfg → Option (List RV)) (x : Bool × List Int) : go Tryz.prog ft tys envBg12 isq_nt k 4000 (start 118 [.d (.st (.pair .bool (.sl (.int .u32)))) x]) (.node 0) = isq_t k x := (go2_eq _ _ _ _ _ _ _ _ _).symm.trans (show go2 Tryz.prog ft tys envBg12 isq_nt k 4000 (start 118 [.d (.st (.pair .bool (.sl (.int .u32)))) x]) (.node 0) = isq_t k x by kernel_rfl)
theorem isq_s (x : Bool × List Int) {rX : List RV} (hX : ∃ nX, isq_t (isq_C.k nX) x = some rX) : isq_C.Res 118 [.d (.st (.pair .bool (.sl (.int .u32)))) x] rX := by
  obtain ⟨nX, hX⟩ := hX
  exact ⟨nX, (isq_eq _ x).trans hX⟩
noncomputable def isq_h25_t (k : Nat → Cfg → Option (List RV)) (x : Bool × List Int) (b4_0 : Bool) (b4_1 : List Int) : Option (List RV) := match decide (idmP x (b4_0, b4_1)) with | true => bothV (match decide (okI (b4_0, b4_1) ∧ okI (encI (decI x / decI (b4_0, b4_1)))) with | true => bothV (match decide (idmP (encI (decI (b4_0, b4_1) + decI (encI (decI x / decI (b4_0, b4_1))))) (encI (2 : Int))) with | true => dup (.b .l .l) (match decide (okI (encI (decI (encI (decI (b4_0, b4_1) + decI (encI (decI x / decI (b4_0, b4_1))))) / decI (encI (2 : Int)))) ∧ okI (b4_0, b4_1)) with | true => (match decide ((cmpI (decI (encI (decI (encI (decI (b4_0, b4_1) + decI (encI (decI x / decI (b4_0, b4_1))))) / decI (encI (2 : Int))))) (decI (b4_0, b4_1))) ≥ 0) with | true => some [RV.d (.st (.pair .bool (.sl (.int .u32)))) (b4_0, b4_1), RV.d (.int .i64) 0] | false => k 25 (isq_h25 x ((encI (decI (encI (decI (b4_0, b4_1) + decI (encI (decI x / decI (b4_0, b4_1))))) / decI (encI (2 : Int)))).1) ((encI (decI (encI (decI (b4_0, b4_1) + decI (encI (decI x / decI (b4_0, b4_1))))) / decI (encI (2 : Int)))).2))) | false => none) | false => none) (dup (.b (.b .l .l) (.b .l .l)) (match decide (idmP (encI (decI (b4_0, b4_1) + decI (encI (decI x / decI (b4_0, b4_1))))) (encI (2 : Int))) with | true => (match decide (okI (encI (decI (encI (decI (b4_0, b4_1) + decI (encI (decI x / decI (b4_0, b4_1))))) / decI (encI (2 : Int)))) ∧ okI (b4_0, b4_1)) with | true => (match decide ((cmpI (decI (encI (decI (encI (decI (b4_0, b4_1) + decI (encI (decI x / decI (b4_0, b4_1))))) / decI (encI (2 : Int))))) (decI (b4_0, b4_1))) ≥ 0) with | true => some [RV.d (.st (.pair .bool (.sl (.int .u32)))) (b4_0, b4_1), RV.d (.int .i64) 0] | false => k 25 (isq_h25 x ((encI (decI (encI (decI (b4_0, b4_1) + decI (encI (decI x / decI (b4_0, b4_1))))) / decI (encI (2 : Int)))).1) ((encI (decI (encI (decI (b4_0, b4_1) + decI (encI (decI x / decI (b4_0, b4_1))))) / decI (encI (2 : Int)))).2))) | false => none) | false => none)) | false => none) (dup (.b .l .l) (bothV (match decide (okI (b4_0, b4_1) ∧ okI (encI (decI x / decI (b4_0, b4_1)))) with | true => dup (.b .l .l) (match decide (idmP (encI (decI (b4_0, b4_1) + decI (encI (decI x / decI (b4_0, b4_1))))) (encI (2 : Int))) with | true => (match decide (okI (encI (decI (encI (decI (b4_0, b4_1) + decI (encI (decI x / decI (b4_0, b4_1))))) / decI (encI (2 : Int)))) ∧ okI (b4_0, b4_1)) with | true => (match decide ((cmpI (decI (encI (decI (encI (decI (b4_0, b4_1) + decI (encI (decI x / decI (b4_0, b4_1))))) / decI (encI (2 : Int))))) (decI (b4_0, b4_1))) ≥ 0) with | true => some [RV.d (.st (.pair .bool (.sl (.int .u32)))) (b4_0, b4_1), RV.d (.int .i64) 0] | false => k 25 (isq_h25 x ((encI (decI (encI (decI (b4_0, b4_1) + decI (encI (decI x / decI (b4_0, b4_1))))) / decI (encI (2 : Int)))).1) ((encI (decI (encI (decI (b4_0, b4_1) + decI (encI (decI x / decI (b4_0, b4_1))))) / decI (encI (2 : Int)))).2))) | false => none) | false => none) | false => none) (match decide (okI (b4_0, b4_1) ∧ okI (encI (decI x / decI (b4_0, b4_1)))) with | true => (match decide (idmP (encI (decI (b4_0, b4_1) + decI (encI (decI x / decI (b4_0, b4_1))))) (encI (2 : Int))) with | true => (match decide (okI (encI (decI (encI (decI (b4_0, b4_1) + decI (encI (decI x / decI (b4_0, b4_1))))) / decI (encI (2 : Int)))) ∧ okI (b4_0, b4_1)) with | true => (match decide ((cmpI (decI (encI (decI (encI (decI (b4_0, b4_1) + decI (encI (decI x / decI (b4_0, b4_1))))) / decI (encI (2 : Int))))) (decI (b4_0, b4_1))) ≥ 0) with | true => some [RV.d (.st (.pair .bool (.sl (.int .u32)))) (b4_0, b4_1), RV.d (.int .i64) 0] | false => k 25 (isq_h25 x ((encI (decI (encI (decI (b4_0, b4_1) + decI (encI (decI x / decI (b4_0, b4_1))))) / decI (encI (2 : Int)))).1) ((encI (decI (encI (decI (b4_0, b4_1) + decI (encI (decI x / decI (b4_0, b4_1))))) / decI (encI (2 : Int)))).2))) | false => none) | false => none) | false => none))) | false => none
theorem isq_h25_eq (k : Nat → Cfg → Option (List RV)) (x : Bool × List Int) (b4_0 : Bool) (b4_1 : List Int) : go Tryz.prog ft tys envBg12 isq_nt k 4000 { isq_h25 x b4_0 b4_1 with K := .lp 25 :: (isq_h25 x b4_0 b4_1).K } (.node 26) = isq_h25_t k x b4_0 b4_1 := (go2_eq _ _ _ _ _ _ _ _ _).symm.trans (show go2 Tryz.prog ft tys envBg12 isq_nt k 4000 { isq_h25 x b4_0 b4_1 with K := .lp 25 :: (isq_h25 x b4_0 b4_1).K } (.node 26) = isq_h25_t k x b4_0 b4_1 by kernel_rfl)
theorem isq_h25_s (x : Bool × List Int) (b4_0 : Bool) (b4_1 : List Int) {rX : List RV} (hX : ∃ nX, isq_h25_t (isq_C.k nX) x b4_0 b4_1 = some rX) : isq_C.Runs 25 (isq_h25 x b4_0 b4_1) rX := by
  obtain ⟨nX, hX⟩ := hX
  exact ⟨nX + 1, (isq_h25_eq _ x b4_0 b4_1).trans hX⟩
def i64_nt : NT := [((119, 16), { keep := [1, 4, 5], hl := 1 })]
noncomputable def i64_C : Ctx := ⟨Tryz.prog, ft, tys, envBg12, i64_nt⟩
def i64_h16 (x : Bool × List Int) (s4 : Int) (s5 : Int) : Cfg := ⟨119, [.blk 0, .seq 27], [(1, .box 0 0), (4, .d (.int .u64) s4), (5, SI s5)], [.box 39 [SB x.1, .d (.sl (.int .u32)) x.2]], 0, []⟩
noncomputable def i64_t (k : Nat → Cfg → Option (List RV)) (x : Bool × List Int) : Option (List RV) := match decide (i64P ((-9223372036854775808) : Int)) with | true => (match decide (okI x ∧ okI (encI ((-9223372036854775808) : Int))) with | true => dup (.b .l .l) (match decide ((cmpI (decI x) (decI (encI ((-9223372036854775808) : Int)))) < 0) with | true => some [RV.d (.int .i64) 0, RV.d .bool false] | false => (match decide (i64P (9223372036854775807 : Int)) with | true => (match decide (okI x ∧ okI (encI (9223372036854775807 : Int))) with | true => (match decide ((cmpI (decI x) (decI (encI (9223372036854775807 : Int)))) > 0) with | true => some [RV.d (.int .i64) 0, RV.d .bool false] | false => k 16 (i64_h16 x 0 (IntKind.i64.wrap ((x.2.length : Int) - 1)))) | false => none) | false => none)) | false => none) | false => none
theorem i64_eq (k : Nat → Cfg → Option (List RV)) (x : Bool × List Int) : go Tryz.prog ft tys envBg12 i64_nt k 4000 (start 119 [.d (.st (.pair .bool (.sl (.int .u32)))) x]) (.node 0) = i64_t k x := (go2_eq _ _ _ _ _ _ _ _ _).symm.trans (show go2 Tryz.prog ft tys envBg12 i64_nt k 4000 (start 119 [.d (.st (.pair .bool (.sl (.int .u32)))) x]) (.node 0) = i64_t k x by kernel_rfl)
theorem i64_s (x : Bool × List Int) {rX : List RV} (hX : ∃ nX, i64_t (i64_C.k nX) x = some rX) : i64_C.Res 119 [.d (.st (.pair .bool (.sl (.int .u32)))) x] rX := by
  obtain ⟨nX, hX⟩ := hX
  exact ⟨nX, (i64_eq _ x).trans hX⟩
noncomputable def i64_h16_t (k : Nat → Cfg → Option (List RV)) (x : Bool × List Int) (s4 : Int) (s5 : Int) : Option (List RV) := match decide (s5 ≥ 0) with | true => (match getI x.2 s5 with | some x1 => k 16 (i64_h16 x (IntKind.u64.wrap ((IntKind.u64.wrap (s4 * 1000000000)) + (IntKind.u64.wrap x1))) (IntKind.i64.wrap (s5 - 1))) | none => none) | false => (match x.1 with | true => some [RV.d (.int .i64) (IntKind.i64.wrap (IntKind.u64.wrap (0 - s4))), RV.d .bool true] | false => some [RV.d (.int .i64) (IntKind.i64.wrap s4), RV.d .bool true])
theorem i64_h16_eq (k : Nat → Cfg → Option (List RV)) (x : Bool × List Int) (s4 : Int) (s5 : Int) : go Tryz.prog ft tys envBg12 i64_nt k 4000 { i64_h16 x s4 s5 with K := .lp 16 :: (i64_h16 x s4 s5).K } (.node 17) = i64_h16_t k x s4 s5 := (go2_eq _ _ _ _ _ _ _ _ _).symm.trans (show go2 Tryz.prog ft tys envBg12 i64_nt k 4000 { i64_h16 x s4 s5 with K := .lp 16 :: (i64_h16 x s4 s5).K } (.node 17) = i64_h16_t k x s4 s5 by kernel_rfl)
theorem i64_h16_s (x : Bool × List Int) (s4 : Int) (s5 : Int) {rX : List RV} (hX : ∃ nX, i64_h16_t (i64_C.k nX) x s4 s5 = some rX) : i64_C.Runs 16 (i64_h16 x s4 s5) rX := by
  obtain ⟨nX, hX⟩ := hX
  exact ⟨nX + 1, (i64_h16_eq _ x s4 s5).trans hX⟩
theorem isq_loop (x : BI) (hx : okI x) (h0 : 0 < decI x) : ∀ (m : Nat) (X : Int), X.toNat = m → 0 < X → isqI (decI x) ≤ X → szI X ≤ 900000 → isq_C.Runs 25 (isq_h25 x (encI X).1 (encI X).2) [.d (.st (.pair .bool (.sl (.int .u32)))) (encI (isqI (decI x))), .d (.int .i64) 0] := by
  intro m
  induction m using Nat.strongRecOn with
  | ind m ih =>
    intro X hm hX hs hsz
    obtain ⟨g0, g1, g2⟩ := isqI_ok (Int.le_of_lt h0)
    have hq0 : 0 ≤ decI x / X := Int.ediv_nonneg (by omega) (by omega)
    have hq1 : decI x / X ≤ decI x := Int.ediv_le_self _ (by omega)
    have oX : okI (encI X) := okI_enc (by omega)
    have sq : szI (decI x / X) ≤ 1000000 := Nat.le_trans (szI_of_le (by omega)) (okI_sz hx)
    have p1 : idmP x (encI X) := ⟨hx, oX, by rw [dec_enc]; exact hX⟩
    -- the quotient is small or the sum is: both are at most the root of a number above
    have ssum : szI (X + decI x / X) ≤ 1000000 := by
      have b1 := szI_bd hsz
      have b2 := szI_bd (okI_sz hx)
      have e : pw 1000000 = pw 900000 * pw 100000 := by rw [← pw_add]
      have p9 : (1000 : Int) ≤ pw 100000 := by
        have : pw 100000 = pw 99999 * 1000000000 := pw_succ 99999
        have := pw_pos 99999
        omega
      have p8 := pw_pos 900000
      have h8 : pw 900000 * 1000 ≤ pw 900000 * pw 100000 := Int.mul_le_mul_of_nonneg_left p9 (by omega)
      rcases Int.lt_or_le X 2 with hX1 | hX1
      · -- X = 1: then the number is less than 4
        have : X = 1 := by omega
        subst this
        have : isqI (decI x) ≤ 1 := hs
        have h4 : decI x < 4 := by
          have := sq_mono (a := isqI (decI x) + 1) (b := 2) (by omega) (by omega)
          omega
        refine szI_le ?_ ?_ <;> (rw [e, Int.ediv_one]; omega)
      · have hq2 : decI x / X ≤ decI x / 2 := by
          have := Int.ediv_mul_le (decI x) (show X ≠ 0 by omega)
          have h2 : decI x / X * 2 ≤ decI x / X * X := Int.mul_le_mul_of_nonneg_left hX1 hq0
          omega
        refine szI_le ?_ ?_ <;> (rw [e] at b2 ⊢; omega)
    have o1 : okI (encI X) ∧ okI (encI (decI x / X)) := ⟨oX, okI_enc sq⟩
    have p2 : idmP (encI (X + decI x / X)) (encI 2) := ⟨okI_enc ssum, by decide, by rw [dec_enc]; decide⟩
    have hn := newton hX g0 g1
    have o2 : okI (encI ((X + decI x / X) / 2)) ∧ okI (encI X) := ⟨okI_enc (Nat.le_trans (szI_of_le (by omega)) ssum), oX⟩
    by_cases hc : X ≤ (X + decI x / X) / 2
    · have hXs := newton_end hX hs g1 g2 g0 hc
      refine isq_h25_s _ _ _ ⟨0, ?_⟩
      unfold isq_h25_t
      simp only [bothV_self, dup_eq]
      have e : ∀ z : Int, ((encI z).1, (encI z).2) = encI z := fun z => rfl
      simp only [e, dec_enc, decide_eq_true p1, decide_eq_true o1, decide_eq_true p2, decide_eq_true o2]
      have hg : decide (cmpI ((X + decI x / X) / 2) X ≥ 0) = true := by
        rcases Int.lt_or_eq_of_le hc with h | h
        · rw [cmpI_gt h]; rfl
        · rw [← h, cmpI_eq]; rfl
      rw [hg, hXs]
    · obtain ⟨n, hN⟩ := ih ((X + decI x / X) / 2).toNat (by omega) ((X + decI x / X) / 2) rfl (by
        rcases Int.lt_or_le 0 (isqI (decI x)) with h | h
        · omega
        · exfalso
          have : isqI (decI x) = 0 := by omega
          rw [this] at g2
          omega) hn (Nat.le_trans (szI_of_le (by omega)) hsz)
      refine isq_h25_s _ _ _ ⟨n, ?_⟩
      unfold isq_h25_t
      simp only [bothV_self, dup_eq]
      have e : ∀ z : Int, ((encI z).1, (encI z).2) = encI z := fun z => rfl
      simp only [e, dec_enc, decide_eq_true p1, decide_eq_true o1, decide_eq_true p2, decide_eq_true o2]
      rw [cmpI_lt (by omega)]
      exact hN
theorem isq_con (x : Bool × List Int) (h : okI x) : Con Tryz.prog 118 [.d (.st (.pair .bool (.sl (.int .u32)))) x] [.d (.st (.pair .bool (.sl (.int .u32)))) (sqtI x), .d (.int .i64) (sqtE x)] := by
  refine Ctx.Res.con (C := isq_C) (ctx_ok envBg12_ok) ?_ (fn := Tryz.f118) (by kernel_rfl) (by kernel_rfl)
  obtain ⟨x0, x1, x2⟩ := okI_val h
  have hl := h.2.2
  cases hn : x.1
  · by_cases hz : x.2 = []
    · refine isq_s _ ⟨0, ?_⟩
      unfold isq_t sqtI sqtE
      have : decI x = 0 := by unfold decI; rw [hn, hz]; rfl
      rw [hn, hz, this]
      rfl
    · have hp : 0 < val x.2 := can_val_pos h.1 hz
      have hd : decI x = val x.2 := by unfold decI; rw [hn]; rfl
      have hlen := List.length_pos_iff.2 hz
      have hk : IntKind.i64.wrap (Int.tdiv (IntKind.i64.wrap ((x.2.length : Int) + 1)) 2) = (((x.2.length + 1) / 2 : Nat) : Int) := by
        rw [wrapS (by omega), tdivP (by omega), wrap64 (by omega) (by omega)]
        omega
      have hv : val (List.replicate ((x.2.length + 1) / 2) 0 ++ [1]) = pw ((x.2.length + 1) / 2) := by
        rw [val_append, val_rep, List.length_replicate]
        simp [val]
      have hL : LimS (List.replicate ((x.2.length + 1) / 2) 0 ++ [1]) := by
        refine ⟨fun y hy => ?_, by simp; omega⟩
        rcases List.mem_append.1 hy with hy | hy
        · have := List.eq_of_mem_replicate hy; omega
        · simp at hy; omega
      have hpos := pw_pos ((x.2.length + 1) / 2)
      obtain ⟨n, hN⟩ := isq_loop x h (by omega) _ (pw ((x.2.length + 1) / 2)) rfl hpos (by
          obtain ⟨g0, g1, g2⟩ := isqI_ok (show 0 ≤ decI x by omega)
          have hlt := val_lt h.1.1
          have hm := pw_mono (show x.2.length ≤ (x.2.length + 1) / 2 + (x.2.length + 1) / 2 by omega)
          rw [pw_add] at hm
          have := sq_lt (a := isqI (decI x)) (b := pw ((x.2.length + 1) / 2)) (by omega) (by omega)
          omega) (szI_le (k := 900000) (by have := pw_pos 900000; omega) (by
            have := pw_mono (show (x.2.length + 1) / 2 + 1 ≤ 900000 by omega)
            rw [pw_succ] at this
            omega))
      refine isq_s _ ⟨n, ?_⟩
      unfold isq_t sqtI sqtE
      simp only [hk]
      rw [hn, show ((x.2.length : Int) == 0) = false by simp; omega]
      simp only [Int.toNat_natCast]
      rw [decide_eq_true (show (0 : Int) ≤ (((x.2.length + 1) / 2 : Nat) : Int) ∧ (((x.2.length + 1) / 2 : Nat) : Int) * ((4 : Nat) : Int) ≤ 140737488355328 ∧ (((x.2.length + 1) / 2 : Nat) : Int) ≤ 140737488355328 by omega)]
      rw [decide_eq_true (show ((List.replicate ((x.2.length + 1) / 2) (0 : Int)).length + ([1] : List Nat).length) * 4 ≤ 140737488355328 ∧ (List.replicate ((x.2.length + 1) / 2) (0 : Int)).length + ([1] : List Nat).length ≤ 140737488355328 by simp; omega)]
      rw [decide_eq_true hL, decide_eq_true (show i64P 2 by decide), hv]
      exact hN
  · refine isq_s _ ⟨0, ?_⟩
    unfold isq_t sqtI sqtE
    rw [hn]
    rfl
theorem i64_loop (x : BI) (hx : okI x) (hv : val x.2 ≤ 9223372036854775808) : ∀ (i : Nat), i ≤ x.2.length → i64_C.Runs 16 (i64_h16 x (val (x.2.drop i)) ((i : Int) - 1)) [.d (.int .i64) (IntKind.i64.wrap (bif x.1 then IntKind.u64.wrap (0 - val x.2) else val x.2)), .d .bool true]
  | 0, _ => by
    refine i64_h16_s _ _ _ ⟨0, ?_⟩
    unfold i64_h16_t
    rw [decide_eq_false (by omega), List.drop_zero]
    cases x.1 <;> rfl
  | i + 1, hi => by
    obtain ⟨n, ih⟩ := i64_loop x hx hv i (by omega)
    have h0 := hx.2.2
    have hlim := hx.1.1
    have hd : x.2.drop i = x.2[i] :: x.2.drop (i + 1) := drop_get (by omega)
    have hle : ∀ j, val (x.2.drop j) ≤ 9223372036854775808 ∧ 0 ≤ val (x.2.drop j) := fun j => by
      have l1 : Lim (x.2.drop j) := fun y hy => hlim y (List.mem_of_mem_drop hy)
      have l2 : Lim (x.2.take j) := fun y hy => hlim y (List.mem_of_mem_take hy)
      have := val_append (x.2.take j) (x.2.drop j)
      rw [List.take_append_drop] at this
      have n1 := val_nonneg l1
      have n2 := val_nonneg l2
      have p := pw_pos (x.2.take j).length
      have : val (x.2.drop j) ≤ pw (x.2.take j).length * val (x.2.drop j) := by
        have := Int.mul_le_mul_of_nonneg_right (show 1 ≤ pw (x.2.take j).length by omega) n1
        omega
      omega
    have hb := hlim x.2[i] (List.getElem_mem _)
    have hv1 := hle i
    have hv2 := hle (i + 1)
    rw [hd] at hv1 ih
    simp only [val] at hv1 ih
    refine i64_h16_s _ _ _ ⟨n, ?_⟩
    unfold i64_h16_t
    rw [show (((i + 1 : Nat) : Int) - 1) = (i : Int) by omega, decide_eq_true (by omega), getI_nat, List.getElem?_eq_getElem (by omega)]
    dsimp only
    rw [wr64 (x := val (x.2.drop (i + 1)) * 1000000000) (by omega) (by omega), wr64 (x := x.2[i]) (by omega) (by omega), wr64 (by omega) (by omega), wrap64 (by omega) (by omega)]
    rw [show val (x.2.drop (i + 1)) * 1000000000 + x.2[i] = x.2[i] + 1000000000 * val (x.2.drop (i + 1)) by omega]
    exact ih
theorem i64_con (x : Bool × List Int) (h : okI x) : Con Tryz.prog 119 [.d (.st (.pair .bool (.sl (.int .u32)))) x] [.d (.int .i64) (bif decide (i64P (decI x)) then decI x else 0), .d .bool (decide (i64P (decI x)))] := by
  refine Ctx.Res.con (C := i64_C) (ctx_ok envBg12_ok) ?_ (fn := Tryz.f119) (by kernel_rfl) (by kernel_rfl)
  obtain ⟨x0, x1, x2⟩ := okI_val h
  have o1 : okI x ∧ okI (encI (-9223372036854775808)) := ⟨h, by decide⟩
  have o2 : okI x ∧ okI (encI 9223372036854775807) := ⟨h, by decide⟩
  have hl := h.2.2
  by_cases h1 : decI x < -9223372036854775808
  · refine i64_s _ ⟨0, ?_⟩
    unfold i64_t
    simp only [dup_eq, dec_enc, decide_eq_true o1]
    rw [decide_eq_true (show i64P (-9223372036854775808) by decide), cmpI_lt h1, decide_eq_false (show ¬ i64P (decI x) from fun g => by have := g.1; omega)]
    rfl
  · have c1 : decide (cmpI (decI x) (-9223372036854775808) < 0) = false := by
      rcases Int.lt_or_eq_of_le (show -9223372036854775808 ≤ decI x by omega) with g | g
      · rw [cmpI_gt g]; rfl
      · rw [← g, cmpI_eq]; rfl
    by_cases h2 : 9223372036854775807 < decI x
    · refine i64_s _ ⟨0, ?_⟩
      unfold i64_t
      simp only [dup_eq, dec_enc, decide_eq_true o1, decide_eq_true o2]
      rw [decide_eq_true (show i64P (-9223372036854775808) by decide), c1, decide_eq_true (show i64P 9223372036854775807 by decide), cmpI_gt h2, decide_eq_false (show ¬ i64P (decI x) from fun g => by have := g.2; omega)]
      rfl
    · have c2 : decide (cmpI (decI x) 9223372036854775807 > 0) = false := by
        rcases Int.lt_or_eq_of_le (show decI x ≤ 9223372036854775807 by omega) with g | g
        · rw [cmpI_lt g]; rfl
        · rw [g, cmpI_eq]; rfl
      have hp : i64P (decI x) := ⟨by omega, by omega⟩
      have hvv : val x.2 ≤ 9223372036854775808 := by
        have g1 := hp.1
        have g2 := hp.2
        have hd : decI x = bif x.1 then -val x.2 else val x.2 := rfl
        cases hb : x.1 <;> rw [hb] at hd <;> simp only [cond_true, cond_false] at hd <;> omega
      obtain ⟨n, hN⟩ := i64_loop x h hvv x.2.length (Nat.le_refl _)
      refine i64_s _ ⟨n, ?_⟩
      unfold i64_t
      simp only [dup_eq, dec_enc, decide_eq_true o1, decide_eq_true o2]
      rw [decide_eq_true (show i64P (-9223372036854775808) by decide), c1, decide_eq_true (show i64P 9223372036854775807 by decide), c2, decide_eq_true hp]
      rw [List.drop_length] at hN
      rw [wrap64 (by omega) (by omega)]
      refine hN.trans ?_
      have hr : IntKind.i64.wrap (bif x.1 then IntKind.u64.wrap (0 - val x.2) else val x.2) = decI x := by
        have hd : decI x = bif x.1 then -val x.2 else val x.2 := rfl
        have := hp.1
        have := hp.2
        cases hb : x.1 <;> rw [hb] at hd <;> simp only [cond_true, cond_false] at hd ⊢
        · rw [wrap64 (by omega) (by omega)]; omega
        · have := x1 hb
          rw [IntKind.wrap_u64, IntKind.wrap_i64]
          omega
      rw [hr]
      rfl
end Go.Proofs.YtcaiedfkohigjaaGreat
