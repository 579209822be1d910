/- rational: the operations. -/
import Derived.Test.YtcaiedfkohigjaaZ9
namespace Go.Proofs.Ytcaiedfkohigjaa
open Go.RowKit
/-- The sign of a difference. -/
def cmpR (a b : Rat) : Int := bif decide (a < b) then -1 else bif decide (b < a) then 1 else 0
theorem cmpR_lt {a b : Rat} (h : a < b) : cmpR a b = -1 := by unfold cmpR; rw [decide_eq_true h]; rfl
theorem cmpR_gt {a b : Rat} (h : b < a) : cmpR a b = 1 := by unfold cmpR; rw [decide_eq_false (by grind), decide_eq_true h]; rfl
theorem cmpR_eq (a : Rat) : cmpR a a = 0 := by unfold cmpR; rw [decide_eq_false (by grind)]; rfl
theorem cmpR_num (a b : Rat) : cmpI (a.num * (b.den : Int)) (b.num * (a.den : Int)) = cmpR a b := by
  unfold cmpI cmpR
  rw [show decide (a.num * (b.den : Int) < b.num * (a.den : Int)) = decide (a < b) from decide_eq_decide.2 (Rat.lt_iff a b).symm, show decide (b.num * (a.den : Int) < a.num * (b.den : Int)) = decide (b < a) from decide_eq_decide.2 (Rat.lt_iff b a).symm]
theorem cmpR_zero (a : Rat) : cmpI a.num 0 = cmpR a 0 := by
  rw [← cmpR_num]
  simp
def red_sp : Spec := { keep := false, run := fun _ args k => match args with
  | [.d (.st (.pair .bool (.sl (.int .u32)))) x, .d (.st (.pair .bool (.sl (.int .u32)))) y] => match decide (redP x y) with
    | true => k [RV.d (.st (.pair (.st (.pair .bool (.sl (.int .u32)))) (.st (.pair .bool (.sl (.int .u32)))))) (redR x y)]
    | false => none
  | _ => none }
theorem red_spec : callable Try.prog 97 = true ∧ SpecOk Try.prog 97 red_sp ∧ ∀ g, red_sp.mut_ = some g → MCon Try.prog 97 g := by
  refine ⟨by kernel_rfl, fun R args k r h => ?_, fun g h => by simp [red_sp] at h⟩
  unfold red_sp at h
  dsimp only at h
  split at h <;> try (cases h; done)
  split at h <;> try (cases h; done)
  rename_i hd
  exact ⟨_, h, red_con _ _ (of_decide_eq_true hd)⟩

def cmp_nt : NT := [((55, 3), { keep := [0, 1, 8], hl := 0 }), ((55, 5), { keep := [0, 1, 5, 10], hl := 0 })]
noncomputable def cmp_C : Ctx := ⟨Try.prog, ft, tys, [], cmp_nt⟩
def cmp_t (_k : Nat → Cfg → Option (List RV)) (x : Int) (y : Int) : Option (List RV) := match x != x with | true => (match y != y with | true => some [RV.d (.int .i64) 0] | false => some [RV.d (.int .i64) (-1)]) | false => (match y != y with | true => some [RV.d (.int .i64) 1] | false => (match decide (x < y) with | true => some [RV.d (.int .i64) (-1)] | false => (match decide (x > y) with | true => some [RV.d (.int .i64) 1] | false => some [RV.d (.int .i64) 0])))
theorem cmp_eq (k : Nat → Cfg → Option (List RV)) (x : Int) (y : Int) : go Try.prog ft tys [] cmp_nt k 4000 (start 55 [SI x, SI y]) (.node 0) = cmp_t k x y := (go2_eq _ _ _ _ _ _ _ _ _).symm.trans (show go2 Try.prog ft tys [] cmp_nt k 4000 (start 55 [SI x, SI y]) (.node 0) = cmp_t k x y by kernel_rfl)
theorem cmp_s (x : Int) (y : Int) {rX : List RV} (hX : ∃ nX, cmp_t (cmp_C.k nX) x y = some rX) : cmp_C.Res 55 [SI x, SI y] rX := by
  obtain ⟨nX, hX⟩ := hX
  exact ⟨nX, (cmp_eq _ x y).trans hX⟩
theorem cmp_con (x y : Int) : Con Try.prog 55 [.d (.int .i64) x, .d (.int .i64) y] [.d (.int .i64) (cmpI x y)] := by
  refine Ctx.Res.con (C := cmp_C) (ctx_ok (E := []) trivial) (cmp_s _ _ ⟨0, ?_⟩) (fn := Try.f55) (by kernel_rfl) (by kernel_rfl)
  unfold cmp_t
  rw [show (x != x) = false by simp, show (y != y) = false by simp]
  dsimp only
  rcases Int.lt_trichotomy x y with h | h | h
  · rw [cmpI_lt h, decide_eq_true h]
  · subst h; rw [cmpI_eq, decide_eq_false (show ¬ x < x by omega)]
  · rw [cmpI_gt h, decide_eq_false (show ¬ x < y by omega), decide_eq_true (show x > y from h)]
def cmp_sp : Spec := { keep := true, run := fun _ args k => match args with
  | [.d (.int .i64) x, .d (.int .i64) y] => k [RV.d (.int .i64) (cmpI x y)]
  | _ => none }
theorem cmp_spec : callable Try.prog 55 = true ∧ SpecOk Try.prog 55 cmp_sp ∧ ∀ g, cmp_sp.mut_ = some g → MCon Try.prog 55 g := by
  refine ⟨by kernel_rfl, fun R args k r h => ?_, fun g h => by simp [cmp_sp] at h⟩
  unfold cmp_sp at h
  dsimp only at h
  split at h <;> try (cases h; done)
  exact ⟨_, h, cmp_con _ _ ⟩

def envBg9 : Env := [(51, fri_sp), (75, isg_sp), (57, icm_sp), (74, iad_sp), (99, ing_sp), (50, imu_sp), (82, unt_sp), (97, red_sp), (55, cmp_sp)]
theorem envBg9_ok : EnvAll Try.prog envBg9 := ⟨fri_spec, isg_spec, icm_spec, iad_spec, ing_spec, imu_spec, unt_spec, red_spec, cmp_spec, trivial⟩
def who_nt : NT := []
noncomputable def who_C : Ctx := ⟨Try.prog, ft, tys, envBg9, who_nt⟩
def who_t (_k : Nat → Cfg → Option (List RV)) (x : Bool × List Int) : Option (List RV) := some [RV.d (.st (.pair (.st (.pair .bool (.sl (.int .u32)))) (.st (.pair .bool (.sl (.int .u32)))))) (x, (encI 1))]
theorem who_eq (k : Nat → Cfg → Option (List RV)) (x : Bool × List Int) : go Try.prog ft tys envBg9 who_nt k 4000 (start 60 [.d (.st (.pair .bool (.sl (.int .u32)))) x]) (.node 0) = who_t k x := (go2_eq _ _ _ _ _ _ _ _ _).symm.trans (show go2 Try.prog ft tys envBg9 who_nt k 4000 (start 60 [.d (.st (.pair .bool (.sl (.int .u32)))) x]) (.node 0) = who_t k x by kernel_rfl)
theorem who_s (x : Bool × List Int) {rX : List RV} (hX : ∃ nX, who_t (who_C.k nX) x = some rX) : who_C.Res 60 [.d (.st (.pair .bool (.sl (.int .u32)))) x] rX := by
  obtain ⟨nX, hX⟩ := hX
  exact ⟨nX, (who_eq _ x).trans hX⟩
theorem who_con (x : BI) : Con Try.prog 60 [.d (.st (.pair .bool (.sl (.int .u32)))) x] [.d (.st (.pair (.st (.pair .bool (.sl (.int .u32)))) (.st (.pair .bool (.sl (.int .u32)))))) (x, encI 1)] :=
  Ctx.Res.con (C := who_C) (ctx_ok envBg9_ok) (who_s _ ⟨0, rfl⟩) (fn := Try.f60) (by kernel_rfl) (by kernel_rfl)
def who_sp : Spec := { keep := false, run := fun _ args k => match args with
  | [.d (.st (.pair .bool (.sl (.int .u32)))) x] => k [RV.d (.st (.pair (.st (.pair .bool (.sl (.int .u32)))) (.st (.pair .bool (.sl (.int .u32)))))) (x, encI 1)]
  | _ => none }
theorem who_spec : callable Try.prog 60 = true ∧ SpecOk Try.prog 60 who_sp ∧ ∀ g, who_sp.mut_ = some g → MCon Try.prog 60 g := by
  refine ⟨by kernel_rfl, fun R args k r h => ?_, fun g h => by simp [who_sp] at h⟩
  unfold who_sp at h
  dsimp only at h
  split at h <;> try (cases h; done)
  exact ⟨_, h, who_con _ ⟩

def rsg_nt : NT := []
noncomputable def rsg_C : Ctx := ⟨Try.prog, ft, tys, envBg9, rsg_nt⟩
def rsg_t (_k : Nat → Cfg → Option (List RV)) (a : (Bool × List Int) × Bool × List Int) : Option (List RV) := match decide (okI a.1) with | true => some [RV.d (.int .i64) (cmpI (decI a.1) 0)] | false => none
theorem rsg_eq (k : Nat → Cfg → Option (List RV)) (a : (Bool × List Int) × Bool × List Int) : go Try.prog ft tys envBg9 rsg_nt k 4000 (start 56 [.d (.st (.pair (.st (.pair .bool (.sl (.int .u32)))) (.st (.pair .bool (.sl (.int .u32)))))) a]) (.node 0) = rsg_t k a := (go2_eq _ _ _ _ _ _ _ _ _).symm.trans (show go2 Try.prog ft tys envBg9 rsg_nt k 4000 (start 56 [.d (.st (.pair (.st (.pair .bool (.sl (.int .u32)))) (.st (.pair .bool (.sl (.int .u32)))))) a]) (.node 0) = rsg_t k a by kernel_rfl)
theorem rsg_s (a : (Bool × List Int) × Bool × List Int) {rX : List RV} (hX : ∃ nX, rsg_t (rsg_C.k nX) a = some rX) : rsg_C.Res 56 [.d (.st (.pair (.st (.pair .bool (.sl (.int .u32)))) (.st (.pair .bool (.sl (.int .u32)))))) a] rX := by
  obtain ⟨nX, hX⟩ := hX
  exact ⟨nX, (rsg_eq _ a).trans hX⟩
theorem rsg_con (a : BR) (h : okR a) : Con Try.prog 56 [.d (.st (.pair (.st (.pair .bool (.sl (.int .u32)))) (.st (.pair .bool (.sl (.int .u32)))))) a] [.d (.int .i64) (cmpR (decR a) 0)] := by
  refine Ctx.Res.con (C := rsg_C) (ctx_ok envBg9_ok) (rsg_s _ ⟨0, ?_⟩) (fn := Try.f56) (by kernel_rfl) (by kernel_rfl)
  unfold rsg_t
  rw [decide_eq_true h.1, ← cmpR_zero, (okR_num h).1]
def rsg_sp : Spec := { keep := true, run := fun _ args k => match args with
  | [.d (.st (.pair (.st (.pair .bool (.sl (.int .u32)))) (.st (.pair .bool (.sl (.int .u32)))))) a] => match decide (okR a) with
    | true => k [RV.d (.int .i64) (cmpR (decR a) 0)]
    | false => none
  | _ => none }
theorem rsg_spec : callable Try.prog 56 = true ∧ SpecOk Try.prog 56 rsg_sp ∧ ∀ g, rsg_sp.mut_ = some g → MCon Try.prog 56 g := by
  refine ⟨by kernel_rfl, fun R args k r h => ?_, fun g h => by simp [rsg_sp] at h⟩
  unfold rsg_sp at h
  dsimp only at h
  split at h <;> try (cases h; done)
  split at h <;> try (cases h; done)
  rename_i hd
  exact ⟨_, h, rsg_con _ (of_decide_eq_true hd)⟩

def envBg10 : Env := [(51, fri_sp), (75, isg_sp), (57, icm_sp), (74, iad_sp), (99, ing_sp), (50, imu_sp), (82, unt_sp), (97, red_sp), (55, cmp_sp), (60, who_sp), (56, rsg_sp)]
theorem envBg10_ok : EnvAll Try.prog envBg10 := ⟨fri_spec, isg_spec, icm_spec, iad_spec, ing_spec, imu_spec, unt_spec, red_spec, cmp_spec, who_spec, rsg_spec, trivial⟩
def rfi_nt : NT := []
noncomputable def rfi_C : Ctx := ⟨Try.prog, ft, tys, envBg10, rfi_nt⟩
def rfi_t (_k : Nat → Cfg → Option (List RV)) (n : Int) : Option (List RV) := match decide (i64P n) with | true => some [RV.d (.st (.pair (.st (.pair .bool (.sl (.int .u32)))) (.st (.pair .bool (.sl (.int .u32)))))) ((encI n), (encI 1))] | false => none
theorem rfi_eq (k : Nat → Cfg → Option (List RV)) (n : Int) : go Try.prog ft tys envBg10 rfi_nt k 4000 (start 32 [SI n]) (.node 0) = rfi_t k n := (go2_eq _ _ _ _ _ _ _ _ _).symm.trans (show go2 Try.prog ft tys envBg10 rfi_nt k 4000 (start 32 [SI n]) (.node 0) = rfi_t k n by kernel_rfl)
theorem rfi_s (n : Int) {rX : List RV} (hX : ∃ nX, rfi_t (rfi_C.k nX) n = some rX) : rfi_C.Res 32 [SI n] rX := by
  obtain ⟨nX, hX⟩ := hX
  exact ⟨nX, (rfi_eq _ n).trans hX⟩
def rcm_nt : NT := []
noncomputable def rcm_C : Ctx := ⟨Try.prog, ft, tys, envBg10, rcm_nt⟩
def rcm_t (_k : Nat → Cfg → Option (List RV)) (a : (Bool × List Int) × Bool × List Int) (b : (Bool × List Int) × Bool × List Int) : Option (List RV) := match decide (okR a) with | true => (match decide (okR b) with | true => (match (cmpI (cmpR (decR a) 0) (cmpR (decR b) 0)) != 0 with | true => some [RV.d (.int .i64) (cmpI (cmpR (decR a) 0) (cmpR (decR b) 0))] | false => (match decide (okI a.1 ∧ okI b.2) with | true => (match decide (okI b.1 ∧ okI a.2) with | true => (match decide (okI (encI (decI a.1 * decI b.2)) ∧ okI (encI (decI b.1 * decI a.2))) with | true => some [RV.d (.int .i64) (cmpI (decI (encI (decI a.1 * decI b.2))) (decI (encI (decI b.1 * decI a.2))))] | false => none) | false => none) | false => none)) | false => none) | false => none
theorem rcm_eq (k : Nat → Cfg → Option (List RV)) (a : (Bool × List Int) × Bool × List Int) (b : (Bool × List Int) × Bool × List Int) : go Try.prog ft tys envBg10 rcm_nt k 4000 (start 29 [.d (.st (.pair (.st (.pair .bool (.sl (.int .u32)))) (.st (.pair .bool (.sl (.int .u32)))))) a, .d (.st (.pair (.st (.pair .bool (.sl (.int .u32)))) (.st (.pair .bool (.sl (.int .u32)))))) b]) (.node 0) = rcm_t k a b := (go2_eq _ _ _ _ _ _ _ _ _).symm.trans (show go2 Try.prog ft tys envBg10 rcm_nt k 4000 (start 29 [.d (.st (.pair (.st (.pair .bool (.sl (.int .u32)))) (.st (.pair .bool (.sl (.int .u32)))))) a, .d (.st (.pair (.st (.pair .bool (.sl (.int .u32)))) (.st (.pair .bool (.sl (.int .u32)))))) b]) (.node 0) = rcm_t k a b by kernel_rfl)
theorem rcm_s (a : (Bool × List Int) × Bool × List Int) (b : (Bool × List Int) × Bool × List Int) {rX : List RV} (hX : ∃ nX, rcm_t (rcm_C.k nX) a b = some rX) : rcm_C.Res 29 [.d (.st (.pair (.st (.pair .bool (.sl (.int .u32)))) (.st (.pair .bool (.sl (.int .u32)))))) a, .d (.st (.pair (.st (.pair .bool (.sl (.int .u32)))) (.st (.pair .bool (.sl (.int .u32)))))) b] rX := by
  obtain ⟨nX, hX⟩ := hX
  exact ⟨nX, (rcm_eq _ a b).trans hX⟩
def rad_nt : NT := []
noncomputable def rad_C : Ctx := ⟨Try.prog, ft, tys, envBg10, rad_nt⟩
def rad_t (_k : Nat → Cfg → Option (List RV)) (a : (Bool × List Int) × Bool × List Int) (b : (Bool × List Int) × Bool × List Int) : Option (List RV) := match decide (okI a.2 ∧ okI b.2) with | true => (match (cmpI (decI a.2) (decI b.2)) == 0 with | true => (match decide (okI a.1 ∧ okI b.1) with | true => (match decide (redP (encI (decI a.1 + decI b.1)) a.2) with | true => some [RV.d (.st (.pair (.st (.pair .bool (.sl (.int .u32)))) (.st (.pair .bool (.sl (.int .u32)))))) (((redR (encI (decI a.1 + decI b.1)) a.2).1), ((redR (encI (decI a.1 + decI b.1)) a.2).2))] | false => none) | false => none) | false => (match decide (okI a.1 ∧ okI b.2) with | true => (match decide (okI b.1 ∧ okI a.2) with | true => (match decide (okI (encI (decI a.1 * decI b.2)) ∧ okI (encI (decI b.1 * decI a.2))) with | true => (match decide (okI a.2 ∧ okI b.2) with | true => (match decide (redP (encI (decI (encI (decI a.1 * decI b.2)) + decI (encI (decI b.1 * decI a.2)))) (encI (decI a.2 * decI b.2))) with | true => some [RV.d (.st (.pair (.st (.pair .bool (.sl (.int .u32)))) (.st (.pair .bool (.sl (.int .u32)))))) (((redR (encI (decI (encI (decI a.1 * decI b.2)) + decI (encI (decI b.1 * decI a.2)))) (encI (decI a.2 * decI b.2))).1), ((redR (encI (decI (encI (decI a.1 * decI b.2)) + decI (encI (decI b.1 * decI a.2)))) (encI (decI a.2 * decI b.2))).2))] | false => none) | false => none) | false => none) | false => none) | false => none)) | false => none
theorem rad_eq (k : Nat → Cfg → Option (List RV)) (a : (Bool × List Int) × Bool × List Int) (b : (Bool × List Int) × Bool × List Int) : go Try.prog ft tys envBg10 rad_nt k 4000 (start 96 [.d (.st (.pair (.st (.pair .bool (.sl (.int .u32)))) (.st (.pair .bool (.sl (.int .u32)))))) a, .d (.st (.pair (.st (.pair .bool (.sl (.int .u32)))) (.st (.pair .bool (.sl (.int .u32)))))) b]) (.node 0) = rad_t k a b := (go2_eq _ _ _ _ _ _ _ _ _).symm.trans (show go2 Try.prog ft tys envBg10 rad_nt k 4000 (start 96 [.d (.st (.pair (.st (.pair .bool (.sl (.int .u32)))) (.st (.pair .bool (.sl (.int .u32)))))) a, .d (.st (.pair (.st (.pair .bool (.sl (.int .u32)))) (.st (.pair .bool (.sl (.int .u32)))))) b]) (.node 0) = rad_t k a b by kernel_rfl)
theorem rad_s (a : (Bool × List Int) × Bool × List Int) (b : (Bool × List Int) × Bool × List Int) {rX : List RV} (hX : ∃ nX, rad_t (rad_C.k nX) a b = some rX) : rad_C.Res 96 [.d (.st (.pair (.st (.pair .bool (.sl (.int .u32)))) (.st (.pair .bool (.sl (.int .u32)))))) a, .d (.st (.pair (.st (.pair .bool (.sl (.int .u32)))) (.st (.pair .bool (.sl (.int .u32)))))) b] rX := by
  obtain ⟨nX, hX⟩ := hX
  exact ⟨nX, (rad_eq _ a b).trans hX⟩
def rng_nt : NT := []
noncomputable def rng_C : Ctx := ⟨Try.prog, ft, tys, envBg10, rng_nt⟩
def rng_t (_k : Nat → Cfg → Option (List RV)) (a : (Bool × List Int) × Bool × List Int) : Option (List RV) := match decide (okI a.1) with | true => some [RV.d (.st (.pair (.st (.pair .bool (.sl (.int .u32)))) (.st (.pair .bool (.sl (.int .u32)))))) ((encI (-decI a.1)), a.2)] | false => none
theorem rng_eq (k : Nat → Cfg → Option (List RV)) (a : (Bool × List Int) × Bool × List Int) : go Try.prog ft tys envBg10 rng_nt k 4000 (start 98 [.d (.st (.pair (.st (.pair .bool (.sl (.int .u32)))) (.st (.pair .bool (.sl (.int .u32)))))) a]) (.node 0) = rng_t k a := (go2_eq _ _ _ _ _ _ _ _ _).symm.trans (show go2 Try.prog ft tys envBg10 rng_nt k 4000 (start 98 [.d (.st (.pair (.st (.pair .bool (.sl (.int .u32)))) (.st (.pair .bool (.sl (.int .u32)))))) a]) (.node 0) = rng_t k a by kernel_rfl)
theorem rng_s (a : (Bool × List Int) × Bool × List Int) {rX : List RV} (hX : ∃ nX, rng_t (rng_C.k nX) a = some rX) : rng_C.Res 98 [.d (.st (.pair (.st (.pair .bool (.sl (.int .u32)))) (.st (.pair .bool (.sl (.int .u32)))))) a] rX := by
  obtain ⟨nX, hX⟩ := hX
  exact ⟨nX, (rng_eq _ a).trans hX⟩
def rmu_nt : NT := []
noncomputable def rmu_C : Ctx := ⟨Try.prog, ft, tys, envBg10, rmu_nt⟩
def rmu_t (_k : Nat → Cfg → Option (List RV)) (a : (Bool × List Int) × Bool × List Int) (b : (Bool × List Int) × Bool × List Int) : Option (List RV) := match decide (okI a.1 ∧ okI b.1) with | true => (match decide (okI a.2 ∧ okI b.2) with | true => (match decide (redP (encI (decI a.1 * decI b.1)) (encI (decI a.2 * decI b.2))) with | true => some [RV.d (.st (.pair (.st (.pair .bool (.sl (.int .u32)))) (.st (.pair .bool (.sl (.int .u32)))))) (((redR (encI (decI a.1 * decI b.1)) (encI (decI a.2 * decI b.2))).1), ((redR (encI (decI a.1 * decI b.1)) (encI (decI a.2 * decI b.2))).2))] | false => none) | false => none) | false => none
theorem rmu_eq (k : Nat → Cfg → Option (List RV)) (a : (Bool × List Int) × Bool × List Int) (b : (Bool × List Int) × Bool × List Int) : go Try.prog ft tys envBg10 rmu_nt k 4000 (start 94 [.d (.st (.pair (.st (.pair .bool (.sl (.int .u32)))) (.st (.pair .bool (.sl (.int .u32)))))) a, .d (.st (.pair (.st (.pair .bool (.sl (.int .u32)))) (.st (.pair .bool (.sl (.int .u32)))))) b]) (.node 0) = rmu_t k a b := (go2_eq _ _ _ _ _ _ _ _ _).symm.trans (show go2 Try.prog ft tys envBg10 rmu_nt k 4000 (start 94 [.d (.st (.pair (.st (.pair .bool (.sl (.int .u32)))) (.st (.pair .bool (.sl (.int .u32)))))) a, .d (.st (.pair (.st (.pair .bool (.sl (.int .u32)))) (.st (.pair .bool (.sl (.int .u32)))))) b]) (.node 0) = rmu_t k a b by kernel_rfl)
theorem rmu_s (a : (Bool × List Int) × Bool × List Int) (b : (Bool × List Int) × Bool × List Int) {rX : List RV} (hX : ∃ nX, rmu_t (rmu_C.k nX) a b = some rX) : rmu_C.Res 94 [.d (.st (.pair (.st (.pair .bool (.sl (.int .u32)))) (.st (.pair .bool (.sl (.int .u32)))))) a, .d (.st (.pair (.st (.pair .bool (.sl (.int .u32)))) (.st (.pair .bool (.sl (.int .u32)))))) b] rX := by
  obtain ⟨nX, hX⟩ := hX
  exact ⟨nX, (rmu_eq _ a b).trans hX⟩
def rdi_nt : NT := []
noncomputable def rdi_C : Ctx := ⟨Try.prog, ft, tys, envBg10, rdi_nt⟩
def rdi_t (_k : Nat → Cfg → Option (List RV)) (a : (Bool × List Int) × Bool × List Int) (b : (Bool × List Int) × Bool × List Int) : Option (List RV) := match decide (okR b) with | true => (match (cmpR (decR b) 0) == 0 with | true => some [RV.d (.st (.pair (.st (.pair .bool (.sl (.int .u32)))) (.st (.pair .bool (.sl (.int .u32)))))) ((false, []), (false, [])), RV.d (.int .i64) 6] | false => (match decide (okI a.1 ∧ okI b.2) with | true => (match decide (okI a.2 ∧ okI b.1) with | true => (match decide (redP (encI (decI a.1 * decI b.2)) (encI (decI a.2 * decI b.1))) with | true => some [RV.d (.st (.pair (.st (.pair .bool (.sl (.int .u32)))) (.st (.pair .bool (.sl (.int .u32)))))) (((redR (encI (decI a.1 * decI b.2)) (encI (decI a.2 * decI b.1))).1), ((redR (encI (decI a.1 * decI b.2)) (encI (decI a.2 * decI b.1))).2)), RV.d (.int .i64) 0] | false => none) | false => none) | false => none)) | false => none
theorem rdi_eq (k : Nat → Cfg → Option (List RV)) (a : (Bool × List Int) × Bool × List Int) (b : (Bool × List Int) × Bool × List Int) : go Try.prog ft tys envBg10 rdi_nt k 4000 (start 93 [.d (.st (.pair (.st (.pair .bool (.sl (.int .u32)))) (.st (.pair .bool (.sl (.int .u32)))))) a, .d (.st (.pair (.st (.pair .bool (.sl (.int .u32)))) (.st (.pair .bool (.sl (.int .u32)))))) b]) (.node 0) = rdi_t k a b := (go2_eq _ _ _ _ _ _ _ _ _).symm.trans (show go2 Try.prog ft tys envBg10 rdi_nt k 4000 (start 93 [.d (.st (.pair (.st (.pair .bool (.sl (.int .u32)))) (.st (.pair .bool (.sl (.int .u32)))))) a, .d (.st (.pair (.st (.pair .bool (.sl (.int .u32)))) (.st (.pair .bool (.sl (.int .u32)))))) b]) (.node 0) = rdi_t k a b by kernel_rfl)
theorem rdi_s (a : (Bool × List Int) × Bool × List Int) (b : (Bool × List Int) × Bool × List Int) {rX : List RV} (hX : ∃ nX, rdi_t (rdi_C.k nX) a b = some rX) : rdi_C.Res 93 [.d (.st (.pair (.st (.pair .bool (.sl (.int .u32)))) (.st (.pair .bool (.sl (.int .u32)))))) a, .d (.st (.pair (.st (.pair .bool (.sl (.int .u32)))) (.st (.pair .bool (.sl (.int .u32)))))) b] rX := by
  obtain ⟨nX, hX⟩ := hX
  exact ⟨nX, (rdi_eq _ a b).trans hX⟩
theorem rfi_con (n : Int) (h : i64P n) : Con Try.prog 32 [.d (.int .i64) n] [.d (.st (.pair (.st (.pair .bool (.sl (.int .u32)))) (.st (.pair .bool (.sl (.int .u32)))))) (encR (n : Rat))] := by
  refine Ctx.Res.con (C := rfi_C) (ctx_ok envBg10_ok) (rfi_s _ ⟨0, ?_⟩) (fn := Try.f32) (by kernel_rfl) (by kernel_rfl)
  unfold rfi_t encR
  rw [decide_eq_true h, Rat.num_intCast, Rat.den_intCast]
  rfl
theorem okR_sz {a : BR} (h : okR a) : szI (decI a.1) ≤ 100000 ∧ szI (decI a.2) ≤ 100000 := by
  have h1 := okR_bd h
  obtain ⟨e1, e2⟩ := okR_num h
  unfold bdR at h1
  rw [e1, e2] at h1
  exact h1
theorem cmp_signs (a b : Rat) : (cmpI (cmpR a 0) (cmpR b 0) ≠ 0 → cmpI (cmpR a 0) (cmpR b 0) = cmpR a b) := by
  rcases (by grind : a < 0 ∨ a = 0 ∨ 0 < a) with h1 | h1 | h1 <;> rcases (by grind : b < 0 ∨ b = 0 ∨ 0 < b) with h2 | h2 | h2
  · rw [cmpR_lt h1, cmpR_lt h2]; intro h; exact absurd (cmpI_eq _) h
  · rw [cmpR_lt h1, h2, cmpR_eq, cmpR_lt h1]; intro; rfl
  · rw [cmpR_lt h1, cmpR_gt h2, cmpR_lt (by grind)]; intro; rfl
  · rw [h1, cmpR_eq, cmpR_lt h2, cmpR_gt h2]; intro; rfl
  · rw [h1, h2, cmpR_eq]; intro h; exact absurd (cmpI_eq _) h
  · rw [h1, cmpR_eq, cmpR_gt h2, cmpR_lt h2]; intro; rfl
  · rw [cmpR_gt h1, cmpR_lt h2, cmpR_gt (by grind)]; intro; rfl
  · rw [cmpR_gt h1, h2, cmpR_eq, cmpR_gt h1]; intro; rfl
  · rw [cmpR_gt h1, cmpR_gt h2]; intro h; exact absurd (cmpI_eq _) h
theorem rcm_con (a b : BR) (h : okR a ∧ okR b) : Con Try.prog 29 [.d (.st (.pair (.st (.pair .bool (.sl (.int .u32)))) (.st (.pair .bool (.sl (.int .u32)))))) a, .d (.st (.pair (.st (.pair .bool (.sl (.int .u32)))) (.st (.pair .bool (.sl (.int .u32)))))) b] [.d (.int .i64) (cmpR (decR a) (decR b))] := by
  refine Ctx.Res.con (C := rcm_C) (ctx_ok envBg10_ok) (rcm_s _ _ ⟨0, ?_⟩) (fn := Try.f29) (by kernel_rfl) (by kernel_rfl)
  obtain ⟨ha, hb⟩ := h
  obtain ⟨a1, a2⟩ := okR_num ha
  obtain ⟨b1, b2⟩ := okR_num hb
  obtain ⟨sa1, sa2⟩ := okR_sz ha
  obtain ⟨sb1, sb2⟩ := okR_sz hb
  have h1 := szI_mul sa1 sb2
  have h2 := szI_mul sb1 sa2
  unfold rcm_t
  rw [decide_eq_true ha, decide_eq_true hb]
  dsimp only
  have hs := cmp_signs (decR a) (decR b)
  by_cases hc : cmpI (cmpR (decR a) 0) (cmpR (decR b) 0) = 0
  · rw [hc, decide_eq_true (show okI a.1 ∧ okI b.2 from ⟨ha.1, hb.2.1⟩), decide_eq_true (show okI b.1 ∧ okI a.2 from ⟨hb.1, ha.2.1⟩), decide_eq_true (show okI (encI (decI a.1 * decI b.2)) ∧ okI (encI (decI b.1 * decI a.2)) from ⟨okI_enc (by omega), okI_enc (by omega)⟩), dec_enc, dec_enc, ← a1, ← a2, ← b1, ← b2, cmpR_num]
    rfl
  · rw [show (cmpI (cmpR (decR a) 0) (cmpR (decR b) 0) != 0) = true by simpa using hc, hs hc]
theorem rng_con (a : BR) (h : okR a) : Con Try.prog 98 [.d (.st (.pair (.st (.pair .bool (.sl (.int .u32)))) (.st (.pair .bool (.sl (.int .u32)))))) a] [.d (.st (.pair (.st (.pair .bool (.sl (.int .u32)))) (.st (.pair .bool (.sl (.int .u32)))))) (encR (-decR a))] := by
  refine Ctx.Res.con (C := rng_C) (ctx_ok envBg10_ok) (rng_s _ ⟨0, ?_⟩) (fn := Try.f98) (by kernel_rfl) (by kernel_rfl)
  obtain ⟨a1, a2⟩ := okR_num h
  unfold rng_t
  have e : encR (-decR a) = (encI (-decI a.1), a.2) := by
    unfold encR
    rw [Rat.neg_num, a1, show ((-decR a).den : Int) = ((decR a).den : Int) from rfl, a2, ← okI_eq h.2.1]
  rw [decide_eq_true h.1, e]
theorem rad_con (a b : BR) (h : okR a ∧ okR b) : Con Try.prog 96 [.d (.st (.pair (.st (.pair .bool (.sl (.int .u32)))) (.st (.pair .bool (.sl (.int .u32)))))) a, .d (.st (.pair (.st (.pair .bool (.sl (.int .u32)))) (.st (.pair .bool (.sl (.int .u32)))))) b] [.d (.st (.pair (.st (.pair .bool (.sl (.int .u32)))) (.st (.pair .bool (.sl (.int .u32)))))) (encR (decR a + decR b))] := by
  refine Ctx.Res.con (C := rad_C) (ctx_ok envBg10_ok) (rad_s _ _ ⟨0, ?_⟩) (fn := Try.f96) (by kernel_rfl) (by kernel_rfl)
  obtain ⟨ha, hb⟩ := h
  obtain ⟨a1, a2⟩ := okR_num ha
  obtain ⟨b1, b2⟩ := okR_num hb
  obtain ⟨sa1, sa2⟩ := okR_sz ha
  obtain ⟨sb1, sb2⟩ := okR_sz hb
  have pa := ha.2.2.1
  have pb := hb.2.2.1
  have h1 := szI_mul sa1 sb2
  have h2 := szI_mul sb1 sa2
  have h3 := szI_mul sa2 sb2
  have h4 := szI_add h1 h2
  have h5 := szI_add sa1 sb1
  have hda : decR a = Rat.divInt (decI a.1) (decI a.2) := by rw [← a1, ← a2, Rat.num_divInt_den]
  have hdb : decR b = Rat.divInt (decI b.1) (decI b.2) := by rw [← b1, ← b2, Rat.num_divInt_den]
  unfold rad_t
  rw [decide_eq_true (show okI a.2 ∧ okI b.2 from ⟨ha.2.1, hb.2.1⟩)]
  dsimp only
  by_cases hc : decI a.2 = decI b.2
  · rw [hc, cmpI_eq, decide_eq_true (show okI a.1 ∧ okI b.1 from ⟨ha.1, hb.1⟩)]
    rw [decide_eq_true (show redP (encI (decI a.1 + decI b.1)) a.2 from ⟨okI_enc (by omega), ha.2.1, by omega⟩)]
    have e : redR (encI (decI a.1 + decI b.1)) a.2 = encR (decR a + decR b) := by
      unfold redR
      rw [dec_enc, hda, hdb, ← hc, Rat.divInt_eq_div, Rat.divInt_eq_div, Rat.divInt_eq_div, Rat.intCast_add]
      congr 1
      grind
    rw [e]
    rfl
  · have hcm : (cmpI (decI a.2) (decI b.2) == 0) = false := by
      rcases Int.lt_or_lt_of_ne hc with h | h
      · rw [cmpI_lt h]; rfl
      · rw [cmpI_gt h]; rfl
    rw [hcm, decide_eq_true (show okI a.1 ∧ okI b.2 from ⟨ha.1, hb.2.1⟩), decide_eq_true (show okI b.1 ∧ okI a.2 from ⟨hb.1, ha.2.1⟩), decide_eq_true (show okI (encI (decI a.1 * decI b.2)) ∧ okI (encI (decI b.1 * decI a.2)) from ⟨okI_enc (by omega), okI_enc (by omega)⟩)]
    simp only [dec_enc]
    rw [decide_eq_true (show redP (encI (decI a.1 * decI b.2 + decI b.1 * decI a.2)) (encI (decI a.2 * decI b.2)) from ⟨okI_enc (by omega), okI_enc (by omega), by rw [dec_enc]; exact Int.mul_ne_zero (by omega) (by omega)⟩)]
    have e : redR (encI (decI a.1 * decI b.2 + decI b.1 * decI a.2)) (encI (decI a.2 * decI b.2)) = encR (decR a + decR b) := by
      unfold redR
      rw [dec_enc, dec_enc, hda, hdb, Rat.divInt_add_divInt _ _ (by omega) (by omega)]
    rw [e]
theorem rmu_con (a b : BR) (h : okR a ∧ okR b) : Con Try.prog 94 [.d (.st (.pair (.st (.pair .bool (.sl (.int .u32)))) (.st (.pair .bool (.sl (.int .u32)))))) a, .d (.st (.pair (.st (.pair .bool (.sl (.int .u32)))) (.st (.pair .bool (.sl (.int .u32)))))) b] [.d (.st (.pair (.st (.pair .bool (.sl (.int .u32)))) (.st (.pair .bool (.sl (.int .u32)))))) (encR (decR a * decR b))] := by
  refine Ctx.Res.con (C := rmu_C) (ctx_ok envBg10_ok) (rmu_s _ _ ⟨0, ?_⟩) (fn := Try.f94) (by kernel_rfl) (by kernel_rfl)
  obtain ⟨ha, hb⟩ := h
  obtain ⟨a1, a2⟩ := okR_num ha
  obtain ⟨b1, b2⟩ := okR_num hb
  obtain ⟨sa1, sa2⟩ := okR_sz ha
  obtain ⟨sb1, sb2⟩ := okR_sz hb
  have pa := ha.2.2.1
  have pb := hb.2.2.1
  have h1 := szI_mul sa1 sb1
  have h3 := szI_mul sa2 sb2
  have hda : decR a = Rat.divInt (decI a.1) (decI a.2) := by rw [← a1, ← a2, Rat.num_divInt_den]
  have hdb : decR b = Rat.divInt (decI b.1) (decI b.2) := by rw [← b1, ← b2, Rat.num_divInt_den]
  unfold rmu_t
  rw [decide_eq_true (show okI a.1 ∧ okI b.1 from ⟨ha.1, hb.1⟩), decide_eq_true (show okI a.2 ∧ okI b.2 from ⟨ha.2.1, hb.2.1⟩), decide_eq_true (show redP (encI (decI a.1 * decI b.1)) (encI (decI a.2 * decI b.2)) from ⟨okI_enc (by omega), okI_enc (by omega), by rw [dec_enc]; exact Int.mul_ne_zero (by omega) (by omega)⟩)]
  have e : redR (encI (decI a.1 * decI b.1)) (encI (decI a.2 * decI b.2)) = encR (decR a * decR b) := by
    unfold redR
    rw [dec_enc, dec_enc, hda, hdb, Rat.divInt_mul_divInt]
  rw [e]
def rdiP (a b : BR) : Prop := okR a ∧ okR b ∧ decI b.1 ≠ 0
instance (a b : BR) : Decidable (rdiP a b) := by unfold rdiP; infer_instance
theorem rdi_con (a b : BR) (h : rdiP a b) : Con Try.prog 93 [.d (.st (.pair (.st (.pair .bool (.sl (.int .u32)))) (.st (.pair .bool (.sl (.int .u32)))))) a, .d (.st (.pair (.st (.pair .bool (.sl (.int .u32)))) (.st (.pair .bool (.sl (.int .u32)))))) b] [.d (.st (.pair (.st (.pair .bool (.sl (.int .u32)))) (.st (.pair .bool (.sl (.int .u32)))))) (encR (decR a / decR b)), .d (.int .i64) 0] := by
  refine Ctx.Res.con (C := rdi_C) (ctx_ok envBg10_ok) (rdi_s _ _ ⟨0, ?_⟩) (fn := Try.f93) (by kernel_rfl) (by kernel_rfl)
  obtain ⟨ha, hb, hne⟩ := h
  obtain ⟨a1, a2⟩ := okR_num ha
  obtain ⟨b1, b2⟩ := okR_num hb
  obtain ⟨sa1, sa2⟩ := okR_sz ha
  obtain ⟨sb1, sb2⟩ := okR_sz hb
  have pa := ha.2.2.1
  have h1 := szI_mul sa1 sb2
  have h3 := szI_mul sa2 sb1
  have hda : decR a = Rat.divInt (decI a.1) (decI a.2) := by rw [← a1, ← a2, Rat.num_divInt_den]
  have hdb : decR b = Rat.divInt (decI b.1) (decI b.2) := by rw [← b1, ← b2, Rat.num_divInt_den]
  have hnz : (cmpR (decR b) 0 == 0) = false := by
    rw [← cmpR_zero, b1]
    rcases Int.lt_or_lt_of_ne hne with h | h
    · rw [cmpI_lt h]; rfl
    · rw [cmpI_gt h]; rfl
  unfold rdi_t
  rw [decide_eq_true hb, hnz, decide_eq_true (show okI a.1 ∧ okI b.2 from ⟨ha.1, hb.2.1⟩), decide_eq_true (show okI a.2 ∧ okI b.1 from ⟨ha.2.1, hb.1⟩), decide_eq_true (show redP (encI (decI a.1 * decI b.2)) (encI (decI a.2 * decI b.1)) from ⟨okI_enc (by omega), okI_enc (by omega), by rw [dec_enc]; exact Int.mul_ne_zero (by omega) hne⟩)]
  have e : redR (encI (decI a.1 * decI b.2)) (encI (decI a.2 * decI b.1)) = encR (decR a / decR b) := by
    unfold redR
    rw [dec_enc, dec_enc, hda, hdb, Rat.div_def, Rat.inv_divInt, Rat.divInt_mul_divInt]
  rw [e]
def rad_sp : Spec := { keep := false, run := fun _ args k => match args with
  | [.d (.st (.pair (.st (.pair .bool (.sl (.int .u32)))) (.st (.pair .bool (.sl (.int .u32)))))) a, .d (.st (.pair (.st (.pair .bool (.sl (.int .u32)))) (.st (.pair .bool (.sl (.int .u32)))))) b] => match decide (okR a ∧ okR b) with
    | true => k [RV.d (.st (.pair (.st (.pair .bool (.sl (.int .u32)))) (.st (.pair .bool (.sl (.int .u32)))))) (encR (decR a + decR b))]
    | false => none
  | _ => none }
theorem rad_spec : callable Try.prog 96 = true ∧ SpecOk Try.prog 96 rad_sp ∧ ∀ g, rad_sp.mut_ = some g → MCon Try.prog 96 g := by
  refine ⟨by kernel_rfl, fun R args k r h => ?_, fun g h => by simp [rad_sp] at h⟩
  unfold rad_sp at h
  dsimp only at h
  split at h <;> try (cases h; done)
  split at h <;> try (cases h; done)
  rename_i hd
  exact ⟨_, h, rad_con _ _ (of_decide_eq_true hd)⟩

def rng_sp : Spec := { keep := false, run := fun _ args k => match args with
  | [.d (.st (.pair (.st (.pair .bool (.sl (.int .u32)))) (.st (.pair .bool (.sl (.int .u32)))))) a] => match decide (okR a) with
    | true => k [RV.d (.st (.pair (.st (.pair .bool (.sl (.int .u32)))) (.st (.pair .bool (.sl (.int .u32)))))) (encR (-decR a))]
    | false => none
  | _ => none }
theorem rng_spec : callable Try.prog 98 = true ∧ SpecOk Try.prog 98 rng_sp ∧ ∀ g, rng_sp.mut_ = some g → MCon Try.prog 98 g := by
  refine ⟨by kernel_rfl, fun R args k r h => ?_, fun g h => by simp [rng_sp] at h⟩
  unfold rng_sp at h
  dsimp only at h
  split at h <;> try (cases h; done)
  split at h <;> try (cases h; done)
  rename_i hd
  exact ⟨_, h, rng_con _ (of_decide_eq_true hd)⟩

def envBg11 : Env := [(51, fri_sp), (75, isg_sp), (57, icm_sp), (74, iad_sp), (99, ing_sp), (50, imu_sp), (82, unt_sp), (97, red_sp), (55, cmp_sp), (60, who_sp), (56, rsg_sp), (96, rad_sp), (98, rng_sp)]
theorem envBg11_ok : EnvAll Try.prog envBg11 := ⟨fri_spec, isg_spec, icm_spec, iad_spec, ing_spec, imu_spec, unt_spec, red_spec, cmp_spec, who_spec, rsg_spec, rad_spec, rng_spec, trivial⟩
def rsu_nt : NT := []
noncomputable def rsu_C : Ctx := ⟨Try.prog, ft, tys, envBg11, rsu_nt⟩
def rsu_t (_k : Nat → Cfg → Option (List RV)) (a : (Bool × List Int) × Bool × List Int) (b : (Bool × List Int) × Bool × List Int) : Option (List RV) := match decide (okR b) with | true => (match decide (okR a ∧ okR (encR (-decR b))) with | true => some [RV.d (.st (.pair (.st (.pair .bool (.sl (.int .u32)))) (.st (.pair .bool (.sl (.int .u32)))))) (((encR (decR a + decR (encR (-decR b)))).1), ((encR (decR a + decR (encR (-decR b)))).2))] | false => none) | false => none
theorem rsu_eq (k : Nat → Cfg → Option (List RV)) (a : (Bool × List Int) × Bool × List Int) (b : (Bool × List Int) × Bool × List Int) : go Try.prog ft tys envBg11 rsu_nt k 4000 (start 95 [.d (.st (.pair (.st (.pair .bool (.sl (.int .u32)))) (.st (.pair .bool (.sl (.int .u32)))))) a, .d (.st (.pair (.st (.pair .bool (.sl (.int .u32)))) (.st (.pair .bool (.sl (.int .u32)))))) b]) (.node 0) = rsu_t k a b := (go2_eq _ _ _ _ _ _ _ _ _).symm.trans (show go2 Try.prog ft tys envBg11 rsu_nt k 4000 (start 95 [.d (.st (.pair (.st (.pair .bool (.sl (.int .u32)))) (.st (.pair .bool (.sl (.int .u32)))))) a, .d (.st (.pair (.st (.pair .bool (.sl (.int .u32)))) (.st (.pair .bool (.sl (.int .u32)))))) b]) (.node 0) = rsu_t k a b by kernel_rfl)
theorem rsu_s (a : (Bool × List Int) × Bool × List Int) (b : (Bool × List Int) × Bool × List Int) {rX : List RV} (hX : ∃ nX, rsu_t (rsu_C.k nX) a b = some rX) : rsu_C.Res 95 [.d (.st (.pair (.st (.pair .bool (.sl (.int .u32)))) (.st (.pair .bool (.sl (.int .u32)))))) a, .d (.st (.pair (.st (.pair .bool (.sl (.int .u32)))) (.st (.pair .bool (.sl (.int .u32)))))) b] rX := by
  obtain ⟨nX, hX⟩ := hX
  exact ⟨nX, (rsu_eq _ a b).trans hX⟩
theorem rsu_con (a b : BR) (h : okR a ∧ okR b) : Con Try.prog 95 [.d (.st (.pair (.st (.pair .bool (.sl (.int .u32)))) (.st (.pair .bool (.sl (.int .u32)))))) a, .d (.st (.pair (.st (.pair .bool (.sl (.int .u32)))) (.st (.pair .bool (.sl (.int .u32)))))) b] [.d (.st (.pair (.st (.pair .bool (.sl (.int .u32)))) (.st (.pair .bool (.sl (.int .u32)))))) (encR (decR a - decR b))] := by
  refine Ctx.Res.con (C := rsu_C) (ctx_ok envBg11_ok) (rsu_s _ _ ⟨0, ?_⟩) (fn := Try.f95) (by kernel_rfl) (by kernel_rfl)
  obtain ⟨ha, hb⟩ := h
  unfold rsu_t
  rw [decide_eq_true hb, dec_encR, Rat.sub_eq_add_neg, decide_eq_true (show okR a ∧ okR (encR (-decR b)) from ⟨ha, okR_enc (bdR_neg (okR_bd hb)) (Nat.le_refl _)⟩)]
end Go.Proofs.Ytcaiedfkohigjaa
/- integer: Sqrt, Int64. -/
namespace Go.Proofs.Ytcaiedfkohigjaa
open Go.RowKit
/-- The square root, rounded down, with fuel. -/
def isqF : Nat → Nat → Nat
  | 0, _ => 0
  | f + 1, n => bif decide (n = 0) then 0 else bif decide ((2 * isqF f (n / 4) + 1) * (2 * isqF f (n / 4) + 1) ≤ n) then 2 * isqF f (n / 4) + 1 else 2 * isqF f (n / 4)
def isqN (n : Nat) : Nat := isqF (n.log2 + 1) n
theorem isqF_ok : ∀ (f n : Nat), n < 2 ^ f → isqF f n * isqF f n ≤ n ∧ n < (isqF f n + 1) * (isqF f n + 1)
  | 0, n, h => by
    have : n = 0 := by simpa using h
    subst this
    exact ⟨Nat.le_refl _, by decide⟩
  | f + 1, n, h => by
    rcases Nat.eq_zero_or_pos n with h0 | h0
    · subst h0
      show isqF (f + 1) 0 * isqF (f + 1) 0 ≤ 0 ∧ _
      exact ⟨Nat.le_refl _, by show 0 < (0 + 1) * (0 + 1); decide⟩
    · have h4 : n / 4 < 2 ^ f := by
        rw [Nat.pow_succ] at h
        omega
      obtain ⟨h1, h2⟩ := isqF_ok f (n / 4) h4
      simp only [isqF]
      rw [decide_eq_false (show ¬ n = 0 by omega)]
      generalize isqF f (n / 4) = s at h1 h2
      have e1 : (2 * s) * (2 * s) = 4 * (s * s) := by grind
      have e2 : (2 * s + 1 + 1) * (2 * s + 1 + 1) = 4 * ((s + 1) * (s + 1)) := by grind
      by_cases hc : (2 * s + 1) * (2 * s + 1) ≤ n
      · rw [decide_eq_true hc]
        exact ⟨hc, by show n < (2 * s + 1 + 1) * (2 * s + 1 + 1); rw [e2]; omega⟩
      · rw [decide_eq_false hc]
        exact ⟨by show (2 * s) * (2 * s) ≤ n; rw [e1]; omega, by show n < (2 * s + 1) * (2 * s + 1); omega⟩
theorem isqN_ok (n : Nat) : isqN n * isqN n ≤ n ∧ n < (isqN n + 1) * (isqN n + 1) := isqF_ok _ n Nat.lt_log2_self
/-- The square root of an integer that is not negative. -/
def isqI (z : Int) : Int := (isqN z.toNat : Int)
theorem isqI_ok {z : Int} (h : 0 ≤ z) : 0 ≤ isqI z ∧ isqI z * isqI z ≤ z ∧ z < (isqI z + 1) * (isqI z + 1) := by
  obtain ⟨h1, h2⟩ := isqN_ok z.toNat
  unfold isqI
  have h3 : ((isqN z.toNat * isqN z.toNat : Nat) : Int) ≤ (z.toNat : Int) := by omega
  have h4 : (z.toNat : Int) < (((isqN z.toNat + 1) * (isqN z.toNat + 1) : Nat) : Int) := by omega
  rw [Int.natCast_mul] at h3 h4
  exact ⟨by omega, by omega, by simp only [Int.natCast_add, Int.natCast_one] at h4; omega⟩
theorem sq_mono {a b : Int} (ha : 0 ≤ a) (h : a ≤ b) : a * a ≤ b * b := Int.mul_le_mul h h ha (by omega)
theorem sq_lt {a b : Int} (hb : 0 ≤ b) (h : a * a < b * b) : a < b := by
  apply Classical.byContradiction
  intro hc
  have := sq_mono hb (show b ≤ a by omega)
  omega
theorem isqI_eq {z s : Int} (h0 : 0 ≤ s) (h1 : s * s ≤ z) (h2 : z < (s + 1) * (s + 1)) : isqI z = s := by
  obtain ⟨g0, g1, g2⟩ := isqI_ok (show 0 ≤ z by have := sq_mono (a := 0) (by omega) h0; omega)
  have a1 := sq_lt (b := s + 1) (a := isqI z) (by omega) (by omega)
  have a2 := sq_lt (b := isqI z + 1) (a := s) (by omega) (by omega)
  omega
/-- A step of Newton's method. -/
theorem newton {a x s : Int} (hx : 0 < x) (hs : 0 ≤ s) (h1 : s * s ≤ a) : s ≤ (x + a / x) / 2 := by
  have hq := Int.mul_ediv_add_emod a x
  have hm := Int.emod_lt_of_pos a hx
  apply Classical.byContradiction
  intro hc
  have h2 : a / x ≤ 2 * s - x - 1 := by omega
  have h3 : x * (a / x) ≤ x * (2 * s - x - 1) := Int.mul_le_mul_of_nonneg_left h2 (by omega)
  have h4 : 0 ≤ (s - x) * (s - x) := by
    rcases Int.le_total 0 (s - x) with h | h
    · exact Int.mul_nonneg h h
    · exact Int.mul_nonneg_of_nonpos_of_nonpos h h
  grind
theorem newton_end {a x s : Int} (hx : 0 < x) (hs : s ≤ x) (h1 : s * s ≤ a) (h2 : a < (s + 1) * (s + 1)) (h3 : 0 ≤ s) (h : x ≤ (x + a / x) / 2) : x = s := by
  have hq := Int.mul_ediv_add_emod a x
  have hm := Int.emod_nonneg a (show x ≠ 0 by omega)
  have h4 : x ≤ a / x := by omega
  have h5 : x * x ≤ x * (a / x) := Int.mul_le_mul_of_nonneg_left h4 (by omega)
  have := sq_lt (a := x) (b := s + 1) (by omega) (by omega)
  omega
def sqtI (x : BI) : BI := bif x.1 then (false, []) else encI (isqI (decI x))
def sqtE (x : BI) : Int := bif x.1 then 7 else 0
def envBg12 : Env := [(51, fri_sp), (57, icm_sp), (74, iad_sp), (69, sgd_sp), (52, idm_sp)]
theorem envBg12_ok : EnvAll Try.prog envBg12 := ⟨fri_spec, icm_spec, iad_spec, sgd_spec, idm_spec, trivial⟩
def isq_nt : NT := [((53, 25), { keep := [1, 2, 5, 6], hl := 6 })]
noncomputable def isq_C : Ctx := ⟨Try.prog, ft, tys, envBg12, isq_nt⟩
def isq_h25 (x : Bool × List Int) (b4_0 : Bool) (b4_1 : List Int) : Cfg := ⟨53, [.blk 0], [(1, .box 0 0), (2, .box 1 0), (5, .box 4 0), (6, .box 5 0)], [.box 59 [SB x.1, .d (.sl (.int .u32)) x.2], .box 59 [SB false, .nil], .gone, .row 82 (.int .u32) ([1]), .box 59 [SB b4_0, .d (.sl (.int .u32)) b4_1], .box 59 [SB ((encI (2 : Int)).1), .d (.sl (.int .u32)) ((encI (2 : Int)).2)]], 0, []⟩
noncomputable def isq_t (k : Nat → Cfg → Option (List RV)) (x : Bool × List Int) : Option (List RV) := match x.1 with | true => some [RV.d (.st (.pair .bool (.sl (.int .u32)))) (false, []), RV.d (.int .i64) 7] | false => (match (x.2.length : Int) == 0 with | true => some [RV.d (.st (.pair .bool (.sl (.int .u32)))) (false, []), RV.d (.int .i64) 0] | false => (match decide ((0 : Int) ≤ IntKind.i64.wrap (Int.tdiv (IntKind.i64.wrap ((x.2.length : Int) + 1)) 2) ∧ (IntKind.i64.wrap (Int.tdiv (IntKind.i64.wrap ((x.2.length : Int) + 1)) 2)) * ((4 : Nat) : Int) ≤ 140737488355328 ∧ IntKind.i64.wrap (Int.tdiv (IntKind.i64.wrap ((x.2.length : Int) + 1)) 2) ≤ 140737488355328) with | true => (match decide (((List.replicate (IntKind.i64.wrap (Int.tdiv (IntKind.i64.wrap ((x.2.length : Int) + 1)) 2)).toNat (0 : Int)).length + ([1]).length) * 4 ≤ 140737488355328 ∧ (List.replicate (IntKind.i64.wrap (Int.tdiv (IntKind.i64.wrap ((x.2.length : Int) + 1)) 2)).toNat (0 : Int)).length + ([1]).length ≤ 140737488355328) with | true => (match decide (LimS ((List.replicate (IntKind.i64.wrap (Int.tdiv (IntKind.i64.wrap ((x.2.length : Int) + 1)) 2)).toNat (0 : Int)) ++ ([1]))) with | true => (match decide (i64P (2 : Int)) with | true => k 25 (isq_h25 x ((encI (sgnI false (val ((List.replicate (IntKind.i64.wrap (Int.tdiv (IntKind.i64.wrap ((x.2.length : Int) + 1)) 2)).toNat (0 : Int)) ++ ([1]))))).1) ((encI (sgnI false (val ((List.replicate (IntKind.i64.wrap (Int.tdiv (IntKind.i64.wrap ((x.2.length : Int) + 1)) 2)).toNat (0 : Int)) ++ ([1]))))).2)) | false => none) | false => none) | false => none) | false => none))
theorem isq_eq (k : Nat → Cfg → Option (List RV)) (x : Bool × List Int) : go Try.prog ft tys envBg12 isq_nt k 4000 (start 53 [.d (.st (.pair .bool (.sl (.int .u32)))) x]) (.node 0) = isq_t k x := (go2_eq _ _ _ _ _ _ _ _ _).symm.trans (show go2 Try.prog ft tys envBg12 isq_nt k 4000 (start 53 [.d (.st (.pair .bool (.sl (.int .u32)))) x]) (.node 0) = isq_t k x by kernel_rfl)
theorem isq_s (x : Bool × List Int) {rX : List RV} (hX : ∃ nX, isq_t (isq_C.k nX) x = some rX) : isq_C.Res 53 [.d (.st (.pair .bool (.sl (.int .u32)))) x] rX := by
  obtain ⟨nX, hX⟩ := hX
  exact ⟨nX, (isq_eq _ x).trans hX⟩
noncomputable def isq_h25_t (k : Nat → Cfg → Option (List RV)) (x : Bool × List Int) (b4_0 : Bool) (b4_1 : List Int) : Option (List RV) := match decide (idmP x (b4_0, b4_1)) with | true => bothV (match decide (okI (b4_0, b4_1) ∧ okI (encI (decI x / decI (b4_0, b4_1)))) with | true => bothV (match decide (idmP (encI (decI (b4_0, b4_1) + decI (encI (decI x / decI (b4_0, b4_1))))) (encI (2 : Int))) with | true => dup (.b .l .l) (match decide (okI (encI (decI (encI (decI (b4_0, b4_1) + decI (encI (decI x / decI (b4_0, b4_1))))) / decI (encI (2 : Int)))) ∧ okI (b4_0, b4_1)) with | true => (match decide ((cmpI (decI (encI (decI (encI (decI (b4_0, b4_1) + decI (encI (decI x / decI (b4_0, b4_1))))) / decI (encI (2 : Int))))) (decI (b4_0, b4_1))) ≥ 0) with | true => some [RV.d (.st (.pair .bool (.sl (.int .u32)))) (b4_0, b4_1), RV.d (.int .i64) 0] | false => k 25 (isq_h25 x ((encI (decI (encI (decI (b4_0, b4_1) + decI (encI (decI x / decI (b4_0, b4_1))))) / decI (encI (2 : Int)))).1) ((encI (decI (encI (decI (b4_0, b4_1) + decI (encI (decI x / decI (b4_0, b4_1))))) / decI (encI (2 : Int)))).2))) | false => none) | false => none) (dup (.b (.b .l .l) (.b .l .l)) (match decide (idmP (encI (decI (b4_0, b4_1) + decI (encI (decI x / decI (b4_0, b4_1))))) (encI (2 : Int))) with | true => (match decide (okI (encI (decI (encI (decI (b4_0, b4_1) + decI (encI (decI x / decI (b4_0, b4_1))))) / decI (encI (2 : Int)))) ∧ okI (b4_0, b4_1)) with | true => (match decide ((cmpI (decI (encI (decI (encI (decI (b4_0, b4_1) + decI (encI (decI x / decI (b4_0, b4_1))))) / decI (encI (2 : Int))))) (decI (b4_0, b4_1))) ≥ 0) with | true => some [RV.d (.st (.pair .bool (.sl (.int .u32)))) (b4_0, b4_1), RV.d (.int .i64) 0] | false => k 25 (isq_h25 x ((encI (decI (encI (decI (b4_0, b4_1) + decI (encI (decI x / decI (b4_0, b4_1))))) / decI (encI (2 : Int)))).1) ((encI (decI (encI (decI (b4_0, b4_1) + decI (encI (decI x / decI (b4_0, b4_1))))) / decI (encI (2 : Int)))).2))) | false => none) | false => none)) | false => none) (dup (.b .l .l) (bothV (match decide (okI (b4_0, b4_1) ∧ okI (encI (decI x / decI (b4_0, b4_1)))) with | true => dup (.b .l .l) (match decide (idmP (encI (decI (b4_0, b4_1) + decI (encI (decI x / decI (b4_0, b4_1))))) (encI (2 : Int))) with | true => (match decide (okI (encI (decI (encI (decI (b4_0, b4_1) + decI (encI (decI x / decI (b4_0, b4_1))))) / decI (encI (2 : Int)))) ∧ okI (b4_0, b4_1)) with | true => (match decide ((cmpI (decI (encI (decI (encI (decI (b4_0, b4_1) + decI (encI (decI x / decI (b4_0, b4_1))))) / decI (encI (2 : Int))))) (decI (b4_0, b4_1))) ≥ 0) with | true => some [RV.d (.st (.pair .bool (.sl (.int .u32)))) (b4_0, b4_1), RV.d (.int .i64) 0] | false => k 25 (isq_h25 x ((encI (decI (encI (decI (b4_0, b4_1) + decI (encI (decI x / decI (b4_0, b4_1))))) / decI (encI (2 : Int)))).1) ((encI (decI (encI (decI (b4_0, b4_1) + decI (encI (decI x / decI (b4_0, b4_1))))) / decI (encI (2 : Int)))).2))) | false => none) | false => none) | false => none) (match decide (okI (b4_0, b4_1) ∧ okI (encI (decI x / decI (b4_0, b4_1)))) with | true => (match decide (idmP (encI (decI (b4_0, b4_1) + decI (encI (decI x / decI (b4_0, b4_1))))) (encI (2 : Int))) with | true => (match decide (okI (encI (decI (encI (decI (b4_0, b4_1) + decI (encI (decI x / decI (b4_0, b4_1))))) / decI (encI (2 : Int)))) ∧ okI (b4_0, b4_1)) with | true => (match decide ((cmpI (decI (encI (decI (encI (decI (b4_0, b4_1) + decI (encI (decI x / decI (b4_0, b4_1))))) / decI (encI (2 : Int))))) (decI (b4_0, b4_1))) ≥ 0) with | true => some [RV.d (.st (.pair .bool (.sl (.int .u32)))) (b4_0, b4_1), RV.d (.int .i64) 0] | false => k 25 (isq_h25 x ((encI (decI (encI (decI (b4_0, b4_1) + decI (encI (decI x / decI (b4_0, b4_1))))) / decI (encI (2 : Int)))).1) ((encI (decI (encI (decI (b4_0, b4_1) + decI (encI (decI x / decI (b4_0, b4_1))))) / decI (encI (2 : Int)))).2))) | false => none) | false => none) | false => none))) | false => none
theorem isq_h25_eq (k : Nat → Cfg → Option (List RV)) (x : Bool × List Int) (b4_0 : Bool) (b4_1 : List Int) : go Try.prog ft tys envBg12 isq_nt k 4000 { isq_h25 x b4_0 b4_1 with K := .lp 25 :: (isq_h25 x b4_0 b4_1).K } (.node 26) = isq_h25_t k x b4_0 b4_1 := (go2_eq _ _ _ _ _ _ _ _ _).symm.trans (show go2 Try.prog ft tys envBg12 isq_nt k 4000 { isq_h25 x b4_0 b4_1 with K := .lp 25 :: (isq_h25 x b4_0 b4_1).K } (.node 26) = isq_h25_t k x b4_0 b4_1 by kernel_rfl)
theorem isq_h25_s (x : Bool × List Int) (b4_0 : Bool) (b4_1 : List Int) {rX : List RV} (hX : ∃ nX, isq_h25_t (isq_C.k nX) x b4_0 b4_1 = some rX) : isq_C.Runs 25 (isq_h25 x b4_0 b4_1) rX := by
  obtain ⟨nX, hX⟩ := hX
  exact ⟨nX + 1, (isq_h25_eq _ x b4_0 b4_1).trans hX⟩
def i64_nt : NT := [((54, 16), { keep := [1, 4, 5], hl := 1 })]
noncomputable def i64_C : Ctx := ⟨Try.prog, ft, tys, envBg12, i64_nt⟩
def i64_h16 (x : Bool × List Int) (s4 : Int) (s5 : Int) : Cfg := ⟨54, [.blk 0, .seq 27], [(1, .box 0 0), (4, .d (.int .u64) s4), (5, SI s5)], [.box 59 [SB x.1, .d (.sl (.int .u32)) x.2]], 0, []⟩
noncomputable def i64_t (k : Nat → Cfg → Option (List RV)) (x : Bool × List Int) : Option (List RV) := match decide (i64P ((-9223372036854775808) : Int)) with | true => (match decide (okI x ∧ okI (encI ((-9223372036854775808) : Int))) with | true => dup (.b .l .l) (match decide ((cmpI (decI x) (decI (encI ((-9223372036854775808) : Int)))) < 0) with | true => some [RV.d (.int .i64) 0, RV.d .bool false] | false => (match decide (i64P (9223372036854775807 : Int)) with | true => (match decide (okI x ∧ okI (encI (9223372036854775807 : Int))) with | true => (match decide ((cmpI (decI x) (decI (encI (9223372036854775807 : Int)))) > 0) with | true => some [RV.d (.int .i64) 0, RV.d .bool false] | false => k 16 (i64_h16 x 0 (IntKind.i64.wrap ((x.2.length : Int) - 1)))) | false => none) | false => none)) | false => none) | false => none
theorem i64_eq (k : Nat → Cfg → Option (List RV)) (x : Bool × List Int) : go Try.prog ft tys envBg12 i64_nt k 4000 (start 54 [.d (.st (.pair .bool (.sl (.int .u32)))) x]) (.node 0) = i64_t k x := (go2_eq _ _ _ _ _ _ _ _ _).symm.trans (show go2 Try.prog ft tys envBg12 i64_nt k 4000 (start 54 [.d (.st (.pair .bool (.sl (.int .u32)))) x]) (.node 0) = i64_t k x by kernel_rfl)
theorem i64_s (x : Bool × List Int) {rX : List RV} (hX : ∃ nX, i64_t (i64_C.k nX) x = some rX) : i64_C.Res 54 [.d (.st (.pair .bool (.sl (.int .u32)))) x] rX := by
  obtain ⟨nX, hX⟩ := hX
  exact ⟨nX, (i64_eq _ x).trans hX⟩
noncomputable def i64_h16_t (k : Nat → Cfg → Option (List RV)) (x : Bool × List Int) (s4 : Int) (s5 : Int) : Option (List RV) := match decide (s5 ≥ 0) with | true => (match getI x.2 s5 with | some x1 => k 16 (i64_h16 x (IntKind.u64.wrap ((IntKind.u64.wrap (s4 * 1000000000)) + (IntKind.u64.wrap x1))) (IntKind.i64.wrap (s5 - 1))) | none => none) | false => (match x.1 with | true => some [RV.d (.int .i64) (IntKind.i64.wrap (IntKind.u64.wrap (0 - s4))), RV.d .bool true] | false => some [RV.d (.int .i64) (IntKind.i64.wrap s4), RV.d .bool true])
theorem i64_h16_eq (k : Nat → Cfg → Option (List RV)) (x : Bool × List Int) (s4 : Int) (s5 : Int) : go Try.prog ft tys envBg12 i64_nt k 4000 { i64_h16 x s4 s5 with K := .lp 16 :: (i64_h16 x s4 s5).K } (.node 17) = i64_h16_t k x s4 s5 := (go2_eq _ _ _ _ _ _ _ _ _).symm.trans (show go2 Try.prog ft tys envBg12 i64_nt k 4000 { i64_h16 x s4 s5 with K := .lp 16 :: (i64_h16 x s4 s5).K } (.node 17) = i64_h16_t k x s4 s5 by kernel_rfl)
theorem i64_h16_s (x : Bool × List Int) (s4 : Int) (s5 : Int) {rX : List RV} (hX : ∃ nX, i64_h16_t (i64_C.k nX) x s4 s5 = some rX) : i64_C.Runs 16 (i64_h16 x s4 s5) rX := by
  obtain ⟨nX, hX⟩ := hX
  exact ⟨nX + 1, (i64_h16_eq _ x s4 s5).trans hX⟩
theorem isq_loop (x : BI) (hx : okI x) (h0 : 0 < decI x) : ∀ (m : Nat) (X : Int), X.toNat = m → 0 < X → isqI (decI x) ≤ X → szI X ≤ 900000 → isq_C.Runs 25 (isq_h25 x (encI X).1 (encI X).2) [.d (.st (.pair .bool (.sl (.int .u32)))) (encI (isqI (decI x))), .d (.int .i64) 0] := by
  intro m
  induction m using Nat.strongRecOn with
  | ind m ih =>
    intro X hm hX hs hsz
    obtain ⟨g0, g1, g2⟩ := isqI_ok (Int.le_of_lt h0)
    have hq0 : 0 ≤ decI x / X := Int.ediv_nonneg (by omega) (by omega)
    have hq1 : decI x / X ≤ decI x := Int.ediv_le_self _ (by omega)
    have oX : okI (encI X) := okI_enc (by omega)
    have sq : szI (decI x / X) ≤ 1000000 := Nat.le_trans (szI_of_le (by omega)) (okI_sz hx)
    have p1 : idmP x (encI X) := ⟨hx, oX, by rw [dec_enc]; exact hX⟩
    -- the quotient is small or the sum is: both are at most the root of a number above
    have ssum : szI (X + decI x / X) ≤ 1000000 := by
      have b1 := szI_bd hsz
      have b2 := szI_bd (okI_sz hx)
      have e : pw 1000000 = pw 900000 * pw 100000 := by rw [← pw_add]
      have p9 : (1000 : Int) ≤ pw 100000 := by
        have : pw 100000 = pw 99999 * 1000000000 := pw_succ 99999
        have := pw_pos 99999
        omega
      have p8 := pw_pos 900000
      have h8 : pw 900000 * 1000 ≤ pw 900000 * pw 100000 := Int.mul_le_mul_of_nonneg_left p9 (by omega)
      rcases Int.lt_or_le X 2 with hX1 | hX1
      · -- X = 1: then the number is less than 4
        have : X = 1 := by omega
        subst this
        have : isqI (decI x) ≤ 1 := hs
        have h4 : decI x < 4 := by
          have := sq_mono (a := isqI (decI x) + 1) (b := 2) (by omega) (by omega)
          omega
        refine szI_le ?_ ?_ <;> (rw [e, Int.ediv_one]; omega)
      · have hq2 : decI x / X ≤ decI x / 2 := by
          have := Int.ediv_mul_le (decI x) (show X ≠ 0 by omega)
          have h2 : decI x / X * 2 ≤ decI x / X * X := Int.mul_le_mul_of_nonneg_left hX1 hq0
          omega
        refine szI_le ?_ ?_ <;> (rw [e] at b2 ⊢; omega)
    have o1 : okI (encI X) ∧ okI (encI (decI x / X)) := ⟨oX, okI_enc sq⟩
    have p2 : idmP (encI (X + decI x / X)) (encI 2) := ⟨okI_enc ssum, by decide, by rw [dec_enc]; decide⟩
    have hn := newton hX g0 g1
    have o2 : okI (encI ((X + decI x / X) / 2)) ∧ okI (encI X) := ⟨okI_enc (Nat.le_trans (szI_of_le (by omega)) ssum), oX⟩
    by_cases hc : X ≤ (X + decI x / X) / 2
    · have hXs := newton_end hX hs g1 g2 g0 hc
      refine isq_h25_s _ _ _ ⟨0, ?_⟩
      unfold isq_h25_t
      simp only [both_self, bothV_self, dup_eq]
      have e : ∀ z : Int, ((encI z).1, (encI z).2) = encI z := fun z => rfl
      simp only [e, dec_enc, decide_eq_true p1, decide_eq_true o1, decide_eq_true p2, decide_eq_true o2]
      have hg : decide (cmpI ((X + decI x / X) / 2) X ≥ 0) = true := by
        rcases Int.lt_or_eq_of_le hc with h | h
        · rw [cmpI_gt h]; rfl
        · rw [← h, cmpI_eq]; rfl
      rw [hg, hXs]
    · obtain ⟨n, hN⟩ := ih ((X + decI x / X) / 2).toNat (by omega) ((X + decI x / X) / 2) rfl (by
        rcases Int.lt_or_le 0 (isqI (decI x)) with h | h
        · omega
        · exfalso
          have : isqI (decI x) = 0 := by omega
          rw [this] at g2
          omega) hn (Nat.le_trans (szI_of_le (by omega)) hsz)
      refine isq_h25_s _ _ _ ⟨n, ?_⟩
      unfold isq_h25_t
      simp only [both_self, bothV_self, dup_eq]
      have e : ∀ z : Int, ((encI z).1, (encI z).2) = encI z := fun z => rfl
      simp only [e, dec_enc, decide_eq_true p1, decide_eq_true o1, decide_eq_true p2, decide_eq_true o2]
      rw [cmpI_lt (by omega)]
      exact hN
theorem isq_con (x : Bool × List Int) (h : okI x) : Con Try.prog 53 [.d (.st (.pair .bool (.sl (.int .u32)))) x] [.d (.st (.pair .bool (.sl (.int .u32)))) (sqtI x), .d (.int .i64) (sqtE x)] := by
  refine Ctx.Res.con (C := isq_C) (ctx_ok envBg12_ok) ?_ (fn := Try.f53) (by kernel_rfl) (by kernel_rfl)
  obtain ⟨x0, x1, x2⟩ := okI_val h
  have hl := h.2.2
  cases hn : x.1
  · by_cases hz : x.2 = []
    · refine isq_s _ ⟨0, ?_⟩
      unfold isq_t sqtI sqtE
      have : decI x = 0 := by unfold decI; rw [hn, hz]; rfl
      rw [hn, hz, this]
      rfl
    · have hp : 0 < val x.2 := can_val_pos h.1 hz
      have hd : decI x = val x.2 := by unfold decI; rw [hn]; rfl
      have hlen := List.length_pos_iff.2 hz
      have hk : IntKind.i64.wrap (Int.tdiv (IntKind.i64.wrap ((x.2.length : Int) + 1)) 2) = (((x.2.length + 1) / 2 : Nat) : Int) := by
        rw [wrapS (by omega), tdivP (by omega), wrap64 (by omega) (by omega)]
        omega
      have hv : val (List.replicate ((x.2.length + 1) / 2) 0 ++ [1]) = pw ((x.2.length + 1) / 2) := by
        rw [val_append, val_rep, List.length_replicate]
        simp [val]
      have hL : LimS (List.replicate ((x.2.length + 1) / 2) 0 ++ [1]) := by
        refine ⟨fun y hy => ?_, by simp; omega⟩
        rcases List.mem_append.1 hy with hy | hy
        · have := List.eq_of_mem_replicate hy; omega
        · simp at hy; omega
      have hpos := pw_pos ((x.2.length + 1) / 2)
      obtain ⟨n, hN⟩ := isq_loop x h (by omega) _ (pw ((x.2.length + 1) / 2)) rfl hpos (by
          obtain ⟨g0, g1, g2⟩ := isqI_ok (show 0 ≤ decI x by omega)
          have hlt := val_lt h.1.1
          have hm := pw_mono (show x.2.length ≤ (x.2.length + 1) / 2 + (x.2.length + 1) / 2 by omega)
          rw [pw_add] at hm
          have := sq_lt (a := isqI (decI x)) (b := pw ((x.2.length + 1) / 2)) (by omega) (by omega)
          omega) (szI_le (k := 900000) (by have := pw_pos 900000; omega) (by
            have := pw_mono (show (x.2.length + 1) / 2 + 1 ≤ 900000 by omega)
            rw [pw_succ] at this
            omega))
      refine isq_s _ ⟨n, ?_⟩
      unfold isq_t sqtI sqtE
      simp only [both_self, bothV_self, dup_eq, hk]
      rw [hn, show ((x.2.length : Int) == 0) = false by simp; omega]
      simp only [Int.toNat_natCast]
      rw [decide_eq_true (show (0 : Int) ≤ (((x.2.length + 1) / 2 : Nat) : Int) ∧ (((x.2.length + 1) / 2 : Nat) : Int) * ((4 : Nat) : Int) ≤ 140737488355328 ∧ (((x.2.length + 1) / 2 : Nat) : Int) ≤ 140737488355328 by omega)]
      rw [decide_eq_true (show ((List.replicate ((x.2.length + 1) / 2) (0 : Int)).length + ([1] : List Nat).length) * 4 ≤ 140737488355328 ∧ (List.replicate ((x.2.length + 1) / 2) (0 : Int)).length + ([1] : List Nat).length ≤ 140737488355328 by simp; omega)]
      rw [decide_eq_true hL, decide_eq_true (show i64P 2 by decide), hv]
      exact hN
  · refine isq_s _ ⟨0, ?_⟩
    unfold isq_t sqtI sqtE
    rw [hn]
    rfl
theorem i64_loop (x : BI) (hx : okI x) (hv : val x.2 ≤ 9223372036854775808) : ∀ (i : Nat), i ≤ x.2.length → i64_C.Runs 16 (i64_h16 x (val (x.2.drop i)) ((i : Int) - 1)) [.d (.int .i64) (IntKind.i64.wrap (bif x.1 then IntKind.u64.wrap (0 - val x.2) else val x.2)), .d .bool true]
  | 0, _ => by
    refine i64_h16_s _ _ _ ⟨0, ?_⟩
    unfold i64_h16_t
    rw [decide_eq_false (by omega), List.drop_zero]
    cases x.1 <;> rfl
  | i + 1, hi => by
    obtain ⟨n, ih⟩ := i64_loop x hx hv i (by omega)
    have h0 := hx.2.2
    have hlim := hx.1.1
    have hd : x.2.drop i = x.2[i] :: x.2.drop (i + 1) := drop_get (by omega)
    have hle : ∀ j, val (x.2.drop j) ≤ 9223372036854775808 ∧ 0 ≤ val (x.2.drop j) := fun j => by
      have l1 : Lim (x.2.drop j) := fun y hy => hlim y (List.mem_of_mem_drop hy)
      have l2 : Lim (x.2.take j) := fun y hy => hlim y (List.mem_of_mem_take hy)
      have := val_append (x.2.take j) (x.2.drop j)
      rw [List.take_append_drop] at this
      have n1 := val_nonneg l1
      have n2 := val_nonneg l2
      have p := pw_pos (x.2.take j).length
      have : val (x.2.drop j) ≤ pw (x.2.take j).length * val (x.2.drop j) := by
        have := Int.mul_le_mul_of_nonneg_right (show 1 ≤ pw (x.2.take j).length by omega) n1
        omega
      omega
    have hb := hlim x.2[i] (List.getElem_mem _)
    have hv1 := hle i
    have hv2 := hle (i + 1)
    rw [hd] at hv1 ih
    simp only [val] at hv1 ih
    refine i64_h16_s _ _ _ ⟨n, ?_⟩
    unfold i64_h16_t
    rw [show (((i + 1 : Nat) : Int) - 1) = (i : Int) by omega, decide_eq_true (by omega), getI_nat, List.getElem?_eq_getElem (by omega)]
    dsimp only
    rw [wr64 (x := val (x.2.drop (i + 1)) * 1000000000) (by omega) (by omega), wr64 (x := x.2[i]) (by omega) (by omega), wr64 (by omega) (by omega), wrap64 (by omega) (by omega)]
    rw [show val (x.2.drop (i + 1)) * 1000000000 + x.2[i] = x.2[i] + 1000000000 * val (x.2.drop (i + 1)) by omega]
    exact ih
theorem i64_con (x : Bool × List Int) (h : okI x) : Con Try.prog 54 [.d (.st (.pair .bool (.sl (.int .u32)))) x] [.d (.int .i64) (bif decide (i64P (decI x)) then decI x else 0), .d .bool (decide (i64P (decI x)))] := by
  refine Ctx.Res.con (C := i64_C) (ctx_ok envBg12_ok) ?_ (fn := Try.f54) (by kernel_rfl) (by kernel_rfl)
  obtain ⟨x0, x1, x2⟩ := okI_val h
  have o1 : okI x ∧ okI (encI (-9223372036854775808)) := ⟨h, by decide⟩
  have o2 : okI x ∧ okI (encI 9223372036854775807) := ⟨h, by decide⟩
  have hl := h.2.2
  by_cases h1 : decI x < -9223372036854775808
  · refine i64_s _ ⟨0, ?_⟩
    unfold i64_t
    simp only [dup_eq, dec_enc, decide_eq_true o1]
    rw [decide_eq_true (show i64P (-9223372036854775808) by decide), cmpI_lt h1, decide_eq_false (show ¬ i64P (decI x) from fun g => by have := g.1; omega)]
    rfl
  · have c1 : decide (cmpI (decI x) (-9223372036854775808) < 0) = false := by
      rcases Int.lt_or_eq_of_le (show -9223372036854775808 ≤ decI x by omega) with g | g
      · rw [cmpI_gt g]; rfl
      · rw [← g, cmpI_eq]; rfl
    by_cases h2 : 9223372036854775807 < decI x
    · refine i64_s _ ⟨0, ?_⟩
      unfold i64_t
      simp only [dup_eq, dec_enc, decide_eq_true o1, decide_eq_true o2]
      rw [decide_eq_true (show i64P (-9223372036854775808) by decide), c1, decide_eq_true (show i64P 9223372036854775807 by decide), cmpI_gt h2, decide_eq_false (show ¬ i64P (decI x) from fun g => by have := g.2; omega)]
      rfl
    · have c2 : decide (cmpI (decI x) 9223372036854775807 > 0) = false := by
        rcases Int.lt_or_eq_of_le (show decI x ≤ 9223372036854775807 by omega) with g | g
        · rw [cmpI_lt g]; rfl
        · rw [g, cmpI_eq]; rfl
      have hp : i64P (decI x) := ⟨by omega, by omega⟩
      have hvv : val x.2 ≤ 9223372036854775808 := by
        have g1 := hp.1
        have g2 := hp.2
        have hd : decI x = bif x.1 then -val x.2 else val x.2 := rfl
        cases hb : x.1 <;> rw [hb] at hd <;> simp only [cond_true, cond_false] at hd <;> omega
      obtain ⟨n, hN⟩ := i64_loop x h hvv x.2.length (Nat.le_refl _)
      refine i64_s _ ⟨n, ?_⟩
      unfold i64_t
      simp only [dup_eq, dec_enc, decide_eq_true o1, decide_eq_true o2]
      rw [decide_eq_true (show i64P (-9223372036854775808) by decide), c1, decide_eq_true (show i64P 9223372036854775807 by decide), c2, decide_eq_true hp]
      rw [List.drop_length] at hN
      rw [wrap64 (by omega) (by omega)]
      refine hN.trans ?_
      have hr : IntKind.i64.wrap (bif x.1 then IntKind.u64.wrap (0 - val x.2) else val x.2) = decI x := by
        have hd : decI x = bif x.1 then -val x.2 else val x.2 := rfl
        have := hp.1
        have := hp.2
        cases hb : x.1 <;> rw [hb] at hd <;> simp only [cond_true, cond_false] at hd ⊢
        · rw [wrap64 (by omega) (by omega)]; omega
        · have := x1 hb
          rw [IntKind.wrap_u64, IntKind.wrap_i64]
          omega
      rw [hr]
      rfl
end Go.Proofs.Ytcaiedfkohigjaa
/- Codes of data over fractions, and sizes found by instance search. -/
namespace Go.Proofs.Ytcaiedfkohigjaa
abbrev tI : Ty := .st (.pair .bool (.sl (.int .u32)))
abbrev tR : Ty := .st (.pair tI tI)
abbrev tV : Ty := .st (.pair tR tR)
abbrev tO : Ty := .st (.pair tR (.pair tR tR))
abbrev tP : Ty := .st (.pair tR (.pair tR (.pair tR (.pair tR tR))))
abbrev tQ : Ty := .st (.pair tR (.pair tR (.pair tR (.pair tR (.pair tR tR)))))
abbrev tG : Ty := .st (.pair (.int .i64) (.int .i64))
abbrev BV := BR × BR
abbrev BO3 := BR × BR × BR
abbrev BP := BR × BR × BR × BR × BR
abbrev BQ := BR × BR × BR × BR × BR × BR
/-- The same, but the kernel does not look into it. -/
noncomputable def hid {α : Type} (x : α) : α := Classical.choose (⟨x, rfl⟩ : ∃ y, y = x)
theorem hid_eq {α : Type} (x : α) : hid x = x := Classical.choose_spec (⟨x, rfl⟩ : ∃ y, y = x)
/-- A type's values as the program's data. -/
class Cod (α : Type) (A : outParam Type) where
  enc : α → A
  dec : A → α
  bd : Nat → α → Prop
  ok : Nat → A → Prop
  okD : ∀ k x, Decidable (ok k x)
  mono : ∀ j k x, j ≤ k → bd j x → bd k x
  dec_enc : ∀ x, dec (enc x) = x
  ok_enc : ∀ k x, k ≤ 100000 → bd k x → ok k (enc x)
  ok_dec : ∀ k x, ok k x → x = enc (dec x) ∧ bd k (dec x)
def enc {α A : Type} [Cod α A] (x : α) : A := Cod.enc x
def dec {α A : Type} [Cod α A] (x : A) : α := Cod.dec x
def ok (α : Type) {A : Type} [Cod α A] (k : Nat) (x : A) : Prop := Cod.ok (α := α) k x
instance (α A : Type) [Cod α A] (k : Nat) (x : A) : Decidable (ok α k x) := Cod.okD k x
theorem dec_enc' {α A : Type} [Cod α A] (x : α) : dec (enc x) = x := Cod.dec_enc x
/-- The size of a value, found by instance search. -/
class Bd {α A : Type} [Cod α A] (x : α) (k : outParam Nat) : Prop where le : Cod.bd k x
theorem ok_ex {α A : Type} [Cod α A] {k : Nat} {x : A} (h : ok α k x) : ∃ v : α, x = enc v ∧ Bd v k := ⟨_, (Cod.ok_dec k x h).1, ⟨(Cod.ok_dec k x h).2⟩⟩
theorem okd {α A : Type} [Cod α A] {x : α} {j k : Nat} [h : Bd x j] (hj : j ≤ k) (hk : k ≤ 100000) : decide (ok α k (enc x)) = true :=
  decide_eq_true (Cod.ok_enc k x hk (Cod.mono j k x hj h.le))
instance codRat : Cod Rat BR where
  enc := encR
  dec := decR
  bd := bdR
  ok k x := okR x ∧ x.1.2.length ≤ k ∧ x.2.2.length ≤ k
  okD _ _ := instDecidableAnd
  mono _ _ _ hk h := bdR_mono h hk
  dec_enc := dec_encR
  ok_enc k _ hk h := ⟨okR_enc h hk, h.1, h.2⟩
  ok_dec k x h := by
    obtain ⟨h1, h2, h3⟩ := h
    refine ⟨okR_eq h1, ?_⟩
    obtain ⟨e1, e2⟩ := okR_num h1
    unfold bdR szI
    rw [e1, e2]
    rw [okI_eq h1.1] at h2
    rw [okI_eq h1.2.1] at h3
    exact ⟨h2, h3⟩
instance codInt : Cod Int Int where
  enc x := x
  dec x := x
  bd _ x := i64P x
  ok _ x := i64P x
  okD _ _ := inferInstance
  mono _ _ _ _ h := h
  dec_enc _ := rfl
  ok_enc _ _ _ h := h
  ok_dec _ _ h := ⟨rfl, h⟩
instance codBool : Cod Bool Bool where
  enc x := x
  dec x := x
  bd _ _ := True
  ok _ _ := True
  okD _ _ := inferInstance
  mono _ _ _ _ h := h
  dec_enc _ := rfl
  ok_enc _ _ _ h := h
  ok_dec _ _ h := ⟨rfl, h⟩
instance codPair (α β A B : Type) [Cod α A] [Cod β B] : Cod (α × β) (A × B) where
  enc x := (enc x.1, enc x.2)
  dec x := (dec x.1, dec x.2)
  bd k x := Cod.bd k x.1 ∧ Cod.bd k x.2
  ok k x := ok α k x.1 ∧ ok β k x.2
  okD _ _ := instDecidableAnd
  mono _ _ _ hk h := ⟨Cod.mono _ _ _ hk h.1, Cod.mono _ _ _ hk h.2⟩
  dec_enc x := by rw [dec_enc', dec_enc']
  ok_enc k _ hk h := ⟨Cod.ok_enc _ _ hk h.1, Cod.ok_enc _ _ hk h.2⟩
  ok_dec k x h := ⟨Prod.ext (Cod.ok_dec k x.1 h.1).1 (Cod.ok_dec k x.2 h.2).1, (Cod.ok_dec k x.1 h.1).2, (Cod.ok_dec k x.2 h.2).2⟩
instance codList (α A : Type) [Cod α A] : Cod (List α) (List A) where
  enc x := x.map enc
  dec x := x.map dec
  bd k x := ∀ y ∈ x, Cod.bd k y
  ok k x := ∀ y ∈ x, ok α k y
  okD _ _ := inferInstance
  mono _ _ _ hk h y hy := Cod.mono _ _ _ hk (h y hy)
  dec_enc x := by
    rw [List.map_map]
    exact (List.map_congr_left (fun a _ => dec_enc' a)).trans (List.map_id x)
  ok_enc k x hk h := by
    intro y hy
    obtain ⟨z, hz, rfl⟩ := List.mem_map.1 hy
    exact Cod.ok_enc _ _ hk (h z hz)
  ok_dec k x h := by
    constructor
    · rw [List.map_map]
      exact ((List.map_congr_left (fun a ha => (Cod.ok_dec k a (h a ha)).1.symm)).trans (List.map_id x)).symm
    · intro y hy
      obtain ⟨z, hz, rfl⟩ := List.mem_map.1 hy
      exact (Cod.ok_dec k z (h z hz)).2
/-- Equal by definition, but not told so: simp is to carry decisions along. -/
theorem nr {α : Type} {a b : α} (h : a = b) : a = b := h
theorem enc_fst {α β A B : Type} [Cod α A] [Cod β B] (x : α × β) : (enc x).1 = enc x.1 := nr rfl
theorem enc_snd {α β A B : Type} [Cod α A] [Cod β B] (x : α × β) : (enc x).2 = enc x.2 := nr rfl
theorem enc_mk {α β A B : Type} [Cod α A] [Cod β B] (x : α) (y : β) : enc (x, y) = (enc x, enc y) := nr rfl
theorem enc_rat (q : Rat) : enc q = encR q := nr rfl
theorem dec_rat (x : BR) : dec x = decR x := nr rfl
theorem enc_int (q : Int) : enc q = q := nr rfl
theorem enc_bool (q : Bool) : enc q = q := nr rfl
theorem okd_R {q : Rat} {j : Nat} [h : Bd q j] (hj : j ≤ 100000) : decide (okR (encR q)) = true := decide_eq_true (okR_enc h.le hj)
theorem okd_enc {q : Rat} {j : Nat} [h : Bd q j] (hj : j ≤ 100000) : decide (okR (enc q)) = true := okd_R hj
section
variable {α β A B : Type} [Cod α A] [Cod β B]
instance bd_fst {x : α × β} {k : Nat} [h : Bd x k] : Bd x.1 k := ⟨h.le.1⟩
instance bd_snd {x : α × β} {k : Nat} [h : Bd x k] : Bd x.2 k := ⟨h.le.2⟩
instance bd_mk {x : α} {y : β} {j k : Nat} [h : Bd x j] [h' : Bd y k] : Bd (x, y) (j + k) := ⟨Cod.mono _ _ _ (Nat.le_add_right _ _) h.le, Cod.mono _ _ _ (Nat.le_add_left _ _) h'.le⟩
instance bd_cond {b : Bool} {x y : α} {j k : Nat} [h : Bd x j] [h' : Bd y k] : Bd (bif b then x else y) (j + k) := by
  refine ⟨?_⟩
  cases b
  · exact Cod.mono _ _ _ (Nat.le_add_left _ _) h'.le
  · exact Cod.mono _ _ _ (Nat.le_add_right _ _) h.le
end
section
variable {a b : Rat} {j k : Nat}
instance bd_add [h : Bd a j] [h' : Bd b k] : Bd (a + b) (j + k + 1) := ⟨bdR_add h.le h'.le⟩
instance bd_sub [h : Bd a j] [h' : Bd b k] : Bd (a - b) (j + k + 1) := ⟨bdR_sub h.le h'.le⟩
instance bd_mul [h : Bd a j] [h' : Bd b k] : Bd (a * b) (j + k) := ⟨bdR_mul h.le h'.le⟩
instance bd_neg [h : Bd a j] : Bd (-a) j := ⟨bdR_neg h.le⟩
theorem bdR_one_le (h : bdR k b) : 1 ≤ k := by
  have h1 := h.2
  have h2 := szI_lt (b.den : Int)
  have h3 := b.den_pos
  rcases Nat.eq_zero_or_pos k with e | e
  · subst e
    have : szI (b.den : Int) = 0 := by omega
    rw [this] at h2
    have : pw 0 = 1 := rfl
    omega
  · exact e
instance bd_div [h : Bd a j] [h' : Bd b k] : Bd (a / b) (j + k) := by
  refine ⟨?_⟩
  by_cases h0 : b = 0
  · subst h0
    rw [Rat.div_def, Rat.inv_zero, Rat.mul_zero]
    have := bdR_one_le h'.le
    exact bdR_mono (j := 1) ⟨by decide +kernel, by decide +kernel⟩ (by omega)
  · exact bdR_div h.le h'.le h0
end
theorem bd_int64 {n : Int} (h : i64P n) : Bd (n : Rat) 3 := by
  refine ⟨?_⟩
  show bdR 3 (n : Rat)
  refine ⟨?_, ?_⟩
  · rw [Rat.num_intCast]
    have : pw 3 = 1000000000000000000000000000 := by decide
    exact szI_le (by have := h.1; omega) (by have := h.2; omega)
  · rw [Rat.den_intCast]
    exact szI_le (by decide) (by decide)
instance bd_zero : Bd (0 : Rat) 1 := ⟨⟨by decide +kernel, by decide +kernel⟩⟩
instance bd_one : Bd (1 : Rat) 1 := ⟨⟨by decide +kernel, by decide +kernel⟩⟩
instance bd_two : Bd (2 : Rat) 1 := ⟨⟨by decide +kernel, by decide +kernel⟩⟩
theorem okR_ex {x : BR} (h : okR x) : ∃ q : Rat, x = encR q ∧ Bd q 100000 := ⟨decR x, okR_eq h, ⟨okR_bd h⟩⟩
def wayR (a b : Rat × Rat) : Rat × Rat := (b.1 - a.1, b.2 - a.2)
def dotR (a b : Rat × Rat) : Rat := a.1 * b.1 + a.2 * b.2
def crsR (a b : Rat × Rat) : Rat := a.1 * b.2 - a.2 * b.1
instance bd_way {a b : Rat × Rat} {j k : Nat} [Bd a j] [Bd b k] : Bd (wayR a b) ((k + j + 1) + (k + j + 1)) := inferInstanceAs (Bd (b.1 - a.1, b.2 - a.2) _)
instance bd_dot {a b : Rat × Rat} {j k : Nat} [Bd a j] [Bd b k] : Bd (dotR a b) ((j + k) + (j + k) + 1) := inferInstanceAs (Bd (a.1 * b.1 + a.2 * b.2) _)
instance bd_crs {a b : Rat × Rat} {j k : Nat} [Bd a j] [Bd b k] : Bd (crsR a b) ((j + k) + (j + k) + 1) := inferInstanceAs (Bd (a.1 * b.2 - a.2 * b.1) _)
end Go.Proofs.Ytcaiedfkohigjaa
/- distance.Segments and the reference's. -/
namespace Go.Proofs.Ytcaiedfkohigjaa
open Go.RowKit
theorem okd_rdi {a b : Rat} {j k : Nat} [ha : Bd a j] [hb : Bd b k] (hj : j ≤ 100000) (hk : k ≤ 100000) (h : b ≠ 0) : decide (rdiP (encR a) (encR b)) = true :=
  decide_eq_true ⟨okR_enc ha.le hj, okR_enc hb.le hk, by show decI (encI b.num) ≠ 0; rw [dec_enc]; exact fun e => h (Rat.num_eq_zero.1 e)⟩
theorem cmpR_gtb (a b : Rat) : decide (cmpR a b > 0) = decide (b < a) := by
  rcases (by grind : a < b ∨ a = b ∨ b < a) with h | h | h
  · rw [cmpR_lt h, decide_eq_false (show ¬ b < a by grind)]; rfl
  · rw [h, cmpR_eq, decide_eq_false (show ¬ b < b by grind)]; rfl
  · rw [cmpR_gt h, decide_eq_true h]; rfl
theorem cmpR_ltb (a b : Rat) : decide (cmpR a b < 0) = decide (a < b) := by
  rcases (by grind : a < b ∨ a = b ∨ b < a) with h | h | h
  · rw [cmpR_lt h, decide_eq_true h]; rfl
  · rw [h, cmpR_eq, decide_eq_false (show ¬ b < b by grind)]; rfl
  · rw [cmpR_gt h, decide_eq_false (show ¬ a < b by grind)]; rfl
theorem cmpR_geb (a b : Rat) : decide (cmpR a b ≥ 0) = decide (b ≤ a) := by
  rcases (by grind : a < b ∨ a = b ∨ b < a) with h | h | h
  · rw [cmpR_lt h, decide_eq_false (show ¬ b ≤ a by grind)]; rfl
  · rw [h, cmpR_eq, decide_eq_true (show b ≤ b by grind)]; rfl
  · rw [cmpR_gt h, decide_eq_true (show b ≤ a by grind)]; rfl
theorem cmpR_leb (a b : Rat) : decide (cmpR a b ≤ 0) = decide (a ≤ b) := by
  rcases (by grind : a < b ∨ a = b ∨ b < a) with h | h | h
  · rw [cmpR_lt h, decide_eq_true (show a ≤ b by grind)]; rfl
  · rw [h, cmpR_eq, decide_eq_true (show b ≤ b by grind)]; rfl
  · rw [cmpR_gt h, decide_eq_false (show ¬ a ≤ b by grind)]; rfl
theorem cmpR_eqb (a b : Rat) : (cmpR a b == 0) = decide (a = b) := by
  rcases (by grind : a < b ∨ a = b ∨ b < a) with h | h | h
  · rw [cmpR_lt h, decide_eq_false (show ¬ a = b by grind)]; rfl
  · rw [h, cmpR_eq, decide_eq_true rfl]; rfl
  · rw [cmpR_gt h, decide_eq_false (show ¬ a = b by grind)]; rfl
theorem cmpR_bd (a b : Rat) : -1 ≤ cmpR a b ∧ cmpR a b ≤ 1 := by
  rcases (by grind : a < b ∨ a = b ∨ b < a) with h | h | h
  · rw [cmpR_lt h]; decide
  · rw [h, cmpR_eq]; decide
  · rw [cmpR_gt h]; decide
theorem sgn_mul {a b c d : Rat} : IntKind.i64.wrap (cmpR a b * cmpR c d) = cmpR a b * cmpR c d := by
  rcases (by grind : a < b ∨ a = b ∨ b < a) with h | h | h <;> rcases (by grind : c < d ∨ c = d ∨ d < c) with h' | h' | h'
  all_goals first | rw [cmpR_lt h] | (subst h; rw [cmpR_eq]) | rw [cmpR_gt h]
  all_goals first | rw [cmpR_lt h'] | (subst h'; rw [cmpR_eq]) | rw [cmpR_gt h']
  all_goals decide
/-- The square of a point's distance from a segment. -/
def tosR (a b p : Rat × Rat) : Rat := bif decide (dotR (wayR a b) (wayR a p) ≤ 0) then dotR (wayR a p) (wayR a p) else bif decide (dotR (wayR a b) (wayR a b) ≤ dotR (wayR a b) (wayR a p)) then dotR (wayR b p) (wayR b p)
  else crsR (wayR a b) (wayR a p) * crsR (wayR a b) (wayR a p) / dotR (wayR a b) (wayR a b)
instance bd_tos {a b p : Rat × Rat} {j k l : Nat} [ha : Bd a j] [hb : Bd b k] [hp : Bd p l] : Bd (tosR a b p) (100 * (j + k + l + 1)) := by
  have h1 : ∀ {q : Rat} {m : Nat}, Bd q m → m ≤ 100 * (j + k + l + 1) → Bd q (100 * (j + k + l + 1)) := fun h hm => ⟨bdR_mono h.le hm⟩
  unfold tosR
  cases decide (dotR (wayR a b) (wayR a p) ≤ 0)
  · cases decide (dotR (wayR a b) (wayR a b) ≤ dotR (wayR a b) (wayR a p))
    · have i : Bd (crsR (wayR a b) (wayR a p) * crsR (wayR a b) (wayR a p) / dotR (wayR a b) (wayR a b)) _ := inferInstance
      exact h1 i (by omega)
    · have i : Bd (dotR (wayR b p) (wayR b p)) _ := inferInstance
      exact h1 i (by omega)
  · have i : Bd (dotR (wayR a p) (wayR a p)) _ := inferInstance
    exact h1 i (by omega)
def cgR (a b c d : Rat × Rat) : Bool := decide (cmpR (crsR (wayR a b) (wayR a c)) 0 * cmpR (crsR (wayR a b) (wayR a d)) 0 < 0) && decide (cmpR (crsR (wayR c d) (wayR c a)) 0 * cmpR (crsR (wayR c d) (wayR c b)) 0 < 0)
def minR (x y : Rat) : Rat := bif decide (y < x) then y else x
def segR (a b c d : Rat × Rat) : Rat := bif cgR a b c d then 0 else minR (minR (minR (tosR a b c) (tosR a b d)) (tosR c d a)) (tosR c d b)
noncomputable def rad_tp : Spec := { keep := false, tame := true, run := fun _ args k => match args with
  | [.d (.st (.pair (.st (.pair .bool (.sl (.int .u32)))) (.st (.pair .bool (.sl (.int .u32)))))) a, .d (.st (.pair (.st (.pair .bool (.sl (.int .u32)))) (.st (.pair .bool (.sl (.int .u32)))))) b] => match decide (okR a ∧ okR b) with
    | true => k [RV.d tR (hid (encR (decR a + decR b)))]
    | false => none
  | _ => none }
theorem rad_tpec : callable Try.prog 96 = true ∧ SpecOk Try.prog 96 rad_tp ∧ ∀ g, rad_tp.mut_ = some g → MCon Try.prog 96 g := by
  refine ⟨by kernel_rfl, fun R args k r h => ?_, fun g h => by cases h⟩
  unfold rad_tp at h
  dsimp only at h
  split at h <;> try (cases h; done)
  split at h <;> try (cases h; done)
  rename_i hd
  simp only [hid_eq] at h
  exact ⟨_, h, rad_con _ _ (of_decide_eq_true hd)⟩

noncomputable def rsu_tp : Spec := { keep := false, tame := true, run := fun _ args k => match args with
  | [.d (.st (.pair (.st (.pair .bool (.sl (.int .u32)))) (.st (.pair .bool (.sl (.int .u32)))))) a, .d (.st (.pair (.st (.pair .bool (.sl (.int .u32)))) (.st (.pair .bool (.sl (.int .u32)))))) b] => match decide (okR a ∧ okR b) with
    | true => k [RV.d tR (hid (encR (decR a - decR b)))]
    | false => none
  | _ => none }
theorem rsu_tpec : callable Try.prog 95 = true ∧ SpecOk Try.prog 95 rsu_tp ∧ ∀ g, rsu_tp.mut_ = some g → MCon Try.prog 95 g := by
  refine ⟨by kernel_rfl, fun R args k r h => ?_, fun g h => by cases h⟩
  unfold rsu_tp at h
  dsimp only at h
  split at h <;> try (cases h; done)
  split at h <;> try (cases h; done)
  rename_i hd
  simp only [hid_eq] at h
  exact ⟨_, h, rsu_con _ _ (of_decide_eq_true hd)⟩

noncomputable def rmu_tp : Spec := { keep := false, tame := true, run := fun _ args k => match args with
  | [.d (.st (.pair (.st (.pair .bool (.sl (.int .u32)))) (.st (.pair .bool (.sl (.int .u32)))))) a, .d (.st (.pair (.st (.pair .bool (.sl (.int .u32)))) (.st (.pair .bool (.sl (.int .u32)))))) b] => match decide (okR a ∧ okR b) with
    | true => k [RV.d tR (hid (encR (decR a * decR b)))]
    | false => none
  | _ => none }
theorem rmu_tpec : callable Try.prog 94 = true ∧ SpecOk Try.prog 94 rmu_tp ∧ ∀ g, rmu_tp.mut_ = some g → MCon Try.prog 94 g := by
  refine ⟨by kernel_rfl, fun R args k r h => ?_, fun g h => by cases h⟩
  unfold rmu_tp at h
  dsimp only at h
  split at h <;> try (cases h; done)
  split at h <;> try (cases h; done)
  rename_i hd
  simp only [hid_eq] at h
  exact ⟨_, h, rmu_con _ _ (of_decide_eq_true hd)⟩

noncomputable def rdi_tp : Spec := { keep := false, tame := true, run := fun _ args k => match args with
  | [.d (.st (.pair (.st (.pair .bool (.sl (.int .u32)))) (.st (.pair .bool (.sl (.int .u32)))))) a, .d (.st (.pair (.st (.pair .bool (.sl (.int .u32)))) (.st (.pair .bool (.sl (.int .u32)))))) b] => match decide (rdiP a b) with
    | true => k [RV.d tR (hid (encR (decR a / decR b))), RV.d (.int .i64) 0]
    | false => none
  | _ => none }
theorem rdi_tpec : callable Try.prog 93 = true ∧ SpecOk Try.prog 93 rdi_tp ∧ ∀ g, rdi_tp.mut_ = some g → MCon Try.prog 93 g := by
  refine ⟨by kernel_rfl, fun R args k r h => ?_, fun g h => by cases h⟩
  unfold rdi_tp at h
  dsimp only at h
  split at h <;> try (cases h; done)
  split at h <;> try (cases h; done)
  rename_i hd
  simp only [hid_eq] at h
  exact ⟨_, h, rdi_con _ _ (of_decide_eq_true hd)⟩

def rsg_tp : Spec := { keep := true, tame := true, run := fun _ args k => match args with
  | [.d (.st (.pair (.st (.pair .bool (.sl (.int .u32)))) (.st (.pair .bool (.sl (.int .u32)))))) a] => match decide (okR a) with
    | true => k [RV.d (.int .i64) (cmpR (decR a) 0)]
    | false => none
  | _ => none }
theorem rsg_tpec : callable Try.prog 56 = true ∧ SpecOk Try.prog 56 rsg_tp ∧ ∀ g, rsg_tp.mut_ = some g → MCon Try.prog 56 g := by
  refine ⟨by kernel_rfl, fun R args k r h => ?_, fun g h => by cases h⟩
  unfold rsg_tp at h
  dsimp only at h
  split at h <;> try (cases h; done)
  split at h <;> try (cases h; done)
  rename_i hd
  exact ⟨_, h, rsg_con _ (of_decide_eq_true hd)⟩

def rcm_tp : Spec := { keep := true, tame := true, run := fun _ args k => match args with
  | [.d (.st (.pair (.st (.pair .bool (.sl (.int .u32)))) (.st (.pair .bool (.sl (.int .u32)))))) a, .d (.st (.pair (.st (.pair .bool (.sl (.int .u32)))) (.st (.pair .bool (.sl (.int .u32)))))) b] => match decide (okR a ∧ okR b) with
    | true => k [RV.d (.int .i64) (cmpR (decR a) (decR b))]
    | false => none
  | _ => none }
theorem rcm_tpec : callable Try.prog 29 = true ∧ SpecOk Try.prog 29 rcm_tp ∧ ∀ g, rcm_tp.mut_ = some g → MCon Try.prog 29 g := by
  refine ⟨by kernel_rfl, fun R args k r h => ?_, fun g h => by cases h⟩
  unfold rcm_tp at h
  dsimp only at h
  split at h <;> try (cases h; done)
  split at h <;> try (cases h; done)
  rename_i hd
  exact ⟨_, h, rcm_con _ _ (of_decide_eq_true hd)⟩

noncomputable def rfi_tp : Spec := { keep := false, tame := true, run := fun _ args k => match args with
  | [.d (.int .i64) n] => match decide (i64P n) with
    | true => k [RV.d tR (hid (encR (n : Rat)))]
    | false => none
  | _ => none }
theorem rfi_tpec : callable Try.prog 32 = true ∧ SpecOk Try.prog 32 rfi_tp ∧ ∀ g, rfi_tp.mut_ = some g → MCon Try.prog 32 g := by
  refine ⟨by kernel_rfl, fun R args k r h => ?_, fun g h => by cases h⟩
  unfold rfi_tp at h
  dsimp only at h
  split at h <;> try (cases h; done)
  split at h <;> try (cases h; done)
  rename_i hd
  simp only [hid_eq] at h
  exact ⟨_, h, rfi_con _ (of_decide_eq_true hd)⟩

noncomputable def envd1 : Env := [(96, rad_tp), (95, rsu_tp), (94, rmu_tp), (93, rdi_tp), (56, rsg_tp), (29, rcm_tp), (32, rfi_tp)]
theorem envd1_ok : EnvAll Try.prog envd1 := ⟨rad_tpec, rsu_tpec, rmu_tpec, rdi_tpec, rsg_tpec, rcm_tpec, rfi_tpec, trivial⟩
def dad_nt : NT := []
noncomputable def dad_C : Ctx := ⟨Try.prog, ft, tys, envd1, dad_nt⟩
noncomputable def dad_t (_k : Nat → Cfg → Option (List RV)) (a : BR) (b : BR) : Option (List RV) := match decide (okR a ∧ okR b) with | true => some [RV.d tR (hid (encR (decR a + decR b)))] | false => none
theorem dad_eq (k : Nat → Cfg → Option (List RV)) (a : BR) (b : BR) : go Try.prog ft tys envd1 dad_nt k 4000 (start 92 [.d tR a, .d tR b]) (.node 0) = dad_t k a b := (go2_eq _ _ _ _ _ _ _ _ _).symm.trans (show go2 Try.prog ft tys envd1 dad_nt k 4000 (start 92 [.d tR a, .d tR b]) (.node 0) = dad_t k a b by kernel_rfl)
theorem dad_s (a : BR) (b : BR) {rX : List RV} (hX : ∃ nX, dad_t (dad_C.k nX) a b = some rX) : dad_C.Res 92 [.d tR a, .d tR b] rX := by
  obtain ⟨nX, hX⟩ := hX
  exact ⟨nX, (dad_eq _ a b).trans hX⟩
theorem dad_con (a : BR) (b : BR) (h : okR a ∧ okR b) : Con Try.prog 92 [.d tR a, .d tR b] [.d tR (encR (decR a + decR b))] := by
  refine Ctx.Res.con (C := dad_C) (ctx_ok envd1_ok) (dad_s _ _ ⟨0, ?_⟩) (fn := Try.f92) (by kernel_rfl) (by kernel_rfl)
  unfold dad_t
  rw [dT h, hid_eq]
def dsu_nt : NT := []
noncomputable def dsu_C : Ctx := ⟨Try.prog, ft, tys, envd1, dsu_nt⟩
noncomputable def dsu_t (_k : Nat → Cfg → Option (List RV)) (a : BR) (b : BR) : Option (List RV) := match decide (okR a ∧ okR b) with | true => some [RV.d tR (hid (encR (decR a - decR b)))] | false => none
theorem dsu_eq (k : Nat → Cfg → Option (List RV)) (a : BR) (b : BR) : go Try.prog ft tys envd1 dsu_nt k 4000 (start 91 [.d tR a, .d tR b]) (.node 0) = dsu_t k a b := (go2_eq _ _ _ _ _ _ _ _ _).symm.trans (show go2 Try.prog ft tys envd1 dsu_nt k 4000 (start 91 [.d tR a, .d tR b]) (.node 0) = dsu_t k a b by kernel_rfl)
theorem dsu_s (a : BR) (b : BR) {rX : List RV} (hX : ∃ nX, dsu_t (dsu_C.k nX) a b = some rX) : dsu_C.Res 91 [.d tR a, .d tR b] rX := by
  obtain ⟨nX, hX⟩ := hX
  exact ⟨nX, (dsu_eq _ a b).trans hX⟩
theorem dsu_con (a : BR) (b : BR) (h : okR a ∧ okR b) : Con Try.prog 91 [.d tR a, .d tR b] [.d tR (encR (decR a - decR b))] := by
  refine Ctx.Res.con (C := dsu_C) (ctx_ok envd1_ok) (dsu_s _ _ ⟨0, ?_⟩) (fn := Try.f91) (by kernel_rfl) (by kernel_rfl)
  unfold dsu_t
  rw [dT h, hid_eq]
def dmu_nt : NT := []
noncomputable def dmu_C : Ctx := ⟨Try.prog, ft, tys, envd1, dmu_nt⟩
noncomputable def dmu_t (_k : Nat → Cfg → Option (List RV)) (a : BR) (b : BR) : Option (List RV) := match decide (okR a ∧ okR b) with | true => some [RV.d tR (hid (encR (decR a * decR b)))] | false => none
theorem dmu_eq (k : Nat → Cfg → Option (List RV)) (a : BR) (b : BR) : go Try.prog ft tys envd1 dmu_nt k 4000 (start 81 [.d tR a, .d tR b]) (.node 0) = dmu_t k a b := (go2_eq _ _ _ _ _ _ _ _ _).symm.trans (show go2 Try.prog ft tys envd1 dmu_nt k 4000 (start 81 [.d tR a, .d tR b]) (.node 0) = dmu_t k a b by kernel_rfl)
theorem dmu_s (a : BR) (b : BR) {rX : List RV} (hX : ∃ nX, dmu_t (dmu_C.k nX) a b = some rX) : dmu_C.Res 81 [.d tR a, .d tR b] rX := by
  obtain ⟨nX, hX⟩ := hX
  exact ⟨nX, (dmu_eq _ a b).trans hX⟩
theorem dmu_con (a : BR) (b : BR) (h : okR a ∧ okR b) : Con Try.prog 81 [.d tR a, .d tR b] [.d tR (encR (decR a * decR b))] := by
  refine Ctx.Res.con (C := dmu_C) (ctx_ok envd1_ok) (dmu_s _ _ ⟨0, ?_⟩) (fn := Try.f81) (by kernel_rfl) (by kernel_rfl)
  unfold dmu_t
  rw [dT h, hid_eq]
def dov_nt : NT := []
noncomputable def dov_C : Ctx := ⟨Try.prog, ft, tys, envd1, dov_nt⟩
noncomputable def dov_t (_k : Nat → Cfg → Option (List RV)) (a : BR) (b : BR) : Option (List RV) := match decide (rdiP a b) with | true => (match 0 != 0 with | true => (match decide (i64P (0 : Int)) with | true => some [RV.d tR (hid (encR ((0 : Int) : Rat)))] | false => none) | false => some [RV.d tR (hid (encR (decR a / decR b)))]) | false => none
theorem dov_eq (k : Nat → Cfg → Option (List RV)) (a : BR) (b : BR) : go Try.prog ft tys envd1 dov_nt k 4000 (start 80 [.d tR a, .d tR b]) (.node 0) = dov_t k a b := (go2_eq _ _ _ _ _ _ _ _ _).symm.trans (show go2 Try.prog ft tys envd1 dov_nt k 4000 (start 80 [.d tR a, .d tR b]) (.node 0) = dov_t k a b by kernel_rfl)
theorem dov_s (a : BR) (b : BR) {rX : List RV} (hX : ∃ nX, dov_t (dov_C.k nX) a b = some rX) : dov_C.Res 80 [.d tR a, .d tR b] rX := by
  obtain ⟨nX, hX⟩ := hX
  exact ⟨nX, (dov_eq _ a b).trans hX⟩
theorem dov_con (a : BR) (b : BR) (h : rdiP a b) : Con Try.prog 80 [.d tR a, .d tR b] [.d tR (encR (decR a / decR b))] := by
  refine Ctx.Res.con (C := dov_C) (ctx_ok envd1_ok) (dov_s _ _ ⟨0, ?_⟩) (fn := Try.f80) (by kernel_rfl) (by kernel_rfl)
  unfold dov_t
  rw [dT h]
  simp only [hid_eq]
  rfl
noncomputable def dad_tp : Spec := { keep := false, tame := true, run := fun _ args k => match args with
  | [.d (.st (.pair (.st (.pair .bool (.sl (.int .u32)))) (.st (.pair .bool (.sl (.int .u32)))))) a, .d (.st (.pair (.st (.pair .bool (.sl (.int .u32)))) (.st (.pair .bool (.sl (.int .u32)))))) b] => match decide (okR a ∧ okR b) with
    | true => k [RV.d tR (hid (encR (decR a + decR b)))]
    | false => none
  | _ => none }
theorem dad_tpec : callable Try.prog 92 = true ∧ SpecOk Try.prog 92 dad_tp ∧ ∀ g, dad_tp.mut_ = some g → MCon Try.prog 92 g := by
  refine ⟨by kernel_rfl, fun R args k r h => ?_, fun g h => by cases h⟩
  unfold dad_tp at h
  dsimp only at h
  split at h <;> try (cases h; done)
  split at h <;> try (cases h; done)
  rename_i hd
  simp only [hid_eq] at h
  exact ⟨_, h, dad_con _ _ (of_decide_eq_true hd)⟩

noncomputable def dsu_tp : Spec := { keep := false, tame := true, run := fun _ args k => match args with
  | [.d (.st (.pair (.st (.pair .bool (.sl (.int .u32)))) (.st (.pair .bool (.sl (.int .u32)))))) a, .d (.st (.pair (.st (.pair .bool (.sl (.int .u32)))) (.st (.pair .bool (.sl (.int .u32)))))) b] => match decide (okR a ∧ okR b) with
    | true => k [RV.d tR (hid (encR (decR a - decR b)))]
    | false => none
  | _ => none }
theorem dsu_tpec : callable Try.prog 91 = true ∧ SpecOk Try.prog 91 dsu_tp ∧ ∀ g, dsu_tp.mut_ = some g → MCon Try.prog 91 g := by
  refine ⟨by kernel_rfl, fun R args k r h => ?_, fun g h => by cases h⟩
  unfold dsu_tp at h
  dsimp only at h
  split at h <;> try (cases h; done)
  split at h <;> try (cases h; done)
  rename_i hd
  simp only [hid_eq] at h
  exact ⟨_, h, dsu_con _ _ (of_decide_eq_true hd)⟩

noncomputable def dmu_tp : Spec := { keep := false, tame := true, run := fun _ args k => match args with
  | [.d (.st (.pair (.st (.pair .bool (.sl (.int .u32)))) (.st (.pair .bool (.sl (.int .u32)))))) a, .d (.st (.pair (.st (.pair .bool (.sl (.int .u32)))) (.st (.pair .bool (.sl (.int .u32)))))) b] => match decide (okR a ∧ okR b) with
    | true => k [RV.d tR (hid (encR (decR a * decR b)))]
    | false => none
  | _ => none }
theorem dmu_tpec : callable Try.prog 81 = true ∧ SpecOk Try.prog 81 dmu_tp ∧ ∀ g, dmu_tp.mut_ = some g → MCon Try.prog 81 g := by
  refine ⟨by kernel_rfl, fun R args k r h => ?_, fun g h => by cases h⟩
  unfold dmu_tp at h
  dsimp only at h
  split at h <;> try (cases h; done)
  split at h <;> try (cases h; done)
  rename_i hd
  simp only [hid_eq] at h
  exact ⟨_, h, dmu_con _ _ (of_decide_eq_true hd)⟩

noncomputable def dov_tp : Spec := { keep := false, tame := true, run := fun _ args k => match args with
  | [.d (.st (.pair (.st (.pair .bool (.sl (.int .u32)))) (.st (.pair .bool (.sl (.int .u32)))))) a, .d (.st (.pair (.st (.pair .bool (.sl (.int .u32)))) (.st (.pair .bool (.sl (.int .u32)))))) b] => match decide (rdiP a b) with
    | true => k [RV.d tR (hid (encR (decR a / decR b)))]
    | false => none
  | _ => none }
theorem dov_tpec : callable Try.prog 80 = true ∧ SpecOk Try.prog 80 dov_tp ∧ ∀ g, dov_tp.mut_ = some g → MCon Try.prog 80 g := by
  refine ⟨by kernel_rfl, fun R args k r h => ?_, fun g h => by cases h⟩
  unfold dov_tp at h
  dsimp only at h
  split at h <;> try (cases h; done)
  split at h <;> try (cases h; done)
  rename_i hd
  simp only [hid_eq] at h
  exact ⟨_, h, dov_con _ _ (of_decide_eq_true hd)⟩

noncomputable def envd2 : Env := [(96, rad_tp), (95, rsu_tp), (94, rmu_tp), (93, rdi_tp), (56, rsg_tp), (29, rcm_tp), (32, rfi_tp), (92, dad_tp), (91, dsu_tp), (81, dmu_tp), (80, dov_tp)]
theorem envd2_ok : EnvAll Try.prog envd2 := ⟨rad_tpec, rsu_tpec, rmu_tpec, rdi_tpec, rsg_tpec, rcm_tpec, rfi_tpec, dad_tpec, dsu_tpec, dmu_tpec, dov_tpec, trivial⟩
def dwa_nt : NT := []
noncomputable def dwa_C : Ctx := ⟨Try.prog, ft, tys, envd2, dwa_nt⟩
noncomputable def dwa_t (_k : Nat → Cfg → Option (List RV)) (a : BV) (b : BV) : Option (List RV) := match decide (okR b.1 ∧ okR a.1) with | true => (match decide (okR b.2 ∧ okR a.2) with | true => some [RV.d tV (hid (encR (decR b.1 - decR a.1)), hid (encR (decR b.2 - decR a.2)))] | false => none) | false => none
theorem dwa_eq (k : Nat → Cfg → Option (List RV)) (a : BV) (b : BV) : go Try.prog ft tys envd2 dwa_nt k 4000 (start 77 [.d tV a, .d tV b]) (.node 0) = dwa_t k a b := (go2_eq _ _ _ _ _ _ _ _ _).symm.trans (show go2 Try.prog ft tys envd2 dwa_nt k 4000 (start 77 [.d tV a, .d tV b]) (.node 0) = dwa_t k a b by kernel_rfl)
theorem dwa_s (a : BV) (b : BV) {rX : List RV} (hX : ∃ nX, dwa_t (dwa_C.k nX) a b = some rX) : dwa_C.Res 77 [.d tV a, .d tV b] rX := by
  obtain ⟨nX, hX⟩ := hX
  exact ⟨nX, (dwa_eq _ a b).trans hX⟩
theorem dwa_con (a : BV) (b : BV) (h : ok (Rat × Rat) 1000 a ∧ ok (Rat × Rat) 1000 b) : Con Try.prog 77 [.d tV a, .d tV b] [.d tV (enc (wayR (dec a) (dec b)))] := by
  refine Ctx.Res.con (C := dwa_C) (ctx_ok envd2_ok) (dwa_s _ _ ⟨0, ?_⟩) (fn := Try.f77) (by kernel_rfl) (by kernel_rfl)
  obtain ⟨ha, hb⟩ := h
  obtain ⟨a, rfl, ba⟩ := ok_ex ha
  obtain ⟨b, rfl, bb⟩ := ok_ex hb
  unfold dwa_t
  simp only [both_self, bothV_self, dup_eq, hid_eq, dec_enc', enc_fst, enc_snd, enc_mk, enc_rat, enc_int, enc_bool, dec_rat, dec_encR, okd, okd_R, okd_rdi, Bool.decide_and, Bool.and_true, Bool.and_self, Bool.true_and, Nat.reduceAdd, Nat.reduceMul, Nat.reduceLeDiff]
  rfl
def ddo_nt : NT := []
noncomputable def ddo_C : Ctx := ⟨Try.prog, ft, tys, envd2, ddo_nt⟩
noncomputable def ddo_t (_k : Nat → Cfg → Option (List RV)) (a : BV) (b : BV) : Option (List RV) := match decide (okR a.1 ∧ okR b.1) with | true => (match decide (okR a.2 ∧ okR b.2) with | true => (match decide (okR (hid (encR (decR a.1 * decR b.1))) ∧ okR (hid (encR (decR a.2 * decR b.2)))) with | true => some [RV.d tR (hid (encR (decR (hid (encR (decR a.1 * decR b.1))) + decR (hid (encR (decR a.2 * decR b.2))))))] | false => none) | false => none) | false => none
theorem ddo_eq (k : Nat → Cfg → Option (List RV)) (a : BV) (b : BV) : go Try.prog ft tys envd2 ddo_nt k 4000 (start 79 [.d tV a, .d tV b]) (.node 0) = ddo_t k a b := (go2_eq _ _ _ _ _ _ _ _ _).symm.trans (show go2 Try.prog ft tys envd2 ddo_nt k 4000 (start 79 [.d tV a, .d tV b]) (.node 0) = ddo_t k a b by kernel_rfl)
theorem ddo_s (a : BV) (b : BV) {rX : List RV} (hX : ∃ nX, ddo_t (ddo_C.k nX) a b = some rX) : ddo_C.Res 79 [.d tV a, .d tV b] rX := by
  obtain ⟨nX, hX⟩ := hX
  exact ⟨nX, (ddo_eq _ a b).trans hX⟩
theorem ddo_con (a : BV) (b : BV) (h : ok (Rat × Rat) 5000 a ∧ ok (Rat × Rat) 5000 b) : Con Try.prog 79 [.d tV a, .d tV b] [.d tR (encR (dotR (dec a) (dec b)))] := by
  refine Ctx.Res.con (C := ddo_C) (ctx_ok envd2_ok) (ddo_s _ _ ⟨0, ?_⟩) (fn := Try.f79) (by kernel_rfl) (by kernel_rfl)
  obtain ⟨ha, hb⟩ := h
  obtain ⟨a, rfl, ba⟩ := ok_ex ha
  obtain ⟨b, rfl, bb⟩ := ok_ex hb
  unfold ddo_t
  simp only [both_self, bothV_self, dup_eq, hid_eq, dec_enc', enc_fst, enc_snd, enc_mk, enc_rat, enc_int, enc_bool, dec_rat, dec_encR, okd, okd_R, okd_rdi, Bool.decide_and, Bool.and_true, Bool.and_self, Bool.true_and, Nat.reduceAdd, Nat.reduceMul, Nat.reduceLeDiff]
  rfl
def dcr_nt : NT := []
noncomputable def dcr_C : Ctx := ⟨Try.prog, ft, tys, envd2, dcr_nt⟩
noncomputable def dcr_t (_k : Nat → Cfg → Option (List RV)) (a : BV) (b : BV) : Option (List RV) := match decide (okR a.1 ∧ okR b.2) with | true => (match decide (okR a.2 ∧ okR b.1) with | true => (match decide (okR (hid (encR (decR a.1 * decR b.2))) ∧ okR (hid (encR (decR a.2 * decR b.1)))) with | true => some [RV.d tR (hid (encR (decR (hid (encR (decR a.1 * decR b.2))) - decR (hid (encR (decR a.2 * decR b.1))))))] | false => none) | false => none) | false => none
theorem dcr_eq (k : Nat → Cfg → Option (List RV)) (a : BV) (b : BV) : go Try.prog ft tys envd2 dcr_nt k 4000 (start 78 [.d tV a, .d tV b]) (.node 0) = dcr_t k a b := (go2_eq _ _ _ _ _ _ _ _ _).symm.trans (show go2 Try.prog ft tys envd2 dcr_nt k 4000 (start 78 [.d tV a, .d tV b]) (.node 0) = dcr_t k a b by kernel_rfl)
theorem dcr_s (a : BV) (b : BV) {rX : List RV} (hX : ∃ nX, dcr_t (dcr_C.k nX) a b = some rX) : dcr_C.Res 78 [.d tV a, .d tV b] rX := by
  obtain ⟨nX, hX⟩ := hX
  exact ⟨nX, (dcr_eq _ a b).trans hX⟩
theorem dcr_con (a : BV) (b : BV) (h : ok (Rat × Rat) 5000 a ∧ ok (Rat × Rat) 5000 b) : Con Try.prog 78 [.d tV a, .d tV b] [.d tR (encR (crsR (dec a) (dec b)))] := by
  refine Ctx.Res.con (C := dcr_C) (ctx_ok envd2_ok) (dcr_s _ _ ⟨0, ?_⟩) (fn := Try.f78) (by kernel_rfl) (by kernel_rfl)
  obtain ⟨ha, hb⟩ := h
  obtain ⟨a, rfl, ba⟩ := ok_ex ha
  obtain ⟨b, rfl, bb⟩ := ok_ex hb
  unfold dcr_t
  simp only [both_self, bothV_self, dup_eq, hid_eq, dec_enc', enc_fst, enc_snd, enc_mk, enc_rat, enc_int, enc_bool, dec_rat, dec_encR, okd, okd_R, okd_rdi, Bool.decide_and, Bool.and_true, Bool.and_self, Bool.true_and, Nat.reduceAdd, Nat.reduceMul, Nat.reduceLeDiff]
  rfl
noncomputable def dwa_tp : Spec := { keep := false, tame := true, run := fun _ args k => match args with
  | [.d (.st (.pair (.st (.pair (.st (.pair .bool (.sl (.int .u32)))) (.st (.pair .bool (.sl (.int .u32)))))) (.st (.pair (.st (.pair .bool (.sl (.int .u32)))) (.st (.pair .bool (.sl (.int .u32)))))))) a, .d (.st (.pair (.st (.pair (.st (.pair .bool (.sl (.int .u32)))) (.st (.pair .bool (.sl (.int .u32)))))) (.st (.pair (.st (.pair .bool (.sl (.int .u32)))) (.st (.pair .bool (.sl (.int .u32)))))))) b] => match decide (ok (Rat × Rat) 1000 a ∧ ok (Rat × Rat) 1000 b) with
    | true => k [RV.d tV (hid (enc (wayR (dec a) (dec b))))]
    | false => none
  | _ => none }
theorem dwa_tpec : callable Try.prog 77 = true ∧ SpecOk Try.prog 77 dwa_tp ∧ ∀ g, dwa_tp.mut_ = some g → MCon Try.prog 77 g := by
  refine ⟨by kernel_rfl, fun R args k r h => ?_, fun g h => by cases h⟩
  unfold dwa_tp at h
  dsimp only at h
  split at h <;> try (cases h; done)
  split at h <;> try (cases h; done)
  rename_i hd
  simp only [hid_eq] at h
  exact ⟨_, h, dwa_con _ _ (of_decide_eq_true hd)⟩

noncomputable def ddo_tp : Spec := { keep := false, tame := true, run := fun _ args k => match args with
  | [.d (.st (.pair (.st (.pair (.st (.pair .bool (.sl (.int .u32)))) (.st (.pair .bool (.sl (.int .u32)))))) (.st (.pair (.st (.pair .bool (.sl (.int .u32)))) (.st (.pair .bool (.sl (.int .u32)))))))) a, .d (.st (.pair (.st (.pair (.st (.pair .bool (.sl (.int .u32)))) (.st (.pair .bool (.sl (.int .u32)))))) (.st (.pair (.st (.pair .bool (.sl (.int .u32)))) (.st (.pair .bool (.sl (.int .u32)))))))) b] => match decide (ok (Rat × Rat) 5000 a ∧ ok (Rat × Rat) 5000 b) with
    | true => k [RV.d tR (hid (encR (dotR (dec a) (dec b))))]
    | false => none
  | _ => none }
theorem ddo_tpec : callable Try.prog 79 = true ∧ SpecOk Try.prog 79 ddo_tp ∧ ∀ g, ddo_tp.mut_ = some g → MCon Try.prog 79 g := by
  refine ⟨by kernel_rfl, fun R args k r h => ?_, fun g h => by cases h⟩
  unfold ddo_tp at h
  dsimp only at h
  split at h <;> try (cases h; done)
  split at h <;> try (cases h; done)
  rename_i hd
  simp only [hid_eq] at h
  exact ⟨_, h, ddo_con _ _ (of_decide_eq_true hd)⟩

noncomputable def dcr_tp : Spec := { keep := false, tame := true, run := fun _ args k => match args with
  | [.d (.st (.pair (.st (.pair (.st (.pair .bool (.sl (.int .u32)))) (.st (.pair .bool (.sl (.int .u32)))))) (.st (.pair (.st (.pair .bool (.sl (.int .u32)))) (.st (.pair .bool (.sl (.int .u32)))))))) a, .d (.st (.pair (.st (.pair (.st (.pair .bool (.sl (.int .u32)))) (.st (.pair .bool (.sl (.int .u32)))))) (.st (.pair (.st (.pair .bool (.sl (.int .u32)))) (.st (.pair .bool (.sl (.int .u32)))))))) b] => match decide (ok (Rat × Rat) 5000 a ∧ ok (Rat × Rat) 5000 b) with
    | true => k [RV.d tR (hid (encR (crsR (dec a) (dec b))))]
    | false => none
  | _ => none }
theorem dcr_tpec : callable Try.prog 78 = true ∧ SpecOk Try.prog 78 dcr_tp ∧ ∀ g, dcr_tp.mut_ = some g → MCon Try.prog 78 g := by
  refine ⟨by kernel_rfl, fun R args k r h => ?_, fun g h => by cases h⟩
  unfold dcr_tp at h
  dsimp only at h
  split at h <;> try (cases h; done)
  split at h <;> try (cases h; done)
  rename_i hd
  simp only [hid_eq] at h
  exact ⟨_, h, dcr_con _ _ (of_decide_eq_true hd)⟩

noncomputable def envd3 : Env := [(96, rad_tp), (95, rsu_tp), (94, rmu_tp), (93, rdi_tp), (56, rsg_tp), (29, rcm_tp), (32, rfi_tp), (92, dad_tp), (91, dsu_tp), (81, dmu_tp), (80, dov_tp), (77, dwa_tp), (79, ddo_tp), (78, dcr_tp)]
theorem envd3_ok : EnvAll Try.prog envd3 := ⟨rad_tpec, rsu_tpec, rmu_tpec, rdi_tpec, rsg_tpec, rcm_tpec, rfi_tpec, dad_tpec, dsu_tpec, dmu_tpec, dov_tpec, dwa_tpec, ddo_tpec, dcr_tpec, trivial⟩
def dts_nt : NT := []
noncomputable def dts_C : Ctx := ⟨Try.prog, ft, tys, envd3, dts_nt⟩
noncomputable def dts_t (_k : Nat → Cfg → Option (List RV)) (a : BV) (b : BV) (p : BV) : Option (List RV) := match decide (ok (Rat × Rat) 1000 a ∧ ok (Rat × Rat) 1000 b) with | true => (match decide (ok (Rat × Rat) 1000 a ∧ ok (Rat × Rat) 1000 p) with | true => (match decide (ok (Rat × Rat) 5000 (hid (enc (wayR (dec a) (dec b)))) ∧ ok (Rat × Rat) 5000 (hid (enc (wayR (dec a) (dec b))))) with | true => (match decide (ok (Rat × Rat) 5000 (hid (enc (wayR (dec a) (dec b)))) ∧ ok (Rat × Rat) 5000 (hid (enc (wayR (dec a) (dec p))))) with | true => (match decide (okR (hid (encR (dotR (dec (hid (enc (wayR (dec a) (dec b))))) (dec (hid (enc (wayR (dec a) (dec p))))))))) with | true => (match decide ((cmpR (decR (hid (encR (dotR (dec (hid (enc (wayR (dec a) (dec b))))) (dec (hid (enc (wayR (dec a) (dec p))))))))) 0) ≤ 0) with | true => (match decide (ok (Rat × Rat) 5000 (hid (enc (wayR (dec a) (dec p)))) ∧ ok (Rat × Rat) 5000 (hid (enc (wayR (dec a) (dec p))))) with | true => some [RV.d tR (hid (encR (dotR (dec (hid (enc (wayR (dec a) (dec p))))) (dec (hid (enc (wayR (dec a) (dec p))))))))] | false => none) | false => (match decide (okR (hid (encR (dotR (dec (hid (enc (wayR (dec a) (dec b))))) (dec (hid (enc (wayR (dec a) (dec p)))))))) ∧ okR (hid (encR (dotR (dec (hid (enc (wayR (dec a) (dec b))))) (dec (hid (enc (wayR (dec a) (dec b))))))))) with | true => (match decide ((cmpR (decR (hid (encR (dotR (dec (hid (enc (wayR (dec a) (dec b))))) (dec (hid (enc (wayR (dec a) (dec p))))))))) (decR (hid (encR (dotR (dec (hid (enc (wayR (dec a) (dec b))))) (dec (hid (enc (wayR (dec a) (dec b)))))))))) ≥ 0) with | true => (match decide (ok (Rat × Rat) 1000 b ∧ ok (Rat × Rat) 1000 p) with | true => (match decide (ok (Rat × Rat) 5000 (hid (enc (wayR (dec b) (dec p)))) ∧ ok (Rat × Rat) 5000 (hid (enc (wayR (dec b) (dec p))))) with | true => some [RV.d tR (hid (encR (dotR (dec (hid (enc (wayR (dec b) (dec p))))) (dec (hid (enc (wayR (dec b) (dec p))))))))] | false => none) | false => none) | false => (match decide (ok (Rat × Rat) 5000 (hid (enc (wayR (dec a) (dec b)))) ∧ ok (Rat × Rat) 5000 (hid (enc (wayR (dec a) (dec p))))) with | true => (match decide (okR (hid (encR (crsR (dec (hid (enc (wayR (dec a) (dec b))))) (dec (hid (enc (wayR (dec a) (dec p)))))))) ∧ okR (hid (encR (crsR (dec (hid (enc (wayR (dec a) (dec b))))) (dec (hid (enc (wayR (dec a) (dec p))))))))) with | true => (match decide (rdiP (hid (encR (decR (hid (encR (crsR (dec (hid (enc (wayR (dec a) (dec b))))) (dec (hid (enc (wayR (dec a) (dec p)))))))) * decR (hid (encR (crsR (dec (hid (enc (wayR (dec a) (dec b))))) (dec (hid (enc (wayR (dec a) (dec p))))))))))) (hid (encR (dotR (dec (hid (enc (wayR (dec a) (dec b))))) (dec (hid (enc (wayR (dec a) (dec b))))))))) with | true => some [RV.d tR (hid (encR (decR (hid (encR (decR (hid (encR (crsR (dec (hid (enc (wayR (dec a) (dec b))))) (dec (hid (enc (wayR (dec a) (dec p)))))))) * decR (hid (encR (crsR (dec (hid (enc (wayR (dec a) (dec b))))) (dec (hid (enc (wayR (dec a) (dec p))))))))))) / decR (hid (encR (dotR (dec (hid (enc (wayR (dec a) (dec b))))) (dec (hid (enc (wayR (dec a) (dec b)))))))))))] | false => none) | false => none) | false => none)) | false => none)) | false => none) | false => none) | false => none) | false => none) | false => none
theorem dts_eq (k : Nat → Cfg → Option (List RV)) (a : BV) (b : BV) (p : BV) : go Try.prog ft tys envd3 dts_nt k 4000 (start 59 [.d tV a, .d tV b, .d tV p]) (.node 0) = dts_t k a b p := (go2_eq _ _ _ _ _ _ _ _ _).symm.trans (show go2 Try.prog ft tys envd3 dts_nt k 4000 (start 59 [.d tV a, .d tV b, .d tV p]) (.node 0) = dts_t k a b p by kernel_rfl)
theorem dts_s (a : BV) (b : BV) (p : BV) {rX : List RV} (hX : ∃ nX, dts_t (dts_C.k nX) a b p = some rX) : dts_C.Res 59 [.d tV a, .d tV b, .d tV p] rX := by
  obtain ⟨nX, hX⟩ := hX
  exact ⟨nX, (dts_eq _ a b p).trans hX⟩
theorem dts_con (a : BV) (b : BV) (p : BV) (h : ok (Rat × Rat) 100 a ∧ ok (Rat × Rat) 100 b ∧ ok (Rat × Rat) 100 p) : Con Try.prog 59 [.d tV a, .d tV b, .d tV p] [.d tR (encR (tosR (dec a) (dec b) (dec p)))] := by
  refine Ctx.Res.con (C := dts_C) (ctx_ok envd3_ok) (dts_s _ _ _ ⟨0, ?_⟩) (fn := Try.f59) (by kernel_rfl) (by kernel_rfl)
  obtain ⟨ha, hb, hp⟩ := h
  obtain ⟨a, rfl, ba⟩ := ok_ex ha
  obtain ⟨b, rfl, bb⟩ := ok_ex hb
  obtain ⟨p, rfl, bp⟩ := ok_ex hp
  have hnz : ¬ dotR (wayR a b) (wayR a p) ≤ 0 → ¬ dotR (wayR a b) (wayR a b) ≤ dotR (wayR a b) (wayR a p) → dotR (wayR a b) (wayR a b) ≠ 0 := fun h1 h2 => by grind
  unfold dts_t
  simp only [both_self, bothV_self, dup_eq, hid_eq, dec_enc', enc_fst, enc_snd, enc_mk, enc_rat, enc_int, enc_bool, dec_rat, dec_encR, okd, okd_R, okd_rdi, Bool.decide_and, Bool.and_true, Bool.and_self, Bool.true_and, Nat.reduceAdd, Nat.reduceMul, Nat.reduceLeDiff, cmpR_leb, cmpR_geb]
  unfold tosR
  cases h1 : decide (dotR (wayR a b) (wayR a p) ≤ 0)
  · cases h2 : decide (dotR (wayR a b) (wayR a b) ≤ dotR (wayR a b) (wayR a p))
    · have hz := hnz (of_decide_eq_false h1) (of_decide_eq_false h2)
      simp only [both_self, bothV_self, dup_eq, hid_eq, dec_enc', enc_fst, enc_snd, enc_mk, enc_rat, enc_int, enc_bool, dec_rat, dec_encR, okd, okd_R, okd_rdi, Bool.decide_and, Bool.and_true, Bool.and_self, Bool.true_and, Nat.reduceAdd, Nat.reduceMul, Nat.reduceLeDiff, hz, ne_eq, not_false_eq_true]
      rfl
    · rfl
  · rfl
def dcg_nt : NT := []
noncomputable def dcg_C : Ctx := ⟨Try.prog, ft, tys, envd3, dcg_nt⟩
noncomputable def dcg_t (_k : Nat → Cfg → Option (List RV)) (a : BV) (b : BV) (c : BV) (d : BV) : Option (List RV) := match decide (ok (Rat × Rat) 1000 a ∧ ok (Rat × Rat) 1000 b) with | true => (match decide (ok (Rat × Rat) 1000 c ∧ ok (Rat × Rat) 1000 d) with | true => (match decide (ok (Rat × Rat) 1000 a ∧ ok (Rat × Rat) 1000 c) with | true => (match decide (ok (Rat × Rat) 5000 (hid (enc (wayR (dec a) (dec b)))) ∧ ok (Rat × Rat) 5000 (hid (enc (wayR (dec a) (dec c))))) with | true => (match decide (okR (hid (encR (crsR (dec (hid (enc (wayR (dec a) (dec b))))) (dec (hid (enc (wayR (dec a) (dec c))))))))) with | true => (match decide (ok (Rat × Rat) 1000 a ∧ ok (Rat × Rat) 1000 d) with | true => (match decide (ok (Rat × Rat) 5000 (hid (enc (wayR (dec a) (dec b)))) ∧ ok (Rat × Rat) 5000 (hid (enc (wayR (dec a) (dec d))))) with | true => (match decide (okR (hid (encR (crsR (dec (hid (enc (wayR (dec a) (dec b))))) (dec (hid (enc (wayR (dec a) (dec d))))))))) with | true => (match decide ((IntKind.i64.wrap ((cmpR (decR (hid (encR (crsR (dec (hid (enc (wayR (dec a) (dec b))))) (dec (hid (enc (wayR (dec a) (dec c))))))))) 0) * (cmpR (decR (hid (encR (crsR (dec (hid (enc (wayR (dec a) (dec b))))) (dec (hid (enc (wayR (dec a) (dec d))))))))) 0))) < 0) with | true => (match decide (ok (Rat × Rat) 1000 c ∧ ok (Rat × Rat) 1000 a) with | true => (match decide (ok (Rat × Rat) 5000 (hid (enc (wayR (dec c) (dec d)))) ∧ ok (Rat × Rat) 5000 (hid (enc (wayR (dec c) (dec a))))) with | true => (match decide (okR (hid (encR (crsR (dec (hid (enc (wayR (dec c) (dec d))))) (dec (hid (enc (wayR (dec c) (dec a))))))))) with | true => (match decide (ok (Rat × Rat) 1000 c ∧ ok (Rat × Rat) 1000 b) with | true => (match decide (ok (Rat × Rat) 5000 (hid (enc (wayR (dec c) (dec d)))) ∧ ok (Rat × Rat) 5000 (hid (enc (wayR (dec c) (dec b))))) with | true => (match decide (okR (hid (encR (crsR (dec (hid (enc (wayR (dec c) (dec d))))) (dec (hid (enc (wayR (dec c) (dec b))))))))) with | true => some [RV.d .bool (decide ((IntKind.i64.wrap ((cmpR (decR (hid (encR (crsR (dec (hid (enc (wayR (dec c) (dec d))))) (dec (hid (enc (wayR (dec c) (dec a))))))))) 0) * (cmpR (decR (hid (encR (crsR (dec (hid (enc (wayR (dec c) (dec d))))) (dec (hid (enc (wayR (dec c) (dec b))))))))) 0))) < 0))] | false => none) | false => none) | false => none) | false => none) | false => none) | false => none) | false => some [RV.d .bool false]) | false => none) | false => none) | false => none) | false => none) | false => none) | false => none) | false => none) | false => none
theorem dcg_eq (k : Nat → Cfg → Option (List RV)) (a : BV) (b : BV) (c : BV) (d : BV) : go Try.prog ft tys envd3 dcg_nt k 4000 (start 58 [.d tV a, .d tV b, .d tV c, .d tV d]) (.node 0) = dcg_t k a b c d := (go2_eq _ _ _ _ _ _ _ _ _).symm.trans (show go2 Try.prog ft tys envd3 dcg_nt k 4000 (start 58 [.d tV a, .d tV b, .d tV c, .d tV d]) (.node 0) = dcg_t k a b c d by kernel_rfl)
theorem dcg_s (a : BV) (b : BV) (c : BV) (d : BV) {rX : List RV} (hX : ∃ nX, dcg_t (dcg_C.k nX) a b c d = some rX) : dcg_C.Res 58 [.d tV a, .d tV b, .d tV c, .d tV d] rX := by
  obtain ⟨nX, hX⟩ := hX
  exact ⟨nX, (dcg_eq _ a b c d).trans hX⟩
theorem dcg_con (a : BV) (b : BV) (c : BV) (d : BV) (h : ok (Rat × Rat) 100 a ∧ ok (Rat × Rat) 100 b ∧ ok (Rat × Rat) 100 c ∧ ok (Rat × Rat) 100 d) : Con Try.prog 58 [.d tV a, .d tV b, .d tV c, .d tV d] [.d .bool (cgR (dec a) (dec b) (dec c) (dec d))] := by
  refine Ctx.Res.con (C := dcg_C) (ctx_ok envd3_ok) (dcg_s _ _ _ _ ⟨0, ?_⟩) (fn := Try.f58) (by kernel_rfl) (by kernel_rfl)
  obtain ⟨ha, hb, hc, hd⟩ := h
  obtain ⟨a, rfl, ba⟩ := ok_ex ha
  obtain ⟨b, rfl, bb⟩ := ok_ex hb
  obtain ⟨c, rfl, bc⟩ := ok_ex hc
  obtain ⟨d, rfl, bd⟩ := ok_ex hd
  unfold dcg_t
  simp only [both_self, bothV_self, dup_eq, hid_eq, dec_enc', enc_fst, enc_snd, enc_mk, enc_rat, enc_int, enc_bool, dec_rat, dec_encR, okd, okd_R, okd_rdi, Bool.decide_and, Bool.and_true, Bool.and_self, Bool.true_and, Nat.reduceAdd, Nat.reduceMul, Nat.reduceLeDiff, sgn_mul]
  unfold cgR
  cases decide (cmpR (crsR (wayR a b) (wayR a c)) 0 * cmpR (crsR (wayR a b) (wayR a d)) 0 < 0) <;> rfl
end Go.Proofs.Ytcaiedfkohigjaa
