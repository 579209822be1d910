/- distance.Segments and the reference's. -/
import Derived.Test.YtcaiedfkohigjaaGreatZ13
namespace Go.Proofs.YtcaiedfkohigjaaGreat
open Go.RowKit
theorem okd_rdi {a b : Rat} {j k : Nat} [ha : Bd a j] [hb : Bd b k] (hj : j ≤ 100000) (hk : k ≤ 100000) (h : b ≠ 0) : decide (rdiP (encR a) (encR b)) = true :=
  decide_eq_true ⟨okR_enc ha.le hj, okR_enc hb.le hk, by show decI (encI b.num) ≠ 0; rw [dec_enc]; exact fun e => h (Rat.num_eq_zero.1 e)⟩
theorem cmpR_gtb (a b : Rat) : decide (cmpR a b > 0) = decide (b < a) := by
  rcases (by grind : a < b ∨ a = b ∨ b < a) with h | h | h
  · rw [cmpR_lt h, decide_eq_false (show ¬ b < a by grind)]; rfl
  · rw [h, cmpR_eq, decide_eq_false (show ¬ b < b by grind)]; rfl
  · rw [cmpR_gt h, decide_eq_true h]; rfl
theorem cmpR_ltb (a b : Rat) : decide (cmpR a b < 0) = decide (a < b) := by
  rcases (by grind : a < b ∨ a = b ∨ b < a) with h | h | h
  · rw [cmpR_lt h, decide_eq_true h]; rfl
  · rw [h, cmpR_eq, decide_eq_false (show ¬ b < b by grind)]; rfl
  · rw [cmpR_gt h, decide_eq_false (show ¬ a < b by grind)]; rfl
theorem cmpR_geb (a b : Rat) : decide (cmpR a b ≥ 0) = decide (b ≤ a) := by
  rcases (by grind : a < b ∨ a = b ∨ b < a) with h | h | h
  · rw [cmpR_lt h, decide_eq_false (show ¬ b ≤ a by grind)]; rfl
  · rw [h, cmpR_eq, decide_eq_true (show b ≤ b by grind)]; rfl
  · rw [cmpR_gt h, decide_eq_true (show b ≤ a by grind)]; rfl
theorem cmpR_leb (a b : Rat) : decide (cmpR a b ≤ 0) = decide (a ≤ b) := by
  rcases (by grind : a < b ∨ a = b ∨ b < a) with h | h | h
  · rw [cmpR_lt h, decide_eq_true (show a ≤ b by grind)]; rfl
  · rw [h, cmpR_eq, decide_eq_true (show b ≤ b by grind)]; rfl
  · rw [cmpR_gt h, decide_eq_false (show ¬ a ≤ b by grind)]; rfl
theorem cmpR_eqb (a b : Rat) : (cmpR a b == 0) = decide (a = b) := by
  rcases (by grind : a < b ∨ a = b ∨ b < a) with h | h | h
  · rw [cmpR_lt h, decide_eq_false (show ¬ a = b by grind)]; rfl
  · rw [h, cmpR_eq, decide_eq_true rfl]; rfl
  · rw [cmpR_gt h, decide_eq_false (show ¬ a = b by grind)]; rfl
theorem cmpR_bd (a b : Rat) : -1 ≤ cmpR a b ∧ cmpR a b ≤ 1 := by
  rcases (by grind : a < b ∨ a = b ∨ b < a) with h | h | h
  · rw [cmpR_lt h]; decide
  · rw [h, cmpR_eq]; decide
  · rw [cmpR_gt h]; decide
theorem sgn_mul {a b c d : Rat} : IntKind.i64.wrap (cmpR a b * cmpR c d) = cmpR a b * cmpR c d := by
  rcases (by grind : a < b ∨ a = b ∨ b < a) with h | h | h <;> rcases (by grind : c < d ∨ c = d ∨ d < c) with h' | h' | h'
  all_goals first | rw [cmpR_lt h] | (subst h; rw [cmpR_eq]) | rw [cmpR_gt h]
  all_goals first | rw [cmpR_lt h'] | (subst h'; rw [cmpR_eq]) | rw [cmpR_gt h']
  all_goals decide
/-- The square of a point's distance from a segment. -/
def tosR (a b p : Rat × Rat) : Rat := bif decide (dotR (wayR a b) (wayR a p) ≤ 0) then dotR (wayR a p) (wayR a p) else bif decide (dotR (wayR a b) (wayR a b) ≤ dotR (wayR a b) (wayR a p)) then dotR (wayR b p) (wayR b p)
  else crsR (wayR a b) (wayR a p) * crsR (wayR a b) (wayR a p) / dotR (wayR a b) (wayR a b)
instance bd_tos {a b p : Rat × Rat} {j k l : Nat} [ha : Bd a j] [hb : Bd b k] [hp : Bd p l] : Bd (tosR a b p) (100 * (j + k + l + 1)) := by
  have h1 : ∀ {q : Rat} {m : Nat}, Bd q m → m ≤ 100 * (j + k + l + 1) → Bd q (100 * (j + k + l + 1)) := fun h hm => ⟨bdR_mono h.le hm⟩
  unfold tosR
  cases decide (dotR (wayR a b) (wayR a p) ≤ 0)
  · cases decide (dotR (wayR a b) (wayR a b) ≤ dotR (wayR a b) (wayR a p))
    · have i : Bd (crsR (wayR a b) (wayR a p) * crsR (wayR a b) (wayR a p) / dotR (wayR a b) (wayR a b)) _ := inferInstance
      exact h1 i (by omega)
    · have i : Bd (dotR (wayR b p) (wayR b p)) _ := inferInstance
      exact h1 i (by omega)
  · have i : Bd (dotR (wayR a p) (wayR a p)) _ := inferInstance
    exact h1 i (by omega)
def cgR (a b c d : Rat × Rat) : Bool := decide (cmpR (crsR (wayR a b) (wayR a c)) 0 * cmpR (crsR (wayR a b) (wayR a d)) 0 < 0) && decide (cmpR (crsR (wayR c d) (wayR c a)) 0 * cmpR (crsR (wayR c d) (wayR c b)) 0 < 0)
def minR (x y : Rat) : Rat := bif decide (y < x) then y else x
def segR (a b c d : Rat × Rat) : Rat := bif cgR a b c d then 0 else minR (minR (minR (tosR a b c) (tosR a b d)) (tosR c d a)) (tosR c d b)
noncomputable def rad_tp : Spec := { keep := false, tame := true, run := fun _ args k => match args with
  | [.d (.st (.pair (.st (.pair .bool (.sl (.int .u32)))) (.st (.pair .bool (.sl (.int .u32)))))) a, .d (.st (.pair (.st (.pair .bool (.sl (.int .u32)))) (.st (.pair .bool (.sl (.int .u32)))))) b] => match decide (okR a ∧ okR b) with
    | true => k [RV.d tR (hid (encR (decR a + decR b)))]
    | false => none
  | _ => none }
theorem rad_tpec : callable Tryz.prog 146 = true ∧ SpecOk Tryz.prog 146 rad_tp ∧ ∀ g, rad_tp.mut_ = some g → MCon Tryz.prog 146 g := by
  refine ⟨by kernel_rfl, fun R args k r h => ?_, fun g h => by cases h⟩
  unfold rad_tp at h
  dsimp only at h
  split at h <;> try (cases h; done)
  split at h <;> try (cases h; done)
  rename_i hd
  simp only [hid_eq] at h
  exact ⟨_, h, rad_con _ _ (of_decide_eq_true hd)⟩

noncomputable def rsu_tp : Spec := { keep := false, tame := true, run := fun _ args k => match args with
  | [.d (.st (.pair (.st (.pair .bool (.sl (.int .u32)))) (.st (.pair .bool (.sl (.int .u32)))))) a, .d (.st (.pair (.st (.pair .bool (.sl (.int .u32)))) (.st (.pair .bool (.sl (.int .u32)))))) b] => match decide (okR a ∧ okR b) with
    | true => k [RV.d tR (hid (encR (decR a - decR b)))]
    | false => none
  | _ => none }
theorem rsu_tpec : callable Tryz.prog 145 = true ∧ SpecOk Tryz.prog 145 rsu_tp ∧ ∀ g, rsu_tp.mut_ = some g → MCon Tryz.prog 145 g := by
  refine ⟨by kernel_rfl, fun R args k r h => ?_, fun g h => by cases h⟩
  unfold rsu_tp at h
  dsimp only at h
  split at h <;> try (cases h; done)
  split at h <;> try (cases h; done)
  rename_i hd
  simp only [hid_eq] at h
  exact ⟨_, h, rsu_con _ _ (of_decide_eq_true hd)⟩

noncomputable def rmu_tp : Spec := { keep := false, tame := true, run := fun _ args k => match args with
  | [.d (.st (.pair (.st (.pair .bool (.sl (.int .u32)))) (.st (.pair .bool (.sl (.int .u32)))))) a, .d (.st (.pair (.st (.pair .bool (.sl (.int .u32)))) (.st (.pair .bool (.sl (.int .u32)))))) b] => match decide (okR a ∧ okR b) with
    | true => k [RV.d tR (hid (encR (decR a * decR b)))]
    | false => none
  | _ => none }
theorem rmu_tpec : callable Tryz.prog 39 = true ∧ SpecOk Tryz.prog 39 rmu_tp ∧ ∀ g, rmu_tp.mut_ = some g → MCon Tryz.prog 39 g := by
  refine ⟨by kernel_rfl, fun R args k r h => ?_, fun g h => by cases h⟩
  unfold rmu_tp at h
  dsimp only at h
  split at h <;> try (cases h; done)
  split at h <;> try (cases h; done)
  rename_i hd
  simp only [hid_eq] at h
  exact ⟨_, h, rmu_con _ _ (of_decide_eq_true hd)⟩

noncomputable def rdi_tp : Spec := { keep := false, tame := true, run := fun _ args k => match args with
  | [.d (.st (.pair (.st (.pair .bool (.sl (.int .u32)))) (.st (.pair .bool (.sl (.int .u32)))))) a, .d (.st (.pair (.st (.pair .bool (.sl (.int .u32)))) (.st (.pair .bool (.sl (.int .u32)))))) b] => match decide (rdiP a b) with
    | true => k [RV.d tR (hid (encR (decR a / decR b))), RV.d (.int .i64) 0]
    | false => none
  | _ => none }
theorem rdi_tpec : callable Tryz.prog 123 = true ∧ SpecOk Tryz.prog 123 rdi_tp ∧ ∀ g, rdi_tp.mut_ = some g → MCon Tryz.prog 123 g := by
  refine ⟨by kernel_rfl, fun R args k r h => ?_, fun g h => by cases h⟩
  unfold rdi_tp at h
  dsimp only at h
  split at h <;> try (cases h; done)
  split at h <;> try (cases h; done)
  rename_i hd
  simp only [hid_eq] at h
  exact ⟨_, h, rdi_con _ _ (of_decide_eq_true hd)⟩

def rsg_tp : Spec := { keep := true, tame := true, run := fun _ args k => match args with
  | [.d (.st (.pair (.st (.pair .bool (.sl (.int .u32)))) (.st (.pair .bool (.sl (.int .u32)))))) a] => match decide (okR a) with
    | true => k [RV.d (.int .i64) (cmpR (decR a) 0)]
    | false => none
  | _ => none }
theorem rsg_tpec : callable Tryz.prog 54 = true ∧ SpecOk Tryz.prog 54 rsg_tp ∧ ∀ g, rsg_tp.mut_ = some g → MCon Tryz.prog 54 g := by
  refine ⟨by kernel_rfl, fun R args k r h => ?_, fun g h => by cases h⟩
  unfold rsg_tp at h
  dsimp only at h
  split at h <;> try (cases h; done)
  split at h <;> try (cases h; done)
  rename_i hd
  exact ⟨_, h, rsg_con _ (of_decide_eq_true hd)⟩

def rcm_tp : Spec := { keep := true, tame := true, run := fun _ args k => match args with
  | [.d (.st (.pair (.st (.pair .bool (.sl (.int .u32)))) (.st (.pair .bool (.sl (.int .u32)))))) a, .d (.st (.pair (.st (.pair .bool (.sl (.int .u32)))) (.st (.pair .bool (.sl (.int .u32)))))) b] => match decide (okR a ∧ okR b) with
    | true => k [RV.d (.int .i64) (cmpR (decR a) (decR b))]
    | false => none
  | _ => none }
theorem rcm_tpec : callable Tryz.prog 25 = true ∧ SpecOk Tryz.prog 25 rcm_tp ∧ ∀ g, rcm_tp.mut_ = some g → MCon Tryz.prog 25 g := by
  refine ⟨by kernel_rfl, fun R args k r h => ?_, fun g h => by cases h⟩
  unfold rcm_tp at h
  dsimp only at h
  split at h <;> try (cases h; done)
  split at h <;> try (cases h; done)
  rename_i hd
  exact ⟨_, h, rcm_con _ _ (of_decide_eq_true hd)⟩

noncomputable def rfi_tp : Spec := { keep := false, tame := true, run := fun _ args k => match args with
  | [.d (.int .i64) n] => match decide (i64P n) with
    | true => k [RV.d tR (hid (encR (n : Rat)))]
    | false => none
  | _ => none }
theorem rfi_tpec : callable Tryz.prog 28 = true ∧ SpecOk Tryz.prog 28 rfi_tp ∧ ∀ g, rfi_tp.mut_ = some g → MCon Tryz.prog 28 g := by
  refine ⟨by kernel_rfl, fun R args k r h => ?_, fun g h => by cases h⟩
  unfold rfi_tp at h
  dsimp only at h
  split at h <;> try (cases h; done)
  split at h <;> try (cases h; done)
  rename_i hd
  simp only [hid_eq] at h
  exact ⟨_, h, rfi_con _ (of_decide_eq_true hd)⟩

noncomputable def envd1 : Env := [(146, rad_tp), (145, rsu_tp), (39, rmu_tp), (123, rdi_tp), (54, rsg_tp), (25, rcm_tp), (28, rfi_tp)]
theorem envd1_ok : EnvAll Tryz.prog envd1 := ⟨rad_tpec, rsu_tpec, rmu_tpec, rdi_tpec, rsg_tpec, rcm_tpec, rfi_tpec, trivial⟩
def dad_nt : NT := []
noncomputable def dad_C : Ctx := ⟨Tryz.prog, ft, tys, envd1, dad_nt⟩
noncomputable def dad_t (_k : Nat → Cfg → Option (List RV)) (a : BR) (b : BR) : Option (List RV) := match decide (okR a ∧ okR b) with | true => some [RV.d tR (hid (encR (decR a + decR b)))] | false => none
theorem dad_eq (k : Nat → Cfg → Option (List RV)) (a : BR) (b : BR) : go Tryz.prog ft tys envd1 dad_nt k 4000 (start 122 [.d tR a, .d tR b]) (.node 0) = dad_t k a b := (go2_eq _ _ _ _ _ _ _ _ _).symm.trans (show go2 Tryz.prog ft tys envd1 dad_nt k 4000 (start 122 [.d tR a, .d tR b]) (.node 0) = dad_t k a b by kernel_rfl)
theorem dad_s (a : BR) (b : BR) {rX : List RV} (hX : ∃ nX, dad_t (dad_C.k nX) a b = some rX) : dad_C.Res 122 [.d tR a, .d tR b] rX := by
  obtain ⟨nX, hX⟩ := hX
  exact ⟨nX, (dad_eq _ a b).trans hX⟩
theorem dad_con (a : BR) (b : BR) (h : okR a ∧ okR b) : Con Tryz.prog 122 [.d tR a, .d tR b] [.d tR (encR (decR a + decR b))] := by
  refine Ctx.Res.con (C := dad_C) (ctx_ok envd1_ok) (dad_s _ _ ⟨0, ?_⟩) (fn := Tryz.f122) (by kernel_rfl) (by kernel_rfl)
  unfold dad_t
  rw [dT h, hid_eq]
def dsu_nt : NT := []
noncomputable def dsu_C : Ctx := ⟨Tryz.prog, ft, tys, envd1, dsu_nt⟩
noncomputable def dsu_t (_k : Nat → Cfg → Option (List RV)) (a : BR) (b : BR) : Option (List RV) := match decide (okR a ∧ okR b) with | true => some [RV.d tR (hid (encR (decR a - decR b)))] | false => none
theorem dsu_eq (k : Nat → Cfg → Option (List RV)) (a : BR) (b : BR) : go Tryz.prog ft tys envd1 dsu_nt k 4000 (start 121 [.d tR a, .d tR b]) (.node 0) = dsu_t k a b := (go2_eq _ _ _ _ _ _ _ _ _).symm.trans (show go2 Tryz.prog ft tys envd1 dsu_nt k 4000 (start 121 [.d tR a, .d tR b]) (.node 0) = dsu_t k a b by kernel_rfl)
theorem dsu_s (a : BR) (b : BR) {rX : List RV} (hX : ∃ nX, dsu_t (dsu_C.k nX) a b = some rX) : dsu_C.Res 121 [.d tR a, .d tR b] rX := by
  obtain ⟨nX, hX⟩ := hX
  exact ⟨nX, (dsu_eq _ a b).trans hX⟩
theorem dsu_con (a : BR) (b : BR) (h : okR a ∧ okR b) : Con Tryz.prog 121 [.d tR a, .d tR b] [.d tR (encR (decR a - decR b))] := by
  refine Ctx.Res.con (C := dsu_C) (ctx_ok envd1_ok) (dsu_s _ _ ⟨0, ?_⟩) (fn := Tryz.f121) (by kernel_rfl) (by kernel_rfl)
  unfold dsu_t
  rw [dT h, hid_eq]
def dmu_nt : NT := []
noncomputable def dmu_C : Ctx := ⟨Tryz.prog, ft, tys, envd1, dmu_nt⟩
noncomputable def dmu_t (_k : Nat → Cfg → Option (List RV)) (a : BR) (b : BR) : Option (List RV) := match decide (okR a ∧ okR b) with | true => some [RV.d tR (hid (encR (decR a * decR b)))] | false => none
theorem dmu_eq (k : Nat → Cfg → Option (List RV)) (a : BR) (b : BR) : go Tryz.prog ft tys envd1 dmu_nt k 4000 (start 87 [.d tR a, .d tR b]) (.node 0) = dmu_t k a b := (go2_eq _ _ _ _ _ _ _ _ _).symm.trans (show go2 Tryz.prog ft tys envd1 dmu_nt k 4000 (start 87 [.d tR a, .d tR b]) (.node 0) = dmu_t k a b by kernel_rfl)
theorem dmu_s (a : BR) (b : BR) {rX : List RV} (hX : ∃ nX, dmu_t (dmu_C.k nX) a b = some rX) : dmu_C.Res 87 [.d tR a, .d tR b] rX := by
  obtain ⟨nX, hX⟩ := hX
  exact ⟨nX, (dmu_eq _ a b).trans hX⟩
theorem dmu_con (a : BR) (b : BR) (h : okR a ∧ okR b) : Con Tryz.prog 87 [.d tR a, .d tR b] [.d tR (encR (decR a * decR b))] := by
  refine Ctx.Res.con (C := dmu_C) (ctx_ok envd1_ok) (dmu_s _ _ ⟨0, ?_⟩) (fn := Tryz.f87) (by kernel_rfl) (by kernel_rfl)
  unfold dmu_t
  rw [dT h, hid_eq]
def dov_nt : NT := []
noncomputable def dov_C : Ctx := ⟨Tryz.prog, ft, tys, envd1, dov_nt⟩
noncomputable def dov_t (_k : Nat → Cfg → Option (List RV)) (a : BR) (b : BR) : Option (List RV) := match decide (rdiP a b) with | true => (match 0 != 0 with | true => (match decide (i64P (0 : Int)) with | true => some [RV.d tR (hid (encR ((0 : Int) : Rat)))] | false => none) | false => some [RV.d tR (hid (encR (decR a / decR b)))]) | false => none
theorem dov_eq (k : Nat → Cfg → Option (List RV)) (a : BR) (b : BR) : go Tryz.prog ft tys envd1 dov_nt k 4000 (start 86 [.d tR a, .d tR b]) (.node 0) = dov_t k a b := (go2_eq _ _ _ _ _ _ _ _ _).symm.trans (show go2 Tryz.prog ft tys envd1 dov_nt k 4000 (start 86 [.d tR a, .d tR b]) (.node 0) = dov_t k a b by kernel_rfl)
theorem dov_s (a : BR) (b : BR) {rX : List RV} (hX : ∃ nX, dov_t (dov_C.k nX) a b = some rX) : dov_C.Res 86 [.d tR a, .d tR b] rX := by
  obtain ⟨nX, hX⟩ := hX
  exact ⟨nX, (dov_eq _ a b).trans hX⟩
theorem dov_con (a : BR) (b : BR) (h : rdiP a b) : Con Tryz.prog 86 [.d tR a, .d tR b] [.d tR (encR (decR a / decR b))] := by
  refine Ctx.Res.con (C := dov_C) (ctx_ok envd1_ok) (dov_s _ _ ⟨0, ?_⟩) (fn := Tryz.f86) (by kernel_rfl) (by kernel_rfl)
  unfold dov_t
  rw [dT h]
  simp only [hid_eq]
  rfl
noncomputable def dad_tp : Spec := { keep := false, tame := true, run := fun _ args k => match args with
  | [.d (.st (.pair (.st (.pair .bool (.sl (.int .u32)))) (.st (.pair .bool (.sl (.int .u32)))))) a, .d (.st (.pair (.st (.pair .bool (.sl (.int .u32)))) (.st (.pair .bool (.sl (.int .u32)))))) b] => match decide (okR a ∧ okR b) with
    | true => k [RV.d tR (hid (encR (decR a + decR b)))]
    | false => none
  | _ => none }
theorem dad_tpec : callable Tryz.prog 122 = true ∧ SpecOk Tryz.prog 122 dad_tp ∧ ∀ g, dad_tp.mut_ = some g → MCon Tryz.prog 122 g := by
  refine ⟨by kernel_rfl, fun R args k r h => ?_, fun g h => by cases h⟩
  unfold dad_tp at h
  dsimp only at h
  split at h <;> try (cases h; done)
  split at h <;> try (cases h; done)
  rename_i hd
  simp only [hid_eq] at h
  exact ⟨_, h, dad_con _ _ (of_decide_eq_true hd)⟩

noncomputable def dsu_tp : Spec := { keep := false, tame := true, run := fun _ args k => match args with
  | [.d (.st (.pair (.st (.pair .bool (.sl (.int .u32)))) (.st (.pair .bool (.sl (.int .u32)))))) a, .d (.st (.pair (.st (.pair .bool (.sl (.int .u32)))) (.st (.pair .bool (.sl (.int .u32)))))) b] => match decide (okR a ∧ okR b) with
    | true => k [RV.d tR (hid (encR (decR a - decR b)))]
    | false => none
  | _ => none }
theorem dsu_tpec : callable Tryz.prog 121 = true ∧ SpecOk Tryz.prog 121 dsu_tp ∧ ∀ g, dsu_tp.mut_ = some g → MCon Tryz.prog 121 g := by
  refine ⟨by kernel_rfl, fun R args k r h => ?_, fun g h => by cases h⟩
  unfold dsu_tp at h
  dsimp only at h
  split at h <;> try (cases h; done)
  split at h <;> try (cases h; done)
  rename_i hd
  simp only [hid_eq] at h
  exact ⟨_, h, dsu_con _ _ (of_decide_eq_true hd)⟩

noncomputable def dmu_tp : Spec := { keep := false, tame := true, run := fun _ args k => match args with
  | [.d (.st (.pair (.st (.pair .bool (.sl (.int .u32)))) (.st (.pair .bool (.sl (.int .u32)))))) a, .d (.st (.pair (.st (.pair .bool (.sl (.int .u32)))) (.st (.pair .bool (.sl (.int .u32)))))) b] => match decide (okR a ∧ okR b) with
    | true => k [RV.d tR (hid (encR (decR a * decR b)))]
    | false => none
  | _ => none }
theorem dmu_tpec : callable Tryz.prog 87 = true ∧ SpecOk Tryz.prog 87 dmu_tp ∧ ∀ g, dmu_tp.mut_ = some g → MCon Tryz.prog 87 g := by
  refine ⟨by kernel_rfl, fun R args k r h => ?_, fun g h => by cases h⟩
  unfold dmu_tp at h
  dsimp only at h
  split at h <;> try (cases h; done)
  split at h <;> try (cases h; done)
  rename_i hd
  simp only [hid_eq] at h
  exact ⟨_, h, dmu_con _ _ (of_decide_eq_true hd)⟩

noncomputable def dov_tp : Spec := { keep := false, tame := true, run := fun _ args k => match args with
  | [.d (.st (.pair (.st (.pair .bool (.sl (.int .u32)))) (.st (.pair .bool (.sl (.int .u32)))))) a, .d (.st (.pair (.st (.pair .bool (.sl (.int .u32)))) (.st (.pair .bool (.sl (.int .u32)))))) b] => match decide (rdiP a b) with
    | true => k [RV.d tR (hid (encR (decR a / decR b)))]
    | false => none
  | _ => none }
theorem dov_tpec : callable Tryz.prog 86 = true ∧ SpecOk Tryz.prog 86 dov_tp ∧ ∀ g, dov_tp.mut_ = some g → MCon Tryz.prog 86 g := by
  refine ⟨by kernel_rfl, fun R args k r h => ?_, fun g h => by cases h⟩
  unfold dov_tp at h
  dsimp only at h
  split at h <;> try (cases h; done)
  split at h <;> try (cases h; done)
  rename_i hd
  simp only [hid_eq] at h
  exact ⟨_, h, dov_con _ _ (of_decide_eq_true hd)⟩

noncomputable def envd2 : Env := [(146, rad_tp), (145, rsu_tp), (39, rmu_tp), (123, rdi_tp), (54, rsg_tp), (25, rcm_tp), (28, rfi_tp), (122, dad_tp), (121, dsu_tp), (87, dmu_tp), (86, dov_tp)]
theorem envd2_ok : EnvAll Tryz.prog envd2 := ⟨rad_tpec, rsu_tpec, rmu_tpec, rdi_tpec, rsg_tpec, rcm_tpec, rfi_tpec, dad_tpec, dsu_tpec, dmu_tpec, dov_tpec, trivial⟩
def dwa_nt : NT := []
noncomputable def dwa_C : Ctx := ⟨Tryz.prog, ft, tys, envd2, dwa_nt⟩
noncomputable def dwa_t (_k : Nat → Cfg → Option (List RV)) (a : BV) (b : BV) : Option (List RV) := match decide (okR b.1 ∧ okR a.1) with | true => (match decide (okR b.2 ∧ okR a.2) with | true => some [RV.d tV (hid (encR (decR b.1 - decR a.1)), hid (encR (decR b.2 - decR a.2)))] | false => none) | false => none
theorem dwa_eq (k : Nat → Cfg → Option (List RV)) (a : BV) (b : BV) : go Tryz.prog ft tys envd2 dwa_nt k 4000 (start 83 [.d tV a, .d tV b]) (.node 0) = dwa_t k a b := (go2_eq _ _ _ _ _ _ _ _ _).symm.trans (show go2 Tryz.prog ft tys envd2 dwa_nt k 4000 (start 83 [.d tV a, .d tV b]) (.node 0) = dwa_t k a b by kernel_rfl)
theorem dwa_s (a : BV) (b : BV) {rX : List RV} (hX : ∃ nX, dwa_t (dwa_C.k nX) a b = some rX) : dwa_C.Res 83 [.d tV a, .d tV b] rX := by
  obtain ⟨nX, hX⟩ := hX
  exact ⟨nX, (dwa_eq _ a b).trans hX⟩
theorem dwa_con (a : BV) (b : BV) (h : ok (Rat × Rat) 1000 a ∧ ok (Rat × Rat) 1000 b) : Con Tryz.prog 83 [.d tV a, .d tV b] [.d tV (enc (wayR (dec a) (dec b)))] := by
  refine Ctx.Res.con (C := dwa_C) (ctx_ok envd2_ok) (dwa_s _ _ ⟨0, ?_⟩) (fn := Tryz.f83) (by kernel_rfl) (by kernel_rfl)
  obtain ⟨ha, hb⟩ := h
  obtain ⟨a, rfl, ba⟩ := ok_ex ha
  obtain ⟨b, rfl, bb⟩ := ok_ex hb
  unfold dwa_t
  simp only [hid_eq, dec_enc', enc_fst, enc_snd, enc_rat, dec_encR, okd_R, Bool.decide_and, Bool.and_self, Nat.reduceLeDiff]
  rfl
def ddo_nt : NT := []
noncomputable def ddo_C : Ctx := ⟨Tryz.prog, ft, tys, envd2, ddo_nt⟩
noncomputable def ddo_t (_k : Nat → Cfg → Option (List RV)) (a : BV) (b : BV) : Option (List RV) := match decide (okR a.1 ∧ okR b.1) with | true => (match decide (okR a.2 ∧ okR b.2) with | true => (match decide (okR (hid (encR (decR a.1 * decR b.1))) ∧ okR (hid (encR (decR a.2 * decR b.2)))) with | true => some [RV.d tR (hid (encR (decR (hid (encR (decR a.1 * decR b.1))) + decR (hid (encR (decR a.2 * decR b.2))))))] | false => none) | false => none) | false => none
theorem ddo_eq (k : Nat → Cfg → Option (List RV)) (a : BV) (b : BV) : go Tryz.prog ft tys envd2 ddo_nt k 4000 (start 85 [.d tV a, .d tV b]) (.node 0) = ddo_t k a b := (go2_eq _ _ _ _ _ _ _ _ _).symm.trans (show go2 Tryz.prog ft tys envd2 ddo_nt k 4000 (start 85 [.d tV a, .d tV b]) (.node 0) = ddo_t k a b by kernel_rfl)
theorem ddo_s (a : BV) (b : BV) {rX : List RV} (hX : ∃ nX, ddo_t (ddo_C.k nX) a b = some rX) : ddo_C.Res 85 [.d tV a, .d tV b] rX := by
  obtain ⟨nX, hX⟩ := hX
  exact ⟨nX, (ddo_eq _ a b).trans hX⟩
theorem ddo_con (a : BV) (b : BV) (h : ok (Rat × Rat) 5000 a ∧ ok (Rat × Rat) 5000 b) : Con Tryz.prog 85 [.d tV a, .d tV b] [.d tR (encR (dotR (dec a) (dec b)))] := by
  refine Ctx.Res.con (C := ddo_C) (ctx_ok envd2_ok) (ddo_s _ _ ⟨0, ?_⟩) (fn := Tryz.f85) (by kernel_rfl) (by kernel_rfl)
  obtain ⟨ha, hb⟩ := h
  obtain ⟨a, rfl, ba⟩ := ok_ex ha
  obtain ⟨b, rfl, bb⟩ := ok_ex hb
  unfold ddo_t
  simp only [hid_eq, dec_enc', enc_fst, enc_snd, enc_rat, dec_encR, okd_R, Bool.decide_and, Bool.and_self, Nat.reduceAdd, Nat.reduceLeDiff]
  rfl
def dcr_nt : NT := []
noncomputable def dcr_C : Ctx := ⟨Tryz.prog, ft, tys, envd2, dcr_nt⟩
noncomputable def dcr_t (_k : Nat → Cfg → Option (List RV)) (a : BV) (b : BV) : Option (List RV) := match decide (okR a.1 ∧ okR b.2) with | true => (match decide (okR a.2 ∧ okR b.1) with | true => (match decide (okR (hid (encR (decR a.1 * decR b.2))) ∧ okR (hid (encR (decR a.2 * decR b.1)))) with | true => some [RV.d tR (hid (encR (decR (hid (encR (decR a.1 * decR b.2))) - decR (hid (encR (decR a.2 * decR b.1))))))] | false => none) | false => none) | false => none
theorem dcr_eq (k : Nat → Cfg → Option (List RV)) (a : BV) (b : BV) : go Tryz.prog ft tys envd2 dcr_nt k 4000 (start 84 [.d tV a, .d tV b]) (.node 0) = dcr_t k a b := (go2_eq _ _ _ _ _ _ _ _ _).symm.trans (show go2 Tryz.prog ft tys envd2 dcr_nt k 4000 (start 84 [.d tV a, .d tV b]) (.node 0) = dcr_t k a b by kernel_rfl)
theorem dcr_s (a : BV) (b : BV) {rX : List RV} (hX : ∃ nX, dcr_t (dcr_C.k nX) a b = some rX) : dcr_C.Res 84 [.d tV a, .d tV b] rX := by
  obtain ⟨nX, hX⟩ := hX
  exact ⟨nX, (dcr_eq _ a b).trans hX⟩
theorem dcr_con (a : BV) (b : BV) (h : ok (Rat × Rat) 5000 a ∧ ok (Rat × Rat) 5000 b) : Con Tryz.prog 84 [.d tV a, .d tV b] [.d tR (encR (crsR (dec a) (dec b)))] := by
  refine Ctx.Res.con (C := dcr_C) (ctx_ok envd2_ok) (dcr_s _ _ ⟨0, ?_⟩) (fn := Tryz.f84) (by kernel_rfl) (by kernel_rfl)
  obtain ⟨ha, hb⟩ := h
  obtain ⟨a, rfl, ba⟩ := ok_ex ha
  obtain ⟨b, rfl, bb⟩ := ok_ex hb
  unfold dcr_t
  simp only [hid_eq, dec_enc', enc_fst, enc_snd, enc_rat, dec_encR, okd_R, Bool.decide_and, Bool.and_self, Nat.reduceAdd, Nat.reduceLeDiff]
  rfl
noncomputable def dwa_tp : Spec := { keep := false, tame := true, run := fun _ args k => match args with
  | [.d (.st (.pair (.st (.pair (.st (.pair .bool (.sl (.int .u32)))) (.st (.pair .bool (.sl (.int .u32)))))) (.st (.pair (.st (.pair .bool (.sl (.int .u32)))) (.st (.pair .bool (.sl (.int .u32)))))))) a, .d (.st (.pair (.st (.pair (.st (.pair .bool (.sl (.int .u32)))) (.st (.pair .bool (.sl (.int .u32)))))) (.st (.pair (.st (.pair .bool (.sl (.int .u32)))) (.st (.pair .bool (.sl (.int .u32)))))))) b] => match decide (ok (Rat × Rat) 1000 a ∧ ok (Rat × Rat) 1000 b) with
    | true => k [RV.d tV (hid (enc (wayR (dec a) (dec b))))]
    | false => none
  | _ => none }
theorem dwa_tpec : callable Tryz.prog 83 = true ∧ SpecOk Tryz.prog 83 dwa_tp ∧ ∀ g, dwa_tp.mut_ = some g → MCon Tryz.prog 83 g := by
  refine ⟨by kernel_rfl, fun R args k r h => ?_, fun g h => by cases h⟩
  unfold dwa_tp at h
  dsimp only at h
  split at h <;> try (cases h; done)
  split at h <;> try (cases h; done)
  rename_i hd
  simp only [hid_eq] at h
  exact ⟨_, h, dwa_con _ _ (of_decide_eq_true hd)⟩

noncomputable def ddo_tp : Spec := { keep := false, tame := true, run := fun _ args k => match args with
  | [.d (.st (.pair (.st (.pair (.st (.pair .bool (.sl (.int .u32)))) (.st (.pair .bool (.sl (.int .u32)))))) (.st (.pair (.st (.pair .bool (.sl (.int .u32)))) (.st (.pair .bool (.sl (.int .u32)))))))) a, .d (.st (.pair (.st (.pair (.st (.pair .bool (.sl (.int .u32)))) (.st (.pair .bool (.sl (.int .u32)))))) (.st (.pair (.st (.pair .bool (.sl (.int .u32)))) (.st (.pair .bool (.sl (.int .u32)))))))) b] => match decide (ok (Rat × Rat) 5000 a ∧ ok (Rat × Rat) 5000 b) with
    | true => k [RV.d tR (hid (encR (dotR (dec a) (dec b))))]
    | false => none
  | _ => none }
theorem ddo_tpec : callable Tryz.prog 85 = true ∧ SpecOk Tryz.prog 85 ddo_tp ∧ ∀ g, ddo_tp.mut_ = some g → MCon Tryz.prog 85 g := by
  refine ⟨by kernel_rfl, fun R args k r h => ?_, fun g h => by cases h⟩
  unfold ddo_tp at h
  dsimp only at h
  split at h <;> try (cases h; done)
  split at h <;> try (cases h; done)
  rename_i hd
  simp only [hid_eq] at h
  exact ⟨_, h, ddo_con _ _ (of_decide_eq_true hd)⟩

noncomputable def dcr_tp : Spec := { keep := false, tame := true, run := fun _ args k => match args with
  | [.d (.st (.pair (.st (.pair (.st (.pair .bool (.sl (.int .u32)))) (.st (.pair .bool (.sl (.int .u32)))))) (.st (.pair (.st (.pair .bool (.sl (.int .u32)))) (.st (.pair .bool (.sl (.int .u32)))))))) a, .d (.st (.pair (.st (.pair (.st (.pair .bool (.sl (.int .u32)))) (.st (.pair .bool (.sl (.int .u32)))))) (.st (.pair (.st (.pair .bool (.sl (.int .u32)))) (.st (.pair .bool (.sl (.int .u32)))))))) b] => match decide (ok (Rat × Rat) 5000 a ∧ ok (Rat × Rat) 5000 b) with
    | true => k [RV.d tR (hid (encR (crsR (dec a) (dec b))))]
    | false => none
  | _ => none }
theorem dcr_tpec : callable Tryz.prog 84 = true ∧ SpecOk Tryz.prog 84 dcr_tp ∧ ∀ g, dcr_tp.mut_ = some g → MCon Tryz.prog 84 g := by
  refine ⟨by kernel_rfl, fun R args k r h => ?_, fun g h => by cases h⟩
  unfold dcr_tp at h
  dsimp only at h
  split at h <;> try (cases h; done)
  split at h <;> try (cases h; done)
  rename_i hd
  simp only [hid_eq] at h
  exact ⟨_, h, dcr_con _ _ (of_decide_eq_true hd)⟩

noncomputable def envd3 : Env := [(146, rad_tp), (145, rsu_tp), (39, rmu_tp), (123, rdi_tp), (54, rsg_tp), (25, rcm_tp), (28, rfi_tp), (122, dad_tp), (121, dsu_tp), (87, dmu_tp), (86, dov_tp), (83, dwa_tp), (85, ddo_tp), (84, dcr_tp)]
theorem envd3_ok : EnvAll Tryz.prog envd3 := ⟨rad_tpec, rsu_tpec, rmu_tpec, rdi_tpec, rsg_tpec, rcm_tpec, rfi_tpec, dad_tpec, dsu_tpec, dmu_tpec, dov_tpec, dwa_tpec, ddo_tpec, dcr_tpec, trivial⟩
def dts_nt : NT := []
noncomputable def dts_C : Ctx := ⟨Tryz.prog, ft, tys, envd3, dts_nt⟩
noncomputable def dts_t (_k : Nat → Cfg → Option (List RV)) (a : BV) (b : BV) (p : BV) : Option (List RV) := match decide (ok (Rat × Rat) 1000 a ∧ ok (Rat × Rat) 1000 b) with | true => (match decide (ok (Rat × Rat) 1000 a ∧ ok (Rat × Rat) 1000 p) with | true => (match decide (ok (Rat × Rat) 5000 (hid (enc (wayR (dec a) (dec b)))) ∧ ok (Rat × Rat) 5000 (hid (enc (wayR (dec a) (dec b))))) with | true => (match decide (ok (Rat × Rat) 5000 (hid (enc (wayR (dec a) (dec b)))) ∧ ok (Rat × Rat) 5000 (hid (enc (wayR (dec a) (dec p))))) with | true => (match decide (okR (hid (encR (dotR (dec (hid (enc (wayR (dec a) (dec b))))) (dec (hid (enc (wayR (dec a) (dec p))))))))) with | true => (match decide ((cmpR (decR (hid (encR (dotR (dec (hid (enc (wayR (dec a) (dec b))))) (dec (hid (enc (wayR (dec a) (dec p))))))))) 0) ≤ 0) with | true => (match decide (ok (Rat × Rat) 5000 (hid (enc (wayR (dec a) (dec p)))) ∧ ok (Rat × Rat) 5000 (hid (enc (wayR (dec a) (dec p))))) with | true => some [RV.d tR (hid (encR (dotR (dec (hid (enc (wayR (dec a) (dec p))))) (dec (hid (enc (wayR (dec a) (dec p))))))))] | false => none) | false => (match decide (okR (hid (encR (dotR (dec (hid (enc (wayR (dec a) (dec b))))) (dec (hid (enc (wayR (dec a) (dec p)))))))) ∧ okR (hid (encR (dotR (dec (hid (enc (wayR (dec a) (dec b))))) (dec (hid (enc (wayR (dec a) (dec b))))))))) with | true => (match decide ((cmpR (decR (hid (encR (dotR (dec (hid (enc (wayR (dec a) (dec b))))) (dec (hid (enc (wayR (dec a) (dec p))))))))) (decR (hid (encR (dotR (dec (hid (enc (wayR (dec a) (dec b))))) (dec (hid (enc (wayR (dec a) (dec b)))))))))) ≥ 0) with | true => (match decide (ok (Rat × Rat) 1000 b ∧ ok (Rat × Rat) 1000 p) with | true => (match decide (ok (Rat × Rat) 5000 (hid (enc (wayR (dec b) (dec p)))) ∧ ok (Rat × Rat) 5000 (hid (enc (wayR (dec b) (dec p))))) with | true => some [RV.d tR (hid (encR (dotR (dec (hid (enc (wayR (dec b) (dec p))))) (dec (hid (enc (wayR (dec b) (dec p))))))))] | false => none) | false => none) | false => (match decide (ok (Rat × Rat) 5000 (hid (enc (wayR (dec a) (dec b)))) ∧ ok (Rat × Rat) 5000 (hid (enc (wayR (dec a) (dec p))))) with | true => (match decide (okR (hid (encR (crsR (dec (hid (enc (wayR (dec a) (dec b))))) (dec (hid (enc (wayR (dec a) (dec p)))))))) ∧ okR (hid (encR (crsR (dec (hid (enc (wayR (dec a) (dec b))))) (dec (hid (enc (wayR (dec a) (dec p))))))))) with | true => (match decide (rdiP (hid (encR (decR (hid (encR (crsR (dec (hid (enc (wayR (dec a) (dec b))))) (dec (hid (enc (wayR (dec a) (dec p)))))))) * decR (hid (encR (crsR (dec (hid (enc (wayR (dec a) (dec b))))) (dec (hid (enc (wayR (dec a) (dec p))))))))))) (hid (encR (dotR (dec (hid (enc (wayR (dec a) (dec b))))) (dec (hid (enc (wayR (dec a) (dec b))))))))) with | true => some [RV.d tR (hid (encR (decR (hid (encR (decR (hid (encR (crsR (dec (hid (enc (wayR (dec a) (dec b))))) (dec (hid (enc (wayR (dec a) (dec p)))))))) * decR (hid (encR (crsR (dec (hid (enc (wayR (dec a) (dec b))))) (dec (hid (enc (wayR (dec a) (dec p))))))))))) / decR (hid (encR (dotR (dec (hid (enc (wayR (dec a) (dec b))))) (dec (hid (enc (wayR (dec a) (dec b)))))))))))] | false => none) | false => none) | false => none)) | false => none)) | false => none) | false => none) | false => none) | false => none) | false => none
theorem dts_eq (k : Nat → Cfg → Option (List RV)) (a : BV) (b : BV) (p : BV) : go Tryz.prog ft tys envd3 dts_nt k 4000 (start 58 [.d tV a, .d tV b, .d tV p]) (.node 0) = dts_t k a b p := (go2_eq _ _ _ _ _ _ _ _ _).symm.trans (show go2 Tryz.prog ft tys envd3 dts_nt k 4000 (start 58 [.d tV a, .d tV b, .d tV p]) (.node 0) = dts_t k a b p by kernel_rfl)
theorem dts_s (a : BV) (b : BV) (p : BV) {rX : List RV} (hX : ∃ nX, dts_t (dts_C.k nX) a b p = some rX) : dts_C.Res 58 [.d tV a, .d tV b, .d tV p] rX := by
  obtain ⟨nX, hX⟩ := hX
  exact ⟨nX, (dts_eq _ a b p).trans hX⟩
theorem dts_con (a : BV) (b : BV) (p : BV) (h : ok (Rat × Rat) 100 a ∧ ok (Rat × Rat) 100 b ∧ ok (Rat × Rat) 100 p) : Con Tryz.prog 58 [.d tV a, .d tV b, .d tV p] [.d tR (encR (tosR (dec a) (dec b) (dec p)))] := by
  refine Ctx.Res.con (C := dts_C) (ctx_ok envd3_ok) (dts_s _ _ _ ⟨0, ?_⟩) (fn := Tryz.f58) (by kernel_rfl) (by kernel_rfl)
  obtain ⟨ha, hb, hp⟩ := h
  obtain ⟨a, rfl, ba⟩ := ok_ex ha
  obtain ⟨b, rfl, bb⟩ := ok_ex hb
  obtain ⟨p, rfl, bp⟩ := ok_ex hp
  have hnz : ¬ dotR (wayR a b) (wayR a p) ≤ 0 → ¬ dotR (wayR a b) (wayR a b) ≤ dotR (wayR a b) (wayR a p) → dotR (wayR a b) (wayR a b) ≠ 0 := fun h1 h2 => by grind
  unfold dts_t
  simp only [hid_eq, dec_enc', dec_encR, okd, okd_R, Bool.decide_and, Bool.and_self, Nat.reduceAdd, Nat.reduceLeDiff, cmpR_leb, cmpR_geb]
  unfold tosR
  cases h1 : decide (dotR (wayR a b) (wayR a p) ≤ 0)
  · cases h2 : decide (dotR (wayR a b) (wayR a b) ≤ dotR (wayR a b) (wayR a p))
    · have hz := hnz (of_decide_eq_false h1) (of_decide_eq_false h2)
      simp only [okd_rdi, Nat.reduceAdd, Nat.reduceLeDiff, hz, ne_eq, not_false_eq_true]
      rfl
    · rfl
  · rfl
def dcg_nt : NT := []
noncomputable def dcg_C : Ctx := ⟨Tryz.prog, ft, tys, envd3, dcg_nt⟩
noncomputable def dcg_t (_k : Nat → Cfg → Option (List RV)) (a : BV) (b : BV) (c : BV) (d : BV) : Option (List RV) := match decide (ok (Rat × Rat) 1000 a ∧ ok (Rat × Rat) 1000 b) with | true => (match decide (ok (Rat × Rat) 1000 c ∧ ok (Rat × Rat) 1000 d) with | true => (match decide (ok (Rat × Rat) 1000 a ∧ ok (Rat × Rat) 1000 c) with | true => (match decide (ok (Rat × Rat) 5000 (hid (enc (wayR (dec a) (dec b)))) ∧ ok (Rat × Rat) 5000 (hid (enc (wayR (dec a) (dec c))))) with | true => (match decide (okR (hid (encR (crsR (dec (hid (enc (wayR (dec a) (dec b))))) (dec (hid (enc (wayR (dec a) (dec c))))))))) with | true => (match decide (ok (Rat × Rat) 1000 a ∧ ok (Rat × Rat) 1000 d) with | true => (match decide (ok (Rat × Rat) 5000 (hid (enc (wayR (dec a) (dec b)))) ∧ ok (Rat × Rat) 5000 (hid (enc (wayR (dec a) (dec d))))) with | true => (match decide (okR (hid (encR (crsR (dec (hid (enc (wayR (dec a) (dec b))))) (dec (hid (enc (wayR (dec a) (dec d))))))))) with | true => (match decide ((IntKind.i64.wrap ((cmpR (decR (hid (encR (crsR (dec (hid (enc (wayR (dec a) (dec b))))) (dec (hid (enc (wayR (dec a) (dec c))))))))) 0) * (cmpR (decR (hid (encR (crsR (dec (hid (enc (wayR (dec a) (dec b))))) (dec (hid (enc (wayR (dec a) (dec d))))))))) 0))) < 0) with | true => (match decide (ok (Rat × Rat) 1000 c ∧ ok (Rat × Rat) 1000 a) with | true => (match decide (ok (Rat × Rat) 5000 (hid (enc (wayR (dec c) (dec d)))) ∧ ok (Rat × Rat) 5000 (hid (enc (wayR (dec c) (dec a))))) with | true => (match decide (okR (hid (encR (crsR (dec (hid (enc (wayR (dec c) (dec d))))) (dec (hid (enc (wayR (dec c) (dec a))))))))) with | true => (match decide (ok (Rat × Rat) 1000 c ∧ ok (Rat × Rat) 1000 b) with | true => (match decide (ok (Rat × Rat) 5000 (hid (enc (wayR (dec c) (dec d)))) ∧ ok (Rat × Rat) 5000 (hid (enc (wayR (dec c) (dec b))))) with | true => (match decide (okR (hid (encR (crsR (dec (hid (enc (wayR (dec c) (dec d))))) (dec (hid (enc (wayR (dec c) (dec b))))))))) with | true => some [RV.d .bool (decide ((IntKind.i64.wrap ((cmpR (decR (hid (encR (crsR (dec (hid (enc (wayR (dec c) (dec d))))) (dec (hid (enc (wayR (dec c) (dec a))))))))) 0) * (cmpR (decR (hid (encR (crsR (dec (hid (enc (wayR (dec c) (dec d))))) (dec (hid (enc (wayR (dec c) (dec b))))))))) 0))) < 0))] | false => none) | false => none) | false => none) | false => none) | false => none) | false => none) | false => some [RV.d .bool false]) | false => none) | false => none) | false => none) | false => none) | false => none) | false => none) | false => none) | false => none
theorem dcg_eq (k : Nat → Cfg → Option (List RV)) (a : BV) (b : BV) (c : BV) (d : BV) : go Tryz.prog ft tys envd3 dcg_nt k 4000 (start 57 [.d tV a, .d tV b, .d tV c, .d tV d]) (.node 0) = dcg_t k a b c d := (go2_eq _ _ _ _ _ _ _ _ _).symm.trans (show go2 Tryz.prog ft tys envd3 dcg_nt k 4000 (start 57 [.d tV a, .d tV b, .d tV c, .d tV d]) (.node 0) = dcg_t k a b c d by kernel_rfl)
theorem dcg_s (a : BV) (b : BV) (c : BV) (d : BV) {rX : List RV} (hX : ∃ nX, dcg_t (dcg_C.k nX) a b c d = some rX) : dcg_C.Res 57 [.d tV a, .d tV b, .d tV c, .d tV d] rX := by
  obtain ⟨nX, hX⟩ := hX
  exact ⟨nX, (dcg_eq _ a b c d).trans hX⟩
theorem dcg_con (a : BV) (b : BV) (c : BV) (d : BV) (h : ok (Rat × Rat) 100 a ∧ ok (Rat × Rat) 100 b ∧ ok (Rat × Rat) 100 c ∧ ok (Rat × Rat) 100 d) : Con Tryz.prog 57 [.d tV a, .d tV b, .d tV c, .d tV d] [.d .bool (cgR (dec a) (dec b) (dec c) (dec d))] := by
  refine Ctx.Res.con (C := dcg_C) (ctx_ok envd3_ok) (dcg_s _ _ _ _ ⟨0, ?_⟩) (fn := Tryz.f57) (by kernel_rfl) (by kernel_rfl)
  obtain ⟨ha, hb, hc, hd⟩ := h
  obtain ⟨a, rfl, ba⟩ := ok_ex ha
  obtain ⟨b, rfl, bb⟩ := ok_ex hb
  obtain ⟨c, rfl, bc⟩ := ok_ex hc
  obtain ⟨d, rfl, bd⟩ := ok_ex hd
  unfold dcg_t
  simp only [hid_eq, dec_enc', dec_encR, okd, okd_R, Bool.decide_and, Bool.and_self, Nat.reduceAdd, Nat.reduceLeDiff, sgn_mul]
  unfold cgR
  cases decide (cmpR (crsR (wayR a b) (wayR a c)) 0 * cmpR (crsR (wayR a b) (wayR a d)) 0 < 0) <;> rfl
noncomputable def qrad_tp : Spec := { keep := false, tame := true, run := fun _ args k => match args with
  | [.d (.st (.pair (.st (.pair .bool (.sl (.int .u32)))) (.st (.pair .bool (.sl (.int .u32)))))) a, .d (.st (.pair (.st (.pair .bool (.sl (.int .u32)))) (.st (.pair .bool (.sl (.int .u32)))))) b] => match decide (okR a ∧ okR b) with
    | true => k [RV.d tR (hid (encR (decR a + decR b)))]
    | false => none
  | _ => none }
theorem qrad_tpec : callable Tryz.prog 162 = true ∧ SpecOk Tryz.prog 162 qrad_tp ∧ ∀ g, qrad_tp.mut_ = some g → MCon Tryz.prog 162 g := by
  refine ⟨by kernel_rfl, fun R args k r h => ?_, fun g h => by cases h⟩
  unfold qrad_tp at h
  dsimp only at h
  split at h <;> try (cases h; done)
  split at h <;> try (cases h; done)
  rename_i hd
  simp only [hid_eq] at h
  exact ⟨_, h, qrad_con _ _ (of_decide_eq_true hd)⟩

noncomputable def qrsu_tp : Spec := { keep := false, tame := true, run := fun _ args k => match args with
  | [.d (.st (.pair (.st (.pair .bool (.sl (.int .u32)))) (.st (.pair .bool (.sl (.int .u32)))))) a, .d (.st (.pair (.st (.pair .bool (.sl (.int .u32)))) (.st (.pair .bool (.sl (.int .u32)))))) b] => match decide (okR a ∧ okR b) with
    | true => k [RV.d tR (hid (encR (decR a - decR b)))]
    | false => none
  | _ => none }
theorem qrsu_tpec : callable Tryz.prog 161 = true ∧ SpecOk Tryz.prog 161 qrsu_tp ∧ ∀ g, qrsu_tp.mut_ = some g → MCon Tryz.prog 161 g := by
  refine ⟨by kernel_rfl, fun R args k r h => ?_, fun g h => by cases h⟩
  unfold qrsu_tp at h
  dsimp only at h
  split at h <;> try (cases h; done)
  split at h <;> try (cases h; done)
  rename_i hd
  simp only [hid_eq] at h
  exact ⟨_, h, qrsu_con _ _ (of_decide_eq_true hd)⟩

noncomputable def qrmu_tp : Spec := { keep := false, tame := true, run := fun _ args k => match args with
  | [.d (.st (.pair (.st (.pair .bool (.sl (.int .u32)))) (.st (.pair .bool (.sl (.int .u32)))))) a, .d (.st (.pair (.st (.pair .bool (.sl (.int .u32)))) (.st (.pair .bool (.sl (.int .u32)))))) b] => match decide (okR a ∧ okR b) with
    | true => k [RV.d tR (hid (encR (decR a * decR b)))]
    | false => none
  | _ => none }
theorem qrmu_tpec : callable Tryz.prog 43 = true ∧ SpecOk Tryz.prog 43 qrmu_tp ∧ ∀ g, qrmu_tp.mut_ = some g → MCon Tryz.prog 43 g := by
  refine ⟨by kernel_rfl, fun R args k r h => ?_, fun g h => by cases h⟩
  unfold qrmu_tp at h
  dsimp only at h
  split at h <;> try (cases h; done)
  split at h <;> try (cases h; done)
  rename_i hd
  simp only [hid_eq] at h
  exact ⟨_, h, qrmu_con _ _ (of_decide_eq_true hd)⟩

noncomputable def qrov_tp : Spec := { keep := false, tame := true, run := fun _ args k => match args with
  | [.d (.st (.pair (.st (.pair .bool (.sl (.int .u32)))) (.st (.pair .bool (.sl (.int .u32)))))) a, .d (.st (.pair (.st (.pair .bool (.sl (.int .u32)))) (.st (.pair .bool (.sl (.int .u32)))))) b] => match decide (rdiP a b) with
    | true => k [RV.d tR (hid (encR (decR a / decR b)))]
    | false => none
  | _ => none }
theorem qrov_tpec : callable Tryz.prog 129 = true ∧ SpecOk Tryz.prog 129 qrov_tp ∧ ∀ g, qrov_tp.mut_ = some g → MCon Tryz.prog 129 g := by
  refine ⟨by kernel_rfl, fun R args k r h => ?_, fun g h => by cases h⟩
  unfold qrov_tp at h
  dsimp only at h
  split at h <;> try (cases h; done)
  split at h <;> try (cases h; done)
  rename_i hd
  simp only [hid_eq] at h
  exact ⟨_, h, qrov_con _ _ (of_decide_eq_true hd)⟩

def qrsg_tp : Spec := { keep := true, tame := true, run := fun _ args k => match args with
  | [.d (.st (.pair (.st (.pair .bool (.sl (.int .u32)))) (.st (.pair .bool (.sl (.int .u32)))))) a] => match decide (okR a) with
    | true => k [RV.d (.int .i64) (cmpR (decR a) 0)]
    | false => none
  | _ => none }
theorem qrsg_tpec : callable Tryz.prog 125 = true ∧ SpecOk Tryz.prog 125 qrsg_tp ∧ ∀ g, qrsg_tp.mut_ = some g → MCon Tryz.prog 125 g := by
  refine ⟨by kernel_rfl, fun R args k r h => ?_, fun g h => by cases h⟩
  unfold qrsg_tp at h
  dsimp only at h
  split at h <;> try (cases h; done)
  split at h <;> try (cases h; done)
  rename_i hd
  exact ⟨_, h, qrsg_con _ (of_decide_eq_true hd)⟩

def qrcm_tp : Spec := { keep := true, tame := true, run := fun _ args k => match args with
  | [.d (.st (.pair (.st (.pair .bool (.sl (.int .u32)))) (.st (.pair .bool (.sl (.int .u32)))))) a, .d (.st (.pair (.st (.pair .bool (.sl (.int .u32)))) (.st (.pair .bool (.sl (.int .u32)))))) b] => match decide (okR a ∧ okR b) with
    | true => k [RV.d (.int .i64) (cmpR (decR a) (decR b))]
    | false => none
  | _ => none }
theorem qrcm_tpec : callable Tryz.prog 30 = true ∧ SpecOk Tryz.prog 30 qrcm_tp ∧ ∀ g, qrcm_tp.mut_ = some g → MCon Tryz.prog 30 g := by
  refine ⟨by kernel_rfl, fun R args k r h => ?_, fun g h => by cases h⟩
  unfold qrcm_tp at h
  dsimp only at h
  split at h <;> try (cases h; done)
  split at h <;> try (cases h; done)
  rename_i hd
  exact ⟨_, h, qrcm_con _ _ (of_decide_eq_true hd)⟩

noncomputable def qrfi_tp : Spec := { keep := false, tame := true, run := fun _ args k => match args with
  | [.d (.int .i64) n] => match decide (i64P n) with
    | true => k [RV.d tR (hid (encR (n : Rat)))]
    | false => none
  | _ => none }
theorem qrfi_tpec : callable Tryz.prog 33 = true ∧ SpecOk Tryz.prog 33 qrfi_tp ∧ ∀ g, qrfi_tp.mut_ = some g → MCon Tryz.prog 33 g := by
  refine ⟨by kernel_rfl, fun R args k r h => ?_, fun g h => by cases h⟩
  unfold qrfi_tp at h
  dsimp only at h
  split at h <;> try (cases h; done)
  split at h <;> try (cases h; done)
  rename_i hd
  simp only [hid_eq] at h
  exact ⟨_, h, qrfi_con _ (of_decide_eq_true hd)⟩

noncomputable def enve1 : Env := [(162, qrad_tp), (161, qrsu_tp), (43, qrmu_tp), (129, qrov_tp), (125, qrsg_tp), (30, qrcm_tp), (33, qrfi_tp)]
theorem enve1_ok : EnvAll Tryz.prog enve1 := ⟨qrad_tpec, qrsu_tpec, qrmu_tpec, qrov_tpec, qrsg_tpec, qrcm_tpec, qrfi_tpec, trivial⟩
def ead_nt : NT := []
noncomputable def ead_C : Ctx := ⟨Tryz.prog, ft, tys, enve1, ead_nt⟩
noncomputable def ead_t (_k : Nat → Cfg → Option (List RV)) (a : BR) (b : BR) : Option (List RV) := match decide (okR a ∧ okR b) with | true => some [RV.d tR (hid (encR (decR a + decR b)))] | false => none
theorem ead_eq (k : Nat → Cfg → Option (List RV)) (a : BR) (b : BR) : go Tryz.prog ft tys enve1 ead_nt k 4000 (start 148 [.d tR a, .d tR b]) (.node 0) = ead_t k a b := (go2_eq _ _ _ _ _ _ _ _ _).symm.trans (show go2 Tryz.prog ft tys enve1 ead_nt k 4000 (start 148 [.d tR a, .d tR b]) (.node 0) = ead_t k a b by kernel_rfl)
theorem ead_s (a : BR) (b : BR) {rX : List RV} (hX : ∃ nX, ead_t (ead_C.k nX) a b = some rX) : ead_C.Res 148 [.d tR a, .d tR b] rX := by
  obtain ⟨nX, hX⟩ := hX
  exact ⟨nX, (ead_eq _ a b).trans hX⟩
theorem ead_con (a : BR) (b : BR) (h : okR a ∧ okR b) : Con Tryz.prog 148 [.d tR a, .d tR b] [.d tR (encR (decR a + decR b))] := by
  refine Ctx.Res.con (C := ead_C) (ctx_ok enve1_ok) (ead_s _ _ ⟨0, ?_⟩) (fn := Tryz.f148) (by kernel_rfl) (by kernel_rfl)
  unfold ead_t
  rw [dT h, hid_eq]
def esu_nt : NT := []
noncomputable def esu_C : Ctx := ⟨Tryz.prog, ft, tys, enve1, esu_nt⟩
noncomputable def esu_t (_k : Nat → Cfg → Option (List RV)) (a : BR) (b : BR) : Option (List RV) := match decide (okR a ∧ okR b) with | true => some [RV.d tR (hid (encR (decR a - decR b)))] | false => none
theorem esu_eq (k : Nat → Cfg → Option (List RV)) (a : BR) (b : BR) : go Tryz.prog ft tys enve1 esu_nt k 4000 (start 147 [.d tR a, .d tR b]) (.node 0) = esu_t k a b := (go2_eq _ _ _ _ _ _ _ _ _).symm.trans (show go2 Tryz.prog ft tys enve1 esu_nt k 4000 (start 147 [.d tR a, .d tR b]) (.node 0) = esu_t k a b by kernel_rfl)
theorem esu_s (a : BR) (b : BR) {rX : List RV} (hX : ∃ nX, esu_t (esu_C.k nX) a b = some rX) : esu_C.Res 147 [.d tR a, .d tR b] rX := by
  obtain ⟨nX, hX⟩ := hX
  exact ⟨nX, (esu_eq _ a b).trans hX⟩
theorem esu_con (a : BR) (b : BR) (h : okR a ∧ okR b) : Con Tryz.prog 147 [.d tR a, .d tR b] [.d tR (encR (decR a - decR b))] := by
  refine Ctx.Res.con (C := esu_C) (ctx_ok enve1_ok) (esu_s _ _ ⟨0, ?_⟩) (fn := Tryz.f147) (by kernel_rfl) (by kernel_rfl)
  unfold esu_t
  rw [dT h, hid_eq]
def emu_nt : NT := []
noncomputable def emu_C : Ctx := ⟨Tryz.prog, ft, tys, enve1, emu_nt⟩
noncomputable def emu_t (_k : Nat → Cfg → Option (List RV)) (a : BR) (b : BR) : Option (List RV) := match decide (okR a ∧ okR b) with | true => some [RV.d tR (hid (encR (decR a * decR b)))] | false => none
theorem emu_eq (k : Nat → Cfg → Option (List RV)) (a : BR) (b : BR) : go Tryz.prog ft tys enve1 emu_nt k 4000 (start 130 [.d tR a, .d tR b]) (.node 0) = emu_t k a b := (go2_eq _ _ _ _ _ _ _ _ _).symm.trans (show go2 Tryz.prog ft tys enve1 emu_nt k 4000 (start 130 [.d tR a, .d tR b]) (.node 0) = emu_t k a b by kernel_rfl)
theorem emu_s (a : BR) (b : BR) {rX : List RV} (hX : ∃ nX, emu_t (emu_C.k nX) a b = some rX) : emu_C.Res 130 [.d tR a, .d tR b] rX := by
  obtain ⟨nX, hX⟩ := hX
  exact ⟨nX, (emu_eq _ a b).trans hX⟩
theorem emu_con (a : BR) (b : BR) (h : okR a ∧ okR b) : Con Tryz.prog 130 [.d tR a, .d tR b] [.d tR (encR (decR a * decR b))] := by
  refine Ctx.Res.con (C := emu_C) (ctx_ok enve1_ok) (emu_s _ _ ⟨0, ?_⟩) (fn := Tryz.f130) (by kernel_rfl) (by kernel_rfl)
  unfold emu_t
  rw [dT h, hid_eq]
noncomputable def ead_tp : Spec := { keep := false, tame := true, run := fun _ args k => match args with
  | [.d (.st (.pair (.st (.pair .bool (.sl (.int .u32)))) (.st (.pair .bool (.sl (.int .u32)))))) a, .d (.st (.pair (.st (.pair .bool (.sl (.int .u32)))) (.st (.pair .bool (.sl (.int .u32)))))) b] => match decide (okR a ∧ okR b) with
    | true => k [RV.d tR (hid (encR (decR a + decR b)))]
    | false => none
  | _ => none }
theorem ead_tpec : callable Tryz.prog 148 = true ∧ SpecOk Tryz.prog 148 ead_tp ∧ ∀ g, ead_tp.mut_ = some g → MCon Tryz.prog 148 g := by
  refine ⟨by kernel_rfl, fun R args k r h => ?_, fun g h => by cases h⟩
  unfold ead_tp at h
  dsimp only at h
  split at h <;> try (cases h; done)
  split at h <;> try (cases h; done)
  rename_i hd
  simp only [hid_eq] at h
  exact ⟨_, h, ead_con _ _ (of_decide_eq_true hd)⟩

noncomputable def esu_tp : Spec := { keep := false, tame := true, run := fun _ args k => match args with
  | [.d (.st (.pair (.st (.pair .bool (.sl (.int .u32)))) (.st (.pair .bool (.sl (.int .u32)))))) a, .d (.st (.pair (.st (.pair .bool (.sl (.int .u32)))) (.st (.pair .bool (.sl (.int .u32)))))) b] => match decide (okR a ∧ okR b) with
    | true => k [RV.d tR (hid (encR (decR a - decR b)))]
    | false => none
  | _ => none }
theorem esu_tpec : callable Tryz.prog 147 = true ∧ SpecOk Tryz.prog 147 esu_tp ∧ ∀ g, esu_tp.mut_ = some g → MCon Tryz.prog 147 g := by
  refine ⟨by kernel_rfl, fun R args k r h => ?_, fun g h => by cases h⟩
  unfold esu_tp at h
  dsimp only at h
  split at h <;> try (cases h; done)
  split at h <;> try (cases h; done)
  rename_i hd
  simp only [hid_eq] at h
  exact ⟨_, h, esu_con _ _ (of_decide_eq_true hd)⟩

noncomputable def emu_tp : Spec := { keep := false, tame := true, run := fun _ args k => match args with
  | [.d (.st (.pair (.st (.pair .bool (.sl (.int .u32)))) (.st (.pair .bool (.sl (.int .u32)))))) a, .d (.st (.pair (.st (.pair .bool (.sl (.int .u32)))) (.st (.pair .bool (.sl (.int .u32)))))) b] => match decide (okR a ∧ okR b) with
    | true => k [RV.d tR (hid (encR (decR a * decR b)))]
    | false => none
  | _ => none }
theorem emu_tpec : callable Tryz.prog 130 = true ∧ SpecOk Tryz.prog 130 emu_tp ∧ ∀ g, emu_tp.mut_ = some g → MCon Tryz.prog 130 g := by
  refine ⟨by kernel_rfl, fun R args k r h => ?_, fun g h => by cases h⟩
  unfold emu_tp at h
  dsimp only at h
  split at h <;> try (cases h; done)
  split at h <;> try (cases h; done)
  rename_i hd
  simp only [hid_eq] at h
  exact ⟨_, h, emu_con _ _ (of_decide_eq_true hd)⟩

noncomputable def enve2 : Env := [(162, qrad_tp), (161, qrsu_tp), (43, qrmu_tp), (129, qrov_tp), (125, qrsg_tp), (30, qrcm_tp), (33, qrfi_tp), (148, ead_tp), (147, esu_tp), (130, emu_tp)]
theorem enve2_ok : EnvAll Tryz.prog enve2 := ⟨qrad_tpec, qrsu_tpec, qrmu_tpec, qrov_tpec, qrsg_tpec, qrcm_tpec, qrfi_tpec, ead_tpec, esu_tpec, emu_tpec, trivial⟩
def ewa_nt : NT := []
noncomputable def ewa_C : Ctx := ⟨Tryz.prog, ft, tys, enve2, ewa_nt⟩
noncomputable def ewa_t (_k : Nat → Cfg → Option (List RV)) (a : BV) (b : BV) : Option (List RV) := match decide (okR b.1 ∧ okR a.1) with | true => (match decide (okR b.2 ∧ okR a.2) with | true => some [RV.d tV (hid (encR (decR b.1 - decR a.1)), hid (encR (decR b.2 - decR a.2)))] | false => none) | false => none
theorem ewa_eq (k : Nat → Cfg → Option (List RV)) (a : BV) (b : BV) : go Tryz.prog ft tys enve2 ewa_nt k 4000 (start 127 [.d tV a, .d tV b]) (.node 0) = ewa_t k a b := (go2_eq _ _ _ _ _ _ _ _ _).symm.trans (show go2 Tryz.prog ft tys enve2 ewa_nt k 4000 (start 127 [.d tV a, .d tV b]) (.node 0) = ewa_t k a b by kernel_rfl)
theorem ewa_s (a : BV) (b : BV) {rX : List RV} (hX : ∃ nX, ewa_t (ewa_C.k nX) a b = some rX) : ewa_C.Res 127 [.d tV a, .d tV b] rX := by
  obtain ⟨nX, hX⟩ := hX
  exact ⟨nX, (ewa_eq _ a b).trans hX⟩
theorem ewa_con (a : BV) (b : BV) (h : ok (Rat × Rat) 1000 a ∧ ok (Rat × Rat) 1000 b) : Con Tryz.prog 127 [.d tV a, .d tV b] [.d tV (enc (wayR (dec a) (dec b)))] := by
  refine Ctx.Res.con (C := ewa_C) (ctx_ok enve2_ok) (ewa_s _ _ ⟨0, ?_⟩) (fn := Tryz.f127) (by kernel_rfl) (by kernel_rfl)
  obtain ⟨ha, hb⟩ := h
  obtain ⟨a, rfl, ba⟩ := ok_ex ha
  obtain ⟨b, rfl, bb⟩ := ok_ex hb
  unfold ewa_t
  simp only [hid_eq, dec_enc', enc_fst, enc_snd, enc_rat, dec_encR, okd_R, Bool.decide_and, Bool.and_self, Nat.reduceLeDiff]
  rfl
def edo_nt : NT := []
noncomputable def edo_C : Ctx := ⟨Tryz.prog, ft, tys, enve2, edo_nt⟩
noncomputable def edo_t (_k : Nat → Cfg → Option (List RV)) (a : BV) (b : BV) : Option (List RV) := match decide (okR a.1 ∧ okR b.1) with | true => (match decide (okR a.2 ∧ okR b.2) with | true => (match decide (okR (hid (encR (decR a.1 * decR b.1))) ∧ okR (hid (encR (decR a.2 * decR b.2)))) with | true => some [RV.d tR (hid (encR (decR (hid (encR (decR a.1 * decR b.1))) + decR (hid (encR (decR a.2 * decR b.2))))))] | false => none) | false => none) | false => none
theorem edo_eq (k : Nat → Cfg → Option (List RV)) (a : BV) (b : BV) : go Tryz.prog ft tys enve2 edo_nt k 4000 (start 128 [.d tV a, .d tV b]) (.node 0) = edo_t k a b := (go2_eq _ _ _ _ _ _ _ _ _).symm.trans (show go2 Tryz.prog ft tys enve2 edo_nt k 4000 (start 128 [.d tV a, .d tV b]) (.node 0) = edo_t k a b by kernel_rfl)
theorem edo_s (a : BV) (b : BV) {rX : List RV} (hX : ∃ nX, edo_t (edo_C.k nX) a b = some rX) : edo_C.Res 128 [.d tV a, .d tV b] rX := by
  obtain ⟨nX, hX⟩ := hX
  exact ⟨nX, (edo_eq _ a b).trans hX⟩
theorem edo_con (a : BV) (b : BV) (h : ok (Rat × Rat) 5000 a ∧ ok (Rat × Rat) 5000 b) : Con Tryz.prog 128 [.d tV a, .d tV b] [.d tR (encR (dotR (dec a) (dec b)))] := by
  refine Ctx.Res.con (C := edo_C) (ctx_ok enve2_ok) (edo_s _ _ ⟨0, ?_⟩) (fn := Tryz.f128) (by kernel_rfl) (by kernel_rfl)
  obtain ⟨ha, hb⟩ := h
  obtain ⟨a, rfl, ba⟩ := ok_ex ha
  obtain ⟨b, rfl, bb⟩ := ok_ex hb
  unfold edo_t
  simp only [hid_eq, dec_enc', enc_fst, enc_snd, enc_rat, dec_encR, okd_R, Bool.decide_and, Bool.and_self, Nat.reduceAdd, Nat.reduceLeDiff]
  rfl
def ecr_nt : NT := []
noncomputable def ecr_C : Ctx := ⟨Tryz.prog, ft, tys, enve2, ecr_nt⟩
noncomputable def ecr_t (_k : Nat → Cfg → Option (List RV)) (a : BV) (b : BV) : Option (List RV) := match decide (okR a.1 ∧ okR b.2) with | true => (match decide (okR a.2 ∧ okR b.1) with | true => (match decide (okR (hid (encR (decR a.1 * decR b.2))) ∧ okR (hid (encR (decR a.2 * decR b.1)))) with | true => some [RV.d tR (hid (encR (decR (hid (encR (decR a.1 * decR b.2))) - decR (hid (encR (decR a.2 * decR b.1))))))] | false => none) | false => none) | false => none
theorem ecr_eq (k : Nat → Cfg → Option (List RV)) (a : BV) (b : BV) : go Tryz.prog ft tys enve2 ecr_nt k 4000 (start 126 [.d tV a, .d tV b]) (.node 0) = ecr_t k a b := (go2_eq _ _ _ _ _ _ _ _ _).symm.trans (show go2 Tryz.prog ft tys enve2 ecr_nt k 4000 (start 126 [.d tV a, .d tV b]) (.node 0) = ecr_t k a b by kernel_rfl)
theorem ecr_s (a : BV) (b : BV) {rX : List RV} (hX : ∃ nX, ecr_t (ecr_C.k nX) a b = some rX) : ecr_C.Res 126 [.d tV a, .d tV b] rX := by
  obtain ⟨nX, hX⟩ := hX
  exact ⟨nX, (ecr_eq _ a b).trans hX⟩
theorem ecr_con (a : BV) (b : BV) (h : ok (Rat × Rat) 5000 a ∧ ok (Rat × Rat) 5000 b) : Con Tryz.prog 126 [.d tV a, .d tV b] [.d tR (encR (crsR (dec a) (dec b)))] := by
  refine Ctx.Res.con (C := ecr_C) (ctx_ok enve2_ok) (ecr_s _ _ ⟨0, ?_⟩) (fn := Tryz.f126) (by kernel_rfl) (by kernel_rfl)
  obtain ⟨ha, hb⟩ := h
  obtain ⟨a, rfl, ba⟩ := ok_ex ha
  obtain ⟨b, rfl, bb⟩ := ok_ex hb
  unfold ecr_t
  simp only [hid_eq, dec_enc', enc_fst, enc_snd, enc_rat, dec_encR, okd_R, Bool.decide_and, Bool.and_self, Nat.reduceAdd, Nat.reduceLeDiff]
  rfl
noncomputable def ewa_tp : Spec := { keep := false, tame := true, run := fun _ args k => match args with
  | [.d (.st (.pair (.st (.pair (.st (.pair .bool (.sl (.int .u32)))) (.st (.pair .bool (.sl (.int .u32)))))) (.st (.pair (.st (.pair .bool (.sl (.int .u32)))) (.st (.pair .bool (.sl (.int .u32)))))))) a, .d (.st (.pair (.st (.pair (.st (.pair .bool (.sl (.int .u32)))) (.st (.pair .bool (.sl (.int .u32)))))) (.st (.pair (.st (.pair .bool (.sl (.int .u32)))) (.st (.pair .bool (.sl (.int .u32)))))))) b] => match decide (ok (Rat × Rat) 1000 a ∧ ok (Rat × Rat) 1000 b) with
    | true => k [RV.d tV (hid (enc (wayR (dec a) (dec b))))]
    | false => none
  | _ => none }
theorem ewa_tpec : callable Tryz.prog 127 = true ∧ SpecOk Tryz.prog 127 ewa_tp ∧ ∀ g, ewa_tp.mut_ = some g → MCon Tryz.prog 127 g := by
  refine ⟨by kernel_rfl, fun R args k r h => ?_, fun g h => by cases h⟩
  unfold ewa_tp at h
  dsimp only at h
  split at h <;> try (cases h; done)
  split at h <;> try (cases h; done)
  rename_i hd
  simp only [hid_eq] at h
  exact ⟨_, h, ewa_con _ _ (of_decide_eq_true hd)⟩

noncomputable def edo_tp : Spec := { keep := false, tame := true, run := fun _ args k => match args with
  | [.d (.st (.pair (.st (.pair (.st (.pair .bool (.sl (.int .u32)))) (.st (.pair .bool (.sl (.int .u32)))))) (.st (.pair (.st (.pair .bool (.sl (.int .u32)))) (.st (.pair .bool (.sl (.int .u32)))))))) a, .d (.st (.pair (.st (.pair (.st (.pair .bool (.sl (.int .u32)))) (.st (.pair .bool (.sl (.int .u32)))))) (.st (.pair (.st (.pair .bool (.sl (.int .u32)))) (.st (.pair .bool (.sl (.int .u32)))))))) b] => match decide (ok (Rat × Rat) 5000 a ∧ ok (Rat × Rat) 5000 b) with
    | true => k [RV.d tR (hid (encR (dotR (dec a) (dec b))))]
    | false => none
  | _ => none }
theorem edo_tpec : callable Tryz.prog 128 = true ∧ SpecOk Tryz.prog 128 edo_tp ∧ ∀ g, edo_tp.mut_ = some g → MCon Tryz.prog 128 g := by
  refine ⟨by kernel_rfl, fun R args k r h => ?_, fun g h => by cases h⟩
  unfold edo_tp at h
  dsimp only at h
  split at h <;> try (cases h; done)
  split at h <;> try (cases h; done)
  rename_i hd
  simp only [hid_eq] at h
  exact ⟨_, h, edo_con _ _ (of_decide_eq_true hd)⟩

noncomputable def ecr_tp : Spec := { keep := false, tame := true, run := fun _ args k => match args with
  | [.d (.st (.pair (.st (.pair (.st (.pair .bool (.sl (.int .u32)))) (.st (.pair .bool (.sl (.int .u32)))))) (.st (.pair (.st (.pair .bool (.sl (.int .u32)))) (.st (.pair .bool (.sl (.int .u32)))))))) a, .d (.st (.pair (.st (.pair (.st (.pair .bool (.sl (.int .u32)))) (.st (.pair .bool (.sl (.int .u32)))))) (.st (.pair (.st (.pair .bool (.sl (.int .u32)))) (.st (.pair .bool (.sl (.int .u32)))))))) b] => match decide (ok (Rat × Rat) 5000 a ∧ ok (Rat × Rat) 5000 b) with
    | true => k [RV.d tR (hid (encR (crsR (dec a) (dec b))))]
    | false => none
  | _ => none }
theorem ecr_tpec : callable Tryz.prog 126 = true ∧ SpecOk Tryz.prog 126 ecr_tp ∧ ∀ g, ecr_tp.mut_ = some g → MCon Tryz.prog 126 g := by
  refine ⟨by kernel_rfl, fun R args k r h => ?_, fun g h => by cases h⟩
  unfold ecr_tp at h
  dsimp only at h
  split at h <;> try (cases h; done)
  split at h <;> try (cases h; done)
  rename_i hd
  simp only [hid_eq] at h
  exact ⟨_, h, ecr_con _ _ (of_decide_eq_true hd)⟩

noncomputable def enve3 : Env := [(162, qrad_tp), (161, qrsu_tp), (43, qrmu_tp), (129, qrov_tp), (125, qrsg_tp), (30, qrcm_tp), (33, qrfi_tp), (148, ead_tp), (147, esu_tp), (130, emu_tp), (127, ewa_tp), (128, edo_tp), (126, ecr_tp)]
theorem enve3_ok : EnvAll Tryz.prog enve3 := ⟨qrad_tpec, qrsu_tpec, qrmu_tpec, qrov_tpec, qrsg_tpec, qrcm_tpec, qrfi_tpec, ead_tpec, esu_tpec, emu_tpec, ewa_tpec, edo_tpec, ecr_tpec, trivial⟩
def ets_nt : NT := []
noncomputable def ets_C : Ctx := ⟨Tryz.prog, ft, tys, enve3, ets_nt⟩
noncomputable def ets_t (_k : Nat → Cfg → Option (List RV)) (a : BV) (b : BV) (p : BV) : Option (List RV) := match decide (ok (Rat × Rat) 1000 a ∧ ok (Rat × Rat) 1000 b) with | true => (match decide (ok (Rat × Rat) 1000 a ∧ ok (Rat × Rat) 1000 p) with | true => (match decide (ok (Rat × Rat) 5000 (hid (enc (wayR (dec a) (dec b)))) ∧ ok (Rat × Rat) 5000 (hid (enc (wayR (dec a) (dec b))))) with | true => (match decide (ok (Rat × Rat) 5000 (hid (enc (wayR (dec a) (dec b)))) ∧ ok (Rat × Rat) 5000 (hid (enc (wayR (dec a) (dec p))))) with | true => (match decide (okR (hid (encR (dotR (dec (hid (enc (wayR (dec a) (dec b))))) (dec (hid (enc (wayR (dec a) (dec p))))))))) with | true => (match decide ((cmpR (decR (hid (encR (dotR (dec (hid (enc (wayR (dec a) (dec b))))) (dec (hid (enc (wayR (dec a) (dec p))))))))) 0) ≤ 0) with | true => (match decide (ok (Rat × Rat) 5000 (hid (enc (wayR (dec a) (dec p)))) ∧ ok (Rat × Rat) 5000 (hid (enc (wayR (dec a) (dec p))))) with | true => some [RV.d tR (hid (encR (dotR (dec (hid (enc (wayR (dec a) (dec p))))) (dec (hid (enc (wayR (dec a) (dec p))))))))] | false => none) | false => (match decide (okR (hid (encR (dotR (dec (hid (enc (wayR (dec a) (dec b))))) (dec (hid (enc (wayR (dec a) (dec p)))))))) ∧ okR (hid (encR (dotR (dec (hid (enc (wayR (dec a) (dec b))))) (dec (hid (enc (wayR (dec a) (dec b))))))))) with | true => (match decide ((cmpR (decR (hid (encR (dotR (dec (hid (enc (wayR (dec a) (dec b))))) (dec (hid (enc (wayR (dec a) (dec p))))))))) (decR (hid (encR (dotR (dec (hid (enc (wayR (dec a) (dec b))))) (dec (hid (enc (wayR (dec a) (dec b)))))))))) ≥ 0) with | true => (match decide (ok (Rat × Rat) 1000 b ∧ ok (Rat × Rat) 1000 p) with | true => (match decide (ok (Rat × Rat) 5000 (hid (enc (wayR (dec b) (dec p)))) ∧ ok (Rat × Rat) 5000 (hid (enc (wayR (dec b) (dec p))))) with | true => some [RV.d tR (hid (encR (dotR (dec (hid (enc (wayR (dec b) (dec p))))) (dec (hid (enc (wayR (dec b) (dec p))))))))] | false => none) | false => none) | false => (match decide (ok (Rat × Rat) 5000 (hid (enc (wayR (dec a) (dec b)))) ∧ ok (Rat × Rat) 5000 (hid (enc (wayR (dec a) (dec p))))) with | true => (match decide (okR (hid (encR (crsR (dec (hid (enc (wayR (dec a) (dec b))))) (dec (hid (enc (wayR (dec a) (dec p)))))))) ∧ okR (hid (encR (crsR (dec (hid (enc (wayR (dec a) (dec b))))) (dec (hid (enc (wayR (dec a) (dec p))))))))) with | true => (match decide (rdiP (hid (encR (decR (hid (encR (crsR (dec (hid (enc (wayR (dec a) (dec b))))) (dec (hid (enc (wayR (dec a) (dec p)))))))) * decR (hid (encR (crsR (dec (hid (enc (wayR (dec a) (dec b))))) (dec (hid (enc (wayR (dec a) (dec p))))))))))) (hid (encR (dotR (dec (hid (enc (wayR (dec a) (dec b))))) (dec (hid (enc (wayR (dec a) (dec b))))))))) with | true => some [RV.d tR (hid (encR (decR (hid (encR (decR (hid (encR (crsR (dec (hid (enc (wayR (dec a) (dec b))))) (dec (hid (enc (wayR (dec a) (dec p)))))))) * decR (hid (encR (crsR (dec (hid (enc (wayR (dec a) (dec b))))) (dec (hid (enc (wayR (dec a) (dec p))))))))))) / decR (hid (encR (dotR (dec (hid (enc (wayR (dec a) (dec b))))) (dec (hid (enc (wayR (dec a) (dec b)))))))))))] | false => none) | false => none) | false => none)) | false => none)) | false => none) | false => none) | false => none) | false => none) | false => none
theorem ets_eq (k : Nat → Cfg → Option (List RV)) (a : BV) (b : BV) (p : BV) : go Tryz.prog ft tys enve3 ets_nt k 4000 (start 94 [.d tV a, .d tV b, .d tV p]) (.node 0) = ets_t k a b p := (go2_eq _ _ _ _ _ _ _ _ _).symm.trans (show go2 Tryz.prog ft tys enve3 ets_nt k 4000 (start 94 [.d tV a, .d tV b, .d tV p]) (.node 0) = ets_t k a b p by kernel_rfl)
theorem ets_s (a : BV) (b : BV) (p : BV) {rX : List RV} (hX : ∃ nX, ets_t (ets_C.k nX) a b p = some rX) : ets_C.Res 94 [.d tV a, .d tV b, .d tV p] rX := by
  obtain ⟨nX, hX⟩ := hX
  exact ⟨nX, (ets_eq _ a b p).trans hX⟩
theorem ets_con (a : BV) (b : BV) (p : BV) (h : ok (Rat × Rat) 100 a ∧ ok (Rat × Rat) 100 b ∧ ok (Rat × Rat) 100 p) : Con Tryz.prog 94 [.d tV a, .d tV b, .d tV p] [.d tR (encR (tosR (dec a) (dec b) (dec p)))] := by
  refine Ctx.Res.con (C := ets_C) (ctx_ok enve3_ok) (ets_s _ _ _ ⟨0, ?_⟩) (fn := Tryz.f94) (by kernel_rfl) (by kernel_rfl)
  obtain ⟨ha, hb, hp⟩ := h
  obtain ⟨a, rfl, ba⟩ := ok_ex ha
  obtain ⟨b, rfl, bb⟩ := ok_ex hb
  obtain ⟨p, rfl, bp⟩ := ok_ex hp
  have hnz : ¬ dotR (wayR a b) (wayR a p) ≤ 0 → ¬ dotR (wayR a b) (wayR a b) ≤ dotR (wayR a b) (wayR a p) → dotR (wayR a b) (wayR a b) ≠ 0 := fun h1 h2 => by grind
  unfold ets_t
  simp only [hid_eq, dec_enc', dec_encR, okd, okd_R, Bool.decide_and, Bool.and_self, Nat.reduceAdd, Nat.reduceLeDiff, cmpR_leb, cmpR_geb]
  unfold tosR
  cases h1 : decide (dotR (wayR a b) (wayR a p) ≤ 0)
  · cases h2 : decide (dotR (wayR a b) (wayR a b) ≤ dotR (wayR a b) (wayR a p))
    · have hz := hnz (of_decide_eq_false h1) (of_decide_eq_false h2)
      simp only [okd_rdi, Nat.reduceAdd, Nat.reduceLeDiff, hz, ne_eq, not_false_eq_true]
      rfl
    · rfl
  · rfl
def ecg_nt : NT := []
noncomputable def ecg_C : Ctx := ⟨Tryz.prog, ft, tys, enve3, ecg_nt⟩
noncomputable def ecg_t (_k : Nat → Cfg → Option (List RV)) (a : BV) (b : BV) (c : BV) (d : BV) : Option (List RV) := match decide (ok (Rat × Rat) 1000 a ∧ ok (Rat × Rat) 1000 b) with | true => (match decide (ok (Rat × Rat) 1000 a ∧ ok (Rat × Rat) 1000 c) with | true => (match decide (ok (Rat × Rat) 5000 (hid (enc (wayR (dec a) (dec b)))) ∧ ok (Rat × Rat) 5000 (hid (enc (wayR (dec a) (dec c))))) with | true => (match decide (okR (hid (encR (crsR (dec (hid (enc (wayR (dec a) (dec b))))) (dec (hid (enc (wayR (dec a) (dec c))))))))) with | true => (match decide (ok (Rat × Rat) 1000 a ∧ ok (Rat × Rat) 1000 b) with | true => (match decide (ok (Rat × Rat) 1000 a ∧ ok (Rat × Rat) 1000 d) with | true => (match decide (ok (Rat × Rat) 5000 (hid (enc (wayR (dec a) (dec b)))) ∧ ok (Rat × Rat) 5000 (hid (enc (wayR (dec a) (dec d))))) with | true => (match decide (okR (hid (encR (crsR (dec (hid (enc (wayR (dec a) (dec b))))) (dec (hid (enc (wayR (dec a) (dec d))))))))) with | true => (match decide (ok (Rat × Rat) 1000 c ∧ ok (Rat × Rat) 1000 d) with | true => (match decide (ok (Rat × Rat) 1000 c ∧ ok (Rat × Rat) 1000 a) with | true => (match decide (ok (Rat × Rat) 5000 (hid (enc (wayR (dec c) (dec d)))) ∧ ok (Rat × Rat) 5000 (hid (enc (wayR (dec c) (dec a))))) with | true => (match decide (okR (hid (encR (crsR (dec (hid (enc (wayR (dec c) (dec d))))) (dec (hid (enc (wayR (dec c) (dec a))))))))) with | true => (match decide (ok (Rat × Rat) 1000 c ∧ ok (Rat × Rat) 1000 d) with | true => (match decide (ok (Rat × Rat) 1000 c ∧ ok (Rat × Rat) 1000 b) with | true => (match decide (ok (Rat × Rat) 5000 (hid (enc (wayR (dec c) (dec d)))) ∧ ok (Rat × Rat) 5000 (hid (enc (wayR (dec c) (dec b))))) with | true => (match decide (okR (hid (encR (crsR (dec (hid (enc (wayR (dec c) (dec d))))) (dec (hid (enc (wayR (dec c) (dec b))))))))) with | true => (match decide ((IntKind.i64.wrap ((cmpR (decR (hid (encR (crsR (dec (hid (enc (wayR (dec a) (dec b))))) (dec (hid (enc (wayR (dec a) (dec c))))))))) 0) * (cmpR (decR (hid (encR (crsR (dec (hid (enc (wayR (dec a) (dec b))))) (dec (hid (enc (wayR (dec a) (dec d))))))))) 0))) < 0) with | true => some [RV.d .bool (decide ((IntKind.i64.wrap ((cmpR (decR (hid (encR (crsR (dec (hid (enc (wayR (dec c) (dec d))))) (dec (hid (enc (wayR (dec c) (dec a))))))))) 0) * (cmpR (decR (hid (encR (crsR (dec (hid (enc (wayR (dec c) (dec d))))) (dec (hid (enc (wayR (dec c) (dec b))))))))) 0))) < 0))] | false => some [RV.d .bool false]) | false => none) | false => none) | false => none) | false => none) | false => none) | false => none) | false => none) | false => none) | false => none) | false => none) | false => none) | false => none) | false => none) | false => none) | false => none) | false => none
theorem ecg_eq (k : Nat → Cfg → Option (List RV)) (a : BV) (b : BV) (c : BV) (d : BV) : go Tryz.prog ft tys enve3 ecg_nt k 4000 (start 93 [.d tV a, .d tV b, .d tV c, .d tV d]) (.node 0) = ecg_t k a b c d := (go2_eq _ _ _ _ _ _ _ _ _).symm.trans (show go2 Tryz.prog ft tys enve3 ecg_nt k 4000 (start 93 [.d tV a, .d tV b, .d tV c, .d tV d]) (.node 0) = ecg_t k a b c d by kernel_rfl)
theorem ecg_s (a : BV) (b : BV) (c : BV) (d : BV) {rX : List RV} (hX : ∃ nX, ecg_t (ecg_C.k nX) a b c d = some rX) : ecg_C.Res 93 [.d tV a, .d tV b, .d tV c, .d tV d] rX := by
  obtain ⟨nX, hX⟩ := hX
  exact ⟨nX, (ecg_eq _ a b c d).trans hX⟩
theorem ecg_con (a : BV) (b : BV) (c : BV) (d : BV) (h : ok (Rat × Rat) 100 a ∧ ok (Rat × Rat) 100 b ∧ ok (Rat × Rat) 100 c ∧ ok (Rat × Rat) 100 d) : Con Tryz.prog 93 [.d tV a, .d tV b, .d tV c, .d tV d] [.d .bool (cgR (dec a) (dec b) (dec c) (dec d))] := by
  refine Ctx.Res.con (C := ecg_C) (ctx_ok enve3_ok) (ecg_s _ _ _ _ ⟨0, ?_⟩) (fn := Tryz.f93) (by kernel_rfl) (by kernel_rfl)
  obtain ⟨ha, hb, hc, hd⟩ := h
  obtain ⟨a, rfl, ba⟩ := ok_ex ha
  obtain ⟨b, rfl, bb⟩ := ok_ex hb
  obtain ⟨c, rfl, bc⟩ := ok_ex hc
  obtain ⟨d, rfl, bd⟩ := ok_ex hd
  unfold ecg_t
  simp only [hid_eq, dec_enc', dec_encR, okd, okd_R, Bool.decide_and, Bool.and_self, Nat.reduceAdd, Nat.reduceLeDiff, sgn_mul]
  unfold cgR
  cases decide (cmpR (crsR (wayR a b) (wayR a c)) 0 * cmpR (crsR (wayR a b) (wayR a d)) 0 < 0) <;> rfl
end Go.Proofs.YtcaiedfkohigjaaGreat
/- distance.Segments and the reference's: the whole. -/
namespace Go.Proofs.YtcaiedfkohigjaaGreat
open Go.RowKit
theorem bd_min {x y : Rat} {k : Nat} (hx : bdR k x) (hy : bdR k y) : bdR k (minR x y) := by
  unfold minR
  cases decide (y < x)
  · exact hx
  · exact hy
noncomputable def dts_tp : Spec := { keep := false, tame := true, run := fun _ args k => match args with
  | [.d (.st (.pair (.st (.pair (.st (.pair .bool (.sl (.int .u32)))) (.st (.pair .bool (.sl (.int .u32)))))) (.st (.pair (.st (.pair .bool (.sl (.int .u32)))) (.st (.pair .bool (.sl (.int .u32)))))))) a, .d (.st (.pair (.st (.pair (.st (.pair .bool (.sl (.int .u32)))) (.st (.pair .bool (.sl (.int .u32)))))) (.st (.pair (.st (.pair .bool (.sl (.int .u32)))) (.st (.pair .bool (.sl (.int .u32)))))))) b, .d (.st (.pair (.st (.pair (.st (.pair .bool (.sl (.int .u32)))) (.st (.pair .bool (.sl (.int .u32)))))) (.st (.pair (.st (.pair .bool (.sl (.int .u32)))) (.st (.pair .bool (.sl (.int .u32)))))))) p] => match decide (ok (Rat × Rat) 100 a ∧ ok (Rat × Rat) 100 b ∧ ok (Rat × Rat) 100 p) with
    | true => k [RV.d tR (hid (encR (tosR (dec a) (dec b) (dec p))))]
    | false => none
  | _ => none }
theorem dts_tpec : callable Tryz.prog 58 = true ∧ SpecOk Tryz.prog 58 dts_tp ∧ ∀ g, dts_tp.mut_ = some g → MCon Tryz.prog 58 g := by
  refine ⟨by kernel_rfl, fun R args k r h => ?_, fun g h => by cases h⟩
  unfold dts_tp at h
  dsimp only at h
  split at h <;> try (cases h; done)
  split at h <;> try (cases h; done)
  rename_i hd
  simp only [hid_eq] at h
  exact ⟨_, h, dts_con _ _ _ (of_decide_eq_true hd)⟩

def dcg_tp : Spec := { keep := true, tame := true, run := fun _ args k => match args with
  | [.d (.st (.pair (.st (.pair (.st (.pair .bool (.sl (.int .u32)))) (.st (.pair .bool (.sl (.int .u32)))))) (.st (.pair (.st (.pair .bool (.sl (.int .u32)))) (.st (.pair .bool (.sl (.int .u32)))))))) a, .d (.st (.pair (.st (.pair (.st (.pair .bool (.sl (.int .u32)))) (.st (.pair .bool (.sl (.int .u32)))))) (.st (.pair (.st (.pair .bool (.sl (.int .u32)))) (.st (.pair .bool (.sl (.int .u32)))))))) b, .d (.st (.pair (.st (.pair (.st (.pair .bool (.sl (.int .u32)))) (.st (.pair .bool (.sl (.int .u32)))))) (.st (.pair (.st (.pair .bool (.sl (.int .u32)))) (.st (.pair .bool (.sl (.int .u32)))))))) c, .d (.st (.pair (.st (.pair (.st (.pair .bool (.sl (.int .u32)))) (.st (.pair .bool (.sl (.int .u32)))))) (.st (.pair (.st (.pair .bool (.sl (.int .u32)))) (.st (.pair .bool (.sl (.int .u32)))))))) d] => match decide (ok (Rat × Rat) 100 a ∧ ok (Rat × Rat) 100 b ∧ ok (Rat × Rat) 100 c ∧ ok (Rat × Rat) 100 d) with
    | true => k [RV.d .bool (cgR (dec a) (dec b) (dec c) (dec d))]
    | false => none
  | _ => none }
theorem dcg_tpec : callable Tryz.prog 57 = true ∧ SpecOk Tryz.prog 57 dcg_tp ∧ ∀ g, dcg_tp.mut_ = some g → MCon Tryz.prog 57 g := by
  refine ⟨by kernel_rfl, fun R args k r h => ?_, fun g h => by cases h⟩
  unfold dcg_tp at h
  dsimp only at h
  split at h <;> try (cases h; done)
  split at h <;> try (cases h; done)
  rename_i hd
  exact ⟨_, h, dcg_con _ _ _ _ (of_decide_eq_true hd)⟩

noncomputable def envd4 : Env := [(146, rad_tp), (145, rsu_tp), (39, rmu_tp), (123, rdi_tp), (54, rsg_tp), (25, rcm_tp), (28, rfi_tp), (122, dad_tp), (121, dsu_tp), (87, dmu_tp), (83, dwa_tp), (85, ddo_tp), (84, dcr_tp), (86, dov_tp), (58, dts_tp), (57, dcg_tp)]
theorem envd4_ok : EnvAll Tryz.prog envd4 := ⟨rad_tpec, rsu_tpec, rmu_tpec, rdi_tpec, rsg_tpec, rcm_tpec, rfi_tpec, dad_tpec, dsu_tpec, dmu_tpec, dwa_tpec, ddo_tpec, dcr_tpec, dov_tpec, dts_tpec, dcg_tpec, trivial⟩
def dsg_nt : NT := [((26, 16), { keep := [8, 9, 34, 35, 36], hl := 7 })]
noncomputable def dsg_C : Ctx := ⟨Tryz.prog, ft, tys, envd4, dsg_nt⟩
noncomputable def dsg_h16 (a : BV) (b : BV) (c : BV) (d : BV) (s36 : Int) (b5_0 : Bool) (b5_1 : List Int) (b5_2 : Bool) (b5_3 : List Int) : Cfg := ⟨26, [.blk 0, .seq 33], [(8, .box 4 0), (9, .box 5 0), (34, .own 6), (35, SI (([hid (encR (tosR (dec a) (dec b) (dec d))), hid (encR (tosR (dec c) (dec d) (dec a))), hid (encR (tosR (dec c) (dec d) (dec b)))]).length : Int)), (36, SI s36)], [.box 43 [SB a.1.1.1, .d (.sl (.int .u32)) a.1.1.2, SB a.1.2.1, .d (.sl (.int .u32)) a.1.2.2, SB a.2.1.1, .d (.sl (.int .u32)) a.2.1.2, SB a.2.2.1, .d (.sl (.int .u32)) a.2.2.2], .box 43 [SB b.1.1.1, .d (.sl (.int .u32)) b.1.1.2, SB b.1.2.1, .d (.sl (.int .u32)) b.1.2.2, SB b.2.1.1, .d (.sl (.int .u32)) b.2.1.2, SB b.2.2.1, .d (.sl (.int .u32)) b.2.2.2], .box 43 [SB c.1.1.1, .d (.sl (.int .u32)) c.1.1.2, SB c.1.2.1, .d (.sl (.int .u32)) c.1.2.2, SB c.2.1.1, .d (.sl (.int .u32)) c.2.1.2, SB c.2.2.1, .d (.sl (.int .u32)) c.2.2.2], .box 43 [SB d.1.1.1, .d (.sl (.int .u32)) d.1.1.2, SB d.1.2.1, .d (.sl (.int .u32)) d.1.2.2, SB d.2.1.1, .d (.sl (.int .u32)) d.2.1.2, SB d.2.2.1, .d (.sl (.int .u32)) d.2.2.2], .box 41 [SB false, .nil, SB false, .nil], .box 41 [SB b5_0, .d (.sl (.int .u32)) b5_1, SB b5_2, .d (.sl (.int .u32)) b5_3], .row 41 tR ([hid (encR (tosR (dec a) (dec b) (dec d))), hid (encR (tosR (dec c) (dec d) (dec a))), hid (encR (tosR (dec c) (dec d) (dec b)))])], 0, []⟩
noncomputable def dsg_t (k : Nat → Cfg → Option (List RV)) (a : BV) (b : BV) (c : BV) (d : BV) : Option (List RV) := match decide (ok (Rat × Rat) 100 a ∧ ok (Rat × Rat) 100 b ∧ ok (Rat × Rat) 100 c ∧ ok (Rat × Rat) 100 d) with | true => (match cgR (dec a) (dec b) (dec c) (dec d) with | true => (match decide (i64P (0 : Int)) with | true => some [RV.d tR (hid (encR ((0 : Int) : Rat)))] | false => none) | false => (match decide (ok (Rat × Rat) 100 a ∧ ok (Rat × Rat) 100 b ∧ ok (Rat × Rat) 100 c) with | true => (match decide (ok (Rat × Rat) 100 a ∧ ok (Rat × Rat) 100 b ∧ ok (Rat × Rat) 100 d) with | true => (match decide (ok (Rat × Rat) 100 c ∧ ok (Rat × Rat) 100 d ∧ ok (Rat × Rat) 100 a) with | true => (match decide (ok (Rat × Rat) 100 c ∧ ok (Rat × Rat) 100 d ∧ ok (Rat × Rat) 100 b) with | true => k 16 (dsg_h16 a b c d 0 (((hid (encR (tosR (dec a) (dec b) (dec c)))).1).1) (((hid (encR (tosR (dec a) (dec b) (dec c)))).1).2) (((hid (encR (tosR (dec a) (dec b) (dec c)))).2).1) (((hid (encR (tosR (dec a) (dec b) (dec c)))).2).2)) | false => none) | false => none) | false => none) | false => none)) | false => none
theorem dsg_eq (k : Nat → Cfg → Option (List RV)) (a : BV) (b : BV) (c : BV) (d : BV) : go Tryz.prog ft tys envd4 dsg_nt k 4000 (start 26 [.d tV a, .d tV b, .d tV c, .d tV d]) (.node 0) = dsg_t k a b c d := (go2_eq _ _ _ _ _ _ _ _ _).symm.trans (show go2 Tryz.prog ft tys envd4 dsg_nt k 4000 (start 26 [.d tV a, .d tV b, .d tV c, .d tV d]) (.node 0) = dsg_t k a b c d by kernel_rfl)
theorem dsg_s (a : BV) (b : BV) (c : BV) (d : BV) {rX : List RV} (hX : ∃ nX, dsg_t (dsg_C.k nX) a b c d = some rX) : dsg_C.Res 26 [.d tV a, .d tV b, .d tV c, .d tV d] rX := by
  obtain ⟨nX, hX⟩ := hX
  exact ⟨nX, (dsg_eq _ a b c d).trans hX⟩
noncomputable def dsg_h16_t (k : Nat → Cfg → Option (List RV)) (a : BV) (b : BV) (c : BV) (d : BV) (s36 : Int) (b5_0 : Bool) (b5_1 : List Int) (b5_2 : Bool) (b5_3 : List Int) : Option (List RV) := match decide (s36 < (([hid (encR (tosR (dec a) (dec b) (dec d))), hid (encR (tosR (dec c) (dec d) (dec a))), hid (encR (tosR (dec c) (dec d) (dec b)))]).length : Int)) with | true => (match getI ([hid (encR (tosR (dec a) (dec b) (dec d))), hid (encR (tosR (dec c) (dec d) (dec a))), hid (encR (tosR (dec c) (dec d) (dec b)))]) s36 with | some _ => (match true, ([hid (encR (tosR (dec a) (dec b) (dec d))), hid (encR (tosR (dec c) (dec d) (dec a))), hid (encR (tosR (dec c) (dec d) (dec b)))])[(s36).toNat]? with | true, some x1 => (match decide (okR x1 ∧ okR ((b5_0, b5_1), (b5_2, b5_3))) with | true => (match decide ((cmpR (decR x1) (decR ((b5_0, b5_1), (b5_2, b5_3)))) < 0) with | true => k 16 (dsg_h16 a b c d (IntKind.i64.wrap (s36 + 1)) x1.1.1 x1.1.2 x1.2.1 x1.2.2) | false => k 16 (dsg_h16 a b c d (IntKind.i64.wrap (s36 + 1)) b5_0 b5_1 b5_2 b5_3)) | false => none) | _, _ => none) | none => none) | false => some [RV.d tR ((b5_0, b5_1), (b5_2, b5_3))]
theorem dsg_h16_eq (k : Nat → Cfg → Option (List RV)) (a : BV) (b : BV) (c : BV) (d : BV) (s36 : Int) (b5_0 : Bool) (b5_1 : List Int) (b5_2 : Bool) (b5_3 : List Int) : go Tryz.prog ft tys envd4 dsg_nt k 4000 { dsg_h16 a b c d s36 b5_0 b5_1 b5_2 b5_3 with K := .lp 16 :: (dsg_h16 a b c d s36 b5_0 b5_1 b5_2 b5_3).K } (.node 17) = dsg_h16_t k a b c d s36 b5_0 b5_1 b5_2 b5_3 := (go2_eq _ _ _ _ _ _ _ _ _).symm.trans (show go2 Tryz.prog ft tys envd4 dsg_nt k 4000 { dsg_h16 a b c d s36 b5_0 b5_1 b5_2 b5_3 with K := .lp 16 :: (dsg_h16 a b c d s36 b5_0 b5_1 b5_2 b5_3).K } (.node 17) = dsg_h16_t k a b c d s36 b5_0 b5_1 b5_2 b5_3 by kernel_rfl)
theorem dsg_h16_s (a : BV) (b : BV) (c : BV) (d : BV) (s36 : Int) (b5_0 : Bool) (b5_1 : List Int) (b5_2 : Bool) (b5_3 : List Int) {rX : List RV} (hX : ∃ nX, dsg_h16_t (dsg_C.k nX) a b c d s36 b5_0 b5_1 b5_2 b5_3 = some rX) : dsg_C.Runs 16 (dsg_h16 a b c d s36 b5_0 b5_1 b5_2 b5_3) rX := by
  obtain ⟨nX, hX⟩ := hX
  exact ⟨nX + 1, (dsg_h16_eq _ a b c d s36 b5_0 b5_1 b5_2 b5_3).trans hX⟩
theorem dsg_at3 {a b c d : Rat × Rat} (_ba : Bd a 100) (_bb : Bd b 100) (_bc : Bd c 100) (_bd : Bd d 100) {o : Rat} (_ho : bdR 40000 o) : dsg_C.Runs 16 (dsg_h16 (enc a) (enc b) (enc c) (enc d) (3 : Int) (encR o).1.1 (encR o).1.2 (encR o).2.1 (encR o).2.2) [.d tR (encR o)] := by
  refine dsg_h16_s _ _ _ _ _ _ _ _ _ ⟨0, ?_⟩
  unfold dsg_h16_t
  rfl
theorem dsg_at2 {a b c d : Rat × Rat} (ba : Bd a 100) (bb : Bd b 100) (bc : Bd c 100) (bd : Bd d 100) {o : Rat} (ho : bdR 40000 o) : dsg_C.Runs 16 (dsg_h16 (enc a) (enc b) (enc c) (enc d) (2 : Int) (encR o).1.1 (encR o).1.2 (encR o).2.1 (encR o).2.2) [.d tR (encR (minR o (tosR c d b)))] := by
  have bx : Bd (tosR c d b) 40000 := ⟨bdR_mono (inferInstance : Bd (tosR c d b) _).le (by decide)⟩
  have bo : Bd o 40000 := ⟨ho⟩
  obtain ⟨q, hq⟩ := dsg_at3 ba bb bc bd (o := minR o (tosR c d b)) (bd_min ho bx.le)
  refine dsg_h16_s _ _ _ _ _ _ _ _ _ ⟨q, ?_⟩
  unfold dsg_h16_t
  simp only [hid_eq, dec_enc']
  have key : (match decide (okR (encR (tosR c d b)) ∧ okR (encR o)) with | true => (match decide (cmpR (decR (encR (tosR c d b))) (decR (encR o)) < 0) with | true => dsg_C.k q 16 (dsg_h16 (enc a) (enc b) (enc c) (enc d) (3 : Int) (encR (tosR c d b)).1.1 (encR (tosR c d b)).1.2 (encR (tosR c d b)).2.1 (encR (tosR c d b)).2.2) | false => dsg_C.k q 16 (dsg_h16 (enc a) (enc b) (enc c) (enc d) (3 : Int) (encR o).1.1 (encR o).1.2 (encR o).2.1 (encR o).2.2)) | false => none) = some [.d tR (encR (minR o (tosR c d b)))] := by
    simp only [dec_encR, okd_R, Bool.decide_and, Bool.and_self, Nat.reduceLeDiff, cmpR_ltb]
    unfold minR at hq ⊢
    cases hc : decide ((tosR c d b) < o) <;> rw [hc] at hq <;> exact hq
  exact key
theorem dsg_at1 {a b c d : Rat × Rat} (ba : Bd a 100) (bb : Bd b 100) (bc : Bd c 100) (bd : Bd d 100) {o : Rat} (ho : bdR 40000 o) : dsg_C.Runs 16 (dsg_h16 (enc a) (enc b) (enc c) (enc d) (1 : Int) (encR o).1.1 (encR o).1.2 (encR o).2.1 (encR o).2.2) [.d tR (encR (minR (minR o (tosR c d a)) (tosR c d b)))] := by
  have bx : Bd (tosR c d a) 40000 := ⟨bdR_mono (inferInstance : Bd (tosR c d a) _).le (by decide)⟩
  have bo : Bd o 40000 := ⟨ho⟩
  obtain ⟨q, hq⟩ := dsg_at2 ba bb bc bd (o := minR o (tosR c d a)) (bd_min ho bx.le)
  refine dsg_h16_s _ _ _ _ _ _ _ _ _ ⟨q, ?_⟩
  unfold dsg_h16_t
  simp only [hid_eq, dec_enc']
  have key : (match decide (okR (encR (tosR c d a)) ∧ okR (encR o)) with | true => (match decide (cmpR (decR (encR (tosR c d a))) (decR (encR o)) < 0) with | true => dsg_C.k q 16 (dsg_h16 (enc a) (enc b) (enc c) (enc d) (2 : Int) (encR (tosR c d a)).1.1 (encR (tosR c d a)).1.2 (encR (tosR c d a)).2.1 (encR (tosR c d a)).2.2) | false => dsg_C.k q 16 (dsg_h16 (enc a) (enc b) (enc c) (enc d) (2 : Int) (encR o).1.1 (encR o).1.2 (encR o).2.1 (encR o).2.2)) | false => none) = some [.d tR (encR (minR (minR o (tosR c d a)) (tosR c d b)))] := by
    simp only [dec_encR, okd_R, Bool.decide_and, Bool.and_self, Nat.reduceLeDiff, cmpR_ltb]
    unfold minR at hq ⊢
    cases hc : decide ((tosR c d a) < o) <;> rw [hc] at hq <;> exact hq
  exact key
theorem dsg_at0 {a b c d : Rat × Rat} (ba : Bd a 100) (bb : Bd b 100) (bc : Bd c 100) (bd : Bd d 100) {o : Rat} (ho : bdR 40000 o) : dsg_C.Runs 16 (dsg_h16 (enc a) (enc b) (enc c) (enc d) (0 : Int) (encR o).1.1 (encR o).1.2 (encR o).2.1 (encR o).2.2) [.d tR (encR (minR (minR (minR o (tosR a b d)) (tosR c d a)) (tosR c d b)))] := by
  have bx : Bd (tosR a b d) 40000 := ⟨bdR_mono (inferInstance : Bd (tosR a b d) _).le (by decide)⟩
  have bo : Bd o 40000 := ⟨ho⟩
  obtain ⟨q, hq⟩ := dsg_at1 ba bb bc bd (o := minR o (tosR a b d)) (bd_min ho bx.le)
  refine dsg_h16_s _ _ _ _ _ _ _ _ _ ⟨q, ?_⟩
  unfold dsg_h16_t
  simp only [hid_eq, dec_enc']
  have key : (match decide (okR (encR (tosR a b d)) ∧ okR (encR o)) with | true => (match decide (cmpR (decR (encR (tosR a b d))) (decR (encR o)) < 0) with | true => dsg_C.k q 16 (dsg_h16 (enc a) (enc b) (enc c) (enc d) (1 : Int) (encR (tosR a b d)).1.1 (encR (tosR a b d)).1.2 (encR (tosR a b d)).2.1 (encR (tosR a b d)).2.2) | false => dsg_C.k q 16 (dsg_h16 (enc a) (enc b) (enc c) (enc d) (1 : Int) (encR o).1.1 (encR o).1.2 (encR o).2.1 (encR o).2.2)) | false => none) = some [.d tR (encR (minR (minR (minR o (tosR a b d)) (tosR c d a)) (tosR c d b)))] := by
    simp only [dec_encR, okd_R, Bool.decide_and, Bool.and_self, Nat.reduceLeDiff, cmpR_ltb]
    unfold minR at hq ⊢
    cases hc : decide ((tosR a b d) < o) <;> rw [hc] at hq <;> exact hq
  exact key
theorem dsg_con (a : BV) (b : BV) (c : BV) (d : BV) (h : ok (Rat × Rat) 100 a ∧ ok (Rat × Rat) 100 b ∧ ok (Rat × Rat) 100 c ∧ ok (Rat × Rat) 100 d) : Con Tryz.prog 26 [.d tV a, .d tV b, .d tV c, .d tV d] [.d tR (encR (segR (dec a) (dec b) (dec c) (dec d)))] := by
  refine Ctx.Res.con (C := dsg_C) (ctx_ok envd4_ok) ?_ (fn := Tryz.f26) (by kernel_rfl) (by kernel_rfl)
  obtain ⟨ha, hb, hc, hd⟩ := h
  obtain ⟨a, rfl, ba⟩ := ok_ex ha
  obtain ⟨b, rfl, bb⟩ := ok_ex hb
  obtain ⟨c, rfl, bc⟩ := ok_ex hc
  obtain ⟨d, rfl, bd⟩ := ok_ex hd
  have bt : Bd (tosR a b c) 40000 := ⟨bdR_mono (inferInstance : Bd (tosR a b c) _).le (by decide)⟩
  obtain ⟨q, hq⟩ := dsg_at0 ba bb bc bd bt.le
  refine dsg_s _ _ _ _ ⟨q, ?_⟩
  unfold dsg_t
  simp only [hid_eq, dec_enc', okd, Bool.decide_and, Bool.and_self, Nat.reduceLeDiff]
  unfold segR
  cases cgR a b c d
  · exact hq
  · rfl
noncomputable def ets_tp : Spec := { keep := false, tame := true, run := fun _ args k => match args with
  | [.d (.st (.pair (.st (.pair (.st (.pair .bool (.sl (.int .u32)))) (.st (.pair .bool (.sl (.int .u32)))))) (.st (.pair (.st (.pair .bool (.sl (.int .u32)))) (.st (.pair .bool (.sl (.int .u32)))))))) a, .d (.st (.pair (.st (.pair (.st (.pair .bool (.sl (.int .u32)))) (.st (.pair .bool (.sl (.int .u32)))))) (.st (.pair (.st (.pair .bool (.sl (.int .u32)))) (.st (.pair .bool (.sl (.int .u32)))))))) b, .d (.st (.pair (.st (.pair (.st (.pair .bool (.sl (.int .u32)))) (.st (.pair .bool (.sl (.int .u32)))))) (.st (.pair (.st (.pair .bool (.sl (.int .u32)))) (.st (.pair .bool (.sl (.int .u32)))))))) p] => match decide (ok (Rat × Rat) 100 a ∧ ok (Rat × Rat) 100 b ∧ ok (Rat × Rat) 100 p) with
    | true => k [RV.d tR (hid (encR (tosR (dec a) (dec b) (dec p))))]
    | false => none
  | _ => none }
theorem ets_tpec : callable Tryz.prog 94 = true ∧ SpecOk Tryz.prog 94 ets_tp ∧ ∀ g, ets_tp.mut_ = some g → MCon Tryz.prog 94 g := by
  refine ⟨by kernel_rfl, fun R args k r h => ?_, fun g h => by cases h⟩
  unfold ets_tp at h
  dsimp only at h
  split at h <;> try (cases h; done)
  split at h <;> try (cases h; done)
  rename_i hd
  simp only [hid_eq] at h
  exact ⟨_, h, ets_con _ _ _ (of_decide_eq_true hd)⟩

def ecg_tp : Spec := { keep := true, tame := true, run := fun _ args k => match args with
  | [.d (.st (.pair (.st (.pair (.st (.pair .bool (.sl (.int .u32)))) (.st (.pair .bool (.sl (.int .u32)))))) (.st (.pair (.st (.pair .bool (.sl (.int .u32)))) (.st (.pair .bool (.sl (.int .u32)))))))) a, .d (.st (.pair (.st (.pair (.st (.pair .bool (.sl (.int .u32)))) (.st (.pair .bool (.sl (.int .u32)))))) (.st (.pair (.st (.pair .bool (.sl (.int .u32)))) (.st (.pair .bool (.sl (.int .u32)))))))) b, .d (.st (.pair (.st (.pair (.st (.pair .bool (.sl (.int .u32)))) (.st (.pair .bool (.sl (.int .u32)))))) (.st (.pair (.st (.pair .bool (.sl (.int .u32)))) (.st (.pair .bool (.sl (.int .u32)))))))) c, .d (.st (.pair (.st (.pair (.st (.pair .bool (.sl (.int .u32)))) (.st (.pair .bool (.sl (.int .u32)))))) (.st (.pair (.st (.pair .bool (.sl (.int .u32)))) (.st (.pair .bool (.sl (.int .u32)))))))) d] => match decide (ok (Rat × Rat) 100 a ∧ ok (Rat × Rat) 100 b ∧ ok (Rat × Rat) 100 c ∧ ok (Rat × Rat) 100 d) with
    | true => k [RV.d .bool (cgR (dec a) (dec b) (dec c) (dec d))]
    | false => none
  | _ => none }
theorem ecg_tpec : callable Tryz.prog 93 = true ∧ SpecOk Tryz.prog 93 ecg_tp ∧ ∀ g, ecg_tp.mut_ = some g → MCon Tryz.prog 93 g := by
  refine ⟨by kernel_rfl, fun R args k r h => ?_, fun g h => by cases h⟩
  unfold ecg_tp at h
  dsimp only at h
  split at h <;> try (cases h; done)
  split at h <;> try (cases h; done)
  rename_i hd
  exact ⟨_, h, ecg_con _ _ _ _ (of_decide_eq_true hd)⟩

noncomputable def enve4 : Env := [(162, qrad_tp), (161, qrsu_tp), (43, qrmu_tp), (129, qrov_tp), (125, qrsg_tp), (30, qrcm_tp), (33, qrfi_tp), (148, ead_tp), (147, esu_tp), (130, emu_tp), (127, ewa_tp), (128, edo_tp), (126, ecr_tp), (94, ets_tp), (93, ecg_tp)]
theorem enve4_ok : EnvAll Tryz.prog enve4 := ⟨qrad_tpec, qrsu_tpec, qrmu_tpec, qrov_tpec, qrsg_tpec, qrcm_tpec, qrfi_tpec, ead_tpec, esu_tpec, emu_tpec, ewa_tpec, edo_tpec, ecr_tpec, ets_tpec, ecg_tpec, trivial⟩
def esg_nt : NT := [((63, 18), { keep := [8, 9, 10, 11], hl := 7 })]
noncomputable def esg_C : Ctx := ⟨Tryz.prog, ft, tys, enve4, esg_nt⟩
noncomputable def esg_h18 (a : BV) (b : BV) (c : BV) (d : BV) (s11 : Int) (b5_0 : Bool) (b5_1 : List Int) (b5_2 : Bool) (b5_3 : List Int) : Cfg := ⟨63, [.blk 0, .seq 33], [(8, .box 4 0), (9, .box 5 0), (10, .own 6), (11, SI s11)], [.box 43 [SB a.1.1.1, .d (.sl (.int .u32)) a.1.1.2, SB a.1.2.1, .d (.sl (.int .u32)) a.1.2.2, SB a.2.1.1, .d (.sl (.int .u32)) a.2.1.2, SB a.2.2.1, .d (.sl (.int .u32)) a.2.2.2], .box 43 [SB b.1.1.1, .d (.sl (.int .u32)) b.1.1.2, SB b.1.2.1, .d (.sl (.int .u32)) b.1.2.2, SB b.2.1.1, .d (.sl (.int .u32)) b.2.1.2, SB b.2.2.1, .d (.sl (.int .u32)) b.2.2.2], .box 43 [SB c.1.1.1, .d (.sl (.int .u32)) c.1.1.2, SB c.1.2.1, .d (.sl (.int .u32)) c.1.2.2, SB c.2.1.1, .d (.sl (.int .u32)) c.2.1.2, SB c.2.2.1, .d (.sl (.int .u32)) c.2.2.2], .box 43 [SB d.1.1.1, .d (.sl (.int .u32)) d.1.1.2, SB d.1.2.1, .d (.sl (.int .u32)) d.1.2.2, SB d.2.1.1, .d (.sl (.int .u32)) d.2.1.2, SB d.2.2.1, .d (.sl (.int .u32)) d.2.2.2], .box 41 [SB false, .nil, SB false, .nil], .box 41 [SB b5_0, .d (.sl (.int .u32)) b5_1, SB b5_2, .d (.sl (.int .u32)) b5_3], .row 41 tR ([hid (encR (tosR (dec a) (dec b) (dec d))), hid (encR (tosR (dec c) (dec d) (dec a))), hid (encR (tosR (dec c) (dec d) (dec b)))])], 0, []⟩
noncomputable def esg_t (k : Nat → Cfg → Option (List RV)) (a : BV) (b : BV) (c : BV) (d : BV) : Option (List RV) := match decide (ok (Rat × Rat) 100 a ∧ ok (Rat × Rat) 100 b ∧ ok (Rat × Rat) 100 c ∧ ok (Rat × Rat) 100 d) with | true => (match cgR (dec a) (dec b) (dec c) (dec d) with | true => (match decide (i64P (0 : Int)) with | true => some [RV.d tR (hid (encR ((0 : Int) : Rat)))] | false => none) | false => (match decide (ok (Rat × Rat) 100 a ∧ ok (Rat × Rat) 100 b ∧ ok (Rat × Rat) 100 c) with | true => (match decide (ok (Rat × Rat) 100 a ∧ ok (Rat × Rat) 100 b ∧ ok (Rat × Rat) 100 d) with | true => (match decide (ok (Rat × Rat) 100 c ∧ ok (Rat × Rat) 100 d ∧ ok (Rat × Rat) 100 a) with | true => (match decide (ok (Rat × Rat) 100 c ∧ ok (Rat × Rat) 100 d ∧ ok (Rat × Rat) 100 b) with | true => k 18 (esg_h18 a b c d 0 (((hid (encR (tosR (dec a) (dec b) (dec c)))).1).1) (((hid (encR (tosR (dec a) (dec b) (dec c)))).1).2) (((hid (encR (tosR (dec a) (dec b) (dec c)))).2).1) (((hid (encR (tosR (dec a) (dec b) (dec c)))).2).2)) | false => none) | false => none) | false => none) | false => none)) | false => none
theorem esg_eq (k : Nat → Cfg → Option (List RV)) (a : BV) (b : BV) (c : BV) (d : BV) : go Tryz.prog ft tys enve4 esg_nt k 4000 (start 63 [.d tV a, .d tV b, .d tV c, .d tV d]) (.node 0) = esg_t k a b c d := (go2_eq _ _ _ _ _ _ _ _ _).symm.trans (show go2 Tryz.prog ft tys enve4 esg_nt k 4000 (start 63 [.d tV a, .d tV b, .d tV c, .d tV d]) (.node 0) = esg_t k a b c d by kernel_rfl)
theorem esg_s (a : BV) (b : BV) (c : BV) (d : BV) {rX : List RV} (hX : ∃ nX, esg_t (esg_C.k nX) a b c d = some rX) : esg_C.Res 63 [.d tV a, .d tV b, .d tV c, .d tV d] rX := by
  obtain ⟨nX, hX⟩ := hX
  exact ⟨nX, (esg_eq _ a b c d).trans hX⟩
noncomputable def esg_h18_t (k : Nat → Cfg → Option (List RV)) (a : BV) (b : BV) (c : BV) (d : BV) (s11 : Int) (b5_0 : Bool) (b5_1 : List Int) (b5_2 : Bool) (b5_3 : List Int) : Option (List RV) := match decide (s11 < (([hid (encR (tosR (dec a) (dec b) (dec d))), hid (encR (tosR (dec c) (dec d) (dec a))), hid (encR (tosR (dec c) (dec d) (dec b)))]).length : Int)) with | true => (match getI ([hid (encR (tosR (dec a) (dec b) (dec d))), hid (encR (tosR (dec c) (dec d) (dec a))), hid (encR (tosR (dec c) (dec d) (dec b)))]) s11 with | some _ => (match true, ([hid (encR (tosR (dec a) (dec b) (dec d))), hid (encR (tosR (dec c) (dec d) (dec a))), hid (encR (tosR (dec c) (dec d) (dec b)))])[(s11).toNat]? with | true, some x1 => (match decide (okR x1 ∧ okR ((b5_0, b5_1), (b5_2, b5_3))) with | true => (match decide ((cmpR (decR x1) (decR ((b5_0, b5_1), (b5_2, b5_3)))) < 0) with | true => (match getI ([hid (encR (tosR (dec a) (dec b) (dec d))), hid (encR (tosR (dec c) (dec d) (dec a))), hid (encR (tosR (dec c) (dec d) (dec b)))]) s11 with | some _ => (match true, ([hid (encR (tosR (dec a) (dec b) (dec d))), hid (encR (tosR (dec c) (dec d) (dec a))), hid (encR (tosR (dec c) (dec d) (dec b)))])[(s11).toNat]? with | true, some x2 => k 18 (esg_h18 a b c d (IntKind.i64.wrap (s11 + 1)) x2.1.1 x2.1.2 x2.2.1 x2.2.2) | _, _ => none) | none => none) | false => k 18 (esg_h18 a b c d (IntKind.i64.wrap (s11 + 1)) b5_0 b5_1 b5_2 b5_3)) | false => none) | _, _ => none) | none => none) | false => some [RV.d tR ((b5_0, b5_1), (b5_2, b5_3))]
theorem esg_h18_eq (k : Nat → Cfg → Option (List RV)) (a : BV) (b : BV) (c : BV) (d : BV) (s11 : Int) (b5_0 : Bool) (b5_1 : List Int) (b5_2 : Bool) (b5_3 : List Int) : go Tryz.prog ft tys enve4 esg_nt k 4000 { esg_h18 a b c d s11 b5_0 b5_1 b5_2 b5_3 with K := .lp 18 :: (esg_h18 a b c d s11 b5_0 b5_1 b5_2 b5_3).K } (.node 19) = esg_h18_t k a b c d s11 b5_0 b5_1 b5_2 b5_3 := (go2_eq _ _ _ _ _ _ _ _ _).symm.trans (show go2 Tryz.prog ft tys enve4 esg_nt k 4000 { esg_h18 a b c d s11 b5_0 b5_1 b5_2 b5_3 with K := .lp 18 :: (esg_h18 a b c d s11 b5_0 b5_1 b5_2 b5_3).K } (.node 19) = esg_h18_t k a b c d s11 b5_0 b5_1 b5_2 b5_3 by kernel_rfl)
theorem esg_h18_s (a : BV) (b : BV) (c : BV) (d : BV) (s11 : Int) (b5_0 : Bool) (b5_1 : List Int) (b5_2 : Bool) (b5_3 : List Int) {rX : List RV} (hX : ∃ nX, esg_h18_t (esg_C.k nX) a b c d s11 b5_0 b5_1 b5_2 b5_3 = some rX) : esg_C.Runs 18 (esg_h18 a b c d s11 b5_0 b5_1 b5_2 b5_3) rX := by
  obtain ⟨nX, hX⟩ := hX
  exact ⟨nX + 1, (esg_h18_eq _ a b c d s11 b5_0 b5_1 b5_2 b5_3).trans hX⟩
theorem esg_at3 {a b c d : Rat × Rat} (_ba : Bd a 100) (_bb : Bd b 100) (_bc : Bd c 100) (_bd : Bd d 100) {o : Rat} (_ho : bdR 40000 o) : esg_C.Runs 18 (esg_h18 (enc a) (enc b) (enc c) (enc d) (3 : Int) (encR o).1.1 (encR o).1.2 (encR o).2.1 (encR o).2.2) [.d tR (encR o)] := by
  refine esg_h18_s _ _ _ _ _ _ _ _ _ ⟨0, ?_⟩
  unfold esg_h18_t
  rfl
theorem esg_at2 {a b c d : Rat × Rat} (ba : Bd a 100) (bb : Bd b 100) (bc : Bd c 100) (bd : Bd d 100) {o : Rat} (ho : bdR 40000 o) : esg_C.Runs 18 (esg_h18 (enc a) (enc b) (enc c) (enc d) (2 : Int) (encR o).1.1 (encR o).1.2 (encR o).2.1 (encR o).2.2) [.d tR (encR (minR o (tosR c d b)))] := by
  have bx : Bd (tosR c d b) 40000 := ⟨bdR_mono (inferInstance : Bd (tosR c d b) _).le (by decide)⟩
  have bo : Bd o 40000 := ⟨ho⟩
  obtain ⟨q, hq⟩ := esg_at3 ba bb bc bd (o := minR o (tosR c d b)) (bd_min ho bx.le)
  refine esg_h18_s _ _ _ _ _ _ _ _ _ ⟨q, ?_⟩
  unfold esg_h18_t
  simp only [hid_eq, dec_enc']
  have key : (match decide (okR (encR (tosR c d b)) ∧ okR (encR o)) with | true => (match decide (cmpR (decR (encR (tosR c d b))) (decR (encR o)) < 0) with | true => esg_C.k q 18 (esg_h18 (enc a) (enc b) (enc c) (enc d) (3 : Int) (encR (tosR c d b)).1.1 (encR (tosR c d b)).1.2 (encR (tosR c d b)).2.1 (encR (tosR c d b)).2.2) | false => esg_C.k q 18 (esg_h18 (enc a) (enc b) (enc c) (enc d) (3 : Int) (encR o).1.1 (encR o).1.2 (encR o).2.1 (encR o).2.2)) | false => none) = some [.d tR (encR (minR o (tosR c d b)))] := by
    simp only [dec_encR, okd_R, Bool.decide_and, Bool.and_self, Nat.reduceLeDiff, cmpR_ltb]
    unfold minR at hq ⊢
    cases hc : decide ((tosR c d b) < o) <;> rw [hc] at hq <;> exact hq
  exact key
theorem esg_at1 {a b c d : Rat × Rat} (ba : Bd a 100) (bb : Bd b 100) (bc : Bd c 100) (bd : Bd d 100) {o : Rat} (ho : bdR 40000 o) : esg_C.Runs 18 (esg_h18 (enc a) (enc b) (enc c) (enc d) (1 : Int) (encR o).1.1 (encR o).1.2 (encR o).2.1 (encR o).2.2) [.d tR (encR (minR (minR o (tosR c d a)) (tosR c d b)))] := by
  have bx : Bd (tosR c d a) 40000 := ⟨bdR_mono (inferInstance : Bd (tosR c d a) _).le (by decide)⟩
  have bo : Bd o 40000 := ⟨ho⟩
  obtain ⟨q, hq⟩ := esg_at2 ba bb bc bd (o := minR o (tosR c d a)) (bd_min ho bx.le)
  refine esg_h18_s _ _ _ _ _ _ _ _ _ ⟨q, ?_⟩
  unfold esg_h18_t
  simp only [hid_eq, dec_enc']
  have key : (match decide (okR (encR (tosR c d a)) ∧ okR (encR o)) with | true => (match decide (cmpR (decR (encR (tosR c d a))) (decR (encR o)) < 0) with | true => esg_C.k q 18 (esg_h18 (enc a) (enc b) (enc c) (enc d) (2 : Int) (encR (tosR c d a)).1.1 (encR (tosR c d a)).1.2 (encR (tosR c d a)).2.1 (encR (tosR c d a)).2.2) | false => esg_C.k q 18 (esg_h18 (enc a) (enc b) (enc c) (enc d) (2 : Int) (encR o).1.1 (encR o).1.2 (encR o).2.1 (encR o).2.2)) | false => none) = some [.d tR (encR (minR (minR o (tosR c d a)) (tosR c d b)))] := by
    simp only [dec_encR, okd_R, Bool.decide_and, Bool.and_self, Nat.reduceLeDiff, cmpR_ltb]
    unfold minR at hq ⊢
    cases hc : decide ((tosR c d a) < o) <;> rw [hc] at hq <;> exact hq
  exact key
theorem esg_at0 {a b c d : Rat × Rat} (ba : Bd a 100) (bb : Bd b 100) (bc : Bd c 100) (bd : Bd d 100) {o : Rat} (ho : bdR 40000 o) : esg_C.Runs 18 (esg_h18 (enc a) (enc b) (enc c) (enc d) (0 : Int) (encR o).1.1 (encR o).1.2 (encR o).2.1 (encR o).2.2) [.d tR (encR (minR (minR (minR o (tosR a b d)) (tosR c d a)) (tosR c d b)))] := by
  have bx : Bd (tosR a b d) 40000 := ⟨bdR_mono (inferInstance : Bd (tosR a b d) _).le (by decide)⟩
  have bo : Bd o 40000 := ⟨ho⟩
  obtain ⟨q, hq⟩ := esg_at1 ba bb bc bd (o := minR o (tosR a b d)) (bd_min ho bx.le)
  refine esg_h18_s _ _ _ _ _ _ _ _ _ ⟨q, ?_⟩
  unfold esg_h18_t
  simp only [hid_eq, dec_enc']
  have key : (match decide (okR (encR (tosR a b d)) ∧ okR (encR o)) with | true => (match decide (cmpR (decR (encR (tosR a b d))) (decR (encR o)) < 0) with | true => esg_C.k q 18 (esg_h18 (enc a) (enc b) (enc c) (enc d) (1 : Int) (encR (tosR a b d)).1.1 (encR (tosR a b d)).1.2 (encR (tosR a b d)).2.1 (encR (tosR a b d)).2.2) | false => esg_C.k q 18 (esg_h18 (enc a) (enc b) (enc c) (enc d) (1 : Int) (encR o).1.1 (encR o).1.2 (encR o).2.1 (encR o).2.2)) | false => none) = some [.d tR (encR (minR (minR (minR o (tosR a b d)) (tosR c d a)) (tosR c d b)))] := by
    simp only [dec_encR, okd_R, Bool.decide_and, Bool.and_self, Nat.reduceLeDiff, cmpR_ltb]
    unfold minR at hq ⊢
    cases hc : decide ((tosR a b d) < o) <;> rw [hc] at hq <;> exact hq
  exact key
theorem esg_con (a : BV) (b : BV) (c : BV) (d : BV) (h : ok (Rat × Rat) 100 a ∧ ok (Rat × Rat) 100 b ∧ ok (Rat × Rat) 100 c ∧ ok (Rat × Rat) 100 d) : Con Tryz.prog 63 [.d tV a, .d tV b, .d tV c, .d tV d] [.d tR (encR (segR (dec a) (dec b) (dec c) (dec d)))] := by
  refine Ctx.Res.con (C := esg_C) (ctx_ok enve4_ok) ?_ (fn := Tryz.f63) (by kernel_rfl) (by kernel_rfl)
  obtain ⟨ha, hb, hc, hd⟩ := h
  obtain ⟨a, rfl, ba⟩ := ok_ex ha
  obtain ⟨b, rfl, bb⟩ := ok_ex hb
  obtain ⟨c, rfl, bc⟩ := ok_ex hc
  obtain ⟨d, rfl, bd⟩ := ok_ex hd
  have bt : Bd (tosR a b c) 40000 := ⟨bdR_mono (inferInstance : Bd (tosR a b c) _).le (by decide)⟩
  obtain ⟨q, hq⟩ := esg_at0 ba bb bc bd bt.le
  refine esg_s _ _ _ _ ⟨q, ?_⟩
  unfold esg_t
  simp only [hid_eq, dec_enc', okd, Bool.decide_and, Bool.and_self, Nat.reduceLeDiff]
  unfold segR
  cases cgR a b c d
  · exact hq
  · rfl
end Go.Proofs.YtcaiedfkohigjaaGreat
