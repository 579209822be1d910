/- interpolate: right, Valid, Quarters, for the moves of Bore. -/
import Derived.Test.YtpiabmjipgfjjaaDoorDi1
namespace Go.Proofs.YtpiabmjipgfjjaaDoor
open Go.RowKit
/-- A counterclockwise arc that is valid and in range. -/
def arOk (p : P3) (m : Mq) : Prop := 0 < m.2.2.2 ∧ in7 m.2.2.1.1 ∧ in7 m.2.2.1.2 ∧ 0 < (pntF p m.2.2.1).2 ∧ (pntF m.2.1 m.2.2.1).2 = (pntF p m.2.2.1).2 ∧ (pntF p m.2.2.1).2 ≤ 10000000 ∧ in7 (m.2.2.1.1 + (pntF p m.2.2.1).2) ∧ in7 (m.2.2.1.1 - (pntF p m.2.2.1).2) ∧ in7 (m.2.2.1.2 + (pntF p m.2.2.1).2) ∧ in7 (m.2.2.1.2 - (pntF p m.2.2.1).2)
instance (p : P3) (m : Mq) : Decidable (arOk p m) := by unfold arOk; infer_instance
def mvOk (p : P3) (m : Mq) : Prop := (in7 p.1 ∧ in7 p.2.1 ∧ in7 p.2.2 ∧ in7 m.2.1.1 ∧ in7 m.2.1.2.1 ∧ in7 m.2.1.2.2) ∧ (m.1 = 1 ∧ m.2.2.2 = 0 ∨ m.1 = 2 ∧ 0 < m.2.2.2 ∨ m.1 = 4 ∧ arOk p m)
instance (p : P3) (m : Mq) : Decidable (mvOk p m) := by unfold mvOk; infer_instance
def quOk (p : P3) (m : Mq) : Prop := mvOk p m ∧ m.1 = 4
instance (p : P3) (m : Mq) : Decidable (quOk p m) := by unfold quOk; infer_instance
theorem mvOk.p1 {p : P3} {m : Mq} (h : mvOk p m) (a : arOk p m) : pntP p m.2.2.1 := ⟨h.1.1.r, h.1.2.1.r, a.2.1.r, a.2.2.1.r⟩
theorem mvOk.p2 {p : P3} {m : Mq} (h : mvOk p m) (a : arOk p m) : pntP m.2.1 m.2.2.1 := ⟨h.1.2.2.2.1.r, h.1.2.2.2.2.1.r, a.2.1.r, a.2.2.1.r⟩
def pnt_sp : Spec := { keep := true, run := fun _ args k => match args with
  | [.d (.st (.pair (.int .i64) (.pair (.int .i64) (.int .i64)))) p, .d (.st (.pair (.int .i64) (.int .i64))) c] => match decide (pntP p c) with
    | true => k [RV.d (.int .i64) ((pntF p c).1), RV.d (.int .u64) ((pntF p c).2)]
    | false => none
  | _ => none }
theorem pnt_spec : callable Tryd.prog 34 = true ∧ SpecOk Tryd.prog 34 pnt_sp ∧ ∀ g, pnt_sp.mut_ = some g → MCon Tryd.prog 34 g := by
  refine ⟨by kernel_rfl, fun R args k r h => ?_, fun g h => by simp [pnt_sp] at h⟩
  unfold pnt_sp at h
  dsimp only at h
  split at h <;> try (cases h; done)
  split at h <;> try (cases h; done)
  rename_i hd
  exact ⟨_, h, pnt_con _ _ (of_decide_eq_true hd)⟩
def envD1 : Env := [(34, pnt_sp)]
theorem envD1_ok : EnvAll Tryd.prog envD1 := ⟨pnt_spec, trivial⟩
def rgt_nt : NT := []
noncomputable def rgt_C : Ctx := ⟨Tryd.prog, ft, tys, envD1, rgt_nt⟩
def rgt_t (_k : Nat → Cfg → Option (List RV)) (p : Int × Int × Int) (m : Int × (Int × Int × Int) × (Int × Int) × Int) : Option (List RV) := match m.1 == 1 with | true => some [RV.d .bool (m.2.2.2 == 0)] | false => (match m.1 == 2 with | true => some [RV.d .bool (decide (m.2.2.2 > 0))] | false => (match decide (pntP p m.2.2.1) with | true => (match decide (pntP m.2.1 m.2.2.1) with | true => (match m.1 == 3 with | true => (match decide (m.2.2.2 > 0) with | true => (match decide (((pntF p m.2.2.1).2) > 0) with | true => some [RV.d .bool (((pntF p m.2.2.1).2) == ((pntF m.2.1 m.2.2.1).2))] | false => some [RV.d .bool false]) | false => some [RV.d .bool false]) | false => (match m.1 == 4 with | true => (match decide (m.2.2.2 > 0) with | true => (match decide (((pntF p m.2.2.1).2) > 0) with | true => some [RV.d .bool (((pntF p m.2.2.1).2) == ((pntF m.2.1 m.2.2.1).2))] | false => some [RV.d .bool false]) | false => some [RV.d .bool false]) | false => some [RV.d .bool false])) | false => none) | false => none))
theorem rgt_eq (k : Nat → Cfg → Option (List RV)) (p : Int × Int × Int) (m : Int × (Int × Int × Int) × (Int × Int) × Int) : go Tryd.prog ft tys envD1 rgt_nt k 4000 (start 32 [.d (.st (.pair (.int .i64) (.pair (.int .i64) (.int .i64)))) p, .d (.st (.pair (.int .i64) (.pair (.st (.pair (.int .i64) (.pair (.int .i64) (.int .i64)))) (.pair (.st (.pair (.int .i64) (.int .i64))) (.int .i64))))) m]) (.node 0) = rgt_t k p m := by kernel_rfl
theorem rgt_s (p : Int × Int × Int) (m : Int × (Int × Int × Int) × (Int × Int) × Int) {rX : List RV} (hX : ∃ nX, rgt_t (rgt_C.k nX) p m = some rX) : rgt_C.Res 32 [.d (.st (.pair (.int .i64) (.pair (.int .i64) (.int .i64)))) p, .d (.st (.pair (.int .i64) (.pair (.st (.pair (.int .i64) (.pair (.int .i64) (.int .i64)))) (.pair (.st (.pair (.int .i64) (.int .i64))) (.int .i64))))) m] rX := by
  obtain ⟨nX, hX⟩ := hX
  exact ⟨nX, (rgt_eq _ p m).trans hX⟩
theorem rgt_con (p : P3) (m : Mq) (h : mvOk p m) : Con Tryd.prog 32 [.d (.st (.pair (.int .i64) (.pair (.int .i64) (.int .i64)))) p, .d (.st (.pair (.int .i64) (.pair (.st (.pair (.int .i64) (.pair (.int .i64) (.int .i64)))) (.pair (.st (.pair (.int .i64) (.int .i64))) (.int .i64))))) m] [.d .bool true] := by
  refine Ctx.Res.con (C := rgt_C) (ctx_ok envD1_ok) ?_ (fn := Tryd.f32) (by kernel_rfl) (by kernel_rfl)
  refine rgt_s _ _ ⟨0, ?_⟩
  unfold rgt_t
  rcases h.2 with ⟨hk, hr⟩ | ⟨hk, hr⟩ | ⟨hk, ha⟩
  · simp [hk, hr]
  · simp [hk, hr]
  · rw [decide_eq_true (h.p1 ha), decide_eq_true (h.p2 ha)]
    obtain ⟨h1, h2, h3, h4, h5, _⟩ := ha
    simp [hk, h1, h4, h5]
def rgt_sp : Spec := { keep := true, run := fun _ args k => match args with
  | [.d (.st (.pair (.int .i64) (.pair (.int .i64) (.int .i64)))) p, .d (.st (.pair (.int .i64) (.pair (.st (.pair (.int .i64) (.pair (.int .i64) (.int .i64)))) (.pair (.st (.pair (.int .i64) (.int .i64))) (.int .i64))))) m] => match decide (mvOk p m) with
    | true => k [RV.d .bool true]
    | false => none
  | _ => none }
theorem rgt_spec : callable Tryd.prog 32 = true ∧ SpecOk Tryd.prog 32 rgt_sp ∧ ∀ g, rgt_sp.mut_ = some g → MCon Tryd.prog 32 g := by
  refine ⟨by kernel_rfl, fun R args k r h => ?_, fun g h => by simp [rgt_sp] at h⟩
  unfold rgt_sp at h
  dsimp only at h
  split at h <;> try (cases h; done)
  split at h <;> try (cases h; done)
  rename_i hd
  exact ⟨_, h, rgt_con _ _ (of_decide_eq_true hd)⟩
def envD2 : Env := [(34, pnt_sp), (32, rgt_sp)]
theorem envD2_ok : EnvAll Tryd.prog envD2 := ⟨pnt_spec, rgt_spec, trivial⟩
def iva_nt : NT := [((21, 34), { keep := [81, 82, 83], hl := 3 })]
noncomputable def iva_C : Ctx := ⟨Tryd.prog, ft, tys, envD2, iva_nt⟩
def iva_h34 (p : Int × Int × Int) (m : Int × (Int × Int × Int) × (Int × Int) × Int) (s82 : Int) (r2 : List Int) (s83 : Int) : Cfg := ⟨21, [.blk 0, .seq 53], [(81, .own 2), (82, SI s82), (83, SI s83)], [.box 46 [SI p.1, SI p.2.1, SI p.2.2], .box 48 [SI m.1, SI m.2.1.1, SI m.2.1.2.1, SI m.2.1.2.2, SI m.2.2.1.1, SI m.2.2.1.2, SI m.2.2.2], .row 2 (.int .i64) r2], 0, []⟩
def iva_t (k : Nat → Cfg → Option (List RV)) (p : Int × Int × Int) (m : Int × (Int × Int × Int) × (Int × Int) × Int) : Option (List RV) := match decide (mvOk p m) with | true => (match !true with | true => some [RV.d (.int .i64) 1] | false => (match m.1 == 3 with | true => (match decide (pntP p m.2.2.1) with | true => (match decide (((pntF p m.2.2.1).2) > 10000000) with | true => some [RV.d (.int .i64) 11] | false => (match decide (m.2.2.1.1 < 0) with | true => (match decide ((IntKind.u64.wrap ((IntKind.u64.wrap 0) - (IntKind.u64.wrap m.2.2.1.1))) > 10000000) with | true => some [RV.d (.int .i64) 11] | false => (match decide (m.2.2.1.2 < 0) with | true => (match decide ((IntKind.u64.wrap ((IntKind.u64.wrap 0) - (IntKind.u64.wrap m.2.2.1.2))) > 10000000) with | true => some [RV.d (.int .i64) 11] | false => (match decide ((([p.1, p.2.1, p.2.2, m.2.1.1, m.2.1.2.1, m.2.1.2.2]).length + ([IntKind.i64.wrap (m.2.2.1.1 + (IntKind.i64.wrap ((pntF p m.2.2.1).2))), IntKind.i64.wrap (m.2.2.1.1 - (IntKind.i64.wrap ((pntF p m.2.2.1).2))), IntKind.i64.wrap (m.2.2.1.2 + (IntKind.i64.wrap ((pntF p m.2.2.1).2))), IntKind.i64.wrap (m.2.2.1.2 - (IntKind.i64.wrap ((pntF p m.2.2.1).2)))]).length) * 8 ≤ 140737488355328 ∧ ([p.1, p.2.1, p.2.2, m.2.1.1, m.2.1.2.1, m.2.1.2.2]).length + ([IntKind.i64.wrap (m.2.2.1.1 + (IntKind.i64.wrap ((pntF p m.2.2.1).2))), IntKind.i64.wrap (m.2.2.1.1 - (IntKind.i64.wrap ((pntF p m.2.2.1).2))), IntKind.i64.wrap (m.2.2.1.2 + (IntKind.i64.wrap ((pntF p m.2.2.1).2))), IntKind.i64.wrap (m.2.2.1.2 - (IntKind.i64.wrap ((pntF p m.2.2.1).2)))]).length ≤ 140737488355328) with | true => k 34 (iva_h34 p m ((([p.1, p.2.1, p.2.2, m.2.1.1, m.2.1.2.1, m.2.1.2.2]) ++ ([IntKind.i64.wrap (m.2.2.1.1 + (IntKind.i64.wrap ((pntF p m.2.2.1).2))), IntKind.i64.wrap (m.2.2.1.1 - (IntKind.i64.wrap ((pntF p m.2.2.1).2))), IntKind.i64.wrap (m.2.2.1.2 + (IntKind.i64.wrap ((pntF p m.2.2.1).2))), IntKind.i64.wrap (m.2.2.1.2 - (IntKind.i64.wrap ((pntF p m.2.2.1).2)))])).length : Int) (([p.1, p.2.1, p.2.2, m.2.1.1, m.2.1.2.1, m.2.1.2.2]) ++ ([IntKind.i64.wrap (m.2.2.1.1 + (IntKind.i64.wrap ((pntF p m.2.2.1).2))), IntKind.i64.wrap (m.2.2.1.1 - (IntKind.i64.wrap ((pntF p m.2.2.1).2))), IntKind.i64.wrap (m.2.2.1.2 + (IntKind.i64.wrap ((pntF p m.2.2.1).2))), IntKind.i64.wrap (m.2.2.1.2 - (IntKind.i64.wrap ((pntF p m.2.2.1).2)))])) 0) | false => none)) | false => (match decide ((IntKind.u64.wrap ((IntKind.u64.wrap m.2.2.1.2) - (IntKind.u64.wrap 0))) > 10000000) with | true => some [RV.d (.int .i64) 11] | false => (match decide ((([p.1, p.2.1, p.2.2, m.2.1.1, m.2.1.2.1, m.2.1.2.2]).length + ([IntKind.i64.wrap (m.2.2.1.1 + (IntKind.i64.wrap ((pntF p m.2.2.1).2))), IntKind.i64.wrap (m.2.2.1.1 - (IntKind.i64.wrap ((pntF p m.2.2.1).2))), IntKind.i64.wrap (m.2.2.1.2 + (IntKind.i64.wrap ((pntF p m.2.2.1).2))), IntKind.i64.wrap (m.2.2.1.2 - (IntKind.i64.wrap ((pntF p m.2.2.1).2)))]).length) * 8 ≤ 140737488355328 ∧ ([p.1, p.2.1, p.2.2, m.2.1.1, m.2.1.2.1, m.2.1.2.2]).length + ([IntKind.i64.wrap (m.2.2.1.1 + (IntKind.i64.wrap ((pntF p m.2.2.1).2))), IntKind.i64.wrap (m.2.2.1.1 - (IntKind.i64.wrap ((pntF p m.2.2.1).2))), IntKind.i64.wrap (m.2.2.1.2 + (IntKind.i64.wrap ((pntF p m.2.2.1).2))), IntKind.i64.wrap (m.2.2.1.2 - (IntKind.i64.wrap ((pntF p m.2.2.1).2)))]).length ≤ 140737488355328) with | true => k 34 (iva_h34 p m ((([p.1, p.2.1, p.2.2, m.2.1.1, m.2.1.2.1, m.2.1.2.2]) ++ ([IntKind.i64.wrap (m.2.2.1.1 + (IntKind.i64.wrap ((pntF p m.2.2.1).2))), IntKind.i64.wrap (m.2.2.1.1 - (IntKind.i64.wrap ((pntF p m.2.2.1).2))), IntKind.i64.wrap (m.2.2.1.2 + (IntKind.i64.wrap ((pntF p m.2.2.1).2))), IntKind.i64.wrap (m.2.2.1.2 - (IntKind.i64.wrap ((pntF p m.2.2.1).2)))])).length : Int) (([p.1, p.2.1, p.2.2, m.2.1.1, m.2.1.2.1, m.2.1.2.2]) ++ ([IntKind.i64.wrap (m.2.2.1.1 + (IntKind.i64.wrap ((pntF p m.2.2.1).2))), IntKind.i64.wrap (m.2.2.1.1 - (IntKind.i64.wrap ((pntF p m.2.2.1).2))), IntKind.i64.wrap (m.2.2.1.2 + (IntKind.i64.wrap ((pntF p m.2.2.1).2))), IntKind.i64.wrap (m.2.2.1.2 - (IntKind.i64.wrap ((pntF p m.2.2.1).2)))])) 0) | false => none)))) | false => (match decide ((IntKind.u64.wrap ((IntKind.u64.wrap m.2.2.1.1) - (IntKind.u64.wrap 0))) > 10000000) with | true => some [RV.d (.int .i64) 11] | false => (match decide (m.2.2.1.2 < 0) with | true => (match decide ((IntKind.u64.wrap ((IntKind.u64.wrap 0) - (IntKind.u64.wrap m.2.2.1.2))) > 10000000) with | true => some [RV.d (.int .i64) 11] | false => (match decide ((([p.1, p.2.1, p.2.2, m.2.1.1, m.2.1.2.1, m.2.1.2.2]).length + ([IntKind.i64.wrap (m.2.2.1.1 + (IntKind.i64.wrap ((pntF p m.2.2.1).2))), IntKind.i64.wrap (m.2.2.1.1 - (IntKind.i64.wrap ((pntF p m.2.2.1).2))), IntKind.i64.wrap (m.2.2.1.2 + (IntKind.i64.wrap ((pntF p m.2.2.1).2))), IntKind.i64.wrap (m.2.2.1.2 - (IntKind.i64.wrap ((pntF p m.2.2.1).2)))]).length) * 8 ≤ 140737488355328 ∧ ([p.1, p.2.1, p.2.2, m.2.1.1, m.2.1.2.1, m.2.1.2.2]).length + ([IntKind.i64.wrap (m.2.2.1.1 + (IntKind.i64.wrap ((pntF p m.2.2.1).2))), IntKind.i64.wrap (m.2.2.1.1 - (IntKind.i64.wrap ((pntF p m.2.2.1).2))), IntKind.i64.wrap (m.2.2.1.2 + (IntKind.i64.wrap ((pntF p m.2.2.1).2))), IntKind.i64.wrap (m.2.2.1.2 - (IntKind.i64.wrap ((pntF p m.2.2.1).2)))]).length ≤ 140737488355328) with | true => k 34 (iva_h34 p m ((([p.1, p.2.1, p.2.2, m.2.1.1, m.2.1.2.1, m.2.1.2.2]) ++ ([IntKind.i64.wrap (m.2.2.1.1 + (IntKind.i64.wrap ((pntF p m.2.2.1).2))), IntKind.i64.wrap (m.2.2.1.1 - (IntKind.i64.wrap ((pntF p m.2.2.1).2))), IntKind.i64.wrap (m.2.2.1.2 + (IntKind.i64.wrap ((pntF p m.2.2.1).2))), IntKind.i64.wrap (m.2.2.1.2 - (IntKind.i64.wrap ((pntF p m.2.2.1).2)))])).length : Int) (([p.1, p.2.1, p.2.2, m.2.1.1, m.2.1.2.1, m.2.1.2.2]) ++ ([IntKind.i64.wrap (m.2.2.1.1 + (IntKind.i64.wrap ((pntF p m.2.2.1).2))), IntKind.i64.wrap (m.2.2.1.1 - (IntKind.i64.wrap ((pntF p m.2.2.1).2))), IntKind.i64.wrap (m.2.2.1.2 + (IntKind.i64.wrap ((pntF p m.2.2.1).2))), IntKind.i64.wrap (m.2.2.1.2 - (IntKind.i64.wrap ((pntF p m.2.2.1).2)))])) 0) | false => none)) | false => (match decide ((IntKind.u64.wrap ((IntKind.u64.wrap m.2.2.1.2) - (IntKind.u64.wrap 0))) > 10000000) with | true => some [RV.d (.int .i64) 11] | false => (match decide ((([p.1, p.2.1, p.2.2, m.2.1.1, m.2.1.2.1, m.2.1.2.2]).length + ([IntKind.i64.wrap (m.2.2.1.1 + (IntKind.i64.wrap ((pntF p m.2.2.1).2))), IntKind.i64.wrap (m.2.2.1.1 - (IntKind.i64.wrap ((pntF p m.2.2.1).2))), IntKind.i64.wrap (m.2.2.1.2 + (IntKind.i64.wrap ((pntF p m.2.2.1).2))), IntKind.i64.wrap (m.2.2.1.2 - (IntKind.i64.wrap ((pntF p m.2.2.1).2)))]).length) * 8 ≤ 140737488355328 ∧ ([p.1, p.2.1, p.2.2, m.2.1.1, m.2.1.2.1, m.2.1.2.2]).length + ([IntKind.i64.wrap (m.2.2.1.1 + (IntKind.i64.wrap ((pntF p m.2.2.1).2))), IntKind.i64.wrap (m.2.2.1.1 - (IntKind.i64.wrap ((pntF p m.2.2.1).2))), IntKind.i64.wrap (m.2.2.1.2 + (IntKind.i64.wrap ((pntF p m.2.2.1).2))), IntKind.i64.wrap (m.2.2.1.2 - (IntKind.i64.wrap ((pntF p m.2.2.1).2)))]).length ≤ 140737488355328) with | true => k 34 (iva_h34 p m ((([p.1, p.2.1, p.2.2, m.2.1.1, m.2.1.2.1, m.2.1.2.2]) ++ ([IntKind.i64.wrap (m.2.2.1.1 + (IntKind.i64.wrap ((pntF p m.2.2.1).2))), IntKind.i64.wrap (m.2.2.1.1 - (IntKind.i64.wrap ((pntF p m.2.2.1).2))), IntKind.i64.wrap (m.2.2.1.2 + (IntKind.i64.wrap ((pntF p m.2.2.1).2))), IntKind.i64.wrap (m.2.2.1.2 - (IntKind.i64.wrap ((pntF p m.2.2.1).2)))])).length : Int) (([p.1, p.2.1, p.2.2, m.2.1.1, m.2.1.2.1, m.2.1.2.2]) ++ ([IntKind.i64.wrap (m.2.2.1.1 + (IntKind.i64.wrap ((pntF p m.2.2.1).2))), IntKind.i64.wrap (m.2.2.1.1 - (IntKind.i64.wrap ((pntF p m.2.2.1).2))), IntKind.i64.wrap (m.2.2.1.2 + (IntKind.i64.wrap ((pntF p m.2.2.1).2))), IntKind.i64.wrap (m.2.2.1.2 - (IntKind.i64.wrap ((pntF p m.2.2.1).2)))])) 0) | false => none)))))) | false => none) | false => (match m.1 == 4 with | true => (match decide (pntP p m.2.2.1) with | true => (match decide (((pntF p m.2.2.1).2) > 10000000) with | true => some [RV.d (.int .i64) 11] | false => (match decide (m.2.2.1.1 < 0) with | true => (match decide ((IntKind.u64.wrap ((IntKind.u64.wrap 0) - (IntKind.u64.wrap m.2.2.1.1))) > 10000000) with | true => some [RV.d (.int .i64) 11] | false => (match decide (m.2.2.1.2 < 0) with | true => (match decide ((IntKind.u64.wrap ((IntKind.u64.wrap 0) - (IntKind.u64.wrap m.2.2.1.2))) > 10000000) with | true => some [RV.d (.int .i64) 11] | false => (match decide ((([p.1, p.2.1, p.2.2, m.2.1.1, m.2.1.2.1, m.2.1.2.2]).length + ([IntKind.i64.wrap (m.2.2.1.1 + (IntKind.i64.wrap ((pntF p m.2.2.1).2))), IntKind.i64.wrap (m.2.2.1.1 - (IntKind.i64.wrap ((pntF p m.2.2.1).2))), IntKind.i64.wrap (m.2.2.1.2 + (IntKind.i64.wrap ((pntF p m.2.2.1).2))), IntKind.i64.wrap (m.2.2.1.2 - (IntKind.i64.wrap ((pntF p m.2.2.1).2)))]).length) * 8 ≤ 140737488355328 ∧ ([p.1, p.2.1, p.2.2, m.2.1.1, m.2.1.2.1, m.2.1.2.2]).length + ([IntKind.i64.wrap (m.2.2.1.1 + (IntKind.i64.wrap ((pntF p m.2.2.1).2))), IntKind.i64.wrap (m.2.2.1.1 - (IntKind.i64.wrap ((pntF p m.2.2.1).2))), IntKind.i64.wrap (m.2.2.1.2 + (IntKind.i64.wrap ((pntF p m.2.2.1).2))), IntKind.i64.wrap (m.2.2.1.2 - (IntKind.i64.wrap ((pntF p m.2.2.1).2)))]).length ≤ 140737488355328) with | true => k 34 (iva_h34 p m ((([p.1, p.2.1, p.2.2, m.2.1.1, m.2.1.2.1, m.2.1.2.2]) ++ ([IntKind.i64.wrap (m.2.2.1.1 + (IntKind.i64.wrap ((pntF p m.2.2.1).2))), IntKind.i64.wrap (m.2.2.1.1 - (IntKind.i64.wrap ((pntF p m.2.2.1).2))), IntKind.i64.wrap (m.2.2.1.2 + (IntKind.i64.wrap ((pntF p m.2.2.1).2))), IntKind.i64.wrap (m.2.2.1.2 - (IntKind.i64.wrap ((pntF p m.2.2.1).2)))])).length : Int) (([p.1, p.2.1, p.2.2, m.2.1.1, m.2.1.2.1, m.2.1.2.2]) ++ ([IntKind.i64.wrap (m.2.2.1.1 + (IntKind.i64.wrap ((pntF p m.2.2.1).2))), IntKind.i64.wrap (m.2.2.1.1 - (IntKind.i64.wrap ((pntF p m.2.2.1).2))), IntKind.i64.wrap (m.2.2.1.2 + (IntKind.i64.wrap ((pntF p m.2.2.1).2))), IntKind.i64.wrap (m.2.2.1.2 - (IntKind.i64.wrap ((pntF p m.2.2.1).2)))])) 0) | false => none)) | false => (match decide ((IntKind.u64.wrap ((IntKind.u64.wrap m.2.2.1.2) - (IntKind.u64.wrap 0))) > 10000000) with | true => some [RV.d (.int .i64) 11] | false => (match decide ((([p.1, p.2.1, p.2.2, m.2.1.1, m.2.1.2.1, m.2.1.2.2]).length + ([IntKind.i64.wrap (m.2.2.1.1 + (IntKind.i64.wrap ((pntF p m.2.2.1).2))), IntKind.i64.wrap (m.2.2.1.1 - (IntKind.i64.wrap ((pntF p m.2.2.1).2))), IntKind.i64.wrap (m.2.2.1.2 + (IntKind.i64.wrap ((pntF p m.2.2.1).2))), IntKind.i64.wrap (m.2.2.1.2 - (IntKind.i64.wrap ((pntF p m.2.2.1).2)))]).length) * 8 ≤ 140737488355328 ∧ ([p.1, p.2.1, p.2.2, m.2.1.1, m.2.1.2.1, m.2.1.2.2]).length + ([IntKind.i64.wrap (m.2.2.1.1 + (IntKind.i64.wrap ((pntF p m.2.2.1).2))), IntKind.i64.wrap (m.2.2.1.1 - (IntKind.i64.wrap ((pntF p m.2.2.1).2))), IntKind.i64.wrap (m.2.2.1.2 + (IntKind.i64.wrap ((pntF p m.2.2.1).2))), IntKind.i64.wrap (m.2.2.1.2 - (IntKind.i64.wrap ((pntF p m.2.2.1).2)))]).length ≤ 140737488355328) with | true => k 34 (iva_h34 p m ((([p.1, p.2.1, p.2.2, m.2.1.1, m.2.1.2.1, m.2.1.2.2]) ++ ([IntKind.i64.wrap (m.2.2.1.1 + (IntKind.i64.wrap ((pntF p m.2.2.1).2))), IntKind.i64.wrap (m.2.2.1.1 - (IntKind.i64.wrap ((pntF p m.2.2.1).2))), IntKind.i64.wrap (m.2.2.1.2 + (IntKind.i64.wrap ((pntF p m.2.2.1).2))), IntKind.i64.wrap (m.2.2.1.2 - (IntKind.i64.wrap ((pntF p m.2.2.1).2)))])).length : Int) (([p.1, p.2.1, p.2.2, m.2.1.1, m.2.1.2.1, m.2.1.2.2]) ++ ([IntKind.i64.wrap (m.2.2.1.1 + (IntKind.i64.wrap ((pntF p m.2.2.1).2))), IntKind.i64.wrap (m.2.2.1.1 - (IntKind.i64.wrap ((pntF p m.2.2.1).2))), IntKind.i64.wrap (m.2.2.1.2 + (IntKind.i64.wrap ((pntF p m.2.2.1).2))), IntKind.i64.wrap (m.2.2.1.2 - (IntKind.i64.wrap ((pntF p m.2.2.1).2)))])) 0) | false => none)))) | false => (match decide ((IntKind.u64.wrap ((IntKind.u64.wrap m.2.2.1.1) - (IntKind.u64.wrap 0))) > 10000000) with | true => some [RV.d (.int .i64) 11] | false => (match decide (m.2.2.1.2 < 0) with | true => (match decide ((IntKind.u64.wrap ((IntKind.u64.wrap 0) - (IntKind.u64.wrap m.2.2.1.2))) > 10000000) with | true => some [RV.d (.int .i64) 11] | false => (match decide ((([p.1, p.2.1, p.2.2, m.2.1.1, m.2.1.2.1, m.2.1.2.2]).length + ([IntKind.i64.wrap (m.2.2.1.1 + (IntKind.i64.wrap ((pntF p m.2.2.1).2))), IntKind.i64.wrap (m.2.2.1.1 - (IntKind.i64.wrap ((pntF p m.2.2.1).2))), IntKind.i64.wrap (m.2.2.1.2 + (IntKind.i64.wrap ((pntF p m.2.2.1).2))), IntKind.i64.wrap (m.2.2.1.2 - (IntKind.i64.wrap ((pntF p m.2.2.1).2)))]).length) * 8 ≤ 140737488355328 ∧ ([p.1, p.2.1, p.2.2, m.2.1.1, m.2.1.2.1, m.2.1.2.2]).length + ([IntKind.i64.wrap (m.2.2.1.1 + (IntKind.i64.wrap ((pntF p m.2.2.1).2))), IntKind.i64.wrap (m.2.2.1.1 - (IntKind.i64.wrap ((pntF p m.2.2.1).2))), IntKind.i64.wrap (m.2.2.1.2 + (IntKind.i64.wrap ((pntF p m.2.2.1).2))), IntKind.i64.wrap (m.2.2.1.2 - (IntKind.i64.wrap ((pntF p m.2.2.1).2)))]).length ≤ 140737488355328) with | true => k 34 (iva_h34 p m ((([p.1, p.2.1, p.2.2, m.2.1.1, m.2.1.2.1, m.2.1.2.2]) ++ ([IntKind.i64.wrap (m.2.2.1.1 + (IntKind.i64.wrap ((pntF p m.2.2.1).2))), IntKind.i64.wrap (m.2.2.1.1 - (IntKind.i64.wrap ((pntF p m.2.2.1).2))), IntKind.i64.wrap (m.2.2.1.2 + (IntKind.i64.wrap ((pntF p m.2.2.1).2))), IntKind.i64.wrap (m.2.2.1.2 - (IntKind.i64.wrap ((pntF p m.2.2.1).2)))])).length : Int) (([p.1, p.2.1, p.2.2, m.2.1.1, m.2.1.2.1, m.2.1.2.2]) ++ ([IntKind.i64.wrap (m.2.2.1.1 + (IntKind.i64.wrap ((pntF p m.2.2.1).2))), IntKind.i64.wrap (m.2.2.1.1 - (IntKind.i64.wrap ((pntF p m.2.2.1).2))), IntKind.i64.wrap (m.2.2.1.2 + (IntKind.i64.wrap ((pntF p m.2.2.1).2))), IntKind.i64.wrap (m.2.2.1.2 - (IntKind.i64.wrap ((pntF p m.2.2.1).2)))])) 0) | false => none)) | false => (match decide ((IntKind.u64.wrap ((IntKind.u64.wrap m.2.2.1.2) - (IntKind.u64.wrap 0))) > 10000000) with | true => some [RV.d (.int .i64) 11] | false => (match decide ((([p.1, p.2.1, p.2.2, m.2.1.1, m.2.1.2.1, m.2.1.2.2]).length + ([IntKind.i64.wrap (m.2.2.1.1 + (IntKind.i64.wrap ((pntF p m.2.2.1).2))), IntKind.i64.wrap (m.2.2.1.1 - (IntKind.i64.wrap ((pntF p m.2.2.1).2))), IntKind.i64.wrap (m.2.2.1.2 + (IntKind.i64.wrap ((pntF p m.2.2.1).2))), IntKind.i64.wrap (m.2.2.1.2 - (IntKind.i64.wrap ((pntF p m.2.2.1).2)))]).length) * 8 ≤ 140737488355328 ∧ ([p.1, p.2.1, p.2.2, m.2.1.1, m.2.1.2.1, m.2.1.2.2]).length + ([IntKind.i64.wrap (m.2.2.1.1 + (IntKind.i64.wrap ((pntF p m.2.2.1).2))), IntKind.i64.wrap (m.2.2.1.1 - (IntKind.i64.wrap ((pntF p m.2.2.1).2))), IntKind.i64.wrap (m.2.2.1.2 + (IntKind.i64.wrap ((pntF p m.2.2.1).2))), IntKind.i64.wrap (m.2.2.1.2 - (IntKind.i64.wrap ((pntF p m.2.2.1).2)))]).length ≤ 140737488355328) with | true => k 34 (iva_h34 p m ((([p.1, p.2.1, p.2.2, m.2.1.1, m.2.1.2.1, m.2.1.2.2]) ++ ([IntKind.i64.wrap (m.2.2.1.1 + (IntKind.i64.wrap ((pntF p m.2.2.1).2))), IntKind.i64.wrap (m.2.2.1.1 - (IntKind.i64.wrap ((pntF p m.2.2.1).2))), IntKind.i64.wrap (m.2.2.1.2 + (IntKind.i64.wrap ((pntF p m.2.2.1).2))), IntKind.i64.wrap (m.2.2.1.2 - (IntKind.i64.wrap ((pntF p m.2.2.1).2)))])).length : Int) (([p.1, p.2.1, p.2.2, m.2.1.1, m.2.1.2.1, m.2.1.2.2]) ++ ([IntKind.i64.wrap (m.2.2.1.1 + (IntKind.i64.wrap ((pntF p m.2.2.1).2))), IntKind.i64.wrap (m.2.2.1.1 - (IntKind.i64.wrap ((pntF p m.2.2.1).2))), IntKind.i64.wrap (m.2.2.1.2 + (IntKind.i64.wrap ((pntF p m.2.2.1).2))), IntKind.i64.wrap (m.2.2.1.2 - (IntKind.i64.wrap ((pntF p m.2.2.1).2)))])) 0) | false => none)))))) | false => none) | false => k 34 (iva_h34 p m (([p.1, p.2.1, p.2.2, m.2.1.1, m.2.1.2.1, m.2.1.2.2]).length : Int) ([p.1, p.2.1, p.2.2, m.2.1.1, m.2.1.2.1, m.2.1.2.2]) 0)))) | false => none
theorem iva_eq (k : Nat → Cfg → Option (List RV)) (p : Int × Int × Int) (m : Int × (Int × Int × Int) × (Int × Int) × Int) : go Tryd.prog ft tys envD2 iva_nt k 4000 (start 21 [.d (.st (.pair (.int .i64) (.pair (.int .i64) (.int .i64)))) p, .d (.st (.pair (.int .i64) (.pair (.st (.pair (.int .i64) (.pair (.int .i64) (.int .i64)))) (.pair (.st (.pair (.int .i64) (.int .i64))) (.int .i64))))) m]) (.node 0) = iva_t k p m := by kernel_rfl
theorem iva_s (p : Int × Int × Int) (m : Int × (Int × Int × Int) × (Int × Int) × Int) {rX : List RV} (hX : ∃ nX, iva_t (iva_C.k nX) p m = some rX) : iva_C.Res 21 [.d (.st (.pair (.int .i64) (.pair (.int .i64) (.int .i64)))) p, .d (.st (.pair (.int .i64) (.pair (.st (.pair (.int .i64) (.pair (.int .i64) (.int .i64)))) (.pair (.st (.pair (.int .i64) (.int .i64))) (.int .i64))))) m] rX := by
  obtain ⟨nX, hX⟩ := hX
  exact ⟨nX, (iva_eq _ p m).trans hX⟩
def iva_h34_t (k : Nat → Cfg → Option (List RV)) (p : Int × Int × Int) (m : Int × (Int × Int × Int) × (Int × Int) × Int) (s82 : Int) (r2 : List Int) (s83 : Int) : Option (List RV) := match decide (s83 < s82) with | true => (match getI r2 s83 with | some _ => (match true, r2[(s83).toNat]? with | true, some x1 => (match decide (x1 < 0) with | true => (match decide ((IntKind.u64.wrap ((IntKind.u64.wrap 0) - (IntKind.u64.wrap x1))) > 10000000) with | true => some [RV.d (.int .i64) 11] | false => k 34 (iva_h34 p m s82 r2 (IntKind.i64.wrap (s83 + 1)))) | false => (match decide ((IntKind.u64.wrap ((IntKind.u64.wrap x1) - (IntKind.u64.wrap 0))) > 10000000) with | true => some [RV.d (.int .i64) 11] | false => k 34 (iva_h34 p m s82 r2 (IntKind.i64.wrap (s83 + 1))))) | _, _ => none) | none => none) | false => some [RV.d (.int .i64) 0]
theorem iva_h34_eq (k : Nat → Cfg → Option (List RV)) (p : Int × Int × Int) (m : Int × (Int × Int × Int) × (Int × Int) × Int) (s82 : Int) (r2 : List Int) (s83 : Int) : go Tryd.prog ft tys envD2 iva_nt k 4000 { iva_h34 p m s82 r2 s83 with K := .lp 34 :: (iva_h34 p m s82 r2 s83).K } (.node 35) = iva_h34_t k p m s82 r2 s83 := by kernel_rfl
theorem iva_h34_s (p : Int × Int × Int) (m : Int × (Int × Int × Int) × (Int × Int) × Int) (s82 : Int) (r2 : List Int) (s83 : Int) {rX : List RV} (hX : ∃ nX, iva_h34_t (iva_C.k nX) p m s82 r2 s83 = some rX) : iva_C.Runs 34 (iva_h34 p m s82 r2 s83) rX := by
  obtain ⟨nX, hX⟩ := hX
  exact ⟨nX + 1, (iva_h34_eq _ p m s82 r2 s83).trans hX⟩
theorem u64_small {x : Int} (h1 : 0 ≤ x) (h2 : x ≤ 10000000) : decide (IntKind.u64.wrap (IntKind.u64.wrap x - IntKind.u64.wrap 0) > 10000000) = false := by
  rw [IntKind.wrap_u64, IntKind.wrap_u64, IntKind.wrap_u64]
  exact decide_eq_false (by omega)
theorem u64_neg {x : Int} (h1 : x < 0) (h2 : -10000000 ≤ x) : decide (IntKind.u64.wrap (IntKind.u64.wrap 0 - IntKind.u64.wrap x) > 10000000) = false := by
  rw [IntKind.wrap_u64, IntKind.wrap_u64, IntKind.wrap_u64]
  exact decide_eq_false (by omega)
theorem iva_loop (p : P3) (m : Mq) (l : List Int) (hl : ∀ x ∈ l, in7 x) (hn : l.length ≤ 100) : ∀ (j k : Nat), k + j = l.length → iva_C.Runs 34 (iva_h34 p m (l.length : Int) l (k : Int)) [.d (.int .i64) 0] := by
  intro j
  induction j with
  | zero =>
    intro k hk
    refine iva_h34_s _ _ _ _ _ ⟨0, ?_⟩
    unfold iva_h34_t
    rw [ge_dec (by omega)]
  | succ j ih =>
    intro k hk
    obtain ⟨n, hr⟩ := ih (k + 1) (by omega)
    refine iva_h34_s _ _ _ _ _ ⟨n, ?_⟩
    have hx := hl l[k] (List.getElem_mem (by omega))
    unfold in7 at hx
    unfold iva_h34_t
    rw [lt_dec (by omega), getI_nat, toNat_nat, List.getElem?_eq_getElem (show k < l.length by omega)]
    dsimp only
    rw [wrapS (by omega)]
    by_cases hc : l[k] < 0
    · rw [decide_eq_true hc, u64_neg hc hx.1]; exact hr
    · rw [decide_eq_false hc, u64_small (by omega) hx.2]; exact hr
theorem iva_con (p : P3) (m : Mq) (h : mvOk p m) : Con Tryd.prog 21 [.d (.st (.pair (.int .i64) (.pair (.int .i64) (.int .i64)))) p, .d (.st (.pair (.int .i64) (.pair (.st (.pair (.int .i64) (.pair (.int .i64) (.int .i64)))) (.pair (.st (.pair (.int .i64) (.int .i64))) (.int .i64))))) m] [.d (.int .i64) 0] := by
  refine Ctx.Res.con (C := iva_C) (ctx_ok envD2_ok) ?_ (fn := Tryd.f21) (by kernel_rfl) (by kernel_rfl)
  obtain ⟨b1, b2, b3, b4, b5, b6⟩ := h.1
  have L6 : ∀ x ∈ [p.1, p.2.1, p.2.2, m.2.1.1, m.2.1.2.1, m.2.1.2.2], in7 x := by
    intro x hx
    simp only [List.mem_cons, List.not_mem_nil, or_false] at hx
    rcases hx with rfl | rfl | rfl | rfl | rfl | rfl <;> assumption
  rcases h.2 with ⟨hk, hr⟩ | ⟨hk, hr⟩ | ⟨hk, ha⟩
  · obtain ⟨n, hn⟩ := iva_loop p m _ L6 (by simp) 6 0 rfl
    refine iva_s _ _ ⟨n, ?_⟩
    unfold iva_t
    rw [decide_eq_true h, hk]
    exact hn
  · obtain ⟨n, hn⟩ := iva_loop p m _ L6 (by simp) 6 0 rfl
    refine iva_s _ _ ⟨n, ?_⟩
    unfold iva_t
    rw [decide_eq_true h, hk]
    exact hn
  · have hp1 := h.p1 ha
    obtain ⟨h1, h2, h3, h4, h5, h6, h7, h8, h9, h10⟩ := ha
    have W : ∀ {x : Int}, in7 x → IntKind.i64.wrap x = x := fun hx => by unfold in7 at hx; exact wrap64 (by omega) (by omega)
    have w0 : IntKind.i64.wrap (pntF p m.2.2.1).2 = (pntF p m.2.2.1).2 := wrap64 (by omega) (by omega)
    have L10 : ∀ x ∈ [p.1, p.2.1, p.2.2, m.2.1.1, m.2.1.2.1, m.2.1.2.2] ++ [m.2.2.1.1 + (pntF p m.2.2.1).2, m.2.2.1.1 - (pntF p m.2.2.1).2, m.2.2.1.2 + (pntF p m.2.2.1).2, m.2.2.1.2 - (pntF p m.2.2.1).2], in7 x := by
      intro x hx
      rcases List.mem_append.1 hx with hx | hx
      · exact L6 x hx
      · simp only [List.mem_cons, List.not_mem_nil, or_false] at hx
        rcases hx with rfl | rfl | rfl | rfl <;> assumption
    obtain ⟨n, hn⟩ := iva_loop p m _ L10 (by simp) 10 0 rfl
    refine iva_s _ _ ⟨n, ?_⟩
    unfold iva_t
    unfold in7 at h2 h3
    rw [decide_eq_true h, hk, decide_eq_true hp1, decide_eq_false (show ¬ (pntF p m.2.2.1).2 > 10000000 by omega), w0, W h7, W h8, W h9, W h10]
    dsimp only
    by_cases c1 : m.2.2.1.1 < 0 <;> by_cases c2 : m.2.2.1.2 < 0
    · rw [decide_eq_true c1, decide_eq_true c2, u64_neg c1 h2.1, u64_neg c2 h3.1]; exact hn
    · rw [decide_eq_true c1, decide_eq_false c2, u64_neg c1 h2.1, u64_small (by omega) h3.2]; exact hn
    · rw [decide_eq_false c1, decide_eq_true c2, u64_small (by omega) h2.2, u64_neg c2 h3.1]; exact hn
    · rw [decide_eq_false c1, decide_eq_false c2, u64_small (by omega) h2.2, u64_small (by omega) h3.2]; exact hn
def iva_sp : Spec := { keep := true, run := fun _ args k => match args with
  | [.d (.st (.pair (.int .i64) (.pair (.int .i64) (.int .i64)))) p, .d (.st (.pair (.int .i64) (.pair (.st (.pair (.int .i64) (.pair (.int .i64) (.int .i64)))) (.pair (.st (.pair (.int .i64) (.int .i64))) (.int .i64))))) m] => match decide (mvOk p m) with
    | true => k [RV.d (.int .i64) 0]
    | false => none
  | _ => none }
theorem iva_spec : callable Tryd.prog 21 = true ∧ SpecOk Tryd.prog 21 iva_sp ∧ ∀ g, iva_sp.mut_ = some g → MCon Tryd.prog 21 g := by
  refine ⟨by kernel_rfl, fun R args k r h => ?_, fun g h => by simp [iva_sp] at h⟩
  unfold iva_sp at h
  dsimp only at h
  split at h <;> try (cases h; done)
  split at h <;> try (cases h; done)
  rename_i hd
  exact ⟨_, h, iva_con _ _ (of_decide_eq_true hd)⟩
def envD3 : Env := [(34, pnt_sp), (21, iva_sp)]
theorem envD3_ok : EnvAll Tryd.prog envD3 := ⟨pnt_spec, iva_spec, trivial⟩
def qua_nt : NT := []
noncomputable def qua_C : Ctx := ⟨Tryd.prog, ft, tys, envD3, qua_nt⟩
def qua_t (_k : Nat → Cfg → Option (List RV)) (p : Int × Int × Int) (m : Int × (Int × Int × Int) × (Int × Int) × Int) : Option (List RV) := match m.1 == 3 with | true => (match !true with | true => some [RV.d (.int .i64) 0, RV.d (.int .i64) 1] | false => (match decide (mvOk p m) with | true => (match 0 != 0 with | true => some [RV.d (.int .i64) 0, RV.d (.int .i64) 0] | false => (match decide (pntP p m.2.2.1) with | true => (match decide (pntP m.2.1 m.2.2.1) with | true => (match m.1 == 3 with | true => (match decide ((IntKind.i64.wrap (0 - (IntKind.i64.wrap (((pntF m.2.1 m.2.2.1).1) - ((pntF p m.2.2.1).1))))) ≤ 0) with | true => some [RV.d (.int .i64) (IntKind.i64.wrap ((IntKind.i64.wrap (0 - (IntKind.i64.wrap (((pntF m.2.1 m.2.2.1).1) - ((pntF p m.2.2.1).1))))) + 4)), RV.d (.int .i64) 0] | false => some [RV.d (.int .i64) (IntKind.i64.wrap (0 - (IntKind.i64.wrap (((pntF m.2.1 m.2.2.1).1) - ((pntF p m.2.2.1).1))))), RV.d (.int .i64) 0]) | false => (match decide ((IntKind.i64.wrap (((pntF m.2.1 m.2.2.1).1) - ((pntF p m.2.2.1).1))) ≤ 0) with | true => some [RV.d (.int .i64) (IntKind.i64.wrap ((IntKind.i64.wrap (((pntF m.2.1 m.2.2.1).1) - ((pntF p m.2.2.1).1))) + 4)), RV.d (.int .i64) 0] | false => some [RV.d (.int .i64) (IntKind.i64.wrap (((pntF m.2.1 m.2.2.1).1) - ((pntF p m.2.2.1).1))), RV.d (.int .i64) 0])) | false => none) | false => none)) | false => none)) | false => (match !(m.1 == 4) with | true => some [RV.d (.int .i64) 0, RV.d (.int .i64) 1] | false => (match decide (mvOk p m) with | true => (match 0 != 0 with | true => some [RV.d (.int .i64) 0, RV.d (.int .i64) 0] | false => (match decide (pntP p m.2.2.1) with | true => (match decide (pntP m.2.1 m.2.2.1) with | true => (match m.1 == 3 with | true => (match decide ((IntKind.i64.wrap (0 - (IntKind.i64.wrap (((pntF m.2.1 m.2.2.1).1) - ((pntF p m.2.2.1).1))))) ≤ 0) with | true => some [RV.d (.int .i64) (IntKind.i64.wrap ((IntKind.i64.wrap (0 - (IntKind.i64.wrap (((pntF m.2.1 m.2.2.1).1) - ((pntF p m.2.2.1).1))))) + 4)), RV.d (.int .i64) 0] | false => some [RV.d (.int .i64) (IntKind.i64.wrap (0 - (IntKind.i64.wrap (((pntF m.2.1 m.2.2.1).1) - ((pntF p m.2.2.1).1))))), RV.d (.int .i64) 0]) | false => (match decide ((IntKind.i64.wrap (((pntF m.2.1 m.2.2.1).1) - ((pntF p m.2.2.1).1))) ≤ 0) with | true => some [RV.d (.int .i64) (IntKind.i64.wrap ((IntKind.i64.wrap (((pntF m.2.1 m.2.2.1).1) - ((pntF p m.2.2.1).1))) + 4)), RV.d (.int .i64) 0] | false => some [RV.d (.int .i64) (IntKind.i64.wrap (((pntF m.2.1 m.2.2.1).1) - ((pntF p m.2.2.1).1))), RV.d (.int .i64) 0])) | false => none) | false => none)) | false => none))
theorem qua_eq (k : Nat → Cfg → Option (List RV)) (p : Int × Int × Int) (m : Int × (Int × Int × Int) × (Int × Int) × Int) : go Tryd.prog ft tys envD3 qua_nt k 4000 (start 23 [.d (.st (.pair (.int .i64) (.pair (.int .i64) (.int .i64)))) p, .d (.st (.pair (.int .i64) (.pair (.st (.pair (.int .i64) (.pair (.int .i64) (.int .i64)))) (.pair (.st (.pair (.int .i64) (.int .i64))) (.int .i64))))) m]) (.node 0) = qua_t k p m := by kernel_rfl
theorem qua_s (p : Int × Int × Int) (m : Int × (Int × Int × Int) × (Int × Int) × Int) {rX : List RV} (hX : ∃ nX, qua_t (qua_C.k nX) p m = some rX) : qua_C.Res 23 [.d (.st (.pair (.int .i64) (.pair (.int .i64) (.int .i64)))) p, .d (.st (.pair (.int .i64) (.pair (.st (.pair (.int .i64) (.pair (.int .i64) (.int .i64)))) (.pair (.st (.pair (.int .i64) (.int .i64))) (.int .i64))))) m] rX := by
  obtain ⟨nX, hX⟩ := hX
  exact ⟨nX, (qua_eq _ p m).trans hX⟩
def quN (a b : Int) : Int := bif decide (b - a ≤ 0) then b - a + 4 else b - a
def quF (p : P3) (m : Mq) : Int := quN (pntF p m.2.2.1).1 (pntF m.2.1 m.2.2.1).1
theorem pntF_bd (p : P3) (c : Int × Int) : 0 ≤ (pntF p c).1 ∧ (pntF p c).1 ≤ 3 := by
  unfold pntF
  cases p.2.1 == c.2 && decide (p.1 > c.1) <;> cases p.1 == c.1 && decide (p.2.1 > c.2) <;> cases p.2.1 == c.2 && decide (p.1 < c.1) <;> cases p.1 == c.1 && decide (p.2.1 < c.2) <;> simp
theorem qua_con (p : P3) (m : Mq) (h : quOk p m) : Con Tryd.prog 23 [.d (.st (.pair (.int .i64) (.pair (.int .i64) (.int .i64)))) p, .d (.st (.pair (.int .i64) (.pair (.st (.pair (.int .i64) (.pair (.int .i64) (.int .i64)))) (.pair (.st (.pair (.int .i64) (.int .i64))) (.int .i64))))) m] [.d (.int .i64) (quF p m), .d (.int .i64) 0] := by
  refine Ctx.Res.con (C := qua_C) (ctx_ok envD3_ok) ?_ (fn := Tryd.f23) (by kernel_rfl) (by kernel_rfl)
  obtain ⟨h, hk⟩ := h
  rcases h.2 with ⟨hk', hr⟩ | ⟨hk', hr⟩ | ⟨_, ha⟩
  · omega
  · omega
  refine qua_s _ _ ⟨0, ?_⟩
  have q1 := pntF_bd p m.2.2.1
  have q2 := pntF_bd m.2.1 m.2.2.1
  unfold qua_t quF quN
  rw [decide_eq_true h, decide_eq_true (h.p1 ha), decide_eq_true (h.p2 ha), hk]
  dsimp only
  generalize (pntF p m.2.2.1).1 = a at *
  generalize (pntF m.2.1 m.2.2.1).1 = b at *
  rw [wrap64 (x := b - a) (by omega) (by omega), wrap64 (x := b - a + 4) (by omega) (by omega)]
  by_cases hc : b - a ≤ 0
  · rw [decide_eq_true hc]; rfl
  · rw [decide_eq_false hc]; rfl
end Go.Proofs.YtpiabmjipgfjjaaDoor
