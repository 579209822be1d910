/- The law TabsValid returns true. -/
import Derived.Test.YtcaiedfkohigjaaGreatZ7
import Derived.Test.YtcaiedfkohigjaaGreatZ15
import Derived.Test.YtcaiedfkohigjaaGreatZTb5
import Derived.Test.YtcaiedfkohigjaaGreatZTb6
namespace Go.Proofs.YtcaiedfkohigjaaGreat
open Go.RowKit
def tawk_tp : Spec := { keep := true, tame := true, run := fun _ args k => match args with
  | [] => k [RV.d .bool true]
  | _ => none }
theorem tawk_tpec : callable Tryz.prog 7 = true ∧ SpecOk Tryz.prog 7 tawk_tp ∧ ∀ g, tawk_tp.mut_ = some g → MCon Tryz.prog 7 g := by
  refine ⟨by kernel_rfl, fun R args k r h => ?_, fun g h => by cases h⟩
  unfold tawk_tp at h
  dsimp only at h
  split at h <;> try (cases h; done)
  exact ⟨_, h, tawk_con ⟩

def tof_sp : Spec := { keep := true, run := fun _ args k => match args with
  | [.d (.sl (.st (.pair (.int .i64) (.pair (.st (.pair (.int .i64) (.int .i64))) (.st (.pair (.int .i64) (.int .i64))))))) l] => match decide (l.length ≤ 1000) with
    | true => k [RV.new 62 (.st (.pair (.int .i64) (.pair tG tG))) l]
    | false => none
  | _ => none }
theorem tof_spec : callable Tryz.prog 12 = true ∧ SpecOk Tryz.prog 12 tof_sp ∧ ∀ g, tof_sp.mut_ = some g → MCon Tryz.prog 12 g := by
  refine ⟨by kernel_rfl, fun R args k r h => ?_, fun g h => by simp [tof_sp] at h⟩
  unfold tof_sp at h
  dsimp only at h
  split at h <;> try (cases h; done)
  split at h <;> try (cases h; done)
  rename_i hd
  exact ⟨_, h, tof_con _ (of_decide_eq_true hd)⟩

def tcl_sp : Spec := { keep := true, run := fun _ args k => match args with
  | [.d (.sl (.st (.pair (.int .i64) (.int .i64)))) p] => match decide (p.length ≤ 1000000) with
    | true => k [RV.new 23 tG p]
    | false => none
  | _ => none }
theorem tcl_spec : callable Tryz.prog 11 = true ∧ SpecOk Tryz.prog 11 tcl_sp ∧ ∀ g, tcl_sp.mut_ = some g → MCon Tryz.prog 11 g := by
  refine ⟨by kernel_rfl, fun R args k r h => ?_, fun g h => by simp [tcl_sp] at h⟩
  unfold tcl_sp at h
  dsimp only at h
  split at h <;> try (cases h; done)
  split at h <;> try (cases h; done)
  rename_i hd
  exact ⟨_, h, tcl_con _ (of_decide_eq_true hd)⟩

def tval_sp : Spec := { keep := true, run := fun _ args k => match args with
  | [.d (.sl (.st (.pair (.int .i64) (.int .i64)))) p, .d (.sl (.st (.pair (.int .i64) (.pair (.st (.pair (.int .i64) (.int .i64))) (.st (.pair (.int .i64) (.int .i64))))))) l] => match decide (valP p l) with
    | true => k [RV.d .bool (valF p l)]
    | false => none
  | _ => none }
theorem tval_spec : callable Tryz.prog 10 = true ∧ SpecOk Tryz.prog 10 tval_sp ∧ ∀ g, tval_sp.mut_ = some g → MCon Tryz.prog 10 g := by
  refine ⟨by kernel_rfl, fun R args k r h => ?_, fun g h => by simp [tval_sp] at h⟩
  unfold tval_sp at h
  dsimp only at h
  split at h <;> try (cases h; done)
  split at h <;> try (cases h; done)
  rename_i hd
  exact ⟨_, h, tval_con _ _ (of_decide_eq_true hd)⟩

def uval_sp : Spec := { keep := true, run := fun _ args k => match args with
  | [.d (.sl (.st (.pair (.int .i64) (.int .i64)))) p, .d (.sl (.st (.pair (.int .i64) (.pair (.st (.pair (.int .i64) (.int .i64))) (.st (.pair (.int .i64) (.int .i64))))))) l] => match decide (valP p l) with
    | true => k [RV.d .bool (valF p l)]
    | false => none
  | _ => none }
theorem uval_spec : callable Tryz.prog 13 = true ∧ SpecOk Tryz.prog 13 uval_sp ∧ ∀ g, uval_sp.mut_ = some g → MCon Tryz.prog 13 g := by
  refine ⟨by kernel_rfl, fun R args k r h => ?_, fun g h => by simp [uval_sp] at h⟩
  unfold uval_sp at h
  dsimp only at h
  split at h <;> try (cases h; done)
  split at h <;> try (cases h; done)
  rename_i hd
  exact ⟨_, h, uval_con _ _ (of_decide_eq_true hd)⟩

def envLv : Env := [(7, tawk_tp), (12, tof_sp), (11, tcl_sp), (10, tval_sp), (13, uval_sp)]
theorem envLv_ok : EnvAll Tryz.prog envLv := ⟨tawk_tpec, tof_spec, tcl_spec, tval_spec, uval_spec, trivial⟩
def lVa_nt : NT := []
noncomputable def lVa_C : Ctx := ⟨Tryz.prog, ft, tys, envLv, lVa_nt⟩
noncomputable def lVa_t (_k : Nat → Cfg → Option (List RV)) (p : List ((Int × Int))) (l : List (Int × ((Int × Int)) × (Int × Int))) : Option (List RV) := match !true with | true => some [RV.d .bool false] | false => (match decide ((p.length : Int) > 60) with | true => some [RV.d .bool true] | false => (match decide ((l.length : Int) > 60) with | true => some [RV.d .bool true] | false => (match decide (p.length ≤ 1000000) with | true => (match decide (l.length ≤ 1000) with | true => (match decide (valP p l) with | true => (match decide (valP p l) with | true => some [RV.d .bool ((valF p l) == (valF p l))] | false => none) | false => none) | false => none) | false => none)))
theorem lVa_eq (k : Nat → Cfg → Option (List RV)) (p : List ((Int × Int))) (l : List (Int × ((Int × Int)) × (Int × Int))) : go Tryz.prog ft tys envLv lVa_nt k 4000 (start 4 [.d (.sl tG) p, .d (.sl (.st (.pair (.int .i64) (.pair tG tG)))) l]) (.node 0) = lVa_t k p l := (go2_eq _ _ _ _ _ _ _ _ _).symm.trans (show go2 Tryz.prog ft tys envLv lVa_nt k 4000 (start 4 [.d (.sl tG) p, .d (.sl (.st (.pair (.int .i64) (.pair tG tG)))) l]) (.node 0) = lVa_t k p l by kernel_rfl)
theorem lVa_s (p : List ((Int × Int))) (l : List (Int × ((Int × Int)) × (Int × Int))) {rX : List RV} (hX : ∃ nX, lVa_t (lVa_C.k nX) p l = some rX) : lVa_C.Res 4 [.d (.sl tG) p, .d (.sl (.st (.pair (.int .i64) (.pair tG tG)))) l] rX := by
  obtain ⟨nX, hX⟩ := hX
  exact ⟨nX, (lVa_eq _ p l).trans hX⟩
theorem lVa_con (p : List (Int × Int)) (l : List TB) (_ : Ty.ok (.sl tG) p) (_ : Ty.ok (.sl (.st (.pair (.int .i64) (.pair tG tG)))) l) : Con Tryz.prog 4 [.d (.sl tG) p, .d (.sl (.st (.pair (.int .i64) (.pair tG tG)))) l] [.d .bool true] := by
  refine Ctx.Res.con (C := lVa_C) (ctx_ok envLv_ok) ?_ (fn := Tryz.f4) (by kernel_rfl) (by kernel_rfl)
  refine lVa_s _ _ ⟨0, ?_⟩
  unfold lVa_t
  cases hp : decide ((p.length : Int) > 60) with
  | true => rfl
  | false =>
    dsimp only
    cases hl : decide ((l.length : Int) > 60) with
    | true => rfl
    | false =>
      have hbp : p.length ≤ 60 := by have := of_decide_eq_false hp; omega
      have hbl : l.length ≤ 60 := by have := of_decide_eq_false hl; omega
      have hv : valP p l := ⟨by show p.length ≤ 1000000000; omega, by omega⟩
      simp only [dT (show p.length ≤ 1000000 by omega), dT (show l.length ≤ 1000 by omega), dT hv, beq_self_eq_true, Bool.not_true]
end Go.Proofs.YtcaiedfkohigjaaGreat
