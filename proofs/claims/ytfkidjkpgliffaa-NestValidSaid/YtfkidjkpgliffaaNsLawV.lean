/- The law NestValid returns true. -/
import Derived.Test.YtfkidjkpgliffaaNs6
namespace Go.Proofs.Ytfkidjkpgliffaa
open Go.RowKit
def cfi_sp : Spec := { keep := true, run := fun _ args k => match args with
  | [.d (.int .i64) w, .d (.int .i64) h, .d (.int .i64) gap, .d (.sl (.st (.pair (.int .i64) (.int .i64)))) l, .d (.sl (.st (.pair (.int .i64) (.pair (.int .i64) (.pair (.int .i64) .bool))))) p, .d (.st (.pair (.int .i64) (.pair (.int .i64) (.pair (.int .i64) .bool)))) x] => match decide (fP p) with
    | true => k [RV.d .bool (fitsF w h gap l p x)]
    | false => none
  | _ => none }
theorem cfi_spec : callable Try.prog 28 = true ∧ SpecOk Try.prog 28 cfi_sp ∧ ∀ g, cfi_sp.mut_ = some g → MCon Try.prog 28 g := by
  refine ⟨by kernel_rfl, fun R args k r h => ?_, fun g h => by simp [cfi_sp] at h⟩
  unfold cfi_sp at h
  dsimp only at h
  split at h <;> try (cases h; done)
  split at h <;> try (cases h; done)
  rename_i hd
  exact ⟨_, h, cfi_con _ _ _ _ _ _ (of_decide_eq_true hd)⟩
def envlVa : Env := [(14, awk_sp), (15, few_sp), (17, its_sp), (24, pls_sp), (26, cva_sp), (27, rva_sp), (28, cfi_sp), (29, rfi_sp)]
theorem envlVa_ok : EnvAll Try.prog envlVa := ⟨awk_spec, few_spec, its_spec, pls_spec, cva_spec, rva_spec, cfi_spec, rfi_spec, trivial⟩
def lVa_nt : NT := []
noncomputable def lVa_C : Ctx := ⟨Try.prog, ft, tys, envlVa, lVa_nt⟩
def lVa_t (_k : Nat → Cfg → Option (List RV)) (c : Int × Int × Int × (List (Int × Int)) × List (Int × Int × Int × Bool)) (x : Int × Int × Int × Bool) : Option (List RV) := match !true with | true => some [RV.d .bool true] | false => (match !(fewF (c.1, (c.2.1, (c.2.2.1, (c.2.2.2.1, c.2.2.2.2))))) with | true => some [RV.d .bool true] | false => (match decide (c.2.2.2.1.length ≤ 1000) with | true => (match decide (c.2.2.2.2.length ≤ 1000) with | true => (match decide (vP c.2.2.2.2) with | true => (match decide (vP c.2.2.2.2) with | true => (match !((validF c.1 c.2.1 c.2.2.1 c.2.2.2.1 c.2.2.2.2) == (validF c.1 c.2.1 c.2.2.1 c.2.2.2.1 c.2.2.2.2)) with | true => some [RV.d .bool false] | false => (match decide (([(x.1, (x.2.1, (x.2.2.1, x.2.2.2)))]).length ≤ 1000) with | true => (match getI ([(x.1, (x.2.1, (x.2.2.1, x.2.2.2)))]) 0 with | some _ => (match true, ([(x.1, (x.2.1, (x.2.2.1, x.2.2.2)))])[0]? with | true, some x1 => (match decide (fP c.2.2.2.2) with | true => (match decide (fP c.2.2.2.2) with | true => some [RV.d .bool ((fitsF c.1 c.2.1 c.2.2.1 c.2.2.2.1 c.2.2.2.2 x1) == (fitsF c.1 c.2.1 c.2.2.1 c.2.2.2.1 c.2.2.2.2 (x.1, (x.2.1, (x.2.2.1, x.2.2.2)))))] | false => none) | false => none) | _, _ => none) | none => none) | false => none)) | false => none) | false => none) | false => none) | false => none))
theorem lVa_eq (k : Nat → Cfg → Option (List RV)) (c : Int × Int × Int × (List (Int × Int)) × List (Int × Int × Int × Bool)) (x : Int × Int × Int × Bool) : go Try.prog ft tys envlVa lVa_nt k 4000 (start 5 [.d (.st (.pair (.int .i64) (.pair (.int .i64) (.pair (.int .i64) (.pair (.sl (.st (.pair (.int .i64) (.int .i64)))) (.sl (.st (.pair (.int .i64) (.pair (.int .i64) (.pair (.int .i64) .bool)))))))))) c, .d (.st (.pair (.int .i64) (.pair (.int .i64) (.pair (.int .i64) .bool)))) x]) (.node 0) = lVa_t k c x := by kernel_rfl
theorem lVa_s (c : Int × Int × Int × (List (Int × Int)) × List (Int × Int × Int × Bool)) (x : Int × Int × Int × Bool) {rX : List RV} (hX : ∃ nX, lVa_t (lVa_C.k nX) c x = some rX) : lVa_C.Res 5 [.d (.st (.pair (.int .i64) (.pair (.int .i64) (.pair (.int .i64) (.pair (.sl (.st (.pair (.int .i64) (.int .i64)))) (.sl (.st (.pair (.int .i64) (.pair (.int .i64) (.pair (.int .i64) .bool)))))))))) c, .d (.st (.pair (.int .i64) (.pair (.int .i64) (.pair (.int .i64) .bool)))) x] rX := by
  obtain ⟨nX, hX⟩ := hX
  exact ⟨nX, (lVa_eq _ c x).trans hX⟩
theorem lVa_con (c : Cs) (x : Pl) (_h : (Ty.ok (.st (.pair (.int .i64) (.pair (.int .i64) (.pair (.int .i64) (.pair (.sl (.st (.pair (.int .i64) (.int .i64)))) (.sl (.st (.pair (.int .i64) (.pair (.int .i64) (.pair (.int .i64) .bool)))))))))) c)) (_h2 : Ty.ok (.st (.pair (.int .i64) (.pair (.int .i64) (.pair (.int .i64) .bool)))) x) : Con Try.prog 5 [.d (.st (.pair (.int .i64) (.pair (.int .i64) (.pair (.int .i64) (.pair (.sl (.st (.pair (.int .i64) (.int .i64)))) (.sl (.st (.pair (.int .i64) (.pair (.int .i64) (.pair (.int .i64) .bool)))))))))) c, .d (.st (.pair (.int .i64) (.pair (.int .i64) (.pair (.int .i64) .bool)))) x] [.d .bool true] := by
  refine Ctx.Res.con (C := lVa_C) (ctx_ok envlVa_ok) ?_ (fn := Try.f5) (by kernel_rfl) (by kernel_rfl)
  refine lVa_s _ _ ⟨0, ?_⟩
  unfold lVa_t
  cases hf : fewF (c.1, (c.2.1, (c.2.2.1, (c.2.2.2.1, c.2.2.2.2)))) with
  | false => rfl
  | true =>
    have hb := few_bd hf
    dsimp only at hb
    have hp : fP c.2.2.2.2 := by unfold fP; omega
    simp only [eta4, decide_eq_true (show c.2.2.2.1.length ≤ 1000 by omega), decide_eq_true (show c.2.2.2.2.length ≤ 1000 by omega), decide_eq_true hp.v, decide_eq_true hp, decide_eq_true (show ([x] : List Pl).length ≤ 1000 by simp), beq_self_eq_true, Bool.not_true, getI_zero, List.getElem?_cons_zero]
end Go.Proofs.Ytfkidjkpgliffaa
