/- The law NestNest returns true. -/
import Derived.Test.YtfkidjkpgliffaaNs6
namespace Go.Proofs.Ytfkidjkpgliffaa
open Go.RowKit
def envlNe : Env := [(14, awk_sp), (15, few_sp), (17, its_sp), (20, bks_sp), (16, cne_sp), (18, rne_sp), (21, eqi_sp), (19, eqr_sp)]
theorem envlNe_ok : EnvAll Try.prog envlNe := ⟨awk_spec, few_spec, its_spec, bks_spec, cne_spec, rne_spec, eqi_spec, eqr_spec, trivial⟩
def lNe_nt : NT := []
noncomputable def lNe_C : Ctx := ⟨Try.prog, ft, tys, envlNe, lNe_nt⟩
def lNe_t (_k : Nat → Cfg → Option (List RV)) (c : Int × Int × Int × (List (Int × Int)) × List (Int × Int × Int × Bool)) : Option (List RV) := match !true with | true => some [RV.d .bool true] | false => (match !(fewF (c.1, (c.2.1, (c.2.2.1, (c.2.2.2.1, c.2.2.2.2))))) with | true => some [RV.d .bool true] | false => (match decide (c.2.2.2.1.length ≤ 1000) with | true => (match ((nestF c.1 c.2.1 c.2.2.1 c.2.2.2.1).2.2) == ((nestF c.1 c.2.1 c.2.2.1 c.2.2.2.1).2.2) with | true => (match decide (((nestF c.1 c.2.1 c.2.2.1 c.2.2.2.1).1).length ≤ 1000) with | true => (match decide (((nestF c.1 c.2.1 c.2.2.1 c.2.2.2.1).1).length ≤ 1000000) with | true => (match decide ((nestF c.1 c.2.1 c.2.2.1 c.2.2.2.1).1 = (nestF c.1 c.2.1 c.2.2.1 c.2.2.2.1).1) with | true => (match decide (((nestF c.1 c.2.1 c.2.2.1 c.2.2.2.1).2.1).length ≤ 1000000) with | true => some [RV.d .bool (decide ((nestF c.1 c.2.1 c.2.2.1 c.2.2.2.1).2.1 = (nestF c.1 c.2.1 c.2.2.1 c.2.2.2.1).2.1))] | false => none) | false => some [RV.d .bool false]) | false => none) | false => none) | false => some [RV.d .bool false]) | false => none))
theorem lNe_eq (k : Nat → Cfg → Option (List RV)) (c : Int × Int × Int × (List (Int × Int)) × List (Int × Int × Int × Bool)) : go Try.prog ft tys envlNe lNe_nt k 4000 (start 3 [.d (.st (.pair (.int .i64) (.pair (.int .i64) (.pair (.int .i64) (.pair (.sl (.st (.pair (.int .i64) (.int .i64)))) (.sl (.st (.pair (.int .i64) (.pair (.int .i64) (.pair (.int .i64) .bool)))))))))) c]) (.node 0) = lNe_t k c := by kernel_rfl
theorem lNe_s (c : Int × Int × Int × (List (Int × Int)) × List (Int × Int × Int × Bool)) {rX : List RV} (hX : ∃ nX, lNe_t (lNe_C.k nX) c = some rX) : lNe_C.Res 3 [.d (.st (.pair (.int .i64) (.pair (.int .i64) (.pair (.int .i64) (.pair (.sl (.st (.pair (.int .i64) (.int .i64)))) (.sl (.st (.pair (.int .i64) (.pair (.int .i64) (.pair (.int .i64) .bool)))))))))) c] rX := by
  obtain ⟨nX, hX⟩ := hX
  exact ⟨nX, (lNe_eq _ c).trans hX⟩
theorem lNe_con (c : Cs) (_h : (Ty.ok (.st (.pair (.int .i64) (.pair (.int .i64) (.pair (.int .i64) (.pair (.sl (.st (.pair (.int .i64) (.int .i64)))) (.sl (.st (.pair (.int .i64) (.pair (.int .i64) (.pair (.int .i64) .bool)))))))))) c)) : Con Try.prog 3 [.d (.st (.pair (.int .i64) (.pair (.int .i64) (.pair (.int .i64) (.pair (.sl (.st (.pair (.int .i64) (.int .i64)))) (.sl (.st (.pair (.int .i64) (.pair (.int .i64) (.pair (.int .i64) .bool)))))))))) c] [.d .bool true] := by
  refine Ctx.Res.con (C := lNe_C) (ctx_ok envlNe_ok) ?_ (fn := Try.f3) (by kernel_rfl) (by kernel_rfl)
  refine lNe_s _ ⟨0, ?_⟩
  unfold lNe_t
  cases hf : fewF (c.1, (c.2.1, (c.2.2.1, (c.2.2.2.1, c.2.2.2.2)))) with
  | false => rfl
  | true =>
    have hb := few_bd hf
    have hn := nest_len c.1 c.2.1 c.2.2.1 c.2.2.2.1
    dsimp only at hb
    simp only [decide_eq_true (show c.2.2.2.1.length ≤ 1000 by omega), decide_eq_true (show (nestF c.1 c.2.1 c.2.2.1 c.2.2.2.1).1.length ≤ 1000 by omega), decide_eq_true (show (nestF c.1 c.2.1 c.2.2.1 c.2.2.2.1).1.length ≤ 1000000 by omega), decide_eq_true (show (nestF c.1 c.2.1 c.2.2.1 c.2.2.2.1).2.1.length ≤ 1000000 by omega), Bool.not_true, beq_self_eq_true, decide_true]
end Go.Proofs.Ytfkidjkpgliffaa
