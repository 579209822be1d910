/- The law NestSpots returns true. -/
import Derived.Test.YtfkidjkpgliffaaNs6
namespace Go.Proofs.Ytfkidjkpgliffaa
open Go.RowKit
def envlSp : Env := [(14, awk_sp), (15, few_sp), (17, its_sp), (24, pls_sp), (23, csp_sp), (25, rsp_sp), (22, eqg_sp)]
theorem envlSp_ok : EnvAll Try.prog envlSp := ⟨awk_spec, few_spec, its_spec, pls_spec, csp_spec, rsp_spec, eqg_spec, trivial⟩
def lSp_nt : NT := []
noncomputable def lSp_C : Ctx := ⟨Try.prog, ft, tys, envlSp, lSp_nt⟩
def lSp_t (_k : Nat → Cfg → Option (List RV)) (c : Int × Int × Int × (List (Int × Int)) × List (Int × Int × Int × Bool)) : Option (List RV) := match !true with | true => some [RV.d .bool true] | false => (match !(fewF (c.1, (c.2.1, (c.2.2.1, (c.2.2.2.1, c.2.2.2.2))))) with | true => some [RV.d .bool true] | false => (match decide (c.2.2.2.1.length ≤ 1000) with | true => (match decide (c.2.2.2.2.length ≤ 1000) with | true => (match decide (vP c.2.2.2.2) with | true => (match decide (vP c.2.2.2.2) with | true => (match decide ((spotsF c.1 c.2.1 c.2.2.1 c.2.2.2.1 c.2.2.2.2).length ≤ 1000000) with | true => some [RV.d .bool (decide (spotsF c.1 c.2.1 c.2.2.1 c.2.2.2.1 c.2.2.2.2 = spotsF c.1 c.2.1 c.2.2.1 c.2.2.2.1 c.2.2.2.2))] | false => none) | false => none) | false => none) | false => none) | false => none))
theorem lSp_eq (k : Nat → Cfg → Option (List RV)) (c : Int × Int × Int × (List (Int × Int)) × List (Int × Int × Int × Bool)) : go Try.prog ft tys envlSp lSp_nt k 4000 (start 4 [.d (.st (.pair (.int .i64) (.pair (.int .i64) (.pair (.int .i64) (.pair (.sl (.st (.pair (.int .i64) (.int .i64)))) (.sl (.st (.pair (.int .i64) (.pair (.int .i64) (.pair (.int .i64) .bool)))))))))) c]) (.node 0) = lSp_t k c := by kernel_rfl
theorem lSp_s (c : Int × Int × Int × (List (Int × Int)) × List (Int × Int × Int × Bool)) {rX : List RV} (hX : ∃ nX, lSp_t (lSp_C.k nX) c = some rX) : lSp_C.Res 4 [.d (.st (.pair (.int .i64) (.pair (.int .i64) (.pair (.int .i64) (.pair (.sl (.st (.pair (.int .i64) (.int .i64)))) (.sl (.st (.pair (.int .i64) (.pair (.int .i64) (.pair (.int .i64) .bool)))))))))) c] rX := by
  obtain ⟨nX, hX⟩ := hX
  exact ⟨nX, (lSp_eq _ c).trans hX⟩
theorem lSp_con (c : Cs) (_h : (Ty.ok (.st (.pair (.int .i64) (.pair (.int .i64) (.pair (.int .i64) (.pair (.sl (.st (.pair (.int .i64) (.int .i64)))) (.sl (.st (.pair (.int .i64) (.pair (.int .i64) (.pair (.int .i64) .bool)))))))))) c)) : Con Try.prog 4 [.d (.st (.pair (.int .i64) (.pair (.int .i64) (.pair (.int .i64) (.pair (.sl (.st (.pair (.int .i64) (.int .i64)))) (.sl (.st (.pair (.int .i64) (.pair (.int .i64) (.pair (.int .i64) .bool)))))))))) c] [.d .bool true] := by
  refine Ctx.Res.con (C := lSp_C) (ctx_ok envlSp_ok) ?_ (fn := Try.f4) (by kernel_rfl) (by kernel_rfl)
  refine lSp_s _ ⟨0, ?_⟩
  unfold lSp_t
  cases hf : fewF (c.1, (c.2.1, (c.2.2.1, (c.2.2.2.1, c.2.2.2.2)))) with
  | false => rfl
  | true =>
    have hb := few_bd hf
    dsimp only at hb
    have hp : fP c.2.2.2.2 := by unfold fP; omega
    simp only [decide_eq_true (show c.2.2.2.1.length ≤ 1000 by omega), decide_eq_true (show c.2.2.2.2.length ≤ 1000 by omega), decide_eq_true hp.v, decide_eq_true (spots_in (w := c.1) (h := c.2.1) (gap := c.2.2.1) (l := c.2.2.2.1) hp), Bool.not_true, decide_true]
end Go.Proofs.Ytfkidjkpgliffaa
