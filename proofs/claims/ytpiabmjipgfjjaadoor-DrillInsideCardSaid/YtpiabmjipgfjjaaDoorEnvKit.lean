/- What a seat's contexts need. -/
import Derived.Test.YtpiabmjipgfjjaaDoorPuT
namespace Go.Proofs.YtpiabmjipgfjjaaDoor
open Go.RowKit
/-- The known functions are what they're said to be. -/
def EnvAll (P : Program) : Env → Prop
  | [] => True
  | p :: l => (callable P p.1 = true ∧ SpecOk P p.1 p.2 ∧ ∀ g, p.2.mut_ = some g → MCon P p.1 g) ∧ EnvAll P l
theorem EnvAll.ok {P : Program} : ∀ {l : Env}, EnvAll P l → EnvOk P l
  | [], _, f, fn, h => by simp [lookE] at h
  | (k, x) :: l, ⟨h1, h2⟩, f, fn, h => by
    simp only [lookE] at h
    split at h
    · rename_i hb
      have := Nat.eq_of_beq_eq_true hb
      subst this
      injection h with h
      subst h
      exact h1
    · exact EnvAll.ok h2 f fn h
theorem ctx_ok {E : Env} {N : NT} (h : EnvAll Tryd.prog E) : (Ctx.mk Tryd.prog ft tys E N).Ok := ⟨tys_ok, h.ok, ft_ok.look, mixed_ok⟩
end Go.Proofs.YtpiabmjipgfjjaaDoor
