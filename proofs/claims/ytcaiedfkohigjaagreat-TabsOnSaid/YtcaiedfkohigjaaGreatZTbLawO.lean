/- The law TabsOn returns true. -/
import Derived.Test.YtcaiedfkohigjaaGreatZ7
import Derived.Test.YtcaiedfkohigjaaGreatZ15
namespace Go.Proofs.YtcaiedfkohigjaaGreat
open Go.RowKit
def tawk_tp : Spec := { keep := true, tame := true, run := fun _ args k => match args with
  | [] => k [RV.d .bool true]
  | _ => none }
theorem tawk_tpec : callable Tryz.prog 7 = true ∧ SpecOk Tryz.prog 7 tawk_tp ∧ ∀ g, tawk_tp.mut_ = some g → MCon Tryz.prog 7 g := by
  refine ⟨by kernel_rfl, fun R args k r h => ?_, fun g h => by cases h⟩
  unfold tawk_tp at h
  dsimp only at h
  split at h <;> try (cases h; done)
  exact ⟨_, h, tawk_con ⟩

def envLo : Env := [(7, tawk_tp), (8, ton_tp), (9, uon_tp)]
theorem envLo_ok : EnvAll Tryz.prog envLo := ⟨tawk_tpec, ton_tpec, uon_tpec, trivial⟩
def lOn_nt : NT := []
noncomputable def lOn_C : Ctx := ⟨Tryz.prog, ft, tys, envLo, lOn_nt⟩
noncomputable def lOn_t (_k : Nat → Cfg → Option (List RV)) (a : (Int × Int)) (b : (Int × Int)) (x : (Int × Int)) : Option (List RV) := match !true with | true => some [RV.d .bool false] | false => some [RV.d .bool ((onB a b x) == (onB a b x))]
theorem lOn_eq (k : Nat → Cfg → Option (List RV)) (a : (Int × Int)) (b : (Int × Int)) (x : (Int × Int)) : go Tryz.prog ft tys envLo lOn_nt k 4000 (start 3 [.d tG a, .d tG b, .d tG x]) (.node 0) = lOn_t k a b x := (go2_eq _ _ _ _ _ _ _ _ _).symm.trans (show go2 Tryz.prog ft tys envLo lOn_nt k 4000 (start 3 [.d tG a, .d tG b, .d tG x]) (.node 0) = lOn_t k a b x by kernel_rfl)
theorem lOn_s (a : (Int × Int)) (b : (Int × Int)) (x : (Int × Int)) {rX : List RV} (hX : ∃ nX, lOn_t (lOn_C.k nX) a b x = some rX) : lOn_C.Res 3 [.d tG a, .d tG b, .d tG x] rX := by
  obtain ⟨nX, hX⟩ := hX
  exact ⟨nX, (lOn_eq _ a b x).trans hX⟩
theorem lOn_con (a b x : Int × Int) (_ : Ty.ok tG a) (_ : Ty.ok tG b) (_ : Ty.ok tG x) : Con Tryz.prog 3 [.d tG a, .d tG b, .d tG x] [.d .bool true] := by
  refine Ctx.Res.con (C := lOn_C) (ctx_ok envLo_ok) ?_ (fn := Tryz.f3) (by kernel_rfl) (by kernel_rfl)
  refine lOn_s _ _ _ ⟨0, ?_⟩
  unfold lOn_t
  simp
end Go.Proofs.YtcaiedfkohigjaaGreat
