/- The law ChoosePrices returns true. -/
import Derived.Test.YtfkidjkpgliffaaCh5
import Derived.Test.YtfkidjkpgliffaaChSpecs
namespace Go.Proofs.Ytfkidjkpgliffaa
open Go.RowKit
def cpr_sp : Spec := { keep := true, run := fun _ args k => match args with
  | [.d (.sl (.sl .bool)) reach, .d (.sl (.int .i64)) cost, .d (.sl (.int .i64)) ps] => match decide (small3 reach ∧ cost.length = reach.length) with
    | true => k [RV.d (.int .i64) (bif fairF reach cost ps then sumTo ps (npc reach) else 0), RV.d .bool (fairF reach cost ps)]
    | false => none
  | _ => none }
theorem cpr_spec : callable Try.prog 43 = true ∧ SpecOk Try.prog 43 cpr_sp ∧ ∀ g, cpr_sp.mut_ = some g → MCon Try.prog 43 g := by
  refine ⟨by kernel_rfl, fun R args k r h => ?_, fun g h => by simp [cpr_sp] at h⟩
  unfold cpr_sp at h
  dsimp only at h
  split at h <;> try (cases h; done)
  split at h <;> try (cases h; done)
  rename_i hd
  exact ⟨_, h, cpr_con _ _ _ (of_decide_eq_true hd)⟩
def rpr_sp : Spec := { keep := true, run := fun _ args k => match args with
  | [.d (.sl (.sl .bool)) reach, .d (.sl (.int .i64)) cost, .d (.sl (.int .i64)) ps] => match decide (small3 reach ∧ cost.length = reach.length) with
    | true => k [RV.d (.int .i64) (bif fairF reach cost ps then sumTo ps (npc reach) else 0), RV.d .bool (fairF reach cost ps)]
    | false => none
  | _ => none }
theorem rpr_spec : callable Try.prog 44 = true ∧ SpecOk Try.prog 44 rpr_sp ∧ ∀ g, rpr_sp.mut_ = some g → MCon Try.prog 44 g := by
  refine ⟨by kernel_rfl, fun R args k r h => ?_, fun g h => by simp [rpr_sp] at h⟩
  unfold rpr_sp at h
  dsimp only at h
  split at h <;> try (cases h; done)
  split at h <;> try (cases h; done)
  rename_i hd
  exact ⟨_, h, rpr_con _ _ _ (of_decide_eq_true hd)⟩
def envLP : Env := [(33, awake_sp), (42, right_sp), (43, cpr_sp), (44, rpr_sp)]
theorem envLP_ok : EnvAll Try.prog envLP := ⟨awake_spec, right_spec, cpr_spec, rpr_spec, trivial⟩
def lawP_nt : NT := []
noncomputable def lawP_C : Ctx := ⟨Try.prog, ft, tys, envLP, lawP_nt⟩
def lawP_t (_k : Nat → Cfg → Option (List RV)) (reach : List (List Bool)) (cost : List Int) (ps : List Int) : Option (List RV) := match !true with | true => some [RV.d .bool true] | false => (match decide (reach.length ≤ 9223372036854775807) with | true => (match !(rightF reach cost) with | true => some [RV.d .bool true] | false => (match decide ((ps.length : Int) > 30) with | true => some [RV.d .bool true] | false => (match decide (small3 reach ∧ cost.length = reach.length) with | true => (match decide (small3 reach ∧ cost.length = reach.length) with | true => (match (bif fairF reach cost ps then sumTo ps (npc reach) else 0) == (bif fairF reach cost ps then sumTo ps (npc reach) else 0) with | true => some [RV.d .bool ((fairF reach cost ps) == (fairF reach cost ps))] | false => some [RV.d .bool false]) | false => none) | false => none))) | false => none)
theorem lawP_eq (k : Nat → Cfg → Option (List RV)) (reach : List (List Bool)) (cost : List Int) (ps : List Int) : go Try.prog ft tys envLP lawP_nt k 4000 (start 10 [.d (.sl (.sl .bool)) reach, .d (.sl (.int .i64)) cost, .d (.sl (.int .i64)) ps]) (.node 0) = lawP_t k reach cost ps := by kernel_rfl
theorem lawP_s (reach : List (List Bool)) (cost : List Int) (ps : List Int) {r : List RV} (h : ∃ n, lawP_t (lawP_C.k n) reach cost ps = some r) : lawP_C.Res 10 [.d (.sl (.sl .bool)) reach, .d (.sl (.int .i64)) cost, .d (.sl (.int .i64)) ps] r := by
  obtain ⟨n, h⟩ := h
  exact ⟨n, (lawP_eq _ reach cost ps).trans h⟩
theorem lawP_con (reach : List (List Bool)) (cost ps : List Int) (h1 : (Ty.sl (.sl .bool)).ok reach) (h2 : (Ty.sl (.int .i64)).ok cost) (h3 : (Ty.sl (.int .i64)).ok ps) : Con Try.prog 10 [.d (.sl (.sl .bool)) reach, .d (.sl (.int .i64)) cost, .d (.sl (.int .i64)) ps] [.d .bool true] := by
  refine Ctx.Res.con (C := lawP_C) (ctx_ok envLP_ok) ?_ (fn := Try.f10) (by kernel_rfl) (by kernel_rfl)
  refine lawP_s _ _ _ ⟨0, ?_⟩
  have hb := h1.1
  unfold lawP_t
  rw [decide_eq_true (show reach.length ≤ 9223372036854775807 from hb)]
  dsimp only
  cases c1 : rightF reach cost with
  | false => rfl
  | true =>
    have hg := right_good c1
    have hs := hg.s3 (by omega) (by omega)
    cases c2 : decide ((ps.length : Int) > 30) with
    | true => rfl
    | false =>
      rw [decide_eq_true (show small3 reach ∧ cost.length = reach.length from ⟨hs, hg.len⟩)]
      simp
end Go.Proofs.Ytfkidjkpgliffaa
