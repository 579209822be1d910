/- The law ChooseRaise returns true. -/
import Derived.Test.YtfkidjkpgliffaaCh8
namespace Go.Proofs.Ytfkidjkpgliffaa
open Go.RowKit
def cra_sp : Spec := { keep := false, run := fun _ args k => match args with
  | [.d (.sl (.sl .bool)) reach, .d (.sl (.int .i64)) cost] => match decide (reach.length ≤ 9223372036854775807) with
    | true => k [RV.d (.sl (.int .i64)) (raiseF reach cost), RV.d (.int .i64) (validF reach cost 200 200)]
    | false => none
  | _ => none }
theorem cra_spec : callable Try.prog 45 = true ∧ SpecOk Try.prog 45 cra_sp ∧ ∀ g, cra_sp.mut_ = some g → MCon Try.prog 45 g := by
  refine ⟨by kernel_rfl, fun R args k r h => ?_, fun g h => by simp [cra_sp] at h⟩
  unfold cra_sp at h
  dsimp only at h
  split at h <;> try (cases h; done)
  split at h <;> try (cases h; done)
  rename_i hd
  exact ⟨_, h, cra_con _ _ (of_decide_eq_true hd)⟩
def rra_sp : Spec := { keep := false, run := fun _ args k => match args with
  | [.d (.sl (.sl .bool)) reach, .d (.sl (.int .i64)) cost] => match decide (reach.length ≤ 9223372036854775807) with
    | true => k [RV.d (.sl (.int .i64)) (raiseF reach cost), RV.d (.int .i64) (validF reach cost 200 200)]
    | false => none
  | _ => none }
theorem rra_spec : callable Try.prog 46 = true ∧ SpecOk Try.prog 46 rra_sp ∧ ∀ g, rra_sp.mut_ = some g → MCon Try.prog 46 g := by
  refine ⟨by kernel_rfl, fun R args k r h => ?_, fun g h => by simp [rra_sp] at h⟩
  unfold rra_sp at h
  dsimp only at h
  split at h <;> try (cases h; done)
  split at h <;> try (cases h; done)
  rename_i hd
  exact ⟨_, h, rra_con _ _ (of_decide_eq_true hd)⟩
def same_sp : Spec := { keep := true, run := fun _ args k => match args with
  | [.d (.sl (.int .i64)) a, .d (.sl (.int .i64)) b] => match decide (a.length ≤ 1000000) with
    | true => k [RV.d .bool (decide (a = b))]
    | false => none
  | _ => none }
theorem same_spec : callable Try.prog 47 = true ∧ SpecOk Try.prog 47 same_sp ∧ ∀ g, same_sp.mut_ = some g → MCon Try.prog 47 g := by
  refine ⟨by kernel_rfl, fun R args k r h => ?_, fun g h => by simp [same_sp] at h⟩
  unfold same_sp at h
  dsimp only at h
  split at h <;> try (cases h; done)
  split at h <;> try (cases h; done)
  rename_i hd
  exact ⟨_, h, same_con _ _ (of_decide_eq_true hd)⟩
def envLR : Env := [(33, awake_sp), (34, small_sp), (43, cpr_sp), (45, cra_sp), (46, rra_sp), (47, same_sp)]
theorem envLR_ok : EnvAll Try.prog envLR := ⟨awake_spec, small_spec, cpr_spec, cra_spec, rra_spec, same_spec, trivial⟩
def lawR_nt : NT := []
noncomputable def lawR_C : Ctx := ⟨Try.prog, ft, tys, envLR, lawR_nt⟩
def lawR_t (_k : Nat → Cfg → Option (List RV)) (reach : List (List Bool)) (cost : List Int) : Option (List RV) := match !true with | true => some [RV.d .bool true] | false => (match decide (reach.length ≤ 9223372036854775807 ∧ -9223372036854775808 ≤ (12 : Int) ∧ (12 : Int) ≤ 9223372036854775806) with | true => (match !(smallF reach cost 12 20) with | true => some [RV.d .bool true] | false => (match decide (reach.length ≤ 9223372036854775807) with | true => (match decide (reach.length ≤ 9223372036854775807) with | true => (match (validF reach cost 200 200) != (validF reach cost 200 200) with | true => (match (validF reach cost 200 200) == (validF reach cost 200 200) with | true => (match decide ((raiseF reach cost).length ≤ 1000000) with | true => some [RV.d .bool (decide ((raiseF reach cost) = (raiseF reach cost)))] | false => none) | false => some [RV.d .bool false]) | false => (match decide ((raiseF reach cost).length ≤ 1000000) with | true => (match !(decide ((raiseF reach cost) = (raiseF reach cost))) with | true => (match (validF reach cost 200 200) == (validF reach cost 200 200) with | true => (match decide ((raiseF reach cost).length ≤ 1000000) with | true => some [RV.d .bool (decide ((raiseF reach cost) = (raiseF reach cost)))] | false => none) | false => some [RV.d .bool false]) | false => (match (validF reach cost 200 200) != 0 with | true => (match (validF reach cost 200 200) == (validF reach cost 200 200) with | true => (match decide ((raiseF reach cost).length ≤ 1000000) with | true => some [RV.d .bool (decide ((raiseF reach cost) = (raiseF reach cost)))] | false => none) | false => some [RV.d .bool false]) | false => (match decide (small3 reach ∧ cost.length = reach.length) with | true => some [RV.d .bool (fairF reach cost (raiseF reach cost))] | false => none))) | false => none)) | false => none) | false => none)) | false => none)
theorem lawR_eq (k : Nat → Cfg → Option (List RV)) (reach : List (List Bool)) (cost : List Int) : go Try.prog ft tys envLR lawR_nt k 4000 (start 11 [.d (.sl (.sl .bool)) reach, .d (.sl (.int .i64)) cost]) (.node 0) = lawR_t k reach cost := by kernel_rfl
theorem lawR_s (reach : List (List Bool)) (cost : List Int) {r : List RV} (h : ∃ n, lawR_t (lawR_C.k n) reach cost = some r) : lawR_C.Res 11 [.d (.sl (.sl .bool)) reach, .d (.sl (.int .i64)) cost] r := by
  obtain ⟨n, h⟩ := h
  exact ⟨n, (lawR_eq _ reach cost).trans h⟩
theorem lawR_con (reach : List (List Bool)) (cost : List Int) (h1 : (Ty.sl (.sl .bool)).ok reach) (h2 : (Ty.sl (.int .i64)).ok cost) : Con Try.prog 11 [.d (.sl (.sl .bool)) reach, .d (.sl (.int .i64)) cost] [.d .bool true] := by
  refine Ctx.Res.con (C := lawR_C) (ctx_ok envLR_ok) ?_ (fn := Try.f11) (by kernel_rfl) (by kernel_rfl)
  refine lawR_s _ _ ⟨0, ?_⟩
  have hb := h1.1
  unfold lawR_t
  rw [decide_eq_true (show reach.length ≤ 9223372036854775807 from hb), decide_eq_true (show (reach.length ≤ 9223372036854775807 ∧ (-9223372036854775808 : Int) ≤ 12 ∧ (12 : Int) ≤ 9223372036854775806) from ⟨hb, by decide, by decide⟩)]
  dsimp only
  cases c1 : smallF reach cost 12 20 with
  | false => rfl
  | true =>
    have hlen : (raiseF reach cost).length ≤ 1000000 := by
      unfold raiseF
      cases hv : (validF reach cost 200 200 != 0) with
      | true => simp
      | false =>
        have g := good_of_valid (t := 200) (p := 200) (show validF reach cost 200 200 = 0 by simpa using hv)
        have := (raise_inv g (npc reach) (Nat.le_refl _)).lo
        have := g.p
        simp only [cond_false]
        omega
    rw [decide_eq_true hlen]
    cases hv : (validF reach cost 200 200 != 0) with
    | true => simp
    | false =>
      have g := good_of_valid (t := 200) (p := 200) (show validF reach cost 200 200 = 0 by simpa using hv)
      have h := g.s3 (by omega) (by omega)
      have hf := inv_fair (raise_inv g (npc reach) (Nat.le_refl _))
      have e : raiseF reach cost = (raiseTo reach cost (npc reach)).1 := by unfold raiseF; rw [hv]; rfl
      rw [decide_eq_true (show small3 reach ∧ cost.length = reach.length from ⟨h, g.len⟩), e, hf]
      simp
end Go.Proofs.Ytfkidjkpgliffaa
