/- The law ChooseGreedy returns true. -/
import Derived.Test.YtfkidjkpgliffaaCh12
namespace Go.Proofs.Ytfkidjkpgliffaa
open Go.RowKit
def cgr_sp : Spec := { keep := false, run := fun _ args k => match args with
  | [.d (.sl (.sl .bool)) reach, .d (.sl (.int .i64)) cost] => match decide (reach.length ≤ 9223372036854775807) with
    | true => k [RV.d (.sl (.int .i64)) (greedyF reach cost), RV.d (.int .i64) (bif validF reach cost 200 200 != 0 then 0 else costF cost (greedyTo reach cost (npc reach) [])), RV.d (.int .i64) (validF reach cost 200 200)]
    | false => none
  | _ => none }
theorem cgr_spec : callable Try.prog 40 = true ∧ SpecOk Try.prog 40 cgr_sp ∧ ∀ g, cgr_sp.mut_ = some g → MCon Try.prog 40 g := by
  refine ⟨by kernel_rfl, fun R args k r h => ?_, fun g h => by simp [cgr_sp] at h⟩
  unfold cgr_sp at h
  dsimp only at h
  split at h <;> try (cases h; done)
  split at h <;> try (cases h; done)
  rename_i hd
  exact ⟨_, h, cgr_con _ _ (of_decide_eq_true hd)⟩
def rgr_sp : Spec := { keep := false, run := fun _ args k => match args with
  | [.d (.sl (.sl .bool)) reach, .d (.sl (.int .i64)) cost] => match decide (reach.length ≤ 9223372036854775807) with
    | true => k [RV.d (.sl (.int .i64)) (greedyF reach cost), RV.d (.int .i64) (bif validF reach cost 200 200 != 0 then 0 else costF cost (greedyTo reach cost (npc reach) [])), RV.d (.int .i64) (validF reach cost 200 200)]
    | false => none
  | _ => none }
theorem rgr_spec : callable Try.prog 41 = true ∧ SpecOk Try.prog 41 rgr_sp ∧ ∀ g, rgr_sp.mut_ = some g → MCon Try.prog 41 g := by
  refine ⟨by kernel_rfl, fun R args k r h => ?_, fun g h => by simp [rgr_sp] at h⟩
  unfold rgr_sp at h
  dsimp only at h
  split at h <;> try (cases h; done)
  split at h <;> try (cases h; done)
  rename_i hd
  exact ⟨_, h, rgr_con _ _ (of_decide_eq_true hd)⟩
def sai_sp : Spec := { keep := true, run := fun _ args k => match args with
  | [.d (.sl (.int .i64)) a, .d (.sl (.int .i64)) b] => match decide (a.length ≤ 1000000) with
    | true => k [RV.d .bool (decide (a = b))]
    | false => none
  | _ => none }
theorem sai_spec : callable Try.prog 39 = true ∧ SpecOk Try.prog 39 sai_sp ∧ ∀ g, sai_sp.mut_ = some g → MCon Try.prog 39 g := by
  refine ⟨by kernel_rfl, fun R args k r h => ?_, fun g h => by simp [sai_sp] at h⟩
  unfold sai_sp at h
  dsimp only at h
  split at h <;> try (cases h; done)
  split at h <;> try (cases h; done)
  rename_i hd
  exact ⟨_, h, sai_con _ _ (of_decide_eq_true hd)⟩
def envLG : Env := [(33, awake_sp), (34, small_sp), (40, cgr_sp), (41, rgr_sp), (39, sai_sp)]
theorem envLG_ok : EnvAll Try.prog envLG := ⟨awake_spec, small_spec, cgr_spec, rgr_spec, sai_spec, trivial⟩
def lawG_nt : NT := []
noncomputable def lawG_C : Ctx := ⟨Try.prog, ft, tys, envLG, lawG_nt⟩
def lawG_t (_k : Nat → Cfg → Option (List RV)) (reach : List (List Bool)) (cost : List Int) : Option (List RV) := match !true with | true => some [RV.d .bool true] | false => (match decide (reach.length ≤ 9223372036854775807 ∧ -9223372036854775808 ≤ (14 : Int) ∧ (14 : Int) ≤ 9223372036854775806) with | true => (match !(smallF reach cost 14 66) with | true => some [RV.d .bool true] | false => (match decide (reach.length ≤ 9223372036854775807) with | true => (match decide (reach.length ≤ 9223372036854775807) with | true => (match (validF reach cost 200 200) == (validF reach cost 200 200) with | true => (match (bif validF reach cost 200 200 != 0 then 0 else costF cost (greedyTo reach cost (npc reach) [])) == (bif validF reach cost 200 200 != 0 then 0 else costF cost (greedyTo reach cost (npc reach) [])) with | true => (match decide ((greedyF reach cost).length ≤ 1000000) with | true => some [RV.d .bool (decide ((greedyF reach cost) = (greedyF reach cost)))] | false => none) | false => some [RV.d .bool false]) | false => some [RV.d .bool false]) | false => none) | false => none)) | false => none)
theorem lawG_eq (k : Nat → Cfg → Option (List RV)) (reach : List (List Bool)) (cost : List Int) : go Try.prog ft tys envLG lawG_nt k 4000 (start 9 [.d (.sl (.sl .bool)) reach, .d (.sl (.int .i64)) cost]) (.node 0) = lawG_t k reach cost := by kernel_rfl
theorem lawG_s (reach : List (List Bool)) (cost : List Int) {r : List RV} (h : ∃ n, lawG_t (lawG_C.k n) reach cost = some r) : lawG_C.Res 9 [.d (.sl (.sl .bool)) reach, .d (.sl (.int .i64)) cost] r := by
  obtain ⟨n, h⟩ := h
  exact ⟨n, (lawG_eq _ reach cost).trans h⟩
theorem greedyF_len (reach : List (List Bool)) (cost : List Int) : (greedyF reach cost).length ≤ 1000000 := by
  unfold greedyF
  cases hv : (validF reach cost 200 200 != 0) with
  | true => simp
  | false =>
    have g := good_of_valid (t := 200) (p := 200) (show validF reach cost 200 200 = 0 by simpa using hv)
    have := (greedyTo_inv (cost := cost) (npc reach) [] (ginv_nil reach)).op
    have := g.p
    simp only [cond_false, isort_len]
    omega
theorem lawG_con (reach : List (List Bool)) (cost : List Int) (h1 : (Ty.sl (.sl .bool)).ok reach) (h2 : (Ty.sl (.int .i64)).ok cost) : Con Try.prog 9 [.d (.sl (.sl .bool)) reach, .d (.sl (.int .i64)) cost] [.d .bool true] := by
  refine Ctx.Res.con (C := lawG_C) (ctx_ok envLG_ok) ?_ (fn := Try.f9) (by kernel_rfl) (by kernel_rfl)
  refine lawG_s _ _ ⟨0, ?_⟩
  have hb := h1.1
  unfold lawG_t
  rw [decide_eq_true (show reach.length ≤ 9223372036854775807 from hb), decide_eq_true (show (reach.length ≤ 9223372036854775807 ∧ (-9223372036854775808 : Int) ≤ 14 ∧ (14 : Int) ≤ 9223372036854775806) from ⟨hb, by decide, by decide⟩), decide_eq_true (greedyF_len reach cost)]
  dsimp only
  cases c1 : smallF reach cost 14 66 with
  | false => rfl
  | true => simp
end Go.Proofs.Ytfkidjkpgliffaa
