/- The law ChooseBest returns true. -/
import Derived.Test.YtfkidjkpgliffaaCh14
namespace Go.Proofs.Ytfkidjkpgliffaa
open Go.RowKit
def cbe_sp : Spec := { keep := false, run := fun _ args k => match args with
  | [.d (.sl (.sl .bool)) reach, .d (.sl (.int .i64)) cost] => match decide (reach.length ≤ 9223372036854775807) with
    | true => k [RV.d (.sl (.int .i64)) (bestF reach cost), RV.d (.int .i64) (bestC reach cost), RV.d (.int .i64) (validF reach cost 12 64)]
    | false => none
  | _ => none }
theorem cbe_spec : callable Try.prog 37 = true ∧ SpecOk Try.prog 37 cbe_sp ∧ ∀ g, cbe_sp.mut_ = some g → MCon Try.prog 37 g := by
  refine ⟨by kernel_rfl, fun R args k r h => ?_, fun g h => by simp [cbe_sp] at h⟩
  unfold cbe_sp at h
  dsimp only at h
  split at h <;> try (cases h; done)
  split at h <;> try (cases h; done)
  rename_i hd
  exact ⟨_, h, cbe_con _ _ (of_decide_eq_true hd)⟩
def rbe_sp : Spec := { keep := false, run := fun _ args k => match args with
  | [.d (.sl (.sl .bool)) reach, .d (.sl (.int .i64)) cost] => match decide (reach.length ≤ 9223372036854775807) with
    | true => k [RV.d (.sl (.int .i64)) (bestF reach cost), RV.d (.int .i64) (bestC reach cost), RV.d (.int .i64) (validF reach cost 12 64)]
    | false => none
  | _ => none }
theorem rbe_spec : callable Try.prog 38 = true ∧ SpecOk Try.prog 38 rbe_sp ∧ ∀ g, rbe_sp.mut_ = some g → MCon Try.prog 38 g := by
  refine ⟨by kernel_rfl, fun R args k r h => ?_, fun g h => by simp [rbe_sp] at h⟩
  unfold rbe_sp at h
  dsimp only at h
  split at h <;> try (cases h; done)
  split at h <;> try (cases h; done)
  rename_i hd
  exact ⟨_, h, rbe_con _ _ (of_decide_eq_true hd)⟩
def sai_sp : Spec := { keep := true, run := fun _ args k => match args with
  | [.d (.sl (.int .i64)) a, .d (.sl (.int .i64)) b] => match decide (a.length ≤ 1000000) with
    | true => k [RV.d .bool (decide (a = b))]
    | false => none
  | _ => none }
theorem sai_spec : callable Try.prog 39 = true ∧ SpecOk Try.prog 39 sai_sp ∧ ∀ g, sai_sp.mut_ = some g → MCon Try.prog 39 g := by
  refine ⟨by kernel_rfl, fun R args k r h => ?_, fun g h => by simp [sai_sp] at h⟩
  unfold sai_sp at h
  dsimp only at h
  split at h <;> try (cases h; done)
  split at h <;> try (cases h; done)
  rename_i hd
  exact ⟨_, h, sai_con _ _ (of_decide_eq_true hd)⟩
def envLB : Env := [(33, awake_sp), (34, small_sp), (37, cbe_sp), (38, rbe_sp), (39, sai_sp)]
theorem envLB_ok : EnvAll Try.prog envLB := ⟨awake_spec, small_spec, cbe_spec, rbe_spec, sai_spec, trivial⟩
def lawB_nt : NT := []
noncomputable def lawB_C : Ctx := ⟨Try.prog, ft, tys, envLB, lawB_nt⟩
def lawB_t (_k : Nat → Cfg → Option (List RV)) (reach : List (List Bool)) (cost : List Int) : Option (List RV) := match !true with | true => some [RV.d .bool true] | false => (match decide (reach.length ≤ 9223372036854775807 ∧ -9223372036854775808 ≤ (13 : Int) ∧ (13 : Int) ≤ 9223372036854775806) with | true => (match !(smallF reach cost 13 66) with | true => some [RV.d .bool true] | false => (match decide (reach.length ≤ 9223372036854775807) with | true => (match decide (reach.length ≤ 9223372036854775807) with | true => (match (validF reach cost 12 64) == (validF reach cost 12 64) with | true => (match (bestC reach cost) == (bestC reach cost) with | true => (match decide ((bestF reach cost).length ≤ 1000000) with | true => some [RV.d .bool (decide ((bestF reach cost) = (bestF reach cost)))] | false => none) | false => some [RV.d .bool false]) | false => some [RV.d .bool false]) | false => none) | false => none)) | false => none)
theorem lawB_eq (k : Nat → Cfg → Option (List RV)) (reach : List (List Bool)) (cost : List Int) : go Try.prog ft tys envLB lawB_nt k 4000 (start 8 [.d (.sl (.sl .bool)) reach, .d (.sl (.int .i64)) cost]) (.node 0) = lawB_t k reach cost := by kernel_rfl
theorem lawB_s (reach : List (List Bool)) (cost : List Int) {r : List RV} (h : ∃ n, lawB_t (lawB_C.k n) reach cost = some r) : lawB_C.Res 8 [.d (.sl (.sl .bool)) reach, .d (.sl (.int .i64)) cost] r := by
  obtain ⟨n, h⟩ := h
  exact ⟨n, (lawB_eq _ reach cost).trans h⟩
theorem bestF_len (reach : List (List Bool)) (cost : List Int) : (bestF reach cost).length ≤ 1000000 := by
  unfold bestF
  cases hv : (validF reach cost 12 64 != 0) with
  | true => simp
  | false =>
    have g := good_of_valid (t := 12) (p := 64) (show validF reach cost 12 64 = 0 by simpa using hv)
    obtain ⟨b, hb⟩ := best_some reach cost
    obtain ⟨s', _, hbs, _⟩ := bestTo_set hb
    have := setTo_len s' reach.length
    have := g.n
    simp only [cond_false, bestL, hb, Option.getD_some, hbs]
    omega
theorem lawB_con (reach : List (List Bool)) (cost : List Int) (h1 : (Ty.sl (.sl .bool)).ok reach) (h2 : (Ty.sl (.int .i64)).ok cost) : Con Try.prog 8 [.d (.sl (.sl .bool)) reach, .d (.sl (.int .i64)) cost] [.d .bool true] := by
  refine Ctx.Res.con (C := lawB_C) (ctx_ok envLB_ok) ?_ (fn := Try.f8) (by kernel_rfl) (by kernel_rfl)
  refine lawB_s _ _ ⟨0, ?_⟩
  have hb := h1.1
  unfold lawB_t
  rw [decide_eq_true (show reach.length ≤ 9223372036854775807 from hb), decide_eq_true (show (reach.length ≤ 9223372036854775807 ∧ (-9223372036854775808 : Int) ≤ 13 ∧ (13 : Int) ≤ 9223372036854775806) from ⟨hb, by decide, by decide⟩), decide_eq_true (bestF_len reach cost)]
  dsimp only
  cases c1 : smallF reach cost 13 66 with
  | false => rfl
  | true => simp
end Go.Proofs.Ytfkidjkpgliffaa
