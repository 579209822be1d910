/- The law ChooseValid returns true. -/
import Derived.Test.YtfkidjkpgliffaaCh2
import Derived.Test.YtfkidjkpgliffaaChAwake
import Derived.Test.YtfkidjkpgliffaaPuX
namespace Go.Proofs.Ytfkidjkpgliffaa
open Go.RowKit
def awake_sp : Spec := { keep := true, run := fun _ args k => match args with
  | [] => k [RV.d .bool true]
  | _ => none }
theorem awake_spec : callable Try.prog 33 = true ∧ SpecOk Try.prog 33 awake_sp ∧ ∀ g, awake_sp.mut_ = some g → MCon Try.prog 33 g := by
  refine ⟨by kernel_rfl, fun R args k r h => ?_, fun g h => by simp [awake_sp] at h⟩
  unfold awake_sp at h
  dsimp only at h
  split at h <;> try (cases h; done)
  exact ⟨_, h, awake_con ⟩
def small_sp : Spec := { keep := true, run := fun _ args k => match args with
  | [.d (.sl (.sl .bool)) reach, .d (.sl (.int .i64)) cost, .d (.int .i64) tools, .d (.int .i64) pieces] => match decide (reach.length ≤ 9223372036854775807 ∧ -9223372036854775808 ≤ tools ∧ tools ≤ 9223372036854775806) with
    | true => k [RV.d .bool (smallF reach cost tools pieces)]
    | false => none
  | _ => none }
theorem small_spec : callable Try.prog 34 = true ∧ SpecOk Try.prog 34 small_sp ∧ ∀ g, small_sp.mut_ = some g → MCon Try.prog 34 g := by
  refine ⟨by kernel_rfl, fun R args k r h => ?_, fun g h => by simp [small_sp] at h⟩
  unfold small_sp at h
  dsimp only at h
  split at h <;> try (cases h; done)
  split at h <;> try (cases h; done)
  rename_i hd
  exact ⟨_, h, small_con _ _ _ _ (of_decide_eq_true hd)⟩
def cvalid_sp : Spec := { keep := true, run := fun _ args k => match args with
  | [.d (.sl (.sl .bool)) reach, .d (.sl (.int .i64)) cost, .d (.int .i64) tools, .d (.int .i64) pieces] => match decide (reach.length ≤ 9223372036854775807) with
    | true => k [RV.d (.int .i64) (validF reach cost tools pieces)]
    | false => none
  | _ => none }
theorem cvalid_spec : callable Try.prog 70 = true ∧ SpecOk Try.prog 70 cvalid_sp ∧ ∀ g, cvalid_sp.mut_ = some g → MCon Try.prog 70 g := by
  refine ⟨by kernel_rfl, fun R args k r h => ?_, fun g h => by simp [cvalid_sp] at h⟩
  unfold cvalid_sp at h
  dsimp only at h
  split at h <;> try (cases h; done)
  split at h <;> try (cases h; done)
  rename_i hd
  exact ⟨_, h, cvalid_con _ _ _ _ (of_decide_eq_true hd)⟩
def rvalid_sp : Spec := { keep := true, run := fun _ args k => match args with
  | [.d (.sl (.sl .bool)) reach, .d (.sl (.int .i64)) cost, .d (.int .i64) tools, .d (.int .i64) pieces] => match decide (reach.length ≤ 9223372036854775807) with
    | true => k [RV.d (.int .i64) (validF reach cost tools pieces)]
    | false => none
  | _ => none }
theorem rvalid_spec : callable Try.prog 36 = true ∧ SpecOk Try.prog 36 rvalid_sp ∧ ∀ g, rvalid_sp.mut_ = some g → MCon Try.prog 36 g := by
  refine ⟨by kernel_rfl, fun R args k r h => ?_, fun g h => by simp [rvalid_sp] at h⟩
  unfold rvalid_sp at h
  dsimp only at h
  split at h <;> try (cases h; done)
  split at h <;> try (cases h; done)
  rename_i hd
  exact ⟨_, h, rvalid_con _ _ _ _ (of_decide_eq_true hd)⟩
def envLV : Env := [(33, awake_sp), (34, small_sp), (70, cvalid_sp), (36, rvalid_sp)]
theorem envLV_ok : EnvAll Try.prog envLV := ⟨awake_spec, small_spec, cvalid_spec, rvalid_spec, trivial⟩
def lawV_nt : NT := []
noncomputable def lawV_C : Ctx := ⟨Try.prog, ft, tys, envLV, lawV_nt⟩
def lawV_t (k : Nat → Cfg → Option (List RV)) (reach : List (List Bool)) (cost : List Int) : Option (List RV) := match !true with | true => some [RV.d .bool true] | false => (match decide (reach.length ≤ 9223372036854775807 ∧ -9223372036854775808 ≤ (202 : Int) ∧ (202 : Int) ≤ 9223372036854775806) with | true => (match !(smallF reach cost (202 : Int) (300 : Int)) with | true => some [RV.d .bool true] | false => (match decide (reach.length ≤ 9223372036854775807) with | true => (match decide (reach.length ≤ 9223372036854775807) with | true => some [RV.d .bool ((validF reach cost (200 : Int) (200 : Int)) == (validF reach cost (200 : Int) (200 : Int)))] | false => none) | false => none)) | false => none)
theorem lawV_eq (k : Nat → Cfg → Option (List RV)) (reach : List (List Bool)) (cost : List Int) : go Try.prog ft tys envLV lawV_nt k 4000 (start 7 [.d (.sl (.sl .bool)) reach, .d (.sl (.int .i64)) cost]) (.node 0) = lawV_t k reach cost := by kernel_rfl
theorem lawV_s (reach : List (List Bool)) (cost : List Int) {r : List RV} (h : ∃ n, lawV_t (lawV_C.k n) reach cost = some r) : lawV_C.Res 7 [.d (.sl (.sl .bool)) reach, .d (.sl (.int .i64)) cost] r := by
  obtain ⟨n, h⟩ := h
  exact ⟨n, (lawV_eq _ reach cost).trans h⟩
theorem lawV_con (reach : List (List Bool)) (cost : List Int) (h1 : (Ty.sl (.sl .bool)).ok reach) (h2 : (Ty.sl (.int .i64)).ok cost) : Con Try.prog 7 [.d (.sl (.sl .bool)) reach, .d (.sl (.int .i64)) cost] [.d .bool true] := by
  refine Ctx.Res.con (C := lawV_C) (ctx_ok envLV_ok) ?_ (fn := Try.f7) (by kernel_rfl) (by kernel_rfl)
  refine lawV_s _ _ ⟨0, ?_⟩
  have hb := h1.1
  unfold lawV_t
  rw [decide_eq_true (show reach.length ≤ 9223372036854775807 from hb), decide_eq_true (show (reach.length ≤ 9223372036854775807 ∧ (-9223372036854775808 : Int) ≤ 202 ∧ (202 : Int) ≤ 9223372036854775806) from ⟨hb, by decide, by decide⟩)]
  dsimp only
  cases c1 : smallF reach cost 202 300 with
  | false => rfl
  | true => simp
end Go.Proofs.Ytfkidjkpgliffaa
