/- The chapter's example: awake returns true. -/
import Derived.Test.YtfkidjkpgliffaaSortC
import Derived.Test.YtfkidjkpgliffaaCloneC
import Derived.Test.YtfkidjkpgliffaaEnvKit
namespace Go.Proofs.Ytfkidjkpgliffaa
open Go.RowKit
def spSort : Spec := ⟨true, fun _ _ _ => none, some isort⟩
def spClone : Spec := { keep := true, run := fun _ args k => match args with
  | [.d (.sl (.int .i64)) xs] => match decide (xs.length ≤ 10000000000) with
    | true => k [.new 2 (.int .i64) xs]
    | false => none
  | _ => none }
theorem sort_spec : callable Try.prog 75 = true ∧ SpecOk Try.prog 75 spSort ∧ ∀ g, spSort.mut_ = some g → MCon Try.prog 75 g :=
  ⟨by kernel_rfl, fun _ _ _ _ h => by simp [spSort] at h, fun g h => by simp only [spSort, Option.some.injEq] at h; subst h; exact mconI⟩
theorem clone_spec : callable Try.prog 79 = true ∧ SpecOk Try.prog 79 spClone ∧ ∀ g, spClone.mut_ = some g → MCon Try.prog 79 g := by
  refine ⟨by kernel_rfl, fun R args k r h => ?_, fun g h => by simp [spClone] at h⟩
  unfold spClone at h
  dsimp only at h
  split at h <;> try (cases h; done)
  rename_i xs
  split at h <;> try (cases h; done)
  rename_i hd
  exact ⟨_, h, clone_con xs hd⟩
noncomputable def ctx0 : Ctx := ⟨Try.prog, ft, tys, [], []⟩
theorem example_con : Con Try.prog 69 [] [.d (.sl (.sl .bool)) [[true, true, false], [false, true, true], [true, true, true]], .d (.sl (.int .i64)) [3, 4, 6]] :=
  Ctx.Res.con (C := ctx0) (ctx_ok (E := []) trivial) ⟨0, by kernel_rfl⟩ (fn := Try.f69) (by kernel_rfl) (by kernel_rfl)
def example_sp : Spec := { keep := false, run := fun _ args k => match args with
  | [] => k [RV.d (.sl (.sl .bool)) ([[true, true, false], [false, true, true], [true, true, true]]), RV.d (.sl (.int .i64)) ([3, 4, 6])]
  | _ => none }
theorem example_spec : callable Try.prog 69 = true ∧ SpecOk Try.prog 69 example_sp ∧ ∀ g, example_sp.mut_ = some g → MCon Try.prog 69 g := by
  refine ⟨by kernel_rfl, fun R args k r h => ?_, fun g h => by simp [example_sp] at h⟩
  unfold example_sp at h
  dsimp only at h
  split at h <;> try (cases h; done)
  exact ⟨_, h, example_con ⟩
def exR : List (List Bool) := [[true, true, false], [false, true, true], [true, true, true]]
def exC : List Int := [3, 4, 6]
def envB : Env := [(75, spSort), (79, spClone)]
theorem envB_all : EnvAll Try.prog envB := ⟨sort_spec, clone_spec, trivial⟩
noncomputable def ctxB : Ctx := ⟨Try.prog, ft, tys, envB, []⟩
set_option maxRecDepth 1000000 in
theorem prices_ex : Con Try.prog 43 [.d (.sl (.sl .bool)) exR, .d (.sl (.int .i64)) exC, .d (.sl (.int .i64)) [3, 0, 3]] [.d (.int .i64) (6 : Int), .d .bool true] :=
  Ctx.Res.con (C := ctxB) (ctx_ok envB_all) ⟨300, by kernel_rfl⟩ (fn := Try.f43) (by kernel_rfl) (by kernel_rfl)
set_option maxRecDepth 1000000 in
theorem raise_ex : Con Try.prog 45 [.d (.sl (.sl .bool)) exR, .d (.sl (.int .i64)) exC] [.d (.sl (.int .i64)) [3, 0, 3], .d (.int .i64) (0 : Int)] :=
  Ctx.Res.con (C := ctxB) (ctx_ok envB_all) ⟨300, by kernel_rfl⟩ (fn := Try.f45) (by kernel_rfl) (by kernel_rfl)
set_option maxRecDepth 1000000 in
theorem greedy_ex : Con Try.prog 40 [.d (.sl (.sl .bool)) exR, .d (.sl (.int .i64)) exC] [.d (.sl (.int .i64)) [0, 1], .d (.int .i64) (7 : Int), .d (.int .i64) (0 : Int)] :=
  Ctx.Res.con (C := ctxB) (ctx_ok envB_all) ⟨300, by kernel_rfl⟩ (fn := Try.f40) (by kernel_rfl) (by kernel_rfl)
set_option maxRecDepth 1000000 in
theorem best_ex : Con Try.prog 37 [.d (.sl (.sl .bool)) exR, .d (.sl (.int .i64)) exC] [.d (.sl (.int .i64)) [2], .d (.int .i64) (6 : Int), .d (.int .i64) (0 : Int)] :=
  Ctx.Res.con (C := ctxB) (ctx_ok envB_all) ⟨300, by kernel_rfl⟩ (fn := Try.f37) (by kernel_rfl) (by kernel_rfl)
def best_exsp : Spec := { keep := false, run := fun _ args k => match args with
  | [.d (.sl (.sl .bool)) r, .d (.sl (.int .i64)) c] => match decide (r = exR ∧ c = exC) with
    | true => k [.d (.sl (.int .i64)) [2], .d (.int .i64) (6 : Int), .d (.int .i64) (0 : Int)]
    | false => none
  | _ => none }
theorem best_exspec : callable Try.prog 37 = true ∧ SpecOk Try.prog 37 best_exsp ∧ ∀ g, best_exsp.mut_ = some g → MCon Try.prog 37 g := by
  refine ⟨by kernel_rfl, fun R args k r h => ?_, fun g h => by simp [best_exsp] at h⟩
  unfold best_exsp at h
  dsimp only at h
  split at h <;> try (cases h; done)
  split at h <;> try (cases h; done)
  rename_i hd
  obtain ⟨rfl, rfl⟩ := of_decide_eq_true hd
  exact ⟨_, h, best_ex⟩
def greedy_exsp : Spec := { keep := false, run := fun _ args k => match args with
  | [.d (.sl (.sl .bool)) r, .d (.sl (.int .i64)) c] => match decide (r = exR ∧ c = exC) with
    | true => k [.d (.sl (.int .i64)) [0, 1], .d (.int .i64) (7 : Int), .d (.int .i64) (0 : Int)]
    | false => none
  | _ => none }
theorem greedy_exspec : callable Try.prog 40 = true ∧ SpecOk Try.prog 40 greedy_exsp ∧ ∀ g, greedy_exsp.mut_ = some g → MCon Try.prog 40 g := by
  refine ⟨by kernel_rfl, fun R args k r h => ?_, fun g h => by simp [greedy_exsp] at h⟩
  unfold greedy_exsp at h
  dsimp only at h
  split at h <;> try (cases h; done)
  split at h <;> try (cases h; done)
  rename_i hd
  obtain ⟨rfl, rfl⟩ := of_decide_eq_true hd
  exact ⟨_, h, greedy_ex⟩
def raise_exsp : Spec := { keep := false, run := fun _ args k => match args with
  | [.d (.sl (.sl .bool)) r, .d (.sl (.int .i64)) c] => match decide (r = exR ∧ c = exC) with
    | true => k [.d (.sl (.int .i64)) [3, 0, 3], .d (.int .i64) (0 : Int)]
    | false => none
  | _ => none }
theorem raise_exspec : callable Try.prog 45 = true ∧ SpecOk Try.prog 45 raise_exsp ∧ ∀ g, raise_exsp.mut_ = some g → MCon Try.prog 45 g := by
  refine ⟨by kernel_rfl, fun R args k r h => ?_, fun g h => by simp [raise_exsp] at h⟩
  unfold raise_exsp at h
  dsimp only at h
  split at h <;> try (cases h; done)
  split at h <;> try (cases h; done)
  rename_i hd
  obtain ⟨rfl, rfl⟩ := of_decide_eq_true hd
  exact ⟨_, h, raise_ex⟩
def prices_exsp : Spec := { keep := false, run := fun _ args k => match args with
  | [.d (.sl (.sl .bool)) r, .d (.sl (.int .i64)) c, .d (.sl (.int .i64)) q] => match decide (r = exR ∧ c = exC ∧ q = [3, 0, 3]) with
    | true => k [.d (.int .i64) (6 : Int), .d .bool true]
    | false => none
  | _ => none }
theorem prices_exspec : callable Try.prog 43 = true ∧ SpecOk Try.prog 43 prices_exsp ∧ ∀ g, prices_exsp.mut_ = some g → MCon Try.prog 43 g := by
  refine ⟨by kernel_rfl, fun R args k r h => ?_, fun g h => by simp [prices_exsp] at h⟩
  unfold prices_exsp at h
  dsimp only at h
  split at h <;> try (cases h; done)
  split at h <;> try (cases h; done)
  rename_i hd
  obtain ⟨rfl, rfl, rfl⟩ := of_decide_eq_true hd
  exact ⟨_, h, prices_ex⟩
def envA : Env := [(69, example_sp), (37, best_exsp), (40, greedy_exsp), (45, raise_exsp), (43, prices_exsp)]
theorem envA_all : EnvAll Try.prog envA := ⟨example_spec, best_exspec, greedy_exspec, raise_exspec, prices_exspec, trivial⟩
noncomputable def ctxA : Ctx := ⟨Try.prog, ft, tys, envA, []⟩
set_option maxRecDepth 1000000 in
theorem awake_con : Con Try.prog 33 [] [.d .bool true] := Ctx.Res.con (C := ctxA) (ctx_ok envA_all) ⟨300, by kernel_rfl⟩ (fn := Try.f33) (by kernel_rfl) (by kernel_rfl)
end Go.Proofs.Ytfkidjkpgliffaa
