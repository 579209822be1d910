/- The law ChooseCoverable returns true. -/
import Derived.Test.YtfkidjkpgliffaaCh4
import Derived.Test.YtfkidjkpgliffaaChSpecs
namespace Go.Proofs.Ytfkidjkpgliffaa
open Go.RowKit
def ccs_sp : Spec := { keep := true, run := fun _ args k => match args with
  | [.d (.sl (.sl .bool)) reach, .d (.sl (.int .i64)) l] => match decide (small3 reach ∧ l.length ≤ 1000000) with
    | true => k [RV.d .bool (coversF reach l)]
    | false => none
  | _ => none }
theorem ccs_spec : callable Try.prog 52 = true ∧ SpecOk Try.prog 52 ccs_sp ∧ ∀ g, ccs_sp.mut_ = some g → MCon Try.prog 52 g := by
  refine ⟨by kernel_rfl, fun R args k r h => ?_, fun g h => by simp [ccs_sp] at h⟩
  unfold ccs_sp at h
  dsimp only at h
  split at h <;> try (cases h; done)
  split at h <;> try (cases h; done)
  rename_i hd
  exact ⟨_, h, ccs_con _ _ (of_decide_eq_true hd)⟩
def rcs_sp : Spec := { keep := true, run := fun _ args k => match args with
  | [.d (.sl (.sl .bool)) reach, .d (.sl (.int .i64)) l] => match decide (small3 reach ∧ l.length ≤ 1000000) with
    | true => k [RV.d .bool (coversF reach l)]
    | false => none
  | _ => none }
theorem rcs_spec : callable Try.prog 48 = true ∧ SpecOk Try.prog 48 rcs_sp ∧ ∀ g, rcs_sp.mut_ = some g → MCon Try.prog 48 g := by
  refine ⟨by kernel_rfl, fun R args k r h => ?_, fun g h => by simp [rcs_sp] at h⟩
  unfold rcs_sp at h
  dsimp only at h
  split at h <;> try (cases h; done)
  split at h <;> try (cases h; done)
  rename_i hd
  exact ⟨_, h, rcs_con _ _ (of_decide_eq_true hd)⟩
def envLC : Env := [(33, awake_sp), (42, right_sp), (50, ccov_sp), (51, rcov_sp), (52, ccs_sp), (48, rcs_sp)]
theorem envLC_ok : EnvAll Try.prog envLC := ⟨awake_spec, right_spec, ccov_spec, rcov_spec, ccs_spec, rcs_spec, trivial⟩
def lawC_nt : NT := [((13, 24), { keep := [0, 2, 7, 8, 34, 35], hl := 2 })]
noncomputable def lawC_C : Ctx := ⟨Try.prog, ft, tys, envLC, lawC_nt⟩
def lawC_h24 (reach : List (List Bool)) (tools : List Int) (s35 : Int) : Cfg := ⟨13, [.blk 0, .seq 43], [(0, .d (.sl (.sl .bool)) reach), (2, .d (.sl (.int .i64)) tools), (7, .own 0), (8, .own 1), (34, SI ((covF reach).length : Int)), (35, SI s35)], [.row 4 .bool (covF reach), .row 4 .bool (covF reach)], 0, []⟩
def lawC_t (k : Nat → Cfg → Option (List RV)) (reach : List (List Bool)) (cost : List Int) (tools : List Int) : Option (List RV) := match !true with | true => some [RV.d .bool true] | false => (match decide (reach.length ≤ 9223372036854775807) with | true => (match !(rightF reach cost) with | true => some [RV.d .bool true] | false => (match decide ((tools.length : Int) > 20) with | true => some [RV.d .bool true] | false => (match decide (small3 reach) with | true => (match decide (small3 reach) with | true => (match ((covF reach).length : Int) != ((covF reach).length : Int) with | true => some [RV.d .bool false] | false => k 24 (lawC_h24 reach tools 0)) | false => none) | false => none))) | false => none)
theorem lawC_eq (k : Nat → Cfg → Option (List RV)) (reach : List (List Bool)) (cost : List Int) (tools : List Int) : go Try.prog ft tys envLC lawC_nt k 4000 (start 13 [.d (.sl (.sl .bool)) reach, .d (.sl (.int .i64)) cost, .d (.sl (.int .i64)) tools]) (.node 0) = lawC_t k reach cost tools := by kernel_rfl
theorem lawC_s (reach : List (List Bool)) (cost : List Int) (tools : List Int) {r : List RV} (h : ∃ n, lawC_t (lawC_C.k n) reach cost tools = some r) : lawC_C.Res 13 [.d (.sl (.sl .bool)) reach, .d (.sl (.int .i64)) cost, .d (.sl (.int .i64)) tools] r := by
  obtain ⟨n, h⟩ := h
  exact ⟨n, (lawC_eq _ reach cost tools).trans h⟩
def lawC_h24_t (k : Nat → Cfg → Option (List RV)) (reach : List (List Bool)) (tools : List Int) (s35 : Int) : Option (List RV) := match decide (s35 < ((covF reach).length : Int)) with | true => (match getI (covF reach) s35 with | some _ => (match true, (covF reach)[(s35).toNat]? with | true, some x1 => (match getI (covF reach) s35 with | some _ => (match true, (covF reach)[(s35).toNat]? with | true, some x2 => (match !(x1 == x2) with | true => some [RV.d .bool false] | false => k 24 (lawC_h24 reach tools (IntKind.i64.wrap (s35 + 1)))) | _, _ => none) | none => none) | _, _ => none) | none => none) | false => (match decide (small3 reach ∧ tools.length ≤ 1000000) with | true => (match decide (small3 reach ∧ tools.length ≤ 1000000) with | true => some [RV.d .bool ((coversF reach tools) == (coversF reach tools))] | false => none) | false => none)
theorem lawC_h24_eq (k : Nat → Cfg → Option (List RV)) (reach : List (List Bool)) (tools : List Int) (s35 : Int) : go Try.prog ft tys envLC lawC_nt k 4000 { lawC_h24 reach tools s35 with K := .lp 24 :: (lawC_h24 reach tools s35).K } (.node 25) = lawC_h24_t k reach tools s35 := by kernel_rfl
theorem lawC_h24_s (reach : List (List Bool)) (tools : List Int) (s35 : Int) {r : List RV} (h : ∃ n, lawC_h24_t (lawC_C.k n) reach tools s35 = some r) : lawC_C.Runs 24 (lawC_h24 reach tools s35) r := by
  obtain ⟨n, h⟩ := h
  exact ⟨n + 1, (lawC_h24_eq _ reach tools s35).trans h⟩
theorem lawC_loop (reach : List (List Bool)) (tools : List Int) (h : small3 reach) (ht : tools.length ≤ 1000000) : ∀ d k, (covF reach).length - k = d → k ≤ (covF reach).length → lawC_C.Runs 24 (lawC_h24 reach tools (k : Int)) [.d .bool true] := by
  have h2 := h.2.1
  have h3 := covF_len reach
  intro d
  induction d with
  | zero =>
    intro k hd hk
    refine lawC_h24_s _ _ _ ⟨0, ?_⟩
    unfold lawC_h24_t
    rw [ge_dec (by omega), decide_eq_true (show small3 reach ∧ tools.length ≤ 1000000 from ⟨h, ht⟩)]
    simp
  | succ d ih =>
    intro k hd hk
    have hlt : k < (covF reach).length := by omega
    refine lawC_h24_s _ _ _ ?_
    unfold lawC_h24_t
    rw [lt_dec hlt, getI_nat, toNat_nat, List.getElem?_eq_getElem hlt, wrapS (by omega)]
    dsimp only
    rw [show (!((covF reach)[k] == (covF reach)[k])) = false by simp]
    exact ih (k + 1) (by omega) (by omega)
theorem lawC_con (reach : List (List Bool)) (cost tools : List Int) (h1 : (Ty.sl (.sl .bool)).ok reach) (h2 : (Ty.sl (.int .i64)).ok cost) (h3 : (Ty.sl (.int .i64)).ok tools) : Con Try.prog 13 [.d (.sl (.sl .bool)) reach, .d (.sl (.int .i64)) cost, .d (.sl (.int .i64)) tools] [.d .bool true] := by
  refine Ctx.Res.con (C := lawC_C) (ctx_ok envLC_ok) ?_ (fn := Try.f13) (by kernel_rfl) (by kernel_rfl)
  refine lawC_s _ _ _ ?_
  have hb := h1.1
  unfold lawC_t
  rw [decide_eq_true (show reach.length ≤ 9223372036854775807 from hb)]
  dsimp only
  cases c1 : rightF reach cost with
  | false => exact ⟨0, rfl⟩
  | true =>
    have hs := (right_good c1).s3 (by omega) (by omega)
    cases c2 : decide ((tools.length : Int) > 20) with
    | true => exact ⟨0, rfl⟩
    | false =>
      have := of_decide_eq_false c2
      rw [decide_eq_true hs, show (((covF reach).length : Int) != ((covF reach).length : Int)) = false by simp]
      exact lawC_loop reach tools hs (by omega) _ 0 rfl (Nat.zero_le _)
end Go.Proofs.Ytfkidjkpgliffaa
