/- choose.Valid and the reference's. -/
import Derived.Test.YtfkidjkpgliffaaCh1
namespace Go.Proofs.Ytfkidjkpgliffaa
open Go.RowKit
def large_sp : Spec := { keep := true, run := fun _ args k => match args with
  | [.d (.sl (.sl .bool)) reach, .d (.int .i64) tools, .d (.int .i64) pieces] => match decide (reach.length ≤ 9223372036854775807) with
    | true => k [RV.d .bool (largeF reach tools pieces)]
    | false => none
  | _ => none }
theorem large_spec : callable Try.prog 89 = true ∧ SpecOk Try.prog 89 large_sp ∧ ∀ g, large_sp.mut_ = some g → MCon Try.prog 89 g := by
  refine ⟨by kernel_rfl, fun R args k r h => ?_, fun g h => by simp [large_sp] at h⟩
  unfold large_sp at h
  dsimp only at h
  split at h <;> try (cases h; done)
  split at h <;> try (cases h; done)
  rename_i hd
  exact ⟨_, h, large_con _ _ _ (of_decide_eq_true hd)⟩
def envV : Env := [(89, large_sp)]
theorem envV_ok : EnvAll Try.prog envV := ⟨large_spec, trivial⟩
def cvalid_nt : NT := [((70, 22), { keep := [0, 1, 20, 21, 22], hl := 0 })]
noncomputable def cvalid_C : Ctx := ⟨Try.prog, ft, tys, envV, cvalid_nt⟩
def cvalid_h22 (reach : List (List Bool)) (cost : List Int) (s22 : Int) : Cfg := ⟨70, [.blk 0, .seq 41], [(0, .d (.sl (.sl .bool)) reach), (1, .d (.sl (.int .i64)) cost), (20, .d (.sl (.sl .bool)) reach), (21, SI (reach.length : Int)), (22, SI s22)], [], 0, []⟩
def cvalid_t (k : Nat → Cfg → Option (List RV)) (reach : List (List Bool)) (cost : List Int) (tools : Int) (pieces : Int) : Option (List RV) := match decide (reach.length ≤ 9223372036854775807) with | true => (match largeF reach tools pieces with | true => some [RV.d (.int .i64) 3] | false => (match (reach.length : Int) != (cost.length : Int) with | true => some [RV.d (.int .i64) 1] | false => k 22 (cvalid_h22 reach cost 0))) | false => none
theorem cvalid_eq (k : Nat → Cfg → Option (List RV)) (reach : List (List Bool)) (cost : List Int) (tools : Int) (pieces : Int) : go Try.prog ft tys envV cvalid_nt k 4000 (start 70 [.d (.sl (.sl .bool)) reach, .d (.sl (.int .i64)) cost, SI tools, SI pieces]) (.node 0) = cvalid_t k reach cost tools pieces := by kernel_rfl
theorem cvalid_s (reach : List (List Bool)) (cost : List Int) (tools : Int) (pieces : Int) {r : List RV} (h : ∃ n, cvalid_t (cvalid_C.k n) reach cost tools pieces = some r) : cvalid_C.Res 70 [.d (.sl (.sl .bool)) reach, .d (.sl (.int .i64)) cost, SI tools, SI pieces] r := by
  obtain ⟨n, h⟩ := h
  exact ⟨n, (cvalid_eq _ reach cost tools pieces).trans h⟩
def cvalid_h22_t (k : Nat → Cfg → Option (List RV)) (reach : List (List Bool)) (cost : List Int) (s22 : Int) : Option (List RV) := match decide (s22 < (reach.length : Int)) with | true => (match getI reach s22 with | some x1 => (match getI reach 0 with | some x2 => (match (x1.length : Int) != (x2.length : Int) with | true => some [RV.d (.int .i64) 1] | false => (match getI cost s22 with | some x3 => (match decide (x3 < 0) with | true => some [RV.d (.int .i64) 1] | false => (match getI cost s22 with | some x4 => (match decide (x4 > 2147483648) with | true => some [RV.d (.int .i64) 1] | false => k 22 (cvalid_h22 reach cost (IntKind.i64.wrap (s22 + 1)))) | none => none)) | none => none)) | none => none) | none => none) | false => some [RV.d (.int .i64) 0]
theorem cvalid_h22_eq (k : Nat → Cfg → Option (List RV)) (reach : List (List Bool)) (cost : List Int) (s22 : Int) : go Try.prog ft tys envV cvalid_nt k 4000 { cvalid_h22 reach cost s22 with K := .lp 22 :: (cvalid_h22 reach cost s22).K } (.node 23) = cvalid_h22_t k reach cost s22 := by kernel_rfl
theorem cvalid_h22_s (reach : List (List Bool)) (cost : List Int) (s22 : Int) {r : List RV} (h : ∃ n, cvalid_h22_t (cvalid_C.k n) reach cost s22 = some r) : cvalid_C.Runs 22 (cvalid_h22 reach cost s22) r := by
  obtain ⟨n, h⟩ := h
  exact ⟨n + 1, (cvalid_h22_eq _ reach cost s22).trans h⟩
/-- Rows of other lengths, prices out of the range. -/
def bad (n0 : Nat) : List (List Bool) → List Int → Bool
  | l :: ls, c :: cs => ((l.length : Int) != (n0 : Int)) || decide (c < 0) || decide (c > 2147483648) || bad n0 ls cs
  | _, _ => false
def validF (reach : List (List Bool)) (cost : List Int) (tools pieces : Int) : Int :=
  bif largeF reach tools pieces then 3 else bif decide (reach.length ≠ cost.length) then 1 else bif bad (reach.headD []).length reach cost then 1 else 0
theorem cvalid_loop (reach : List (List Bool)) (cost : List Int) (hb : reach.length ≤ 9223372036854775807) (hl : reach.length = cost.length) : ∀ d k, reach.length - k = d → k ≤ reach.length → cvalid_C.Runs 22 (cvalid_h22 reach cost (k : Int)) [.d (.int .i64) (bif bad (reach.headD []).length (reach.drop k) (cost.drop k) then (1 : Int) else 0)] := by
  intro d
  induction d with
  | zero =>
    intro k hd hk
    refine cvalid_h22_s _ _ _ ⟨0, ?_⟩
    unfold cvalid_h22_t
    rw [ge_dec (by omega), drop_end (show reach.length ≤ k by omega)]
    rfl
  | succ d ih =>
    intro k hd hk
    have hlt : k < reach.length := by omega
    have hlc : k < cost.length := by omega
    have h0 : reach[0]? = some (reach.headD []) := by cases reach with | nil => simp at hlt | cons => rfl
    refine cvalid_h22_s _ _ _ ?_
    unfold cvalid_h22_t
    rw [lt_dec hlt, getI_nat, getI_nat, List.getElem?_eq_getElem hlt, List.getElem?_eq_getElem hlc, getI_zero, h0, drop_get hlt, drop_get hlc]
    simp only [bad]
    cases c1 : ((reach[k].length : Int) != ((reach.headD []).length : Int)) with
    | true => exact ⟨0, rfl⟩
    | false =>
      cases c2 : decide (cost[k] < 0) with
      | true => exact ⟨0, rfl⟩
      | false =>
        cases c3 : decide (cost[k] > 2147483648) with
        | true => exact ⟨0, rfl⟩
        | false =>
          dsimp only
          rw [wrapS (by omega)]
          exact ih (k + 1) (by omega) (by omega)
theorem rvalid_loop (reach : List (List Bool)) (cost : List Int) (hb : reach.length ≤ 9223372036854775807) (hl : reach.length = cost.length) : ∀ d k, reach.length - k = d → k ≤ reach.length → rvalid_C.Runs 43 (rvalid_h43 reach cost (k : Int)) [.d (.int .i64) (bif bad (reach.headD []).length (reach.drop k) (cost.drop k) then (1 : Int) else 0)] := by
  intro d
  induction d with
  | zero =>
    intro k hd hk
    refine rvalid_h43_s _ _ _ ⟨0, ?_⟩
    unfold rvalid_h43_t
    rw [ge_dec (by omega), drop_end (show reach.length ≤ k by omega)]
    rfl
  | succ d ih =>
    intro k hd hk
    have hlt : k < reach.length := by omega
    have hlc : k < cost.length := by omega
    have h0 : reach[0]? = some (reach.headD []) := by cases reach with | nil => simp at hlt | cons => rfl
    refine rvalid_h43_s _ _ _ ?_
    unfold rvalid_h43_t
    rw [lt_dec hlt, getI_nat, getI_nat, List.getElem?_eq_getElem hlt, List.getElem?_eq_getElem hlc, getI_zero, h0, drop_get hlt, drop_get hlc]
    simp only [bad]
    cases c1 : ((reach[k].length : Int) != ((reach.headD []).length : Int)) with
    | true => exact ⟨0, rfl⟩
    | false =>
      cases c2 : decide (cost[k] < 0) with
      | true => exact ⟨0, rfl⟩
      | false =>
        cases c3 : decide (cost[k] > 2147483648) with
        | true => exact ⟨0, rfl⟩
        | false =>
          dsimp only
          rw [wrapS (by omega)]
          exact ih (k + 1) (by omega) (by omega)
theorem ne_bool {a b : Nat} : ((a : Int) != (b : Int)) = decide (a ≠ b) := by
  by_cases h : a = b
  · subst h; simp
  · rw [decide_eq_true h, bne_iff_ne]; omega
theorem cvalid_con (reach : List (List Bool)) (cost : List Int) (tools pieces : Int) (hb : reach.length ≤ 9223372036854775807) : Con Try.prog 70 [.d (.sl (.sl .bool)) reach, .d (.sl (.int .i64)) cost, SI tools, SI pieces] [.d (.int .i64) (validF reach cost tools pieces)] := by
  refine Ctx.Res.con (C := cvalid_C) (ctx_ok envV_ok) ?_ (fn := Try.f70) (by kernel_rfl) (by kernel_rfl)
  refine cvalid_s _ _ _ _ ?_
  unfold cvalid_t validF
  rw [decide_eq_true hb]
  dsimp only
  cases c1 : largeF reach tools pieces with
  | true => exact ⟨0, rfl⟩
  | false =>
    rw [ne_bool]
    by_cases hl : reach.length = cost.length
    · rw [decide_eq_false (by simpa using hl)]
      exact cvalid_loop reach cost hb hl _ 0 rfl (Nat.zero_le _)
    · rw [decide_eq_true hl]
      exact ⟨0, rfl⟩
theorem rvalid_first (reach : List (List Bool)) (cost : List Int) (pieces : Int) (hb : reach.length ≤ 9223372036854775807) : ∀ d k, reach.length - k = d → k ≤ reach.length → rvalid_C.Runs 14 (rvalid_h14 reach cost pieces (k : Int)) [.d (.int .i64) (bif (reach.drop k).any (longer pieces) then (3 : Int) else bif decide (reach.length ≠ cost.length) then 1 else bif bad (reach.headD []).length reach cost then 1 else 0)] := by
  intro d
  induction d with
  | zero =>
    intro k hd hk
    refine rvalid_h14_s _ _ _ _ ?_
    unfold rvalid_h14_t
    rw [ge_dec (by omega), drop_end (show reach.length ≤ k by omega), ne_bool]
    by_cases hl : reach.length = cost.length
    · rw [decide_eq_false (by simpa using hl.symm), decide_eq_false (by simpa using hl)]
      exact rvalid_loop reach cost hb hl _ 0 rfl (Nat.zero_le _)
    · rw [decide_eq_true (show cost.length ≠ reach.length from fun e => hl e.symm), decide_eq_true hl]
      exact ⟨0, rfl⟩
  | succ d ih =>
    intro k hd hk
    have hlt : k < reach.length := by omega
    refine rvalid_h14_s _ _ _ _ ?_
    unfold rvalid_h14_t
    rw [lt_dec hlt, getI_nat, List.getElem?_eq_getElem hlt, drop_get hlt, List.any_cons]
    dsimp only
    cases hc : decide ((reach[k].length : Int) > pieces) with
    | true =>
      have : longer pieces reach[k] = true := hc
      rw [this]
      exact ⟨0, rfl⟩
    | false =>
      have : longer pieces reach[k] = false := hc
      rw [this, Bool.false_or, wrapS (by omega)]
      exact ih (k + 1) (by omega) (by omega)
theorem rvalid_con (reach : List (List Bool)) (cost : List Int) (tools pieces : Int) (hb : reach.length ≤ 9223372036854775807) : Con Try.prog 36 [.d (.sl (.sl .bool)) reach, .d (.sl (.int .i64)) cost, SI tools, SI pieces] [.d (.int .i64) (validF reach cost tools pieces)] := by
  refine Ctx.Res.con (C := rvalid_C) (ctx_ok (E := []) trivial) ?_ (fn := Try.f36) (by kernel_rfl) (by kernel_rfl)
  refine rvalid_s _ _ _ _ ?_
  unfold rvalid_t validF largeF
  cases c1 : decide ((reach.length : Int) > tools) with
  | true => exact ⟨0, rfl⟩
  | false => exact rvalid_first reach cost pieces hb _ 0 rfl (Nat.zero_le _)
def smallF (reach : List (List Bool)) (cost : List Int) (tools pieces : Int) : Bool := !decide ((reach.length : Int) > tools) && !decide ((cost.length : Int) > tools + 1) && !reach.any (longer pieces)
theorem small_loop (reach : List (List Bool)) (pieces : Int) (hb : reach.length ≤ 9223372036854775807) : ∀ d k, reach.length - k = d → k ≤ reach.length → small_C.Runs 14 (small_h14 reach pieces (k : Int)) [.d .bool (!(reach.drop k).any (longer pieces))] := by
  intro d
  induction d with
  | zero =>
    intro k hd hk
    refine small_h14_s _ _ _ ⟨0, ?_⟩
    unfold small_h14_t
    rw [ge_dec (by omega), drop_end (by omega)]
    rfl
  | succ d ih =>
    intro k hd hk
    have hlt : k < reach.length := by omega
    refine small_h14_s _ _ _ ?_
    unfold small_h14_t
    rw [lt_dec hlt, getI_nat, List.getElem?_eq_getElem hlt, drop_get hlt, List.any_cons]
    dsimp only
    cases hc : decide ((reach[k].length : Int) > pieces) with
    | true =>
      have : longer pieces reach[k] = true := hc
      rw [this]
      exact ⟨0, rfl⟩
    | false =>
      have : longer pieces reach[k] = false := hc
      rw [this, Bool.false_or, wrapS (by omega)]
      exact ih (k + 1) (by omega) (by omega)
theorem small_con (reach : List (List Bool)) (cost : List Int) (tools pieces : Int) (hb : reach.length ≤ 9223372036854775807 ∧ -9223372036854775808 ≤ tools ∧ tools ≤ 9223372036854775806) : Con Try.prog 34 [.d (.sl (.sl .bool)) reach, .d (.sl (.int .i64)) cost, SI tools, SI pieces] [.d .bool (smallF reach cost tools pieces)] := by
  refine Ctx.Res.con (C := small_C) (ctx_ok (E := []) trivial) ?_ (fn := Try.f34) (by kernel_rfl) (by kernel_rfl)
  refine small_s _ _ _ _ ?_
  unfold small_t smallF
  rw [wrap64 (by omega) (by omega)]
  cases c1 : decide ((reach.length : Int) > tools) with
  | true => exact ⟨0, rfl⟩
  | false =>
    cases c2 : decide ((cost.length : Int) > tools + 1) with
    | true => exact ⟨0, rfl⟩
    | false => exact small_loop reach pieces hb.1 _ 0 rfl (Nat.zero_le _)
end Go.Proofs.Ytfkidjkpgliffaa
