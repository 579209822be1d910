/- The reference's Greedy walks as greedyTo, and its counting sort is isort. -/
import Derived.Test.YtfkidjkpgliffaaCh11
namespace Go.Proofs.Ytfkidjkpgliffaa
open Go.RowKit
def rcs_sp : Spec := { keep := true, run := fun _ args k => match args with
  | [.d (.sl (.sl .bool)) reach, .d (.sl (.int .i64)) l] => match decide (small3 reach ∧ l.length ≤ 1000000) with
    | true => k [RV.d .bool (coversF reach l)]
    | false => none
  | _ => none }
theorem rcs_spec : callable Try.prog 48 = true ∧ SpecOk Try.prog 48 rcs_sp ∧ ∀ g, rcs_sp.mut_ = some g → MCon Try.prog 48 g := by
  refine ⟨by kernel_rfl, fun R args k r h => ?_, fun g h => by simp [rcs_sp] at h⟩
  unfold rcs_sp at h
  dsimp only at h
  split at h <;> try (cases h; done)
  split at h <;> try (cases h; done)
  rename_i hd
  exact ⟨_, h, rcs_con _ _ (of_decide_eq_true hd)⟩
def rfr_sp : Spec := { keep := true, run := fun _ args k => match args with
  | [.d (.sl (.sl .bool)) reach, .d (.sl (.int .i64)) l, .d (.int .i64) t] => match decide (freshP reach l t) with
    | true => k [RV.d (.int .i64) (freshF reach l t)]
    | false => none
  | _ => none }
theorem rfr_spec : callable Try.prog 76 = true ∧ SpecOk Try.prog 76 rfr_sp ∧ ∀ g, rfr_sp.mut_ = some g → MCon Try.prog 76 g := by
  refine ⟨by kernel_rfl, fun R args k r h => ?_, fun g h => by simp [rfr_sp] at h⟩
  unfold rfr_sp at h
  dsimp only at h
  split at h <;> try (cases h; done)
  split at h <;> try (cases h; done)
  rename_i hd
  exact ⟨_, h, rfr_con _ _ _ (of_decide_eq_true hd)⟩
def rco_sp : Spec := { keep := true, run := fun _ args k => match args with
  | [.d (.sl (.int .i64)) cost, .d (.sl (.int .i64)) l] => match decide (costP cost l) with
    | true => k [RV.d (.int .i64) (costF cost l)]
    | false => none
  | _ => none }
theorem rco_spec : callable Try.prog 49 = true ∧ SpecOk Try.prog 49 rco_sp ∧ ∀ g, rco_sp.mut_ = some g → MCon Try.prog 49 g := by
  refine ⟨by kernel_rfl, fun R args k r h => ?_, fun g h => by simp [rco_sp] at h⟩
  unfold rco_sp at h
  dsimp only at h
  split at h <;> try (cases h; done)
  split at h <;> try (cases h; done)
  rename_i hd
  exact ⟨_, h, rco_con _ _ (of_decide_eq_true hd)⟩
def env12 : Env := [(36, rvalid_sp), (48, rcs_sp), (76, rfr_sp), (49, rco_sp)]
theorem env12_ok : EnvAll Try.prog env12 := ⟨rvalid_spec, rcs_spec, rfr_spec, rco_spec, trivial⟩
def rgr_nt : NT := [((41, 16), { keep := [0, 1, 8], own := [(8, 3, .int .i64)], hl := 1 }), ((41, 30), { keep := [0, 1, 8, 9, 10], hl := 1 }), ((41, 54), { keep := [0, 1, 8, 12, 13], own := [(12, 3, .int .i64)], hl := 2 }), ((41, 66), { keep := [0, 1, 8, 12, 13, 14], hl := 2 })]
noncomputable def rgr_C : Ctx := ⟨Try.prog, ft, tys, env12, rgr_nt⟩
def rgr_h16 (reach : List (List Bool)) (cost : List Int) (r0 : List Int) : Cfg := ⟨41, [.blk 0, .seq 48], [(0, .d (.sl (.sl .bool)) reach), (1, .d (.sl (.int .i64)) cost), (8, .own 0)], [.row 3 (.int .i64) r0], 0, []⟩
def rgr_h30 (reach : List (List Bool)) (cost : List Int) (r0 : List Int) (s9 : Int) (s10 : Int) : Cfg := ⟨41, [.blk 2, .seq 47, .blk 1, .lp 16, .blk 0, .seq 48], [(0, .d (.sl (.sl .bool)) reach), (1, .d (.sl (.int .i64)) cost), (8, .own 0), (9, SI s9), (10, SI s10)], [.row 3 (.int .i64) r0], 0, []⟩
def rgr_h54 (reach : List (List Bool)) (cost : List Int) (r0 : List Int) (s13 : Int) (r1 : List Int) : Cfg := ⟨41, [.blk 4, .seq 82], [(0, .d (.sl (.sl .bool)) reach), (1, .d (.sl (.int .i64)) cost), (8, .own 0), (12, .own 1), (13, SI s13)], [.row 3 (.int .i64) r0, .row 3 (.int .i64) r1], 0, []⟩
def rgr_h66 (reach : List (List Bool)) (cost : List Int) (r0 : List Int) (s13 : Int) (s14 : Int) (r1 : List Int) : Cfg := ⟨41, [.blk 6, .blk 5, .seq 81, .lp 54, .blk 4, .seq 82], [(0, .d (.sl (.sl .bool)) reach), (1, .d (.sl (.int .i64)) cost), (8, .own 0), (12, .own 1), (13, SI s13), (14, SI s14)], [.row 3 (.int .i64) r0, .row 3 (.int .i64) r1], 0, []⟩
def rgr_t (k : Nat → Cfg → Option (List RV)) (reach : List (List Bool)) (cost : List Int) : Option (List RV) := match decide (reach.length ≤ 9223372036854775807) with | true => (match (validF reach cost 200 200) != 0 with | true => some [RV.d (.sl (.int .i64)) ([]), RV.d (.int .i64) 0, RV.d (.int .i64) (validF reach cost 200 200)] | false => k 16 (rgr_h16 reach cost ([]))) | false => none
theorem rgr_eq (k : Nat → Cfg → Option (List RV)) (reach : List (List Bool)) (cost : List Int) : go Try.prog ft tys env12 rgr_nt k 4000 (start 41 [.d (.sl (.sl .bool)) reach, .d (.sl (.int .i64)) cost]) (.node 0) = rgr_t k reach cost := by kernel_rfl
theorem rgr_s (reach : List (List Bool)) (cost : List Int) {r : List RV} (h : ∃ n, rgr_t (rgr_C.k n) reach cost = some r) : rgr_C.Res 41 [.d (.sl (.sl .bool)) reach, .d (.sl (.int .i64)) cost] r := by
  obtain ⟨n, h⟩ := h
  exact ⟨n, (rgr_eq _ reach cost).trans h⟩
def rgr_h16_t (k : Nat → Cfg → Option (List RV)) (reach : List (List Bool)) (cost : List Int) (r0 : List Int) : Option (List RV) := match decide (small3 reach ∧ r0.length ≤ 1000000) with | true => (match !(coversF reach r0) with | true => k 30 (rgr_h30 reach cost r0 (-1) 0) | false => k 54 (rgr_h54 reach cost r0 0 ([]))) | false => none
theorem rgr_h16_eq (k : Nat → Cfg → Option (List RV)) (reach : List (List Bool)) (cost : List Int) (r0 : List Int) : go Try.prog ft tys env12 rgr_nt k 4000 { rgr_h16 reach cost r0 with K := .lp 16 :: (rgr_h16 reach cost r0).K } (.node 17) = rgr_h16_t k reach cost r0 := by kernel_rfl
theorem rgr_h16_s (reach : List (List Bool)) (cost : List Int) (r0 : List Int) {r : List RV} (h : ∃ n, rgr_h16_t (rgr_C.k n) reach cost r0 = some r) : rgr_C.Runs 16 (rgr_h16 reach cost r0) r := by
  obtain ⟨n, h⟩ := h
  exact ⟨n + 1, (rgr_h16_eq _ reach cost r0).trans h⟩
def rgr_h30_t (k : Nat → Cfg → Option (List RV)) (reach : List (List Bool)) (cost : List Int) (r0 : List Int) (s9 : Int) (s10 : Int) : Option (List RV) := match decide (s10 < (reach.length : Int)) with | true => (match decide (freshP reach r0 s10) with | true => (match decide ((freshF reach r0 s10) > 0) with | true => (match decide (s9 < 0) with | true => k 30 (rgr_h30 reach cost r0 s10 (IntKind.i64.wrap (s10 + 1))) | false => (match getI cost s10 with | some x1 => (match getI cost s9 with | some x2 => (match decide (freshP reach r0 s9) with | true => (match decide ((IntKind.i64.wrap (x1 * (freshF reach r0 s9))) < (IntKind.i64.wrap (x2 * (freshF reach r0 s10)))) with | true => k 30 (rgr_h30 reach cost r0 s10 (IntKind.i64.wrap (s10 + 1))) | false => k 30 (rgr_h30 reach cost r0 s9 (IntKind.i64.wrap (s10 + 1)))) | false => none) | none => none) | none => none)) | false => k 30 (rgr_h30 reach cost r0 s9 (IntKind.i64.wrap (s10 + 1)))) | false => none) | false => (match decide ((r0.length + ([s9]).length) * 8 ≤ 140737488355328 ∧ r0.length + ([s9]).length ≤ 140737488355328) with | true => k 16 (rgr_h16 reach cost (r0 ++ ([s9]))) | false => none)
theorem rgr_h30_eq (k : Nat → Cfg → Option (List RV)) (reach : List (List Bool)) (cost : List Int) (r0 : List Int) (s9 : Int) (s10 : Int) : go Try.prog ft tys env12 rgr_nt k 4000 { rgr_h30 reach cost r0 s9 s10 with K := .lp 30 :: (rgr_h30 reach cost r0 s9 s10).K } (.node 31) = rgr_h30_t k reach cost r0 s9 s10 := by kernel_rfl
theorem rgr_h30_s (reach : List (List Bool)) (cost : List Int) (r0 : List Int) (s9 : Int) (s10 : Int) {r : List RV} (h : ∃ n, rgr_h30_t (rgr_C.k n) reach cost r0 s9 s10 = some r) : rgr_C.Runs 30 (rgr_h30 reach cost r0 s9 s10) r := by
  obtain ⟨n, h⟩ := h
  exact ⟨n + 1, (rgr_h30_eq _ reach cost r0 s9 s10).trans h⟩
def rgr_h54_t (k : Nat → Cfg → Option (List RV)) (reach : List (List Bool)) (cost : List Int) (r0 : List Int) (s13 : Int) (r1 : List Int) : Option (List RV) := match decide (s13 < (reach.length : Int)) with | true => k 66 (rgr_h66 reach cost r0 s13 0 r1) | false => (match decide (costP cost r1) with | true => some [RV.d (.sl (.int .i64)) r1, RV.d (.int .i64) (costF cost r1), RV.d (.int .i64) 0] | false => none)
theorem rgr_h54_eq (k : Nat → Cfg → Option (List RV)) (reach : List (List Bool)) (cost : List Int) (r0 : List Int) (s13 : Int) (r1 : List Int) : go Try.prog ft tys env12 rgr_nt k 4000 { rgr_h54 reach cost r0 s13 r1 with K := .lp 54 :: (rgr_h54 reach cost r0 s13 r1).K } (.node 55) = rgr_h54_t k reach cost r0 s13 r1 := by kernel_rfl
theorem rgr_h54_s (reach : List (List Bool)) (cost : List Int) (r0 : List Int) (s13 : Int) (r1 : List Int) {r : List RV} (h : ∃ n, rgr_h54_t (rgr_C.k n) reach cost r0 s13 r1 = some r) : rgr_C.Runs 54 (rgr_h54 reach cost r0 s13 r1) r := by
  obtain ⟨n, h⟩ := h
  exact ⟨n + 1, (rgr_h54_eq _ reach cost r0 s13 r1).trans h⟩
def rgr_h66_t (k : Nat → Cfg → Option (List RV)) (reach : List (List Bool)) (cost : List Int) (r0 : List Int) (s13 : Int) (s14 : Int) (r1 : List Int) : Option (List RV) := match decide (s14 < (r0.length : Int)) with | true => (match getI r0 s14 with | some _ => (match true, r0[(s14).toNat]? with | true, some x3 => (match x3 == s13 with | true => (match decide ((r1.length + ([s13]).length) * 8 ≤ 140737488355328 ∧ r1.length + ([s13]).length ≤ 140737488355328) with | true => k 66 (rgr_h66 reach cost r0 s13 (IntKind.i64.wrap (s14 + 1)) (r1 ++ ([s13]))) | false => none) | false => k 66 (rgr_h66 reach cost r0 s13 (IntKind.i64.wrap (s14 + 1)) r1)) | _, _ => none) | none => none) | false => k 54 (rgr_h54 reach cost r0 (IntKind.i64.wrap (s13 + 1)) r1)
theorem rgr_h66_eq (k : Nat → Cfg → Option (List RV)) (reach : List (List Bool)) (cost : List Int) (r0 : List Int) (s13 : Int) (s14 : Int) (r1 : List Int) : go Try.prog ft tys env12 rgr_nt k 4000 { rgr_h66 reach cost r0 s13 s14 r1 with K := .lp 66 :: (rgr_h66 reach cost r0 s13 s14 r1).K } (.node 67) = rgr_h66_t k reach cost r0 s13 s14 r1 := by kernel_rfl
theorem rgr_h66_s (reach : List (List Bool)) (cost : List Int) (r0 : List Int) (s13 : Int) (s14 : Int) (r1 : List Int) {r : List RV} (h : ∃ n, rgr_h66_t (rgr_C.k n) reach cost r0 s13 s14 r1 = some r) : rgr_C.Runs 66 (rgr_h66 reach cost r0 s13 s14 r1) r := by
  obtain ⟨n, h⟩ := h
  exact ⟨n + 1, (rgr_h66_eq _ reach cost r0 s13 s14 r1).trans h⟩
/-- The counting sort. -/
def csTo (l : List Int) : Nat → List Int
  | 0 => []
  | t + 1 => csTo l t ++ l.filter fun x => x == (t : Int)
theorem count_filt (l : List Int) (t a : Int) : (l.filter fun x => x == t).count a = if a = t then l.count a else 0 := by
  induction l with
  | nil => simp
  | cons x l ih =>
    rw [List.filter_cons]
    by_cases h : x = t
    · subst h
      rw [if_pos (by simp), List.count_cons, ih, List.count_cons]
      by_cases h2 : a = x
      · subst h2; simp
      · rw [if_neg h2, if_neg h2, if_neg (by simpa using fun e => h2 (Eq.symm e))]
    · rw [if_neg (by simpa using h), ih, List.count_cons]
      by_cases h2 : a = t
      · subst h2
        rw [if_pos rfl, if_pos rfl, if_neg (by simpa using h)]; rfl
      · rw [if_neg h2, if_neg h2]
theorem cs_count (l : List Int) (a : Int) : ∀ t : Nat, (csTo l t).count a = if 0 ≤ a ∧ a < (t : Int) then l.count a else 0
  | 0 => by simp [csTo]; omega
  | t + 1 => by
    rw [csTo, List.count_append, cs_count l a t, count_filt]
    by_cases h : a = (t : Int)
    · subst h
      rw [if_neg (by omega), if_pos rfl, if_pos (by omega)]; omega
    · rw [if_neg h]
      by_cases h2 : 0 ≤ a ∧ a < (t : Int)
      · rw [if_pos h2, if_pos (by omega)]; omega
      · rw [if_neg h2, if_neg (by omega)]
theorem cs_lt (l : List Int) : ∀ (t : Nat) (a : Int), a ∈ csTo l t → a < (t : Int)
  | 0, a, h => by simp [csTo] at h
  | t + 1, a, h => by
    rw [csTo, List.mem_append] at h
    rcases h with h | h
    · have := cs_lt l t a h; omega
    · have := (List.mem_filter.1 h).2
      have : a = (t : Int) := by simpa using this
      omega
theorem cs_sorted (l : List Int) : ∀ t : Nat, (csTo l t).Pairwise (· ≤ ·)
  | 0 => List.Pairwise.nil
  | t + 1 => by
    rw [csTo, List.pairwise_append]
    refine ⟨cs_sorted l t, ?_, fun a ha b hb => ?_⟩
    · rw [List.pairwise_iff_forall_sublist]
      intro a b hab
      have ha := (List.mem_filter.1 (hab.subset (show a ∈ [a, b] by simp))).2
      have hb := (List.mem_filter.1 (hab.subset (show b ∈ [a, b] by simp))).2
      have ha : a = (t : Int) := by simpa using ha
      have hb : b = (t : Int) := by simpa using hb
      omega
    · have := cs_lt l t a ha
      have hb := (List.mem_filter.1 hb).2
      have hb : b = (t : Int) := by simpa using hb
      omega
theorem cs_isort {reach : List (List Bool)} {l : List Int} (h : inR reach l = true) : csTo l reach.length = isort l := by
  refine sorted_unique (List.Perm.trans ?_ (isort_perm l).symm) (cs_sorted l _) (isort_sorted l)
  rw [List.perm_iff_count]
  intro a
  rw [cs_count]
  by_cases ha : a ∈ l
  · have := List.all_eq_true.1 h a ha
    rw [Bool.and_eq_true] at this
    rw [if_pos ⟨of_decide_eq_true this.1, of_decide_eq_true this.2⟩]
  · rw [List.count_eq_zero.2 ha]; simp
theorem costF_cons (cost l : List Int) (t : Int) : costF cost (t :: l) = cost.getD t.toNat 0 + costF cost l := by simp [costF]
theorem costF_perm {cost l m : List Int} (h : l.Perm m) : costF cost l = costF cost m := by
  induction h with
  | nil => rfl
  | cons x _ ih => rw [costF_cons, costF_cons, ih]
  | swap x y l => rw [costF_cons, costF_cons, costF_cons, costF_cons]; omega
  | trans _ _ ih1 ih2 => exact ih1.trans ih2
theorem rgr_l30 (reach : List (List Bool)) (cost l : List Int) (r : List RV) (h : small3 reach) (hc : cost.length = reach.length) (hb : ∀ c ∈ cost, 0 ≤ c ∧ c ≤ 2147483648) (g : GInv reach l)
    (hk : rgr_C.Runs 16 (rgr_h16 reach cost (l ++ [sel reach cost l])) r) :
    ∀ d t, reach.length - t = d → t ≤ reach.length → rgr_C.Runs 30 (rgr_h30 reach cost l (selTo reach cost l t) (t : Int)) r := by
  have h1 := h.1
  have h2 := h.2.1
  have hop := g.op
  intro d
  induction d with
  | zero =>
    intro t hd htl
    refine rgr_h30_s _ _ _ _ _ ?_
    unfold rgr_h30_t
    rw [ge_dec (by omega), show t = reach.length by omega, show selTo reach cost l reach.length = sel reach cost l from rfl, List.length_singleton, app_ok (by omega) (by omega)]
    exact hk
  | succ d ih =>
    intro t hd htl
    have hlt : t < reach.length := by omega
    have htc : t < cost.length := by omega
    have hn := ih (t + 1) (by omega) (by omega)
    rw [← wrapS (show t + 1 ≤ 9223372036854775807 by omega)] at hn
    have fp : freshP reach l (t : Int) := ⟨h, g.inr, by omega, by omega, by omega⟩
    refine rgr_h30_s _ _ _ _ _ ?_
    unfold rgr_h30_t
    rw [lt_dec hlt, decide_eq_true fp]
    dsimp only
    unfold selTo at hn
    rw [getD_get htc] at hn
    have hsp := selTo_spec (reach := reach) (cost := cost) (l := l) t
    generalize selTo reach cost l t = b at *
    cases c1 : decide (freshF reach l (t : Int) > 0) with
    | false => rw [c1] at hn; exact hn
    | true =>
      rw [c1] at hn
      dsimp only
      cases c2 : decide (b < 0) with
      | true =>
        rw [c2] at hn
        simp only [Bool.true_or, Bool.and_self, cond_true] at hn
        exact hn
      | false =>
        have b0 := of_decide_eq_false c2
        have b1 : b < (cost.length : Int) := by
          rcases hsp with ⟨h1, _⟩ | ⟨_, h1, _⟩ <;> omega
        rw [c2] at hn
        simp only [Bool.false_or, Bool.true_and] at hn
        dsimp only
        rw [getI_nat, List.getElem?_eq_getElem htc, getI_in 0 (by omega) b1, decide_eq_true (show freshP reach l b from ⟨h, g.inr, by omega, by omega, by omega⟩)]
        dsimp only
        have m1 := mul_bd (hb _ (List.getElem_mem htc)) (freshF_bd reach l b h)
        have m2 := mul_bd (hb _ (getD_mem 0 (show 0 ≤ b by omega) b1)) (freshF_bd reach l (t : Int) h)
        rw [wrap64 m1.1 m1.2, wrap64 m2.1 m2.2]
        cases c3 : decide (cost[t] * freshF reach l b < cost.getD b.toNat 0 * freshF reach l (t : Int)) with
        | true => rw [c3] at hn; exact hn
        | false => rw [c3] at hn; exact hn
theorem cs_mono (l : List Int) (t : Nat) : ∀ k, (csTo l t).length ≤ (csTo l (t + k)).length
  | 0 => Nat.le_refl _
  | k + 1 => by
    have := cs_mono l t k
    rw [← Nat.add_assoc, csTo, List.length_append]
    omega
theorem cs_len {reach : List (List Bool)} {l : List Int} (h : inR reach l = true) {t : Nat} (ht : t ≤ reach.length) : (csTo l t).length ≤ l.length := by
  have := cs_mono l t (reach.length - t)
  rw [show t + (reach.length - t) = reach.length by omega, cs_isort h, isort_len] at this
  exact this
theorem rgr_l66 (reach : List (List Bool)) (cost l : List Int) (t : Nat) (r : List RV) (hl : l.length ≤ 1000) (ht : (csTo l t).length ≤ 1000)
    (hk : rgr_C.Runs 54 (rgr_h54 reach cost l (IntKind.i64.wrap ((t : Int) + 1)) (csTo l (t + 1))) r) :
    ∀ d k, l.length - k = d → k ≤ l.length → rgr_C.Runs 66 (rgr_h66 reach cost l (t : Int) (k : Int) (csTo l t ++ (l.take k).filter fun x => x == (t : Int))) r := by
  intro d
  induction d with
  | zero =>
    intro k hd hkl
    refine rgr_h66_s _ _ _ _ _ _ ?_
    unfold rgr_h66_t
    rw [ge_dec (by omega), List.take_of_length_le (by omega)]
    exact hk
  | succ d ih =>
    intro k hd hkl
    have hlt : k < l.length := by omega
    have hn := ih (k + 1) (by omega) (by omega)
    rw [← wrapS (show k + 1 ≤ 9223372036854775807 by omega), List.take_succ_eq_append_getElem hlt, List.filter_append, ← List.append_assoc] at hn
    have hf : ((l.take k).filter fun x => x == (t : Int)).length ≤ l.length := Nat.le_trans (List.length_filter_le _ _) (by rw [List.length_take]; omega)
    refine rgr_h66_s _ _ _ _ _ _ ?_
    unfold rgr_h66_t
    rw [lt_dec hlt, getI_nat, toNat_nat, List.getElem?_eq_getElem hlt, List.length_singleton, app_ok (by omega) (by rw [List.length_append]; omega)]
    dsimp only
    cases hc : (l[k] == (t : Int)) with
    | true =>
      have e : l[k] = (t : Int) := by simpa using hc
      rw [List.filter_cons_of_pos (by exact hc), List.filter_nil, e] at hn
      exact hn
    | false =>
      rw [List.filter_cons_of_neg (by rw [hc]; decide), List.filter_nil, List.append_nil] at hn
      exact hn
theorem rgr_l54 (reach : List (List Bool)) (cost l : List Int) (h : small3 reach) (hr : inR reach l = true) (hl : l.length ≤ 1000) (hc : cost.length = reach.length) (hb : ∀ c ∈ cost, 0 ≤ c ∧ c ≤ 2147483648) :
    ∀ d t, reach.length - t = d → t ≤ reach.length → rgr_C.Runs 54 (rgr_h54 reach cost l (t : Int) (csTo l t)) [.d (.sl (.int .i64)) (isort l), .d (.int .i64) (costF cost l), .d (.int .i64) 0] := by
  have h1 := h.1
  intro d
  induction d with
  | zero =>
    intro t hd htl
    have hp : costP cost (isort l) := by
      refine ⟨?_, List.all_eq_true.2 fun c hcm => by simpa using hb c hcm, by rw [isort_len]; omega⟩
      refine List.all_eq_true.2 fun a ha => ?_
      rw [hc]
      exact List.all_eq_true.1 hr a ((isort_perm l).mem_iff.1 ha)
    refine rgr_h54_s _ _ _ _ _ ⟨0, ?_⟩
    unfold rgr_h54_t
    rw [ge_dec (by omega), show t = reach.length by omega, cs_isort hr, decide_eq_true hp, costF_perm (isort_perm l)]
  | succ d ih =>
    intro t hd htl
    have hlt : t < reach.length := by omega
    have hn := ih (t + 1) (by omega) (by omega)
    rw [← wrapS (show t + 1 ≤ 9223372036854775807 by omega)] at hn
    refine rgr_h54_s _ _ _ _ _ ?_
    unfold rgr_h54_t
    rw [lt_dec hlt]
    have := rgr_l66 reach cost l t _ hl (Nat.le_trans (cs_len hr htl) hl) hn _ 0 rfl (Nat.zero_le _)
    rw [List.take_zero, List.filter_nil, List.append_nil] at this
    exact this
theorem rgr_l16 (reach : List (List Bool)) (cost : List Int) (h : small3 reach) (hc : cost.length = reach.length) (hb : ∀ c ∈ cost, 0 ≤ c ∧ c ≤ 2147483648) :
    ∀ m l, GInv reach l → openTo reach l (npc reach) ≤ m → rgr_C.Runs 16 (rgr_h16 reach cost l) [.d (.sl (.int .i64)) (isort (greedyTo reach cost m l)), .d (.int .i64) (costF cost (greedyTo reach cost m l)), .d (.int .i64) 0] := by
  have h2 := h.2.1
  have cv : ∀ l, GInv reach l → (!coversF reach l) = anyOpen reach l := by
    intro l g
    unfold coversF anyOpen
    rw [g.inr]
    simp
  have fin : ∀ l, GInv reach l → anyOpen reach l = false → rgr_C.Runs 16 (rgr_h16 reach cost l) [.d (.sl (.int .i64)) (isort l), .d (.int .i64) (costF cost l), .d (.int .i64) 0] := by
    intro l g ha
    have := g.op
    refine rgr_h16_s _ _ _ ?_
    unfold rgr_h16_t
    rw [decide_eq_true (show small3 reach ∧ l.length ≤ 1000000 from ⟨h, by omega⟩), cv l g, ha]
    exact rgr_l54 reach cost l h g.inr (by omega) hc hb _ 0 rfl (Nat.zero_le _)
  intro m
  induction m with
  | zero =>
    intro l g hm
    refine fin l g ?_
    cases ha : anyOpen reach l with
    | false => rfl
    | true => have := (ginv_step (cost := cost) g ha).2; omega
  | succ m ih =>
    intro l g hm
    unfold greedyTo
    cases ha : anyOpen reach l with
    | false => exact fin l g ha
    | true =>
      obtain ⟨g', hl⟩ := ginv_step (cost := cost) g ha
      have hn := ih _ g' (by omega)
      have hop := g.op
      refine rgr_h16_s _ _ _ ?_
      unfold rgr_h16_t
      rw [decide_eq_true (show small3 reach ∧ l.length ≤ 1000000 from ⟨h, by omega⟩), cv l g, ha]
      exact rgr_l30 reach cost l _ h hc hb g hn _ 0 rfl (Nat.zero_le _)
theorem rgr_con (reach : List (List Bool)) (cost : List Int) (hb : reach.length ≤ 9223372036854775807) : Con Try.prog 41 [.d (.sl (.sl .bool)) reach, .d (.sl (.int .i64)) cost] [.d (.sl (.int .i64)) (greedyF reach cost), .d (.int .i64) (bif validF reach cost 200 200 != 0 then 0 else costF cost (greedyTo reach cost (npc reach) [])), .d (.int .i64) (validF reach cost 200 200)] := by
  refine Ctx.Res.con (C := rgr_C) (ctx_ok env12_ok) ?_ (fn := Try.f41) (by kernel_rfl) (by kernel_rfl)
  refine rgr_s _ _ ?_
  unfold rgr_t greedyF
  rw [decide_eq_true (show reach.length ≤ 9223372036854775807 from hb)]
  dsimp only
  cases hv : (validF reach cost 200 200 != 0) with
  | true => exact ⟨0, rfl⟩
  | false =>
    have e : validF reach cost 200 200 = 0 := by simpa using hv
    have g := good_of_valid (t := 200) (p := 200) e
    have h := g.s3 (by omega) (by omega)
    rw [e]
    exact rgr_l16 reach cost h g.len g.c _ [] (ginv_nil reach) (openTo_le reach [] (npc reach))
theorem greedyTo_inv {reach : List (List Bool)} {cost : List Int} : ∀ m l, GInv reach l → GInv reach (greedyTo reach cost m l)
  | 0, l, g => g
  | m + 1, l, g => by
    unfold greedyTo
    cases ha : anyOpen reach l with
    | false => exact g
    | true => exact greedyTo_inv m _ (ginv_step (cost := cost) g ha).1
end Go.Proofs.Ytfkidjkpgliffaa
