/- choose: Raise, plain: prices one after the other, and the greatest fair price. -/
import Derived.Test.YtfkidjkpgliffaaCh5
import Derived.Test.YtfkidjkpgliffaaChSpecs
namespace Go.Proofs.Ytfkidjkpgliffaa
open Go.RowKit
def rch (reach : List (List Bool)) (t p : Nat) : Bool := (reach.getD t []).getD p false
/-- The least rest of the first k tools that reach a piece, or -1. -/
def leastTo (reach : List (List Bool)) (rest : List Int) (p : Nat) : Nat → Int
  | 0 => -1
  | k + 1 => bif rch reach k p then (bif decide (leastTo reach rest p k < 0) || decide (rest.getD k 0 < leastTo reach rest p k) then rest.getD k 0 else leastTo reach rest p k) else leastTo reach rest p k
def vOf (reach : List (List Bool)) (rest : List Int) (p : Nat) : Int := if leastTo reach rest p reach.length > 0 then leastTo reach rest p reach.length else 0
def lessR (reach : List (List Bool)) (p : Nat) (v : Int) (t : Nat) (x : Int) : Int := bif rch reach t p then x - v else x
def raiseTo (reach : List (List Bool)) (cost : List Int) : Nat → List Int × List Int
  | 0 => (List.replicate (npc reach) 0, cost)
  | p + 1 => ((raiseTo reach cost p).1.set p (vOf reach (raiseTo reach cost p).2 p), (raiseTo reach cost p).2.mapIdx (lessR reach p (vOf reach (raiseTo reach cost p).2 p)))
structure RInv (reach : List (List Bool)) (cost o r : List Int) (p : Nat) : Prop where
  lo : o.length = npc reach
  lr : r.length = reach.length
  z : ∀ q, p ≤ q → o.getD q 0 = 0
  r : ∀ t, t < reach.length → r.getD t 0 = cost.getD t 0 - paidTo (reach.getD t []) o (npc reach) ∧ 0 ≤ r.getD t 0 ∧ r.getD t 0 ≤ 2147483648
  ok : ∀ q, q < npc reach → okAt reach o q = true
theorem leastTo_spec {reach : List (List Bool)} {rest : List Int} {p : Nat} : ∀ {k : Nat}, (∀ t, t < k → 0 ≤ rest.getD t 0 ∧ rest.getD t 0 ≤ 2147483648) →
    -1 ≤ leastTo reach rest p k ∧ leastTo reach rest p k ≤ 2147483648 ∧ (leastTo reach rest p k < 0 → ∀ t, t < k → rch reach t p = false) ∧
    (0 ≤ leastTo reach rest p k → (∃ t, t < k ∧ rch reach t p = true) ∧ ∀ x, x ≤ leastTo reach rest p k ↔ ∀ t, t < k → rch reach t p = true → x ≤ rest.getD t 0)
  | 0, _ => ⟨by simp [leastTo], by simp [leastTo], fun _ t ht => by omega, fun h => by simp [leastTo] at h⟩
  | k + 1, h => by
    obtain ⟨i1, i2, i3, i4⟩ := leastTo_spec (reach := reach) (p := p) (k := k) fun t ht => h t (by omega)
    have hk := h k (by omega)
    unfold leastTo
    generalize leastTo reach rest p k = L at *
    cases hr : rch reach k p with
    | false =>
      simp only [cond_false]
      refine ⟨i1, i2, fun hl t ht => ?_, fun hl => ⟨?_, fun x => ?_⟩⟩
      · rcases Nat.lt_succ_iff_lt_or_eq.1 ht with ht | rfl
        · exact i3 hl t ht
        · exact hr
      · obtain ⟨⟨t, ht, he⟩, _⟩ := i4 hl
        exact ⟨t, by omega, he⟩
      · rw [(i4 hl).2 x]
        constructor
        · intro hx t ht htr
          rcases Nat.lt_succ_iff_lt_or_eq.1 ht with ht | rfl
          · exact hx t ht htr
          · rw [hr] at htr; cases htr
        · intro hx t ht htr
          exact hx t (by omega) htr
    | true =>
      simp only [cond_true]
      cases hc : (decide (L < 0) || decide (rest.getD k 0 < L)) with
      | true =>
        simp only [cond_true]
        refine ⟨by omega, by omega, fun hl => by omega, fun _ => ⟨⟨k, by omega, hr⟩, fun x => ⟨fun hx t ht htr => ?_, fun hx => hx k (by omega) hr⟩⟩⟩
        rcases Nat.lt_succ_iff_lt_or_eq.1 ht with ht | rfl
        · rw [Bool.or_eq_true] at hc
          rcases hc with h1 | h1
          · have := i3 (of_decide_eq_true h1) t ht
            rw [this] at htr; cases htr
          · have hlt := of_decide_eq_true h1
            exact ((i4 (by omega)).2 x).1 (by omega) t ht htr
        · exact hx
      | false =>
        rw [Bool.or_eq_false_iff] at hc
        have h1 := of_decide_eq_false hc.1
        have h2 := of_decide_eq_false hc.2
        simp only [cond_false]
        refine ⟨i1, i2, fun hl => absurd hl h1, fun hl => ⟨⟨k, by omega, hr⟩, fun x => ⟨fun hx t ht htr => ?_, fun hx => ?_⟩⟩⟩
        · rcases Nat.lt_succ_iff_lt_or_eq.1 ht with ht | rfl
          · exact ((i4 hl).2 x).1 hx t ht htr
          · omega
        · exact ((i4 hl).2 x).2 fun t ht htr => hx t (by omega) htr
theorem getD_set {o : List Int} {p q : Nat} {x : Int} (h : p < o.length) : (o.set p x).getD q 0 = if q = p then x else o.getD q 0 := by
  simp only [List.getD, List.getElem?_set]
  by_cases e : p = q
  · subst e; simp [h]
  · rw [if_neg e, if_neg (fun e' => e e'.symm)]
theorem paidTo_set {l : List Bool} {o : List Int} {p : Nat} {x : Int} (h : p < o.length) (hz : o.getD p 0 = 0) : ∀ k, paidTo l (o.set p x) k = paidTo l o k + if p < k then (bif l.getD p false then x else 0) else 0
  | 0 => by simp [paidTo]
  | k + 1 => by
    rw [paidTo_succ, paidTo_succ, paidTo_set h hz k, getD_set h]
    by_cases e : k = p
    · subst e
      rw [if_pos rfl, if_neg (by omega), if_pos (by omega), hz]
      cases l.getD k false <;> simp
    · rw [if_neg e]
      by_cases hlt : p < k
      · rw [if_pos hlt, if_pos (by omega)]; omega
      · rw [if_neg hlt, if_neg (by omega)]; omega
theorem cov_iff {reach : List (List Bool)} {p : Nat} (hp : p < npc reach) : (covF reach).getD p false = true ↔ ∃ t, t < reach.length ∧ rch reach t p = true := by
  simp [covF, hp]
  constructor
  · rintro ⟨l, hl, he⟩
    obtain ⟨t, ht, rfl⟩ := List.mem_iff_getElem.1 hl
    exact ⟨t, ht, by unfold rch; rw [getD_get ht]; simpa using he⟩
  · rintro ⟨t, ht, he⟩
    unfold rch at he
    rw [getD_get ht] at he
    exact ⟨reach[t], List.getElem_mem ht, by simpa using he⟩
theorem v_spec {reach : List (List Bool)} {cost o r : List Int} {p : Nat} (h : RInv reach cost o r p) : 0 ≤ vOf reach r p ∧ vOf reach r p ≤ 2147483648 ∧ (∀ t, t < reach.length → rch reach t p = true → vOf reach r p ≤ r.getD t 0) ∧
    ∀ x, 0 ≤ x → ((x ≤ 2147483648 ∧ ((∃ t, t < reach.length ∧ rch reach t p = true) ∨ x = 0) ∧ ∀ t, t < reach.length → rch reach t p = true → x ≤ r.getD t 0) ↔ x ≤ vOf reach r p) := by
  obtain ⟨i1, i2, i3, i4⟩ := leastTo_spec (reach := reach) (rest := r) (p := p) (k := reach.length) fun t ht => (h.r t ht).2
  unfold vOf
  generalize leastTo reach r p reach.length = L at *
  by_cases hl : L < 0
  · rw [if_neg (by omega)]
    refine ⟨by omega, by omega, fun t ht he => ?_, fun x hx => ⟨fun ⟨_, h2, _⟩ => ?_, fun hv => ⟨by omega, .inr (by omega), fun t ht he => ?_⟩⟩⟩
    · rw [i3 hl t ht] at he; cases he
    · rcases h2 with ⟨t, ht, he⟩ | h2
      · rw [i3 hl t ht] at he; cases he
      · omega
    · rw [i3 hl t ht] at he; cases he
  · have e : (if L > 0 then L else 0) = L := by by_cases hp : L > 0 <;> simp [hp] <;> omega
    rw [e]
    obtain ⟨j1, j2⟩ := i4 (by omega)
    refine ⟨by omega, by omega, (j2 L).1 (Int.le_refl L), fun x hx => ⟨fun ⟨_, _, h3⟩ => (j2 x).2 h3, fun hv => ⟨by omega, .inl j1, (j2 x).1 hv⟩⟩⟩
theorem fair_set {reach : List (List Bool)} {cost o r : List Int} {p : Nat} (h : RInv reach cost o r p) (hp : p < npc reach) {x : Int} (hx : 0 ≤ x) : fairF reach cost (o.set p x) = decide (x ≤ vOf reach r p) := by
  have hv := (v_spec h).2.2.2 x hx
  have hl : p < o.length := by rw [h.lo]; exact hp
  have e : (fairF reach cost (o.set p x) = true) ↔ x ≤ vOf reach r p := by
    rw [← hv]
    unfold fairF okAll paidAll
    rw [decide_eq_true (by simp [h.lo]), Bool.true_and, Bool.and_eq_true, List.all_eq_true, List.all_eq_true]
    constructor
    · rintro ⟨a1, a2⟩
      have b1 := a1 p (List.mem_range.2 hp)
      unfold okAt at b1
      rw [getD_set hl, if_pos rfl] at b1
      have b2 := okP_iff b1
      refine ⟨b2.2.1, ?_, fun t ht he => ?_⟩
      · rcases b2.2.2 with b3 | b3
        · exact .inl ((cov_iff hp).1 b3)
        · exact .inr b3
      · have c1 := a2 t (List.mem_range.2 ht)
        unfold paidAt at c1
        rw [paidTo_set hl (h.z p (Nat.le_refl p)), if_pos hp, show (reach.getD t []).getD p false = true from he] at c1
        have c2 : ¬ (paidTo (reach.getD t []) o (npc reach) + x > cost.getD t 0) := by simpa using c1
        have := h.r t ht
        omega
    · rintro ⟨a1, a2, a3⟩
      refine ⟨fun q hq => ?_, fun t ht => ?_⟩
      · unfold okAt
        rw [getD_set hl]
        by_cases eq : q = p
        · rw [if_pos eq, eq]
          unfold okP
          rw [decide_eq_false (show ¬ x < 0 by omega), decide_eq_false (show ¬ x > 2147483648 by omega)]
          rcases a2 with a2 | a2
          · rw [(cov_iff hp).2 a2]; simp
          · rw [a2]; simp
        · rw [if_neg eq]
          exact h.ok q (List.mem_range.1 hq)
      · have ht' := List.mem_range.1 ht
        have hr := h.r t ht'
        unfold paidAt
        rw [paidTo_set hl (h.z p (Nat.le_refl p)), if_pos hp]
        cases he : (reach.getD t []).getD p false with
        | false => simp only [cond_false]; rw [decide_eq_false (by omega)]; rfl
        | true =>
          have := a3 t ht' he
          simp only [cond_true]; rw [decide_eq_false (by omega)]; rfl
  by_cases hd : x ≤ vOf reach r p
  · rw [decide_eq_true hd]; exact e.2 hd
  · rw [decide_eq_false hd]
    cases hf : fairF reach cost (o.set p x) with
    | false => rfl
    | true => exact absurd (e.1 hf) hd
theorem getD_mapIdx {r : List Int} {f : Nat → Int → Int} {t : Nat} (h : t < r.length) : (r.mapIdx f).getD t 0 = f t (r.getD t 0) := by simp [List.getD, h]
theorem rinv_step {reach : List (List Bool)} {cost o r : List Int} {p : Nat} (h : RInv reach cost o r p) (hp : p < npc reach) : RInv reach cost (o.set p (vOf reach r p)) (r.mapIdx (lessR reach p (vOf reach r p))) (p + 1) := by
  obtain ⟨v0, v1, v2, _⟩ := v_spec h
  have hl : p < o.length := by rw [h.lo]; exact hp
  have hf := fair_set h hp v0
  rw [decide_eq_true (Int.le_refl _)] at hf
  unfold fairF at hf
  rw [Bool.and_eq_true, Bool.and_eq_true] at hf
  refine ⟨by simp [h.lo], by simp [h.lr], fun q hq => ?_, fun t ht => ?_, fun q hq => List.all_eq_true.1 hf.2.1 q (List.mem_range.2 hq)⟩
  · rw [getD_set hl, if_neg (by omega)]
    exact h.z q (by omega)
  · have hr := h.r t ht
    rw [getD_mapIdx (by rw [h.lr]; exact ht), paidTo_set hl (h.z p (Nat.le_refl p)), if_pos hp]
    unfold lessR
    cases he : rch reach t p with
    | false =>
      rw [show (reach.getD t []).getD p false = false from he]
      simp only [cond_false]
      omega
    | true =>
      have := v2 t ht he
      rw [show (reach.getD t []).getD p false = true from he]
      simp only [cond_true]
      omega
theorem sum_zero {α : Type} (l : List α) : (l.map fun _ => (0 : Int)).sum = 0 := by induction l with | nil => rfl | cons a l ih => simpa using ih
theorem rinv_zero {reach : List (List Bool)} {cost : List Int} {t p : Nat} (g : Good reach cost t p) : RInv reach cost (List.replicate (npc reach) 0) cost 0 := by
  have hz : ∀ q, (List.replicate (npc reach) (0 : Int)).getD q 0 = 0 := by
    intro q
    by_cases hq : q < npc reach <;> simp [List.getD, hq]
  refine ⟨by simp, g.len, fun q _ => hz q, fun t ht => ?_, fun q _ => ?_⟩
  · have hc : t < cost.length := by rw [g.len]; exact ht
    have := g.c _ (List.getElem_mem hc)
    have hs : paidTo (reach.getD t []) (List.replicate (npc reach) 0) (npc reach) = 0 := by
      unfold paidTo
      refine Eq.trans (congrArg List.sum ?_) (sum_zero (List.range (npc reach)))
      apply List.map_congr_left
      intro q _
      rw [hz]
      cases (reach.getD t []).getD q false <;> rfl
    rw [hs, getD_get hc]
    omega
  · unfold okAt
    rw [hz]
    simp [okP]
theorem raise_inv {reach : List (List Bool)} {cost : List Int} {t p : Nat} (g : Good reach cost t p) : ∀ k, k ≤ npc reach → RInv reach cost (raiseTo reach cost k).1 (raiseTo reach cost k).2 k
  | 0, _ => rinv_zero g
  | k + 1, h => rinv_step (raise_inv g k (by omega)) (by omega)
theorem inv_fair {reach : List (List Bool)} {cost o r : List Int} {p : Nat} (h : RInv reach cost o r p) : fairF reach cost o = true := by
  unfold fairF okAll paidAll
  rw [decide_eq_true h.lo, Bool.true_and, Bool.and_eq_true, List.all_eq_true, List.all_eq_true]
  refine ⟨fun q hq => h.ok q (List.mem_range.1 hq), fun t ht => ?_⟩
  have := h.r t (List.mem_range.1 ht)
  unfold paidAt
  rw [decide_eq_false (by omega)]
  rfl
end Go.Proofs.Ytfkidjkpgliffaa
