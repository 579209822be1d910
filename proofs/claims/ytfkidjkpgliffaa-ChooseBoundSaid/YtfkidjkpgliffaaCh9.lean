/- choose: Greedy, plain: the number of new pieces, the choice, the rounds. -/
import Derived.Test.YtfkidjkpgliffaaCh4
import Derived.Test.YtfkidjkpgliffaaCh6
namespace Go.Proofs.Ytfkidjkpgliffaa
open Go.RowKit
/-- The number of the first k pieces that a tool reaches, and those of a list do not. -/
def freshN (reach : List (List Bool)) (l : List Int) (t : Nat) : Nat → Nat
  | 0 => 0
  | k + 1 => freshN reach l t k + bif rch reach t k && !reachedF reach l (k : Int) then 1 else 0
def freshF (reach : List (List Bool)) (l : List Int) (t : Int) : Int := (freshN reach l t.toNat (npc reach) : Int)
theorem freshN_le (reach : List (List Bool)) (l : List Int) (t : Nat) : ∀ k, freshN reach l t k ≤ k
  | 0 => Nat.le_refl 0
  | k + 1 => by
    have := freshN_le reach l t k
    unfold freshN
    cases (rch reach t k && !reachedF reach l (k : Int)) <;> simp <;> omega
theorem freshN_pos {reach : List (List Bool)} {l : List Int} {t p : Nat} (h1 : rch reach t p = true) (h2 : reachedF reach l (p : Int) = false) : ∀ k, p < k → 0 < freshN reach l t k
  | k + 1, h => by
    unfold freshN
    rcases Nat.lt_succ_iff_lt_or_eq.1 h with h | rfl
    · have := freshN_pos h1 h2 k h
      omega
    · rw [h1, h2]; simp
theorem freshN_ex {reach : List (List Bool)} {l : List Int} {t : Nat} : ∀ k, 0 < freshN reach l t k → ∃ p, p < k ∧ rch reach t p = true ∧ reachedF reach l (p : Int) = false
  | k + 1, h => by
    unfold freshN at h
    cases hc : (rch reach t k && !reachedF reach l (k : Int)) with
    | true =>
      rw [Bool.and_eq_true] at hc
      exact ⟨k, by omega, hc.1, by simpa using hc.2⟩
    | false =>
      rw [hc] at h
      obtain ⟨p, hp, h1, h2⟩ := freshN_ex k (by simpa using h)
      exact ⟨p, by omega, h1, h2⟩
/-- The tool of the least cost for a new piece, the first of them, or -1. -/
def selTo (reach : List (List Bool)) (cost l : List Int) : Nat → Int
  | 0 => -1
  | k + 1 => bif decide (freshF reach l (k : Int) > 0) && (decide (selTo reach cost l k < 0) || decide (cost.getD k 0 * freshF reach l (selTo reach cost l k) < cost.getD (selTo reach cost l k).toNat 0 * freshF reach l (k : Int))) then (k : Int) else selTo reach cost l k
theorem selTo_spec {reach : List (List Bool)} {cost l : List Int} : ∀ k, (selTo reach cost l k = -1 ∧ ∀ t : Nat, t < k → freshF reach l (t : Int) = 0) ∨ (0 ≤ selTo reach cost l k ∧ selTo reach cost l k < (k : Int) ∧ 0 < freshF reach l (selTo reach cost l k))
  | 0 => .inl ⟨rfl, fun t ht => by omega⟩
  | k + 1 => by
    have ih := selTo_spec (reach := reach) (cost := cost) (l := l) k
    unfold selTo
    generalize selTo reach cost l k = b at *
    cases hc : (decide (freshF reach l (k : Int) > 0) && (decide (b < 0) || decide (cost.getD k 0 * freshF reach l b < cost.getD b.toNat 0 * freshF reach l (k : Int)))) with
    | true =>
      rw [Bool.and_eq_true] at hc
      have := of_decide_eq_true hc.1
      exact .inr ⟨by simp only [cond_true]; omega, by simp only [cond_true]; omega, by simpa using this⟩
    | false =>
      simp only [cond_false]
      rcases ih with ⟨h1, h2⟩ | ⟨h1, h2, h3⟩
      · left
        refine ⟨h1, fun t ht => ?_⟩
        rcases Nat.lt_succ_iff_lt_or_eq.1 ht with ht | rfl
        · exact h2 t ht
        · rw [h1] at hc
          have : ¬ freshF reach l (t : Int) > 0 := by simpa using hc
          have : 0 ≤ freshF reach l (t : Int) := by unfold freshF; omega
          omega
      · exact .inr ⟨h1, by omega, h3⟩
def sel (reach : List (List Bool)) (cost l : List Int) : Int := selTo reach cost l reach.length
def anyOpen (reach : List (List Bool)) (l : List Int) : Bool := (opn reach l).any fun x => true == x
def openTo (reach : List (List Bool)) (l : List Int) : Nat → Nat
  | 0 => 0
  | k + 1 => openTo reach l k + bif (covF reach).getD k false && !reachedF reach l (k : Int) then 1 else 0
def greedyTo (reach : List (List Bool)) (cost : List Int) : Nat → List Int → List Int
  | 0, l => l
  | m + 1, l => bif anyOpen reach l then greedyTo reach cost m (l ++ [sel reach cost l]) else l
structure GInv (reach : List (List Bool)) (l : List Int) : Prop where
  inr : inR reach l = true
  nd : l.Nodup
  op : l.length + openTo reach l (npc reach) ≤ npc reach
theorem openTo_le (reach : List (List Bool)) (l : List Int) : ∀ k, openTo reach l k ≤ k
  | 0 => Nat.le_refl 0
  | k + 1 => by
    have := openTo_le reach l k
    unfold openTo
    cases ((covF reach).getD k false && !reachedF reach l (k : Int)) <;> simp <;> omega
theorem ginv_nil (reach : List (List Bool)) : GInv reach [] := ⟨rfl, List.nodup_nil, by simpa using openTo_le reach [] (npc reach)⟩
theorem open_mono (reach : List (List Bool)) (l : List Int) (b : Int) : ∀ k, openTo reach (l ++ [b]) k ≤ openTo reach l k
  | 0 => Nat.le_refl 0
  | k + 1 => by
    have := open_mono reach l b k
    unfold openTo
    rw [reachedF_snoc]
    cases (covF reach).getD k false <;> cases reachedF reach l (k : Int) <;> cases (reach.getD b.toNat []).getD (k : Int).toNat false <;> simp <;> omega
theorem open_less {reach : List (List Bool)} {l : List Int} {b : Int} {p : Nat} (h1 : (covF reach).getD p false = true) (h2 : reachedF reach l (p : Int) = false) (h3 : rch reach b.toNat p = true) : ∀ k, p < k → openTo reach (l ++ [b]) k + 1 ≤ openTo reach l k
  | k + 1, h => by
    rcases Nat.lt_succ_iff_lt_or_eq.1 h with h | rfl
    · have := open_less (l := l) (b := b) h1 h2 h3 k h
      unfold openTo
      rw [reachedF_snoc]
      cases (covF reach).getD k false <;> cases reachedF reach l (k : Int) <;> cases (reach.getD b.toNat []).getD (k : Int).toNat false <;> simp <;> omega
    · have := open_mono reach l b p
      unfold openTo
      rw [reachedF_snoc, h1, h2, toNat_nat, show (reach.getD b.toNat []).getD p false = true from h3]
      simp
      omega
theorem any_open {reach : List (List Bool)} {l : List Int} (h : anyOpen reach l = true) : ∃ p, p < npc reach ∧ (covF reach).getD p false = true ∧ reachedF reach l (p : Int) = false := by
  unfold anyOpen at h
  have h' := h
  cases hc : ((List.range (npc reach)).all fun (p : Nat) => !((covF reach).getD p false) || reachedF reach l (p : Int)) with
  | true =>
    rw [← opn_any] at hc
    rw [h] at hc; cases hc
  | false =>
    rw [List.all_eq_false] at hc
    obtain ⟨p, hp, he⟩ := hc
    have he : (!((covF reach).getD p false) || reachedF reach l (p : Int)) = false := by simpa using he
    rw [Bool.or_eq_false_iff] at he
    exact ⟨p, List.mem_range.1 hp, by simpa using he.1, he.2⟩
theorem sel_spec {reach : List (List Bool)} {cost l : List Int} (h : anyOpen reach l = true) : 0 ≤ sel reach cost l ∧ sel reach cost l < (reach.length : Int) ∧ 0 < freshF reach l (sel reach cost l) := by
  obtain ⟨p, hp, h1, h2⟩ := any_open h
  obtain ⟨t, ht, he⟩ := (cov_iff hp).1 h1
  rcases selTo_spec (reach := reach) (cost := cost) (l := l) reach.length with ⟨_, h4⟩ | h4
  · have := h4 t ht
    have h5 := freshN_pos he h2 (npc reach) hp
    unfold freshF at this
    rw [toNat_nat] at this
    omega
  · exact h4
theorem ginv_step {reach : List (List Bool)} {cost l : List Int} (g : GInv reach l) (h : anyOpen reach l = true) : GInv reach (l ++ [sel reach cost l]) ∧ openTo reach (l ++ [sel reach cost l]) (npc reach) + 1 ≤ openTo reach l (npc reach) := by
  obtain ⟨s0, s1, s2⟩ := sel_spec (cost := cost) h
  generalize sel reach cost l = b at *
  unfold freshF at s2
  obtain ⟨p, hp, h1, h2⟩ := freshN_ex (npc reach) (show 0 < freshN reach l b.toNat (npc reach) by omega)
  have hcov := (cov_iff hp).2 ⟨b.toNat, by omega, h1⟩
  have hless := open_less (l := l) (b := b) hcov h2 h1 (npc reach) hp
  refine ⟨⟨?_, ?_, ?_⟩, hless⟩
  · have := g.inr
    unfold inR at this ⊢
    rw [List.all_append, this]
    simp
    omega
  · rw [List.nodup_append]
    refine ⟨g.nd, by simp, fun a ha c hc e => ?_⟩
    have : c = b := by simpa using hc
    subst this
    subst e
    have : reachedF reach l (p : Int) = true := by
      unfold reachedF
      rw [List.any_eq_true]
      exact ⟨a, ha, by rw [toNat_nat]; exact h1⟩
    rw [h2] at this
    cases this
  · have := g.op
    simp only [List.length_append, List.length_singleton]
    omega
end Go.Proofs.Ytfkidjkpgliffaa
