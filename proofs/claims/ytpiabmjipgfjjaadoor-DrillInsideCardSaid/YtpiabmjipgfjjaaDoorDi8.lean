/- The moves of Bore: valid, inside, not too steep. -/
import Derived.Test.YtpiabmjipgfjjaaDoorDi7
namespace Go.Proofs.YtpiabmjipgfjjaaDoor
open Go.RowKit
section
variable (g : Int × Int) (c depth top feed plunge : Int) (N : Nat)
def prv (i : Nat) : P3 := if i = 0 then (g.1 + c, g.2, top) else (bmv g c depth top feed plunge N (i - 1)).2.1
variable {g c depth top feed plunge N}
structure Nums (g : Int × Int) (c depth top feed plunge step : Int) (N : Nat) : Prop where
  c1 : 1 ≤ c
  c2 : c ≤ 10000000
  g1 : in7 g.1
  g2 : in7 g.2
  g3 : in7 (g.1 + c)
  g4 : in7 (g.1 - c)
  g5 : in7 (g.2 + c)
  g6 : in7 (g.2 - c)
  t1 : 0 ≤ top
  t2 : top ≤ 10000000
  d1 : 1 ≤ depth
  d2 : depth ≤ 20000
  s1 : 500 ≤ step
  f1 : 1 ≤ feed
  p1 : 1 ≤ plunge
  n1 : 1 ≤ N
  n2 : N ≤ 100
  n3 : depth ≤ (N : Int) * step
variable {step : Int} (h : Nums g c depth top feed plunge step N)
include h
theorem zq_facts (q : Nat) : ((4 * N : Nat) : Int) * (-zq depth N q) ≥ (q : Int) * depth ∧ ((4 * N : Nat) : Int) * (-zq depth N q) ≤ (q : Int) * depth + ((4 * N : Nat) : Int) - 1 := by
  obtain ⟨c1, c2, g1, g2, g3, g4, g5, g6, t1, t2, d1, d2, s1, f1, p1, n1, n2, n3⟩ := h
  have h1 := Int.emod_nonneg ((q : Int) * depth + ((4 * N : Nat) : Int) - 1) (show ((4 * N : Nat) : Int) ≠ 0 by omega)
  have h2 := Int.emod_lt_of_pos ((q : Int) * depth + ((4 * N : Nat) : Int) - 1) (show 0 < ((4 * N : Nat) : Int) by omega)
  have h3 := Int.mul_ediv_add_emod ((q : Int) * depth + ((4 * N : Nat) : Int) - 1) ((4 * N : Nat) : Int)
  unfold zq
  rw [Int.neg_neg]
  generalize ((4 * N : Nat) : Int) * (((q : Int) * depth + ((4 * N : Nat) : Int) - 1) / ((4 * N : Nat) : Int)) = y at *
  omega
theorem zq_bd (q : Nat) (hq : q ≤ 4 * N) : -depth ≤ zq depth N q ∧ zq depth N q ≤ 0 := by
  obtain ⟨f1, f2⟩ := zq_facts h q
  have n1 := h.n1
  have d1 := h.d1
  have hm : (0 : Int) < ((4 * N : Nat) : Int) := by omega
  have hqd : (q : Int) * depth ≤ ((4 * N : Nat) : Int) * depth := Int.mul_le_mul_of_nonneg_right (by omega) (by omega)
  have hq0 : 0 ≤ (q : Int) * depth := Int.mul_nonneg (by omega) (by omega)
  constructor
  · rcases Int.lt_or_le (zq depth N q) (-depth) with hl | hl
    · have := Int.mul_le_mul_of_nonneg_left (show depth + 1 ≤ -zq depth N q by omega) (Int.le_of_lt hm)
      rw [Int.mul_add, Int.mul_one] at this
      omega
    · exact hl
  · rcases Int.lt_or_le 0 (zq depth N q) with hl | hl
    · have := Int.mul_le_mul_of_nonneg_left (show -zq depth N q ≤ -1 by omega) (Int.le_of_lt hm)
      omega
    · exact hl
theorem zq_end : zq depth N (4 * N) = -depth := by
  obtain ⟨f1, f2⟩ := zq_facts h (4 * N)
  have n1 := h.n1
  have hb := zq_bd h (4 * N) (Nat.le_refl _)
  have hm : (0 : Int) < ((4 * N : Nat) : Int) := by omega
  have := Int.le_of_mul_le_mul_left f1 hm
  omega
theorem zq_zero : zq depth N 0 = 0 := by
  have n1 := h.n1
  unfold zq
  rw [show ((0 : Nat) : Int) * depth + ((4 * N : Nat) : Int) - 1 = ((4 * N : Nat) : Int) - 1 by simp]
  rw [Int.ediv_eq_zero_of_lt (by omega) (by omega)]
  rfl
theorem zq_step (q : Nat) : zq depth N q - zq depth N (q + 4) ≤ step + 1 := by
  obtain ⟨a1, a2⟩ := zq_facts h q
  obtain ⟨b1, b2⟩ := zq_facts h (q + 4)
  have n1 := h.n1
  have n3 := h.n3
  have hm : (0 : Int) < ((4 * N : Nat) : Int) := by omega
  have e : (((q + 4 : Nat) : Int)) * depth = (q : Int) * depth + 4 * depth := by
    rw [show ((q + 4 : Nat) : Int) = (q : Int) + 4 by simp, Int.add_mul]
  rw [e] at b2
  rcases Int.lt_or_le (step + 1) (zq depth N q - zq depth N (q + 4)) with hl | hl
  · have := Int.mul_le_mul_of_nonneg_left (show step + 2 ≤ zq depth N q - zq depth N (q + 4) by omega) (Int.le_of_lt hm)
    rw [Int.mul_add, Int.mul_sub] at this
    rw [Int.mul_neg] at a1 b2
    have e2 : ((4 * N : Nat) : Int) * step = 4 * ((N : Int) * step) := by
      rw [show ((4 * N : Nat) : Int) = 4 * (N : Int) by simp, Int.mul_assoc]
    rw [e2] at this
    omega
  · exact hl
omit h in
theorem quad_succ (j : Nat) : quad g c (j + 4) = quad g c j := by unfold quad; rw [Nat.add_mod_right]
theorem quad_pt (j : Nat) (z : Int) : pntF (pos3 (quad g c j) z) g = (((j % 4 : Nat) : Int), c) := by
  have c1 := h.c1
  have : j % 4 = 0 ∨ j % 4 = 1 ∨ j % 4 = 2 ∨ j % 4 = 3 := by omega
  unfold pntF quad pos3
  rcases this with e | e | e | e <;> rw [e]
  · simp only [if_true]
    simp only [show decide (g.1 + c > g.1) = true from decide_eq_true (by omega), BEq.rfl, Bool.and_true, cond_true]
    refine Prod.ext rfl ?_
    show g.1 + c - g.1 = c
    omega
  · simp only [show ¬ (1 : Nat) = 0 by decide, if_true, if_false]
    simp only [show (g.2 + c == g.2) = false by simp; omega, show decide (g.2 + c > g.2) = true from decide_eq_true (by omega), BEq.rfl, Bool.and_true, Bool.false_and, cond_true, cond_false]
    refine Prod.ext rfl ?_
    show g.2 + c - g.2 = c
    omega
  · simp only [show ¬ (2 : Nat) = 0 by decide, show ¬ (2 : Nat) = 1 by decide, if_true, if_false]
    simp only [show (g.1 - c == g.1) = false by simp; omega, show decide (g.1 - c > g.1) = false from decide_eq_false (by omega), show decide (g.1 - c < g.1) = true from decide_eq_true (by omega), BEq.rfl, Bool.and_true, Bool.and_false, Bool.false_and, cond_true, cond_false]
    refine Prod.ext rfl ?_
    show g.1 - (g.1 - c) = c
    omega
  · simp only [show ¬ (3 : Nat) = 0 by decide, show ¬ (3 : Nat) = 1 by decide, show ¬ (3 : Nat) = 2 by decide, if_false]
    simp only [show (g.2 - c == g.2) = false by simp; omega, show decide (g.2 - c > g.2) = false from decide_eq_false (by omega), show decide (g.2 - c < g.2) = true from decide_eq_true (by omega), BEq.rfl, Bool.and_true, Bool.and_false, Bool.false_and, cond_true, cond_false]
    refine Prod.ext rfl ?_
    show g.2 - (g.2 - c) = c
    omega
theorem quad_in (j : Nat) : in7 (quad g c j).1 ∧ in7 (quad g c j).2 := by
  obtain ⟨c1, c2, g1, g2, g3, g4, g5, g6, _⟩ := h
  unfold quad
  repeat' split
  all_goals exact ⟨by assumption, by assumption⟩
/-- Where an arc of Bore begins and ends. -/
theorem arc_ok (j k : Nat) (z1 z2 : Int) (h1 : in7 z1) (h2 : in7 z2) : quOk (pos3 (quad g c j) z1) (4, pos3 (quad g c k) z2, g, feed) := by
  refine ⟨⟨⟨(quad_in h j).1, (quad_in h j).2, h1, (quad_in h k).1, (quad_in h k).2, h2⟩, .inr (.inr ⟨rfl, ?_⟩)⟩, rfl⟩
  unfold arOk
  dsimp only
  rw [quad_pt h, quad_pt h]
  exact ⟨by have := h.f1; omega, h.g1, h.g2, by have := h.c1; dsimp only; omega, rfl, h.c2, h.g3, h.g4, h.g5, h.g6⟩
omit h in
theorem bmv_0 : bmv g c depth top feed plunge N 0 = (2, pos3 (quad g c 0) 0, (0, 0), plunge) := by simp [bmv]
omit h in
theorem bmv_q {i : Nat} (h1 : 1 ≤ i) (h2 : i ≤ 4 * N) : bmv g c depth top feed plunge N i = (4, pos3 (quad g c i) (zq depth N i), g, feed) := by unfold bmv; rw [if_neg (by omega), if_pos h2]
omit h in
theorem bmv_1 : bmv g c depth top feed plunge N (4 * N + 1) = (4, pos3 (quad g c 0) (-depth), g, feed) := by unfold bmv; rw [if_neg (by omega), if_neg (by omega), if_pos rfl]
omit h in
theorem bmv_2 : bmv g c depth top feed plunge N (4 * N + 2) = (2, pos3 g (-depth), (0, 0), feed) := by unfold bmv; rw [if_neg (by omega), if_neg (by omega), if_neg (by omega), if_pos rfl]
omit h in
theorem bmv_3 : bmv g c depth top feed plunge N (4 * N + 3) = (1, pos3 g top, (0, 0), 0) := by unfold bmv; rw [if_neg (by omega), if_neg (by omega), if_neg (by omega), if_neg (by omega)]
/-- The way of a move, in four kinds. -/
theorem way (i : Nat) (hi : i < 4 * N + 4) :
    (∃ j k z1 z2, prv g c depth top feed plunge N i = pos3 (quad g c j) z1 ∧ bmv g c depth top feed plunge N i = (4, pos3 (quad g c k) z2, g, feed) ∧ -depth ≤ z1 ∧ z1 ≤ 0 ∧ -depth ≤ z2 ∧ z2 ≤ 0) ∨
    (∃ x y z, bmv g c depth top feed plunge N i = (2, (x, y, z), (0, 0), plunge) ∧ x = g.1 + c ∧ y = g.2 ∧ z = 0 ∧ prv g c depth top feed plunge N i = (g.1 + c, g.2, top)) ∨
    (bmv g c depth top feed plunge N i = (2, pos3 g (-depth), (0, 0), feed) ∧ prv g c depth top feed plunge N i = pos3 (quad g c 0) (-depth)) ∨
    (bmv g c depth top feed plunge N i = (1, pos3 g top, (0, 0), 0) ∧ prv g c depth top feed plunge N i = pos3 g (-depth)) := by
  have n1 := h.n1
  have d1 := h.d1
  rcases Nat.eq_zero_or_pos i with h0 | h0
  · subst h0
    refine .inr (.inl ⟨_, _, _, bmv_0, rfl, rfl, rfl, ?_⟩)
    unfold prv
    rw [if_pos rfl]
  have hp : prv g c depth top feed plunge N i = (bmv g c depth top feed plunge N (i - 1)).2.1 := by unfold prv; rw [if_neg (by omega)]
  by_cases h1 : i ≤ 4 * N
  · left
    have hb := zq_bd h i h1
    have hb' := zq_bd h (i - 1) (by omega)
    refine ⟨i - 1, i, zq depth N (i - 1), zq depth N i, ?_, bmv_q h0 h1, hb'.1, hb'.2, hb.1, hb.2⟩
    rw [hp]
    rcases Nat.eq_zero_or_pos (i - 1) with e | e
    · rw [e, bmv_0, zq_zero h]
    · rw [bmv_q e (by omega)]
  · have : i = 4 * N + 1 ∨ i = 4 * N + 2 ∨ i = 4 * N + 3 := by omega
    rcases this with rfl | rfl | rfl
    · left
      refine ⟨4 * N, 0, -depth, -depth, ?_, bmv_1, by omega, by omega, by omega, by omega⟩
      rw [hp, Nat.add_sub_cancel, bmv_q (by omega) (by omega), zq_end h]
    · right; right; left
      refine ⟨bmv_2, ?_⟩
      rw [hp, show 4 * N + 2 - 1 = 4 * N + 1 from rfl, bmv_1]
    · right; right; right
      refine ⟨bmv_3, ?_⟩
      rw [hp, show 4 * N + 3 - 1 = 4 * N + 2 from rfl, bmv_2]
theorem mv_ok (i : Nat) (hi : i < 4 * N + 4) : mvOk (prv g c depth top feed plunge N i) (bmv g c depth top feed plunge N i) := by
  have n1 := h.n1
  have hd1 := h.d1
  have hd2 := h.d2
  have ht1 := h.t1
  have ht2 := h.t2
  rcases way h i hi with ⟨j, k, z1, z2, e1, e2, b1, b2, b3, b4⟩ | ⟨x, y, z, e1, rfl, rfl, rfl, e2⟩ | ⟨e1, e2⟩ | ⟨e1, e2⟩
  · rw [e1, e2]; exact (arc_ok h j k z1 z2 (by unfold in7; omega) (by unfold in7; omega)).1
  · rw [e1, e2]
    exact ⟨⟨h.g3, h.g2, by unfold in7; dsimp only; omega, h.g3, h.g2, by unfold in7; dsimp only; omega⟩, .inr (.inl ⟨rfl, by have := h.p1; dsimp only; omega⟩)⟩
  · rw [e1, e2]
    exact ⟨⟨(quad_in h 0).1, (quad_in h 0).2, by unfold in7 pos3; dsimp only; omega, h.g1, h.g2, by unfold in7 pos3; dsimp only; omega⟩, .inr (.inl ⟨rfl, by have := h.f1; dsimp only; omega⟩)⟩
  · rw [e1, e2]
    exact ⟨⟨h.g1, h.g2, by unfold in7 pos3; dsimp only; omega, h.g1, h.g2, by unfold in7 pos3; dsimp only; omega⟩, .inl ⟨rfl, rfl⟩⟩
theorem pos_in (i : Nat) (hi : i < 4 * N + 4) : (∀ x ∈ posL (prv g c depth top feed plunge N i) [bmv g c depth top feed plunge N i], (x.1 - g.1) * (x.1 - g.1) + (x.2.1 - g.2) * (x.2.1 - g.2) ≤ c * c ∧ in8 x.1 ∧ in8 x.2.1 ∧ -depth ≤ x.2.2) ∧ (posL (prv g c depth top feed plunge N i) [bmv g c depth top feed plunge N i]).length ≤ 4000 := by
  have n1 := h.n1
  have hd1 := h.d1
  have hd2 := h.d2
  have ht1 := h.t1
  have c1 := h.c1
  have cc : 0 ≤ c * c := Int.mul_nonneg (by omega) (by omega)
  rcases way h i hi with ⟨j, k, z1, z2, e1, e2, b1, b2, b3, b4⟩ | ⟨x, y, z, e1, rfl, rfl, rfl, e2⟩ | ⟨e1, e2⟩ | ⟨e1, e2⟩
  · rw [e1, e2]
    unfold posL
    dsimp only
    rw [if_pos rfl]
    obtain ⟨ha, hl⟩ := arcL_ok _ _ (arc_ok h j k z1 z2 (by unfold in7; omega) (by unfold in7; omega))
    refine ⟨fun x hx => ?_, hl⟩
    obtain ⟨a1, a2, a3, a4⟩ := ha x hx
    dsimp only at a1
    rw [quad_pt h] at a1
    refine ⟨a1, a2, a3, ?_⟩
    unfold pos3 at a4
    dsimp only at a4
    omega
  · rw [e1, e2]
    unfold posL
    dsimp only
    rw [if_neg (by decide)]
    refine ⟨fun x hx => ?_, by simp⟩
    rw [List.mem_singleton.1 hx]
    dsimp only
    refine ⟨?_, h.g3.r, h.g2.r, by omega⟩
    rw [show g.1 + c - g.1 = c by omega, show g.2 - g.2 = 0 by omega]
    omega
  · rw [e1, e2]
    unfold posL
    dsimp only
    rw [if_neg (by decide)]
    refine ⟨fun x hx => ?_, by simp⟩
    rw [List.mem_singleton.1 hx]
    unfold pos3
    dsimp only
    refine ⟨?_, h.g1.r, h.g2.r, by omega⟩
    rw [show g.1 - g.1 = 0 by omega, show g.2 - g.2 = 0 by omega]
    omega
  · rw [e1, e2]
    unfold posL
    dsimp only
    rw [if_neg (by decide)]
    refine ⟨fun x hx => ?_, by simp⟩
    rw [List.mem_singleton.1 hx]
    unfold pos3
    dsimp only
    refine ⟨?_, h.g1.r, h.g2.r, by omega⟩
    rw [show g.1 - g.1 = 0 by omega, show g.2 - g.2 = 0 by omega]
    omega
theorem z_of (i : Nat) (hi : i ≤ 4 * N) : (bmv g c depth top feed plunge N i).2.1.2.2 = zq depth N i := by
  rcases Nat.eq_zero_or_pos i with e | e
  · subst e; rw [bmv_0, zq_zero h]; rfl
  · rw [bmv_q e hi]; rfl
theorem not_steep (i : Nat) (h4 : 4 ≤ i) (hi : i < 4 * N + 4) (hk : (bmv g c depth top feed plunge N i).1 = 4) :
    (bmv g c depth top feed plunge N (i - 4)).2.1.2.2 - (bmv g c depth top feed plunge N i).2.1.2.2 ≤ step + 1 ∧ (-20000 ≤ (bmv g c depth top feed plunge N (i - 4)).2.1.2.2 ∧ (bmv g c depth top feed plunge N (i - 4)).2.1.2.2 ≤ 0) ∧ -20000 ≤ (bmv g c depth top feed plunge N i).2.1.2.2 ∧ (bmv g c depth top feed plunge N i).2.1.2.2 ≤ 0 := by
  have n1 := h.n1
  have d1 := h.d1
  have d2 := h.d2
  have hb := zq_bd h (i - 4) (by omega)
  rw [z_of h (i - 4) (by omega)]
  by_cases h1 : i ≤ 4 * N
  · have hs := zq_step h (i - 4)
    have hb' := zq_bd h i h1
    rw [show i - 4 + 4 = i by omega] at hs
    rw [z_of h i h1]
    omega
  · have : i = 4 * N + 1 ∨ i = 4 * N + 2 ∨ i = 4 * N + 3 := by omega
    rcases this with rfl | rfl | rfl
    · have hs := zq_step h (4 * N - 4)
      rw [show 4 * N - 4 + 4 = 4 * N by omega, zq_end h] at hs
      have hm : zq depth N (4 * N + 1 - 4) ≤ zq depth N (4 * N - 4) + 0 := by
        obtain ⟨a1, a2⟩ := zq_facts h (4 * N + 1 - 4)
        obtain ⟨b1, b2⟩ := zq_facts h (4 * N - 4)
        rcases Int.lt_or_le (zq depth N (4 * N - 4)) (zq depth N (4 * N + 1 - 4)) with hl | hl
        · have hm : (0 : Int) < ((4 * N : Nat) : Int) := by omega
          have := Int.mul_le_mul_of_nonneg_left (show -zq depth N (4 * N + 1 - 4) + 1 ≤ -zq depth N (4 * N - 4) by omega) (Int.le_of_lt hm)
          rw [Int.mul_add, Int.mul_one] at this
          have e : ((4 * N + 1 - 4 : Nat) : Int) * depth = ((4 * N - 4 : Nat) : Int) * depth + depth := by
            rw [show ((4 * N + 1 - 4 : Nat) : Int) = ((4 * N - 4 : Nat) : Int) + 1 by omega, Int.add_mul, Int.one_mul]
          omega
        · omega
      rw [bmv_1]
      unfold pos3
      dsimp only
      omega
    · rw [bmv_2] at hk; simp at hk
    · rw [bmv_3] at hk; simp at hk
theorem quart : quOk (bmv g c depth top feed plunge N (4 * N)).2.1 (bmv g c depth top feed plunge N (4 * N + 1)) ∧ quF (bmv g c depth top feed plunge N (4 * N)).2.1 (bmv g c depth top feed plunge N (4 * N + 1)) = 4 ∧ (bmv g c depth top feed plunge N (4 * N + 1)).2.1.2.2 = -depth ∧ (bmv g c depth top feed plunge N (4 * N)).2.1.2.2 = -depth := by
  have n1 := h.n1
  have d1 := h.d1
  have d2 := h.d2
  rw [bmv_1, bmv_q (by omega) (by omega), zq_end h]
  refine ⟨arc_ok h _ _ _ _ (by unfold in7; omega) (by unfold in7; omega), ?_, rfl, rfl⟩
  unfold quF
  dsimp only
  rw [quad_pt h, quad_pt h]
  simp [quN]
end
end Go.Proofs.YtpiabmjipgfjjaaDoor
