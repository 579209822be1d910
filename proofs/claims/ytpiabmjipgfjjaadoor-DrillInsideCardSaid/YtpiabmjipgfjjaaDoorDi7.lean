/- drill.Bore: its moves, one by one. -/
import Derived.Test.YtpiabmjipgfjjaaDoorDi6
namespace Go.Proofs.YtpiabmjipgfjjaaDoor
open Go.RowKit
/-- The four points of a circle. -/
def quad (g : Int × Int) (c : Int) (j : Nat) : Int × Int := if j % 4 = 0 then (g.1 + c, g.2) else if j % 4 = 1 then (g.1, g.2 + c) else if j % 4 = 2 then (g.1 - c, g.2) else (g.1, g.2 - c)
def zq (depth : Int) (N q : Nat) : Int := -(((q : Int) * depth + ((4 * N : Nat) : Int) - 1) / ((4 * N : Nat) : Int))
/-- The moves of Bore. -/
def bmv (g : Int × Int) (c depth top feed plunge : Int) (N i : Nat) : Mq :=
  if i = 0 then (2, pos3 (quad g c 0) 0, (0, 0), plunge) else if i ≤ 4 * N then (4, pos3 (quad g c i) (zq depth N i), g, feed)
  else if i = 4 * N + 1 then (4, pos3 (quad g c 0) (-depth), g, feed) else if i = 4 * N + 2 then (2, pos3 g (-depth), (0, 0), feed) else (1, pos3 g top, (0, 0), 0)
/-- The numbers of a hole that is bored. -/
structure BoreOk (g : Int × Int) (radius top depth : Int) (t : T8) (N : Nat) : Prop where
  c1 : 1 ≤ radius - t.2.2.1
  c2 : radius - t.2.2.1 ≤ 10000000
  g1 : in7 g.1
  g2 : in7 g.2
  g3 : in7 (g.1 + (radius - t.2.2.1))
  g4 : in7 (g.1 - (radius - t.2.2.1))
  g5 : in7 (g.2 + (radius - t.2.2.1))
  g6 : in7 (g.2 - (radius - t.2.2.1))
  t1 : 0 ≤ top
  t2 : top ≤ 10000000
  d1 : 1 ≤ depth
  d2 : depth ≤ 20000
  s1 : 500 ≤ t.2.2.2.2.2.1
  s2 : t.2.2.2.2.2.1 ≤ 10000000
  f1 : 1 ≤ t.2.2.2.2.2.2.1
  p1 : 1 ≤ t.2.2.2.2.2.2.2
  n1 : 1 ≤ N
  n2 : N ≤ 100
  n3 : depth ≤ (N : Int) * t.2.2.2.2.2.1
def borP (g : Int × Int) (radius top depth : Int) (t : T8) : Prop := tvP t ∧ b64 radius ∧ b64 depth ∧ depth ≤ 20000 ∧ 500 ≤ t.2.2.2.2.2.1
instance (g : Int × Int) (radius top depth : Int) (t : T8) : Decidable (borP g radius top depth t) := by unfold borP; infer_instance
def BoreGood (g : Int × Int) (radius top depth : Int) (t : T8) (l : List Mq) (e : Int) : Prop :=
  (e ≠ 0 ∧ l = []) ∨ (e = 0 ∧ ∃ N, BoreOk g radius top depth t N ∧ l = (List.range (4 * N + 4)).map (bmv g (radius - t.2.2.1) depth top t.2.2.2.2.2.2.1 t.2.2.2.2.2.2.2 N))
theorem w7 {x : Int} (h : -40000000 ≤ x ∧ x ≤ 40000000) : IntKind.i64.wrap x = x := wrap64 (by omega) (by omega)
theorem insB2_t {n : Int} (h : insB2 n = true) : in7 n := by
  unfold insB2 at h
  simp only [Bool.and_eq_true, decide_eq_true_eq] at h
  exact h
theorem quads_get (g : Int × Int) (c : Int) (q : Nat) : ([(g.1 + c, g.2), (g.1, g.2 + c), (g.1 - c, g.2), (g.1, g.2 - c)] : List (Int × Int))[q % 4]? = some (quad g c q) := by
  have : q % 4 = 0 ∨ q % 4 = 1 ∨ q % 4 = 2 ∨ q % 4 = 3 := by omega
  unfold quad
  rcases this with h | h | h | h <;> rw [h] <;> rfl
theorem ceil_div {d s : Int} (hd : 1 ≤ d) (hd2 : d ≤ 20000) (hs : 500 ≤ s) : 1 ≤ (d + s - 1) / s ∧ (d + s - 1) / s ≤ 100 ∧ d ≤ (d + s - 1) / s * s := by
  have h1 := Int.emod_nonneg (d + s - 1) (show s ≠ 0 by omega)
  have h2 := Int.emod_lt_of_pos (d + s - 1) (show 0 < s by omega)
  have h3 := Int.mul_ediv_add_emod (d + s - 1) s
  rw [Int.mul_comm] at h3
  refine ⟨Int.le_ediv_of_mul_le (by omega) (by omega), ?_, by omega⟩
  rcases Int.lt_or_le 100 ((d + s - 1) / s) with h | h
  · have := Int.mul_le_mul_of_nonneg_right (show 101 ≤ (d + s - 1) / s by omega) (show 0 ≤ s by omega)
    omega
  · exact h
theorem bor_loop (g : Int × Int) (radius top depth : Int) (t : T8) (N : Nat) (h : BoreOk g radius top depth t N) (hN : (depth + t.2.2.2.2.2.1 - 1) / t.2.2.2.2.2.1 = (N : Int)) (hsm : t.2.2.2.2.2.1 ≤ 10000000) :
    ∀ (j q : Nat), q + j = 4 * N + 1 → 1 ≤ q → bor_C.Runs 53 (bor_h53 g radius top depth t (q : Int) ((List.range q).map (bmv g (radius - t.2.2.1) depth top t.2.2.2.2.2.2.1 t.2.2.2.2.2.2.2 N)))
      [.d (.sl (.st (.pair (.int .i64) (.pair (.st (.pair (.int .i64) (.pair (.int .i64) (.int .i64)))) (.pair (.st (.pair (.int .i64) (.int .i64))) (.int .i64)))))) ((List.range (4 * N + 4)).map (bmv g (radius - t.2.2.1) depth top t.2.2.2.2.2.2.1 t.2.2.2.2.2.2.2 N)), .d (.int .i64) 0] := by
  obtain ⟨c1, c2, g1, g2, g3, g4, g5, g6, t1, t2, d1, d2, s1, _, f1, p1, n1, n2, n3⟩ := h
  unfold in7 at g1 g2 g3 g4 g5 g6
  have e1 : IntKind.i64.wrap (radius - t.2.2.1) = radius - t.2.2.1 := w7 (by omega)
  have e2 : IntKind.i64.wrap (g.1 + (radius - t.2.2.1)) = g.1 + (radius - t.2.2.1) := w7 (by omega)
  have e3 : IntKind.i64.wrap (g.1 - (radius - t.2.2.1)) = g.1 - (radius - t.2.2.1) := w7 (by omega)
  have e4 : IntKind.i64.wrap (g.2 + (radius - t.2.2.1)) = g.2 + (radius - t.2.2.1) := w7 (by omega)
  have e5 : IntKind.i64.wrap (g.2 - (radius - t.2.2.1)) = g.2 - (radius - t.2.2.1) := w7 (by omega)
  have e6 : IntKind.i64.wrap (depth + t.2.2.2.2.2.1) = depth + t.2.2.2.2.2.1 := w7 (by omega)
  have e7 : IntKind.i64.wrap (depth + t.2.2.2.2.2.1 - 1) = depth + t.2.2.2.2.2.1 - 1 := w7 (by omega)
  have e8 : Int.tdiv (depth + t.2.2.2.2.2.1 - 1) t.2.2.2.2.2.1 = (N : Int) := by rw [tdiv_pos (by omega), hN]
  have e9 : IntKind.i64.wrap (N : Int) = (N : Int) := w7 (by omega)
  have e10 : IntKind.i64.wrap (4 * (N : Int)) = ((4 * N : Nat) : Int) := by rw [w7 (by omega)]; simp
  have e11 : IntKind.i64.wrap (0 - depth) = -depth := by rw [w7 (by omega)]; omega
  have L : ∀ q : Nat, ((List.range q).map (bmv g (radius - t.2.2.1) depth top t.2.2.2.2.2.2.1 t.2.2.2.2.2.2.2 N)).length = q := by simp
  intro j
  induction j with
  | zero =>
    intro q hq hq1
    obtain rfl : q = 4 * N + 1 := by omega
    refine bor_h53_s _ _ _ _ _ _ _ ⟨0, ?_⟩
    unfold bor_h53_t
    rw [e1, e2, e3, e4, e5, e6, e7, e8, e9, e10, e11, decide_eq_false (show ¬ ((4 * N + 1 : Nat) : Int) ≤ ((4 * N : Nat) : Int) by omega)]
    rw [show getI [(g.1 + (radius - t.2.2.1), g.2), (g.1, g.2 + (radius - t.2.2.1)), (g.1 - (radius - t.2.2.1), g.2), (g.1, g.2 - (radius - t.2.2.1))] 0 = some (g.1 + (radius - t.2.2.1), g.2) from rfl]
    dsimp only
    rw [L]
    simp only [List.length_cons, List.length_nil]
    rw [decide_eq_true (by omega)]
    rw [show 4 * N + 4 = 4 * N + 1 + 1 + 1 + 1 from rfl, List.range_succ (n := 4 * N + 1 + 1 + 1), List.range_succ (n := 4 * N + 1 + 1), List.range_succ (n := 4 * N + 1), List.map_append, List.map_append, List.map_append, List.append_assoc, List.append_assoc]
    have b1 : bmv g (radius - t.2.2.1) depth top t.2.2.2.2.2.2.1 t.2.2.2.2.2.2.2 N (4 * N + 1) = (4, pos3 (quad g (radius - t.2.2.1) 0) (-depth), g, t.2.2.2.2.2.2.1) := by
      unfold bmv
      rw [if_neg (by omega), if_neg (by omega), if_pos (by omega)]
    have b2 : bmv g (radius - t.2.2.1) depth top t.2.2.2.2.2.2.1 t.2.2.2.2.2.2.2 N (4 * N + 1 + 1) = (2, pos3 g (-depth), (0, 0), t.2.2.2.2.2.2.1) := by
      unfold bmv
      rw [if_neg (by omega), if_neg (by omega), if_neg (by omega), if_pos (by omega)]
    have b3 : bmv g (radius - t.2.2.1) depth top t.2.2.2.2.2.2.1 t.2.2.2.2.2.2.2 N (4 * N + 1 + 1 + 1) = (1, pos3 g top, (0, 0), 0) := by
      unfold bmv
      rw [if_neg (by omega), if_neg (by omega), if_neg (by omega), if_neg (by omega)]
    rw [List.map_singleton, List.map_singleton, List.map_singleton, b1, b2, b3]
    rfl
  | succ j ih =>
    intro q hq hq1
    obtain ⟨n, hn⟩ := ih (q + 1) (by omega) (by omega)
    refine bor_h53_s _ _ _ _ _ _ _ ⟨n, ?_⟩
    have hmod : Int.tmod (q : Int) 4 = ((q % 4 : Nat) : Int) := by rw [Int.tmod_eq_emod_of_nonneg (by omega)]; omega
    have hqd0 : 0 ≤ (q : Int) * depth := Int.mul_nonneg (by omega) (by omega)
    have hqd : (q : Int) * depth ≤ 401 * 20000 := Int.mul_le_mul (by omega) d2 (by omega) (by omega)
    have hz0 : 0 ≤ ((q : Int) * depth + ((4 * N : Nat) : Int) - 1) / ((4 * N : Nat) : Int) := Int.ediv_nonneg (by omega) (by omega)
    have hz1 : ((q : Int) * depth + ((4 * N : Nat) : Int) - 1) / ((4 * N : Nat) : Int) ≤ (q : Int) * depth + ((4 * N : Nat) : Int) - 1 := Int.ediv_le_self _ (by omega)
    have hz : IntKind.i64.wrap (0 - IntKind.i64.wrap (Int.tdiv (IntKind.i64.wrap (IntKind.i64.wrap (IntKind.i64.wrap ((q : Int) * depth) + ((4 * N : Nat) : Int)) - 1)) ((4 * N : Nat) : Int))) = zq depth N q := by
      rw [w7 (x := (q : Int) * depth) (by omega), w7 (x := (q : Int) * depth + ((4 * N : Nat) : Int)) (by omega), w7 (x := (q : Int) * depth + ((4 * N : Nat) : Int) - 1) (by omega), tdiv_pos (by omega), w7 (x := ((q : Int) * depth + ((4 * N : Nat) : Int) - 1) / ((4 * N : Nat) : Int)) (by omega), w7 (by omega)]
      unfold zq
      omega
    unfold bor_h53_t
    rw [e1, e2, e3, e4, e5, e6, e7, e8, e9, e10, decide_eq_true (show (q : Int) ≤ ((4 * N : Nat) : Int) by omega), decide_eq_false (show ¬ ((4 * N : Nat) : Int) = 0 by omega), hmod, getI_nat, quads_get, hz, wrapS (k := q) (by omega), L]
    simp only [List.length_singleton]
    rw [app_ok (m := q) (by decide) (by omega)]
    rw [List.range_succ, List.map_append] at hn
    have hb : bmv g (radius - t.2.2.1) depth top t.2.2.2.2.2.2.1 t.2.2.2.2.2.2.2 N q = (4, pos3 (quad g (radius - t.2.2.1) q) (zq depth N q), g, t.2.2.2.2.2.2.1) := by
      unfold bmv
      rw [if_neg (by omega), if_pos (by omega)]
    rw [List.map_singleton, hb] at hn
    exact hn
theorem tl8_good {t : T8} (h : (tvF t != 0) = false) : (tl8 t).Good := by
  unfold tvF at h
  split at h
  · rename_i hg; exact of_decide_eq_true hg
  · simp at h
set_option maxHeartbeats 1000000 in
theorem bor_ex (g : Int × Int) (radius top depth : Int) (t : T8) (h : borP g radius top depth t) : ∃ l e, BoreGood g radius top depth t l e ∧ Con Tryd.prog 12 [.d (.st (.pair (.int .i64) (.int .i64))) g, .d (.int .i64) radius, .d (.int .i64) top, .d (.int .i64) depth, .d (.st (.pair (.int .i64) (.pair (.int .i64) (.pair (.int .i64) (.pair (.int .i64) (.pair (.int .i64) (.pair (.int .i64) (.pair (.int .i64) (.int .i64))))))))) t] [.d (.sl (.st (.pair (.int .i64) (.pair (.st (.pair (.int .i64) (.pair (.int .i64) (.int .i64)))) (.pair (.st (.pair (.int .i64) (.int .i64))) (.int .i64)))))) l, .d (.int .i64) e] := by
  suffices hs : ∃ l e, BoreGood g radius top depth t l e ∧ bor_C.Res 12 [.d (.st (.pair (.int .i64) (.int .i64))) g, .d (.int .i64) radius, .d (.int .i64) top, .d (.int .i64) depth, .d (.st (.pair (.int .i64) (.pair (.int .i64) (.pair (.int .i64) (.pair (.int .i64) (.pair (.int .i64) (.pair (.int .i64) (.pair (.int .i64) (.int .i64))))))))) t] [.d (.sl (.st (.pair (.int .i64) (.pair (.st (.pair (.int .i64) (.pair (.int .i64) (.int .i64)))) (.pair (.st (.pair (.int .i64) (.int .i64))) (.int .i64)))))) l, .d (.int .i64) e] by
    obtain ⟨l, e, h1, h2⟩ := hs
    exact ⟨l, e, h1, Ctx.Res.con (C := bor_C) (ctx_ok envD6_ok) h2 (fn := Tryd.f12) (by kernel_rfl) (by kernel_rfl)⟩
  obtain ⟨ht, hr, hdp, hd2, hs1⟩ := h
  cases c0 : (tvF t != 0)
  case true => exact ⟨[], 1, .inl ⟨by decide, rfl⟩, bor_s _ _ _ _ _ ⟨0, by unfold bor_t; rw [decide_eq_true ht, c0]⟩⟩
  cases c1 : (t.2.1 != 1)
  case true => exact ⟨[], 1, .inl ⟨by decide, rfl⟩, bor_s _ _ _ _ _ ⟨0, by unfold bor_t; rw [decide_eq_true ht, c0, c1]⟩⟩
  cases c2 : (decide (top < 0))
  case true => exact ⟨[], 1, .inl ⟨by decide, rfl⟩, bor_s _ _ _ _ _ ⟨0, by unfold bor_t; rw [decide_eq_true ht, c0, c1, c2]⟩⟩
  cases c3 : (decide (radius < 1))
  case true => exact ⟨[], 1, .inl ⟨by decide, rfl⟩, bor_s _ _ _ _ _ ⟨0, by unfold bor_t; rw [decide_eq_true ht, c0, c1, c2, c3]⟩⟩
  cases c4 : (decide (depth < 1))
  case true => exact ⟨[], 1, .inl ⟨by decide, rfl⟩, bor_s _ _ _ _ _ ⟨0, by unfold bor_t; rw [decide_eq_true ht, c0, c1, c2, c3, c4]⟩⟩
  cases c5 : (decide (t.2.2.2.1 < depth))
  case true => exact ⟨[], 16, .inl ⟨by decide, rfl⟩, bor_s _ _ _ _ _ ⟨0, by unfold bor_t; rw [decide_eq_true ht, c0, c1, c2, c3, c4, c5]⟩⟩
  cases c6 : (!(milB t radius))
  case true => exact ⟨[], 16, .inl ⟨by decide, rfl⟩, bor_s _ _ _ _ _ ⟨0, by unfold bor_t; rw [decide_eq_true ht, c0, c1, c2, c3, c4, c5, c6]⟩⟩
  cases c7 : (!(insB2 g.1))
  case true => exact ⟨[], 11, .inl ⟨by decide, rfl⟩, bor_s _ _ _ _ _ ⟨0, by unfold bor_t; rw [decide_eq_true ht, c0, c1, c2, c3, c4, c5, c6, c7]⟩⟩
  cases c8 : (!(insB2 g.2))
  case true => exact ⟨[], 11, .inl ⟨by decide, rfl⟩, bor_s _ _ _ _ _ ⟨0, by unfold bor_t; rw [decide_eq_true ht, c0, c1, c2, c3, c4, c5, c6, c7, c8]⟩⟩
  cases c9 : (!(insB2 top))
  case true => exact ⟨[], 11, .inl ⟨by decide, rfl⟩, bor_s _ _ _ _ _ ⟨0, by unfold bor_t; rw [decide_eq_true ht, c0, c1, c2, c3, c4, c5, c6, c7, c8, c9]⟩⟩
  cases c10 : (!(insB2 depth))
  case true => exact ⟨[], 11, .inl ⟨by decide, rfl⟩, bor_s _ _ _ _ _ ⟨0, by unfold bor_t; rw [decide_eq_true ht, c0, c1, c2, c3, c4, c5, c6, c7, c8, c9, c10]⟩⟩
  cases c11 : (!(insB2 (IntKind.i64.wrap (g.1 + (IntKind.i64.wrap (radius - t.2.2.1))))))
  case true => exact ⟨[], 11, .inl ⟨by decide, rfl⟩, bor_s _ _ _ _ _ ⟨0, by unfold bor_t; rw [decide_eq_true ht, c0, c1, c2, c3, c4, c5, c6, c7, c8, c9, c10, c11]⟩⟩
  cases c12 : (!(insB2 (IntKind.i64.wrap (g.1 - (IntKind.i64.wrap (radius - t.2.2.1))))))
  case true => exact ⟨[], 11, .inl ⟨by decide, rfl⟩, bor_s _ _ _ _ _ ⟨0, by unfold bor_t; rw [decide_eq_true ht, c0, c1, c2, c3, c4, c5, c6, c7, c8, c9, c10, c11, c12]⟩⟩
  cases c13 : (!(insB2 (IntKind.i64.wrap (g.2 + (IntKind.i64.wrap (radius - t.2.2.1))))))
  case true => exact ⟨[], 11, .inl ⟨by decide, rfl⟩, bor_s _ _ _ _ _ ⟨0, by unfold bor_t; rw [decide_eq_true ht, c0, c1, c2, c3, c4, c5, c6, c7, c8, c9, c10, c11, c12, c13]⟩⟩
  cases c14 : (!(insB2 (IntKind.i64.wrap (g.2 - (IntKind.i64.wrap (radius - t.2.2.1))))))
  case true => exact ⟨[], 11, .inl ⟨by decide, rfl⟩, bor_s _ _ _ _ _ ⟨0, by unfold bor_t; rw [decide_eq_true ht, c0, c1, c2, c3, c4, c5, c6, c7, c8, c9, c10, c11, c12, c13, c14]⟩⟩
  have hG := tl8_good c0
  simp only [Tl.Good, tl8] at hG
  obtain ⟨q1, q2, q3, q4, ⟨q5, q6⟩, ⟨q7, q8⟩, ⟨q9, q10⟩, ⟨q11, q12⟩, ⟨q13, q14⟩, q15, q16, q17⟩ := hG
  have k2 := of_decide_eq_false c2
  have k3 := of_decide_eq_false c3
  have k4 := of_decide_eq_false c4
  have k6 : milB t radius = true := by simpa using c6
  unfold milB at k6
  simp only [Bool.and_eq_true, decide_eq_true_eq] at k6
  obtain ⟨_, k6, k6'⟩ := k6
  unfold b64 at hr hdp
  have e1 : IntKind.i64.wrap (radius - t.2.2.1) = radius - t.2.2.1 := wrap64 (by omega) (by omega)
  rw [e1] at k6'
  have g1 := insB2_t (show insB2 g.1 = true by simpa using c7)
  have g2 := insB2_t (show insB2 g.2 = true by simpa using c8)
  have g0 := insB2_t (show insB2 top = true by simpa using c9)
  have g1' := g1
  have g2' := g2
  unfold in7 at g1' g2' g0
  have e2 : IntKind.i64.wrap (g.1 + (radius - t.2.2.1)) = g.1 + (radius - t.2.2.1) := w7 (by omega)
  have e3 : IntKind.i64.wrap (g.1 - (radius - t.2.2.1)) = g.1 - (radius - t.2.2.1) := w7 (by omega)
  have e4 : IntKind.i64.wrap (g.2 + (radius - t.2.2.1)) = g.2 + (radius - t.2.2.1) := w7 (by omega)
  have e5 : IntKind.i64.wrap (g.2 - (radius - t.2.2.1)) = g.2 - (radius - t.2.2.1) := w7 (by omega)
  have g3 := insB2_t (show insB2 _ = true by simpa using c11)
  have g4 := insB2_t (show insB2 _ = true by simpa using c12)
  have g5 := insB2_t (show insB2 _ = true by simpa using c13)
  have g6 := insB2_t (show insB2 _ = true by simpa using c14)
  rw [e1, e2] at g3
  rw [e1, e3] at g4
  rw [e1, e4] at g5
  rw [e1, e5] at g6
  obtain ⟨n1, n2, n3⟩ := ceil_div (d := depth) (s := t.2.2.2.2.2.1) (by omega) hd2 hs1
  obtain ⟨N, hN⟩ := Int.eq_ofNat_of_zero_le (show 0 ≤ (depth + t.2.2.2.2.2.1 - 1) / t.2.2.2.2.2.1 by omega)
  rw [hN] at n1 n2 n3
  have ok : BoreOk g radius top depth t N := ⟨by omega, by omega, g1, g2, g3, g4, g5, g6, by omega, by omega, by omega, hd2, hs1, q10, q11, q13, by omega, by omega, n3⟩
  obtain ⟨q, hq⟩ := bor_loop g radius top depth t N ok hN (by omega) (4 * N) 1 (by omega) (by omega)
  refine ⟨_, 0, .inr ⟨rfl, N, ok, rfl⟩, bor_s _ _ _ _ _ ⟨q, ?_⟩⟩
  unfold bor_t
  rw [decide_eq_true ht, c0, c1, c2, c3, c4, c5, c6, c7, c8, c9, c10, c11, c12, c13, c14]
  have e6 : IntKind.i64.wrap (depth + t.2.2.2.2.2.1) = depth + t.2.2.2.2.2.1 := w7 (by omega)
  have e7 : IntKind.i64.wrap (depth + t.2.2.2.2.2.1 - 1) = depth + t.2.2.2.2.2.1 - 1 := w7 (by omega)
  have e8 : Int.tdiv (depth + t.2.2.2.2.2.1 - 1) t.2.2.2.2.2.1 = (N : Int) := by rw [tdiv_pos (by omega), hN]
  have e9 : IntKind.i64.wrap (N : Int) = (N : Int) := w7 (by omega)
  rw [e6, e7, e8, e9, w7 (x := 4 * (N : Int)) (by omega), w7 (x := 4 * (N : Int) + 4) (by omega), decide_eq_false (show ¬ t.2.2.2.2.2.1 = 0 by omega), decide_eq_false (show ¬ 4 * (N : Int) + 4 > 20000 by omega), e1, e2, e3, e4, e5]
  exact hq
noncomputable def borL (g : Int × Int) (radius top depth : Int) (t : T8) : List Mq := if h : borP g radius top depth t then Classical.choose (bor_ex g radius top depth t h) else []
noncomputable def borE (g : Int × Int) (radius top depth : Int) (t : T8) : Int := if h : borP g radius top depth t then Classical.choose (Classical.choose_spec (bor_ex g radius top depth t h)) else 0
theorem bor_good (g : Int × Int) (radius top depth : Int) (t : T8) (h : borP g radius top depth t) : BoreGood g radius top depth t (borL g radius top depth t) (borE g radius top depth t) := by
  unfold borL borE
  rw [dif_pos h, dif_pos h]
  exact (Classical.choose_spec (Classical.choose_spec (bor_ex g radius top depth t h))).1
theorem bor_con (g : Int × Int) (radius top depth : Int) (t : T8) (h : borP g radius top depth t) : Con Tryd.prog 12 [.d (.st (.pair (.int .i64) (.int .i64))) g, .d (.int .i64) radius, .d (.int .i64) top, .d (.int .i64) depth, .d (.st (.pair (.int .i64) (.pair (.int .i64) (.pair (.int .i64) (.pair (.int .i64) (.pair (.int .i64) (.pair (.int .i64) (.pair (.int .i64) (.int .i64))))))))) t] [.d (.sl (.st (.pair (.int .i64) (.pair (.st (.pair (.int .i64) (.pair (.int .i64) (.int .i64)))) (.pair (.st (.pair (.int .i64) (.int .i64))) (.int .i64)))))) (borL g radius top depth t), .d (.int .i64) (borE g radius top depth t)] := by
  unfold borL borE
  rw [dif_pos h, dif_pos h]
  exact (Classical.choose_spec (Classical.choose_spec (bor_ex g radius top depth t h))).2
end Go.Proofs.YtpiabmjipgfjjaaDoor
