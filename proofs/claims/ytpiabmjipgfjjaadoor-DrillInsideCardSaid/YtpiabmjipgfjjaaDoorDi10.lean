/- The law DrillInside returns true: its loops. -/
import Derived.Test.YtpiabmjipgfjjaaDoorDi9
namespace Go.Proofs.YtpiabmjipgfjjaaDoor
open Go.RowKit

theorem BoreOk.nums {g : Int × Int} {radius top depth : Int} {t : T8} {N : Nat} (h : BoreOk g radius top depth t N) : Nums g (radius - t.2.2.1) depth top t.2.2.2.2.2.2.1 t.2.2.2.2.2.2.2 t.2.2.2.2.2.1 N := by
  obtain ⟨c1, c2, g1, g2, g3, g4, g5, g6, t1, t2, d1, d2, s1, _, f1, p1, n1, n2, n3⟩ := h
  exact ⟨c1, c2, g1, g2, g3, g4, g5, g6, t1, t2, d1, d2, s1, f1, p1, n1, n2, n3⟩
theorem sq_in {x y c : Int} (hx : -200000000 ≤ x ∧ x ≤ 200000000) (hy : -200000000 ≤ y ∧ y ≤ 200000000) (h : x * x + y * y ≤ c * c) (hc : 1 ≤ c ∧ c ≤ 10000000) : IntKind.i64.wrap (x * x) = x * x ∧ IntKind.i64.wrap (y * y) = y * y ∧ IntKind.i64.wrap (x * x + y * y) = x * x + y * y ∧ IntKind.i64.wrap (c * c) = c * c := by
  have hcc : c * c ≤ 10000000 * 10000000 := Int.mul_le_mul hc.2 hc.2 (by omega) (by omega)
  have sq : ∀ z : Int, 0 ≤ z * z := fun z => by
    rcases Int.le_total 0 z with hz | hz
    · exact Int.mul_nonneg hz hz
    · exact Int.mul_nonneg_of_nonpos_of_nonpos hz hz
  have h1 := sq x
  have h2 := sq y
  have h3 := sq c
  exact ⟨wrap64 (by omega) (by omega), wrap64 (by omega) (by omega), wrap64 (by omega) (by omega), wrap64 (by omega) (by omega)⟩
section
variable (g : Int × Int) (n : Int × Int × Int) (t : T8) (N : Nat) (ok : BoreOk g n.1 n.2.1 n.2.2 t N) (hs : t.2.2.2.2.2.1 ≤ 10000000)
  (hl : borL g n.1 n.2.1 n.2.2 t = (List.range (4 * N + 4)).map (bmv g (n.1 - t.2.2.1) n.2.2 n.2.1 t.2.2.2.2.2.2.1 t.2.2.2.2.2.2.2 N))
include ok hs hl
omit hs hl in
theorem lawI_inner (i : Nat) (hi : i < 4 * N + 4) (p : P3) (x1 : Mq) (hp : p = prv g (n.1 - t.2.2.1) n.2.2 n.2.1 t.2.2.2.2.2.2.1 t.2.2.2.2.2.2.2 N i) (hx1 : x1 = bmv g (n.1 - t.2.2.1) n.2.2 n.2.1 t.2.2.2.2.2.2.1 t.2.2.2.2.2.2.2 N i)
    (hout : lawI_C.Runs 28 (lawI_h28 g n t ((i + 1 : Nat) : Int) x1.2.1.1 x1.2.1.2.1 x1.2.1.2.2) [.d .bool true]) :
    ∀ (j k : Nat), k + j = (posL p [x1]).length → lawI_C.Runs 61 (lawI_h61 g n t (i : Int) p.1 p.2.1 p.2.2 x1 (k : Int)) [.d .bool true] := by
  have nums := ok.nums
  have n2 := nums.n2
  have hin := pos_in nums i hi
  rw [← hp, ← hx1] at hin
  obtain ⟨hin, hlen⟩ := hin
  intro j
  induction j with
  | zero =>
    intro k hk
    obtain ⟨q, hq⟩ := hout
    refine lawI_h61_s _ _ _ _ _ _ _ _ _ ⟨q, ?_⟩
    unfold lawI_h61_t
    rw [ge_dec (show (posL (p.1, p.2.1, p.2.2) [x1]).length ≤ k from by show (posL p [x1]).length ≤ k; omega), wrapS (k := i) (by omega)]
    exact hq
  | succ j ih =>
    intro k hk
    obtain ⟨q, hq⟩ := ih (k + 1) (by omega)
    refine lawI_h61_s _ _ _ _ _ _ _ _ _ ⟨q, ?_⟩
    have hkl : k < (posL p [x1]).length := by omega
    obtain ⟨a1, a2, a3, a4⟩ := hin _ (List.getElem_mem hkl)
    obtain ⟨c1, c2, g1, g2, g3, g4, g5, g6, t1, t2, d1, d2, s1, f1, p1, n1, n2, n3⟩ := nums
    unfold in8 at a2 a3
    unfold in7 at g1 g2
    have e1 : IntKind.i64.wrap (n.1 - t.2.2.1) = n.1 - t.2.2.1 := w7 (by omega)
    have e2 : IntKind.i64.wrap (0 - n.2.2) = -n.2.2 := by rw [w7 (by omega)]; omega
    unfold lawI_h61_t
    show (match decide ((k : Int) < ((posL p [x1]).length : Int)) with | true => (match getI (posL p [x1]) (k : Int) with | some x6 => _ | none => none) | false => _) = _
    rw [lt_dec hkl, getI_nat, List.getElem?_eq_getElem hkl]
    dsimp only
    rw [wrap64 (x := (posL p [x1])[k].1 - g.1) (by omega) (by omega), wrap64 (x := (posL p [x1])[k].2.1 - g.2) (by omega) (by omega), e1, e2]
    obtain ⟨w1, w2, w3, w4⟩ := sq_in (x := (posL p [x1])[k].1 - g.1) (y := (posL p [x1])[k].2.1 - g.2) (c := n.1 - t.2.2.1) (by omega) (by omega) a1 ⟨c1, c2⟩
    rw [w1, w2, w3, w4, decide_eq_false (by omega), decide_eq_false (by omega), wrapS (k := k) (by omega)]
    exact hq
theorem lawI_outer : ∀ (j i : Nat), i + j = 4 * N + 4 → lawI_C.Runs 28 (lawI_h28 g n t (i : Int) (prv g (n.1 - t.2.2.1) n.2.2 n.2.1 t.2.2.2.2.2.2.1 t.2.2.2.2.2.2.2 N i).1 (prv g (n.1 - t.2.2.1) n.2.2 n.2.1 t.2.2.2.2.2.2.1 t.2.2.2.2.2.2.2 N i).2.1 (prv g (n.1 - t.2.2.1) n.2.2 n.2.1 t.2.2.2.2.2.2.1 t.2.2.2.2.2.2.2 N i).2.2) [.d .bool true] := by
  have nums := ok.nums
  have n1 := nums.n1
  have n2 := nums.n2
  have d1 := nums.d1
  have d2 := nums.d2
  have s1 := nums.s1
  have hlen : (borL g n.1 n.2.1 n.2.2 t).length = 4 * N + 4 := by rw [hl]; simp
  have hget : ∀ k, k < 4 * N + 4 → getI (borL g n.1 n.2.1 n.2.2 t) (k : Int) = some (bmv g (n.1 - t.2.2.1) n.2.2 n.2.1 t.2.2.2.2.2.2.1 t.2.2.2.2.2.2.2 N k) := by
    intro k hk
    rw [getI_nat, hl, List.getElem?_map, List.getElem?_range hk]
    rfl
  intro j
  induction j with
  | zero =>
    intro i hi
    refine lawI_h28_s _ _ _ _ _ _ _ ⟨0, ?_⟩
    obtain ⟨q1, q2, q3, q4⟩ := quart nums
    have e2 : IntKind.i64.wrap (0 - n.2.2) = -n.2.2 := by rw [w7 (by omega)]; omega
    unfold lawI_h28_t
    have w3 : IntKind.i64.wrap (((4 * N + 4 : Nat) : Int) - 3) = ((4 * N + 1 : Nat) : Int) := by rw [w7 (x := ((4 * N + 4 : Nat) : Int) - 3) (by omega)]; omega
    have w4 : IntKind.i64.wrap (((4 * N + 4 : Nat) : Int) - 4) = ((4 * N : Nat) : Int) := by rw [w7 (x := ((4 * N + 4 : Nat) : Int) - 4) (by omega)]; omega
    rw [hlen, ge_dec (by omega), decide_eq_false (show ¬ ((4 * N + 4 : Nat) : Int) < 4 by omega), w3, w4, hget (4 * N + 1) (by omega), hget (4 * N) (by omega), e2]
    dsimp only
    rw [decide_eq_true q1, q2, q3, q4]
    simp
  | succ j ih =>
    intro i hi
    have hnext := ih (i + 1) (by omega)
    have hp : prv g (n.1 - t.2.2.1) n.2.2 n.2.1 t.2.2.2.2.2.2.1 t.2.2.2.2.2.2.2 N (i + 1) = (bmv g (n.1 - t.2.2.1) n.2.2 n.2.1 t.2.2.2.2.2.2.1 t.2.2.2.2.2.2.2 N i).2.1 := by
      unfold prv
      rw [if_neg (by omega)]
      rfl
    rw [hp] at hnext
    obtain ⟨q, hq⟩ := lawI_inner g n t N ok i (by omega) _ _ rfl rfl hnext _ 0 (Nat.zero_add _)
    have hm := mv_ok nums i (by omega)
    refine lawI_h28_s _ _ _ _ _ _ _ ⟨q, ?_⟩
    have hns := not_steep nums i
    generalize prv g (n.1 - t.2.2.1) n.2.2 n.2.1 t.2.2.2.2.2.2.1 t.2.2.2.2.2.2.2 N i = p at *
    have hpo : posOk p [bmv g (n.1 - t.2.2.1) n.2.2 n.2.1 t.2.2.2.2.2.2.1 t.2.2.2.2.2.2.2 N i] := ⟨rfl, fun m hx => by rw [List.mem_singleton.1 hx]; exact hm⟩
    unfold lawI_h28_t
    simp only [dup_eq]
    rw [hlen, lt_dec (by omega), hget _ (by omega)]
    dsimp only
    rw [decide_eq_true (show mvOk (p.1, p.2.1, p.2.2) _ from hm), decide_eq_true (show posOk (p.1, p.2.1, p.2.2) _ from hpo)]
    by_cases h4 : 4 ≤ i
    · rw [decide_eq_true (show (i : Int) ≥ 4 by omega)]
      by_cases hk : (bmv g (n.1 - t.2.2.1) n.2.2 n.2.1 t.2.2.2.2.2.2.1 t.2.2.2.2.2.2.2 N i).1 = 4
      · obtain ⟨s1', ⟨s2, s3⟩, s4, s5⟩ := hns h4 (by omega) hk
        rw [show IntKind.i64.wrap ((i : Int) - 4) = ((i - 4 : Nat) : Int) by rw [w7 (x := (i : Int) - 4) (by omega)]; omega, hget _ (by omega), beq_iff_eq.2 hk]
        dsimp only
        rw [w7 (x := _ - _) (by omega), w7 (x := t.2.2.2.2.2.1 + 1) (by omega), decide_eq_false (by omega)]
        exact hq
      · rw [beq_eq_false_iff_ne.2 hk]
        exact hq
    · rw [decide_eq_false (show ¬ (i : Int) ≥ 4 by omega)]
      exact hq
end
theorem lawI_con (g : Int × Int) (n : Int × Int × Int) (t : T8) (hn1 : b64 n.1) (hn3 : b64 n.2.2) (ht : tvP t) : Con Tryd.prog 7 [.d (.st (.pair (.int .i64) (.int .i64))) g, .d (.st (.pair (.int .i64) (.pair (.int .i64) (.int .i64)))) n, .d (.st (.pair (.int .i64) (.pair (.int .i64) (.pair (.int .i64) (.pair (.int .i64) (.pair (.int .i64) (.pair (.int .i64) (.pair (.int .i64) (.int .i64))))))))) t] [.d .bool true] := by
  refine Ctx.Res.con (C := lawI_C) (ctx_ok envLI_ok) ?_ (fn := Tryd.f7) (by kernel_rfl) (by kernel_rfl)
  by_cases h1 : n.2.2 > 20000
  · refine lawI_s _ _ _ ⟨0, ?_⟩
    unfold lawI_t
    rw [decide_eq_true h1]
    rfl
  by_cases h2 : t.2.2.2.2.2.1 < 500
  · refine lawI_s _ _ _ ⟨0, ?_⟩
    unfold lawI_t
    rw [decide_eq_false h1, decide_eq_true h2]
    rfl
  have hp : borP g n.1 n.2.1 n.2.2 t := ⟨ht, hn1, hn3, by omega, by omega⟩
  have hg := bor_good _ _ _ _ _ hp
  rcases hg with ⟨he, hl⟩ | ⟨he, N, ok, hl⟩
  · refine lawI_s _ _ _ ⟨0, ?_⟩
    unfold lawI_t
    rw [decide_eq_false h1, decide_eq_false h2, decide_eq_true hp, hl, show (borE g n.1 n.2.1 n.2.2 t != 0) = true by simpa using he]
    rfl
  · have hs : t.2.2.2.2.2.1 ≤ 10000000 := ok.s2
    obtain ⟨q, hq⟩ := lawI_outer g n t N ok hs hl (4 * N + 4) 0 (by omega)
    refine lawI_s _ _ _ ⟨q, ?_⟩
    unfold lawI_t
    have c2 := ok.c2
    have c1 := ok.c1
    have g3 := ok.g3
    unfold in7 at g3
    rw [decide_eq_false h1, decide_eq_false h2, decide_eq_true hp, show (borE g n.1 n.2.1 n.2.2 t != 0) = false by rw [he]; rfl, w7 (x := n.1 - t.2.2.1) (by omega), w7 (x := g.1 + (n.1 - t.2.2.1)) (by omega)]
    exact hq
end Go.Proofs.YtpiabmjipgfjjaaDoor
