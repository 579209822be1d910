/- interpolate: Chords, turned, floor. -/
import Derived.Test.YtpiabmjipgfjjaaDoorDi2
namespace Go.Proofs.YtpiabmjipgfjjaaDoor
open Go.RowKit
def cho_nt : NT := [((41, 16), { keep := [3, 4, 5], hl := 0 })]
noncomputable def cho_C : Ctx := ⟨Tryd.prog, ft, tys, [], cho_nt⟩
def cho_h16 (r : Int) (s5 : Int) (s4 : Int) : Cfg := ⟨41, [.blk 0, .seq 31], [(3, SI (IntKind.i64.wrap ((IntKind.i64.wrap (Int.tdiv (IntKind.i64.wrap (r - 1)) 10)) + 1))), (4, SI s4), (5, SI s5)], [], 0, []⟩
def cho_t (k : Nat → Cfg → Option (List RV)) (r : Int) : Option (List RV) := match decide (r ≤ 0) with | true => some [RV.d (.int .i64) 0] | false => k 16 (cho_h16 r 1073741824 1)
theorem cho_eq (k : Nat → Cfg → Option (List RV)) (r : Int) : go Tryd.prog ft tys [] cho_nt k 4000 (start 41 [SI r]) (.node 0) = cho_t k r := by kernel_rfl
theorem cho_s (r : Int) {rX : List RV} (hX : ∃ nX, cho_t (cho_C.k nX) r = some rX) : cho_C.Res 41 [SI r] rX := by
  obtain ⟨nX, hX⟩ := hX
  exact ⟨nX, (cho_eq _ r).trans hX⟩
def cho_h16_t (k : Nat → Cfg → Option (List RV)) (r : Int) (s5 : Int) (s4 : Int) : Option (List RV) := match decide (s4 < s5) with | true => (match decide ((IntKind.i64.wrap ((IntKind.i64.wrap (Int.tdiv (IntKind.i64.wrap (s4 + s5)) 2)) * (IntKind.i64.wrap (Int.tdiv (IntKind.i64.wrap (s4 + s5)) 2)))) ≥ (IntKind.i64.wrap ((IntKind.i64.wrap (Int.tdiv (IntKind.i64.wrap (r - 1)) 10)) + 1))) with | true => k 16 (cho_h16 r (IntKind.i64.wrap (Int.tdiv (IntKind.i64.wrap (s4 + s5)) 2)) s4) | false => k 16 (cho_h16 r s5 (IntKind.i64.wrap ((IntKind.i64.wrap (Int.tdiv (IntKind.i64.wrap (s4 + s5)) 2)) + 1)))) | false => some [RV.d (.int .i64) s4]
theorem cho_h16_eq (k : Nat → Cfg → Option (List RV)) (r : Int) (s5 : Int) (s4 : Int) : go Tryd.prog ft tys [] cho_nt k 4000 { cho_h16 r s5 s4 with K := .lp 16 :: (cho_h16 r s5 s4).K } (.node 17) = cho_h16_t k r s5 s4 := by kernel_rfl
theorem cho_h16_s (r : Int) (s5 : Int) (s4 : Int) {rX : List RV} (hX : ∃ nX, cho_h16_t (cho_C.k nX) r s5 s4 = some rX) : cho_C.Runs 16 (cho_h16 r s5 s4) rX := by
  obtain ⟨nX, hX⟩ := hX
  exact ⟨nX + 1, (cho_h16_eq _ r s5 s4).trans hX⟩
def trn_nt : NT := [((42, 6), { keep := [0, 1, 9, 10], hl := 0 })]
noncomputable def trn_C : Ctx := ⟨Tryd.prog, ft, tys, [], trn_nt⟩
def trn_h6 (q : Int) (s0 : Int) (s1 : Int) (s10 : Int) : Cfg := ⟨42, [.blk 0, .seq 17], [(0, SI s0), (1, SI s1), (9, SI (IntKind.i64.wrap (BitVec.toNat (BitVec.ofInt 64 q &&& BitVec.ofInt 64 3)))), (10, SI s10)], [], 0, []⟩
def trn_t (k : Nat → Cfg → Option (List RV)) (x : Int) (y : Int) (q : Int) : Option (List RV) := k 6 (trn_h6 q x y 0)
theorem trn_eq (k : Nat → Cfg → Option (List RV)) (x : Int) (y : Int) (q : Int) : go Tryd.prog ft tys [] trn_nt k 4000 (start 42 [SI x, SI y, SI q]) (.node 0) = trn_t k x y q := by kernel_rfl
theorem trn_s (x : Int) (y : Int) (q : Int) {rX : List RV} (hX : ∃ nX, trn_t (trn_C.k nX) x y q = some rX) : trn_C.Res 42 [SI x, SI y, SI q] rX := by
  obtain ⟨nX, hX⟩ := hX
  exact ⟨nX, (trn_eq _ x y q).trans hX⟩
def trn_h6_t (k : Nat → Cfg → Option (List RV)) (q : Int) (s0 : Int) (s1 : Int) (s10 : Int) : Option (List RV) := match decide (s10 < (IntKind.i64.wrap (BitVec.toNat (BitVec.ofInt 64 q &&& BitVec.ofInt 64 3)))) with | true => k 6 (trn_h6 q (IntKind.i64.wrap (0 - s1)) s0 (IntKind.i64.wrap (s10 + 1))) | false => some [RV.d (.int .i64) s0, RV.d (.int .i64) s1]
theorem trn_h6_eq (k : Nat → Cfg → Option (List RV)) (q : Int) (s0 : Int) (s1 : Int) (s10 : Int) : go Tryd.prog ft tys [] trn_nt k 4000 { trn_h6 q s0 s1 s10 with K := .lp 6 :: (trn_h6 q s0 s1 s10).K } (.node 7) = trn_h6_t k q s0 s1 s10 := by kernel_rfl
theorem trn_h6_s (q : Int) (s0 : Int) (s1 : Int) (s10 : Int) {rX : List RV} (hX : ∃ nX, trn_h6_t (trn_C.k nX) q s0 s1 s10 = some rX) : trn_C.Runs 6 (trn_h6 q s0 s1 s10) rX := by
  obtain ⟨nX, hX⟩ := hX
  exact ⟨nX + 1, (trn_h6_eq _ q s0 s1 s10).trans hX⟩
def flr_nt : NT := []
noncomputable def flr_C : Ctx := ⟨Tryd.prog, ft, tys, [], flr_nt⟩
def flr_t (_k : Nat → Cfg → Option (List RV)) (a : Int) (b : Int) : Option (List RV) := match decide (b = (0 : Int)) with | true => none | false => (match decide (b = (0 : Int)) with | true => none | false => (match decide ((Int.tmod a b) < 0) with | true => some [RV.d (.int .i64) (IntKind.i64.wrap ((IntKind.i64.wrap (Int.tdiv a b)) - 1))] | false => some [RV.d (.int .i64) (IntKind.i64.wrap (Int.tdiv a b))]))
theorem flr_eq (k : Nat → Cfg → Option (List RV)) (a : Int) (b : Int) : go Tryd.prog ft tys [] flr_nt k 4000 (start 43 [SI a, SI b]) (.node 0) = flr_t k a b := by kernel_rfl
theorem flr_s (a : Int) (b : Int) {rX : List RV} (hX : ∃ nX, flr_t (flr_C.k nX) a b = some rX) : flr_C.Res 43 [SI a, SI b] rX := by
  obtain ⟨nX, hX⟩ := hX
  exact ⟨nX, (flr_eq _ a b).trans hX⟩
def choP (r : Int) : Prop := 1 ≤ r ∧ r ≤ 10000000
instance (r : Int) : Decidable (choP r) := by unfold choP; infer_instance
theorem sq_small {n : Int} (h : n * n < 1000000) (h0 : 0 ≤ n) : n < 1000 := by
  rcases Int.lt_or_le n 1000 with h1 | h1
  · exact h1
  · have := Int.mul_le_mul h1 h1 (by decide) (by omega)
    omega
theorem cho_loop (r : Int) (h : choP r) : ∀ (d : Nat) (lo hi : Int), hi - lo ≤ (d : Int) → 1 ≤ lo → lo ≤ 1000 → lo ≤ hi → hi ≤ 1073741824 → ∃ n, 1 ≤ n ∧ n ≤ 1000 ∧ cho_C.Runs 16 (cho_h16 r hi lo) [.d (.int .i64) n] := by
  intro d
  unfold choP at h
  induction d with
  | zero =>
    intro lo hi h1 h2 h3 h4 h5
    refine ⟨lo, h2, h3, cho_h16_s _ _ _ ⟨0, ?_⟩⟩
    unfold cho_h16_t
    rw [decide_eq_false (by omega)]
  | succ d ih =>
    intro lo hi h1 h2 h3 h4 h5
    by_cases hc : lo < hi
    · have hd : IntKind.i64.wrap (lo + hi) = lo + hi := wrap64 (by omega) (by omega)
      have hq : Int.tdiv (lo + hi) 2 = (lo + hi) / 2 := Int.tdiv_eq_ediv_of_nonneg (by omega)
      have hq2 : IntKind.i64.wrap ((lo + hi) / 2) = (lo + hi) / 2 := wrap64 (by omega) (by omega)
      generalize hn : (lo + hi) / 2 = n at *
      have nn : n * n ≤ 1073741824 * 1073741824 := Int.mul_le_mul (by omega) (by omega) (by omega) (by decide)
      have nn0 : 0 ≤ n * n := Int.mul_nonneg (by omega) (by omega)
      have e1 : IntKind.i64.wrap (n * n) = n * n := wrap64 (by omega) (by omega)
      have e2 : IntKind.i64.wrap (r - 1) = r - 1 := wrap64 (by omega) (by omega)
      have e3 : Int.tdiv (r - 1) 10 = (r - 1) / 10 := Int.tdiv_eq_ediv_of_nonneg (by omega)
      have e4 : IntKind.i64.wrap ((r - 1) / 10) = (r - 1) / 10 := wrap64 (by omega) (by omega)
      have e5 : IntKind.i64.wrap ((r - 1) / 10 + 1) = (r - 1) / 10 + 1 := wrap64 (by omega) (by omega)
      by_cases hs : n * n ≥ (r - 1) / 10 + 1
      · obtain ⟨m, m1, m2, q, hm⟩ := ih lo n (by omega) h2 h3 (by omega) (by omega)
        refine ⟨m, m1, m2, cho_h16_s _ _ _ ⟨q, ?_⟩⟩
        unfold cho_h16_t
        rw [decide_eq_true hc, hd, hq, hq2, e1, e2, e3, e4, e5, decide_eq_true hs]
        exact hm
      · have := sq_small (n := n) (by omega) (by omega)
        obtain ⟨m, m1, m2, q, hm⟩ := ih (n + 1) hi (by omega) (by omega) (by omega) (by omega) (by omega)
        refine ⟨m, m1, m2, cho_h16_s _ _ _ ⟨q, ?_⟩⟩
        unfold cho_h16_t
        rw [decide_eq_true hc, hd, hq, hq2, e1, e2, e3, e4, e5, decide_eq_false hs, wrap64 (x := n + 1) (by omega) (by omega)]
        exact hm
    · refine ⟨lo, h2, h3, cho_h16_s _ _ _ ⟨0, ?_⟩⟩
      unfold cho_h16_t
      rw [decide_eq_false hc]
theorem cho_ex (r : Int) (h : choP r) : ∃ n, (1 ≤ n ∧ n ≤ 1000) ∧ Con Tryd.prog 41 [.d (.int .i64) r] [.d (.int .i64) n] := by
  obtain ⟨n, h1, h2, q, hr⟩ := cho_loop r h 1073741824 1 1073741824 (by omega) (by omega) (by omega) (by omega) (by omega)
  refine ⟨n, ⟨h1, h2⟩, Ctx.Res.con (C := cho_C) (ctx_ok (E := []) trivial) (cho_s _ ⟨q, ?_⟩) (fn := Tryd.f41) (by kernel_rfl) (by kernel_rfl)⟩
  unfold cho_t
  unfold choP at h
  rw [decide_eq_false (by omega)]
  exact hr
noncomputable def choF (r : Int) : Int := if h : choP r then Classical.choose (cho_ex r h) else 1
theorem choF_bd (r : Int) : 1 ≤ choF r ∧ choF r ≤ 1000 := by
  unfold choF
  split
  · rename_i h; exact (Classical.choose_spec (cho_ex r h)).1
  · omega
theorem cho_con (r : Int) (h : choP r) : Con Tryd.prog 41 [.d (.int .i64) r] [.d (.int .i64) (choF r)] := by
  unfold choF
  rw [dif_pos h]
  exact (Classical.choose_spec (cho_ex r h)).2
/-- A vector turned by right angles. -/
def turnN : Nat → Int × Int → Int × Int
  | 0, v => v
  | j + 1, v => turnN j (-v.2, v.1)
theorem turnN_sq (B : Int) : ∀ (j : Nat) (v : Int × Int), -B ≤ v.1 ∧ v.1 ≤ B ∧ -B ≤ v.2 ∧ v.2 ≤ B → (turnN j v).1 * (turnN j v).1 + (turnN j v).2 * (turnN j v).2 = v.1 * v.1 + v.2 * v.2 ∧ -B ≤ (turnN j v).1 ∧ (turnN j v).1 ≤ B ∧ -B ≤ (turnN j v).2 ∧ (turnN j v).2 ≤ B := by
  intro j
  induction j with
  | zero => intro v h; exact ⟨rfl, h⟩
  | succ j ih =>
    intro v h
    obtain ⟨h1, h2⟩ := ih (-v.2, v.1) ⟨by dsimp only; omega, by dsimp only; omega, by dsimp only; omega, by dsimp only; omega⟩
    refine ⟨?_, h2⟩
    rw [turnN, h1]
    dsimp only
    rw [Int.neg_mul_neg]
    omega
def trnF (x y q : Int) : Int × Int := turnN (q % 4).toNat (x, y)
def trnP (x y q : Int) : Prop := in7 x ∧ in7 y ∧ 0 ≤ q ∧ q ≤ 7
instance (x y q : Int) : Decidable (trnP x y q) := by unfold trnP; infer_instance
theorem trn_loop (q : Int) (c : Nat) (hc : IntKind.i64.wrap (BitVec.toNat (BitVec.ofInt 64 q &&& BitVec.ofInt 64 3)) = (c : Int)) (hc4 : c ≤ 4) : ∀ (j k : Nat) (v : Int × Int), k + j = c → in7 v.1 → in7 v.2 → trn_C.Runs 6 (trn_h6 q v.1 v.2 (k : Int)) [.d (.int .i64) (turnN j v).1, .d (.int .i64) (turnN j v).2] := by
  intro j
  induction j with
  | zero =>
    intro k v hk h1 h2
    refine trn_h6_s _ _ _ _ ⟨0, ?_⟩
    unfold trn_h6_t
    rw [hc, ge_dec (by omega)]
    rfl
  | succ j ih =>
    intro k v hk h1 h2
    have h2' : in7 (-v.2) := by unfold in7 at *; omega
    obtain ⟨n, hn⟩ := ih (k + 1) (-v.2, v.1) (by omega) h2' h1
    refine trn_h6_s _ _ _ _ ⟨n, ?_⟩
    unfold trn_h6_t
    unfold in7 at h1 h2
    rw [hc, lt_dec (by omega), wrapS (by omega), wrap64 (x := 0 - v.2) (by omega) (by omega), show (0 - v.2) = -v.2 by omega]
    exact hn
theorem trn_con (x y q : Int) (h : trnP x y q) : Con Tryd.prog 42 [.d (.int .i64) x, .d (.int .i64) y, .d (.int .i64) q] [.d (.int .i64) (trnF x y q).1, .d (.int .i64) (trnF x y q).2] := by
  obtain ⟨h1, h2, h3, h4⟩ := h
  have hq : q = 0 ∨ q = 1 ∨ q = 2 ∨ q = 3 ∨ q = 4 ∨ q = 5 ∨ q = 6 ∨ q = 7 := by omega
  have hc : IntKind.i64.wrap (BitVec.toNat (BitVec.ofInt 64 q &&& BitVec.ofInt 64 3)) = ((q % 4).toNat : Int) := by
    rcases hq with rfl | rfl | rfl | rfl | rfl | rfl | rfl | rfl <;> decide
  obtain ⟨n, hn⟩ := trn_loop q (q % 4).toNat hc (by omega) (q % 4).toNat 0 (x, y) (by omega) h1 h2
  exact Ctx.Res.con (C := trn_C) (ctx_ok (E := []) trivial) (trn_s _ _ _ ⟨n, hn⟩) (fn := Tryd.f42) (by kernel_rfl) (by kernel_rfl)
def flrP (a b : Int) : Prop := 1 ≤ b ∧ -1000000000000000 ≤ a ∧ a ≤ 1000000000000000
instance (a b : Int) : Decidable (flrP a b) := by unfold flrP; infer_instance
theorem flo1 {a b : Int} (hb : 0 < b) : (a.tmod b < 0 → a / b = a.tdiv b - 1) ∧ (¬ a.tmod b < 0 → a / b = a.tdiv b) ∧ a.tdiv b * b + a.tmod b = a ∧ -b < a.tmod b ∧ a.tmod b < b := by
  have e1 := Int.tdiv_eq_ediv (a := a) (b := b)
  have e2 := Int.tmod_eq_emod (a := a) (b := b)
  have h1 := Int.emod_nonneg a (show b ≠ 0 by omega)
  have h2 := Int.emod_lt_of_pos a hb
  have h3 : (b.natAbs : Int) = b := Int.natAbs_of_nonneg (by omega)
  have h4 : b.sign = 1 := Int.sign_eq_one_of_pos hb
  have h5 := Int.tdiv_mul_add_tmod a b
  split at e1
  · rename_i hc; rw [if_pos hc] at e2; refine ⟨fun h => by omega, fun _ => by omega, h5, by omega, by omega⟩
  · rename_i hc; rw [if_neg hc] at e2
    have hne : a % b ≠ 0 := fun h => hc (Or.inr (Int.dvd_of_emod_eq_zero h))
    refine ⟨fun _ => by omega, fun h => by omega, h5, by omega, by omega⟩
theorem flr_bd {a b : Int} (h : flrP a b) : -1000000000000000 ≤ a / b ∧ a / b ≤ 1000000000000000 := by
  obtain ⟨h1, h2, h3⟩ := h
  have h4 := Int.emod_nonneg a (show b ≠ 0 by omega)
  have h5 := Int.emod_lt_of_pos a (show 0 < b by omega)
  have h6 := Int.mul_ediv_add_emod a b
  generalize a / b = q at *
  generalize a % b = r at *
  constructor
  · rcases Int.lt_or_le q (-1000000000000000) with h | h
    · have := Int.mul_le_mul_of_nonneg_left (show q ≤ -1000000000000001 by omega) (show 0 ≤ b by omega)
      omega
    · exact h
  · rcases Int.lt_or_le 1000000000000000 q with h | h
    · have := Int.mul_le_mul_of_nonneg_left (show 1000000000000001 ≤ q by omega) (show 0 ≤ b by omega)
      omega
    · exact h
theorem flr_con (a b : Int) (h : flrP a b) : Con Tryd.prog 43 [.d (.int .i64) a, .d (.int .i64) b] [.d (.int .i64) (a / b)] := by
  refine Ctx.Res.con (C := flr_C) (ctx_ok (E := []) trivial) (flr_s _ _ ⟨0, ?_⟩) (fn := Tryd.f43) (by kernel_rfl) (by kernel_rfl)
  have hb := flr_bd h
  obtain ⟨h1, h2, h3⟩ := h
  obtain ⟨f1, f2, _⟩ := flo1 (a := a) (b := b) (by omega)
  unfold flr_t
  rw [decide_eq_false (show ¬ b = 0 by omega)]
  dsimp only
  by_cases hc : a.tmod b < 0
  · have e := f1 hc
    rw [decide_eq_true hc, wrap64 (x := a.tdiv b) (by omega) (by omega), ← e, wrap64 (x := a / b) (by omega) (by omega)]
  · have e := f2 hc
    rw [decide_eq_false hc, ← e, wrap64 (x := a / b) (by omega) (by omega)]
end Go.Proofs.YtpiabmjipgfjjaaDoor
