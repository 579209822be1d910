/- choose: the reference's Raise, by halving; same. -/
import Derived.Test.YtfkidjkpgliffaaCh7
namespace Go.Proofs.Ytfkidjkpgliffaa
open Go.RowKit
theorem rra_step (reach : List (List Bool)) (cost out : List Int) (p : Nat) (v s x : Int) (r : List RV) (h : small3 reach ∧ cost.length = reach.length) (hp : p < out.length) (hf : ∀ x, 0 ≤ x → fairF reach cost (out.set p x) = decide (x ≤ v))
    (s0 : 0 < s) (s1 : s ≤ 2147483648) (x0 : 0 ≤ x) (x1 : x ≤ v) (v1 : v ≤ 2147483648)
    (hk : rra_C.Runs 30 (rra_h30 reach cost (p : Int) (IntKind.i64.wrap (Int.tdiv s 2)) (out.set p (bif decide (x + s ≤ v) then x + s else x))) r) :
    rra_C.Runs 30 (rra_h30 reach cost (p : Int) s (out.set p x)) r := by
  have hl : ∀ y, (out.set p y)[p]? = some y := fun y => List.getElem?_set_self hp
  refine rra_h30_s _ _ _ _ _ ?_
  unfold rra_h30_t
  rw [decide_eq_true (show s > 0 by omega), getI_nat, toNat_nat, hl]
  dsimp only
  rw [wrap64 (show -9223372036854775808 ≤ x + s by omega) (by omega), List.set_set, decide_eq_true h, hf (x + s) (by omega), getI_nat, hl]
  dsimp only
  cases hc : decide (x + s ≤ v) with
  | true => rw [hc] at hk; exact hk
  | false =>
    rw [hc] at hk
    rw [List.set_set, wrap64 (show -9223372036854775808 ≤ x + s - s by omega) (by omega), show x + s - s = x by omega]
    exact hk
theorem rra_zero (reach : List (List Bool)) (cost out : List Int) (p : Nat) (r : List RV) (hk : rra_C.Runs 18 (rra_h18 reach cost (IntKind.i64.wrap ((p : Int) + 1)) out) r) : rra_C.Runs 30 (rra_h30 reach cost (p : Int) 0 out) r := by
  refine rra_h30_s _ _ _ _ _ ?_
  unfold rra_h30_t
  exact hk
theorem pow_half (j : Nat) (hj : j ≤ 40) : IntKind.i64.wrap (Int.tdiv ((2 ^ (j + 1) : Nat) : Int) 2) = ((2 ^ j : Nat) : Int) := by
  have h1 : Int.tdiv ((2 ^ (j + 1) : Nat) : Int) 2 = ((2 ^ j : Nat) : Int) := by
    rw [show (2 : Int) = ((2 : Nat) : Int) from rfl, ← Int.ofNat_tdiv, Nat.pow_succ, Nat.mul_div_cancel _ (by decide)]
  have h2 : 2 ^ j ≤ 2 ^ 40 := Nat.pow_le_pow_right (by decide) hj
  rw [h1]
  generalize 2 ^ j = m at *
  rw [wrap64 (by omega) (by omega)]
theorem rra_l30 (reach : List (List Bool)) (cost out : List Int) (p : Nat) (v : Int) (r : List RV) (h : small3 reach ∧ cost.length = reach.length) (hp : p < out.length) (hf : ∀ x, 0 ≤ x → fairF reach cost (out.set p x) = decide (x ≤ v)) (v1 : v ≤ 2147483648)
    (hk : rra_C.Runs 18 (rra_h18 reach cost (IntKind.i64.wrap ((p : Int) + 1)) (out.set p v)) r) : ∀ j x, j ≤ 31 → 0 ≤ x → x ≤ v → v < x + ((2 ^ (j + 1) : Nat) : Int) → rra_C.Runs 30 (rra_h30 reach cost (p : Int) ((2 ^ j : Nat) : Int) (out.set p x)) r := by
  intro j
  induction j with
  | zero =>
    intro x hj x0 x1 x2
    refine rra_step reach cost out p v 1 x r h hp hf (by decide) (by decide) x0 x1 v1 ?_
    have e : (bif decide (x + 1 ≤ v) then x + 1 else x) = v := by
      simp at x2
      by_cases hc : x + 1 ≤ v
      · rw [decide_eq_true hc, cond_true]; omega
      · rw [decide_eq_false hc, cond_false]; omega
    rw [e]
    exact rra_zero reach cost _ p r hk
  | succ j ih =>
    intro x hj x0 x1 x2
    have hpw : 2 ^ (j + 1) ≤ 2 ^ 31 := Nat.pow_le_pow_right (by decide) (by omega)
    have hpos : 0 < 2 ^ (j + 1) := Nat.pow_pos (by decide)
    have e2 : 2 ^ (j + 1 + 1) = 2 * 2 ^ (j + 1) := by rw [Nat.pow_succ, Nat.mul_comm]
    rw [e2] at x2
    refine rra_step reach cost out p v _ x r h hp hf (by omega) (by omega) x0 x1 v1 ?_
    rw [pow_half j (by omega)]
    by_cases hc : x + ((2 ^ (j + 1) : Nat) : Int) ≤ v
    · rw [decide_eq_true hc, cond_true]
      exact ih _ (by omega) (by omega) hc (by omega)
    · rw [decide_eq_false hc, cond_false]
      exact ih _ (by omega) x0 x1 (by omega)
theorem set_zero {o : List Int} {k : Nat} (h : o.getD k 0 = 0) : o.set k 0 = o := by
  apply List.ext_getElem?
  intro i
  rw [List.getElem?_set]
  by_cases e : k = i
  · subst e
    rw [if_pos rfl]
    by_cases hl : k < o.length
    · rw [if_pos hl, List.getElem?_eq_getElem hl, ← getD_get (d := 0) hl, h]
    · rw [if_neg hl, List.getElem?_eq_none (by omega)]
  · rw [if_neg e]
theorem rra_l18 (reach : List (List Bool)) (cost : List Int) (nt np : Nat) (g : Good reach cost nt np) (h : small3 reach) : ∀ d k, npc reach - k = d → k ≤ npc reach → rra_C.Runs 18 (rra_h18 reach cost (k : Int) (raiseTo reach cost k).1) [.d (.sl (.int .i64)) (raiseTo reach cost (npc reach)).1, .d (.int .i64) 0] := by
  have h2 := h.2.1
  intro d
  induction d with
  | zero =>
    intro k hd hkl
    have hi := raise_inv g k (by omega)
    refine rra_h18_s _ _ _ _ ⟨0, ?_⟩
    unfold rra_h18_t
    rw [ge_dec (by rw [hi.lo]; omega), show k = npc reach by omega]
  | succ d ih =>
    intro k hd hkl
    have hi := raise_inv g k (by omega)
    obtain ⟨v0, v1, _, _⟩ := v_spec hi
    have hn := ih (k + 1) (by omega) (by omega)
    rw [← wrapS (show k + 1 ≤ 9223372036854775807 by omega)] at hn
    refine rra_h18_s _ _ _ _ ?_
    unfold rra_h18_t
    rw [lt_dec (by rw [hi.lo]; omega)]
    have := rra_l30 reach cost (raiseTo reach cost k).1 k (vOf reach (raiseTo reach cost k).2 k) _ ⟨h, g.len⟩ (by rw [hi.lo]; omega) (fun x hx => fair_set hi (by omega) hx) v1 hn 31 0 (by omega) (by omega) v0 (by omega)
    rw [set_zero (hi.z k (Nat.le_refl k))] at this
    exact this
theorem rra_con (reach : List (List Bool)) (cost : List Int) (hb : reach.length ≤ 9223372036854775807) : Con Try.prog 46 [.d (.sl (.sl .bool)) reach, .d (.sl (.int .i64)) cost] [.d (.sl (.int .i64)) (raiseF reach cost), .d (.int .i64) (validF reach cost 200 200)] := by
  refine Ctx.Res.con (C := rra_C) (ctx_ok env7_ok) ?_ (fn := Try.f46) (by kernel_rfl) (by kernel_rfl)
  refine rra_s _ _ ?_
  unfold rra_t raiseF
  rw [decide_eq_true (show reach.length ≤ 9223372036854775807 from hb)]
  dsimp only
  cases hv : (validF reach cost 200 200 != 0) with
  | true => exact ⟨0, rfl⟩
  | false =>
    have e : validF reach cost 200 200 = 0 := by simpa using hv
    have g := good_of_valid (t := 200) (p := 200) e
    have h := g.s3 (by omega) (by omega)
    have h1 := g.n
    have h3 := g.p
    rw [mk8_ok (by omega), e, toNat_nat]
    exact rra_l18 reach cost 200 200 g h _ 0 rfl (Nat.zero_le _)
def same_nt : NT := [((47, 14), { keep := [0, 1, 12, 13], hl := 0 })]
noncomputable def same_C : Ctx := ⟨Try.prog, ft, tys, [], same_nt⟩
def same_h14 (a : List Int) (b : List Int) (s13 : Int) : Cfg := ⟨47, [.blk 0, .seq 33], [(0, .d (.sl (.int .i64)) a), (1, .d (.sl (.int .i64)) b), (12, SI (a.length : Int)), (13, SI s13)], [], 0, []⟩
def same_t (k : Nat → Cfg → Option (List RV)) (a : List Int) (b : List Int) : Option (List RV) := match (a.length : Int) != (b.length : Int) with | true => some [RV.d .bool false] | false => k 14 (same_h14 a b 0)
theorem same_eq (k : Nat → Cfg → Option (List RV)) (a : List Int) (b : List Int) : go Try.prog ft tys [] same_nt k 4000 (start 47 [.d (.sl (.int .i64)) a, .d (.sl (.int .i64)) b]) (.node 0) = same_t k a b := by kernel_rfl
theorem same_s (a : List Int) (b : List Int) {r : List RV} (h : ∃ n, same_t (same_C.k n) a b = some r) : same_C.Res 47 [.d (.sl (.int .i64)) a, .d (.sl (.int .i64)) b] r := by
  obtain ⟨n, h⟩ := h
  exact ⟨n, (same_eq _ a b).trans h⟩
def same_h14_t (k : Nat → Cfg → Option (List RV)) (a : List Int) (b : List Int) (s13 : Int) : Option (List RV) := match decide (s13 < (a.length : Int)) with | true => (match getI a s13 with | some x1 => (match getI b s13 with | some x2 => (match x1 != x2 with | true => some [RV.d .bool false] | false => k 14 (same_h14 a b (IntKind.i64.wrap (s13 + 1)))) | none => none) | none => none) | false => some [RV.d .bool true]
theorem same_h14_eq (k : Nat → Cfg → Option (List RV)) (a : List Int) (b : List Int) (s13 : Int) : go Try.prog ft tys [] same_nt k 4000 { same_h14 a b s13 with K := .lp 14 :: (same_h14 a b s13).K } (.node 15) = same_h14_t k a b s13 := by kernel_rfl
theorem same_h14_s (a : List Int) (b : List Int) (s13 : Int) {r : List RV} (h : ∃ n, same_h14_t (same_C.k n) a b s13 = some r) : same_C.Runs 14 (same_h14 a b s13) r := by
  obtain ⟨n, h⟩ := h
  exact ⟨n + 1, (same_h14_eq _ a b s13).trans h⟩
theorem same_loop (a b : List Int) (hl : a.length = b.length) (hb : a.length ≤ 1000000) : ∀ d k, a.length - k = d → k ≤ a.length → same_C.Runs 14 (same_h14 a b (k : Int)) [.d .bool (decide (a.drop k = b.drop k))] := by
  intro d
  induction d with
  | zero =>
    intro k hd hk
    refine same_h14_s _ _ _ ⟨0, ?_⟩
    unfold same_h14_t
    rw [ge_dec (by omega), drop_end (show a.length ≤ k by omega), drop_end (show b.length ≤ k by omega)]
    rfl
  | succ d ih =>
    intro k hd hk
    have h1 : k < a.length := by omega
    have h2 : k < b.length := by omega
    refine same_h14_s _ _ _ ?_
    unfold same_h14_t
    rw [lt_dec h1, getI_nat, getI_nat, List.getElem?_eq_getElem h1, List.getElem?_eq_getElem h2, drop_get h1, drop_get h2, wrapS (by omega)]
    dsimp only
    by_cases hc : a[k] = b[k]
    · rw [show (a[k] != b[k]) = false by simp [hc], hc, show decide (b[k] :: a.drop (k + 1) = b[k] :: b.drop (k + 1)) = decide (a.drop (k + 1) = b.drop (k + 1)) from decide_eq_decide.2 ⟨fun e => (List.cons.inj e).2, fun e => by rw [e]⟩]
      exact ih (k + 1) (by omega) (by omega)
    · rw [show (a[k] != b[k]) = true by simp [hc], decide_eq_false (by intro e; injection e with e; exact hc e)]
      exact ⟨0, rfl⟩
theorem same_con (a b : List Int) (hb : a.length ≤ 1000000) : Con Try.prog 47 [.d (.sl (.int .i64)) a, .d (.sl (.int .i64)) b] [.d .bool (decide (a = b))] := by
  refine Ctx.Res.con (C := same_C) (ctx_ok (E := []) trivial) ?_ (fn := Try.f47) (by kernel_rfl) (by kernel_rfl)
  refine same_s _ _ ?_
  unfold same_t
  by_cases hl : a.length = b.length
  · rw [show ((a.length : Int) != (b.length : Int)) = false by simp [hl]]
    exact same_loop a b hl hb _ 0 rfl (Nat.zero_le _)
  · rw [show ((a.length : Int) != (b.length : Int)) = true by simp; omega, decide_eq_false (by intro e; exact hl (congrArg List.length e))]
    exact ⟨0, rfl⟩
end Go.Proofs.Ytfkidjkpgliffaa
