/- choose: the reference's fresh, Cost, SameInts. -/
import Derived.Test.YtfkidjkpgliffaaCh9
namespace Go.Proofs.Ytfkidjkpgliffaa
open Go.RowKit
def freshP (reach : List (List Bool)) (l : List Int) (t : Int) : Prop := small3 reach ∧ inR reach l = true ∧ l.length ≤ 1000000 ∧ 0 ≤ t ∧ t < (reach.length : Int)
instance (reach : List (List Bool)) (l : List Int) (t : Int) : Decidable (freshP reach l t) := by unfold freshP; infer_instance
def costP (cost l : List Int) : Prop := (l.all fun t => decide (0 ≤ t) && decide (t < (cost.length : Int))) = true ∧ (cost.all fun c => decide (0 ≤ c) && decide (c ≤ 2147483648)) = true ∧ l.length ≤ 1000000
instance (cost l : List Int) : Decidable (costP cost l) := by unfold costP; infer_instance
def costF (cost l : List Int) : Int := (l.map fun t => cost.getD t.toNat 0).sum
theorem costF_snoc (cost l : List Int) (t : Int) : costF cost (l ++ [t]) = costF cost l + cost.getD t.toNat 0 := by simp [costF]
theorem costF_bd {cost : List Int} (hc : ∀ c ∈ cost, 0 ≤ c ∧ c ≤ 2147483648) : ∀ l : List Int, 0 ≤ costF cost l ∧ costF cost l ≤ l.length * 2147483648
  | [] => by simp [costF]
  | t :: l => by
    have ih := costF_bd hc l
    have : 0 ≤ cost.getD t.toNat 0 ∧ cost.getD t.toNat 0 ≤ 2147483648 := by
      by_cases h : t.toNat < cost.length
      · rw [getD_get h]; exact hc _ (List.getElem_mem h)
      · simp [List.getD, h]
    have e : costF cost (t :: l) = cost.getD t.toNat 0 + costF cost l := by simp [costF]
    rw [e]
    simp only [List.length_cons]
    omega
def env10 : Env := [(78, rpieces_sp), (80, rreached_sp)]
theorem env10_ok : EnvAll Try.prog env10 := ⟨rpieces_spec, rreached_spec, trivial⟩
def rfr_nt : NT := [((76, 8), { keep := [0, 1, 2, 7, 8], hl := 0 })]
noncomputable def rfr_C : Ctx := ⟨Try.prog, ft, tys, env10, rfr_nt⟩
def rfr_h8 (reach : List (List Bool)) (l : List Int) (t : Int) (s7 : Int) (s8 : Int) : Cfg := ⟨76, [.blk 0, .seq 23], [(0, .d (.sl (.sl .bool)) reach), (1, .d (.sl (.int .i64)) l), (2, SI t), (7, SI s7), (8, SI s8)], [], 0, []⟩
def rfr_t (k : Nat → Cfg → Option (List RV)) (reach : List (List Bool)) (l : List Int) (t : Int) : Option (List RV) := k 8 (rfr_h8 reach l t 0 0)
theorem rfr_eq (k : Nat → Cfg → Option (List RV)) (reach : List (List Bool)) (l : List Int) (t : Int) : go Try.prog ft tys env10 rfr_nt k 4000 (start 76 [.d (.sl (.sl .bool)) reach, .d (.sl (.int .i64)) l, SI t]) (.node 0) = rfr_t k reach l t := by kernel_rfl
theorem rfr_s (reach : List (List Bool)) (l : List Int) (t : Int) {r : List RV} (h : ∃ n, rfr_t (rfr_C.k n) reach l t = some r) : rfr_C.Res 76 [.d (.sl (.sl .bool)) reach, .d (.sl (.int .i64)) l, SI t] r := by
  obtain ⟨n, h⟩ := h
  exact ⟨n, (rfr_eq _ reach l t).trans h⟩
def rfr_h8_t (k : Nat → Cfg → Option (List RV)) (reach : List (List Bool)) (l : List Int) (t : Int) (s7 : Int) (s8 : Int) : Option (List RV) := match decide (s8 < (npc reach : Int)) with | true => (match getI reach t with | some x1 => (match getI x1 s8 with | some x2 => (match x2 with | true => (match decide (small3 reach ∧ inR reach l = true ∧ l.length ≤ 1000000 ∧ 0 ≤ s8 ∧ s8 < (npc reach : Int)) with | true => (match !(reachedF reach l s8) with | true => k 8 (rfr_h8 reach l t (IntKind.i64.wrap (s7 + 1)) (IntKind.i64.wrap (s8 + 1))) | false => k 8 (rfr_h8 reach l t s7 (IntKind.i64.wrap (s8 + 1)))) | false => none) | false => k 8 (rfr_h8 reach l t s7 (IntKind.i64.wrap (s8 + 1)))) | none => none) | none => none) | false => some [RV.d (.int .i64) s7]
theorem rfr_h8_eq (k : Nat → Cfg → Option (List RV)) (reach : List (List Bool)) (l : List Int) (t : Int) (s7 : Int) (s8 : Int) : go Try.prog ft tys env10 rfr_nt k 4000 { rfr_h8 reach l t s7 s8 with K := .lp 8 :: (rfr_h8 reach l t s7 s8).K } (.node 9) = rfr_h8_t k reach l t s7 s8 := by kernel_rfl
theorem rfr_h8_s (reach : List (List Bool)) (l : List Int) (t : Int) (s7 : Int) (s8 : Int) {r : List RV} (h : ∃ n, rfr_h8_t (rfr_C.k n) reach l t s7 s8 = some r) : rfr_C.Runs 8 (rfr_h8 reach l t s7 s8) r := by
  obtain ⟨n, h⟩ := h
  exact ⟨n + 1, (rfr_h8_eq _ reach l t s7 s8).trans h⟩
def rco_nt : NT := [((49, 8), { keep := [0, 1, 5, 6], hl := 0 })]
noncomputable def rco_C : Ctx := ⟨Try.prog, ft, tys, [], rco_nt⟩
def rco_h8 (cost : List Int) (l : List Int) (s5 : Int) (s6 : Int) : Cfg := ⟨49, [.blk 0, .seq 19], [(0, .d (.sl (.int .i64)) cost), (1, .d (.sl (.int .i64)) l), (5, SI s5), (6, SI s6)], [], 0, []⟩
def rco_t (k : Nat → Cfg → Option (List RV)) (cost : List Int) (l : List Int) : Option (List RV) := k 8 (rco_h8 cost l 0 0)
theorem rco_eq (k : Nat → Cfg → Option (List RV)) (cost : List Int) (l : List Int) : go Try.prog ft tys [] rco_nt k 4000 (start 49 [.d (.sl (.int .i64)) cost, .d (.sl (.int .i64)) l]) (.node 0) = rco_t k cost l := by kernel_rfl
theorem rco_s (cost : List Int) (l : List Int) {r : List RV} (h : ∃ n, rco_t (rco_C.k n) cost l = some r) : rco_C.Res 49 [.d (.sl (.int .i64)) cost, .d (.sl (.int .i64)) l] r := by
  obtain ⟨n, h⟩ := h
  exact ⟨n, (rco_eq _ cost l).trans h⟩
def rco_h8_t (k : Nat → Cfg → Option (List RV)) (cost : List Int) (l : List Int) (s5 : Int) (s6 : Int) : Option (List RV) := match decide (s6 < (l.length : Int)) with | true => (match getI l s6 with | some x1 => (match getI cost x1 with | some x2 => k 8 (rco_h8 cost l (IntKind.i64.wrap (s5 + x2)) (IntKind.i64.wrap (s6 + 1))) | none => none) | none => none) | false => some [RV.d (.int .i64) s5]
theorem rco_h8_eq (k : Nat → Cfg → Option (List RV)) (cost : List Int) (l : List Int) (s5 : Int) (s6 : Int) : go Try.prog ft tys [] rco_nt k 4000 { rco_h8 cost l s5 s6 with K := .lp 8 :: (rco_h8 cost l s5 s6).K } (.node 9) = rco_h8_t k cost l s5 s6 := by kernel_rfl
theorem rco_h8_s (cost : List Int) (l : List Int) (s5 : Int) (s6 : Int) {r : List RV} (h : ∃ n, rco_h8_t (rco_C.k n) cost l s5 s6 = some r) : rco_C.Runs 8 (rco_h8 cost l s5 s6) r := by
  obtain ⟨n, h⟩ := h
  exact ⟨n + 1, (rco_h8_eq _ cost l s5 s6).trans h⟩
def sai_nt : NT := [((39, 14), { keep := [0, 1, 5], hl := 0 })]
noncomputable def sai_C : Ctx := ⟨Try.prog, ft, tys, [], sai_nt⟩
def sai_h14 (a : List Int) (b : List Int) (s5 : Int) : Cfg := ⟨39, [.blk 0, .seq 31], [(0, .d (.sl (.int .i64)) a), (1, .d (.sl (.int .i64)) b), (5, SI s5)], [], 0, []⟩
def sai_t (k : Nat → Cfg → Option (List RV)) (a : List Int) (b : List Int) : Option (List RV) := match (a.length : Int) != (b.length : Int) with | true => some [RV.d .bool false] | false => k 14 (sai_h14 a b 0)
theorem sai_eq (k : Nat → Cfg → Option (List RV)) (a : List Int) (b : List Int) : go Try.prog ft tys [] sai_nt k 4000 (start 39 [.d (.sl (.int .i64)) a, .d (.sl (.int .i64)) b]) (.node 0) = sai_t k a b := by kernel_rfl
theorem sai_s (a : List Int) (b : List Int) {r : List RV} (h : ∃ n, sai_t (sai_C.k n) a b = some r) : sai_C.Res 39 [.d (.sl (.int .i64)) a, .d (.sl (.int .i64)) b] r := by
  obtain ⟨n, h⟩ := h
  exact ⟨n, (sai_eq _ a b).trans h⟩
def sai_h14_t (k : Nat → Cfg → Option (List RV)) (a : List Int) (b : List Int) (s5 : Int) : Option (List RV) := match decide (s5 < (a.length : Int)) with | true => (match getI a s5 with | some x1 => (match getI b s5 with | some x2 => (match x1 != x2 with | true => some [RV.d .bool false] | false => k 14 (sai_h14 a b (IntKind.i64.wrap (s5 + 1)))) | none => none) | none => none) | false => some [RV.d .bool true]
theorem sai_h14_eq (k : Nat → Cfg → Option (List RV)) (a : List Int) (b : List Int) (s5 : Int) : go Try.prog ft tys [] sai_nt k 4000 { sai_h14 a b s5 with K := .lp 14 :: (sai_h14 a b s5).K } (.node 15) = sai_h14_t k a b s5 := by kernel_rfl
theorem sai_h14_s (a : List Int) (b : List Int) (s5 : Int) {r : List RV} (h : ∃ n, sai_h14_t (sai_C.k n) a b s5 = some r) : sai_C.Runs 14 (sai_h14 a b s5) r := by
  obtain ⟨n, h⟩ := h
  exact ⟨n + 1, (sai_h14_eq _ a b s5).trans h⟩
theorem rfr_loop (reach : List (List Bool)) (l : List Int) (t : Int) (h : freshP reach l t) : ∀ d k, npc reach - k = d → k ≤ npc reach → rfr_C.Runs 8 (rfr_h8 reach l t (freshN reach l t.toNat k : Int) (k : Int)) [.d (.int .i64) (freshF reach l t)] := by
  obtain ⟨hs, hr, hl, t0, t1⟩ := h
  have h2 := hs.2.1
  have hm := hs.rect _ (getD_mem (xs := reach) (t := t) [] t0 t1)
  intro d
  induction d with
  | zero =>
    intro k hd hk
    refine rfr_h8_s _ _ _ _ _ ⟨0, ?_⟩
    unfold rfr_h8_t
    rw [ge_dec (by omega), show k = npc reach by omega]
    rfl
  | succ d ih =>
    intro k hd hk
    have hn := ih (k + 1) (by omega) (by omega)
    have hle := freshN_le reach l t.toNat k
    refine rfr_h8_s _ _ _ _ _ ?_
    unfold rfr_h8_t
    rw [lt_dec (by omega), getI_in [] t0 t1]
    dsimp only
    rw [getI_in false (show 0 ≤ (k : Int) by omega) (by rw [hm]; omega), toNat_nat, wrapS (by omega), wrapS (by omega), decide_eq_true (show small3 reach ∧ inR reach l = true ∧ l.length ≤ 1000000 ∧ 0 ≤ (k : Int) ∧ (k : Int) < (npc reach : Int) from ⟨hs, hr, hl, by omega, by omega⟩)]
    unfold freshN rch at hn
    dsimp only
    cases hx : (reach.getD t.toNat []).getD k false with
    | false => rw [hx] at hn; exact hn
    | true =>
      rw [hx] at hn
      dsimp only
      cases hy : reachedF reach l (k : Int) with
      | true => rw [hy] at hn; exact hn
      | false => rw [hy] at hn; exact hn
theorem rfr_con (reach : List (List Bool)) (l : List Int) (t : Int) (h : freshP reach l t) : Con Try.prog 76 [.d (.sl (.sl .bool)) reach, .d (.sl (.int .i64)) l, SI t] [.d (.int .i64) (freshF reach l t)] := by
  refine Ctx.Res.con (C := rfr_C) (ctx_ok env10_ok) ?_ (fn := Try.f76) (by kernel_rfl) (by kernel_rfl)
  refine rfr_s _ _ _ ?_
  unfold rfr_t
  exact rfr_loop reach l t h _ 0 rfl (Nat.zero_le _)
theorem rco_loop (cost l : List Int) (h : costP cost l) : ∀ d k, l.length - k = d → k ≤ l.length → rco_C.Runs 8 (rco_h8 cost l (costF cost (l.take k)) (k : Int)) [.d (.int .i64) (costF cost l)] := by
  obtain ⟨h1, h2, h3⟩ := h
  have hc : ∀ c ∈ cost, 0 ≤ c ∧ c ≤ 2147483648 := fun c hc => by have := List.all_eq_true.1 h2 c hc; simpa using this
  intro d
  induction d with
  | zero =>
    intro k hd hk
    refine rco_h8_s _ _ _ _ ⟨0, ?_⟩
    unfold rco_h8_t
    rw [ge_dec (by omega), List.take_of_length_le (by omega)]
  | succ d ih =>
    intro k hd hk
    have hlt : k < l.length := by omega
    have hi := List.all_eq_true.1 h1 l[k] (List.getElem_mem hlt)
    rw [Bool.and_eq_true] at hi
    have i0 := of_decide_eq_true hi.1
    have i1 := of_decide_eq_true hi.2
    have hn := ih (k + 1) (by omega) (by omega)
    have bd := costF_bd hc (l.take (k + 1))
    rw [List.length_take] at bd
    rw [List.take_succ_eq_append_getElem hlt, costF_snoc] at hn bd
    refine rco_h8_s _ _ _ _ ?_
    unfold rco_h8_t
    rw [lt_dec hlt, getI_nat, List.getElem?_eq_getElem hlt, wrapS (by omega)]
    dsimp only
    rw [getI_in 0 i0 i1]
    dsimp only
    rw [wrap64 (by omega) (by omega)]
    exact hn
theorem rco_con (cost l : List Int) (h : costP cost l) : Con Try.prog 49 [.d (.sl (.int .i64)) cost, .d (.sl (.int .i64)) l] [.d (.int .i64) (costF cost l)] := by
  refine Ctx.Res.con (C := rco_C) (ctx_ok (E := []) trivial) ?_ (fn := Try.f49) (by kernel_rfl) (by kernel_rfl)
  refine rco_s _ _ ?_
  unfold rco_t
  exact rco_loop cost l h _ 0 rfl (Nat.zero_le _)
theorem sai_loop (a b : List Int) (hl : a.length = b.length) (hb : a.length ≤ 1000000) : ∀ d k, a.length - k = d → k ≤ a.length → sai_C.Runs 14 (sai_h14 a b (k : Int)) [.d .bool (decide (a.drop k = b.drop k))] := by
  intro d
  induction d with
  | zero =>
    intro k hd hk
    refine sai_h14_s _ _ _ ⟨0, ?_⟩
    unfold sai_h14_t
    rw [ge_dec (by omega), drop_end (show a.length ≤ k by omega), drop_end (show b.length ≤ k by omega)]
    rfl
  | succ d ih =>
    intro k hd hk
    have h1 : k < a.length := by omega
    have h2 : k < b.length := by omega
    refine sai_h14_s _ _ _ ?_
    unfold sai_h14_t
    rw [lt_dec h1, getI_nat, getI_nat, List.getElem?_eq_getElem h1, List.getElem?_eq_getElem h2, drop_get h1, drop_get h2, wrapS (by omega)]
    dsimp only
    by_cases hc : a[k] = b[k]
    · rw [show (a[k] != b[k]) = false by simp [hc], hc, show decide (b[k] :: a.drop (k + 1) = b[k] :: b.drop (k + 1)) = decide (a.drop (k + 1) = b.drop (k + 1)) from decide_eq_decide.2 ⟨fun e => (List.cons.inj e).2, fun e => by rw [e]⟩]
      exact ih (k + 1) (by omega) (by omega)
    · rw [show (a[k] != b[k]) = true by simp [hc], decide_eq_false (by intro e; injection e with e; exact hc e)]
      exact ⟨0, rfl⟩
theorem sai_con (a b : List Int) (hb : a.length ≤ 1000000) : Con Try.prog 39 [.d (.sl (.int .i64)) a, .d (.sl (.int .i64)) b] [.d .bool (decide (a = b))] := by
  refine Ctx.Res.con (C := sai_C) (ctx_ok (E := []) trivial) ?_ (fn := Try.f39) (by kernel_rfl) (by kernel_rfl)
  refine sai_s _ _ ?_
  unfold sai_t
  by_cases hl : a.length = b.length
  · rw [show ((a.length : Int) != (b.length : Int)) = false by simp [hl]]
    exact sai_loop a b hl hb _ 0 rfl (Nat.zero_le _)
  · rw [show ((a.length : Int) != (b.length : Int)) = true by simp; omega, decide_eq_false (by intro e; exact hl (congrArg List.length e))]
    exact ⟨0, rfl⟩
end Go.Proofs.Ytfkidjkpgliffaa
