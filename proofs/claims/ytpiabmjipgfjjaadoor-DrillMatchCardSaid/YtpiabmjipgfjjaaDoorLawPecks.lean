/- The law DrillPecks returns true. -/
import Derived.Test.YtpiabmjipgfjjaaDoorAwake
namespace Go.Proofs.YtpiabmjipgfjjaaDoor
open Go.RowKit
/-- The depth before peck k. -/
def bef (depth peck : Int) (k : Nat) : Int := if k = 0 then 0 else (pkList depth peck).getD (k - 1) 0
theorem mult_get (p : Int) (N k : Nat) (h : k < N) (l : List Int) : (mult p N ++ l)[k]? = some (p * ((k : Int) + 1)) := by
  rw [List.getElem?_append_left (by rw [mult_len]; exact h)]
  simp [mult, h]
theorem pk_step {depth peck : Int} {k : Nat} {d : Int} (b1 : depth ≤ 9223372036854775807) (hd : (pkList depth peck)[k]? = some d) :
    bef depth peck k < d ∧ d - bef depth peck k ≤ peck ∧ 0 ≤ bef depth peck k ∧ d ≤ 9223372036854775807 ∧ bef depth peck (k + 1) = d ∧ (k + 1 = (pkList depth peck).length → pkErr depth peck = 0 → d = depth) := by
  have hne : pkErr depth peck = 0 := by
    unfold pkList at hd
    split at hd
    · assumption
    · simp at hd
  have hc : ¬ (depth < 1 ∨ peck < 1) ∧ ¬ 1000 ≤ (depth - 1) / peck := by
    unfold pkErr at hne
    split at hne
    · simp at hne
    · split at hne
      · simp at hne
      · exact ⟨by assumption, by assumption⟩
  obtain ⟨_, e1, e2, e3, e4, e5⟩ := pk_ok (depth := depth) (peck := peck) (by omega) (by omega) (by omega)
  generalize ((depth - 1) / peck).toNat = N at *
  have hb : ∀ j, j ≤ N → bef depth peck j = peck * (j : Int) := by
    intro j hj
    unfold bef
    cases j with
    | zero => simp
    | succ j =>
      rw [if_neg (by omega), e1, List.getD_eq_getElem?_getD, Nat.add_sub_cancel, mult_get peck N j (by omega)]
      simp
  have hlast : bef depth peck (k + 1) = d := by
    unfold bef
    rw [if_neg (by omega), List.getD_eq_getElem?_getD, Nat.add_sub_cancel, hd]; rfl
  have hk : k < N + 1 := by rw [← e2]; exact (List.getElem?_eq_some_iff.1 hd).1
  have hp : 0 ≤ peck * (k : Int) := Int.mul_nonneg (by omega) (by omega)
  rw [hb k (by omega)]
  rcases Nat.lt_or_ge k N with h | h
  · rw [e1, mult_get peck N k h] at hd
    injection hd with hd
    have h1 : peck * ((k : Int) + 1) = peck * k + peck := by rw [Int.mul_add, Int.mul_one]
    have h2 : peck * ((k : Int) + 1) ≤ peck * (N : Int) := Int.mul_le_mul_of_nonneg_left (by omega) (by omega)
    exact ⟨by omega, by omega, hp, by omega, hlast, fun h3 _ => by omega⟩
  · obtain rfl : k = N := by omega
    have : (mult peck k ++ [depth])[k]? = some depth := by rw [List.getElem?_append_right (by rw [mult_len]; exact Nat.le_refl _), mult_len]; simp
    rw [e1, this] at hd
    injection hd with hd
    have h1 : peck * ((k : Int) + 1) = peck * k + peck := by rw [Int.mul_add, Int.mul_one]
    exact ⟨by omega, by omega, hp, by omega, hlast, fun _ _ => hd.symm⟩
theorem pk_pos {depth peck : Int} (h : pkErr depth peck = 0) : 0 < (pkList depth peck).length := by unfold pkList; rw [if_pos h]; simp
noncomputable def body3 : Code := Tryd.f3.body.getD .skip
set_option maxHeartbeats 1000000 in
theorem drillPecks_walk (depth peck : Int) (w : World) (HN : Nms w) (h1 : -9223372036854775808 ≤ depth) (h2 : depth ≤ 9223372036854775807) (h3 : -9223372036854775808 ≤ peck) (h4 : peck ≤ 9223372036854775807) :
    Calls Tryd.prog 3 #[.int .i64 depth, .int .i64 peck] w fun e w' => e = .returned (.bool true) ∧ Below w.heap.size w w' := by
  obtain ⟨n, hln⟩ : ∃ n, (pkList depth peck).length = n := ⟨_, rfl⟩
  have hB : Below w.heap.size w w := Below.refl _ _
  refine enter (B := body3) (args := [.int .i64 depth, .int .i64 peck]) Tryd.func3 (by kernel_rfl) (by kernel_rfl) ?_
  rw [show Tryd.f3.ntmps = 60 from by kernel_rfl]
  intro a hs
  replace hs := hs.pick (ts := [0, 1]) (L' := [(0, .int .i64 depth), (1, .int .i64 peck)]) (by kernel_rfl)
  refine at_seq (j := 2) (by kernel_rfl) ?_
  refine at_region (id := 0) (by kernel_rfl) ?_
  refine atR_seg (m := 1) (H := []) (ts := [0, 1]) (L' := [(0, .int .i64 depth), (1, .int .i64 peck)]) (O := fun w => True) hs (by kernel_rfl) trivial ?_
  clear hs a; intro a hs
  refine atR_end (by kernel_rfl) ?_
  refine wayN_node rfl ?_
  refine at_seq (j := 10) (by kernel_rfl) ?_
  refine at_seq (j := 5) (by kernel_rfl) ?_
  refine at_region (id := 1) (by kernel_rfl) ?_
  refine atR_op hs (by kernel_rfl) (call1 (f := 8) (args := #[]) [0, 1, 12] (fun rv_ => [(0, .int .i64 depth), (1, .int .i64 peck), (12, rv_)]) hs (by kernel_rfl) (fun _ => by kernel_rfl) ?_)
  refine (awake_any _ (HN.below hB)).mono ?_
  rintro e w1 ⟨rfl, hb⟩
  refine ⟨_, rfl, ?_⟩
  clear hs a; intro a hs
  replace hB := later hB hb
  clear hb
  refine atR_seg (m := 1) (H := []) (ts := [0, 1, 13]) (L' := [(0, .int .i64 depth), (1, .int .i64 peck), (13, .bool false)]) (O := fun w => True) hs (by kernel_rfl) trivial ?_
  clear hs a; intro a hs
  refine atR_end (by kernel_rfl) ?_
  refine wayN_node rfl ?_
  refine at_cond (t := 13) (j1 := 6) (j2 := 9) (b := false) (by kernel_rfl) hs rfl (fun hb => absurd (hb.symm.trans (show (false) = false from rfl)) (by decide)) (fun _ => ?_)
  refine at_skip (by kernel_rfl) ?_
  refine wayN_node rfl ?_
  refine at_seq (j := 12) (by kernel_rfl) ?_
  refine at_region (id := 3) (by kernel_rfl) ?_
  refine atR_seg (m := 2) (H := []) (ts := [0, 1, 15, 16]) (L' := [(0, .int .i64 depth), (1, .int .i64 peck), (15, .int .i64 depth), (16, .int .i64 peck)]) (O := fun w => True) hs (by kernel_rfl) trivial ?_
  clear hs a; intro a hs
  refine atR_op hs (by kernel_rfl) (call1 (f := 9) (args := #[.int .i64 depth, .int .i64 peck]) [0, 1, 17] (fun rv_ => [(0, .int .i64 depth), (1, .int .i64 peck), (17, rv_)]) hs (by kernel_rfl) (fun _ => by kernel_rfl) ?_)
  refine (pecks_any depth peck _ h1 h2 h3 h4).mono ?_
  rintro e w2 ⟨vp, rfl, hrvp, hb⟩
  rw [hln] at hrvp
  obtain ⟨u1, huu1, R1⟩ := RdU.at_u hrvp
  obtain ⟨A1, c1, rfl, hnvp⟩ := R1.form
  clear hrvp huu1
  refine ⟨_, rfl, ?_⟩
  clear hs a; intro a hs
  replace hB := later hB hb
  clear hb
  refine atR_seg (m := 5) (H := []) (ts := [0, 1, 5, 6]) (L' := [(0, .int .i64 depth), (1, .int .i64 peck), (5, .slice A1 n c1), (6, .int .i64 (pkErr depth peck))]) (O := fun w => True) hs (by kernel_rfl) trivial ?_
  clear hs a; intro a hs
  refine atR_end (by kernel_rfl) ?_
  refine wayN_node rfl ?_
  refine at_seq (j := 14) (by kernel_rfl) ?_
  refine at_region (id := 4) (by kernel_rfl) ?_
  refine atR_seg (m := 2) (H := []) (ts := [0, 1, 5, 6, 21, 22]) (L' := [(0, .int .i64 depth), (1, .int .i64 peck), (5, .slice A1 n c1), (6, .int .i64 (pkErr depth peck)), (21, .int .i64 depth), (22, .int .i64 peck)]) (O := fun w => True) hs (by kernel_rfl) trivial ?_
  clear hs a; intro a hs
  refine atR_op hs (by kernel_rfl) (call1 (f := 10) (args := #[.int .i64 depth, .int .i64 peck]) [0, 1, 5, 6, 23] (fun rv_ => [(0, .int .i64 depth), (1, .int .i64 peck), (5, .slice A1 n c1), (6, .int .i64 (pkErr depth peck)), (23, rv_)]) hs (by kernel_rfl) (fun _ => by kernel_rfl) ?_)
  refine (rpecks_any depth peck _ h1 h2 h3 h4).mono ?_
  rintro e w3 ⟨vq, rfl, hrvq, hb⟩
  rw [hln] at hrvq
  obtain ⟨u2, huu2, R2⟩ := RdU.at_u hrvq
  obtain ⟨A2, c2, rfl, hnvq⟩ := R2.form
  clear hrvq huu2
  refine ⟨_, rfl, ?_⟩
  clear hs a; intro a hs
  replace R1 := R1.below hb
  replace hB := later hB hb
  clear hb
  refine atR_seg (m := 5) (H := []) (ts := [0, 1, 5, 6, 7, 8]) (L' := [(0, .int .i64 depth), (1, .int .i64 peck), (5, .slice A1 n c1), (6, .int .i64 (pkErr depth peck)), (7, .slice A2 n c2), (8, .int .i64 (pkErr depth peck))]) (O := fun w => True) hs (by kernel_rfl) trivial ?_
  clear hs a; intro a hs
  refine atR_end (by kernel_rfl) ?_
  refine wayN_node rfl ?_
  refine at_seq (j := 22) (by kernel_rfl) ?_
  refine at_seq (j := 17) (by kernel_rfl) ?_
  refine at_region (id := 5) (by kernel_rfl) ?_
  refine atR_seg (m := 4) (H := []) (ts := [0, 1, 5, 6, 7, 29]) (L' := [(0, .int .i64 depth), (1, .int .i64 peck), (5, .slice A1 n c1), (6, .int .i64 (pkErr depth peck)), (7, .slice A2 n c2), (29, .bool ((pkErr depth peck) != (pkErr depth peck)))]) (O := fun w => True) hs (by kernel_rfl) trivial ?_
  clear hs a; intro a hs
  replace hs := hs.know (t := 29) rfl (show ((pkErr depth peck) != (pkErr depth peck)) = false from bne_self_eq_false _)
  replace hs := hs.pick (ts := [0, 1, 5, 6, 7, 29]) (L' := [(0, .int .i64 depth), (1, .int .i64 peck), (5, .slice A1 n c1), (6, .int .i64 (pkErr depth peck)), (7, .slice A2 n c2), (29, .bool false)]) (by kernel_rfl)
  refine atR_seg (m := 2) (H := []) (ts := [0, 1, 5, 6, 29, 30, 31]) (L' := [(0, .int .i64 depth), (1, .int .i64 peck), (5, .slice A1 n c1), (6, .int .i64 (pkErr depth peck)), (29, .bool false), (30, .slice A1 n c1), (31, .slice A2 n c2)]) (O := fun w => True) hs (by kernel_rfl) trivial ?_
  clear hs a; intro a hs
  refine atR_op hs (by kernel_rfl) (call1 (f := 11) (args := #[.slice A1 n c1, .slice A2 n c2]) [0, 1, 5, 6, 29, 32] (fun rv_ => [(0, .int .i64 depth), (1, .int .i64 peck), (5, .slice A1 n c1), (6, .int .i64 (pkErr depth peck)), (29, .bool false), (32, rv_)]) hs (by kernel_rfl) (fun _ => by kernel_rfl) ?_)
  refine (equal_eq _ _ n (pkList depth peck) _ R1.rd_ R2.rd_).mono ?_
  rintro e w4 ⟨rfl, hb⟩
  refine ⟨_, rfl, ?_⟩
  clear hs a; intro a hs
  replace R1 := R1.below hb
  replace R2 := R2.below hb
  replace hB := later hB hb
  clear hb
  refine atR_seg (m := 2) (H := []) (ts := [0, 1, 5, 6, 34]) (L' := [(0, .int .i64 depth), (1, .int .i64 peck), (5, .slice A1 n c1), (6, .int .i64 (pkErr depth peck)), (34, .bool false)]) (O := fun w => True) hs (by kernel_rfl) trivial ?_
  clear hs a; intro a hs
  refine atR_end (by kernel_rfl) ?_
  refine wayN_node rfl ?_
  refine at_cond (t := 34) (j1 := 18) (j2 := 21) (b := false) (by kernel_rfl) hs rfl (fun hb => absurd (hb.symm.trans (show (false) = false from rfl)) (by decide)) (fun _ => ?_)
  refine at_skip (by kernel_rfl) ?_
  refine wayN_node rfl ?_
  refine at_seq (j := 24) (by kernel_rfl) ?_
  refine at_region (id := 7) (by kernel_rfl) ?_
  refine atR_seg (m := 1) (H := []) (ts := [0, 1, 5, 6, 9]) (L' := [(0, .int .i64 depth), (1, .int .i64 peck), (5, .slice A1 n c1), (6, .int .i64 (pkErr depth peck)), (9, .int .i64 0)]) (O := fun w => True) hs (by kernel_rfl) trivial ?_
  clear hs a; intro a hs
  refine atR_end (by kernel_rfl) ?_
  refine wayN_node rfl ?_
  refine at_seq (j := 49) (by kernel_rfl) ?_
  refine at_seq (j := 27) (by kernel_rfl) ?_
  refine at_region (id := 8) (by kernel_rfl) ?_
  refine atR_seg (m := 3) (H := []) (ts := [0, 1, 6, 9, 35, 36, 37]) (L' := [(0, .int .i64 depth), (1, .int .i64 peck), (6, .int .i64 (pkErr depth peck)), (9, .int .i64 0), (35, .slice A1 n c1), (36, .int .i64 (n : Int)), (37, .int .i64 0)]) (O := fun w => True) hs (by kernel_rfl) trivial ?_
  clear hs a; intro a hs
  refine atR_end (by kernel_rfl) ?_
  refine wayN_node rfl ?_
  refine at_block (id := 0) (by kernel_rfl) ?_
  refine at_loop2 (fun (k : Nat) (bf : Int) a' W => St 60 [(0, .int .i64 depth), (1, .int .i64 peck), (6, .int .i64 (pkErr depth peck)), (9, .int .i64 bf), (35, .slice A1 n c1), (36, .int .i64 (n : Int)), (37, .int .i64 (k : Int))] a' ∧ Below w.heap.size w W ∧ RdU u1 W 1 (.slice A1 n c1) n ((pkList depth peck).map (Value.int .i64)) ∧ RdU u2 W 1 (.slice A2 n c2) n ((pkList depth peck).map (Value.int .i64)) ∧ (k ≤ n) ∧ (bf = bef depth peck k)) (fun k bf => n - k) 0 0 (by kernel_rfl) ⟨hs.sub ⟨⟨_, rfl, rfl⟩, ⟨_, rfl, rfl⟩, ⟨_, rfl, rfl⟩, ⟨_, rfl, rfl⟩, ⟨_, rfl, rfl⟩, ⟨_, rfl, rfl⟩, ⟨_, rfl, (by first | rfl | (push_cast; rfl) | (congr 1; omega))⟩, trivial⟩, hB, R1, R2, Nat.zero_le _, rfl⟩ ?_
  clear hs a hB R1 R2
  intro k bf a wr5 hI
  obtain ⟨hs, hB, R1, R2, hk, hbf⟩ := hI
  refine at_seq (j := 31) (by kernel_rfl) ?_
  refine at_region (id := 9) (by kernel_rfl) ?_
  refine atR_seg (m := 1) (H := []) (ts := [0, 1, 6, 9, 35, 36, 37, 38]) (L' := [(0, .int .i64 depth), (1, .int .i64 peck), (6, .int .i64 (pkErr depth peck)), (9, .int .i64 bf), (35, .slice A1 n c1), (36, .int .i64 (n : Int)), (37, .int .i64 (k : Int)), (38, .bool (decide ((k : Int) < (n : Int))))]) (O := fun w => True) hs (by kernel_rfl) trivial ?_
  clear hs a; intro a hs
  refine atR_end (by kernel_rfl) ?_
  refine wayN_node rfl ?_
  refine at_seq (j := 35) (by kernel_rfl) ?_
  refine at_cond (t := 38) (j1 := 33) (j2 := 34) (b := decide ((k : Int) < (n : Int))) (by kernel_rfl) hs rfl (fun hb => ?_) (fun hb => ?_)
  · have cd1 := hb; have cd1b := hb; clear hb
    replace cd1 := of_decide_eq_true cd1
    have hkn : k < n := by omega
    refine at_skip (by kernel_rfl) ?_
    refine wayN_node rfl ?_
    refine at_seq (j := 48) (by kernel_rfl) ?_
    refine at_block (id := 1) (by kernel_rfl) ?_
    refine at_seq (j := 39) (by kernel_rfl) ?_
    obtain ⟨p1, o1, d, hA1, hd, e1⟩ := R1.elem1 hln hkn
    obtain ⟨g1, g2, g3, g4, g5, g6⟩ := pk_step h2 hd
    rw [← hbf] at g1 g2 g3
    subst hA1
    refine at_region (id := 10) (by kernel_rfl) ?_
    refine atR_seg (m := 3) (H := [(0, some (.pointer (some ⟨p1, o1 + k, none⟩)), []), (1, none, [.int .i64 d])]) (ts := [0, 1, 6, 9, 11, 35, 36, 37]) (L' := [(0, .int .i64 depth), (1, .int .i64 peck), (6, .int .i64 (pkErr depth peck)), (9, .int .i64 bf), (11, .int .i64 d), (35, .slice (some ⟨p1, o1, none⟩) n c1), (36, .int .i64 (n : Int)), (37, .int .i64 (k : Int))]) (O := fun w => (.pointer (some ⟨p1, o1 + ((k : Int)).toNat * 1, none⟩) = Value.pointer (some ⟨p1, o1 + k, none⟩)) ∧ ((0 : Int) ≤ (k : Int) ∧ (k : Int) < ((n : Nat) : Int)) ∧ (w.cell? ⟨p1, o1 + k, none⟩ = some (.int .i64 d)) ∧ True) hs (by kernel_rfl) ⟨by simp [Int.toNat_natCast], ⟨by omega, by omega⟩, e1.at0 rfl, trivial⟩ ?_
    clear hs a; intro a hs
    refine atR_end (by kernel_rfl) ?_
    refine wayN_node rfl ?_
    refine at_seq (j := 47) (by kernel_rfl) ?_
    refine at_seq (j := 42) (by kernel_rfl) ?_
    refine at_region (id := 11) (by kernel_rfl) ?_
    refine atR_seg (m := 4) (H := []) (ts := [0, 1, 6, 9, 11, 35, 36, 37, 44]) (L' := [(0, .int .i64 depth), (1, .int .i64 peck), (6, .int .i64 (pkErr depth peck)), (9, .int .i64 bf), (11, .int .i64 d), (35, .slice (some ⟨p1, o1, none⟩) n c1), (36, .int .i64 (n : Int)), (37, .int .i64 (k : Int)), (44, .bool (decide (d ≤ bf)))]) (O := fun w => True) hs (by kernel_rfl) trivial ?_
    clear hs a; intro a hs
    replace hs := hs.know (t := 44) rfl (show (decide (d ≤ bf)) = false from decide_eq_false (by omega))
    replace hs := hs.pick (ts := [0, 1, 6, 9, 11, 35, 36, 37, 44]) (L' := [(0, .int .i64 depth), (1, .int .i64 peck), (6, .int .i64 (pkErr depth peck)), (9, .int .i64 bf), (11, .int .i64 d), (35, .slice (some ⟨p1, o1, none⟩) n c1), (36, .int .i64 (n : Int)), (37, .int .i64 (k : Int)), (44, .bool false)]) (by kernel_rfl)
    refine atR_seg (m := 6) (H := [(6, some (.int .i64 (d - bf)), [])]) (ts := [0, 1, 6, 11, 35, 36, 37, 50]) (L' := [(0, .int .i64 depth), (1, .int .i64 peck), (6, .int .i64 (pkErr depth peck)), (11, .int .i64 d), (35, .slice (some ⟨p1, o1, none⟩) n c1), (36, .int .i64 (n : Int)), (37, .int .i64 (k : Int)), (50, .bool (decide (d - bf > peck)))]) (O := fun w => (W .i64 (d - bf)) ∧ True) hs (by kernel_rfl) ⟨w64 (by omega) (by omega), trivial⟩ ?_
    clear hs a; intro a hs
    refine atR_end (by kernel_rfl) ?_
    refine wayN_node rfl ?_
    refine at_cond (t := 50) (j1 := 43) (j2 := 46) (b := decide (d - bf > peck)) (by kernel_rfl) hs rfl (fun hb => absurd (hb.symm.trans (show (decide (d - bf > peck)) = false from decide_eq_false (by omega))) (by decide)) (fun _ => ?_)
    refine at_skip (by kernel_rfl) ?_
    refine wayN_node rfl ?_
    refine at_region (id := 13) (by kernel_rfl) ?_
    refine atR_seg (m := 2) (H := []) (ts := [0, 1, 6, 9, 35, 36, 37]) (L' := [(0, .int .i64 depth), (1, .int .i64 peck), (6, .int .i64 (pkErr depth peck)), (9, .int .i64 d), (35, .slice (some ⟨p1, o1, none⟩) n c1), (36, .int .i64 (n : Int)), (37, .int .i64 (k : Int))]) (O := fun w => True) hs (by kernel_rfl) trivial ?_
    clear hs a; intro a hs
    refine atR_end (by kernel_rfl) ?_
    refine wayN_node rfl ?_
    refine at_region (id := 14) (by kernel_rfl) ?_
    refine atR_seg (m := 2) (H := [(0, some (.int .i64 ((k : Int) + 1)), [])]) (ts := [0, 1, 6, 9, 35, 36, 37]) (L' := [(0, .int .i64 depth), (1, .int .i64 peck), (6, .int .i64 (pkErr depth peck)), (9, .int .i64 d), (35, .slice (some ⟨p1, o1, none⟩) n c1), (36, .int .i64 (n : Int)), (37, .int .i64 ((k : Int) + 1))]) (O := fun w => (W .i64 ((k : Int) + 1)) ∧ True) hs (by kernel_rfl) ⟨w64 (by omega) (by omega), trivial⟩ ?_
    clear hs a; intro a hs
    refine atR_end (by kernel_rfl) ?_
    refine wayN_back ?_
    dsimp only [lpOf]
    exact ⟨k + 1, d, ⟨hs.sub ⟨⟨_, rfl, rfl⟩, ⟨_, rfl, rfl⟩, ⟨_, rfl, rfl⟩, ⟨_, rfl, rfl⟩, ⟨_, rfl, (by first | rfl | (push_cast; rfl) | (congr 1; omega))⟩, ⟨_, rfl, rfl⟩, ⟨_, rfl, (by first | rfl | (push_cast; rfl) | (congr 1; omega))⟩, trivial⟩, hB, R1, R2, by omega, g5.symm⟩, by omega⟩
  · have cd1 := hb; have cd1b := hb; clear hb
    replace cd1 := of_decide_eq_false cd1
    refine at_exit (id := 0) (by kernel_rfl) (wayE_ok rfl ?_)
    refine wayN_node rfl ?_
    refine at_seq (j := 51) (by kernel_rfl) ?_
    refine at_region (id := 15) (by kernel_rfl) ?_
    refine atR_seg (m := 3) (H := []) (ts := [0, 9, 55]) (L' := [(0, .int .i64 depth), (9, .int .i64 bf), (55, .bool ((pkErr depth peck) != 0))]) (O := fun w => True) hs (by kernel_rfl) trivial ?_
    clear hs a; intro a hs
    rcases Bool.eq_false_or_eq_true ((pkErr depth peck) != 0) with hb | hb
    · replace hs := hs.know (t := 55) rfl hb
      have cd2 := hb; have cd2b := hb; clear hb
      replace cd2 := bne_iff_ne.1 cd2
      replace hs := hs.pick (ts := [0, 9, 55]) (L' := [(0, .int .i64 depth), (9, .int .i64 bf), (55, .bool true)]) (by kernel_rfl)
      refine atR_seg (m := 5) (H := []) (ts := [4]) (L' := [(4, .bool true)]) (O := fun w => True) hs (by kernel_rfl) trivial ?_
      clear hs a; intro a hs
      refine atR_end (by kernel_rfl) ?_
      refine wayN_node rfl ?_
      refine at_ret (by kernel_rfl) ?_
      refine at_end (vs := [.bool true]) (H := []) (v := .bool true) (O := fun w => True) hs (by kernel_rfl) rfl trivial ?_
      exact ⟨rfl, hB⟩
    · replace hs := hs.know (t := 55) rfl hb
      have cd2 := hb; have cd2b := hb; clear hb
      replace cd2 := bne_eq_false_iff_eq.1 cd2
      replace hs := hs.pick (ts := [0, 9, 55]) (L' := [(0, .int .i64 depth), (9, .int .i64 bf), (55, .bool false)]) (by kernel_rfl)
      refine atR_seg (m := 5) (H := []) (ts := [4]) (L' := [(4, .bool (bf == depth))]) (O := fun w => True) hs (by kernel_rfl) trivial ?_
      clear hs a; intro a hs
      refine atR_end (by kernel_rfl) ?_
      refine wayN_node rfl ?_
      refine at_ret (by kernel_rfl) ?_
      refine at_end (vs := [.bool (bf == depth)]) (H := []) (v := .bool (bf == depth)) (O := fun w => True) hs (by kernel_rfl) rfl trivial ?_
      have hkn' : k = n := by omega
      have hpos := pk_pos cd2
      have hlast : bf = depth := by
        have hlt : n - 1 < (pkList depth peck).length := by omega
        obtain ⟨_, _, _, _, g5, g6⟩ := pk_step h2 (List.getElem?_eq_getElem hlt)
        rw [hbf, hkn', show n = n - 1 + 1 by omega, g5]
        exact g6 (by omega) cd2
      exact ⟨by rw [show (bf == depth) = true from beq_iff_eq.2 hlast], hB⟩
-- decide ((k : Int) < (n : Int))
-- (pkErr depth peck) != 0
end Go.Proofs.YtpiabmjipgfjjaaDoor
