/- The law DrillBore returns true. -/
import Derived.Test.YtpiabmjipgfjjaaDoorAwake
namespace Go.Proofs.YtpiabmjipgfjjaaDoor
open Go.RowKit
noncomputable def body4 : Code := Tryd.f4.body.getD .skip
set_option maxHeartbeats 1000000 in
theorem drillBore_walk (x y n0 n1 n2 num kind rad flu hol stp fd plu : Int) (w : World) (HN : Nms w) (HK : (⟨num, kind, rad, flu, hol, stp, fd, plu⟩ : Tl).ok) (k0 : -9223372036854775808 ≤ n0) (k1 : n0 ≤ 9223372036854775807) (k4 : -9223372036854775808 ≤ n2) (k5 : n2 ≤ 9223372036854775807) :
    Calls Tryd.prog 4 #[.agg #[.int .i64 x, .int .i64 y], .agg #[.int .i64 n0, .int .i64 n1, .int .i64 n2], .agg #[.int .i64 num, .int .i64 kind, .int .i64 rad, .int .i64 flu, .int .i64 hol, .int .i64 stp, .int .i64 fd, .int .i64 plu]] w fun e w' => e = .returned (.bool true) ∧ Below w.heap.size w w' := by
  obtain ⟨n, hln⟩ : ∃ n, (boreR (⟨num, kind, rad, flu, hol, stp, fd, plu⟩ : Tl) x y n0 n1 n2).length = n := ⟨_, rfl⟩
  obtain ⟨er, her⟩ : ∃ er, boreErr (⟨num, kind, rad, flu, hol, stp, fd, plu⟩ : Tl) x y n0 n1 n2 = er := ⟨_, rfl⟩
  have hB : Below w.heap.size w w := Below.refl _ _
  refine enter (B := body4) (args := [.agg #[.int .i64 x, .int .i64 y], .agg #[.int .i64 n0, .int .i64 n1, .int .i64 n2], .agg #[.int .i64 num, .int .i64 kind, .int .i64 rad, .int .i64 flu, .int .i64 hol, .int .i64 stp, .int .i64 fd, .int .i64 plu]]) Tryd.func4 (by kernel_rfl) (by kernel_rfl) ?_
  rw [show Tryd.f4.ntmps = 56 from by kernel_rfl]
  intro a hs
  replace hs := hs.pick (ts := [0, 1, 2]) (L' := [(0, .agg #[.int .i64 x, .int .i64 y]), (1, .agg #[.int .i64 n0, .int .i64 n1, .int .i64 n2]), (2, .agg #[.int .i64 num, .int .i64 kind, .int .i64 rad, .int .i64 flu, .int .i64 hol, .int .i64 stp, .int .i64 fd, .int .i64 plu])]) (by kernel_rfl)
  refine at_seq (j := 2) (by kernel_rfl) ?_
  refine at_region (id := 0) (by kernel_rfl) ?_
  refine atR_op hs (by kernel_rfl) (new1 (t := 30) (cs := #[.int .i64 x, .int .i64 y]) (fun rb_ => .pointer (some ⟨rb_, 0, none⟩)) [1, 2, 3] (fun rb_ => [(1, .agg #[.int .i64 n0, .int .i64 n1, .int .i64 n2]), (2, .agg #[.int .i64 num, .int .i64 kind, .int .i64 rad, .int .i64 flu, .int .i64 hol, .int .i64 stp, .int .i64 fd, .int .i64 plu]), (3, .pointer (some ⟨rb_, 0, none⟩))]) hs (fun _ => by kernel_rfl) (fun _ => by kernel_rfl) ?_)
  clear hs a; intro a w1 b1 hn hs
  have B1 := hn.blk
  have l1 : w.heap.size ≤ b1 := by rw [hn.at_]; exact hB.size
  replace hB := later hB hn.below
  clear hn
  refine atR_op hs (by kernel_rfl) (new1 (t := 31) (cs := #[.int .i64 n0, .int .i64 n1, .int .i64 n2]) (fun rb_ => .pointer (some ⟨rb_, 0, none⟩)) [2, 3, 4] (fun rb_ => [(2, .agg #[.int .i64 num, .int .i64 kind, .int .i64 rad, .int .i64 flu, .int .i64 hol, .int .i64 stp, .int .i64 fd, .int .i64 plu]), (3, .pointer (some ⟨b1, 0, none⟩)), (4, .pointer (some ⟨rb_, 0, none⟩))]) hs (fun _ => by kernel_rfl) (fun _ => by kernel_rfl) ?_)
  clear hs a; intro a w2 b2 hn hs
  have B2 := hn.blk
  have l2 : w.heap.size ≤ b2 := by rw [hn.at_]; exact hB.size
  have l2' : b1 < b2 := by rw [hn.at_]; exact B1.lt
  replace B1 := B1.below hn.below B1.lt
  replace hB := later hB hn.below
  clear hn
  refine atR_op hs (by kernel_rfl) (new1 (t := 33) (cs := #[.int .i64 num, .int .i64 kind, .int .i64 rad, .int .i64 flu, .int .i64 hol, .int .i64 stp, .int .i64 fd, .int .i64 plu]) (fun rb_ => .pointer (some ⟨rb_, 0, none⟩)) [3, 4, 5] (fun rb_ => [(3, .pointer (some ⟨b1, 0, none⟩)), (4, .pointer (some ⟨b2, 0, none⟩)), (5, .pointer (some ⟨rb_, 0, none⟩))]) hs (fun _ => by kernel_rfl) (fun _ => by kernel_rfl) ?_)
  clear hs a; intro a w3 b3 hn hs
  have B3 := hn.blk
  have l3 : w.heap.size ≤ b3 := by rw [hn.at_]; exact hB.size
  have l3' : b2 < b3 := by rw [hn.at_]; exact B2.lt
  replace B1 := B1.below hn.below B1.lt
  replace B2 := B2.below hn.below B2.lt
  replace hB := later hB hn.below
  clear hn
  refine atR_seg (m := 1) (H := []) (ts := [3, 4, 5]) (L' := [(3, .pointer (some ⟨b1, 0, none⟩)), (4, .pointer (some ⟨b2, 0, none⟩)), (5, .pointer (some ⟨b3, 0, none⟩))]) (O := fun w => True) hs (by kernel_rfl) trivial ?_
  clear hs a; intro a hs
  refine atR_end (by kernel_rfl) ?_
  refine wayN_node rfl ?_
  refine at_seq (j := 10) (by kernel_rfl) ?_
  refine at_seq (j := 5) (by kernel_rfl) ?_
  refine at_region (id := 1) (by kernel_rfl) ?_
  refine atR_op hs (by kernel_rfl) (call1 (f := 8) (args := #[]) [3, 4, 5, 11] (fun rv_ => [(3, .pointer (some ⟨b1, 0, none⟩)), (4, .pointer (some ⟨b2, 0, none⟩)), (5, .pointer (some ⟨b3, 0, none⟩)), (11, rv_)]) hs (by kernel_rfl) (fun _ => by kernel_rfl) ?_)
  refine (awake_any _ (HN.below hB)).mono ?_
  rintro e w4 ⟨rfl, hb⟩
  refine ⟨_, rfl, ?_⟩
  clear hs a; intro a hs
  replace B1 := B1.below hb B1.lt
  replace B2 := B2.below hb B2.lt
  replace B3 := B3.below hb B3.lt
  replace hB := later hB hb
  clear hb
  refine atR_seg (m := 6) (H := [(4, none, [.int .i64 n2])]) (ts := [3, 4, 5, 13, 17]) (L' := [(3, .pointer (some ⟨b1, 0, none⟩)), (4, .pointer (some ⟨b2, 0, none⟩)), (5, .pointer (some ⟨b3, 0, none⟩)), (13, .bool false), (17, .bool (decide (n2 > 200000)))]) (O := fun w => ((0 : Int) ≤ 2 ∧ 2 < ((3 : Nat) : Int)) ∧ (w.cell? ⟨b2, 2, none⟩ = some (.int .i64 n2)) ∧ True) hs (by kernel_rfl) ⟨⟨by omega, by omega⟩, B2.cell 2 rfl, trivial⟩ ?_
  clear hs a; intro a hs
  rcases Bool.eq_false_or_eq_true (decide (n2 > 200000)) with hb | hb
  · replace hs := hs.know (t := 17) rfl hb
    have cd1 := hb; have cd1b := hb; clear hb
    replace cd1 := of_decide_eq_true cd1
    replace hs := hs.pick (ts := [3, 4, 5, 13, 17]) (L' := [(3, .pointer (some ⟨b1, 0, none⟩)), (4, .pointer (some ⟨b2, 0, none⟩)), (5, .pointer (some ⟨b3, 0, none⟩)), (13, .bool false), (17, .bool true)]) (by kernel_rfl)
    refine atR_seg (m := 5) (H := [(8, none, [.int .i64 stp])]) (ts := [3, 4, 5, 22]) (L' := [(3, .pointer (some ⟨b1, 0, none⟩)), (4, .pointer (some ⟨b2, 0, none⟩)), (5, .pointer (some ⟨b3, 0, none⟩)), (22, .bool (decide (stp < 1000)))]) (O := fun w => (w.cell? ⟨b3, 5, none⟩ = some (.int .i64 stp)) ∧ True) hs (by kernel_rfl) ⟨B3.cell 5 rfl, trivial⟩ ?_
    clear hs a; intro a hs
    refine atR_end (by kernel_rfl) ?_
    refine wayN_node rfl ?_
    refine at_cond (t := 22) (j1 := 6) (j2 := 9) (b := decide (stp < 1000)) (by kernel_rfl) hs rfl (fun hb => ?_) (fun hb => ?_)
    · have cd2 := hb; have cd2b := hb; clear hb
      replace cd2 := of_decide_eq_true cd2
      refine at_seq (j := 8) (by kernel_rfl) ?_
      refine at_region (id := 2) (by kernel_rfl) ?_
      refine atR_op hs (by kernel_rfl) (call1 (f := 8) (args := #[]) [23] (fun rv_ => [(23, rv_)]) hs (by kernel_rfl) (fun _ => by kernel_rfl) ?_)
      refine (awake_any _ (HN.below hB)).mono ?_
      rintro e w5 ⟨rfl, hb⟩
      refine ⟨_, rfl, ?_⟩
      clear hs a; intro a hs
      replace B1 := B1.below hb B1.lt
      replace B2 := B2.below hb B2.lt
      replace B3 := B3.below hb B3.lt
      replace hB := later hB hb
      clear hb
      refine atR_seg (m := 1) (H := []) (ts := [6]) (L' := [(6, .bool true)]) (O := fun w => True) hs (by kernel_rfl) trivial ?_
      clear hs a; intro a hs
      refine atR_end (by kernel_rfl) ?_
      refine wayN_node rfl ?_
      refine at_ret (by kernel_rfl) ?_
      refine at_end (vs := [.bool true]) (H := []) (v := .bool true) (O := fun w => True) hs (by kernel_rfl) rfl trivial ?_
      exact ⟨rfl, hB⟩
    · have cd2 := hb; have cd2b := hb; clear hb
      replace cd2 := of_decide_eq_false cd2
      refine at_skip (by kernel_rfl) ?_
      refine wayN_node rfl ?_
      refine at_seq (j := 12) (by kernel_rfl) ?_
      refine at_region (id := 3) (by kernel_rfl) ?_
      refine atR_seg (m := 8) (H := [(0, none, [.int .i64 x, .int .i64 y]), (2, none, [.int .i64 n0]), (4, none, [.int .i64 n1]), (6, none, [.int .i64 n2]), (7, none, [.int .i64 num, .int .i64 kind, .int .i64 rad, .int .i64 flu, .int .i64 hol, .int .i64 stp, .int .i64 fd, .int .i64 plu])]) (ts := [3, 4, 5, 25, 27, 29, 31, 32]) (L' := [(3, .pointer (some ⟨b1, 0, none⟩)), (4, .pointer (some ⟨b2, 0, none⟩)), (5, .pointer (some ⟨b3, 0, none⟩)), (25, .agg #[.int .i64 x, .int .i64 y]), (27, .int .i64 n0), (29, .int .i64 n1), (31, .int .i64 n2), (32, .agg #[.int .i64 num, .int .i64 kind, .int .i64 rad, .int .i64 flu, .int .i64 hol, .int .i64 stp, .int .i64 fd, .int .i64 plu])]) (O := fun w => (w.cell? ⟨b1, 0, none⟩ = some (.int .i64 x)) ∧ (w.cell? ⟨b1, 1, none⟩ = some (.int .i64 y)) ∧ ((0 : Int) ≤ 0 ∧ 0 < ((3 : Nat) : Int)) ∧ (w.cell? ⟨b2, 0, none⟩ = some (.int .i64 n0)) ∧ ((0 : Int) ≤ 1 ∧ 1 < ((3 : Nat) : Int)) ∧ (w.cell? ⟨b2, 1, none⟩ = some (.int .i64 n1)) ∧ ((0 : Int) ≤ 2 ∧ 2 < ((3 : Nat) : Int)) ∧ (w.cell? ⟨b2, 2, none⟩ = some (.int .i64 n2)) ∧ (w.cell? ⟨b3, 0, none⟩ = some (.int .i64 num)) ∧ (w.cell? ⟨b3, 1, none⟩ = some (.int .i64 kind)) ∧ (w.cell? ⟨b3, 2, none⟩ = some (.int .i64 rad)) ∧ (w.cell? ⟨b3, 3, none⟩ = some (.int .i64 flu)) ∧ (w.cell? ⟨b3, 4, none⟩ = some (.int .i64 hol)) ∧ (w.cell? ⟨b3, 5, none⟩ = some (.int .i64 stp)) ∧ (w.cell? ⟨b3, 6, none⟩ = some (.int .i64 fd)) ∧ (w.cell? ⟨b3, 7, none⟩ = some (.int .i64 plu)) ∧ True) hs (by kernel_rfl) ⟨B1.cell 0 rfl, B1.cell 1 rfl, ⟨by omega, by omega⟩, B2.cell 0 rfl, ⟨by omega, by omega⟩, B2.cell 1 rfl, ⟨by omega, by omega⟩, B2.cell 2 rfl, B3.cell 0 rfl, B3.cell 1 rfl, B3.cell 2 rfl, B3.cell 3 rfl, B3.cell 4 rfl, B3.cell 5 rfl, B3.cell 6 rfl, B3.cell 7 rfl, trivial⟩ ?_
      clear hs a; intro a hs
      refine atR_op hs (by kernel_rfl) (call1 (f := 12) (args := #[.agg #[.int .i64 x, .int .i64 y], .int .i64 n0, .int .i64 n1, .int .i64 n2, .agg #[.int .i64 num, .int .i64 kind, .int .i64 rad, .int .i64 flu, .int .i64 hol, .int .i64 stp, .int .i64 fd, .int .i64 plu]]) [3, 4, 5, 33] (fun rv_ => [(3, .pointer (some ⟨b1, 0, none⟩)), (4, .pointer (some ⟨b2, 0, none⟩)), (5, .pointer (some ⟨b3, 0, none⟩)), (33, rv_)]) hs (by kernel_rfl) (fun _ => by kernel_rfl) ?_)
      refine (bore_any (⟨num, kind, rad, flu, hol, stp, fd, plu⟩ : Tl) x y n0 n1 n2 _ (HN.below hB) HK ⟨k0, k1⟩ ⟨k4, k5⟩).mono ?_
      rintro e w6 ⟨vp, rfl, hrvp, hb⟩
      rw [her]
      rw [hln] at hrvp
      obtain ⟨u1, huu1, R1⟩ := RdU.at_u hrvp
      obtain ⟨A1, c1, rfl, hnvp⟩ := R1.form
      clear hrvp huu1
      refine ⟨_, rfl, ?_⟩
      clear hs a; intro a hs
      replace B1 := B1.below hb B1.lt
      replace B2 := B2.below hb B2.lt
      replace B3 := B3.below hb B3.lt
      replace hB := later hB hb
      clear hb
      refine atR_seg (m := 5) (H := []) (ts := [3, 4, 5, 7, 8]) (L' := [(3, .pointer (some ⟨b1, 0, none⟩)), (4, .pointer (some ⟨b2, 0, none⟩)), (5, .pointer (some ⟨b3, 0, none⟩)), (7, .slice A1 n c1), (8, .int .i64 er)]) (O := fun w => True) hs (by kernel_rfl) trivial ?_
      clear hs a; intro a hs
      refine atR_end (by kernel_rfl) ?_
      refine wayN_node rfl ?_
      refine at_seq (j := 14) (by kernel_rfl) ?_
      refine at_region (id := 4) (by kernel_rfl) ?_
      refine atR_seg (m := 8) (H := [(0, none, [.int .i64 x, .int .i64 y]), (2, none, [.int .i64 n0]), (4, none, [.int .i64 n1]), (6, none, [.int .i64 n2]), (7, none, [.int .i64 num, .int .i64 kind, .int .i64 rad, .int .i64 flu, .int .i64 hol, .int .i64 stp, .int .i64 fd, .int .i64 plu])]) (ts := [7, 8, 37, 39, 41, 43, 44]) (L' := [(7, .slice A1 n c1), (8, .int .i64 er), (37, .agg #[.int .i64 x, .int .i64 y]), (39, .int .i64 n0), (41, .int .i64 n1), (43, .int .i64 n2), (44, .agg #[.int .i64 num, .int .i64 kind, .int .i64 rad, .int .i64 flu, .int .i64 hol, .int .i64 stp, .int .i64 fd, .int .i64 plu])]) (O := fun w => (w.cell? ⟨b1, 0, none⟩ = some (.int .i64 x)) ∧ (w.cell? ⟨b1, 1, none⟩ = some (.int .i64 y)) ∧ ((0 : Int) ≤ 0 ∧ 0 < ((3 : Nat) : Int)) ∧ (w.cell? ⟨b2, 0, none⟩ = some (.int .i64 n0)) ∧ ((0 : Int) ≤ 1 ∧ 1 < ((3 : Nat) : Int)) ∧ (w.cell? ⟨b2, 1, none⟩ = some (.int .i64 n1)) ∧ ((0 : Int) ≤ 2 ∧ 2 < ((3 : Nat) : Int)) ∧ (w.cell? ⟨b2, 2, none⟩ = some (.int .i64 n2)) ∧ (w.cell? ⟨b3, 0, none⟩ = some (.int .i64 num)) ∧ (w.cell? ⟨b3, 1, none⟩ = some (.int .i64 kind)) ∧ (w.cell? ⟨b3, 2, none⟩ = some (.int .i64 rad)) ∧ (w.cell? ⟨b3, 3, none⟩ = some (.int .i64 flu)) ∧ (w.cell? ⟨b3, 4, none⟩ = some (.int .i64 hol)) ∧ (w.cell? ⟨b3, 5, none⟩ = some (.int .i64 stp)) ∧ (w.cell? ⟨b3, 6, none⟩ = some (.int .i64 fd)) ∧ (w.cell? ⟨b3, 7, none⟩ = some (.int .i64 plu)) ∧ True) hs (by kernel_rfl) ⟨B1.cell 0 rfl, B1.cell 1 rfl, ⟨by omega, by omega⟩, B2.cell 0 rfl, ⟨by omega, by omega⟩, B2.cell 1 rfl, ⟨by omega, by omega⟩, B2.cell 2 rfl, B3.cell 0 rfl, B3.cell 1 rfl, B3.cell 2 rfl, B3.cell 3 rfl, B3.cell 4 rfl, B3.cell 5 rfl, B3.cell 6 rfl, B3.cell 7 rfl, trivial⟩ ?_
      clear hs a; intro a hs
      refine atR_op hs (by kernel_rfl) (call1 (f := 13) (args := #[.agg #[.int .i64 x, .int .i64 y], .int .i64 n0, .int .i64 n1, .int .i64 n2, .agg #[.int .i64 num, .int .i64 kind, .int .i64 rad, .int .i64 flu, .int .i64 hol, .int .i64 stp, .int .i64 fd, .int .i64 plu]]) [7, 8, 45] (fun rv_ => [(7, .slice A1 n c1), (8, .int .i64 er), (45, rv_)]) hs (by kernel_rfl) (fun _ => by kernel_rfl) ?_)
      refine (rbore_any (⟨num, kind, rad, flu, hol, stp, fd, plu⟩ : Tl) x y n0 n1 n2 _ ⟨k0, k1⟩ ⟨k4, k5⟩).mono ?_
      rintro e w7 ⟨vq, rfl, hrvq, hb⟩
      rw [her]
      rw [hln] at hrvq
      obtain ⟨u2, huu2, R2⟩ := RdU.at_u hrvq
      obtain ⟨A2, c2, rfl, hnvq⟩ := R2.form
      clear hrvq huu2
      refine ⟨_, rfl, ?_⟩
      clear hs a; intro a hs
      replace B1 := B1.below hb B1.lt
      replace B2 := B2.below hb B2.lt
      replace B3 := B3.below hb B3.lt
      replace R1 := R1.below hb
      replace hB := later hB hb
      clear hb
      refine atR_seg (m := 5) (H := []) (ts := [7, 8, 9, 10]) (L' := [(7, .slice A1 n c1), (8, .int .i64 er), (9, .slice A2 n c2), (10, .int .i64 er)]) (O := fun w => True) hs (by kernel_rfl) trivial ?_
      clear hs a; intro a hs
      refine atR_end (by kernel_rfl) ?_
      refine wayN_node rfl ?_
      refine at_seq (j := 16) (by kernel_rfl) ?_
      refine at_region (id := 5) (by kernel_rfl) ?_
      refine atR_seg (m := 4) (H := []) (ts := [7, 9, 51]) (L' := [(7, .slice A1 n c1), (9, .slice A2 n c2), (51, .bool (er == er))]) (O := fun w => True) hs (by kernel_rfl) trivial ?_
      clear hs a; intro a hs
      replace hs := hs.know (t := 51) rfl (show (er == er) = true from beq_self_eq_true _)
      replace hs := hs.pick (ts := [7, 9, 51]) (L' := [(7, .slice A1 n c1), (9, .slice A2 n c2), (51, .bool true)]) (by kernel_rfl)
      refine atR_seg (m := 2) (H := []) (ts := [51, 52, 53]) (L' := [(51, .bool true), (52, .slice A1 n c1), (53, .slice A2 n c2)]) (O := fun w => True) hs (by kernel_rfl) trivial ?_
      clear hs a; intro a hs
      refine atR_op hs (by kernel_rfl) (call1 (f := 14) (args := #[.slice A1 n c1, .slice A2 n c2]) [51, 54] (fun rv_ => [(51, .bool true), (54, rv_)]) hs (by kernel_rfl) (fun _ => by kernel_rfl) ?_)
      refine (same_same _ _ n (boreR (⟨num, kind, rad, flu, hol, stp, fd, plu⟩ : Tl) x y n0 n1 n2) _ hln R1.rd_ R2.rd_).mono ?_
      rintro e w8 ⟨rfl, hb⟩
      refine ⟨_, rfl, ?_⟩
      clear hs a; intro a hs
      replace B1 := B1.below hb B1.lt
      replace B2 := B2.below hb B2.lt
      replace B3 := B3.below hb B3.lt
      replace R1 := R1.below hb
      replace R2 := R2.below hb
      replace hB := later hB hb
      clear hb
      refine atR_seg (m := 2) (H := []) (ts := [6]) (L' := [(6, .bool true)]) (O := fun w => True) hs (by kernel_rfl) trivial ?_
      clear hs a; intro a hs
      refine atR_end (by kernel_rfl) ?_
      refine wayN_node rfl ?_
      refine at_ret (by kernel_rfl) ?_
      refine at_end (vs := [.bool true]) (H := []) (v := .bool true) (O := fun w => True) hs (by kernel_rfl) rfl trivial ?_
      exact ⟨rfl, hB⟩
  · replace hs := hs.know (t := 17) rfl hb
    have cd1 := hb; have cd1b := hb; clear hb
    replace cd1 := of_decide_eq_false cd1
    replace hs := hs.pick (ts := [3, 4, 5, 13, 17]) (L' := [(3, .pointer (some ⟨b1, 0, none⟩)), (4, .pointer (some ⟨b2, 0, none⟩)), (5, .pointer (some ⟨b3, 0, none⟩)), (13, .bool false), (17, .bool false)]) (by kernel_rfl)
    refine atR_seg (m := 5) (H := []) (ts := [3, 4, 5, 22]) (L' := [(3, .pointer (some ⟨b1, 0, none⟩)), (4, .pointer (some ⟨b2, 0, none⟩)), (5, .pointer (some ⟨b3, 0, none⟩)), (22, .bool false)]) (O := fun w => True) hs (by kernel_rfl) trivial ?_
    clear hs a; intro a hs
    refine atR_end (by kernel_rfl) ?_
    refine wayN_node rfl ?_
    refine at_cond (t := 22) (j1 := 6) (j2 := 9) (b := false) (by kernel_rfl) hs rfl (fun hb => absurd (hb.symm.trans (show (false) = false from rfl)) (by decide)) (fun _ => ?_)
    refine at_skip (by kernel_rfl) ?_
    refine wayN_node rfl ?_
    refine at_seq (j := 12) (by kernel_rfl) ?_
    refine at_region (id := 3) (by kernel_rfl) ?_
    refine atR_seg (m := 8) (H := [(0, none, [.int .i64 x, .int .i64 y]), (2, none, [.int .i64 n0]), (4, none, [.int .i64 n1]), (6, none, [.int .i64 n2]), (7, none, [.int .i64 num, .int .i64 kind, .int .i64 rad, .int .i64 flu, .int .i64 hol, .int .i64 stp, .int .i64 fd, .int .i64 plu])]) (ts := [3, 4, 5, 25, 27, 29, 31, 32]) (L' := [(3, .pointer (some ⟨b1, 0, none⟩)), (4, .pointer (some ⟨b2, 0, none⟩)), (5, .pointer (some ⟨b3, 0, none⟩)), (25, .agg #[.int .i64 x, .int .i64 y]), (27, .int .i64 n0), (29, .int .i64 n1), (31, .int .i64 n2), (32, .agg #[.int .i64 num, .int .i64 kind, .int .i64 rad, .int .i64 flu, .int .i64 hol, .int .i64 stp, .int .i64 fd, .int .i64 plu])]) (O := fun w => (w.cell? ⟨b1, 0, none⟩ = some (.int .i64 x)) ∧ (w.cell? ⟨b1, 1, none⟩ = some (.int .i64 y)) ∧ ((0 : Int) ≤ 0 ∧ 0 < ((3 : Nat) : Int)) ∧ (w.cell? ⟨b2, 0, none⟩ = some (.int .i64 n0)) ∧ ((0 : Int) ≤ 1 ∧ 1 < ((3 : Nat) : Int)) ∧ (w.cell? ⟨b2, 1, none⟩ = some (.int .i64 n1)) ∧ ((0 : Int) ≤ 2 ∧ 2 < ((3 : Nat) : Int)) ∧ (w.cell? ⟨b2, 2, none⟩ = some (.int .i64 n2)) ∧ (w.cell? ⟨b3, 0, none⟩ = some (.int .i64 num)) ∧ (w.cell? ⟨b3, 1, none⟩ = some (.int .i64 kind)) ∧ (w.cell? ⟨b3, 2, none⟩ = some (.int .i64 rad)) ∧ (w.cell? ⟨b3, 3, none⟩ = some (.int .i64 flu)) ∧ (w.cell? ⟨b3, 4, none⟩ = some (.int .i64 hol)) ∧ (w.cell? ⟨b3, 5, none⟩ = some (.int .i64 stp)) ∧ (w.cell? ⟨b3, 6, none⟩ = some (.int .i64 fd)) ∧ (w.cell? ⟨b3, 7, none⟩ = some (.int .i64 plu)) ∧ True) hs (by kernel_rfl) ⟨B1.cell 0 rfl, B1.cell 1 rfl, ⟨by omega, by omega⟩, B2.cell 0 rfl, ⟨by omega, by omega⟩, B2.cell 1 rfl, ⟨by omega, by omega⟩, B2.cell 2 rfl, B3.cell 0 rfl, B3.cell 1 rfl, B3.cell 2 rfl, B3.cell 3 rfl, B3.cell 4 rfl, B3.cell 5 rfl, B3.cell 6 rfl, B3.cell 7 rfl, trivial⟩ ?_
    clear hs a; intro a hs
    refine atR_op hs (by kernel_rfl) (call1 (f := 12) (args := #[.agg #[.int .i64 x, .int .i64 y], .int .i64 n0, .int .i64 n1, .int .i64 n2, .agg #[.int .i64 num, .int .i64 kind, .int .i64 rad, .int .i64 flu, .int .i64 hol, .int .i64 stp, .int .i64 fd, .int .i64 plu]]) [3, 4, 5, 33] (fun rv_ => [(3, .pointer (some ⟨b1, 0, none⟩)), (4, .pointer (some ⟨b2, 0, none⟩)), (5, .pointer (some ⟨b3, 0, none⟩)), (33, rv_)]) hs (by kernel_rfl) (fun _ => by kernel_rfl) ?_)
    refine (bore_any (⟨num, kind, rad, flu, hol, stp, fd, plu⟩ : Tl) x y n0 n1 n2 _ (HN.below hB) HK ⟨k0, k1⟩ ⟨k4, k5⟩).mono ?_
    rintro e w9 ⟨vp, rfl, hrvp, hb⟩
    rw [her]
    rw [hln] at hrvp
    obtain ⟨u1, huu1, R1⟩ := RdU.at_u hrvp
    obtain ⟨A1, c1, rfl, hnvp⟩ := R1.form
    clear hrvp huu1
    refine ⟨_, rfl, ?_⟩
    clear hs a; intro a hs
    replace B1 := B1.below hb B1.lt
    replace B2 := B2.below hb B2.lt
    replace B3 := B3.below hb B3.lt
    replace hB := later hB hb
    clear hb
    refine atR_seg (m := 5) (H := []) (ts := [3, 4, 5, 7, 8]) (L' := [(3, .pointer (some ⟨b1, 0, none⟩)), (4, .pointer (some ⟨b2, 0, none⟩)), (5, .pointer (some ⟨b3, 0, none⟩)), (7, .slice A1 n c1), (8, .int .i64 er)]) (O := fun w => True) hs (by kernel_rfl) trivial ?_
    clear hs a; intro a hs
    refine atR_end (by kernel_rfl) ?_
    refine wayN_node rfl ?_
    refine at_seq (j := 14) (by kernel_rfl) ?_
    refine at_region (id := 4) (by kernel_rfl) ?_
    refine atR_seg (m := 8) (H := [(0, none, [.int .i64 x, .int .i64 y]), (2, none, [.int .i64 n0]), (4, none, [.int .i64 n1]), (6, none, [.int .i64 n2]), (7, none, [.int .i64 num, .int .i64 kind, .int .i64 rad, .int .i64 flu, .int .i64 hol, .int .i64 stp, .int .i64 fd, .int .i64 plu])]) (ts := [7, 8, 37, 39, 41, 43, 44]) (L' := [(7, .slice A1 n c1), (8, .int .i64 er), (37, .agg #[.int .i64 x, .int .i64 y]), (39, .int .i64 n0), (41, .int .i64 n1), (43, .int .i64 n2), (44, .agg #[.int .i64 num, .int .i64 kind, .int .i64 rad, .int .i64 flu, .int .i64 hol, .int .i64 stp, .int .i64 fd, .int .i64 plu])]) (O := fun w => (w.cell? ⟨b1, 0, none⟩ = some (.int .i64 x)) ∧ (w.cell? ⟨b1, 1, none⟩ = some (.int .i64 y)) ∧ ((0 : Int) ≤ 0 ∧ 0 < ((3 : Nat) : Int)) ∧ (w.cell? ⟨b2, 0, none⟩ = some (.int .i64 n0)) ∧ ((0 : Int) ≤ 1 ∧ 1 < ((3 : Nat) : Int)) ∧ (w.cell? ⟨b2, 1, none⟩ = some (.int .i64 n1)) ∧ ((0 : Int) ≤ 2 ∧ 2 < ((3 : Nat) : Int)) ∧ (w.cell? ⟨b2, 2, none⟩ = some (.int .i64 n2)) ∧ (w.cell? ⟨b3, 0, none⟩ = some (.int .i64 num)) ∧ (w.cell? ⟨b3, 1, none⟩ = some (.int .i64 kind)) ∧ (w.cell? ⟨b3, 2, none⟩ = some (.int .i64 rad)) ∧ (w.cell? ⟨b3, 3, none⟩ = some (.int .i64 flu)) ∧ (w.cell? ⟨b3, 4, none⟩ = some (.int .i64 hol)) ∧ (w.cell? ⟨b3, 5, none⟩ = some (.int .i64 stp)) ∧ (w.cell? ⟨b3, 6, none⟩ = some (.int .i64 fd)) ∧ (w.cell? ⟨b3, 7, none⟩ = some (.int .i64 plu)) ∧ True) hs (by kernel_rfl) ⟨B1.cell 0 rfl, B1.cell 1 rfl, ⟨by omega, by omega⟩, B2.cell 0 rfl, ⟨by omega, by omega⟩, B2.cell 1 rfl, ⟨by omega, by omega⟩, B2.cell 2 rfl, B3.cell 0 rfl, B3.cell 1 rfl, B3.cell 2 rfl, B3.cell 3 rfl, B3.cell 4 rfl, B3.cell 5 rfl, B3.cell 6 rfl, B3.cell 7 rfl, trivial⟩ ?_
    clear hs a; intro a hs
    refine atR_op hs (by kernel_rfl) (call1 (f := 13) (args := #[.agg #[.int .i64 x, .int .i64 y], .int .i64 n0, .int .i64 n1, .int .i64 n2, .agg #[.int .i64 num, .int .i64 kind, .int .i64 rad, .int .i64 flu, .int .i64 hol, .int .i64 stp, .int .i64 fd, .int .i64 plu]]) [7, 8, 45] (fun rv_ => [(7, .slice A1 n c1), (8, .int .i64 er), (45, rv_)]) hs (by kernel_rfl) (fun _ => by kernel_rfl) ?_)
    refine (rbore_any (⟨num, kind, rad, flu, hol, stp, fd, plu⟩ : Tl) x y n0 n1 n2 _ ⟨k0, k1⟩ ⟨k4, k5⟩).mono ?_
    rintro e w10 ⟨vq, rfl, hrvq, hb⟩
    rw [her]
    rw [hln] at hrvq
    obtain ⟨u2, huu2, R2⟩ := RdU.at_u hrvq
    obtain ⟨A2, c2, rfl, hnvq⟩ := R2.form
    clear hrvq huu2
    refine ⟨_, rfl, ?_⟩
    clear hs a; intro a hs
    replace B1 := B1.below hb B1.lt
    replace B2 := B2.below hb B2.lt
    replace B3 := B3.below hb B3.lt
    replace R1 := R1.below hb
    replace hB := later hB hb
    clear hb
    refine atR_seg (m := 5) (H := []) (ts := [7, 8, 9, 10]) (L' := [(7, .slice A1 n c1), (8, .int .i64 er), (9, .slice A2 n c2), (10, .int .i64 er)]) (O := fun w => True) hs (by kernel_rfl) trivial ?_
    clear hs a; intro a hs
    refine atR_end (by kernel_rfl) ?_
    refine wayN_node rfl ?_
    refine at_seq (j := 16) (by kernel_rfl) ?_
    refine at_region (id := 5) (by kernel_rfl) ?_
    refine atR_seg (m := 4) (H := []) (ts := [7, 9, 51]) (L' := [(7, .slice A1 n c1), (9, .slice A2 n c2), (51, .bool (er == er))]) (O := fun w => True) hs (by kernel_rfl) trivial ?_
    clear hs a; intro a hs
    replace hs := hs.know (t := 51) rfl (show (er == er) = true from beq_self_eq_true _)
    replace hs := hs.pick (ts := [7, 9, 51]) (L' := [(7, .slice A1 n c1), (9, .slice A2 n c2), (51, .bool true)]) (by kernel_rfl)
    refine atR_seg (m := 2) (H := []) (ts := [51, 52, 53]) (L' := [(51, .bool true), (52, .slice A1 n c1), (53, .slice A2 n c2)]) (O := fun w => True) hs (by kernel_rfl) trivial ?_
    clear hs a; intro a hs
    refine atR_op hs (by kernel_rfl) (call1 (f := 14) (args := #[.slice A1 n c1, .slice A2 n c2]) [51, 54] (fun rv_ => [(51, .bool true), (54, rv_)]) hs (by kernel_rfl) (fun _ => by kernel_rfl) ?_)
    refine (same_same _ _ n (boreR (⟨num, kind, rad, flu, hol, stp, fd, plu⟩ : Tl) x y n0 n1 n2) _ hln R1.rd_ R2.rd_).mono ?_
    rintro e w11 ⟨rfl, hb⟩
    refine ⟨_, rfl, ?_⟩
    clear hs a; intro a hs
    replace B1 := B1.below hb B1.lt
    replace B2 := B2.below hb B2.lt
    replace B3 := B3.below hb B3.lt
    replace R1 := R1.below hb
    replace R2 := R2.below hb
    replace hB := later hB hb
    clear hb
    refine atR_seg (m := 2) (H := []) (ts := [6]) (L' := [(6, .bool true)]) (O := fun w => True) hs (by kernel_rfl) trivial ?_
    clear hs a; intro a hs
    refine atR_end (by kernel_rfl) ?_
    refine wayN_node rfl ?_
    refine at_ret (by kernel_rfl) ?_
    refine at_end (vs := [.bool true]) (H := []) (v := .bool true) (O := fun w => True) hs (by kernel_rfl) rfl trivial ?_
    exact ⟨rfl, hB⟩
end Go.Proofs.YtpiabmjipgfjjaaDoor
