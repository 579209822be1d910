/- The reference's Bore. -/
import Derived.Test.YtpiabmjipgfjjaaDoorBoreErr
namespace Go.Proofs.YtpiabmjipgfjjaaDoor
open Go.RowKit
noncomputable def body13 : Code := Tryd.f13.body.getD .skip
set_option maxHeartbeats 4000000 in
theorem rbore_ok (x y radius top depth num kind rad flu hol stp fd plu : Int) (n : Nat) (w : World) (hgood : (⟨num, kind, rad, flu, hol, stp, fd, plu⟩ : Tl).good = true) (hk : (kind != 1) = false) (h1 : 0 ≤ top) (h2 : 1 ≤ radius) (h3 : 1 ≤ depth) (h4 : depth ≤ flu)
    (g1 : 1 ≤ rad) (g2 : rad ≤ 10000000) (g3 : 1 ≤ stp) (g4 : stp ≤ 10000000) (g5 : flu ≤ 10000000) (hm1 : rad < radius) (hm2 : radius - rad ≤ rad) (HM : (⟨num, kind, rad, flu, hol, stp, fd, plu⟩ : Tl).mills radius = true) (hx : insB x = true) (hy : insB y = true) (htp : insB top = true) (hdp : insB depth = true)
    (g6 : -10000000 ≤ x) (g7 : x ≤ 10000000) (g8 : -10000000 ≤ y) (g9 : y ≤ 10000000)
    (hx1 : insB (x + (radius - rad)) = true) (hx2 : insB (x - (radius - rad)) = true) (hy1 : insB (y + (radius - rad)) = true) (hy2 : insB (y - (radius - rad)) = true) (hnn : (depth + stp - 1) / stp = n) (hn1 : 1 ≤ (n : Int)) (hn4 : 4 * (n : Int) + 4 ≤ 20000) :
    Calls Tryd.prog 13 #[.agg #[.int .i64 x, .int .i64 y], .int .i64 radius, .int .i64 top, .int .i64 depth, (⟨num, kind, rad, flu, hol, stp, fd, plu⟩ : Tl).v] w fun e w' => ∃ v, e = .returned (.tuple #[v, .int .i64 0]) ∧ Rd w' 7 v (4 * n + 4) (boreC x y (radius - rad) depth n top fd plu) ∧ Below w.heap.size w w' := by
  have hB : Below w.heap.size w w := Below.refl _ _
  refine enter (B := body13) (args := [.agg #[.int .i64 x, .int .i64 y], .int .i64 radius, .int .i64 top, .int .i64 depth, .agg #[.int .i64 num, .int .i64 kind, .int .i64 rad, .int .i64 flu, .int .i64 hol, .int .i64 stp, .int .i64 fd, .int .i64 plu]]) Tryd.func13 (by kernel_rfl) (by kernel_rfl) ?_
  rw [show Tryd.f13.ntmps = 212 from by kernel_rfl]
  intro a hs
  replace hs := hs.pick (ts := [0, 1, 2, 3, 4]) (L' := [(0, .agg #[.int .i64 x, .int .i64 y]), (1, .int .i64 radius), (2, .int .i64 top), (3, .int .i64 depth), (4, .agg #[.int .i64 num, .int .i64 kind, .int .i64 rad, .int .i64 flu, .int .i64 hol, .int .i64 stp, .int .i64 fd, .int .i64 plu])]) (by kernel_rfl)
  refine at_seq (j := 2) (by kernel_rfl) ?_
  refine at_region (id := 0) (by kernel_rfl) ?_
  refine atR_op hs (by kernel_rfl) (new1 (t := 30) (cs := #[.int .i64 x, .int .i64 y]) (fun rb_ => .pointer (some ⟨rb_, 0, none⟩)) [1, 2, 3, 4, 5] (fun rb_ => [(1, .int .i64 radius), (2, .int .i64 top), (3, .int .i64 depth), (4, .agg #[.int .i64 num, .int .i64 kind, .int .i64 rad, .int .i64 flu, .int .i64 hol, .int .i64 stp, .int .i64 fd, .int .i64 plu]), (5, .pointer (some ⟨rb_, 0, none⟩))]) hs (fun _ => by kernel_rfl) (fun _ => by kernel_rfl) ?_)
  clear hs a; intro a w1 b1 hn hs
  have B1 := hn.blk
  have l1 : w.heap.size ≤ b1 := by rw [hn.at_]; exact hB.size
  replace hB := later hB hn.below
  clear hn
  refine atR_op hs (by kernel_rfl) (new1 (t := 33) (cs := #[.int .i64 num, .int .i64 kind, .int .i64 rad, .int .i64 flu, .int .i64 hol, .int .i64 stp, .int .i64 fd, .int .i64 plu]) (fun rb_ => .pointer (some ⟨rb_, 0, none⟩)) [1, 2, 3, 5, 9] (fun rb_ => [(1, .int .i64 radius), (2, .int .i64 top), (3, .int .i64 depth), (5, .pointer (some ⟨b1, 0, none⟩)), (9, .pointer (some ⟨rb_, 0, none⟩))]) hs (fun _ => by kernel_rfl) (fun _ => by kernel_rfl) ?_)
  clear hs a; intro a w2 b2 hn hs
  have B2 := hn.blk
  have l2 : w.heap.size ≤ b2 := by rw [hn.at_]; exact hB.size
  have l2' : b1 < b2 := by rw [hn.at_]; exact B1.lt
  replace B1 := B1.below hn.below B1.lt
  replace hB := later hB hn.below
  clear hn
  refine atR_seg (m := 2) (H := []) (ts := [1, 2, 3, 5, 9]) (L' := [(1, .int .i64 radius), (2, .int .i64 top), (3, .int .i64 depth), (5, .pointer (some ⟨b1, 0, none⟩)), (9, .pointer (some ⟨b2, 0, none⟩))]) (O := fun w => True) hs (by kernel_rfl) trivial ?_
  clear hs a; intro a hs
  refine atR_end (by kernel_rfl) ?_
  refine wayN_node rfl ?_
  refine at_seq (j := 10) (by kernel_rfl) ?_
  refine at_seq (j := 5) (by kernel_rfl) ?_
  refine at_region (id := 1) (by kernel_rfl) ?_
  refine atR_seg (m := 1) (H := [(0, none, [.int .i64 num, .int .i64 kind, .int .i64 rad, .int .i64 flu, .int .i64 hol, .int .i64 stp, .int .i64 fd, .int .i64 plu])]) (ts := [1, 2, 3, 5, 9, 18]) (L' := [(1, .int .i64 radius), (2, .int .i64 top), (3, .int .i64 depth), (5, .pointer (some ⟨b1, 0, none⟩)), (9, .pointer (some ⟨b2, 0, none⟩)), (18, .agg #[.int .i64 num, .int .i64 kind, .int .i64 rad, .int .i64 flu, .int .i64 hol, .int .i64 stp, .int .i64 fd, .int .i64 plu])]) (O := fun w => (w.cell? ⟨b2, 0, none⟩ = some (.int .i64 num)) ∧ (w.cell? ⟨b2, 1, none⟩ = some (.int .i64 kind)) ∧ (w.cell? ⟨b2, 2, none⟩ = some (.int .i64 rad)) ∧ (w.cell? ⟨b2, 3, none⟩ = some (.int .i64 flu)) ∧ (w.cell? ⟨b2, 4, none⟩ = some (.int .i64 hol)) ∧ (w.cell? ⟨b2, 5, none⟩ = some (.int .i64 stp)) ∧ (w.cell? ⟨b2, 6, none⟩ = some (.int .i64 fd)) ∧ (w.cell? ⟨b2, 7, none⟩ = some (.int .i64 plu)) ∧ True) hs (by kernel_rfl) ⟨B2.cell 0 rfl, B2.cell 1 rfl, B2.cell 2 rfl, B2.cell 3 rfl, B2.cell 4 rfl, B2.cell 5 rfl, B2.cell 6 rfl, B2.cell 7 rfl, trivial⟩ ?_
  clear hs a; intro a hs
  refine atR_op hs (by kernel_rfl) (call1 (f := 18) (args := #[.agg #[.int .i64 num, .int .i64 kind, .int .i64 rad, .int .i64 flu, .int .i64 hol, .int .i64 stp, .int .i64 fd, .int .i64 plu]]) [1, 2, 3, 5, 9, 19] (fun rv_ => [(1, .int .i64 radius), (2, .int .i64 top), (3, .int .i64 depth), (5, .pointer (some ⟨b1, 0, none⟩)), (9, .pointer (some ⟨b2, 0, none⟩)), (19, rv_)]) hs (by kernel_rfl) (fun _ => by kernel_rfl) ?_)
  refine (good_any (⟨num, kind, rad, flu, hol, stp, fd, plu⟩ : Tl) _).mono ?_
  rintro e w3 ⟨rfl, hb⟩
  rw [hgood]
  refine ⟨_, rfl, ?_⟩
  clear hs a; intro a hs
  replace B1 := B1.below hb B1.lt
  replace B2 := B2.below hb B2.lt
  replace hB := later hB hb
  clear hb
  refine atR_seg (m := 7) (H := [(5, none, [.int .i64 kind])]) (ts := [1, 2, 3, 5, 9, 26]) (L' := [(1, .int .i64 radius), (2, .int .i64 top), (3, .int .i64 depth), (5, .pointer (some ⟨b1, 0, none⟩)), (9, .pointer (some ⟨b2, 0, none⟩)), (26, .bool (kind != 1))]) (O := fun w => (w.cell? ⟨b2, 1, none⟩ = some (.int .i64 kind)) ∧ True) hs (by kernel_rfl) ⟨B2.cell 1 rfl, trivial⟩ ?_
  clear hs a; intro a hs
  replace hs := hs.know (t := 26) rfl (show (kind != 1) = false from hk)
  replace hs := hs.pick (ts := [1, 2, 3, 5, 9, 26]) (L' := [(1, .int .i64 radius), (2, .int .i64 top), (3, .int .i64 depth), (5, .pointer (some ⟨b1, 0, none⟩)), (9, .pointer (some ⟨b2, 0, none⟩)), (26, .bool false)]) (by kernel_rfl)
  refine atR_seg (m := 4) (H := []) (ts := [1, 2, 3, 5, 9, 30]) (L' := [(1, .int .i64 radius), (2, .int .i64 top), (3, .int .i64 depth), (5, .pointer (some ⟨b1, 0, none⟩)), (9, .pointer (some ⟨b2, 0, none⟩)), (30, .bool (decide (top < 0)))]) (O := fun w => True) hs (by kernel_rfl) trivial ?_
  clear hs a; intro a hs
  replace hs := hs.know (t := 30) rfl (show (decide (top < 0)) = false from decide_eq_false (by omega))
  replace hs := hs.pick (ts := [1, 2, 3, 5, 9, 30]) (L' := [(1, .int .i64 radius), (2, .int .i64 top), (3, .int .i64 depth), (5, .pointer (some ⟨b1, 0, none⟩)), (9, .pointer (some ⟨b2, 0, none⟩)), (30, .bool false)]) (by kernel_rfl)
  refine atR_seg (m := 4) (H := []) (ts := [1, 2, 3, 5, 9, 34]) (L' := [(1, .int .i64 radius), (2, .int .i64 top), (3, .int .i64 depth), (5, .pointer (some ⟨b1, 0, none⟩)), (9, .pointer (some ⟨b2, 0, none⟩)), (34, .bool (decide (radius ≤ 0)))]) (O := fun w => True) hs (by kernel_rfl) trivial ?_
  clear hs a; intro a hs
  replace hs := hs.know (t := 34) rfl (show (decide (radius ≤ 0)) = false from decide_eq_false (by omega))
  replace hs := hs.pick (ts := [1, 2, 3, 5, 9, 34]) (L' := [(1, .int .i64 radius), (2, .int .i64 top), (3, .int .i64 depth), (5, .pointer (some ⟨b1, 0, none⟩)), (9, .pointer (some ⟨b2, 0, none⟩)), (34, .bool false)]) (by kernel_rfl)
  refine atR_seg (m := 3) (H := []) (ts := [1, 2, 3, 5, 9, 37]) (L' := [(1, .int .i64 radius), (2, .int .i64 top), (3, .int .i64 depth), (5, .pointer (some ⟨b1, 0, none⟩)), (9, .pointer (some ⟨b2, 0, none⟩)), (37, .bool (decide (depth ≤ 0)))]) (O := fun w => True) hs (by kernel_rfl) trivial ?_
  clear hs a; intro a hs
  refine atR_end (by kernel_rfl) ?_
  refine wayN_node rfl ?_
  refine at_cond (t := 37) (j1 := 6) (j2 := 9) (b := decide (depth ≤ 0)) (by kernel_rfl) hs rfl (fun hb => absurd (hb.symm.trans (show (decide (depth ≤ 0)) = false from decide_eq_false (by omega))) (by decide)) (fun _ => ?_)
  refine at_skip (by kernel_rfl) ?_
  refine wayN_node rfl ?_
  refine at_seq (j := 18) (by kernel_rfl) ?_
  refine at_seq (j := 13) (by kernel_rfl) ?_
  refine at_region (id := 3) (by kernel_rfl) ?_
  refine atR_seg (m := 5) (H := [(1, none, [.int .i64 flu])]) (ts := [1, 2, 3, 5, 9, 42]) (L' := [(1, .int .i64 radius), (2, .int .i64 top), (3, .int .i64 depth), (5, .pointer (some ⟨b1, 0, none⟩)), (9, .pointer (some ⟨b2, 0, none⟩)), (42, .bool (decide (flu < depth)))]) (O := fun w => (w.cell? ⟨b2, 3, none⟩ = some (.int .i64 flu)) ∧ True) hs (by kernel_rfl) ⟨B2.cell 3 rfl, trivial⟩ ?_
  clear hs a; intro a hs
  replace hs := hs.know (t := 42) rfl (show (decide (flu < depth)) = false from decide_eq_false (by omega))
  replace hs := hs.pick (ts := [1, 2, 3, 5, 9, 42]) (L' := [(1, .int .i64 radius), (2, .int .i64 top), (3, .int .i64 depth), (5, .pointer (some ⟨b1, 0, none⟩)), (9, .pointer (some ⟨b2, 0, none⟩)), (42, .bool false)]) (by kernel_rfl)
  refine atR_seg (m := 2) (H := [(5, none, [.int .i64 num, .int .i64 kind, .int .i64 rad, .int .i64 flu, .int .i64 hol, .int .i64 stp, .int .i64 fd, .int .i64 plu])]) (ts := [1, 2, 3, 5, 9, 42, 43, 44]) (L' := [(1, .int .i64 radius), (2, .int .i64 top), (3, .int .i64 depth), (5, .pointer (some ⟨b1, 0, none⟩)), (9, .pointer (some ⟨b2, 0, none⟩)), (42, .bool false), (43, .agg #[.int .i64 num, .int .i64 kind, .int .i64 rad, .int .i64 flu, .int .i64 hol, .int .i64 stp, .int .i64 fd, .int .i64 plu]), (44, .int .i64 radius)]) (O := fun w => (w.cell? ⟨b2, 0, none⟩ = some (.int .i64 num)) ∧ (w.cell? ⟨b2, 1, none⟩ = some (.int .i64 kind)) ∧ (w.cell? ⟨b2, 2, none⟩ = some (.int .i64 rad)) ∧ (w.cell? ⟨b2, 3, none⟩ = some (.int .i64 flu)) ∧ (w.cell? ⟨b2, 4, none⟩ = some (.int .i64 hol)) ∧ (w.cell? ⟨b2, 5, none⟩ = some (.int .i64 stp)) ∧ (w.cell? ⟨b2, 6, none⟩ = some (.int .i64 fd)) ∧ (w.cell? ⟨b2, 7, none⟩ = some (.int .i64 plu)) ∧ True) hs (by kernel_rfl) ⟨B2.cell 0 rfl, B2.cell 1 rfl, B2.cell 2 rfl, B2.cell 3 rfl, B2.cell 4 rfl, B2.cell 5 rfl, B2.cell 6 rfl, B2.cell 7 rfl, trivial⟩ ?_
  clear hs a; intro a hs
  refine atR_op hs (by kernel_rfl) (call1 (f := 29) (args := #[.agg #[.int .i64 num, .int .i64 kind, .int .i64 rad, .int .i64 flu, .int .i64 hol, .int .i64 stp, .int .i64 fd, .int .i64 plu], .int .i64 radius]) [1, 2, 3, 5, 9, 42, 45] (fun rv_ => [(1, .int .i64 radius), (2, .int .i64 top), (3, .int .i64 depth), (5, .pointer (some ⟨b1, 0, none⟩)), (9, .pointer (some ⟨b2, 0, none⟩)), (42, .bool false), (45, rv_)]) hs (by kernel_rfl) (fun _ => by kernel_rfl) ?_)
  refine (rmills_any (⟨num, kind, rad, flu, hol, stp, fd, plu⟩ : Tl) _ _ (by dsimp only; omega) (by omega)).mono ?_
  rintro e w4 ⟨rfl, hb⟩
  rw [HM]
  refine ⟨_, rfl, ?_⟩
  clear hs a; intro a hs
  replace B1 := B1.below hb B1.lt
  replace B2 := B2.below hb B2.lt
  replace hB := later hB hb
  clear hb
  refine atR_seg (m := 2) (H := []) (ts := [1, 2, 3, 5, 9, 47]) (L' := [(1, .int .i64 radius), (2, .int .i64 top), (3, .int .i64 depth), (5, .pointer (some ⟨b1, 0, none⟩)), (9, .pointer (some ⟨b2, 0, none⟩)), (47, .bool false)]) (O := fun w => True) hs (by kernel_rfl) trivial ?_
  clear hs a; intro a hs
  refine atR_end (by kernel_rfl) ?_
  refine wayN_node rfl ?_
  refine at_cond (t := 47) (j1 := 14) (j2 := 17) (b := false) (by kernel_rfl) hs rfl (fun hb => absurd (hb.symm.trans (show (false) = false from rfl)) (by decide)) (fun _ => ?_)
  refine at_skip (by kernel_rfl) ?_
  refine wayN_node rfl ?_
  refine at_seq (j := 20) (by kernel_rfl) ?_
  refine at_region (id := 5) (by kernel_rfl) ?_
  refine atR_seg (m := 5) (H := [(2, none, [.int .i64 rad]), (3, some (.int .i64 (radius - rad)), [])]) (ts := [2, 3, 5, 9, 12]) (L' := [(2, .int .i64 top), (3, .int .i64 depth), (5, .pointer (some ⟨b1, 0, none⟩)), (9, .pointer (some ⟨b2, 0, none⟩)), (12, .int .i64 (radius - rad))]) (O := fun w => (w.cell? ⟨b2, 2, none⟩ = some (.int .i64 rad)) ∧ (W .i64 (radius - rad)) ∧ True) hs (by kernel_rfl) ⟨B2.cell 2 rfl, w64 (by omega) (by omega), trivial⟩ ?_
  clear hs a; intro a hs
  refine atR_end (by kernel_rfl) ?_
  refine wayN_node rfl ?_
  refine at_seq (j := 28) (by kernel_rfl) ?_
  refine at_seq (j := 23) (by kernel_rfl) ?_
  refine at_region (id := 6) (by kernel_rfl) ?_
  refine atR_seg (m := 2) (H := [(1, none, [.int .i64 x])]) (ts := [2, 3, 5, 9, 12, 53]) (L' := [(2, .int .i64 top), (3, .int .i64 depth), (5, .pointer (some ⟨b1, 0, none⟩)), (9, .pointer (some ⟨b2, 0, none⟩)), (12, .int .i64 (radius - rad)), (53, .int .i64 x)]) (O := fun w => (w.cell? ⟨b1, 0, none⟩ = some (.int .i64 x)) ∧ True) hs (by kernel_rfl) ⟨B1.cell 0 rfl, trivial⟩ ?_
  clear hs a; intro a hs
  refine atR_op hs (by kernel_rfl) (call1 (f := 30) (args := #[.int .i64 x]) [2, 3, 5, 9, 12, 54] (fun rv_ => [(2, .int .i64 top), (3, .int .i64 depth), (5, .pointer (some ⟨b1, 0, none⟩)), (9, .pointer (some ⟨b2, 0, none⟩)), (12, .int .i64 (radius - rad)), (54, rv_)]) hs (by kernel_rfl) (fun _ => by kernel_rfl) ?_)
  refine (far_any _ _).mono ?_
  rintro e w' ⟨rfl, rfl⟩
  refine ⟨_, rfl, ?_⟩
  clear hs a; intro a hs
  refine atR_seg (m := 1) (H := []) (ts := [2, 3, 5, 9, 12, 55]) (L' := [(2, .int .i64 top), (3, .int .i64 depth), (5, .pointer (some ⟨b1, 0, none⟩)), (9, .pointer (some ⟨b2, 0, none⟩)), (12, .int .i64 (radius - rad)), (55, .bool (!(insB x)))]) (O := fun w => True) hs (by kernel_rfl) trivial ?_
  clear hs a; intro a hs
  replace hs := hs.know (t := 55) rfl (show (!(insB x)) = false from congrArg not hx)
  replace hs := hs.pick (ts := [2, 3, 5, 9, 12, 55]) (L' := [(2, .int .i64 top), (3, .int .i64 depth), (5, .pointer (some ⟨b1, 0, none⟩)), (9, .pointer (some ⟨b2, 0, none⟩)), (12, .int .i64 (radius - rad)), (55, .bool false)]) (by kernel_rfl)
  refine atR_seg (m := 2) (H := [(5, none, [.int .i64 y])]) (ts := [2, 3, 5, 9, 12, 55, 57]) (L' := [(2, .int .i64 top), (3, .int .i64 depth), (5, .pointer (some ⟨b1, 0, none⟩)), (9, .pointer (some ⟨b2, 0, none⟩)), (12, .int .i64 (radius - rad)), (55, .bool false), (57, .int .i64 y)]) (O := fun w => (w.cell? ⟨b1, 1, none⟩ = some (.int .i64 y)) ∧ True) hs (by kernel_rfl) ⟨B1.cell 1 rfl, trivial⟩ ?_
  clear hs a; intro a hs
  refine atR_op hs (by kernel_rfl) (call1 (f := 30) (args := #[.int .i64 y]) [2, 3, 5, 9, 12, 55, 58] (fun rv_ => [(2, .int .i64 top), (3, .int .i64 depth), (5, .pointer (some ⟨b1, 0, none⟩)), (9, .pointer (some ⟨b2, 0, none⟩)), (12, .int .i64 (radius - rad)), (55, .bool false), (58, rv_)]) hs (by kernel_rfl) (fun _ => by kernel_rfl) ?_)
  refine (far_any _ _).mono ?_
  rintro e w' ⟨rfl, rfl⟩
  refine ⟨_, rfl, ?_⟩
  clear hs a; intro a hs
  refine atR_seg (m := 2) (H := []) (ts := [2, 3, 5, 9, 12, 60]) (L' := [(2, .int .i64 top), (3, .int .i64 depth), (5, .pointer (some ⟨b1, 0, none⟩)), (9, .pointer (some ⟨b2, 0, none⟩)), (12, .int .i64 (radius - rad)), (60, .bool (!(insB y)))]) (O := fun w => True) hs (by kernel_rfl) trivial ?_
  clear hs a; intro a hs
  replace hs := hs.know (t := 60) rfl (show (!(insB y)) = false from congrArg not hy)
  replace hs := hs.pick (ts := [2, 3, 5, 9, 12, 60]) (L' := [(2, .int .i64 top), (3, .int .i64 depth), (5, .pointer (some ⟨b1, 0, none⟩)), (9, .pointer (some ⟨b2, 0, none⟩)), (12, .int .i64 (radius - rad)), (60, .bool false)]) (by kernel_rfl)
  refine atR_seg (m := 1) (H := []) (ts := [2, 3, 5, 9, 12, 60, 61]) (L' := [(2, .int .i64 top), (3, .int .i64 depth), (5, .pointer (some ⟨b1, 0, none⟩)), (9, .pointer (some ⟨b2, 0, none⟩)), (12, .int .i64 (radius - rad)), (60, .bool false), (61, .int .i64 top)]) (O := fun w => True) hs (by kernel_rfl) trivial ?_
  clear hs a; intro a hs
  refine atR_op hs (by kernel_rfl) (call1 (f := 30) (args := #[.int .i64 top]) [2, 3, 5, 9, 12, 60, 62] (fun rv_ => [(2, .int .i64 top), (3, .int .i64 depth), (5, .pointer (some ⟨b1, 0, none⟩)), (9, .pointer (some ⟨b2, 0, none⟩)), (12, .int .i64 (radius - rad)), (60, .bool false), (62, rv_)]) hs (by kernel_rfl) (fun _ => by kernel_rfl) ?_)
  refine (far_any _ _).mono ?_
  rintro e w' ⟨rfl, rfl⟩
  refine ⟨_, rfl, ?_⟩
  clear hs a; intro a hs
  refine atR_seg (m := 2) (H := []) (ts := [2, 3, 5, 9, 12, 64]) (L' := [(2, .int .i64 top), (3, .int .i64 depth), (5, .pointer (some ⟨b1, 0, none⟩)), (9, .pointer (some ⟨b2, 0, none⟩)), (12, .int .i64 (radius - rad)), (64, .bool (!(insB top)))]) (O := fun w => True) hs (by kernel_rfl) trivial ?_
  clear hs a; intro a hs
  replace hs := hs.know (t := 64) rfl (show (!(insB top)) = false from congrArg not htp)
  replace hs := hs.pick (ts := [2, 3, 5, 9, 12, 64]) (L' := [(2, .int .i64 top), (3, .int .i64 depth), (5, .pointer (some ⟨b1, 0, none⟩)), (9, .pointer (some ⟨b2, 0, none⟩)), (12, .int .i64 (radius - rad)), (64, .bool false)]) (by kernel_rfl)
  refine atR_seg (m := 1) (H := []) (ts := [2, 3, 5, 9, 12, 64, 65]) (L' := [(2, .int .i64 top), (3, .int .i64 depth), (5, .pointer (some ⟨b1, 0, none⟩)), (9, .pointer (some ⟨b2, 0, none⟩)), (12, .int .i64 (radius - rad)), (64, .bool false), (65, .int .i64 depth)]) (O := fun w => True) hs (by kernel_rfl) trivial ?_
  clear hs a; intro a hs
  refine atR_op hs (by kernel_rfl) (call1 (f := 30) (args := #[.int .i64 depth]) [2, 3, 5, 9, 12, 64, 66] (fun rv_ => [(2, .int .i64 top), (3, .int .i64 depth), (5, .pointer (some ⟨b1, 0, none⟩)), (9, .pointer (some ⟨b2, 0, none⟩)), (12, .int .i64 (radius - rad)), (64, .bool false), (66, rv_)]) hs (by kernel_rfl) (fun _ => by kernel_rfl) ?_)
  refine (far_any _ _).mono ?_
  rintro e w' ⟨rfl, rfl⟩
  refine ⟨_, rfl, ?_⟩
  clear hs a; intro a hs
  refine atR_seg (m := 2) (H := []) (ts := [2, 3, 5, 9, 12, 68]) (L' := [(2, .int .i64 top), (3, .int .i64 depth), (5, .pointer (some ⟨b1, 0, none⟩)), (9, .pointer (some ⟨b2, 0, none⟩)), (12, .int .i64 (radius - rad)), (68, .bool (!(insB depth)))]) (O := fun w => True) hs (by kernel_rfl) trivial ?_
  clear hs a; intro a hs
  replace hs := hs.know (t := 68) rfl (show (!(insB depth)) = false from congrArg not hdp)
  replace hs := hs.pick (ts := [2, 3, 5, 9, 12, 68]) (L' := [(2, .int .i64 top), (3, .int .i64 depth), (5, .pointer (some ⟨b1, 0, none⟩)), (9, .pointer (some ⟨b2, 0, none⟩)), (12, .int .i64 (radius - rad)), (68, .bool false)]) (by kernel_rfl)
  refine atR_seg (m := 4) (H := [(18, none, [.int .i64 x]), (20, some (.int .i64 (x + (radius - rad))), [])]) (ts := [2, 3, 5, 9, 12, 68, 72]) (L' := [(2, .int .i64 top), (3, .int .i64 depth), (5, .pointer (some ⟨b1, 0, none⟩)), (9, .pointer (some ⟨b2, 0, none⟩)), (12, .int .i64 (radius - rad)), (68, .bool false), (72, .int .i64 (x + (radius - rad)))]) (O := fun w => (w.cell? ⟨b1, 0, none⟩ = some (.int .i64 x)) ∧ (W .i64 (x + (radius - rad))) ∧ True) hs (by kernel_rfl) ⟨B1.cell 0 rfl, w64 (by omega) (by omega), trivial⟩ ?_
  clear hs a; intro a hs
  refine atR_op hs (by kernel_rfl) (call1 (f := 30) (args := #[.int .i64 (x + (radius - rad))]) [2, 3, 5, 9, 12, 68, 73] (fun rv_ => [(2, .int .i64 top), (3, .int .i64 depth), (5, .pointer (some ⟨b1, 0, none⟩)), (9, .pointer (some ⟨b2, 0, none⟩)), (12, .int .i64 (radius - rad)), (68, .bool false), (73, rv_)]) hs (by kernel_rfl) (fun _ => by kernel_rfl) ?_)
  refine (far_any _ _).mono ?_
  rintro e w' ⟨rfl, rfl⟩
  refine ⟨_, rfl, ?_⟩
  clear hs a; intro a hs
  refine atR_seg (m := 2) (H := []) (ts := [2, 3, 5, 9, 12, 75]) (L' := [(2, .int .i64 top), (3, .int .i64 depth), (5, .pointer (some ⟨b1, 0, none⟩)), (9, .pointer (some ⟨b2, 0, none⟩)), (12, .int .i64 (radius - rad)), (75, .bool (!(insB (x + (radius - rad)))))]) (O := fun w => True) hs (by kernel_rfl) trivial ?_
  clear hs a; intro a hs
  replace hs := hs.know (t := 75) rfl (show (!(insB (x + (radius - rad)))) = false from congrArg not hx1)
  replace hs := hs.pick (ts := [2, 3, 5, 9, 12, 75]) (L' := [(2, .int .i64 top), (3, .int .i64 depth), (5, .pointer (some ⟨b1, 0, none⟩)), (9, .pointer (some ⟨b2, 0, none⟩)), (12, .int .i64 (radius - rad)), (75, .bool false)]) (by kernel_rfl)
  refine atR_seg (m := 4) (H := [(25, none, [.int .i64 x]), (27, some (.int .i64 (x - (radius - rad))), [])]) (ts := [2, 3, 5, 9, 12, 75, 79]) (L' := [(2, .int .i64 top), (3, .int .i64 depth), (5, .pointer (some ⟨b1, 0, none⟩)), (9, .pointer (some ⟨b2, 0, none⟩)), (12, .int .i64 (radius - rad)), (75, .bool false), (79, .int .i64 (x - (radius - rad)))]) (O := fun w => (w.cell? ⟨b1, 0, none⟩ = some (.int .i64 x)) ∧ (W .i64 (x - (radius - rad))) ∧ True) hs (by kernel_rfl) ⟨B1.cell 0 rfl, w64 (by omega) (by omega), trivial⟩ ?_
  clear hs a; intro a hs
  refine atR_op hs (by kernel_rfl) (call1 (f := 30) (args := #[.int .i64 (x - (radius - rad))]) [2, 3, 5, 9, 12, 75, 80] (fun rv_ => [(2, .int .i64 top), (3, .int .i64 depth), (5, .pointer (some ⟨b1, 0, none⟩)), (9, .pointer (some ⟨b2, 0, none⟩)), (12, .int .i64 (radius - rad)), (75, .bool false), (80, rv_)]) hs (by kernel_rfl) (fun _ => by kernel_rfl) ?_)
  refine (far_any _ _).mono ?_
  rintro e w' ⟨rfl, rfl⟩
  refine ⟨_, rfl, ?_⟩
  clear hs a; intro a hs
  refine atR_seg (m := 2) (H := []) (ts := [2, 3, 5, 9, 12, 82]) (L' := [(2, .int .i64 top), (3, .int .i64 depth), (5, .pointer (some ⟨b1, 0, none⟩)), (9, .pointer (some ⟨b2, 0, none⟩)), (12, .int .i64 (radius - rad)), (82, .bool (!(insB (x - (radius - rad)))))]) (O := fun w => True) hs (by kernel_rfl) trivial ?_
  clear hs a; intro a hs
  replace hs := hs.know (t := 82) rfl (show (!(insB (x - (radius - rad)))) = false from congrArg not hx2)
  replace hs := hs.pick (ts := [2, 3, 5, 9, 12, 82]) (L' := [(2, .int .i64 top), (3, .int .i64 depth), (5, .pointer (some ⟨b1, 0, none⟩)), (9, .pointer (some ⟨b2, 0, none⟩)), (12, .int .i64 (radius - rad)), (82, .bool false)]) (by kernel_rfl)
  refine atR_seg (m := 4) (H := [(32, none, [.int .i64 y]), (34, some (.int .i64 (y + (radius - rad))), [])]) (ts := [2, 3, 5, 9, 12, 82, 86]) (L' := [(2, .int .i64 top), (3, .int .i64 depth), (5, .pointer (some ⟨b1, 0, none⟩)), (9, .pointer (some ⟨b2, 0, none⟩)), (12, .int .i64 (radius - rad)), (82, .bool false), (86, .int .i64 (y + (radius - rad)))]) (O := fun w => (w.cell? ⟨b1, 1, none⟩ = some (.int .i64 y)) ∧ (W .i64 (y + (radius - rad))) ∧ True) hs (by kernel_rfl) ⟨B1.cell 1 rfl, w64 (by omega) (by omega), trivial⟩ ?_
  clear hs a; intro a hs
  refine atR_op hs (by kernel_rfl) (call1 (f := 30) (args := #[.int .i64 (y + (radius - rad))]) [2, 3, 5, 9, 12, 82, 87] (fun rv_ => [(2, .int .i64 top), (3, .int .i64 depth), (5, .pointer (some ⟨b1, 0, none⟩)), (9, .pointer (some ⟨b2, 0, none⟩)), (12, .int .i64 (radius - rad)), (82, .bool false), (87, rv_)]) hs (by kernel_rfl) (fun _ => by kernel_rfl) ?_)
  refine (far_any _ _).mono ?_
  rintro e w' ⟨rfl, rfl⟩
  refine ⟨_, rfl, ?_⟩
  clear hs a; intro a hs
  refine atR_seg (m := 2) (H := []) (ts := [2, 3, 5, 9, 12, 89]) (L' := [(2, .int .i64 top), (3, .int .i64 depth), (5, .pointer (some ⟨b1, 0, none⟩)), (9, .pointer (some ⟨b2, 0, none⟩)), (12, .int .i64 (radius - rad)), (89, .bool (!(insB (y + (radius - rad)))))]) (O := fun w => True) hs (by kernel_rfl) trivial ?_
  clear hs a; intro a hs
  replace hs := hs.know (t := 89) rfl (show (!(insB (y + (radius - rad)))) = false from congrArg not hy1)
  replace hs := hs.pick (ts := [2, 3, 5, 9, 12, 89]) (L' := [(2, .int .i64 top), (3, .int .i64 depth), (5, .pointer (some ⟨b1, 0, none⟩)), (9, .pointer (some ⟨b2, 0, none⟩)), (12, .int .i64 (radius - rad)), (89, .bool false)]) (by kernel_rfl)
  refine atR_seg (m := 4) (H := [(39, none, [.int .i64 y]), (41, some (.int .i64 (y - (radius - rad))), [])]) (ts := [2, 3, 5, 9, 12, 89, 93]) (L' := [(2, .int .i64 top), (3, .int .i64 depth), (5, .pointer (some ⟨b1, 0, none⟩)), (9, .pointer (some ⟨b2, 0, none⟩)), (12, .int .i64 (radius - rad)), (89, .bool false), (93, .int .i64 (y - (radius - rad)))]) (O := fun w => (w.cell? ⟨b1, 1, none⟩ = some (.int .i64 y)) ∧ (W .i64 (y - (radius - rad))) ∧ True) hs (by kernel_rfl) ⟨B1.cell 1 rfl, w64 (by omega) (by omega), trivial⟩ ?_
  clear hs a; intro a hs
  refine atR_op hs (by kernel_rfl) (call1 (f := 30) (args := #[.int .i64 (y - (radius - rad))]) [2, 3, 5, 9, 12, 89, 94] (fun rv_ => [(2, .int .i64 top), (3, .int .i64 depth), (5, .pointer (some ⟨b1, 0, none⟩)), (9, .pointer (some ⟨b2, 0, none⟩)), (12, .int .i64 (radius - rad)), (89, .bool false), (94, rv_)]) hs (by kernel_rfl) (fun _ => by kernel_rfl) ?_)
  refine (far_any _ _).mono ?_
  rintro e w' ⟨rfl, rfl⟩
  refine ⟨_, rfl, ?_⟩
  clear hs a; intro a hs
  refine atR_seg (m := 1) (H := []) (ts := [2, 3, 5, 9, 12, 95]) (L' := [(2, .int .i64 top), (3, .int .i64 depth), (5, .pointer (some ⟨b1, 0, none⟩)), (9, .pointer (some ⟨b2, 0, none⟩)), (12, .int .i64 (radius - rad)), (95, .bool (!(insB (y - (radius - rad)))))]) (O := fun w => True) hs (by kernel_rfl) trivial ?_
  clear hs a; intro a hs
  refine atR_end (by kernel_rfl) ?_
  refine wayN_node rfl ?_
  refine at_cond (t := 95) (j1 := 24) (j2 := 27) (b := !(insB (y - (radius - rad)))) (by kernel_rfl) hs rfl (fun hb => absurd (hb.symm.trans (show (!(insB (y - (radius - rad)))) = false from congrArg not hy2)) (by decide)) (fun _ => ?_)
  refine at_skip (by kernel_rfl) ?_
  refine wayN_node rfl ?_
  refine at_seq (j := 30) (by kernel_rfl) ?_
  refine at_region (id := 8) (by kernel_rfl) ?_
  refine atR_seg (m := 9) (H := [(2, none, [.int .i64 stp]), (3, some (.int .i64 (depth + stp)), []), (4, some (.int .i64 (depth + stp - 1)), []), (6, none, [.int .i64 stp]), (7, some (.int .i64 (n : Int)), [])]) (ts := [2, 3, 5, 9, 12, 13]) (L' := [(2, .int .i64 top), (3, .int .i64 depth), (5, .pointer (some ⟨b1, 0, none⟩)), (9, .pointer (some ⟨b2, 0, none⟩)), (12, .int .i64 (radius - rad)), (13, .int .i64 (n : Int))]) (O := fun w => (w.cell? ⟨b2, 5, none⟩ = some (.int .i64 stp)) ∧ (W .i64 (depth + stp)) ∧ (W .i64 (depth + stp - 1)) ∧ (w.cell? ⟨b2, 5, none⟩ = some (.int .i64 stp)) ∧ (Value.int .i64 (IntKind.i64.wrap ((depth + stp - 1).tdiv stp)) = .int .i64 (n : Int)) ∧ (stp ≠ 0) ∧ True) hs (by kernel_rfl) ⟨B2.cell 5 rfl, w64 (by omega) (by omega), w64 (by omega) (by omega), B2.cell 5 rfl, (wq (by omega) (by omega) (by omega)).trans (by rw [hnn]), by omega, trivial⟩ ?_
  clear hs a; intro a hs
  refine atR_end (by kernel_rfl) ?_
  refine wayN_node rfl ?_
  refine at_seq (j := 38) (by kernel_rfl) ?_
  refine at_seq (j := 33) (by kernel_rfl) ?_
  refine at_region (id := 9) (by kernel_rfl) ?_
  refine atR_seg (m := 4) (H := [(1, some (.int .i64 (4 * (n : Int))), []), (2, some (.int .i64 (4 * (n : Int) + 4)), [])]) (ts := [2, 3, 5, 9, 12, 13, 107]) (L' := [(2, .int .i64 top), (3, .int .i64 depth), (5, .pointer (some ⟨b1, 0, none⟩)), (9, .pointer (some ⟨b2, 0, none⟩)), (12, .int .i64 (radius - rad)), (13, .int .i64 (n : Int)), (107, .bool (decide (4 * (n : Int) + 4 > 20000)))]) (O := fun w => (W .i64 (4 * (n : Int))) ∧ (W .i64 (4 * (n : Int) + 4)) ∧ True) hs (by kernel_rfl) ⟨w64 (by omega) (by omega), w64 (by omega) (by omega), trivial⟩ ?_
  clear hs a; intro a hs
  refine atR_end (by kernel_rfl) ?_
  refine wayN_node rfl ?_
  refine at_cond (t := 107) (j1 := 34) (j2 := 37) (b := decide (4 * (n : Int) + 4 > 20000)) (by kernel_rfl) hs rfl (fun hb => absurd (hb.symm.trans (show (decide (4 * (n : Int) + 4 > 20000)) = false from decide_eq_false (by omega))) (by decide)) (fun _ => ?_)
  refine at_skip (by kernel_rfl) ?_
  refine wayN_node rfl ?_
  refine at_seq (j := 40) (by kernel_rfl) ?_
  refine at_region (id := 11) (by kernel_rfl) ?_
  refine atR_seg (m := 7) (H := [(1, none, [.int .i64 x]), (3, some (.int .i64 (x + (radius - rad))), []), (5, none, [.int .i64 y])]) (ts := [2, 3, 5, 9, 12, 13, 114]) (L' := [(2, .int .i64 top), (3, .int .i64 depth), (5, .pointer (some ⟨b1, 0, none⟩)), (9, .pointer (some ⟨b2, 0, none⟩)), (12, .int .i64 (radius - rad)), (13, .int .i64 (n : Int)), (114, .agg #[.int .i64 (x + (radius - rad)), .int .i64 y, .int .i64 0])]) (O := fun w => (w.cell? ⟨b1, 0, none⟩ = some (.int .i64 x)) ∧ (W .i64 (x + (radius - rad))) ∧ (w.cell? ⟨b1, 1, none⟩ = some (.int .i64 y)) ∧ True) hs (by kernel_rfl) ⟨B1.cell 0 rfl, w64 (by omega) (by omega), B1.cell 1 rfl, trivial⟩ ?_
  clear hs a; intro a hs
  refine atR_op hs (by kernel_rfl) (new1 (t := 46) (cs := #[.int .i64 0, .int .i64 0, .int .i64 0]) (fun rb_ => .pointer (some ⟨rb_, 0, none⟩)) [2, 3, 5, 9, 12, 13, 14, 114] (fun rb_ => [(2, .int .i64 top), (3, .int .i64 depth), (5, .pointer (some ⟨b1, 0, none⟩)), (9, .pointer (some ⟨b2, 0, none⟩)), (12, .int .i64 (radius - rad)), (13, .int .i64 (n : Int)), (14, .pointer (some ⟨rb_, 0, none⟩)), (114, .agg #[.int .i64 (x + (radius - rad)), .int .i64 y, .int .i64 0])]) hs (fun _ => by kernel_rfl) (fun _ => by kernel_rfl) ?_)
  clear hs a; intro a w5 b3 hn hs
  have B3 := hn.blk
  have l3 : w.heap.size ≤ b3 := by rw [hn.at_]; exact hB.size
  have l3' : b2 < b3 := by rw [hn.at_]; exact B2.lt
  replace B1 := B1.below hn.below B1.lt
  replace B2 := B2.below hn.below B2.lt
  replace hB := later hB hn.below
  clear hn
  refine atR_op hs (by kernel_rfl) (store1 (b := b3) (cs := #[.int .i64 0, .int .i64 0, .int .i64 0]) #[.int .i64 (x + (radius - rad)), .int .i64 y, .int .i64 0] [(0, .int .i64 (x + (radius - rad))), (1, .int .i64 y), (2, .int .i64 0)] [2, 3, 5, 9, 12, 13, 14] [(2, .int .i64 top), (3, .int .i64 depth), (5, .pointer (some ⟨b1, 0, none⟩)), (9, .pointer (some ⟨b2, 0, none⟩)), (12, .int .i64 (radius - rad)), (13, .int .i64 (n : Int)), (14, .pointer (some ⟨b3, 0, none⟩))] hs B3 (by kernel_rfl) ⟨Nat.le_of_ble_eq_true rfl, trivial, ⟨Nat.le_of_ble_eq_true rfl, trivial, ⟨Nat.le_of_ble_eq_true rfl, trivial, trivial⟩⟩⟩ rfl (by kernel_rfl) ?_)
  clear hs a; intro a w6 B3' hu hs
  replace B3 := B3'; clear B3'
  replace B1 := hu.blk B1 (by omega)
  replace B2 := hu.blk B2 (by omega)
  replace hB := hB.trans (hu.below (by omega))
  clear hu
  refine atR_end (by kernel_rfl) ?_
  refine wayN_node rfl ?_
  refine at_seq (j := 42) (by kernel_rfl) ?_
  refine at_region (id := 12) (by kernel_rfl) ?_
  refine atR_seg (m := 4) (H := [(0, none, [.int .i64 (x + (radius - rad)), .int .i64 y, .int .i64 0]), (2, none, [.int .i64 plu])]) (ts := [2, 3, 5, 9, 12, 13, 14, 118]) (L' := [(2, .int .i64 top), (3, .int .i64 depth), (5, .pointer (some ⟨b1, 0, none⟩)), (9, .pointer (some ⟨b2, 0, none⟩)), (12, .int .i64 (radius - rad)), (13, .int .i64 (n : Int)), (14, .pointer (some ⟨b3, 0, none⟩)), (118, .agg #[.int .i64 2, .int .i64 (x + (radius - rad)), .int .i64 y, .int .i64 0, .int .i64 0, .int .i64 0, .int .i64 plu])]) (O := fun w => (w.cell? ⟨b3, 0, none⟩ = some (.int .i64 (x + (radius - rad)))) ∧ (w.cell? ⟨b3, 1, none⟩ = some (.int .i64 y)) ∧ (w.cell? ⟨b3, 2, none⟩ = some (.int .i64 0)) ∧ (w.cell? ⟨b2, 7, none⟩ = some (.int .i64 plu)) ∧ True) hs (by kernel_rfl) ⟨B3.cell 0 rfl, B3.cell 1 rfl, B3.cell 2 rfl, B2.cell 7 rfl, trivial⟩ ?_
  clear hs a; intro a hs
  refine atR_op hs (by kernel_rfl) (new1 (t := 48) (cs := #[.int .i64 2, .int .i64 (x + (radius - rad)), .int .i64 y, .int .i64 0, .int .i64 0, .int .i64 0, .int .i64 plu]) (fun rb_ => .slice (some ⟨rb_, 0, none⟩) 1 1) [2, 3, 5, 9, 12, 13, 14, 119] (fun rb_ => [(2, .int .i64 top), (3, .int .i64 depth), (5, .pointer (some ⟨b1, 0, none⟩)), (9, .pointer (some ⟨b2, 0, none⟩)), (12, .int .i64 (radius - rad)), (13, .int .i64 (n : Int)), (14, .pointer (some ⟨b3, 0, none⟩)), (119, .slice (some ⟨rb_, 0, none⟩) 1 1)]) hs (fun _ => by kernel_rfl) (fun _ => by kernel_rfl) ?_)
  clear hs a; intro a w7 b4 hn hs
  have B4 := hn.blk
  have l4 : w.heap.size ≤ b4 := by rw [hn.at_]; exact hB.size
  have l4' : b3 < b4 := by rw [hn.at_]; exact B3.lt
  replace B1 := B1.below hn.below B1.lt
  replace B2 := B2.below hn.below B2.lt
  replace B3 := B3.below hn.below B3.lt
  replace hB := later hB hn.below
  clear hn
  refine atR_seg (m := 1) (H := []) (ts := [2, 3, 5, 9, 12, 13, 14, 15]) (L' := [(2, .int .i64 top), (3, .int .i64 depth), (5, .pointer (some ⟨b1, 0, none⟩)), (9, .pointer (some ⟨b2, 0, none⟩)), (12, .int .i64 (radius - rad)), (13, .int .i64 (n : Int)), (14, .pointer (some ⟨b3, 0, none⟩)), (15, .slice (some ⟨b4, 0, none⟩) 1 1)]) (O := fun w => True) hs (by kernel_rfl) trivial ?_
  clear hs a; intro a hs
  refine atR_end (by kernel_rfl) ?_
  refine wayN_node rfl ?_
  refine at_seq (j := 76) (by kernel_rfl) ?_
  refine at_seq (j := 45) (by kernel_rfl) ?_
  refine at_region (id := 13) (by kernel_rfl) ?_
  refine atR_seg (m := 1) (H := []) (ts := [2, 3, 5, 9, 12, 13, 14, 15, 16]) (L' := [(2, .int .i64 top), (3, .int .i64 depth), (5, .pointer (some ⟨b1, 0, none⟩)), (9, .pointer (some ⟨b2, 0, none⟩)), (12, .int .i64 (radius - rad)), (13, .int .i64 (n : Int)), (14, .pointer (some ⟨b3, 0, none⟩)), (15, .slice (some ⟨b4, 0, none⟩) 1 1), (16, .int .i64 1)]) (O := fun w => True) hs (by kernel_rfl) trivial ?_
  clear hs a; intro a hs
  refine atR_end (by kernel_rfl) ?_
  refine wayN_node rfl ?_
  refine at_block (id := 0) (by kernel_rfl) ?_
  refine at_loop2 (fun (k : Nat) (v : Value) a' W => St 212 [(2, .int .i64 top), (3, .int .i64 depth), (5, .pointer (some ⟨b1, 0, none⟩)), (9, .pointer (some ⟨b2, 0, none⟩)), (12, .int .i64 (radius - rad)), (13, .int .i64 (n : Int)), (14, .pointer (some ⟨b3, 0, none⟩)), (15, v), (16, .int .i64 ((k : Int) + 1))] a' ∧ Blk W b1 30 #[.int .i64 x, .int .i64 y] ∧ Blk W b2 33 #[.int .i64 num, .int .i64 kind, .int .i64 rad, .int .i64 flu, .int .i64 hol, .int .i64 stp, .int .i64 fd, .int .i64 plu] ∧ Blk W b3 46 #[.int .i64 (x + (radius - rad)), .int .i64 y, .int .i64 0] ∧ Below w.heap.size w W ∧ (k ≤ 4 * n) ∧ (W.ownsRow (b3 + 1) 48 7 v (k + 1) (mvc 2 (x + (radius - rad)) y 0 0 0 plu ++ arcs x y (radius - rad) depth (n : Int) fd k))) (fun k v => 4 * n - k) 0 (.slice (some ⟨b4, 0, none⟩) 1 1) (by kernel_rfl) ⟨hs.sub ⟨⟨_, rfl, rfl⟩, ⟨_, rfl, rfl⟩, ⟨_, rfl, rfl⟩, ⟨_, rfl, rfl⟩, ⟨_, rfl, rfl⟩, ⟨_, rfl, rfl⟩, ⟨_, rfl, rfl⟩, ⟨_, rfl, rfl⟩, ⟨_, rfl, (by first | rfl | (push_cast; rfl) | (congr 1; omega))⟩, trivial⟩, B1, B2, B3, hB, Nat.zero_le _, by rw [show arcs x y (radius - rad) depth (n : Int) fd 0 = [] from rfl, List.append_nil]; exact own_blk (cs := mvc 2 (x + (radius - rad)) y 0 0 0 plu) B4 (by omega) rfl (by decide)⟩ ?_
  clear hs a B1 B2 B3 hB B4
  intro k v a wr8 hI
  obtain ⟨hs, B1, B2, B3, hB, hk4, ho⟩ := hI
  refine at_seq (j := 53) (by kernel_rfl) ?_
  refine at_seq (j := 50) (by kernel_rfl) ?_
  refine at_region (id := 14) (by kernel_rfl) ?_
  refine atR_seg (m := 4) (H := [(2, some (.int .i64 (4 * (n : Int))), [])]) (ts := [2, 3, 5, 9, 12, 13, 14, 15, 16, 123]) (L' := [(2, .int .i64 top), (3, .int .i64 depth), (5, .pointer (some ⟨b1, 0, none⟩)), (9, .pointer (some ⟨b2, 0, none⟩)), (12, .int .i64 (radius - rad)), (13, .int .i64 (n : Int)), (14, .pointer (some ⟨b3, 0, none⟩)), (15, v), (16, .int .i64 ((k : Int) + 1)), (123, .bool (decide ((k : Int) + 1 ≤ 4 * (n : Int))))]) (O := fun w => (W .i64 (4 * (n : Int))) ∧ True) hs (by kernel_rfl) ⟨w64 (by omega) (by omega), trivial⟩ ?_
  clear hs a; intro a hs
  refine atR_end (by kernel_rfl) ?_
  refine wayN_node rfl ?_
  refine at_cond (t := 123) (j1 := 51) (j2 := 52) (b := decide ((k : Int) + 1 ≤ 4 * (n : Int))) (by kernel_rfl) hs rfl (fun hb => ?_) (fun hb => ?_)
  · have cd1 := hb; have cd1b := hb; clear hb
    replace cd1 := of_decide_eq_true cd1
    obtain ⟨a1, a2, a3, a4⟩ := zat_bd depth n k h3 (by omega) hn1 (by omega) (by omega) (by omega)
    refine at_skip (by kernel_rfl) ?_
    refine wayN_node rfl ?_
    refine at_seq (j := 75) (by kernel_rfl) ?_
    refine at_block (id := 1) (by kernel_rfl) ?_
    refine at_seq (j := 57) (by kernel_rfl) ?_
    refine at_draw (fun W => Blk W b1 30 #[.int .i64 x, .int .i64 y] ∧ Blk W b2 33 #[.int .i64 num, .int .i64 kind, .int .i64 rad, .int .i64 flu, .int .i64 hol, .int .i64 stp, .int .i64 fd, .int .i64 plu] ∧ Blk W b3 46 #[.int .i64 (x + (radius - rad)), .int .i64 y, .int .i64 0] ∧ True) (id := 16) (by kernel_rfl) (by kernel_rfl) 18 (by kernel_rfl) ?_
    intro w9 hb
    replace B1 := B1.below hb B1.lt
    replace B2 := B2.below hb B2.lt
    replace B3 := B3.below hb B3.lt
    replace ho := own_far ho hb
    replace hB := later hB hb
    clear hb
    refine atD_seg (m := 2) [0, 1, 2, 3, 4, 5, 6, 7, 8, 9, 10, 11, 12, 13, 14, 15] [] [(1, none, [.int .i64 x]), (3, none, [.int .i64 y]), (6, some (.int .i64 (((k : Int) + 1) * depth)), []), (8, some (.int .i64 (4 * (n : Int))), []), (9, some (.int .i64 (((k : Int) + 1) * depth + (4 * (n : Int)))), []), (10, some (.int .i64 (((k : Int) + 1) * depth + (4 * (n : Int)) - 1)), []), (12, some (.int .i64 (4 * (n : Int))), []), (13, some (.int .i64 ((((k : Int) + 1) * depth + (4 * (n : Int)) - 1) / (4 * (n : Int)))), []), (14, some (.int .i64 (-((((k : Int) + 1) * depth + (4 * (n : Int)) - 1) / (4 * (n : Int))))), [])] [2, 3, 5, 9, 12, 13, 14, 15, 16, 141] [(2, .int .i64 top), (3, .int .i64 depth), (5, .pointer (some ⟨b1, 0, none⟩)), (9, .pointer (some ⟨b2, 0, none⟩)), (12, .int .i64 (radius - rad)), (13, .int .i64 (n : Int)), (14, .pointer (some ⟨b3, 0, none⟩)), (15, v), (16, .int .i64 ((k : Int) + 1)), (141, .agg #[.int .i64 x, .int .i64 y, .int .i64 (-((((k : Int) + 1) * depth + (4 * (n : Int)) - 1) / (4 * (n : Int))))])] (fun w => (w.cell? ⟨b1, 0, none⟩ = some (.int .i64 x)) ∧ (w.cell? ⟨b1, 1, none⟩ = some (.int .i64 y)) ∧ (W .i64 (((k : Int) + 1) * depth)) ∧ (W .i64 (4 * (n : Int))) ∧ (W .i64 (((k : Int) + 1) * depth + (4 * (n : Int)))) ∧ (W .i64 (((k : Int) + 1) * depth + (4 * (n : Int)) - 1)) ∧ (W .i64 (4 * (n : Int))) ∧ (Wq (((k : Int) + 1) * depth + (4 * (n : Int)) - 1) (4 * (n : Int))) ∧ ((4 * (n : Int)) ≠ 0) ∧ (Wn .i64 ((((k : Int) + 1) * depth + (4 * (n : Int)) - 1) / (4 * (n : Int)))) ∧ True) hs ⟨B1, B2, B3, trivial⟩ (by kernel_rfl) (by kernel_rfl) (fun w ⟨B1, B2, B3, _⟩ => ⟨B1.cell 0 rfl, B1.cell 1 rfl, w64 (by omega) (by omega), w64 (by omega) (by omega), w64 (by omega) (by omega), w64 (by omega) (by omega), w64 (by omega) (by omega), wq (by omega) (by omega) (by omega), by omega, wn64 (by omega) (by omega), trivial⟩) ?_
    clear hs a; intro a hs
    refine atD_op (m := 1) (j := 16) (D := [15, 14, 13, 12, 11, 10, 9, 8, 7, 6, 5, 4, 3, 2, 1, 0]) hs (by kernel_rfl) (by kernel_rfl) (new1 (t := 46) (cs := #[.int .i64 0, .int .i64 0, .int .i64 0]) (fun rb_ => .pointer (some ⟨rb_, 0, none⟩)) [2, 3, 5, 9, 12, 13, 14, 15, 16, 17, 141] (fun rb_ => [(2, .int .i64 top), (3, .int .i64 depth), (5, .pointer (some ⟨b1, 0, none⟩)), (9, .pointer (some ⟨b2, 0, none⟩)), (12, .int .i64 (radius - rad)), (13, .int .i64 (n : Int)), (14, .pointer (some ⟨b3, 0, none⟩)), (15, v), (16, .int .i64 ((k : Int) + 1)), (17, .pointer (some ⟨rb_, 0, none⟩)), (141, .agg #[.int .i64 x, .int .i64 y, .int .i64 (-((((k : Int) + 1) * depth + (4 * (n : Int)) - 1) / (4 * (n : Int))))])]) hs (fun _ => by kernel_rfl) (fun _ => by kernel_rfl) ?_)
    clear hs a; intro a w10 b5 hn hs
    have B5 := hn.blk
    have l5 : w.heap.size ≤ b5 := by rw [hn.at_]; exact hB.size
    have l5' : b3 < b5 := by rw [hn.at_]; exact B3.lt
    replace B1 := B1.below hn.below B1.lt
    replace B2 := B2.below hn.below B2.lt
    replace B3 := B3.below hn.below B3.lt
    replace ho := own_far ho hn.below
    replace hB := later hB hn.below
    clear hn
    refine ⟨⟨B1, B2, B3, trivial⟩, ?_⟩
    refine atD_op (m := 0) (j := 17) (D := [16, 15, 14, 13, 12, 11, 10, 9, 8, 7, 6, 5, 4, 3, 2, 1, 0]) hs (by kernel_rfl) (by kernel_rfl) (store1 (b := b5) (cs := #[.int .i64 0, .int .i64 0, .int .i64 0]) #[.int .i64 x, .int .i64 y, .int .i64 (-((((k : Int) + 1) * depth + (4 * (n : Int)) - 1) / (4 * (n : Int))))] [(0, .int .i64 x), (1, .int .i64 y), (2, .int .i64 (-((((k : Int) + 1) * depth + (4 * (n : Int)) - 1) / (4 * (n : Int)))))] [2, 3, 5, 9, 12, 13, 14, 15, 16, 17] [(2, .int .i64 top), (3, .int .i64 depth), (5, .pointer (some ⟨b1, 0, none⟩)), (9, .pointer (some ⟨b2, 0, none⟩)), (12, .int .i64 (radius - rad)), (13, .int .i64 (n : Int)), (14, .pointer (some ⟨b3, 0, none⟩)), (15, v), (16, .int .i64 ((k : Int) + 1)), (17, .pointer (some ⟨b5, 0, none⟩))] hs B5 (by kernel_rfl) ⟨Nat.le_of_ble_eq_true rfl, trivial, ⟨Nat.le_of_ble_eq_true rfl, trivial, ⟨Nat.le_of_ble_eq_true rfl, trivial, trivial⟩⟩⟩ rfl (by kernel_rfl) ?_)
    clear hs a; intro a w11 B5' hu hs
    replace ho := own_upd_t ho hu B5 (by decide)
    replace B5 := B5'; clear B5'
    replace B1 := hu.blk B1 (by omega)
    replace B2 := hu.blk B2 (by omega)
    replace B3 := hu.blk B3 (by omega)
    replace hB := hB.trans (hu.below (by omega))
    clear hu
    refine ⟨⟨B1, B2, B3, trivial⟩, ?_⟩
    refine atD_done (by kernel_rfl) ?_
    refine wayN_node rfl ?_
    refine at_seq (j := 74) (by kernel_rfl) ?_
    refine at_seq (j := 60) (by kernel_rfl) ?_
    have hr4 : (k + 1) % 4 = 0 ∨ (k + 1) % 4 = 1 ∨ (k + 1) % 4 = 2 ∨ (k + 1) % 4 = 3 := by omega
    rcases hr4 with hr | hr | hr | hr
    · have har := arcC_case x y (radius - rad) depth (n : Int) fd k 0 hr
      simp only [qx, qy] at har
      refine at_region (id := 17) (by kernel_rfl) ?_
      refine atR_seg (m := 2) (H := [(1, some (.int .i64 0), [])]) (ts := [2, 3, 5, 9, 12, 13, 14, 15, 16, 17, 143]) (L' := [(2, .int .i64 top), (3, .int .i64 depth), (5, .pointer (some ⟨b1, 0, none⟩)), (9, .pointer (some ⟨b2, 0, none⟩)), (12, .int .i64 (radius - rad)), (13, .int .i64 (n : Int)), (14, .pointer (some ⟨b3, 0, none⟩)), (15, v), (16, .int .i64 ((k : Int) + 1)), (17, .pointer (some ⟨b5, 0, none⟩)), (143, .int .i64 0)]) (O := fun w => (Value.int .i64 (((k : Int) + 1).tmod 4) = .int .i64 0) ∧ ((4 : Int) ≠ 0) ∧ True) hs (by kernel_rfl) ⟨tmod4 k 0 hr, by decide, trivial⟩ ?_
      clear hs a; intro a hs
      refine atR_end (by kernel_rfl) ?_
      refine wayN_node rfl ?_
      refine at_block (id := 2) (by kernel_rfl) ?_
      refine at_seq (j := 63) (by kernel_rfl) ?_
      refine at_region (id := 19) (by kernel_rfl) ?_
      refine atR_seg (m := 2) (H := []) (ts := [2, 3, 5, 9, 12, 13, 14, 15, 16, 17, 143, 149]) (L' := [(2, .int .i64 top), (3, .int .i64 depth), (5, .pointer (some ⟨b1, 0, none⟩)), (9, .pointer (some ⟨b2, 0, none⟩)), (12, .int .i64 (radius - rad)), (13, .int .i64 (n : Int)), (14, .pointer (some ⟨b3, 0, none⟩)), (15, v), (16, .int .i64 ((k : Int) + 1)), (17, .pointer (some ⟨b5, 0, none⟩)), (143, .int .i64 0), (149, .bool true)]) (O := fun w => True) hs (by kernel_rfl) trivial ?_
      clear hs a; intro a hs
      refine atR_end (by kernel_rfl) ?_
      refine wayN_node rfl ?_
      refine at_cond (t := 149) (j1 := 64) (j2 := 65) (b := true) (by kernel_rfl) hs rfl (fun _ => ?_) (fun hb => absurd (hb.symm.trans (show (true) = true from rfl)) (by decide))
      refine at_region (id := 20) (by kernel_rfl) ?_
      refine atR_seg (m := 5) (H := [(1, none, [.int .i64 x]), (3, some (.int .i64 (x + (radius - rad))), [])]) (ts := [2, 3, 5, 9, 12, 13, 14, 15, 16, 17, 154, 155]) (L' := [(2, .int .i64 top), (3, .int .i64 depth), (5, .pointer (some ⟨b1, 0, none⟩)), (9, .pointer (some ⟨b2, 0, none⟩)), (12, .int .i64 (radius - rad)), (13, .int .i64 (n : Int)), (14, .pointer (some ⟨b3, 0, none⟩)), (15, v), (16, .int .i64 ((k : Int) + 1)), (17, .pointer (some ⟨b5, 0, none⟩)), (154, .int .i64 (x + (radius - rad))), (155, .pointer (some ⟨b5, 0, none⟩))]) (O := fun w => (w.cell? ⟨b5, 0, none⟩ = some (.int .i64 x)) ∧ (W .i64 (x + (radius - rad))) ∧ True) hs (by kernel_rfl) ⟨B5.cell 0 rfl, w64 (by omega) (by omega), trivial⟩ ?_
      clear hs a; intro a hs
      refine atR_op hs (by kernel_rfl) (store1 (b := b5) (cs := #[.int .i64 x, .int .i64 y, .int .i64 (-((((k : Int) + 1) * depth + (4 * (n : Int)) - 1) / (4 * (n : Int))))]) #[.int .i64 (x + (radius - rad)), .int .i64 y, .int .i64 (-((((k : Int) + 1) * depth + (4 * (n : Int)) - 1) / (4 * (n : Int))))] [(0, .int .i64 (x + (radius - rad)))] [2, 3, 5, 9, 12, 13, 14, 15, 16, 17] [(2, .int .i64 top), (3, .int .i64 depth), (5, .pointer (some ⟨b1, 0, none⟩)), (9, .pointer (some ⟨b2, 0, none⟩)), (12, .int .i64 (radius - rad)), (13, .int .i64 (n : Int)), (14, .pointer (some ⟨b3, 0, none⟩)), (15, v), (16, .int .i64 ((k : Int) + 1)), (17, .pointer (some ⟨b5, 0, none⟩))] hs B5 (by kernel_rfl) ⟨Nat.le_of_ble_eq_true rfl, trivial, trivial⟩ rfl (by kernel_rfl) ?_)
      clear hs a; intro a w12 B5' hu hs
      replace ho := own_upd_t ho hu B5 (by decide)
      replace B5 := B5'; clear B5'
      replace B1 := hu.blk B1 (by omega)
      replace B2 := hu.blk B2 (by omega)
      replace B3 := hu.blk B3 (by omega)
      replace hB := hB.trans (hu.below (by omega))
      clear hu
      refine atR_end (by kernel_rfl) ?_
      refine wayN_node rfl ?_
      refine at_region (id := 25) (by kernel_rfl) ?_
      refine atR_seg (m := 6) (H := [(1, none, [.int .i64 (x + (radius - rad)), .int .i64 y, .int .i64 (-((((k : Int) + 1) * depth + (4 * (n : Int)) - 1) / (4 * (n : Int))))]), (2, none, [.int .i64 x, .int .i64 y]), (4, none, [.int .i64 fd])]) (ts := [2, 3, 5, 9, 12, 13, 14, 16, 170, 175]) (L' := [(2, .int .i64 top), (3, .int .i64 depth), (5, .pointer (some ⟨b1, 0, none⟩)), (9, .pointer (some ⟨b2, 0, none⟩)), (12, .int .i64 (radius - rad)), (13, .int .i64 (n : Int)), (14, .pointer (some ⟨b3, 0, none⟩)), (16, .int .i64 ((k : Int) + 1)), (170, v), (175, .agg #[.int .i64 4, .int .i64 (x + (radius - rad)), .int .i64 y, .int .i64 (-((((k : Int) + 1) * depth + (4 * (n : Int)) - 1) / (4 * (n : Int)))), .int .i64 x, .int .i64 y, .int .i64 fd])]) (O := fun w => (w.cell? ⟨b5, 0, none⟩ = some (.int .i64 (x + (radius - rad)))) ∧ (w.cell? ⟨b5, 1, none⟩ = some (.int .i64 y)) ∧ (w.cell? ⟨b5, 2, none⟩ = some (.int .i64 (-((((k : Int) + 1) * depth + (4 * (n : Int)) - 1) / (4 * (n : Int)))))) ∧ (w.cell? ⟨b1, 0, none⟩ = some (.int .i64 x)) ∧ (w.cell? ⟨b1, 1, none⟩ = some (.int .i64 y)) ∧ (w.cell? ⟨b2, 6, none⟩ = some (.int .i64 fd)) ∧ True) hs (by kernel_rfl) ⟨B5.cell 0 rfl, B5.cell 1 rfl, B5.cell 2 rfl, B1.cell 0 rfl, B1.cell 1 rfl, B2.cell 6 rfl, trivial⟩ ?_
      clear hs a; intro a hs
      refine atR_op hs (by kernel_rfl) (new1 (t := 48) (cs := #[.int .i64 4, .int .i64 (x + (radius - rad)), .int .i64 y, .int .i64 (-((((k : Int) + 1) * depth + (4 * (n : Int)) - 1) / (4 * (n : Int)))), .int .i64 x, .int .i64 y, .int .i64 fd]) (fun rb_ => .slice (some ⟨rb_, 0, none⟩) 1 1) [2, 3, 5, 9, 12, 13, 14, 16, 170, 176] (fun rb_ => [(2, .int .i64 top), (3, .int .i64 depth), (5, .pointer (some ⟨b1, 0, none⟩)), (9, .pointer (some ⟨b2, 0, none⟩)), (12, .int .i64 (radius - rad)), (13, .int .i64 (n : Int)), (14, .pointer (some ⟨b3, 0, none⟩)), (16, .int .i64 ((k : Int) + 1)), (170, v), (176, .slice (some ⟨rb_, 0, none⟩) 1 1)]) hs (fun _ => by kernel_rfl) (fun _ => by kernel_rfl) ?_)
      clear hs a; intro a w13 b6 hn hs
      have B6 := hn.blk
      have l6 : w.heap.size ≤ b6 := by rw [hn.at_]; exact hB.size
      have l6' : b5 < b6 := by rw [hn.at_]; exact B5.lt
      replace B1 := B1.below hn.below B1.lt
      replace B2 := B2.below hn.below B2.lt
      replace B3 := B3.below hn.below B3.lt
      replace B5 := B5.below hn.below B5.lt
      replace ho := own_far ho hn.below
      replace hB := later hB hn.below
      clear hn
      refine atR_op hs (by kernel_rfl) (append1 (v := v) (b := b6) (off := 0) (m := 1) (c := 1) (cs := [.int .i64 4, .int .i64 (x + (radius - rad)), .int .i64 y, .int .i64 (-((((k : Int) + 1) * depth + (4 * (n : Int)) - 1) / (4 * (n : Int)))), .int .i64 x, .int .i64 y, .int .i64 fd]) ((.tmp 170), (.tmp 176)) [2, 3, 5, 9, 12, 13, 14, 16, 177] (fun rv_ => [(2, .int .i64 top), (3, .int .i64 depth), (5, .pointer (some ⟨b1, 0, none⟩)), (9, .pointer (some ⟨b2, 0, none⟩)), (12, .int .i64 (radius - rad)), (13, .int .i64 (n : Int)), (14, .pointer (some ⟨b3, 0, none⟩)), (16, .int .i64 ((k : Int) + 1)), (177, rv_)]) hs (by kernel_rfl) rfl rfl (fun _ => by kernel_rfl) elem34 ho rfl (blk_row B6) (by simp [Value.oneCell']) (by unfold maxLen; omega) (by omega) (by have := hB.size; have := B1.lt; have := B2.lt; have := B3.lt; have := B5.lt; have := B6.lt; omega) ?_)
      clear hs a; intro v2 a w14 ho3 hg hs
      skip
      replace B1 := own_keep_t hg ho B1 (by decide)
      replace B2 := own_keep_t hg ho B2 (by decide)
      replace B3 := own_keep_t hg ho B3 (by decide)
      replace B5 := own_keep_t hg ho B5 (by decide)
      replace hB := hB.grown hg hB.size (fun kk hk => Nat.le_trans (by omega) (ho.lt kk hk).1)
      clear hg B6 ho
      refine atR_seg (m := 1) (H := []) (ts := [2, 3, 5, 9, 12, 13, 14, 15, 16]) (L' := [(2, .int .i64 top), (3, .int .i64 depth), (5, .pointer (some ⟨b1, 0, none⟩)), (9, .pointer (some ⟨b2, 0, none⟩)), (12, .int .i64 (radius - rad)), (13, .int .i64 (n : Int)), (14, .pointer (some ⟨b3, 0, none⟩)), (15, v2), (16, .int .i64 ((k : Int) + 1))]) (O := fun w => True) hs (by kernel_rfl) trivial ?_
      clear hs a; intro a hs
      refine atR_end (by kernel_rfl) ?_
      refine wayN_node rfl ?_
      refine at_region (id := 15) (by kernel_rfl) ?_
      refine atR_seg (m := 3) (H := [(1, some (.int .i64 ((k : Int) + 1 + 1)), [])]) (ts := [2, 3, 5, 9, 12, 13, 14, 15, 16]) (L' := [(2, .int .i64 top), (3, .int .i64 depth), (5, .pointer (some ⟨b1, 0, none⟩)), (9, .pointer (some ⟨b2, 0, none⟩)), (12, .int .i64 (radius - rad)), (13, .int .i64 (n : Int)), (14, .pointer (some ⟨b3, 0, none⟩)), (15, v2), (16, .int .i64 ((k : Int) + 1 + 1))]) (O := fun w => (W .i64 ((k : Int) + 1 + 1)) ∧ True) hs (by kernel_rfl) ⟨w64 (by omega) (by omega), trivial⟩ ?_
      clear hs a; intro a hs
      refine atR_end (by kernel_rfl) ?_
      refine wayN_back ?_
      dsimp only [lpOf]
      exact ⟨k + 1, v2, ⟨hs.sub ⟨⟨_, rfl, rfl⟩, ⟨_, rfl, rfl⟩, ⟨_, rfl, rfl⟩, ⟨_, rfl, rfl⟩, ⟨_, rfl, rfl⟩, ⟨_, rfl, rfl⟩, ⟨_, rfl, rfl⟩, ⟨_, rfl, rfl⟩, ⟨_, rfl, (by first | rfl | (push_cast; rfl) | (congr 1; omega))⟩, trivial⟩, B1, B2, B3, hB, by omega, by rw [arcs_succ, har]; simpa [mvc] using ho3⟩, by omega⟩
    · have har := arcC_case x y (radius - rad) depth (n : Int) fd k 1 hr
      simp only [qx, qy] at har
      refine at_region (id := 17) (by kernel_rfl) ?_
      refine atR_seg (m := 2) (H := [(1, some (.int .i64 1), [])]) (ts := [2, 3, 5, 9, 12, 13, 14, 15, 16, 17, 143]) (L' := [(2, .int .i64 top), (3, .int .i64 depth), (5, .pointer (some ⟨b1, 0, none⟩)), (9, .pointer (some ⟨b2, 0, none⟩)), (12, .int .i64 (radius - rad)), (13, .int .i64 (n : Int)), (14, .pointer (some ⟨b3, 0, none⟩)), (15, v), (16, .int .i64 ((k : Int) + 1)), (17, .pointer (some ⟨b5, 0, none⟩)), (143, .int .i64 1)]) (O := fun w => (Value.int .i64 (((k : Int) + 1).tmod 4) = .int .i64 1) ∧ ((4 : Int) ≠ 0) ∧ True) hs (by kernel_rfl) ⟨tmod4 k 1 hr, by decide, trivial⟩ ?_
      clear hs a; intro a hs
      refine atR_end (by kernel_rfl) ?_
      refine wayN_node rfl ?_
      refine at_block (id := 2) (by kernel_rfl) ?_
      refine at_seq (j := 63) (by kernel_rfl) ?_
      refine at_region (id := 19) (by kernel_rfl) ?_
      refine atR_seg (m := 2) (H := []) (ts := [2, 3, 5, 9, 12, 13, 14, 15, 16, 17, 143, 149]) (L' := [(2, .int .i64 top), (3, .int .i64 depth), (5, .pointer (some ⟨b1, 0, none⟩)), (9, .pointer (some ⟨b2, 0, none⟩)), (12, .int .i64 (radius - rad)), (13, .int .i64 (n : Int)), (14, .pointer (some ⟨b3, 0, none⟩)), (15, v), (16, .int .i64 ((k : Int) + 1)), (17, .pointer (some ⟨b5, 0, none⟩)), (143, .int .i64 1), (149, .bool false)]) (O := fun w => True) hs (by kernel_rfl) trivial ?_
      clear hs a; intro a hs
      refine atR_end (by kernel_rfl) ?_
      refine wayN_node rfl ?_
      refine at_cond (t := 149) (j1 := 64) (j2 := 65) (b := false) (by kernel_rfl) hs rfl (fun hb => absurd (hb.symm.trans (show (false) = false from rfl)) (by decide)) (fun _ => ?_)
      refine at_seq (j := 67) (by kernel_rfl) ?_
      refine at_region (id := 21) (by kernel_rfl) ?_
      refine atR_seg (m := 2) (H := []) (ts := [2, 3, 5, 9, 12, 13, 14, 15, 16, 17, 143, 156]) (L' := [(2, .int .i64 top), (3, .int .i64 depth), (5, .pointer (some ⟨b1, 0, none⟩)), (9, .pointer (some ⟨b2, 0, none⟩)), (12, .int .i64 (radius - rad)), (13, .int .i64 (n : Int)), (14, .pointer (some ⟨b3, 0, none⟩)), (15, v), (16, .int .i64 ((k : Int) + 1)), (17, .pointer (some ⟨b5, 0, none⟩)), (143, .int .i64 1), (156, .bool true)]) (O := fun w => True) hs (by kernel_rfl) trivial ?_
      clear hs a; intro a hs
      refine atR_end (by kernel_rfl) ?_
      refine wayN_node rfl ?_
      refine at_cond (t := 156) (j1 := 68) (j2 := 69) (b := true) (by kernel_rfl) hs rfl (fun _ => ?_) (fun hb => absurd (hb.symm.trans (show (true) = true from rfl)) (by decide))
      refine at_region (id := 22) (by kernel_rfl) ?_
      refine atR_seg (m := 5) (H := [(1, none, [.int .i64 y]), (3, some (.int .i64 (y + (radius - rad))), [])]) (ts := [2, 3, 5, 9, 12, 13, 14, 15, 16, 17, 161, 162]) (L' := [(2, .int .i64 top), (3, .int .i64 depth), (5, .pointer (some ⟨b1, 0, none⟩)), (9, .pointer (some ⟨b2, 0, none⟩)), (12, .int .i64 (radius - rad)), (13, .int .i64 (n : Int)), (14, .pointer (some ⟨b3, 0, none⟩)), (15, v), (16, .int .i64 ((k : Int) + 1)), (17, .pointer (some ⟨b5, 0, none⟩)), (161, .int .i64 (y + (radius - rad))), (162, .pointer (some ⟨b5, 1, none⟩))]) (O := fun w => (w.cell? ⟨b5, 1, none⟩ = some (.int .i64 y)) ∧ (W .i64 (y + (radius - rad))) ∧ True) hs (by kernel_rfl) ⟨B5.cell 1 rfl, w64 (by omega) (by omega), trivial⟩ ?_
      clear hs a; intro a hs
      refine atR_op hs (by kernel_rfl) (store1 (b := b5) (cs := #[.int .i64 x, .int .i64 y, .int .i64 (-((((k : Int) + 1) * depth + (4 * (n : Int)) - 1) / (4 * (n : Int))))]) #[.int .i64 x, .int .i64 (y + (radius - rad)), .int .i64 (-((((k : Int) + 1) * depth + (4 * (n : Int)) - 1) / (4 * (n : Int))))] [(1, .int .i64 (y + (radius - rad)))] [2, 3, 5, 9, 12, 13, 14, 15, 16, 17] [(2, .int .i64 top), (3, .int .i64 depth), (5, .pointer (some ⟨b1, 0, none⟩)), (9, .pointer (some ⟨b2, 0, none⟩)), (12, .int .i64 (radius - rad)), (13, .int .i64 (n : Int)), (14, .pointer (some ⟨b3, 0, none⟩)), (15, v), (16, .int .i64 ((k : Int) + 1)), (17, .pointer (some ⟨b5, 0, none⟩))] hs B5 (by kernel_rfl) ⟨Nat.le_of_ble_eq_true rfl, trivial, trivial⟩ rfl (by kernel_rfl) ?_)
      clear hs a; intro a w15 B5' hu hs
      replace ho := own_upd_t ho hu B5 (by decide)
      replace B5 := B5'; clear B5'
      replace B1 := hu.blk B1 (by omega)
      replace B2 := hu.blk B2 (by omega)
      replace B3 := hu.blk B3 (by omega)
      replace hB := hB.trans (hu.below (by omega))
      clear hu
      refine atR_end (by kernel_rfl) ?_
      refine wayN_node rfl ?_
      refine at_region (id := 25) (by kernel_rfl) ?_
      refine atR_seg (m := 6) (H := [(1, none, [.int .i64 x, .int .i64 (y + (radius - rad)), .int .i64 (-((((k : Int) + 1) * depth + (4 * (n : Int)) - 1) / (4 * (n : Int))))]), (2, none, [.int .i64 x, .int .i64 y]), (4, none, [.int .i64 fd])]) (ts := [2, 3, 5, 9, 12, 13, 14, 16, 170, 175]) (L' := [(2, .int .i64 top), (3, .int .i64 depth), (5, .pointer (some ⟨b1, 0, none⟩)), (9, .pointer (some ⟨b2, 0, none⟩)), (12, .int .i64 (radius - rad)), (13, .int .i64 (n : Int)), (14, .pointer (some ⟨b3, 0, none⟩)), (16, .int .i64 ((k : Int) + 1)), (170, v), (175, .agg #[.int .i64 4, .int .i64 x, .int .i64 (y + (radius - rad)), .int .i64 (-((((k : Int) + 1) * depth + (4 * (n : Int)) - 1) / (4 * (n : Int)))), .int .i64 x, .int .i64 y, .int .i64 fd])]) (O := fun w => (w.cell? ⟨b5, 0, none⟩ = some (.int .i64 x)) ∧ (w.cell? ⟨b5, 1, none⟩ = some (.int .i64 (y + (radius - rad)))) ∧ (w.cell? ⟨b5, 2, none⟩ = some (.int .i64 (-((((k : Int) + 1) * depth + (4 * (n : Int)) - 1) / (4 * (n : Int)))))) ∧ (w.cell? ⟨b1, 0, none⟩ = some (.int .i64 x)) ∧ (w.cell? ⟨b1, 1, none⟩ = some (.int .i64 y)) ∧ (w.cell? ⟨b2, 6, none⟩ = some (.int .i64 fd)) ∧ True) hs (by kernel_rfl) ⟨B5.cell 0 rfl, B5.cell 1 rfl, B5.cell 2 rfl, B1.cell 0 rfl, B1.cell 1 rfl, B2.cell 6 rfl, trivial⟩ ?_
      clear hs a; intro a hs
      refine atR_op hs (by kernel_rfl) (new1 (t := 48) (cs := #[.int .i64 4, .int .i64 x, .int .i64 (y + (radius - rad)), .int .i64 (-((((k : Int) + 1) * depth + (4 * (n : Int)) - 1) / (4 * (n : Int)))), .int .i64 x, .int .i64 y, .int .i64 fd]) (fun rb_ => .slice (some ⟨rb_, 0, none⟩) 1 1) [2, 3, 5, 9, 12, 13, 14, 16, 170, 176] (fun rb_ => [(2, .int .i64 top), (3, .int .i64 depth), (5, .pointer (some ⟨b1, 0, none⟩)), (9, .pointer (some ⟨b2, 0, none⟩)), (12, .int .i64 (radius - rad)), (13, .int .i64 (n : Int)), (14, .pointer (some ⟨b3, 0, none⟩)), (16, .int .i64 ((k : Int) + 1)), (170, v), (176, .slice (some ⟨rb_, 0, none⟩) 1 1)]) hs (fun _ => by kernel_rfl) (fun _ => by kernel_rfl) ?_)
      clear hs a; intro a w16 b7 hn hs
      have B7 := hn.blk
      have l7 : w.heap.size ≤ b7 := by rw [hn.at_]; exact hB.size
      have l7' : b5 < b7 := by rw [hn.at_]; exact B5.lt
      replace B1 := B1.below hn.below B1.lt
      replace B2 := B2.below hn.below B2.lt
      replace B3 := B3.below hn.below B3.lt
      replace B5 := B5.below hn.below B5.lt
      replace ho := own_far ho hn.below
      replace hB := later hB hn.below
      clear hn
      refine atR_op hs (by kernel_rfl) (append1 (v := v) (b := b7) (off := 0) (m := 1) (c := 1) (cs := [.int .i64 4, .int .i64 x, .int .i64 (y + (radius - rad)), .int .i64 (-((((k : Int) + 1) * depth + (4 * (n : Int)) - 1) / (4 * (n : Int)))), .int .i64 x, .int .i64 y, .int .i64 fd]) ((.tmp 170), (.tmp 176)) [2, 3, 5, 9, 12, 13, 14, 16, 177] (fun rv_ => [(2, .int .i64 top), (3, .int .i64 depth), (5, .pointer (some ⟨b1, 0, none⟩)), (9, .pointer (some ⟨b2, 0, none⟩)), (12, .int .i64 (radius - rad)), (13, .int .i64 (n : Int)), (14, .pointer (some ⟨b3, 0, none⟩)), (16, .int .i64 ((k : Int) + 1)), (177, rv_)]) hs (by kernel_rfl) rfl rfl (fun _ => by kernel_rfl) elem34 ho rfl (blk_row B7) (by simp [Value.oneCell']) (by unfold maxLen; omega) (by omega) (by have := hB.size; have := B1.lt; have := B2.lt; have := B3.lt; have := B5.lt; have := B7.lt; omega) ?_)
      clear hs a; intro v4 a w17 ho5 hg hs
      skip
      replace B1 := own_keep_t hg ho B1 (by decide)
      replace B2 := own_keep_t hg ho B2 (by decide)
      replace B3 := own_keep_t hg ho B3 (by decide)
      replace B5 := own_keep_t hg ho B5 (by decide)
      replace hB := hB.grown hg hB.size (fun kk hk => Nat.le_trans (by omega) (ho.lt kk hk).1)
      clear hg B7 ho
      refine atR_seg (m := 1) (H := []) (ts := [2, 3, 5, 9, 12, 13, 14, 15, 16]) (L' := [(2, .int .i64 top), (3, .int .i64 depth), (5, .pointer (some ⟨b1, 0, none⟩)), (9, .pointer (some ⟨b2, 0, none⟩)), (12, .int .i64 (radius - rad)), (13, .int .i64 (n : Int)), (14, .pointer (some ⟨b3, 0, none⟩)), (15, v4), (16, .int .i64 ((k : Int) + 1))]) (O := fun w => True) hs (by kernel_rfl) trivial ?_
      clear hs a; intro a hs
      refine atR_end (by kernel_rfl) ?_
      refine wayN_node rfl ?_
      refine at_region (id := 15) (by kernel_rfl) ?_
      refine atR_seg (m := 3) (H := [(1, some (.int .i64 ((k : Int) + 1 + 1)), [])]) (ts := [2, 3, 5, 9, 12, 13, 14, 15, 16]) (L' := [(2, .int .i64 top), (3, .int .i64 depth), (5, .pointer (some ⟨b1, 0, none⟩)), (9, .pointer (some ⟨b2, 0, none⟩)), (12, .int .i64 (radius - rad)), (13, .int .i64 (n : Int)), (14, .pointer (some ⟨b3, 0, none⟩)), (15, v4), (16, .int .i64 ((k : Int) + 1 + 1))]) (O := fun w => (W .i64 ((k : Int) + 1 + 1)) ∧ True) hs (by kernel_rfl) ⟨w64 (by omega) (by omega), trivial⟩ ?_
      clear hs a; intro a hs
      refine atR_end (by kernel_rfl) ?_
      refine wayN_back ?_
      dsimp only [lpOf]
      exact ⟨k + 1, v4, ⟨hs.sub ⟨⟨_, rfl, rfl⟩, ⟨_, rfl, rfl⟩, ⟨_, rfl, rfl⟩, ⟨_, rfl, rfl⟩, ⟨_, rfl, rfl⟩, ⟨_, rfl, rfl⟩, ⟨_, rfl, rfl⟩, ⟨_, rfl, rfl⟩, ⟨_, rfl, (by first | rfl | (push_cast; rfl) | (congr 1; omega))⟩, trivial⟩, B1, B2, B3, hB, by omega, by rw [arcs_succ, har]; simpa [mvc] using ho5⟩, by omega⟩
    · have har := arcC_case x y (radius - rad) depth (n : Int) fd k 2 hr
      simp only [qx, qy] at har
      refine at_region (id := 17) (by kernel_rfl) ?_
      refine atR_seg (m := 2) (H := [(1, some (.int .i64 2), [])]) (ts := [2, 3, 5, 9, 12, 13, 14, 15, 16, 17, 143]) (L' := [(2, .int .i64 top), (3, .int .i64 depth), (5, .pointer (some ⟨b1, 0, none⟩)), (9, .pointer (some ⟨b2, 0, none⟩)), (12, .int .i64 (radius - rad)), (13, .int .i64 (n : Int)), (14, .pointer (some ⟨b3, 0, none⟩)), (15, v), (16, .int .i64 ((k : Int) + 1)), (17, .pointer (some ⟨b5, 0, none⟩)), (143, .int .i64 2)]) (O := fun w => (Value.int .i64 (((k : Int) + 1).tmod 4) = .int .i64 2) ∧ ((4 : Int) ≠ 0) ∧ True) hs (by kernel_rfl) ⟨tmod4 k 2 hr, by decide, trivial⟩ ?_
      clear hs a; intro a hs
      refine atR_end (by kernel_rfl) ?_
      refine wayN_node rfl ?_
      refine at_block (id := 2) (by kernel_rfl) ?_
      refine at_seq (j := 63) (by kernel_rfl) ?_
      refine at_region (id := 19) (by kernel_rfl) ?_
      refine atR_seg (m := 2) (H := []) (ts := [2, 3, 5, 9, 12, 13, 14, 15, 16, 17, 143, 149]) (L' := [(2, .int .i64 top), (3, .int .i64 depth), (5, .pointer (some ⟨b1, 0, none⟩)), (9, .pointer (some ⟨b2, 0, none⟩)), (12, .int .i64 (radius - rad)), (13, .int .i64 (n : Int)), (14, .pointer (some ⟨b3, 0, none⟩)), (15, v), (16, .int .i64 ((k : Int) + 1)), (17, .pointer (some ⟨b5, 0, none⟩)), (143, .int .i64 2), (149, .bool false)]) (O := fun w => True) hs (by kernel_rfl) trivial ?_
      clear hs a; intro a hs
      refine atR_end (by kernel_rfl) ?_
      refine wayN_node rfl ?_
      refine at_cond (t := 149) (j1 := 64) (j2 := 65) (b := false) (by kernel_rfl) hs rfl (fun hb => absurd (hb.symm.trans (show (false) = false from rfl)) (by decide)) (fun _ => ?_)
      refine at_seq (j := 67) (by kernel_rfl) ?_
      refine at_region (id := 21) (by kernel_rfl) ?_
      refine atR_seg (m := 2) (H := []) (ts := [2, 3, 5, 9, 12, 13, 14, 15, 16, 17, 143, 156]) (L' := [(2, .int .i64 top), (3, .int .i64 depth), (5, .pointer (some ⟨b1, 0, none⟩)), (9, .pointer (some ⟨b2, 0, none⟩)), (12, .int .i64 (radius - rad)), (13, .int .i64 (n : Int)), (14, .pointer (some ⟨b3, 0, none⟩)), (15, v), (16, .int .i64 ((k : Int) + 1)), (17, .pointer (some ⟨b5, 0, none⟩)), (143, .int .i64 2), (156, .bool false)]) (O := fun w => True) hs (by kernel_rfl) trivial ?_
      clear hs a; intro a hs
      refine atR_end (by kernel_rfl) ?_
      refine wayN_node rfl ?_
      refine at_cond (t := 156) (j1 := 68) (j2 := 69) (b := false) (by kernel_rfl) hs rfl (fun hb => absurd (hb.symm.trans (show (false) = false from rfl)) (by decide)) (fun _ => ?_)
      refine at_seq (j := 71) (by kernel_rfl) ?_
      refine at_region (id := 23) (by kernel_rfl) ?_
      refine atR_seg (m := 2) (H := []) (ts := [2, 3, 5, 9, 12, 13, 14, 15, 16, 17, 163]) (L' := [(2, .int .i64 top), (3, .int .i64 depth), (5, .pointer (some ⟨b1, 0, none⟩)), (9, .pointer (some ⟨b2, 0, none⟩)), (12, .int .i64 (radius - rad)), (13, .int .i64 (n : Int)), (14, .pointer (some ⟨b3, 0, none⟩)), (15, v), (16, .int .i64 ((k : Int) + 1)), (17, .pointer (some ⟨b5, 0, none⟩)), (163, .bool true)]) (O := fun w => True) hs (by kernel_rfl) trivial ?_
      clear hs a; intro a hs
      refine atR_end (by kernel_rfl) ?_
      refine wayN_node rfl ?_
      refine at_cond (t := 163) (j1 := 72) (j2 := 73) (b := true) (by kernel_rfl) hs rfl (fun _ => ?_) (fun hb => absurd (hb.symm.trans (show (true) = true from rfl)) (by decide))
      refine at_region (id := 24) (by kernel_rfl) ?_
      refine atR_seg (m := 5) (H := [(1, none, [.int .i64 x]), (3, some (.int .i64 (x - (radius - rad))), [])]) (ts := [2, 3, 5, 9, 12, 13, 14, 15, 16, 17, 168, 169]) (L' := [(2, .int .i64 top), (3, .int .i64 depth), (5, .pointer (some ⟨b1, 0, none⟩)), (9, .pointer (some ⟨b2, 0, none⟩)), (12, .int .i64 (radius - rad)), (13, .int .i64 (n : Int)), (14, .pointer (some ⟨b3, 0, none⟩)), (15, v), (16, .int .i64 ((k : Int) + 1)), (17, .pointer (some ⟨b5, 0, none⟩)), (168, .int .i64 (x - (radius - rad))), (169, .pointer (some ⟨b5, 0, none⟩))]) (O := fun w => (w.cell? ⟨b5, 0, none⟩ = some (.int .i64 x)) ∧ (W .i64 (x - (radius - rad))) ∧ True) hs (by kernel_rfl) ⟨B5.cell 0 rfl, w64 (by omega) (by omega), trivial⟩ ?_
      clear hs a; intro a hs
      refine atR_op hs (by kernel_rfl) (store1 (b := b5) (cs := #[.int .i64 x, .int .i64 y, .int .i64 (-((((k : Int) + 1) * depth + (4 * (n : Int)) - 1) / (4 * (n : Int))))]) #[.int .i64 (x - (radius - rad)), .int .i64 y, .int .i64 (-((((k : Int) + 1) * depth + (4 * (n : Int)) - 1) / (4 * (n : Int))))] [(0, .int .i64 (x - (radius - rad)))] [2, 3, 5, 9, 12, 13, 14, 15, 16, 17] [(2, .int .i64 top), (3, .int .i64 depth), (5, .pointer (some ⟨b1, 0, none⟩)), (9, .pointer (some ⟨b2, 0, none⟩)), (12, .int .i64 (radius - rad)), (13, .int .i64 (n : Int)), (14, .pointer (some ⟨b3, 0, none⟩)), (15, v), (16, .int .i64 ((k : Int) + 1)), (17, .pointer (some ⟨b5, 0, none⟩))] hs B5 (by kernel_rfl) ⟨Nat.le_of_ble_eq_true rfl, trivial, trivial⟩ rfl (by kernel_rfl) ?_)
      clear hs a; intro a w18 B5' hu hs
      replace ho := own_upd_t ho hu B5 (by decide)
      replace B5 := B5'; clear B5'
      replace B1 := hu.blk B1 (by omega)
      replace B2 := hu.blk B2 (by omega)
      replace B3 := hu.blk B3 (by omega)
      replace hB := hB.trans (hu.below (by omega))
      clear hu
      refine atR_end (by kernel_rfl) ?_
      refine wayN_node rfl ?_
      refine at_region (id := 25) (by kernel_rfl) ?_
      refine atR_seg (m := 6) (H := [(1, none, [.int .i64 (x - (radius - rad)), .int .i64 y, .int .i64 (-((((k : Int) + 1) * depth + (4 * (n : Int)) - 1) / (4 * (n : Int))))]), (2, none, [.int .i64 x, .int .i64 y]), (4, none, [.int .i64 fd])]) (ts := [2, 3, 5, 9, 12, 13, 14, 16, 170, 175]) (L' := [(2, .int .i64 top), (3, .int .i64 depth), (5, .pointer (some ⟨b1, 0, none⟩)), (9, .pointer (some ⟨b2, 0, none⟩)), (12, .int .i64 (radius - rad)), (13, .int .i64 (n : Int)), (14, .pointer (some ⟨b3, 0, none⟩)), (16, .int .i64 ((k : Int) + 1)), (170, v), (175, .agg #[.int .i64 4, .int .i64 (x - (radius - rad)), .int .i64 y, .int .i64 (-((((k : Int) + 1) * depth + (4 * (n : Int)) - 1) / (4 * (n : Int)))), .int .i64 x, .int .i64 y, .int .i64 fd])]) (O := fun w => (w.cell? ⟨b5, 0, none⟩ = some (.int .i64 (x - (radius - rad)))) ∧ (w.cell? ⟨b5, 1, none⟩ = some (.int .i64 y)) ∧ (w.cell? ⟨b5, 2, none⟩ = some (.int .i64 (-((((k : Int) + 1) * depth + (4 * (n : Int)) - 1) / (4 * (n : Int)))))) ∧ (w.cell? ⟨b1, 0, none⟩ = some (.int .i64 x)) ∧ (w.cell? ⟨b1, 1, none⟩ = some (.int .i64 y)) ∧ (w.cell? ⟨b2, 6, none⟩ = some (.int .i64 fd)) ∧ True) hs (by kernel_rfl) ⟨B5.cell 0 rfl, B5.cell 1 rfl, B5.cell 2 rfl, B1.cell 0 rfl, B1.cell 1 rfl, B2.cell 6 rfl, trivial⟩ ?_
      clear hs a; intro a hs
      refine atR_op hs (by kernel_rfl) (new1 (t := 48) (cs := #[.int .i64 4, .int .i64 (x - (radius - rad)), .int .i64 y, .int .i64 (-((((k : Int) + 1) * depth + (4 * (n : Int)) - 1) / (4 * (n : Int)))), .int .i64 x, .int .i64 y, .int .i64 fd]) (fun rb_ => .slice (some ⟨rb_, 0, none⟩) 1 1) [2, 3, 5, 9, 12, 13, 14, 16, 170, 176] (fun rb_ => [(2, .int .i64 top), (3, .int .i64 depth), (5, .pointer (some ⟨b1, 0, none⟩)), (9, .pointer (some ⟨b2, 0, none⟩)), (12, .int .i64 (radius - rad)), (13, .int .i64 (n : Int)), (14, .pointer (some ⟨b3, 0, none⟩)), (16, .int .i64 ((k : Int) + 1)), (170, v), (176, .slice (some ⟨rb_, 0, none⟩) 1 1)]) hs (fun _ => by kernel_rfl) (fun _ => by kernel_rfl) ?_)
      clear hs a; intro a w19 b8 hn hs
      have B8 := hn.blk
      have l8 : w.heap.size ≤ b8 := by rw [hn.at_]; exact hB.size
      have l8' : b5 < b8 := by rw [hn.at_]; exact B5.lt
      replace B1 := B1.below hn.below B1.lt
      replace B2 := B2.below hn.below B2.lt
      replace B3 := B3.below hn.below B3.lt
      replace B5 := B5.below hn.below B5.lt
      replace ho := own_far ho hn.below
      replace hB := later hB hn.below
      clear hn
      refine atR_op hs (by kernel_rfl) (append1 (v := v) (b := b8) (off := 0) (m := 1) (c := 1) (cs := [.int .i64 4, .int .i64 (x - (radius - rad)), .int .i64 y, .int .i64 (-((((k : Int) + 1) * depth + (4 * (n : Int)) - 1) / (4 * (n : Int)))), .int .i64 x, .int .i64 y, .int .i64 fd]) ((.tmp 170), (.tmp 176)) [2, 3, 5, 9, 12, 13, 14, 16, 177] (fun rv_ => [(2, .int .i64 top), (3, .int .i64 depth), (5, .pointer (some ⟨b1, 0, none⟩)), (9, .pointer (some ⟨b2, 0, none⟩)), (12, .int .i64 (radius - rad)), (13, .int .i64 (n : Int)), (14, .pointer (some ⟨b3, 0, none⟩)), (16, .int .i64 ((k : Int) + 1)), (177, rv_)]) hs (by kernel_rfl) rfl rfl (fun _ => by kernel_rfl) elem34 ho rfl (blk_row B8) (by simp [Value.oneCell']) (by unfold maxLen; omega) (by omega) (by have := hB.size; have := B1.lt; have := B2.lt; have := B3.lt; have := B5.lt; have := B8.lt; omega) ?_)
      clear hs a; intro v6 a w20 ho7 hg hs
      skip
      replace B1 := own_keep_t hg ho B1 (by decide)
      replace B2 := own_keep_t hg ho B2 (by decide)
      replace B3 := own_keep_t hg ho B3 (by decide)
      replace B5 := own_keep_t hg ho B5 (by decide)
      replace hB := hB.grown hg hB.size (fun kk hk => Nat.le_trans (by omega) (ho.lt kk hk).1)
      clear hg B8 ho
      refine atR_seg (m := 1) (H := []) (ts := [2, 3, 5, 9, 12, 13, 14, 15, 16]) (L' := [(2, .int .i64 top), (3, .int .i64 depth), (5, .pointer (some ⟨b1, 0, none⟩)), (9, .pointer (some ⟨b2, 0, none⟩)), (12, .int .i64 (radius - rad)), (13, .int .i64 (n : Int)), (14, .pointer (some ⟨b3, 0, none⟩)), (15, v6), (16, .int .i64 ((k : Int) + 1))]) (O := fun w => True) hs (by kernel_rfl) trivial ?_
      clear hs a; intro a hs
      refine atR_end (by kernel_rfl) ?_
      refine wayN_node rfl ?_
      refine at_region (id := 15) (by kernel_rfl) ?_
      refine atR_seg (m := 3) (H := [(1, some (.int .i64 ((k : Int) + 1 + 1)), [])]) (ts := [2, 3, 5, 9, 12, 13, 14, 15, 16]) (L' := [(2, .int .i64 top), (3, .int .i64 depth), (5, .pointer (some ⟨b1, 0, none⟩)), (9, .pointer (some ⟨b2, 0, none⟩)), (12, .int .i64 (radius - rad)), (13, .int .i64 (n : Int)), (14, .pointer (some ⟨b3, 0, none⟩)), (15, v6), (16, .int .i64 ((k : Int) + 1 + 1))]) (O := fun w => (W .i64 ((k : Int) + 1 + 1)) ∧ True) hs (by kernel_rfl) ⟨w64 (by omega) (by omega), trivial⟩ ?_
      clear hs a; intro a hs
      refine atR_end (by kernel_rfl) ?_
      refine wayN_back ?_
      dsimp only [lpOf]
      exact ⟨k + 1, v6, ⟨hs.sub ⟨⟨_, rfl, rfl⟩, ⟨_, rfl, rfl⟩, ⟨_, rfl, rfl⟩, ⟨_, rfl, rfl⟩, ⟨_, rfl, rfl⟩, ⟨_, rfl, rfl⟩, ⟨_, rfl, rfl⟩, ⟨_, rfl, rfl⟩, ⟨_, rfl, (by first | rfl | (push_cast; rfl) | (congr 1; omega))⟩, trivial⟩, B1, B2, B3, hB, by omega, by rw [arcs_succ, har]; simpa [mvc] using ho7⟩, by omega⟩
    · have har := arcC_case x y (radius - rad) depth (n : Int) fd k 3 hr
      simp only [qx, qy] at har
      refine at_region (id := 17) (by kernel_rfl) ?_
      refine atR_seg (m := 2) (H := [(1, some (.int .i64 3), [])]) (ts := [2, 3, 5, 9, 12, 13, 14, 15, 16, 17, 143]) (L' := [(2, .int .i64 top), (3, .int .i64 depth), (5, .pointer (some ⟨b1, 0, none⟩)), (9, .pointer (some ⟨b2, 0, none⟩)), (12, .int .i64 (radius - rad)), (13, .int .i64 (n : Int)), (14, .pointer (some ⟨b3, 0, none⟩)), (15, v), (16, .int .i64 ((k : Int) + 1)), (17, .pointer (some ⟨b5, 0, none⟩)), (143, .int .i64 3)]) (O := fun w => (Value.int .i64 (((k : Int) + 1).tmod 4) = .int .i64 3) ∧ ((4 : Int) ≠ 0) ∧ True) hs (by kernel_rfl) ⟨tmod4 k 3 hr, by decide, trivial⟩ ?_
      clear hs a; intro a hs
      refine atR_end (by kernel_rfl) ?_
      refine wayN_node rfl ?_
      refine at_block (id := 2) (by kernel_rfl) ?_
      refine at_seq (j := 63) (by kernel_rfl) ?_
      refine at_region (id := 19) (by kernel_rfl) ?_
      refine atR_seg (m := 2) (H := []) (ts := [2, 3, 5, 9, 12, 13, 14, 15, 16, 17, 143, 149]) (L' := [(2, .int .i64 top), (3, .int .i64 depth), (5, .pointer (some ⟨b1, 0, none⟩)), (9, .pointer (some ⟨b2, 0, none⟩)), (12, .int .i64 (radius - rad)), (13, .int .i64 (n : Int)), (14, .pointer (some ⟨b3, 0, none⟩)), (15, v), (16, .int .i64 ((k : Int) + 1)), (17, .pointer (some ⟨b5, 0, none⟩)), (143, .int .i64 3), (149, .bool false)]) (O := fun w => True) hs (by kernel_rfl) trivial ?_
      clear hs a; intro a hs
      refine atR_end (by kernel_rfl) ?_
      refine wayN_node rfl ?_
      refine at_cond (t := 149) (j1 := 64) (j2 := 65) (b := false) (by kernel_rfl) hs rfl (fun hb => absurd (hb.symm.trans (show (false) = false from rfl)) (by decide)) (fun _ => ?_)
      refine at_seq (j := 67) (by kernel_rfl) ?_
      refine at_region (id := 21) (by kernel_rfl) ?_
      refine atR_seg (m := 2) (H := []) (ts := [2, 3, 5, 9, 12, 13, 14, 15, 16, 17, 143, 156]) (L' := [(2, .int .i64 top), (3, .int .i64 depth), (5, .pointer (some ⟨b1, 0, none⟩)), (9, .pointer (some ⟨b2, 0, none⟩)), (12, .int .i64 (radius - rad)), (13, .int .i64 (n : Int)), (14, .pointer (some ⟨b3, 0, none⟩)), (15, v), (16, .int .i64 ((k : Int) + 1)), (17, .pointer (some ⟨b5, 0, none⟩)), (143, .int .i64 3), (156, .bool false)]) (O := fun w => True) hs (by kernel_rfl) trivial ?_
      clear hs a; intro a hs
      refine atR_end (by kernel_rfl) ?_
      refine wayN_node rfl ?_
      refine at_cond (t := 156) (j1 := 68) (j2 := 69) (b := false) (by kernel_rfl) hs rfl (fun hb => absurd (hb.symm.trans (show (false) = false from rfl)) (by decide)) (fun _ => ?_)
      refine at_seq (j := 71) (by kernel_rfl) ?_
      refine at_region (id := 23) (by kernel_rfl) ?_
      refine atR_seg (m := 2) (H := []) (ts := [2, 3, 5, 9, 12, 13, 14, 15, 16, 17, 163]) (L' := [(2, .int .i64 top), (3, .int .i64 depth), (5, .pointer (some ⟨b1, 0, none⟩)), (9, .pointer (some ⟨b2, 0, none⟩)), (12, .int .i64 (radius - rad)), (13, .int .i64 (n : Int)), (14, .pointer (some ⟨b3, 0, none⟩)), (15, v), (16, .int .i64 ((k : Int) + 1)), (17, .pointer (some ⟨b5, 0, none⟩)), (163, .bool false)]) (O := fun w => True) hs (by kernel_rfl) trivial ?_
      clear hs a; intro a hs
      refine atR_end (by kernel_rfl) ?_
      refine wayN_node rfl ?_
      refine at_cond (t := 163) (j1 := 72) (j2 := 73) (b := false) (by kernel_rfl) hs rfl (fun hb => absurd (hb.symm.trans (show (false) = false from rfl)) (by decide)) (fun _ => ?_)
      refine at_region (id := 18) (by kernel_rfl) ?_
      refine atR_seg (m := 5) (H := [(1, none, [.int .i64 y]), (3, some (.int .i64 (y - (radius - rad))), [])]) (ts := [2, 3, 5, 9, 12, 13, 14, 15, 16, 17, 147, 148]) (L' := [(2, .int .i64 top), (3, .int .i64 depth), (5, .pointer (some ⟨b1, 0, none⟩)), (9, .pointer (some ⟨b2, 0, none⟩)), (12, .int .i64 (radius - rad)), (13, .int .i64 (n : Int)), (14, .pointer (some ⟨b3, 0, none⟩)), (15, v), (16, .int .i64 ((k : Int) + 1)), (17, .pointer (some ⟨b5, 0, none⟩)), (147, .int .i64 (y - (radius - rad))), (148, .pointer (some ⟨b5, 1, none⟩))]) (O := fun w => (w.cell? ⟨b5, 1, none⟩ = some (.int .i64 y)) ∧ (W .i64 (y - (radius - rad))) ∧ True) hs (by kernel_rfl) ⟨B5.cell 1 rfl, w64 (by omega) (by omega), trivial⟩ ?_
      clear hs a; intro a hs
      refine atR_op hs (by kernel_rfl) (store1 (b := b5) (cs := #[.int .i64 x, .int .i64 y, .int .i64 (-((((k : Int) + 1) * depth + (4 * (n : Int)) - 1) / (4 * (n : Int))))]) #[.int .i64 x, .int .i64 (y - (radius - rad)), .int .i64 (-((((k : Int) + 1) * depth + (4 * (n : Int)) - 1) / (4 * (n : Int))))] [(1, .int .i64 (y - (radius - rad)))] [2, 3, 5, 9, 12, 13, 14, 15, 16, 17] [(2, .int .i64 top), (3, .int .i64 depth), (5, .pointer (some ⟨b1, 0, none⟩)), (9, .pointer (some ⟨b2, 0, none⟩)), (12, .int .i64 (radius - rad)), (13, .int .i64 (n : Int)), (14, .pointer (some ⟨b3, 0, none⟩)), (15, v), (16, .int .i64 ((k : Int) + 1)), (17, .pointer (some ⟨b5, 0, none⟩))] hs B5 (by kernel_rfl) ⟨Nat.le_of_ble_eq_true rfl, trivial, trivial⟩ rfl (by kernel_rfl) ?_)
      clear hs a; intro a w21 B5' hu hs
      replace ho := own_upd_t ho hu B5 (by decide)
      replace B5 := B5'; clear B5'
      replace B1 := hu.blk B1 (by omega)
      replace B2 := hu.blk B2 (by omega)
      replace B3 := hu.blk B3 (by omega)
      replace hB := hB.trans (hu.below (by omega))
      clear hu
      refine atR_end (by kernel_rfl) ?_
      refine wayN_node rfl ?_
      refine at_region (id := 25) (by kernel_rfl) ?_
      refine atR_seg (m := 6) (H := [(1, none, [.int .i64 x, .int .i64 (y - (radius - rad)), .int .i64 (-((((k : Int) + 1) * depth + (4 * (n : Int)) - 1) / (4 * (n : Int))))]), (2, none, [.int .i64 x, .int .i64 y]), (4, none, [.int .i64 fd])]) (ts := [2, 3, 5, 9, 12, 13, 14, 16, 170, 175]) (L' := [(2, .int .i64 top), (3, .int .i64 depth), (5, .pointer (some ⟨b1, 0, none⟩)), (9, .pointer (some ⟨b2, 0, none⟩)), (12, .int .i64 (radius - rad)), (13, .int .i64 (n : Int)), (14, .pointer (some ⟨b3, 0, none⟩)), (16, .int .i64 ((k : Int) + 1)), (170, v), (175, .agg #[.int .i64 4, .int .i64 x, .int .i64 (y - (radius - rad)), .int .i64 (-((((k : Int) + 1) * depth + (4 * (n : Int)) - 1) / (4 * (n : Int)))), .int .i64 x, .int .i64 y, .int .i64 fd])]) (O := fun w => (w.cell? ⟨b5, 0, none⟩ = some (.int .i64 x)) ∧ (w.cell? ⟨b5, 1, none⟩ = some (.int .i64 (y - (radius - rad)))) ∧ (w.cell? ⟨b5, 2, none⟩ = some (.int .i64 (-((((k : Int) + 1) * depth + (4 * (n : Int)) - 1) / (4 * (n : Int)))))) ∧ (w.cell? ⟨b1, 0, none⟩ = some (.int .i64 x)) ∧ (w.cell? ⟨b1, 1, none⟩ = some (.int .i64 y)) ∧ (w.cell? ⟨b2, 6, none⟩ = some (.int .i64 fd)) ∧ True) hs (by kernel_rfl) ⟨B5.cell 0 rfl, B5.cell 1 rfl, B5.cell 2 rfl, B1.cell 0 rfl, B1.cell 1 rfl, B2.cell 6 rfl, trivial⟩ ?_
      clear hs a; intro a hs
      refine atR_op hs (by kernel_rfl) (new1 (t := 48) (cs := #[.int .i64 4, .int .i64 x, .int .i64 (y - (radius - rad)), .int .i64 (-((((k : Int) + 1) * depth + (4 * (n : Int)) - 1) / (4 * (n : Int)))), .int .i64 x, .int .i64 y, .int .i64 fd]) (fun rb_ => .slice (some ⟨rb_, 0, none⟩) 1 1) [2, 3, 5, 9, 12, 13, 14, 16, 170, 176] (fun rb_ => [(2, .int .i64 top), (3, .int .i64 depth), (5, .pointer (some ⟨b1, 0, none⟩)), (9, .pointer (some ⟨b2, 0, none⟩)), (12, .int .i64 (radius - rad)), (13, .int .i64 (n : Int)), (14, .pointer (some ⟨b3, 0, none⟩)), (16, .int .i64 ((k : Int) + 1)), (170, v), (176, .slice (some ⟨rb_, 0, none⟩) 1 1)]) hs (fun _ => by kernel_rfl) (fun _ => by kernel_rfl) ?_)
      clear hs a; intro a w22 b9 hn hs
      have B9 := hn.blk
      have l9 : w.heap.size ≤ b9 := by rw [hn.at_]; exact hB.size
      have l9' : b5 < b9 := by rw [hn.at_]; exact B5.lt
      replace B1 := B1.below hn.below B1.lt
      replace B2 := B2.below hn.below B2.lt
      replace B3 := B3.below hn.below B3.lt
      replace B5 := B5.below hn.below B5.lt
      replace ho := own_far ho hn.below
      replace hB := later hB hn.below
      clear hn
      refine atR_op hs (by kernel_rfl) (append1 (v := v) (b := b9) (off := 0) (m := 1) (c := 1) (cs := [.int .i64 4, .int .i64 x, .int .i64 (y - (radius - rad)), .int .i64 (-((((k : Int) + 1) * depth + (4 * (n : Int)) - 1) / (4 * (n : Int)))), .int .i64 x, .int .i64 y, .int .i64 fd]) ((.tmp 170), (.tmp 176)) [2, 3, 5, 9, 12, 13, 14, 16, 177] (fun rv_ => [(2, .int .i64 top), (3, .int .i64 depth), (5, .pointer (some ⟨b1, 0, none⟩)), (9, .pointer (some ⟨b2, 0, none⟩)), (12, .int .i64 (radius - rad)), (13, .int .i64 (n : Int)), (14, .pointer (some ⟨b3, 0, none⟩)), (16, .int .i64 ((k : Int) + 1)), (177, rv_)]) hs (by kernel_rfl) rfl rfl (fun _ => by kernel_rfl) elem34 ho rfl (blk_row B9) (by simp [Value.oneCell']) (by unfold maxLen; omega) (by omega) (by have := hB.size; have := B1.lt; have := B2.lt; have := B3.lt; have := B5.lt; have := B9.lt; omega) ?_)
      clear hs a; intro v8 a w23 ho9 hg hs
      skip
      replace B1 := own_keep_t hg ho B1 (by decide)
      replace B2 := own_keep_t hg ho B2 (by decide)
      replace B3 := own_keep_t hg ho B3 (by decide)
      replace B5 := own_keep_t hg ho B5 (by decide)
      replace hB := hB.grown hg hB.size (fun kk hk => Nat.le_trans (by omega) (ho.lt kk hk).1)
      clear hg B9 ho
      refine atR_seg (m := 1) (H := []) (ts := [2, 3, 5, 9, 12, 13, 14, 15, 16]) (L' := [(2, .int .i64 top), (3, .int .i64 depth), (5, .pointer (some ⟨b1, 0, none⟩)), (9, .pointer (some ⟨b2, 0, none⟩)), (12, .int .i64 (radius - rad)), (13, .int .i64 (n : Int)), (14, .pointer (some ⟨b3, 0, none⟩)), (15, v8), (16, .int .i64 ((k : Int) + 1))]) (O := fun w => True) hs (by kernel_rfl) trivial ?_
      clear hs a; intro a hs
      refine atR_end (by kernel_rfl) ?_
      refine wayN_node rfl ?_
      refine at_region (id := 15) (by kernel_rfl) ?_
      refine atR_seg (m := 3) (H := [(1, some (.int .i64 ((k : Int) + 1 + 1)), [])]) (ts := [2, 3, 5, 9, 12, 13, 14, 15, 16]) (L' := [(2, .int .i64 top), (3, .int .i64 depth), (5, .pointer (some ⟨b1, 0, none⟩)), (9, .pointer (some ⟨b2, 0, none⟩)), (12, .int .i64 (radius - rad)), (13, .int .i64 (n : Int)), (14, .pointer (some ⟨b3, 0, none⟩)), (15, v8), (16, .int .i64 ((k : Int) + 1 + 1))]) (O := fun w => (W .i64 ((k : Int) + 1 + 1)) ∧ True) hs (by kernel_rfl) ⟨w64 (by omega) (by omega), trivial⟩ ?_
      clear hs a; intro a hs
      refine atR_end (by kernel_rfl) ?_
      refine wayN_back ?_
      dsimp only [lpOf]
      exact ⟨k + 1, v8, ⟨hs.sub ⟨⟨_, rfl, rfl⟩, ⟨_, rfl, rfl⟩, ⟨_, rfl, rfl⟩, ⟨_, rfl, rfl⟩, ⟨_, rfl, rfl⟩, ⟨_, rfl, rfl⟩, ⟨_, rfl, rfl⟩, ⟨_, rfl, rfl⟩, ⟨_, rfl, (by first | rfl | (push_cast; rfl) | (congr 1; omega))⟩, trivial⟩, B1, B2, B3, hB, by omega, by rw [arcs_succ, har]; simpa [mvc] using ho9⟩, by omega⟩
  · have cd1 := hb; have cd1b := hb; clear hb
    replace cd1 := of_decide_eq_false cd1
    refine at_exit (id := 0) (by kernel_rfl) (wayE_ok rfl ?_)
    refine wayN_node rfl ?_
    refine at_seq (j := 78) (by kernel_rfl) ?_
    refine at_region (id := 26) (by kernel_rfl) ?_
    refine atR_seg (m := 3) (H := [(1, some (.int .i64 (-depth)), [])]) (ts := [2, 3, 5, 9, 14, 15, 179, 180]) (L' := [(2, .int .i64 top), (3, .int .i64 depth), (5, .pointer (some ⟨b1, 0, none⟩)), (9, .pointer (some ⟨b2, 0, none⟩)), (14, .pointer (some ⟨b3, 0, none⟩)), (15, v), (179, .int .i64 (-depth)), (180, .pointer (some ⟨b3, 2, none⟩))]) (O := fun w => (Wn .i64 depth) ∧ True) hs (by kernel_rfl) ⟨wn64 (by omega) (by omega), trivial⟩ ?_
    clear hs a; intro a hs
    refine atR_op hs (by kernel_rfl) (store1 (b := b3) (cs := #[.int .i64 (x + (radius - rad)), .int .i64 y, .int .i64 0]) #[.int .i64 (x + (radius - rad)), .int .i64 y, .int .i64 (-depth)] [(2, .int .i64 (-depth))] [2, 3, 5, 9, 14, 15] [(2, .int .i64 top), (3, .int .i64 depth), (5, .pointer (some ⟨b1, 0, none⟩)), (9, .pointer (some ⟨b2, 0, none⟩)), (14, .pointer (some ⟨b3, 0, none⟩)), (15, v)] hs B3 (by kernel_rfl) ⟨Nat.le_of_ble_eq_true rfl, trivial, trivial⟩ rfl (by kernel_rfl) ?_)
    clear hs a; intro a w24 B3' hu hs
    replace ho := own_upd_t ho hu B3 (by decide)
    replace B3 := B3'; clear B3'
    replace B1 := hu.blk B1 (by omega)
    replace B2 := hu.blk B2 (by omega)
    replace hB := hB.trans (hu.below (by omega))
    clear hu
    refine atR_end (by kernel_rfl) ?_
    refine wayN_node rfl ?_
    refine at_seq (j := 80) (by kernel_rfl) ?_
    refine at_region (id := 27) (by kernel_rfl) ?_
    refine atR_seg (m := 6) (H := [(1, none, [.int .i64 (x + (radius - rad)), .int .i64 y, .int .i64 (-depth)]), (2, none, [.int .i64 x, .int .i64 y]), (4, none, [.int .i64 fd])]) (ts := [2, 3, 5, 9, 181, 186]) (L' := [(2, .int .i64 top), (3, .int .i64 depth), (5, .pointer (some ⟨b1, 0, none⟩)), (9, .pointer (some ⟨b2, 0, none⟩)), (181, v), (186, .agg #[.int .i64 4, .int .i64 (x + (radius - rad)), .int .i64 y, .int .i64 (-depth), .int .i64 x, .int .i64 y, .int .i64 fd])]) (O := fun w => (w.cell? ⟨b3, 0, none⟩ = some (.int .i64 (x + (radius - rad)))) ∧ (w.cell? ⟨b3, 1, none⟩ = some (.int .i64 y)) ∧ (w.cell? ⟨b3, 2, none⟩ = some (.int .i64 (-depth))) ∧ (w.cell? ⟨b1, 0, none⟩ = some (.int .i64 x)) ∧ (w.cell? ⟨b1, 1, none⟩ = some (.int .i64 y)) ∧ (w.cell? ⟨b2, 6, none⟩ = some (.int .i64 fd)) ∧ True) hs (by kernel_rfl) ⟨B3.cell 0 rfl, B3.cell 1 rfl, B3.cell 2 rfl, B1.cell 0 rfl, B1.cell 1 rfl, B2.cell 6 rfl, trivial⟩ ?_
    clear hs a; intro a hs
    refine atR_op hs (by kernel_rfl) (new1 (t := 48) (cs := #[.int .i64 4, .int .i64 (x + (radius - rad)), .int .i64 y, .int .i64 (-depth), .int .i64 x, .int .i64 y, .int .i64 fd]) (fun rb_ => .slice (some ⟨rb_, 0, none⟩) 1 1) [2, 3, 5, 9, 181, 187] (fun rb_ => [(2, .int .i64 top), (3, .int .i64 depth), (5, .pointer (some ⟨b1, 0, none⟩)), (9, .pointer (some ⟨b2, 0, none⟩)), (181, v), (187, .slice (some ⟨rb_, 0, none⟩) 1 1)]) hs (fun _ => by kernel_rfl) (fun _ => by kernel_rfl) ?_)
    clear hs a; intro a w25 b10 hn hs
    have B10 := hn.blk
    have l10 : w.heap.size ≤ b10 := by rw [hn.at_]; exact hB.size
    have l10' : b3 < b10 := by rw [hn.at_]; exact B3.lt
    replace B1 := B1.below hn.below B1.lt
    replace B2 := B2.below hn.below B2.lt
    replace B3 := B3.below hn.below B3.lt
    replace ho := own_far ho hn.below
    replace hB := later hB hn.below
    clear hn
    refine atR_op hs (by kernel_rfl) (append1 (v := v) (b := b10) (off := 0) (m := 1) (c := 1) (cs := [.int .i64 4, .int .i64 (x + (radius - rad)), .int .i64 y, .int .i64 (-depth), .int .i64 x, .int .i64 y, .int .i64 fd]) ((.tmp 181), (.tmp 187)) [2, 3, 5, 9, 188] (fun rv_ => [(2, .int .i64 top), (3, .int .i64 depth), (5, .pointer (some ⟨b1, 0, none⟩)), (9, .pointer (some ⟨b2, 0, none⟩)), (188, rv_)]) hs (by kernel_rfl) rfl rfl (fun _ => by kernel_rfl) elem34 ho rfl (blk_row B10) (by simp [Value.oneCell']) (by unfold maxLen; omega) (by omega) (by have := hB.size; have := B1.lt; have := B2.lt; have := B3.lt; have := B10.lt; omega) ?_)
    clear hs a; intro v10 a w26 ho11 hg hs
    skip
    replace B1 := own_keep_t hg ho B1 (by decide)
    replace B2 := own_keep_t hg ho B2 (by decide)
    replace B3 := own_keep_t hg ho B3 (by decide)
    replace hB := hB.grown hg hB.size (fun kk hk => Nat.le_trans (by omega) (ho.lt kk hk).1)
    clear hg B10 ho
    refine atR_seg (m := 1) (H := []) (ts := [2, 3, 5, 9, 15]) (L' := [(2, .int .i64 top), (3, .int .i64 depth), (5, .pointer (some ⟨b1, 0, none⟩)), (9, .pointer (some ⟨b2, 0, none⟩)), (15, v10)]) (O := fun w => True) hs (by kernel_rfl) trivial ?_
    clear hs a; intro a hs
    refine atR_end (by kernel_rfl) ?_
    refine wayN_node rfl ?_
    refine at_seq (j := 82) (by kernel_rfl) ?_
    refine at_region (id := 28) (by kernel_rfl) ?_
    refine atR_seg (m := 11) (H := [(2, none, [.int .i64 x]), (4, none, [.int .i64 y]), (6, some (.int .i64 (-depth)), []), (9, none, [.int .i64 fd])]) (ts := [2, 5, 189, 199]) (L' := [(2, .int .i64 top), (5, .pointer (some ⟨b1, 0, none⟩)), (189, v10), (199, .agg #[.int .i64 2, .int .i64 x, .int .i64 y, .int .i64 (-depth), .int .i64 0, .int .i64 0, .int .i64 fd])]) (O := fun w => (w.cell? ⟨b1, 0, none⟩ = some (.int .i64 x)) ∧ (w.cell? ⟨b1, 1, none⟩ = some (.int .i64 y)) ∧ (Wn .i64 depth) ∧ (w.cell? ⟨b2, 6, none⟩ = some (.int .i64 fd)) ∧ True) hs (by kernel_rfl) ⟨B1.cell 0 rfl, B1.cell 1 rfl, wn64 (by omega) (by omega), B2.cell 6 rfl, trivial⟩ ?_
    clear hs a; intro a hs
    refine atR_op hs (by kernel_rfl) (new1 (t := 48) (cs := #[.int .i64 2, .int .i64 x, .int .i64 y, .int .i64 (-depth), .int .i64 0, .int .i64 0, .int .i64 fd]) (fun rb_ => .slice (some ⟨rb_, 0, none⟩) 1 1) [2, 5, 189, 200] (fun rb_ => [(2, .int .i64 top), (5, .pointer (some ⟨b1, 0, none⟩)), (189, v10), (200, .slice (some ⟨rb_, 0, none⟩) 1 1)]) hs (fun _ => by kernel_rfl) (fun _ => by kernel_rfl) ?_)
    clear hs a; intro a w27 b11 hn hs
    have B11 := hn.blk
    have l11 : w.heap.size ≤ b11 := by rw [hn.at_]; exact hB.size
    have l11' : b3 < b11 := by rw [hn.at_]; exact B3.lt
    replace B1 := B1.below hn.below B1.lt
    replace B2 := B2.below hn.below B2.lt
    replace B3 := B3.below hn.below B3.lt
    replace ho11 := own_far ho11 hn.below
    replace hB := later hB hn.below
    clear hn
    refine atR_op hs (by kernel_rfl) (append1 (v := v10) (b := b11) (off := 0) (m := 1) (c := 1) (cs := [.int .i64 2, .int .i64 x, .int .i64 y, .int .i64 (-depth), .int .i64 0, .int .i64 0, .int .i64 fd]) ((.tmp 189), (.tmp 200)) [2, 5, 201] (fun rv_ => [(2, .int .i64 top), (5, .pointer (some ⟨b1, 0, none⟩)), (201, rv_)]) hs (by kernel_rfl) rfl rfl (fun _ => by kernel_rfl) elem34 ho11 rfl (blk_row B11) (by simp [Value.oneCell']) (by unfold maxLen; omega) (by omega) (by have := hB.size; have := B1.lt; have := B2.lt; have := B3.lt; have := B11.lt; omega) ?_)
    clear hs a; intro v12 a w28 ho13 hg hs
    skip
    replace B1 := own_keep_t hg ho11 B1 (by decide)
    replace B2 := own_keep_t hg ho11 B2 (by decide)
    replace B3 := own_keep_t hg ho11 B3 (by decide)
    replace hB := hB.grown hg hB.size (fun kk hk => Nat.le_trans (by omega) (ho11.lt kk hk).1)
    clear hg B11 ho11
    refine atR_seg (m := 1) (H := []) (ts := [2, 5, 15]) (L' := [(2, .int .i64 top), (5, .pointer (some ⟨b1, 0, none⟩)), (15, v12)]) (O := fun w => True) hs (by kernel_rfl) trivial ?_
    clear hs a; intro a hs
    refine atR_end (by kernel_rfl) ?_
    refine wayN_node rfl ?_
    refine at_seq (j := 84) (by kernel_rfl) ?_
    refine at_region (id := 29) (by kernel_rfl) ?_
    refine atR_seg (m := 8) (H := [(2, none, [.int .i64 x]), (4, none, [.int .i64 y])]) (ts := [202, 209]) (L' := [(202, v12), (209, .agg #[.int .i64 1, .int .i64 x, .int .i64 y, .int .i64 top, .int .i64 0, .int .i64 0, .int .i64 0])]) (O := fun w => (w.cell? ⟨b1, 0, none⟩ = some (.int .i64 x)) ∧ (w.cell? ⟨b1, 1, none⟩ = some (.int .i64 y)) ∧ True) hs (by kernel_rfl) ⟨B1.cell 0 rfl, B1.cell 1 rfl, trivial⟩ ?_
    clear hs a; intro a hs
    refine atR_op hs (by kernel_rfl) (new1 (t := 48) (cs := #[.int .i64 1, .int .i64 x, .int .i64 y, .int .i64 top, .int .i64 0, .int .i64 0, .int .i64 0]) (fun rb_ => .slice (some ⟨rb_, 0, none⟩) 1 1) [202, 210] (fun rb_ => [(202, v12), (210, .slice (some ⟨rb_, 0, none⟩) 1 1)]) hs (fun _ => by kernel_rfl) (fun _ => by kernel_rfl) ?_)
    clear hs a; intro a w29 b12 hn hs
    have B12 := hn.blk
    have l12 : w.heap.size ≤ b12 := by rw [hn.at_]; exact hB.size
    have l12' : b3 < b12 := by rw [hn.at_]; exact B3.lt
    replace B1 := B1.below hn.below B1.lt
    replace B2 := B2.below hn.below B2.lt
    replace B3 := B3.below hn.below B3.lt
    replace ho13 := own_far ho13 hn.below
    replace hB := later hB hn.below
    clear hn
    refine atR_op hs (by kernel_rfl) (append1 (v := v12) (b := b12) (off := 0) (m := 1) (c := 1) (cs := [.int .i64 1, .int .i64 x, .int .i64 y, .int .i64 top, .int .i64 0, .int .i64 0, .int .i64 0]) ((.tmp 202), (.tmp 210)) [211] (fun rv_ => [(211, rv_)]) hs (by kernel_rfl) rfl rfl (fun _ => by kernel_rfl) elem34 ho13 rfl (blk_row B12) (by simp [Value.oneCell']) (by unfold maxLen; omega) (by omega) (by have := hB.size; have := B1.lt; have := B2.lt; have := B3.lt; have := B12.lt; omega) ?_)
    clear hs a; intro v14 a w30 ho15 hg hs
    skip
    replace B1 := own_keep_t hg ho13 B1 (by decide)
    replace B2 := own_keep_t hg ho13 B2 (by decide)
    replace B3 := own_keep_t hg ho13 B3 (by decide)
    replace hB := hB.grown hg hB.size (fun kk hk => Nat.le_trans (by omega) (ho13.lt kk hk).1)
    clear hg B12 ho13
    refine atR_seg (m := 2) (H := []) (ts := [10, 11]) (L' := [(10, v14), (11, .int .i64 0)]) (O := fun w => True) hs (by kernel_rfl) trivial ?_
    clear hs a; intro a hs
    refine atR_end (by kernel_rfl) ?_
    refine wayN_node rfl ?_
    refine at_ret (by kernel_rfl) ?_
    refine at_end (vs := [v14, .int .i64 0]) (H := []) (v := .tuple #[v14, .int .i64 0]) (O := fun w => True) hs (by kernel_rfl) rfl trivial ?_
    have hkk : k = 4 * n := by omega
    subst hkk
    exact ⟨_, rfl, by unfold boreC; rw [show (4 * (n : Int)).toNat = 4 * n by omega]; have hh := Rd.of_own (by decide) ho15; simpa [mvc] using hh, hB⟩
set_option maxHeartbeats 1000000 in
theorem rbore_bad (x y radius top depth num kind rad flu hol stp fd plu : Int) (w : World) (br : i64 radius) (bd : i64 depth) (hgood : (⟨num, kind, rad, flu, hol, stp, fd, plu⟩ : Tl).good = false) :
    Calls Tryd.prog 13 #[.agg #[.int .i64 x, .int .i64 y], .int .i64 radius, .int .i64 top, .int .i64 depth, (⟨num, kind, rad, flu, hol, stp, fd, plu⟩ : Tl).v] w fun e w' => e = .returned (.tuple #[.slice none 0 0, .int .i64 (boreErr (⟨num, kind, rad, flu, hol, stp, fd, plu⟩ : Tl) x y radius top depth)]) ∧ Below w.heap.size w w' := by
  have e1 : decide (radius < 1) = decide (radius ≤ 0) := by congr 1; apply propext; omega
  have e2 : decide (depth < 1) = decide (depth ≤ 0) := by congr 1; apply propext; omega
  have hB : Below w.heap.size w w := Below.refl _ _
  refine enter (B := body13) (args := [.agg #[.int .i64 x, .int .i64 y], .int .i64 radius, .int .i64 top, .int .i64 depth, .agg #[.int .i64 num, .int .i64 kind, .int .i64 rad, .int .i64 flu, .int .i64 hol, .int .i64 stp, .int .i64 fd, .int .i64 plu]]) Tryd.func13 (by kernel_rfl) (by kernel_rfl) ?_
  rw [show Tryd.f13.ntmps = 212 from by kernel_rfl]
  intro a hs
  replace hs := hs.pick (ts := [0, 1, 2, 3, 4]) (L' := [(0, .agg #[.int .i64 x, .int .i64 y]), (1, .int .i64 radius), (2, .int .i64 top), (3, .int .i64 depth), (4, .agg #[.int .i64 num, .int .i64 kind, .int .i64 rad, .int .i64 flu, .int .i64 hol, .int .i64 stp, .int .i64 fd, .int .i64 plu])]) (by kernel_rfl)
  refine at_seq (j := 2) (by kernel_rfl) ?_
  refine at_region (id := 0) (by kernel_rfl) ?_
  refine atR_op hs (by kernel_rfl) (new1 (t := 30) (cs := #[.int .i64 x, .int .i64 y]) (fun rb_ => .pointer (some ⟨rb_, 0, none⟩)) [1, 2, 3, 4, 5] (fun rb_ => [(1, .int .i64 radius), (2, .int .i64 top), (3, .int .i64 depth), (4, .agg #[.int .i64 num, .int .i64 kind, .int .i64 rad, .int .i64 flu, .int .i64 hol, .int .i64 stp, .int .i64 fd, .int .i64 plu]), (5, .pointer (some ⟨rb_, 0, none⟩))]) hs (fun _ => by kernel_rfl) (fun _ => by kernel_rfl) ?_)
  clear hs a; intro a w1 b1 hn hs
  have B1 := hn.blk
  have l1 : w.heap.size ≤ b1 := by rw [hn.at_]; exact hB.size
  replace hB := later hB hn.below
  clear hn
  refine atR_op hs (by kernel_rfl) (new1 (t := 33) (cs := #[.int .i64 num, .int .i64 kind, .int .i64 rad, .int .i64 flu, .int .i64 hol, .int .i64 stp, .int .i64 fd, .int .i64 plu]) (fun rb_ => .pointer (some ⟨rb_, 0, none⟩)) [1, 2, 3, 5, 9] (fun rb_ => [(1, .int .i64 radius), (2, .int .i64 top), (3, .int .i64 depth), (5, .pointer (some ⟨b1, 0, none⟩)), (9, .pointer (some ⟨rb_, 0, none⟩))]) hs (fun _ => by kernel_rfl) (fun _ => by kernel_rfl) ?_)
  clear hs a; intro a w2 b2 hn hs
  have B2 := hn.blk
  have l2 : w.heap.size ≤ b2 := by rw [hn.at_]; exact hB.size
  have l2' : b1 < b2 := by rw [hn.at_]; exact B1.lt
  replace B1 := B1.below hn.below B1.lt
  replace hB := later hB hn.below
  clear hn
  refine atR_seg (m := 2) (H := []) (ts := [1, 2, 3, 5, 9]) (L' := [(1, .int .i64 radius), (2, .int .i64 top), (3, .int .i64 depth), (5, .pointer (some ⟨b1, 0, none⟩)), (9, .pointer (some ⟨b2, 0, none⟩))]) (O := fun w => True) hs (by kernel_rfl) trivial ?_
  clear hs a; intro a hs
  refine atR_end (by kernel_rfl) ?_
  refine wayN_node rfl ?_
  refine at_seq (j := 10) (by kernel_rfl) ?_
  refine at_seq (j := 5) (by kernel_rfl) ?_
  refine at_region (id := 1) (by kernel_rfl) ?_
  refine atR_seg (m := 1) (H := [(0, none, [.int .i64 num, .int .i64 kind, .int .i64 rad, .int .i64 flu, .int .i64 hol, .int .i64 stp, .int .i64 fd, .int .i64 plu])]) (ts := [1, 2, 3, 5, 9, 18]) (L' := [(1, .int .i64 radius), (2, .int .i64 top), (3, .int .i64 depth), (5, .pointer (some ⟨b1, 0, none⟩)), (9, .pointer (some ⟨b2, 0, none⟩)), (18, .agg #[.int .i64 num, .int .i64 kind, .int .i64 rad, .int .i64 flu, .int .i64 hol, .int .i64 stp, .int .i64 fd, .int .i64 plu])]) (O := fun w => (w.cell? ⟨b2, 0, none⟩ = some (.int .i64 num)) ∧ (w.cell? ⟨b2, 1, none⟩ = some (.int .i64 kind)) ∧ (w.cell? ⟨b2, 2, none⟩ = some (.int .i64 rad)) ∧ (w.cell? ⟨b2, 3, none⟩ = some (.int .i64 flu)) ∧ (w.cell? ⟨b2, 4, none⟩ = some (.int .i64 hol)) ∧ (w.cell? ⟨b2, 5, none⟩ = some (.int .i64 stp)) ∧ (w.cell? ⟨b2, 6, none⟩ = some (.int .i64 fd)) ∧ (w.cell? ⟨b2, 7, none⟩ = some (.int .i64 plu)) ∧ True) hs (by kernel_rfl) ⟨B2.cell 0 rfl, B2.cell 1 rfl, B2.cell 2 rfl, B2.cell 3 rfl, B2.cell 4 rfl, B2.cell 5 rfl, B2.cell 6 rfl, B2.cell 7 rfl, trivial⟩ ?_
  clear hs a; intro a hs
  refine atR_op hs (by kernel_rfl) (call1 (f := 18) (args := #[.agg #[.int .i64 num, .int .i64 kind, .int .i64 rad, .int .i64 flu, .int .i64 hol, .int .i64 stp, .int .i64 fd, .int .i64 plu]]) [1, 2, 3, 5, 9, 19] (fun rv_ => [(1, .int .i64 radius), (2, .int .i64 top), (3, .int .i64 depth), (5, .pointer (some ⟨b1, 0, none⟩)), (9, .pointer (some ⟨b2, 0, none⟩)), (19, rv_)]) hs (by kernel_rfl) (fun _ => by kernel_rfl) ?_)
  refine (good_any (⟨num, kind, rad, flu, hol, stp, fd, plu⟩ : Tl) _).mono ?_
  rintro e w3 ⟨rfl, hb⟩
  rw [hgood]
  refine ⟨_, rfl, ?_⟩
  clear hs a; intro a hs
  replace B1 := B1.below hb B1.lt
  replace B2 := B2.below hb B2.lt
  replace hB := later hB hb
  clear hb
  refine atR_seg (m := 18) (H := []) (ts := [1, 2, 3, 5, 9, 37]) (L' := [(1, .int .i64 radius), (2, .int .i64 top), (3, .int .i64 depth), (5, .pointer (some ⟨b1, 0, none⟩)), (9, .pointer (some ⟨b2, 0, none⟩)), (37, .bool true)]) (O := fun w => True) hs (by kernel_rfl) trivial ?_
  clear hs a; intro a hs
  refine atR_end (by kernel_rfl) ?_
  refine wayN_node rfl ?_
  refine at_cond (t := 37) (j1 := 6) (j2 := 9) (b := true) (by kernel_rfl) hs rfl (fun _ => ?_) (fun hb => absurd (hb.symm.trans (show (true) = true from rfl)) (by decide))
  refine at_seq (j := 8) (by kernel_rfl) ?_
  refine at_region (id := 2) (by kernel_rfl) ?_
  refine atR_seg (m := 2) (H := []) (ts := [10, 11]) (L' := [(10, .slice none 0 0), (11, .int .i64 1)]) (O := fun w => True) hs (by kernel_rfl) trivial ?_
  clear hs a; intro a hs
  refine atR_end (by kernel_rfl) ?_
  refine wayN_node rfl ?_
  refine at_ret (by kernel_rfl) ?_
  refine at_end (vs := [.slice none 0 0, .int .i64 1]) (H := []) (v := .tuple #[.slice none 0 0, .int .i64 1]) (O := fun w => True) hs (by kernel_rfl) rfl trivial ?_
  exact ⟨by rw [show boreErr (⟨num, kind, rad, flu, hol, stp, fd, plu⟩ : Tl) x y radius top depth = 1 from by (unfold boreErr outB; dsimp only; (rw [e1, e2, hgood]) <;> rfl)], hB⟩
set_option maxHeartbeats 4000000 in
theorem rbore_err (x y radius top depth num kind rad flu hol stp fd plu : Int) (w : World) (br : i64 radius) (bd : i64 depth) (hgood : (⟨num, kind, rad, flu, hol, stp, fd, plu⟩ : Tl).good = true) (hne : ¬ boreErr (⟨num, kind, rad, flu, hol, stp, fd, plu⟩ : Tl) x y radius top depth = 0) :
    Calls Tryd.prog 13 #[.agg #[.int .i64 x, .int .i64 y], .int .i64 radius, .int .i64 top, .int .i64 depth, (⟨num, kind, rad, flu, hol, stp, fd, plu⟩ : Tl).v] w fun e w' => e = .returned (.tuple #[.slice none 0 0, .int .i64 (boreErr (⟨num, kind, rad, flu, hol, stp, fd, plu⟩ : Tl) x y radius top depth)]) ∧ Below w.heap.size w w' := by
  have e1 : decide (radius < 1) = decide (radius ≤ 0) := by congr 1; apply propext; omega
  have e2 : decide (depth < 1) = decide (depth ≤ 0) := by congr 1; apply propext; omega
  have hG : (⟨num, kind, rad, flu, hol, stp, fd, plu⟩ : Tl).Good := of_decide_eq_true hgood
  unfold Tl.Good at hG
  dsimp only at hG
  obtain ⟨_, br⟩ := br
  obtain ⟨_, bd⟩ := bd
  obtain ⟨q1, q2, q3, q4, ⟨q5, q6⟩, ⟨q7, q8⟩, ⟨q9, q10⟩, q11, q12, q13, q14, q15⟩ := hG
  have hB : Below w.heap.size w w := Below.refl _ _
  refine enter (B := body13) (args := [.agg #[.int .i64 x, .int .i64 y], .int .i64 radius, .int .i64 top, .int .i64 depth, .agg #[.int .i64 num, .int .i64 kind, .int .i64 rad, .int .i64 flu, .int .i64 hol, .int .i64 stp, .int .i64 fd, .int .i64 plu]]) Tryd.func13 (by kernel_rfl) (by kernel_rfl) ?_
  rw [show Tryd.f13.ntmps = 212 from by kernel_rfl]
  intro a hs
  replace hs := hs.pick (ts := [0, 1, 2, 3, 4]) (L' := [(0, .agg #[.int .i64 x, .int .i64 y]), (1, .int .i64 radius), (2, .int .i64 top), (3, .int .i64 depth), (4, .agg #[.int .i64 num, .int .i64 kind, .int .i64 rad, .int .i64 flu, .int .i64 hol, .int .i64 stp, .int .i64 fd, .int .i64 plu])]) (by kernel_rfl)
  refine at_seq (j := 2) (by kernel_rfl) ?_
  refine at_region (id := 0) (by kernel_rfl) ?_
  refine atR_op hs (by kernel_rfl) (new1 (t := 30) (cs := #[.int .i64 x, .int .i64 y]) (fun rb_ => .pointer (some ⟨rb_, 0, none⟩)) [1, 2, 3, 4, 5] (fun rb_ => [(1, .int .i64 radius), (2, .int .i64 top), (3, .int .i64 depth), (4, .agg #[.int .i64 num, .int .i64 kind, .int .i64 rad, .int .i64 flu, .int .i64 hol, .int .i64 stp, .int .i64 fd, .int .i64 plu]), (5, .pointer (some ⟨rb_, 0, none⟩))]) hs (fun _ => by kernel_rfl) (fun _ => by kernel_rfl) ?_)
  clear hs a; intro a w1 b1 hn hs
  have B1 := hn.blk
  have l1 : w.heap.size ≤ b1 := by rw [hn.at_]; exact hB.size
  replace hB := later hB hn.below
  clear hn
  refine atR_op hs (by kernel_rfl) (new1 (t := 33) (cs := #[.int .i64 num, .int .i64 kind, .int .i64 rad, .int .i64 flu, .int .i64 hol, .int .i64 stp, .int .i64 fd, .int .i64 plu]) (fun rb_ => .pointer (some ⟨rb_, 0, none⟩)) [1, 2, 3, 5, 9] (fun rb_ => [(1, .int .i64 radius), (2, .int .i64 top), (3, .int .i64 depth), (5, .pointer (some ⟨b1, 0, none⟩)), (9, .pointer (some ⟨rb_, 0, none⟩))]) hs (fun _ => by kernel_rfl) (fun _ => by kernel_rfl) ?_)
  clear hs a; intro a w2 b2 hn hs
  have B2 := hn.blk
  have l2 : w.heap.size ≤ b2 := by rw [hn.at_]; exact hB.size
  have l2' : b1 < b2 := by rw [hn.at_]; exact B1.lt
  replace B1 := B1.below hn.below B1.lt
  replace hB := later hB hn.below
  clear hn
  refine atR_seg (m := 2) (H := []) (ts := [1, 2, 3, 5, 9]) (L' := [(1, .int .i64 radius), (2, .int .i64 top), (3, .int .i64 depth), (5, .pointer (some ⟨b1, 0, none⟩)), (9, .pointer (some ⟨b2, 0, none⟩))]) (O := fun w => True) hs (by kernel_rfl) trivial ?_
  clear hs a; intro a hs
  refine atR_end (by kernel_rfl) ?_
  refine wayN_node rfl ?_
  refine at_seq (j := 10) (by kernel_rfl) ?_
  refine at_seq (j := 5) (by kernel_rfl) ?_
  refine at_region (id := 1) (by kernel_rfl) ?_
  refine atR_seg (m := 1) (H := [(0, none, [.int .i64 num, .int .i64 kind, .int .i64 rad, .int .i64 flu, .int .i64 hol, .int .i64 stp, .int .i64 fd, .int .i64 plu])]) (ts := [1, 2, 3, 5, 9, 18]) (L' := [(1, .int .i64 radius), (2, .int .i64 top), (3, .int .i64 depth), (5, .pointer (some ⟨b1, 0, none⟩)), (9, .pointer (some ⟨b2, 0, none⟩)), (18, .agg #[.int .i64 num, .int .i64 kind, .int .i64 rad, .int .i64 flu, .int .i64 hol, .int .i64 stp, .int .i64 fd, .int .i64 plu])]) (O := fun w => (w.cell? ⟨b2, 0, none⟩ = some (.int .i64 num)) ∧ (w.cell? ⟨b2, 1, none⟩ = some (.int .i64 kind)) ∧ (w.cell? ⟨b2, 2, none⟩ = some (.int .i64 rad)) ∧ (w.cell? ⟨b2, 3, none⟩ = some (.int .i64 flu)) ∧ (w.cell? ⟨b2, 4, none⟩ = some (.int .i64 hol)) ∧ (w.cell? ⟨b2, 5, none⟩ = some (.int .i64 stp)) ∧ (w.cell? ⟨b2, 6, none⟩ = some (.int .i64 fd)) ∧ (w.cell? ⟨b2, 7, none⟩ = some (.int .i64 plu)) ∧ True) hs (by kernel_rfl) ⟨B2.cell 0 rfl, B2.cell 1 rfl, B2.cell 2 rfl, B2.cell 3 rfl, B2.cell 4 rfl, B2.cell 5 rfl, B2.cell 6 rfl, B2.cell 7 rfl, trivial⟩ ?_
  clear hs a; intro a hs
  refine atR_op hs (by kernel_rfl) (call1 (f := 18) (args := #[.agg #[.int .i64 num, .int .i64 kind, .int .i64 rad, .int .i64 flu, .int .i64 hol, .int .i64 stp, .int .i64 fd, .int .i64 plu]]) [1, 2, 3, 5, 9, 19] (fun rv_ => [(1, .int .i64 radius), (2, .int .i64 top), (3, .int .i64 depth), (5, .pointer (some ⟨b1, 0, none⟩)), (9, .pointer (some ⟨b2, 0, none⟩)), (19, rv_)]) hs (by kernel_rfl) (fun _ => by kernel_rfl) ?_)
  refine (good_any (⟨num, kind, rad, flu, hol, stp, fd, plu⟩ : Tl) _).mono ?_
  rintro e w3 ⟨rfl, hb⟩
  rw [hgood]
  refine ⟨_, rfl, ?_⟩
  clear hs a; intro a hs
  replace B1 := B1.below hb B1.lt
  replace B2 := B2.below hb B2.lt
  replace hB := later hB hb
  clear hb
  refine atR_seg (m := 7) (H := [(5, none, [.int .i64 kind])]) (ts := [1, 2, 3, 5, 9, 26]) (L' := [(1, .int .i64 radius), (2, .int .i64 top), (3, .int .i64 depth), (5, .pointer (some ⟨b1, 0, none⟩)), (9, .pointer (some ⟨b2, 0, none⟩)), (26, .bool (kind != 1))]) (O := fun w => (w.cell? ⟨b2, 1, none⟩ = some (.int .i64 kind)) ∧ True) hs (by kernel_rfl) ⟨B2.cell 1 rfl, trivial⟩ ?_
  clear hs a; intro a hs
  rcases Bool.eq_false_or_eq_true (kind != 1) with hb | hb
  · replace hs := hs.know (t := 26) rfl hb
    have cd1 := hb; have cd1b := hb; clear hb
    replace cd1 := bne_iff_ne.1 cd1
    replace hs := hs.pick (ts := [1, 2, 3, 5, 9, 26]) (L' := [(1, .int .i64 radius), (2, .int .i64 top), (3, .int .i64 depth), (5, .pointer (some ⟨b1, 0, none⟩)), (9, .pointer (some ⟨b2, 0, none⟩)), (26, .bool true)]) (by kernel_rfl)
    refine atR_seg (m := 11) (H := []) (ts := [1, 2, 3, 5, 9, 37]) (L' := [(1, .int .i64 radius), (2, .int .i64 top), (3, .int .i64 depth), (5, .pointer (some ⟨b1, 0, none⟩)), (9, .pointer (some ⟨b2, 0, none⟩)), (37, .bool true)]) (O := fun w => True) hs (by kernel_rfl) trivial ?_
    clear hs a; intro a hs
    refine atR_end (by kernel_rfl) ?_
    refine wayN_node rfl ?_
    refine at_cond (t := 37) (j1 := 6) (j2 := 9) (b := true) (by kernel_rfl) hs rfl (fun _ => ?_) (fun hb => absurd (hb.symm.trans (show (true) = true from rfl)) (by decide))
    refine at_seq (j := 8) (by kernel_rfl) ?_
    refine at_region (id := 2) (by kernel_rfl) ?_
    refine atR_seg (m := 2) (H := []) (ts := [10, 11]) (L' := [(10, .slice none 0 0), (11, .int .i64 1)]) (O := fun w => True) hs (by kernel_rfl) trivial ?_
    clear hs a; intro a hs
    refine atR_end (by kernel_rfl) ?_
    refine wayN_node rfl ?_
    refine at_ret (by kernel_rfl) ?_
    refine at_end (vs := [.slice none 0 0, .int .i64 1]) (H := []) (v := .tuple #[.slice none 0 0, .int .i64 1]) (O := fun w => True) hs (by kernel_rfl) rfl trivial ?_
    exact ⟨by rw [show boreErr (⟨num, kind, rad, flu, hol, stp, fd, plu⟩ : Tl) x y radius top depth = 1 from by (unfold boreErr outB; dsimp only; (rw [e1, e2, hgood, cd1b]) <;> rfl)], hB⟩
  · replace hs := hs.know (t := 26) rfl hb
    have cd1 := hb; have cd1b := hb; clear hb
    replace cd1 := bne_eq_false_iff_eq.1 cd1
    replace hs := hs.pick (ts := [1, 2, 3, 5, 9, 26]) (L' := [(1, .int .i64 radius), (2, .int .i64 top), (3, .int .i64 depth), (5, .pointer (some ⟨b1, 0, none⟩)), (9, .pointer (some ⟨b2, 0, none⟩)), (26, .bool false)]) (by kernel_rfl)
    refine atR_seg (m := 4) (H := []) (ts := [1, 2, 3, 5, 9, 30]) (L' := [(1, .int .i64 radius), (2, .int .i64 top), (3, .int .i64 depth), (5, .pointer (some ⟨b1, 0, none⟩)), (9, .pointer (some ⟨b2, 0, none⟩)), (30, .bool (decide (top < 0)))]) (O := fun w => True) hs (by kernel_rfl) trivial ?_
    clear hs a; intro a hs
    rcases Bool.eq_false_or_eq_true (decide (top < 0)) with hb | hb
    · replace hs := hs.know (t := 30) rfl hb
      have cd2 := hb; have cd2b := hb; clear hb
      replace cd2 := of_decide_eq_true cd2
      replace hs := hs.pick (ts := [1, 2, 3, 5, 9, 30]) (L' := [(1, .int .i64 radius), (2, .int .i64 top), (3, .int .i64 depth), (5, .pointer (some ⟨b1, 0, none⟩)), (9, .pointer (some ⟨b2, 0, none⟩)), (30, .bool true)]) (by kernel_rfl)
      refine atR_seg (m := 7) (H := []) (ts := [1, 2, 3, 5, 9, 37]) (L' := [(1, .int .i64 radius), (2, .int .i64 top), (3, .int .i64 depth), (5, .pointer (some ⟨b1, 0, none⟩)), (9, .pointer (some ⟨b2, 0, none⟩)), (37, .bool true)]) (O := fun w => True) hs (by kernel_rfl) trivial ?_
      clear hs a; intro a hs
      refine atR_end (by kernel_rfl) ?_
      refine wayN_node rfl ?_
      refine at_cond (t := 37) (j1 := 6) (j2 := 9) (b := true) (by kernel_rfl) hs rfl (fun _ => ?_) (fun hb => absurd (hb.symm.trans (show (true) = true from rfl)) (by decide))
      refine at_seq (j := 8) (by kernel_rfl) ?_
      refine at_region (id := 2) (by kernel_rfl) ?_
      refine atR_seg (m := 2) (H := []) (ts := [10, 11]) (L' := [(10, .slice none 0 0), (11, .int .i64 1)]) (O := fun w => True) hs (by kernel_rfl) trivial ?_
      clear hs a; intro a hs
      refine atR_end (by kernel_rfl) ?_
      refine wayN_node rfl ?_
      refine at_ret (by kernel_rfl) ?_
      refine at_end (vs := [.slice none 0 0, .int .i64 1]) (H := []) (v := .tuple #[.slice none 0 0, .int .i64 1]) (O := fun w => True) hs (by kernel_rfl) rfl trivial ?_
      exact ⟨by rw [show boreErr (⟨num, kind, rad, flu, hol, stp, fd, plu⟩ : Tl) x y radius top depth = 1 from by (unfold boreErr outB; dsimp only; (rw [e1, e2, hgood, cd1b, cd2b]) <;> rfl)], hB⟩
    · replace hs := hs.know (t := 30) rfl hb
      have cd2 := hb; have cd2b := hb; clear hb
      replace cd2 := of_decide_eq_false cd2
      replace hs := hs.pick (ts := [1, 2, 3, 5, 9, 30]) (L' := [(1, .int .i64 radius), (2, .int .i64 top), (3, .int .i64 depth), (5, .pointer (some ⟨b1, 0, none⟩)), (9, .pointer (some ⟨b2, 0, none⟩)), (30, .bool false)]) (by kernel_rfl)
      refine atR_seg (m := 4) (H := []) (ts := [1, 2, 3, 5, 9, 34]) (L' := [(1, .int .i64 radius), (2, .int .i64 top), (3, .int .i64 depth), (5, .pointer (some ⟨b1, 0, none⟩)), (9, .pointer (some ⟨b2, 0, none⟩)), (34, .bool (decide (radius ≤ 0)))]) (O := fun w => True) hs (by kernel_rfl) trivial ?_
      clear hs a; intro a hs
      rcases Bool.eq_false_or_eq_true (decide (radius ≤ 0)) with hb | hb
      · replace hs := hs.know (t := 34) rfl hb
        have cd3 := hb; have cd3b := hb; clear hb
        replace cd3 := of_decide_eq_true cd3
        replace hs := hs.pick (ts := [1, 2, 3, 5, 9, 34]) (L' := [(1, .int .i64 radius), (2, .int .i64 top), (3, .int .i64 depth), (5, .pointer (some ⟨b1, 0, none⟩)), (9, .pointer (some ⟨b2, 0, none⟩)), (34, .bool true)]) (by kernel_rfl)
        refine atR_seg (m := 3) (H := []) (ts := [1, 2, 3, 5, 9, 37]) (L' := [(1, .int .i64 radius), (2, .int .i64 top), (3, .int .i64 depth), (5, .pointer (some ⟨b1, 0, none⟩)), (9, .pointer (some ⟨b2, 0, none⟩)), (37, .bool true)]) (O := fun w => True) hs (by kernel_rfl) trivial ?_
        clear hs a; intro a hs
        refine atR_end (by kernel_rfl) ?_
        refine wayN_node rfl ?_
        refine at_cond (t := 37) (j1 := 6) (j2 := 9) (b := true) (by kernel_rfl) hs rfl (fun _ => ?_) (fun hb => absurd (hb.symm.trans (show (true) = true from rfl)) (by decide))
        refine at_seq (j := 8) (by kernel_rfl) ?_
        refine at_region (id := 2) (by kernel_rfl) ?_
        refine atR_seg (m := 2) (H := []) (ts := [10, 11]) (L' := [(10, .slice none 0 0), (11, .int .i64 1)]) (O := fun w => True) hs (by kernel_rfl) trivial ?_
        clear hs a; intro a hs
        refine atR_end (by kernel_rfl) ?_
        refine wayN_node rfl ?_
        refine at_ret (by kernel_rfl) ?_
        refine at_end (vs := [.slice none 0 0, .int .i64 1]) (H := []) (v := .tuple #[.slice none 0 0, .int .i64 1]) (O := fun w => True) hs (by kernel_rfl) rfl trivial ?_
        exact ⟨by rw [show boreErr (⟨num, kind, rad, flu, hol, stp, fd, plu⟩ : Tl) x y radius top depth = 1 from by (unfold boreErr outB; dsimp only; (rw [e1, e2, hgood, cd1b, cd2b, cd3b]) <;> rfl)], hB⟩
      · replace hs := hs.know (t := 34) rfl hb
        have cd3 := hb; have cd3b := hb; clear hb
        replace cd3 := of_decide_eq_false cd3
        replace hs := hs.pick (ts := [1, 2, 3, 5, 9, 34]) (L' := [(1, .int .i64 radius), (2, .int .i64 top), (3, .int .i64 depth), (5, .pointer (some ⟨b1, 0, none⟩)), (9, .pointer (some ⟨b2, 0, none⟩)), (34, .bool false)]) (by kernel_rfl)
        refine atR_seg (m := 3) (H := []) (ts := [1, 2, 3, 5, 9, 37]) (L' := [(1, .int .i64 radius), (2, .int .i64 top), (3, .int .i64 depth), (5, .pointer (some ⟨b1, 0, none⟩)), (9, .pointer (some ⟨b2, 0, none⟩)), (37, .bool (decide (depth ≤ 0)))]) (O := fun w => True) hs (by kernel_rfl) trivial ?_
        clear hs a; intro a hs
        refine atR_end (by kernel_rfl) ?_
        refine wayN_node rfl ?_
        refine at_cond (t := 37) (j1 := 6) (j2 := 9) (b := decide (depth ≤ 0)) (by kernel_rfl) hs rfl (fun hb => ?_) (fun hb => ?_)
        · have cd4 := hb; have cd4b := hb; clear hb
          replace cd4 := of_decide_eq_true cd4
          refine at_seq (j := 8) (by kernel_rfl) ?_
          refine at_region (id := 2) (by kernel_rfl) ?_
          refine atR_seg (m := 2) (H := []) (ts := [10, 11]) (L' := [(10, .slice none 0 0), (11, .int .i64 1)]) (O := fun w => True) hs (by kernel_rfl) trivial ?_
          clear hs a; intro a hs
          refine atR_end (by kernel_rfl) ?_
          refine wayN_node rfl ?_
          refine at_ret (by kernel_rfl) ?_
          refine at_end (vs := [.slice none 0 0, .int .i64 1]) (H := []) (v := .tuple #[.slice none 0 0, .int .i64 1]) (O := fun w => True) hs (by kernel_rfl) rfl trivial ?_
          exact ⟨by rw [show boreErr (⟨num, kind, rad, flu, hol, stp, fd, plu⟩ : Tl) x y radius top depth = 1 from by (unfold boreErr outB; dsimp only; (rw [e1, e2, hgood, cd1b, cd2b, cd3b, cd4b]) <;> rfl)], hB⟩
        · have cd4 := hb; have cd4b := hb; clear hb
          replace cd4 := of_decide_eq_false cd4
          refine at_skip (by kernel_rfl) ?_
          refine wayN_node rfl ?_
          refine at_seq (j := 18) (by kernel_rfl) ?_
          refine at_seq (j := 13) (by kernel_rfl) ?_
          refine at_region (id := 3) (by kernel_rfl) ?_
          refine atR_seg (m := 5) (H := [(1, none, [.int .i64 flu])]) (ts := [1, 2, 3, 5, 9, 42]) (L' := [(1, .int .i64 radius), (2, .int .i64 top), (3, .int .i64 depth), (5, .pointer (some ⟨b1, 0, none⟩)), (9, .pointer (some ⟨b2, 0, none⟩)), (42, .bool (decide (flu < depth)))]) (O := fun w => (w.cell? ⟨b2, 3, none⟩ = some (.int .i64 flu)) ∧ True) hs (by kernel_rfl) ⟨B2.cell 3 rfl, trivial⟩ ?_
          clear hs a; intro a hs
          rcases Bool.eq_false_or_eq_true (decide (flu < depth)) with hb | hb
          · replace hs := hs.know (t := 42) rfl hb
            have cd5 := hb; have cd5b := hb; clear hb
            replace cd5 := of_decide_eq_true cd5
            replace hs := hs.pick (ts := [1, 2, 3, 5, 9, 42]) (L' := [(1, .int .i64 radius), (2, .int .i64 top), (3, .int .i64 depth), (5, .pointer (some ⟨b1, 0, none⟩)), (9, .pointer (some ⟨b2, 0, none⟩)), (42, .bool true)]) (by kernel_rfl)
            refine atR_seg (m := 5) (H := []) (ts := [1, 2, 3, 5, 9, 47]) (L' := [(1, .int .i64 radius), (2, .int .i64 top), (3, .int .i64 depth), (5, .pointer (some ⟨b1, 0, none⟩)), (9, .pointer (some ⟨b2, 0, none⟩)), (47, .bool true)]) (O := fun w => True) hs (by kernel_rfl) trivial ?_
            clear hs a; intro a hs
            refine atR_end (by kernel_rfl) ?_
            refine wayN_node rfl ?_
            refine at_cond (t := 47) (j1 := 14) (j2 := 17) (b := true) (by kernel_rfl) hs rfl (fun _ => ?_) (fun hb => absurd (hb.symm.trans (show (true) = true from rfl)) (by decide))
            refine at_seq (j := 16) (by kernel_rfl) ?_
            refine at_region (id := 4) (by kernel_rfl) ?_
            refine atR_seg (m := 2) (H := []) (ts := [10, 11]) (L' := [(10, .slice none 0 0), (11, .int .i64 16)]) (O := fun w => True) hs (by kernel_rfl) trivial ?_
            clear hs a; intro a hs
            refine atR_end (by kernel_rfl) ?_
            refine wayN_node rfl ?_
            refine at_ret (by kernel_rfl) ?_
            refine at_end (vs := [.slice none 0 0, .int .i64 16]) (H := []) (v := .tuple #[.slice none 0 0, .int .i64 16]) (O := fun w => True) hs (by kernel_rfl) rfl trivial ?_
            exact ⟨by rw [show boreErr (⟨num, kind, rad, flu, hol, stp, fd, plu⟩ : Tl) x y radius top depth = 16 from by (unfold boreErr outB; dsimp only; (rw [e1, e2, hgood, cd1b, cd2b, cd3b, cd4b, cd5b]) <;> rfl)], hB⟩
          · replace hs := hs.know (t := 42) rfl hb
            have cd5 := hb; have cd5b := hb; clear hb
            replace cd5 := of_decide_eq_false cd5
            replace hs := hs.pick (ts := [1, 2, 3, 5, 9, 42]) (L' := [(1, .int .i64 radius), (2, .int .i64 top), (3, .int .i64 depth), (5, .pointer (some ⟨b1, 0, none⟩)), (9, .pointer (some ⟨b2, 0, none⟩)), (42, .bool false)]) (by kernel_rfl)
            refine atR_seg (m := 2) (H := [(5, none, [.int .i64 num, .int .i64 kind, .int .i64 rad, .int .i64 flu, .int .i64 hol, .int .i64 stp, .int .i64 fd, .int .i64 plu])]) (ts := [1, 2, 3, 5, 9, 42, 43, 44]) (L' := [(1, .int .i64 radius), (2, .int .i64 top), (3, .int .i64 depth), (5, .pointer (some ⟨b1, 0, none⟩)), (9, .pointer (some ⟨b2, 0, none⟩)), (42, .bool false), (43, .agg #[.int .i64 num, .int .i64 kind, .int .i64 rad, .int .i64 flu, .int .i64 hol, .int .i64 stp, .int .i64 fd, .int .i64 plu]), (44, .int .i64 radius)]) (O := fun w => (w.cell? ⟨b2, 0, none⟩ = some (.int .i64 num)) ∧ (w.cell? ⟨b2, 1, none⟩ = some (.int .i64 kind)) ∧ (w.cell? ⟨b2, 2, none⟩ = some (.int .i64 rad)) ∧ (w.cell? ⟨b2, 3, none⟩ = some (.int .i64 flu)) ∧ (w.cell? ⟨b2, 4, none⟩ = some (.int .i64 hol)) ∧ (w.cell? ⟨b2, 5, none⟩ = some (.int .i64 stp)) ∧ (w.cell? ⟨b2, 6, none⟩ = some (.int .i64 fd)) ∧ (w.cell? ⟨b2, 7, none⟩ = some (.int .i64 plu)) ∧ True) hs (by kernel_rfl) ⟨B2.cell 0 rfl, B2.cell 1 rfl, B2.cell 2 rfl, B2.cell 3 rfl, B2.cell 4 rfl, B2.cell 5 rfl, B2.cell 6 rfl, B2.cell 7 rfl, trivial⟩ ?_
            clear hs a; intro a hs
            refine atR_op hs (by kernel_rfl) (call1 (f := 29) (args := #[.agg #[.int .i64 num, .int .i64 kind, .int .i64 rad, .int .i64 flu, .int .i64 hol, .int .i64 stp, .int .i64 fd, .int .i64 plu], .int .i64 radius]) [1, 2, 3, 5, 9, 42, 45] (fun rv_ => [(1, .int .i64 radius), (2, .int .i64 top), (3, .int .i64 depth), (5, .pointer (some ⟨b1, 0, none⟩)), (9, .pointer (some ⟨b2, 0, none⟩)), (42, .bool false), (45, rv_)]) hs (by kernel_rfl) (fun _ => by kernel_rfl) ?_)
            refine (rmills_any (⟨num, kind, rad, flu, hol, stp, fd, plu⟩ : Tl) _ _ (by dsimp only; omega) (by omega)).mono ?_
            rintro e w4 ⟨rfl, hb⟩
            refine ⟨_, rfl, ?_⟩
            clear hs a; intro a hs
            replace B1 := B1.below hb B1.lt
            replace B2 := B2.below hb B2.lt
            replace hB := later hB hb
            clear hb
            refine atR_seg (m := 2) (H := []) (ts := [1, 2, 3, 5, 9, 47]) (L' := [(1, .int .i64 radius), (2, .int .i64 top), (3, .int .i64 depth), (5, .pointer (some ⟨b1, 0, none⟩)), (9, .pointer (some ⟨b2, 0, none⟩)), (47, .bool (!((⟨num, kind, rad, flu, hol, stp, fd, plu⟩ : Tl).mills radius)))]) (O := fun w => True) hs (by kernel_rfl) trivial ?_
            clear hs a; intro a hs
            refine atR_end (by kernel_rfl) ?_
            refine wayN_node rfl ?_
            refine at_cond (t := 47) (j1 := 14) (j2 := 17) (b := !((⟨num, kind, rad, flu, hol, stp, fd, plu⟩ : Tl).mills radius)) (by kernel_rfl) hs rfl (fun hb => ?_) (fun hb => ?_)
            · have cd6 := hb; have cd6b := hb; clear hb
              refine at_seq (j := 16) (by kernel_rfl) ?_
              refine at_region (id := 4) (by kernel_rfl) ?_
              refine atR_seg (m := 2) (H := []) (ts := [10, 11]) (L' := [(10, .slice none 0 0), (11, .int .i64 16)]) (O := fun w => True) hs (by kernel_rfl) trivial ?_
              clear hs a; intro a hs
              refine atR_end (by kernel_rfl) ?_
              refine wayN_node rfl ?_
              refine at_ret (by kernel_rfl) ?_
              refine at_end (vs := [.slice none 0 0, .int .i64 16]) (H := []) (v := .tuple #[.slice none 0 0, .int .i64 16]) (O := fun w => True) hs (by kernel_rfl) rfl trivial ?_
              exact ⟨by rw [show boreErr (⟨num, kind, rad, flu, hol, stp, fd, plu⟩ : Tl) x y radius top depth = 16 from by (unfold boreErr outB; dsimp only; (rw [e1, e2, hgood, cd1b, cd2b, cd3b, cd4b, cd5b, cd6b]) <;> rfl)], hB⟩
            · have cd6 := hb; have cd6b := hb; clear hb
              have hmm := of_decide_eq_true (show (⟨num, kind, rad, flu, hol, stp, fd, plu⟩ : Tl).mills radius = true from by simpa using cd6)
              dsimp only at hmm
              refine at_skip (by kernel_rfl) ?_
              refine wayN_node rfl ?_
              refine at_seq (j := 20) (by kernel_rfl) ?_
              refine at_region (id := 5) (by kernel_rfl) ?_
              refine atR_seg (m := 5) (H := [(2, none, [.int .i64 rad]), (3, some (.int .i64 (radius - rad)), [])]) (ts := [2, 3, 5, 9, 12]) (L' := [(2, .int .i64 top), (3, .int .i64 depth), (5, .pointer (some ⟨b1, 0, none⟩)), (9, .pointer (some ⟨b2, 0, none⟩)), (12, .int .i64 (radius - rad))]) (O := fun w => (w.cell? ⟨b2, 2, none⟩ = some (.int .i64 rad)) ∧ (W .i64 (radius - rad)) ∧ True) hs (by kernel_rfl) ⟨B2.cell 2 rfl, w64 (by omega) (by omega), trivial⟩ ?_
              clear hs a; intro a hs
              refine atR_end (by kernel_rfl) ?_
              refine wayN_node rfl ?_
              refine at_seq (j := 28) (by kernel_rfl) ?_
              refine at_seq (j := 23) (by kernel_rfl) ?_
              refine at_region (id := 6) (by kernel_rfl) ?_
              refine atR_seg (m := 2) (H := [(1, none, [.int .i64 x])]) (ts := [2, 3, 5, 9, 12, 53]) (L' := [(2, .int .i64 top), (3, .int .i64 depth), (5, .pointer (some ⟨b1, 0, none⟩)), (9, .pointer (some ⟨b2, 0, none⟩)), (12, .int .i64 (radius - rad)), (53, .int .i64 x)]) (O := fun w => (w.cell? ⟨b1, 0, none⟩ = some (.int .i64 x)) ∧ True) hs (by kernel_rfl) ⟨B1.cell 0 rfl, trivial⟩ ?_
              clear hs a; intro a hs
              refine atR_op hs (by kernel_rfl) (call1 (f := 30) (args := #[.int .i64 x]) [2, 3, 5, 9, 12, 54] (fun rv_ => [(2, .int .i64 top), (3, .int .i64 depth), (5, .pointer (some ⟨b1, 0, none⟩)), (9, .pointer (some ⟨b2, 0, none⟩)), (12, .int .i64 (radius - rad)), (54, rv_)]) hs (by kernel_rfl) (fun _ => by kernel_rfl) ?_)
              refine (far_any _ _).mono ?_
              rintro e w' ⟨rfl, rfl⟩
              refine ⟨_, rfl, ?_⟩
              clear hs a; intro a hs
              refine atR_seg (m := 1) (H := []) (ts := [2, 3, 5, 9, 12, 55]) (L' := [(2, .int .i64 top), (3, .int .i64 depth), (5, .pointer (some ⟨b1, 0, none⟩)), (9, .pointer (some ⟨b2, 0, none⟩)), (12, .int .i64 (radius - rad)), (55, .bool (!(insB x)))]) (O := fun w => True) hs (by kernel_rfl) trivial ?_
              clear hs a; intro a hs
              rcases Bool.eq_false_or_eq_true (!(insB x)) with hb | hb
              · replace hs := hs.know (t := 55) rfl hb
                have cd7 := hb; have cd7b := hb; clear hb
                replace hs := hs.pick (ts := [2, 3, 5, 9, 12, 55]) (L' := [(2, .int .i64 top), (3, .int .i64 depth), (5, .pointer (some ⟨b1, 0, none⟩)), (9, .pointer (some ⟨b2, 0, none⟩)), (12, .int .i64 (radius - rad)), (55, .bool true)]) (by kernel_rfl)
                refine atR_seg (m := 40) (H := []) (ts := [2, 3, 5, 9, 12, 95]) (L' := [(2, .int .i64 top), (3, .int .i64 depth), (5, .pointer (some ⟨b1, 0, none⟩)), (9, .pointer (some ⟨b2, 0, none⟩)), (12, .int .i64 (radius - rad)), (95, .bool true)]) (O := fun w => True) hs (by kernel_rfl) trivial ?_
                clear hs a; intro a hs
                refine atR_end (by kernel_rfl) ?_
                refine wayN_node rfl ?_
                refine at_cond (t := 95) (j1 := 24) (j2 := 27) (b := true) (by kernel_rfl) hs rfl (fun _ => ?_) (fun hb => absurd (hb.symm.trans (show (true) = true from rfl)) (by decide))
                refine at_seq (j := 26) (by kernel_rfl) ?_
                refine at_region (id := 7) (by kernel_rfl) ?_
                refine atR_seg (m := 2) (H := []) (ts := [10, 11]) (L' := [(10, .slice none 0 0), (11, .int .i64 11)]) (O := fun w => True) hs (by kernel_rfl) trivial ?_
                clear hs a; intro a hs
                refine atR_end (by kernel_rfl) ?_
                refine wayN_node rfl ?_
                refine at_ret (by kernel_rfl) ?_
                refine at_end (vs := [.slice none 0 0, .int .i64 11]) (H := []) (v := .tuple #[.slice none 0 0, .int .i64 11]) (O := fun w => True) hs (by kernel_rfl) rfl trivial ?_
                exact ⟨by rw [show boreErr (⟨num, kind, rad, flu, hol, stp, fd, plu⟩ : Tl) x y radius top depth = 11 from by (unfold boreErr outB; dsimp only; (rw [e1, e2, hgood, cd1b, cd2b, cd3b, cd4b, cd5b, cd6b, cd7b]) <;> rfl)], hB⟩
              · replace hs := hs.know (t := 55) rfl hb
                have cd7 := hb; have cd7b := hb; clear hb
                have hxx := insB_t (show insB x = true from by simpa using cd7)
                replace hs := hs.pick (ts := [2, 3, 5, 9, 12, 55]) (L' := [(2, .int .i64 top), (3, .int .i64 depth), (5, .pointer (some ⟨b1, 0, none⟩)), (9, .pointer (some ⟨b2, 0, none⟩)), (12, .int .i64 (radius - rad)), (55, .bool false)]) (by kernel_rfl)
                refine atR_seg (m := 2) (H := [(5, none, [.int .i64 y])]) (ts := [2, 3, 5, 9, 12, 55, 57]) (L' := [(2, .int .i64 top), (3, .int .i64 depth), (5, .pointer (some ⟨b1, 0, none⟩)), (9, .pointer (some ⟨b2, 0, none⟩)), (12, .int .i64 (radius - rad)), (55, .bool false), (57, .int .i64 y)]) (O := fun w => (w.cell? ⟨b1, 1, none⟩ = some (.int .i64 y)) ∧ True) hs (by kernel_rfl) ⟨B1.cell 1 rfl, trivial⟩ ?_
                clear hs a; intro a hs
                refine atR_op hs (by kernel_rfl) (call1 (f := 30) (args := #[.int .i64 y]) [2, 3, 5, 9, 12, 55, 58] (fun rv_ => [(2, .int .i64 top), (3, .int .i64 depth), (5, .pointer (some ⟨b1, 0, none⟩)), (9, .pointer (some ⟨b2, 0, none⟩)), (12, .int .i64 (radius - rad)), (55, .bool false), (58, rv_)]) hs (by kernel_rfl) (fun _ => by kernel_rfl) ?_)
                refine (far_any _ _).mono ?_
                rintro e w' ⟨rfl, rfl⟩
                refine ⟨_, rfl, ?_⟩
                clear hs a; intro a hs
                refine atR_seg (m := 2) (H := []) (ts := [2, 3, 5, 9, 12, 60]) (L' := [(2, .int .i64 top), (3, .int .i64 depth), (5, .pointer (some ⟨b1, 0, none⟩)), (9, .pointer (some ⟨b2, 0, none⟩)), (12, .int .i64 (radius - rad)), (60, .bool (!(insB y)))]) (O := fun w => True) hs (by kernel_rfl) trivial ?_
                clear hs a; intro a hs
                rcases Bool.eq_false_or_eq_true (!(insB y)) with hb | hb
                · replace hs := hs.know (t := 60) rfl hb
                  have cd8 := hb; have cd8b := hb; clear hb
                  replace hs := hs.pick (ts := [2, 3, 5, 9, 12, 60]) (L' := [(2, .int .i64 top), (3, .int .i64 depth), (5, .pointer (some ⟨b1, 0, none⟩)), (9, .pointer (some ⟨b2, 0, none⟩)), (12, .int .i64 (radius - rad)), (60, .bool true)]) (by kernel_rfl)
                  refine atR_seg (m := 35) (H := []) (ts := [2, 3, 5, 9, 12, 95]) (L' := [(2, .int .i64 top), (3, .int .i64 depth), (5, .pointer (some ⟨b1, 0, none⟩)), (9, .pointer (some ⟨b2, 0, none⟩)), (12, .int .i64 (radius - rad)), (95, .bool true)]) (O := fun w => True) hs (by kernel_rfl) trivial ?_
                  clear hs a; intro a hs
                  refine atR_end (by kernel_rfl) ?_
                  refine wayN_node rfl ?_
                  refine at_cond (t := 95) (j1 := 24) (j2 := 27) (b := true) (by kernel_rfl) hs rfl (fun _ => ?_) (fun hb => absurd (hb.symm.trans (show (true) = true from rfl)) (by decide))
                  refine at_seq (j := 26) (by kernel_rfl) ?_
                  refine at_region (id := 7) (by kernel_rfl) ?_
                  refine atR_seg (m := 2) (H := []) (ts := [10, 11]) (L' := [(10, .slice none 0 0), (11, .int .i64 11)]) (O := fun w => True) hs (by kernel_rfl) trivial ?_
                  clear hs a; intro a hs
                  refine atR_end (by kernel_rfl) ?_
                  refine wayN_node rfl ?_
                  refine at_ret (by kernel_rfl) ?_
                  refine at_end (vs := [.slice none 0 0, .int .i64 11]) (H := []) (v := .tuple #[.slice none 0 0, .int .i64 11]) (O := fun w => True) hs (by kernel_rfl) rfl trivial ?_
                  exact ⟨by rw [show boreErr (⟨num, kind, rad, flu, hol, stp, fd, plu⟩ : Tl) x y radius top depth = 11 from by (unfold boreErr outB; dsimp only; (rw [e1, e2, hgood, cd1b, cd2b, cd3b, cd4b, cd5b, cd6b, cd7b, cd8b]) <;> rfl)], hB⟩
                · replace hs := hs.know (t := 60) rfl hb
                  have cd8 := hb; have cd8b := hb; clear hb
                  have hyy := insB_t (show insB y = true from by simpa using cd8)
                  replace hs := hs.pick (ts := [2, 3, 5, 9, 12, 60]) (L' := [(2, .int .i64 top), (3, .int .i64 depth), (5, .pointer (some ⟨b1, 0, none⟩)), (9, .pointer (some ⟨b2, 0, none⟩)), (12, .int .i64 (radius - rad)), (60, .bool false)]) (by kernel_rfl)
                  refine atR_seg (m := 1) (H := []) (ts := [2, 3, 5, 9, 12, 60, 61]) (L' := [(2, .int .i64 top), (3, .int .i64 depth), (5, .pointer (some ⟨b1, 0, none⟩)), (9, .pointer (some ⟨b2, 0, none⟩)), (12, .int .i64 (radius - rad)), (60, .bool false), (61, .int .i64 top)]) (O := fun w => True) hs (by kernel_rfl) trivial ?_
                  clear hs a; intro a hs
                  refine atR_op hs (by kernel_rfl) (call1 (f := 30) (args := #[.int .i64 top]) [2, 3, 5, 9, 12, 60, 62] (fun rv_ => [(2, .int .i64 top), (3, .int .i64 depth), (5, .pointer (some ⟨b1, 0, none⟩)), (9, .pointer (some ⟨b2, 0, none⟩)), (12, .int .i64 (radius - rad)), (60, .bool false), (62, rv_)]) hs (by kernel_rfl) (fun _ => by kernel_rfl) ?_)
                  refine (far_any _ _).mono ?_
                  rintro e w' ⟨rfl, rfl⟩
                  refine ⟨_, rfl, ?_⟩
                  clear hs a; intro a hs
                  refine atR_seg (m := 2) (H := []) (ts := [2, 3, 5, 9, 12, 64]) (L' := [(2, .int .i64 top), (3, .int .i64 depth), (5, .pointer (some ⟨b1, 0, none⟩)), (9, .pointer (some ⟨b2, 0, none⟩)), (12, .int .i64 (radius - rad)), (64, .bool (!(insB top)))]) (O := fun w => True) hs (by kernel_rfl) trivial ?_
                  clear hs a; intro a hs
                  rcases Bool.eq_false_or_eq_true (!(insB top)) with hb | hb
                  · replace hs := hs.know (t := 64) rfl hb
                    have cd9 := hb; have cd9b := hb; clear hb
                    replace hs := hs.pick (ts := [2, 3, 5, 9, 12, 64]) (L' := [(2, .int .i64 top), (3, .int .i64 depth), (5, .pointer (some ⟨b1, 0, none⟩)), (9, .pointer (some ⟨b2, 0, none⟩)), (12, .int .i64 (radius - rad)), (64, .bool true)]) (by kernel_rfl)
                    refine atR_seg (m := 31) (H := []) (ts := [2, 3, 5, 9, 12, 95]) (L' := [(2, .int .i64 top), (3, .int .i64 depth), (5, .pointer (some ⟨b1, 0, none⟩)), (9, .pointer (some ⟨b2, 0, none⟩)), (12, .int .i64 (radius - rad)), (95, .bool true)]) (O := fun w => True) hs (by kernel_rfl) trivial ?_
                    clear hs a; intro a hs
                    refine atR_end (by kernel_rfl) ?_
                    refine wayN_node rfl ?_
                    refine at_cond (t := 95) (j1 := 24) (j2 := 27) (b := true) (by kernel_rfl) hs rfl (fun _ => ?_) (fun hb => absurd (hb.symm.trans (show (true) = true from rfl)) (by decide))
                    refine at_seq (j := 26) (by kernel_rfl) ?_
                    refine at_region (id := 7) (by kernel_rfl) ?_
                    refine atR_seg (m := 2) (H := []) (ts := [10, 11]) (L' := [(10, .slice none 0 0), (11, .int .i64 11)]) (O := fun w => True) hs (by kernel_rfl) trivial ?_
                    clear hs a; intro a hs
                    refine atR_end (by kernel_rfl) ?_
                    refine wayN_node rfl ?_
                    refine at_ret (by kernel_rfl) ?_
                    refine at_end (vs := [.slice none 0 0, .int .i64 11]) (H := []) (v := .tuple #[.slice none 0 0, .int .i64 11]) (O := fun w => True) hs (by kernel_rfl) rfl trivial ?_
                    exact ⟨by rw [show boreErr (⟨num, kind, rad, flu, hol, stp, fd, plu⟩ : Tl) x y radius top depth = 11 from by (unfold boreErr outB; dsimp only; (rw [e1, e2, hgood, cd1b, cd2b, cd3b, cd4b, cd5b, cd6b, cd7b, cd8b, cd9b]) <;> rfl)], hB⟩
                  · replace hs := hs.know (t := 64) rfl hb
                    have cd9 := hb; have cd9b := hb; clear hb
                    replace hs := hs.pick (ts := [2, 3, 5, 9, 12, 64]) (L' := [(2, .int .i64 top), (3, .int .i64 depth), (5, .pointer (some ⟨b1, 0, none⟩)), (9, .pointer (some ⟨b2, 0, none⟩)), (12, .int .i64 (radius - rad)), (64, .bool false)]) (by kernel_rfl)
                    refine atR_seg (m := 1) (H := []) (ts := [2, 3, 5, 9, 12, 64, 65]) (L' := [(2, .int .i64 top), (3, .int .i64 depth), (5, .pointer (some ⟨b1, 0, none⟩)), (9, .pointer (some ⟨b2, 0, none⟩)), (12, .int .i64 (radius - rad)), (64, .bool false), (65, .int .i64 depth)]) (O := fun w => True) hs (by kernel_rfl) trivial ?_
                    clear hs a; intro a hs
                    refine atR_op hs (by kernel_rfl) (call1 (f := 30) (args := #[.int .i64 depth]) [2, 3, 5, 9, 12, 64, 66] (fun rv_ => [(2, .int .i64 top), (3, .int .i64 depth), (5, .pointer (some ⟨b1, 0, none⟩)), (9, .pointer (some ⟨b2, 0, none⟩)), (12, .int .i64 (radius - rad)), (64, .bool false), (66, rv_)]) hs (by kernel_rfl) (fun _ => by kernel_rfl) ?_)
                    refine (far_any _ _).mono ?_
                    rintro e w' ⟨rfl, rfl⟩
                    refine ⟨_, rfl, ?_⟩
                    clear hs a; intro a hs
                    refine atR_seg (m := 2) (H := []) (ts := [2, 3, 5, 9, 12, 68]) (L' := [(2, .int .i64 top), (3, .int .i64 depth), (5, .pointer (some ⟨b1, 0, none⟩)), (9, .pointer (some ⟨b2, 0, none⟩)), (12, .int .i64 (radius - rad)), (68, .bool (!(insB depth)))]) (O := fun w => True) hs (by kernel_rfl) trivial ?_
                    clear hs a; intro a hs
                    rcases Bool.eq_false_or_eq_true (!(insB depth)) with hb | hb
                    · replace hs := hs.know (t := 68) rfl hb
                      have cd10 := hb; have cd10b := hb; clear hb
                      replace hs := hs.pick (ts := [2, 3, 5, 9, 12, 68]) (L' := [(2, .int .i64 top), (3, .int .i64 depth), (5, .pointer (some ⟨b1, 0, none⟩)), (9, .pointer (some ⟨b2, 0, none⟩)), (12, .int .i64 (radius - rad)), (68, .bool true)]) (by kernel_rfl)
                      refine atR_seg (m := 27) (H := []) (ts := [2, 3, 5, 9, 12, 95]) (L' := [(2, .int .i64 top), (3, .int .i64 depth), (5, .pointer (some ⟨b1, 0, none⟩)), (9, .pointer (some ⟨b2, 0, none⟩)), (12, .int .i64 (radius - rad)), (95, .bool true)]) (O := fun w => True) hs (by kernel_rfl) trivial ?_
                      clear hs a; intro a hs
                      refine atR_end (by kernel_rfl) ?_
                      refine wayN_node rfl ?_
                      refine at_cond (t := 95) (j1 := 24) (j2 := 27) (b := true) (by kernel_rfl) hs rfl (fun _ => ?_) (fun hb => absurd (hb.symm.trans (show (true) = true from rfl)) (by decide))
                      refine at_seq (j := 26) (by kernel_rfl) ?_
                      refine at_region (id := 7) (by kernel_rfl) ?_
                      refine atR_seg (m := 2) (H := []) (ts := [10, 11]) (L' := [(10, .slice none 0 0), (11, .int .i64 11)]) (O := fun w => True) hs (by kernel_rfl) trivial ?_
                      clear hs a; intro a hs
                      refine atR_end (by kernel_rfl) ?_
                      refine wayN_node rfl ?_
                      refine at_ret (by kernel_rfl) ?_
                      refine at_end (vs := [.slice none 0 0, .int .i64 11]) (H := []) (v := .tuple #[.slice none 0 0, .int .i64 11]) (O := fun w => True) hs (by kernel_rfl) rfl trivial ?_
                      exact ⟨by rw [show boreErr (⟨num, kind, rad, flu, hol, stp, fd, plu⟩ : Tl) x y radius top depth = 11 from by (unfold boreErr outB; dsimp only; (rw [e1, e2, hgood, cd1b, cd2b, cd3b, cd4b, cd5b, cd6b, cd7b, cd8b, cd9b, cd10b]) <;> rfl)], hB⟩
                    · replace hs := hs.know (t := 68) rfl hb
                      have cd10 := hb; have cd10b := hb; clear hb
                      have hdd := insB_t (show insB depth = true from by simpa using cd10)
                      replace hs := hs.pick (ts := [2, 3, 5, 9, 12, 68]) (L' := [(2, .int .i64 top), (3, .int .i64 depth), (5, .pointer (some ⟨b1, 0, none⟩)), (9, .pointer (some ⟨b2, 0, none⟩)), (12, .int .i64 (radius - rad)), (68, .bool false)]) (by kernel_rfl)
                      refine atR_seg (m := 4) (H := [(18, none, [.int .i64 x]), (20, some (.int .i64 (x + (radius - rad))), [])]) (ts := [2, 3, 5, 9, 12, 68, 72]) (L' := [(2, .int .i64 top), (3, .int .i64 depth), (5, .pointer (some ⟨b1, 0, none⟩)), (9, .pointer (some ⟨b2, 0, none⟩)), (12, .int .i64 (radius - rad)), (68, .bool false), (72, .int .i64 (x + (radius - rad)))]) (O := fun w => (w.cell? ⟨b1, 0, none⟩ = some (.int .i64 x)) ∧ (W .i64 (x + (radius - rad))) ∧ True) hs (by kernel_rfl) ⟨B1.cell 0 rfl, w64 (by omega) (by omega), trivial⟩ ?_
                      clear hs a; intro a hs
                      refine atR_op hs (by kernel_rfl) (call1 (f := 30) (args := #[.int .i64 (x + (radius - rad))]) [2, 3, 5, 9, 12, 68, 73] (fun rv_ => [(2, .int .i64 top), (3, .int .i64 depth), (5, .pointer (some ⟨b1, 0, none⟩)), (9, .pointer (some ⟨b2, 0, none⟩)), (12, .int .i64 (radius - rad)), (68, .bool false), (73, rv_)]) hs (by kernel_rfl) (fun _ => by kernel_rfl) ?_)
                      refine (far_any _ _).mono ?_
                      rintro e w' ⟨rfl, rfl⟩
                      refine ⟨_, rfl, ?_⟩
                      clear hs a; intro a hs
                      refine atR_seg (m := 2) (H := []) (ts := [2, 3, 5, 9, 12, 75]) (L' := [(2, .int .i64 top), (3, .int .i64 depth), (5, .pointer (some ⟨b1, 0, none⟩)), (9, .pointer (some ⟨b2, 0, none⟩)), (12, .int .i64 (radius - rad)), (75, .bool (!(insB (x + (radius - rad)))))]) (O := fun w => True) hs (by kernel_rfl) trivial ?_
                      clear hs a; intro a hs
                      rcases Bool.eq_false_or_eq_true (!(insB (x + (radius - rad)))) with hb | hb
                      · replace hs := hs.know (t := 75) rfl hb
                        have cd11 := hb; have cd11b := hb; clear hb
                        replace hs := hs.pick (ts := [2, 3, 5, 9, 12, 75]) (L' := [(2, .int .i64 top), (3, .int .i64 depth), (5, .pointer (some ⟨b1, 0, none⟩)), (9, .pointer (some ⟨b2, 0, none⟩)), (12, .int .i64 (radius - rad)), (75, .bool true)]) (by kernel_rfl)
                        refine atR_seg (m := 20) (H := []) (ts := [2, 3, 5, 9, 12, 95]) (L' := [(2, .int .i64 top), (3, .int .i64 depth), (5, .pointer (some ⟨b1, 0, none⟩)), (9, .pointer (some ⟨b2, 0, none⟩)), (12, .int .i64 (radius - rad)), (95, .bool true)]) (O := fun w => True) hs (by kernel_rfl) trivial ?_
                        clear hs a; intro a hs
                        refine atR_end (by kernel_rfl) ?_
                        refine wayN_node rfl ?_
                        refine at_cond (t := 95) (j1 := 24) (j2 := 27) (b := true) (by kernel_rfl) hs rfl (fun _ => ?_) (fun hb => absurd (hb.symm.trans (show (true) = true from rfl)) (by decide))
                        refine at_seq (j := 26) (by kernel_rfl) ?_
                        refine at_region (id := 7) (by kernel_rfl) ?_
                        refine atR_seg (m := 2) (H := []) (ts := [10, 11]) (L' := [(10, .slice none 0 0), (11, .int .i64 11)]) (O := fun w => True) hs (by kernel_rfl) trivial ?_
                        clear hs a; intro a hs
                        refine atR_end (by kernel_rfl) ?_
                        refine wayN_node rfl ?_
                        refine at_ret (by kernel_rfl) ?_
                        refine at_end (vs := [.slice none 0 0, .int .i64 11]) (H := []) (v := .tuple #[.slice none 0 0, .int .i64 11]) (O := fun w => True) hs (by kernel_rfl) rfl trivial ?_
                        exact ⟨by rw [show boreErr (⟨num, kind, rad, flu, hol, stp, fd, plu⟩ : Tl) x y radius top depth = 11 from by (unfold boreErr outB; dsimp only; (rw [e1, e2, hgood, cd1b, cd2b, cd3b, cd4b, cd5b, cd6b, cd7b, cd8b, cd9b, cd10b, cd11b]) <;> rfl)], hB⟩
                      · replace hs := hs.know (t := 75) rfl hb
                        have cd11 := hb; have cd11b := hb; clear hb
                        replace hs := hs.pick (ts := [2, 3, 5, 9, 12, 75]) (L' := [(2, .int .i64 top), (3, .int .i64 depth), (5, .pointer (some ⟨b1, 0, none⟩)), (9, .pointer (some ⟨b2, 0, none⟩)), (12, .int .i64 (radius - rad)), (75, .bool false)]) (by kernel_rfl)
                        refine atR_seg (m := 4) (H := [(25, none, [.int .i64 x]), (27, some (.int .i64 (x - (radius - rad))), [])]) (ts := [2, 3, 5, 9, 12, 75, 79]) (L' := [(2, .int .i64 top), (3, .int .i64 depth), (5, .pointer (some ⟨b1, 0, none⟩)), (9, .pointer (some ⟨b2, 0, none⟩)), (12, .int .i64 (radius - rad)), (75, .bool false), (79, .int .i64 (x - (radius - rad)))]) (O := fun w => (w.cell? ⟨b1, 0, none⟩ = some (.int .i64 x)) ∧ (W .i64 (x - (radius - rad))) ∧ True) hs (by kernel_rfl) ⟨B1.cell 0 rfl, w64 (by omega) (by omega), trivial⟩ ?_
                        clear hs a; intro a hs
                        refine atR_op hs (by kernel_rfl) (call1 (f := 30) (args := #[.int .i64 (x - (radius - rad))]) [2, 3, 5, 9, 12, 75, 80] (fun rv_ => [(2, .int .i64 top), (3, .int .i64 depth), (5, .pointer (some ⟨b1, 0, none⟩)), (9, .pointer (some ⟨b2, 0, none⟩)), (12, .int .i64 (radius - rad)), (75, .bool false), (80, rv_)]) hs (by kernel_rfl) (fun _ => by kernel_rfl) ?_)
                        refine (far_any _ _).mono ?_
                        rintro e w' ⟨rfl, rfl⟩
                        refine ⟨_, rfl, ?_⟩
                        clear hs a; intro a hs
                        refine atR_seg (m := 2) (H := []) (ts := [2, 3, 5, 9, 12, 82]) (L' := [(2, .int .i64 top), (3, .int .i64 depth), (5, .pointer (some ⟨b1, 0, none⟩)), (9, .pointer (some ⟨b2, 0, none⟩)), (12, .int .i64 (radius - rad)), (82, .bool (!(insB (x - (radius - rad)))))]) (O := fun w => True) hs (by kernel_rfl) trivial ?_
                        clear hs a; intro a hs
                        rcases Bool.eq_false_or_eq_true (!(insB (x - (radius - rad)))) with hb | hb
                        · replace hs := hs.know (t := 82) rfl hb
                          have cd12 := hb; have cd12b := hb; clear hb
                          replace hs := hs.pick (ts := [2, 3, 5, 9, 12, 82]) (L' := [(2, .int .i64 top), (3, .int .i64 depth), (5, .pointer (some ⟨b1, 0, none⟩)), (9, .pointer (some ⟨b2, 0, none⟩)), (12, .int .i64 (radius - rad)), (82, .bool true)]) (by kernel_rfl)
                          refine atR_seg (m := 13) (H := []) (ts := [2, 3, 5, 9, 12, 95]) (L' := [(2, .int .i64 top), (3, .int .i64 depth), (5, .pointer (some ⟨b1, 0, none⟩)), (9, .pointer (some ⟨b2, 0, none⟩)), (12, .int .i64 (radius - rad)), (95, .bool true)]) (O := fun w => True) hs (by kernel_rfl) trivial ?_
                          clear hs a; intro a hs
                          refine atR_end (by kernel_rfl) ?_
                          refine wayN_node rfl ?_
                          refine at_cond (t := 95) (j1 := 24) (j2 := 27) (b := true) (by kernel_rfl) hs rfl (fun _ => ?_) (fun hb => absurd (hb.symm.trans (show (true) = true from rfl)) (by decide))
                          refine at_seq (j := 26) (by kernel_rfl) ?_
                          refine at_region (id := 7) (by kernel_rfl) ?_
                          refine atR_seg (m := 2) (H := []) (ts := [10, 11]) (L' := [(10, .slice none 0 0), (11, .int .i64 11)]) (O := fun w => True) hs (by kernel_rfl) trivial ?_
                          clear hs a; intro a hs
                          refine atR_end (by kernel_rfl) ?_
                          refine wayN_node rfl ?_
                          refine at_ret (by kernel_rfl) ?_
                          refine at_end (vs := [.slice none 0 0, .int .i64 11]) (H := []) (v := .tuple #[.slice none 0 0, .int .i64 11]) (O := fun w => True) hs (by kernel_rfl) rfl trivial ?_
                          exact ⟨by rw [show boreErr (⟨num, kind, rad, flu, hol, stp, fd, plu⟩ : Tl) x y radius top depth = 11 from by (unfold boreErr outB; dsimp only; (rw [e1, e2, hgood, cd1b, cd2b, cd3b, cd4b, cd5b, cd6b, cd7b, cd8b, cd9b, cd10b, cd11b, cd12b]) <;> rfl)], hB⟩
                        · replace hs := hs.know (t := 82) rfl hb
                          have cd12 := hb; have cd12b := hb; clear hb
                          replace hs := hs.pick (ts := [2, 3, 5, 9, 12, 82]) (L' := [(2, .int .i64 top), (3, .int .i64 depth), (5, .pointer (some ⟨b1, 0, none⟩)), (9, .pointer (some ⟨b2, 0, none⟩)), (12, .int .i64 (radius - rad)), (82, .bool false)]) (by kernel_rfl)
                          refine atR_seg (m := 4) (H := [(32, none, [.int .i64 y]), (34, some (.int .i64 (y + (radius - rad))), [])]) (ts := [2, 3, 5, 9, 12, 82, 86]) (L' := [(2, .int .i64 top), (3, .int .i64 depth), (5, .pointer (some ⟨b1, 0, none⟩)), (9, .pointer (some ⟨b2, 0, none⟩)), (12, .int .i64 (radius - rad)), (82, .bool false), (86, .int .i64 (y + (radius - rad)))]) (O := fun w => (w.cell? ⟨b1, 1, none⟩ = some (.int .i64 y)) ∧ (W .i64 (y + (radius - rad))) ∧ True) hs (by kernel_rfl) ⟨B1.cell 1 rfl, w64 (by omega) (by omega), trivial⟩ ?_
                          clear hs a; intro a hs
                          refine atR_op hs (by kernel_rfl) (call1 (f := 30) (args := #[.int .i64 (y + (radius - rad))]) [2, 3, 5, 9, 12, 82, 87] (fun rv_ => [(2, .int .i64 top), (3, .int .i64 depth), (5, .pointer (some ⟨b1, 0, none⟩)), (9, .pointer (some ⟨b2, 0, none⟩)), (12, .int .i64 (radius - rad)), (82, .bool false), (87, rv_)]) hs (by kernel_rfl) (fun _ => by kernel_rfl) ?_)
                          refine (far_any _ _).mono ?_
                          rintro e w' ⟨rfl, rfl⟩
                          refine ⟨_, rfl, ?_⟩
                          clear hs a; intro a hs
                          refine atR_seg (m := 2) (H := []) (ts := [2, 3, 5, 9, 12, 89]) (L' := [(2, .int .i64 top), (3, .int .i64 depth), (5, .pointer (some ⟨b1, 0, none⟩)), (9, .pointer (some ⟨b2, 0, none⟩)), (12, .int .i64 (radius - rad)), (89, .bool (!(insB (y + (radius - rad)))))]) (O := fun w => True) hs (by kernel_rfl) trivial ?_
                          clear hs a; intro a hs
                          rcases Bool.eq_false_or_eq_true (!(insB (y + (radius - rad)))) with hb | hb
                          · replace hs := hs.know (t := 89) rfl hb
                            have cd13 := hb; have cd13b := hb; clear hb
                            replace hs := hs.pick (ts := [2, 3, 5, 9, 12, 89]) (L' := [(2, .int .i64 top), (3, .int .i64 depth), (5, .pointer (some ⟨b1, 0, none⟩)), (9, .pointer (some ⟨b2, 0, none⟩)), (12, .int .i64 (radius - rad)), (89, .bool true)]) (by kernel_rfl)
                            refine atR_seg (m := 6) (H := []) (ts := [2, 3, 5, 9, 12, 95]) (L' := [(2, .int .i64 top), (3, .int .i64 depth), (5, .pointer (some ⟨b1, 0, none⟩)), (9, .pointer (some ⟨b2, 0, none⟩)), (12, .int .i64 (radius - rad)), (95, .bool true)]) (O := fun w => True) hs (by kernel_rfl) trivial ?_
                            clear hs a; intro a hs
                            refine atR_end (by kernel_rfl) ?_
                            refine wayN_node rfl ?_
                            refine at_cond (t := 95) (j1 := 24) (j2 := 27) (b := true) (by kernel_rfl) hs rfl (fun _ => ?_) (fun hb => absurd (hb.symm.trans (show (true) = true from rfl)) (by decide))
                            refine at_seq (j := 26) (by kernel_rfl) ?_
                            refine at_region (id := 7) (by kernel_rfl) ?_
                            refine atR_seg (m := 2) (H := []) (ts := [10, 11]) (L' := [(10, .slice none 0 0), (11, .int .i64 11)]) (O := fun w => True) hs (by kernel_rfl) trivial ?_
                            clear hs a; intro a hs
                            refine atR_end (by kernel_rfl) ?_
                            refine wayN_node rfl ?_
                            refine at_ret (by kernel_rfl) ?_
                            refine at_end (vs := [.slice none 0 0, .int .i64 11]) (H := []) (v := .tuple #[.slice none 0 0, .int .i64 11]) (O := fun w => True) hs (by kernel_rfl) rfl trivial ?_
                            exact ⟨by rw [show boreErr (⟨num, kind, rad, flu, hol, stp, fd, plu⟩ : Tl) x y radius top depth = 11 from by (unfold boreErr outB; dsimp only; (rw [e1, e2, hgood, cd1b, cd2b, cd3b, cd4b, cd5b, cd6b, cd7b, cd8b, cd9b, cd10b, cd11b, cd12b, cd13b]) <;> rfl)], hB⟩
                          · replace hs := hs.know (t := 89) rfl hb
                            have cd13 := hb; have cd13b := hb; clear hb
                            replace hs := hs.pick (ts := [2, 3, 5, 9, 12, 89]) (L' := [(2, .int .i64 top), (3, .int .i64 depth), (5, .pointer (some ⟨b1, 0, none⟩)), (9, .pointer (some ⟨b2, 0, none⟩)), (12, .int .i64 (radius - rad)), (89, .bool false)]) (by kernel_rfl)
                            refine atR_seg (m := 4) (H := [(39, none, [.int .i64 y]), (41, some (.int .i64 (y - (radius - rad))), [])]) (ts := [2, 3, 5, 9, 12, 89, 93]) (L' := [(2, .int .i64 top), (3, .int .i64 depth), (5, .pointer (some ⟨b1, 0, none⟩)), (9, .pointer (some ⟨b2, 0, none⟩)), (12, .int .i64 (radius - rad)), (89, .bool false), (93, .int .i64 (y - (radius - rad)))]) (O := fun w => (w.cell? ⟨b1, 1, none⟩ = some (.int .i64 y)) ∧ (W .i64 (y - (radius - rad))) ∧ True) hs (by kernel_rfl) ⟨B1.cell 1 rfl, w64 (by omega) (by omega), trivial⟩ ?_
                            clear hs a; intro a hs
                            refine atR_op hs (by kernel_rfl) (call1 (f := 30) (args := #[.int .i64 (y - (radius - rad))]) [2, 3, 5, 9, 12, 89, 94] (fun rv_ => [(2, .int .i64 top), (3, .int .i64 depth), (5, .pointer (some ⟨b1, 0, none⟩)), (9, .pointer (some ⟨b2, 0, none⟩)), (12, .int .i64 (radius - rad)), (89, .bool false), (94, rv_)]) hs (by kernel_rfl) (fun _ => by kernel_rfl) ?_)
                            refine (far_any _ _).mono ?_
                            rintro e w' ⟨rfl, rfl⟩
                            refine ⟨_, rfl, ?_⟩
                            clear hs a; intro a hs
                            refine atR_seg (m := 1) (H := []) (ts := [2, 3, 5, 9, 12, 95]) (L' := [(2, .int .i64 top), (3, .int .i64 depth), (5, .pointer (some ⟨b1, 0, none⟩)), (9, .pointer (some ⟨b2, 0, none⟩)), (12, .int .i64 (radius - rad)), (95, .bool (!(insB (y - (radius - rad)))))]) (O := fun w => True) hs (by kernel_rfl) trivial ?_
                            clear hs a; intro a hs
                            refine atR_end (by kernel_rfl) ?_
                            refine wayN_node rfl ?_
                            refine at_cond (t := 95) (j1 := 24) (j2 := 27) (b := !(insB (y - (radius - rad)))) (by kernel_rfl) hs rfl (fun hb => ?_) (fun hb => ?_)
                            · have cd14 := hb; have cd14b := hb; clear hb
                              refine at_seq (j := 26) (by kernel_rfl) ?_
                              refine at_region (id := 7) (by kernel_rfl) ?_
                              refine atR_seg (m := 2) (H := []) (ts := [10, 11]) (L' := [(10, .slice none 0 0), (11, .int .i64 11)]) (O := fun w => True) hs (by kernel_rfl) trivial ?_
                              clear hs a; intro a hs
                              refine atR_end (by kernel_rfl) ?_
                              refine wayN_node rfl ?_
                              refine at_ret (by kernel_rfl) ?_
                              refine at_end (vs := [.slice none 0 0, .int .i64 11]) (H := []) (v := .tuple #[.slice none 0 0, .int .i64 11]) (O := fun w => True) hs (by kernel_rfl) rfl trivial ?_
                              exact ⟨by rw [show boreErr (⟨num, kind, rad, flu, hol, stp, fd, plu⟩ : Tl) x y radius top depth = 11 from by (unfold boreErr outB; dsimp only; (rw [e1, e2, hgood, cd1b, cd2b, cd3b, cd4b, cd5b, cd6b, cd7b, cd8b, cd9b, cd10b, cd11b, cd12b, cd13b, cd14b]) <;> rfl)], hB⟩
                            · have cd14 := hb; have cd14b := hb; clear hb
                              have hq1 : 0 ≤ (depth + stp - 1) / stp := Int.ediv_nonneg (by omega) (by omega)
                              have hq2 : (depth + stp - 1) / stp ≤ depth + stp - 1 := Int.ediv_le_self _ (by omega)
                              refine at_skip (by kernel_rfl) ?_
                              refine wayN_node rfl ?_
                              refine at_seq (j := 30) (by kernel_rfl) ?_
                              refine at_region (id := 8) (by kernel_rfl) ?_
                              refine atR_seg (m := 9) (H := [(2, none, [.int .i64 stp]), (3, some (.int .i64 (depth + stp)), []), (4, some (.int .i64 (depth + stp - 1)), []), (6, none, [.int .i64 stp]), (7, some (.int .i64 ((depth + stp - 1) / stp)), [])]) (ts := [2, 3, 5, 9, 12, 13]) (L' := [(2, .int .i64 top), (3, .int .i64 depth), (5, .pointer (some ⟨b1, 0, none⟩)), (9, .pointer (some ⟨b2, 0, none⟩)), (12, .int .i64 (radius - rad)), (13, .int .i64 ((depth + stp - 1) / stp))]) (O := fun w => (w.cell? ⟨b2, 5, none⟩ = some (.int .i64 stp)) ∧ (W .i64 (depth + stp)) ∧ (W .i64 (depth + stp - 1)) ∧ (w.cell? ⟨b2, 5, none⟩ = some (.int .i64 stp)) ∧ (Wq (depth + stp - 1) stp) ∧ (stp ≠ 0) ∧ True) hs (by kernel_rfl) ⟨B2.cell 5 rfl, w64 (by omega) (by omega), w64 (by omega) (by omega), B2.cell 5 rfl, wq (by omega) (by omega) (by omega), by omega, trivial⟩ ?_
                              clear hs a; intro a hs
                              refine atR_end (by kernel_rfl) ?_
                              refine wayN_node rfl ?_
                              refine at_seq (j := 38) (by kernel_rfl) ?_
                              refine at_seq (j := 33) (by kernel_rfl) ?_
                              refine at_region (id := 9) (by kernel_rfl) ?_
                              refine atR_seg (m := 4) (H := [(1, some (.int .i64 (4 * ((depth + stp - 1) / stp))), []), (2, some (.int .i64 (4 * ((depth + stp - 1) / stp) + 4)), [])]) (ts := [2, 3, 5, 9, 12, 13, 107]) (L' := [(2, .int .i64 top), (3, .int .i64 depth), (5, .pointer (some ⟨b1, 0, none⟩)), (9, .pointer (some ⟨b2, 0, none⟩)), (12, .int .i64 (radius - rad)), (13, .int .i64 ((depth + stp - 1) / stp)), (107, .bool (decide (4 * ((depth + stp - 1) / stp) + 4 > 20000)))]) (O := fun w => (W .i64 (4 * ((depth + stp - 1) / stp))) ∧ (W .i64 (4 * ((depth + stp - 1) / stp) + 4)) ∧ True) hs (by kernel_rfl) ⟨w64 (by omega) (by omega), w64 (by omega) (by omega), trivial⟩ ?_
                              clear hs a; intro a hs
                              refine atR_end (by kernel_rfl) ?_
                              refine wayN_node rfl ?_
                              refine at_cond (t := 107) (j1 := 34) (j2 := 37) (b := decide (4 * ((depth + stp - 1) / stp) + 4 > 20000)) (by kernel_rfl) hs rfl (fun hb => ?_) (fun hb => ?_)
                              · have cd15 := hb; have cd15b := hb; clear hb
                                replace cd15 := of_decide_eq_true cd15
                                refine at_seq (j := 36) (by kernel_rfl) ?_
                                refine at_region (id := 10) (by kernel_rfl) ?_
                                refine atR_seg (m := 2) (H := []) (ts := [10, 11]) (L' := [(10, .slice none 0 0), (11, .int .i64 3)]) (O := fun w => True) hs (by kernel_rfl) trivial ?_
                                clear hs a; intro a hs
                                refine atR_end (by kernel_rfl) ?_
                                refine wayN_node rfl ?_
                                refine at_ret (by kernel_rfl) ?_
                                refine at_end (vs := [.slice none 0 0, .int .i64 3]) (H := []) (v := .tuple #[.slice none 0 0, .int .i64 3]) (O := fun w => True) hs (by kernel_rfl) rfl trivial ?_
                                exact ⟨by rw [show boreErr (⟨num, kind, rad, flu, hol, stp, fd, plu⟩ : Tl) x y radius top depth = 3 from by (unfold boreErr outB; dsimp only; (rw [e1, e2, hgood, cd1b, cd2b, cd3b, cd4b, cd5b, cd6b, cd7b, cd8b, cd9b, cd10b, cd11b, cd12b, cd13b, cd14b, cd15b]) <;> rfl)], hB⟩
                              · have cd15 := hb; have cd15b := hb; clear hb
                                replace cd15 := of_decide_eq_false cd15
                                refine at_skip (by kernel_rfl) ?_
                                refine wayN_node rfl ?_
                                refine at_seq (j := 40) (by kernel_rfl) ?_
                                exact absurd (show boreErr (⟨num, kind, rad, flu, hol, stp, fd, plu⟩ : Tl) x y radius top depth = 0 from by (unfold boreErr outB; dsimp only; (rw [e1, e2, hgood, cd1b, cd2b, cd3b, cd4b, cd5b, cd6b, cd7b, cd8b, cd9b, cd10b, cd11b, cd12b, cd13b, cd14b, cd15b]) <;> rfl)) hne
end Go.Proofs.YtpiabmjipgfjjaaDoor
