/- interpolate.Valid for rapid and feed moves, and for quarter arcs. -/
import Derived.Test.YtpiabmjipgfjjaaDoorInterp
namespace Go.Proofs.YtpiabmjipgfjjaaDoor
open Go.RowKit
def gr (a : Int) : Prop := -10000000 ≤ a ∧ a ≤ 10000000
theorem gr.i {a : Int} (h : gr a) : i64 a := ⟨by have := h.1; omega, by have := h.2; omega⟩
theorem gr.no {a : Int} (h : gr a) : decide (apartI a 0 > 10000000) = false := by
  obtain ⟨h1, h2⟩ := h
  unfold apartI
  split <;> simp <;> omega
noncomputable def body21 : Code := Tryd.f21.body.getD .skip
set_option maxHeartbeats 1000000 in
theorem ivalid1 (fx fy fz x y z cx cy r : Int) (w : World) (hr : r = 0) (hfx : gr fx) (hfy : gr fy) (hfz : gr fz) (hx : gr x) (hy : gr y) (hz : gr z) : Calls Tryd.prog 21 #[.agg #[.int .i64 fx, .int .i64 fy, .int .i64 fz], .agg #[.int .i64 1, .int .i64 x, .int .i64 y, .int .i64 z, .int .i64 cx, .int .i64 cy, .int .i64 r]] w fun e w' => e = .returned (.int .i64 0) ∧ Below w.heap.size w w' := by
  have hB : Below w.heap.size w w := Below.refl _ _
  refine enter (B := body21) (args := [.agg #[.int .i64 fx, .int .i64 fy, .int .i64 fz], .agg #[.int .i64 1, .int .i64 x, .int .i64 y, .int .i64 z, .int .i64 cx, .int .i64 cy, .int .i64 r]]) Tryd.func21 (by kernel_rfl) (by kernel_rfl) ?_
  rw [show Tryd.f21.ntmps = 91 from by kernel_rfl]
  intro a hs
  replace hs := hs.pick (ts := [0, 1]) (L' := [(0, .agg #[.int .i64 fx, .int .i64 fy, .int .i64 fz]), (1, .agg #[.int .i64 1, .int .i64 x, .int .i64 y, .int .i64 z, .int .i64 cx, .int .i64 cy, .int .i64 r])]) (by kernel_rfl)
  refine at_seq (j := 2) (by kernel_rfl) ?_
  refine at_region (id := 0) (by kernel_rfl) ?_
  refine atR_op hs (by kernel_rfl) (new1 (t := 46) (cs := #[.int .i64 fx, .int .i64 fy, .int .i64 fz]) (fun rb_ => .pointer (some ⟨rb_, 0, none⟩)) [1, 2] (fun rb_ => [(1, .agg #[.int .i64 1, .int .i64 x, .int .i64 y, .int .i64 z, .int .i64 cx, .int .i64 cy, .int .i64 r]), (2, .pointer (some ⟨rb_, 0, none⟩))]) hs (fun _ => by kernel_rfl) (fun _ => by kernel_rfl) ?_)
  clear hs a; intro a w1 b1 hn hs
  have B1 := hn.blk
  have l1 : w.heap.size ≤ b1 := by rw [hn.at_]; exact hB.size
  replace hB := later hB hn.below
  clear hn
  refine atR_op hs (by kernel_rfl) (new1 (t := 48) (cs := #[.int .i64 1, .int .i64 x, .int .i64 y, .int .i64 z, .int .i64 cx, .int .i64 cy, .int .i64 r]) (fun rb_ => .pointer (some ⟨rb_, 0, none⟩)) [2, 3] (fun rb_ => [(2, .pointer (some ⟨b1, 0, none⟩)), (3, .pointer (some ⟨rb_, 0, none⟩))]) hs (fun _ => by kernel_rfl) (fun _ => by kernel_rfl) ?_)
  clear hs a; intro a w2 b2 hn hs
  have B2 := hn.blk
  have l2 : w.heap.size ≤ b2 := by rw [hn.at_]; exact hB.size
  have l2' : b1 < b2 := by rw [hn.at_]; exact B1.lt
  replace B1 := B1.below hn.below B1.lt
  replace hB := later hB hn.below
  clear hn
  refine atR_seg (m := 1) (H := []) (ts := [2, 3]) (L' := [(2, .pointer (some ⟨b1, 0, none⟩)), (3, .pointer (some ⟨b2, 0, none⟩))]) (O := fun w => True) hs (by kernel_rfl) trivial ?_
  clear hs a; intro a hs
  refine atR_end (by kernel_rfl) ?_
  refine wayN_node rfl ?_
  refine at_seq (j := 10) (by kernel_rfl) ?_
  refine at_seq (j := 5) (by kernel_rfl) ?_
  refine at_region (id := 1) (by kernel_rfl) ?_
  refine atR_seg (m := 2) (H := [(0, none, [.int .i64 fx, .int .i64 fy, .int .i64 fz]), (1, none, [.int .i64 1, .int .i64 x, .int .i64 y, .int .i64 z, .int .i64 cx, .int .i64 cy, .int .i64 r])]) (ts := [2, 3, 11, 12]) (L' := [(2, .pointer (some ⟨b1, 0, none⟩)), (3, .pointer (some ⟨b2, 0, none⟩)), (11, .agg #[.int .i64 fx, .int .i64 fy, .int .i64 fz]), (12, .agg #[.int .i64 1, .int .i64 x, .int .i64 y, .int .i64 z, .int .i64 cx, .int .i64 cy, .int .i64 r])]) (O := fun w => (w.cell? ⟨b1, 0, none⟩ = some (.int .i64 fx)) ∧ (w.cell? ⟨b1, 1, none⟩ = some (.int .i64 fy)) ∧ (w.cell? ⟨b1, 2, none⟩ = some (.int .i64 fz)) ∧ (w.cell? ⟨b2, 0, none⟩ = some (.int .i64 1)) ∧ (w.cell? ⟨b2, 1, none⟩ = some (.int .i64 x)) ∧ (w.cell? ⟨b2, 2, none⟩ = some (.int .i64 y)) ∧ (w.cell? ⟨b2, 3, none⟩ = some (.int .i64 z)) ∧ (w.cell? ⟨b2, 4, none⟩ = some (.int .i64 cx)) ∧ (w.cell? ⟨b2, 5, none⟩ = some (.int .i64 cy)) ∧ (w.cell? ⟨b2, 6, none⟩ = some (.int .i64 r)) ∧ True) hs (by kernel_rfl) ⟨B1.cell 0 rfl, B1.cell 1 rfl, B1.cell 2 rfl, B2.cell 0 rfl, B2.cell 1 rfl, B2.cell 2 rfl, B2.cell 3 rfl, B2.cell 4 rfl, B2.cell 5 rfl, B2.cell 6 rfl, trivial⟩ ?_
  clear hs a; intro a hs
  refine atR_op hs (by kernel_rfl) (call1 (f := 32) (args := #[.agg #[.int .i64 fx, .int .i64 fy, .int .i64 fz], .agg #[.int .i64 1, .int .i64 x, .int .i64 y, .int .i64 z, .int .i64 cx, .int .i64 cy, .int .i64 r]]) [2, 3, 13] (fun rv_ => [(2, .pointer (some ⟨b1, 0, none⟩)), (3, .pointer (some ⟨b2, 0, none⟩)), (13, rv_)]) hs (by kernel_rfl) (fun _ => by kernel_rfl) ?_)
  refine (right1 _ _ _ _ _ _ _ _ _ _ hr).mono ?_
  rintro e w3 ⟨rfl, hb⟩
  refine ⟨_, rfl, ?_⟩
  clear hs a; intro a hs
  replace B1 := B1.below hb B1.lt
  replace B2 := B2.below hb B2.lt
  replace hB := later hB hb
  clear hb
  refine atR_seg (m := 1) (H := []) (ts := [2, 3, 14]) (L' := [(2, .pointer (some ⟨b1, 0, none⟩)), (3, .pointer (some ⟨b2, 0, none⟩)), (14, .bool false)]) (O := fun w => True) hs (by kernel_rfl) trivial ?_
  clear hs a; intro a hs
  refine atR_end (by kernel_rfl) ?_
  refine wayN_node rfl ?_
  refine at_cond (t := 14) (j1 := 6) (j2 := 9) (b := false) (by kernel_rfl) hs rfl (fun hb => absurd (hb.symm.trans (show (false) = false from rfl)) (by decide)) (fun _ => ?_)
  refine at_skip (by kernel_rfl) ?_
  refine wayN_node rfl ?_
  refine at_seq (j := 12) (by kernel_rfl) ?_
  refine at_region (id := 3) (by kernel_rfl) ?_
  refine atR_seg (m := 15) (H := [(1, none, [.int .i64 fx]), (3, none, [.int .i64 fy]), (5, none, [.int .i64 fz]), (8, none, [.int .i64 x]), (11, none, [.int .i64 y]), (14, none, [.int .i64 z])]) (ts := [2, 3, 16, 18, 20, 23, 26, 29]) (L' := [(2, .pointer (some ⟨b1, 0, none⟩)), (3, .pointer (some ⟨b2, 0, none⟩)), (16, .int .i64 fx), (18, .int .i64 fy), (20, .int .i64 fz), (23, .int .i64 x), (26, .int .i64 y), (29, .int .i64 z)]) (O := fun w => (w.cell? ⟨b1, 0, none⟩ = some (.int .i64 fx)) ∧ (w.cell? ⟨b1, 1, none⟩ = some (.int .i64 fy)) ∧ (w.cell? ⟨b1, 2, none⟩ = some (.int .i64 fz)) ∧ (w.cell? ⟨b2, 1, none⟩ = some (.int .i64 x)) ∧ (w.cell? ⟨b2, 2, none⟩ = some (.int .i64 y)) ∧ (w.cell? ⟨b2, 3, none⟩ = some (.int .i64 z)) ∧ True) hs (by kernel_rfl) ⟨B1.cell 0 rfl, B1.cell 1 rfl, B1.cell 2 rfl, B2.cell 1 rfl, B2.cell 2 rfl, B2.cell 3 rfl, trivial⟩ ?_
  clear hs a; intro a hs
  refine atR_op hs (by kernel_rfl) (new1 (t := 2) (cs := #[.int .i64 fx, .int .i64 fy, .int .i64 fz, .int .i64 x, .int .i64 y, .int .i64 z]) (fun rb_ => .slice (some ⟨rb_, 0, none⟩) 6 6) [2, 3, 30] (fun rb_ => [(2, .pointer (some ⟨b1, 0, none⟩)), (3, .pointer (some ⟨b2, 0, none⟩)), (30, .slice (some ⟨rb_, 0, none⟩) 6 6)]) hs (fun _ => by kernel_rfl) (fun _ => by kernel_rfl) ?_)
  clear hs a; intro a w4 b3 hn hs
  have B3 := hn.blk
  have l3 : w.heap.size ≤ b3 := by rw [hn.at_]; exact hB.size
  have l3' : b2 < b3 := by rw [hn.at_]; exact B2.lt
  replace B1 := B1.below hn.below B1.lt
  replace B2 := B2.below hn.below B2.lt
  replace hB := later hB hn.below
  clear hn
  refine atR_seg (m := 1) (H := []) (ts := [2, 3, 5]) (L' := [(2, .pointer (some ⟨b1, 0, none⟩)), (3, .pointer (some ⟨b2, 0, none⟩)), (5, .slice (some ⟨b3, 0, none⟩) 6 6)]) (O := fun w => True) hs (by kernel_rfl) trivial ?_
  clear hs a; intro a hs
  refine atR_end (by kernel_rfl) ?_
  refine wayN_node rfl ?_
  refine at_seq (j := 30) (by kernel_rfl) ?_
  refine at_seq (j := 15) (by kernel_rfl) ?_
  refine at_region (id := 4) (by kernel_rfl) ?_
  refine atR_seg (m := 1) (H := [(0, none, [.int .i64 1, .int .i64 x, .int .i64 y, .int .i64 z, .int .i64 cx, .int .i64 cy, .int .i64 r])]) (ts := [2, 3, 5, 31]) (L' := [(2, .pointer (some ⟨b1, 0, none⟩)), (3, .pointer (some ⟨b2, 0, none⟩)), (5, .slice (some ⟨b3, 0, none⟩) 6 6), (31, .agg #[.int .i64 1, .int .i64 x, .int .i64 y, .int .i64 z, .int .i64 cx, .int .i64 cy, .int .i64 r])]) (O := fun w => (w.cell? ⟨b2, 0, none⟩ = some (.int .i64 1)) ∧ (w.cell? ⟨b2, 1, none⟩ = some (.int .i64 x)) ∧ (w.cell? ⟨b2, 2, none⟩ = some (.int .i64 y)) ∧ (w.cell? ⟨b2, 3, none⟩ = some (.int .i64 z)) ∧ (w.cell? ⟨b2, 4, none⟩ = some (.int .i64 cx)) ∧ (w.cell? ⟨b2, 5, none⟩ = some (.int .i64 cy)) ∧ (w.cell? ⟨b2, 6, none⟩ = some (.int .i64 r)) ∧ True) hs (by kernel_rfl) ⟨B2.cell 0 rfl, B2.cell 1 rfl, B2.cell 2 rfl, B2.cell 3 rfl, B2.cell 4 rfl, B2.cell 5 rfl, B2.cell 6 rfl, trivial⟩ ?_
  clear hs a; intro a hs
  refine atR_op hs (by kernel_rfl) (call1 (f := 33) (args := #[.agg #[.int .i64 1, .int .i64 x, .int .i64 y, .int .i64 z, .int .i64 cx, .int .i64 cy, .int .i64 r]]) [2, 3, 5, 32] (fun rv_ => [(2, .pointer (some ⟨b1, 0, none⟩)), (3, .pointer (some ⟨b2, 0, none⟩)), (5, .slice (some ⟨b3, 0, none⟩) 6 6), (32, rv_)]) hs (by kernel_rfl) (fun _ => by kernel_rfl) ?_)
  refine (isArc_any _ _ _ _ _ _ _ _).mono ?_
  rintro e w5 ⟨rfl, hb⟩
  refine ⟨_, rfl, ?_⟩
  clear hs a; intro a hs
  replace B1 := B1.below hb B1.lt
  replace B2 := B2.below hb B2.lt
  replace B3 := B3.below hb B3.lt
  replace hB := later hB hb
  clear hb
  refine atR_end (by kernel_rfl) ?_
  refine wayN_node rfl ?_
  refine at_cond (t := 32) (j1 := 16) (j2 := 29) (b := false) (by kernel_rfl) hs rfl (fun hb => absurd (hb.symm.trans (show (false) = false from rfl)) (by decide)) (fun _ => ?_)
  refine at_skip (by kernel_rfl) ?_
  refine wayN_node rfl ?_
  refine at_seq (j := 53) (by kernel_rfl) ?_
  refine at_seq (j := 33) (by kernel_rfl) ?_
  refine at_region (id := 10) (by kernel_rfl) ?_
  refine atR_seg (m := 3) (H := []) (ts := [81, 82, 83]) (L' := [(81, .slice (some ⟨b3, 0, none⟩) 6 6), (82, .int .i64 6), (83, .int .i64 0)]) (O := fun w => True) hs (by kernel_rfl) trivial ?_
  clear hs a; intro a hs
  refine atR_end (by kernel_rfl) ?_
  refine wayN_node rfl ?_
  refine at_block (id := 0) (by kernel_rfl) ?_
  refine at_rounds 7 (by kernel_rfl) ?_
  refine rounds_at ?_
  refine at_seq (j := 37) (by kernel_rfl) ?_
  refine at_region (id := 11) (by kernel_rfl) ?_
  refine atR_seg (m := 1) (H := []) (ts := [81, 82, 83, 84]) (L' := [(81, .slice (some ⟨b3, 0, none⟩) 6 6), (82, .int .i64 6), (83, .int .i64 0), (84, .bool true)]) (O := fun w => True) hs (by kernel_rfl) trivial ?_
  clear hs a; intro a hs
  refine atR_end (by kernel_rfl) ?_
  refine wayN_node rfl ?_
  refine at_seq (j := 41) (by kernel_rfl) ?_
  refine at_cond (t := 84) (j1 := 39) (j2 := 40) (b := true) (by kernel_rfl) hs rfl (fun _ => ?_) (fun hb => absurd (hb.symm.trans (show (true) = true from rfl)) (by decide))
  refine at_skip (by kernel_rfl) ?_
  refine wayN_node rfl ?_
  refine at_seq (j := 52) (by kernel_rfl) ?_
  refine at_block (id := 1) (by kernel_rfl) ?_
  refine at_seq (j := 45) (by kernel_rfl) ?_
  refine at_region (id := 12) (by kernel_rfl) ?_
  refine atR_seg (m := 3) (H := [(1, none, [.int .i64 fx])]) (ts := [10, 81, 82, 83]) (L' := [(10, .int .i64 fx), (81, .slice (some ⟨b3, 0, none⟩) 6 6), (82, .int .i64 6), (83, .int .i64 0)]) (O := fun w => ((0 : Int) ≤ 0 ∧ 0 < ((6 : Nat) : Int)) ∧ (w.cell? ⟨b3, 0, none⟩ = some (.int .i64 fx)) ∧ True) hs (by kernel_rfl) ⟨⟨by omega, by omega⟩, B3.cell 0 rfl, trivial⟩ ?_
  clear hs a; intro a hs
  refine atR_end (by kernel_rfl) ?_
  refine wayN_node rfl ?_
  refine at_seq (j := 47) (by kernel_rfl) ?_
  refine at_region (id := 13) (by kernel_rfl) ?_
  refine atR_seg (m := 1) (H := []) (ts := [81, 82, 83, 87]) (L' := [(81, .slice (some ⟨b3, 0, none⟩) 6 6), (82, .int .i64 6), (83, .int .i64 0), (87, .int .i64 fx)]) (O := fun w => True) hs (by kernel_rfl) trivial ?_
  clear hs a; intro a hs
  refine atR_op hs (by kernel_rfl) (call1 (f := 35) (args := #[.int .i64 fx, .int .i64 0]) [81, 82, 83, 88] (fun rv_ => [(81, .slice (some ⟨b3, 0, none⟩) 6 6), (82, .int .i64 6), (83, .int .i64 0), (88, rv_)]) hs (by kernel_rfl) (fun _ => by kernel_rfl) ?_)
  refine (apart_any _ _ _ hfx.i ⟨by omega, by omega⟩).mono ?_
  rintro e w6 ⟨rfl, hb⟩
  refine ⟨_, rfl, ?_⟩
  clear hs a; intro a hs
  replace B1 := B1.below hb B1.lt
  replace B2 := B2.below hb B2.lt
  replace B3 := B3.below hb B3.lt
  replace hB := later hB hb
  clear hb
  refine atR_seg (m := 1) (H := []) (ts := [81, 82, 83, 89]) (L' := [(81, .slice (some ⟨b3, 0, none⟩) 6 6), (82, .int .i64 6), (83, .int .i64 0), (89, .bool (decide (apartI fx 0 > 10000000)))]) (O := fun w => True) hs (by kernel_rfl) trivial ?_
  clear hs a; intro a hs
  refine atR_end (by kernel_rfl) ?_
  refine wayN_node rfl ?_
  refine at_cond (t := 89) (j1 := 48) (j2 := 51) (b := decide (apartI fx 0 > 10000000)) (by kernel_rfl) hs rfl (fun hb => absurd (hb.symm.trans (show (decide (apartI fx 0 > 10000000)) = false from gr.no hfx)) (by decide)) (fun _ => ?_)
  refine at_skip (by kernel_rfl) ?_
  refine wayN_node rfl ?_
  refine at_region (id := 15) (by kernel_rfl) ?_
  refine atR_seg (m := 2) (H := []) (ts := [81, 82, 83]) (L' := [(81, .slice (some ⟨b3, 0, none⟩) 6 6), (82, .int .i64 6), (83, .int .i64 1)]) (O := fun w => True) hs (by kernel_rfl) trivial ?_
  clear hs a; intro a hs
  refine atR_end (by kernel_rfl) ?_
  refine wayN_back ?_
  dsimp only [lpOf]
  refine rounds_at ?_
  refine at_seq (j := 37) (by kernel_rfl) ?_
  refine at_region (id := 11) (by kernel_rfl) ?_
  refine atR_seg (m := 1) (H := []) (ts := [81, 82, 83, 84]) (L' := [(81, .slice (some ⟨b3, 0, none⟩) 6 6), (82, .int .i64 6), (83, .int .i64 1), (84, .bool true)]) (O := fun w => True) hs (by kernel_rfl) trivial ?_
  clear hs a; intro a hs
  refine atR_end (by kernel_rfl) ?_
  refine wayN_node rfl ?_
  refine at_seq (j := 41) (by kernel_rfl) ?_
  refine at_cond (t := 84) (j1 := 39) (j2 := 40) (b := true) (by kernel_rfl) hs rfl (fun _ => ?_) (fun hb => absurd (hb.symm.trans (show (true) = true from rfl)) (by decide))
  refine at_skip (by kernel_rfl) ?_
  refine wayN_node rfl ?_
  refine at_seq (j := 52) (by kernel_rfl) ?_
  refine at_block (id := 1) (by kernel_rfl) ?_
  refine at_seq (j := 45) (by kernel_rfl) ?_
  refine at_region (id := 12) (by kernel_rfl) ?_
  refine atR_seg (m := 3) (H := [(1, none, [.int .i64 fy])]) (ts := [10, 81, 82, 83]) (L' := [(10, .int .i64 fy), (81, .slice (some ⟨b3, 0, none⟩) 6 6), (82, .int .i64 6), (83, .int .i64 1)]) (O := fun w => ((0 : Int) ≤ 1 ∧ 1 < ((6 : Nat) : Int)) ∧ (w.cell? ⟨b3, 1, none⟩ = some (.int .i64 fy)) ∧ True) hs (by kernel_rfl) ⟨⟨by omega, by omega⟩, B3.cell 1 rfl, trivial⟩ ?_
  clear hs a; intro a hs
  refine atR_end (by kernel_rfl) ?_
  refine wayN_node rfl ?_
  refine at_seq (j := 47) (by kernel_rfl) ?_
  refine at_region (id := 13) (by kernel_rfl) ?_
  refine atR_seg (m := 1) (H := []) (ts := [81, 82, 83, 87]) (L' := [(81, .slice (some ⟨b3, 0, none⟩) 6 6), (82, .int .i64 6), (83, .int .i64 1), (87, .int .i64 fy)]) (O := fun w => True) hs (by kernel_rfl) trivial ?_
  clear hs a; intro a hs
  refine atR_op hs (by kernel_rfl) (call1 (f := 35) (args := #[.int .i64 fy, .int .i64 0]) [81, 82, 83, 88] (fun rv_ => [(81, .slice (some ⟨b3, 0, none⟩) 6 6), (82, .int .i64 6), (83, .int .i64 1), (88, rv_)]) hs (by kernel_rfl) (fun _ => by kernel_rfl) ?_)
  refine (apart_any _ _ _ hfy.i ⟨by omega, by omega⟩).mono ?_
  rintro e w7 ⟨rfl, hb⟩
  refine ⟨_, rfl, ?_⟩
  clear hs a; intro a hs
  replace B1 := B1.below hb B1.lt
  replace B2 := B2.below hb B2.lt
  replace B3 := B3.below hb B3.lt
  replace hB := later hB hb
  clear hb
  refine atR_seg (m := 1) (H := []) (ts := [81, 82, 83, 89]) (L' := [(81, .slice (some ⟨b3, 0, none⟩) 6 6), (82, .int .i64 6), (83, .int .i64 1), (89, .bool (decide (apartI fy 0 > 10000000)))]) (O := fun w => True) hs (by kernel_rfl) trivial ?_
  clear hs a; intro a hs
  refine atR_end (by kernel_rfl) ?_
  refine wayN_node rfl ?_
  refine at_cond (t := 89) (j1 := 48) (j2 := 51) (b := decide (apartI fy 0 > 10000000)) (by kernel_rfl) hs rfl (fun hb => absurd (hb.symm.trans (show (decide (apartI fy 0 > 10000000)) = false from gr.no hfy)) (by decide)) (fun _ => ?_)
  refine at_skip (by kernel_rfl) ?_
  refine wayN_node rfl ?_
  refine at_region (id := 15) (by kernel_rfl) ?_
  refine atR_seg (m := 2) (H := []) (ts := [81, 82, 83]) (L' := [(81, .slice (some ⟨b3, 0, none⟩) 6 6), (82, .int .i64 6), (83, .int .i64 2)]) (O := fun w => True) hs (by kernel_rfl) trivial ?_
  clear hs a; intro a hs
  refine atR_end (by kernel_rfl) ?_
  refine wayN_back ?_
  dsimp only [lpOf]
  refine rounds_at ?_
  refine at_seq (j := 37) (by kernel_rfl) ?_
  refine at_region (id := 11) (by kernel_rfl) ?_
  refine atR_seg (m := 1) (H := []) (ts := [81, 82, 83, 84]) (L' := [(81, .slice (some ⟨b3, 0, none⟩) 6 6), (82, .int .i64 6), (83, .int .i64 2), (84, .bool true)]) (O := fun w => True) hs (by kernel_rfl) trivial ?_
  clear hs a; intro a hs
  refine atR_end (by kernel_rfl) ?_
  refine wayN_node rfl ?_
  refine at_seq (j := 41) (by kernel_rfl) ?_
  refine at_cond (t := 84) (j1 := 39) (j2 := 40) (b := true) (by kernel_rfl) hs rfl (fun _ => ?_) (fun hb => absurd (hb.symm.trans (show (true) = true from rfl)) (by decide))
  refine at_skip (by kernel_rfl) ?_
  refine wayN_node rfl ?_
  refine at_seq (j := 52) (by kernel_rfl) ?_
  refine at_block (id := 1) (by kernel_rfl) ?_
  refine at_seq (j := 45) (by kernel_rfl) ?_
  refine at_region (id := 12) (by kernel_rfl) ?_
  refine atR_seg (m := 3) (H := [(1, none, [.int .i64 fz])]) (ts := [10, 81, 82, 83]) (L' := [(10, .int .i64 fz), (81, .slice (some ⟨b3, 0, none⟩) 6 6), (82, .int .i64 6), (83, .int .i64 2)]) (O := fun w => ((0 : Int) ≤ 2 ∧ 2 < ((6 : Nat) : Int)) ∧ (w.cell? ⟨b3, 2, none⟩ = some (.int .i64 fz)) ∧ True) hs (by kernel_rfl) ⟨⟨by omega, by omega⟩, B3.cell 2 rfl, trivial⟩ ?_
  clear hs a; intro a hs
  refine atR_end (by kernel_rfl) ?_
  refine wayN_node rfl ?_
  refine at_seq (j := 47) (by kernel_rfl) ?_
  refine at_region (id := 13) (by kernel_rfl) ?_
  refine atR_seg (m := 1) (H := []) (ts := [81, 82, 83, 87]) (L' := [(81, .slice (some ⟨b3, 0, none⟩) 6 6), (82, .int .i64 6), (83, .int .i64 2), (87, .int .i64 fz)]) (O := fun w => True) hs (by kernel_rfl) trivial ?_
  clear hs a; intro a hs
  refine atR_op hs (by kernel_rfl) (call1 (f := 35) (args := #[.int .i64 fz, .int .i64 0]) [81, 82, 83, 88] (fun rv_ => [(81, .slice (some ⟨b3, 0, none⟩) 6 6), (82, .int .i64 6), (83, .int .i64 2), (88, rv_)]) hs (by kernel_rfl) (fun _ => by kernel_rfl) ?_)
  refine (apart_any _ _ _ hfz.i ⟨by omega, by omega⟩).mono ?_
  rintro e w8 ⟨rfl, hb⟩
  refine ⟨_, rfl, ?_⟩
  clear hs a; intro a hs
  replace B1 := B1.below hb B1.lt
  replace B2 := B2.below hb B2.lt
  replace B3 := B3.below hb B3.lt
  replace hB := later hB hb
  clear hb
  refine atR_seg (m := 1) (H := []) (ts := [81, 82, 83, 89]) (L' := [(81, .slice (some ⟨b3, 0, none⟩) 6 6), (82, .int .i64 6), (83, .int .i64 2), (89, .bool (decide (apartI fz 0 > 10000000)))]) (O := fun w => True) hs (by kernel_rfl) trivial ?_
  clear hs a; intro a hs
  refine atR_end (by kernel_rfl) ?_
  refine wayN_node rfl ?_
  refine at_cond (t := 89) (j1 := 48) (j2 := 51) (b := decide (apartI fz 0 > 10000000)) (by kernel_rfl) hs rfl (fun hb => absurd (hb.symm.trans (show (decide (apartI fz 0 > 10000000)) = false from gr.no hfz)) (by decide)) (fun _ => ?_)
  refine at_skip (by kernel_rfl) ?_
  refine wayN_node rfl ?_
  refine at_region (id := 15) (by kernel_rfl) ?_
  refine atR_seg (m := 2) (H := []) (ts := [81, 82, 83]) (L' := [(81, .slice (some ⟨b3, 0, none⟩) 6 6), (82, .int .i64 6), (83, .int .i64 3)]) (O := fun w => True) hs (by kernel_rfl) trivial ?_
  clear hs a; intro a hs
  refine atR_end (by kernel_rfl) ?_
  refine wayN_back ?_
  dsimp only [lpOf]
  refine rounds_at ?_
  refine at_seq (j := 37) (by kernel_rfl) ?_
  refine at_region (id := 11) (by kernel_rfl) ?_
  refine atR_seg (m := 1) (H := []) (ts := [81, 82, 83, 84]) (L' := [(81, .slice (some ⟨b3, 0, none⟩) 6 6), (82, .int .i64 6), (83, .int .i64 3), (84, .bool true)]) (O := fun w => True) hs (by kernel_rfl) trivial ?_
  clear hs a; intro a hs
  refine atR_end (by kernel_rfl) ?_
  refine wayN_node rfl ?_
  refine at_seq (j := 41) (by kernel_rfl) ?_
  refine at_cond (t := 84) (j1 := 39) (j2 := 40) (b := true) (by kernel_rfl) hs rfl (fun _ => ?_) (fun hb => absurd (hb.symm.trans (show (true) = true from rfl)) (by decide))
  refine at_skip (by kernel_rfl) ?_
  refine wayN_node rfl ?_
  refine at_seq (j := 52) (by kernel_rfl) ?_
  refine at_block (id := 1) (by kernel_rfl) ?_
  refine at_seq (j := 45) (by kernel_rfl) ?_
  refine at_region (id := 12) (by kernel_rfl) ?_
  refine atR_seg (m := 3) (H := [(1, none, [.int .i64 x])]) (ts := [10, 81, 82, 83]) (L' := [(10, .int .i64 x), (81, .slice (some ⟨b3, 0, none⟩) 6 6), (82, .int .i64 6), (83, .int .i64 3)]) (O := fun w => ((0 : Int) ≤ 3 ∧ 3 < ((6 : Nat) : Int)) ∧ (w.cell? ⟨b3, 3, none⟩ = some (.int .i64 x)) ∧ True) hs (by kernel_rfl) ⟨⟨by omega, by omega⟩, B3.cell 3 rfl, trivial⟩ ?_
  clear hs a; intro a hs
  refine atR_end (by kernel_rfl) ?_
  refine wayN_node rfl ?_
  refine at_seq (j := 47) (by kernel_rfl) ?_
  refine at_region (id := 13) (by kernel_rfl) ?_
  refine atR_seg (m := 1) (H := []) (ts := [81, 82, 83, 87]) (L' := [(81, .slice (some ⟨b3, 0, none⟩) 6 6), (82, .int .i64 6), (83, .int .i64 3), (87, .int .i64 x)]) (O := fun w => True) hs (by kernel_rfl) trivial ?_
  clear hs a; intro a hs
  refine atR_op hs (by kernel_rfl) (call1 (f := 35) (args := #[.int .i64 x, .int .i64 0]) [81, 82, 83, 88] (fun rv_ => [(81, .slice (some ⟨b3, 0, none⟩) 6 6), (82, .int .i64 6), (83, .int .i64 3), (88, rv_)]) hs (by kernel_rfl) (fun _ => by kernel_rfl) ?_)
  refine (apart_any _ _ _ hx.i ⟨by omega, by omega⟩).mono ?_
  rintro e w9 ⟨rfl, hb⟩
  refine ⟨_, rfl, ?_⟩
  clear hs a; intro a hs
  replace B1 := B1.below hb B1.lt
  replace B2 := B2.below hb B2.lt
  replace B3 := B3.below hb B3.lt
  replace hB := later hB hb
  clear hb
  refine atR_seg (m := 1) (H := []) (ts := [81, 82, 83, 89]) (L' := [(81, .slice (some ⟨b3, 0, none⟩) 6 6), (82, .int .i64 6), (83, .int .i64 3), (89, .bool (decide (apartI x 0 > 10000000)))]) (O := fun w => True) hs (by kernel_rfl) trivial ?_
  clear hs a; intro a hs
  refine atR_end (by kernel_rfl) ?_
  refine wayN_node rfl ?_
  refine at_cond (t := 89) (j1 := 48) (j2 := 51) (b := decide (apartI x 0 > 10000000)) (by kernel_rfl) hs rfl (fun hb => absurd (hb.symm.trans (show (decide (apartI x 0 > 10000000)) = false from gr.no hx)) (by decide)) (fun _ => ?_)
  refine at_skip (by kernel_rfl) ?_
  refine wayN_node rfl ?_
  refine at_region (id := 15) (by kernel_rfl) ?_
  refine atR_seg (m := 2) (H := []) (ts := [81, 82, 83]) (L' := [(81, .slice (some ⟨b3, 0, none⟩) 6 6), (82, .int .i64 6), (83, .int .i64 4)]) (O := fun w => True) hs (by kernel_rfl) trivial ?_
  clear hs a; intro a hs
  refine atR_end (by kernel_rfl) ?_
  refine wayN_back ?_
  dsimp only [lpOf]
  refine rounds_at ?_
  refine at_seq (j := 37) (by kernel_rfl) ?_
  refine at_region (id := 11) (by kernel_rfl) ?_
  refine atR_seg (m := 1) (H := []) (ts := [81, 82, 83, 84]) (L' := [(81, .slice (some ⟨b3, 0, none⟩) 6 6), (82, .int .i64 6), (83, .int .i64 4), (84, .bool true)]) (O := fun w => True) hs (by kernel_rfl) trivial ?_
  clear hs a; intro a hs
  refine atR_end (by kernel_rfl) ?_
  refine wayN_node rfl ?_
  refine at_seq (j := 41) (by kernel_rfl) ?_
  refine at_cond (t := 84) (j1 := 39) (j2 := 40) (b := true) (by kernel_rfl) hs rfl (fun _ => ?_) (fun hb => absurd (hb.symm.trans (show (true) = true from rfl)) (by decide))
  refine at_skip (by kernel_rfl) ?_
  refine wayN_node rfl ?_
  refine at_seq (j := 52) (by kernel_rfl) ?_
  refine at_block (id := 1) (by kernel_rfl) ?_
  refine at_seq (j := 45) (by kernel_rfl) ?_
  refine at_region (id := 12) (by kernel_rfl) ?_
  refine atR_seg (m := 3) (H := [(1, none, [.int .i64 y])]) (ts := [10, 81, 82, 83]) (L' := [(10, .int .i64 y), (81, .slice (some ⟨b3, 0, none⟩) 6 6), (82, .int .i64 6), (83, .int .i64 4)]) (O := fun w => ((0 : Int) ≤ 4 ∧ 4 < ((6 : Nat) : Int)) ∧ (w.cell? ⟨b3, 4, none⟩ = some (.int .i64 y)) ∧ True) hs (by kernel_rfl) ⟨⟨by omega, by omega⟩, B3.cell 4 rfl, trivial⟩ ?_
  clear hs a; intro a hs
  refine atR_end (by kernel_rfl) ?_
  refine wayN_node rfl ?_
  refine at_seq (j := 47) (by kernel_rfl) ?_
  refine at_region (id := 13) (by kernel_rfl) ?_
  refine atR_seg (m := 1) (H := []) (ts := [81, 82, 83, 87]) (L' := [(81, .slice (some ⟨b3, 0, none⟩) 6 6), (82, .int .i64 6), (83, .int .i64 4), (87, .int .i64 y)]) (O := fun w => True) hs (by kernel_rfl) trivial ?_
  clear hs a; intro a hs
  refine atR_op hs (by kernel_rfl) (call1 (f := 35) (args := #[.int .i64 y, .int .i64 0]) [81, 82, 83, 88] (fun rv_ => [(81, .slice (some ⟨b3, 0, none⟩) 6 6), (82, .int .i64 6), (83, .int .i64 4), (88, rv_)]) hs (by kernel_rfl) (fun _ => by kernel_rfl) ?_)
  refine (apart_any _ _ _ hy.i ⟨by omega, by omega⟩).mono ?_
  rintro e w10 ⟨rfl, hb⟩
  refine ⟨_, rfl, ?_⟩
  clear hs a; intro a hs
  replace B1 := B1.below hb B1.lt
  replace B2 := B2.below hb B2.lt
  replace B3 := B3.below hb B3.lt
  replace hB := later hB hb
  clear hb
  refine atR_seg (m := 1) (H := []) (ts := [81, 82, 83, 89]) (L' := [(81, .slice (some ⟨b3, 0, none⟩) 6 6), (82, .int .i64 6), (83, .int .i64 4), (89, .bool (decide (apartI y 0 > 10000000)))]) (O := fun w => True) hs (by kernel_rfl) trivial ?_
  clear hs a; intro a hs
  refine atR_end (by kernel_rfl) ?_
  refine wayN_node rfl ?_
  refine at_cond (t := 89) (j1 := 48) (j2 := 51) (b := decide (apartI y 0 > 10000000)) (by kernel_rfl) hs rfl (fun hb => absurd (hb.symm.trans (show (decide (apartI y 0 > 10000000)) = false from gr.no hy)) (by decide)) (fun _ => ?_)
  refine at_skip (by kernel_rfl) ?_
  refine wayN_node rfl ?_
  refine at_region (id := 15) (by kernel_rfl) ?_
  refine atR_seg (m := 2) (H := []) (ts := [81, 82, 83]) (L' := [(81, .slice (some ⟨b3, 0, none⟩) 6 6), (82, .int .i64 6), (83, .int .i64 5)]) (O := fun w => True) hs (by kernel_rfl) trivial ?_
  clear hs a; intro a hs
  refine atR_end (by kernel_rfl) ?_
  refine wayN_back ?_
  dsimp only [lpOf]
  refine rounds_at ?_
  refine at_seq (j := 37) (by kernel_rfl) ?_
  refine at_region (id := 11) (by kernel_rfl) ?_
  refine atR_seg (m := 1) (H := []) (ts := [81, 82, 83, 84]) (L' := [(81, .slice (some ⟨b3, 0, none⟩) 6 6), (82, .int .i64 6), (83, .int .i64 5), (84, .bool true)]) (O := fun w => True) hs (by kernel_rfl) trivial ?_
  clear hs a; intro a hs
  refine atR_end (by kernel_rfl) ?_
  refine wayN_node rfl ?_
  refine at_seq (j := 41) (by kernel_rfl) ?_
  refine at_cond (t := 84) (j1 := 39) (j2 := 40) (b := true) (by kernel_rfl) hs rfl (fun _ => ?_) (fun hb => absurd (hb.symm.trans (show (true) = true from rfl)) (by decide))
  refine at_skip (by kernel_rfl) ?_
  refine wayN_node rfl ?_
  refine at_seq (j := 52) (by kernel_rfl) ?_
  refine at_block (id := 1) (by kernel_rfl) ?_
  refine at_seq (j := 45) (by kernel_rfl) ?_
  refine at_region (id := 12) (by kernel_rfl) ?_
  refine atR_seg (m := 3) (H := [(1, none, [.int .i64 z])]) (ts := [10, 81, 82, 83]) (L' := [(10, .int .i64 z), (81, .slice (some ⟨b3, 0, none⟩) 6 6), (82, .int .i64 6), (83, .int .i64 5)]) (O := fun w => ((0 : Int) ≤ 5 ∧ 5 < ((6 : Nat) : Int)) ∧ (w.cell? ⟨b3, 5, none⟩ = some (.int .i64 z)) ∧ True) hs (by kernel_rfl) ⟨⟨by omega, by omega⟩, B3.cell 5 rfl, trivial⟩ ?_
  clear hs a; intro a hs
  refine atR_end (by kernel_rfl) ?_
  refine wayN_node rfl ?_
  refine at_seq (j := 47) (by kernel_rfl) ?_
  refine at_region (id := 13) (by kernel_rfl) ?_
  refine atR_seg (m := 1) (H := []) (ts := [81, 82, 83, 87]) (L' := [(81, .slice (some ⟨b3, 0, none⟩) 6 6), (82, .int .i64 6), (83, .int .i64 5), (87, .int .i64 z)]) (O := fun w => True) hs (by kernel_rfl) trivial ?_
  clear hs a; intro a hs
  refine atR_op hs (by kernel_rfl) (call1 (f := 35) (args := #[.int .i64 z, .int .i64 0]) [81, 82, 83, 88] (fun rv_ => [(81, .slice (some ⟨b3, 0, none⟩) 6 6), (82, .int .i64 6), (83, .int .i64 5), (88, rv_)]) hs (by kernel_rfl) (fun _ => by kernel_rfl) ?_)
  refine (apart_any _ _ _ hz.i ⟨by omega, by omega⟩).mono ?_
  rintro e w11 ⟨rfl, hb⟩
  refine ⟨_, rfl, ?_⟩
  clear hs a; intro a hs
  replace B1 := B1.below hb B1.lt
  replace B2 := B2.below hb B2.lt
  replace B3 := B3.below hb B3.lt
  replace hB := later hB hb
  clear hb
  refine atR_seg (m := 1) (H := []) (ts := [81, 82, 83, 89]) (L' := [(81, .slice (some ⟨b3, 0, none⟩) 6 6), (82, .int .i64 6), (83, .int .i64 5), (89, .bool (decide (apartI z 0 > 10000000)))]) (O := fun w => True) hs (by kernel_rfl) trivial ?_
  clear hs a; intro a hs
  refine atR_end (by kernel_rfl) ?_
  refine wayN_node rfl ?_
  refine at_cond (t := 89) (j1 := 48) (j2 := 51) (b := decide (apartI z 0 > 10000000)) (by kernel_rfl) hs rfl (fun hb => absurd (hb.symm.trans (show (decide (apartI z 0 > 10000000)) = false from gr.no hz)) (by decide)) (fun _ => ?_)
  refine at_skip (by kernel_rfl) ?_
  refine wayN_node rfl ?_
  refine at_region (id := 15) (by kernel_rfl) ?_
  refine atR_seg (m := 2) (H := []) (ts := [81, 82, 83]) (L' := [(81, .slice (some ⟨b3, 0, none⟩) 6 6), (82, .int .i64 6), (83, .int .i64 6)]) (O := fun w => True) hs (by kernel_rfl) trivial ?_
  clear hs a; intro a hs
  refine atR_end (by kernel_rfl) ?_
  refine wayN_back ?_
  dsimp only [lpOf]
  refine rounds_at ?_
  refine at_seq (j := 37) (by kernel_rfl) ?_
  refine at_region (id := 11) (by kernel_rfl) ?_
  refine atR_seg (m := 1) (H := []) (ts := [81, 82, 83, 84]) (L' := [(81, .slice (some ⟨b3, 0, none⟩) 6 6), (82, .int .i64 6), (83, .int .i64 6), (84, .bool false)]) (O := fun w => True) hs (by kernel_rfl) trivial ?_
  clear hs a; intro a hs
  refine atR_end (by kernel_rfl) ?_
  refine wayN_node rfl ?_
  refine at_seq (j := 41) (by kernel_rfl) ?_
  refine at_cond (t := 84) (j1 := 39) (j2 := 40) (b := false) (by kernel_rfl) hs rfl (fun hb => absurd (hb.symm.trans (show (false) = false from rfl)) (by decide)) (fun _ => ?_)
  refine at_exit (id := 0) (by kernel_rfl) (wayE_ok rfl ?_)
  refine wayN_node rfl ?_
  refine at_seq (j := 55) (by kernel_rfl) ?_
  refine at_region (id := 16) (by kernel_rfl) ?_
  refine atR_seg (m := 1) (H := []) (ts := [4]) (L' := [(4, .int .i64 0)]) (O := fun w => True) hs (by kernel_rfl) trivial ?_
  clear hs a; intro a hs
  refine atR_end (by kernel_rfl) ?_
  refine wayN_node rfl ?_
  refine at_ret (by kernel_rfl) ?_
  refine at_end (vs := [.int .i64 0]) (H := []) (v := .int .i64 0) (O := fun w => True) hs (by kernel_rfl) rfl trivial ?_
  exact ⟨rfl, hB⟩
set_option maxHeartbeats 1000000 in
theorem ivalid2 (fx fy fz x y z cx cy r : Int) (w : World) (hr : 0 < r) (hfx : gr fx) (hfy : gr fy) (hfz : gr fz) (hx : gr x) (hy : gr y) (hz : gr z) : Calls Tryd.prog 21 #[.agg #[.int .i64 fx, .int .i64 fy, .int .i64 fz], .agg #[.int .i64 2, .int .i64 x, .int .i64 y, .int .i64 z, .int .i64 cx, .int .i64 cy, .int .i64 r]] w fun e w' => e = .returned (.int .i64 0) ∧ Below w.heap.size w w' := by
  have hB : Below w.heap.size w w := Below.refl _ _
  refine enter (B := body21) (args := [.agg #[.int .i64 fx, .int .i64 fy, .int .i64 fz], .agg #[.int .i64 2, .int .i64 x, .int .i64 y, .int .i64 z, .int .i64 cx, .int .i64 cy, .int .i64 r]]) Tryd.func21 (by kernel_rfl) (by kernel_rfl) ?_
  rw [show Tryd.f21.ntmps = 91 from by kernel_rfl]
  intro a hs
  replace hs := hs.pick (ts := [0, 1]) (L' := [(0, .agg #[.int .i64 fx, .int .i64 fy, .int .i64 fz]), (1, .agg #[.int .i64 2, .int .i64 x, .int .i64 y, .int .i64 z, .int .i64 cx, .int .i64 cy, .int .i64 r])]) (by kernel_rfl)
  refine at_seq (j := 2) (by kernel_rfl) ?_
  refine at_region (id := 0) (by kernel_rfl) ?_
  refine atR_op hs (by kernel_rfl) (new1 (t := 46) (cs := #[.int .i64 fx, .int .i64 fy, .int .i64 fz]) (fun rb_ => .pointer (some ⟨rb_, 0, none⟩)) [1, 2] (fun rb_ => [(1, .agg #[.int .i64 2, .int .i64 x, .int .i64 y, .int .i64 z, .int .i64 cx, .int .i64 cy, .int .i64 r]), (2, .pointer (some ⟨rb_, 0, none⟩))]) hs (fun _ => by kernel_rfl) (fun _ => by kernel_rfl) ?_)
  clear hs a; intro a w1 b1 hn hs
  have B1 := hn.blk
  have l1 : w.heap.size ≤ b1 := by rw [hn.at_]; exact hB.size
  replace hB := later hB hn.below
  clear hn
  refine atR_op hs (by kernel_rfl) (new1 (t := 48) (cs := #[.int .i64 2, .int .i64 x, .int .i64 y, .int .i64 z, .int .i64 cx, .int .i64 cy, .int .i64 r]) (fun rb_ => .pointer (some ⟨rb_, 0, none⟩)) [2, 3] (fun rb_ => [(2, .pointer (some ⟨b1, 0, none⟩)), (3, .pointer (some ⟨rb_, 0, none⟩))]) hs (fun _ => by kernel_rfl) (fun _ => by kernel_rfl) ?_)
  clear hs a; intro a w2 b2 hn hs
  have B2 := hn.blk
  have l2 : w.heap.size ≤ b2 := by rw [hn.at_]; exact hB.size
  have l2' : b1 < b2 := by rw [hn.at_]; exact B1.lt
  replace B1 := B1.below hn.below B1.lt
  replace hB := later hB hn.below
  clear hn
  refine atR_seg (m := 1) (H := []) (ts := [2, 3]) (L' := [(2, .pointer (some ⟨b1, 0, none⟩)), (3, .pointer (some ⟨b2, 0, none⟩))]) (O := fun w => True) hs (by kernel_rfl) trivial ?_
  clear hs a; intro a hs
  refine atR_end (by kernel_rfl) ?_
  refine wayN_node rfl ?_
  refine at_seq (j := 10) (by kernel_rfl) ?_
  refine at_seq (j := 5) (by kernel_rfl) ?_
  refine at_region (id := 1) (by kernel_rfl) ?_
  refine atR_seg (m := 2) (H := [(0, none, [.int .i64 fx, .int .i64 fy, .int .i64 fz]), (1, none, [.int .i64 2, .int .i64 x, .int .i64 y, .int .i64 z, .int .i64 cx, .int .i64 cy, .int .i64 r])]) (ts := [2, 3, 11, 12]) (L' := [(2, .pointer (some ⟨b1, 0, none⟩)), (3, .pointer (some ⟨b2, 0, none⟩)), (11, .agg #[.int .i64 fx, .int .i64 fy, .int .i64 fz]), (12, .agg #[.int .i64 2, .int .i64 x, .int .i64 y, .int .i64 z, .int .i64 cx, .int .i64 cy, .int .i64 r])]) (O := fun w => (w.cell? ⟨b1, 0, none⟩ = some (.int .i64 fx)) ∧ (w.cell? ⟨b1, 1, none⟩ = some (.int .i64 fy)) ∧ (w.cell? ⟨b1, 2, none⟩ = some (.int .i64 fz)) ∧ (w.cell? ⟨b2, 0, none⟩ = some (.int .i64 2)) ∧ (w.cell? ⟨b2, 1, none⟩ = some (.int .i64 x)) ∧ (w.cell? ⟨b2, 2, none⟩ = some (.int .i64 y)) ∧ (w.cell? ⟨b2, 3, none⟩ = some (.int .i64 z)) ∧ (w.cell? ⟨b2, 4, none⟩ = some (.int .i64 cx)) ∧ (w.cell? ⟨b2, 5, none⟩ = some (.int .i64 cy)) ∧ (w.cell? ⟨b2, 6, none⟩ = some (.int .i64 r)) ∧ True) hs (by kernel_rfl) ⟨B1.cell 0 rfl, B1.cell 1 rfl, B1.cell 2 rfl, B2.cell 0 rfl, B2.cell 1 rfl, B2.cell 2 rfl, B2.cell 3 rfl, B2.cell 4 rfl, B2.cell 5 rfl, B2.cell 6 rfl, trivial⟩ ?_
  clear hs a; intro a hs
  refine atR_op hs (by kernel_rfl) (call1 (f := 32) (args := #[.agg #[.int .i64 fx, .int .i64 fy, .int .i64 fz], .agg #[.int .i64 2, .int .i64 x, .int .i64 y, .int .i64 z, .int .i64 cx, .int .i64 cy, .int .i64 r]]) [2, 3, 13] (fun rv_ => [(2, .pointer (some ⟨b1, 0, none⟩)), (3, .pointer (some ⟨b2, 0, none⟩)), (13, rv_)]) hs (by kernel_rfl) (fun _ => by kernel_rfl) ?_)
  refine (right2 _ _ _ _ _ _ _ _ _ _ hr).mono ?_
  rintro e w3 ⟨rfl, hb⟩
  refine ⟨_, rfl, ?_⟩
  clear hs a; intro a hs
  replace B1 := B1.below hb B1.lt
  replace B2 := B2.below hb B2.lt
  replace hB := later hB hb
  clear hb
  refine atR_seg (m := 1) (H := []) (ts := [2, 3, 14]) (L' := [(2, .pointer (some ⟨b1, 0, none⟩)), (3, .pointer (some ⟨b2, 0, none⟩)), (14, .bool false)]) (O := fun w => True) hs (by kernel_rfl) trivial ?_
  clear hs a; intro a hs
  refine atR_end (by kernel_rfl) ?_
  refine wayN_node rfl ?_
  refine at_cond (t := 14) (j1 := 6) (j2 := 9) (b := false) (by kernel_rfl) hs rfl (fun hb => absurd (hb.symm.trans (show (false) = false from rfl)) (by decide)) (fun _ => ?_)
  refine at_skip (by kernel_rfl) ?_
  refine wayN_node rfl ?_
  refine at_seq (j := 12) (by kernel_rfl) ?_
  refine at_region (id := 3) (by kernel_rfl) ?_
  refine atR_seg (m := 15) (H := [(1, none, [.int .i64 fx]), (3, none, [.int .i64 fy]), (5, none, [.int .i64 fz]), (8, none, [.int .i64 x]), (11, none, [.int .i64 y]), (14, none, [.int .i64 z])]) (ts := [2, 3, 16, 18, 20, 23, 26, 29]) (L' := [(2, .pointer (some ⟨b1, 0, none⟩)), (3, .pointer (some ⟨b2, 0, none⟩)), (16, .int .i64 fx), (18, .int .i64 fy), (20, .int .i64 fz), (23, .int .i64 x), (26, .int .i64 y), (29, .int .i64 z)]) (O := fun w => (w.cell? ⟨b1, 0, none⟩ = some (.int .i64 fx)) ∧ (w.cell? ⟨b1, 1, none⟩ = some (.int .i64 fy)) ∧ (w.cell? ⟨b1, 2, none⟩ = some (.int .i64 fz)) ∧ (w.cell? ⟨b2, 1, none⟩ = some (.int .i64 x)) ∧ (w.cell? ⟨b2, 2, none⟩ = some (.int .i64 y)) ∧ (w.cell? ⟨b2, 3, none⟩ = some (.int .i64 z)) ∧ True) hs (by kernel_rfl) ⟨B1.cell 0 rfl, B1.cell 1 rfl, B1.cell 2 rfl, B2.cell 1 rfl, B2.cell 2 rfl, B2.cell 3 rfl, trivial⟩ ?_
  clear hs a; intro a hs
  refine atR_op hs (by kernel_rfl) (new1 (t := 2) (cs := #[.int .i64 fx, .int .i64 fy, .int .i64 fz, .int .i64 x, .int .i64 y, .int .i64 z]) (fun rb_ => .slice (some ⟨rb_, 0, none⟩) 6 6) [2, 3, 30] (fun rb_ => [(2, .pointer (some ⟨b1, 0, none⟩)), (3, .pointer (some ⟨b2, 0, none⟩)), (30, .slice (some ⟨rb_, 0, none⟩) 6 6)]) hs (fun _ => by kernel_rfl) (fun _ => by kernel_rfl) ?_)
  clear hs a; intro a w4 b3 hn hs
  have B3 := hn.blk
  have l3 : w.heap.size ≤ b3 := by rw [hn.at_]; exact hB.size
  have l3' : b2 < b3 := by rw [hn.at_]; exact B2.lt
  replace B1 := B1.below hn.below B1.lt
  replace B2 := B2.below hn.below B2.lt
  replace hB := later hB hn.below
  clear hn
  refine atR_seg (m := 1) (H := []) (ts := [2, 3, 5]) (L' := [(2, .pointer (some ⟨b1, 0, none⟩)), (3, .pointer (some ⟨b2, 0, none⟩)), (5, .slice (some ⟨b3, 0, none⟩) 6 6)]) (O := fun w => True) hs (by kernel_rfl) trivial ?_
  clear hs a; intro a hs
  refine atR_end (by kernel_rfl) ?_
  refine wayN_node rfl ?_
  refine at_seq (j := 30) (by kernel_rfl) ?_
  refine at_seq (j := 15) (by kernel_rfl) ?_
  refine at_region (id := 4) (by kernel_rfl) ?_
  refine atR_seg (m := 1) (H := [(0, none, [.int .i64 2, .int .i64 x, .int .i64 y, .int .i64 z, .int .i64 cx, .int .i64 cy, .int .i64 r])]) (ts := [2, 3, 5, 31]) (L' := [(2, .pointer (some ⟨b1, 0, none⟩)), (3, .pointer (some ⟨b2, 0, none⟩)), (5, .slice (some ⟨b3, 0, none⟩) 6 6), (31, .agg #[.int .i64 2, .int .i64 x, .int .i64 y, .int .i64 z, .int .i64 cx, .int .i64 cy, .int .i64 r])]) (O := fun w => (w.cell? ⟨b2, 0, none⟩ = some (.int .i64 2)) ∧ (w.cell? ⟨b2, 1, none⟩ = some (.int .i64 x)) ∧ (w.cell? ⟨b2, 2, none⟩ = some (.int .i64 y)) ∧ (w.cell? ⟨b2, 3, none⟩ = some (.int .i64 z)) ∧ (w.cell? ⟨b2, 4, none⟩ = some (.int .i64 cx)) ∧ (w.cell? ⟨b2, 5, none⟩ = some (.int .i64 cy)) ∧ (w.cell? ⟨b2, 6, none⟩ = some (.int .i64 r)) ∧ True) hs (by kernel_rfl) ⟨B2.cell 0 rfl, B2.cell 1 rfl, B2.cell 2 rfl, B2.cell 3 rfl, B2.cell 4 rfl, B2.cell 5 rfl, B2.cell 6 rfl, trivial⟩ ?_
  clear hs a; intro a hs
  refine atR_op hs (by kernel_rfl) (call1 (f := 33) (args := #[.agg #[.int .i64 2, .int .i64 x, .int .i64 y, .int .i64 z, .int .i64 cx, .int .i64 cy, .int .i64 r]]) [2, 3, 5, 32] (fun rv_ => [(2, .pointer (some ⟨b1, 0, none⟩)), (3, .pointer (some ⟨b2, 0, none⟩)), (5, .slice (some ⟨b3, 0, none⟩) 6 6), (32, rv_)]) hs (by kernel_rfl) (fun _ => by kernel_rfl) ?_)
  refine (isArc_any _ _ _ _ _ _ _ _).mono ?_
  rintro e w5 ⟨rfl, hb⟩
  refine ⟨_, rfl, ?_⟩
  clear hs a; intro a hs
  replace B1 := B1.below hb B1.lt
  replace B2 := B2.below hb B2.lt
  replace B3 := B3.below hb B3.lt
  replace hB := later hB hb
  clear hb
  refine atR_end (by kernel_rfl) ?_
  refine wayN_node rfl ?_
  refine at_cond (t := 32) (j1 := 16) (j2 := 29) (b := false) (by kernel_rfl) hs rfl (fun hb => absurd (hb.symm.trans (show (false) = false from rfl)) (by decide)) (fun _ => ?_)
  refine at_skip (by kernel_rfl) ?_
  refine wayN_node rfl ?_
  refine at_seq (j := 53) (by kernel_rfl) ?_
  refine at_seq (j := 33) (by kernel_rfl) ?_
  refine at_region (id := 10) (by kernel_rfl) ?_
  refine atR_seg (m := 3) (H := []) (ts := [81, 82, 83]) (L' := [(81, .slice (some ⟨b3, 0, none⟩) 6 6), (82, .int .i64 6), (83, .int .i64 0)]) (O := fun w => True) hs (by kernel_rfl) trivial ?_
  clear hs a; intro a hs
  refine atR_end (by kernel_rfl) ?_
  refine wayN_node rfl ?_
  refine at_block (id := 0) (by kernel_rfl) ?_
  refine at_rounds 7 (by kernel_rfl) ?_
  refine rounds_at ?_
  refine at_seq (j := 37) (by kernel_rfl) ?_
  refine at_region (id := 11) (by kernel_rfl) ?_
  refine atR_seg (m := 1) (H := []) (ts := [81, 82, 83, 84]) (L' := [(81, .slice (some ⟨b3, 0, none⟩) 6 6), (82, .int .i64 6), (83, .int .i64 0), (84, .bool true)]) (O := fun w => True) hs (by kernel_rfl) trivial ?_
  clear hs a; intro a hs
  refine atR_end (by kernel_rfl) ?_
  refine wayN_node rfl ?_
  refine at_seq (j := 41) (by kernel_rfl) ?_
  refine at_cond (t := 84) (j1 := 39) (j2 := 40) (b := true) (by kernel_rfl) hs rfl (fun _ => ?_) (fun hb => absurd (hb.symm.trans (show (true) = true from rfl)) (by decide))
  refine at_skip (by kernel_rfl) ?_
  refine wayN_node rfl ?_
  refine at_seq (j := 52) (by kernel_rfl) ?_
  refine at_block (id := 1) (by kernel_rfl) ?_
  refine at_seq (j := 45) (by kernel_rfl) ?_
  refine at_region (id := 12) (by kernel_rfl) ?_
  refine atR_seg (m := 3) (H := [(1, none, [.int .i64 fx])]) (ts := [10, 81, 82, 83]) (L' := [(10, .int .i64 fx), (81, .slice (some ⟨b3, 0, none⟩) 6 6), (82, .int .i64 6), (83, .int .i64 0)]) (O := fun w => ((0 : Int) ≤ 0 ∧ 0 < ((6 : Nat) : Int)) ∧ (w.cell? ⟨b3, 0, none⟩ = some (.int .i64 fx)) ∧ True) hs (by kernel_rfl) ⟨⟨by omega, by omega⟩, B3.cell 0 rfl, trivial⟩ ?_
  clear hs a; intro a hs
  refine atR_end (by kernel_rfl) ?_
  refine wayN_node rfl ?_
  refine at_seq (j := 47) (by kernel_rfl) ?_
  refine at_region (id := 13) (by kernel_rfl) ?_
  refine atR_seg (m := 1) (H := []) (ts := [81, 82, 83, 87]) (L' := [(81, .slice (some ⟨b3, 0, none⟩) 6 6), (82, .int .i64 6), (83, .int .i64 0), (87, .int .i64 fx)]) (O := fun w => True) hs (by kernel_rfl) trivial ?_
  clear hs a; intro a hs
  refine atR_op hs (by kernel_rfl) (call1 (f := 35) (args := #[.int .i64 fx, .int .i64 0]) [81, 82, 83, 88] (fun rv_ => [(81, .slice (some ⟨b3, 0, none⟩) 6 6), (82, .int .i64 6), (83, .int .i64 0), (88, rv_)]) hs (by kernel_rfl) (fun _ => by kernel_rfl) ?_)
  refine (apart_any _ _ _ hfx.i ⟨by omega, by omega⟩).mono ?_
  rintro e w6 ⟨rfl, hb⟩
  refine ⟨_, rfl, ?_⟩
  clear hs a; intro a hs
  replace B1 := B1.below hb B1.lt
  replace B2 := B2.below hb B2.lt
  replace B3 := B3.below hb B3.lt
  replace hB := later hB hb
  clear hb
  refine atR_seg (m := 1) (H := []) (ts := [81, 82, 83, 89]) (L' := [(81, .slice (some ⟨b3, 0, none⟩) 6 6), (82, .int .i64 6), (83, .int .i64 0), (89, .bool (decide (apartI fx 0 > 10000000)))]) (O := fun w => True) hs (by kernel_rfl) trivial ?_
  clear hs a; intro a hs
  refine atR_end (by kernel_rfl) ?_
  refine wayN_node rfl ?_
  refine at_cond (t := 89) (j1 := 48) (j2 := 51) (b := decide (apartI fx 0 > 10000000)) (by kernel_rfl) hs rfl (fun hb => absurd (hb.symm.trans (show (decide (apartI fx 0 > 10000000)) = false from gr.no hfx)) (by decide)) (fun _ => ?_)
  refine at_skip (by kernel_rfl) ?_
  refine wayN_node rfl ?_
  refine at_region (id := 15) (by kernel_rfl) ?_
  refine atR_seg (m := 2) (H := []) (ts := [81, 82, 83]) (L' := [(81, .slice (some ⟨b3, 0, none⟩) 6 6), (82, .int .i64 6), (83, .int .i64 1)]) (O := fun w => True) hs (by kernel_rfl) trivial ?_
  clear hs a; intro a hs
  refine atR_end (by kernel_rfl) ?_
  refine wayN_back ?_
  dsimp only [lpOf]
  refine rounds_at ?_
  refine at_seq (j := 37) (by kernel_rfl) ?_
  refine at_region (id := 11) (by kernel_rfl) ?_
  refine atR_seg (m := 1) (H := []) (ts := [81, 82, 83, 84]) (L' := [(81, .slice (some ⟨b3, 0, none⟩) 6 6), (82, .int .i64 6), (83, .int .i64 1), (84, .bool true)]) (O := fun w => True) hs (by kernel_rfl) trivial ?_
  clear hs a; intro a hs
  refine atR_end (by kernel_rfl) ?_
  refine wayN_node rfl ?_
  refine at_seq (j := 41) (by kernel_rfl) ?_
  refine at_cond (t := 84) (j1 := 39) (j2 := 40) (b := true) (by kernel_rfl) hs rfl (fun _ => ?_) (fun hb => absurd (hb.symm.trans (show (true) = true from rfl)) (by decide))
  refine at_skip (by kernel_rfl) ?_
  refine wayN_node rfl ?_
  refine at_seq (j := 52) (by kernel_rfl) ?_
  refine at_block (id := 1) (by kernel_rfl) ?_
  refine at_seq (j := 45) (by kernel_rfl) ?_
  refine at_region (id := 12) (by kernel_rfl) ?_
  refine atR_seg (m := 3) (H := [(1, none, [.int .i64 fy])]) (ts := [10, 81, 82, 83]) (L' := [(10, .int .i64 fy), (81, .slice (some ⟨b3, 0, none⟩) 6 6), (82, .int .i64 6), (83, .int .i64 1)]) (O := fun w => ((0 : Int) ≤ 1 ∧ 1 < ((6 : Nat) : Int)) ∧ (w.cell? ⟨b3, 1, none⟩ = some (.int .i64 fy)) ∧ True) hs (by kernel_rfl) ⟨⟨by omega, by omega⟩, B3.cell 1 rfl, trivial⟩ ?_
  clear hs a; intro a hs
  refine atR_end (by kernel_rfl) ?_
  refine wayN_node rfl ?_
  refine at_seq (j := 47) (by kernel_rfl) ?_
  refine at_region (id := 13) (by kernel_rfl) ?_
  refine atR_seg (m := 1) (H := []) (ts := [81, 82, 83, 87]) (L' := [(81, .slice (some ⟨b3, 0, none⟩) 6 6), (82, .int .i64 6), (83, .int .i64 1), (87, .int .i64 fy)]) (O := fun w => True) hs (by kernel_rfl) trivial ?_
  clear hs a; intro a hs
  refine atR_op hs (by kernel_rfl) (call1 (f := 35) (args := #[.int .i64 fy, .int .i64 0]) [81, 82, 83, 88] (fun rv_ => [(81, .slice (some ⟨b3, 0, none⟩) 6 6), (82, .int .i64 6), (83, .int .i64 1), (88, rv_)]) hs (by kernel_rfl) (fun _ => by kernel_rfl) ?_)
  refine (apart_any _ _ _ hfy.i ⟨by omega, by omega⟩).mono ?_
  rintro e w7 ⟨rfl, hb⟩
  refine ⟨_, rfl, ?_⟩
  clear hs a; intro a hs
  replace B1 := B1.below hb B1.lt
  replace B2 := B2.below hb B2.lt
  replace B3 := B3.below hb B3.lt
  replace hB := later hB hb
  clear hb
  refine atR_seg (m := 1) (H := []) (ts := [81, 82, 83, 89]) (L' := [(81, .slice (some ⟨b3, 0, none⟩) 6 6), (82, .int .i64 6), (83, .int .i64 1), (89, .bool (decide (apartI fy 0 > 10000000)))]) (O := fun w => True) hs (by kernel_rfl) trivial ?_
  clear hs a; intro a hs
  refine atR_end (by kernel_rfl) ?_
  refine wayN_node rfl ?_
  refine at_cond (t := 89) (j1 := 48) (j2 := 51) (b := decide (apartI fy 0 > 10000000)) (by kernel_rfl) hs rfl (fun hb => absurd (hb.symm.trans (show (decide (apartI fy 0 > 10000000)) = false from gr.no hfy)) (by decide)) (fun _ => ?_)
  refine at_skip (by kernel_rfl) ?_
  refine wayN_node rfl ?_
  refine at_region (id := 15) (by kernel_rfl) ?_
  refine atR_seg (m := 2) (H := []) (ts := [81, 82, 83]) (L' := [(81, .slice (some ⟨b3, 0, none⟩) 6 6), (82, .int .i64 6), (83, .int .i64 2)]) (O := fun w => True) hs (by kernel_rfl) trivial ?_
  clear hs a; intro a hs
  refine atR_end (by kernel_rfl) ?_
  refine wayN_back ?_
  dsimp only [lpOf]
  refine rounds_at ?_
  refine at_seq (j := 37) (by kernel_rfl) ?_
  refine at_region (id := 11) (by kernel_rfl) ?_
  refine atR_seg (m := 1) (H := []) (ts := [81, 82, 83, 84]) (L' := [(81, .slice (some ⟨b3, 0, none⟩) 6 6), (82, .int .i64 6), (83, .int .i64 2), (84, .bool true)]) (O := fun w => True) hs (by kernel_rfl) trivial ?_
  clear hs a; intro a hs
  refine atR_end (by kernel_rfl) ?_
  refine wayN_node rfl ?_
  refine at_seq (j := 41) (by kernel_rfl) ?_
  refine at_cond (t := 84) (j1 := 39) (j2 := 40) (b := true) (by kernel_rfl) hs rfl (fun _ => ?_) (fun hb => absurd (hb.symm.trans (show (true) = true from rfl)) (by decide))
  refine at_skip (by kernel_rfl) ?_
  refine wayN_node rfl ?_
  refine at_seq (j := 52) (by kernel_rfl) ?_
  refine at_block (id := 1) (by kernel_rfl) ?_
  refine at_seq (j := 45) (by kernel_rfl) ?_
  refine at_region (id := 12) (by kernel_rfl) ?_
  refine atR_seg (m := 3) (H := [(1, none, [.int .i64 fz])]) (ts := [10, 81, 82, 83]) (L' := [(10, .int .i64 fz), (81, .slice (some ⟨b3, 0, none⟩) 6 6), (82, .int .i64 6), (83, .int .i64 2)]) (O := fun w => ((0 : Int) ≤ 2 ∧ 2 < ((6 : Nat) : Int)) ∧ (w.cell? ⟨b3, 2, none⟩ = some (.int .i64 fz)) ∧ True) hs (by kernel_rfl) ⟨⟨by omega, by omega⟩, B3.cell 2 rfl, trivial⟩ ?_
  clear hs a; intro a hs
  refine atR_end (by kernel_rfl) ?_
  refine wayN_node rfl ?_
  refine at_seq (j := 47) (by kernel_rfl) ?_
  refine at_region (id := 13) (by kernel_rfl) ?_
  refine atR_seg (m := 1) (H := []) (ts := [81, 82, 83, 87]) (L' := [(81, .slice (some ⟨b3, 0, none⟩) 6 6), (82, .int .i64 6), (83, .int .i64 2), (87, .int .i64 fz)]) (O := fun w => True) hs (by kernel_rfl) trivial ?_
  clear hs a; intro a hs
  refine atR_op hs (by kernel_rfl) (call1 (f := 35) (args := #[.int .i64 fz, .int .i64 0]) [81, 82, 83, 88] (fun rv_ => [(81, .slice (some ⟨b3, 0, none⟩) 6 6), (82, .int .i64 6), (83, .int .i64 2), (88, rv_)]) hs (by kernel_rfl) (fun _ => by kernel_rfl) ?_)
  refine (apart_any _ _ _ hfz.i ⟨by omega, by omega⟩).mono ?_
  rintro e w8 ⟨rfl, hb⟩
  refine ⟨_, rfl, ?_⟩
  clear hs a; intro a hs
  replace B1 := B1.below hb B1.lt
  replace B2 := B2.below hb B2.lt
  replace B3 := B3.below hb B3.lt
  replace hB := later hB hb
  clear hb
  refine atR_seg (m := 1) (H := []) (ts := [81, 82, 83, 89]) (L' := [(81, .slice (some ⟨b3, 0, none⟩) 6 6), (82, .int .i64 6), (83, .int .i64 2), (89, .bool (decide (apartI fz 0 > 10000000)))]) (O := fun w => True) hs (by kernel_rfl) trivial ?_
  clear hs a; intro a hs
  refine atR_end (by kernel_rfl) ?_
  refine wayN_node rfl ?_
  refine at_cond (t := 89) (j1 := 48) (j2 := 51) (b := decide (apartI fz 0 > 10000000)) (by kernel_rfl) hs rfl (fun hb => absurd (hb.symm.trans (show (decide (apartI fz 0 > 10000000)) = false from gr.no hfz)) (by decide)) (fun _ => ?_)
  refine at_skip (by kernel_rfl) ?_
  refine wayN_node rfl ?_
  refine at_region (id := 15) (by kernel_rfl) ?_
  refine atR_seg (m := 2) (H := []) (ts := [81, 82, 83]) (L' := [(81, .slice (some ⟨b3, 0, none⟩) 6 6), (82, .int .i64 6), (83, .int .i64 3)]) (O := fun w => True) hs (by kernel_rfl) trivial ?_
  clear hs a; intro a hs
  refine atR_end (by kernel_rfl) ?_
  refine wayN_back ?_
  dsimp only [lpOf]
  refine rounds_at ?_
  refine at_seq (j := 37) (by kernel_rfl) ?_
  refine at_region (id := 11) (by kernel_rfl) ?_
  refine atR_seg (m := 1) (H := []) (ts := [81, 82, 83, 84]) (L' := [(81, .slice (some ⟨b3, 0, none⟩) 6 6), (82, .int .i64 6), (83, .int .i64 3), (84, .bool true)]) (O := fun w => True) hs (by kernel_rfl) trivial ?_
  clear hs a; intro a hs
  refine atR_end (by kernel_rfl) ?_
  refine wayN_node rfl ?_
  refine at_seq (j := 41) (by kernel_rfl) ?_
  refine at_cond (t := 84) (j1 := 39) (j2 := 40) (b := true) (by kernel_rfl) hs rfl (fun _ => ?_) (fun hb => absurd (hb.symm.trans (show (true) = true from rfl)) (by decide))
  refine at_skip (by kernel_rfl) ?_
  refine wayN_node rfl ?_
  refine at_seq (j := 52) (by kernel_rfl) ?_
  refine at_block (id := 1) (by kernel_rfl) ?_
  refine at_seq (j := 45) (by kernel_rfl) ?_
  refine at_region (id := 12) (by kernel_rfl) ?_
  refine atR_seg (m := 3) (H := [(1, none, [.int .i64 x])]) (ts := [10, 81, 82, 83]) (L' := [(10, .int .i64 x), (81, .slice (some ⟨b3, 0, none⟩) 6 6), (82, .int .i64 6), (83, .int .i64 3)]) (O := fun w => ((0 : Int) ≤ 3 ∧ 3 < ((6 : Nat) : Int)) ∧ (w.cell? ⟨b3, 3, none⟩ = some (.int .i64 x)) ∧ True) hs (by kernel_rfl) ⟨⟨by omega, by omega⟩, B3.cell 3 rfl, trivial⟩ ?_
  clear hs a; intro a hs
  refine atR_end (by kernel_rfl) ?_
  refine wayN_node rfl ?_
  refine at_seq (j := 47) (by kernel_rfl) ?_
  refine at_region (id := 13) (by kernel_rfl) ?_
  refine atR_seg (m := 1) (H := []) (ts := [81, 82, 83, 87]) (L' := [(81, .slice (some ⟨b3, 0, none⟩) 6 6), (82, .int .i64 6), (83, .int .i64 3), (87, .int .i64 x)]) (O := fun w => True) hs (by kernel_rfl) trivial ?_
  clear hs a; intro a hs
  refine atR_op hs (by kernel_rfl) (call1 (f := 35) (args := #[.int .i64 x, .int .i64 0]) [81, 82, 83, 88] (fun rv_ => [(81, .slice (some ⟨b3, 0, none⟩) 6 6), (82, .int .i64 6), (83, .int .i64 3), (88, rv_)]) hs (by kernel_rfl) (fun _ => by kernel_rfl) ?_)
  refine (apart_any _ _ _ hx.i ⟨by omega, by omega⟩).mono ?_
  rintro e w9 ⟨rfl, hb⟩
  refine ⟨_, rfl, ?_⟩
  clear hs a; intro a hs
  replace B1 := B1.below hb B1.lt
  replace B2 := B2.below hb B2.lt
  replace B3 := B3.below hb B3.lt
  replace hB := later hB hb
  clear hb
  refine atR_seg (m := 1) (H := []) (ts := [81, 82, 83, 89]) (L' := [(81, .slice (some ⟨b3, 0, none⟩) 6 6), (82, .int .i64 6), (83, .int .i64 3), (89, .bool (decide (apartI x 0 > 10000000)))]) (O := fun w => True) hs (by kernel_rfl) trivial ?_
  clear hs a; intro a hs
  refine atR_end (by kernel_rfl) ?_
  refine wayN_node rfl ?_
  refine at_cond (t := 89) (j1 := 48) (j2 := 51) (b := decide (apartI x 0 > 10000000)) (by kernel_rfl) hs rfl (fun hb => absurd (hb.symm.trans (show (decide (apartI x 0 > 10000000)) = false from gr.no hx)) (by decide)) (fun _ => ?_)
  refine at_skip (by kernel_rfl) ?_
  refine wayN_node rfl ?_
  refine at_region (id := 15) (by kernel_rfl) ?_
  refine atR_seg (m := 2) (H := []) (ts := [81, 82, 83]) (L' := [(81, .slice (some ⟨b3, 0, none⟩) 6 6), (82, .int .i64 6), (83, .int .i64 4)]) (O := fun w => True) hs (by kernel_rfl) trivial ?_
  clear hs a; intro a hs
  refine atR_end (by kernel_rfl) ?_
  refine wayN_back ?_
  dsimp only [lpOf]
  refine rounds_at ?_
  refine at_seq (j := 37) (by kernel_rfl) ?_
  refine at_region (id := 11) (by kernel_rfl) ?_
  refine atR_seg (m := 1) (H := []) (ts := [81, 82, 83, 84]) (L' := [(81, .slice (some ⟨b3, 0, none⟩) 6 6), (82, .int .i64 6), (83, .int .i64 4), (84, .bool true)]) (O := fun w => True) hs (by kernel_rfl) trivial ?_
  clear hs a; intro a hs
  refine atR_end (by kernel_rfl) ?_
  refine wayN_node rfl ?_
  refine at_seq (j := 41) (by kernel_rfl) ?_
  refine at_cond (t := 84) (j1 := 39) (j2 := 40) (b := true) (by kernel_rfl) hs rfl (fun _ => ?_) (fun hb => absurd (hb.symm.trans (show (true) = true from rfl)) (by decide))
  refine at_skip (by kernel_rfl) ?_
  refine wayN_node rfl ?_
  refine at_seq (j := 52) (by kernel_rfl) ?_
  refine at_block (id := 1) (by kernel_rfl) ?_
  refine at_seq (j := 45) (by kernel_rfl) ?_
  refine at_region (id := 12) (by kernel_rfl) ?_
  refine atR_seg (m := 3) (H := [(1, none, [.int .i64 y])]) (ts := [10, 81, 82, 83]) (L' := [(10, .int .i64 y), (81, .slice (some ⟨b3, 0, none⟩) 6 6), (82, .int .i64 6), (83, .int .i64 4)]) (O := fun w => ((0 : Int) ≤ 4 ∧ 4 < ((6 : Nat) : Int)) ∧ (w.cell? ⟨b3, 4, none⟩ = some (.int .i64 y)) ∧ True) hs (by kernel_rfl) ⟨⟨by omega, by omega⟩, B3.cell 4 rfl, trivial⟩ ?_
  clear hs a; intro a hs
  refine atR_end (by kernel_rfl) ?_
  refine wayN_node rfl ?_
  refine at_seq (j := 47) (by kernel_rfl) ?_
  refine at_region (id := 13) (by kernel_rfl) ?_
  refine atR_seg (m := 1) (H := []) (ts := [81, 82, 83, 87]) (L' := [(81, .slice (some ⟨b3, 0, none⟩) 6 6), (82, .int .i64 6), (83, .int .i64 4), (87, .int .i64 y)]) (O := fun w => True) hs (by kernel_rfl) trivial ?_
  clear hs a; intro a hs
  refine atR_op hs (by kernel_rfl) (call1 (f := 35) (args := #[.int .i64 y, .int .i64 0]) [81, 82, 83, 88] (fun rv_ => [(81, .slice (some ⟨b3, 0, none⟩) 6 6), (82, .int .i64 6), (83, .int .i64 4), (88, rv_)]) hs (by kernel_rfl) (fun _ => by kernel_rfl) ?_)
  refine (apart_any _ _ _ hy.i ⟨by omega, by omega⟩).mono ?_
  rintro e w10 ⟨rfl, hb⟩
  refine ⟨_, rfl, ?_⟩
  clear hs a; intro a hs
  replace B1 := B1.below hb B1.lt
  replace B2 := B2.below hb B2.lt
  replace B3 := B3.below hb B3.lt
  replace hB := later hB hb
  clear hb
  refine atR_seg (m := 1) (H := []) (ts := [81, 82, 83, 89]) (L' := [(81, .slice (some ⟨b3, 0, none⟩) 6 6), (82, .int .i64 6), (83, .int .i64 4), (89, .bool (decide (apartI y 0 > 10000000)))]) (O := fun w => True) hs (by kernel_rfl) trivial ?_
  clear hs a; intro a hs
  refine atR_end (by kernel_rfl) ?_
  refine wayN_node rfl ?_
  refine at_cond (t := 89) (j1 := 48) (j2 := 51) (b := decide (apartI y 0 > 10000000)) (by kernel_rfl) hs rfl (fun hb => absurd (hb.symm.trans (show (decide (apartI y 0 > 10000000)) = false from gr.no hy)) (by decide)) (fun _ => ?_)
  refine at_skip (by kernel_rfl) ?_
  refine wayN_node rfl ?_
  refine at_region (id := 15) (by kernel_rfl) ?_
  refine atR_seg (m := 2) (H := []) (ts := [81, 82, 83]) (L' := [(81, .slice (some ⟨b3, 0, none⟩) 6 6), (82, .int .i64 6), (83, .int .i64 5)]) (O := fun w => True) hs (by kernel_rfl) trivial ?_
  clear hs a; intro a hs
  refine atR_end (by kernel_rfl) ?_
  refine wayN_back ?_
  dsimp only [lpOf]
  refine rounds_at ?_
  refine at_seq (j := 37) (by kernel_rfl) ?_
  refine at_region (id := 11) (by kernel_rfl) ?_
  refine atR_seg (m := 1) (H := []) (ts := [81, 82, 83, 84]) (L' := [(81, .slice (some ⟨b3, 0, none⟩) 6 6), (82, .int .i64 6), (83, .int .i64 5), (84, .bool true)]) (O := fun w => True) hs (by kernel_rfl) trivial ?_
  clear hs a; intro a hs
  refine atR_end (by kernel_rfl) ?_
  refine wayN_node rfl ?_
  refine at_seq (j := 41) (by kernel_rfl) ?_
  refine at_cond (t := 84) (j1 := 39) (j2 := 40) (b := true) (by kernel_rfl) hs rfl (fun _ => ?_) (fun hb => absurd (hb.symm.trans (show (true) = true from rfl)) (by decide))
  refine at_skip (by kernel_rfl) ?_
  refine wayN_node rfl ?_
  refine at_seq (j := 52) (by kernel_rfl) ?_
  refine at_block (id := 1) (by kernel_rfl) ?_
  refine at_seq (j := 45) (by kernel_rfl) ?_
  refine at_region (id := 12) (by kernel_rfl) ?_
  refine atR_seg (m := 3) (H := [(1, none, [.int .i64 z])]) (ts := [10, 81, 82, 83]) (L' := [(10, .int .i64 z), (81, .slice (some ⟨b3, 0, none⟩) 6 6), (82, .int .i64 6), (83, .int .i64 5)]) (O := fun w => ((0 : Int) ≤ 5 ∧ 5 < ((6 : Nat) : Int)) ∧ (w.cell? ⟨b3, 5, none⟩ = some (.int .i64 z)) ∧ True) hs (by kernel_rfl) ⟨⟨by omega, by omega⟩, B3.cell 5 rfl, trivial⟩ ?_
  clear hs a; intro a hs
  refine atR_end (by kernel_rfl) ?_
  refine wayN_node rfl ?_
  refine at_seq (j := 47) (by kernel_rfl) ?_
  refine at_region (id := 13) (by kernel_rfl) ?_
  refine atR_seg (m := 1) (H := []) (ts := [81, 82, 83, 87]) (L' := [(81, .slice (some ⟨b3, 0, none⟩) 6 6), (82, .int .i64 6), (83, .int .i64 5), (87, .int .i64 z)]) (O := fun w => True) hs (by kernel_rfl) trivial ?_
  clear hs a; intro a hs
  refine atR_op hs (by kernel_rfl) (call1 (f := 35) (args := #[.int .i64 z, .int .i64 0]) [81, 82, 83, 88] (fun rv_ => [(81, .slice (some ⟨b3, 0, none⟩) 6 6), (82, .int .i64 6), (83, .int .i64 5), (88, rv_)]) hs (by kernel_rfl) (fun _ => by kernel_rfl) ?_)
  refine (apart_any _ _ _ hz.i ⟨by omega, by omega⟩).mono ?_
  rintro e w11 ⟨rfl, hb⟩
  refine ⟨_, rfl, ?_⟩
  clear hs a; intro a hs
  replace B1 := B1.below hb B1.lt
  replace B2 := B2.below hb B2.lt
  replace B3 := B3.below hb B3.lt
  replace hB := later hB hb
  clear hb
  refine atR_seg (m := 1) (H := []) (ts := [81, 82, 83, 89]) (L' := [(81, .slice (some ⟨b3, 0, none⟩) 6 6), (82, .int .i64 6), (83, .int .i64 5), (89, .bool (decide (apartI z 0 > 10000000)))]) (O := fun w => True) hs (by kernel_rfl) trivial ?_
  clear hs a; intro a hs
  refine atR_end (by kernel_rfl) ?_
  refine wayN_node rfl ?_
  refine at_cond (t := 89) (j1 := 48) (j2 := 51) (b := decide (apartI z 0 > 10000000)) (by kernel_rfl) hs rfl (fun hb => absurd (hb.symm.trans (show (decide (apartI z 0 > 10000000)) = false from gr.no hz)) (by decide)) (fun _ => ?_)
  refine at_skip (by kernel_rfl) ?_
  refine wayN_node rfl ?_
  refine at_region (id := 15) (by kernel_rfl) ?_
  refine atR_seg (m := 2) (H := []) (ts := [81, 82, 83]) (L' := [(81, .slice (some ⟨b3, 0, none⟩) 6 6), (82, .int .i64 6), (83, .int .i64 6)]) (O := fun w => True) hs (by kernel_rfl) trivial ?_
  clear hs a; intro a hs
  refine atR_end (by kernel_rfl) ?_
  refine wayN_back ?_
  dsimp only [lpOf]
  refine rounds_at ?_
  refine at_seq (j := 37) (by kernel_rfl) ?_
  refine at_region (id := 11) (by kernel_rfl) ?_
  refine atR_seg (m := 1) (H := []) (ts := [81, 82, 83, 84]) (L' := [(81, .slice (some ⟨b3, 0, none⟩) 6 6), (82, .int .i64 6), (83, .int .i64 6), (84, .bool false)]) (O := fun w => True) hs (by kernel_rfl) trivial ?_
  clear hs a; intro a hs
  refine atR_end (by kernel_rfl) ?_
  refine wayN_node rfl ?_
  refine at_seq (j := 41) (by kernel_rfl) ?_
  refine at_cond (t := 84) (j1 := 39) (j2 := 40) (b := false) (by kernel_rfl) hs rfl (fun hb => absurd (hb.symm.trans (show (false) = false from rfl)) (by decide)) (fun _ => ?_)
  refine at_exit (id := 0) (by kernel_rfl) (wayE_ok rfl ?_)
  refine wayN_node rfl ?_
  refine at_seq (j := 55) (by kernel_rfl) ?_
  refine at_region (id := 16) (by kernel_rfl) ?_
  refine atR_seg (m := 1) (H := []) (ts := [4]) (L' := [(4, .int .i64 0)]) (O := fun w => True) hs (by kernel_rfl) trivial ?_
  clear hs a; intro a hs
  refine atR_end (by kernel_rfl) ?_
  refine wayN_node rfl ?_
  refine at_ret (by kernel_rfl) ?_
  refine at_end (vs := [.int .i64 0]) (H := []) (v := .int .i64 0) (O := fun w => True) hs (by kernel_rfl) rfl trivial ?_
  exact ⟨rfl, hB⟩
end Go.Proofs.YtpiabmjipgfjjaaDoor
