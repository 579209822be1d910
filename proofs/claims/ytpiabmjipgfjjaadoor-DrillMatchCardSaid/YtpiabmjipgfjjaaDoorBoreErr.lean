/- The errors of drill.Bore; what it returns in every case. -/
import Derived.Test.YtpiabmjipgfjjaaDoorDrill2
namespace Go.Proofs.YtpiabmjipgfjjaaDoor
open Go.RowKit
def outB (x y top depth c : Int) : Bool := !insB x || !insB y || !insB top || !insB depth || !insB (x + c) || !insB (x - c) || !insB (y + c) || !insB (y - c)
def boreErr (t : Tl) (x y radius top depth : Int) : Int :=
  if !t.good || t.kind != 1 || decide (top < 0) || decide (radius < 1) || decide (depth < 1) then 1
  else if decide (t.flu < depth) || !t.mills radius then 16
  else if outB x y top depth (radius - t.rad) then 11
  else if decide (4 * ((depth + t.stp - 1) / t.stp) + 4 > 20000) then 3 else 0
set_option maxHeartbeats 1000000 in
theorem bore_bad (x y radius top depth num kind rad flu hol stp fd plu : Int) (w : World) (HN : Nms w) (HK : (⟨num, kind, rad, flu, hol, stp, fd, plu⟩ : Tl).ok) (br : i64 radius) (bd : i64 depth) (hgood : (⟨num, kind, rad, flu, hol, stp, fd, plu⟩ : Tl).good = false) :
    Calls Tryd.prog 12 #[.agg #[.int .i64 x, .int .i64 y], .int .i64 radius, .int .i64 top, .int .i64 depth, (⟨num, kind, rad, flu, hol, stp, fd, plu⟩ : Tl).v] w fun e w' => e = .returned (.tuple #[.slice none 0 0, .int .i64 (boreErr (⟨num, kind, rad, flu, hol, stp, fd, plu⟩ : Tl) x y radius top depth)]) ∧ Below w.heap.size w w' := by
  have hB : Below w.heap.size w w := Below.refl _ _
  refine enter (B := body12) (args := [.agg #[.int .i64 x, .int .i64 y], .int .i64 radius, .int .i64 top, .int .i64 depth, .agg #[.int .i64 num, .int .i64 kind, .int .i64 rad, .int .i64 flu, .int .i64 hol, .int .i64 stp, .int .i64 fd, .int .i64 plu]]) Tryd.func12 (by kernel_rfl) (by kernel_rfl) ?_
  rw [show Tryd.f12.ntmps = 215 from by kernel_rfl]
  intro a hs
  replace hs := hs.pick (ts := [0, 1, 2, 3, 4]) (L' := [(0, .agg #[.int .i64 x, .int .i64 y]), (1, .int .i64 radius), (2, .int .i64 top), (3, .int .i64 depth), (4, .agg #[.int .i64 num, .int .i64 kind, .int .i64 rad, .int .i64 flu, .int .i64 hol, .int .i64 stp, .int .i64 fd, .int .i64 plu])]) (by kernel_rfl)
  refine at_seq (j := 2) (by kernel_rfl) ?_
  refine at_region (id := 0) (by kernel_rfl) ?_
  refine atR_op hs (by kernel_rfl) (new1 (t := 30) (cs := #[.int .i64 x, .int .i64 y]) (fun rb_ => .pointer (some ⟨rb_, 0, none⟩)) [1, 2, 3, 4, 5] (fun rb_ => [(1, .int .i64 radius), (2, .int .i64 top), (3, .int .i64 depth), (4, .agg #[.int .i64 num, .int .i64 kind, .int .i64 rad, .int .i64 flu, .int .i64 hol, .int .i64 stp, .int .i64 fd, .int .i64 plu]), (5, .pointer (some ⟨rb_, 0, none⟩))]) hs (fun _ => by kernel_rfl) (fun _ => by kernel_rfl) ?_)
  clear hs a; intro a w1 b1 hn hs
  have B1 := hn.blk
  have l1 : w.heap.size ≤ b1 := by rw [hn.at_]; exact hB.size
  replace hB := later hB hn.below
  clear hn
  refine atR_op hs (by kernel_rfl) (new1 (t := 33) (cs := #[.int .i64 num, .int .i64 kind, .int .i64 rad, .int .i64 flu, .int .i64 hol, .int .i64 stp, .int .i64 fd, .int .i64 plu]) (fun rb_ => .pointer (some ⟨rb_, 0, none⟩)) [1, 2, 3, 5, 9] (fun rb_ => [(1, .int .i64 radius), (2, .int .i64 top), (3, .int .i64 depth), (5, .pointer (some ⟨b1, 0, none⟩)), (9, .pointer (some ⟨rb_, 0, none⟩))]) hs (fun _ => by kernel_rfl) (fun _ => by kernel_rfl) ?_)
  clear hs a; intro a w2 b2 hn hs
  have B2 := hn.blk
  have l2 : w.heap.size ≤ b2 := by rw [hn.at_]; exact hB.size
  have l2' : b1 < b2 := by rw [hn.at_]; exact B1.lt
  replace B1 := B1.below hn.below B1.lt
  replace hB := later hB hn.below
  clear hn
  refine atR_seg (m := 2) (H := []) (ts := [1, 2, 3, 5, 9]) (L' := [(1, .int .i64 radius), (2, .int .i64 top), (3, .int .i64 depth), (5, .pointer (some ⟨b1, 0, none⟩)), (9, .pointer (some ⟨b2, 0, none⟩))]) (O := fun w => True) hs (by kernel_rfl) trivial ?_
  clear hs a; intro a hs
  refine atR_end (by kernel_rfl) ?_
  refine wayN_node rfl ?_
  refine at_seq (j := 23) (by kernel_rfl) ?_
  refine at_block (id := 0) (by kernel_rfl) ?_
  refine at_seq (j := 6) (by kernel_rfl) ?_
  refine at_region (id := 1) (by kernel_rfl) ?_
  refine atR_seg (m := 1) (H := [(0, none, [.int .i64 num, .int .i64 kind, .int .i64 rad, .int .i64 flu, .int .i64 hol, .int .i64 stp, .int .i64 fd, .int .i64 plu])]) (ts := [1, 2, 3, 5, 9, 20]) (L' := [(1, .int .i64 radius), (2, .int .i64 top), (3, .int .i64 depth), (5, .pointer (some ⟨b1, 0, none⟩)), (9, .pointer (some ⟨b2, 0, none⟩)), (20, .agg #[.int .i64 num, .int .i64 kind, .int .i64 rad, .int .i64 flu, .int .i64 hol, .int .i64 stp, .int .i64 fd, .int .i64 plu])]) (O := fun w => (w.cell? ⟨b2, 0, none⟩ = some (.int .i64 num)) ∧ (w.cell? ⟨b2, 1, none⟩ = some (.int .i64 kind)) ∧ (w.cell? ⟨b2, 2, none⟩ = some (.int .i64 rad)) ∧ (w.cell? ⟨b2, 3, none⟩ = some (.int .i64 flu)) ∧ (w.cell? ⟨b2, 4, none⟩ = some (.int .i64 hol)) ∧ (w.cell? ⟨b2, 5, none⟩ = some (.int .i64 stp)) ∧ (w.cell? ⟨b2, 6, none⟩ = some (.int .i64 fd)) ∧ (w.cell? ⟨b2, 7, none⟩ = some (.int .i64 plu)) ∧ True) hs (by kernel_rfl) ⟨B2.cell 0 rfl, B2.cell 1 rfl, B2.cell 2 rfl, B2.cell 3 rfl, B2.cell 4 rfl, B2.cell 5 rfl, B2.cell 6 rfl, B2.cell 7 rfl, trivial⟩ ?_
  clear hs a; intro a hs
  refine atR_op hs (by kernel_rfl) (call1 (f := 25) (args := #[.agg #[.int .i64 num, .int .i64 kind, .int .i64 rad, .int .i64 flu, .int .i64 hol, .int .i64 stp, .int .i64 fd, .int .i64 plu]]) [1, 2, 3, 5, 9, 21] (fun rv_ => [(1, .int .i64 radius), (2, .int .i64 top), (3, .int .i64 depth), (5, .pointer (some ⟨b1, 0, none⟩)), (9, .pointer (some ⟨b2, 0, none⟩)), (21, rv_)]) hs (by kernel_rfl) (fun _ => by kernel_rfl) ?_)
  refine (valid_any (⟨num, kind, rad, flu, hol, stp, fd, plu⟩ : Tl) _ (HN.below hB) HK).mono ?_
  rintro e w3 ⟨rfl, hb⟩
  rw [show (if (⟨num, kind, rad, flu, hol, stp, fd, plu⟩ : Tl).good = true then (0 : Int) else 1) = 1 from by rw [hgood]; rfl]
  refine ⟨_, rfl, ?_⟩
  clear hs a; intro a hs
  replace B1 := B1.below hb B1.lt
  replace B2 := B2.below hb B2.lt
  replace hB := later hB hb
  clear hb
  refine atR_seg (m := 19) (H := []) (ts := [1, 2, 3, 5, 9, 19]) (L' := [(1, .int .i64 radius), (2, .int .i64 top), (3, .int .i64 depth), (5, .pointer (some ⟨b1, 0, none⟩)), (9, .pointer (some ⟨b2, 0, none⟩)), (19, .bool true)]) (O := fun w => True) hs (by kernel_rfl) trivial ?_
  clear hs a; intro a hs
  refine atR_end (by kernel_rfl) ?_
  refine wayN_node rfl ?_
  refine at_cond (t := 19) (j1 := 7) (j2 := 10) (b := true) (by kernel_rfl) hs rfl (fun _ => ?_) (fun hb => absurd (hb.symm.trans (show (true) = true from rfl)) (by decide))
  refine at_seq (j := 9) (by kernel_rfl) ?_
  refine at_region (id := 2) (by kernel_rfl) ?_
  refine atR_seg (m := 2) (H := []) (ts := [10, 11]) (L' := [(10, .slice none 0 0), (11, .int .i64 1)]) (O := fun w => True) hs (by kernel_rfl) trivial ?_
  clear hs a; intro a hs
  refine atR_end (by kernel_rfl) ?_
  refine wayN_node rfl ?_
  refine at_ret (by kernel_rfl) ?_
  refine at_end (vs := [.slice none 0 0, .int .i64 1]) (H := []) (v := .tuple #[.slice none 0 0, .int .i64 1]) (O := fun w => True) hs (by kernel_rfl) rfl trivial ?_
  exact ⟨by rw [show boreErr (⟨num, kind, rad, flu, hol, stp, fd, plu⟩ : Tl) x y radius top depth = 1 from by (unfold boreErr outB; dsimp only; (rw [hgood]) <;> rfl)], hB⟩
set_option maxHeartbeats 4000000 in
theorem bore_err (x y radius top depth num kind rad flu hol stp fd plu : Int) (w : World) (HN : Nms w) (HK : (⟨num, kind, rad, flu, hol, stp, fd, plu⟩ : Tl).ok) (br : i64 radius) (bd : i64 depth) (hgood : (⟨num, kind, rad, flu, hol, stp, fd, plu⟩ : Tl).good = true) (hne : ¬ boreErr (⟨num, kind, rad, flu, hol, stp, fd, plu⟩ : Tl) x y radius top depth = 0) :
    Calls Tryd.prog 12 #[.agg #[.int .i64 x, .int .i64 y], .int .i64 radius, .int .i64 top, .int .i64 depth, (⟨num, kind, rad, flu, hol, stp, fd, plu⟩ : Tl).v] w fun e w' => e = .returned (.tuple #[.slice none 0 0, .int .i64 (boreErr (⟨num, kind, rad, flu, hol, stp, fd, plu⟩ : Tl) x y radius top depth)]) ∧ Below w.heap.size w w' := by
  have hG : (⟨num, kind, rad, flu, hol, stp, fd, plu⟩ : Tl).Good := of_decide_eq_true hgood
  unfold Tl.Good at hG
  dsimp only at hG
  obtain ⟨_, br⟩ := br
  obtain ⟨_, bd⟩ := bd
  obtain ⟨q1, q2, q3, q4, ⟨q5, q6⟩, ⟨q7, q8⟩, ⟨q9, q10⟩, q11, q12, q13, q14, q15⟩ := hG
  have hB : Below w.heap.size w w := Below.refl _ _
  refine enter (B := body12) (args := [.agg #[.int .i64 x, .int .i64 y], .int .i64 radius, .int .i64 top, .int .i64 depth, .agg #[.int .i64 num, .int .i64 kind, .int .i64 rad, .int .i64 flu, .int .i64 hol, .int .i64 stp, .int .i64 fd, .int .i64 plu]]) Tryd.func12 (by kernel_rfl) (by kernel_rfl) ?_
  rw [show Tryd.f12.ntmps = 215 from by kernel_rfl]
  intro a hs
  replace hs := hs.pick (ts := [0, 1, 2, 3, 4]) (L' := [(0, .agg #[.int .i64 x, .int .i64 y]), (1, .int .i64 radius), (2, .int .i64 top), (3, .int .i64 depth), (4, .agg #[.int .i64 num, .int .i64 kind, .int .i64 rad, .int .i64 flu, .int .i64 hol, .int .i64 stp, .int .i64 fd, .int .i64 plu])]) (by kernel_rfl)
  refine at_seq (j := 2) (by kernel_rfl) ?_
  refine at_region (id := 0) (by kernel_rfl) ?_
  refine atR_op hs (by kernel_rfl) (new1 (t := 30) (cs := #[.int .i64 x, .int .i64 y]) (fun rb_ => .pointer (some ⟨rb_, 0, none⟩)) [1, 2, 3, 4, 5] (fun rb_ => [(1, .int .i64 radius), (2, .int .i64 top), (3, .int .i64 depth), (4, .agg #[.int .i64 num, .int .i64 kind, .int .i64 rad, .int .i64 flu, .int .i64 hol, .int .i64 stp, .int .i64 fd, .int .i64 plu]), (5, .pointer (some ⟨rb_, 0, none⟩))]) hs (fun _ => by kernel_rfl) (fun _ => by kernel_rfl) ?_)
  clear hs a; intro a w1 b1 hn hs
  have B1 := hn.blk
  have l1 : w.heap.size ≤ b1 := by rw [hn.at_]; exact hB.size
  replace hB := later hB hn.below
  clear hn
  refine atR_op hs (by kernel_rfl) (new1 (t := 33) (cs := #[.int .i64 num, .int .i64 kind, .int .i64 rad, .int .i64 flu, .int .i64 hol, .int .i64 stp, .int .i64 fd, .int .i64 plu]) (fun rb_ => .pointer (some ⟨rb_, 0, none⟩)) [1, 2, 3, 5, 9] (fun rb_ => [(1, .int .i64 radius), (2, .int .i64 top), (3, .int .i64 depth), (5, .pointer (some ⟨b1, 0, none⟩)), (9, .pointer (some ⟨rb_, 0, none⟩))]) hs (fun _ => by kernel_rfl) (fun _ => by kernel_rfl) ?_)
  clear hs a; intro a w2 b2 hn hs
  have B2 := hn.blk
  have l2 : w.heap.size ≤ b2 := by rw [hn.at_]; exact hB.size
  have l2' : b1 < b2 := by rw [hn.at_]; exact B1.lt
  replace B1 := B1.below hn.below B1.lt
  replace hB := later hB hn.below
  clear hn
  refine atR_seg (m := 2) (H := []) (ts := [1, 2, 3, 5, 9]) (L' := [(1, .int .i64 radius), (2, .int .i64 top), (3, .int .i64 depth), (5, .pointer (some ⟨b1, 0, none⟩)), (9, .pointer (some ⟨b2, 0, none⟩))]) (O := fun w => True) hs (by kernel_rfl) trivial ?_
  clear hs a; intro a hs
  refine atR_end (by kernel_rfl) ?_
  refine wayN_node rfl ?_
  refine at_seq (j := 23) (by kernel_rfl) ?_
  refine at_block (id := 0) (by kernel_rfl) ?_
  refine at_seq (j := 6) (by kernel_rfl) ?_
  refine at_region (id := 1) (by kernel_rfl) ?_
  refine atR_seg (m := 1) (H := [(0, none, [.int .i64 num, .int .i64 kind, .int .i64 rad, .int .i64 flu, .int .i64 hol, .int .i64 stp, .int .i64 fd, .int .i64 plu])]) (ts := [1, 2, 3, 5, 9, 20]) (L' := [(1, .int .i64 radius), (2, .int .i64 top), (3, .int .i64 depth), (5, .pointer (some ⟨b1, 0, none⟩)), (9, .pointer (some ⟨b2, 0, none⟩)), (20, .agg #[.int .i64 num, .int .i64 kind, .int .i64 rad, .int .i64 flu, .int .i64 hol, .int .i64 stp, .int .i64 fd, .int .i64 plu])]) (O := fun w => (w.cell? ⟨b2, 0, none⟩ = some (.int .i64 num)) ∧ (w.cell? ⟨b2, 1, none⟩ = some (.int .i64 kind)) ∧ (w.cell? ⟨b2, 2, none⟩ = some (.int .i64 rad)) ∧ (w.cell? ⟨b2, 3, none⟩ = some (.int .i64 flu)) ∧ (w.cell? ⟨b2, 4, none⟩ = some (.int .i64 hol)) ∧ (w.cell? ⟨b2, 5, none⟩ = some (.int .i64 stp)) ∧ (w.cell? ⟨b2, 6, none⟩ = some (.int .i64 fd)) ∧ (w.cell? ⟨b2, 7, none⟩ = some (.int .i64 plu)) ∧ True) hs (by kernel_rfl) ⟨B2.cell 0 rfl, B2.cell 1 rfl, B2.cell 2 rfl, B2.cell 3 rfl, B2.cell 4 rfl, B2.cell 5 rfl, B2.cell 6 rfl, B2.cell 7 rfl, trivial⟩ ?_
  clear hs a; intro a hs
  refine atR_op hs (by kernel_rfl) (call1 (f := 25) (args := #[.agg #[.int .i64 num, .int .i64 kind, .int .i64 rad, .int .i64 flu, .int .i64 hol, .int .i64 stp, .int .i64 fd, .int .i64 plu]]) [1, 2, 3, 5, 9, 21] (fun rv_ => [(1, .int .i64 radius), (2, .int .i64 top), (3, .int .i64 depth), (5, .pointer (some ⟨b1, 0, none⟩)), (9, .pointer (some ⟨b2, 0, none⟩)), (21, rv_)]) hs (by kernel_rfl) (fun _ => by kernel_rfl) ?_)
  refine (valid_any (⟨num, kind, rad, flu, hol, stp, fd, plu⟩ : Tl) _ (HN.below hB) HK).mono ?_
  rintro e w3 ⟨rfl, hb⟩
  rw [show (if (⟨num, kind, rad, flu, hol, stp, fd, plu⟩ : Tl).good = true then (0 : Int) else 1) = 0 from by rw [hgood]; rfl]
  refine ⟨_, rfl, ?_⟩
  clear hs a; intro a hs
  replace B1 := B1.below hb B1.lt
  replace B2 := B2.below hb B2.lt
  replace hB := later hB hb
  clear hb
  refine atR_seg (m := 7) (H := [(5, none, [.int .i64 kind])]) (ts := [1, 2, 3, 5, 9, 28]) (L' := [(1, .int .i64 radius), (2, .int .i64 top), (3, .int .i64 depth), (5, .pointer (some ⟨b1, 0, none⟩)), (9, .pointer (some ⟨b2, 0, none⟩)), (28, .bool (kind != 1))]) (O := fun w => (w.cell? ⟨b2, 1, none⟩ = some (.int .i64 kind)) ∧ True) hs (by kernel_rfl) ⟨B2.cell 1 rfl, trivial⟩ ?_
  clear hs a; intro a hs
  rcases Bool.eq_false_or_eq_true (kind != 1) with hb | hb
  · replace hs := hs.know (t := 28) rfl hb
    have cd1 := hb; have cd1b := hb; clear hb
    replace cd1 := bne_iff_ne.1 cd1
    replace hs := hs.pick (ts := [1, 2, 3, 5, 9, 28]) (L' := [(1, .int .i64 radius), (2, .int .i64 top), (3, .int .i64 depth), (5, .pointer (some ⟨b1, 0, none⟩)), (9, .pointer (some ⟨b2, 0, none⟩)), (28, .bool true)]) (by kernel_rfl)
    refine atR_seg (m := 12) (H := []) (ts := [1, 2, 3, 5, 9, 19]) (L' := [(1, .int .i64 radius), (2, .int .i64 top), (3, .int .i64 depth), (5, .pointer (some ⟨b1, 0, none⟩)), (9, .pointer (some ⟨b2, 0, none⟩)), (19, .bool true)]) (O := fun w => True) hs (by kernel_rfl) trivial ?_
    clear hs a; intro a hs
    refine atR_end (by kernel_rfl) ?_
    refine wayN_node rfl ?_
    refine at_cond (t := 19) (j1 := 7) (j2 := 10) (b := true) (by kernel_rfl) hs rfl (fun _ => ?_) (fun hb => absurd (hb.symm.trans (show (true) = true from rfl)) (by decide))
    refine at_seq (j := 9) (by kernel_rfl) ?_
    refine at_region (id := 2) (by kernel_rfl) ?_
    refine atR_seg (m := 2) (H := []) (ts := [10, 11]) (L' := [(10, .slice none 0 0), (11, .int .i64 1)]) (O := fun w => True) hs (by kernel_rfl) trivial ?_
    clear hs a; intro a hs
    refine atR_end (by kernel_rfl) ?_
    refine wayN_node rfl ?_
    refine at_ret (by kernel_rfl) ?_
    refine at_end (vs := [.slice none 0 0, .int .i64 1]) (H := []) (v := .tuple #[.slice none 0 0, .int .i64 1]) (O := fun w => True) hs (by kernel_rfl) rfl trivial ?_
    exact ⟨by rw [show boreErr (⟨num, kind, rad, flu, hol, stp, fd, plu⟩ : Tl) x y radius top depth = 1 from by (unfold boreErr outB; dsimp only; (rw [hgood, cd1b]) <;> rfl)], hB⟩
  · replace hs := hs.know (t := 28) rfl hb
    have cd1 := hb; have cd1b := hb; clear hb
    replace cd1 := bne_eq_false_iff_eq.1 cd1
    replace hs := hs.pick (ts := [1, 2, 3, 5, 9, 28]) (L' := [(1, .int .i64 radius), (2, .int .i64 top), (3, .int .i64 depth), (5, .pointer (some ⟨b1, 0, none⟩)), (9, .pointer (some ⟨b2, 0, none⟩)), (28, .bool false)]) (by kernel_rfl)
    refine atR_seg (m := 4) (H := []) (ts := [1, 2, 3, 5, 9, 32]) (L' := [(1, .int .i64 radius), (2, .int .i64 top), (3, .int .i64 depth), (5, .pointer (some ⟨b1, 0, none⟩)), (9, .pointer (some ⟨b2, 0, none⟩)), (32, .bool (decide (top < 0)))]) (O := fun w => True) hs (by kernel_rfl) trivial ?_
    clear hs a; intro a hs
    rcases Bool.eq_false_or_eq_true (decide (top < 0)) with hb | hb
    · replace hs := hs.know (t := 32) rfl hb
      have cd2 := hb; have cd2b := hb; clear hb
      replace cd2 := of_decide_eq_true cd2
      replace hs := hs.pick (ts := [1, 2, 3, 5, 9, 32]) (L' := [(1, .int .i64 radius), (2, .int .i64 top), (3, .int .i64 depth), (5, .pointer (some ⟨b1, 0, none⟩)), (9, .pointer (some ⟨b2, 0, none⟩)), (32, .bool true)]) (by kernel_rfl)
      refine atR_seg (m := 8) (H := []) (ts := [1, 2, 3, 5, 9, 19]) (L' := [(1, .int .i64 radius), (2, .int .i64 top), (3, .int .i64 depth), (5, .pointer (some ⟨b1, 0, none⟩)), (9, .pointer (some ⟨b2, 0, none⟩)), (19, .bool true)]) (O := fun w => True) hs (by kernel_rfl) trivial ?_
      clear hs a; intro a hs
      refine atR_end (by kernel_rfl) ?_
      refine wayN_node rfl ?_
      refine at_cond (t := 19) (j1 := 7) (j2 := 10) (b := true) (by kernel_rfl) hs rfl (fun _ => ?_) (fun hb => absurd (hb.symm.trans (show (true) = true from rfl)) (by decide))
      refine at_seq (j := 9) (by kernel_rfl) ?_
      refine at_region (id := 2) (by kernel_rfl) ?_
      refine atR_seg (m := 2) (H := []) (ts := [10, 11]) (L' := [(10, .slice none 0 0), (11, .int .i64 1)]) (O := fun w => True) hs (by kernel_rfl) trivial ?_
      clear hs a; intro a hs
      refine atR_end (by kernel_rfl) ?_
      refine wayN_node rfl ?_
      refine at_ret (by kernel_rfl) ?_
      refine at_end (vs := [.slice none 0 0, .int .i64 1]) (H := []) (v := .tuple #[.slice none 0 0, .int .i64 1]) (O := fun w => True) hs (by kernel_rfl) rfl trivial ?_
      exact ⟨by rw [show boreErr (⟨num, kind, rad, flu, hol, stp, fd, plu⟩ : Tl) x y radius top depth = 1 from by (unfold boreErr outB; dsimp only; (rw [hgood, cd1b, cd2b]) <;> rfl)], hB⟩
    · replace hs := hs.know (t := 32) rfl hb
      have cd2 := hb; have cd2b := hb; clear hb
      replace cd2 := of_decide_eq_false cd2
      replace hs := hs.pick (ts := [1, 2, 3, 5, 9, 32]) (L' := [(1, .int .i64 radius), (2, .int .i64 top), (3, .int .i64 depth), (5, .pointer (some ⟨b1, 0, none⟩)), (9, .pointer (some ⟨b2, 0, none⟩)), (32, .bool false)]) (by kernel_rfl)
      refine atR_seg (m := 4) (H := []) (ts := [1, 2, 3, 5, 9, 36]) (L' := [(1, .int .i64 radius), (2, .int .i64 top), (3, .int .i64 depth), (5, .pointer (some ⟨b1, 0, none⟩)), (9, .pointer (some ⟨b2, 0, none⟩)), (36, .bool (decide (radius < 1)))]) (O := fun w => True) hs (by kernel_rfl) trivial ?_
      clear hs a; intro a hs
      rcases Bool.eq_false_or_eq_true (decide (radius < 1)) with hb | hb
      · replace hs := hs.know (t := 36) rfl hb
        have cd3 := hb; have cd3b := hb; clear hb
        replace cd3 := of_decide_eq_true cd3
        replace hs := hs.pick (ts := [1, 2, 3, 5, 9, 36]) (L' := [(1, .int .i64 radius), (2, .int .i64 top), (3, .int .i64 depth), (5, .pointer (some ⟨b1, 0, none⟩)), (9, .pointer (some ⟨b2, 0, none⟩)), (36, .bool true)]) (by kernel_rfl)
        refine atR_seg (m := 4) (H := []) (ts := [1, 2, 3, 5, 9, 19]) (L' := [(1, .int .i64 radius), (2, .int .i64 top), (3, .int .i64 depth), (5, .pointer (some ⟨b1, 0, none⟩)), (9, .pointer (some ⟨b2, 0, none⟩)), (19, .bool true)]) (O := fun w => True) hs (by kernel_rfl) trivial ?_
        clear hs a; intro a hs
        refine atR_end (by kernel_rfl) ?_
        refine wayN_node rfl ?_
        refine at_cond (t := 19) (j1 := 7) (j2 := 10) (b := true) (by kernel_rfl) hs rfl (fun _ => ?_) (fun hb => absurd (hb.symm.trans (show (true) = true from rfl)) (by decide))
        refine at_seq (j := 9) (by kernel_rfl) ?_
        refine at_region (id := 2) (by kernel_rfl) ?_
        refine atR_seg (m := 2) (H := []) (ts := [10, 11]) (L' := [(10, .slice none 0 0), (11, .int .i64 1)]) (O := fun w => True) hs (by kernel_rfl) trivial ?_
        clear hs a; intro a hs
        refine atR_end (by kernel_rfl) ?_
        refine wayN_node rfl ?_
        refine at_ret (by kernel_rfl) ?_
        refine at_end (vs := [.slice none 0 0, .int .i64 1]) (H := []) (v := .tuple #[.slice none 0 0, .int .i64 1]) (O := fun w => True) hs (by kernel_rfl) rfl trivial ?_
        exact ⟨by rw [show boreErr (⟨num, kind, rad, flu, hol, stp, fd, plu⟩ : Tl) x y radius top depth = 1 from by (unfold boreErr outB; dsimp only; (rw [hgood, cd1b, cd2b, cd3b]) <;> rfl)], hB⟩
      · replace hs := hs.know (t := 36) rfl hb
        have cd3 := hb; have cd3b := hb; clear hb
        replace cd3 := of_decide_eq_false cd3
        replace hs := hs.pick (ts := [1, 2, 3, 5, 9, 36]) (L' := [(1, .int .i64 radius), (2, .int .i64 top), (3, .int .i64 depth), (5, .pointer (some ⟨b1, 0, none⟩)), (9, .pointer (some ⟨b2, 0, none⟩)), (36, .bool false)]) (by kernel_rfl)
        refine atR_seg (m := 4) (H := []) (ts := [1, 2, 3, 5, 9, 19]) (L' := [(1, .int .i64 radius), (2, .int .i64 top), (3, .int .i64 depth), (5, .pointer (some ⟨b1, 0, none⟩)), (9, .pointer (some ⟨b2, 0, none⟩)), (19, .bool (decide (depth < 1)))]) (O := fun w => True) hs (by kernel_rfl) trivial ?_
        clear hs a; intro a hs
        refine atR_end (by kernel_rfl) ?_
        refine wayN_node rfl ?_
        refine at_cond (t := 19) (j1 := 7) (j2 := 10) (b := decide (depth < 1)) (by kernel_rfl) hs rfl (fun hb => ?_) (fun hb => ?_)
        · have cd4 := hb; have cd4b := hb; clear hb
          replace cd4 := of_decide_eq_true cd4
          refine at_seq (j := 9) (by kernel_rfl) ?_
          refine at_region (id := 2) (by kernel_rfl) ?_
          refine atR_seg (m := 2) (H := []) (ts := [10, 11]) (L' := [(10, .slice none 0 0), (11, .int .i64 1)]) (O := fun w => True) hs (by kernel_rfl) trivial ?_
          clear hs a; intro a hs
          refine atR_end (by kernel_rfl) ?_
          refine wayN_node rfl ?_
          refine at_ret (by kernel_rfl) ?_
          refine at_end (vs := [.slice none 0 0, .int .i64 1]) (H := []) (v := .tuple #[.slice none 0 0, .int .i64 1]) (O := fun w => True) hs (by kernel_rfl) rfl trivial ?_
          exact ⟨by rw [show boreErr (⟨num, kind, rad, flu, hol, stp, fd, plu⟩ : Tl) x y radius top depth = 1 from by (unfold boreErr outB; dsimp only; (rw [hgood, cd1b, cd2b, cd3b, cd4b]) <;> rfl)], hB⟩
        · have cd4 := hb; have cd4b := hb; clear hb
          replace cd4 := of_decide_eq_false cd4
          refine at_seq (j := 12) (by kernel_rfl) ?_
          refine at_region (id := 3) (by kernel_rfl) ?_
          refine atR_seg (m := 5) (H := [(1, none, [.int .i64 flu])]) (ts := [1, 2, 3, 5, 9, 45]) (L' := [(1, .int .i64 radius), (2, .int .i64 top), (3, .int .i64 depth), (5, .pointer (some ⟨b1, 0, none⟩)), (9, .pointer (some ⟨b2, 0, none⟩)), (45, .bool (decide (flu < depth)))]) (O := fun w => (w.cell? ⟨b2, 3, none⟩ = some (.int .i64 flu)) ∧ True) hs (by kernel_rfl) ⟨B2.cell 3 rfl, trivial⟩ ?_
          clear hs a; intro a hs
          rcases Bool.eq_false_or_eq_true (decide (flu < depth)) with hb | hb
          · replace hs := hs.know (t := 45) rfl hb
            have cd5 := hb; have cd5b := hb; clear hb
            replace cd5 := of_decide_eq_true cd5
            replace hs := hs.pick (ts := [1, 2, 3, 5, 9, 45]) (L' := [(1, .int .i64 radius), (2, .int .i64 top), (3, .int .i64 depth), (5, .pointer (some ⟨b1, 0, none⟩)), (9, .pointer (some ⟨b2, 0, none⟩)), (45, .bool true)]) (by kernel_rfl)
            refine atR_seg (m := 6) (H := []) (ts := [1, 2, 3, 5, 9, 40]) (L' := [(1, .int .i64 radius), (2, .int .i64 top), (3, .int .i64 depth), (5, .pointer (some ⟨b1, 0, none⟩)), (9, .pointer (some ⟨b2, 0, none⟩)), (40, .bool true)]) (O := fun w => True) hs (by kernel_rfl) trivial ?_
            clear hs a; intro a hs
            refine atR_end (by kernel_rfl) ?_
            refine wayN_node rfl ?_
            refine at_cond (t := 40) (j1 := 13) (j2 := 16) (b := true) (by kernel_rfl) hs rfl (fun _ => ?_) (fun hb => absurd (hb.symm.trans (show (true) = true from rfl)) (by decide))
            refine at_seq (j := 15) (by kernel_rfl) ?_
            refine at_region (id := 4) (by kernel_rfl) ?_
            refine atR_seg (m := 2) (H := []) (ts := [10, 11]) (L' := [(10, .slice none 0 0), (11, .int .i64 16)]) (O := fun w => True) hs (by kernel_rfl) trivial ?_
            clear hs a; intro a hs
            refine atR_end (by kernel_rfl) ?_
            refine wayN_node rfl ?_
            refine at_ret (by kernel_rfl) ?_
            refine at_end (vs := [.slice none 0 0, .int .i64 16]) (H := []) (v := .tuple #[.slice none 0 0, .int .i64 16]) (O := fun w => True) hs (by kernel_rfl) rfl trivial ?_
            exact ⟨by rw [show boreErr (⟨num, kind, rad, flu, hol, stp, fd, plu⟩ : Tl) x y radius top depth = 16 from by (unfold boreErr outB; dsimp only; (rw [hgood, cd1b, cd2b, cd3b, cd4b, cd5b]) <;> rfl)], hB⟩
          · replace hs := hs.know (t := 45) rfl hb
            have cd5 := hb; have cd5b := hb; clear hb
            replace cd5 := of_decide_eq_false cd5
            replace hs := hs.pick (ts := [1, 2, 3, 5, 9, 45]) (L' := [(1, .int .i64 radius), (2, .int .i64 top), (3, .int .i64 depth), (5, .pointer (some ⟨b1, 0, none⟩)), (9, .pointer (some ⟨b2, 0, none⟩)), (45, .bool false)]) (by kernel_rfl)
            refine atR_seg (m := 2) (H := [(5, none, [.int .i64 num, .int .i64 kind, .int .i64 rad, .int .i64 flu, .int .i64 hol, .int .i64 stp, .int .i64 fd, .int .i64 plu])]) (ts := [1, 2, 3, 5, 9, 45, 46, 47]) (L' := [(1, .int .i64 radius), (2, .int .i64 top), (3, .int .i64 depth), (5, .pointer (some ⟨b1, 0, none⟩)), (9, .pointer (some ⟨b2, 0, none⟩)), (45, .bool false), (46, .agg #[.int .i64 num, .int .i64 kind, .int .i64 rad, .int .i64 flu, .int .i64 hol, .int .i64 stp, .int .i64 fd, .int .i64 plu]), (47, .int .i64 radius)]) (O := fun w => (w.cell? ⟨b2, 0, none⟩ = some (.int .i64 num)) ∧ (w.cell? ⟨b2, 1, none⟩ = some (.int .i64 kind)) ∧ (w.cell? ⟨b2, 2, none⟩ = some (.int .i64 rad)) ∧ (w.cell? ⟨b2, 3, none⟩ = some (.int .i64 flu)) ∧ (w.cell? ⟨b2, 4, none⟩ = some (.int .i64 hol)) ∧ (w.cell? ⟨b2, 5, none⟩ = some (.int .i64 stp)) ∧ (w.cell? ⟨b2, 6, none⟩ = some (.int .i64 fd)) ∧ (w.cell? ⟨b2, 7, none⟩ = some (.int .i64 plu)) ∧ True) hs (by kernel_rfl) ⟨B2.cell 0 rfl, B2.cell 1 rfl, B2.cell 2 rfl, B2.cell 3 rfl, B2.cell 4 rfl, B2.cell 5 rfl, B2.cell 6 rfl, B2.cell 7 rfl, trivial⟩ ?_
            clear hs a; intro a hs
            refine atR_op hs (by kernel_rfl) (call1 (f := 26) (args := #[.agg #[.int .i64 num, .int .i64 kind, .int .i64 rad, .int .i64 flu, .int .i64 hol, .int .i64 stp, .int .i64 fd, .int .i64 plu], .int .i64 radius]) [1, 2, 3, 5, 9, 45, 48] (fun rv_ => [(1, .int .i64 radius), (2, .int .i64 top), (3, .int .i64 depth), (5, .pointer (some ⟨b1, 0, none⟩)), (9, .pointer (some ⟨b2, 0, none⟩)), (45, .bool false), (48, rv_)]) hs (by kernel_rfl) (fun _ => by kernel_rfl) ?_)
            refine (mills_any (⟨num, kind, rad, flu, hol, stp, fd, plu⟩ : Tl) _ _ (by dsimp only; omega) (by omega)).mono ?_
            rintro e w4 ⟨rfl, hb⟩
            refine ⟨_, rfl, ?_⟩
            clear hs a; intro a hs
            replace B1 := B1.below hb B1.lt
            replace B2 := B2.below hb B2.lt
            replace hB := later hB hb
            clear hb
            refine atR_seg (m := 3) (H := []) (ts := [1, 2, 3, 5, 9, 40]) (L' := [(1, .int .i64 radius), (2, .int .i64 top), (3, .int .i64 depth), (5, .pointer (some ⟨b1, 0, none⟩)), (9, .pointer (some ⟨b2, 0, none⟩)), (40, .bool (!((⟨num, kind, rad, flu, hol, stp, fd, plu⟩ : Tl).mills radius)))]) (O := fun w => True) hs (by kernel_rfl) trivial ?_
            clear hs a; intro a hs
            refine atR_end (by kernel_rfl) ?_
            refine wayN_node rfl ?_
            refine at_cond (t := 40) (j1 := 13) (j2 := 16) (b := !((⟨num, kind, rad, flu, hol, stp, fd, plu⟩ : Tl).mills radius)) (by kernel_rfl) hs rfl (fun hb => ?_) (fun hb => ?_)
            · have cd6 := hb; have cd6b := hb; clear hb
              refine at_seq (j := 15) (by kernel_rfl) ?_
              refine at_region (id := 4) (by kernel_rfl) ?_
              refine atR_seg (m := 2) (H := []) (ts := [10, 11]) (L' := [(10, .slice none 0 0), (11, .int .i64 16)]) (O := fun w => True) hs (by kernel_rfl) trivial ?_
              clear hs a; intro a hs
              refine atR_end (by kernel_rfl) ?_
              refine wayN_node rfl ?_
              refine at_ret (by kernel_rfl) ?_
              refine at_end (vs := [.slice none 0 0, .int .i64 16]) (H := []) (v := .tuple #[.slice none 0 0, .int .i64 16]) (O := fun w => True) hs (by kernel_rfl) rfl trivial ?_
              exact ⟨by rw [show boreErr (⟨num, kind, rad, flu, hol, stp, fd, plu⟩ : Tl) x y radius top depth = 16 from by (unfold boreErr outB; dsimp only; (rw [hgood, cd1b, cd2b, cd3b, cd4b, cd5b, cd6b]) <;> rfl)], hB⟩
            · have cd6 := hb; have cd6b := hb; clear hb
              have hmm := of_decide_eq_true (show (⟨num, kind, rad, flu, hol, stp, fd, plu⟩ : Tl).mills radius = true from by simpa using cd6)
              dsimp only at hmm
              refine at_seq (j := 18) (by kernel_rfl) ?_
              refine at_region (id := 5) (by kernel_rfl) ?_
              refine atR_seg (m := 2) (H := [(1, none, [.int .i64 x])]) (ts := [1, 2, 3, 5, 9, 53]) (L' := [(1, .int .i64 radius), (2, .int .i64 top), (3, .int .i64 depth), (5, .pointer (some ⟨b1, 0, none⟩)), (9, .pointer (some ⟨b2, 0, none⟩)), (53, .int .i64 x)]) (O := fun w => (w.cell? ⟨b1, 0, none⟩ = some (.int .i64 x)) ∧ True) hs (by kernel_rfl) ⟨B1.cell 0 rfl, trivial⟩ ?_
              clear hs a; intro a hs
              refine atR_op hs (by kernel_rfl) (call1 (f := 27) (args := #[.int .i64 x]) [1, 2, 3, 5, 9, 54] (fun rv_ => [(1, .int .i64 radius), (2, .int .i64 top), (3, .int .i64 depth), (5, .pointer (some ⟨b1, 0, none⟩)), (9, .pointer (some ⟨b2, 0, none⟩)), (54, rv_)]) hs (by kernel_rfl) (fun _ => by kernel_rfl) ?_)
              refine (inside_any _ _).mono ?_
              rintro e w' ⟨rfl, rfl⟩
              refine ⟨_, rfl, ?_⟩
              clear hs a; intro a hs
              refine atR_seg (m := 2) (H := []) (ts := [1, 2, 3, 5, 9, 56]) (L' := [(1, .int .i64 radius), (2, .int .i64 top), (3, .int .i64 depth), (5, .pointer (some ⟨b1, 0, none⟩)), (9, .pointer (some ⟨b2, 0, none⟩)), (56, .bool (!(insB x)))]) (O := fun w => True) hs (by kernel_rfl) trivial ?_
              clear hs a; intro a hs
              rcases Bool.eq_false_or_eq_true (!(insB x)) with hb | hb
              · replace hs := hs.know (t := 56) rfl hb
                have cd7 := hb; have cd7b := hb; clear hb
                replace hs := hs.pick (ts := [1, 2, 3, 5, 9, 56]) (L' := [(1, .int .i64 radius), (2, .int .i64 top), (3, .int .i64 depth), (5, .pointer (some ⟨b1, 0, none⟩)), (9, .pointer (some ⟨b2, 0, none⟩)), (56, .bool true)]) (by kernel_rfl)
                refine atR_seg (m := 16) (H := []) (ts := [1, 2, 3, 5, 9, 51]) (L' := [(1, .int .i64 radius), (2, .int .i64 top), (3, .int .i64 depth), (5, .pointer (some ⟨b1, 0, none⟩)), (9, .pointer (some ⟨b2, 0, none⟩)), (51, .bool true)]) (O := fun w => True) hs (by kernel_rfl) trivial ?_
                clear hs a; intro a hs
                refine atR_end (by kernel_rfl) ?_
                refine wayN_node rfl ?_
                refine at_cond (t := 51) (j1 := 19) (j2 := 22) (b := true) (by kernel_rfl) hs rfl (fun _ => ?_) (fun hb => absurd (hb.symm.trans (show (true) = true from rfl)) (by decide))
                refine at_seq (j := 21) (by kernel_rfl) ?_
                refine at_region (id := 6) (by kernel_rfl) ?_
                refine atR_seg (m := 2) (H := []) (ts := [10, 11]) (L' := [(10, .slice none 0 0), (11, .int .i64 11)]) (O := fun w => True) hs (by kernel_rfl) trivial ?_
                clear hs a; intro a hs
                refine atR_end (by kernel_rfl) ?_
                refine wayN_node rfl ?_
                refine at_ret (by kernel_rfl) ?_
                refine at_end (vs := [.slice none 0 0, .int .i64 11]) (H := []) (v := .tuple #[.slice none 0 0, .int .i64 11]) (O := fun w => True) hs (by kernel_rfl) rfl trivial ?_
                exact ⟨by rw [show boreErr (⟨num, kind, rad, flu, hol, stp, fd, plu⟩ : Tl) x y radius top depth = 11 from by (unfold boreErr outB; dsimp only; (rw [hgood, cd1b, cd2b, cd3b, cd4b, cd5b, cd6b, cd7b]) <;> rfl)], hB⟩
              · replace hs := hs.know (t := 56) rfl hb
                have cd7 := hb; have cd7b := hb; clear hb
                have hxx := insB_t (show insB x = true from by simpa using cd7)
                replace hs := hs.pick (ts := [1, 2, 3, 5, 9, 56]) (L' := [(1, .int .i64 radius), (2, .int .i64 top), (3, .int .i64 depth), (5, .pointer (some ⟨b1, 0, none⟩)), (9, .pointer (some ⟨b2, 0, none⟩)), (56, .bool false)]) (by kernel_rfl)
                refine atR_seg (m := 2) (H := [(6, none, [.int .i64 y])]) (ts := [1, 2, 3, 5, 9, 56, 58]) (L' := [(1, .int .i64 radius), (2, .int .i64 top), (3, .int .i64 depth), (5, .pointer (some ⟨b1, 0, none⟩)), (9, .pointer (some ⟨b2, 0, none⟩)), (56, .bool false), (58, .int .i64 y)]) (O := fun w => (w.cell? ⟨b1, 1, none⟩ = some (.int .i64 y)) ∧ True) hs (by kernel_rfl) ⟨B1.cell 1 rfl, trivial⟩ ?_
                clear hs a; intro a hs
                refine atR_op hs (by kernel_rfl) (call1 (f := 27) (args := #[.int .i64 y]) [1, 2, 3, 5, 9, 56, 59] (fun rv_ => [(1, .int .i64 radius), (2, .int .i64 top), (3, .int .i64 depth), (5, .pointer (some ⟨b1, 0, none⟩)), (9, .pointer (some ⟨b2, 0, none⟩)), (56, .bool false), (59, rv_)]) hs (by kernel_rfl) (fun _ => by kernel_rfl) ?_)
                refine (inside_any _ _).mono ?_
                rintro e w' ⟨rfl, rfl⟩
                refine ⟨_, rfl, ?_⟩
                clear hs a; intro a hs
                refine atR_seg (m := 3) (H := []) (ts := [1, 2, 3, 5, 9, 62]) (L' := [(1, .int .i64 radius), (2, .int .i64 top), (3, .int .i64 depth), (5, .pointer (some ⟨b1, 0, none⟩)), (9, .pointer (some ⟨b2, 0, none⟩)), (62, .bool (!(insB y)))]) (O := fun w => True) hs (by kernel_rfl) trivial ?_
                clear hs a; intro a hs
                rcases Bool.eq_false_or_eq_true (!(insB y)) with hb | hb
                · replace hs := hs.know (t := 62) rfl hb
                  have cd8 := hb; have cd8b := hb; clear hb
                  replace hs := hs.pick (ts := [1, 2, 3, 5, 9, 62]) (L' := [(1, .int .i64 radius), (2, .int .i64 top), (3, .int .i64 depth), (5, .pointer (some ⟨b1, 0, none⟩)), (9, .pointer (some ⟨b2, 0, none⟩)), (62, .bool true)]) (by kernel_rfl)
                  refine atR_seg (m := 10) (H := []) (ts := [1, 2, 3, 5, 9, 51]) (L' := [(1, .int .i64 radius), (2, .int .i64 top), (3, .int .i64 depth), (5, .pointer (some ⟨b1, 0, none⟩)), (9, .pointer (some ⟨b2, 0, none⟩)), (51, .bool true)]) (O := fun w => True) hs (by kernel_rfl) trivial ?_
                  clear hs a; intro a hs
                  refine atR_end (by kernel_rfl) ?_
                  refine wayN_node rfl ?_
                  refine at_cond (t := 51) (j1 := 19) (j2 := 22) (b := true) (by kernel_rfl) hs rfl (fun _ => ?_) (fun hb => absurd (hb.symm.trans (show (true) = true from rfl)) (by decide))
                  refine at_seq (j := 21) (by kernel_rfl) ?_
                  refine at_region (id := 6) (by kernel_rfl) ?_
                  refine atR_seg (m := 2) (H := []) (ts := [10, 11]) (L' := [(10, .slice none 0 0), (11, .int .i64 11)]) (O := fun w => True) hs (by kernel_rfl) trivial ?_
                  clear hs a; intro a hs
                  refine atR_end (by kernel_rfl) ?_
                  refine wayN_node rfl ?_
                  refine at_ret (by kernel_rfl) ?_
                  refine at_end (vs := [.slice none 0 0, .int .i64 11]) (H := []) (v := .tuple #[.slice none 0 0, .int .i64 11]) (O := fun w => True) hs (by kernel_rfl) rfl trivial ?_
                  exact ⟨by rw [show boreErr (⟨num, kind, rad, flu, hol, stp, fd, plu⟩ : Tl) x y radius top depth = 11 from by (unfold boreErr outB; dsimp only; (rw [hgood, cd1b, cd2b, cd3b, cd4b, cd5b, cd6b, cd7b, cd8b]) <;> rfl)], hB⟩
                · replace hs := hs.know (t := 62) rfl hb
                  have cd8 := hb; have cd8b := hb; clear hb
                  have hyy := insB_t (show insB y = true from by simpa using cd8)
                  replace hs := hs.pick (ts := [1, 2, 3, 5, 9, 62]) (L' := [(1, .int .i64 radius), (2, .int .i64 top), (3, .int .i64 depth), (5, .pointer (some ⟨b1, 0, none⟩)), (9, .pointer (some ⟨b2, 0, none⟩)), (62, .bool false)]) (by kernel_rfl)
                  refine atR_seg (m := 1) (H := []) (ts := [1, 2, 3, 5, 9, 62, 63]) (L' := [(1, .int .i64 radius), (2, .int .i64 top), (3, .int .i64 depth), (5, .pointer (some ⟨b1, 0, none⟩)), (9, .pointer (some ⟨b2, 0, none⟩)), (62, .bool false), (63, .int .i64 top)]) (O := fun w => True) hs (by kernel_rfl) trivial ?_
                  clear hs a; intro a hs
                  refine atR_op hs (by kernel_rfl) (call1 (f := 27) (args := #[.int .i64 top]) [1, 2, 3, 5, 9, 62, 64] (fun rv_ => [(1, .int .i64 radius), (2, .int .i64 top), (3, .int .i64 depth), (5, .pointer (some ⟨b1, 0, none⟩)), (9, .pointer (some ⟨b2, 0, none⟩)), (62, .bool false), (64, rv_)]) hs (by kernel_rfl) (fun _ => by kernel_rfl) ?_)
                  refine (inside_any _ _).mono ?_
                  rintro e w' ⟨rfl, rfl⟩
                  refine ⟨_, rfl, ?_⟩
                  clear hs a; intro a hs
                  refine atR_seg (m := 3) (H := []) (ts := [1, 2, 3, 5, 9, 67]) (L' := [(1, .int .i64 radius), (2, .int .i64 top), (3, .int .i64 depth), (5, .pointer (some ⟨b1, 0, none⟩)), (9, .pointer (some ⟨b2, 0, none⟩)), (67, .bool (!(insB top)))]) (O := fun w => True) hs (by kernel_rfl) trivial ?_
                  clear hs a; intro a hs
                  rcases Bool.eq_false_or_eq_true (!(insB top)) with hb | hb
                  · replace hs := hs.know (t := 67) rfl hb
                    have cd9 := hb; have cd9b := hb; clear hb
                    replace hs := hs.pick (ts := [1, 2, 3, 5, 9, 67]) (L' := [(1, .int .i64 radius), (2, .int .i64 top), (3, .int .i64 depth), (5, .pointer (some ⟨b1, 0, none⟩)), (9, .pointer (some ⟨b2, 0, none⟩)), (67, .bool true)]) (by kernel_rfl)
                    refine atR_seg (m := 5) (H := []) (ts := [1, 2, 3, 5, 9, 51]) (L' := [(1, .int .i64 radius), (2, .int .i64 top), (3, .int .i64 depth), (5, .pointer (some ⟨b1, 0, none⟩)), (9, .pointer (some ⟨b2, 0, none⟩)), (51, .bool true)]) (O := fun w => True) hs (by kernel_rfl) trivial ?_
                    clear hs a; intro a hs
                    refine atR_end (by kernel_rfl) ?_
                    refine wayN_node rfl ?_
                    refine at_cond (t := 51) (j1 := 19) (j2 := 22) (b := true) (by kernel_rfl) hs rfl (fun _ => ?_) (fun hb => absurd (hb.symm.trans (show (true) = true from rfl)) (by decide))
                    refine at_seq (j := 21) (by kernel_rfl) ?_
                    refine at_region (id := 6) (by kernel_rfl) ?_
                    refine atR_seg (m := 2) (H := []) (ts := [10, 11]) (L' := [(10, .slice none 0 0), (11, .int .i64 11)]) (O := fun w => True) hs (by kernel_rfl) trivial ?_
                    clear hs a; intro a hs
                    refine atR_end (by kernel_rfl) ?_
                    refine wayN_node rfl ?_
                    refine at_ret (by kernel_rfl) ?_
                    refine at_end (vs := [.slice none 0 0, .int .i64 11]) (H := []) (v := .tuple #[.slice none 0 0, .int .i64 11]) (O := fun w => True) hs (by kernel_rfl) rfl trivial ?_
                    exact ⟨by rw [show boreErr (⟨num, kind, rad, flu, hol, stp, fd, plu⟩ : Tl) x y radius top depth = 11 from by (unfold boreErr outB; dsimp only; (rw [hgood, cd1b, cd2b, cd3b, cd4b, cd5b, cd6b, cd7b, cd8b, cd9b]) <;> rfl)], hB⟩
                  · replace hs := hs.know (t := 67) rfl hb
                    have cd9 := hb; have cd9b := hb; clear hb
                    replace hs := hs.pick (ts := [1, 2, 3, 5, 9, 67]) (L' := [(1, .int .i64 radius), (2, .int .i64 top), (3, .int .i64 depth), (5, .pointer (some ⟨b1, 0, none⟩)), (9, .pointer (some ⟨b2, 0, none⟩)), (67, .bool false)]) (by kernel_rfl)
                    refine atR_seg (m := 1) (H := []) (ts := [1, 2, 3, 5, 9, 67, 68]) (L' := [(1, .int .i64 radius), (2, .int .i64 top), (3, .int .i64 depth), (5, .pointer (some ⟨b1, 0, none⟩)), (9, .pointer (some ⟨b2, 0, none⟩)), (67, .bool false), (68, .int .i64 depth)]) (O := fun w => True) hs (by kernel_rfl) trivial ?_
                    clear hs a; intro a hs
                    refine atR_op hs (by kernel_rfl) (call1 (f := 27) (args := #[.int .i64 depth]) [1, 2, 3, 5, 9, 67, 69] (fun rv_ => [(1, .int .i64 radius), (2, .int .i64 top), (3, .int .i64 depth), (5, .pointer (some ⟨b1, 0, none⟩)), (9, .pointer (some ⟨b2, 0, none⟩)), (67, .bool false), (69, rv_)]) hs (by kernel_rfl) (fun _ => by kernel_rfl) ?_)
                    refine (inside_any _ _).mono ?_
                    rintro e w' ⟨rfl, rfl⟩
                    refine ⟨_, rfl, ?_⟩
                    clear hs a; intro a hs
                    refine atR_seg (m := 3) (H := []) (ts := [1, 2, 3, 5, 9, 51]) (L' := [(1, .int .i64 radius), (2, .int .i64 top), (3, .int .i64 depth), (5, .pointer (some ⟨b1, 0, none⟩)), (9, .pointer (some ⟨b2, 0, none⟩)), (51, .bool (!(insB depth)))]) (O := fun w => True) hs (by kernel_rfl) trivial ?_
                    clear hs a; intro a hs
                    refine atR_end (by kernel_rfl) ?_
                    refine wayN_node rfl ?_
                    refine at_cond (t := 51) (j1 := 19) (j2 := 22) (b := !(insB depth)) (by kernel_rfl) hs rfl (fun hb => ?_) (fun hb => ?_)
                    · have cd10 := hb; have cd10b := hb; clear hb
                      refine at_seq (j := 21) (by kernel_rfl) ?_
                      refine at_region (id := 6) (by kernel_rfl) ?_
                      refine atR_seg (m := 2) (H := []) (ts := [10, 11]) (L' := [(10, .slice none 0 0), (11, .int .i64 11)]) (O := fun w => True) hs (by kernel_rfl) trivial ?_
                      clear hs a; intro a hs
                      refine atR_end (by kernel_rfl) ?_
                      refine wayN_node rfl ?_
                      refine at_ret (by kernel_rfl) ?_
                      refine at_end (vs := [.slice none 0 0, .int .i64 11]) (H := []) (v := .tuple #[.slice none 0 0, .int .i64 11]) (O := fun w => True) hs (by kernel_rfl) rfl trivial ?_
                      exact ⟨by rw [show boreErr (⟨num, kind, rad, flu, hol, stp, fd, plu⟩ : Tl) x y radius top depth = 11 from by (unfold boreErr outB; dsimp only; (rw [hgood, cd1b, cd2b, cd3b, cd4b, cd5b, cd6b, cd7b, cd8b, cd9b, cd10b]) <;> rfl)], hB⟩
                    · have cd10 := hb; have cd10b := hb; clear hb
                      have hdd := insB_t (show insB depth = true from by simpa using cd10)
                      refine at_skip (by kernel_rfl) ?_
                      refine wayN_node rfl ?_
                      refine at_seq (j := 25) (by kernel_rfl) ?_
                      refine at_region (id := 7) (by kernel_rfl) ?_
                      refine atR_seg (m := 5) (H := [(2, none, [.int .i64 rad]), (3, some (.int .i64 (radius - rad)), [])]) (ts := [2, 3, 5, 9, 12]) (L' := [(2, .int .i64 top), (3, .int .i64 depth), (5, .pointer (some ⟨b1, 0, none⟩)), (9, .pointer (some ⟨b2, 0, none⟩)), (12, .int .i64 (radius - rad))]) (O := fun w => (w.cell? ⟨b2, 2, none⟩ = some (.int .i64 rad)) ∧ (W .i64 (radius - rad)) ∧ True) hs (by kernel_rfl) ⟨B2.cell 2 rfl, w64 (by omega) (by omega), trivial⟩ ?_
                      clear hs a; intro a hs
                      refine atR_end (by kernel_rfl) ?_
                      refine wayN_node rfl ?_
                      refine at_seq (j := 33) (by kernel_rfl) ?_
                      refine at_seq (j := 28) (by kernel_rfl) ?_
                      refine at_region (id := 8) (by kernel_rfl) ?_
                      refine atR_seg (m := 4) (H := [(1, none, [.int .i64 x]), (3, some (.int .i64 (x + (radius - rad))), [])]) (ts := [2, 3, 5, 9, 12, 79]) (L' := [(2, .int .i64 top), (3, .int .i64 depth), (5, .pointer (some ⟨b1, 0, none⟩)), (9, .pointer (some ⟨b2, 0, none⟩)), (12, .int .i64 (radius - rad)), (79, .int .i64 (x + (radius - rad)))]) (O := fun w => (w.cell? ⟨b1, 0, none⟩ = some (.int .i64 x)) ∧ (W .i64 (x + (radius - rad))) ∧ True) hs (by kernel_rfl) ⟨B1.cell 0 rfl, w64 (by omega) (by omega), trivial⟩ ?_
                      clear hs a; intro a hs
                      refine atR_op hs (by kernel_rfl) (call1 (f := 27) (args := #[.int .i64 (x + (radius - rad))]) [2, 3, 5, 9, 12, 80] (fun rv_ => [(2, .int .i64 top), (3, .int .i64 depth), (5, .pointer (some ⟨b1, 0, none⟩)), (9, .pointer (some ⟨b2, 0, none⟩)), (12, .int .i64 (radius - rad)), (80, rv_)]) hs (by kernel_rfl) (fun _ => by kernel_rfl) ?_)
                      refine (inside_any _ _).mono ?_
                      rintro e w' ⟨rfl, rfl⟩
                      refine ⟨_, rfl, ?_⟩
                      clear hs a; intro a hs
                      refine atR_seg (m := 2) (H := []) (ts := [2, 3, 5, 9, 12, 82]) (L' := [(2, .int .i64 top), (3, .int .i64 depth), (5, .pointer (some ⟨b1, 0, none⟩)), (9, .pointer (some ⟨b2, 0, none⟩)), (12, .int .i64 (radius - rad)), (82, .bool (!(insB (x + (radius - rad)))))]) (O := fun w => True) hs (by kernel_rfl) trivial ?_
                      clear hs a; intro a hs
                      rcases Bool.eq_false_or_eq_true (!(insB (x + (radius - rad)))) with hb | hb
                      · replace hs := hs.know (t := 82) rfl hb
                        have cd11 := hb; have cd11b := hb; clear hb
                        replace hs := hs.pick (ts := [2, 3, 5, 9, 12, 82]) (L' := [(2, .int .i64 top), (3, .int .i64 depth), (5, .pointer (some ⟨b1, 0, none⟩)), (9, .pointer (some ⟨b2, 0, none⟩)), (12, .int .i64 (radius - rad)), (82, .bool true)]) (by kernel_rfl)
                        refine atR_seg (m := 23) (H := []) (ts := [2, 3, 5, 9, 12, 105]) (L' := [(2, .int .i64 top), (3, .int .i64 depth), (5, .pointer (some ⟨b1, 0, none⟩)), (9, .pointer (some ⟨b2, 0, none⟩)), (12, .int .i64 (radius - rad)), (105, .bool true)]) (O := fun w => True) hs (by kernel_rfl) trivial ?_
                        clear hs a; intro a hs
                        refine atR_end (by kernel_rfl) ?_
                        refine wayN_node rfl ?_
                        refine at_cond (t := 105) (j1 := 29) (j2 := 32) (b := true) (by kernel_rfl) hs rfl (fun _ => ?_) (fun hb => absurd (hb.symm.trans (show (true) = true from rfl)) (by decide))
                        refine at_seq (j := 31) (by kernel_rfl) ?_
                        refine at_region (id := 9) (by kernel_rfl) ?_
                        refine atR_seg (m := 2) (H := []) (ts := [10, 11]) (L' := [(10, .slice none 0 0), (11, .int .i64 11)]) (O := fun w => True) hs (by kernel_rfl) trivial ?_
                        clear hs a; intro a hs
                        refine atR_end (by kernel_rfl) ?_
                        refine wayN_node rfl ?_
                        refine at_ret (by kernel_rfl) ?_
                        refine at_end (vs := [.slice none 0 0, .int .i64 11]) (H := []) (v := .tuple #[.slice none 0 0, .int .i64 11]) (O := fun w => True) hs (by kernel_rfl) rfl trivial ?_
                        exact ⟨by rw [show boreErr (⟨num, kind, rad, flu, hol, stp, fd, plu⟩ : Tl) x y radius top depth = 11 from by (unfold boreErr outB; dsimp only; (rw [hgood, cd1b, cd2b, cd3b, cd4b, cd5b, cd6b, cd7b, cd8b, cd9b, cd10b, cd11b]) <;> rfl)], hB⟩
                      · replace hs := hs.know (t := 82) rfl hb
                        have cd11 := hb; have cd11b := hb; clear hb
                        replace hs := hs.pick (ts := [2, 3, 5, 9, 12, 82]) (L' := [(2, .int .i64 top), (3, .int .i64 depth), (5, .pointer (some ⟨b1, 0, none⟩)), (9, .pointer (some ⟨b2, 0, none⟩)), (12, .int .i64 (radius - rad)), (82, .bool false)]) (by kernel_rfl)
                        refine atR_seg (m := 4) (H := [(8, none, [.int .i64 x]), (10, some (.int .i64 (x - (radius - rad))), [])]) (ts := [2, 3, 5, 9, 12, 82, 86]) (L' := [(2, .int .i64 top), (3, .int .i64 depth), (5, .pointer (some ⟨b1, 0, none⟩)), (9, .pointer (some ⟨b2, 0, none⟩)), (12, .int .i64 (radius - rad)), (82, .bool false), (86, .int .i64 (x - (radius - rad)))]) (O := fun w => (w.cell? ⟨b1, 0, none⟩ = some (.int .i64 x)) ∧ (W .i64 (x - (radius - rad))) ∧ True) hs (by kernel_rfl) ⟨B1.cell 0 rfl, w64 (by omega) (by omega), trivial⟩ ?_
                        clear hs a; intro a hs
                        refine atR_op hs (by kernel_rfl) (call1 (f := 27) (args := #[.int .i64 (x - (radius - rad))]) [2, 3, 5, 9, 12, 82, 87] (fun rv_ => [(2, .int .i64 top), (3, .int .i64 depth), (5, .pointer (some ⟨b1, 0, none⟩)), (9, .pointer (some ⟨b2, 0, none⟩)), (12, .int .i64 (radius - rad)), (82, .bool false), (87, rv_)]) hs (by kernel_rfl) (fun _ => by kernel_rfl) ?_)
                        refine (inside_any _ _).mono ?_
                        rintro e w' ⟨rfl, rfl⟩
                        refine ⟨_, rfl, ?_⟩
                        clear hs a; intro a hs
                        refine atR_seg (m := 3) (H := []) (ts := [2, 3, 5, 9, 12, 90]) (L' := [(2, .int .i64 top), (3, .int .i64 depth), (5, .pointer (some ⟨b1, 0, none⟩)), (9, .pointer (some ⟨b2, 0, none⟩)), (12, .int .i64 (radius - rad)), (90, .bool (!(insB (x - (radius - rad)))))]) (O := fun w => True) hs (by kernel_rfl) trivial ?_
                        clear hs a; intro a hs
                        rcases Bool.eq_false_or_eq_true (!(insB (x - (radius - rad)))) with hb | hb
                        · replace hs := hs.know (t := 90) rfl hb
                          have cd12 := hb; have cd12b := hb; clear hb
                          replace hs := hs.pick (ts := [2, 3, 5, 9, 12, 90]) (L' := [(2, .int .i64 top), (3, .int .i64 depth), (5, .pointer (some ⟨b1, 0, none⟩)), (9, .pointer (some ⟨b2, 0, none⟩)), (12, .int .i64 (radius - rad)), (90, .bool true)]) (by kernel_rfl)
                          refine atR_seg (m := 15) (H := []) (ts := [2, 3, 5, 9, 12, 105]) (L' := [(2, .int .i64 top), (3, .int .i64 depth), (5, .pointer (some ⟨b1, 0, none⟩)), (9, .pointer (some ⟨b2, 0, none⟩)), (12, .int .i64 (radius - rad)), (105, .bool true)]) (O := fun w => True) hs (by kernel_rfl) trivial ?_
                          clear hs a; intro a hs
                          refine atR_end (by kernel_rfl) ?_
                          refine wayN_node rfl ?_
                          refine at_cond (t := 105) (j1 := 29) (j2 := 32) (b := true) (by kernel_rfl) hs rfl (fun _ => ?_) (fun hb => absurd (hb.symm.trans (show (true) = true from rfl)) (by decide))
                          refine at_seq (j := 31) (by kernel_rfl) ?_
                          refine at_region (id := 9) (by kernel_rfl) ?_
                          refine atR_seg (m := 2) (H := []) (ts := [10, 11]) (L' := [(10, .slice none 0 0), (11, .int .i64 11)]) (O := fun w => True) hs (by kernel_rfl) trivial ?_
                          clear hs a; intro a hs
                          refine atR_end (by kernel_rfl) ?_
                          refine wayN_node rfl ?_
                          refine at_ret (by kernel_rfl) ?_
                          refine at_end (vs := [.slice none 0 0, .int .i64 11]) (H := []) (v := .tuple #[.slice none 0 0, .int .i64 11]) (O := fun w => True) hs (by kernel_rfl) rfl trivial ?_
                          exact ⟨by rw [show boreErr (⟨num, kind, rad, flu, hol, stp, fd, plu⟩ : Tl) x y radius top depth = 11 from by (unfold boreErr outB; dsimp only; (rw [hgood, cd1b, cd2b, cd3b, cd4b, cd5b, cd6b, cd7b, cd8b, cd9b, cd10b, cd11b, cd12b]) <;> rfl)], hB⟩
                        · replace hs := hs.know (t := 90) rfl hb
                          have cd12 := hb; have cd12b := hb; clear hb
                          replace hs := hs.pick (ts := [2, 3, 5, 9, 12, 90]) (L' := [(2, .int .i64 top), (3, .int .i64 depth), (5, .pointer (some ⟨b1, 0, none⟩)), (9, .pointer (some ⟨b2, 0, none⟩)), (12, .int .i64 (radius - rad)), (90, .bool false)]) (by kernel_rfl)
                          refine atR_seg (m := 4) (H := [(16, none, [.int .i64 y]), (18, some (.int .i64 (y + (radius - rad))), [])]) (ts := [2, 3, 5, 9, 12, 90, 94]) (L' := [(2, .int .i64 top), (3, .int .i64 depth), (5, .pointer (some ⟨b1, 0, none⟩)), (9, .pointer (some ⟨b2, 0, none⟩)), (12, .int .i64 (radius - rad)), (90, .bool false), (94, .int .i64 (y + (radius - rad)))]) (O := fun w => (w.cell? ⟨b1, 1, none⟩ = some (.int .i64 y)) ∧ (W .i64 (y + (radius - rad))) ∧ True) hs (by kernel_rfl) ⟨B1.cell 1 rfl, w64 (by omega) (by omega), trivial⟩ ?_
                          clear hs a; intro a hs
                          refine atR_op hs (by kernel_rfl) (call1 (f := 27) (args := #[.int .i64 (y + (radius - rad))]) [2, 3, 5, 9, 12, 90, 95] (fun rv_ => [(2, .int .i64 top), (3, .int .i64 depth), (5, .pointer (some ⟨b1, 0, none⟩)), (9, .pointer (some ⟨b2, 0, none⟩)), (12, .int .i64 (radius - rad)), (90, .bool false), (95, rv_)]) hs (by kernel_rfl) (fun _ => by kernel_rfl) ?_)
                          refine (inside_any _ _).mono ?_
                          rintro e w' ⟨rfl, rfl⟩
                          refine ⟨_, rfl, ?_⟩
                          clear hs a; intro a hs
                          refine atR_seg (m := 3) (H := []) (ts := [2, 3, 5, 9, 12, 98]) (L' := [(2, .int .i64 top), (3, .int .i64 depth), (5, .pointer (some ⟨b1, 0, none⟩)), (9, .pointer (some ⟨b2, 0, none⟩)), (12, .int .i64 (radius - rad)), (98, .bool (!(insB (y + (radius - rad)))))]) (O := fun w => True) hs (by kernel_rfl) trivial ?_
                          clear hs a; intro a hs
                          rcases Bool.eq_false_or_eq_true (!(insB (y + (radius - rad)))) with hb | hb
                          · replace hs := hs.know (t := 98) rfl hb
                            have cd13 := hb; have cd13b := hb; clear hb
                            replace hs := hs.pick (ts := [2, 3, 5, 9, 12, 98]) (L' := [(2, .int .i64 top), (3, .int .i64 depth), (5, .pointer (some ⟨b1, 0, none⟩)), (9, .pointer (some ⟨b2, 0, none⟩)), (12, .int .i64 (radius - rad)), (98, .bool true)]) (by kernel_rfl)
                            refine atR_seg (m := 7) (H := []) (ts := [2, 3, 5, 9, 12, 105]) (L' := [(2, .int .i64 top), (3, .int .i64 depth), (5, .pointer (some ⟨b1, 0, none⟩)), (9, .pointer (some ⟨b2, 0, none⟩)), (12, .int .i64 (radius - rad)), (105, .bool true)]) (O := fun w => True) hs (by kernel_rfl) trivial ?_
                            clear hs a; intro a hs
                            refine atR_end (by kernel_rfl) ?_
                            refine wayN_node rfl ?_
                            refine at_cond (t := 105) (j1 := 29) (j2 := 32) (b := true) (by kernel_rfl) hs rfl (fun _ => ?_) (fun hb => absurd (hb.symm.trans (show (true) = true from rfl)) (by decide))
                            refine at_seq (j := 31) (by kernel_rfl) ?_
                            refine at_region (id := 9) (by kernel_rfl) ?_
                            refine atR_seg (m := 2) (H := []) (ts := [10, 11]) (L' := [(10, .slice none 0 0), (11, .int .i64 11)]) (O := fun w => True) hs (by kernel_rfl) trivial ?_
                            clear hs a; intro a hs
                            refine atR_end (by kernel_rfl) ?_
                            refine wayN_node rfl ?_
                            refine at_ret (by kernel_rfl) ?_
                            refine at_end (vs := [.slice none 0 0, .int .i64 11]) (H := []) (v := .tuple #[.slice none 0 0, .int .i64 11]) (O := fun w => True) hs (by kernel_rfl) rfl trivial ?_
                            exact ⟨by rw [show boreErr (⟨num, kind, rad, flu, hol, stp, fd, plu⟩ : Tl) x y radius top depth = 11 from by (unfold boreErr outB; dsimp only; (rw [hgood, cd1b, cd2b, cd3b, cd4b, cd5b, cd6b, cd7b, cd8b, cd9b, cd10b, cd11b, cd12b, cd13b]) <;> rfl)], hB⟩
                          · replace hs := hs.know (t := 98) rfl hb
                            have cd13 := hb; have cd13b := hb; clear hb
                            replace hs := hs.pick (ts := [2, 3, 5, 9, 12, 98]) (L' := [(2, .int .i64 top), (3, .int .i64 depth), (5, .pointer (some ⟨b1, 0, none⟩)), (9, .pointer (some ⟨b2, 0, none⟩)), (12, .int .i64 (radius - rad)), (98, .bool false)]) (by kernel_rfl)
                            refine atR_seg (m := 4) (H := [(24, none, [.int .i64 y]), (26, some (.int .i64 (y - (radius - rad))), [])]) (ts := [2, 3, 5, 9, 12, 98, 102]) (L' := [(2, .int .i64 top), (3, .int .i64 depth), (5, .pointer (some ⟨b1, 0, none⟩)), (9, .pointer (some ⟨b2, 0, none⟩)), (12, .int .i64 (radius - rad)), (98, .bool false), (102, .int .i64 (y - (radius - rad)))]) (O := fun w => (w.cell? ⟨b1, 1, none⟩ = some (.int .i64 y)) ∧ (W .i64 (y - (radius - rad))) ∧ True) hs (by kernel_rfl) ⟨B1.cell 1 rfl, w64 (by omega) (by omega), trivial⟩ ?_
                            clear hs a; intro a hs
                            refine atR_op hs (by kernel_rfl) (call1 (f := 27) (args := #[.int .i64 (y - (radius - rad))]) [2, 3, 5, 9, 12, 98, 103] (fun rv_ => [(2, .int .i64 top), (3, .int .i64 depth), (5, .pointer (some ⟨b1, 0, none⟩)), (9, .pointer (some ⟨b2, 0, none⟩)), (12, .int .i64 (radius - rad)), (98, .bool false), (103, rv_)]) hs (by kernel_rfl) (fun _ => by kernel_rfl) ?_)
                            refine (inside_any _ _).mono ?_
                            rintro e w' ⟨rfl, rfl⟩
                            refine ⟨_, rfl, ?_⟩
                            clear hs a; intro a hs
                            refine atR_seg (m := 2) (H := []) (ts := [2, 3, 5, 9, 12, 105]) (L' := [(2, .int .i64 top), (3, .int .i64 depth), (5, .pointer (some ⟨b1, 0, none⟩)), (9, .pointer (some ⟨b2, 0, none⟩)), (12, .int .i64 (radius - rad)), (105, .bool (!(insB (y - (radius - rad)))))]) (O := fun w => True) hs (by kernel_rfl) trivial ?_
                            clear hs a; intro a hs
                            refine atR_end (by kernel_rfl) ?_
                            refine wayN_node rfl ?_
                            refine at_cond (t := 105) (j1 := 29) (j2 := 32) (b := !(insB (y - (radius - rad)))) (by kernel_rfl) hs rfl (fun hb => ?_) (fun hb => ?_)
                            · have cd14 := hb; have cd14b := hb; clear hb
                              refine at_seq (j := 31) (by kernel_rfl) ?_
                              refine at_region (id := 9) (by kernel_rfl) ?_
                              refine atR_seg (m := 2) (H := []) (ts := [10, 11]) (L' := [(10, .slice none 0 0), (11, .int .i64 11)]) (O := fun w => True) hs (by kernel_rfl) trivial ?_
                              clear hs a; intro a hs
                              refine atR_end (by kernel_rfl) ?_
                              refine wayN_node rfl ?_
                              refine at_ret (by kernel_rfl) ?_
                              refine at_end (vs := [.slice none 0 0, .int .i64 11]) (H := []) (v := .tuple #[.slice none 0 0, .int .i64 11]) (O := fun w => True) hs (by kernel_rfl) rfl trivial ?_
                              exact ⟨by rw [show boreErr (⟨num, kind, rad, flu, hol, stp, fd, plu⟩ : Tl) x y radius top depth = 11 from by (unfold boreErr outB; dsimp only; (rw [hgood, cd1b, cd2b, cd3b, cd4b, cd5b, cd6b, cd7b, cd8b, cd9b, cd10b, cd11b, cd12b, cd13b, cd14b]) <;> rfl)], hB⟩
                            · have cd14 := hb; have cd14b := hb; clear hb
                              have hq1 : 0 ≤ (depth + stp - 1) / stp := Int.ediv_nonneg (by omega) (by omega)
                              have hq2 : (depth + stp - 1) / stp ≤ depth + stp - 1 := Int.ediv_le_self _ (by omega)
                              refine at_skip (by kernel_rfl) ?_
                              refine wayN_node rfl ?_
                              refine at_seq (j := 35) (by kernel_rfl) ?_
                              refine at_region (id := 10) (by kernel_rfl) ?_
                              refine atR_seg (m := 9) (H := [(2, none, [.int .i64 stp]), (3, some (.int .i64 (depth + stp)), []), (4, some (.int .i64 (depth + stp - 1)), []), (6, none, [.int .i64 stp]), (7, some (.int .i64 ((depth + stp - 1) / stp)), [])]) (ts := [2, 3, 5, 9, 12, 13]) (L' := [(2, .int .i64 top), (3, .int .i64 depth), (5, .pointer (some ⟨b1, 0, none⟩)), (9, .pointer (some ⟨b2, 0, none⟩)), (12, .int .i64 (radius - rad)), (13, .int .i64 ((depth + stp - 1) / stp))]) (O := fun w => (w.cell? ⟨b2, 5, none⟩ = some (.int .i64 stp)) ∧ (W .i64 (depth + stp)) ∧ (W .i64 (depth + stp - 1)) ∧ (w.cell? ⟨b2, 5, none⟩ = some (.int .i64 stp)) ∧ (Wq (depth + stp - 1) stp) ∧ (stp ≠ 0) ∧ True) hs (by kernel_rfl) ⟨B2.cell 5 rfl, w64 (by omega) (by omega), w64 (by omega) (by omega), B2.cell 5 rfl, wq (by omega) (by omega) (by omega), by omega, trivial⟩ ?_
                              clear hs a; intro a hs
                              refine atR_end (by kernel_rfl) ?_
                              refine wayN_node rfl ?_
                              refine at_seq (j := 43) (by kernel_rfl) ?_
                              refine at_seq (j := 38) (by kernel_rfl) ?_
                              refine at_region (id := 11) (by kernel_rfl) ?_
                              refine atR_seg (m := 4) (H := [(1, some (.int .i64 (4 * ((depth + stp - 1) / stp))), []), (2, some (.int .i64 (4 * ((depth + stp - 1) / stp) + 4)), [])]) (ts := [2, 3, 5, 9, 12, 13, 117]) (L' := [(2, .int .i64 top), (3, .int .i64 depth), (5, .pointer (some ⟨b1, 0, none⟩)), (9, .pointer (some ⟨b2, 0, none⟩)), (12, .int .i64 (radius - rad)), (13, .int .i64 ((depth + stp - 1) / stp)), (117, .bool (decide (4 * ((depth + stp - 1) / stp) + 4 > 20000)))]) (O := fun w => (W .i64 (4 * ((depth + stp - 1) / stp))) ∧ (W .i64 (4 * ((depth + stp - 1) / stp) + 4)) ∧ True) hs (by kernel_rfl) ⟨w64 (by omega) (by omega), w64 (by omega) (by omega), trivial⟩ ?_
                              clear hs a; intro a hs
                              refine atR_end (by kernel_rfl) ?_
                              refine wayN_node rfl ?_
                              refine at_cond (t := 117) (j1 := 39) (j2 := 42) (b := decide (4 * ((depth + stp - 1) / stp) + 4 > 20000)) (by kernel_rfl) hs rfl (fun hb => ?_) (fun hb => ?_)
                              · have cd15 := hb; have cd15b := hb; clear hb
                                replace cd15 := of_decide_eq_true cd15
                                refine at_seq (j := 41) (by kernel_rfl) ?_
                                refine at_region (id := 12) (by kernel_rfl) ?_
                                refine atR_seg (m := 2) (H := []) (ts := [10, 11]) (L' := [(10, .slice none 0 0), (11, .int .i64 3)]) (O := fun w => True) hs (by kernel_rfl) trivial ?_
                                clear hs a; intro a hs
                                refine atR_end (by kernel_rfl) ?_
                                refine wayN_node rfl ?_
                                refine at_ret (by kernel_rfl) ?_
                                refine at_end (vs := [.slice none 0 0, .int .i64 3]) (H := []) (v := .tuple #[.slice none 0 0, .int .i64 3]) (O := fun w => True) hs (by kernel_rfl) rfl trivial ?_
                                exact ⟨by rw [show boreErr (⟨num, kind, rad, flu, hol, stp, fd, plu⟩ : Tl) x y radius top depth = 3 from by (unfold boreErr outB; dsimp only; (rw [hgood, cd1b, cd2b, cd3b, cd4b, cd5b, cd6b, cd7b, cd8b, cd9b, cd10b, cd11b, cd12b, cd13b, cd14b, cd15b]) <;> rfl)], hB⟩
                              · have cd15 := hb; have cd15b := hb; clear hb
                                replace cd15 := of_decide_eq_false cd15
                                refine at_skip (by kernel_rfl) ?_
                                refine wayN_node rfl ?_
                                refine at_seq (j := 45) (by kernel_rfl) ?_
                                exact absurd (show boreErr (⟨num, kind, rad, flu, hol, stp, fd, plu⟩ : Tl) x y radius top depth = 0 from by (unfold boreErr outB; dsimp only; (rw [hgood, cd1b, cd2b, cd3b, cd4b, cd5b, cd6b, cd7b, cd8b, cd9b, cd10b, cd11b, cd12b, cd13b, cd14b, cd15b]) <;> rfl)) hne
end Go.Proofs.YtpiabmjipgfjjaaDoor
