/- Peck, the program's and the reference's, in every case. -/
import Derived.Test.YtpiabmjipgfjjaaDoorLawPecks
import Derived.Test.YtpiabmjipgfjjaaDoorEng6
namespace Go.Proofs.YtpiabmjipgfjjaaDoor
open Go.RowKit
def peckErr (t : Tl) (x y top depth peck : Int) : Int :=
  if !t.good || t.kind != 2 || decide (top < 0) || decide (depth < 1) || decide (peck < 1) then 1
  else if decide (t.flu < depth) then 16
  else if !insB x || !insB y || !insB top || !insB depth then 11
  else pkErr depth peck
def pkF (x y top plu d : Int) : List Mv := [⟨2, x, y, -d, 0, 0, plu⟩, ⟨1, x, y, top, 0, 0, 0⟩]
/-- The moves of Peck: none where there is an error. -/
def peckR (t : Tl) (x y top depth peck : Int) : List Mv :=
  if peckErr t x y top depth peck = 0 then (pkList depth peck).flatMap (pkF x y top t.plu) else []
def PeckPost (t : Tl) (x y top depth peck : Int) (w : World) (e : Ending) (w' : World) : Prop :=
  ∃ v, e = .returned (.tuple #[v, .int .i64 (peckErr t x y top depth peck)]) ∧ Rd w' 7 v (peckR t x y top depth peck).length ((peckR t x y top depth peck).flatMap Mv.cs) ∧ Below w.heap.size w w'
theorem peck_no {t : Tl} {x y top depth peck : Int} {w w' : World} {e : Int} (h : peckErr t x y top depth peck = e) (he : e ≠ 0) (hB : Below w.heap.size w w') :
    PeckPost t x y top depth peck w (.returned (.tuple #[.slice none 0 0, .int .i64 e])) w' :=
  ⟨_, by rw [h], by rw [peckR, if_neg (by rw [h]; exact he)]; exact Rd.nil _ _, hB⟩
def peckCs (l : List Int) (x y top plu : Int) (k : Nat) : List Value := ((l.take k).flatMap (pkF x y top plu)).flatMap Mv.cs
theorem peckCs_succ {l : List Int} {x y top plu d : Int} {k : Nat} (h : l[k]? = some d) : peckCs l x y top plu (k + 1) = peckCs l x y top plu k ++ [.int .i64 2, .int .i64 x, .int .i64 y, .int .i64 (-d), .int .i64 0, .int .i64 0, .int .i64 plu, .int .i64 1, .int .i64 x, .int .i64 y, .int .i64 top, .int .i64 0, .int .i64 0, .int .i64 0] := by
  unfold peckCs
  rw [List.take_add_one, h, List.flatMap_append, List.flatMap_append]
  rfl
theorem flatMap_pkF_len (l : List Int) (x y top plu : Int) : (l.flatMap (pkF x y top plu)).length = 2 * l.length := by
  induction l with
  | nil => rfl
  | cons a l ih => rw [List.flatMap_cons, List.length_append, ih, List.length_cons]; simp only [pkF, List.length_cons, List.length_nil]; omega
theorem peck_yes {t : Tl} {x y top depth peck : Int} {w w' : World} {v : Value} {n : Nat} (h : peckErr t x y top depth peck = 0) (hl : (pkList depth peck).length = n) (hr : Rd w' 7 v (2 * n) (peckCs (pkList depth peck) x y top t.plu n)) (hB : Below w.heap.size w w') :
    PeckPost t x y top depth peck w (.returned (.tuple #[v, .int .i64 0])) w' := by
  refine ⟨v, by rw [h], ?_, hB⟩
  rw [peckR, if_pos h, flatMap_pkF_len, hl]
  unfold peckCs at hr
  rwa [List.take_of_length_le (Nat.le_of_eq hl)] at hr
theorem pkList_len (depth peck : Int) : (pkList depth peck).length ≤ 1000 := by
  by_cases h : pkErr depth peck = 0
  · have hc : ¬ (depth < 1 ∨ peck < 1) ∧ ¬ 1000 ≤ (depth - 1) / peck := by
      unfold pkErr at h
      split at h
      · simp at h
      · split at h
        · simp at h
        · exact ⟨by assumption, by assumption⟩
    obtain ⟨_, e1, e2, e3, e4, e5⟩ := pk_ok (depth := depth) (peck := peck) (by omega) (by omega) (by omega)
    omega
  · unfold pkList; rw [if_neg h]; simp
noncomputable def body19 : Code := Tryd.f19.body.getD .skip
set_option maxHeartbeats 2000000 in
theorem peck_bad (x y top depth peck num kind rad flu hol stp fd plu : Int) (w : World) (h1 : -9223372036854775808 ≤ depth) (h2 : depth ≤ 9223372036854775807) (h3 : -9223372036854775808 ≤ peck) (h4 : peck ≤ 9223372036854775807) (HN : Nms w) (HK : (⟨num, kind, rad, flu, hol, stp, fd, plu⟩ : Tl).ok) (hgood : (⟨num, kind, rad, flu, hol, stp, fd, plu⟩ : Tl).good = false) :
    Calls Tryd.prog 19 #[.agg #[.int .i64 x, .int .i64 y], .int .i64 top, .int .i64 depth, .int .i64 peck, (⟨num, kind, rad, flu, hol, stp, fd, plu⟩ : Tl).v] w (PeckPost (⟨num, kind, rad, flu, hol, stp, fd, plu⟩ : Tl) x y top depth peck w) := by
  obtain ⟨n, hln⟩ : ∃ n, (pkList depth peck).length = n := ⟨_, rfl⟩
  have hn1000 : n ≤ 1000 := by rw [← hln]; exact pkList_len _ _
  have hB : Below w.heap.size w w := Below.refl _ _
  refine enter (B := body19) (args := [.agg #[.int .i64 x, .int .i64 y], .int .i64 top, .int .i64 depth, .int .i64 peck, .agg #[.int .i64 num, .int .i64 kind, .int .i64 rad, .int .i64 flu, .int .i64 hol, .int .i64 stp, .int .i64 fd, .int .i64 plu]]) Tryd.func19 (by kernel_rfl) (by kernel_rfl) ?_
  rw [show Tryd.f19.ntmps = 101 from by kernel_rfl]
  intro a hs
  replace hs := hs.pick (ts := [0, 1, 2, 3, 4]) (L' := [(0, .agg #[.int .i64 x, .int .i64 y]), (1, .int .i64 top), (2, .int .i64 depth), (3, .int .i64 peck), (4, .agg #[.int .i64 num, .int .i64 kind, .int .i64 rad, .int .i64 flu, .int .i64 hol, .int .i64 stp, .int .i64 fd, .int .i64 plu])]) (by kernel_rfl)
  refine at_seq (j := 2) (by kernel_rfl) ?_
  refine at_region (id := 0) (by kernel_rfl) ?_
  refine atR_op hs (by kernel_rfl) (new1 (t := 30) (cs := #[.int .i64 x, .int .i64 y]) (fun rb_ => .pointer (some ⟨rb_, 0, none⟩)) [1, 2, 3, 4, 5] (fun rb_ => [(1, .int .i64 top), (2, .int .i64 depth), (3, .int .i64 peck), (4, .agg #[.int .i64 num, .int .i64 kind, .int .i64 rad, .int .i64 flu, .int .i64 hol, .int .i64 stp, .int .i64 fd, .int .i64 plu]), (5, .pointer (some ⟨rb_, 0, none⟩))]) hs (fun _ => by kernel_rfl) (fun _ => by kernel_rfl) ?_)
  clear hs a; intro a w1 b1 hn hs
  have B1 := hn.blk
  have l1 : w.heap.size ≤ b1 := by rw [hn.at_]; exact hB.size
  replace hB := later hB hn.below
  clear hn
  refine atR_op hs (by kernel_rfl) (new1 (t := 33) (cs := #[.int .i64 num, .int .i64 kind, .int .i64 rad, .int .i64 flu, .int .i64 hol, .int .i64 stp, .int .i64 fd, .int .i64 plu]) (fun rb_ => .pointer (some ⟨rb_, 0, none⟩)) [1, 2, 3, 5, 9] (fun rb_ => [(1, .int .i64 top), (2, .int .i64 depth), (3, .int .i64 peck), (5, .pointer (some ⟨b1, 0, none⟩)), (9, .pointer (some ⟨rb_, 0, none⟩))]) hs (fun _ => by kernel_rfl) (fun _ => by kernel_rfl) ?_)
  clear hs a; intro a w2 b2 hn hs
  have B2 := hn.blk
  have l2 : w.heap.size ≤ b2 := by rw [hn.at_]; exact hB.size
  have l2' : b1 < b2 := by rw [hn.at_]; exact B1.lt
  replace B1 := B1.below hn.below B1.lt
  replace hB := later hB hn.below
  clear hn
  refine atR_seg (m := 2) (H := []) (ts := [1, 2, 3, 5, 9]) (L' := [(1, .int .i64 top), (2, .int .i64 depth), (3, .int .i64 peck), (5, .pointer (some ⟨b1, 0, none⟩)), (9, .pointer (some ⟨b2, 0, none⟩))]) (O := fun w => True) hs (by kernel_rfl) trivial ?_
  clear hs a; intro a hs
  refine atR_end (by kernel_rfl) ?_
  refine wayN_node rfl ?_
  refine at_seq (j := 23) (by kernel_rfl) ?_
  refine at_block (id := 0) (by kernel_rfl) ?_
  refine at_seq (j := 6) (by kernel_rfl) ?_
  refine at_region (id := 1) (by kernel_rfl) ?_
  refine atR_seg (m := 1) (H := [(0, none, [.int .i64 num, .int .i64 kind, .int .i64 rad, .int .i64 flu, .int .i64 hol, .int .i64 stp, .int .i64 fd, .int .i64 plu])]) (ts := [1, 2, 3, 5, 9, 18]) (L' := [(1, .int .i64 top), (2, .int .i64 depth), (3, .int .i64 peck), (5, .pointer (some ⟨b1, 0, none⟩)), (9, .pointer (some ⟨b2, 0, none⟩)), (18, .agg #[.int .i64 num, .int .i64 kind, .int .i64 rad, .int .i64 flu, .int .i64 hol, .int .i64 stp, .int .i64 fd, .int .i64 plu])]) (O := fun w => (w.cell? ⟨b2, 0, none⟩ = some (.int .i64 num)) ∧ (w.cell? ⟨b2, 1, none⟩ = some (.int .i64 kind)) ∧ (w.cell? ⟨b2, 2, none⟩ = some (.int .i64 rad)) ∧ (w.cell? ⟨b2, 3, none⟩ = some (.int .i64 flu)) ∧ (w.cell? ⟨b2, 4, none⟩ = some (.int .i64 hol)) ∧ (w.cell? ⟨b2, 5, none⟩ = some (.int .i64 stp)) ∧ (w.cell? ⟨b2, 6, none⟩ = some (.int .i64 fd)) ∧ (w.cell? ⟨b2, 7, none⟩ = some (.int .i64 plu)) ∧ True) hs (by kernel_rfl) ⟨B2.cell 0 rfl, B2.cell 1 rfl, B2.cell 2 rfl, B2.cell 3 rfl, B2.cell 4 rfl, B2.cell 5 rfl, B2.cell 6 rfl, B2.cell 7 rfl, trivial⟩ ?_
  clear hs a; intro a hs
  refine atR_op hs (by kernel_rfl) (call1 (f := 25) (args := #[.agg #[.int .i64 num, .int .i64 kind, .int .i64 rad, .int .i64 flu, .int .i64 hol, .int .i64 stp, .int .i64 fd, .int .i64 plu]]) [1, 2, 3, 5, 9, 19] (fun rv_ => [(1, .int .i64 top), (2, .int .i64 depth), (3, .int .i64 peck), (5, .pointer (some ⟨b1, 0, none⟩)), (9, .pointer (some ⟨b2, 0, none⟩)), (19, rv_)]) hs (by kernel_rfl) (fun _ => by kernel_rfl) ?_)
  refine (valid_any (⟨num, kind, rad, flu, hol, stp, fd, plu⟩ : Tl) _ (HN.below hB) HK).mono ?_
  rintro e w3 ⟨rfl, hb⟩
  rw [show (if (⟨num, kind, rad, flu, hol, stp, fd, plu⟩ : Tl).good = true then (0 : Int) else 1) = 1 from by rw [hgood]; rfl]
  refine ⟨_, rfl, ?_⟩
  clear hs a; intro a hs
  replace B1 := B1.below hb B1.lt
  replace B2 := B2.below hb B2.lt
  replace hB := later hB hb
  clear hb
  refine atR_seg (m := 19) (H := []) (ts := [1, 2, 3, 5, 9, 17]) (L' := [(1, .int .i64 top), (2, .int .i64 depth), (3, .int .i64 peck), (5, .pointer (some ⟨b1, 0, none⟩)), (9, .pointer (some ⟨b2, 0, none⟩)), (17, .bool true)]) (O := fun w => True) hs (by kernel_rfl) trivial ?_
  clear hs a; intro a hs
  refine atR_end (by kernel_rfl) ?_
  refine wayN_node rfl ?_
  refine at_cond (t := 17) (j1 := 7) (j2 := 10) (b := true) (by kernel_rfl) hs rfl (fun _ => ?_) (fun hb => absurd (hb.symm.trans (show (true) = true from rfl)) (by decide))
  refine at_seq (j := 9) (by kernel_rfl) ?_
  refine at_region (id := 2) (by kernel_rfl) ?_
  refine atR_seg (m := 2) (H := []) (ts := [10, 11]) (L' := [(10, .slice none 0 0), (11, .int .i64 1)]) (O := fun w => True) hs (by kernel_rfl) trivial ?_
  clear hs a; intro a hs
  refine atR_end (by kernel_rfl) ?_
  refine wayN_node rfl ?_
  refine at_ret (by kernel_rfl) ?_
  refine at_end (vs := [.slice none 0 0, .int .i64 1]) (H := []) (v := .tuple #[.slice none 0 0, .int .i64 1]) (O := fun w => True) hs (by kernel_rfl) rfl trivial ?_
  exact peck_no (show peckErr (⟨num, kind, rad, flu, hol, stp, fd, plu⟩ : Tl) x y top depth peck = 1 from by (unfold peckErr; dsimp only; (rw [hgood]) <;> rfl)) (by decide) hB
set_option maxHeartbeats 2000000 in
theorem peck_good (x y top depth peck num kind rad flu hol stp fd plu : Int) (w : World) (h1 : -9223372036854775808 ≤ depth) (h2 : depth ≤ 9223372036854775807) (h3 : -9223372036854775808 ≤ peck) (h4 : peck ≤ 9223372036854775807) (HN : Nms w) (HK : (⟨num, kind, rad, flu, hol, stp, fd, plu⟩ : Tl).ok) (hgood : (⟨num, kind, rad, flu, hol, stp, fd, plu⟩ : Tl).good = true) :
    Calls Tryd.prog 19 #[.agg #[.int .i64 x, .int .i64 y], .int .i64 top, .int .i64 depth, .int .i64 peck, (⟨num, kind, rad, flu, hol, stp, fd, plu⟩ : Tl).v] w (PeckPost (⟨num, kind, rad, flu, hol, stp, fd, plu⟩ : Tl) x y top depth peck w) := by
  obtain ⟨n, hln⟩ : ∃ n, (pkList depth peck).length = n := ⟨_, rfl⟩
  have hn1000 : n ≤ 1000 := by rw [← hln]; exact pkList_len _ _
  have hB : Below w.heap.size w w := Below.refl _ _
  refine enter (B := body19) (args := [.agg #[.int .i64 x, .int .i64 y], .int .i64 top, .int .i64 depth, .int .i64 peck, .agg #[.int .i64 num, .int .i64 kind, .int .i64 rad, .int .i64 flu, .int .i64 hol, .int .i64 stp, .int .i64 fd, .int .i64 plu]]) Tryd.func19 (by kernel_rfl) (by kernel_rfl) ?_
  rw [show Tryd.f19.ntmps = 101 from by kernel_rfl]
  intro a hs
  replace hs := hs.pick (ts := [0, 1, 2, 3, 4]) (L' := [(0, .agg #[.int .i64 x, .int .i64 y]), (1, .int .i64 top), (2, .int .i64 depth), (3, .int .i64 peck), (4, .agg #[.int .i64 num, .int .i64 kind, .int .i64 rad, .int .i64 flu, .int .i64 hol, .int .i64 stp, .int .i64 fd, .int .i64 plu])]) (by kernel_rfl)
  refine at_seq (j := 2) (by kernel_rfl) ?_
  refine at_region (id := 0) (by kernel_rfl) ?_
  refine atR_op hs (by kernel_rfl) (new1 (t := 30) (cs := #[.int .i64 x, .int .i64 y]) (fun rb_ => .pointer (some ⟨rb_, 0, none⟩)) [1, 2, 3, 4, 5] (fun rb_ => [(1, .int .i64 top), (2, .int .i64 depth), (3, .int .i64 peck), (4, .agg #[.int .i64 num, .int .i64 kind, .int .i64 rad, .int .i64 flu, .int .i64 hol, .int .i64 stp, .int .i64 fd, .int .i64 plu]), (5, .pointer (some ⟨rb_, 0, none⟩))]) hs (fun _ => by kernel_rfl) (fun _ => by kernel_rfl) ?_)
  clear hs a; intro a w1 b1 hn hs
  have B1 := hn.blk
  have l1 : w.heap.size ≤ b1 := by rw [hn.at_]; exact hB.size
  replace hB := later hB hn.below
  clear hn
  refine atR_op hs (by kernel_rfl) (new1 (t := 33) (cs := #[.int .i64 num, .int .i64 kind, .int .i64 rad, .int .i64 flu, .int .i64 hol, .int .i64 stp, .int .i64 fd, .int .i64 plu]) (fun rb_ => .pointer (some ⟨rb_, 0, none⟩)) [1, 2, 3, 5, 9] (fun rb_ => [(1, .int .i64 top), (2, .int .i64 depth), (3, .int .i64 peck), (5, .pointer (some ⟨b1, 0, none⟩)), (9, .pointer (some ⟨rb_, 0, none⟩))]) hs (fun _ => by kernel_rfl) (fun _ => by kernel_rfl) ?_)
  clear hs a; intro a w2 b2 hn hs
  have B2 := hn.blk
  have l2 : w.heap.size ≤ b2 := by rw [hn.at_]; exact hB.size
  have l2' : b1 < b2 := by rw [hn.at_]; exact B1.lt
  replace B1 := B1.below hn.below B1.lt
  replace hB := later hB hn.below
  clear hn
  refine atR_seg (m := 2) (H := []) (ts := [1, 2, 3, 5, 9]) (L' := [(1, .int .i64 top), (2, .int .i64 depth), (3, .int .i64 peck), (5, .pointer (some ⟨b1, 0, none⟩)), (9, .pointer (some ⟨b2, 0, none⟩))]) (O := fun w => True) hs (by kernel_rfl) trivial ?_
  clear hs a; intro a hs
  refine atR_end (by kernel_rfl) ?_
  refine wayN_node rfl ?_
  refine at_seq (j := 23) (by kernel_rfl) ?_
  refine at_block (id := 0) (by kernel_rfl) ?_
  refine at_seq (j := 6) (by kernel_rfl) ?_
  refine at_region (id := 1) (by kernel_rfl) ?_
  refine atR_seg (m := 1) (H := [(0, none, [.int .i64 num, .int .i64 kind, .int .i64 rad, .int .i64 flu, .int .i64 hol, .int .i64 stp, .int .i64 fd, .int .i64 plu])]) (ts := [1, 2, 3, 5, 9, 18]) (L' := [(1, .int .i64 top), (2, .int .i64 depth), (3, .int .i64 peck), (5, .pointer (some ⟨b1, 0, none⟩)), (9, .pointer (some ⟨b2, 0, none⟩)), (18, .agg #[.int .i64 num, .int .i64 kind, .int .i64 rad, .int .i64 flu, .int .i64 hol, .int .i64 stp, .int .i64 fd, .int .i64 plu])]) (O := fun w => (w.cell? ⟨b2, 0, none⟩ = some (.int .i64 num)) ∧ (w.cell? ⟨b2, 1, none⟩ = some (.int .i64 kind)) ∧ (w.cell? ⟨b2, 2, none⟩ = some (.int .i64 rad)) ∧ (w.cell? ⟨b2, 3, none⟩ = some (.int .i64 flu)) ∧ (w.cell? ⟨b2, 4, none⟩ = some (.int .i64 hol)) ∧ (w.cell? ⟨b2, 5, none⟩ = some (.int .i64 stp)) ∧ (w.cell? ⟨b2, 6, none⟩ = some (.int .i64 fd)) ∧ (w.cell? ⟨b2, 7, none⟩ = some (.int .i64 plu)) ∧ True) hs (by kernel_rfl) ⟨B2.cell 0 rfl, B2.cell 1 rfl, B2.cell 2 rfl, B2.cell 3 rfl, B2.cell 4 rfl, B2.cell 5 rfl, B2.cell 6 rfl, B2.cell 7 rfl, trivial⟩ ?_
  clear hs a; intro a hs
  refine atR_op hs (by kernel_rfl) (call1 (f := 25) (args := #[.agg #[.int .i64 num, .int .i64 kind, .int .i64 rad, .int .i64 flu, .int .i64 hol, .int .i64 stp, .int .i64 fd, .int .i64 plu]]) [1, 2, 3, 5, 9, 19] (fun rv_ => [(1, .int .i64 top), (2, .int .i64 depth), (3, .int .i64 peck), (5, .pointer (some ⟨b1, 0, none⟩)), (9, .pointer (some ⟨b2, 0, none⟩)), (19, rv_)]) hs (by kernel_rfl) (fun _ => by kernel_rfl) ?_)
  refine (valid_any (⟨num, kind, rad, flu, hol, stp, fd, plu⟩ : Tl) _ (HN.below hB) HK).mono ?_
  rintro e w3 ⟨rfl, hb⟩
  rw [show (if (⟨num, kind, rad, flu, hol, stp, fd, plu⟩ : Tl).good = true then (0 : Int) else 1) = 0 from by rw [hgood]; rfl]
  refine ⟨_, rfl, ?_⟩
  clear hs a; intro a hs
  replace B1 := B1.below hb B1.lt
  replace B2 := B2.below hb B2.lt
  replace hB := later hB hb
  clear hb
  refine atR_seg (m := 7) (H := [(5, none, [.int .i64 kind])]) (ts := [1, 2, 3, 5, 9, 26]) (L' := [(1, .int .i64 top), (2, .int .i64 depth), (3, .int .i64 peck), (5, .pointer (some ⟨b1, 0, none⟩)), (9, .pointer (some ⟨b2, 0, none⟩)), (26, .bool (kind != 2))]) (O := fun w => (w.cell? ⟨b2, 1, none⟩ = some (.int .i64 kind)) ∧ True) hs (by kernel_rfl) ⟨B2.cell 1 rfl, trivial⟩ ?_
  clear hs a; intro a hs
  rcases Bool.eq_false_or_eq_true (kind != 2) with hb | hb
  · replace hs := hs.know (t := 26) rfl hb
    have cd1 := hb; have cd1b := hb; clear hb
    replace cd1 := bne_iff_ne.1 cd1
    replace hs := hs.pick (ts := [1, 2, 3, 5, 9, 26]) (L' := [(1, .int .i64 top), (2, .int .i64 depth), (3, .int .i64 peck), (5, .pointer (some ⟨b1, 0, none⟩)), (9, .pointer (some ⟨b2, 0, none⟩)), (26, .bool true)]) (by kernel_rfl)
    refine atR_seg (m := 12) (H := []) (ts := [1, 2, 3, 5, 9, 17]) (L' := [(1, .int .i64 top), (2, .int .i64 depth), (3, .int .i64 peck), (5, .pointer (some ⟨b1, 0, none⟩)), (9, .pointer (some ⟨b2, 0, none⟩)), (17, .bool true)]) (O := fun w => True) hs (by kernel_rfl) trivial ?_
    clear hs a; intro a hs
    refine atR_end (by kernel_rfl) ?_
    refine wayN_node rfl ?_
    refine at_cond (t := 17) (j1 := 7) (j2 := 10) (b := true) (by kernel_rfl) hs rfl (fun _ => ?_) (fun hb => absurd (hb.symm.trans (show (true) = true from rfl)) (by decide))
    refine at_seq (j := 9) (by kernel_rfl) ?_
    refine at_region (id := 2) (by kernel_rfl) ?_
    refine atR_seg (m := 2) (H := []) (ts := [10, 11]) (L' := [(10, .slice none 0 0), (11, .int .i64 1)]) (O := fun w => True) hs (by kernel_rfl) trivial ?_
    clear hs a; intro a hs
    refine atR_end (by kernel_rfl) ?_
    refine wayN_node rfl ?_
    refine at_ret (by kernel_rfl) ?_
    refine at_end (vs := [.slice none 0 0, .int .i64 1]) (H := []) (v := .tuple #[.slice none 0 0, .int .i64 1]) (O := fun w => True) hs (by kernel_rfl) rfl trivial ?_
    exact peck_no (show peckErr (⟨num, kind, rad, flu, hol, stp, fd, plu⟩ : Tl) x y top depth peck = 1 from by (unfold peckErr; dsimp only; (rw [hgood, cd1b]) <;> rfl)) (by decide) hB
  · replace hs := hs.know (t := 26) rfl hb
    have cd1 := hb; have cd1b := hb; clear hb
    replace cd1 := bne_eq_false_iff_eq.1 cd1
    replace hs := hs.pick (ts := [1, 2, 3, 5, 9, 26]) (L' := [(1, .int .i64 top), (2, .int .i64 depth), (3, .int .i64 peck), (5, .pointer (some ⟨b1, 0, none⟩)), (9, .pointer (some ⟨b2, 0, none⟩)), (26, .bool false)]) (by kernel_rfl)
    refine atR_seg (m := 4) (H := []) (ts := [1, 2, 3, 5, 9, 30]) (L' := [(1, .int .i64 top), (2, .int .i64 depth), (3, .int .i64 peck), (5, .pointer (some ⟨b1, 0, none⟩)), (9, .pointer (some ⟨b2, 0, none⟩)), (30, .bool (decide (top < 0)))]) (O := fun w => True) hs (by kernel_rfl) trivial ?_
    clear hs a; intro a hs
    rcases Bool.eq_false_or_eq_true (decide (top < 0)) with hb | hb
    · replace hs := hs.know (t := 30) rfl hb
      have cd2 := hb; have cd2b := hb; clear hb
      replace cd2 := of_decide_eq_true cd2
      replace hs := hs.pick (ts := [1, 2, 3, 5, 9, 30]) (L' := [(1, .int .i64 top), (2, .int .i64 depth), (3, .int .i64 peck), (5, .pointer (some ⟨b1, 0, none⟩)), (9, .pointer (some ⟨b2, 0, none⟩)), (30, .bool true)]) (by kernel_rfl)
      refine atR_seg (m := 8) (H := []) (ts := [1, 2, 3, 5, 9, 17]) (L' := [(1, .int .i64 top), (2, .int .i64 depth), (3, .int .i64 peck), (5, .pointer (some ⟨b1, 0, none⟩)), (9, .pointer (some ⟨b2, 0, none⟩)), (17, .bool true)]) (O := fun w => True) hs (by kernel_rfl) trivial ?_
      clear hs a; intro a hs
      refine atR_end (by kernel_rfl) ?_
      refine wayN_node rfl ?_
      refine at_cond (t := 17) (j1 := 7) (j2 := 10) (b := true) (by kernel_rfl) hs rfl (fun _ => ?_) (fun hb => absurd (hb.symm.trans (show (true) = true from rfl)) (by decide))
      refine at_seq (j := 9) (by kernel_rfl) ?_
      refine at_region (id := 2) (by kernel_rfl) ?_
      refine atR_seg (m := 2) (H := []) (ts := [10, 11]) (L' := [(10, .slice none 0 0), (11, .int .i64 1)]) (O := fun w => True) hs (by kernel_rfl) trivial ?_
      clear hs a; intro a hs
      refine atR_end (by kernel_rfl) ?_
      refine wayN_node rfl ?_
      refine at_ret (by kernel_rfl) ?_
      refine at_end (vs := [.slice none 0 0, .int .i64 1]) (H := []) (v := .tuple #[.slice none 0 0, .int .i64 1]) (O := fun w => True) hs (by kernel_rfl) rfl trivial ?_
      exact peck_no (show peckErr (⟨num, kind, rad, flu, hol, stp, fd, plu⟩ : Tl) x y top depth peck = 1 from by (unfold peckErr; dsimp only; (rw [hgood, cd1b, cd2b]) <;> rfl)) (by decide) hB
    · replace hs := hs.know (t := 30) rfl hb
      have cd2 := hb; have cd2b := hb; clear hb
      replace cd2 := of_decide_eq_false cd2
      replace hs := hs.pick (ts := [1, 2, 3, 5, 9, 30]) (L' := [(1, .int .i64 top), (2, .int .i64 depth), (3, .int .i64 peck), (5, .pointer (some ⟨b1, 0, none⟩)), (9, .pointer (some ⟨b2, 0, none⟩)), (30, .bool false)]) (by kernel_rfl)
      refine atR_seg (m := 4) (H := []) (ts := [1, 2, 3, 5, 9, 34]) (L' := [(1, .int .i64 top), (2, .int .i64 depth), (3, .int .i64 peck), (5, .pointer (some ⟨b1, 0, none⟩)), (9, .pointer (some ⟨b2, 0, none⟩)), (34, .bool (decide (depth < 1)))]) (O := fun w => True) hs (by kernel_rfl) trivial ?_
      clear hs a; intro a hs
      rcases Bool.eq_false_or_eq_true (decide (depth < 1)) with hb | hb
      · replace hs := hs.know (t := 34) rfl hb
        have cd3 := hb; have cd3b := hb; clear hb
        replace cd3 := of_decide_eq_true cd3
        replace hs := hs.pick (ts := [1, 2, 3, 5, 9, 34]) (L' := [(1, .int .i64 top), (2, .int .i64 depth), (3, .int .i64 peck), (5, .pointer (some ⟨b1, 0, none⟩)), (9, .pointer (some ⟨b2, 0, none⟩)), (34, .bool true)]) (by kernel_rfl)
        refine atR_seg (m := 4) (H := []) (ts := [1, 2, 3, 5, 9, 17]) (L' := [(1, .int .i64 top), (2, .int .i64 depth), (3, .int .i64 peck), (5, .pointer (some ⟨b1, 0, none⟩)), (9, .pointer (some ⟨b2, 0, none⟩)), (17, .bool true)]) (O := fun w => True) hs (by kernel_rfl) trivial ?_
        clear hs a; intro a hs
        refine atR_end (by kernel_rfl) ?_
        refine wayN_node rfl ?_
        refine at_cond (t := 17) (j1 := 7) (j2 := 10) (b := true) (by kernel_rfl) hs rfl (fun _ => ?_) (fun hb => absurd (hb.symm.trans (show (true) = true from rfl)) (by decide))
        refine at_seq (j := 9) (by kernel_rfl) ?_
        refine at_region (id := 2) (by kernel_rfl) ?_
        refine atR_seg (m := 2) (H := []) (ts := [10, 11]) (L' := [(10, .slice none 0 0), (11, .int .i64 1)]) (O := fun w => True) hs (by kernel_rfl) trivial ?_
        clear hs a; intro a hs
        refine atR_end (by kernel_rfl) ?_
        refine wayN_node rfl ?_
        refine at_ret (by kernel_rfl) ?_
        refine at_end (vs := [.slice none 0 0, .int .i64 1]) (H := []) (v := .tuple #[.slice none 0 0, .int .i64 1]) (O := fun w => True) hs (by kernel_rfl) rfl trivial ?_
        exact peck_no (show peckErr (⟨num, kind, rad, flu, hol, stp, fd, plu⟩ : Tl) x y top depth peck = 1 from by (unfold peckErr; dsimp only; (rw [hgood, cd1b, cd2b, cd3b]) <;> rfl)) (by decide) hB
      · replace hs := hs.know (t := 34) rfl hb
        have cd3 := hb; have cd3b := hb; clear hb
        replace cd3 := of_decide_eq_false cd3
        replace hs := hs.pick (ts := [1, 2, 3, 5, 9, 34]) (L' := [(1, .int .i64 top), (2, .int .i64 depth), (3, .int .i64 peck), (5, .pointer (some ⟨b1, 0, none⟩)), (9, .pointer (some ⟨b2, 0, none⟩)), (34, .bool false)]) (by kernel_rfl)
        refine atR_seg (m := 4) (H := []) (ts := [1, 2, 3, 5, 9, 17]) (L' := [(1, .int .i64 top), (2, .int .i64 depth), (3, .int .i64 peck), (5, .pointer (some ⟨b1, 0, none⟩)), (9, .pointer (some ⟨b2, 0, none⟩)), (17, .bool (decide (peck < 1)))]) (O := fun w => True) hs (by kernel_rfl) trivial ?_
        clear hs a; intro a hs
        refine atR_end (by kernel_rfl) ?_
        refine wayN_node rfl ?_
        refine at_cond (t := 17) (j1 := 7) (j2 := 10) (b := decide (peck < 1)) (by kernel_rfl) hs rfl (fun hb => ?_) (fun hb => ?_)
        · have cd4 := hb; have cd4b := hb; clear hb
          replace cd4 := of_decide_eq_true cd4
          refine at_seq (j := 9) (by kernel_rfl) ?_
          refine at_region (id := 2) (by kernel_rfl) ?_
          refine atR_seg (m := 2) (H := []) (ts := [10, 11]) (L' := [(10, .slice none 0 0), (11, .int .i64 1)]) (O := fun w => True) hs (by kernel_rfl) trivial ?_
          clear hs a; intro a hs
          refine atR_end (by kernel_rfl) ?_
          refine wayN_node rfl ?_
          refine at_ret (by kernel_rfl) ?_
          refine at_end (vs := [.slice none 0 0, .int .i64 1]) (H := []) (v := .tuple #[.slice none 0 0, .int .i64 1]) (O := fun w => True) hs (by kernel_rfl) rfl trivial ?_
          exact peck_no (show peckErr (⟨num, kind, rad, flu, hol, stp, fd, plu⟩ : Tl) x y top depth peck = 1 from by (unfold peckErr; dsimp only; (rw [hgood, cd1b, cd2b, cd3b, cd4b]) <;> rfl)) (by decide) hB
        · have cd4 := hb; have cd4b := hb; clear hb
          replace cd4 := of_decide_eq_false cd4
          refine at_seq (j := 12) (by kernel_rfl) ?_
          refine at_region (id := 3) (by kernel_rfl) ?_
          refine atR_seg (m := 5) (H := [(1, none, [.int .i64 flu])]) (ts := [1, 2, 3, 5, 9, 38]) (L' := [(1, .int .i64 top), (2, .int .i64 depth), (3, .int .i64 peck), (5, .pointer (some ⟨b1, 0, none⟩)), (9, .pointer (some ⟨b2, 0, none⟩)), (38, .bool (decide (flu < depth)))]) (O := fun w => (w.cell? ⟨b2, 3, none⟩ = some (.int .i64 flu)) ∧ True) hs (by kernel_rfl) ⟨B2.cell 3 rfl, trivial⟩ ?_
          clear hs a; intro a hs
          refine atR_end (by kernel_rfl) ?_
          refine wayN_node rfl ?_
          refine at_cond (t := 38) (j1 := 13) (j2 := 16) (b := decide (flu < depth)) (by kernel_rfl) hs rfl (fun hb => ?_) (fun hb => ?_)
          · have cd5 := hb; have cd5b := hb; clear hb
            replace cd5 := of_decide_eq_true cd5
            refine at_seq (j := 15) (by kernel_rfl) ?_
            refine at_region (id := 4) (by kernel_rfl) ?_
            refine atR_seg (m := 2) (H := []) (ts := [10, 11]) (L' := [(10, .slice none 0 0), (11, .int .i64 16)]) (O := fun w => True) hs (by kernel_rfl) trivial ?_
            clear hs a; intro a hs
            refine atR_end (by kernel_rfl) ?_
            refine wayN_node rfl ?_
            refine at_ret (by kernel_rfl) ?_
            refine at_end (vs := [.slice none 0 0, .int .i64 16]) (H := []) (v := .tuple #[.slice none 0 0, .int .i64 16]) (O := fun w => True) hs (by kernel_rfl) rfl trivial ?_
            exact peck_no (show peckErr (⟨num, kind, rad, flu, hol, stp, fd, plu⟩ : Tl) x y top depth peck = 16 from by (unfold peckErr; dsimp only; (rw [hgood, cd1b, cd2b, cd3b, cd4b, cd5b]) <;> rfl)) (by decide) hB
          · have cd5 := hb; have cd5b := hb; clear hb
            replace cd5 := of_decide_eq_false cd5
            refine at_seq (j := 18) (by kernel_rfl) ?_
            refine at_region (id := 5) (by kernel_rfl) ?_
            refine atR_seg (m := 2) (H := [(1, none, [.int .i64 x])]) (ts := [1, 2, 3, 5, 9, 45]) (L' := [(1, .int .i64 top), (2, .int .i64 depth), (3, .int .i64 peck), (5, .pointer (some ⟨b1, 0, none⟩)), (9, .pointer (some ⟨b2, 0, none⟩)), (45, .int .i64 x)]) (O := fun w => (w.cell? ⟨b1, 0, none⟩ = some (.int .i64 x)) ∧ True) hs (by kernel_rfl) ⟨B1.cell 0 rfl, trivial⟩ ?_
            clear hs a; intro a hs
            refine atR_op hs (by kernel_rfl) (call1 (f := 27) (args := #[.int .i64 x]) [1, 2, 3, 5, 9, 46] (fun rv_ => [(1, .int .i64 top), (2, .int .i64 depth), (3, .int .i64 peck), (5, .pointer (some ⟨b1, 0, none⟩)), (9, .pointer (some ⟨b2, 0, none⟩)), (46, rv_)]) hs (by kernel_rfl) (fun _ => by kernel_rfl) ?_)
            refine (inside_any _ _).mono ?_
            rintro e w' ⟨rfl, rfl⟩
            refine ⟨_, rfl, ?_⟩
            clear hs a; intro a hs
            refine atR_seg (m := 2) (H := []) (ts := [1, 2, 3, 5, 9, 48]) (L' := [(1, .int .i64 top), (2, .int .i64 depth), (3, .int .i64 peck), (5, .pointer (some ⟨b1, 0, none⟩)), (9, .pointer (some ⟨b2, 0, none⟩)), (48, .bool (!(insB x)))]) (O := fun w => True) hs (by kernel_rfl) trivial ?_
            clear hs a; intro a hs
            rcases Bool.eq_false_or_eq_true (!(insB x)) with hb | hb
            · replace hs := hs.know (t := 48) rfl hb
              have cd6 := hb; have cd6b := hb; clear hb
              replace hs := hs.pick (ts := [1, 2, 3, 5, 9, 48]) (L' := [(1, .int .i64 top), (2, .int .i64 depth), (3, .int .i64 peck), (5, .pointer (some ⟨b1, 0, none⟩)), (9, .pointer (some ⟨b2, 0, none⟩)), (48, .bool true)]) (by kernel_rfl)
              refine atR_seg (m := 16) (H := []) (ts := [1, 2, 3, 5, 9, 43]) (L' := [(1, .int .i64 top), (2, .int .i64 depth), (3, .int .i64 peck), (5, .pointer (some ⟨b1, 0, none⟩)), (9, .pointer (some ⟨b2, 0, none⟩)), (43, .bool true)]) (O := fun w => True) hs (by kernel_rfl) trivial ?_
              clear hs a; intro a hs
              refine atR_end (by kernel_rfl) ?_
              refine wayN_node rfl ?_
              refine at_cond (t := 43) (j1 := 19) (j2 := 22) (b := true) (by kernel_rfl) hs rfl (fun _ => ?_) (fun hb => absurd (hb.symm.trans (show (true) = true from rfl)) (by decide))
              refine at_seq (j := 21) (by kernel_rfl) ?_
              refine at_region (id := 6) (by kernel_rfl) ?_
              refine atR_seg (m := 2) (H := []) (ts := [10, 11]) (L' := [(10, .slice none 0 0), (11, .int .i64 11)]) (O := fun w => True) hs (by kernel_rfl) trivial ?_
              clear hs a; intro a hs
              refine atR_end (by kernel_rfl) ?_
              refine wayN_node rfl ?_
              refine at_ret (by kernel_rfl) ?_
              refine at_end (vs := [.slice none 0 0, .int .i64 11]) (H := []) (v := .tuple #[.slice none 0 0, .int .i64 11]) (O := fun w => True) hs (by kernel_rfl) rfl trivial ?_
              exact peck_no (show peckErr (⟨num, kind, rad, flu, hol, stp, fd, plu⟩ : Tl) x y top depth peck = 11 from by (unfold peckErr; dsimp only; (rw [hgood, cd1b, cd2b, cd3b, cd4b, cd5b, cd6b]) <;> rfl)) (by decide) hB
            · replace hs := hs.know (t := 48) rfl hb
              have cd6 := hb; have cd6b := hb; clear hb
              replace hs := hs.pick (ts := [1, 2, 3, 5, 9, 48]) (L' := [(1, .int .i64 top), (2, .int .i64 depth), (3, .int .i64 peck), (5, .pointer (some ⟨b1, 0, none⟩)), (9, .pointer (some ⟨b2, 0, none⟩)), (48, .bool false)]) (by kernel_rfl)
              refine atR_seg (m := 2) (H := [(6, none, [.int .i64 y])]) (ts := [1, 2, 3, 5, 9, 48, 50]) (L' := [(1, .int .i64 top), (2, .int .i64 depth), (3, .int .i64 peck), (5, .pointer (some ⟨b1, 0, none⟩)), (9, .pointer (some ⟨b2, 0, none⟩)), (48, .bool false), (50, .int .i64 y)]) (O := fun w => (w.cell? ⟨b1, 1, none⟩ = some (.int .i64 y)) ∧ True) hs (by kernel_rfl) ⟨B1.cell 1 rfl, trivial⟩ ?_
              clear hs a; intro a hs
              refine atR_op hs (by kernel_rfl) (call1 (f := 27) (args := #[.int .i64 y]) [1, 2, 3, 5, 9, 48, 51] (fun rv_ => [(1, .int .i64 top), (2, .int .i64 depth), (3, .int .i64 peck), (5, .pointer (some ⟨b1, 0, none⟩)), (9, .pointer (some ⟨b2, 0, none⟩)), (48, .bool false), (51, rv_)]) hs (by kernel_rfl) (fun _ => by kernel_rfl) ?_)
              refine (inside_any _ _).mono ?_
              rintro e w' ⟨rfl, rfl⟩
              refine ⟨_, rfl, ?_⟩
              clear hs a; intro a hs
              refine atR_seg (m := 3) (H := []) (ts := [1, 2, 3, 5, 9, 54]) (L' := [(1, .int .i64 top), (2, .int .i64 depth), (3, .int .i64 peck), (5, .pointer (some ⟨b1, 0, none⟩)), (9, .pointer (some ⟨b2, 0, none⟩)), (54, .bool (!(insB y)))]) (O := fun w => True) hs (by kernel_rfl) trivial ?_
              clear hs a; intro a hs
              rcases Bool.eq_false_or_eq_true (!(insB y)) with hb | hb
              · replace hs := hs.know (t := 54) rfl hb
                have cd7 := hb; have cd7b := hb; clear hb
                replace hs := hs.pick (ts := [1, 2, 3, 5, 9, 54]) (L' := [(1, .int .i64 top), (2, .int .i64 depth), (3, .int .i64 peck), (5, .pointer (some ⟨b1, 0, none⟩)), (9, .pointer (some ⟨b2, 0, none⟩)), (54, .bool true)]) (by kernel_rfl)
                refine atR_seg (m := 10) (H := []) (ts := [1, 2, 3, 5, 9, 43]) (L' := [(1, .int .i64 top), (2, .int .i64 depth), (3, .int .i64 peck), (5, .pointer (some ⟨b1, 0, none⟩)), (9, .pointer (some ⟨b2, 0, none⟩)), (43, .bool true)]) (O := fun w => True) hs (by kernel_rfl) trivial ?_
                clear hs a; intro a hs
                refine atR_end (by kernel_rfl) ?_
                refine wayN_node rfl ?_
                refine at_cond (t := 43) (j1 := 19) (j2 := 22) (b := true) (by kernel_rfl) hs rfl (fun _ => ?_) (fun hb => absurd (hb.symm.trans (show (true) = true from rfl)) (by decide))
                refine at_seq (j := 21) (by kernel_rfl) ?_
                refine at_region (id := 6) (by kernel_rfl) ?_
                refine atR_seg (m := 2) (H := []) (ts := [10, 11]) (L' := [(10, .slice none 0 0), (11, .int .i64 11)]) (O := fun w => True) hs (by kernel_rfl) trivial ?_
                clear hs a; intro a hs
                refine atR_end (by kernel_rfl) ?_
                refine wayN_node rfl ?_
                refine at_ret (by kernel_rfl) ?_
                refine at_end (vs := [.slice none 0 0, .int .i64 11]) (H := []) (v := .tuple #[.slice none 0 0, .int .i64 11]) (O := fun w => True) hs (by kernel_rfl) rfl trivial ?_
                exact peck_no (show peckErr (⟨num, kind, rad, flu, hol, stp, fd, plu⟩ : Tl) x y top depth peck = 11 from by (unfold peckErr; dsimp only; (rw [hgood, cd1b, cd2b, cd3b, cd4b, cd5b, cd6b, cd7b]) <;> rfl)) (by decide) hB
              · replace hs := hs.know (t := 54) rfl hb
                have cd7 := hb; have cd7b := hb; clear hb
                replace hs := hs.pick (ts := [1, 2, 3, 5, 9, 54]) (L' := [(1, .int .i64 top), (2, .int .i64 depth), (3, .int .i64 peck), (5, .pointer (some ⟨b1, 0, none⟩)), (9, .pointer (some ⟨b2, 0, none⟩)), (54, .bool false)]) (by kernel_rfl)
                refine atR_seg (m := 1) (H := []) (ts := [1, 2, 3, 5, 9, 54, 55]) (L' := [(1, .int .i64 top), (2, .int .i64 depth), (3, .int .i64 peck), (5, .pointer (some ⟨b1, 0, none⟩)), (9, .pointer (some ⟨b2, 0, none⟩)), (54, .bool false), (55, .int .i64 top)]) (O := fun w => True) hs (by kernel_rfl) trivial ?_
                clear hs a; intro a hs
                refine atR_op hs (by kernel_rfl) (call1 (f := 27) (args := #[.int .i64 top]) [1, 2, 3, 5, 9, 54, 56] (fun rv_ => [(1, .int .i64 top), (2, .int .i64 depth), (3, .int .i64 peck), (5, .pointer (some ⟨b1, 0, none⟩)), (9, .pointer (some ⟨b2, 0, none⟩)), (54, .bool false), (56, rv_)]) hs (by kernel_rfl) (fun _ => by kernel_rfl) ?_)
                refine (inside_any _ _).mono ?_
                rintro e w' ⟨rfl, rfl⟩
                refine ⟨_, rfl, ?_⟩
                clear hs a; intro a hs
                refine atR_seg (m := 3) (H := []) (ts := [1, 2, 3, 5, 9, 59]) (L' := [(1, .int .i64 top), (2, .int .i64 depth), (3, .int .i64 peck), (5, .pointer (some ⟨b1, 0, none⟩)), (9, .pointer (some ⟨b2, 0, none⟩)), (59, .bool (!(insB top)))]) (O := fun w => True) hs (by kernel_rfl) trivial ?_
                clear hs a; intro a hs
                rcases Bool.eq_false_or_eq_true (!(insB top)) with hb | hb
                · replace hs := hs.know (t := 59) rfl hb
                  have cd8 := hb; have cd8b := hb; clear hb
                  replace hs := hs.pick (ts := [1, 2, 3, 5, 9, 59]) (L' := [(1, .int .i64 top), (2, .int .i64 depth), (3, .int .i64 peck), (5, .pointer (some ⟨b1, 0, none⟩)), (9, .pointer (some ⟨b2, 0, none⟩)), (59, .bool true)]) (by kernel_rfl)
                  refine atR_seg (m := 5) (H := []) (ts := [1, 2, 3, 5, 9, 43]) (L' := [(1, .int .i64 top), (2, .int .i64 depth), (3, .int .i64 peck), (5, .pointer (some ⟨b1, 0, none⟩)), (9, .pointer (some ⟨b2, 0, none⟩)), (43, .bool true)]) (O := fun w => True) hs (by kernel_rfl) trivial ?_
                  clear hs a; intro a hs
                  refine atR_end (by kernel_rfl) ?_
                  refine wayN_node rfl ?_
                  refine at_cond (t := 43) (j1 := 19) (j2 := 22) (b := true) (by kernel_rfl) hs rfl (fun _ => ?_) (fun hb => absurd (hb.symm.trans (show (true) = true from rfl)) (by decide))
                  refine at_seq (j := 21) (by kernel_rfl) ?_
                  refine at_region (id := 6) (by kernel_rfl) ?_
                  refine atR_seg (m := 2) (H := []) (ts := [10, 11]) (L' := [(10, .slice none 0 0), (11, .int .i64 11)]) (O := fun w => True) hs (by kernel_rfl) trivial ?_
                  clear hs a; intro a hs
                  refine atR_end (by kernel_rfl) ?_
                  refine wayN_node rfl ?_
                  refine at_ret (by kernel_rfl) ?_
                  refine at_end (vs := [.slice none 0 0, .int .i64 11]) (H := []) (v := .tuple #[.slice none 0 0, .int .i64 11]) (O := fun w => True) hs (by kernel_rfl) rfl trivial ?_
                  exact peck_no (show peckErr (⟨num, kind, rad, flu, hol, stp, fd, plu⟩ : Tl) x y top depth peck = 11 from by (unfold peckErr; dsimp only; (rw [hgood, cd1b, cd2b, cd3b, cd4b, cd5b, cd6b, cd7b, cd8b]) <;> rfl)) (by decide) hB
                · replace hs := hs.know (t := 59) rfl hb
                  have cd8 := hb; have cd8b := hb; clear hb
                  replace hs := hs.pick (ts := [1, 2, 3, 5, 9, 59]) (L' := [(1, .int .i64 top), (2, .int .i64 depth), (3, .int .i64 peck), (5, .pointer (some ⟨b1, 0, none⟩)), (9, .pointer (some ⟨b2, 0, none⟩)), (59, .bool false)]) (by kernel_rfl)
                  refine atR_seg (m := 1) (H := []) (ts := [1, 2, 3, 5, 9, 59, 60]) (L' := [(1, .int .i64 top), (2, .int .i64 depth), (3, .int .i64 peck), (5, .pointer (some ⟨b1, 0, none⟩)), (9, .pointer (some ⟨b2, 0, none⟩)), (59, .bool false), (60, .int .i64 depth)]) (O := fun w => True) hs (by kernel_rfl) trivial ?_
                  clear hs a; intro a hs
                  refine atR_op hs (by kernel_rfl) (call1 (f := 27) (args := #[.int .i64 depth]) [1, 2, 3, 5, 9, 59, 61] (fun rv_ => [(1, .int .i64 top), (2, .int .i64 depth), (3, .int .i64 peck), (5, .pointer (some ⟨b1, 0, none⟩)), (9, .pointer (some ⟨b2, 0, none⟩)), (59, .bool false), (61, rv_)]) hs (by kernel_rfl) (fun _ => by kernel_rfl) ?_)
                  refine (inside_any _ _).mono ?_
                  rintro e w' ⟨rfl, rfl⟩
                  refine ⟨_, rfl, ?_⟩
                  clear hs a; intro a hs
                  refine atR_seg (m := 3) (H := []) (ts := [1, 2, 3, 5, 9, 43]) (L' := [(1, .int .i64 top), (2, .int .i64 depth), (3, .int .i64 peck), (5, .pointer (some ⟨b1, 0, none⟩)), (9, .pointer (some ⟨b2, 0, none⟩)), (43, .bool (!(insB depth)))]) (O := fun w => True) hs (by kernel_rfl) trivial ?_
                  clear hs a; intro a hs
                  refine atR_end (by kernel_rfl) ?_
                  refine wayN_node rfl ?_
                  refine at_cond (t := 43) (j1 := 19) (j2 := 22) (b := !(insB depth)) (by kernel_rfl) hs rfl (fun hb => ?_) (fun hb => ?_)
                  · have cd9 := hb; have cd9b := hb; clear hb
                    refine at_seq (j := 21) (by kernel_rfl) ?_
                    refine at_region (id := 6) (by kernel_rfl) ?_
                    refine atR_seg (m := 2) (H := []) (ts := [10, 11]) (L' := [(10, .slice none 0 0), (11, .int .i64 11)]) (O := fun w => True) hs (by kernel_rfl) trivial ?_
                    clear hs a; intro a hs
                    refine atR_end (by kernel_rfl) ?_
                    refine wayN_node rfl ?_
                    refine at_ret (by kernel_rfl) ?_
                    refine at_end (vs := [.slice none 0 0, .int .i64 11]) (H := []) (v := .tuple #[.slice none 0 0, .int .i64 11]) (O := fun w => True) hs (by kernel_rfl) rfl trivial ?_
                    exact peck_no (show peckErr (⟨num, kind, rad, flu, hol, stp, fd, plu⟩ : Tl) x y top depth peck = 11 from by (unfold peckErr; dsimp only; (rw [hgood, cd1b, cd2b, cd3b, cd4b, cd5b, cd6b, cd7b, cd8b, cd9b]) <;> rfl)) (by decide) hB
                  · have cd9 := hb; have cd9b := hb; clear hb
                    refine at_skip (by kernel_rfl) ?_
                    refine wayN_node rfl ?_
                    refine at_seq (j := 25) (by kernel_rfl) ?_
                    refine at_region (id := 7) (by kernel_rfl) ?_
                    refine atR_seg (m := 2) (H := []) (ts := [1, 5, 9, 65, 66]) (L' := [(1, .int .i64 top), (5, .pointer (some ⟨b1, 0, none⟩)), (9, .pointer (some ⟨b2, 0, none⟩)), (65, .int .i64 depth), (66, .int .i64 peck)]) (O := fun w => True) hs (by kernel_rfl) trivial ?_
                    clear hs a; intro a hs
                    refine atR_op hs (by kernel_rfl) (call1 (f := 9) (args := #[.int .i64 depth, .int .i64 peck]) [1, 5, 9, 67] (fun rv_ => [(1, .int .i64 top), (5, .pointer (some ⟨b1, 0, none⟩)), (9, .pointer (some ⟨b2, 0, none⟩)), (67, rv_)]) hs (by kernel_rfl) (fun _ => by kernel_rfl) ?_)
                    refine (pecks_any depth peck _ h1 h2 h3 h4).mono ?_
                    rintro e w4 ⟨vp, rfl, hrp, hb⟩
                    rw [hln] at hrp
                    obtain ⟨u1, hu1, R1⟩ := RdU.at_u hrp
                    obtain ⟨A1, c1, rfl, hnp⟩ := R1.form
                    have huw : w.heap.size ≤ u1 := by have := hB.size; have := hb.size; omega
                    clear hrp hu1
                    refine ⟨_, rfl, ?_⟩
                    clear hs a; intro a hs
                    replace B1 := B1.below hb B1.lt
                    replace B2 := B2.below hb B2.lt
                    replace hB := later hB hb
                    clear hb
                    refine atR_seg (m := 5) (H := []) (ts := [1, 5, 9, 12, 13]) (L' := [(1, .int .i64 top), (5, .pointer (some ⟨b1, 0, none⟩)), (9, .pointer (some ⟨b2, 0, none⟩)), (12, .slice A1 n c1), (13, .int .i64 (pkErr depth peck))]) (O := fun w => True) hs (by kernel_rfl) trivial ?_
                    clear hs a; intro a hs
                    refine atR_end (by kernel_rfl) ?_
                    refine wayN_node rfl ?_
                    refine at_seq (j := 33) (by kernel_rfl) ?_
                    refine at_seq (j := 28) (by kernel_rfl) ?_
                    refine at_region (id := 8) (by kernel_rfl) ?_
                    refine atR_seg (m := 2) (H := []) (ts := [1, 5, 9, 12, 13, 71]) (L' := [(1, .int .i64 top), (5, .pointer (some ⟨b1, 0, none⟩)), (9, .pointer (some ⟨b2, 0, none⟩)), (12, .slice A1 n c1), (13, .int .i64 (pkErr depth peck)), (71, .bool ((pkErr depth peck) != 0))]) (O := fun w => True) hs (by kernel_rfl) trivial ?_
                    clear hs a; intro a hs
                    refine atR_end (by kernel_rfl) ?_
                    refine wayN_node rfl ?_
                    refine at_cond (t := 71) (j1 := 29) (j2 := 32) (b := (pkErr depth peck) != 0) (by kernel_rfl) hs rfl (fun hb => ?_) (fun hb => ?_)
                    · have cd10 := hb; have cd10b := hb; clear hb
                      replace cd10 := bne_iff_ne.1 cd10
                      refine at_seq (j := 31) (by kernel_rfl) ?_
                      refine at_region (id := 9) (by kernel_rfl) ?_
                      refine atR_seg (m := 3) (H := []) (ts := [10, 11]) (L' := [(10, .slice none 0 0), (11, .int .i64 (pkErr depth peck))]) (O := fun w => True) hs (by kernel_rfl) trivial ?_
                      clear hs a; intro a hs
                      refine atR_end (by kernel_rfl) ?_
                      refine wayN_node rfl ?_
                      refine at_ret (by kernel_rfl) ?_
                      refine at_end (vs := [.slice none 0 0, .int .i64 (pkErr depth peck)]) (H := []) (v := .tuple #[.slice none 0 0, .int .i64 (pkErr depth peck)]) (O := fun w => True) hs (by kernel_rfl) rfl trivial ?_
                      exact peck_no (by (unfold peckErr; dsimp only; (rw [hgood, cd1b, cd2b, cd3b, cd4b, cd5b, cd6b, cd7b, cd8b, cd9b]) <;> rfl)) (bne_iff_ne.1 cd10b) hB
                    · have cd10 := hb; have cd10b := hb; clear hb
                      replace cd10 := bne_eq_false_iff_eq.1 cd10
                      refine at_skip (by kernel_rfl) ?_
                      refine wayN_node rfl ?_
                      refine at_seq (j := 35) (by kernel_rfl) ?_
                      refine at_region (id := 10) (by kernel_rfl) ?_
                      refine atR_seg (m := 1) (H := []) (ts := [1, 5, 9, 12, 14]) (L' := [(1, .int .i64 top), (5, .pointer (some ⟨b1, 0, none⟩)), (9, .pointer (some ⟨b2, 0, none⟩)), (12, .slice A1 n c1), (14, .slice none 0 0)]) (O := fun w => True) hs (by kernel_rfl) trivial ?_
                      clear hs a; intro a hs
                      refine atR_end (by kernel_rfl) ?_
                      refine wayN_node rfl ?_
                      refine at_seq (j := 52) (by kernel_rfl) ?_
                      refine at_seq (j := 38) (by kernel_rfl) ?_
                      refine at_region (id := 11) (by kernel_rfl) ?_
                      refine atR_seg (m := 3) (H := []) (ts := [1, 5, 9, 14, 73, 74, 75]) (L' := [(1, .int .i64 top), (5, .pointer (some ⟨b1, 0, none⟩)), (9, .pointer (some ⟨b2, 0, none⟩)), (14, .slice none 0 0), (73, .slice A1 n c1), (74, .int .i64 (n : Int)), (75, .int .i64 0)]) (O := fun w => True) hs (by kernel_rfl) trivial ?_
                      clear hs a; intro a hs
                      refine atR_end (by kernel_rfl) ?_
                      refine wayN_node rfl ?_
                      refine at_block (id := 1) (by kernel_rfl) ?_
                      refine at_loop2 (fun (k : Nat) (v : Value) a' W => St 101 [(1, .int .i64 top), (5, .pointer (some ⟨b1, 0, none⟩)), (9, .pointer (some ⟨b2, 0, none⟩)), (14, v), (73, .slice A1 n c1), (74, .int .i64 (n : Int)), (75, .int .i64 (k : Int))] a' ∧ Blk W b1 30 #[.int .i64 x, .int .i64 y] ∧ Blk W b2 33 #[.int .i64 num, .int .i64 kind, .int .i64 rad, .int .i64 flu, .int .i64 hol, .int .i64 stp, .int .i64 fd, .int .i64 plu] ∧ Below w.heap.size w W ∧ RdU u1 W 1 (.slice A1 n c1) n ((pkList depth peck).map (Value.int .i64)) ∧ (k ≤ n) ∧ (W.ownsRow u1 48 7 v (2 * k) (peckCs (pkList depth peck) x y top plu k))) (fun k v => n - k) 0 (.slice none 0 0) (by kernel_rfl) ⟨hs.sub ⟨⟨_, rfl, rfl⟩, ⟨_, rfl, rfl⟩, ⟨_, rfl, rfl⟩, ⟨_, rfl, rfl⟩, ⟨_, rfl, rfl⟩, ⟨_, rfl, rfl⟩, ⟨_, rfl, (by first | rfl | (push_cast; rfl) | (congr 1; omega))⟩, trivial⟩, B1, B2, hB, R1, Nat.zero_le _, World.ownsRow_nil _ _ _ _⟩ ?_
                      clear hs a B1 B2 hB R1
                      intro k v a wr5 hI
                      obtain ⟨hs, B1, B2, hB, R1, hk, ho⟩ := hI
                      refine at_seq (j := 42) (by kernel_rfl) ?_
                      refine at_region (id := 12) (by kernel_rfl) ?_
                      refine atR_seg (m := 1) (H := []) (ts := [1, 5, 9, 14, 73, 74, 75, 76]) (L' := [(1, .int .i64 top), (5, .pointer (some ⟨b1, 0, none⟩)), (9, .pointer (some ⟨b2, 0, none⟩)), (14, v), (73, .slice A1 n c1), (74, .int .i64 (n : Int)), (75, .int .i64 (k : Int)), (76, .bool (decide ((k : Int) < (n : Int))))]) (O := fun w => True) hs (by kernel_rfl) trivial ?_
                      clear hs a; intro a hs
                      refine atR_end (by kernel_rfl) ?_
                      refine wayN_node rfl ?_
                      refine at_seq (j := 46) (by kernel_rfl) ?_
                      refine at_cond (t := 76) (j1 := 44) (j2 := 45) (b := decide ((k : Int) < (n : Int))) (by kernel_rfl) hs rfl (fun hb => ?_) (fun hb => ?_)
                      · have cd11 := hb; have cd11b := hb; clear hb
                        replace cd11 := of_decide_eq_true cd11
                        have hkn : k < n := by omega
                        refine at_skip (by kernel_rfl) ?_
                        refine wayN_node rfl ?_
                        refine at_seq (j := 51) (by kernel_rfl) ?_
                        refine at_block (id := 2) (by kernel_rfl) ?_
                        refine at_seq (j := 50) (by kernel_rfl) ?_
                        obtain ⟨p1, o1, d, hA1, hd, e1⟩ := R1.elem1 hln hkn
                        obtain ⟨g1, g2, g3, g4, g5, g6⟩ := pk_step h2 hd
                        subst hA1
                        refine at_region (id := 13) (by kernel_rfl) ?_
                        refine atR_seg (m := 3) (H := [(0, some (.pointer (some ⟨p1, o1 + k, none⟩)), []), (1, none, [.int .i64 d])]) (ts := [1, 5, 9, 14, 16, 73, 74, 75]) (L' := [(1, .int .i64 top), (5, .pointer (some ⟨b1, 0, none⟩)), (9, .pointer (some ⟨b2, 0, none⟩)), (14, v), (16, .int .i64 d), (73, .slice (some ⟨p1, o1, none⟩) n c1), (74, .int .i64 (n : Int)), (75, .int .i64 (k : Int))]) (O := fun w => (.pointer (some ⟨p1, o1 + ((k : Int)).toNat * 1, none⟩) = Value.pointer (some ⟨p1, o1 + k, none⟩)) ∧ ((0 : Int) ≤ (k : Int) ∧ (k : Int) < ((n : Nat) : Int)) ∧ (w.cell? ⟨p1, o1 + k, none⟩ = some (.int .i64 d)) ∧ True) hs (by kernel_rfl) ⟨by simp [Int.toNat_natCast], ⟨by omega, by omega⟩, e1.at0 rfl, trivial⟩ ?_
                        clear hs a; intro a hs
                        refine atR_end (by kernel_rfl) ?_
                        refine wayN_node rfl ?_
                        refine at_region (id := 14) (by kernel_rfl) ?_
                        refine atR_seg (m := 18) (H := [(2, none, [.int .i64 x]), (4, none, [.int .i64 y]), (6, some (.int .i64 (-d)), []), (9, none, [.int .i64 plu]), (12, none, [.int .i64 x]), (14, none, [.int .i64 y])]) (ts := [1, 5, 9, 73, 74, 75, 79, 89, 96]) (L' := [(1, .int .i64 top), (5, .pointer (some ⟨b1, 0, none⟩)), (9, .pointer (some ⟨b2, 0, none⟩)), (73, .slice (some ⟨p1, o1, none⟩) n c1), (74, .int .i64 (n : Int)), (75, .int .i64 (k : Int)), (79, v), (89, .agg #[.int .i64 2, .int .i64 x, .int .i64 y, .int .i64 (-d), .int .i64 0, .int .i64 0, .int .i64 plu]), (96, .agg #[.int .i64 1, .int .i64 x, .int .i64 y, .int .i64 top, .int .i64 0, .int .i64 0, .int .i64 0])]) (O := fun w => (w.cell? ⟨b1, 0, none⟩ = some (.int .i64 x)) ∧ (w.cell? ⟨b1, 1, none⟩ = some (.int .i64 y)) ∧ (Wn .i64 d) ∧ (w.cell? ⟨b2, 7, none⟩ = some (.int .i64 plu)) ∧ (w.cell? ⟨b1, 0, none⟩ = some (.int .i64 x)) ∧ (w.cell? ⟨b1, 1, none⟩ = some (.int .i64 y)) ∧ True) hs (by kernel_rfl) ⟨B1.cell 0 rfl, B1.cell 1 rfl, wn64 (by omega) (by omega), B2.cell 7 rfl, B1.cell 0 rfl, B1.cell 1 rfl, trivial⟩ ?_
                        clear hs a; intro a hs
                        refine atR_op hs (by kernel_rfl) (new1 (t := 48) (cs := #[.int .i64 2, .int .i64 x, .int .i64 y, .int .i64 (-d), .int .i64 0, .int .i64 0, .int .i64 plu, .int .i64 1, .int .i64 x, .int .i64 y, .int .i64 top, .int .i64 0, .int .i64 0, .int .i64 0]) (fun rb_ => .slice (some ⟨rb_, 0, none⟩) 2 2) [1, 5, 9, 73, 74, 75, 79, 97] (fun rb_ => [(1, .int .i64 top), (5, .pointer (some ⟨b1, 0, none⟩)), (9, .pointer (some ⟨b2, 0, none⟩)), (73, .slice (some ⟨p1, o1, none⟩) n c1), (74, .int .i64 (n : Int)), (75, .int .i64 (k : Int)), (79, v), (97, .slice (some ⟨rb_, 0, none⟩) 2 2)]) hs (fun _ => by kernel_rfl) (fun _ => by kernel_rfl) ?_)
                        clear hs a; intro a w6 b3 hn hs
                        have B3 := hn.blk
                        have l3 : w.heap.size ≤ b3 := by rw [hn.at_]; exact hB.size
                        have l3' : b2 < b3 := by rw [hn.at_]; exact B2.lt
                        have lu3R1 : u1 ≤ b3 := by rw [hn.at_]; exact R1.le
                        have lu3e1 : u1 ≤ b3 := by rw [hn.at_]; exact e1.le
                        replace B1 := B1.below hn.below B1.lt
                        replace B2 := B2.below hn.below B2.lt
                        replace ho := own_far ho hn.below
                        replace R1 := R1.below hn.below
                        replace e1 := e1.below hn.below
                        replace hB := later hB hn.below
                        clear hn
                        refine atR_op hs (by kernel_rfl) (append1 (v := v) (b := b3) (off := 0) (m := 2) (c := 2) (cs := [.int .i64 2, .int .i64 x, .int .i64 y, .int .i64 (-d), .int .i64 0, .int .i64 0, .int .i64 plu, .int .i64 1, .int .i64 x, .int .i64 y, .int .i64 top, .int .i64 0, .int .i64 0, .int .i64 0]) ((.tmp 79), (.tmp 97)) [1, 5, 9, 73, 74, 75, 98] (fun rv_ => [(1, .int .i64 top), (5, .pointer (some ⟨b1, 0, none⟩)), (9, .pointer (some ⟨b2, 0, none⟩)), (73, .slice (some ⟨p1, o1, none⟩) n c1), (74, .int .i64 (n : Int)), (75, .int .i64 (k : Int)), (98, rv_)]) hs (by kernel_rfl) rfl rfl (fun _ => by kernel_rfl) elem34 ho rfl (blk_row B3) (by simp [Value.oneCell']) (by unfold maxLen; omega) (by omega) (by have := R1.le; omega) ?_)
                        clear hs a; intro v12 a w7 ho13 hg hs
                        skip
                        replace B1 := own_keep_t hg ho B1 (by decide)
                        replace B2 := own_keep_t hg ho B2 (by decide)
                        replace R1 := R1.grown hg (fun kk hk => Nat.le_trans (by omega) (ho.lt kk hk).1)
                        replace e1 := e1.grown hg (fun kk hk => Nat.le_trans (by omega) (ho.lt kk hk).1)
                        replace hB := hB.grown hg hB.size (fun kk hk => Nat.le_trans (by omega) (ho.lt kk hk).1)
                        clear hg B3 ho
                        refine atR_seg (m := 1) (H := []) (ts := [1, 5, 9, 14, 73, 74, 75]) (L' := [(1, .int .i64 top), (5, .pointer (some ⟨b1, 0, none⟩)), (9, .pointer (some ⟨b2, 0, none⟩)), (14, v12), (73, .slice (some ⟨p1, o1, none⟩) n c1), (74, .int .i64 (n : Int)), (75, .int .i64 (k : Int))]) (O := fun w => True) hs (by kernel_rfl) trivial ?_
                        clear hs a; intro a hs
                        refine atR_end (by kernel_rfl) ?_
                        refine wayN_node rfl ?_
                        refine at_region (id := 15) (by kernel_rfl) ?_
                        refine atR_seg (m := 2) (H := [(0, some (.int .i64 ((k : Int) + 1)), [])]) (ts := [1, 5, 9, 14, 73, 74, 75]) (L' := [(1, .int .i64 top), (5, .pointer (some ⟨b1, 0, none⟩)), (9, .pointer (some ⟨b2, 0, none⟩)), (14, v12), (73, .slice (some ⟨p1, o1, none⟩) n c1), (74, .int .i64 (n : Int)), (75, .int .i64 ((k : Int) + 1))]) (O := fun w => (W .i64 ((k : Int) + 1)) ∧ True) hs (by kernel_rfl) ⟨w64 (by omega) (by omega), trivial⟩ ?_
                        clear hs a; intro a hs
                        refine atR_end (by kernel_rfl) ?_
                        refine wayN_back ?_
                        dsimp only [lpOf]
                        exact ⟨k + 1, v12, ⟨hs.sub ⟨⟨_, rfl, rfl⟩, ⟨_, rfl, rfl⟩, ⟨_, rfl, rfl⟩, ⟨_, rfl, rfl⟩, ⟨_, rfl, (by first | rfl | (push_cast; rfl) | (congr 1; omega))⟩, ⟨_, rfl, rfl⟩, ⟨_, rfl, (by first | rfl | (push_cast; rfl) | (congr 1; omega))⟩, trivial⟩, B1, B2, hB, R1, by omega, by rw [peckCs_succ hd, show 2 * (k + 1) = 2 * k + 2 from rfl]; simpa [List.append_assoc] using ho13⟩, by omega⟩
                      · have cd11 := hb; have cd11b := hb; clear hb
                        replace cd11 := of_decide_eq_false cd11
                        refine at_exit (id := 1) (by kernel_rfl) (wayE_ok rfl ?_)
                        refine wayN_node rfl ?_
                        refine at_seq (j := 54) (by kernel_rfl) ?_
                        refine at_region (id := 16) (by kernel_rfl) ?_
                        refine atR_seg (m := 3) (H := []) (ts := [10, 11]) (L' := [(10, v), (11, .int .i64 0)]) (O := fun w => True) hs (by kernel_rfl) trivial ?_
                        clear hs a; intro a hs
                        refine atR_end (by kernel_rfl) ?_
                        refine wayN_node rfl ?_
                        refine at_ret (by kernel_rfl) ?_
                        refine at_end (vs := [v, .int .i64 0]) (H := []) (v := .tuple #[v, .int .i64 0]) (O := fun w => True) hs (by kernel_rfl) rfl trivial ?_
                        have hkk : k = n := by omega
                        subst hkk
                        exact peck_yes (show peckErr (⟨num, kind, rad, flu, hol, stp, fd, plu⟩ : Tl) x y top depth peck = 0 from by rw [show peckErr (⟨num, kind, rad, flu, hol, stp, fd, plu⟩ : Tl) x y top depth peck = pkErr depth peck from by (unfold peckErr; dsimp only; (rw [hgood, cd1b, cd2b, cd3b, cd4b, cd5b, cd6b, cd7b, cd8b, cd9b]) <;> rfl)]; exact bne_eq_false_iff_eq.1 cd10b) hln (Rd.of_own (by decide) ho) hB
theorem peck_any (t : Tl) (x y top depth peck : Int) (w : World) (h1 : -9223372036854775808 ≤ depth) (h2 : depth ≤ 9223372036854775807) (h3 : -9223372036854775808 ≤ peck) (h4 : peck ≤ 9223372036854775807) (HN : Nms w) (HK : t.ok) :
    Calls Tryd.prog 19 #[.agg #[.int .i64 x, .int .i64 y], .int .i64 top, .int .i64 depth, .int .i64 peck, t.v] w (PeckPost t x y top depth peck w) := by
  obtain ⟨num, kind, rad, flu, hol, stp, fd, plu⟩ := t
  cases hg : (⟨num, kind, rad, flu, hol, stp, fd, plu⟩ : Tl).good with
  | false => exact peck_bad x y top depth peck num kind rad flu hol stp fd plu w h1 h2 h3 h4 HN HK hg
  | true => exact peck_good x y top depth peck num kind rad flu hol stp fd plu w h1 h2 h3 h4 HN HK hg
noncomputable def body20 : Code := Tryd.f20.body.getD .skip
set_option maxHeartbeats 2000000 in
theorem rpeck_bad (x y top depth peck num kind rad flu hol stp fd plu : Int) (w : World) (h1 : -9223372036854775808 ≤ depth) (h2 : depth ≤ 9223372036854775807) (h3 : -9223372036854775808 ≤ peck) (h4 : peck ≤ 9223372036854775807) (hgood : (⟨num, kind, rad, flu, hol, stp, fd, plu⟩ : Tl).good = false) :
    Calls Tryd.prog 20 #[.agg #[.int .i64 x, .int .i64 y], .int .i64 top, .int .i64 depth, .int .i64 peck, (⟨num, kind, rad, flu, hol, stp, fd, plu⟩ : Tl).v] w (PeckPost (⟨num, kind, rad, flu, hol, stp, fd, plu⟩ : Tl) x y top depth peck w) := by
  have e1_ : decide (depth < 1) = decide (depth ≤ 0) := by congr 1; apply propext; omega
  have e2_ : decide (peck < 1) = decide (peck ≤ 0) := by congr 1; apply propext; omega
  obtain ⟨n, hln⟩ : ∃ n, (pkList depth peck).length = n := ⟨_, rfl⟩
  have hn1000 : n ≤ 1000 := by rw [← hln]; exact pkList_len _ _
  have hB : Below w.heap.size w w := Below.refl _ _
  refine enter (B := body20) (args := [.agg #[.int .i64 x, .int .i64 y], .int .i64 top, .int .i64 depth, .int .i64 peck, .agg #[.int .i64 num, .int .i64 kind, .int .i64 rad, .int .i64 flu, .int .i64 hol, .int .i64 stp, .int .i64 fd, .int .i64 plu]]) Tryd.func20 (by kernel_rfl) (by kernel_rfl) ?_
  rw [show Tryd.f20.ntmps = 98 from by kernel_rfl]
  intro a hs
  replace hs := hs.pick (ts := [0, 1, 2, 3, 4]) (L' := [(0, .agg #[.int .i64 x, .int .i64 y]), (1, .int .i64 top), (2, .int .i64 depth), (3, .int .i64 peck), (4, .agg #[.int .i64 num, .int .i64 kind, .int .i64 rad, .int .i64 flu, .int .i64 hol, .int .i64 stp, .int .i64 fd, .int .i64 plu])]) (by kernel_rfl)
  refine at_seq (j := 2) (by kernel_rfl) ?_
  refine at_region (id := 0) (by kernel_rfl) ?_
  refine atR_op hs (by kernel_rfl) (new1 (t := 30) (cs := #[.int .i64 x, .int .i64 y]) (fun rb_ => .pointer (some ⟨rb_, 0, none⟩)) [1, 2, 3, 4, 5] (fun rb_ => [(1, .int .i64 top), (2, .int .i64 depth), (3, .int .i64 peck), (4, .agg #[.int .i64 num, .int .i64 kind, .int .i64 rad, .int .i64 flu, .int .i64 hol, .int .i64 stp, .int .i64 fd, .int .i64 plu]), (5, .pointer (some ⟨rb_, 0, none⟩))]) hs (fun _ => by kernel_rfl) (fun _ => by kernel_rfl) ?_)
  clear hs a; intro a w1 b1 hn hs
  have B1 := hn.blk
  have l1 : w.heap.size ≤ b1 := by rw [hn.at_]; exact hB.size
  replace hB := later hB hn.below
  clear hn
  refine atR_op hs (by kernel_rfl) (new1 (t := 33) (cs := #[.int .i64 num, .int .i64 kind, .int .i64 rad, .int .i64 flu, .int .i64 hol, .int .i64 stp, .int .i64 fd, .int .i64 plu]) (fun rb_ => .pointer (some ⟨rb_, 0, none⟩)) [1, 2, 3, 5, 9] (fun rb_ => [(1, .int .i64 top), (2, .int .i64 depth), (3, .int .i64 peck), (5, .pointer (some ⟨b1, 0, none⟩)), (9, .pointer (some ⟨rb_, 0, none⟩))]) hs (fun _ => by kernel_rfl) (fun _ => by kernel_rfl) ?_)
  clear hs a; intro a w2 b2 hn hs
  have B2 := hn.blk
  have l2 : w.heap.size ≤ b2 := by rw [hn.at_]; exact hB.size
  have l2' : b1 < b2 := by rw [hn.at_]; exact B1.lt
  replace B1 := B1.below hn.below B1.lt
  replace hB := later hB hn.below
  clear hn
  refine atR_seg (m := 2) (H := []) (ts := [1, 2, 3, 5, 9]) (L' := [(1, .int .i64 top), (2, .int .i64 depth), (3, .int .i64 peck), (5, .pointer (some ⟨b1, 0, none⟩)), (9, .pointer (some ⟨b2, 0, none⟩))]) (O := fun w => True) hs (by kernel_rfl) trivial ?_
  clear hs a; intro a hs
  refine atR_end (by kernel_rfl) ?_
  refine wayN_node rfl ?_
  refine at_seq (j := 10) (by kernel_rfl) ?_
  refine at_seq (j := 5) (by kernel_rfl) ?_
  refine at_region (id := 1) (by kernel_rfl) ?_
  refine atR_seg (m := 1) (H := [(0, none, [.int .i64 num, .int .i64 kind, .int .i64 rad, .int .i64 flu, .int .i64 hol, .int .i64 stp, .int .i64 fd, .int .i64 plu])]) (ts := [1, 2, 3, 5, 9, 16]) (L' := [(1, .int .i64 top), (2, .int .i64 depth), (3, .int .i64 peck), (5, .pointer (some ⟨b1, 0, none⟩)), (9, .pointer (some ⟨b2, 0, none⟩)), (16, .agg #[.int .i64 num, .int .i64 kind, .int .i64 rad, .int .i64 flu, .int .i64 hol, .int .i64 stp, .int .i64 fd, .int .i64 plu])]) (O := fun w => (w.cell? ⟨b2, 0, none⟩ = some (.int .i64 num)) ∧ (w.cell? ⟨b2, 1, none⟩ = some (.int .i64 kind)) ∧ (w.cell? ⟨b2, 2, none⟩ = some (.int .i64 rad)) ∧ (w.cell? ⟨b2, 3, none⟩ = some (.int .i64 flu)) ∧ (w.cell? ⟨b2, 4, none⟩ = some (.int .i64 hol)) ∧ (w.cell? ⟨b2, 5, none⟩ = some (.int .i64 stp)) ∧ (w.cell? ⟨b2, 6, none⟩ = some (.int .i64 fd)) ∧ (w.cell? ⟨b2, 7, none⟩ = some (.int .i64 plu)) ∧ True) hs (by kernel_rfl) ⟨B2.cell 0 rfl, B2.cell 1 rfl, B2.cell 2 rfl, B2.cell 3 rfl, B2.cell 4 rfl, B2.cell 5 rfl, B2.cell 6 rfl, B2.cell 7 rfl, trivial⟩ ?_
  clear hs a; intro a hs
  refine atR_op hs (by kernel_rfl) (call1 (f := 18) (args := #[.agg #[.int .i64 num, .int .i64 kind, .int .i64 rad, .int .i64 flu, .int .i64 hol, .int .i64 stp, .int .i64 fd, .int .i64 plu]]) [1, 2, 3, 5, 9, 17] (fun rv_ => [(1, .int .i64 top), (2, .int .i64 depth), (3, .int .i64 peck), (5, .pointer (some ⟨b1, 0, none⟩)), (9, .pointer (some ⟨b2, 0, none⟩)), (17, rv_)]) hs (by kernel_rfl) (fun _ => by kernel_rfl) ?_)
  refine (good_any (⟨num, kind, rad, flu, hol, stp, fd, plu⟩ : Tl) _).mono ?_
  rintro e w3 ⟨rfl, hb⟩
  rw [hgood]
  refine ⟨_, rfl, ?_⟩
  clear hs a; intro a hs
  replace B1 := B1.below hb B1.lt
  replace B2 := B2.below hb B2.lt
  replace hB := later hB hb
  clear hb
  refine atR_seg (m := 18) (H := []) (ts := [1, 2, 3, 5, 9, 35]) (L' := [(1, .int .i64 top), (2, .int .i64 depth), (3, .int .i64 peck), (5, .pointer (some ⟨b1, 0, none⟩)), (9, .pointer (some ⟨b2, 0, none⟩)), (35, .bool true)]) (O := fun w => True) hs (by kernel_rfl) trivial ?_
  clear hs a; intro a hs
  refine atR_end (by kernel_rfl) ?_
  refine wayN_node rfl ?_
  refine at_cond (t := 35) (j1 := 6) (j2 := 9) (b := true) (by kernel_rfl) hs rfl (fun _ => ?_) (fun hb => absurd (hb.symm.trans (show (true) = true from rfl)) (by decide))
  refine at_seq (j := 8) (by kernel_rfl) ?_
  refine at_region (id := 2) (by kernel_rfl) ?_
  refine atR_seg (m := 2) (H := []) (ts := [10, 11]) (L' := [(10, .slice none 0 0), (11, .int .i64 1)]) (O := fun w => True) hs (by kernel_rfl) trivial ?_
  clear hs a; intro a hs
  refine atR_end (by kernel_rfl) ?_
  refine wayN_node rfl ?_
  refine at_ret (by kernel_rfl) ?_
  refine at_end (vs := [.slice none 0 0, .int .i64 1]) (H := []) (v := .tuple #[.slice none 0 0, .int .i64 1]) (O := fun w => True) hs (by kernel_rfl) rfl trivial ?_
  exact peck_no (show peckErr (⟨num, kind, rad, flu, hol, stp, fd, plu⟩ : Tl) x y top depth peck = 1 from by (unfold peckErr; dsimp only; (rw [e1_, e2_, hgood]) <;> rfl)) (by decide) hB
set_option maxHeartbeats 2000000 in
theorem rpeck_good (x y top depth peck num kind rad flu hol stp fd plu : Int) (w : World) (h1 : -9223372036854775808 ≤ depth) (h2 : depth ≤ 9223372036854775807) (h3 : -9223372036854775808 ≤ peck) (h4 : peck ≤ 9223372036854775807) (hgood : (⟨num, kind, rad, flu, hol, stp, fd, plu⟩ : Tl).good = true) :
    Calls Tryd.prog 20 #[.agg #[.int .i64 x, .int .i64 y], .int .i64 top, .int .i64 depth, .int .i64 peck, (⟨num, kind, rad, flu, hol, stp, fd, plu⟩ : Tl).v] w (PeckPost (⟨num, kind, rad, flu, hol, stp, fd, plu⟩ : Tl) x y top depth peck w) := by
  have e1_ : decide (depth < 1) = decide (depth ≤ 0) := by congr 1; apply propext; omega
  have e2_ : decide (peck < 1) = decide (peck ≤ 0) := by congr 1; apply propext; omega
  obtain ⟨n, hln⟩ : ∃ n, (pkList depth peck).length = n := ⟨_, rfl⟩
  have hn1000 : n ≤ 1000 := by rw [← hln]; exact pkList_len _ _
  have hB : Below w.heap.size w w := Below.refl _ _
  refine enter (B := body20) (args := [.agg #[.int .i64 x, .int .i64 y], .int .i64 top, .int .i64 depth, .int .i64 peck, .agg #[.int .i64 num, .int .i64 kind, .int .i64 rad, .int .i64 flu, .int .i64 hol, .int .i64 stp, .int .i64 fd, .int .i64 plu]]) Tryd.func20 (by kernel_rfl) (by kernel_rfl) ?_
  rw [show Tryd.f20.ntmps = 98 from by kernel_rfl]
  intro a hs
  replace hs := hs.pick (ts := [0, 1, 2, 3, 4]) (L' := [(0, .agg #[.int .i64 x, .int .i64 y]), (1, .int .i64 top), (2, .int .i64 depth), (3, .int .i64 peck), (4, .agg #[.int .i64 num, .int .i64 kind, .int .i64 rad, .int .i64 flu, .int .i64 hol, .int .i64 stp, .int .i64 fd, .int .i64 plu])]) (by kernel_rfl)
  refine at_seq (j := 2) (by kernel_rfl) ?_
  refine at_region (id := 0) (by kernel_rfl) ?_
  refine atR_op hs (by kernel_rfl) (new1 (t := 30) (cs := #[.int .i64 x, .int .i64 y]) (fun rb_ => .pointer (some ⟨rb_, 0, none⟩)) [1, 2, 3, 4, 5] (fun rb_ => [(1, .int .i64 top), (2, .int .i64 depth), (3, .int .i64 peck), (4, .agg #[.int .i64 num, .int .i64 kind, .int .i64 rad, .int .i64 flu, .int .i64 hol, .int .i64 stp, .int .i64 fd, .int .i64 plu]), (5, .pointer (some ⟨rb_, 0, none⟩))]) hs (fun _ => by kernel_rfl) (fun _ => by kernel_rfl) ?_)
  clear hs a; intro a w1 b1 hn hs
  have B1 := hn.blk
  have l1 : w.heap.size ≤ b1 := by rw [hn.at_]; exact hB.size
  replace hB := later hB hn.below
  clear hn
  refine atR_op hs (by kernel_rfl) (new1 (t := 33) (cs := #[.int .i64 num, .int .i64 kind, .int .i64 rad, .int .i64 flu, .int .i64 hol, .int .i64 stp, .int .i64 fd, .int .i64 plu]) (fun rb_ => .pointer (some ⟨rb_, 0, none⟩)) [1, 2, 3, 5, 9] (fun rb_ => [(1, .int .i64 top), (2, .int .i64 depth), (3, .int .i64 peck), (5, .pointer (some ⟨b1, 0, none⟩)), (9, .pointer (some ⟨rb_, 0, none⟩))]) hs (fun _ => by kernel_rfl) (fun _ => by kernel_rfl) ?_)
  clear hs a; intro a w2 b2 hn hs
  have B2 := hn.blk
  have l2 : w.heap.size ≤ b2 := by rw [hn.at_]; exact hB.size
  have l2' : b1 < b2 := by rw [hn.at_]; exact B1.lt
  replace B1 := B1.below hn.below B1.lt
  replace hB := later hB hn.below
  clear hn
  refine atR_seg (m := 2) (H := []) (ts := [1, 2, 3, 5, 9]) (L' := [(1, .int .i64 top), (2, .int .i64 depth), (3, .int .i64 peck), (5, .pointer (some ⟨b1, 0, none⟩)), (9, .pointer (some ⟨b2, 0, none⟩))]) (O := fun w => True) hs (by kernel_rfl) trivial ?_
  clear hs a; intro a hs
  refine atR_end (by kernel_rfl) ?_
  refine wayN_node rfl ?_
  refine at_seq (j := 10) (by kernel_rfl) ?_
  refine at_seq (j := 5) (by kernel_rfl) ?_
  refine at_region (id := 1) (by kernel_rfl) ?_
  refine atR_seg (m := 1) (H := [(0, none, [.int .i64 num, .int .i64 kind, .int .i64 rad, .int .i64 flu, .int .i64 hol, .int .i64 stp, .int .i64 fd, .int .i64 plu])]) (ts := [1, 2, 3, 5, 9, 16]) (L' := [(1, .int .i64 top), (2, .int .i64 depth), (3, .int .i64 peck), (5, .pointer (some ⟨b1, 0, none⟩)), (9, .pointer (some ⟨b2, 0, none⟩)), (16, .agg #[.int .i64 num, .int .i64 kind, .int .i64 rad, .int .i64 flu, .int .i64 hol, .int .i64 stp, .int .i64 fd, .int .i64 plu])]) (O := fun w => (w.cell? ⟨b2, 0, none⟩ = some (.int .i64 num)) ∧ (w.cell? ⟨b2, 1, none⟩ = some (.int .i64 kind)) ∧ (w.cell? ⟨b2, 2, none⟩ = some (.int .i64 rad)) ∧ (w.cell? ⟨b2, 3, none⟩ = some (.int .i64 flu)) ∧ (w.cell? ⟨b2, 4, none⟩ = some (.int .i64 hol)) ∧ (w.cell? ⟨b2, 5, none⟩ = some (.int .i64 stp)) ∧ (w.cell? ⟨b2, 6, none⟩ = some (.int .i64 fd)) ∧ (w.cell? ⟨b2, 7, none⟩ = some (.int .i64 plu)) ∧ True) hs (by kernel_rfl) ⟨B2.cell 0 rfl, B2.cell 1 rfl, B2.cell 2 rfl, B2.cell 3 rfl, B2.cell 4 rfl, B2.cell 5 rfl, B2.cell 6 rfl, B2.cell 7 rfl, trivial⟩ ?_
  clear hs a; intro a hs
  refine atR_op hs (by kernel_rfl) (call1 (f := 18) (args := #[.agg #[.int .i64 num, .int .i64 kind, .int .i64 rad, .int .i64 flu, .int .i64 hol, .int .i64 stp, .int .i64 fd, .int .i64 plu]]) [1, 2, 3, 5, 9, 17] (fun rv_ => [(1, .int .i64 top), (2, .int .i64 depth), (3, .int .i64 peck), (5, .pointer (some ⟨b1, 0, none⟩)), (9, .pointer (some ⟨b2, 0, none⟩)), (17, rv_)]) hs (by kernel_rfl) (fun _ => by kernel_rfl) ?_)
  refine (good_any (⟨num, kind, rad, flu, hol, stp, fd, plu⟩ : Tl) _).mono ?_
  rintro e w3 ⟨rfl, hb⟩
  rw [hgood]
  refine ⟨_, rfl, ?_⟩
  clear hs a; intro a hs
  replace B1 := B1.below hb B1.lt
  replace B2 := B2.below hb B2.lt
  replace hB := later hB hb
  clear hb
  refine atR_seg (m := 7) (H := [(5, none, [.int .i64 kind])]) (ts := [1, 2, 3, 5, 9, 24]) (L' := [(1, .int .i64 top), (2, .int .i64 depth), (3, .int .i64 peck), (5, .pointer (some ⟨b1, 0, none⟩)), (9, .pointer (some ⟨b2, 0, none⟩)), (24, .bool (kind != 2))]) (O := fun w => (w.cell? ⟨b2, 1, none⟩ = some (.int .i64 kind)) ∧ True) hs (by kernel_rfl) ⟨B2.cell 1 rfl, trivial⟩ ?_
  clear hs a; intro a hs
  rcases Bool.eq_false_or_eq_true (kind != 2) with hb | hb
  · replace hs := hs.know (t := 24) rfl hb
    have cd1 := hb; have cd1b := hb; clear hb
    replace cd1 := bne_iff_ne.1 cd1
    replace hs := hs.pick (ts := [1, 2, 3, 5, 9, 24]) (L' := [(1, .int .i64 top), (2, .int .i64 depth), (3, .int .i64 peck), (5, .pointer (some ⟨b1, 0, none⟩)), (9, .pointer (some ⟨b2, 0, none⟩)), (24, .bool true)]) (by kernel_rfl)
    refine atR_seg (m := 11) (H := []) (ts := [1, 2, 3, 5, 9, 35]) (L' := [(1, .int .i64 top), (2, .int .i64 depth), (3, .int .i64 peck), (5, .pointer (some ⟨b1, 0, none⟩)), (9, .pointer (some ⟨b2, 0, none⟩)), (35, .bool true)]) (O := fun w => True) hs (by kernel_rfl) trivial ?_
    clear hs a; intro a hs
    refine atR_end (by kernel_rfl) ?_
    refine wayN_node rfl ?_
    refine at_cond (t := 35) (j1 := 6) (j2 := 9) (b := true) (by kernel_rfl) hs rfl (fun _ => ?_) (fun hb => absurd (hb.symm.trans (show (true) = true from rfl)) (by decide))
    refine at_seq (j := 8) (by kernel_rfl) ?_
    refine at_region (id := 2) (by kernel_rfl) ?_
    refine atR_seg (m := 2) (H := []) (ts := [10, 11]) (L' := [(10, .slice none 0 0), (11, .int .i64 1)]) (O := fun w => True) hs (by kernel_rfl) trivial ?_
    clear hs a; intro a hs
    refine atR_end (by kernel_rfl) ?_
    refine wayN_node rfl ?_
    refine at_ret (by kernel_rfl) ?_
    refine at_end (vs := [.slice none 0 0, .int .i64 1]) (H := []) (v := .tuple #[.slice none 0 0, .int .i64 1]) (O := fun w => True) hs (by kernel_rfl) rfl trivial ?_
    exact peck_no (show peckErr (⟨num, kind, rad, flu, hol, stp, fd, plu⟩ : Tl) x y top depth peck = 1 from by (unfold peckErr; dsimp only; (rw [e1_, e2_, hgood, cd1b]) <;> rfl)) (by decide) hB
  · replace hs := hs.know (t := 24) rfl hb
    have cd1 := hb; have cd1b := hb; clear hb
    replace cd1 := bne_eq_false_iff_eq.1 cd1
    replace hs := hs.pick (ts := [1, 2, 3, 5, 9, 24]) (L' := [(1, .int .i64 top), (2, .int .i64 depth), (3, .int .i64 peck), (5, .pointer (some ⟨b1, 0, none⟩)), (9, .pointer (some ⟨b2, 0, none⟩)), (24, .bool false)]) (by kernel_rfl)
    refine atR_seg (m := 4) (H := []) (ts := [1, 2, 3, 5, 9, 28]) (L' := [(1, .int .i64 top), (2, .int .i64 depth), (3, .int .i64 peck), (5, .pointer (some ⟨b1, 0, none⟩)), (9, .pointer (some ⟨b2, 0, none⟩)), (28, .bool (decide (top < 0)))]) (O := fun w => True) hs (by kernel_rfl) trivial ?_
    clear hs a; intro a hs
    rcases Bool.eq_false_or_eq_true (decide (top < 0)) with hb | hb
    · replace hs := hs.know (t := 28) rfl hb
      have cd2 := hb; have cd2b := hb; clear hb
      replace cd2 := of_decide_eq_true cd2
      replace hs := hs.pick (ts := [1, 2, 3, 5, 9, 28]) (L' := [(1, .int .i64 top), (2, .int .i64 depth), (3, .int .i64 peck), (5, .pointer (some ⟨b1, 0, none⟩)), (9, .pointer (some ⟨b2, 0, none⟩)), (28, .bool true)]) (by kernel_rfl)
      refine atR_seg (m := 7) (H := []) (ts := [1, 2, 3, 5, 9, 35]) (L' := [(1, .int .i64 top), (2, .int .i64 depth), (3, .int .i64 peck), (5, .pointer (some ⟨b1, 0, none⟩)), (9, .pointer (some ⟨b2, 0, none⟩)), (35, .bool true)]) (O := fun w => True) hs (by kernel_rfl) trivial ?_
      clear hs a; intro a hs
      refine atR_end (by kernel_rfl) ?_
      refine wayN_node rfl ?_
      refine at_cond (t := 35) (j1 := 6) (j2 := 9) (b := true) (by kernel_rfl) hs rfl (fun _ => ?_) (fun hb => absurd (hb.symm.trans (show (true) = true from rfl)) (by decide))
      refine at_seq (j := 8) (by kernel_rfl) ?_
      refine at_region (id := 2) (by kernel_rfl) ?_
      refine atR_seg (m := 2) (H := []) (ts := [10, 11]) (L' := [(10, .slice none 0 0), (11, .int .i64 1)]) (O := fun w => True) hs (by kernel_rfl) trivial ?_
      clear hs a; intro a hs
      refine atR_end (by kernel_rfl) ?_
      refine wayN_node rfl ?_
      refine at_ret (by kernel_rfl) ?_
      refine at_end (vs := [.slice none 0 0, .int .i64 1]) (H := []) (v := .tuple #[.slice none 0 0, .int .i64 1]) (O := fun w => True) hs (by kernel_rfl) rfl trivial ?_
      exact peck_no (show peckErr (⟨num, kind, rad, flu, hol, stp, fd, plu⟩ : Tl) x y top depth peck = 1 from by (unfold peckErr; dsimp only; (rw [e1_, e2_, hgood, cd1b, cd2b]) <;> rfl)) (by decide) hB
    · replace hs := hs.know (t := 28) rfl hb
      have cd2 := hb; have cd2b := hb; clear hb
      replace cd2 := of_decide_eq_false cd2
      replace hs := hs.pick (ts := [1, 2, 3, 5, 9, 28]) (L' := [(1, .int .i64 top), (2, .int .i64 depth), (3, .int .i64 peck), (5, .pointer (some ⟨b1, 0, none⟩)), (9, .pointer (some ⟨b2, 0, none⟩)), (28, .bool false)]) (by kernel_rfl)
      refine atR_seg (m := 4) (H := []) (ts := [1, 2, 3, 5, 9, 32]) (L' := [(1, .int .i64 top), (2, .int .i64 depth), (3, .int .i64 peck), (5, .pointer (some ⟨b1, 0, none⟩)), (9, .pointer (some ⟨b2, 0, none⟩)), (32, .bool (decide (depth ≤ 0)))]) (O := fun w => True) hs (by kernel_rfl) trivial ?_
      clear hs a; intro a hs
      rcases Bool.eq_false_or_eq_true (decide (depth ≤ 0)) with hb | hb
      · replace hs := hs.know (t := 32) rfl hb
        have cd3 := hb; have cd3b := hb; clear hb
        replace cd3 := of_decide_eq_true cd3
        replace hs := hs.pick (ts := [1, 2, 3, 5, 9, 32]) (L' := [(1, .int .i64 top), (2, .int .i64 depth), (3, .int .i64 peck), (5, .pointer (some ⟨b1, 0, none⟩)), (9, .pointer (some ⟨b2, 0, none⟩)), (32, .bool true)]) (by kernel_rfl)
        refine atR_seg (m := 3) (H := []) (ts := [1, 2, 3, 5, 9, 35]) (L' := [(1, .int .i64 top), (2, .int .i64 depth), (3, .int .i64 peck), (5, .pointer (some ⟨b1, 0, none⟩)), (9, .pointer (some ⟨b2, 0, none⟩)), (35, .bool true)]) (O := fun w => True) hs (by kernel_rfl) trivial ?_
        clear hs a; intro a hs
        refine atR_end (by kernel_rfl) ?_
        refine wayN_node rfl ?_
        refine at_cond (t := 35) (j1 := 6) (j2 := 9) (b := true) (by kernel_rfl) hs rfl (fun _ => ?_) (fun hb => absurd (hb.symm.trans (show (true) = true from rfl)) (by decide))
        refine at_seq (j := 8) (by kernel_rfl) ?_
        refine at_region (id := 2) (by kernel_rfl) ?_
        refine atR_seg (m := 2) (H := []) (ts := [10, 11]) (L' := [(10, .slice none 0 0), (11, .int .i64 1)]) (O := fun w => True) hs (by kernel_rfl) trivial ?_
        clear hs a; intro a hs
        refine atR_end (by kernel_rfl) ?_
        refine wayN_node rfl ?_
        refine at_ret (by kernel_rfl) ?_
        refine at_end (vs := [.slice none 0 0, .int .i64 1]) (H := []) (v := .tuple #[.slice none 0 0, .int .i64 1]) (O := fun w => True) hs (by kernel_rfl) rfl trivial ?_
        exact peck_no (show peckErr (⟨num, kind, rad, flu, hol, stp, fd, plu⟩ : Tl) x y top depth peck = 1 from by (unfold peckErr; dsimp only; (rw [e1_, e2_, hgood, cd1b, cd2b, cd3b]) <;> rfl)) (by decide) hB
      · replace hs := hs.know (t := 32) rfl hb
        have cd3 := hb; have cd3b := hb; clear hb
        replace cd3 := of_decide_eq_false cd3
        replace hs := hs.pick (ts := [1, 2, 3, 5, 9, 32]) (L' := [(1, .int .i64 top), (2, .int .i64 depth), (3, .int .i64 peck), (5, .pointer (some ⟨b1, 0, none⟩)), (9, .pointer (some ⟨b2, 0, none⟩)), (32, .bool false)]) (by kernel_rfl)
        refine atR_seg (m := 3) (H := []) (ts := [1, 2, 3, 5, 9, 35]) (L' := [(1, .int .i64 top), (2, .int .i64 depth), (3, .int .i64 peck), (5, .pointer (some ⟨b1, 0, none⟩)), (9, .pointer (some ⟨b2, 0, none⟩)), (35, .bool (decide (peck ≤ 0)))]) (O := fun w => True) hs (by kernel_rfl) trivial ?_
        clear hs a; intro a hs
        refine atR_end (by kernel_rfl) ?_
        refine wayN_node rfl ?_
        refine at_cond (t := 35) (j1 := 6) (j2 := 9) (b := decide (peck ≤ 0)) (by kernel_rfl) hs rfl (fun hb => ?_) (fun hb => ?_)
        · have cd4 := hb; have cd4b := hb; clear hb
          replace cd4 := of_decide_eq_true cd4
          refine at_seq (j := 8) (by kernel_rfl) ?_
          refine at_region (id := 2) (by kernel_rfl) ?_
          refine atR_seg (m := 2) (H := []) (ts := [10, 11]) (L' := [(10, .slice none 0 0), (11, .int .i64 1)]) (O := fun w => True) hs (by kernel_rfl) trivial ?_
          clear hs a; intro a hs
          refine atR_end (by kernel_rfl) ?_
          refine wayN_node rfl ?_
          refine at_ret (by kernel_rfl) ?_
          refine at_end (vs := [.slice none 0 0, .int .i64 1]) (H := []) (v := .tuple #[.slice none 0 0, .int .i64 1]) (O := fun w => True) hs (by kernel_rfl) rfl trivial ?_
          exact peck_no (show peckErr (⟨num, kind, rad, flu, hol, stp, fd, plu⟩ : Tl) x y top depth peck = 1 from by (unfold peckErr; dsimp only; (rw [e1_, e2_, hgood, cd1b, cd2b, cd3b, cd4b]) <;> rfl)) (by decide) hB
        · have cd4 := hb; have cd4b := hb; clear hb
          replace cd4 := of_decide_eq_false cd4
          refine at_skip (by kernel_rfl) ?_
          refine wayN_node rfl ?_
          refine at_seq (j := 18) (by kernel_rfl) ?_
          refine at_seq (j := 13) (by kernel_rfl) ?_
          refine at_region (id := 3) (by kernel_rfl) ?_
          refine atR_seg (m := 4) (H := [(1, none, [.int .i64 flu])]) (ts := [1, 2, 3, 5, 9, 39]) (L' := [(1, .int .i64 top), (2, .int .i64 depth), (3, .int .i64 peck), (5, .pointer (some ⟨b1, 0, none⟩)), (9, .pointer (some ⟨b2, 0, none⟩)), (39, .bool (decide (flu < depth)))]) (O := fun w => (w.cell? ⟨b2, 3, none⟩ = some (.int .i64 flu)) ∧ True) hs (by kernel_rfl) ⟨B2.cell 3 rfl, trivial⟩ ?_
          clear hs a; intro a hs
          refine atR_end (by kernel_rfl) ?_
          refine wayN_node rfl ?_
          refine at_cond (t := 39) (j1 := 14) (j2 := 17) (b := decide (flu < depth)) (by kernel_rfl) hs rfl (fun hb => ?_) (fun hb => ?_)
          · have cd5 := hb; have cd5b := hb; clear hb
            replace cd5 := of_decide_eq_true cd5
            refine at_seq (j := 16) (by kernel_rfl) ?_
            refine at_region (id := 4) (by kernel_rfl) ?_
            refine atR_seg (m := 2) (H := []) (ts := [10, 11]) (L' := [(10, .slice none 0 0), (11, .int .i64 16)]) (O := fun w => True) hs (by kernel_rfl) trivial ?_
            clear hs a; intro a hs
            refine atR_end (by kernel_rfl) ?_
            refine wayN_node rfl ?_
            refine at_ret (by kernel_rfl) ?_
            refine at_end (vs := [.slice none 0 0, .int .i64 16]) (H := []) (v := .tuple #[.slice none 0 0, .int .i64 16]) (O := fun w => True) hs (by kernel_rfl) rfl trivial ?_
            exact peck_no (show peckErr (⟨num, kind, rad, flu, hol, stp, fd, plu⟩ : Tl) x y top depth peck = 16 from by (unfold peckErr; dsimp only; (rw [e1_, e2_, hgood, cd1b, cd2b, cd3b, cd4b, cd5b]) <;> rfl)) (by decide) hB
          · have cd5 := hb; have cd5b := hb; clear hb
            replace cd5 := of_decide_eq_false cd5
            refine at_skip (by kernel_rfl) ?_
            refine wayN_node rfl ?_
            refine at_seq (j := 26) (by kernel_rfl) ?_
            refine at_seq (j := 21) (by kernel_rfl) ?_
            refine at_region (id := 5) (by kernel_rfl) ?_
            refine atR_seg (m := 2) (H := [(1, none, [.int .i64 x])]) (ts := [1, 2, 3, 5, 9, 41]) (L' := [(1, .int .i64 top), (2, .int .i64 depth), (3, .int .i64 peck), (5, .pointer (some ⟨b1, 0, none⟩)), (9, .pointer (some ⟨b2, 0, none⟩)), (41, .int .i64 x)]) (O := fun w => (w.cell? ⟨b1, 0, none⟩ = some (.int .i64 x)) ∧ True) hs (by kernel_rfl) ⟨B1.cell 0 rfl, trivial⟩ ?_
            clear hs a; intro a hs
            refine atR_op hs (by kernel_rfl) (call1 (f := 30) (args := #[.int .i64 x]) [1, 2, 3, 5, 9, 42] (fun rv_ => [(1, .int .i64 top), (2, .int .i64 depth), (3, .int .i64 peck), (5, .pointer (some ⟨b1, 0, none⟩)), (9, .pointer (some ⟨b2, 0, none⟩)), (42, rv_)]) hs (by kernel_rfl) (fun _ => by kernel_rfl) ?_)
            refine (far_any _ _).mono ?_
            rintro e w' ⟨rfl, rfl⟩
            refine ⟨_, rfl, ?_⟩
            clear hs a; intro a hs
            refine atR_seg (m := 1) (H := []) (ts := [1, 2, 3, 5, 9, 43]) (L' := [(1, .int .i64 top), (2, .int .i64 depth), (3, .int .i64 peck), (5, .pointer (some ⟨b1, 0, none⟩)), (9, .pointer (some ⟨b2, 0, none⟩)), (43, .bool (!(insB x)))]) (O := fun w => True) hs (by kernel_rfl) trivial ?_
            clear hs a; intro a hs
            rcases Bool.eq_false_or_eq_true (!(insB x)) with hb | hb
            · replace hs := hs.know (t := 43) rfl hb
              have cd6 := hb; have cd6b := hb; clear hb
              replace hs := hs.pick (ts := [1, 2, 3, 5, 9, 43]) (L' := [(1, .int .i64 top), (2, .int .i64 depth), (3, .int .i64 peck), (5, .pointer (some ⟨b1, 0, none⟩)), (9, .pointer (some ⟨b2, 0, none⟩)), (43, .bool true)]) (by kernel_rfl)
              refine atR_seg (m := 12) (H := []) (ts := [1, 2, 3, 5, 9, 55]) (L' := [(1, .int .i64 top), (2, .int .i64 depth), (3, .int .i64 peck), (5, .pointer (some ⟨b1, 0, none⟩)), (9, .pointer (some ⟨b2, 0, none⟩)), (55, .bool true)]) (O := fun w => True) hs (by kernel_rfl) trivial ?_
              clear hs a; intro a hs
              refine atR_end (by kernel_rfl) ?_
              refine wayN_node rfl ?_
              refine at_cond (t := 55) (j1 := 22) (j2 := 25) (b := true) (by kernel_rfl) hs rfl (fun _ => ?_) (fun hb => absurd (hb.symm.trans (show (true) = true from rfl)) (by decide))
              refine at_seq (j := 24) (by kernel_rfl) ?_
              refine at_region (id := 6) (by kernel_rfl) ?_
              refine atR_seg (m := 2) (H := []) (ts := [10, 11]) (L' := [(10, .slice none 0 0), (11, .int .i64 11)]) (O := fun w => True) hs (by kernel_rfl) trivial ?_
              clear hs a; intro a hs
              refine atR_end (by kernel_rfl) ?_
              refine wayN_node rfl ?_
              refine at_ret (by kernel_rfl) ?_
              refine at_end (vs := [.slice none 0 0, .int .i64 11]) (H := []) (v := .tuple #[.slice none 0 0, .int .i64 11]) (O := fun w => True) hs (by kernel_rfl) rfl trivial ?_
              exact peck_no (show peckErr (⟨num, kind, rad, flu, hol, stp, fd, plu⟩ : Tl) x y top depth peck = 11 from by (unfold peckErr; dsimp only; (rw [e1_, e2_, hgood, cd1b, cd2b, cd3b, cd4b, cd5b, cd6b]) <;> rfl)) (by decide) hB
            · replace hs := hs.know (t := 43) rfl hb
              have cd6 := hb; have cd6b := hb; clear hb
              replace hs := hs.pick (ts := [1, 2, 3, 5, 9, 43]) (L' := [(1, .int .i64 top), (2, .int .i64 depth), (3, .int .i64 peck), (5, .pointer (some ⟨b1, 0, none⟩)), (9, .pointer (some ⟨b2, 0, none⟩)), (43, .bool false)]) (by kernel_rfl)
              refine atR_seg (m := 2) (H := [(5, none, [.int .i64 y])]) (ts := [1, 2, 3, 5, 9, 43, 45]) (L' := [(1, .int .i64 top), (2, .int .i64 depth), (3, .int .i64 peck), (5, .pointer (some ⟨b1, 0, none⟩)), (9, .pointer (some ⟨b2, 0, none⟩)), (43, .bool false), (45, .int .i64 y)]) (O := fun w => (w.cell? ⟨b1, 1, none⟩ = some (.int .i64 y)) ∧ True) hs (by kernel_rfl) ⟨B1.cell 1 rfl, trivial⟩ ?_
              clear hs a; intro a hs
              refine atR_op hs (by kernel_rfl) (call1 (f := 30) (args := #[.int .i64 y]) [1, 2, 3, 5, 9, 43, 46] (fun rv_ => [(1, .int .i64 top), (2, .int .i64 depth), (3, .int .i64 peck), (5, .pointer (some ⟨b1, 0, none⟩)), (9, .pointer (some ⟨b2, 0, none⟩)), (43, .bool false), (46, rv_)]) hs (by kernel_rfl) (fun _ => by kernel_rfl) ?_)
              refine (far_any _ _).mono ?_
              rintro e w' ⟨rfl, rfl⟩
              refine ⟨_, rfl, ?_⟩
              clear hs a; intro a hs
              refine atR_seg (m := 2) (H := []) (ts := [1, 2, 3, 5, 9, 48]) (L' := [(1, .int .i64 top), (2, .int .i64 depth), (3, .int .i64 peck), (5, .pointer (some ⟨b1, 0, none⟩)), (9, .pointer (some ⟨b2, 0, none⟩)), (48, .bool (!(insB y)))]) (O := fun w => True) hs (by kernel_rfl) trivial ?_
              clear hs a; intro a hs
              rcases Bool.eq_false_or_eq_true (!(insB y)) with hb | hb
              · replace hs := hs.know (t := 48) rfl hb
                have cd7 := hb; have cd7b := hb; clear hb
                replace hs := hs.pick (ts := [1, 2, 3, 5, 9, 48]) (L' := [(1, .int .i64 top), (2, .int .i64 depth), (3, .int .i64 peck), (5, .pointer (some ⟨b1, 0, none⟩)), (9, .pointer (some ⟨b2, 0, none⟩)), (48, .bool true)]) (by kernel_rfl)
                refine atR_seg (m := 7) (H := []) (ts := [1, 2, 3, 5, 9, 55]) (L' := [(1, .int .i64 top), (2, .int .i64 depth), (3, .int .i64 peck), (5, .pointer (some ⟨b1, 0, none⟩)), (9, .pointer (some ⟨b2, 0, none⟩)), (55, .bool true)]) (O := fun w => True) hs (by kernel_rfl) trivial ?_
                clear hs a; intro a hs
                refine atR_end (by kernel_rfl) ?_
                refine wayN_node rfl ?_
                refine at_cond (t := 55) (j1 := 22) (j2 := 25) (b := true) (by kernel_rfl) hs rfl (fun _ => ?_) (fun hb => absurd (hb.symm.trans (show (true) = true from rfl)) (by decide))
                refine at_seq (j := 24) (by kernel_rfl) ?_
                refine at_region (id := 6) (by kernel_rfl) ?_
                refine atR_seg (m := 2) (H := []) (ts := [10, 11]) (L' := [(10, .slice none 0 0), (11, .int .i64 11)]) (O := fun w => True) hs (by kernel_rfl) trivial ?_
                clear hs a; intro a hs
                refine atR_end (by kernel_rfl) ?_
                refine wayN_node rfl ?_
                refine at_ret (by kernel_rfl) ?_
                refine at_end (vs := [.slice none 0 0, .int .i64 11]) (H := []) (v := .tuple #[.slice none 0 0, .int .i64 11]) (O := fun w => True) hs (by kernel_rfl) rfl trivial ?_
                exact peck_no (show peckErr (⟨num, kind, rad, flu, hol, stp, fd, plu⟩ : Tl) x y top depth peck = 11 from by (unfold peckErr; dsimp only; (rw [e1_, e2_, hgood, cd1b, cd2b, cd3b, cd4b, cd5b, cd6b, cd7b]) <;> rfl)) (by decide) hB
              · replace hs := hs.know (t := 48) rfl hb
                have cd7 := hb; have cd7b := hb; clear hb
                replace hs := hs.pick (ts := [1, 2, 3, 5, 9, 48]) (L' := [(1, .int .i64 top), (2, .int .i64 depth), (3, .int .i64 peck), (5, .pointer (some ⟨b1, 0, none⟩)), (9, .pointer (some ⟨b2, 0, none⟩)), (48, .bool false)]) (by kernel_rfl)
                refine atR_seg (m := 1) (H := []) (ts := [1, 2, 3, 5, 9, 48, 49]) (L' := [(1, .int .i64 top), (2, .int .i64 depth), (3, .int .i64 peck), (5, .pointer (some ⟨b1, 0, none⟩)), (9, .pointer (some ⟨b2, 0, none⟩)), (48, .bool false), (49, .int .i64 top)]) (O := fun w => True) hs (by kernel_rfl) trivial ?_
                clear hs a; intro a hs
                refine atR_op hs (by kernel_rfl) (call1 (f := 30) (args := #[.int .i64 top]) [1, 2, 3, 5, 9, 48, 50] (fun rv_ => [(1, .int .i64 top), (2, .int .i64 depth), (3, .int .i64 peck), (5, .pointer (some ⟨b1, 0, none⟩)), (9, .pointer (some ⟨b2, 0, none⟩)), (48, .bool false), (50, rv_)]) hs (by kernel_rfl) (fun _ => by kernel_rfl) ?_)
                refine (far_any _ _).mono ?_
                rintro e w' ⟨rfl, rfl⟩
                refine ⟨_, rfl, ?_⟩
                clear hs a; intro a hs
                refine atR_seg (m := 2) (H := []) (ts := [1, 2, 3, 5, 9, 52]) (L' := [(1, .int .i64 top), (2, .int .i64 depth), (3, .int .i64 peck), (5, .pointer (some ⟨b1, 0, none⟩)), (9, .pointer (some ⟨b2, 0, none⟩)), (52, .bool (!(insB top)))]) (O := fun w => True) hs (by kernel_rfl) trivial ?_
                clear hs a; intro a hs
                rcases Bool.eq_false_or_eq_true (!(insB top)) with hb | hb
                · replace hs := hs.know (t := 52) rfl hb
                  have cd8 := hb; have cd8b := hb; clear hb
                  replace hs := hs.pick (ts := [1, 2, 3, 5, 9, 52]) (L' := [(1, .int .i64 top), (2, .int .i64 depth), (3, .int .i64 peck), (5, .pointer (some ⟨b1, 0, none⟩)), (9, .pointer (some ⟨b2, 0, none⟩)), (52, .bool true)]) (by kernel_rfl)
                  refine atR_seg (m := 3) (H := []) (ts := [1, 2, 3, 5, 9, 55]) (L' := [(1, .int .i64 top), (2, .int .i64 depth), (3, .int .i64 peck), (5, .pointer (some ⟨b1, 0, none⟩)), (9, .pointer (some ⟨b2, 0, none⟩)), (55, .bool true)]) (O := fun w => True) hs (by kernel_rfl) trivial ?_
                  clear hs a; intro a hs
                  refine atR_end (by kernel_rfl) ?_
                  refine wayN_node rfl ?_
                  refine at_cond (t := 55) (j1 := 22) (j2 := 25) (b := true) (by kernel_rfl) hs rfl (fun _ => ?_) (fun hb => absurd (hb.symm.trans (show (true) = true from rfl)) (by decide))
                  refine at_seq (j := 24) (by kernel_rfl) ?_
                  refine at_region (id := 6) (by kernel_rfl) ?_
                  refine atR_seg (m := 2) (H := []) (ts := [10, 11]) (L' := [(10, .slice none 0 0), (11, .int .i64 11)]) (O := fun w => True) hs (by kernel_rfl) trivial ?_
                  clear hs a; intro a hs
                  refine atR_end (by kernel_rfl) ?_
                  refine wayN_node rfl ?_
                  refine at_ret (by kernel_rfl) ?_
                  refine at_end (vs := [.slice none 0 0, .int .i64 11]) (H := []) (v := .tuple #[.slice none 0 0, .int .i64 11]) (O := fun w => True) hs (by kernel_rfl) rfl trivial ?_
                  exact peck_no (show peckErr (⟨num, kind, rad, flu, hol, stp, fd, plu⟩ : Tl) x y top depth peck = 11 from by (unfold peckErr; dsimp only; (rw [e1_, e2_, hgood, cd1b, cd2b, cd3b, cd4b, cd5b, cd6b, cd7b, cd8b]) <;> rfl)) (by decide) hB
                · replace hs := hs.know (t := 52) rfl hb
                  have cd8 := hb; have cd8b := hb; clear hb
                  replace hs := hs.pick (ts := [1, 2, 3, 5, 9, 52]) (L' := [(1, .int .i64 top), (2, .int .i64 depth), (3, .int .i64 peck), (5, .pointer (some ⟨b1, 0, none⟩)), (9, .pointer (some ⟨b2, 0, none⟩)), (52, .bool false)]) (by kernel_rfl)
                  refine atR_seg (m := 1) (H := []) (ts := [1, 2, 3, 5, 9, 52, 53]) (L' := [(1, .int .i64 top), (2, .int .i64 depth), (3, .int .i64 peck), (5, .pointer (some ⟨b1, 0, none⟩)), (9, .pointer (some ⟨b2, 0, none⟩)), (52, .bool false), (53, .int .i64 depth)]) (O := fun w => True) hs (by kernel_rfl) trivial ?_
                  clear hs a; intro a hs
                  refine atR_op hs (by kernel_rfl) (call1 (f := 30) (args := #[.int .i64 depth]) [1, 2, 3, 5, 9, 52, 54] (fun rv_ => [(1, .int .i64 top), (2, .int .i64 depth), (3, .int .i64 peck), (5, .pointer (some ⟨b1, 0, none⟩)), (9, .pointer (some ⟨b2, 0, none⟩)), (52, .bool false), (54, rv_)]) hs (by kernel_rfl) (fun _ => by kernel_rfl) ?_)
                  refine (far_any _ _).mono ?_
                  rintro e w' ⟨rfl, rfl⟩
                  refine ⟨_, rfl, ?_⟩
                  clear hs a; intro a hs
                  refine atR_seg (m := 1) (H := []) (ts := [1, 2, 3, 5, 9, 55]) (L' := [(1, .int .i64 top), (2, .int .i64 depth), (3, .int .i64 peck), (5, .pointer (some ⟨b1, 0, none⟩)), (9, .pointer (some ⟨b2, 0, none⟩)), (55, .bool (!(insB depth)))]) (O := fun w => True) hs (by kernel_rfl) trivial ?_
                  clear hs a; intro a hs
                  refine atR_end (by kernel_rfl) ?_
                  refine wayN_node rfl ?_
                  refine at_cond (t := 55) (j1 := 22) (j2 := 25) (b := !(insB depth)) (by kernel_rfl) hs rfl (fun hb => ?_) (fun hb => ?_)
                  · have cd9 := hb; have cd9b := hb; clear hb
                    refine at_seq (j := 24) (by kernel_rfl) ?_
                    refine at_region (id := 6) (by kernel_rfl) ?_
                    refine atR_seg (m := 2) (H := []) (ts := [10, 11]) (L' := [(10, .slice none 0 0), (11, .int .i64 11)]) (O := fun w => True) hs (by kernel_rfl) trivial ?_
                    clear hs a; intro a hs
                    refine atR_end (by kernel_rfl) ?_
                    refine wayN_node rfl ?_
                    refine at_ret (by kernel_rfl) ?_
                    refine at_end (vs := [.slice none 0 0, .int .i64 11]) (H := []) (v := .tuple #[.slice none 0 0, .int .i64 11]) (O := fun w => True) hs (by kernel_rfl) rfl trivial ?_
                    exact peck_no (show peckErr (⟨num, kind, rad, flu, hol, stp, fd, plu⟩ : Tl) x y top depth peck = 11 from by (unfold peckErr; dsimp only; (rw [e1_, e2_, hgood, cd1b, cd2b, cd3b, cd4b, cd5b, cd6b, cd7b, cd8b, cd9b]) <;> rfl)) (by decide) hB
                  · have cd9 := hb; have cd9b := hb; clear hb
                    refine at_skip (by kernel_rfl) ?_
                    refine wayN_node rfl ?_
                    refine at_seq (j := 28) (by kernel_rfl) ?_
                    refine at_region (id := 7) (by kernel_rfl) ?_
                    refine atR_seg (m := 2) (H := []) (ts := [1, 5, 9, 57, 58]) (L' := [(1, .int .i64 top), (5, .pointer (some ⟨b1, 0, none⟩)), (9, .pointer (some ⟨b2, 0, none⟩)), (57, .int .i64 depth), (58, .int .i64 peck)]) (O := fun w => True) hs (by kernel_rfl) trivial ?_
                    clear hs a; intro a hs
                    refine atR_op hs (by kernel_rfl) (call1 (f := 10) (args := #[.int .i64 depth, .int .i64 peck]) [1, 5, 9, 59] (fun rv_ => [(1, .int .i64 top), (5, .pointer (some ⟨b1, 0, none⟩)), (9, .pointer (some ⟨b2, 0, none⟩)), (59, rv_)]) hs (by kernel_rfl) (fun _ => by kernel_rfl) ?_)
                    refine (rpecks_any depth peck _ h1 h2 h3 h4).mono ?_
                    rintro e w4 ⟨vp, rfl, hrp, hb⟩
                    rw [hln] at hrp
                    obtain ⟨u1, hu1, R1⟩ := RdU.at_u hrp
                    obtain ⟨A1, c1, rfl, hnp⟩ := R1.form
                    have huw : w.heap.size ≤ u1 := by have := hB.size; have := hb.size; omega
                    clear hrp hu1
                    refine ⟨_, rfl, ?_⟩
                    clear hs a; intro a hs
                    replace B1 := B1.below hb B1.lt
                    replace B2 := B2.below hb B2.lt
                    replace hB := later hB hb
                    clear hb
                    refine atR_seg (m := 5) (H := []) (ts := [1, 5, 9, 12, 13]) (L' := [(1, .int .i64 top), (5, .pointer (some ⟨b1, 0, none⟩)), (9, .pointer (some ⟨b2, 0, none⟩)), (12, .slice A1 n c1), (13, .int .i64 (pkErr depth peck))]) (O := fun w => True) hs (by kernel_rfl) trivial ?_
                    clear hs a; intro a hs
                    refine atR_end (by kernel_rfl) ?_
                    refine wayN_node rfl ?_
                    refine at_seq (j := 36) (by kernel_rfl) ?_
                    refine at_seq (j := 31) (by kernel_rfl) ?_
                    refine at_region (id := 8) (by kernel_rfl) ?_
                    refine atR_seg (m := 2) (H := []) (ts := [1, 5, 9, 12, 13, 63]) (L' := [(1, .int .i64 top), (5, .pointer (some ⟨b1, 0, none⟩)), (9, .pointer (some ⟨b2, 0, none⟩)), (12, .slice A1 n c1), (13, .int .i64 (pkErr depth peck)), (63, .bool ((pkErr depth peck) != 0))]) (O := fun w => True) hs (by kernel_rfl) trivial ?_
                    clear hs a; intro a hs
                    refine atR_end (by kernel_rfl) ?_
                    refine wayN_node rfl ?_
                    refine at_cond (t := 63) (j1 := 32) (j2 := 35) (b := (pkErr depth peck) != 0) (by kernel_rfl) hs rfl (fun hb => ?_) (fun hb => ?_)
                    · have cd10 := hb; have cd10b := hb; clear hb
                      replace cd10 := bne_iff_ne.1 cd10
                      refine at_seq (j := 34) (by kernel_rfl) ?_
                      refine at_region (id := 9) (by kernel_rfl) ?_
                      refine atR_seg (m := 3) (H := []) (ts := [10, 11]) (L' := [(10, .slice none 0 0), (11, .int .i64 (pkErr depth peck))]) (O := fun w => True) hs (by kernel_rfl) trivial ?_
                      clear hs a; intro a hs
                      refine atR_end (by kernel_rfl) ?_
                      refine wayN_node rfl ?_
                      refine at_ret (by kernel_rfl) ?_
                      refine at_end (vs := [.slice none 0 0, .int .i64 (pkErr depth peck)]) (H := []) (v := .tuple #[.slice none 0 0, .int .i64 (pkErr depth peck)]) (O := fun w => True) hs (by kernel_rfl) rfl trivial ?_
                      exact peck_no (by (unfold peckErr; dsimp only; (rw [e1_, e2_, hgood, cd1b, cd2b, cd3b, cd4b, cd5b, cd6b, cd7b, cd8b, cd9b]) <;> rfl)) (bne_iff_ne.1 cd10b) hB
                    · have cd10 := hb; have cd10b := hb; clear hb
                      replace cd10 := bne_eq_false_iff_eq.1 cd10
                      refine at_skip (by kernel_rfl) ?_
                      refine wayN_node rfl ?_
                      refine at_seq (j := 38) (by kernel_rfl) ?_
                      refine at_region (id := 10) (by kernel_rfl) ?_
                      refine atR_seg (m := 1) (H := []) (ts := [1, 5, 9, 12, 14]) (L' := [(1, .int .i64 top), (5, .pointer (some ⟨b1, 0, none⟩)), (9, .pointer (some ⟨b2, 0, none⟩)), (12, .slice A1 n c1), (14, .slice none 0 0)]) (O := fun w => True) hs (by kernel_rfl) trivial ?_
                      clear hs a; intro a hs
                      refine atR_end (by kernel_rfl) ?_
                      refine wayN_node rfl ?_
                      refine at_seq (j := 55) (by kernel_rfl) ?_
                      refine at_seq (j := 41) (by kernel_rfl) ?_
                      refine at_region (id := 11) (by kernel_rfl) ?_
                      refine atR_seg (m := 1) (H := []) (ts := [1, 5, 9, 12, 14, 15]) (L' := [(1, .int .i64 top), (5, .pointer (some ⟨b1, 0, none⟩)), (9, .pointer (some ⟨b2, 0, none⟩)), (12, .slice A1 n c1), (14, .slice none 0 0), (15, .int .i64 0)]) (O := fun w => True) hs (by kernel_rfl) trivial ?_
                      clear hs a; intro a hs
                      refine atR_end (by kernel_rfl) ?_
                      refine wayN_node rfl ?_
                      refine at_block (id := 0) (by kernel_rfl) ?_
                      refine at_loop2 (fun (k : Nat) (v : Value) a' W => St 98 [(1, .int .i64 top), (5, .pointer (some ⟨b1, 0, none⟩)), (9, .pointer (some ⟨b2, 0, none⟩)), (12, .slice A1 n c1), (14, v), (15, .int .i64 (k : Int))] a' ∧ Blk W b1 30 #[.int .i64 x, .int .i64 y] ∧ Blk W b2 33 #[.int .i64 num, .int .i64 kind, .int .i64 rad, .int .i64 flu, .int .i64 hol, .int .i64 stp, .int .i64 fd, .int .i64 plu] ∧ Below w.heap.size w W ∧ RdU u1 W 1 (.slice A1 n c1) n ((pkList depth peck).map (Value.int .i64)) ∧ (k ≤ n) ∧ (W.ownsRow u1 48 7 v (2 * k) (peckCs (pkList depth peck) x y top plu k))) (fun k v => n - k) 0 (.slice none 0 0) (by kernel_rfl) ⟨hs.sub ⟨⟨_, rfl, rfl⟩, ⟨_, rfl, rfl⟩, ⟨_, rfl, rfl⟩, ⟨_, rfl, rfl⟩, ⟨_, rfl, rfl⟩, ⟨_, rfl, (by first | rfl | (push_cast; rfl) | (congr 1; omega))⟩, trivial⟩, B1, B2, hB, R1, Nat.zero_le _, World.ownsRow_nil _ _ _ _⟩ ?_
                      clear hs a B1 B2 hB R1
                      intro k v a wr5 hI
                      obtain ⟨hs, B1, B2, hB, R1, hk, ho⟩ := hI
                      refine at_seq (j := 49) (by kernel_rfl) ?_
                      refine at_seq (j := 46) (by kernel_rfl) ?_
                      refine at_region (id := 12) (by kernel_rfl) ?_
                      refine atR_seg (m := 4) (H := []) (ts := [1, 5, 9, 12, 14, 15, 68]) (L' := [(1, .int .i64 top), (5, .pointer (some ⟨b1, 0, none⟩)), (9, .pointer (some ⟨b2, 0, none⟩)), (12, .slice A1 n c1), (14, v), (15, .int .i64 (k : Int)), (68, .bool (decide ((k : Int) < (n : Int))))]) (O := fun w => True) hs (by kernel_rfl) trivial ?_
                      clear hs a; intro a hs
                      refine atR_end (by kernel_rfl) ?_
                      refine wayN_node rfl ?_
                      refine at_cond (t := 68) (j1 := 47) (j2 := 48) (b := decide ((k : Int) < (n : Int))) (by kernel_rfl) hs rfl (fun hb => ?_) (fun hb => ?_)
                      · have cd11 := hb; have cd11b := hb; clear hb
                        replace cd11 := of_decide_eq_true cd11
                        have hkn : k < n := by omega
                        refine at_skip (by kernel_rfl) ?_
                        refine wayN_node rfl ?_
                        refine at_seq (j := 54) (by kernel_rfl) ?_
                        refine at_block (id := 1) (by kernel_rfl) ?_
                        refine at_seq (j := 53) (by kernel_rfl) ?_
                        obtain ⟨p1, o1, d, hA1, hd, e1⟩ := R1.elem1 hln hkn
                        obtain ⟨g1, g2, g3, g4, g5, g6⟩ := pk_step h2 hd
                        subst hA1
                        refine at_draw (fun W => Blk W b1 30 #[.int .i64 x, .int .i64 y] ∧ Blk W b2 33 #[.int .i64 num, .int .i64 kind, .int .i64 rad, .int .i64 flu, .int .i64 hol, .int .i64 stp, .int .i64 fd, .int .i64 plu] ∧ RdU u1 W 1 (.slice (some ⟨p1, o1, none⟩) n c1) n ((pkList depth peck).map (Value.int .i64)) ∧ Ce u1 W p1 (o1 + k) [.int .i64 d] ∧ True) (id := 14) (by kernel_rfl) (by kernel_rfl) 17 (by kernel_rfl) ?_
                        intro w6 hb
                        replace B1 := B1.below hb B1.lt
                        replace B2 := B2.below hb B2.lt
                        replace ho := own_far ho hb
                        replace R1 := R1.below hb
                        replace e1 := e1.below hb
                        replace hB := later hB hb
                        clear hb
                        refine atD_seg (m := 3) [0, 1, 2, 3, 4, 5, 6, 7, 8, 9, 10, 11, 12, 13] [] [(2, none, [.int .i64 x]), (4, none, [.int .i64 y]), (7, some (.pointer (some ⟨p1, o1 + k, none⟩)), []), (8, none, [.int .i64 d]), (9, some (.int .i64 (-d)), []), (12, none, [.int .i64 plu])] [1, 5, 9, 12, 14, 15, 71, 84] [(1, .int .i64 top), (5, .pointer (some ⟨b1, 0, none⟩)), (9, .pointer (some ⟨b2, 0, none⟩)), (12, .slice (some ⟨p1, o1, none⟩) n c1), (14, v), (15, .int .i64 (k : Int)), (71, v), (84, .agg #[.int .i64 2, .int .i64 x, .int .i64 y, .int .i64 (-d), .int .i64 0, .int .i64 0, .int .i64 plu])] (fun w => (w.cell? ⟨b1, 0, none⟩ = some (.int .i64 x)) ∧ (w.cell? ⟨b1, 1, none⟩ = some (.int .i64 y)) ∧ (.pointer (some ⟨p1, o1 + ((k : Int)).toNat * 1, none⟩) = Value.pointer (some ⟨p1, o1 + k, none⟩)) ∧ ((0 : Int) ≤ (k : Int) ∧ (k : Int) < ((n : Nat) : Int)) ∧ (w.cell? ⟨p1, o1 + k, none⟩ = some (.int .i64 d)) ∧ (Wn .i64 d) ∧ (w.cell? ⟨b2, 7, none⟩ = some (.int .i64 plu)) ∧ True) hs ⟨B1, B2, R1, e1, trivial⟩ (by kernel_rfl) (by kernel_rfl) (fun w ⟨B1, B2, R1, e1, _⟩ => ⟨B1.cell 0 rfl, B1.cell 1 rfl, by simp [Int.toNat_natCast], ⟨by omega, by omega⟩, e1.at0 rfl, wn64 (by omega) (by omega), B2.cell 7 rfl, trivial⟩) ?_
                        clear hs a; intro a hs
                        refine atD_op (m := 2) (j := 14) (D := [13, 12, 11, 10, 9, 8, 7, 6, 5, 4, 3, 2, 1, 0]) hs (by kernel_rfl) (by kernel_rfl) (new1 (t := 48) (cs := #[.int .i64 2, .int .i64 x, .int .i64 y, .int .i64 (-d), .int .i64 0, .int .i64 0, .int .i64 plu]) (fun rb_ => .slice (some ⟨rb_, 0, none⟩) 1 1) [1, 5, 9, 12, 14, 15, 71, 85] (fun rb_ => [(1, .int .i64 top), (5, .pointer (some ⟨b1, 0, none⟩)), (9, .pointer (some ⟨b2, 0, none⟩)), (12, .slice (some ⟨p1, o1, none⟩) n c1), (14, v), (15, .int .i64 (k : Int)), (71, v), (85, .slice (some ⟨rb_, 0, none⟩) 1 1)]) hs (fun _ => by kernel_rfl) (fun _ => by kernel_rfl) ?_)
                        clear hs a; intro a w7 b3 hn hs
                        have B3 := hn.blk
                        have l3 : w.heap.size ≤ b3 := by rw [hn.at_]; exact hB.size
                        have l3' : b2 < b3 := by rw [hn.at_]; exact B2.lt
                        have lu3R1 : u1 ≤ b3 := by rw [hn.at_]; exact R1.le
                        have lu3e1 : u1 ≤ b3 := by rw [hn.at_]; exact e1.le
                        replace B1 := B1.below hn.below B1.lt
                        replace B2 := B2.below hn.below B2.lt
                        replace ho := own_far ho hn.below
                        replace R1 := R1.below hn.below
                        replace e1 := e1.below hn.below
                        replace hB := later hB hn.below
                        clear hn
                        refine ⟨⟨B1, B2, R1, e1, trivial⟩, ?_⟩
                        refine atD_op (m := 1) (j := 15) (D := [14, 13, 12, 11, 10, 9, 8, 7, 6, 5, 4, 3, 2, 1, 0]) hs (by kernel_rfl) (by kernel_rfl) (append1 (v := v) (b := b3) (off := 0) (m := 1) (c := 1) (cs := [.int .i64 2, .int .i64 x, .int .i64 y, .int .i64 (-d), .int .i64 0, .int .i64 0, .int .i64 plu]) ((.tmp 71), (.tmp 85)) [1, 5, 9, 12, 14, 15, 86] (fun rv_ => [(1, .int .i64 top), (5, .pointer (some ⟨b1, 0, none⟩)), (9, .pointer (some ⟨b2, 0, none⟩)), (12, .slice (some ⟨p1, o1, none⟩) n c1), (14, v), (15, .int .i64 (k : Int)), (86, rv_)]) hs (by kernel_rfl) rfl rfl (fun _ => by kernel_rfl) elem34 ho rfl (blk_row B3) (by simp [Value.oneCell']) (by unfold maxLen; omega) (by omega) (by have := R1.le; omega) ?_)
                        clear hs a; intro v12 a w8 ho13 hg hs
                        skip
                        replace B1 := own_keep_t hg ho B1 (by decide)
                        replace B2 := own_keep_t hg ho B2 (by decide)
                        replace R1 := R1.grown hg (fun kk hk => Nat.le_trans (by omega) (ho.lt kk hk).1)
                        replace e1 := e1.grown hg (fun kk hk => Nat.le_trans (by omega) (ho.lt kk hk).1)
                        replace hB := hB.grown hg hB.size (fun kk hk => Nat.le_trans (by omega) (ho.lt kk hk).1)
                        clear hg B3 ho
                        refine ⟨⟨B1, B2, R1, e1, trivial⟩, ?_⟩
                        refine atD_seg (m := 0) [16] [15, 14, 13, 12, 11, 10, 9, 8, 7, 6, 5, 4, 3, 2, 1, 0] [] [1, 5, 9, 12, 14, 15] [(1, .int .i64 top), (5, .pointer (some ⟨b1, 0, none⟩)), (9, .pointer (some ⟨b2, 0, none⟩)), (12, .slice (some ⟨p1, o1, none⟩) n c1), (14, v12), (15, .int .i64 (k : Int))] (fun w => True) hs ⟨B1, B2, R1, e1, trivial⟩ (by kernel_rfl) (by kernel_rfl) (fun w ⟨B1, B2, R1, e1, _⟩ => trivial) ?_
                        clear hs a; intro a hs
                        refine atD_done (by kernel_rfl) ?_
                        refine wayN_node rfl ?_
                        refine at_region (id := 15) (by kernel_rfl) ?_
                        refine atR_seg (m := 8) (H := [(2, none, [.int .i64 x]), (4, none, [.int .i64 y])]) (ts := [1, 5, 9, 12, 15, 87, 94]) (L' := [(1, .int .i64 top), (5, .pointer (some ⟨b1, 0, none⟩)), (9, .pointer (some ⟨b2, 0, none⟩)), (12, .slice (some ⟨p1, o1, none⟩) n c1), (15, .int .i64 (k : Int)), (87, v12), (94, .agg #[.int .i64 1, .int .i64 x, .int .i64 y, .int .i64 top, .int .i64 0, .int .i64 0, .int .i64 0])]) (O := fun w => (w.cell? ⟨b1, 0, none⟩ = some (.int .i64 x)) ∧ (w.cell? ⟨b1, 1, none⟩ = some (.int .i64 y)) ∧ True) hs (by kernel_rfl) ⟨B1.cell 0 rfl, B1.cell 1 rfl, trivial⟩ ?_
                        clear hs a; intro a hs
                        refine atR_op hs (by kernel_rfl) (new1 (t := 48) (cs := #[.int .i64 1, .int .i64 x, .int .i64 y, .int .i64 top, .int .i64 0, .int .i64 0, .int .i64 0]) (fun rb_ => .slice (some ⟨rb_, 0, none⟩) 1 1) [1, 5, 9, 12, 15, 87, 95] (fun rb_ => [(1, .int .i64 top), (5, .pointer (some ⟨b1, 0, none⟩)), (9, .pointer (some ⟨b2, 0, none⟩)), (12, .slice (some ⟨p1, o1, none⟩) n c1), (15, .int .i64 (k : Int)), (87, v12), (95, .slice (some ⟨rb_, 0, none⟩) 1 1)]) hs (fun _ => by kernel_rfl) (fun _ => by kernel_rfl) ?_)
                        clear hs a; intro a w9 b4 hn hs
                        have B4 := hn.blk
                        have l4 : w.heap.size ≤ b4 := by rw [hn.at_]; exact hB.size
                        have l4' : b2 < b4 := by rw [hn.at_]; exact B2.lt
                        have lu4R1 : u1 ≤ b4 := by rw [hn.at_]; exact R1.le
                        have lu4e1 : u1 ≤ b4 := by rw [hn.at_]; exact e1.le
                        replace B1 := B1.below hn.below B1.lt
                        replace B2 := B2.below hn.below B2.lt
                        replace ho13 := own_far ho13 hn.below
                        replace R1 := R1.below hn.below
                        replace e1 := e1.below hn.below
                        replace hB := later hB hn.below
                        clear hn
                        refine atR_op hs (by kernel_rfl) (append1 (v := v12) (b := b4) (off := 0) (m := 1) (c := 1) (cs := [.int .i64 1, .int .i64 x, .int .i64 y, .int .i64 top, .int .i64 0, .int .i64 0, .int .i64 0]) ((.tmp 87), (.tmp 95)) [1, 5, 9, 12, 15, 96] (fun rv_ => [(1, .int .i64 top), (5, .pointer (some ⟨b1, 0, none⟩)), (9, .pointer (some ⟨b2, 0, none⟩)), (12, .slice (some ⟨p1, o1, none⟩) n c1), (15, .int .i64 (k : Int)), (96, rv_)]) hs (by kernel_rfl) rfl rfl (fun _ => by kernel_rfl) elem34 ho13 rfl (blk_row B4) (by simp [Value.oneCell']) (by unfold maxLen; omega) (by omega) (by have := R1.le; omega) ?_)
                        clear hs a; intro v14 a w10 ho15 hg hs
                        skip
                        replace B1 := own_keep_t hg ho13 B1 (by decide)
                        replace B2 := own_keep_t hg ho13 B2 (by decide)
                        replace R1 := R1.grown hg (fun kk hk => Nat.le_trans (by omega) (ho13.lt kk hk).1)
                        replace e1 := e1.grown hg (fun kk hk => Nat.le_trans (by omega) (ho13.lt kk hk).1)
                        replace hB := hB.grown hg hB.size (fun kk hk => Nat.le_trans (by omega) (ho13.lt kk hk).1)
                        clear hg B4 ho13
                        refine atR_seg (m := 1) (H := []) (ts := [1, 5, 9, 12, 14, 15]) (L' := [(1, .int .i64 top), (5, .pointer (some ⟨b1, 0, none⟩)), (9, .pointer (some ⟨b2, 0, none⟩)), (12, .slice (some ⟨p1, o1, none⟩) n c1), (14, v14), (15, .int .i64 (k : Int))]) (O := fun w => True) hs (by kernel_rfl) trivial ?_
                        clear hs a; intro a hs
                        refine atR_end (by kernel_rfl) ?_
                        refine wayN_node rfl ?_
                        refine at_region (id := 13) (by kernel_rfl) ?_
                        refine atR_seg (m := 3) (H := [(1, some (.int .i64 ((k : Int) + 1)), [])]) (ts := [1, 5, 9, 12, 14, 15]) (L' := [(1, .int .i64 top), (5, .pointer (some ⟨b1, 0, none⟩)), (9, .pointer (some ⟨b2, 0, none⟩)), (12, .slice (some ⟨p1, o1, none⟩) n c1), (14, v14), (15, .int .i64 ((k : Int) + 1))]) (O := fun w => (W .i64 ((k : Int) + 1)) ∧ True) hs (by kernel_rfl) ⟨w64 (by omega) (by omega), trivial⟩ ?_
                        clear hs a; intro a hs
                        refine atR_end (by kernel_rfl) ?_
                        refine wayN_back ?_
                        dsimp only [lpOf]
                        exact ⟨k + 1, v14, ⟨hs.sub ⟨⟨_, rfl, rfl⟩, ⟨_, rfl, rfl⟩, ⟨_, rfl, rfl⟩, ⟨_, rfl, (by first | rfl | (push_cast; rfl) | (congr 1; omega))⟩, ⟨_, rfl, rfl⟩, ⟨_, rfl, (by first | rfl | (push_cast; rfl) | (congr 1; omega))⟩, trivial⟩, B1, B2, hB, R1, by omega, by rw [peckCs_succ hd, show 2 * (k + 1) = 2 * k + 2 from rfl]; simpa [List.append_assoc] using ho15⟩, by omega⟩
                      · have cd11 := hb; have cd11b := hb; clear hb
                        replace cd11 := of_decide_eq_false cd11
                        refine at_exit (id := 0) (by kernel_rfl) (wayE_ok rfl ?_)
                        refine wayN_node rfl ?_
                        refine at_seq (j := 57) (by kernel_rfl) ?_
                        refine at_region (id := 16) (by kernel_rfl) ?_
                        refine atR_seg (m := 3) (H := []) (ts := [10, 11]) (L' := [(10, v), (11, .int .i64 0)]) (O := fun w => True) hs (by kernel_rfl) trivial ?_
                        clear hs a; intro a hs
                        refine atR_end (by kernel_rfl) ?_
                        refine wayN_node rfl ?_
                        refine at_ret (by kernel_rfl) ?_
                        refine at_end (vs := [v, .int .i64 0]) (H := []) (v := .tuple #[v, .int .i64 0]) (O := fun w => True) hs (by kernel_rfl) rfl trivial ?_
                        have hkk : k = n := by omega
                        subst hkk
                        exact peck_yes (show peckErr (⟨num, kind, rad, flu, hol, stp, fd, plu⟩ : Tl) x y top depth peck = 0 from by rw [show peckErr (⟨num, kind, rad, flu, hol, stp, fd, plu⟩ : Tl) x y top depth peck = pkErr depth peck from by (unfold peckErr; dsimp only; (rw [e1_, e2_, hgood, cd1b, cd2b, cd3b, cd4b, cd5b, cd6b, cd7b, cd8b, cd9b]) <;> rfl)]; exact bne_eq_false_iff_eq.1 cd10b) hln (Rd.of_own (by decide) ho) hB
theorem rpeck_any (t : Tl) (x y top depth peck : Int) (w : World) (h1 : -9223372036854775808 ≤ depth) (h2 : depth ≤ 9223372036854775807) (h3 : -9223372036854775808 ≤ peck) (h4 : peck ≤ 9223372036854775807) :
    Calls Tryd.prog 20 #[.agg #[.int .i64 x, .int .i64 y], .int .i64 top, .int .i64 depth, .int .i64 peck, t.v] w (PeckPost t x y top depth peck w) := by
  obtain ⟨num, kind, rad, flu, hol, stp, fd, plu⟩ := t
  cases hg : (⟨num, kind, rad, flu, hol, stp, fd, plu⟩ : Tl).good with
  | false => exact rpeck_bad x y top depth peck num kind rad flu hol stp fd plu w h1 h2 h3 h4 hg
  | true => exact rpeck_good x y top depth peck num kind rad flu hol stp fd plu w h1 h2 h3 h4 hg
end Go.Proofs.YtpiabmjipgfjjaaDoor
