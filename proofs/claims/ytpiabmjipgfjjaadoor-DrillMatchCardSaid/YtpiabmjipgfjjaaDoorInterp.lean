/- interpolate: the distance of two numbers, the points of a circle, valid moves. -/
import Derived.Test.YtpiabmjipgfjjaaDoorDrill2
namespace Go.Proofs.YtpiabmjipgfjjaaDoor
open Go.RowKit
def apartI (a b : Int) : Int := if a < b then b - a else a - b
theorem wrap_sub_u {a b : Int} (ha : i64 a) (hb : i64 b) (h : b ≤ a) : IntKind.wrap .u64 (IntKind.wrap .u64 a - IntKind.wrap .u64 b) = a - b := by
  obtain ⟨a1, a2⟩ := ha
  obtain ⟨b1, b2⟩ := hb
  unfold IntKind.wrap
  simp [IntKind.bits, IntKind.signed]
  omega
def ptQ (x y cx cy : Int) : Int := if y = cy ∧ cx < x then 0 else if x = cx ∧ cy < y then 1 else if y = cy ∧ x < cx then 2 else if x = cx ∧ y < cy then 3 else 0
def ptD (x y cx cy : Int) : Int := if y = cy ∧ cx < x then x - cx else if x = cx ∧ cy < y then y - cy else if y = cy ∧ x < cx then cx - x else if x = cx ∧ y < cy then cy - y else 0
noncomputable def body35 : Code := Tryd.f35.body.getD .skip
theorem apart_any (x b : Int) (w : World) (hx : i64 x) (hy : i64 b) : Calls Tryd.prog 35 #[.int .i64 x, .int .i64 b] w fun e w' => e = .returned (.int .u64 (apartI x b)) ∧ Below w.heap.size w w' := by
  have hB : Below w.heap.size w w := Below.refl _ _
  refine enter (B := body35) (args := [.int .i64 x, .int .i64 b]) Tryd.func35 (by kernel_rfl) (by kernel_rfl) ?_
  rw [show Tryd.f35.ntmps = 15 from by kernel_rfl]
  intro a hs
  replace hs := hs.pick (ts := [0, 1]) (L' := [(0, .int .i64 x), (1, .int .i64 b)]) (by kernel_rfl)
  refine at_seq (j := 2) (by kernel_rfl) ?_
  refine at_region (id := 0) (by kernel_rfl) ?_
  refine atR_seg (m := 1) (H := []) (ts := [0, 1]) (L' := [(0, .int .i64 x), (1, .int .i64 b)]) (O := fun w => True) hs (by kernel_rfl) trivial ?_
  clear hs a; intro a hs
  refine atR_end (by kernel_rfl) ?_
  refine wayN_node rfl ?_
  refine at_seq (j := 8) (by kernel_rfl) ?_
  refine at_seq (j := 5) (by kernel_rfl) ?_
  refine at_region (id := 1) (by kernel_rfl) ?_
  refine atR_seg (m := 3) (H := []) (ts := [0, 1, 7]) (L' := [(0, .int .i64 x), (1, .int .i64 b), (7, .bool (decide (x < b)))]) (O := fun w => True) hs (by kernel_rfl) trivial ?_
  clear hs a; intro a hs
  refine atR_end (by kernel_rfl) ?_
  refine wayN_node rfl ?_
  refine at_cond (t := 7) (j1 := 6) (j2 := 7) (b := decide (x < b)) (by kernel_rfl) hs rfl (fun hb => ?_) (fun hb => ?_)
  · have cd1 := hb; have cd1b := hb; clear hb
    replace cd1 := of_decide_eq_true cd1
    refine at_region (id := 2) (by kernel_rfl) ?_
    refine atR_seg (m := 4) (H := []) (ts := [0, 1]) (L' := [(0, .int .i64 b), (1, .int .i64 x)]) (O := fun w => True) hs (by kernel_rfl) trivial ?_
    clear hs a; intro a hs
    refine atR_end (by kernel_rfl) ?_
    refine wayN_node rfl ?_
    refine at_seq (j := 10) (by kernel_rfl) ?_
    refine at_region (id := 3) (by kernel_rfl) ?_
    refine atR_seg (m := 6) (H := []) (ts := [4]) (L' := [(4, .int .u64 (IntKind.wrap .u64 (IntKind.wrap .u64 b - (IntKind.wrap .u64 x))))]) (O := fun w => True) hs (by kernel_rfl) trivial ?_
    clear hs a; intro a hs
    refine atR_end (by kernel_rfl) ?_
    refine wayN_node rfl ?_
    refine at_ret (by kernel_rfl) ?_
    refine at_end (vs := [.int .u64 (IntKind.wrap .u64 (IntKind.wrap .u64 b - (IntKind.wrap .u64 x)))]) (H := []) (v := .int .u64 (IntKind.wrap .u64 (IntKind.wrap .u64 b - (IntKind.wrap .u64 x)))) (O := fun w => True) hs (by kernel_rfl) rfl trivial ?_
    exact ⟨by rw [show IntKind.wrap .u64 (IntKind.wrap .u64 b - (IntKind.wrap .u64 x)) = apartI x b from by unfold apartI; rw [if_pos (by omega)]; exact wrap_sub_u hy hx (by omega)], hB⟩
  · have cd1 := hb; have cd1b := hb; clear hb
    replace cd1 := of_decide_eq_false cd1
    refine at_skip (by kernel_rfl) ?_
    refine wayN_node rfl ?_
    refine at_seq (j := 10) (by kernel_rfl) ?_
    refine at_region (id := 3) (by kernel_rfl) ?_
    refine atR_seg (m := 6) (H := []) (ts := [4]) (L' := [(4, .int .u64 (IntKind.wrap .u64 (IntKind.wrap .u64 x - (IntKind.wrap .u64 b))))]) (O := fun w => True) hs (by kernel_rfl) trivial ?_
    clear hs a; intro a hs
    refine atR_end (by kernel_rfl) ?_
    refine wayN_node rfl ?_
    refine at_ret (by kernel_rfl) ?_
    refine at_end (vs := [.int .u64 (IntKind.wrap .u64 (IntKind.wrap .u64 x - (IntKind.wrap .u64 b)))]) (H := []) (v := .int .u64 (IntKind.wrap .u64 (IntKind.wrap .u64 x - (IntKind.wrap .u64 b)))) (O := fun w => True) hs (by kernel_rfl) rfl trivial ?_
    exact ⟨by rw [show IntKind.wrap .u64 (IntKind.wrap .u64 x - (IntKind.wrap .u64 b)) = apartI x b from by unfold apartI; rw [if_neg (by omega)]; exact wrap_sub_u hx hy (by omega)], hB⟩
noncomputable def body34 : Code := Tryd.f34.body.getD .skip
set_option maxHeartbeats 1000000 in
theorem point_any (x y z cx cy : Int) (w : World) (hx : i64 x) (hy : i64 y) (hcx : i64 cx) (hcy : i64 cy) : Calls Tryd.prog 34 #[.agg #[.int .i64 x, .int .i64 y, .int .i64 z], .agg #[.int .i64 cx, .int .i64 cy]] w fun e w' => e = .returned (.tuple #[.int .i64 (ptQ x y cx cy), .int .u64 (ptD x y cx cy)]) ∧ Below w.heap.size w w' := by
  have hB : Below w.heap.size w w := Below.refl _ _
  refine enter (B := body34) (args := [.agg #[.int .i64 x, .int .i64 y, .int .i64 z], .agg #[.int .i64 cx, .int .i64 cy]]) Tryd.func34 (by kernel_rfl) (by kernel_rfl) ?_
  rw [show Tryd.f34.ntmps = 78 from by kernel_rfl]
  intro a hs
  replace hs := hs.pick (ts := [0, 1]) (L' := [(0, .agg #[.int .i64 x, .int .i64 y, .int .i64 z]), (1, .agg #[.int .i64 cx, .int .i64 cy])]) (by kernel_rfl)
  refine at_seq (j := 2) (by kernel_rfl) ?_
  refine at_region (id := 0) (by kernel_rfl) ?_
  refine atR_op hs (by kernel_rfl) (new1 (t := 46) (cs := #[.int .i64 x, .int .i64 y, .int .i64 z]) (fun rb_ => .pointer (some ⟨rb_, 0, none⟩)) [1, 2] (fun rb_ => [(1, .agg #[.int .i64 cx, .int .i64 cy]), (2, .pointer (some ⟨rb_, 0, none⟩))]) hs (fun _ => by kernel_rfl) (fun _ => by kernel_rfl) ?_)
  clear hs a; intro a w1 b1 hn hs
  have B1 := hn.blk
  have l1 : w.heap.size ≤ b1 := by rw [hn.at_]; exact hB.size
  replace hB := later hB hn.below
  clear hn
  refine atR_op hs (by kernel_rfl) (new1 (t := 30) (cs := #[.int .i64 cx, .int .i64 cy]) (fun rb_ => .pointer (some ⟨rb_, 0, none⟩)) [2, 3] (fun rb_ => [(2, .pointer (some ⟨b1, 0, none⟩)), (3, .pointer (some ⟨rb_, 0, none⟩))]) hs (fun _ => by kernel_rfl) (fun _ => by kernel_rfl) ?_)
  clear hs a; intro a w2 b2 hn hs
  have B2 := hn.blk
  have l2 : w.heap.size ≤ b2 := by rw [hn.at_]; exact hB.size
  have l2' : b1 < b2 := by rw [hn.at_]; exact B1.lt
  replace B1 := B1.below hn.below B1.lt
  replace hB := later hB hn.below
  clear hn
  refine atR_seg (m := 2) (H := []) (ts := [2, 3]) (L' := [(2, .pointer (some ⟨b1, 0, none⟩)), (3, .pointer (some ⟨b2, 0, none⟩))]) (O := fun w => True) hs (by kernel_rfl) trivial ?_
  clear hs a; intro a hs
  refine atR_end (by kernel_rfl) ?_
  refine wayN_node rfl ?_
  refine at_seq (j := 29) (by kernel_rfl) ?_
  refine at_block (id := 0) (by kernel_rfl) ?_
  refine at_seq (j := 6) (by kernel_rfl) ?_
  refine at_region (id := 1) (by kernel_rfl) ?_
  refine atR_seg (m := 6) (H := [(1, none, [.int .i64 y]), (3, none, [.int .i64 cy])]) (ts := [2, 3, 12]) (L' := [(2, .pointer (some ⟨b1, 0, none⟩)), (3, .pointer (some ⟨b2, 0, none⟩)), (12, .bool (y == cy))]) (O := fun w => (w.cell? ⟨b1, 1, none⟩ = some (.int .i64 y)) ∧ (w.cell? ⟨b2, 1, none⟩ = some (.int .i64 cy)) ∧ True) hs (by kernel_rfl) ⟨B1.cell 1 rfl, B2.cell 1 rfl, trivial⟩ ?_
  clear hs a; intro a hs
  rcases Bool.eq_false_or_eq_true (y == cy) with hb | hb
  · replace hs := hs.know (t := 12) rfl hb
    have cd1 := hb; have cd1b := hb; clear hb
    replace cd1 := eq_of_beq cd1
    replace hs := hs.pick (ts := [2, 3, 12]) (L' := [(2, .pointer (some ⟨b1, 0, none⟩)), (3, .pointer (some ⟨b2, 0, none⟩)), (12, .bool true)]) (by kernel_rfl)
    refine atR_seg (m := 7) (H := [(7, none, [.int .i64 x]), (9, none, [.int .i64 cx])]) (ts := [2, 3, 6]) (L' := [(2, .pointer (some ⟨b1, 0, none⟩)), (3, .pointer (some ⟨b2, 0, none⟩)), (6, .bool (decide (x > cx)))]) (O := fun w => (w.cell? ⟨b1, 0, none⟩ = some (.int .i64 x)) ∧ (w.cell? ⟨b2, 0, none⟩ = some (.int .i64 cx)) ∧ True) hs (by kernel_rfl) ⟨B1.cell 0 rfl, B2.cell 0 rfl, trivial⟩ ?_
    clear hs a; intro a hs
    refine atR_end (by kernel_rfl) ?_
    refine wayN_node rfl ?_
    refine at_cond (t := 6) (j1 := 7) (j2 := 10) (b := decide (x > cx)) (by kernel_rfl) hs rfl (fun hb => ?_) (fun hb => ?_)
    · have cd2 := hb; have cd2b := hb; clear hb
      replace cd2 := of_decide_eq_true cd2
      refine at_seq (j := 9) (by kernel_rfl) ?_
      refine at_region (id := 2) (by kernel_rfl) ?_
      refine atR_seg (m := 4) (H := [(1, none, [.int .i64 x]), (3, none, [.int .i64 cx])]) (ts := [20, 22]) (L' := [(20, .int .i64 x), (22, .int .i64 cx)]) (O := fun w => (w.cell? ⟨b1, 0, none⟩ = some (.int .i64 x)) ∧ (w.cell? ⟨b2, 0, none⟩ = some (.int .i64 cx)) ∧ True) hs (by kernel_rfl) ⟨B1.cell 0 rfl, B2.cell 0 rfl, trivial⟩ ?_
      clear hs a; intro a hs
      refine atR_op hs (by kernel_rfl) (call1 (f := 35) (args := #[.int .i64 x, .int .i64 cx]) [23] (fun rv_ => [(23, rv_)]) hs (by kernel_rfl) (fun _ => by kernel_rfl) ?_)
      refine (apart_any _ _ _ (by assumption) (by assumption)).mono ?_
      rintro e w3 ⟨rfl, hb⟩
      refine ⟨_, rfl, ?_⟩
      clear hs a; intro a hs
      replace B1 := B1.below hb B1.lt
      replace B2 := B2.below hb B2.lt
      replace hB := later hB hb
      clear hb
      refine atR_seg (m := 2) (H := []) (ts := [4, 5]) (L' := [(4, .int .i64 0), (5, .int .u64 (apartI x cx))]) (O := fun w => True) hs (by kernel_rfl) trivial ?_
      clear hs a; intro a hs
      refine atR_end (by kernel_rfl) ?_
      refine wayN_node rfl ?_
      refine at_ret (by kernel_rfl) ?_
      refine at_end (vs := [.int .i64 0, .int .u64 (apartI x cx)]) (H := []) (v := .tuple #[.int .i64 0, .int .u64 (apartI x cx)]) (O := fun w => True) hs (by kernel_rfl) rfl trivial ?_
      exact ⟨by rw [show ptQ x y cx cy = 0 from by unfold ptQ; simp_all <;> omega, show ptD x y cx cy = apartI x cx from by unfold ptD; simp_all [apartI] <;> omega], hB⟩
    · have cd2 := hb; have cd2b := hb; clear hb
      replace cd2 := of_decide_eq_false cd2
      refine at_seq (j := 12) (by kernel_rfl) ?_
      refine at_region (id := 3) (by kernel_rfl) ?_
      refine atR_seg (m := 6) (H := [(1, none, [.int .i64 x]), (3, none, [.int .i64 cx])]) (ts := [2, 3, 30]) (L' := [(2, .pointer (some ⟨b1, 0, none⟩)), (3, .pointer (some ⟨b2, 0, none⟩)), (30, .bool (x == cx))]) (O := fun w => (w.cell? ⟨b1, 0, none⟩ = some (.int .i64 x)) ∧ (w.cell? ⟨b2, 0, none⟩ = some (.int .i64 cx)) ∧ True) hs (by kernel_rfl) ⟨B1.cell 0 rfl, B2.cell 0 rfl, trivial⟩ ?_
      clear hs a; intro a hs
      rcases Bool.eq_false_or_eq_true (x == cx) with hb | hb
      · replace hs := hs.know (t := 30) rfl hb
        have cd3 := hb; have cd3b := hb; clear hb
        replace cd3 := eq_of_beq cd3
        replace hs := hs.pick (ts := [2, 3, 30]) (L' := [(2, .pointer (some ⟨b1, 0, none⟩)), (3, .pointer (some ⟨b2, 0, none⟩)), (30, .bool true)]) (by kernel_rfl)
        refine atR_seg (m := 7) (H := [(7, none, [.int .i64 y]), (9, none, [.int .i64 cy])]) (ts := [2, 3, 24]) (L' := [(2, .pointer (some ⟨b1, 0, none⟩)), (3, .pointer (some ⟨b2, 0, none⟩)), (24, .bool (decide (y > cy)))]) (O := fun w => (w.cell? ⟨b1, 1, none⟩ = some (.int .i64 y)) ∧ (w.cell? ⟨b2, 1, none⟩ = some (.int .i64 cy)) ∧ True) hs (by kernel_rfl) ⟨B1.cell 1 rfl, B2.cell 1 rfl, trivial⟩ ?_
        clear hs a; intro a hs
        refine atR_end (by kernel_rfl) ?_
        refine wayN_node rfl ?_
        refine at_cond (t := 24) (j1 := 13) (j2 := 16) (b := decide (y > cy)) (by kernel_rfl) hs rfl (fun hb => ?_) (fun hb => ?_)
        · have cd4 := hb; have cd4b := hb; clear hb
          replace cd4 := of_decide_eq_true cd4
          refine at_seq (j := 15) (by kernel_rfl) ?_
          refine at_region (id := 4) (by kernel_rfl) ?_
          refine atR_seg (m := 4) (H := [(1, none, [.int .i64 y]), (3, none, [.int .i64 cy])]) (ts := [38, 40]) (L' := [(38, .int .i64 y), (40, .int .i64 cy)]) (O := fun w => (w.cell? ⟨b1, 1, none⟩ = some (.int .i64 y)) ∧ (w.cell? ⟨b2, 1, none⟩ = some (.int .i64 cy)) ∧ True) hs (by kernel_rfl) ⟨B1.cell 1 rfl, B2.cell 1 rfl, trivial⟩ ?_
          clear hs a; intro a hs
          refine atR_op hs (by kernel_rfl) (call1 (f := 35) (args := #[.int .i64 y, .int .i64 cy]) [41] (fun rv_ => [(41, rv_)]) hs (by kernel_rfl) (fun _ => by kernel_rfl) ?_)
          refine (apart_any _ _ _ (by assumption) (by assumption)).mono ?_
          rintro e w4 ⟨rfl, hb⟩
          refine ⟨_, rfl, ?_⟩
          clear hs a; intro a hs
          replace B1 := B1.below hb B1.lt
          replace B2 := B2.below hb B2.lt
          replace hB := later hB hb
          clear hb
          refine atR_seg (m := 2) (H := []) (ts := [4, 5]) (L' := [(4, .int .i64 1), (5, .int .u64 (apartI y cy))]) (O := fun w => True) hs (by kernel_rfl) trivial ?_
          clear hs a; intro a hs
          refine atR_end (by kernel_rfl) ?_
          refine wayN_node rfl ?_
          refine at_ret (by kernel_rfl) ?_
          refine at_end (vs := [.int .i64 1, .int .u64 (apartI y cy)]) (H := []) (v := .tuple #[.int .i64 1, .int .u64 (apartI y cy)]) (O := fun w => True) hs (by kernel_rfl) rfl trivial ?_
          exact ⟨by rw [show ptQ x y cx cy = 1 from by unfold ptQ; simp_all <;> omega, show ptD x y cx cy = apartI y cy from by unfold ptD; simp_all [apartI] <;> omega], hB⟩
        · have cd4 := hb; have cd4b := hb; clear hb
          replace cd4 := of_decide_eq_false cd4
          refine at_seq (j := 18) (by kernel_rfl) ?_
          refine at_region (id := 5) (by kernel_rfl) ?_
          refine atR_seg (m := 6) (H := [(1, none, [.int .i64 y]), (3, none, [.int .i64 cy])]) (ts := [2, 3, 48]) (L' := [(2, .pointer (some ⟨b1, 0, none⟩)), (3, .pointer (some ⟨b2, 0, none⟩)), (48, .bool (y == cy))]) (O := fun w => (w.cell? ⟨b1, 1, none⟩ = some (.int .i64 y)) ∧ (w.cell? ⟨b2, 1, none⟩ = some (.int .i64 cy)) ∧ True) hs (by kernel_rfl) ⟨B1.cell 1 rfl, B2.cell 1 rfl, trivial⟩ ?_
          clear hs a; intro a hs
          rcases Bool.eq_false_or_eq_true (y == cy) with hb | hb
          · replace hs := hs.know (t := 48) rfl hb
            have cd5 := hb; have cd5b := hb; clear hb
            replace cd5 := eq_of_beq cd5
            replace hs := hs.pick (ts := [2, 3, 48]) (L' := [(2, .pointer (some ⟨b1, 0, none⟩)), (3, .pointer (some ⟨b2, 0, none⟩)), (48, .bool true)]) (by kernel_rfl)
            refine atR_seg (m := 7) (H := [(7, none, [.int .i64 x]), (9, none, [.int .i64 cx])]) (ts := [2, 3, 42]) (L' := [(2, .pointer (some ⟨b1, 0, none⟩)), (3, .pointer (some ⟨b2, 0, none⟩)), (42, .bool (decide (x < cx)))]) (O := fun w => (w.cell? ⟨b1, 0, none⟩ = some (.int .i64 x)) ∧ (w.cell? ⟨b2, 0, none⟩ = some (.int .i64 cx)) ∧ True) hs (by kernel_rfl) ⟨B1.cell 0 rfl, B2.cell 0 rfl, trivial⟩ ?_
            clear hs a; intro a hs
            refine atR_end (by kernel_rfl) ?_
            refine wayN_node rfl ?_
            refine at_cond (t := 42) (j1 := 19) (j2 := 22) (b := decide (x < cx)) (by kernel_rfl) hs rfl (fun hb => ?_) (fun hb => ?_)
            · have cd6 := hb; have cd6b := hb; clear hb
              replace cd6 := of_decide_eq_true cd6
              refine at_seq (j := 21) (by kernel_rfl) ?_
              refine at_region (id := 6) (by kernel_rfl) ?_
              refine atR_seg (m := 4) (H := [(1, none, [.int .i64 x]), (3, none, [.int .i64 cx])]) (ts := [56, 58]) (L' := [(56, .int .i64 x), (58, .int .i64 cx)]) (O := fun w => (w.cell? ⟨b1, 0, none⟩ = some (.int .i64 x)) ∧ (w.cell? ⟨b2, 0, none⟩ = some (.int .i64 cx)) ∧ True) hs (by kernel_rfl) ⟨B1.cell 0 rfl, B2.cell 0 rfl, trivial⟩ ?_
              clear hs a; intro a hs
              refine atR_op hs (by kernel_rfl) (call1 (f := 35) (args := #[.int .i64 x, .int .i64 cx]) [59] (fun rv_ => [(59, rv_)]) hs (by kernel_rfl) (fun _ => by kernel_rfl) ?_)
              refine (apart_any _ _ _ (by assumption) (by assumption)).mono ?_
              rintro e w5 ⟨rfl, hb⟩
              refine ⟨_, rfl, ?_⟩
              clear hs a; intro a hs
              replace B1 := B1.below hb B1.lt
              replace B2 := B2.below hb B2.lt
              replace hB := later hB hb
              clear hb
              refine atR_seg (m := 2) (H := []) (ts := [4, 5]) (L' := [(4, .int .i64 2), (5, .int .u64 (apartI x cx))]) (O := fun w => True) hs (by kernel_rfl) trivial ?_
              clear hs a; intro a hs
              refine atR_end (by kernel_rfl) ?_
              refine wayN_node rfl ?_
              refine at_ret (by kernel_rfl) ?_
              refine at_end (vs := [.int .i64 2, .int .u64 (apartI x cx)]) (H := []) (v := .tuple #[.int .i64 2, .int .u64 (apartI x cx)]) (O := fun w => True) hs (by kernel_rfl) rfl trivial ?_
              exact ⟨by rw [show ptQ x y cx cy = 2 from by unfold ptQ; simp_all <;> omega, show ptD x y cx cy = apartI x cx from by unfold ptD; simp_all [apartI] <;> omega], hB⟩
            · have cd6 := hb; have cd6b := hb; clear hb
              replace cd6 := of_decide_eq_false cd6
              refine at_seq (j := 24) (by kernel_rfl) ?_
              refine at_region (id := 7) (by kernel_rfl) ?_
              refine atR_seg (m := 6) (H := [(1, none, [.int .i64 x]), (3, none, [.int .i64 cx])]) (ts := [2, 3, 66]) (L' := [(2, .pointer (some ⟨b1, 0, none⟩)), (3, .pointer (some ⟨b2, 0, none⟩)), (66, .bool (x == cx))]) (O := fun w => (w.cell? ⟨b1, 0, none⟩ = some (.int .i64 x)) ∧ (w.cell? ⟨b2, 0, none⟩ = some (.int .i64 cx)) ∧ True) hs (by kernel_rfl) ⟨B1.cell 0 rfl, B2.cell 0 rfl, trivial⟩ ?_
              clear hs a; intro a hs
              rcases Bool.eq_false_or_eq_true (x == cx) with hb | hb
              · replace hs := hs.know (t := 66) rfl hb
                have cd7 := hb; have cd7b := hb; clear hb
                replace cd7 := eq_of_beq cd7
                replace hs := hs.pick (ts := [2, 3, 66]) (L' := [(2, .pointer (some ⟨b1, 0, none⟩)), (3, .pointer (some ⟨b2, 0, none⟩)), (66, .bool true)]) (by kernel_rfl)
                refine atR_seg (m := 7) (H := [(7, none, [.int .i64 y]), (9, none, [.int .i64 cy])]) (ts := [2, 3, 60]) (L' := [(2, .pointer (some ⟨b1, 0, none⟩)), (3, .pointer (some ⟨b2, 0, none⟩)), (60, .bool (decide (y < cy)))]) (O := fun w => (w.cell? ⟨b1, 1, none⟩ = some (.int .i64 y)) ∧ (w.cell? ⟨b2, 1, none⟩ = some (.int .i64 cy)) ∧ True) hs (by kernel_rfl) ⟨B1.cell 1 rfl, B2.cell 1 rfl, trivial⟩ ?_
                clear hs a; intro a hs
                refine atR_end (by kernel_rfl) ?_
                refine wayN_node rfl ?_
                refine at_cond (t := 60) (j1 := 25) (j2 := 28) (b := decide (y < cy)) (by kernel_rfl) hs rfl (fun hb => ?_) (fun hb => ?_)
                · have cd8 := hb; have cd8b := hb; clear hb
                  replace cd8 := of_decide_eq_true cd8
                  refine at_seq (j := 27) (by kernel_rfl) ?_
                  refine at_region (id := 8) (by kernel_rfl) ?_
                  refine atR_seg (m := 4) (H := [(1, none, [.int .i64 y]), (3, none, [.int .i64 cy])]) (ts := [74, 76]) (L' := [(74, .int .i64 y), (76, .int .i64 cy)]) (O := fun w => (w.cell? ⟨b1, 1, none⟩ = some (.int .i64 y)) ∧ (w.cell? ⟨b2, 1, none⟩ = some (.int .i64 cy)) ∧ True) hs (by kernel_rfl) ⟨B1.cell 1 rfl, B2.cell 1 rfl, trivial⟩ ?_
                  clear hs a; intro a hs
                  refine atR_op hs (by kernel_rfl) (call1 (f := 35) (args := #[.int .i64 y, .int .i64 cy]) [77] (fun rv_ => [(77, rv_)]) hs (by kernel_rfl) (fun _ => by kernel_rfl) ?_)
                  refine (apart_any _ _ _ (by assumption) (by assumption)).mono ?_
                  rintro e w6 ⟨rfl, hb⟩
                  refine ⟨_, rfl, ?_⟩
                  clear hs a; intro a hs
                  replace B1 := B1.below hb B1.lt
                  replace B2 := B2.below hb B2.lt
                  replace hB := later hB hb
                  clear hb
                  refine atR_seg (m := 2) (H := []) (ts := [4, 5]) (L' := [(4, .int .i64 3), (5, .int .u64 (apartI y cy))]) (O := fun w => True) hs (by kernel_rfl) trivial ?_
                  clear hs a; intro a hs
                  refine atR_end (by kernel_rfl) ?_
                  refine wayN_node rfl ?_
                  refine at_ret (by kernel_rfl) ?_
                  refine at_end (vs := [.int .i64 3, .int .u64 (apartI y cy)]) (H := []) (v := .tuple #[.int .i64 3, .int .u64 (apartI y cy)]) (O := fun w => True) hs (by kernel_rfl) rfl trivial ?_
                  exact ⟨by rw [show ptQ x y cx cy = 3 from by unfold ptQ; simp_all <;> omega, show ptD x y cx cy = apartI y cy from by unfold ptD; simp_all [apartI] <;> omega], hB⟩
                · have cd8 := hb; have cd8b := hb; clear hb
                  replace cd8 := of_decide_eq_false cd8
                  refine at_skip (by kernel_rfl) ?_
                  refine wayN_node rfl ?_
                  refine at_seq (j := 31) (by kernel_rfl) ?_
                  refine at_region (id := 9) (by kernel_rfl) ?_
                  refine atR_seg (m := 2) (H := []) (ts := [4, 5]) (L' := [(4, .int .i64 0), (5, .int .u64 0)]) (O := fun w => True) hs (by kernel_rfl) trivial ?_
                  clear hs a; intro a hs
                  refine atR_end (by kernel_rfl) ?_
                  refine wayN_node rfl ?_
                  refine at_ret (by kernel_rfl) ?_
                  refine at_end (vs := [.int .i64 0, .int .u64 0]) (H := []) (v := .tuple #[.int .i64 0, .int .u64 0]) (O := fun w => True) hs (by kernel_rfl) rfl trivial ?_
                  exact ⟨by rw [show ptQ x y cx cy = 0 from by unfold ptQ; simp_all <;> omega, show ptD x y cx cy = 0 from by unfold ptD; simp_all [apartI] <;> omega], hB⟩
              · replace hs := hs.know (t := 66) rfl hb
                have cd7 := hb; have cd7b := hb; clear hb
                replace cd7 := ne_of_beq_false cd7
                replace hs := hs.pick (ts := [2, 3, 66]) (L' := [(2, .pointer (some ⟨b1, 0, none⟩)), (3, .pointer (some ⟨b2, 0, none⟩)), (66, .bool false)]) (by kernel_rfl)
                refine atR_seg (m := 7) (H := []) (ts := [2, 3, 60]) (L' := [(2, .pointer (some ⟨b1, 0, none⟩)), (3, .pointer (some ⟨b2, 0, none⟩)), (60, .bool false)]) (O := fun w => True) hs (by kernel_rfl) trivial ?_
                clear hs a; intro a hs
                refine atR_end (by kernel_rfl) ?_
                refine wayN_node rfl ?_
                refine at_cond (t := 60) (j1 := 25) (j2 := 28) (b := false) (by kernel_rfl) hs rfl (fun hb => absurd (hb.symm.trans (show (false) = false from rfl)) (by decide)) (fun _ => ?_)
                refine at_skip (by kernel_rfl) ?_
                refine wayN_node rfl ?_
                refine at_seq (j := 31) (by kernel_rfl) ?_
                refine at_region (id := 9) (by kernel_rfl) ?_
                refine atR_seg (m := 2) (H := []) (ts := [4, 5]) (L' := [(4, .int .i64 0), (5, .int .u64 0)]) (O := fun w => True) hs (by kernel_rfl) trivial ?_
                clear hs a; intro a hs
                refine atR_end (by kernel_rfl) ?_
                refine wayN_node rfl ?_
                refine at_ret (by kernel_rfl) ?_
                refine at_end (vs := [.int .i64 0, .int .u64 0]) (H := []) (v := .tuple #[.int .i64 0, .int .u64 0]) (O := fun w => True) hs (by kernel_rfl) rfl trivial ?_
                exact ⟨by rw [show ptQ x y cx cy = 0 from by unfold ptQ; simp_all <;> omega, show ptD x y cx cy = 0 from by unfold ptD; simp_all [apartI] <;> omega], hB⟩
          · replace hs := hs.know (t := 48) rfl hb
            have cd5 := hb; have cd5b := hb; clear hb
            replace cd5 := ne_of_beq_false cd5
            replace hs := hs.pick (ts := [2, 3, 48]) (L' := [(2, .pointer (some ⟨b1, 0, none⟩)), (3, .pointer (some ⟨b2, 0, none⟩)), (48, .bool false)]) (by kernel_rfl)
            refine atR_seg (m := 7) (H := []) (ts := [2, 3, 42]) (L' := [(2, .pointer (some ⟨b1, 0, none⟩)), (3, .pointer (some ⟨b2, 0, none⟩)), (42, .bool false)]) (O := fun w => True) hs (by kernel_rfl) trivial ?_
            clear hs a; intro a hs
            refine atR_end (by kernel_rfl) ?_
            refine wayN_node rfl ?_
            refine at_cond (t := 42) (j1 := 19) (j2 := 22) (b := false) (by kernel_rfl) hs rfl (fun hb => absurd (hb.symm.trans (show (false) = false from rfl)) (by decide)) (fun _ => ?_)
            refine at_seq (j := 24) (by kernel_rfl) ?_
            refine at_region (id := 7) (by kernel_rfl) ?_
            refine atR_seg (m := 6) (H := [(1, none, [.int .i64 x]), (3, none, [.int .i64 cx])]) (ts := [2, 3, 66]) (L' := [(2, .pointer (some ⟨b1, 0, none⟩)), (3, .pointer (some ⟨b2, 0, none⟩)), (66, .bool (x == cx))]) (O := fun w => (w.cell? ⟨b1, 0, none⟩ = some (.int .i64 x)) ∧ (w.cell? ⟨b2, 0, none⟩ = some (.int .i64 cx)) ∧ True) hs (by kernel_rfl) ⟨B1.cell 0 rfl, B2.cell 0 rfl, trivial⟩ ?_
            clear hs a; intro a hs
            rcases Bool.eq_false_or_eq_true (x == cx) with hb | hb
            · replace hs := hs.know (t := 66) rfl hb
              have cd9 := hb; have cd9b := hb; clear hb
              replace cd9 := eq_of_beq cd9
              replace hs := hs.pick (ts := [2, 3, 66]) (L' := [(2, .pointer (some ⟨b1, 0, none⟩)), (3, .pointer (some ⟨b2, 0, none⟩)), (66, .bool true)]) (by kernel_rfl)
              refine atR_seg (m := 7) (H := [(7, none, [.int .i64 y]), (9, none, [.int .i64 cy])]) (ts := [2, 3, 60]) (L' := [(2, .pointer (some ⟨b1, 0, none⟩)), (3, .pointer (some ⟨b2, 0, none⟩)), (60, .bool (decide (y < cy)))]) (O := fun w => (w.cell? ⟨b1, 1, none⟩ = some (.int .i64 y)) ∧ (w.cell? ⟨b2, 1, none⟩ = some (.int .i64 cy)) ∧ True) hs (by kernel_rfl) ⟨B1.cell 1 rfl, B2.cell 1 rfl, trivial⟩ ?_
              clear hs a; intro a hs
              refine atR_end (by kernel_rfl) ?_
              refine wayN_node rfl ?_
              refine at_cond (t := 60) (j1 := 25) (j2 := 28) (b := decide (y < cy)) (by kernel_rfl) hs rfl (fun hb => ?_) (fun hb => ?_)
              · have cd10 := hb; have cd10b := hb; clear hb
                replace cd10 := of_decide_eq_true cd10
                refine at_seq (j := 27) (by kernel_rfl) ?_
                refine at_region (id := 8) (by kernel_rfl) ?_
                refine atR_seg (m := 4) (H := [(1, none, [.int .i64 y]), (3, none, [.int .i64 cy])]) (ts := [74, 76]) (L' := [(74, .int .i64 y), (76, .int .i64 cy)]) (O := fun w => (w.cell? ⟨b1, 1, none⟩ = some (.int .i64 y)) ∧ (w.cell? ⟨b2, 1, none⟩ = some (.int .i64 cy)) ∧ True) hs (by kernel_rfl) ⟨B1.cell 1 rfl, B2.cell 1 rfl, trivial⟩ ?_
                clear hs a; intro a hs
                refine atR_op hs (by kernel_rfl) (call1 (f := 35) (args := #[.int .i64 y, .int .i64 cy]) [77] (fun rv_ => [(77, rv_)]) hs (by kernel_rfl) (fun _ => by kernel_rfl) ?_)
                refine (apart_any _ _ _ (by assumption) (by assumption)).mono ?_
                rintro e w7 ⟨rfl, hb⟩
                refine ⟨_, rfl, ?_⟩
                clear hs a; intro a hs
                replace B1 := B1.below hb B1.lt
                replace B2 := B2.below hb B2.lt
                replace hB := later hB hb
                clear hb
                refine atR_seg (m := 2) (H := []) (ts := [4, 5]) (L' := [(4, .int .i64 3), (5, .int .u64 (apartI y cy))]) (O := fun w => True) hs (by kernel_rfl) trivial ?_
                clear hs a; intro a hs
                refine atR_end (by kernel_rfl) ?_
                refine wayN_node rfl ?_
                refine at_ret (by kernel_rfl) ?_
                refine at_end (vs := [.int .i64 3, .int .u64 (apartI y cy)]) (H := []) (v := .tuple #[.int .i64 3, .int .u64 (apartI y cy)]) (O := fun w => True) hs (by kernel_rfl) rfl trivial ?_
                exact ⟨by rw [show ptQ x y cx cy = 3 from by unfold ptQ; simp_all <;> omega, show ptD x y cx cy = apartI y cy from by unfold ptD; simp_all [apartI] <;> omega], hB⟩
              · have cd10 := hb; have cd10b := hb; clear hb
                replace cd10 := of_decide_eq_false cd10
                refine at_skip (by kernel_rfl) ?_
                refine wayN_node rfl ?_
                refine at_seq (j := 31) (by kernel_rfl) ?_
                refine at_region (id := 9) (by kernel_rfl) ?_
                refine atR_seg (m := 2) (H := []) (ts := [4, 5]) (L' := [(4, .int .i64 0), (5, .int .u64 0)]) (O := fun w => True) hs (by kernel_rfl) trivial ?_
                clear hs a; intro a hs
                refine atR_end (by kernel_rfl) ?_
                refine wayN_node rfl ?_
                refine at_ret (by kernel_rfl) ?_
                refine at_end (vs := [.int .i64 0, .int .u64 0]) (H := []) (v := .tuple #[.int .i64 0, .int .u64 0]) (O := fun w => True) hs (by kernel_rfl) rfl trivial ?_
                exact ⟨by rw [show ptQ x y cx cy = 0 from by unfold ptQ; simp_all <;> omega, show ptD x y cx cy = 0 from by unfold ptD; simp_all [apartI] <;> omega], hB⟩
            · replace hs := hs.know (t := 66) rfl hb
              have cd9 := hb; have cd9b := hb; clear hb
              replace cd9 := ne_of_beq_false cd9
              replace hs := hs.pick (ts := [2, 3, 66]) (L' := [(2, .pointer (some ⟨b1, 0, none⟩)), (3, .pointer (some ⟨b2, 0, none⟩)), (66, .bool false)]) (by kernel_rfl)
              refine atR_seg (m := 7) (H := []) (ts := [2, 3, 60]) (L' := [(2, .pointer (some ⟨b1, 0, none⟩)), (3, .pointer (some ⟨b2, 0, none⟩)), (60, .bool false)]) (O := fun w => True) hs (by kernel_rfl) trivial ?_
              clear hs a; intro a hs
              refine atR_end (by kernel_rfl) ?_
              refine wayN_node rfl ?_
              refine at_cond (t := 60) (j1 := 25) (j2 := 28) (b := false) (by kernel_rfl) hs rfl (fun hb => absurd (hb.symm.trans (show (false) = false from rfl)) (by decide)) (fun _ => ?_)
              refine at_skip (by kernel_rfl) ?_
              refine wayN_node rfl ?_
              refine at_seq (j := 31) (by kernel_rfl) ?_
              refine at_region (id := 9) (by kernel_rfl) ?_
              refine atR_seg (m := 2) (H := []) (ts := [4, 5]) (L' := [(4, .int .i64 0), (5, .int .u64 0)]) (O := fun w => True) hs (by kernel_rfl) trivial ?_
              clear hs a; intro a hs
              refine atR_end (by kernel_rfl) ?_
              refine wayN_node rfl ?_
              refine at_ret (by kernel_rfl) ?_
              refine at_end (vs := [.int .i64 0, .int .u64 0]) (H := []) (v := .tuple #[.int .i64 0, .int .u64 0]) (O := fun w => True) hs (by kernel_rfl) rfl trivial ?_
              exact ⟨by rw [show ptQ x y cx cy = 0 from by unfold ptQ; simp_all <;> omega, show ptD x y cx cy = 0 from by unfold ptD; simp_all [apartI] <;> omega], hB⟩
      · replace hs := hs.know (t := 30) rfl hb
        have cd3 := hb; have cd3b := hb; clear hb
        replace cd3 := ne_of_beq_false cd3
        replace hs := hs.pick (ts := [2, 3, 30]) (L' := [(2, .pointer (some ⟨b1, 0, none⟩)), (3, .pointer (some ⟨b2, 0, none⟩)), (30, .bool false)]) (by kernel_rfl)
        refine atR_seg (m := 7) (H := []) (ts := [2, 3, 24]) (L' := [(2, .pointer (some ⟨b1, 0, none⟩)), (3, .pointer (some ⟨b2, 0, none⟩)), (24, .bool false)]) (O := fun w => True) hs (by kernel_rfl) trivial ?_
        clear hs a; intro a hs
        refine atR_end (by kernel_rfl) ?_
        refine wayN_node rfl ?_
        refine at_cond (t := 24) (j1 := 13) (j2 := 16) (b := false) (by kernel_rfl) hs rfl (fun hb => absurd (hb.symm.trans (show (false) = false from rfl)) (by decide)) (fun _ => ?_)
        refine at_seq (j := 18) (by kernel_rfl) ?_
        refine at_region (id := 5) (by kernel_rfl) ?_
        refine atR_seg (m := 6) (H := [(1, none, [.int .i64 y]), (3, none, [.int .i64 cy])]) (ts := [2, 3, 48]) (L' := [(2, .pointer (some ⟨b1, 0, none⟩)), (3, .pointer (some ⟨b2, 0, none⟩)), (48, .bool (y == cy))]) (O := fun w => (w.cell? ⟨b1, 1, none⟩ = some (.int .i64 y)) ∧ (w.cell? ⟨b2, 1, none⟩ = some (.int .i64 cy)) ∧ True) hs (by kernel_rfl) ⟨B1.cell 1 rfl, B2.cell 1 rfl, trivial⟩ ?_
        clear hs a; intro a hs
        rcases Bool.eq_false_or_eq_true (y == cy) with hb | hb
        · replace hs := hs.know (t := 48) rfl hb
          have cd11 := hb; have cd11b := hb; clear hb
          replace cd11 := eq_of_beq cd11
          replace hs := hs.pick (ts := [2, 3, 48]) (L' := [(2, .pointer (some ⟨b1, 0, none⟩)), (3, .pointer (some ⟨b2, 0, none⟩)), (48, .bool true)]) (by kernel_rfl)
          refine atR_seg (m := 7) (H := [(7, none, [.int .i64 x]), (9, none, [.int .i64 cx])]) (ts := [2, 3, 42]) (L' := [(2, .pointer (some ⟨b1, 0, none⟩)), (3, .pointer (some ⟨b2, 0, none⟩)), (42, .bool (decide (x < cx)))]) (O := fun w => (w.cell? ⟨b1, 0, none⟩ = some (.int .i64 x)) ∧ (w.cell? ⟨b2, 0, none⟩ = some (.int .i64 cx)) ∧ True) hs (by kernel_rfl) ⟨B1.cell 0 rfl, B2.cell 0 rfl, trivial⟩ ?_
          clear hs a; intro a hs
          refine atR_end (by kernel_rfl) ?_
          refine wayN_node rfl ?_
          refine at_cond (t := 42) (j1 := 19) (j2 := 22) (b := decide (x < cx)) (by kernel_rfl) hs rfl (fun hb => ?_) (fun hb => ?_)
          · have cd12 := hb; have cd12b := hb; clear hb
            replace cd12 := of_decide_eq_true cd12
            refine at_seq (j := 21) (by kernel_rfl) ?_
            refine at_region (id := 6) (by kernel_rfl) ?_
            refine atR_seg (m := 4) (H := [(1, none, [.int .i64 x]), (3, none, [.int .i64 cx])]) (ts := [56, 58]) (L' := [(56, .int .i64 x), (58, .int .i64 cx)]) (O := fun w => (w.cell? ⟨b1, 0, none⟩ = some (.int .i64 x)) ∧ (w.cell? ⟨b2, 0, none⟩ = some (.int .i64 cx)) ∧ True) hs (by kernel_rfl) ⟨B1.cell 0 rfl, B2.cell 0 rfl, trivial⟩ ?_
            clear hs a; intro a hs
            refine atR_op hs (by kernel_rfl) (call1 (f := 35) (args := #[.int .i64 x, .int .i64 cx]) [59] (fun rv_ => [(59, rv_)]) hs (by kernel_rfl) (fun _ => by kernel_rfl) ?_)
            refine (apart_any _ _ _ (by assumption) (by assumption)).mono ?_
            rintro e w8 ⟨rfl, hb⟩
            refine ⟨_, rfl, ?_⟩
            clear hs a; intro a hs
            replace B1 := B1.below hb B1.lt
            replace B2 := B2.below hb B2.lt
            replace hB := later hB hb
            clear hb
            refine atR_seg (m := 2) (H := []) (ts := [4, 5]) (L' := [(4, .int .i64 2), (5, .int .u64 (apartI x cx))]) (O := fun w => True) hs (by kernel_rfl) trivial ?_
            clear hs a; intro a hs
            refine atR_end (by kernel_rfl) ?_
            refine wayN_node rfl ?_
            refine at_ret (by kernel_rfl) ?_
            refine at_end (vs := [.int .i64 2, .int .u64 (apartI x cx)]) (H := []) (v := .tuple #[.int .i64 2, .int .u64 (apartI x cx)]) (O := fun w => True) hs (by kernel_rfl) rfl trivial ?_
            exact ⟨by rw [show ptQ x y cx cy = 2 from by unfold ptQ; simp_all <;> omega, show ptD x y cx cy = apartI x cx from by unfold ptD; simp_all [apartI] <;> omega], hB⟩
          · have cd12 := hb; have cd12b := hb; clear hb
            replace cd12 := of_decide_eq_false cd12
            refine at_seq (j := 24) (by kernel_rfl) ?_
            refine at_region (id := 7) (by kernel_rfl) ?_
            refine atR_seg (m := 6) (H := [(1, none, [.int .i64 x]), (3, none, [.int .i64 cx])]) (ts := [2, 3, 66]) (L' := [(2, .pointer (some ⟨b1, 0, none⟩)), (3, .pointer (some ⟨b2, 0, none⟩)), (66, .bool (x == cx))]) (O := fun w => (w.cell? ⟨b1, 0, none⟩ = some (.int .i64 x)) ∧ (w.cell? ⟨b2, 0, none⟩ = some (.int .i64 cx)) ∧ True) hs (by kernel_rfl) ⟨B1.cell 0 rfl, B2.cell 0 rfl, trivial⟩ ?_
            clear hs a; intro a hs
            rcases Bool.eq_false_or_eq_true (x == cx) with hb | hb
            · replace hs := hs.know (t := 66) rfl hb
              have cd13 := hb; have cd13b := hb; clear hb
              replace cd13 := eq_of_beq cd13
              replace hs := hs.pick (ts := [2, 3, 66]) (L' := [(2, .pointer (some ⟨b1, 0, none⟩)), (3, .pointer (some ⟨b2, 0, none⟩)), (66, .bool true)]) (by kernel_rfl)
              refine atR_seg (m := 7) (H := [(7, none, [.int .i64 y]), (9, none, [.int .i64 cy])]) (ts := [2, 3, 60]) (L' := [(2, .pointer (some ⟨b1, 0, none⟩)), (3, .pointer (some ⟨b2, 0, none⟩)), (60, .bool (decide (y < cy)))]) (O := fun w => (w.cell? ⟨b1, 1, none⟩ = some (.int .i64 y)) ∧ (w.cell? ⟨b2, 1, none⟩ = some (.int .i64 cy)) ∧ True) hs (by kernel_rfl) ⟨B1.cell 1 rfl, B2.cell 1 rfl, trivial⟩ ?_
              clear hs a; intro a hs
              refine atR_end (by kernel_rfl) ?_
              refine wayN_node rfl ?_
              refine at_cond (t := 60) (j1 := 25) (j2 := 28) (b := decide (y < cy)) (by kernel_rfl) hs rfl (fun hb => ?_) (fun hb => ?_)
              · have cd14 := hb; have cd14b := hb; clear hb
                replace cd14 := of_decide_eq_true cd14
                refine at_seq (j := 27) (by kernel_rfl) ?_
                refine at_region (id := 8) (by kernel_rfl) ?_
                refine atR_seg (m := 4) (H := [(1, none, [.int .i64 y]), (3, none, [.int .i64 cy])]) (ts := [74, 76]) (L' := [(74, .int .i64 y), (76, .int .i64 cy)]) (O := fun w => (w.cell? ⟨b1, 1, none⟩ = some (.int .i64 y)) ∧ (w.cell? ⟨b2, 1, none⟩ = some (.int .i64 cy)) ∧ True) hs (by kernel_rfl) ⟨B1.cell 1 rfl, B2.cell 1 rfl, trivial⟩ ?_
                clear hs a; intro a hs
                refine atR_op hs (by kernel_rfl) (call1 (f := 35) (args := #[.int .i64 y, .int .i64 cy]) [77] (fun rv_ => [(77, rv_)]) hs (by kernel_rfl) (fun _ => by kernel_rfl) ?_)
                refine (apart_any _ _ _ (by assumption) (by assumption)).mono ?_
                rintro e w9 ⟨rfl, hb⟩
                refine ⟨_, rfl, ?_⟩
                clear hs a; intro a hs
                replace B1 := B1.below hb B1.lt
                replace B2 := B2.below hb B2.lt
                replace hB := later hB hb
                clear hb
                refine atR_seg (m := 2) (H := []) (ts := [4, 5]) (L' := [(4, .int .i64 3), (5, .int .u64 (apartI y cy))]) (O := fun w => True) hs (by kernel_rfl) trivial ?_
                clear hs a; intro a hs
                refine atR_end (by kernel_rfl) ?_
                refine wayN_node rfl ?_
                refine at_ret (by kernel_rfl) ?_
                refine at_end (vs := [.int .i64 3, .int .u64 (apartI y cy)]) (H := []) (v := .tuple #[.int .i64 3, .int .u64 (apartI y cy)]) (O := fun w => True) hs (by kernel_rfl) rfl trivial ?_
                exact ⟨by rw [show ptQ x y cx cy = 3 from by unfold ptQ; simp_all <;> omega, show ptD x y cx cy = apartI y cy from by unfold ptD; simp_all [apartI] <;> omega], hB⟩
              · have cd14 := hb; have cd14b := hb; clear hb
                replace cd14 := of_decide_eq_false cd14
                refine at_skip (by kernel_rfl) ?_
                refine wayN_node rfl ?_
                refine at_seq (j := 31) (by kernel_rfl) ?_
                refine at_region (id := 9) (by kernel_rfl) ?_
                refine atR_seg (m := 2) (H := []) (ts := [4, 5]) (L' := [(4, .int .i64 0), (5, .int .u64 0)]) (O := fun w => True) hs (by kernel_rfl) trivial ?_
                clear hs a; intro a hs
                refine atR_end (by kernel_rfl) ?_
                refine wayN_node rfl ?_
                refine at_ret (by kernel_rfl) ?_
                refine at_end (vs := [.int .i64 0, .int .u64 0]) (H := []) (v := .tuple #[.int .i64 0, .int .u64 0]) (O := fun w => True) hs (by kernel_rfl) rfl trivial ?_
                exact ⟨by rw [show ptQ x y cx cy = 0 from by unfold ptQ; simp_all <;> omega, show ptD x y cx cy = 0 from by unfold ptD; simp_all [apartI] <;> omega], hB⟩
            · replace hs := hs.know (t := 66) rfl hb
              have cd13 := hb; have cd13b := hb; clear hb
              replace cd13 := ne_of_beq_false cd13
              replace hs := hs.pick (ts := [2, 3, 66]) (L' := [(2, .pointer (some ⟨b1, 0, none⟩)), (3, .pointer (some ⟨b2, 0, none⟩)), (66, .bool false)]) (by kernel_rfl)
              refine atR_seg (m := 7) (H := []) (ts := [2, 3, 60]) (L' := [(2, .pointer (some ⟨b1, 0, none⟩)), (3, .pointer (some ⟨b2, 0, none⟩)), (60, .bool false)]) (O := fun w => True) hs (by kernel_rfl) trivial ?_
              clear hs a; intro a hs
              refine atR_end (by kernel_rfl) ?_
              refine wayN_node rfl ?_
              refine at_cond (t := 60) (j1 := 25) (j2 := 28) (b := false) (by kernel_rfl) hs rfl (fun hb => absurd (hb.symm.trans (show (false) = false from rfl)) (by decide)) (fun _ => ?_)
              refine at_skip (by kernel_rfl) ?_
              refine wayN_node rfl ?_
              refine at_seq (j := 31) (by kernel_rfl) ?_
              refine at_region (id := 9) (by kernel_rfl) ?_
              refine atR_seg (m := 2) (H := []) (ts := [4, 5]) (L' := [(4, .int .i64 0), (5, .int .u64 0)]) (O := fun w => True) hs (by kernel_rfl) trivial ?_
              clear hs a; intro a hs
              refine atR_end (by kernel_rfl) ?_
              refine wayN_node rfl ?_
              refine at_ret (by kernel_rfl) ?_
              refine at_end (vs := [.int .i64 0, .int .u64 0]) (H := []) (v := .tuple #[.int .i64 0, .int .u64 0]) (O := fun w => True) hs (by kernel_rfl) rfl trivial ?_
              exact ⟨by rw [show ptQ x y cx cy = 0 from by unfold ptQ; simp_all <;> omega, show ptD x y cx cy = 0 from by unfold ptD; simp_all [apartI] <;> omega], hB⟩
        · replace hs := hs.know (t := 48) rfl hb
          have cd11 := hb; have cd11b := hb; clear hb
          replace cd11 := ne_of_beq_false cd11
          replace hs := hs.pick (ts := [2, 3, 48]) (L' := [(2, .pointer (some ⟨b1, 0, none⟩)), (3, .pointer (some ⟨b2, 0, none⟩)), (48, .bool false)]) (by kernel_rfl)
          refine atR_seg (m := 7) (H := []) (ts := [2, 3, 42]) (L' := [(2, .pointer (some ⟨b1, 0, none⟩)), (3, .pointer (some ⟨b2, 0, none⟩)), (42, .bool false)]) (O := fun w => True) hs (by kernel_rfl) trivial ?_
          clear hs a; intro a hs
          refine atR_end (by kernel_rfl) ?_
          refine wayN_node rfl ?_
          refine at_cond (t := 42) (j1 := 19) (j2 := 22) (b := false) (by kernel_rfl) hs rfl (fun hb => absurd (hb.symm.trans (show (false) = false from rfl)) (by decide)) (fun _ => ?_)
          refine at_seq (j := 24) (by kernel_rfl) ?_
          refine at_region (id := 7) (by kernel_rfl) ?_
          refine atR_seg (m := 6) (H := [(1, none, [.int .i64 x]), (3, none, [.int .i64 cx])]) (ts := [2, 3, 66]) (L' := [(2, .pointer (some ⟨b1, 0, none⟩)), (3, .pointer (some ⟨b2, 0, none⟩)), (66, .bool (x == cx))]) (O := fun w => (w.cell? ⟨b1, 0, none⟩ = some (.int .i64 x)) ∧ (w.cell? ⟨b2, 0, none⟩ = some (.int .i64 cx)) ∧ True) hs (by kernel_rfl) ⟨B1.cell 0 rfl, B2.cell 0 rfl, trivial⟩ ?_
          clear hs a; intro a hs
          rcases Bool.eq_false_or_eq_true (x == cx) with hb | hb
          · replace hs := hs.know (t := 66) rfl hb
            have cd15 := hb; have cd15b := hb; clear hb
            replace cd15 := eq_of_beq cd15
            replace hs := hs.pick (ts := [2, 3, 66]) (L' := [(2, .pointer (some ⟨b1, 0, none⟩)), (3, .pointer (some ⟨b2, 0, none⟩)), (66, .bool true)]) (by kernel_rfl)
            refine atR_seg (m := 7) (H := [(7, none, [.int .i64 y]), (9, none, [.int .i64 cy])]) (ts := [2, 3, 60]) (L' := [(2, .pointer (some ⟨b1, 0, none⟩)), (3, .pointer (some ⟨b2, 0, none⟩)), (60, .bool (decide (y < cy)))]) (O := fun w => (w.cell? ⟨b1, 1, none⟩ = some (.int .i64 y)) ∧ (w.cell? ⟨b2, 1, none⟩ = some (.int .i64 cy)) ∧ True) hs (by kernel_rfl) ⟨B1.cell 1 rfl, B2.cell 1 rfl, trivial⟩ ?_
            clear hs a; intro a hs
            refine atR_end (by kernel_rfl) ?_
            refine wayN_node rfl ?_
            refine at_cond (t := 60) (j1 := 25) (j2 := 28) (b := decide (y < cy)) (by kernel_rfl) hs rfl (fun hb => ?_) (fun hb => ?_)
            · have cd16 := hb; have cd16b := hb; clear hb
              replace cd16 := of_decide_eq_true cd16
              refine at_seq (j := 27) (by kernel_rfl) ?_
              refine at_region (id := 8) (by kernel_rfl) ?_
              refine atR_seg (m := 4) (H := [(1, none, [.int .i64 y]), (3, none, [.int .i64 cy])]) (ts := [74, 76]) (L' := [(74, .int .i64 y), (76, .int .i64 cy)]) (O := fun w => (w.cell? ⟨b1, 1, none⟩ = some (.int .i64 y)) ∧ (w.cell? ⟨b2, 1, none⟩ = some (.int .i64 cy)) ∧ True) hs (by kernel_rfl) ⟨B1.cell 1 rfl, B2.cell 1 rfl, trivial⟩ ?_
              clear hs a; intro a hs
              refine atR_op hs (by kernel_rfl) (call1 (f := 35) (args := #[.int .i64 y, .int .i64 cy]) [77] (fun rv_ => [(77, rv_)]) hs (by kernel_rfl) (fun _ => by kernel_rfl) ?_)
              refine (apart_any _ _ _ (by assumption) (by assumption)).mono ?_
              rintro e w10 ⟨rfl, hb⟩
              refine ⟨_, rfl, ?_⟩
              clear hs a; intro a hs
              replace B1 := B1.below hb B1.lt
              replace B2 := B2.below hb B2.lt
              replace hB := later hB hb
              clear hb
              refine atR_seg (m := 2) (H := []) (ts := [4, 5]) (L' := [(4, .int .i64 3), (5, .int .u64 (apartI y cy))]) (O := fun w => True) hs (by kernel_rfl) trivial ?_
              clear hs a; intro a hs
              refine atR_end (by kernel_rfl) ?_
              refine wayN_node rfl ?_
              refine at_ret (by kernel_rfl) ?_
              refine at_end (vs := [.int .i64 3, .int .u64 (apartI y cy)]) (H := []) (v := .tuple #[.int .i64 3, .int .u64 (apartI y cy)]) (O := fun w => True) hs (by kernel_rfl) rfl trivial ?_
              exact ⟨by rw [show ptQ x y cx cy = 3 from by unfold ptQ; simp_all <;> omega, show ptD x y cx cy = apartI y cy from by unfold ptD; simp_all [apartI] <;> omega], hB⟩
            · have cd16 := hb; have cd16b := hb; clear hb
              replace cd16 := of_decide_eq_false cd16
              refine at_skip (by kernel_rfl) ?_
              refine wayN_node rfl ?_
              refine at_seq (j := 31) (by kernel_rfl) ?_
              refine at_region (id := 9) (by kernel_rfl) ?_
              refine atR_seg (m := 2) (H := []) (ts := [4, 5]) (L' := [(4, .int .i64 0), (5, .int .u64 0)]) (O := fun w => True) hs (by kernel_rfl) trivial ?_
              clear hs a; intro a hs
              refine atR_end (by kernel_rfl) ?_
              refine wayN_node rfl ?_
              refine at_ret (by kernel_rfl) ?_
              refine at_end (vs := [.int .i64 0, .int .u64 0]) (H := []) (v := .tuple #[.int .i64 0, .int .u64 0]) (O := fun w => True) hs (by kernel_rfl) rfl trivial ?_
              exact ⟨by rw [show ptQ x y cx cy = 0 from by unfold ptQ; simp_all <;> omega, show ptD x y cx cy = 0 from by unfold ptD; simp_all [apartI] <;> omega], hB⟩
          · replace hs := hs.know (t := 66) rfl hb
            have cd15 := hb; have cd15b := hb; clear hb
            replace cd15 := ne_of_beq_false cd15
            replace hs := hs.pick (ts := [2, 3, 66]) (L' := [(2, .pointer (some ⟨b1, 0, none⟩)), (3, .pointer (some ⟨b2, 0, none⟩)), (66, .bool false)]) (by kernel_rfl)
            refine atR_seg (m := 7) (H := []) (ts := [2, 3, 60]) (L' := [(2, .pointer (some ⟨b1, 0, none⟩)), (3, .pointer (some ⟨b2, 0, none⟩)), (60, .bool false)]) (O := fun w => True) hs (by kernel_rfl) trivial ?_
            clear hs a; intro a hs
            refine atR_end (by kernel_rfl) ?_
            refine wayN_node rfl ?_
            refine at_cond (t := 60) (j1 := 25) (j2 := 28) (b := false) (by kernel_rfl) hs rfl (fun hb => absurd (hb.symm.trans (show (false) = false from rfl)) (by decide)) (fun _ => ?_)
            refine at_skip (by kernel_rfl) ?_
            refine wayN_node rfl ?_
            refine at_seq (j := 31) (by kernel_rfl) ?_
            refine at_region (id := 9) (by kernel_rfl) ?_
            refine atR_seg (m := 2) (H := []) (ts := [4, 5]) (L' := [(4, .int .i64 0), (5, .int .u64 0)]) (O := fun w => True) hs (by kernel_rfl) trivial ?_
            clear hs a; intro a hs
            refine atR_end (by kernel_rfl) ?_
            refine wayN_node rfl ?_
            refine at_ret (by kernel_rfl) ?_
            refine at_end (vs := [.int .i64 0, .int .u64 0]) (H := []) (v := .tuple #[.int .i64 0, .int .u64 0]) (O := fun w => True) hs (by kernel_rfl) rfl trivial ?_
            exact ⟨by rw [show ptQ x y cx cy = 0 from by unfold ptQ; simp_all <;> omega, show ptD x y cx cy = 0 from by unfold ptD; simp_all [apartI] <;> omega], hB⟩
  · replace hs := hs.know (t := 12) rfl hb
    have cd1 := hb; have cd1b := hb; clear hb
    replace cd1 := ne_of_beq_false cd1
    replace hs := hs.pick (ts := [2, 3, 12]) (L' := [(2, .pointer (some ⟨b1, 0, none⟩)), (3, .pointer (some ⟨b2, 0, none⟩)), (12, .bool false)]) (by kernel_rfl)
    refine atR_seg (m := 7) (H := []) (ts := [2, 3, 6]) (L' := [(2, .pointer (some ⟨b1, 0, none⟩)), (3, .pointer (some ⟨b2, 0, none⟩)), (6, .bool false)]) (O := fun w => True) hs (by kernel_rfl) trivial ?_
    clear hs a; intro a hs
    refine atR_end (by kernel_rfl) ?_
    refine wayN_node rfl ?_
    refine at_cond (t := 6) (j1 := 7) (j2 := 10) (b := false) (by kernel_rfl) hs rfl (fun hb => absurd (hb.symm.trans (show (false) = false from rfl)) (by decide)) (fun _ => ?_)
    refine at_seq (j := 12) (by kernel_rfl) ?_
    refine at_region (id := 3) (by kernel_rfl) ?_
    refine atR_seg (m := 6) (H := [(1, none, [.int .i64 x]), (3, none, [.int .i64 cx])]) (ts := [2, 3, 30]) (L' := [(2, .pointer (some ⟨b1, 0, none⟩)), (3, .pointer (some ⟨b2, 0, none⟩)), (30, .bool (x == cx))]) (O := fun w => (w.cell? ⟨b1, 0, none⟩ = some (.int .i64 x)) ∧ (w.cell? ⟨b2, 0, none⟩ = some (.int .i64 cx)) ∧ True) hs (by kernel_rfl) ⟨B1.cell 0 rfl, B2.cell 0 rfl, trivial⟩ ?_
    clear hs a; intro a hs
    rcases Bool.eq_false_or_eq_true (x == cx) with hb | hb
    · replace hs := hs.know (t := 30) rfl hb
      have cd17 := hb; have cd17b := hb; clear hb
      replace cd17 := eq_of_beq cd17
      replace hs := hs.pick (ts := [2, 3, 30]) (L' := [(2, .pointer (some ⟨b1, 0, none⟩)), (3, .pointer (some ⟨b2, 0, none⟩)), (30, .bool true)]) (by kernel_rfl)
      refine atR_seg (m := 7) (H := [(7, none, [.int .i64 y]), (9, none, [.int .i64 cy])]) (ts := [2, 3, 24]) (L' := [(2, .pointer (some ⟨b1, 0, none⟩)), (3, .pointer (some ⟨b2, 0, none⟩)), (24, .bool (decide (y > cy)))]) (O := fun w => (w.cell? ⟨b1, 1, none⟩ = some (.int .i64 y)) ∧ (w.cell? ⟨b2, 1, none⟩ = some (.int .i64 cy)) ∧ True) hs (by kernel_rfl) ⟨B1.cell 1 rfl, B2.cell 1 rfl, trivial⟩ ?_
      clear hs a; intro a hs
      refine atR_end (by kernel_rfl) ?_
      refine wayN_node rfl ?_
      refine at_cond (t := 24) (j1 := 13) (j2 := 16) (b := decide (y > cy)) (by kernel_rfl) hs rfl (fun hb => ?_) (fun hb => ?_)
      · have cd18 := hb; have cd18b := hb; clear hb
        replace cd18 := of_decide_eq_true cd18
        refine at_seq (j := 15) (by kernel_rfl) ?_
        refine at_region (id := 4) (by kernel_rfl) ?_
        refine atR_seg (m := 4) (H := [(1, none, [.int .i64 y]), (3, none, [.int .i64 cy])]) (ts := [38, 40]) (L' := [(38, .int .i64 y), (40, .int .i64 cy)]) (O := fun w => (w.cell? ⟨b1, 1, none⟩ = some (.int .i64 y)) ∧ (w.cell? ⟨b2, 1, none⟩ = some (.int .i64 cy)) ∧ True) hs (by kernel_rfl) ⟨B1.cell 1 rfl, B2.cell 1 rfl, trivial⟩ ?_
        clear hs a; intro a hs
        refine atR_op hs (by kernel_rfl) (call1 (f := 35) (args := #[.int .i64 y, .int .i64 cy]) [41] (fun rv_ => [(41, rv_)]) hs (by kernel_rfl) (fun _ => by kernel_rfl) ?_)
        refine (apart_any _ _ _ (by assumption) (by assumption)).mono ?_
        rintro e w11 ⟨rfl, hb⟩
        refine ⟨_, rfl, ?_⟩
        clear hs a; intro a hs
        replace B1 := B1.below hb B1.lt
        replace B2 := B2.below hb B2.lt
        replace hB := later hB hb
        clear hb
        refine atR_seg (m := 2) (H := []) (ts := [4, 5]) (L' := [(4, .int .i64 1), (5, .int .u64 (apartI y cy))]) (O := fun w => True) hs (by kernel_rfl) trivial ?_
        clear hs a; intro a hs
        refine atR_end (by kernel_rfl) ?_
        refine wayN_node rfl ?_
        refine at_ret (by kernel_rfl) ?_
        refine at_end (vs := [.int .i64 1, .int .u64 (apartI y cy)]) (H := []) (v := .tuple #[.int .i64 1, .int .u64 (apartI y cy)]) (O := fun w => True) hs (by kernel_rfl) rfl trivial ?_
        exact ⟨by rw [show ptQ x y cx cy = 1 from by unfold ptQ; simp_all <;> omega, show ptD x y cx cy = apartI y cy from by unfold ptD; simp_all [apartI] <;> omega], hB⟩
      · have cd18 := hb; have cd18b := hb; clear hb
        replace cd18 := of_decide_eq_false cd18
        refine at_seq (j := 18) (by kernel_rfl) ?_
        refine at_region (id := 5) (by kernel_rfl) ?_
        refine atR_seg (m := 6) (H := [(1, none, [.int .i64 y]), (3, none, [.int .i64 cy])]) (ts := [2, 3, 48]) (L' := [(2, .pointer (some ⟨b1, 0, none⟩)), (3, .pointer (some ⟨b2, 0, none⟩)), (48, .bool (y == cy))]) (O := fun w => (w.cell? ⟨b1, 1, none⟩ = some (.int .i64 y)) ∧ (w.cell? ⟨b2, 1, none⟩ = some (.int .i64 cy)) ∧ True) hs (by kernel_rfl) ⟨B1.cell 1 rfl, B2.cell 1 rfl, trivial⟩ ?_
        clear hs a; intro a hs
        rcases Bool.eq_false_or_eq_true (y == cy) with hb | hb
        · replace hs := hs.know (t := 48) rfl hb
          have cd19 := hb; have cd19b := hb; clear hb
          replace cd19 := eq_of_beq cd19
          replace hs := hs.pick (ts := [2, 3, 48]) (L' := [(2, .pointer (some ⟨b1, 0, none⟩)), (3, .pointer (some ⟨b2, 0, none⟩)), (48, .bool true)]) (by kernel_rfl)
          refine atR_seg (m := 7) (H := [(7, none, [.int .i64 x]), (9, none, [.int .i64 cx])]) (ts := [2, 3, 42]) (L' := [(2, .pointer (some ⟨b1, 0, none⟩)), (3, .pointer (some ⟨b2, 0, none⟩)), (42, .bool (decide (x < cx)))]) (O := fun w => (w.cell? ⟨b1, 0, none⟩ = some (.int .i64 x)) ∧ (w.cell? ⟨b2, 0, none⟩ = some (.int .i64 cx)) ∧ True) hs (by kernel_rfl) ⟨B1.cell 0 rfl, B2.cell 0 rfl, trivial⟩ ?_
          clear hs a; intro a hs
          refine atR_end (by kernel_rfl) ?_
          refine wayN_node rfl ?_
          refine at_cond (t := 42) (j1 := 19) (j2 := 22) (b := decide (x < cx)) (by kernel_rfl) hs rfl (fun hb => ?_) (fun hb => ?_)
          · have cd20 := hb; have cd20b := hb; clear hb
            replace cd20 := of_decide_eq_true cd20
            refine at_seq (j := 21) (by kernel_rfl) ?_
            refine at_region (id := 6) (by kernel_rfl) ?_
            refine atR_seg (m := 4) (H := [(1, none, [.int .i64 x]), (3, none, [.int .i64 cx])]) (ts := [56, 58]) (L' := [(56, .int .i64 x), (58, .int .i64 cx)]) (O := fun w => (w.cell? ⟨b1, 0, none⟩ = some (.int .i64 x)) ∧ (w.cell? ⟨b2, 0, none⟩ = some (.int .i64 cx)) ∧ True) hs (by kernel_rfl) ⟨B1.cell 0 rfl, B2.cell 0 rfl, trivial⟩ ?_
            clear hs a; intro a hs
            refine atR_op hs (by kernel_rfl) (call1 (f := 35) (args := #[.int .i64 x, .int .i64 cx]) [59] (fun rv_ => [(59, rv_)]) hs (by kernel_rfl) (fun _ => by kernel_rfl) ?_)
            refine (apart_any _ _ _ (by assumption) (by assumption)).mono ?_
            rintro e w12 ⟨rfl, hb⟩
            refine ⟨_, rfl, ?_⟩
            clear hs a; intro a hs
            replace B1 := B1.below hb B1.lt
            replace B2 := B2.below hb B2.lt
            replace hB := later hB hb
            clear hb
            refine atR_seg (m := 2) (H := []) (ts := [4, 5]) (L' := [(4, .int .i64 2), (5, .int .u64 (apartI x cx))]) (O := fun w => True) hs (by kernel_rfl) trivial ?_
            clear hs a; intro a hs
            refine atR_end (by kernel_rfl) ?_
            refine wayN_node rfl ?_
            refine at_ret (by kernel_rfl) ?_
            refine at_end (vs := [.int .i64 2, .int .u64 (apartI x cx)]) (H := []) (v := .tuple #[.int .i64 2, .int .u64 (apartI x cx)]) (O := fun w => True) hs (by kernel_rfl) rfl trivial ?_
            exact ⟨by rw [show ptQ x y cx cy = 2 from by unfold ptQ; simp_all <;> omega, show ptD x y cx cy = apartI x cx from by unfold ptD; simp_all [apartI] <;> omega], hB⟩
          · have cd20 := hb; have cd20b := hb; clear hb
            replace cd20 := of_decide_eq_false cd20
            refine at_seq (j := 24) (by kernel_rfl) ?_
            refine at_region (id := 7) (by kernel_rfl) ?_
            refine atR_seg (m := 6) (H := [(1, none, [.int .i64 x]), (3, none, [.int .i64 cx])]) (ts := [2, 3, 66]) (L' := [(2, .pointer (some ⟨b1, 0, none⟩)), (3, .pointer (some ⟨b2, 0, none⟩)), (66, .bool (x == cx))]) (O := fun w => (w.cell? ⟨b1, 0, none⟩ = some (.int .i64 x)) ∧ (w.cell? ⟨b2, 0, none⟩ = some (.int .i64 cx)) ∧ True) hs (by kernel_rfl) ⟨B1.cell 0 rfl, B2.cell 0 rfl, trivial⟩ ?_
            clear hs a; intro a hs
            rcases Bool.eq_false_or_eq_true (x == cx) with hb | hb
            · replace hs := hs.know (t := 66) rfl hb
              have cd21 := hb; have cd21b := hb; clear hb
              replace cd21 := eq_of_beq cd21
              replace hs := hs.pick (ts := [2, 3, 66]) (L' := [(2, .pointer (some ⟨b1, 0, none⟩)), (3, .pointer (some ⟨b2, 0, none⟩)), (66, .bool true)]) (by kernel_rfl)
              refine atR_seg (m := 7) (H := [(7, none, [.int .i64 y]), (9, none, [.int .i64 cy])]) (ts := [2, 3, 60]) (L' := [(2, .pointer (some ⟨b1, 0, none⟩)), (3, .pointer (some ⟨b2, 0, none⟩)), (60, .bool (decide (y < cy)))]) (O := fun w => (w.cell? ⟨b1, 1, none⟩ = some (.int .i64 y)) ∧ (w.cell? ⟨b2, 1, none⟩ = some (.int .i64 cy)) ∧ True) hs (by kernel_rfl) ⟨B1.cell 1 rfl, B2.cell 1 rfl, trivial⟩ ?_
              clear hs a; intro a hs
              refine atR_end (by kernel_rfl) ?_
              refine wayN_node rfl ?_
              refine at_cond (t := 60) (j1 := 25) (j2 := 28) (b := decide (y < cy)) (by kernel_rfl) hs rfl (fun hb => ?_) (fun hb => ?_)
              · have cd22 := hb; have cd22b := hb; clear hb
                replace cd22 := of_decide_eq_true cd22
                refine at_seq (j := 27) (by kernel_rfl) ?_
                refine at_region (id := 8) (by kernel_rfl) ?_
                refine atR_seg (m := 4) (H := [(1, none, [.int .i64 y]), (3, none, [.int .i64 cy])]) (ts := [74, 76]) (L' := [(74, .int .i64 y), (76, .int .i64 cy)]) (O := fun w => (w.cell? ⟨b1, 1, none⟩ = some (.int .i64 y)) ∧ (w.cell? ⟨b2, 1, none⟩ = some (.int .i64 cy)) ∧ True) hs (by kernel_rfl) ⟨B1.cell 1 rfl, B2.cell 1 rfl, trivial⟩ ?_
                clear hs a; intro a hs
                refine atR_op hs (by kernel_rfl) (call1 (f := 35) (args := #[.int .i64 y, .int .i64 cy]) [77] (fun rv_ => [(77, rv_)]) hs (by kernel_rfl) (fun _ => by kernel_rfl) ?_)
                refine (apart_any _ _ _ (by assumption) (by assumption)).mono ?_
                rintro e w13 ⟨rfl, hb⟩
                refine ⟨_, rfl, ?_⟩
                clear hs a; intro a hs
                replace B1 := B1.below hb B1.lt
                replace B2 := B2.below hb B2.lt
                replace hB := later hB hb
                clear hb
                refine atR_seg (m := 2) (H := []) (ts := [4, 5]) (L' := [(4, .int .i64 3), (5, .int .u64 (apartI y cy))]) (O := fun w => True) hs (by kernel_rfl) trivial ?_
                clear hs a; intro a hs
                refine atR_end (by kernel_rfl) ?_
                refine wayN_node rfl ?_
                refine at_ret (by kernel_rfl) ?_
                refine at_end (vs := [.int .i64 3, .int .u64 (apartI y cy)]) (H := []) (v := .tuple #[.int .i64 3, .int .u64 (apartI y cy)]) (O := fun w => True) hs (by kernel_rfl) rfl trivial ?_
                exact ⟨by rw [show ptQ x y cx cy = 3 from by unfold ptQ; simp_all <;> omega, show ptD x y cx cy = apartI y cy from by unfold ptD; simp_all [apartI] <;> omega], hB⟩
              · have cd22 := hb; have cd22b := hb; clear hb
                replace cd22 := of_decide_eq_false cd22
                refine at_skip (by kernel_rfl) ?_
                refine wayN_node rfl ?_
                refine at_seq (j := 31) (by kernel_rfl) ?_
                refine at_region (id := 9) (by kernel_rfl) ?_
                refine atR_seg (m := 2) (H := []) (ts := [4, 5]) (L' := [(4, .int .i64 0), (5, .int .u64 0)]) (O := fun w => True) hs (by kernel_rfl) trivial ?_
                clear hs a; intro a hs
                refine atR_end (by kernel_rfl) ?_
                refine wayN_node rfl ?_
                refine at_ret (by kernel_rfl) ?_
                refine at_end (vs := [.int .i64 0, .int .u64 0]) (H := []) (v := .tuple #[.int .i64 0, .int .u64 0]) (O := fun w => True) hs (by kernel_rfl) rfl trivial ?_
                exact ⟨by rw [show ptQ x y cx cy = 0 from by unfold ptQ; simp_all <;> omega, show ptD x y cx cy = 0 from by unfold ptD; simp_all [apartI] <;> omega], hB⟩
            · replace hs := hs.know (t := 66) rfl hb
              have cd21 := hb; have cd21b := hb; clear hb
              replace cd21 := ne_of_beq_false cd21
              replace hs := hs.pick (ts := [2, 3, 66]) (L' := [(2, .pointer (some ⟨b1, 0, none⟩)), (3, .pointer (some ⟨b2, 0, none⟩)), (66, .bool false)]) (by kernel_rfl)
              refine atR_seg (m := 7) (H := []) (ts := [2, 3, 60]) (L' := [(2, .pointer (some ⟨b1, 0, none⟩)), (3, .pointer (some ⟨b2, 0, none⟩)), (60, .bool false)]) (O := fun w => True) hs (by kernel_rfl) trivial ?_
              clear hs a; intro a hs
              refine atR_end (by kernel_rfl) ?_
              refine wayN_node rfl ?_
              refine at_cond (t := 60) (j1 := 25) (j2 := 28) (b := false) (by kernel_rfl) hs rfl (fun hb => absurd (hb.symm.trans (show (false) = false from rfl)) (by decide)) (fun _ => ?_)
              refine at_skip (by kernel_rfl) ?_
              refine wayN_node rfl ?_
              refine at_seq (j := 31) (by kernel_rfl) ?_
              refine at_region (id := 9) (by kernel_rfl) ?_
              refine atR_seg (m := 2) (H := []) (ts := [4, 5]) (L' := [(4, .int .i64 0), (5, .int .u64 0)]) (O := fun w => True) hs (by kernel_rfl) trivial ?_
              clear hs a; intro a hs
              refine atR_end (by kernel_rfl) ?_
              refine wayN_node rfl ?_
              refine at_ret (by kernel_rfl) ?_
              refine at_end (vs := [.int .i64 0, .int .u64 0]) (H := []) (v := .tuple #[.int .i64 0, .int .u64 0]) (O := fun w => True) hs (by kernel_rfl) rfl trivial ?_
              exact ⟨by rw [show ptQ x y cx cy = 0 from by unfold ptQ; simp_all <;> omega, show ptD x y cx cy = 0 from by unfold ptD; simp_all [apartI] <;> omega], hB⟩
        · replace hs := hs.know (t := 48) rfl hb
          have cd19 := hb; have cd19b := hb; clear hb
          replace cd19 := ne_of_beq_false cd19
          replace hs := hs.pick (ts := [2, 3, 48]) (L' := [(2, .pointer (some ⟨b1, 0, none⟩)), (3, .pointer (some ⟨b2, 0, none⟩)), (48, .bool false)]) (by kernel_rfl)
          refine atR_seg (m := 7) (H := []) (ts := [2, 3, 42]) (L' := [(2, .pointer (some ⟨b1, 0, none⟩)), (3, .pointer (some ⟨b2, 0, none⟩)), (42, .bool false)]) (O := fun w => True) hs (by kernel_rfl) trivial ?_
          clear hs a; intro a hs
          refine atR_end (by kernel_rfl) ?_
          refine wayN_node rfl ?_
          refine at_cond (t := 42) (j1 := 19) (j2 := 22) (b := false) (by kernel_rfl) hs rfl (fun hb => absurd (hb.symm.trans (show (false) = false from rfl)) (by decide)) (fun _ => ?_)
          refine at_seq (j := 24) (by kernel_rfl) ?_
          refine at_region (id := 7) (by kernel_rfl) ?_
          refine atR_seg (m := 6) (H := [(1, none, [.int .i64 x]), (3, none, [.int .i64 cx])]) (ts := [2, 3, 66]) (L' := [(2, .pointer (some ⟨b1, 0, none⟩)), (3, .pointer (some ⟨b2, 0, none⟩)), (66, .bool (x == cx))]) (O := fun w => (w.cell? ⟨b1, 0, none⟩ = some (.int .i64 x)) ∧ (w.cell? ⟨b2, 0, none⟩ = some (.int .i64 cx)) ∧ True) hs (by kernel_rfl) ⟨B1.cell 0 rfl, B2.cell 0 rfl, trivial⟩ ?_
          clear hs a; intro a hs
          rcases Bool.eq_false_or_eq_true (x == cx) with hb | hb
          · replace hs := hs.know (t := 66) rfl hb
            have cd23 := hb; have cd23b := hb; clear hb
            replace cd23 := eq_of_beq cd23
            replace hs := hs.pick (ts := [2, 3, 66]) (L' := [(2, .pointer (some ⟨b1, 0, none⟩)), (3, .pointer (some ⟨b2, 0, none⟩)), (66, .bool true)]) (by kernel_rfl)
            refine atR_seg (m := 7) (H := [(7, none, [.int .i64 y]), (9, none, [.int .i64 cy])]) (ts := [2, 3, 60]) (L' := [(2, .pointer (some ⟨b1, 0, none⟩)), (3, .pointer (some ⟨b2, 0, none⟩)), (60, .bool (decide (y < cy)))]) (O := fun w => (w.cell? ⟨b1, 1, none⟩ = some (.int .i64 y)) ∧ (w.cell? ⟨b2, 1, none⟩ = some (.int .i64 cy)) ∧ True) hs (by kernel_rfl) ⟨B1.cell 1 rfl, B2.cell 1 rfl, trivial⟩ ?_
            clear hs a; intro a hs
            refine atR_end (by kernel_rfl) ?_
            refine wayN_node rfl ?_
            refine at_cond (t := 60) (j1 := 25) (j2 := 28) (b := decide (y < cy)) (by kernel_rfl) hs rfl (fun hb => ?_) (fun hb => ?_)
            · have cd24 := hb; have cd24b := hb; clear hb
              replace cd24 := of_decide_eq_true cd24
              refine at_seq (j := 27) (by kernel_rfl) ?_
              refine at_region (id := 8) (by kernel_rfl) ?_
              refine atR_seg (m := 4) (H := [(1, none, [.int .i64 y]), (3, none, [.int .i64 cy])]) (ts := [74, 76]) (L' := [(74, .int .i64 y), (76, .int .i64 cy)]) (O := fun w => (w.cell? ⟨b1, 1, none⟩ = some (.int .i64 y)) ∧ (w.cell? ⟨b2, 1, none⟩ = some (.int .i64 cy)) ∧ True) hs (by kernel_rfl) ⟨B1.cell 1 rfl, B2.cell 1 rfl, trivial⟩ ?_
              clear hs a; intro a hs
              refine atR_op hs (by kernel_rfl) (call1 (f := 35) (args := #[.int .i64 y, .int .i64 cy]) [77] (fun rv_ => [(77, rv_)]) hs (by kernel_rfl) (fun _ => by kernel_rfl) ?_)
              refine (apart_any _ _ _ (by assumption) (by assumption)).mono ?_
              rintro e w14 ⟨rfl, hb⟩
              refine ⟨_, rfl, ?_⟩
              clear hs a; intro a hs
              replace B1 := B1.below hb B1.lt
              replace B2 := B2.below hb B2.lt
              replace hB := later hB hb
              clear hb
              refine atR_seg (m := 2) (H := []) (ts := [4, 5]) (L' := [(4, .int .i64 3), (5, .int .u64 (apartI y cy))]) (O := fun w => True) hs (by kernel_rfl) trivial ?_
              clear hs a; intro a hs
              refine atR_end (by kernel_rfl) ?_
              refine wayN_node rfl ?_
              refine at_ret (by kernel_rfl) ?_
              refine at_end (vs := [.int .i64 3, .int .u64 (apartI y cy)]) (H := []) (v := .tuple #[.int .i64 3, .int .u64 (apartI y cy)]) (O := fun w => True) hs (by kernel_rfl) rfl trivial ?_
              exact ⟨by rw [show ptQ x y cx cy = 3 from by unfold ptQ; simp_all <;> omega, show ptD x y cx cy = apartI y cy from by unfold ptD; simp_all [apartI] <;> omega], hB⟩
            · have cd24 := hb; have cd24b := hb; clear hb
              replace cd24 := of_decide_eq_false cd24
              refine at_skip (by kernel_rfl) ?_
              refine wayN_node rfl ?_
              refine at_seq (j := 31) (by kernel_rfl) ?_
              refine at_region (id := 9) (by kernel_rfl) ?_
              refine atR_seg (m := 2) (H := []) (ts := [4, 5]) (L' := [(4, .int .i64 0), (5, .int .u64 0)]) (O := fun w => True) hs (by kernel_rfl) trivial ?_
              clear hs a; intro a hs
              refine atR_end (by kernel_rfl) ?_
              refine wayN_node rfl ?_
              refine at_ret (by kernel_rfl) ?_
              refine at_end (vs := [.int .i64 0, .int .u64 0]) (H := []) (v := .tuple #[.int .i64 0, .int .u64 0]) (O := fun w => True) hs (by kernel_rfl) rfl trivial ?_
              exact ⟨by rw [show ptQ x y cx cy = 0 from by unfold ptQ; simp_all <;> omega, show ptD x y cx cy = 0 from by unfold ptD; simp_all [apartI] <;> omega], hB⟩
          · replace hs := hs.know (t := 66) rfl hb
            have cd23 := hb; have cd23b := hb; clear hb
            replace cd23 := ne_of_beq_false cd23
            replace hs := hs.pick (ts := [2, 3, 66]) (L' := [(2, .pointer (some ⟨b1, 0, none⟩)), (3, .pointer (some ⟨b2, 0, none⟩)), (66, .bool false)]) (by kernel_rfl)
            refine atR_seg (m := 7) (H := []) (ts := [2, 3, 60]) (L' := [(2, .pointer (some ⟨b1, 0, none⟩)), (3, .pointer (some ⟨b2, 0, none⟩)), (60, .bool false)]) (O := fun w => True) hs (by kernel_rfl) trivial ?_
            clear hs a; intro a hs
            refine atR_end (by kernel_rfl) ?_
            refine wayN_node rfl ?_
            refine at_cond (t := 60) (j1 := 25) (j2 := 28) (b := false) (by kernel_rfl) hs rfl (fun hb => absurd (hb.symm.trans (show (false) = false from rfl)) (by decide)) (fun _ => ?_)
            refine at_skip (by kernel_rfl) ?_
            refine wayN_node rfl ?_
            refine at_seq (j := 31) (by kernel_rfl) ?_
            refine at_region (id := 9) (by kernel_rfl) ?_
            refine atR_seg (m := 2) (H := []) (ts := [4, 5]) (L' := [(4, .int .i64 0), (5, .int .u64 0)]) (O := fun w => True) hs (by kernel_rfl) trivial ?_
            clear hs a; intro a hs
            refine atR_end (by kernel_rfl) ?_
            refine wayN_node rfl ?_
            refine at_ret (by kernel_rfl) ?_
            refine at_end (vs := [.int .i64 0, .int .u64 0]) (H := []) (v := .tuple #[.int .i64 0, .int .u64 0]) (O := fun w => True) hs (by kernel_rfl) rfl trivial ?_
            exact ⟨by rw [show ptQ x y cx cy = 0 from by unfold ptQ; simp_all <;> omega, show ptD x y cx cy = 0 from by unfold ptD; simp_all [apartI] <;> omega], hB⟩
    · replace hs := hs.know (t := 30) rfl hb
      have cd17 := hb; have cd17b := hb; clear hb
      replace cd17 := ne_of_beq_false cd17
      replace hs := hs.pick (ts := [2, 3, 30]) (L' := [(2, .pointer (some ⟨b1, 0, none⟩)), (3, .pointer (some ⟨b2, 0, none⟩)), (30, .bool false)]) (by kernel_rfl)
      refine atR_seg (m := 7) (H := []) (ts := [2, 3, 24]) (L' := [(2, .pointer (some ⟨b1, 0, none⟩)), (3, .pointer (some ⟨b2, 0, none⟩)), (24, .bool false)]) (O := fun w => True) hs (by kernel_rfl) trivial ?_
      clear hs a; intro a hs
      refine atR_end (by kernel_rfl) ?_
      refine wayN_node rfl ?_
      refine at_cond (t := 24) (j1 := 13) (j2 := 16) (b := false) (by kernel_rfl) hs rfl (fun hb => absurd (hb.symm.trans (show (false) = false from rfl)) (by decide)) (fun _ => ?_)
      refine at_seq (j := 18) (by kernel_rfl) ?_
      refine at_region (id := 5) (by kernel_rfl) ?_
      refine atR_seg (m := 6) (H := [(1, none, [.int .i64 y]), (3, none, [.int .i64 cy])]) (ts := [2, 3, 48]) (L' := [(2, .pointer (some ⟨b1, 0, none⟩)), (3, .pointer (some ⟨b2, 0, none⟩)), (48, .bool (y == cy))]) (O := fun w => (w.cell? ⟨b1, 1, none⟩ = some (.int .i64 y)) ∧ (w.cell? ⟨b2, 1, none⟩ = some (.int .i64 cy)) ∧ True) hs (by kernel_rfl) ⟨B1.cell 1 rfl, B2.cell 1 rfl, trivial⟩ ?_
      clear hs a; intro a hs
      rcases Bool.eq_false_or_eq_true (y == cy) with hb | hb
      · replace hs := hs.know (t := 48) rfl hb
        have cd25 := hb; have cd25b := hb; clear hb
        replace cd25 := eq_of_beq cd25
        replace hs := hs.pick (ts := [2, 3, 48]) (L' := [(2, .pointer (some ⟨b1, 0, none⟩)), (3, .pointer (some ⟨b2, 0, none⟩)), (48, .bool true)]) (by kernel_rfl)
        refine atR_seg (m := 7) (H := [(7, none, [.int .i64 x]), (9, none, [.int .i64 cx])]) (ts := [2, 3, 42]) (L' := [(2, .pointer (some ⟨b1, 0, none⟩)), (3, .pointer (some ⟨b2, 0, none⟩)), (42, .bool (decide (x < cx)))]) (O := fun w => (w.cell? ⟨b1, 0, none⟩ = some (.int .i64 x)) ∧ (w.cell? ⟨b2, 0, none⟩ = some (.int .i64 cx)) ∧ True) hs (by kernel_rfl) ⟨B1.cell 0 rfl, B2.cell 0 rfl, trivial⟩ ?_
        clear hs a; intro a hs
        refine atR_end (by kernel_rfl) ?_
        refine wayN_node rfl ?_
        refine at_cond (t := 42) (j1 := 19) (j2 := 22) (b := decide (x < cx)) (by kernel_rfl) hs rfl (fun hb => ?_) (fun hb => ?_)
        · have cd26 := hb; have cd26b := hb; clear hb
          replace cd26 := of_decide_eq_true cd26
          refine at_seq (j := 21) (by kernel_rfl) ?_
          refine at_region (id := 6) (by kernel_rfl) ?_
          refine atR_seg (m := 4) (H := [(1, none, [.int .i64 x]), (3, none, [.int .i64 cx])]) (ts := [56, 58]) (L' := [(56, .int .i64 x), (58, .int .i64 cx)]) (O := fun w => (w.cell? ⟨b1, 0, none⟩ = some (.int .i64 x)) ∧ (w.cell? ⟨b2, 0, none⟩ = some (.int .i64 cx)) ∧ True) hs (by kernel_rfl) ⟨B1.cell 0 rfl, B2.cell 0 rfl, trivial⟩ ?_
          clear hs a; intro a hs
          refine atR_op hs (by kernel_rfl) (call1 (f := 35) (args := #[.int .i64 x, .int .i64 cx]) [59] (fun rv_ => [(59, rv_)]) hs (by kernel_rfl) (fun _ => by kernel_rfl) ?_)
          refine (apart_any _ _ _ (by assumption) (by assumption)).mono ?_
          rintro e w15 ⟨rfl, hb⟩
          refine ⟨_, rfl, ?_⟩
          clear hs a; intro a hs
          replace B1 := B1.below hb B1.lt
          replace B2 := B2.below hb B2.lt
          replace hB := later hB hb
          clear hb
          refine atR_seg (m := 2) (H := []) (ts := [4, 5]) (L' := [(4, .int .i64 2), (5, .int .u64 (apartI x cx))]) (O := fun w => True) hs (by kernel_rfl) trivial ?_
          clear hs a; intro a hs
          refine atR_end (by kernel_rfl) ?_
          refine wayN_node rfl ?_
          refine at_ret (by kernel_rfl) ?_
          refine at_end (vs := [.int .i64 2, .int .u64 (apartI x cx)]) (H := []) (v := .tuple #[.int .i64 2, .int .u64 (apartI x cx)]) (O := fun w => True) hs (by kernel_rfl) rfl trivial ?_
          exact ⟨by rw [show ptQ x y cx cy = 2 from by unfold ptQ; simp_all <;> omega, show ptD x y cx cy = apartI x cx from by unfold ptD; simp_all [apartI] <;> omega], hB⟩
        · have cd26 := hb; have cd26b := hb; clear hb
          replace cd26 := of_decide_eq_false cd26
          refine at_seq (j := 24) (by kernel_rfl) ?_
          refine at_region (id := 7) (by kernel_rfl) ?_
          refine atR_seg (m := 6) (H := [(1, none, [.int .i64 x]), (3, none, [.int .i64 cx])]) (ts := [2, 3, 66]) (L' := [(2, .pointer (some ⟨b1, 0, none⟩)), (3, .pointer (some ⟨b2, 0, none⟩)), (66, .bool (x == cx))]) (O := fun w => (w.cell? ⟨b1, 0, none⟩ = some (.int .i64 x)) ∧ (w.cell? ⟨b2, 0, none⟩ = some (.int .i64 cx)) ∧ True) hs (by kernel_rfl) ⟨B1.cell 0 rfl, B2.cell 0 rfl, trivial⟩ ?_
          clear hs a; intro a hs
          rcases Bool.eq_false_or_eq_true (x == cx) with hb | hb
          · replace hs := hs.know (t := 66) rfl hb
            have cd27 := hb; have cd27b := hb; clear hb
            replace cd27 := eq_of_beq cd27
            replace hs := hs.pick (ts := [2, 3, 66]) (L' := [(2, .pointer (some ⟨b1, 0, none⟩)), (3, .pointer (some ⟨b2, 0, none⟩)), (66, .bool true)]) (by kernel_rfl)
            refine atR_seg (m := 7) (H := [(7, none, [.int .i64 y]), (9, none, [.int .i64 cy])]) (ts := [2, 3, 60]) (L' := [(2, .pointer (some ⟨b1, 0, none⟩)), (3, .pointer (some ⟨b2, 0, none⟩)), (60, .bool (decide (y < cy)))]) (O := fun w => (w.cell? ⟨b1, 1, none⟩ = some (.int .i64 y)) ∧ (w.cell? ⟨b2, 1, none⟩ = some (.int .i64 cy)) ∧ True) hs (by kernel_rfl) ⟨B1.cell 1 rfl, B2.cell 1 rfl, trivial⟩ ?_
            clear hs a; intro a hs
            refine atR_end (by kernel_rfl) ?_
            refine wayN_node rfl ?_
            refine at_cond (t := 60) (j1 := 25) (j2 := 28) (b := decide (y < cy)) (by kernel_rfl) hs rfl (fun hb => ?_) (fun hb => ?_)
            · have cd28 := hb; have cd28b := hb; clear hb
              replace cd28 := of_decide_eq_true cd28
              refine at_seq (j := 27) (by kernel_rfl) ?_
              refine at_region (id := 8) (by kernel_rfl) ?_
              refine atR_seg (m := 4) (H := [(1, none, [.int .i64 y]), (3, none, [.int .i64 cy])]) (ts := [74, 76]) (L' := [(74, .int .i64 y), (76, .int .i64 cy)]) (O := fun w => (w.cell? ⟨b1, 1, none⟩ = some (.int .i64 y)) ∧ (w.cell? ⟨b2, 1, none⟩ = some (.int .i64 cy)) ∧ True) hs (by kernel_rfl) ⟨B1.cell 1 rfl, B2.cell 1 rfl, trivial⟩ ?_
              clear hs a; intro a hs
              refine atR_op hs (by kernel_rfl) (call1 (f := 35) (args := #[.int .i64 y, .int .i64 cy]) [77] (fun rv_ => [(77, rv_)]) hs (by kernel_rfl) (fun _ => by kernel_rfl) ?_)
              refine (apart_any _ _ _ (by assumption) (by assumption)).mono ?_
              rintro e w16 ⟨rfl, hb⟩
              refine ⟨_, rfl, ?_⟩
              clear hs a; intro a hs
              replace B1 := B1.below hb B1.lt
              replace B2 := B2.below hb B2.lt
              replace hB := later hB hb
              clear hb
              refine atR_seg (m := 2) (H := []) (ts := [4, 5]) (L' := [(4, .int .i64 3), (5, .int .u64 (apartI y cy))]) (O := fun w => True) hs (by kernel_rfl) trivial ?_
              clear hs a; intro a hs
              refine atR_end (by kernel_rfl) ?_
              refine wayN_node rfl ?_
              refine at_ret (by kernel_rfl) ?_
              refine at_end (vs := [.int .i64 3, .int .u64 (apartI y cy)]) (H := []) (v := .tuple #[.int .i64 3, .int .u64 (apartI y cy)]) (O := fun w => True) hs (by kernel_rfl) rfl trivial ?_
              exact ⟨by rw [show ptQ x y cx cy = 3 from by unfold ptQ; simp_all <;> omega, show ptD x y cx cy = apartI y cy from by unfold ptD; simp_all [apartI] <;> omega], hB⟩
            · have cd28 := hb; have cd28b := hb; clear hb
              replace cd28 := of_decide_eq_false cd28
              refine at_skip (by kernel_rfl) ?_
              refine wayN_node rfl ?_
              refine at_seq (j := 31) (by kernel_rfl) ?_
              refine at_region (id := 9) (by kernel_rfl) ?_
              refine atR_seg (m := 2) (H := []) (ts := [4, 5]) (L' := [(4, .int .i64 0), (5, .int .u64 0)]) (O := fun w => True) hs (by kernel_rfl) trivial ?_
              clear hs a; intro a hs
              refine atR_end (by kernel_rfl) ?_
              refine wayN_node rfl ?_
              refine at_ret (by kernel_rfl) ?_
              refine at_end (vs := [.int .i64 0, .int .u64 0]) (H := []) (v := .tuple #[.int .i64 0, .int .u64 0]) (O := fun w => True) hs (by kernel_rfl) rfl trivial ?_
              exact ⟨by rw [show ptQ x y cx cy = 0 from by unfold ptQ; simp_all <;> omega, show ptD x y cx cy = 0 from by unfold ptD; simp_all [apartI] <;> omega], hB⟩
          · replace hs := hs.know (t := 66) rfl hb
            have cd27 := hb; have cd27b := hb; clear hb
            replace cd27 := ne_of_beq_false cd27
            replace hs := hs.pick (ts := [2, 3, 66]) (L' := [(2, .pointer (some ⟨b1, 0, none⟩)), (3, .pointer (some ⟨b2, 0, none⟩)), (66, .bool false)]) (by kernel_rfl)
            refine atR_seg (m := 7) (H := []) (ts := [2, 3, 60]) (L' := [(2, .pointer (some ⟨b1, 0, none⟩)), (3, .pointer (some ⟨b2, 0, none⟩)), (60, .bool false)]) (O := fun w => True) hs (by kernel_rfl) trivial ?_
            clear hs a; intro a hs
            refine atR_end (by kernel_rfl) ?_
            refine wayN_node rfl ?_
            refine at_cond (t := 60) (j1 := 25) (j2 := 28) (b := false) (by kernel_rfl) hs rfl (fun hb => absurd (hb.symm.trans (show (false) = false from rfl)) (by decide)) (fun _ => ?_)
            refine at_skip (by kernel_rfl) ?_
            refine wayN_node rfl ?_
            refine at_seq (j := 31) (by kernel_rfl) ?_
            refine at_region (id := 9) (by kernel_rfl) ?_
            refine atR_seg (m := 2) (H := []) (ts := [4, 5]) (L' := [(4, .int .i64 0), (5, .int .u64 0)]) (O := fun w => True) hs (by kernel_rfl) trivial ?_
            clear hs a; intro a hs
            refine atR_end (by kernel_rfl) ?_
            refine wayN_node rfl ?_
            refine at_ret (by kernel_rfl) ?_
            refine at_end (vs := [.int .i64 0, .int .u64 0]) (H := []) (v := .tuple #[.int .i64 0, .int .u64 0]) (O := fun w => True) hs (by kernel_rfl) rfl trivial ?_
            exact ⟨by rw [show ptQ x y cx cy = 0 from by unfold ptQ; simp_all <;> omega, show ptD x y cx cy = 0 from by unfold ptD; simp_all [apartI] <;> omega], hB⟩
      · replace hs := hs.know (t := 48) rfl hb
        have cd25 := hb; have cd25b := hb; clear hb
        replace cd25 := ne_of_beq_false cd25
        replace hs := hs.pick (ts := [2, 3, 48]) (L' := [(2, .pointer (some ⟨b1, 0, none⟩)), (3, .pointer (some ⟨b2, 0, none⟩)), (48, .bool false)]) (by kernel_rfl)
        refine atR_seg (m := 7) (H := []) (ts := [2, 3, 42]) (L' := [(2, .pointer (some ⟨b1, 0, none⟩)), (3, .pointer (some ⟨b2, 0, none⟩)), (42, .bool false)]) (O := fun w => True) hs (by kernel_rfl) trivial ?_
        clear hs a; intro a hs
        refine atR_end (by kernel_rfl) ?_
        refine wayN_node rfl ?_
        refine at_cond (t := 42) (j1 := 19) (j2 := 22) (b := false) (by kernel_rfl) hs rfl (fun hb => absurd (hb.symm.trans (show (false) = false from rfl)) (by decide)) (fun _ => ?_)
        refine at_seq (j := 24) (by kernel_rfl) ?_
        refine at_region (id := 7) (by kernel_rfl) ?_
        refine atR_seg (m := 6) (H := [(1, none, [.int .i64 x]), (3, none, [.int .i64 cx])]) (ts := [2, 3, 66]) (L' := [(2, .pointer (some ⟨b1, 0, none⟩)), (3, .pointer (some ⟨b2, 0, none⟩)), (66, .bool (x == cx))]) (O := fun w => (w.cell? ⟨b1, 0, none⟩ = some (.int .i64 x)) ∧ (w.cell? ⟨b2, 0, none⟩ = some (.int .i64 cx)) ∧ True) hs (by kernel_rfl) ⟨B1.cell 0 rfl, B2.cell 0 rfl, trivial⟩ ?_
        clear hs a; intro a hs
        rcases Bool.eq_false_or_eq_true (x == cx) with hb | hb
        · replace hs := hs.know (t := 66) rfl hb
          have cd29 := hb; have cd29b := hb; clear hb
          replace cd29 := eq_of_beq cd29
          replace hs := hs.pick (ts := [2, 3, 66]) (L' := [(2, .pointer (some ⟨b1, 0, none⟩)), (3, .pointer (some ⟨b2, 0, none⟩)), (66, .bool true)]) (by kernel_rfl)
          refine atR_seg (m := 7) (H := [(7, none, [.int .i64 y]), (9, none, [.int .i64 cy])]) (ts := [2, 3, 60]) (L' := [(2, .pointer (some ⟨b1, 0, none⟩)), (3, .pointer (some ⟨b2, 0, none⟩)), (60, .bool (decide (y < cy)))]) (O := fun w => (w.cell? ⟨b1, 1, none⟩ = some (.int .i64 y)) ∧ (w.cell? ⟨b2, 1, none⟩ = some (.int .i64 cy)) ∧ True) hs (by kernel_rfl) ⟨B1.cell 1 rfl, B2.cell 1 rfl, trivial⟩ ?_
          clear hs a; intro a hs
          refine atR_end (by kernel_rfl) ?_
          refine wayN_node rfl ?_
          refine at_cond (t := 60) (j1 := 25) (j2 := 28) (b := decide (y < cy)) (by kernel_rfl) hs rfl (fun hb => ?_) (fun hb => ?_)
          · have cd30 := hb; have cd30b := hb; clear hb
            replace cd30 := of_decide_eq_true cd30
            refine at_seq (j := 27) (by kernel_rfl) ?_
            refine at_region (id := 8) (by kernel_rfl) ?_
            refine atR_seg (m := 4) (H := [(1, none, [.int .i64 y]), (3, none, [.int .i64 cy])]) (ts := [74, 76]) (L' := [(74, .int .i64 y), (76, .int .i64 cy)]) (O := fun w => (w.cell? ⟨b1, 1, none⟩ = some (.int .i64 y)) ∧ (w.cell? ⟨b2, 1, none⟩ = some (.int .i64 cy)) ∧ True) hs (by kernel_rfl) ⟨B1.cell 1 rfl, B2.cell 1 rfl, trivial⟩ ?_
            clear hs a; intro a hs
            refine atR_op hs (by kernel_rfl) (call1 (f := 35) (args := #[.int .i64 y, .int .i64 cy]) [77] (fun rv_ => [(77, rv_)]) hs (by kernel_rfl) (fun _ => by kernel_rfl) ?_)
            refine (apart_any _ _ _ (by assumption) (by assumption)).mono ?_
            rintro e w17 ⟨rfl, hb⟩
            refine ⟨_, rfl, ?_⟩
            clear hs a; intro a hs
            replace B1 := B1.below hb B1.lt
            replace B2 := B2.below hb B2.lt
            replace hB := later hB hb
            clear hb
            refine atR_seg (m := 2) (H := []) (ts := [4, 5]) (L' := [(4, .int .i64 3), (5, .int .u64 (apartI y cy))]) (O := fun w => True) hs (by kernel_rfl) trivial ?_
            clear hs a; intro a hs
            refine atR_end (by kernel_rfl) ?_
            refine wayN_node rfl ?_
            refine at_ret (by kernel_rfl) ?_
            refine at_end (vs := [.int .i64 3, .int .u64 (apartI y cy)]) (H := []) (v := .tuple #[.int .i64 3, .int .u64 (apartI y cy)]) (O := fun w => True) hs (by kernel_rfl) rfl trivial ?_
            exact ⟨by rw [show ptQ x y cx cy = 3 from by unfold ptQ; simp_all <;> omega, show ptD x y cx cy = apartI y cy from by unfold ptD; simp_all [apartI] <;> omega], hB⟩
          · have cd30 := hb; have cd30b := hb; clear hb
            replace cd30 := of_decide_eq_false cd30
            refine at_skip (by kernel_rfl) ?_
            refine wayN_node rfl ?_
            refine at_seq (j := 31) (by kernel_rfl) ?_
            refine at_region (id := 9) (by kernel_rfl) ?_
            refine atR_seg (m := 2) (H := []) (ts := [4, 5]) (L' := [(4, .int .i64 0), (5, .int .u64 0)]) (O := fun w => True) hs (by kernel_rfl) trivial ?_
            clear hs a; intro a hs
            refine atR_end (by kernel_rfl) ?_
            refine wayN_node rfl ?_
            refine at_ret (by kernel_rfl) ?_
            refine at_end (vs := [.int .i64 0, .int .u64 0]) (H := []) (v := .tuple #[.int .i64 0, .int .u64 0]) (O := fun w => True) hs (by kernel_rfl) rfl trivial ?_
            exact ⟨by rw [show ptQ x y cx cy = 0 from by unfold ptQ; simp_all <;> omega, show ptD x y cx cy = 0 from by unfold ptD; simp_all [apartI] <;> omega], hB⟩
        · replace hs := hs.know (t := 66) rfl hb
          have cd29 := hb; have cd29b := hb; clear hb
          replace cd29 := ne_of_beq_false cd29
          replace hs := hs.pick (ts := [2, 3, 66]) (L' := [(2, .pointer (some ⟨b1, 0, none⟩)), (3, .pointer (some ⟨b2, 0, none⟩)), (66, .bool false)]) (by kernel_rfl)
          refine atR_seg (m := 7) (H := []) (ts := [2, 3, 60]) (L' := [(2, .pointer (some ⟨b1, 0, none⟩)), (3, .pointer (some ⟨b2, 0, none⟩)), (60, .bool false)]) (O := fun w => True) hs (by kernel_rfl) trivial ?_
          clear hs a; intro a hs
          refine atR_end (by kernel_rfl) ?_
          refine wayN_node rfl ?_
          refine at_cond (t := 60) (j1 := 25) (j2 := 28) (b := false) (by kernel_rfl) hs rfl (fun hb => absurd (hb.symm.trans (show (false) = false from rfl)) (by decide)) (fun _ => ?_)
          refine at_skip (by kernel_rfl) ?_
          refine wayN_node rfl ?_
          refine at_seq (j := 31) (by kernel_rfl) ?_
          refine at_region (id := 9) (by kernel_rfl) ?_
          refine atR_seg (m := 2) (H := []) (ts := [4, 5]) (L' := [(4, .int .i64 0), (5, .int .u64 0)]) (O := fun w => True) hs (by kernel_rfl) trivial ?_
          clear hs a; intro a hs
          refine atR_end (by kernel_rfl) ?_
          refine wayN_node rfl ?_
          refine at_ret (by kernel_rfl) ?_
          refine at_end (vs := [.int .i64 0, .int .u64 0]) (H := []) (v := .tuple #[.int .i64 0, .int .u64 0]) (O := fun w => True) hs (by kernel_rfl) rfl trivial ?_
          exact ⟨by rw [show ptQ x y cx cy = 0 from by unfold ptQ; simp_all <;> omega, show ptD x y cx cy = 0 from by unfold ptD; simp_all [apartI] <;> omega], hB⟩
noncomputable def body33 : Code := Tryd.f33.body.getD .skip
theorem isArc_any (k x y z cx cy r : Int) (w : World) : Calls Tryd.prog 33 #[.agg #[.int .i64 k, .int .i64 x, .int .i64 y, .int .i64 z, .int .i64 cx, .int .i64 cy, .int .i64 r]] w fun e w' => e = .returned (.bool (k == 3 || k == 4)) ∧ Below w.heap.size w w' := by
  have hB : Below w.heap.size w w := Below.refl _ _
  refine enter (B := body33) (args := [.agg #[.int .i64 k, .int .i64 x, .int .i64 y, .int .i64 z, .int .i64 cx, .int .i64 cy, .int .i64 r]]) Tryd.func33 (by kernel_rfl) (by kernel_rfl) ?_
  rw [show Tryd.f33.ntmps = 11 from by kernel_rfl]
  intro a hs
  replace hs := hs.pick (ts := [0]) (L' := [(0, .agg #[.int .i64 k, .int .i64 x, .int .i64 y, .int .i64 z, .int .i64 cx, .int .i64 cy, .int .i64 r])]) (by kernel_rfl)
  refine at_seq (j := 2) (by kernel_rfl) ?_
  refine at_region (id := 0) (by kernel_rfl) ?_
  refine atR_op hs (by kernel_rfl) (new1 (t := 48) (cs := #[.int .i64 k, .int .i64 x, .int .i64 y, .int .i64 z, .int .i64 cx, .int .i64 cy, .int .i64 r]) (fun rb_ => .pointer (some ⟨rb_, 0, none⟩)) [1] (fun rb_ => [(1, .pointer (some ⟨rb_, 0, none⟩))]) hs (fun _ => by kernel_rfl) (fun _ => by kernel_rfl) ?_)
  clear hs a; intro a w1 b1 hn hs
  have B1 := hn.blk
  have l1 : w.heap.size ≤ b1 := by rw [hn.at_]; exact hB.size
  replace hB := later hB hn.below
  clear hn
  refine atR_seg (m := 1) (H := []) (ts := [1]) (L' := [(1, .pointer (some ⟨b1, 0, none⟩))]) (O := fun w => True) hs (by kernel_rfl) trivial ?_
  clear hs a; intro a hs
  refine atR_end (by kernel_rfl) ?_
  refine wayN_node rfl ?_
  refine at_seq (j := 4) (by kernel_rfl) ?_
  refine at_region (id := 1) (by kernel_rfl) ?_
  refine atR_seg (m := 4) (H := [(1, none, [.int .i64 k])]) (ts := [1, 6]) (L' := [(1, .pointer (some ⟨b1, 0, none⟩)), (6, .bool (k == 3))]) (O := fun w => (w.cell? ⟨b1, 0, none⟩ = some (.int .i64 k)) ∧ True) hs (by kernel_rfl) ⟨B1.cell 0 rfl, trivial⟩ ?_
  clear hs a; intro a hs
  rcases Bool.eq_false_or_eq_true (k == 3) with hb | hb
  · replace hs := hs.know (t := 6) rfl hb
    have cd1 := hb; have cd1b := hb; clear hb
    replace cd1 := eq_of_beq cd1
    replace hs := hs.pick (ts := [1, 6]) (L' := [(1, .pointer (some ⟨b1, 0, none⟩)), (6, .bool true)]) (by kernel_rfl)
    refine atR_seg (m := 5) (H := []) (ts := [2]) (L' := [(2, .bool true)]) (O := fun w => True) hs (by kernel_rfl) trivial ?_
    clear hs a; intro a hs
    refine atR_end (by kernel_rfl) ?_
    refine wayN_node rfl ?_
    refine at_ret (by kernel_rfl) ?_
    refine at_end (vs := [.bool true]) (H := []) (v := .bool true) (O := fun w => True) hs (by kernel_rfl) rfl trivial ?_
    exact ⟨by rw [show (k == 3 || k == 4) = (true) from by rw [cd1b]; rfl], hB⟩
  · replace hs := hs.know (t := 6) rfl hb
    have cd1 := hb; have cd1b := hb; clear hb
    replace cd1 := ne_of_beq_false cd1
    replace hs := hs.pick (ts := [1, 6]) (L' := [(1, .pointer (some ⟨b1, 0, none⟩)), (6, .bool false)]) (by kernel_rfl)
    refine atR_seg (m := 5) (H := [(5, none, [.int .i64 k])]) (ts := [2]) (L' := [(2, .bool (k == 4))]) (O := fun w => (w.cell? ⟨b1, 0, none⟩ = some (.int .i64 k)) ∧ True) hs (by kernel_rfl) ⟨B1.cell 0 rfl, trivial⟩ ?_
    clear hs a; intro a hs
    refine atR_end (by kernel_rfl) ?_
    refine wayN_node rfl ?_
    refine at_ret (by kernel_rfl) ?_
    refine at_end (vs := [.bool (k == 4)]) (H := []) (v := .bool (k == 4)) (O := fun w => True) hs (by kernel_rfl) rfl trivial ?_
    exact ⟨by rw [show (k == 3 || k == 4) = (k == 4) from by rw [cd1b]; rfl], hB⟩
noncomputable def body32 : Code := Tryd.f32.body.getD .skip
theorem right1 (fx fy fz x y z cx cy r : Int) (w : World) (hr : r = 0) : Calls Tryd.prog 32 #[.agg #[.int .i64 fx, .int .i64 fy, .int .i64 fz], .agg #[.int .i64 1, .int .i64 x, .int .i64 y, .int .i64 z, .int .i64 cx, .int .i64 cy, .int .i64 r]] w fun e w' => e = .returned (.bool true) ∧ Below w.heap.size w w' := by
  have hB : Below w.heap.size w w := Below.refl _ _
  refine enter (B := body32) (args := [.agg #[.int .i64 fx, .int .i64 fy, .int .i64 fz], .agg #[.int .i64 1, .int .i64 x, .int .i64 y, .int .i64 z, .int .i64 cx, .int .i64 cy, .int .i64 r]]) Tryd.func32 (by kernel_rfl) (by kernel_rfl) ?_
  rw [show Tryd.f32.ntmps = 52 from by kernel_rfl]
  intro a hs
  replace hs := hs.pick (ts := [0, 1]) (L' := [(0, .agg #[.int .i64 fx, .int .i64 fy, .int .i64 fz]), (1, .agg #[.int .i64 1, .int .i64 x, .int .i64 y, .int .i64 z, .int .i64 cx, .int .i64 cy, .int .i64 r])]) (by kernel_rfl)
  refine at_seq (j := 2) (by kernel_rfl) ?_
  refine at_region (id := 0) (by kernel_rfl) ?_
  refine atR_op hs (by kernel_rfl) (new1 (t := 46) (cs := #[.int .i64 fx, .int .i64 fy, .int .i64 fz]) (fun rb_ => .pointer (some ⟨rb_, 0, none⟩)) [1, 2] (fun rb_ => [(1, .agg #[.int .i64 1, .int .i64 x, .int .i64 y, .int .i64 z, .int .i64 cx, .int .i64 cy, .int .i64 r]), (2, .pointer (some ⟨rb_, 0, none⟩))]) hs (fun _ => by kernel_rfl) (fun _ => by kernel_rfl) ?_)
  clear hs a; intro a w1 b1 hn hs
  have B1 := hn.blk
  have l1 : w.heap.size ≤ b1 := by rw [hn.at_]; exact hB.size
  replace hB := later hB hn.below
  clear hn
  refine atR_op hs (by kernel_rfl) (new1 (t := 48) (cs := #[.int .i64 1, .int .i64 x, .int .i64 y, .int .i64 z, .int .i64 cx, .int .i64 cy, .int .i64 r]) (fun rb_ => .pointer (some ⟨rb_, 0, none⟩)) [2, 3] (fun rb_ => [(2, .pointer (some ⟨b1, 0, none⟩)), (3, .pointer (some ⟨rb_, 0, none⟩))]) hs (fun _ => by kernel_rfl) (fun _ => by kernel_rfl) ?_)
  clear hs a; intro a w2 b2 hn hs
  have B2 := hn.blk
  have l2 : w.heap.size ≤ b2 := by rw [hn.at_]; exact hB.size
  have l2' : b1 < b2 := by rw [hn.at_]; exact B1.lt
  replace B1 := B1.below hn.below B1.lt
  replace hB := later hB hn.below
  clear hn
  refine atR_seg (m := 1) (H := []) (ts := [2, 3]) (L' := [(2, .pointer (some ⟨b1, 0, none⟩)), (3, .pointer (some ⟨b2, 0, none⟩))]) (O := fun w => True) hs (by kernel_rfl) trivial ?_
  clear hs a; intro a hs
  refine atR_end (by kernel_rfl) ?_
  refine wayN_node rfl ?_
  refine at_seq (j := 19) (by kernel_rfl) ?_
  refine at_seq (j := 5) (by kernel_rfl) ?_
  refine at_region (id := 1) (by kernel_rfl) ?_
  refine atR_seg (m := 2) (H := [(1, none, [.int .i64 1])]) (ts := [2, 3, 10]) (L' := [(2, .pointer (some ⟨b1, 0, none⟩)), (3, .pointer (some ⟨b2, 0, none⟩)), (10, .int .i64 1)]) (O := fun w => (w.cell? ⟨b2, 0, none⟩ = some (.int .i64 1)) ∧ True) hs (by kernel_rfl) ⟨B2.cell 0 rfl, trivial⟩ ?_
  clear hs a; intro a hs
  refine atR_end (by kernel_rfl) ?_
  refine wayN_node rfl ?_
  refine at_block (id := 0) (by kernel_rfl) ?_
  refine at_seq (j := 8) (by kernel_rfl) ?_
  refine at_region (id := 2) (by kernel_rfl) ?_
  refine atR_seg (m := 2) (H := []) (ts := [2, 3, 10, 11]) (L' := [(2, .pointer (some ⟨b1, 0, none⟩)), (3, .pointer (some ⟨b2, 0, none⟩)), (10, .int .i64 1), (11, .bool true)]) (O := fun w => True) hs (by kernel_rfl) trivial ?_
  clear hs a; intro a hs
  refine atR_end (by kernel_rfl) ?_
  refine wayN_node rfl ?_
  refine at_cond (t := 11) (j1 := 9) (j2 := 12) (b := true) (by kernel_rfl) hs rfl (fun _ => ?_) (fun hb => absurd (hb.symm.trans (show (true) = true from rfl)) (by decide))
  refine at_seq (j := 11) (by kernel_rfl) ?_
  refine at_region (id := 3) (by kernel_rfl) ?_
  refine atR_seg (m := 4) (H := [(1, none, [.int .i64 r])]) (ts := [4]) (L' := [(4, .bool (r == 0))]) (O := fun w => (w.cell? ⟨b2, 6, none⟩ = some (.int .i64 r)) ∧ True) hs (by kernel_rfl) ⟨B2.cell 6 rfl, trivial⟩ ?_
  clear hs a; intro a hs
  refine atR_end (by kernel_rfl) ?_
  refine wayN_node rfl ?_
  refine at_ret (by kernel_rfl) ?_
  refine at_end (vs := [.bool (r == 0)]) (H := []) (v := .bool (r == 0)) (O := fun w => True) hs (by kernel_rfl) rfl trivial ?_
  exact ⟨by rw [show (r == 0) = true from beq_iff_eq.2 hr], hB⟩
theorem right2 (fx fy fz x y z cx cy r : Int) (w : World) (hr : 0 < r) : Calls Tryd.prog 32 #[.agg #[.int .i64 fx, .int .i64 fy, .int .i64 fz], .agg #[.int .i64 2, .int .i64 x, .int .i64 y, .int .i64 z, .int .i64 cx, .int .i64 cy, .int .i64 r]] w fun e w' => e = .returned (.bool true) ∧ Below w.heap.size w w' := by
  have hB : Below w.heap.size w w := Below.refl _ _
  refine enter (B := body32) (args := [.agg #[.int .i64 fx, .int .i64 fy, .int .i64 fz], .agg #[.int .i64 2, .int .i64 x, .int .i64 y, .int .i64 z, .int .i64 cx, .int .i64 cy, .int .i64 r]]) Tryd.func32 (by kernel_rfl) (by kernel_rfl) ?_
  rw [show Tryd.f32.ntmps = 52 from by kernel_rfl]
  intro a hs
  replace hs := hs.pick (ts := [0, 1]) (L' := [(0, .agg #[.int .i64 fx, .int .i64 fy, .int .i64 fz]), (1, .agg #[.int .i64 2, .int .i64 x, .int .i64 y, .int .i64 z, .int .i64 cx, .int .i64 cy, .int .i64 r])]) (by kernel_rfl)
  refine at_seq (j := 2) (by kernel_rfl) ?_
  refine at_region (id := 0) (by kernel_rfl) ?_
  refine atR_op hs (by kernel_rfl) (new1 (t := 46) (cs := #[.int .i64 fx, .int .i64 fy, .int .i64 fz]) (fun rb_ => .pointer (some ⟨rb_, 0, none⟩)) [1, 2] (fun rb_ => [(1, .agg #[.int .i64 2, .int .i64 x, .int .i64 y, .int .i64 z, .int .i64 cx, .int .i64 cy, .int .i64 r]), (2, .pointer (some ⟨rb_, 0, none⟩))]) hs (fun _ => by kernel_rfl) (fun _ => by kernel_rfl) ?_)
  clear hs a; intro a w1 b1 hn hs
  have B1 := hn.blk
  have l1 : w.heap.size ≤ b1 := by rw [hn.at_]; exact hB.size
  replace hB := later hB hn.below
  clear hn
  refine atR_op hs (by kernel_rfl) (new1 (t := 48) (cs := #[.int .i64 2, .int .i64 x, .int .i64 y, .int .i64 z, .int .i64 cx, .int .i64 cy, .int .i64 r]) (fun rb_ => .pointer (some ⟨rb_, 0, none⟩)) [2, 3] (fun rb_ => [(2, .pointer (some ⟨b1, 0, none⟩)), (3, .pointer (some ⟨rb_, 0, none⟩))]) hs (fun _ => by kernel_rfl) (fun _ => by kernel_rfl) ?_)
  clear hs a; intro a w2 b2 hn hs
  have B2 := hn.blk
  have l2 : w.heap.size ≤ b2 := by rw [hn.at_]; exact hB.size
  have l2' : b1 < b2 := by rw [hn.at_]; exact B1.lt
  replace B1 := B1.below hn.below B1.lt
  replace hB := later hB hn.below
  clear hn
  refine atR_seg (m := 1) (H := []) (ts := [2, 3]) (L' := [(2, .pointer (some ⟨b1, 0, none⟩)), (3, .pointer (some ⟨b2, 0, none⟩))]) (O := fun w => True) hs (by kernel_rfl) trivial ?_
  clear hs a; intro a hs
  refine atR_end (by kernel_rfl) ?_
  refine wayN_node rfl ?_
  refine at_seq (j := 19) (by kernel_rfl) ?_
  refine at_seq (j := 5) (by kernel_rfl) ?_
  refine at_region (id := 1) (by kernel_rfl) ?_
  refine atR_seg (m := 2) (H := [(1, none, [.int .i64 2])]) (ts := [2, 3, 10]) (L' := [(2, .pointer (some ⟨b1, 0, none⟩)), (3, .pointer (some ⟨b2, 0, none⟩)), (10, .int .i64 2)]) (O := fun w => (w.cell? ⟨b2, 0, none⟩ = some (.int .i64 2)) ∧ True) hs (by kernel_rfl) ⟨B2.cell 0 rfl, trivial⟩ ?_
  clear hs a; intro a hs
  refine atR_end (by kernel_rfl) ?_
  refine wayN_node rfl ?_
  refine at_block (id := 0) (by kernel_rfl) ?_
  refine at_seq (j := 8) (by kernel_rfl) ?_
  refine at_region (id := 2) (by kernel_rfl) ?_
  refine atR_seg (m := 2) (H := []) (ts := [2, 3, 10, 11]) (L' := [(2, .pointer (some ⟨b1, 0, none⟩)), (3, .pointer (some ⟨b2, 0, none⟩)), (10, .int .i64 2), (11, .bool false)]) (O := fun w => True) hs (by kernel_rfl) trivial ?_
  clear hs a; intro a hs
  refine atR_end (by kernel_rfl) ?_
  refine wayN_node rfl ?_
  refine at_cond (t := 11) (j1 := 9) (j2 := 12) (b := false) (by kernel_rfl) hs rfl (fun hb => absurd (hb.symm.trans (show (false) = false from rfl)) (by decide)) (fun _ => ?_)
  refine at_seq (j := 14) (by kernel_rfl) ?_
  refine at_region (id := 4) (by kernel_rfl) ?_
  refine atR_seg (m := 2) (H := []) (ts := [2, 3, 16]) (L' := [(2, .pointer (some ⟨b1, 0, none⟩)), (3, .pointer (some ⟨b2, 0, none⟩)), (16, .bool true)]) (O := fun w => True) hs (by kernel_rfl) trivial ?_
  clear hs a; intro a hs
  refine atR_end (by kernel_rfl) ?_
  refine wayN_node rfl ?_
  refine at_cond (t := 16) (j1 := 15) (j2 := 18) (b := true) (by kernel_rfl) hs rfl (fun _ => ?_) (fun hb => absurd (hb.symm.trans (show (true) = true from rfl)) (by decide))
  refine at_seq (j := 17) (by kernel_rfl) ?_
  refine at_region (id := 5) (by kernel_rfl) ?_
  refine atR_seg (m := 4) (H := [(1, none, [.int .i64 r])]) (ts := [4]) (L' := [(4, .bool (decide (r > 0)))]) (O := fun w => (w.cell? ⟨b2, 6, none⟩ = some (.int .i64 r)) ∧ True) hs (by kernel_rfl) ⟨B2.cell 6 rfl, trivial⟩ ?_
  clear hs a; intro a hs
  refine atR_end (by kernel_rfl) ?_
  refine wayN_node rfl ?_
  refine at_ret (by kernel_rfl) ?_
  refine at_end (vs := [.bool (decide (r > 0))]) (H := []) (v := .bool (decide (r > 0))) (O := fun w => True) hs (by kernel_rfl) rfl trivial ?_
  exact ⟨by rw [show (decide (r > 0)) = true from decide_eq_true hr], hB⟩
theorem right4 (fx fy fz x y z cx cy r : Int) (w : World) (hr : 0 < r) (hx : i64 x) (hy : i64 y) (hfx : i64 fx) (hfy : i64 fy) (hcx : i64 cx) (hcy : i64 cy) (h1 : 0 < ptD fx fy cx cy) (h2 : ptD fx fy cx cy = ptD x y cx cy) : Calls Tryd.prog 32 #[.agg #[.int .i64 fx, .int .i64 fy, .int .i64 fz], .agg #[.int .i64 4, .int .i64 x, .int .i64 y, .int .i64 z, .int .i64 cx, .int .i64 cy, .int .i64 r]] w fun e w' => e = .returned (.bool true) ∧ Below w.heap.size w w' := by
  have hB : Below w.heap.size w w := Below.refl _ _
  refine enter (B := body32) (args := [.agg #[.int .i64 fx, .int .i64 fy, .int .i64 fz], .agg #[.int .i64 4, .int .i64 x, .int .i64 y, .int .i64 z, .int .i64 cx, .int .i64 cy, .int .i64 r]]) Tryd.func32 (by kernel_rfl) (by kernel_rfl) ?_
  rw [show Tryd.f32.ntmps = 52 from by kernel_rfl]
  intro a hs
  replace hs := hs.pick (ts := [0, 1]) (L' := [(0, .agg #[.int .i64 fx, .int .i64 fy, .int .i64 fz]), (1, .agg #[.int .i64 4, .int .i64 x, .int .i64 y, .int .i64 z, .int .i64 cx, .int .i64 cy, .int .i64 r])]) (by kernel_rfl)
  refine at_seq (j := 2) (by kernel_rfl) ?_
  refine at_region (id := 0) (by kernel_rfl) ?_
  refine atR_op hs (by kernel_rfl) (new1 (t := 46) (cs := #[.int .i64 fx, .int .i64 fy, .int .i64 fz]) (fun rb_ => .pointer (some ⟨rb_, 0, none⟩)) [1, 2] (fun rb_ => [(1, .agg #[.int .i64 4, .int .i64 x, .int .i64 y, .int .i64 z, .int .i64 cx, .int .i64 cy, .int .i64 r]), (2, .pointer (some ⟨rb_, 0, none⟩))]) hs (fun _ => by kernel_rfl) (fun _ => by kernel_rfl) ?_)
  clear hs a; intro a w1 b1 hn hs
  have B1 := hn.blk
  have l1 : w.heap.size ≤ b1 := by rw [hn.at_]; exact hB.size
  replace hB := later hB hn.below
  clear hn
  refine atR_op hs (by kernel_rfl) (new1 (t := 48) (cs := #[.int .i64 4, .int .i64 x, .int .i64 y, .int .i64 z, .int .i64 cx, .int .i64 cy, .int .i64 r]) (fun rb_ => .pointer (some ⟨rb_, 0, none⟩)) [2, 3] (fun rb_ => [(2, .pointer (some ⟨b1, 0, none⟩)), (3, .pointer (some ⟨rb_, 0, none⟩))]) hs (fun _ => by kernel_rfl) (fun _ => by kernel_rfl) ?_)
  clear hs a; intro a w2 b2 hn hs
  have B2 := hn.blk
  have l2 : w.heap.size ≤ b2 := by rw [hn.at_]; exact hB.size
  have l2' : b1 < b2 := by rw [hn.at_]; exact B1.lt
  replace B1 := B1.below hn.below B1.lt
  replace hB := later hB hn.below
  clear hn
  refine atR_seg (m := 1) (H := []) (ts := [2, 3]) (L' := [(2, .pointer (some ⟨b1, 0, none⟩)), (3, .pointer (some ⟨b2, 0, none⟩))]) (O := fun w => True) hs (by kernel_rfl) trivial ?_
  clear hs a; intro a hs
  refine atR_end (by kernel_rfl) ?_
  refine wayN_node rfl ?_
  refine at_seq (j := 19) (by kernel_rfl) ?_
  refine at_seq (j := 5) (by kernel_rfl) ?_
  refine at_region (id := 1) (by kernel_rfl) ?_
  refine atR_seg (m := 2) (H := [(1, none, [.int .i64 4])]) (ts := [2, 3, 10]) (L' := [(2, .pointer (some ⟨b1, 0, none⟩)), (3, .pointer (some ⟨b2, 0, none⟩)), (10, .int .i64 4)]) (O := fun w => (w.cell? ⟨b2, 0, none⟩ = some (.int .i64 4)) ∧ True) hs (by kernel_rfl) ⟨B2.cell 0 rfl, trivial⟩ ?_
  clear hs a; intro a hs
  refine atR_end (by kernel_rfl) ?_
  refine wayN_node rfl ?_
  refine at_block (id := 0) (by kernel_rfl) ?_
  refine at_seq (j := 8) (by kernel_rfl) ?_
  refine at_region (id := 2) (by kernel_rfl) ?_
  refine atR_seg (m := 2) (H := []) (ts := [2, 3, 10, 11]) (L' := [(2, .pointer (some ⟨b1, 0, none⟩)), (3, .pointer (some ⟨b2, 0, none⟩)), (10, .int .i64 4), (11, .bool false)]) (O := fun w => True) hs (by kernel_rfl) trivial ?_
  clear hs a; intro a hs
  refine atR_end (by kernel_rfl) ?_
  refine wayN_node rfl ?_
  refine at_cond (t := 11) (j1 := 9) (j2 := 12) (b := false) (by kernel_rfl) hs rfl (fun hb => absurd (hb.symm.trans (show (false) = false from rfl)) (by decide)) (fun _ => ?_)
  refine at_seq (j := 14) (by kernel_rfl) ?_
  refine at_region (id := 4) (by kernel_rfl) ?_
  refine atR_seg (m := 2) (H := []) (ts := [2, 3, 16]) (L' := [(2, .pointer (some ⟨b1, 0, none⟩)), (3, .pointer (some ⟨b2, 0, none⟩)), (16, .bool false)]) (O := fun w => True) hs (by kernel_rfl) trivial ?_
  clear hs a; intro a hs
  refine atR_end (by kernel_rfl) ?_
  refine wayN_node rfl ?_
  refine at_cond (t := 16) (j1 := 15) (j2 := 18) (b := false) (by kernel_rfl) hs rfl (fun hb => absurd (hb.symm.trans (show (false) = false from rfl)) (by decide)) (fun _ => ?_)
  refine at_skip (by kernel_rfl) ?_
  refine wayN_node rfl ?_
  refine at_seq (j := 21) (by kernel_rfl) ?_
  refine at_region (id := 6) (by kernel_rfl) ?_
  refine atR_seg (m := 3) (H := [(0, none, [.int .i64 fx, .int .i64 fy, .int .i64 fz]), (2, none, [.int .i64 cx, .int .i64 cy])]) (ts := [3, 22, 24]) (L' := [(3, .pointer (some ⟨b2, 0, none⟩)), (22, .agg #[.int .i64 fx, .int .i64 fy, .int .i64 fz]), (24, .agg #[.int .i64 cx, .int .i64 cy])]) (O := fun w => (w.cell? ⟨b1, 0, none⟩ = some (.int .i64 fx)) ∧ (w.cell? ⟨b1, 1, none⟩ = some (.int .i64 fy)) ∧ (w.cell? ⟨b1, 2, none⟩ = some (.int .i64 fz)) ∧ (w.cell? ⟨b2, 4, none⟩ = some (.int .i64 cx)) ∧ (w.cell? ⟨b2, 5, none⟩ = some (.int .i64 cy)) ∧ True) hs (by kernel_rfl) ⟨B1.cell 0 rfl, B1.cell 1 rfl, B1.cell 2 rfl, B2.cell 4 rfl, B2.cell 5 rfl, trivial⟩ ?_
  clear hs a; intro a hs
  refine atR_op hs (by kernel_rfl) (call1 (f := 34) (args := #[.agg #[.int .i64 fx, .int .i64 fy, .int .i64 fz], .agg #[.int .i64 cx, .int .i64 cy]]) [3, 25] (fun rv_ => [(3, .pointer (some ⟨b2, 0, none⟩)), (25, rv_)]) hs (by kernel_rfl) (fun _ => by kernel_rfl) ?_)
  refine (point_any _ _ _ _ _ _ (by assumption) (by assumption) (by assumption) (by assumption)).mono ?_
  rintro e w3 ⟨rfl, hb⟩
  refine ⟨_, rfl, ?_⟩
  clear hs a; intro a hs
  replace B1 := B1.below hb B1.lt
  replace B2 := B2.below hb B2.lt
  replace hB := later hB hb
  clear hb
  refine atR_seg (m := 5) (H := []) (ts := [3, 6]) (L' := [(3, .pointer (some ⟨b2, 0, none⟩)), (6, .int .u64 (ptD fx fy cx cy))]) (O := fun w => True) hs (by kernel_rfl) trivial ?_
  clear hs a; intro a hs
  refine atR_end (by kernel_rfl) ?_
  refine wayN_node rfl ?_
  refine at_seq (j := 23) (by kernel_rfl) ?_
  refine at_region (id := 7) (by kernel_rfl) ?_
  refine atR_seg (m := 4) (H := [(1, none, [.int .i64 x, .int .i64 y, .int .i64 z]), (3, none, [.int .i64 cx, .int .i64 cy])]) (ts := [3, 6, 30, 32]) (L' := [(3, .pointer (some ⟨b2, 0, none⟩)), (6, .int .u64 (ptD fx fy cx cy)), (30, .agg #[.int .i64 x, .int .i64 y, .int .i64 z]), (32, .agg #[.int .i64 cx, .int .i64 cy])]) (O := fun w => (w.cell? ⟨b2, 1, none⟩ = some (.int .i64 x)) ∧ (w.cell? ⟨b2, 2, none⟩ = some (.int .i64 y)) ∧ (w.cell? ⟨b2, 3, none⟩ = some (.int .i64 z)) ∧ (w.cell? ⟨b2, 4, none⟩ = some (.int .i64 cx)) ∧ (w.cell? ⟨b2, 5, none⟩ = some (.int .i64 cy)) ∧ True) hs (by kernel_rfl) ⟨B2.cell 1 rfl, B2.cell 2 rfl, B2.cell 3 rfl, B2.cell 4 rfl, B2.cell 5 rfl, trivial⟩ ?_
  clear hs a; intro a hs
  refine atR_op hs (by kernel_rfl) (call1 (f := 34) (args := #[.agg #[.int .i64 x, .int .i64 y, .int .i64 z], .agg #[.int .i64 cx, .int .i64 cy]]) [3, 6, 33] (fun rv_ => [(3, .pointer (some ⟨b2, 0, none⟩)), (6, .int .u64 (ptD fx fy cx cy)), (33, rv_)]) hs (by kernel_rfl) (fun _ => by kernel_rfl) ?_)
  refine (point_any _ _ _ _ _ _ (by assumption) (by assumption) (by assumption) (by assumption)).mono ?_
  rintro e w4 ⟨rfl, hb⟩
  refine ⟨_, rfl, ?_⟩
  clear hs a; intro a hs
  replace B1 := B1.below hb B1.lt
  replace B2 := B2.below hb B2.lt
  replace hB := later hB hb
  clear hb
  refine atR_seg (m := 5) (H := []) (ts := [3, 6, 8]) (L' := [(3, .pointer (some ⟨b2, 0, none⟩)), (6, .int .u64 (ptD fx fy cx cy)), (8, .int .u64 (ptD x y cx cy))]) (O := fun w => True) hs (by kernel_rfl) trivial ?_
  clear hs a; intro a hs
  refine atR_end (by kernel_rfl) ?_
  refine wayN_node rfl ?_
  refine at_seq (j := 25) (by kernel_rfl) ?_
  refine at_region (id := 8) (by kernel_rfl) ?_
  refine atR_seg (m := 1) (H := [(0, none, [.int .i64 4, .int .i64 x, .int .i64 y, .int .i64 z, .int .i64 cx, .int .i64 cy, .int .i64 r])]) (ts := [3, 6, 8, 36]) (L' := [(3, .pointer (some ⟨b2, 0, none⟩)), (6, .int .u64 (ptD fx fy cx cy)), (8, .int .u64 (ptD x y cx cy)), (36, .agg #[.int .i64 4, .int .i64 x, .int .i64 y, .int .i64 z, .int .i64 cx, .int .i64 cy, .int .i64 r])]) (O := fun w => (w.cell? ⟨b2, 0, none⟩ = some (.int .i64 4)) ∧ (w.cell? ⟨b2, 1, none⟩ = some (.int .i64 x)) ∧ (w.cell? ⟨b2, 2, none⟩ = some (.int .i64 y)) ∧ (w.cell? ⟨b2, 3, none⟩ = some (.int .i64 z)) ∧ (w.cell? ⟨b2, 4, none⟩ = some (.int .i64 cx)) ∧ (w.cell? ⟨b2, 5, none⟩ = some (.int .i64 cy)) ∧ (w.cell? ⟨b2, 6, none⟩ = some (.int .i64 r)) ∧ True) hs (by kernel_rfl) ⟨B2.cell 0 rfl, B2.cell 1 rfl, B2.cell 2 rfl, B2.cell 3 rfl, B2.cell 4 rfl, B2.cell 5 rfl, B2.cell 6 rfl, trivial⟩ ?_
  clear hs a; intro a hs
  refine atR_op hs (by kernel_rfl) (call1 (f := 33) (args := #[.agg #[.int .i64 4, .int .i64 x, .int .i64 y, .int .i64 z, .int .i64 cx, .int .i64 cy, .int .i64 r]]) [3, 6, 8, 37] (fun rv_ => [(3, .pointer (some ⟨b2, 0, none⟩)), (6, .int .u64 (ptD fx fy cx cy)), (8, .int .u64 (ptD x y cx cy)), (37, rv_)]) hs (by kernel_rfl) (fun _ => by kernel_rfl) ?_)
  refine (isArc_any _ _ _ _ _ _ _ _).mono ?_
  rintro e w5 ⟨rfl, hb⟩
  refine ⟨_, rfl, ?_⟩
  clear hs a; intro a hs
  replace B1 := B1.below hb B1.lt
  replace B2 := B2.below hb B2.lt
  replace hB := later hB hb
  clear hb
  refine atR_seg (m := 6) (H := [(4, none, [.int .i64 r])]) (ts := [6, 8, 43]) (L' := [(6, .int .u64 (ptD fx fy cx cy)), (8, .int .u64 (ptD x y cx cy)), (43, .bool (decide (r > 0)))]) (O := fun w => (w.cell? ⟨b2, 6, none⟩ = some (.int .i64 r)) ∧ True) hs (by kernel_rfl) ⟨B2.cell 6 rfl, trivial⟩ ?_
  clear hs a; intro a hs
  replace hs := hs.know (t := 43) rfl (show (decide (r > 0)) = true from decide_eq_true hr)
  replace hs := hs.pick (ts := [6, 8, 43]) (L' := [(6, .int .u64 (ptD fx fy cx cy)), (8, .int .u64 (ptD x y cx cy)), (43, .bool true)]) (by kernel_rfl)
  refine atR_seg (m := 4) (H := []) (ts := [6, 8, 47]) (L' := [(6, .int .u64 (ptD fx fy cx cy)), (8, .int .u64 (ptD x y cx cy)), (47, .bool (decide (ptD fx fy cx cy > 0)))]) (O := fun w => True) hs (by kernel_rfl) trivial ?_
  clear hs a; intro a hs
  replace hs := hs.know (t := 47) rfl (show (decide (ptD fx fy cx cy > 0)) = true from decide_eq_true h1)
  replace hs := hs.pick (ts := [6, 8, 47]) (L' := [(6, .int .u64 (ptD fx fy cx cy)), (8, .int .u64 (ptD x y cx cy)), (47, .bool true)]) (by kernel_rfl)
  refine atR_seg (m := 5) (H := []) (ts := [4]) (L' := [(4, .bool ((ptD fx fy cx cy) == (ptD x y cx cy)))]) (O := fun w => True) hs (by kernel_rfl) trivial ?_
  clear hs a; intro a hs
  refine atR_end (by kernel_rfl) ?_
  refine wayN_node rfl ?_
  refine at_ret (by kernel_rfl) ?_
  refine at_end (vs := [.bool ((ptD fx fy cx cy) == (ptD x y cx cy))]) (H := []) (v := .bool ((ptD fx fy cx cy) == (ptD x y cx cy))) (O := fun w => True) hs (by kernel_rfl) rfl trivial ?_
  exact ⟨by rw [show ((ptD fx fy cx cy) == (ptD x y cx cy)) = true from beq_iff_eq.2 h2], hB⟩
end Go.Proofs.YtpiabmjipgfjjaaDoor
