/- The chapter's examples: awake returns true. -/
import Derived.Test.YtpiabmjipgfjjaaDoorBoreAny
import Derived.Test.YtpiabmjipgfjjaaDoorPecks2
namespace Go.Proofs.YtpiabmjipgfjjaaDoor
open Go.RowKit
theorem equal_eq (v1 v2 : Value) (n : Nat) (xs : List Int) (w : World) (h1 : Rd w 1 v1 n (xs.map (Value.int .i64))) (h2 : Rd w 1 v2 n (xs.map (Value.int .i64))) :
    Calls Tryd.prog 11 #[v1, v2] w fun e w' => e = .returned (.bool true) ∧ Below w.heap.size w w' :=
  (equal_same v1 v2 n xs w h1 h2).mono fun _ _ ⟨he, m, hm⟩ => ⟨he, by rw [hm]; exact below_drewN (Below.refl _ _) m⟩
noncomputable def body8 : Code := Tryd.f8.body.getD .skip
set_option maxHeartbeats 4000000 in
theorem awake_any (w : World) (HN : Nms w) : Calls Tryd.prog 8 #[] w fun e w' => e = .returned (.bool true) ∧ Below w.heap.size w w' := by
  have hB : Below w.heap.size w w := Below.refl _ _
  refine enter (B := body8) (args := []) Tryd.func8 (by kernel_rfl) (by kernel_rfl) ?_
  rw [show Tryd.f8.ntmps = 71 from by kernel_rfl]
  intro a hs
  replace hs := hs.pick (ts := []) (L' := []) (by kernel_rfl)
  refine at_seq (j := 2) (by kernel_rfl) ?_
  refine at_region (id := 0) (by kernel_rfl) ?_
  refine atR_seg (m := 1) (H := []) (ts := []) (L' := []) (O := fun w => True) hs (by kernel_rfl) trivial ?_
  clear hs a; intro a hs
  refine atR_end (by kernel_rfl) ?_
  refine wayN_node rfl ?_
  refine at_seq (j := 4) (by kernel_rfl) ?_
  refine at_region (id := 1) (by kernel_rfl) ?_
  refine atR_op hs (by kernel_rfl) (call1 (f := 9) (args := #[.int .i64 7000, .int .i64 3000]) [11] (fun rv_ => [(11, rv_)]) hs (by kernel_rfl) (fun _ => by kernel_rfl) ?_)
  refine (pecks_any 7000 3000 _ (by decide) (by decide) (by decide) (by decide)).mono ?_
  rintro e w1 ⟨vp, rfl, hrp, hb⟩
  rw [show pkErr 7000 3000 = 0 from by decide]
  rw [show pkList 7000 3000 = [3000, 6000, 7000] from by decide] at hrp
  obtain ⟨u0, hu0, Rp⟩ := RdU.at_u hrp
  clear hrp hu0
  refine ⟨_, rfl, ?_⟩
  clear hs a; intro a hs
  replace hB := later hB hb
  clear hb
  refine atR_seg (m := 5) (H := []) (ts := [1, 2]) (L' := [(1, vp), (2, .int .i64 0)]) (O := fun w => True) hs (by kernel_rfl) trivial ?_
  clear hs a; intro a hs
  refine atR_end (by kernel_rfl) ?_
  refine wayN_node rfl ?_
  refine at_seq (j := 6) (by kernel_rfl) ?_
  refine at_region (id := 2) (by kernel_rfl) ?_
  refine atR_op hs (by kernel_rfl) (call1 (f := 24) (args := #[.int .i64 1, .int .i64 3000]) [1, 2, 14] (fun rv_ => [(1, vp), (2, .int .i64 0), (14, rv_)]) hs (by kernel_rfl) (fun _ => by kernel_rfl) ?_)
  refine (standard_any _ _ _ (by decide) (by decide)).mono ?_
  rintro e w2 ⟨rfl, hb⟩
  refine ⟨_, rfl, ?_⟩
  clear hs a; intro a hs
  replace Rp := Rp.below hb
  replace hB := later hB hb
  clear hb
  refine atR_op hs (by kernel_rfl) (new1 (t := 33) (cs := #[.int .i64 0, .int .i64 0, .int .i64 0, .int .i64 0, .int .i64 0, .int .i64 0, .int .i64 0, .int .i64 0]) (fun rb_ => .pointer (some ⟨rb_, 0, none⟩)) [1, 2, 3, 14] (fun rb_ => [(1, vp), (2, .int .i64 0), (3, .pointer (some ⟨rb_, 0, none⟩)), (14, .agg #[.int .i64 1, .int .i64 1, .int .i64 3000, .int .i64 20000, .int .i64 (3000 + 7000), .int .i64 1500, .int .i64 20000, .int .i64 5000])]) hs (fun _ => by kernel_rfl) (fun _ => by kernel_rfl) ?_)
  clear hs a; intro a w3 b1 hn hs
  have B1 := hn.blk
  have l1 : w.heap.size ≤ b1 := by rw [hn.at_]; exact hB.size
  have lu1Rp : u0 ≤ b1 := by rw [hn.at_]; exact Rp.le
  replace Rp := Rp.below hn.below
  replace hB := later hB hn.below
  clear hn
  refine atR_op hs (by kernel_rfl) (store1 (b := b1) (cs := #[.int .i64 0, .int .i64 0, .int .i64 0, .int .i64 0, .int .i64 0, .int .i64 0, .int .i64 0, .int .i64 0]) #[.int .i64 1, .int .i64 1, .int .i64 3000, .int .i64 20000, .int .i64 (3000 + 7000), .int .i64 1500, .int .i64 20000, .int .i64 5000] [(0, .int .i64 1), (1, .int .i64 1), (2, .int .i64 3000), (3, .int .i64 20000), (4, .int .i64 (3000 + 7000)), (5, .int .i64 1500), (6, .int .i64 20000), (7, .int .i64 5000)] [1, 2, 3] [(1, vp), (2, .int .i64 0), (3, .pointer (some ⟨b1, 0, none⟩))] hs B1 (by kernel_rfl) ⟨Nat.le_of_ble_eq_true rfl, trivial, ⟨Nat.le_of_ble_eq_true rfl, trivial, ⟨Nat.le_of_ble_eq_true rfl, trivial, ⟨Nat.le_of_ble_eq_true rfl, trivial, ⟨Nat.le_of_ble_eq_true rfl, trivial, ⟨Nat.le_of_ble_eq_true rfl, trivial, ⟨Nat.le_of_ble_eq_true rfl, trivial, ⟨Nat.le_of_ble_eq_true rfl, trivial, trivial⟩⟩⟩⟩⟩⟩⟩⟩ rfl (by kernel_rfl) ?_)
  clear hs a; intro a w4 B1' hu hs
  replace B1 := B1'; clear B1'
  replace Rp := Rp.upd hu (by omega)
  replace hB := hB.trans (hu.below (by omega))
  clear hu
  refine atR_end (by kernel_rfl) ?_
  refine wayN_node rfl ?_
  refine at_seq (j := 8) (by kernel_rfl) ?_
  refine at_region (id := 3) (by kernel_rfl) ?_
  refine atR_seg (m := 2) (H := [(1, none, [.int .i64 1, .int .i64 1, .int .i64 3000, .int .i64 20000, .int .i64 (3000 + 7000), .int .i64 1500, .int .i64 20000, .int .i64 5000])]) (ts := [1, 2, 16, 17]) (L' := [(1, vp), (2, .int .i64 0), (16, .agg #[.int .i64 0, .int .i64 0]), (17, .agg #[.int .i64 1, .int .i64 1, .int .i64 3000, .int .i64 20000, .int .i64 (3000 + 7000), .int .i64 1500, .int .i64 20000, .int .i64 5000])]) (O := fun w => (w.cell? ⟨b1, 0, none⟩ = some (.int .i64 1)) ∧ (w.cell? ⟨b1, 1, none⟩ = some (.int .i64 1)) ∧ (w.cell? ⟨b1, 2, none⟩ = some (.int .i64 3000)) ∧ (w.cell? ⟨b1, 3, none⟩ = some (.int .i64 20000)) ∧ (w.cell? ⟨b1, 4, none⟩ = some (.int .i64 (3000 + 7000))) ∧ (w.cell? ⟨b1, 5, none⟩ = some (.int .i64 1500)) ∧ (w.cell? ⟨b1, 6, none⟩ = some (.int .i64 20000)) ∧ (w.cell? ⟨b1, 7, none⟩ = some (.int .i64 5000)) ∧ True) hs (by kernel_rfl) ⟨B1.cell 0 rfl, B1.cell 1 rfl, B1.cell 2 rfl, B1.cell 3 rfl, B1.cell 4 rfl, B1.cell 5 rfl, B1.cell 6 rfl, B1.cell 7 rfl, trivial⟩ ?_
  clear hs a; intro a hs
  refine atR_op hs (by kernel_rfl) (call1 (f := 12) (args := #[.agg #[.int .i64 0, .int .i64 0], .int .i64 5000, .int .i64 0, .int .i64 3000, .agg #[.int .i64 1, .int .i64 1, .int .i64 3000, .int .i64 20000, .int .i64 (3000 + 7000), .int .i64 1500, .int .i64 20000, .int .i64 5000]]) [1, 2, 18] (fun rv_ => [(1, vp), (2, .int .i64 0), (18, rv_)]) hs (by kernel_rfl) (fun _ => by kernel_rfl) ?_)
  refine (bore_any (⟨1, 1, 3000, 20000, 3000 + 7000, 1500, 20000, 5000⟩ : Tl) 0 0 5000 0 3000 _ (HN.below hB) ⟨⟨by decide, by decide⟩, ⟨by decide, by decide⟩, ⟨by decide, by decide⟩, ⟨by decide, by decide⟩, ⟨by decide, by decide⟩, ⟨by decide, by decide⟩, ⟨by decide, by decide⟩, ⟨by decide, by decide⟩⟩ ⟨by decide, by decide⟩ ⟨by decide, by decide⟩).mono ?_
  rintro e w5 ⟨v1, rfl, hr, hb⟩
  rw [show boreErr (⟨1, 1, 3000, 20000, 3000 + 7000, 1500, 20000, 5000⟩ : Tl) 0 0 5000 0 3000 = 0 from by decide]
  rw [show boreR (⟨1, 1, 3000, 20000, 3000 + 7000, 1500, 20000, 5000⟩ : Tl) 0 0 5000 0 3000 = [⟨2, 2000, 0, 0, 0, 0, 5000⟩, ⟨4, 0, 2000, (-375), 0, 0, 20000⟩, ⟨4, (-2000), 0, (-750), 0, 0, 20000⟩, ⟨4, 0, (-2000), (-1125), 0, 0, 20000⟩, ⟨4, 2000, 0, (-1500), 0, 0, 20000⟩, ⟨4, 0, 2000, (-1875), 0, 0, 20000⟩, ⟨4, (-2000), 0, (-2250), 0, 0, 20000⟩, ⟨4, 0, (-2000), (-2625), 0, 0, 20000⟩, ⟨4, 2000, 0, (-3000), 0, 0, 20000⟩, ⟨4, 2000, 0, (-3000), 0, 0, 20000⟩, ⟨2, 0, 0, (-3000), 0, 0, 20000⟩, ⟨1, 0, 0, 0, 0, 0, 0⟩] from by kernel_rfl] at hr
  obtain ⟨bl, ol, cl, rfl, hl0⟩ := rd_some hr (by decide)
  obtain ⟨u1, hu1, el⟩ := hl0.at_u
  clear hr hl0 hu1
  refine ⟨_, rfl, ?_⟩
  clear hs a; intro a hs
  replace B1 := B1.below hb B1.lt
  replace Rp := Rp.below hb
  replace hB := later hB hb
  clear hb
  refine atR_seg (m := 5) (H := []) (ts := [1, 2, 4, 5]) (L' := [(1, vp), (2, .int .i64 0), (4, .slice (some ⟨bl, ol, none⟩) 12 cl), (5, .int .i64 0)]) (O := fun w => True) hs (by kernel_rfl) trivial ?_
  clear hs a; intro a hs
  refine atR_end (by kernel_rfl) ?_
  refine wayN_node rfl ?_
  refine at_seq (j := 16) (by kernel_rfl) ?_
  refine at_seq (j := 11) (by kernel_rfl) ?_
  refine at_region (id := 4) (by kernel_rfl) ?_
  refine atR_seg (m := 8) (H := []) (ts := [4, 27, 28]) (L' := [(4, .slice (some ⟨bl, ol, none⟩) 12 cl), (27, .bool false), (28, vp)]) (O := fun w => True) hs (by kernel_rfl) trivial ?_
  clear hs a; intro a hs
  refine atR_op hs (by kernel_rfl) (new1 (t := 2) (cs := #[.int .i64 3000, .int .i64 6000, .int .i64 7000]) (fun rb_ => .slice (some ⟨rb_, 0, none⟩) 3 3) [4, 27, 28, 29] (fun rb_ => [(4, .slice (some ⟨bl, ol, none⟩) 12 cl), (27, .bool false), (28, vp), (29, .slice (some ⟨rb_, 0, none⟩) 3 3)]) hs (fun _ => by kernel_rfl) (fun _ => by kernel_rfl) ?_)
  clear hs a; intro a w6 b2 hn hs
  have B2 := hn.blk
  have l2 : w.heap.size ≤ b2 := by rw [hn.at_]; exact hB.size
  have l2' : b1 < b2 := by rw [hn.at_]; exact B1.lt
  have lu2Rp : u0 ≤ b2 := by rw [hn.at_]; exact Rp.le
  have lu2el : u1 ≤ b2 := by rw [hn.at_]; exact el.le
  replace B1 := B1.below hn.below B1.lt
  replace Rp := Rp.below hn.below
  replace el := el.below hn.below
  replace hB := later hB hn.below
  clear hn
  refine atR_op hs (by kernel_rfl) (call1 (f := 11) (args := #[vp, .slice (some ⟨b2, 0, none⟩) 3 3]) [4, 27, 30] (fun rv_ => [(4, .slice (some ⟨bl, ol, none⟩) 12 cl), (27, .bool false), (30, rv_)]) hs (by kernel_rfl) (fun _ => by kernel_rfl) ?_)
  refine (equal_eq _ _ 3 [3000, 6000, 7000] _ Rp.rd_ (rd_blk (cs := [.int .i64 3000, .int .i64 6000, .int .i64 7000]) B2 rfl (by decide))).mono ?_
  rintro e w7 ⟨rfl, hb⟩
  refine ⟨_, rfl, ?_⟩
  clear hs a; intro a hs
  replace B1 := B1.below hb B1.lt
  replace B2 := B2.below hb B2.lt
  replace Rp := Rp.below hb
  replace el := el.below hb
  replace hB := later hB hb
  clear hb
  refine atR_seg (m := 7) (H := []) (ts := [4, 37]) (L' := [(4, .slice (some ⟨bl, ol, none⟩) 12 cl), (37, .bool false)]) (O := fun w => True) hs (by kernel_rfl) trivial ?_
  clear hs a; intro a hs
  refine atR_end (by kernel_rfl) ?_
  refine wayN_node rfl ?_
  refine at_cond (t := 37) (j1 := 12) (j2 := 15) (b := false) (by kernel_rfl) hs rfl (fun hb => absurd (hb.symm.trans (show (false) = false from rfl)) (by decide)) (fun _ => ?_)
  refine at_skip (by kernel_rfl) ?_
  refine wayN_node rfl ?_
  refine at_seq (j := 39) (by kernel_rfl) ?_
  refine at_seq (j := 19) (by kernel_rfl) ?_
  refine at_region (id := 6) (by kernel_rfl) ?_
  refine atR_op hs (by kernel_rfl) (new1 (t := 2) (cs := #[.int .i64 (-375), .int .i64 (-750), .int .i64 (-1125), .int .i64 (-1500), .int .i64 (-1875), .int .i64 (-2250), .int .i64 (-2625), .int .i64 (-3000)]) (fun rb_ => .slice (some ⟨rb_, 0, none⟩) 8 8) [4, 38] (fun rb_ => [(4, .slice (some ⟨bl, ol, none⟩) 12 cl), (38, .slice (some ⟨rb_, 0, none⟩) 8 8)]) hs (fun _ => by kernel_rfl) (fun _ => by kernel_rfl) ?_)
  clear hs a; intro a w8 b3 hn hs
  have B3 := hn.blk
  have l3 : w.heap.size ≤ b3 := by rw [hn.at_]; exact hB.size
  have l3' : b2 < b3 := by rw [hn.at_]; exact B2.lt
  have lu3Rp : u0 ≤ b3 := by rw [hn.at_]; exact Rp.le
  have lu3el : u1 ≤ b3 := by rw [hn.at_]; exact el.le
  replace B1 := B1.below hn.below B1.lt
  replace B2 := B2.below hn.below B2.lt
  replace Rp := Rp.below hn.below
  replace el := el.below hn.below
  replace hB := later hB hn.below
  clear hn
  refine atR_seg (m := 2) (H := []) (ts := [4, 38, 39, 40]) (L' := [(4, .slice (some ⟨bl, ol, none⟩) 12 cl), (38, .slice (some ⟨b3, 0, none⟩) 8 8), (39, .int .i64 8), (40, .int .i64 0)]) (O := fun w => True) hs (by kernel_rfl) trivial ?_
  clear hs a; intro a hs
  refine atR_end (by kernel_rfl) ?_
  refine wayN_node rfl ?_
  refine at_block (id := 0) (by kernel_rfl) ?_
  refine at_rounds 9 (by kernel_rfl) ?_
  refine rounds_at ?_
  refine at_seq (j := 23) (by kernel_rfl) ?_
  refine at_region (id := 7) (by kernel_rfl) ?_
  refine atR_seg (m := 1) (H := []) (ts := [4, 38, 39, 40, 41]) (L' := [(4, .slice (some ⟨bl, ol, none⟩) 12 cl), (38, .slice (some ⟨b3, 0, none⟩) 8 8), (39, .int .i64 8), (40, .int .i64 0), (41, .bool true)]) (O := fun w => True) hs (by kernel_rfl) trivial ?_
  clear hs a; intro a hs
  refine atR_end (by kernel_rfl) ?_
  refine wayN_node rfl ?_
  refine at_seq (j := 27) (by kernel_rfl) ?_
  refine at_cond (t := 41) (j1 := 25) (j2 := 26) (b := true) (by kernel_rfl) hs rfl (fun _ => ?_) (fun hb => absurd (hb.symm.trans (show (true) = true from rfl)) (by decide))
  refine at_skip (by kernel_rfl) ?_
  refine wayN_node rfl ?_
  refine at_seq (j := 38) (by kernel_rfl) ?_
  refine at_block (id := 1) (by kernel_rfl) ?_
  refine at_seq (j := 31) (by kernel_rfl) ?_
  refine at_region (id := 8) (by kernel_rfl) ?_
  refine atR_seg (m := 5) (H := [(2, none, [.int .i64 (-375)])]) (ts := [4, 6, 7, 38, 39, 40]) (L' := [(4, .slice (some ⟨bl, ol, none⟩) 12 cl), (6, .int .i64 0), (7, .int .i64 (-375)), (38, .slice (some ⟨b3, 0, none⟩) 8 8), (39, .int .i64 8), (40, .int .i64 0)]) (O := fun w => ((0 : Int) ≤ 0 ∧ 0 < ((8 : Nat) : Int)) ∧ (w.cell? ⟨b3, 0, none⟩ = some (.int .i64 (-375))) ∧ True) hs (by kernel_rfl) ⟨⟨by omega, by omega⟩, B3.cell 0 rfl, trivial⟩ ?_
  clear hs a; intro a hs
  refine atR_end (by kernel_rfl) ?_
  refine wayN_node rfl ?_
  refine at_seq (j := 33) (by kernel_rfl) ?_
  refine at_region (id := 9) (by kernel_rfl) ?_
  refine atR_seg (m := 9) (H := [(6, none, [.int .i64 (-375)])]) (ts := [4, 38, 39, 40, 53]) (L' := [(4, .slice (some ⟨bl, ol, none⟩) 12 cl), (38, .slice (some ⟨b3, 0, none⟩) 8 8), (39, .int .i64 8), (40, .int .i64 0), (53, .bool false)]) (O := fun w => ((0 : Int) ≤ 1 ∧ 1 < ((12 : Nat) : Int)) ∧ (w.cell? ⟨bl, ol + 10, none⟩ = some (.int .i64 (-375))) ∧ True) hs (by kernel_rfl) ⟨⟨by omega, by omega⟩, el.at_ 10 rfl, trivial⟩ ?_
  clear hs a; intro a hs
  refine atR_end (by kernel_rfl) ?_
  refine wayN_node rfl ?_
  refine at_cond (t := 53) (j1 := 34) (j2 := 37) (b := false) (by kernel_rfl) hs rfl (fun hb => absurd (hb.symm.trans (show (false) = false from rfl)) (by decide)) (fun _ => ?_)
  refine at_skip (by kernel_rfl) ?_
  refine wayN_node rfl ?_
  refine at_region (id := 11) (by kernel_rfl) ?_
  refine atR_seg (m := 2) (H := []) (ts := [4, 38, 39, 40]) (L' := [(4, .slice (some ⟨bl, ol, none⟩) 12 cl), (38, .slice (some ⟨b3, 0, none⟩) 8 8), (39, .int .i64 8), (40, .int .i64 1)]) (O := fun w => True) hs (by kernel_rfl) trivial ?_
  clear hs a; intro a hs
  refine atR_end (by kernel_rfl) ?_
  refine wayN_back ?_
  dsimp only [lpOf]
  refine rounds_at ?_
  refine at_seq (j := 23) (by kernel_rfl) ?_
  refine at_region (id := 7) (by kernel_rfl) ?_
  refine atR_seg (m := 1) (H := []) (ts := [4, 38, 39, 40, 41]) (L' := [(4, .slice (some ⟨bl, ol, none⟩) 12 cl), (38, .slice (some ⟨b3, 0, none⟩) 8 8), (39, .int .i64 8), (40, .int .i64 1), (41, .bool true)]) (O := fun w => True) hs (by kernel_rfl) trivial ?_
  clear hs a; intro a hs
  refine atR_end (by kernel_rfl) ?_
  refine wayN_node rfl ?_
  refine at_seq (j := 27) (by kernel_rfl) ?_
  refine at_cond (t := 41) (j1 := 25) (j2 := 26) (b := true) (by kernel_rfl) hs rfl (fun _ => ?_) (fun hb => absurd (hb.symm.trans (show (true) = true from rfl)) (by decide))
  refine at_skip (by kernel_rfl) ?_
  refine wayN_node rfl ?_
  refine at_seq (j := 38) (by kernel_rfl) ?_
  refine at_block (id := 1) (by kernel_rfl) ?_
  refine at_seq (j := 31) (by kernel_rfl) ?_
  refine at_region (id := 8) (by kernel_rfl) ?_
  refine atR_seg (m := 5) (H := [(2, none, [.int .i64 (-750)])]) (ts := [4, 6, 7, 38, 39, 40]) (L' := [(4, .slice (some ⟨bl, ol, none⟩) 12 cl), (6, .int .i64 1), (7, .int .i64 (-750)), (38, .slice (some ⟨b3, 0, none⟩) 8 8), (39, .int .i64 8), (40, .int .i64 1)]) (O := fun w => ((0 : Int) ≤ 1 ∧ 1 < ((8 : Nat) : Int)) ∧ (w.cell? ⟨b3, 1, none⟩ = some (.int .i64 (-750))) ∧ True) hs (by kernel_rfl) ⟨⟨by omega, by omega⟩, B3.cell 1 rfl, trivial⟩ ?_
  clear hs a; intro a hs
  refine atR_end (by kernel_rfl) ?_
  refine wayN_node rfl ?_
  refine at_seq (j := 33) (by kernel_rfl) ?_
  refine at_region (id := 9) (by kernel_rfl) ?_
  refine atR_seg (m := 9) (H := [(6, none, [.int .i64 (-750)])]) (ts := [4, 38, 39, 40, 53]) (L' := [(4, .slice (some ⟨bl, ol, none⟩) 12 cl), (38, .slice (some ⟨b3, 0, none⟩) 8 8), (39, .int .i64 8), (40, .int .i64 1), (53, .bool false)]) (O := fun w => ((0 : Int) ≤ 2 ∧ 2 < ((12 : Nat) : Int)) ∧ (w.cell? ⟨bl, ol + 17, none⟩ = some (.int .i64 (-750))) ∧ True) hs (by kernel_rfl) ⟨⟨by omega, by omega⟩, el.at_ 17 rfl, trivial⟩ ?_
  clear hs a; intro a hs
  refine atR_end (by kernel_rfl) ?_
  refine wayN_node rfl ?_
  refine at_cond (t := 53) (j1 := 34) (j2 := 37) (b := false) (by kernel_rfl) hs rfl (fun hb => absurd (hb.symm.trans (show (false) = false from rfl)) (by decide)) (fun _ => ?_)
  refine at_skip (by kernel_rfl) ?_
  refine wayN_node rfl ?_
  refine at_region (id := 11) (by kernel_rfl) ?_
  refine atR_seg (m := 2) (H := []) (ts := [4, 38, 39, 40]) (L' := [(4, .slice (some ⟨bl, ol, none⟩) 12 cl), (38, .slice (some ⟨b3, 0, none⟩) 8 8), (39, .int .i64 8), (40, .int .i64 2)]) (O := fun w => True) hs (by kernel_rfl) trivial ?_
  clear hs a; intro a hs
  refine atR_end (by kernel_rfl) ?_
  refine wayN_back ?_
  dsimp only [lpOf]
  refine rounds_at ?_
  refine at_seq (j := 23) (by kernel_rfl) ?_
  refine at_region (id := 7) (by kernel_rfl) ?_
  refine atR_seg (m := 1) (H := []) (ts := [4, 38, 39, 40, 41]) (L' := [(4, .slice (some ⟨bl, ol, none⟩) 12 cl), (38, .slice (some ⟨b3, 0, none⟩) 8 8), (39, .int .i64 8), (40, .int .i64 2), (41, .bool true)]) (O := fun w => True) hs (by kernel_rfl) trivial ?_
  clear hs a; intro a hs
  refine atR_end (by kernel_rfl) ?_
  refine wayN_node rfl ?_
  refine at_seq (j := 27) (by kernel_rfl) ?_
  refine at_cond (t := 41) (j1 := 25) (j2 := 26) (b := true) (by kernel_rfl) hs rfl (fun _ => ?_) (fun hb => absurd (hb.symm.trans (show (true) = true from rfl)) (by decide))
  refine at_skip (by kernel_rfl) ?_
  refine wayN_node rfl ?_
  refine at_seq (j := 38) (by kernel_rfl) ?_
  refine at_block (id := 1) (by kernel_rfl) ?_
  refine at_seq (j := 31) (by kernel_rfl) ?_
  refine at_region (id := 8) (by kernel_rfl) ?_
  refine atR_seg (m := 5) (H := [(2, none, [.int .i64 (-1125)])]) (ts := [4, 6, 7, 38, 39, 40]) (L' := [(4, .slice (some ⟨bl, ol, none⟩) 12 cl), (6, .int .i64 2), (7, .int .i64 (-1125)), (38, .slice (some ⟨b3, 0, none⟩) 8 8), (39, .int .i64 8), (40, .int .i64 2)]) (O := fun w => ((0 : Int) ≤ 2 ∧ 2 < ((8 : Nat) : Int)) ∧ (w.cell? ⟨b3, 2, none⟩ = some (.int .i64 (-1125))) ∧ True) hs (by kernel_rfl) ⟨⟨by omega, by omega⟩, B3.cell 2 rfl, trivial⟩ ?_
  clear hs a; intro a hs
  refine atR_end (by kernel_rfl) ?_
  refine wayN_node rfl ?_
  refine at_seq (j := 33) (by kernel_rfl) ?_
  refine at_region (id := 9) (by kernel_rfl) ?_
  refine atR_seg (m := 9) (H := [(6, none, [.int .i64 (-1125)])]) (ts := [4, 38, 39, 40, 53]) (L' := [(4, .slice (some ⟨bl, ol, none⟩) 12 cl), (38, .slice (some ⟨b3, 0, none⟩) 8 8), (39, .int .i64 8), (40, .int .i64 2), (53, .bool false)]) (O := fun w => ((0 : Int) ≤ 3 ∧ 3 < ((12 : Nat) : Int)) ∧ (w.cell? ⟨bl, ol + 24, none⟩ = some (.int .i64 (-1125))) ∧ True) hs (by kernel_rfl) ⟨⟨by omega, by omega⟩, el.at_ 24 rfl, trivial⟩ ?_
  clear hs a; intro a hs
  refine atR_end (by kernel_rfl) ?_
  refine wayN_node rfl ?_
  refine at_cond (t := 53) (j1 := 34) (j2 := 37) (b := false) (by kernel_rfl) hs rfl (fun hb => absurd (hb.symm.trans (show (false) = false from rfl)) (by decide)) (fun _ => ?_)
  refine at_skip (by kernel_rfl) ?_
  refine wayN_node rfl ?_
  refine at_region (id := 11) (by kernel_rfl) ?_
  refine atR_seg (m := 2) (H := []) (ts := [4, 38, 39, 40]) (L' := [(4, .slice (some ⟨bl, ol, none⟩) 12 cl), (38, .slice (some ⟨b3, 0, none⟩) 8 8), (39, .int .i64 8), (40, .int .i64 3)]) (O := fun w => True) hs (by kernel_rfl) trivial ?_
  clear hs a; intro a hs
  refine atR_end (by kernel_rfl) ?_
  refine wayN_back ?_
  dsimp only [lpOf]
  refine rounds_at ?_
  refine at_seq (j := 23) (by kernel_rfl) ?_
  refine at_region (id := 7) (by kernel_rfl) ?_
  refine atR_seg (m := 1) (H := []) (ts := [4, 38, 39, 40, 41]) (L' := [(4, .slice (some ⟨bl, ol, none⟩) 12 cl), (38, .slice (some ⟨b3, 0, none⟩) 8 8), (39, .int .i64 8), (40, .int .i64 3), (41, .bool true)]) (O := fun w => True) hs (by kernel_rfl) trivial ?_
  clear hs a; intro a hs
  refine atR_end (by kernel_rfl) ?_
  refine wayN_node rfl ?_
  refine at_seq (j := 27) (by kernel_rfl) ?_
  refine at_cond (t := 41) (j1 := 25) (j2 := 26) (b := true) (by kernel_rfl) hs rfl (fun _ => ?_) (fun hb => absurd (hb.symm.trans (show (true) = true from rfl)) (by decide))
  refine at_skip (by kernel_rfl) ?_
  refine wayN_node rfl ?_
  refine at_seq (j := 38) (by kernel_rfl) ?_
  refine at_block (id := 1) (by kernel_rfl) ?_
  refine at_seq (j := 31) (by kernel_rfl) ?_
  refine at_region (id := 8) (by kernel_rfl) ?_
  refine atR_seg (m := 5) (H := [(2, none, [.int .i64 (-1500)])]) (ts := [4, 6, 7, 38, 39, 40]) (L' := [(4, .slice (some ⟨bl, ol, none⟩) 12 cl), (6, .int .i64 3), (7, .int .i64 (-1500)), (38, .slice (some ⟨b3, 0, none⟩) 8 8), (39, .int .i64 8), (40, .int .i64 3)]) (O := fun w => ((0 : Int) ≤ 3 ∧ 3 < ((8 : Nat) : Int)) ∧ (w.cell? ⟨b3, 3, none⟩ = some (.int .i64 (-1500))) ∧ True) hs (by kernel_rfl) ⟨⟨by omega, by omega⟩, B3.cell 3 rfl, trivial⟩ ?_
  clear hs a; intro a hs
  refine atR_end (by kernel_rfl) ?_
  refine wayN_node rfl ?_
  refine at_seq (j := 33) (by kernel_rfl) ?_
  refine at_region (id := 9) (by kernel_rfl) ?_
  refine atR_seg (m := 9) (H := [(6, none, [.int .i64 (-1500)])]) (ts := [4, 38, 39, 40, 53]) (L' := [(4, .slice (some ⟨bl, ol, none⟩) 12 cl), (38, .slice (some ⟨b3, 0, none⟩) 8 8), (39, .int .i64 8), (40, .int .i64 3), (53, .bool false)]) (O := fun w => ((0 : Int) ≤ 4 ∧ 4 < ((12 : Nat) : Int)) ∧ (w.cell? ⟨bl, ol + 31, none⟩ = some (.int .i64 (-1500))) ∧ True) hs (by kernel_rfl) ⟨⟨by omega, by omega⟩, el.at_ 31 rfl, trivial⟩ ?_
  clear hs a; intro a hs
  refine atR_end (by kernel_rfl) ?_
  refine wayN_node rfl ?_
  refine at_cond (t := 53) (j1 := 34) (j2 := 37) (b := false) (by kernel_rfl) hs rfl (fun hb => absurd (hb.symm.trans (show (false) = false from rfl)) (by decide)) (fun _ => ?_)
  refine at_skip (by kernel_rfl) ?_
  refine wayN_node rfl ?_
  refine at_region (id := 11) (by kernel_rfl) ?_
  refine atR_seg (m := 2) (H := []) (ts := [4, 38, 39, 40]) (L' := [(4, .slice (some ⟨bl, ol, none⟩) 12 cl), (38, .slice (some ⟨b3, 0, none⟩) 8 8), (39, .int .i64 8), (40, .int .i64 4)]) (O := fun w => True) hs (by kernel_rfl) trivial ?_
  clear hs a; intro a hs
  refine atR_end (by kernel_rfl) ?_
  refine wayN_back ?_
  dsimp only [lpOf]
  refine rounds_at ?_
  refine at_seq (j := 23) (by kernel_rfl) ?_
  refine at_region (id := 7) (by kernel_rfl) ?_
  refine atR_seg (m := 1) (H := []) (ts := [4, 38, 39, 40, 41]) (L' := [(4, .slice (some ⟨bl, ol, none⟩) 12 cl), (38, .slice (some ⟨b3, 0, none⟩) 8 8), (39, .int .i64 8), (40, .int .i64 4), (41, .bool true)]) (O := fun w => True) hs (by kernel_rfl) trivial ?_
  clear hs a; intro a hs
  refine atR_end (by kernel_rfl) ?_
  refine wayN_node rfl ?_
  refine at_seq (j := 27) (by kernel_rfl) ?_
  refine at_cond (t := 41) (j1 := 25) (j2 := 26) (b := true) (by kernel_rfl) hs rfl (fun _ => ?_) (fun hb => absurd (hb.symm.trans (show (true) = true from rfl)) (by decide))
  refine at_skip (by kernel_rfl) ?_
  refine wayN_node rfl ?_
  refine at_seq (j := 38) (by kernel_rfl) ?_
  refine at_block (id := 1) (by kernel_rfl) ?_
  refine at_seq (j := 31) (by kernel_rfl) ?_
  refine at_region (id := 8) (by kernel_rfl) ?_
  refine atR_seg (m := 5) (H := [(2, none, [.int .i64 (-1875)])]) (ts := [4, 6, 7, 38, 39, 40]) (L' := [(4, .slice (some ⟨bl, ol, none⟩) 12 cl), (6, .int .i64 4), (7, .int .i64 (-1875)), (38, .slice (some ⟨b3, 0, none⟩) 8 8), (39, .int .i64 8), (40, .int .i64 4)]) (O := fun w => ((0 : Int) ≤ 4 ∧ 4 < ((8 : Nat) : Int)) ∧ (w.cell? ⟨b3, 4, none⟩ = some (.int .i64 (-1875))) ∧ True) hs (by kernel_rfl) ⟨⟨by omega, by omega⟩, B3.cell 4 rfl, trivial⟩ ?_
  clear hs a; intro a hs
  refine atR_end (by kernel_rfl) ?_
  refine wayN_node rfl ?_
  refine at_seq (j := 33) (by kernel_rfl) ?_
  refine at_region (id := 9) (by kernel_rfl) ?_
  refine atR_seg (m := 9) (H := [(6, none, [.int .i64 (-1875)])]) (ts := [4, 38, 39, 40, 53]) (L' := [(4, .slice (some ⟨bl, ol, none⟩) 12 cl), (38, .slice (some ⟨b3, 0, none⟩) 8 8), (39, .int .i64 8), (40, .int .i64 4), (53, .bool false)]) (O := fun w => ((0 : Int) ≤ 5 ∧ 5 < ((12 : Nat) : Int)) ∧ (w.cell? ⟨bl, ol + 38, none⟩ = some (.int .i64 (-1875))) ∧ True) hs (by kernel_rfl) ⟨⟨by omega, by omega⟩, el.at_ 38 rfl, trivial⟩ ?_
  clear hs a; intro a hs
  refine atR_end (by kernel_rfl) ?_
  refine wayN_node rfl ?_
  refine at_cond (t := 53) (j1 := 34) (j2 := 37) (b := false) (by kernel_rfl) hs rfl (fun hb => absurd (hb.symm.trans (show (false) = false from rfl)) (by decide)) (fun _ => ?_)
  refine at_skip (by kernel_rfl) ?_
  refine wayN_node rfl ?_
  refine at_region (id := 11) (by kernel_rfl) ?_
  refine atR_seg (m := 2) (H := []) (ts := [4, 38, 39, 40]) (L' := [(4, .slice (some ⟨bl, ol, none⟩) 12 cl), (38, .slice (some ⟨b3, 0, none⟩) 8 8), (39, .int .i64 8), (40, .int .i64 5)]) (O := fun w => True) hs (by kernel_rfl) trivial ?_
  clear hs a; intro a hs
  refine atR_end (by kernel_rfl) ?_
  refine wayN_back ?_
  dsimp only [lpOf]
  refine rounds_at ?_
  refine at_seq (j := 23) (by kernel_rfl) ?_
  refine at_region (id := 7) (by kernel_rfl) ?_
  refine atR_seg (m := 1) (H := []) (ts := [4, 38, 39, 40, 41]) (L' := [(4, .slice (some ⟨bl, ol, none⟩) 12 cl), (38, .slice (some ⟨b3, 0, none⟩) 8 8), (39, .int .i64 8), (40, .int .i64 5), (41, .bool true)]) (O := fun w => True) hs (by kernel_rfl) trivial ?_
  clear hs a; intro a hs
  refine atR_end (by kernel_rfl) ?_
  refine wayN_node rfl ?_
  refine at_seq (j := 27) (by kernel_rfl) ?_
  refine at_cond (t := 41) (j1 := 25) (j2 := 26) (b := true) (by kernel_rfl) hs rfl (fun _ => ?_) (fun hb => absurd (hb.symm.trans (show (true) = true from rfl)) (by decide))
  refine at_skip (by kernel_rfl) ?_
  refine wayN_node rfl ?_
  refine at_seq (j := 38) (by kernel_rfl) ?_
  refine at_block (id := 1) (by kernel_rfl) ?_
  refine at_seq (j := 31) (by kernel_rfl) ?_
  refine at_region (id := 8) (by kernel_rfl) ?_
  refine atR_seg (m := 5) (H := [(2, none, [.int .i64 (-2250)])]) (ts := [4, 6, 7, 38, 39, 40]) (L' := [(4, .slice (some ⟨bl, ol, none⟩) 12 cl), (6, .int .i64 5), (7, .int .i64 (-2250)), (38, .slice (some ⟨b3, 0, none⟩) 8 8), (39, .int .i64 8), (40, .int .i64 5)]) (O := fun w => ((0 : Int) ≤ 5 ∧ 5 < ((8 : Nat) : Int)) ∧ (w.cell? ⟨b3, 5, none⟩ = some (.int .i64 (-2250))) ∧ True) hs (by kernel_rfl) ⟨⟨by omega, by omega⟩, B3.cell 5 rfl, trivial⟩ ?_
  clear hs a; intro a hs
  refine atR_end (by kernel_rfl) ?_
  refine wayN_node rfl ?_
  refine at_seq (j := 33) (by kernel_rfl) ?_
  refine at_region (id := 9) (by kernel_rfl) ?_
  refine atR_seg (m := 9) (H := [(6, none, [.int .i64 (-2250)])]) (ts := [4, 38, 39, 40, 53]) (L' := [(4, .slice (some ⟨bl, ol, none⟩) 12 cl), (38, .slice (some ⟨b3, 0, none⟩) 8 8), (39, .int .i64 8), (40, .int .i64 5), (53, .bool false)]) (O := fun w => ((0 : Int) ≤ 6 ∧ 6 < ((12 : Nat) : Int)) ∧ (w.cell? ⟨bl, ol + 45, none⟩ = some (.int .i64 (-2250))) ∧ True) hs (by kernel_rfl) ⟨⟨by omega, by omega⟩, el.at_ 45 rfl, trivial⟩ ?_
  clear hs a; intro a hs
  refine atR_end (by kernel_rfl) ?_
  refine wayN_node rfl ?_
  refine at_cond (t := 53) (j1 := 34) (j2 := 37) (b := false) (by kernel_rfl) hs rfl (fun hb => absurd (hb.symm.trans (show (false) = false from rfl)) (by decide)) (fun _ => ?_)
  refine at_skip (by kernel_rfl) ?_
  refine wayN_node rfl ?_
  refine at_region (id := 11) (by kernel_rfl) ?_
  refine atR_seg (m := 2) (H := []) (ts := [4, 38, 39, 40]) (L' := [(4, .slice (some ⟨bl, ol, none⟩) 12 cl), (38, .slice (some ⟨b3, 0, none⟩) 8 8), (39, .int .i64 8), (40, .int .i64 6)]) (O := fun w => True) hs (by kernel_rfl) trivial ?_
  clear hs a; intro a hs
  refine atR_end (by kernel_rfl) ?_
  refine wayN_back ?_
  dsimp only [lpOf]
  refine rounds_at ?_
  refine at_seq (j := 23) (by kernel_rfl) ?_
  refine at_region (id := 7) (by kernel_rfl) ?_
  refine atR_seg (m := 1) (H := []) (ts := [4, 38, 39, 40, 41]) (L' := [(4, .slice (some ⟨bl, ol, none⟩) 12 cl), (38, .slice (some ⟨b3, 0, none⟩) 8 8), (39, .int .i64 8), (40, .int .i64 6), (41, .bool true)]) (O := fun w => True) hs (by kernel_rfl) trivial ?_
  clear hs a; intro a hs
  refine atR_end (by kernel_rfl) ?_
  refine wayN_node rfl ?_
  refine at_seq (j := 27) (by kernel_rfl) ?_
  refine at_cond (t := 41) (j1 := 25) (j2 := 26) (b := true) (by kernel_rfl) hs rfl (fun _ => ?_) (fun hb => absurd (hb.symm.trans (show (true) = true from rfl)) (by decide))
  refine at_skip (by kernel_rfl) ?_
  refine wayN_node rfl ?_
  refine at_seq (j := 38) (by kernel_rfl) ?_
  refine at_block (id := 1) (by kernel_rfl) ?_
  refine at_seq (j := 31) (by kernel_rfl) ?_
  refine at_region (id := 8) (by kernel_rfl) ?_
  refine atR_seg (m := 5) (H := [(2, none, [.int .i64 (-2625)])]) (ts := [4, 6, 7, 38, 39, 40]) (L' := [(4, .slice (some ⟨bl, ol, none⟩) 12 cl), (6, .int .i64 6), (7, .int .i64 (-2625)), (38, .slice (some ⟨b3, 0, none⟩) 8 8), (39, .int .i64 8), (40, .int .i64 6)]) (O := fun w => ((0 : Int) ≤ 6 ∧ 6 < ((8 : Nat) : Int)) ∧ (w.cell? ⟨b3, 6, none⟩ = some (.int .i64 (-2625))) ∧ True) hs (by kernel_rfl) ⟨⟨by omega, by omega⟩, B3.cell 6 rfl, trivial⟩ ?_
  clear hs a; intro a hs
  refine atR_end (by kernel_rfl) ?_
  refine wayN_node rfl ?_
  refine at_seq (j := 33) (by kernel_rfl) ?_
  refine at_region (id := 9) (by kernel_rfl) ?_
  refine atR_seg (m := 9) (H := [(6, none, [.int .i64 (-2625)])]) (ts := [4, 38, 39, 40, 53]) (L' := [(4, .slice (some ⟨bl, ol, none⟩) 12 cl), (38, .slice (some ⟨b3, 0, none⟩) 8 8), (39, .int .i64 8), (40, .int .i64 6), (53, .bool false)]) (O := fun w => ((0 : Int) ≤ 7 ∧ 7 < ((12 : Nat) : Int)) ∧ (w.cell? ⟨bl, ol + 52, none⟩ = some (.int .i64 (-2625))) ∧ True) hs (by kernel_rfl) ⟨⟨by omega, by omega⟩, el.at_ 52 rfl, trivial⟩ ?_
  clear hs a; intro a hs
  refine atR_end (by kernel_rfl) ?_
  refine wayN_node rfl ?_
  refine at_cond (t := 53) (j1 := 34) (j2 := 37) (b := false) (by kernel_rfl) hs rfl (fun hb => absurd (hb.symm.trans (show (false) = false from rfl)) (by decide)) (fun _ => ?_)
  refine at_skip (by kernel_rfl) ?_
  refine wayN_node rfl ?_
  refine at_region (id := 11) (by kernel_rfl) ?_
  refine atR_seg (m := 2) (H := []) (ts := [4, 38, 39, 40]) (L' := [(4, .slice (some ⟨bl, ol, none⟩) 12 cl), (38, .slice (some ⟨b3, 0, none⟩) 8 8), (39, .int .i64 8), (40, .int .i64 7)]) (O := fun w => True) hs (by kernel_rfl) trivial ?_
  clear hs a; intro a hs
  refine atR_end (by kernel_rfl) ?_
  refine wayN_back ?_
  dsimp only [lpOf]
  refine rounds_at ?_
  refine at_seq (j := 23) (by kernel_rfl) ?_
  refine at_region (id := 7) (by kernel_rfl) ?_
  refine atR_seg (m := 1) (H := []) (ts := [4, 38, 39, 40, 41]) (L' := [(4, .slice (some ⟨bl, ol, none⟩) 12 cl), (38, .slice (some ⟨b3, 0, none⟩) 8 8), (39, .int .i64 8), (40, .int .i64 7), (41, .bool true)]) (O := fun w => True) hs (by kernel_rfl) trivial ?_
  clear hs a; intro a hs
  refine atR_end (by kernel_rfl) ?_
  refine wayN_node rfl ?_
  refine at_seq (j := 27) (by kernel_rfl) ?_
  refine at_cond (t := 41) (j1 := 25) (j2 := 26) (b := true) (by kernel_rfl) hs rfl (fun _ => ?_) (fun hb => absurd (hb.symm.trans (show (true) = true from rfl)) (by decide))
  refine at_skip (by kernel_rfl) ?_
  refine wayN_node rfl ?_
  refine at_seq (j := 38) (by kernel_rfl) ?_
  refine at_block (id := 1) (by kernel_rfl) ?_
  refine at_seq (j := 31) (by kernel_rfl) ?_
  refine at_region (id := 8) (by kernel_rfl) ?_
  refine atR_seg (m := 5) (H := [(2, none, [.int .i64 (-3000)])]) (ts := [4, 6, 7, 38, 39, 40]) (L' := [(4, .slice (some ⟨bl, ol, none⟩) 12 cl), (6, .int .i64 7), (7, .int .i64 (-3000)), (38, .slice (some ⟨b3, 0, none⟩) 8 8), (39, .int .i64 8), (40, .int .i64 7)]) (O := fun w => ((0 : Int) ≤ 7 ∧ 7 < ((8 : Nat) : Int)) ∧ (w.cell? ⟨b3, 7, none⟩ = some (.int .i64 (-3000))) ∧ True) hs (by kernel_rfl) ⟨⟨by omega, by omega⟩, B3.cell 7 rfl, trivial⟩ ?_
  clear hs a; intro a hs
  refine atR_end (by kernel_rfl) ?_
  refine wayN_node rfl ?_
  refine at_seq (j := 33) (by kernel_rfl) ?_
  refine at_region (id := 9) (by kernel_rfl) ?_
  refine atR_seg (m := 9) (H := [(6, none, [.int .i64 (-3000)])]) (ts := [4, 38, 39, 40, 53]) (L' := [(4, .slice (some ⟨bl, ol, none⟩) 12 cl), (38, .slice (some ⟨b3, 0, none⟩) 8 8), (39, .int .i64 8), (40, .int .i64 7), (53, .bool false)]) (O := fun w => ((0 : Int) ≤ 8 ∧ 8 < ((12 : Nat) : Int)) ∧ (w.cell? ⟨bl, ol + 59, none⟩ = some (.int .i64 (-3000))) ∧ True) hs (by kernel_rfl) ⟨⟨by omega, by omega⟩, el.at_ 59 rfl, trivial⟩ ?_
  clear hs a; intro a hs
  refine atR_end (by kernel_rfl) ?_
  refine wayN_node rfl ?_
  refine at_cond (t := 53) (j1 := 34) (j2 := 37) (b := false) (by kernel_rfl) hs rfl (fun hb => absurd (hb.symm.trans (show (false) = false from rfl)) (by decide)) (fun _ => ?_)
  refine at_skip (by kernel_rfl) ?_
  refine wayN_node rfl ?_
  refine at_region (id := 11) (by kernel_rfl) ?_
  refine atR_seg (m := 2) (H := []) (ts := [4, 38, 39, 40]) (L' := [(4, .slice (some ⟨bl, ol, none⟩) 12 cl), (38, .slice (some ⟨b3, 0, none⟩) 8 8), (39, .int .i64 8), (40, .int .i64 8)]) (O := fun w => True) hs (by kernel_rfl) trivial ?_
  clear hs a; intro a hs
  refine atR_end (by kernel_rfl) ?_
  refine wayN_back ?_
  dsimp only [lpOf]
  refine rounds_at ?_
  refine at_seq (j := 23) (by kernel_rfl) ?_
  refine at_region (id := 7) (by kernel_rfl) ?_
  refine atR_seg (m := 1) (H := []) (ts := [4, 38, 39, 40, 41]) (L' := [(4, .slice (some ⟨bl, ol, none⟩) 12 cl), (38, .slice (some ⟨b3, 0, none⟩) 8 8), (39, .int .i64 8), (40, .int .i64 8), (41, .bool false)]) (O := fun w => True) hs (by kernel_rfl) trivial ?_
  clear hs a; intro a hs
  refine atR_end (by kernel_rfl) ?_
  refine wayN_node rfl ?_
  refine at_seq (j := 27) (by kernel_rfl) ?_
  refine at_cond (t := 41) (j1 := 25) (j2 := 26) (b := false) (by kernel_rfl) hs rfl (fun hb => absurd (hb.symm.trans (show (false) = false from rfl)) (by decide)) (fun _ => ?_)
  refine at_exit (id := 0) (by kernel_rfl) (wayE_ok rfl ?_)
  refine wayN_node rfl ?_
  refine at_seq (j := 41) (by kernel_rfl) ?_
  refine at_region (id := 12) (by kernel_rfl) ?_
  refine atR_seg (m := 1) (H := []) (ts := [4, 56]) (L' := [(4, .slice (some ⟨bl, ol, none⟩) 12 cl), (56, .agg #[.int .i64 0, .int .i64 0])]) (O := fun w => True) hs (by kernel_rfl) trivial ?_
  clear hs a; intro a hs
  refine atR_op hs (by kernel_rfl) (call1 (f := 24) (args := #[.int .i64 1, .int .i64 2000]) [4, 56, 57] (fun rv_ => [(4, .slice (some ⟨bl, ol, none⟩) 12 cl), (56, .agg #[.int .i64 0, .int .i64 0]), (57, rv_)]) hs (by kernel_rfl) (fun _ => by kernel_rfl) ?_)
  refine (standard_any _ _ _ (by decide) (by decide)).mono ?_
  rintro e w9 ⟨rfl, hb⟩
  refine ⟨_, rfl, ?_⟩
  clear hs a; intro a hs
  replace B1 := B1.below hb B1.lt
  replace B2 := B2.below hb B2.lt
  replace B3 := B3.below hb B3.lt
  replace Rp := Rp.below hb
  replace el := el.below hb
  replace hB := later hB hb
  clear hb
  refine atR_op hs (by kernel_rfl) (call1 (f := 12) (args := #[.agg #[.int .i64 0, .int .i64 0], .int .i64 5000, .int .i64 0, .int .i64 3000, .agg #[.int .i64 1, .int .i64 1, .int .i64 2000, .int .i64 20000, .int .i64 (2000 + 7000), .int .i64 1500, .int .i64 20000, .int .i64 5000]]) [4, 58] (fun rv_ => [(4, .slice (some ⟨bl, ol, none⟩) 12 cl), (58, rv_)]) hs (by kernel_rfl) (fun _ => by kernel_rfl) ?_)
  refine (bore_any (⟨1, 1, 2000, 20000, 2000 + 7000, 1500, 20000, 5000⟩ : Tl) 0 0 5000 0 3000 _ (HN.below hB) ⟨⟨by decide, by decide⟩, ⟨by decide, by decide⟩, ⟨by decide, by decide⟩, ⟨by decide, by decide⟩, ⟨by decide, by decide⟩, ⟨by decide, by decide⟩, ⟨by decide, by decide⟩, ⟨by decide, by decide⟩⟩ ⟨by decide, by decide⟩ ⟨by decide, by decide⟩).mono ?_
  rintro e w10 ⟨v2, rfl, hr2, hb⟩
  rw [show boreErr (⟨1, 1, 2000, 20000, 2000 + 7000, 1500, 20000, 5000⟩ : Tl) 0 0 5000 0 3000 = 16 from by decide]
  clear hr2
  refine ⟨_, rfl, ?_⟩
  clear hs a; intro a hs
  replace B1 := B1.below hb B1.lt
  replace B2 := B2.below hb B2.lt
  replace B3 := B3.below hb B3.lt
  replace Rp := Rp.below hb
  replace el := el.below hb
  replace hB := later hB hb
  clear hb
  refine atR_seg (m := 5) (H := []) (ts := [4, 9]) (L' := [(4, .slice (some ⟨bl, ol, none⟩) 12 cl), (9, .int .i64 16)]) (O := fun w => True) hs (by kernel_rfl) trivial ?_
  clear hs a; intro a hs
  refine atR_end (by kernel_rfl) ?_
  refine wayN_node rfl ?_
  refine at_seq (j := 43) (by kernel_rfl) ?_
  refine at_region (id := 13) (by kernel_rfl) ?_
  refine atR_seg (m := 7) (H := [(3, none, [.int .i64 2000, .int .i64 0, .int .i64 0])]) (ts := [9, 67]) (L' := [(9, .int .i64 16), (67, .bool (((2000 : Int) == (2000 : Int)) && (((0 : Int) == (0 : Int)) && (((0 : Int) == (0 : Int)) && true))))]) (O := fun w => ((0 : Int) ≤ 0 ∧ 0 < ((12 : Nat) : Int)) ∧ (w.cell? ⟨bl, ol + 1, none⟩ = some (.int .i64 2000)) ∧ (w.cell? ⟨bl, ol + 2, none⟩ = some (.int .i64 0)) ∧ (w.cell? ⟨bl, ol + 3, none⟩ = some (.int .i64 0)) ∧ True) hs (by kernel_rfl) ⟨⟨by omega, by omega⟩, el.at_ 1 rfl, el.at_ 2 rfl, el.at_ 3 rfl, trivial⟩ ?_
  clear hs a; intro a hs
  replace hs := hs.know (t := 67) rfl (show ((((2000 : Int) == (2000 : Int)) && (((0 : Int) == (0 : Int)) && (((0 : Int) == (0 : Int)) && true)))) = true from by simp)
  replace hs := hs.pick (ts := [9, 67]) (L' := [(9, .int .i64 16), (67, .bool true)]) (by kernel_rfl)
  refine atR_seg (m := 4) (H := []) (ts := [0]) (L' := [(0, .bool true)]) (O := fun w => True) hs (by kernel_rfl) trivial ?_
  clear hs a; intro a hs
  refine atR_end (by kernel_rfl) ?_
  refine wayN_node rfl ?_
  refine at_ret (by kernel_rfl) ?_
  refine at_end (vs := [.bool true]) (H := []) (v := .bool true) (O := fun w => True) hs (by kernel_rfl) rfl trivial ?_
  exact ⟨rfl, hB⟩
end Go.Proofs.YtpiabmjipgfjjaaDoor
