/- Moves; the reference's Same. -/
import Derived.Test.YtpiabmjipgfjjaaDoorEng5
import Derived.Test.YtpiabmjipgfjjaaDoorBore
namespace Go.Proofs.YtpiabmjipgfjjaaDoor
open Go.RowKit
structure Mv where
  (k x y z cx cy r : Int)
def Mv.cs (m : Mv) : List Value := [.int .i64 m.k, .int .i64 m.x, .int .i64 m.y, .int .i64 m.z, .int .i64 m.cx, .int .i64 m.cy, .int .i64 m.r]
noncomputable def body14 : Code := Tryd.f14.body.getD .skip
set_option maxHeartbeats 1000000 in
theorem same_same (v1 v2 : Value) (n : Nat) (ms : List Mv) (w : World) (hl : ms.length = n) (h1 : Rd w 7 v1 n (ms.flatMap Mv.cs)) (h2 : Rd w 7 v2 n (ms.flatMap Mv.cs)) :
    Calls Tryd.prog 14 #[v1, v2] w fun e w' => e = .returned (.bool true) ∧ Below w.heap.size w w' := by
  have R1 := RdU.of_rd h1
  have R2 := RdU.of_rd h2
  obtain ⟨A1, c1, rfl, hn⟩ := R1.form
  obtain ⟨A2, c2, rfl, _⟩ := R2.form
  have hB : Below w.heap.size w w := Below.refl _ _
  refine enter (B := body14) (args := [.slice A1 n c1, .slice A2 n c2]) Tryd.func14 (by kernel_rfl) (by kernel_rfl) ?_
  rw [show Tryd.f14.ntmps = 26 from by kernel_rfl]
  intro a hs
  replace hs := hs.pick (ts := [0, 1]) (L' := [(0, .slice A1 n c1), (1, .slice A2 n c2)]) (by kernel_rfl)
  refine at_seq (j := 2) (by kernel_rfl) ?_
  refine at_region (id := 0) (by kernel_rfl) ?_
  refine atR_seg (m := 1) (H := []) (ts := [0, 1]) (L' := [(0, .slice A1 n c1), (1, .slice A2 n c2)]) (O := fun w => True) hs (by kernel_rfl) trivial ?_
  clear hs a; intro a hs
  refine atR_end (by kernel_rfl) ?_
  refine wayN_node rfl ?_
  refine at_seq (j := 10) (by kernel_rfl) ?_
  refine at_seq (j := 5) (by kernel_rfl) ?_
  refine at_region (id := 1) (by kernel_rfl) ?_
  refine atR_seg (m := 5) (H := []) (ts := [0, 1, 10]) (L' := [(0, .slice A1 n c1), (1, .slice A2 n c2), (10, .bool ((n : Int) != (n : Int)))]) (O := fun w => True) hs (by kernel_rfl) trivial ?_
  clear hs a; intro a hs
  refine atR_end (by kernel_rfl) ?_
  refine wayN_node rfl ?_
  refine at_cond (t := 10) (j1 := 6) (j2 := 9) (b := (n : Int) != (n : Int)) (by kernel_rfl) hs rfl (fun hb => absurd (hb.symm.trans (show ((n : Int) != (n : Int)) = false from bne_self_eq_false _)) (by decide)) (fun _ => ?_)
  refine at_skip (by kernel_rfl) ?_
  refine wayN_node rfl ?_
  refine at_seq (j := 31) (by kernel_rfl) ?_
  refine at_seq (j := 13) (by kernel_rfl) ?_
  refine at_region (id := 3) (by kernel_rfl) ?_
  refine atR_seg (m := 1) (H := []) (ts := [0, 1, 5]) (L' := [(0, .slice A1 n c1), (1, .slice A2 n c2), (5, .int .i64 0)]) (O := fun w => True) hs (by kernel_rfl) trivial ?_
  clear hs a; intro a hs
  refine atR_end (by kernel_rfl) ?_
  refine wayN_node rfl ?_
  refine at_block (id := 0) (by kernel_rfl) ?_
  refine at_loop1 (fun (k : Nat) a' W => St 26 [(0, .slice A1 n c1), (1, .slice A2 n c2), (5, .int .i64 (k : Int))] a' ∧ Below w.heap.size w W ∧ (k ≤ n)) (fun k => n - k) 0 (by kernel_rfl) ⟨hs.sub ⟨⟨_, rfl, rfl⟩, ⟨_, rfl, rfl⟩, ⟨_, rfl, (by first | rfl | (push_cast; rfl) | (congr 1; omega))⟩, trivial⟩, hB, Nat.zero_le _⟩ ?_
  clear hs a hB
  intro k a wr1 hI
  obtain ⟨hs, hB, hk⟩ := hI
  refine at_seq (j := 21) (by kernel_rfl) ?_
  refine at_seq (j := 18) (by kernel_rfl) ?_
  refine at_region (id := 4) (by kernel_rfl) ?_
  refine atR_seg (m := 4) (H := []) (ts := [0, 1, 5, 14]) (L' := [(0, .slice A1 n c1), (1, .slice A2 n c2), (5, .int .i64 (k : Int)), (14, .bool (decide ((k : Int) < (n : Int))))]) (O := fun w => True) hs (by kernel_rfl) trivial ?_
  clear hs a; intro a hs
  refine atR_end (by kernel_rfl) ?_
  refine wayN_node rfl ?_
  refine at_cond (t := 14) (j1 := 19) (j2 := 20) (b := decide ((k : Int) < (n : Int))) (by kernel_rfl) hs rfl (fun hb => ?_) (fun hb => ?_)
  · have cd1 := hb; have cd1b := hb; clear hb
    replace cd1 := of_decide_eq_true cd1
    have hkn : k < n := by omega
    refine at_skip (by kernel_rfl) ?_
    refine wayN_node rfl ?_
    refine at_seq (j := 30) (by kernel_rfl) ?_
    refine at_block (id := 1) (by kernel_rfl) ?_
    refine at_seq (j := 25) (by kernel_rfl) ?_
    obtain ⟨p1, o1, m, hA1, hm1, e1⟩ := (R1.below hB).elem (f := Mv.cs) (fun _ => rfl) hl hkn
    obtain ⟨p2, o2, m', hA2, hm2, e2⟩ := (R2.below hB).elem (f := Mv.cs) (fun _ => rfl) hl hkn
    obtain rfl : m = m' := by rw [hm1] at hm2; injection hm2
    subst hA1 hA2
    refine at_draw (fun W => Ce w.heap.size W p1 (o1 + k * 7) [.int .i64 m.k, .int .i64 m.x, .int .i64 m.y, .int .i64 m.z, .int .i64 m.cx, .int .i64 m.cy, .int .i64 m.r] ∧ Ce w.heap.size W p2 (o2 + k * 7) [.int .i64 m.k, .int .i64 m.x, .int .i64 m.y, .int .i64 m.z, .int .i64 m.cx, .int .i64 m.cy, .int .i64 m.r] ∧ True) (id := 6) (by kernel_rfl) (by kernel_rfl) 9 (by kernel_rfl) ?_
    intro w2 hb
    replace e1 := e1.below hb
    replace e2 := e2.below hb
    replace hB := later hB hb
    clear hb
    refine atD_seg (m := 0) [0, 1, 2, 3, 4, 5, 6, 7, 8] [] [(2, some (.pointer (some ⟨p1, o1 + k * 7, none⟩)), []), (3, none, [.int .i64 m.k, .int .i64 m.x, .int .i64 m.y, .int .i64 m.z, .int .i64 m.cx, .int .i64 m.cy, .int .i64 m.r]), (6, some (.pointer (some ⟨p2, o2 + k * 7, none⟩)), []), (7, none, [.int .i64 m.k, .int .i64 m.x, .int .i64 m.y, .int .i64 m.z, .int .i64 m.cx, .int .i64 m.cy, .int .i64 m.r])] [0, 1, 5, 25] [(0, .slice (some ⟨p1, o1, none⟩) n c1), (1, .slice (some ⟨p2, o2, none⟩) n c2), (5, .int .i64 (k : Int)), (25, .bool (!((((m.k : Int) == (m.k : Int)) && ((((m.x : Int) == (m.x : Int)) && (((m.y : Int) == (m.y : Int)) && (((m.z : Int) == (m.z : Int)) && true))) && ((((m.cx : Int) == (m.cx : Int)) && (((m.cy : Int) == (m.cy : Int)) && true)) && (((m.r : Int) == (m.r : Int)) && true)))))))] (fun w => (.pointer (some ⟨p1, o1 + ((k : Int)).toNat * 7, none⟩) = Value.pointer (some ⟨p1, o1 + k * 7, none⟩)) ∧ ((0 : Int) ≤ (k : Int) ∧ (k : Int) < ((n : Nat) : Int)) ∧ (w.cell? ⟨p1, o1 + k * 7, none⟩ = some (.int .i64 m.k)) ∧ (w.cell? ⟨p1, o1 + k * 7 + 1, none⟩ = some (.int .i64 m.x)) ∧ (w.cell? ⟨p1, o1 + k * 7 + 2, none⟩ = some (.int .i64 m.y)) ∧ (w.cell? ⟨p1, o1 + k * 7 + 3, none⟩ = some (.int .i64 m.z)) ∧ (w.cell? ⟨p1, o1 + k * 7 + 4, none⟩ = some (.int .i64 m.cx)) ∧ (w.cell? ⟨p1, o1 + k * 7 + 5, none⟩ = some (.int .i64 m.cy)) ∧ (w.cell? ⟨p1, o1 + k * 7 + 6, none⟩ = some (.int .i64 m.r)) ∧ (.pointer (some ⟨p2, o2 + ((k : Int)).toNat * 7, none⟩) = Value.pointer (some ⟨p2, o2 + k * 7, none⟩)) ∧ ((0 : Int) ≤ (k : Int) ∧ (k : Int) < ((n : Nat) : Int)) ∧ (w.cell? ⟨p2, o2 + k * 7, none⟩ = some (.int .i64 m.k)) ∧ (w.cell? ⟨p2, o2 + k * 7 + 1, none⟩ = some (.int .i64 m.x)) ∧ (w.cell? ⟨p2, o2 + k * 7 + 2, none⟩ = some (.int .i64 m.y)) ∧ (w.cell? ⟨p2, o2 + k * 7 + 3, none⟩ = some (.int .i64 m.z)) ∧ (w.cell? ⟨p2, o2 + k * 7 + 4, none⟩ = some (.int .i64 m.cx)) ∧ (w.cell? ⟨p2, o2 + k * 7 + 5, none⟩ = some (.int .i64 m.cy)) ∧ (w.cell? ⟨p2, o2 + k * 7 + 6, none⟩ = some (.int .i64 m.r)) ∧ True) hs ⟨e1, e2, trivial⟩ (by kernel_rfl) (by kernel_rfl) (fun w ⟨e1, e2, _⟩ => ⟨by simp [Int.toNat_natCast], ⟨by omega, by omega⟩, e1.at0 rfl, e1.at_ 1 rfl, e1.at_ 2 rfl, e1.at_ 3 rfl, e1.at_ 4 rfl, e1.at_ 5 rfl, e1.at_ 6 rfl, by simp [Int.toNat_natCast], ⟨by omega, by omega⟩, e2.at0 rfl, e2.at_ 1 rfl, e2.at_ 2 rfl, e2.at_ 3 rfl, e2.at_ 4 rfl, e2.at_ 5 rfl, e2.at_ 6 rfl, trivial⟩) ?_
    clear hs a; intro a hs
    refine atD_done (by kernel_rfl) ?_
    refine wayN_node rfl ?_
    refine at_cond (t := 25) (j1 := 26) (j2 := 29) (b := !((((m.k : Int) == (m.k : Int)) && ((((m.x : Int) == (m.x : Int)) && (((m.y : Int) == (m.y : Int)) && (((m.z : Int) == (m.z : Int)) && true))) && ((((m.cx : Int) == (m.cx : Int)) && (((m.cy : Int) == (m.cy : Int)) && true)) && (((m.r : Int) == (m.r : Int)) && true)))))) (by kernel_rfl) hs rfl (fun hb => absurd (hb.symm.trans (show (!((((m.k : Int) == (m.k : Int)) && ((((m.x : Int) == (m.x : Int)) && (((m.y : Int) == (m.y : Int)) && (((m.z : Int) == (m.z : Int)) && true))) && ((((m.cx : Int) == (m.cx : Int)) && (((m.cy : Int) == (m.cy : Int)) && true)) && (((m.r : Int) == (m.r : Int)) && true)))))) = false from by simp)) (by decide)) (fun _ => ?_)
    refine at_skip (by kernel_rfl) ?_
    refine wayN_node rfl ?_
    refine at_region (id := 5) (by kernel_rfl) ?_
    refine atR_seg (m := 3) (H := [(1, some (.int .i64 ((k : Int) + 1)), [])]) (ts := [0, 1, 5]) (L' := [(0, .slice (some ⟨p1, o1, none⟩) n c1), (1, .slice (some ⟨p2, o2, none⟩) n c2), (5, .int .i64 ((k : Int) + 1))]) (O := fun w => (W .i64 ((k : Int) + 1)) ∧ True) hs (by kernel_rfl) ⟨w64 (by omega) (by omega), trivial⟩ ?_
    clear hs a; intro a hs
    refine atR_end (by kernel_rfl) ?_
    refine wayN_back ?_
    dsimp only [lpOf]
    exact ⟨k + 1, ⟨hs.sub ⟨⟨_, rfl, (by first | rfl | (push_cast; rfl) | (congr 1; omega))⟩, ⟨_, rfl, (by first | rfl | (push_cast; rfl) | (congr 1; omega))⟩, ⟨_, rfl, (by first | rfl | (push_cast; rfl) | (congr 1; omega))⟩, trivial⟩, hB, by omega⟩, by omega⟩
  · have cd1 := hb; have cd1b := hb; clear hb
    replace cd1 := of_decide_eq_false cd1
    refine at_exit (id := 0) (by kernel_rfl) (wayE_ok rfl ?_)
    refine wayN_node rfl ?_
    refine at_seq (j := 33) (by kernel_rfl) ?_
    refine at_region (id := 8) (by kernel_rfl) ?_
    refine atR_seg (m := 1) (H := []) (ts := [4]) (L' := [(4, .bool true)]) (O := fun w => True) hs (by kernel_rfl) trivial ?_
    clear hs a; intro a hs
    refine atR_end (by kernel_rfl) ?_
    refine wayN_node rfl ?_
    refine at_ret (by kernel_rfl) ?_
    refine at_end (vs := [.bool true]) (H := []) (v := .bool true) (O := fun w => True) hs (by kernel_rfl) rfl trivial ?_
    exact ⟨rfl, hB⟩
-- decide ((k : Int) < (n : Int))
end Go.Proofs.YtpiabmjipgfjjaaDoor
