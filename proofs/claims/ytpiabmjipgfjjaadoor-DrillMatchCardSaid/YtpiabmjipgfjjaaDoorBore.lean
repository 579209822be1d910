/- drill.Bore where all is well. -/
import Derived.Test.YtpiabmjipgfjjaaDoorEng4
import Derived.Test.YtpiabmjipgfjjaaDoorBoreSmall
import Derived.Test.YtpiabmjipgfjjaaDoorToolValid
namespace Go.Proofs.YtpiabmjipgfjjaaDoor
open Go.RowKit
def mvc (k x y z cx cy r : Int) : List Value := [.int .i64 k, .int .i64 x, .int .i64 y, .int .i64 z, .int .i64 cx, .int .i64 cy, .int .i64 r]
/-- The depth behind q quarter turns of 4 n. -/
def zat (depth n : Int) (q : Int) : Int := -((q * depth + 4 * n - 1) / (4 * n))
def qx (x c : Int) (r : Nat) : Int := if r = 0 then x + c else if r = 2 then x - c else x
def qy (y c : Int) (r : Nat) : Int := if r = 1 then y + c else if r = 3 then y - c else y
def arcC (x y c depth n fd : Int) (i : Nat) : List Value := mvc 4 (qx x c ((i + 1) % 4)) (qy y c ((i + 1) % 4)) (zat depth n ((i : Int) + 1)) x y fd
def arcs (x y c depth n fd : Int) (k : Nat) : List Value := (List.range k).flatMap (arcC x y c depth n fd)
theorem arcs_succ (x y c depth n fd : Int) (k : Nat) : arcs x y c depth n fd (k + 1) = arcs x y c depth n fd k ++ arcC x y c depth n fd k := by simp [arcs, List.range_succ]
theorem zat_bd (depth n k : Int) (h1 : 1 ≤ depth) (h2 : depth ≤ 10000000) (hn : 1 ≤ n) (h3 : 0 ≤ k) (h4 : k + 1 ≤ 4 * n) (h5 : 4 * n ≤ 20000) :
    0 ≤ (k + 1) * depth ∧ (k + 1) * depth ≤ 200000000000 ∧ 0 ≤ ((k + 1) * depth + 4 * n - 1) / (4 * n) ∧ ((k + 1) * depth + 4 * n - 1) / (4 * n) ≤ depth := by
  have a1 : 0 ≤ (k + 1) * depth := Int.mul_nonneg (by omega) (by omega)
  have a2 : (k + 1) * depth ≤ (4 * n) * depth := Int.mul_le_mul_of_nonneg_right h4 (by omega)
  have a3 : (4 * n) * depth ≤ 20000 * depth := Int.mul_le_mul_of_nonneg_right h5 (by omega)
  refine ⟨a1, by omega, Int.ediv_nonneg (by omega) (by omega), ?_⟩
  have : ((k + 1) * depth + 4 * n - 1) / (4 * n) < depth + 1 := by
    apply Int.ediv_lt_of_lt_mul (by omega)
    have e : (depth + 1) * (4 * n) = 4 * n * depth + 4 * n := by rw [Int.add_mul, Int.one_mul, Int.mul_comm depth]
    omega
  omega
def boreC (x y c depth n top fd plu : Int) : List Value :=
  mvc 2 (x + c) y 0 0 0 plu ++ arcs x y c depth n fd (4 * n).toNat ++ mvc 4 (x + c) y (-depth) x y fd ++ mvc 2 x y (-depth) 0 0 fd ++ mvc 1 x y top 0 0 0
theorem arcC_case (x y c depth n fd : Int) (k : Nat) (r : Nat) (hr : (k + 1) % 4 = r) : arcC x y c depth n fd k = mvc 4 (qx x c r) (qy y c r) (-((((k : Int) + 1) * depth + 4 * n - 1) / (4 * n))) x y fd := by
  unfold arcC zat; rw [hr]
theorem tmod4 (k r : Nat) (hr : (k + 1) % 4 = r) : Value.int .i64 (((k : Int) + 1).tmod 4) = .int .i64 (r : Int) := by
  rw [Int.tmod_eq_emod_of_nonneg (by omega)]; congr 1; omega
theorem elem34 : Elem Tryd.prog 34 48 7 56 := Elem.mk_ (z := .agg #[.int .i64 0, .int .i64 0, .int .i64 0, .int .i64 0, .int .i64 0, .int .i64 0, .int .i64 0]) Tryd.underlying34 (by decide) (by kernel_rfl) rfl
noncomputable def body12 : Code := Tryd.f12.body.getD .skip
set_option maxHeartbeats 4000000 in
theorem bore_ok (x y radius top depth num kind rad flu hol stp fd plu : Int) (n : Nat) (w : World) (HN : Nms w) (HK : (⟨num, kind, rad, flu, hol, stp, fd, plu⟩ : Tl).ok) (hvt : (if (⟨num, kind, rad, flu, hol, stp, fd, plu⟩ : Tl).good then (0 : Int) else 1) = 0) (hk : (kind != 1) = false) (h1 : 0 ≤ top) (h2 : 1 ≤ radius) (h3 : 1 ≤ depth) (h4 : depth ≤ flu)
    (g1 : 1 ≤ rad) (g2 : rad ≤ 10000000) (g3 : 1 ≤ stp) (g4 : stp ≤ 10000000) (g5 : flu ≤ 10000000) (hm1 : rad < radius) (hm2 : radius - rad ≤ rad) (HM : (⟨num, kind, rad, flu, hol, stp, fd, plu⟩ : Tl).mills radius = true) (hx : insB x = true) (hy : insB y = true) (htp : insB top = true) (hdp : insB depth = true)
    (g6 : -10000000 ≤ x) (g7 : x ≤ 10000000) (g8 : -10000000 ≤ y) (g9 : y ≤ 10000000)
    (hx1 : insB (x + (radius - rad)) = true) (hx2 : insB (x - (radius - rad)) = true) (hy1 : insB (y + (radius - rad)) = true) (hy2 : insB (y - (radius - rad)) = true) (hnn : (depth + stp - 1) / stp = n) (hn1 : 1 ≤ (n : Int)) (hn4 : 4 * (n : Int) + 4 ≤ 20000) :
    Calls Tryd.prog 12 #[.agg #[.int .i64 x, .int .i64 y], .int .i64 radius, .int .i64 top, .int .i64 depth, (⟨num, kind, rad, flu, hol, stp, fd, plu⟩ : Tl).v] w fun e w' => ∃ v, e = .returned (.tuple #[v, .int .i64 0]) ∧ Rd w' 7 v (4 * n + 4) (boreC x y (radius - rad) depth n top fd plu) ∧ Below w.heap.size w w' := by
  have hB : Below w.heap.size w w := Below.refl _ _
  refine enter (B := body12) (args := [.agg #[.int .i64 x, .int .i64 y], .int .i64 radius, .int .i64 top, .int .i64 depth, .agg #[.int .i64 num, .int .i64 kind, .int .i64 rad, .int .i64 flu, .int .i64 hol, .int .i64 stp, .int .i64 fd, .int .i64 plu]]) Tryd.func12 (by kernel_rfl) (by kernel_rfl) ?_
  rw [show Tryd.f12.ntmps = 215 from by kernel_rfl]
  intro a hs
  replace hs := hs.pick (ts := [0, 1, 2, 3, 4]) (L' := [(0, .agg #[.int .i64 x, .int .i64 y]), (1, .int .i64 radius), (2, .int .i64 top), (3, .int .i64 depth), (4, .agg #[.int .i64 num, .int .i64 kind, .int .i64 rad, .int .i64 flu, .int .i64 hol, .int .i64 stp, .int .i64 fd, .int .i64 plu])]) (by kernel_rfl)
  refine at_seq (j := 2) (by kernel_rfl) ?_
  refine at_region (id := 0) (by kernel_rfl) ?_
  refine atR_op hs (by kernel_rfl) (new1 (t := 30) (cs := #[.int .i64 x, .int .i64 y]) (fun rb_ => .pointer (some ⟨rb_, 0, none⟩)) [1, 2, 3, 4, 5] (fun rb_ => [(1, .int .i64 radius), (2, .int .i64 top), (3, .int .i64 depth), (4, .agg #[.int .i64 num, .int .i64 kind, .int .i64 rad, .int .i64 flu, .int .i64 hol, .int .i64 stp, .int .i64 fd, .int .i64 plu]), (5, .pointer (some ⟨rb_, 0, none⟩))]) hs (fun _ => by kernel_rfl) (fun _ => by kernel_rfl) ?_)
  clear hs a; intro a w1 b1 hn hs
  have B1 := hn.blk
  have l1 : w.heap.size ≤ b1 := by rw [hn.at_]; exact hB.size
  replace hB := later hB hn.below
  clear hn
  refine atR_op hs (by kernel_rfl) (new1 (t := 33) (cs := #[.int .i64 num, .int .i64 kind, .int .i64 rad, .int .i64 flu, .int .i64 hol, .int .i64 stp, .int .i64 fd, .int .i64 plu]) (fun rb_ => .pointer (some ⟨rb_, 0, none⟩)) [1, 2, 3, 5, 9] (fun rb_ => [(1, .int .i64 radius), (2, .int .i64 top), (3, .int .i64 depth), (5, .pointer (some ⟨b1, 0, none⟩)), (9, .pointer (some ⟨rb_, 0, none⟩))]) hs (fun _ => by kernel_rfl) (fun _ => by kernel_rfl) ?_)
  clear hs a; intro a w2 b2 hn hs
  have B2 := hn.blk
  have l2 : w.heap.size ≤ b2 := by rw [hn.at_]; exact hB.size
  have l2' : b1 < b2 := by rw [hn.at_]; exact B1.lt
  replace B1 := B1.below hn.below B1.lt
  replace hB := later hB hn.below
  clear hn
  refine atR_seg (m := 2) (H := []) (ts := [1, 2, 3, 5, 9]) (L' := [(1, .int .i64 radius), (2, .int .i64 top), (3, .int .i64 depth), (5, .pointer (some ⟨b1, 0, none⟩)), (9, .pointer (some ⟨b2, 0, none⟩))]) (O := fun w => True) hs (by kernel_rfl) trivial ?_
  clear hs a; intro a hs
  refine atR_end (by kernel_rfl) ?_
  refine wayN_node rfl ?_
  refine at_seq (j := 23) (by kernel_rfl) ?_
  refine at_block (id := 0) (by kernel_rfl) ?_
  refine at_seq (j := 6) (by kernel_rfl) ?_
  refine at_region (id := 1) (by kernel_rfl) ?_
  refine atR_seg (m := 1) (H := [(0, none, [.int .i64 num, .int .i64 kind, .int .i64 rad, .int .i64 flu, .int .i64 hol, .int .i64 stp, .int .i64 fd, .int .i64 plu])]) (ts := [1, 2, 3, 5, 9, 20]) (L' := [(1, .int .i64 radius), (2, .int .i64 top), (3, .int .i64 depth), (5, .pointer (some ⟨b1, 0, none⟩)), (9, .pointer (some ⟨b2, 0, none⟩)), (20, .agg #[.int .i64 num, .int .i64 kind, .int .i64 rad, .int .i64 flu, .int .i64 hol, .int .i64 stp, .int .i64 fd, .int .i64 plu])]) (O := fun w => (w.cell? ⟨b2, 0, none⟩ = some (.int .i64 num)) ∧ (w.cell? ⟨b2, 1, none⟩ = some (.int .i64 kind)) ∧ (w.cell? ⟨b2, 2, none⟩ = some (.int .i64 rad)) ∧ (w.cell? ⟨b2, 3, none⟩ = some (.int .i64 flu)) ∧ (w.cell? ⟨b2, 4, none⟩ = some (.int .i64 hol)) ∧ (w.cell? ⟨b2, 5, none⟩ = some (.int .i64 stp)) ∧ (w.cell? ⟨b2, 6, none⟩ = some (.int .i64 fd)) ∧ (w.cell? ⟨b2, 7, none⟩ = some (.int .i64 plu)) ∧ True) hs (by kernel_rfl) ⟨B2.cell 0 rfl, B2.cell 1 rfl, B2.cell 2 rfl, B2.cell 3 rfl, B2.cell 4 rfl, B2.cell 5 rfl, B2.cell 6 rfl, B2.cell 7 rfl, trivial⟩ ?_
  clear hs a; intro a hs
  refine atR_op hs (by kernel_rfl) (call1 (f := 25) (args := #[.agg #[.int .i64 num, .int .i64 kind, .int .i64 rad, .int .i64 flu, .int .i64 hol, .int .i64 stp, .int .i64 fd, .int .i64 plu]]) [1, 2, 3, 5, 9, 21] (fun rv_ => [(1, .int .i64 radius), (2, .int .i64 top), (3, .int .i64 depth), (5, .pointer (some ⟨b1, 0, none⟩)), (9, .pointer (some ⟨b2, 0, none⟩)), (21, rv_)]) hs (by kernel_rfl) (fun _ => by kernel_rfl) ?_)
  refine (valid_any (⟨num, kind, rad, flu, hol, stp, fd, plu⟩ : Tl) _ (HN.below hB) HK).mono ?_
  rintro e w3 ⟨rfl, hb⟩
  rw [hvt]
  refine ⟨_, rfl, ?_⟩
  clear hs a; intro a hs
  replace B1 := B1.below hb B1.lt
  replace B2 := B2.below hb B2.lt
  replace hB := later hB hb
  clear hb
  refine atR_seg (m := 7) (H := [(5, none, [.int .i64 kind])]) (ts := [1, 2, 3, 5, 9, 28]) (L' := [(1, .int .i64 radius), (2, .int .i64 top), (3, .int .i64 depth), (5, .pointer (some ⟨b1, 0, none⟩)), (9, .pointer (some ⟨b2, 0, none⟩)), (28, .bool (kind != 1))]) (O := fun w => (w.cell? ⟨b2, 1, none⟩ = some (.int .i64 kind)) ∧ True) hs (by kernel_rfl) ⟨B2.cell 1 rfl, trivial⟩ ?_
  clear hs a; intro a hs
  replace hs := hs.know (t := 28) rfl (show (kind != 1) = false from hk)
  replace hs := hs.pick (ts := [1, 2, 3, 5, 9, 28]) (L' := [(1, .int .i64 radius), (2, .int .i64 top), (3, .int .i64 depth), (5, .pointer (some ⟨b1, 0, none⟩)), (9, .pointer (some ⟨b2, 0, none⟩)), (28, .bool false)]) (by kernel_rfl)
  refine atR_seg (m := 4) (H := []) (ts := [1, 2, 3, 5, 9, 32]) (L' := [(1, .int .i64 radius), (2, .int .i64 top), (3, .int .i64 depth), (5, .pointer (some ⟨b1, 0, none⟩)), (9, .pointer (some ⟨b2, 0, none⟩)), (32, .bool (decide (top < 0)))]) (O := fun w => True) hs (by kernel_rfl) trivial ?_
  clear hs a; intro a hs
  replace hs := hs.know (t := 32) rfl (show (decide (top < 0)) = false from decide_eq_false (by omega))
  replace hs := hs.pick (ts := [1, 2, 3, 5, 9, 32]) (L' := [(1, .int .i64 radius), (2, .int .i64 top), (3, .int .i64 depth), (5, .pointer (some ⟨b1, 0, none⟩)), (9, .pointer (some ⟨b2, 0, none⟩)), (32, .bool false)]) (by kernel_rfl)
  refine atR_seg (m := 4) (H := []) (ts := [1, 2, 3, 5, 9, 36]) (L' := [(1, .int .i64 radius), (2, .int .i64 top), (3, .int .i64 depth), (5, .pointer (some ⟨b1, 0, none⟩)), (9, .pointer (some ⟨b2, 0, none⟩)), (36, .bool (decide (radius < 1)))]) (O := fun w => True) hs (by kernel_rfl) trivial ?_
  clear hs a; intro a hs
  replace hs := hs.know (t := 36) rfl (show (decide (radius < 1)) = false from decide_eq_false (by omega))
  replace hs := hs.pick (ts := [1, 2, 3, 5, 9, 36]) (L' := [(1, .int .i64 radius), (2, .int .i64 top), (3, .int .i64 depth), (5, .pointer (some ⟨b1, 0, none⟩)), (9, .pointer (some ⟨b2, 0, none⟩)), (36, .bool false)]) (by kernel_rfl)
  refine atR_seg (m := 4) (H := []) (ts := [1, 2, 3, 5, 9, 19]) (L' := [(1, .int .i64 radius), (2, .int .i64 top), (3, .int .i64 depth), (5, .pointer (some ⟨b1, 0, none⟩)), (9, .pointer (some ⟨b2, 0, none⟩)), (19, .bool (decide (depth < 1)))]) (O := fun w => True) hs (by kernel_rfl) trivial ?_
  clear hs a; intro a hs
  refine atR_end (by kernel_rfl) ?_
  refine wayN_node rfl ?_
  refine at_cond (t := 19) (j1 := 7) (j2 := 10) (b := decide (depth < 1)) (by kernel_rfl) hs rfl (fun hb => absurd (hb.symm.trans (show (decide (depth < 1)) = false from decide_eq_false (by omega))) (by decide)) (fun _ => ?_)
  refine at_seq (j := 12) (by kernel_rfl) ?_
  refine at_region (id := 3) (by kernel_rfl) ?_
  refine atR_seg (m := 5) (H := [(1, none, [.int .i64 flu])]) (ts := [1, 2, 3, 5, 9, 45]) (L' := [(1, .int .i64 radius), (2, .int .i64 top), (3, .int .i64 depth), (5, .pointer (some ⟨b1, 0, none⟩)), (9, .pointer (some ⟨b2, 0, none⟩)), (45, .bool (decide (flu < depth)))]) (O := fun w => (w.cell? ⟨b2, 3, none⟩ = some (.int .i64 flu)) ∧ True) hs (by kernel_rfl) ⟨B2.cell 3 rfl, trivial⟩ ?_
  clear hs a; intro a hs
  replace hs := hs.know (t := 45) rfl (show (decide (flu < depth)) = false from decide_eq_false (by omega))
  replace hs := hs.pick (ts := [1, 2, 3, 5, 9, 45]) (L' := [(1, .int .i64 radius), (2, .int .i64 top), (3, .int .i64 depth), (5, .pointer (some ⟨b1, 0, none⟩)), (9, .pointer (some ⟨b2, 0, none⟩)), (45, .bool false)]) (by kernel_rfl)
  refine atR_seg (m := 2) (H := [(5, none, [.int .i64 num, .int .i64 kind, .int .i64 rad, .int .i64 flu, .int .i64 hol, .int .i64 stp, .int .i64 fd, .int .i64 plu])]) (ts := [1, 2, 3, 5, 9, 45, 46, 47]) (L' := [(1, .int .i64 radius), (2, .int .i64 top), (3, .int .i64 depth), (5, .pointer (some ⟨b1, 0, none⟩)), (9, .pointer (some ⟨b2, 0, none⟩)), (45, .bool false), (46, .agg #[.int .i64 num, .int .i64 kind, .int .i64 rad, .int .i64 flu, .int .i64 hol, .int .i64 stp, .int .i64 fd, .int .i64 plu]), (47, .int .i64 radius)]) (O := fun w => (w.cell? ⟨b2, 0, none⟩ = some (.int .i64 num)) ∧ (w.cell? ⟨b2, 1, none⟩ = some (.int .i64 kind)) ∧ (w.cell? ⟨b2, 2, none⟩ = some (.int .i64 rad)) ∧ (w.cell? ⟨b2, 3, none⟩ = some (.int .i64 flu)) ∧ (w.cell? ⟨b2, 4, none⟩ = some (.int .i64 hol)) ∧ (w.cell? ⟨b2, 5, none⟩ = some (.int .i64 stp)) ∧ (w.cell? ⟨b2, 6, none⟩ = some (.int .i64 fd)) ∧ (w.cell? ⟨b2, 7, none⟩ = some (.int .i64 plu)) ∧ True) hs (by kernel_rfl) ⟨B2.cell 0 rfl, B2.cell 1 rfl, B2.cell 2 rfl, B2.cell 3 rfl, B2.cell 4 rfl, B2.cell 5 rfl, B2.cell 6 rfl, B2.cell 7 rfl, trivial⟩ ?_
  clear hs a; intro a hs
  refine atR_op hs (by kernel_rfl) (call1 (f := 26) (args := #[.agg #[.int .i64 num, .int .i64 kind, .int .i64 rad, .int .i64 flu, .int .i64 hol, .int .i64 stp, .int .i64 fd, .int .i64 plu], .int .i64 radius]) [1, 2, 3, 5, 9, 45, 48] (fun rv_ => [(1, .int .i64 radius), (2, .int .i64 top), (3, .int .i64 depth), (5, .pointer (some ⟨b1, 0, none⟩)), (9, .pointer (some ⟨b2, 0, none⟩)), (45, .bool false), (48, rv_)]) hs (by kernel_rfl) (fun _ => by kernel_rfl) ?_)
  refine (mills_any (⟨num, kind, rad, flu, hol, stp, fd, plu⟩ : Tl) _ _ (by dsimp only; omega) (by omega)).mono ?_
  rintro e w4 ⟨rfl, hb⟩
  rw [HM]
  refine ⟨_, rfl, ?_⟩
  clear hs a; intro a hs
  replace B1 := B1.below hb B1.lt
  replace B2 := B2.below hb B2.lt
  replace hB := later hB hb
  clear hb
  refine atR_seg (m := 3) (H := []) (ts := [1, 2, 3, 5, 9, 40]) (L' := [(1, .int .i64 radius), (2, .int .i64 top), (3, .int .i64 depth), (5, .pointer (some ⟨b1, 0, none⟩)), (9, .pointer (some ⟨b2, 0, none⟩)), (40, .bool false)]) (O := fun w => True) hs (by kernel_rfl) trivial ?_
  clear hs a; intro a hs
  refine atR_end (by kernel_rfl) ?_
  refine wayN_node rfl ?_
  refine at_cond (t := 40) (j1 := 13) (j2 := 16) (b := false) (by kernel_rfl) hs rfl (fun hb => absurd (hb.symm.trans (show (false) = false from rfl)) (by decide)) (fun _ => ?_)
  refine at_seq (j := 18) (by kernel_rfl) ?_
  refine at_region (id := 5) (by kernel_rfl) ?_
  refine atR_seg (m := 2) (H := [(1, none, [.int .i64 x])]) (ts := [1, 2, 3, 5, 9, 53]) (L' := [(1, .int .i64 radius), (2, .int .i64 top), (3, .int .i64 depth), (5, .pointer (some ⟨b1, 0, none⟩)), (9, .pointer (some ⟨b2, 0, none⟩)), (53, .int .i64 x)]) (O := fun w => (w.cell? ⟨b1, 0, none⟩ = some (.int .i64 x)) ∧ True) hs (by kernel_rfl) ⟨B1.cell 0 rfl, trivial⟩ ?_
  clear hs a; intro a hs
  refine atR_op hs (by kernel_rfl) (call1 (f := 27) (args := #[.int .i64 x]) [1, 2, 3, 5, 9, 54] (fun rv_ => [(1, .int .i64 radius), (2, .int .i64 top), (3, .int .i64 depth), (5, .pointer (some ⟨b1, 0, none⟩)), (9, .pointer (some ⟨b2, 0, none⟩)), (54, rv_)]) hs (by kernel_rfl) (fun _ => by kernel_rfl) ?_)
  refine (inside_any _ _).mono ?_
  rintro e w' ⟨rfl, rfl⟩
  refine ⟨_, rfl, ?_⟩
  clear hs a; intro a hs
  refine atR_seg (m := 2) (H := []) (ts := [1, 2, 3, 5, 9, 56]) (L' := [(1, .int .i64 radius), (2, .int .i64 top), (3, .int .i64 depth), (5, .pointer (some ⟨b1, 0, none⟩)), (9, .pointer (some ⟨b2, 0, none⟩)), (56, .bool (!(insB x)))]) (O := fun w => True) hs (by kernel_rfl) trivial ?_
  clear hs a; intro a hs
  replace hs := hs.know (t := 56) rfl (show (!(insB x)) = false from congrArg not hx)
  replace hs := hs.pick (ts := [1, 2, 3, 5, 9, 56]) (L' := [(1, .int .i64 radius), (2, .int .i64 top), (3, .int .i64 depth), (5, .pointer (some ⟨b1, 0, none⟩)), (9, .pointer (some ⟨b2, 0, none⟩)), (56, .bool false)]) (by kernel_rfl)
  refine atR_seg (m := 2) (H := [(6, none, [.int .i64 y])]) (ts := [1, 2, 3, 5, 9, 56, 58]) (L' := [(1, .int .i64 radius), (2, .int .i64 top), (3, .int .i64 depth), (5, .pointer (some ⟨b1, 0, none⟩)), (9, .pointer (some ⟨b2, 0, none⟩)), (56, .bool false), (58, .int .i64 y)]) (O := fun w => (w.cell? ⟨b1, 1, none⟩ = some (.int .i64 y)) ∧ True) hs (by kernel_rfl) ⟨B1.cell 1 rfl, trivial⟩ ?_
  clear hs a; intro a hs
  refine atR_op hs (by kernel_rfl) (call1 (f := 27) (args := #[.int .i64 y]) [1, 2, 3, 5, 9, 56, 59] (fun rv_ => [(1, .int .i64 radius), (2, .int .i64 top), (3, .int .i64 depth), (5, .pointer (some ⟨b1, 0, none⟩)), (9, .pointer (some ⟨b2, 0, none⟩)), (56, .bool false), (59, rv_)]) hs (by kernel_rfl) (fun _ => by kernel_rfl) ?_)
  refine (inside_any _ _).mono ?_
  rintro e w' ⟨rfl, rfl⟩
  refine ⟨_, rfl, ?_⟩
  clear hs a; intro a hs
  refine atR_seg (m := 3) (H := []) (ts := [1, 2, 3, 5, 9, 62]) (L' := [(1, .int .i64 radius), (2, .int .i64 top), (3, .int .i64 depth), (5, .pointer (some ⟨b1, 0, none⟩)), (9, .pointer (some ⟨b2, 0, none⟩)), (62, .bool (!(insB y)))]) (O := fun w => True) hs (by kernel_rfl) trivial ?_
  clear hs a; intro a hs
  replace hs := hs.know (t := 62) rfl (show (!(insB y)) = false from congrArg not hy)
  replace hs := hs.pick (ts := [1, 2, 3, 5, 9, 62]) (L' := [(1, .int .i64 radius), (2, .int .i64 top), (3, .int .i64 depth), (5, .pointer (some ⟨b1, 0, none⟩)), (9, .pointer (some ⟨b2, 0, none⟩)), (62, .bool false)]) (by kernel_rfl)
  refine atR_seg (m := 1) (H := []) (ts := [1, 2, 3, 5, 9, 62, 63]) (L' := [(1, .int .i64 radius), (2, .int .i64 top), (3, .int .i64 depth), (5, .pointer (some ⟨b1, 0, none⟩)), (9, .pointer (some ⟨b2, 0, none⟩)), (62, .bool false), (63, .int .i64 top)]) (O := fun w => True) hs (by kernel_rfl) trivial ?_
  clear hs a; intro a hs
  refine atR_op hs (by kernel_rfl) (call1 (f := 27) (args := #[.int .i64 top]) [1, 2, 3, 5, 9, 62, 64] (fun rv_ => [(1, .int .i64 radius), (2, .int .i64 top), (3, .int .i64 depth), (5, .pointer (some ⟨b1, 0, none⟩)), (9, .pointer (some ⟨b2, 0, none⟩)), (62, .bool false), (64, rv_)]) hs (by kernel_rfl) (fun _ => by kernel_rfl) ?_)
  refine (inside_any _ _).mono ?_
  rintro e w' ⟨rfl, rfl⟩
  refine ⟨_, rfl, ?_⟩
  clear hs a; intro a hs
  refine atR_seg (m := 3) (H := []) (ts := [1, 2, 3, 5, 9, 67]) (L' := [(1, .int .i64 radius), (2, .int .i64 top), (3, .int .i64 depth), (5, .pointer (some ⟨b1, 0, none⟩)), (9, .pointer (some ⟨b2, 0, none⟩)), (67, .bool (!(insB top)))]) (O := fun w => True) hs (by kernel_rfl) trivial ?_
  clear hs a; intro a hs
  replace hs := hs.know (t := 67) rfl (show (!(insB top)) = false from congrArg not htp)
  replace hs := hs.pick (ts := [1, 2, 3, 5, 9, 67]) (L' := [(1, .int .i64 radius), (2, .int .i64 top), (3, .int .i64 depth), (5, .pointer (some ⟨b1, 0, none⟩)), (9, .pointer (some ⟨b2, 0, none⟩)), (67, .bool false)]) (by kernel_rfl)
  refine atR_seg (m := 1) (H := []) (ts := [1, 2, 3, 5, 9, 67, 68]) (L' := [(1, .int .i64 radius), (2, .int .i64 top), (3, .int .i64 depth), (5, .pointer (some ⟨b1, 0, none⟩)), (9, .pointer (some ⟨b2, 0, none⟩)), (67, .bool false), (68, .int .i64 depth)]) (O := fun w => True) hs (by kernel_rfl) trivial ?_
  clear hs a; intro a hs
  refine atR_op hs (by kernel_rfl) (call1 (f := 27) (args := #[.int .i64 depth]) [1, 2, 3, 5, 9, 67, 69] (fun rv_ => [(1, .int .i64 radius), (2, .int .i64 top), (3, .int .i64 depth), (5, .pointer (some ⟨b1, 0, none⟩)), (9, .pointer (some ⟨b2, 0, none⟩)), (67, .bool false), (69, rv_)]) hs (by kernel_rfl) (fun _ => by kernel_rfl) ?_)
  refine (inside_any _ _).mono ?_
  rintro e w' ⟨rfl, rfl⟩
  refine ⟨_, rfl, ?_⟩
  clear hs a; intro a hs
  refine atR_seg (m := 3) (H := []) (ts := [1, 2, 3, 5, 9, 51]) (L' := [(1, .int .i64 radius), (2, .int .i64 top), (3, .int .i64 depth), (5, .pointer (some ⟨b1, 0, none⟩)), (9, .pointer (some ⟨b2, 0, none⟩)), (51, .bool (!(insB depth)))]) (O := fun w => True) hs (by kernel_rfl) trivial ?_
  clear hs a; intro a hs
  refine atR_end (by kernel_rfl) ?_
  refine wayN_node rfl ?_
  refine at_cond (t := 51) (j1 := 19) (j2 := 22) (b := !(insB depth)) (by kernel_rfl) hs rfl (fun hb => absurd (hb.symm.trans (show (!(insB depth)) = false from congrArg not hdp)) (by decide)) (fun _ => ?_)
  refine at_skip (by kernel_rfl) ?_
  refine wayN_node rfl ?_
  refine at_seq (j := 25) (by kernel_rfl) ?_
  refine at_region (id := 7) (by kernel_rfl) ?_
  refine atR_seg (m := 5) (H := [(2, none, [.int .i64 rad]), (3, some (.int .i64 (radius - rad)), [])]) (ts := [2, 3, 5, 9, 12]) (L' := [(2, .int .i64 top), (3, .int .i64 depth), (5, .pointer (some ⟨b1, 0, none⟩)), (9, .pointer (some ⟨b2, 0, none⟩)), (12, .int .i64 (radius - rad))]) (O := fun w => (w.cell? ⟨b2, 2, none⟩ = some (.int .i64 rad)) ∧ (W .i64 (radius - rad)) ∧ True) hs (by kernel_rfl) ⟨B2.cell 2 rfl, w64 (by omega) (by omega), trivial⟩ ?_
  clear hs a; intro a hs
  refine atR_end (by kernel_rfl) ?_
  refine wayN_node rfl ?_
  refine at_seq (j := 33) (by kernel_rfl) ?_
  refine at_seq (j := 28) (by kernel_rfl) ?_
  refine at_region (id := 8) (by kernel_rfl) ?_
  refine atR_seg (m := 4) (H := [(1, none, [.int .i64 x]), (3, some (.int .i64 (x + (radius - rad))), [])]) (ts := [2, 3, 5, 9, 12, 79]) (L' := [(2, .int .i64 top), (3, .int .i64 depth), (5, .pointer (some ⟨b1, 0, none⟩)), (9, .pointer (some ⟨b2, 0, none⟩)), (12, .int .i64 (radius - rad)), (79, .int .i64 (x + (radius - rad)))]) (O := fun w => (w.cell? ⟨b1, 0, none⟩ = some (.int .i64 x)) ∧ (W .i64 (x + (radius - rad))) ∧ True) hs (by kernel_rfl) ⟨B1.cell 0 rfl, w64 (by omega) (by omega), trivial⟩ ?_
  clear hs a; intro a hs
  refine atR_op hs (by kernel_rfl) (call1 (f := 27) (args := #[.int .i64 (x + (radius - rad))]) [2, 3, 5, 9, 12, 80] (fun rv_ => [(2, .int .i64 top), (3, .int .i64 depth), (5, .pointer (some ⟨b1, 0, none⟩)), (9, .pointer (some ⟨b2, 0, none⟩)), (12, .int .i64 (radius - rad)), (80, rv_)]) hs (by kernel_rfl) (fun _ => by kernel_rfl) ?_)
  refine (inside_any _ _).mono ?_
  rintro e w' ⟨rfl, rfl⟩
  refine ⟨_, rfl, ?_⟩
  clear hs a; intro a hs
  refine atR_seg (m := 2) (H := []) (ts := [2, 3, 5, 9, 12, 82]) (L' := [(2, .int .i64 top), (3, .int .i64 depth), (5, .pointer (some ⟨b1, 0, none⟩)), (9, .pointer (some ⟨b2, 0, none⟩)), (12, .int .i64 (radius - rad)), (82, .bool (!(insB (x + (radius - rad)))))]) (O := fun w => True) hs (by kernel_rfl) trivial ?_
  clear hs a; intro a hs
  replace hs := hs.know (t := 82) rfl (show (!(insB (x + (radius - rad)))) = false from congrArg not hx1)
  replace hs := hs.pick (ts := [2, 3, 5, 9, 12, 82]) (L' := [(2, .int .i64 top), (3, .int .i64 depth), (5, .pointer (some ⟨b1, 0, none⟩)), (9, .pointer (some ⟨b2, 0, none⟩)), (12, .int .i64 (radius - rad)), (82, .bool false)]) (by kernel_rfl)
  refine atR_seg (m := 4) (H := [(8, none, [.int .i64 x]), (10, some (.int .i64 (x - (radius - rad))), [])]) (ts := [2, 3, 5, 9, 12, 82, 86]) (L' := [(2, .int .i64 top), (3, .int .i64 depth), (5, .pointer (some ⟨b1, 0, none⟩)), (9, .pointer (some ⟨b2, 0, none⟩)), (12, .int .i64 (radius - rad)), (82, .bool false), (86, .int .i64 (x - (radius - rad)))]) (O := fun w => (w.cell? ⟨b1, 0, none⟩ = some (.int .i64 x)) ∧ (W .i64 (x - (radius - rad))) ∧ True) hs (by kernel_rfl) ⟨B1.cell 0 rfl, w64 (by omega) (by omega), trivial⟩ ?_
  clear hs a; intro a hs
  refine atR_op hs (by kernel_rfl) (call1 (f := 27) (args := #[.int .i64 (x - (radius - rad))]) [2, 3, 5, 9, 12, 82, 87] (fun rv_ => [(2, .int .i64 top), (3, .int .i64 depth), (5, .pointer (some ⟨b1, 0, none⟩)), (9, .pointer (some ⟨b2, 0, none⟩)), (12, .int .i64 (radius - rad)), (82, .bool false), (87, rv_)]) hs (by kernel_rfl) (fun _ => by kernel_rfl) ?_)
  refine (inside_any _ _).mono ?_
  rintro e w' ⟨rfl, rfl⟩
  refine ⟨_, rfl, ?_⟩
  clear hs a; intro a hs
  refine atR_seg (m := 3) (H := []) (ts := [2, 3, 5, 9, 12, 90]) (L' := [(2, .int .i64 top), (3, .int .i64 depth), (5, .pointer (some ⟨b1, 0, none⟩)), (9, .pointer (some ⟨b2, 0, none⟩)), (12, .int .i64 (radius - rad)), (90, .bool (!(insB (x - (radius - rad)))))]) (O := fun w => True) hs (by kernel_rfl) trivial ?_
  clear hs a; intro a hs
  replace hs := hs.know (t := 90) rfl (show (!(insB (x - (radius - rad)))) = false from congrArg not hx2)
  replace hs := hs.pick (ts := [2, 3, 5, 9, 12, 90]) (L' := [(2, .int .i64 top), (3, .int .i64 depth), (5, .pointer (some ⟨b1, 0, none⟩)), (9, .pointer (some ⟨b2, 0, none⟩)), (12, .int .i64 (radius - rad)), (90, .bool false)]) (by kernel_rfl)
  refine atR_seg (m := 4) (H := [(16, none, [.int .i64 y]), (18, some (.int .i64 (y + (radius - rad))), [])]) (ts := [2, 3, 5, 9, 12, 90, 94]) (L' := [(2, .int .i64 top), (3, .int .i64 depth), (5, .pointer (some ⟨b1, 0, none⟩)), (9, .pointer (some ⟨b2, 0, none⟩)), (12, .int .i64 (radius - rad)), (90, .bool false), (94, .int .i64 (y + (radius - rad)))]) (O := fun w => (w.cell? ⟨b1, 1, none⟩ = some (.int .i64 y)) ∧ (W .i64 (y + (radius - rad))) ∧ True) hs (by kernel_rfl) ⟨B1.cell 1 rfl, w64 (by omega) (by omega), trivial⟩ ?_
  clear hs a; intro a hs
  refine atR_op hs (by kernel_rfl) (call1 (f := 27) (args := #[.int .i64 (y + (radius - rad))]) [2, 3, 5, 9, 12, 90, 95] (fun rv_ => [(2, .int .i64 top), (3, .int .i64 depth), (5, .pointer (some ⟨b1, 0, none⟩)), (9, .pointer (some ⟨b2, 0, none⟩)), (12, .int .i64 (radius - rad)), (90, .bool false), (95, rv_)]) hs (by kernel_rfl) (fun _ => by kernel_rfl) ?_)
  refine (inside_any _ _).mono ?_
  rintro e w' ⟨rfl, rfl⟩
  refine ⟨_, rfl, ?_⟩
  clear hs a; intro a hs
  refine atR_seg (m := 3) (H := []) (ts := [2, 3, 5, 9, 12, 98]) (L' := [(2, .int .i64 top), (3, .int .i64 depth), (5, .pointer (some ⟨b1, 0, none⟩)), (9, .pointer (some ⟨b2, 0, none⟩)), (12, .int .i64 (radius - rad)), (98, .bool (!(insB (y + (radius - rad)))))]) (O := fun w => True) hs (by kernel_rfl) trivial ?_
  clear hs a; intro a hs
  replace hs := hs.know (t := 98) rfl (show (!(insB (y + (radius - rad)))) = false from congrArg not hy1)
  replace hs := hs.pick (ts := [2, 3, 5, 9, 12, 98]) (L' := [(2, .int .i64 top), (3, .int .i64 depth), (5, .pointer (some ⟨b1, 0, none⟩)), (9, .pointer (some ⟨b2, 0, none⟩)), (12, .int .i64 (radius - rad)), (98, .bool false)]) (by kernel_rfl)
  refine atR_seg (m := 4) (H := [(24, none, [.int .i64 y]), (26, some (.int .i64 (y - (radius - rad))), [])]) (ts := [2, 3, 5, 9, 12, 98, 102]) (L' := [(2, .int .i64 top), (3, .int .i64 depth), (5, .pointer (some ⟨b1, 0, none⟩)), (9, .pointer (some ⟨b2, 0, none⟩)), (12, .int .i64 (radius - rad)), (98, .bool false), (102, .int .i64 (y - (radius - rad)))]) (O := fun w => (w.cell? ⟨b1, 1, none⟩ = some (.int .i64 y)) ∧ (W .i64 (y - (radius - rad))) ∧ True) hs (by kernel_rfl) ⟨B1.cell 1 rfl, w64 (by omega) (by omega), trivial⟩ ?_
  clear hs a; intro a hs
  refine atR_op hs (by kernel_rfl) (call1 (f := 27) (args := #[.int .i64 (y - (radius - rad))]) [2, 3, 5, 9, 12, 98, 103] (fun rv_ => [(2, .int .i64 top), (3, .int .i64 depth), (5, .pointer (some ⟨b1, 0, none⟩)), (9, .pointer (some ⟨b2, 0, none⟩)), (12, .int .i64 (radius - rad)), (98, .bool false), (103, rv_)]) hs (by kernel_rfl) (fun _ => by kernel_rfl) ?_)
  refine (inside_any _ _).mono ?_
  rintro e w' ⟨rfl, rfl⟩
  refine ⟨_, rfl, ?_⟩
  clear hs a; intro a hs
  refine atR_seg (m := 2) (H := []) (ts := [2, 3, 5, 9, 12, 105]) (L' := [(2, .int .i64 top), (3, .int .i64 depth), (5, .pointer (some ⟨b1, 0, none⟩)), (9, .pointer (some ⟨b2, 0, none⟩)), (12, .int .i64 (radius - rad)), (105, .bool (!(insB (y - (radius - rad)))))]) (O := fun w => True) hs (by kernel_rfl) trivial ?_
  clear hs a; intro a hs
  refine atR_end (by kernel_rfl) ?_
  refine wayN_node rfl ?_
  refine at_cond (t := 105) (j1 := 29) (j2 := 32) (b := !(insB (y - (radius - rad)))) (by kernel_rfl) hs rfl (fun hb => absurd (hb.symm.trans (show (!(insB (y - (radius - rad)))) = false from congrArg not hy2)) (by decide)) (fun _ => ?_)
  refine at_skip (by kernel_rfl) ?_
  refine wayN_node rfl ?_
  refine at_seq (j := 35) (by kernel_rfl) ?_
  refine at_region (id := 10) (by kernel_rfl) ?_
  refine atR_seg (m := 9) (H := [(2, none, [.int .i64 stp]), (3, some (.int .i64 (depth + stp)), []), (4, some (.int .i64 (depth + stp - 1)), []), (6, none, [.int .i64 stp]), (7, some (.int .i64 (n : Int)), [])]) (ts := [2, 3, 5, 9, 12, 13]) (L' := [(2, .int .i64 top), (3, .int .i64 depth), (5, .pointer (some ⟨b1, 0, none⟩)), (9, .pointer (some ⟨b2, 0, none⟩)), (12, .int .i64 (radius - rad)), (13, .int .i64 (n : Int))]) (O := fun w => (w.cell? ⟨b2, 5, none⟩ = some (.int .i64 stp)) ∧ (W .i64 (depth + stp)) ∧ (W .i64 (depth + stp - 1)) ∧ (w.cell? ⟨b2, 5, none⟩ = some (.int .i64 stp)) ∧ (Value.int .i64 (IntKind.i64.wrap ((depth + stp - 1).tdiv stp)) = .int .i64 (n : Int)) ∧ (stp ≠ 0) ∧ True) hs (by kernel_rfl) ⟨B2.cell 5 rfl, w64 (by omega) (by omega), w64 (by omega) (by omega), B2.cell 5 rfl, (wq (by omega) (by omega) (by omega)).trans (by rw [hnn]), by omega, trivial⟩ ?_
  clear hs a; intro a hs
  refine atR_end (by kernel_rfl) ?_
  refine wayN_node rfl ?_
  refine at_seq (j := 43) (by kernel_rfl) ?_
  refine at_seq (j := 38) (by kernel_rfl) ?_
  refine at_region (id := 11) (by kernel_rfl) ?_
  refine atR_seg (m := 4) (H := [(1, some (.int .i64 (4 * (n : Int))), []), (2, some (.int .i64 (4 * (n : Int) + 4)), [])]) (ts := [2, 3, 5, 9, 12, 13, 117]) (L' := [(2, .int .i64 top), (3, .int .i64 depth), (5, .pointer (some ⟨b1, 0, none⟩)), (9, .pointer (some ⟨b2, 0, none⟩)), (12, .int .i64 (radius - rad)), (13, .int .i64 (n : Int)), (117, .bool (decide (4 * (n : Int) + 4 > 20000)))]) (O := fun w => (W .i64 (4 * (n : Int))) ∧ (W .i64 (4 * (n : Int) + 4)) ∧ True) hs (by kernel_rfl) ⟨w64 (by omega) (by omega), w64 (by omega) (by omega), trivial⟩ ?_
  clear hs a; intro a hs
  refine atR_end (by kernel_rfl) ?_
  refine wayN_node rfl ?_
  refine at_cond (t := 117) (j1 := 39) (j2 := 42) (b := decide (4 * (n : Int) + 4 > 20000)) (by kernel_rfl) hs rfl (fun hb => absurd (hb.symm.trans (show (decide (4 * (n : Int) + 4 > 20000)) = false from decide_eq_false (by omega))) (by decide)) (fun _ => ?_)
  refine at_skip (by kernel_rfl) ?_
  refine wayN_node rfl ?_
  refine at_seq (j := 45) (by kernel_rfl) ?_
  refine at_region (id := 13) (by kernel_rfl) ?_
  refine atR_seg (m := 28) (H := [(1, none, [.int .i64 x]), (3, some (.int .i64 (x + (radius - rad))), []), (5, none, [.int .i64 y]), (8, none, [.int .i64 x]), (10, none, [.int .i64 y]), (12, some (.int .i64 (y + (radius - rad))), []), (15, none, [.int .i64 x]), (17, some (.int .i64 (x - (radius - rad))), []), (19, none, [.int .i64 y]), (22, none, [.int .i64 x]), (24, none, [.int .i64 y]), (26, some (.int .i64 (y - (radius - rad))), [])]) (ts := [2, 3, 5, 9, 13, 124, 131, 138, 145]) (L' := [(2, .int .i64 top), (3, .int .i64 depth), (5, .pointer (some ⟨b1, 0, none⟩)), (9, .pointer (some ⟨b2, 0, none⟩)), (13, .int .i64 (n : Int)), (124, .agg #[.int .i64 (x + (radius - rad)), .int .i64 y]), (131, .agg #[.int .i64 x, .int .i64 (y + (radius - rad))]), (138, .agg #[.int .i64 (x - (radius - rad)), .int .i64 y]), (145, .agg #[.int .i64 x, .int .i64 (y - (radius - rad))])]) (O := fun w => (w.cell? ⟨b1, 0, none⟩ = some (.int .i64 x)) ∧ (W .i64 (x + (radius - rad))) ∧ (w.cell? ⟨b1, 1, none⟩ = some (.int .i64 y)) ∧ (w.cell? ⟨b1, 0, none⟩ = some (.int .i64 x)) ∧ (w.cell? ⟨b1, 1, none⟩ = some (.int .i64 y)) ∧ (W .i64 (y + (radius - rad))) ∧ (w.cell? ⟨b1, 0, none⟩ = some (.int .i64 x)) ∧ (W .i64 (x - (radius - rad))) ∧ (w.cell? ⟨b1, 1, none⟩ = some (.int .i64 y)) ∧ (w.cell? ⟨b1, 0, none⟩ = some (.int .i64 x)) ∧ (w.cell? ⟨b1, 1, none⟩ = some (.int .i64 y)) ∧ (W .i64 (y - (radius - rad))) ∧ True) hs (by kernel_rfl) ⟨B1.cell 0 rfl, w64 (by omega) (by omega), B1.cell 1 rfl, B1.cell 0 rfl, B1.cell 1 rfl, w64 (by omega) (by omega), B1.cell 0 rfl, w64 (by omega) (by omega), B1.cell 1 rfl, B1.cell 0 rfl, B1.cell 1 rfl, w64 (by omega) (by omega), trivial⟩ ?_
  clear hs a; intro a hs
  refine atR_op hs (by kernel_rfl) (new1 (t := 30) (cs := #[.int .i64 (x + (radius - rad)), .int .i64 y, .int .i64 x, .int .i64 (y + (radius - rad)), .int .i64 (x - (radius - rad)), .int .i64 y, .int .i64 x, .int .i64 (y - (radius - rad))]) (fun rb_ => .slice (some ⟨rb_, 0, none⟩) 4 4) [2, 3, 5, 9, 13, 146] (fun rb_ => [(2, .int .i64 top), (3, .int .i64 depth), (5, .pointer (some ⟨b1, 0, none⟩)), (9, .pointer (some ⟨b2, 0, none⟩)), (13, .int .i64 (n : Int)), (146, .slice (some ⟨rb_, 0, none⟩) 4 4)]) hs (fun _ => by kernel_rfl) (fun _ => by kernel_rfl) ?_)
  clear hs a; intro a w5 b3 hn hs
  have B3 := hn.blk
  have l3 : w.heap.size ≤ b3 := by rw [hn.at_]; exact hB.size
  have l3' : b2 < b3 := by rw [hn.at_]; exact B2.lt
  replace B1 := B1.below hn.below B1.lt
  replace B2 := B2.below hn.below B2.lt
  replace hB := later hB hn.below
  clear hn
  refine atR_seg (m := 1) (H := []) (ts := [2, 3, 5, 9, 13, 14]) (L' := [(2, .int .i64 top), (3, .int .i64 depth), (5, .pointer (some ⟨b1, 0, none⟩)), (9, .pointer (some ⟨b2, 0, none⟩)), (13, .int .i64 (n : Int)), (14, .slice (some ⟨b3, 0, none⟩) 4 4)]) (O := fun w => True) hs (by kernel_rfl) trivial ?_
  clear hs a; intro a hs
  refine atR_end (by kernel_rfl) ?_
  refine wayN_node rfl ?_
  refine at_seq (j := 47) (by kernel_rfl) ?_
  refine at_region (id := 14) (by kernel_rfl) ?_
  refine atR_seg (m := 1) (H := []) (ts := [2, 3, 5, 9, 13, 14, 15]) (L' := [(2, .int .i64 top), (3, .int .i64 depth), (5, .pointer (some ⟨b1, 0, none⟩)), (9, .pointer (some ⟨b2, 0, none⟩)), (13, .int .i64 (n : Int)), (14, .slice (some ⟨b3, 0, none⟩) 4 4), (15, .func (.func 28) #[] #[])]) (O := fun w => True) hs (by kernel_rfl) trivial ?_
  clear hs a; intro a hs
  refine atR_end (by kernel_rfl) ?_
  refine wayN_node rfl ?_
  refine at_seq (j := 49) (by kernel_rfl) ?_
  refine at_draw (fun W => Blk W b1 30 #[.int .i64 x, .int .i64 y] ∧ Blk W b2 33 #[.int .i64 num, .int .i64 kind, .int .i64 rad, .int .i64 flu, .int .i64 hol, .int .i64 stp, .int .i64 fd, .int .i64 plu] ∧ Blk W b3 30 #[.int .i64 (x + (radius - rad)), .int .i64 y, .int .i64 x, .int .i64 (y + (radius - rad)), .int .i64 (x - (radius - rad)), .int .i64 y, .int .i64 x, .int .i64 (y - (radius - rad))] ∧ True) (id := 15) (by kernel_rfl) (by kernel_rfl) 10 (by kernel_rfl) ?_
  intro w6 hb
  replace B1 := B1.below hb B1.lt
  replace B2 := B2.below hb B2.lt
  replace B3 := B3.below hb B3.lt
  replace hB := later hB hb
  clear hb
  refine atD_seg (m := 4) [0, 1, 2, 3, 5, 6] [] [(3, none, [.int .i64 (x + (radius - rad)), .int .i64 y]), (6, none, [.int .i64 plu])] [2, 3, 5, 9, 13, 14, 15, 147, 150, 153] [(2, .int .i64 top), (3, .int .i64 depth), (5, .pointer (some ⟨b1, 0, none⟩)), (9, .pointer (some ⟨b2, 0, none⟩)), (13, .int .i64 (n : Int)), (14, .slice (some ⟨b3, 0, none⟩) 4 4), (15, .func (.func 28) #[] #[]), (147, .func (.func 28) #[] #[]), (150, .agg #[.int .i64 (x + (radius - rad)), .int .i64 y]), (153, .int .i64 plu)] (fun w => ((0 : Int) ≤ 0 ∧ 0 < ((4 : Nat) : Int)) ∧ (w.cell? ⟨b3, 0, none⟩ = some (.int .i64 (x + (radius - rad)))) ∧ (w.cell? ⟨b3, 1, none⟩ = some (.int .i64 y)) ∧ (w.cell? ⟨b2, 7, none⟩ = some (.int .i64 plu)) ∧ True) hs ⟨B1, B2, B3, trivial⟩ (by kernel_rfl) (by kernel_rfl) (fun w ⟨B1, B2, B3, _⟩ => ⟨⟨by omega, by omega⟩, B3.cell 0 rfl, B3.cell 1 rfl, B2.cell 7 rfl, trivial⟩) ?_
  clear hs a; intro a hs
  refine atD_op (m := 3) (j := 4) (D := [6, 5, 3, 2, 1, 0]) hs (by kernel_rfl) (by kernel_rfl) (call1 (f := 28) (args := #[.agg #[.int .i64 (x + (radius - rad)), .int .i64 y], .int .i64 0]) [2, 3, 5, 9, 13, 14, 15, 151, 153] (fun rv_ => [(2, .int .i64 top), (3, .int .i64 depth), (5, .pointer (some ⟨b1, 0, none⟩)), (9, .pointer (some ⟨b2, 0, none⟩)), (13, .int .i64 (n : Int)), (14, .slice (some ⟨b3, 0, none⟩) 4 4), (15, .func (.func 28) #[] #[]), (151, rv_), (153, .int .i64 plu)]) hs (by kernel_rfl) (fun _ => by kernel_rfl) ?_)
  refine (pos_any _ _ _ _).mono ?_
  rintro e w7 ⟨rfl, hb⟩
  refine ⟨_, rfl, ?_⟩
  clear hs a; intro a hs
  replace B1 := B1.below hb B1.lt
  replace B2 := B2.below hb B2.lt
  replace B3 := B3.below hb B3.lt
  replace hB := later hB hb
  clear hb
  refine ⟨⟨B1, B2, B3, trivial⟩, ?_⟩
  refine atD_seg (m := 2) [7] [4, 6, 5, 3, 2, 1, 0] [] [2, 3, 5, 9, 13, 14, 15, 154] [(2, .int .i64 top), (3, .int .i64 depth), (5, .pointer (some ⟨b1, 0, none⟩)), (9, .pointer (some ⟨b2, 0, none⟩)), (13, .int .i64 (n : Int)), (14, .slice (some ⟨b3, 0, none⟩) 4 4), (15, .func (.func 28) #[] #[]), (154, .agg #[.int .i64 2, .int .i64 (x + (radius - rad)), .int .i64 y, .int .i64 0, .int .i64 0, .int .i64 0, .int .i64 plu])] (fun w => True) hs ⟨B1, B2, B3, trivial⟩ (by kernel_rfl) (by kernel_rfl) (fun w ⟨B1, B2, B3, _⟩ => trivial) ?_
  clear hs a; intro a hs
  refine atD_op (m := 1) (j := 8) (D := [7, 4, 6, 5, 3, 2, 1, 0]) hs (by kernel_rfl) (by kernel_rfl) (new1 (t := 48) (cs := #[.int .i64 2, .int .i64 (x + (radius - rad)), .int .i64 y, .int .i64 0, .int .i64 0, .int .i64 0, .int .i64 plu]) (fun rb_ => .slice (some ⟨rb_, 0, none⟩) 1 1) [2, 3, 5, 9, 13, 14, 15, 155] (fun rb_ => [(2, .int .i64 top), (3, .int .i64 depth), (5, .pointer (some ⟨b1, 0, none⟩)), (9, .pointer (some ⟨b2, 0, none⟩)), (13, .int .i64 (n : Int)), (14, .slice (some ⟨b3, 0, none⟩) 4 4), (15, .func (.func 28) #[] #[]), (155, .slice (some ⟨rb_, 0, none⟩) 1 1)]) hs (fun _ => by kernel_rfl) (fun _ => by kernel_rfl) ?_)
  clear hs a; intro a w8 b4 hn hs
  have B4 := hn.blk
  have l4 : w.heap.size ≤ b4 := by rw [hn.at_]; exact hB.size
  have l4' : b3 < b4 := by rw [hn.at_]; exact B3.lt
  replace B1 := B1.below hn.below B1.lt
  replace B2 := B2.below hn.below B2.lt
  replace B3 := B3.below hn.below B3.lt
  replace hB := later hB hn.below
  clear hn
  refine ⟨⟨B1, B2, B3, trivial⟩, ?_⟩
  refine atD_seg (m := 0) [9] [8, 7, 4, 6, 5, 3, 2, 1, 0] [] [2, 3, 5, 9, 13, 14, 15, 16] [(2, .int .i64 top), (3, .int .i64 depth), (5, .pointer (some ⟨b1, 0, none⟩)), (9, .pointer (some ⟨b2, 0, none⟩)), (13, .int .i64 (n : Int)), (14, .slice (some ⟨b3, 0, none⟩) 4 4), (15, .func (.func 28) #[] #[]), (16, .slice (some ⟨b4, 0, none⟩) 1 1)] (fun w => True) hs ⟨B1, B2, B3, trivial⟩ (by kernel_rfl) (by kernel_rfl) (fun w ⟨B1, B2, B3, _⟩ => trivial) ?_
  clear hs a; intro a hs
  refine atD_done (by kernel_rfl) ?_
  refine wayN_node rfl ?_
  refine at_seq (j := 66) (by kernel_rfl) ?_
  refine at_seq (j := 52) (by kernel_rfl) ?_
  refine at_region (id := 16) (by kernel_rfl) ?_
  refine atR_seg (m := 1) (H := []) (ts := [2, 3, 5, 9, 13, 14, 15, 16, 17]) (L' := [(2, .int .i64 top), (3, .int .i64 depth), (5, .pointer (some ⟨b1, 0, none⟩)), (9, .pointer (some ⟨b2, 0, none⟩)), (13, .int .i64 (n : Int)), (14, .slice (some ⟨b3, 0, none⟩) 4 4), (15, .func (.func 28) #[] #[]), (16, .slice (some ⟨b4, 0, none⟩) 1 1), (17, .int .i64 1)]) (O := fun w => True) hs (by kernel_rfl) trivial ?_
  clear hs a; intro a hs
  refine atR_end (by kernel_rfl) ?_
  refine wayN_node rfl ?_
  refine at_block (id := 1) (by kernel_rfl) ?_
  refine at_loop2 (fun (k : Nat) (v : Value) a' W => St 215 [(2, .int .i64 top), (3, .int .i64 depth), (5, .pointer (some ⟨b1, 0, none⟩)), (9, .pointer (some ⟨b2, 0, none⟩)), (13, .int .i64 (n : Int)), (14, .slice (some ⟨b3, 0, none⟩) 4 4), (15, .func (.func 28) #[] #[]), (16, v), (17, .int .i64 ((k : Int) + 1))] a' ∧ Blk W b1 30 #[.int .i64 x, .int .i64 y] ∧ Blk W b2 33 #[.int .i64 num, .int .i64 kind, .int .i64 rad, .int .i64 flu, .int .i64 hol, .int .i64 stp, .int .i64 fd, .int .i64 plu] ∧ Blk W b3 30 #[.int .i64 (x + (radius - rad)), .int .i64 y, .int .i64 x, .int .i64 (y + (radius - rad)), .int .i64 (x - (radius - rad)), .int .i64 y, .int .i64 x, .int .i64 (y - (radius - rad))] ∧ Below w.heap.size w W ∧ (k ≤ 4 * n) ∧ (W.ownsRow (b3 + 1) 48 7 v (k + 1) (mvc 2 (x + (radius - rad)) y 0 0 0 plu ++ arcs x y (radius - rad) depth (n : Int) fd k))) (fun k v => 4 * n - k) 0 (.slice (some ⟨b4, 0, none⟩) 1 1) (by kernel_rfl) ⟨hs.sub ⟨⟨_, rfl, rfl⟩, ⟨_, rfl, rfl⟩, ⟨_, rfl, rfl⟩, ⟨_, rfl, rfl⟩, ⟨_, rfl, rfl⟩, ⟨_, rfl, rfl⟩, ⟨_, rfl, rfl⟩, ⟨_, rfl, rfl⟩, ⟨_, rfl, (by first | rfl | (push_cast; rfl) | (congr 1; omega))⟩, trivial⟩, B1, B2, B3, hB, Nat.zero_le _, by rw [show arcs x y (radius - rad) depth (n : Int) fd 0 = [] from rfl, List.append_nil]; exact own_blk (cs := mvc 2 (x + (radius - rad)) y 0 0 0 plu) B4 (by omega) rfl (by decide)⟩ ?_
  clear hs a B1 B2 B3 hB B4
  intro k v a wr9 hI
  obtain ⟨hs, B1, B2, B3, hB, hk4, ho⟩ := hI
  refine at_seq (j := 60) (by kernel_rfl) ?_
  refine at_seq (j := 57) (by kernel_rfl) ?_
  refine at_region (id := 17) (by kernel_rfl) ?_
  refine atR_seg (m := 4) (H := [(2, some (.int .i64 (4 * (n : Int))), [])]) (ts := [2, 3, 5, 9, 13, 14, 15, 16, 17, 159]) (L' := [(2, .int .i64 top), (3, .int .i64 depth), (5, .pointer (some ⟨b1, 0, none⟩)), (9, .pointer (some ⟨b2, 0, none⟩)), (13, .int .i64 (n : Int)), (14, .slice (some ⟨b3, 0, none⟩) 4 4), (15, .func (.func 28) #[] #[]), (16, v), (17, .int .i64 ((k : Int) + 1)), (159, .bool (decide ((k : Int) + 1 ≤ 4 * (n : Int))))]) (O := fun w => (W .i64 (4 * (n : Int))) ∧ True) hs (by kernel_rfl) ⟨w64 (by omega) (by omega), trivial⟩ ?_
  clear hs a; intro a hs
  refine atR_end (by kernel_rfl) ?_
  refine wayN_node rfl ?_
  refine at_cond (t := 159) (j1 := 58) (j2 := 59) (b := decide ((k : Int) + 1 ≤ 4 * (n : Int))) (by kernel_rfl) hs rfl (fun hb => ?_) (fun hb => ?_)
  · have cd1 := hb; have cd1b := hb; clear hb
    replace cd1 := of_decide_eq_true cd1
    obtain ⟨a1, a2, a3, a4⟩ := zat_bd depth n k h3 (by omega) hn1 (by omega) (by omega) (by omega)
    refine at_skip (by kernel_rfl) ?_
    refine wayN_node rfl ?_
    refine at_seq (j := 65) (by kernel_rfl) ?_
    refine at_block (id := 2) (by kernel_rfl) ?_
    refine at_seq (j := 64) (by kernel_rfl) ?_
    refine at_region (id := 19) (by kernel_rfl) ?_
    refine atR_seg (m := 12) (H := [(2, some (.int .i64 (((k : Int) + 1) * depth)), []), (4, some (.int .i64 (4 * (n : Int))), []), (5, some (.int .i64 (((k : Int) + 1) * depth + (4 * (n : Int)))), []), (6, some (.int .i64 (((k : Int) + 1) * depth + (4 * (n : Int)) - 1)), []), (8, some (.int .i64 (4 * (n : Int))), []), (9, some (.int .i64 ((((k : Int) + 1) * depth + (4 * (n : Int)) - 1) / (4 * (n : Int)))), []), (10, some (.int .i64 (-((((k : Int) + 1) * depth + (4 * (n : Int)) - 1) / (4 * (n : Int))))), [])]) (ts := [2, 3, 5, 9, 13, 14, 15, 16, 17, 18]) (L' := [(2, .int .i64 top), (3, .int .i64 depth), (5, .pointer (some ⟨b1, 0, none⟩)), (9, .pointer (some ⟨b2, 0, none⟩)), (13, .int .i64 (n : Int)), (14, .slice (some ⟨b3, 0, none⟩) 4 4), (15, .func (.func 28) #[] #[]), (16, v), (17, .int .i64 ((k : Int) + 1)), (18, .int .i64 (-((((k : Int) + 1) * depth + (4 * (n : Int)) - 1) / (4 * (n : Int)))))]) (O := fun w => (W .i64 (((k : Int) + 1) * depth)) ∧ (W .i64 (4 * (n : Int))) ∧ (W .i64 (((k : Int) + 1) * depth + (4 * (n : Int)))) ∧ (W .i64 (((k : Int) + 1) * depth + (4 * (n : Int)) - 1)) ∧ (W .i64 (4 * (n : Int))) ∧ (Wq (((k : Int) + 1) * depth + (4 * (n : Int)) - 1) (4 * (n : Int))) ∧ ((4 * (n : Int)) ≠ 0) ∧ (Wn .i64 ((((k : Int) + 1) * depth + (4 * (n : Int)) - 1) / (4 * (n : Int)))) ∧ True) hs (by kernel_rfl) ⟨w64 (by omega) (by omega), w64 (by omega) (by omega), w64 (by omega) (by omega), w64 (by omega) (by omega), w64 (by omega) (by omega), wq (by omega) (by omega) (by omega), by omega, wn64 (by omega) (by omega), trivial⟩ ?_
    clear hs a; intro a hs
    refine atR_end (by kernel_rfl) ?_
    refine wayN_node rfl ?_
    have hr4 : (k + 1) % 4 = 0 ∨ (k + 1) % 4 = 1 ∨ (k + 1) % 4 = 2 ∨ (k + 1) % 4 = 3 := by omega
    rcases hr4 with hr | hr | hr | hr
    · have har := arcC_case x y (radius - rad) depth (n : Int) fd k 0 hr
      simp only [qx, qy] at har
      refine at_draw (fun W => Blk W b1 30 #[.int .i64 x, .int .i64 y] ∧ Blk W b2 33 #[.int .i64 num, .int .i64 kind, .int .i64 rad, .int .i64 flu, .int .i64 hol, .int .i64 stp, .int .i64 fd, .int .i64 plu] ∧ Blk W b3 30 #[.int .i64 (x + (radius - rad)), .int .i64 y, .int .i64 x, .int .i64 (y + (radius - rad)), .int .i64 (x - (radius - rad)), .int .i64 y, .int .i64 x, .int .i64 (y - (radius - rad))] ∧ True) (id := 20) (by kernel_rfl) (by kernel_rfl) 16 (by kernel_rfl) ?_
      intro w10 hb
      replace B1 := B1.below hb B1.lt
      replace B2 := B2.below hb B2.lt
      replace B3 := B3.below hb B3.lt
      replace ho := own_far ho hb
      replace hB := later hB hb
      clear hb
      refine atD_seg (m := 5) [0, 1, 2, 3, 4, 5, 6, 7, 9, 10, 11] [] [(4, some (.int .i64 0), []), (6, none, [.int .i64 (x + (radius - rad)), .int .i64 y]), (9, none, [.int .i64 x, .int .i64 y]), (11, none, [.int .i64 fd])] [2, 3, 5, 9, 13, 14, 15, 16, 17, 173, 174, 179, 180, 182, 184] [(2, .int .i64 top), (3, .int .i64 depth), (5, .pointer (some ⟨b1, 0, none⟩)), (9, .pointer (some ⟨b2, 0, none⟩)), (13, .int .i64 (n : Int)), (14, .slice (some ⟨b3, 0, none⟩) 4 4), (15, .func (.func 28) #[] #[]), (16, v), (17, .int .i64 ((k : Int) + 1)), (173, v), (174, .func (.func 28) #[] #[]), (179, .agg #[.int .i64 (x + (radius - rad)), .int .i64 y]), (180, .int .i64 (-((((k : Int) + 1) * depth + (4 * (n : Int)) - 1) / (4 * (n : Int))))), (182, .agg #[.int .i64 x, .int .i64 y]), (184, .int .i64 fd)] (fun w => (Value.int .i64 (((k : Int) + 1).tmod 4) = .int .i64 0) ∧ ((4 : Int) ≠ 0) ∧ ((0 : Int) ≤ 0 ∧ 0 < ((4 : Nat) : Int)) ∧ (w.cell? ⟨b3, 0, none⟩ = some (.int .i64 (x + (radius - rad)))) ∧ (w.cell? ⟨b3, 1, none⟩ = some (.int .i64 y)) ∧ (w.cell? ⟨b1, 0, none⟩ = some (.int .i64 x)) ∧ (w.cell? ⟨b1, 1, none⟩ = some (.int .i64 y)) ∧ (w.cell? ⟨b2, 6, none⟩ = some (.int .i64 fd)) ∧ True) hs ⟨B1, B2, B3, trivial⟩ (by kernel_rfl) (by kernel_rfl) (fun w ⟨B1, B2, B3, _⟩ => ⟨tmod4 k 0 hr, by decide, ⟨by omega, by omega⟩, B3.cell 0 rfl, B3.cell 1 rfl, B1.cell 0 rfl, B1.cell 1 rfl, B2.cell 6 rfl, trivial⟩) ?_
      clear hs a; intro a hs
      refine atD_op (m := 4) (j := 8) (D := [11, 10, 9, 7, 6, 5, 4, 3, 2, 1, 0]) hs (by kernel_rfl) (by kernel_rfl) (call1 (f := 28) (args := #[.agg #[.int .i64 (x + (radius - rad)), .int .i64 y], .int .i64 (-((((k : Int) + 1) * depth + (4 * (n : Int)) - 1) / (4 * (n : Int))))]) [2, 3, 5, 9, 13, 14, 15, 16, 17, 173, 181, 182, 184] (fun rv_ => [(2, .int .i64 top), (3, .int .i64 depth), (5, .pointer (some ⟨b1, 0, none⟩)), (9, .pointer (some ⟨b2, 0, none⟩)), (13, .int .i64 (n : Int)), (14, .slice (some ⟨b3, 0, none⟩) 4 4), (15, .func (.func 28) #[] #[]), (16, v), (17, .int .i64 ((k : Int) + 1)), (173, v), (181, rv_), (182, .agg #[.int .i64 x, .int .i64 y]), (184, .int .i64 fd)]) hs (by kernel_rfl) (fun _ => by kernel_rfl) ?_)
      refine (pos_any _ _ _ _).mono ?_
      rintro e w11 ⟨rfl, hb⟩
      refine ⟨_, rfl, ?_⟩
      clear hs a; intro a hs
      replace B1 := B1.below hb B1.lt
      replace B2 := B2.below hb B2.lt
      replace B3 := B3.below hb B3.lt
      replace ho := own_far ho hb
      replace hB := later hB hb
      clear hb
      refine ⟨⟨B1, B2, B3, trivial⟩, ?_⟩
      refine atD_seg (m := 3) [12] [8, 11, 10, 9, 7, 6, 5, 4, 3, 2, 1, 0] [] [2, 3, 5, 9, 13, 14, 15, 16, 17, 173, 185] [(2, .int .i64 top), (3, .int .i64 depth), (5, .pointer (some ⟨b1, 0, none⟩)), (9, .pointer (some ⟨b2, 0, none⟩)), (13, .int .i64 (n : Int)), (14, .slice (some ⟨b3, 0, none⟩) 4 4), (15, .func (.func 28) #[] #[]), (16, v), (17, .int .i64 ((k : Int) + 1)), (173, v), (185, .agg #[.int .i64 4, .int .i64 (x + (radius - rad)), .int .i64 y, .int .i64 (-((((k : Int) + 1) * depth + (4 * (n : Int)) - 1) / (4 * (n : Int)))), .int .i64 x, .int .i64 y, .int .i64 fd])] (fun w => True) hs ⟨B1, B2, B3, trivial⟩ (by kernel_rfl) (by kernel_rfl) (fun w ⟨B1, B2, B3, _⟩ => trivial) ?_
      clear hs a; intro a hs
      refine atD_op (m := 2) (j := 13) (D := [12, 8, 11, 10, 9, 7, 6, 5, 4, 3, 2, 1, 0]) hs (by kernel_rfl) (by kernel_rfl) (new1 (t := 48) (cs := #[.int .i64 4, .int .i64 (x + (radius - rad)), .int .i64 y, .int .i64 (-((((k : Int) + 1) * depth + (4 * (n : Int)) - 1) / (4 * (n : Int)))), .int .i64 x, .int .i64 y, .int .i64 fd]) (fun rb_ => .slice (some ⟨rb_, 0, none⟩) 1 1) [2, 3, 5, 9, 13, 14, 15, 16, 17, 173, 186] (fun rb_ => [(2, .int .i64 top), (3, .int .i64 depth), (5, .pointer (some ⟨b1, 0, none⟩)), (9, .pointer (some ⟨b2, 0, none⟩)), (13, .int .i64 (n : Int)), (14, .slice (some ⟨b3, 0, none⟩) 4 4), (15, .func (.func 28) #[] #[]), (16, v), (17, .int .i64 ((k : Int) + 1)), (173, v), (186, .slice (some ⟨rb_, 0, none⟩) 1 1)]) hs (fun _ => by kernel_rfl) (fun _ => by kernel_rfl) ?_)
      clear hs a; intro a w12 b5 hn hs
      have B5 := hn.blk
      have l5 : w.heap.size ≤ b5 := by rw [hn.at_]; exact hB.size
      have l5' : b3 < b5 := by rw [hn.at_]; exact B3.lt
      replace B1 := B1.below hn.below B1.lt
      replace B2 := B2.below hn.below B2.lt
      replace B3 := B3.below hn.below B3.lt
      replace ho := own_far ho hn.below
      replace hB := later hB hn.below
      clear hn
      refine ⟨⟨B1, B2, B3, trivial⟩, ?_⟩
      refine atD_op (m := 1) (j := 14) (D := [13, 12, 8, 11, 10, 9, 7, 6, 5, 4, 3, 2, 1, 0]) hs (by kernel_rfl) (by kernel_rfl) (append1 (v := v) (b := b5) (off := 0) (m := 1) (c := 1) (cs := [.int .i64 4, .int .i64 (x + (radius - rad)), .int .i64 y, .int .i64 (-((((k : Int) + 1) * depth + (4 * (n : Int)) - 1) / (4 * (n : Int)))), .int .i64 x, .int .i64 y, .int .i64 fd]) ((.tmp 173), (.tmp 186)) [2, 3, 5, 9, 13, 14, 15, 16, 17, 187] (fun rv_ => [(2, .int .i64 top), (3, .int .i64 depth), (5, .pointer (some ⟨b1, 0, none⟩)), (9, .pointer (some ⟨b2, 0, none⟩)), (13, .int .i64 (n : Int)), (14, .slice (some ⟨b3, 0, none⟩) 4 4), (15, .func (.func 28) #[] #[]), (16, v), (17, .int .i64 ((k : Int) + 1)), (187, rv_)]) hs (by kernel_rfl) rfl rfl (fun _ => by kernel_rfl) elem34 ho rfl (blk_row B5) (by simp [Value.oneCell']) (by unfold maxLen; omega) (by omega) (by have := hB.size; have := B1.lt; have := B2.lt; have := B3.lt; have := B5.lt; omega) ?_)
      clear hs a; intro v2 a w13 ho3 hg hs
      skip
      replace B1 := own_keep_t hg ho B1 (by decide)
      replace B2 := own_keep_t hg ho B2 (by decide)
      replace B3 := own_keep_t hg ho B3 (by decide)
      replace hB := hB.grown hg hB.size (fun kk hk => Nat.le_trans (by omega) (ho.lt kk hk).1)
      clear hg B5 ho
      refine ⟨⟨B1, B2, B3, trivial⟩, ?_⟩
      refine atD_seg (m := 0) [15] [14, 13, 12, 8, 11, 10, 9, 7, 6, 5, 4, 3, 2, 1, 0] [] [2, 3, 5, 9, 13, 14, 15, 16, 17] [(2, .int .i64 top), (3, .int .i64 depth), (5, .pointer (some ⟨b1, 0, none⟩)), (9, .pointer (some ⟨b2, 0, none⟩)), (13, .int .i64 (n : Int)), (14, .slice (some ⟨b3, 0, none⟩) 4 4), (15, .func (.func 28) #[] #[]), (16, v2), (17, .int .i64 ((k : Int) + 1))] (fun w => True) hs ⟨B1, B2, B3, trivial⟩ (by kernel_rfl) (by kernel_rfl) (fun w ⟨B1, B2, B3, _⟩ => trivial) ?_
      clear hs a; intro a hs
      refine atD_done (by kernel_rfl) ?_
      refine wayN_node rfl ?_
      refine at_region (id := 18) (by kernel_rfl) ?_
      refine atR_seg (m := 3) (H := [(1, some (.int .i64 ((k : Int) + 1 + 1)), [])]) (ts := [2, 3, 5, 9, 13, 14, 15, 16, 17]) (L' := [(2, .int .i64 top), (3, .int .i64 depth), (5, .pointer (some ⟨b1, 0, none⟩)), (9, .pointer (some ⟨b2, 0, none⟩)), (13, .int .i64 (n : Int)), (14, .slice (some ⟨b3, 0, none⟩) 4 4), (15, .func (.func 28) #[] #[]), (16, v2), (17, .int .i64 ((k : Int) + 1 + 1))]) (O := fun w => (W .i64 ((k : Int) + 1 + 1)) ∧ True) hs (by kernel_rfl) ⟨w64 (by omega) (by omega), trivial⟩ ?_
      clear hs a; intro a hs
      refine atR_end (by kernel_rfl) ?_
      refine wayN_back ?_
      dsimp only [lpOf]
      exact ⟨k + 1, v2, ⟨hs.sub ⟨⟨_, rfl, rfl⟩, ⟨_, rfl, rfl⟩, ⟨_, rfl, rfl⟩, ⟨_, rfl, rfl⟩, ⟨_, rfl, rfl⟩, ⟨_, rfl, rfl⟩, ⟨_, rfl, rfl⟩, ⟨_, rfl, rfl⟩, ⟨_, rfl, (by first | rfl | (push_cast; rfl) | (congr 1; omega))⟩, trivial⟩, B1, B2, B3, hB, by omega, by rw [arcs_succ, har]; simpa [mvc] using ho3⟩, by omega⟩
    · have har := arcC_case x y (radius - rad) depth (n : Int) fd k 1 hr
      simp only [qx, qy] at har
      refine at_draw (fun W => Blk W b1 30 #[.int .i64 x, .int .i64 y] ∧ Blk W b2 33 #[.int .i64 num, .int .i64 kind, .int .i64 rad, .int .i64 flu, .int .i64 hol, .int .i64 stp, .int .i64 fd, .int .i64 plu] ∧ Blk W b3 30 #[.int .i64 (x + (radius - rad)), .int .i64 y, .int .i64 x, .int .i64 (y + (radius - rad)), .int .i64 (x - (radius - rad)), .int .i64 y, .int .i64 x, .int .i64 (y - (radius - rad))] ∧ True) (id := 20) (by kernel_rfl) (by kernel_rfl) 16 (by kernel_rfl) ?_
      intro w14 hb
      replace B1 := B1.below hb B1.lt
      replace B2 := B2.below hb B2.lt
      replace B3 := B3.below hb B3.lt
      replace ho := own_far ho hb
      replace hB := later hB hb
      clear hb
      refine atD_seg (m := 5) [0, 1, 2, 3, 4, 5, 6, 7, 9, 10, 11] [] [(4, some (.int .i64 1), []), (6, none, [.int .i64 x, .int .i64 (y + (radius - rad))]), (9, none, [.int .i64 x, .int .i64 y]), (11, none, [.int .i64 fd])] [2, 3, 5, 9, 13, 14, 15, 16, 17, 173, 174, 179, 180, 182, 184] [(2, .int .i64 top), (3, .int .i64 depth), (5, .pointer (some ⟨b1, 0, none⟩)), (9, .pointer (some ⟨b2, 0, none⟩)), (13, .int .i64 (n : Int)), (14, .slice (some ⟨b3, 0, none⟩) 4 4), (15, .func (.func 28) #[] #[]), (16, v), (17, .int .i64 ((k : Int) + 1)), (173, v), (174, .func (.func 28) #[] #[]), (179, .agg #[.int .i64 x, .int .i64 (y + (radius - rad))]), (180, .int .i64 (-((((k : Int) + 1) * depth + (4 * (n : Int)) - 1) / (4 * (n : Int))))), (182, .agg #[.int .i64 x, .int .i64 y]), (184, .int .i64 fd)] (fun w => (Value.int .i64 (((k : Int) + 1).tmod 4) = .int .i64 1) ∧ ((4 : Int) ≠ 0) ∧ ((0 : Int) ≤ 1 ∧ 1 < ((4 : Nat) : Int)) ∧ (w.cell? ⟨b3, 2, none⟩ = some (.int .i64 x)) ∧ (w.cell? ⟨b3, 3, none⟩ = some (.int .i64 (y + (radius - rad)))) ∧ (w.cell? ⟨b1, 0, none⟩ = some (.int .i64 x)) ∧ (w.cell? ⟨b1, 1, none⟩ = some (.int .i64 y)) ∧ (w.cell? ⟨b2, 6, none⟩ = some (.int .i64 fd)) ∧ True) hs ⟨B1, B2, B3, trivial⟩ (by kernel_rfl) (by kernel_rfl) (fun w ⟨B1, B2, B3, _⟩ => ⟨tmod4 k 1 hr, by decide, ⟨by omega, by omega⟩, B3.cell 2 rfl, B3.cell 3 rfl, B1.cell 0 rfl, B1.cell 1 rfl, B2.cell 6 rfl, trivial⟩) ?_
      clear hs a; intro a hs
      refine atD_op (m := 4) (j := 8) (D := [11, 10, 9, 7, 6, 5, 4, 3, 2, 1, 0]) hs (by kernel_rfl) (by kernel_rfl) (call1 (f := 28) (args := #[.agg #[.int .i64 x, .int .i64 (y + (radius - rad))], .int .i64 (-((((k : Int) + 1) * depth + (4 * (n : Int)) - 1) / (4 * (n : Int))))]) [2, 3, 5, 9, 13, 14, 15, 16, 17, 173, 181, 182, 184] (fun rv_ => [(2, .int .i64 top), (3, .int .i64 depth), (5, .pointer (some ⟨b1, 0, none⟩)), (9, .pointer (some ⟨b2, 0, none⟩)), (13, .int .i64 (n : Int)), (14, .slice (some ⟨b3, 0, none⟩) 4 4), (15, .func (.func 28) #[] #[]), (16, v), (17, .int .i64 ((k : Int) + 1)), (173, v), (181, rv_), (182, .agg #[.int .i64 x, .int .i64 y]), (184, .int .i64 fd)]) hs (by kernel_rfl) (fun _ => by kernel_rfl) ?_)
      refine (pos_any _ _ _ _).mono ?_
      rintro e w15 ⟨rfl, hb⟩
      refine ⟨_, rfl, ?_⟩
      clear hs a; intro a hs
      replace B1 := B1.below hb B1.lt
      replace B2 := B2.below hb B2.lt
      replace B3 := B3.below hb B3.lt
      replace ho := own_far ho hb
      replace hB := later hB hb
      clear hb
      refine ⟨⟨B1, B2, B3, trivial⟩, ?_⟩
      refine atD_seg (m := 3) [12] [8, 11, 10, 9, 7, 6, 5, 4, 3, 2, 1, 0] [] [2, 3, 5, 9, 13, 14, 15, 16, 17, 173, 185] [(2, .int .i64 top), (3, .int .i64 depth), (5, .pointer (some ⟨b1, 0, none⟩)), (9, .pointer (some ⟨b2, 0, none⟩)), (13, .int .i64 (n : Int)), (14, .slice (some ⟨b3, 0, none⟩) 4 4), (15, .func (.func 28) #[] #[]), (16, v), (17, .int .i64 ((k : Int) + 1)), (173, v), (185, .agg #[.int .i64 4, .int .i64 x, .int .i64 (y + (radius - rad)), .int .i64 (-((((k : Int) + 1) * depth + (4 * (n : Int)) - 1) / (4 * (n : Int)))), .int .i64 x, .int .i64 y, .int .i64 fd])] (fun w => True) hs ⟨B1, B2, B3, trivial⟩ (by kernel_rfl) (by kernel_rfl) (fun w ⟨B1, B2, B3, _⟩ => trivial) ?_
      clear hs a; intro a hs
      refine atD_op (m := 2) (j := 13) (D := [12, 8, 11, 10, 9, 7, 6, 5, 4, 3, 2, 1, 0]) hs (by kernel_rfl) (by kernel_rfl) (new1 (t := 48) (cs := #[.int .i64 4, .int .i64 x, .int .i64 (y + (radius - rad)), .int .i64 (-((((k : Int) + 1) * depth + (4 * (n : Int)) - 1) / (4 * (n : Int)))), .int .i64 x, .int .i64 y, .int .i64 fd]) (fun rb_ => .slice (some ⟨rb_, 0, none⟩) 1 1) [2, 3, 5, 9, 13, 14, 15, 16, 17, 173, 186] (fun rb_ => [(2, .int .i64 top), (3, .int .i64 depth), (5, .pointer (some ⟨b1, 0, none⟩)), (9, .pointer (some ⟨b2, 0, none⟩)), (13, .int .i64 (n : Int)), (14, .slice (some ⟨b3, 0, none⟩) 4 4), (15, .func (.func 28) #[] #[]), (16, v), (17, .int .i64 ((k : Int) + 1)), (173, v), (186, .slice (some ⟨rb_, 0, none⟩) 1 1)]) hs (fun _ => by kernel_rfl) (fun _ => by kernel_rfl) ?_)
      clear hs a; intro a w16 b6 hn hs
      have B6 := hn.blk
      have l6 : w.heap.size ≤ b6 := by rw [hn.at_]; exact hB.size
      have l6' : b3 < b6 := by rw [hn.at_]; exact B3.lt
      replace B1 := B1.below hn.below B1.lt
      replace B2 := B2.below hn.below B2.lt
      replace B3 := B3.below hn.below B3.lt
      replace ho := own_far ho hn.below
      replace hB := later hB hn.below
      clear hn
      refine ⟨⟨B1, B2, B3, trivial⟩, ?_⟩
      refine atD_op (m := 1) (j := 14) (D := [13, 12, 8, 11, 10, 9, 7, 6, 5, 4, 3, 2, 1, 0]) hs (by kernel_rfl) (by kernel_rfl) (append1 (v := v) (b := b6) (off := 0) (m := 1) (c := 1) (cs := [.int .i64 4, .int .i64 x, .int .i64 (y + (radius - rad)), .int .i64 (-((((k : Int) + 1) * depth + (4 * (n : Int)) - 1) / (4 * (n : Int)))), .int .i64 x, .int .i64 y, .int .i64 fd]) ((.tmp 173), (.tmp 186)) [2, 3, 5, 9, 13, 14, 15, 16, 17, 187] (fun rv_ => [(2, .int .i64 top), (3, .int .i64 depth), (5, .pointer (some ⟨b1, 0, none⟩)), (9, .pointer (some ⟨b2, 0, none⟩)), (13, .int .i64 (n : Int)), (14, .slice (some ⟨b3, 0, none⟩) 4 4), (15, .func (.func 28) #[] #[]), (16, v), (17, .int .i64 ((k : Int) + 1)), (187, rv_)]) hs (by kernel_rfl) rfl rfl (fun _ => by kernel_rfl) elem34 ho rfl (blk_row B6) (by simp [Value.oneCell']) (by unfold maxLen; omega) (by omega) (by have := hB.size; have := B1.lt; have := B2.lt; have := B3.lt; have := B6.lt; omega) ?_)
      clear hs a; intro v4 a w17 ho5 hg hs
      skip
      replace B1 := own_keep_t hg ho B1 (by decide)
      replace B2 := own_keep_t hg ho B2 (by decide)
      replace B3 := own_keep_t hg ho B3 (by decide)
      replace hB := hB.grown hg hB.size (fun kk hk => Nat.le_trans (by omega) (ho.lt kk hk).1)
      clear hg B6 ho
      refine ⟨⟨B1, B2, B3, trivial⟩, ?_⟩
      refine atD_seg (m := 0) [15] [14, 13, 12, 8, 11, 10, 9, 7, 6, 5, 4, 3, 2, 1, 0] [] [2, 3, 5, 9, 13, 14, 15, 16, 17] [(2, .int .i64 top), (3, .int .i64 depth), (5, .pointer (some ⟨b1, 0, none⟩)), (9, .pointer (some ⟨b2, 0, none⟩)), (13, .int .i64 (n : Int)), (14, .slice (some ⟨b3, 0, none⟩) 4 4), (15, .func (.func 28) #[] #[]), (16, v4), (17, .int .i64 ((k : Int) + 1))] (fun w => True) hs ⟨B1, B2, B3, trivial⟩ (by kernel_rfl) (by kernel_rfl) (fun w ⟨B1, B2, B3, _⟩ => trivial) ?_
      clear hs a; intro a hs
      refine atD_done (by kernel_rfl) ?_
      refine wayN_node rfl ?_
      refine at_region (id := 18) (by kernel_rfl) ?_
      refine atR_seg (m := 3) (H := [(1, some (.int .i64 ((k : Int) + 1 + 1)), [])]) (ts := [2, 3, 5, 9, 13, 14, 15, 16, 17]) (L' := [(2, .int .i64 top), (3, .int .i64 depth), (5, .pointer (some ⟨b1, 0, none⟩)), (9, .pointer (some ⟨b2, 0, none⟩)), (13, .int .i64 (n : Int)), (14, .slice (some ⟨b3, 0, none⟩) 4 4), (15, .func (.func 28) #[] #[]), (16, v4), (17, .int .i64 ((k : Int) + 1 + 1))]) (O := fun w => (W .i64 ((k : Int) + 1 + 1)) ∧ True) hs (by kernel_rfl) ⟨w64 (by omega) (by omega), trivial⟩ ?_
      clear hs a; intro a hs
      refine atR_end (by kernel_rfl) ?_
      refine wayN_back ?_
      dsimp only [lpOf]
      exact ⟨k + 1, v4, ⟨hs.sub ⟨⟨_, rfl, rfl⟩, ⟨_, rfl, rfl⟩, ⟨_, rfl, rfl⟩, ⟨_, rfl, rfl⟩, ⟨_, rfl, rfl⟩, ⟨_, rfl, rfl⟩, ⟨_, rfl, rfl⟩, ⟨_, rfl, rfl⟩, ⟨_, rfl, (by first | rfl | (push_cast; rfl) | (congr 1; omega))⟩, trivial⟩, B1, B2, B3, hB, by omega, by rw [arcs_succ, har]; simpa [mvc] using ho5⟩, by omega⟩
    · have har := arcC_case x y (radius - rad) depth (n : Int) fd k 2 hr
      simp only [qx, qy] at har
      refine at_draw (fun W => Blk W b1 30 #[.int .i64 x, .int .i64 y] ∧ Blk W b2 33 #[.int .i64 num, .int .i64 kind, .int .i64 rad, .int .i64 flu, .int .i64 hol, .int .i64 stp, .int .i64 fd, .int .i64 plu] ∧ Blk W b3 30 #[.int .i64 (x + (radius - rad)), .int .i64 y, .int .i64 x, .int .i64 (y + (radius - rad)), .int .i64 (x - (radius - rad)), .int .i64 y, .int .i64 x, .int .i64 (y - (radius - rad))] ∧ True) (id := 20) (by kernel_rfl) (by kernel_rfl) 16 (by kernel_rfl) ?_
      intro w18 hb
      replace B1 := B1.below hb B1.lt
      replace B2 := B2.below hb B2.lt
      replace B3 := B3.below hb B3.lt
      replace ho := own_far ho hb
      replace hB := later hB hb
      clear hb
      refine atD_seg (m := 5) [0, 1, 2, 3, 4, 5, 6, 7, 9, 10, 11] [] [(4, some (.int .i64 2), []), (6, none, [.int .i64 (x - (radius - rad)), .int .i64 y]), (9, none, [.int .i64 x, .int .i64 y]), (11, none, [.int .i64 fd])] [2, 3, 5, 9, 13, 14, 15, 16, 17, 173, 174, 179, 180, 182, 184] [(2, .int .i64 top), (3, .int .i64 depth), (5, .pointer (some ⟨b1, 0, none⟩)), (9, .pointer (some ⟨b2, 0, none⟩)), (13, .int .i64 (n : Int)), (14, .slice (some ⟨b3, 0, none⟩) 4 4), (15, .func (.func 28) #[] #[]), (16, v), (17, .int .i64 ((k : Int) + 1)), (173, v), (174, .func (.func 28) #[] #[]), (179, .agg #[.int .i64 (x - (radius - rad)), .int .i64 y]), (180, .int .i64 (-((((k : Int) + 1) * depth + (4 * (n : Int)) - 1) / (4 * (n : Int))))), (182, .agg #[.int .i64 x, .int .i64 y]), (184, .int .i64 fd)] (fun w => (Value.int .i64 (((k : Int) + 1).tmod 4) = .int .i64 2) ∧ ((4 : Int) ≠ 0) ∧ ((0 : Int) ≤ 2 ∧ 2 < ((4 : Nat) : Int)) ∧ (w.cell? ⟨b3, 4, none⟩ = some (.int .i64 (x - (radius - rad)))) ∧ (w.cell? ⟨b3, 5, none⟩ = some (.int .i64 y)) ∧ (w.cell? ⟨b1, 0, none⟩ = some (.int .i64 x)) ∧ (w.cell? ⟨b1, 1, none⟩ = some (.int .i64 y)) ∧ (w.cell? ⟨b2, 6, none⟩ = some (.int .i64 fd)) ∧ True) hs ⟨B1, B2, B3, trivial⟩ (by kernel_rfl) (by kernel_rfl) (fun w ⟨B1, B2, B3, _⟩ => ⟨tmod4 k 2 hr, by decide, ⟨by omega, by omega⟩, B3.cell 4 rfl, B3.cell 5 rfl, B1.cell 0 rfl, B1.cell 1 rfl, B2.cell 6 rfl, trivial⟩) ?_
      clear hs a; intro a hs
      refine atD_op (m := 4) (j := 8) (D := [11, 10, 9, 7, 6, 5, 4, 3, 2, 1, 0]) hs (by kernel_rfl) (by kernel_rfl) (call1 (f := 28) (args := #[.agg #[.int .i64 (x - (radius - rad)), .int .i64 y], .int .i64 (-((((k : Int) + 1) * depth + (4 * (n : Int)) - 1) / (4 * (n : Int))))]) [2, 3, 5, 9, 13, 14, 15, 16, 17, 173, 181, 182, 184] (fun rv_ => [(2, .int .i64 top), (3, .int .i64 depth), (5, .pointer (some ⟨b1, 0, none⟩)), (9, .pointer (some ⟨b2, 0, none⟩)), (13, .int .i64 (n : Int)), (14, .slice (some ⟨b3, 0, none⟩) 4 4), (15, .func (.func 28) #[] #[]), (16, v), (17, .int .i64 ((k : Int) + 1)), (173, v), (181, rv_), (182, .agg #[.int .i64 x, .int .i64 y]), (184, .int .i64 fd)]) hs (by kernel_rfl) (fun _ => by kernel_rfl) ?_)
      refine (pos_any _ _ _ _).mono ?_
      rintro e w19 ⟨rfl, hb⟩
      refine ⟨_, rfl, ?_⟩
      clear hs a; intro a hs
      replace B1 := B1.below hb B1.lt
      replace B2 := B2.below hb B2.lt
      replace B3 := B3.below hb B3.lt
      replace ho := own_far ho hb
      replace hB := later hB hb
      clear hb
      refine ⟨⟨B1, B2, B3, trivial⟩, ?_⟩
      refine atD_seg (m := 3) [12] [8, 11, 10, 9, 7, 6, 5, 4, 3, 2, 1, 0] [] [2, 3, 5, 9, 13, 14, 15, 16, 17, 173, 185] [(2, .int .i64 top), (3, .int .i64 depth), (5, .pointer (some ⟨b1, 0, none⟩)), (9, .pointer (some ⟨b2, 0, none⟩)), (13, .int .i64 (n : Int)), (14, .slice (some ⟨b3, 0, none⟩) 4 4), (15, .func (.func 28) #[] #[]), (16, v), (17, .int .i64 ((k : Int) + 1)), (173, v), (185, .agg #[.int .i64 4, .int .i64 (x - (radius - rad)), .int .i64 y, .int .i64 (-((((k : Int) + 1) * depth + (4 * (n : Int)) - 1) / (4 * (n : Int)))), .int .i64 x, .int .i64 y, .int .i64 fd])] (fun w => True) hs ⟨B1, B2, B3, trivial⟩ (by kernel_rfl) (by kernel_rfl) (fun w ⟨B1, B2, B3, _⟩ => trivial) ?_
      clear hs a; intro a hs
      refine atD_op (m := 2) (j := 13) (D := [12, 8, 11, 10, 9, 7, 6, 5, 4, 3, 2, 1, 0]) hs (by kernel_rfl) (by kernel_rfl) (new1 (t := 48) (cs := #[.int .i64 4, .int .i64 (x - (radius - rad)), .int .i64 y, .int .i64 (-((((k : Int) + 1) * depth + (4 * (n : Int)) - 1) / (4 * (n : Int)))), .int .i64 x, .int .i64 y, .int .i64 fd]) (fun rb_ => .slice (some ⟨rb_, 0, none⟩) 1 1) [2, 3, 5, 9, 13, 14, 15, 16, 17, 173, 186] (fun rb_ => [(2, .int .i64 top), (3, .int .i64 depth), (5, .pointer (some ⟨b1, 0, none⟩)), (9, .pointer (some ⟨b2, 0, none⟩)), (13, .int .i64 (n : Int)), (14, .slice (some ⟨b3, 0, none⟩) 4 4), (15, .func (.func 28) #[] #[]), (16, v), (17, .int .i64 ((k : Int) + 1)), (173, v), (186, .slice (some ⟨rb_, 0, none⟩) 1 1)]) hs (fun _ => by kernel_rfl) (fun _ => by kernel_rfl) ?_)
      clear hs a; intro a w20 b7 hn hs
      have B7 := hn.blk
      have l7 : w.heap.size ≤ b7 := by rw [hn.at_]; exact hB.size
      have l7' : b3 < b7 := by rw [hn.at_]; exact B3.lt
      replace B1 := B1.below hn.below B1.lt
      replace B2 := B2.below hn.below B2.lt
      replace B3 := B3.below hn.below B3.lt
      replace ho := own_far ho hn.below
      replace hB := later hB hn.below
      clear hn
      refine ⟨⟨B1, B2, B3, trivial⟩, ?_⟩
      refine atD_op (m := 1) (j := 14) (D := [13, 12, 8, 11, 10, 9, 7, 6, 5, 4, 3, 2, 1, 0]) hs (by kernel_rfl) (by kernel_rfl) (append1 (v := v) (b := b7) (off := 0) (m := 1) (c := 1) (cs := [.int .i64 4, .int .i64 (x - (radius - rad)), .int .i64 y, .int .i64 (-((((k : Int) + 1) * depth + (4 * (n : Int)) - 1) / (4 * (n : Int)))), .int .i64 x, .int .i64 y, .int .i64 fd]) ((.tmp 173), (.tmp 186)) [2, 3, 5, 9, 13, 14, 15, 16, 17, 187] (fun rv_ => [(2, .int .i64 top), (3, .int .i64 depth), (5, .pointer (some ⟨b1, 0, none⟩)), (9, .pointer (some ⟨b2, 0, none⟩)), (13, .int .i64 (n : Int)), (14, .slice (some ⟨b3, 0, none⟩) 4 4), (15, .func (.func 28) #[] #[]), (16, v), (17, .int .i64 ((k : Int) + 1)), (187, rv_)]) hs (by kernel_rfl) rfl rfl (fun _ => by kernel_rfl) elem34 ho rfl (blk_row B7) (by simp [Value.oneCell']) (by unfold maxLen; omega) (by omega) (by have := hB.size; have := B1.lt; have := B2.lt; have := B3.lt; have := B7.lt; omega) ?_)
      clear hs a; intro v6 a w21 ho7 hg hs
      skip
      replace B1 := own_keep_t hg ho B1 (by decide)
      replace B2 := own_keep_t hg ho B2 (by decide)
      replace B3 := own_keep_t hg ho B3 (by decide)
      replace hB := hB.grown hg hB.size (fun kk hk => Nat.le_trans (by omega) (ho.lt kk hk).1)
      clear hg B7 ho
      refine ⟨⟨B1, B2, B3, trivial⟩, ?_⟩
      refine atD_seg (m := 0) [15] [14, 13, 12, 8, 11, 10, 9, 7, 6, 5, 4, 3, 2, 1, 0] [] [2, 3, 5, 9, 13, 14, 15, 16, 17] [(2, .int .i64 top), (3, .int .i64 depth), (5, .pointer (some ⟨b1, 0, none⟩)), (9, .pointer (some ⟨b2, 0, none⟩)), (13, .int .i64 (n : Int)), (14, .slice (some ⟨b3, 0, none⟩) 4 4), (15, .func (.func 28) #[] #[]), (16, v6), (17, .int .i64 ((k : Int) + 1))] (fun w => True) hs ⟨B1, B2, B3, trivial⟩ (by kernel_rfl) (by kernel_rfl) (fun w ⟨B1, B2, B3, _⟩ => trivial) ?_
      clear hs a; intro a hs
      refine atD_done (by kernel_rfl) ?_
      refine wayN_node rfl ?_
      refine at_region (id := 18) (by kernel_rfl) ?_
      refine atR_seg (m := 3) (H := [(1, some (.int .i64 ((k : Int) + 1 + 1)), [])]) (ts := [2, 3, 5, 9, 13, 14, 15, 16, 17]) (L' := [(2, .int .i64 top), (3, .int .i64 depth), (5, .pointer (some ⟨b1, 0, none⟩)), (9, .pointer (some ⟨b2, 0, none⟩)), (13, .int .i64 (n : Int)), (14, .slice (some ⟨b3, 0, none⟩) 4 4), (15, .func (.func 28) #[] #[]), (16, v6), (17, .int .i64 ((k : Int) + 1 + 1))]) (O := fun w => (W .i64 ((k : Int) + 1 + 1)) ∧ True) hs (by kernel_rfl) ⟨w64 (by omega) (by omega), trivial⟩ ?_
      clear hs a; intro a hs
      refine atR_end (by kernel_rfl) ?_
      refine wayN_back ?_
      dsimp only [lpOf]
      exact ⟨k + 1, v6, ⟨hs.sub ⟨⟨_, rfl, rfl⟩, ⟨_, rfl, rfl⟩, ⟨_, rfl, rfl⟩, ⟨_, rfl, rfl⟩, ⟨_, rfl, rfl⟩, ⟨_, rfl, rfl⟩, ⟨_, rfl, rfl⟩, ⟨_, rfl, rfl⟩, ⟨_, rfl, (by first | rfl | (push_cast; rfl) | (congr 1; omega))⟩, trivial⟩, B1, B2, B3, hB, by omega, by rw [arcs_succ, har]; simpa [mvc] using ho7⟩, by omega⟩
    · have har := arcC_case x y (radius - rad) depth (n : Int) fd k 3 hr
      simp only [qx, qy] at har
      refine at_draw (fun W => Blk W b1 30 #[.int .i64 x, .int .i64 y] ∧ Blk W b2 33 #[.int .i64 num, .int .i64 kind, .int .i64 rad, .int .i64 flu, .int .i64 hol, .int .i64 stp, .int .i64 fd, .int .i64 plu] ∧ Blk W b3 30 #[.int .i64 (x + (radius - rad)), .int .i64 y, .int .i64 x, .int .i64 (y + (radius - rad)), .int .i64 (x - (radius - rad)), .int .i64 y, .int .i64 x, .int .i64 (y - (radius - rad))] ∧ True) (id := 20) (by kernel_rfl) (by kernel_rfl) 16 (by kernel_rfl) ?_
      intro w22 hb
      replace B1 := B1.below hb B1.lt
      replace B2 := B2.below hb B2.lt
      replace B3 := B3.below hb B3.lt
      replace ho := own_far ho hb
      replace hB := later hB hb
      clear hb
      refine atD_seg (m := 5) [0, 1, 2, 3, 4, 5, 6, 7, 9, 10, 11] [] [(4, some (.int .i64 3), []), (6, none, [.int .i64 x, .int .i64 (y - (radius - rad))]), (9, none, [.int .i64 x, .int .i64 y]), (11, none, [.int .i64 fd])] [2, 3, 5, 9, 13, 14, 15, 16, 17, 173, 174, 179, 180, 182, 184] [(2, .int .i64 top), (3, .int .i64 depth), (5, .pointer (some ⟨b1, 0, none⟩)), (9, .pointer (some ⟨b2, 0, none⟩)), (13, .int .i64 (n : Int)), (14, .slice (some ⟨b3, 0, none⟩) 4 4), (15, .func (.func 28) #[] #[]), (16, v), (17, .int .i64 ((k : Int) + 1)), (173, v), (174, .func (.func 28) #[] #[]), (179, .agg #[.int .i64 x, .int .i64 (y - (radius - rad))]), (180, .int .i64 (-((((k : Int) + 1) * depth + (4 * (n : Int)) - 1) / (4 * (n : Int))))), (182, .agg #[.int .i64 x, .int .i64 y]), (184, .int .i64 fd)] (fun w => (Value.int .i64 (((k : Int) + 1).tmod 4) = .int .i64 3) ∧ ((4 : Int) ≠ 0) ∧ ((0 : Int) ≤ 3 ∧ 3 < ((4 : Nat) : Int)) ∧ (w.cell? ⟨b3, 6, none⟩ = some (.int .i64 x)) ∧ (w.cell? ⟨b3, 7, none⟩ = some (.int .i64 (y - (radius - rad)))) ∧ (w.cell? ⟨b1, 0, none⟩ = some (.int .i64 x)) ∧ (w.cell? ⟨b1, 1, none⟩ = some (.int .i64 y)) ∧ (w.cell? ⟨b2, 6, none⟩ = some (.int .i64 fd)) ∧ True) hs ⟨B1, B2, B3, trivial⟩ (by kernel_rfl) (by kernel_rfl) (fun w ⟨B1, B2, B3, _⟩ => ⟨tmod4 k 3 hr, by decide, ⟨by omega, by omega⟩, B3.cell 6 rfl, B3.cell 7 rfl, B1.cell 0 rfl, B1.cell 1 rfl, B2.cell 6 rfl, trivial⟩) ?_
      clear hs a; intro a hs
      refine atD_op (m := 4) (j := 8) (D := [11, 10, 9, 7, 6, 5, 4, 3, 2, 1, 0]) hs (by kernel_rfl) (by kernel_rfl) (call1 (f := 28) (args := #[.agg #[.int .i64 x, .int .i64 (y - (radius - rad))], .int .i64 (-((((k : Int) + 1) * depth + (4 * (n : Int)) - 1) / (4 * (n : Int))))]) [2, 3, 5, 9, 13, 14, 15, 16, 17, 173, 181, 182, 184] (fun rv_ => [(2, .int .i64 top), (3, .int .i64 depth), (5, .pointer (some ⟨b1, 0, none⟩)), (9, .pointer (some ⟨b2, 0, none⟩)), (13, .int .i64 (n : Int)), (14, .slice (some ⟨b3, 0, none⟩) 4 4), (15, .func (.func 28) #[] #[]), (16, v), (17, .int .i64 ((k : Int) + 1)), (173, v), (181, rv_), (182, .agg #[.int .i64 x, .int .i64 y]), (184, .int .i64 fd)]) hs (by kernel_rfl) (fun _ => by kernel_rfl) ?_)
      refine (pos_any _ _ _ _).mono ?_
      rintro e w23 ⟨rfl, hb⟩
      refine ⟨_, rfl, ?_⟩
      clear hs a; intro a hs
      replace B1 := B1.below hb B1.lt
      replace B2 := B2.below hb B2.lt
      replace B3 := B3.below hb B3.lt
      replace ho := own_far ho hb
      replace hB := later hB hb
      clear hb
      refine ⟨⟨B1, B2, B3, trivial⟩, ?_⟩
      refine atD_seg (m := 3) [12] [8, 11, 10, 9, 7, 6, 5, 4, 3, 2, 1, 0] [] [2, 3, 5, 9, 13, 14, 15, 16, 17, 173, 185] [(2, .int .i64 top), (3, .int .i64 depth), (5, .pointer (some ⟨b1, 0, none⟩)), (9, .pointer (some ⟨b2, 0, none⟩)), (13, .int .i64 (n : Int)), (14, .slice (some ⟨b3, 0, none⟩) 4 4), (15, .func (.func 28) #[] #[]), (16, v), (17, .int .i64 ((k : Int) + 1)), (173, v), (185, .agg #[.int .i64 4, .int .i64 x, .int .i64 (y - (radius - rad)), .int .i64 (-((((k : Int) + 1) * depth + (4 * (n : Int)) - 1) / (4 * (n : Int)))), .int .i64 x, .int .i64 y, .int .i64 fd])] (fun w => True) hs ⟨B1, B2, B3, trivial⟩ (by kernel_rfl) (by kernel_rfl) (fun w ⟨B1, B2, B3, _⟩ => trivial) ?_
      clear hs a; intro a hs
      refine atD_op (m := 2) (j := 13) (D := [12, 8, 11, 10, 9, 7, 6, 5, 4, 3, 2, 1, 0]) hs (by kernel_rfl) (by kernel_rfl) (new1 (t := 48) (cs := #[.int .i64 4, .int .i64 x, .int .i64 (y - (radius - rad)), .int .i64 (-((((k : Int) + 1) * depth + (4 * (n : Int)) - 1) / (4 * (n : Int)))), .int .i64 x, .int .i64 y, .int .i64 fd]) (fun rb_ => .slice (some ⟨rb_, 0, none⟩) 1 1) [2, 3, 5, 9, 13, 14, 15, 16, 17, 173, 186] (fun rb_ => [(2, .int .i64 top), (3, .int .i64 depth), (5, .pointer (some ⟨b1, 0, none⟩)), (9, .pointer (some ⟨b2, 0, none⟩)), (13, .int .i64 (n : Int)), (14, .slice (some ⟨b3, 0, none⟩) 4 4), (15, .func (.func 28) #[] #[]), (16, v), (17, .int .i64 ((k : Int) + 1)), (173, v), (186, .slice (some ⟨rb_, 0, none⟩) 1 1)]) hs (fun _ => by kernel_rfl) (fun _ => by kernel_rfl) ?_)
      clear hs a; intro a w24 b8 hn hs
      have B8 := hn.blk
      have l8 : w.heap.size ≤ b8 := by rw [hn.at_]; exact hB.size
      have l8' : b3 < b8 := by rw [hn.at_]; exact B3.lt
      replace B1 := B1.below hn.below B1.lt
      replace B2 := B2.below hn.below B2.lt
      replace B3 := B3.below hn.below B3.lt
      replace ho := own_far ho hn.below
      replace hB := later hB hn.below
      clear hn
      refine ⟨⟨B1, B2, B3, trivial⟩, ?_⟩
      refine atD_op (m := 1) (j := 14) (D := [13, 12, 8, 11, 10, 9, 7, 6, 5, 4, 3, 2, 1, 0]) hs (by kernel_rfl) (by kernel_rfl) (append1 (v := v) (b := b8) (off := 0) (m := 1) (c := 1) (cs := [.int .i64 4, .int .i64 x, .int .i64 (y - (radius - rad)), .int .i64 (-((((k : Int) + 1) * depth + (4 * (n : Int)) - 1) / (4 * (n : Int)))), .int .i64 x, .int .i64 y, .int .i64 fd]) ((.tmp 173), (.tmp 186)) [2, 3, 5, 9, 13, 14, 15, 16, 17, 187] (fun rv_ => [(2, .int .i64 top), (3, .int .i64 depth), (5, .pointer (some ⟨b1, 0, none⟩)), (9, .pointer (some ⟨b2, 0, none⟩)), (13, .int .i64 (n : Int)), (14, .slice (some ⟨b3, 0, none⟩) 4 4), (15, .func (.func 28) #[] #[]), (16, v), (17, .int .i64 ((k : Int) + 1)), (187, rv_)]) hs (by kernel_rfl) rfl rfl (fun _ => by kernel_rfl) elem34 ho rfl (blk_row B8) (by simp [Value.oneCell']) (by unfold maxLen; omega) (by omega) (by have := hB.size; have := B1.lt; have := B2.lt; have := B3.lt; have := B8.lt; omega) ?_)
      clear hs a; intro v8 a w25 ho9 hg hs
      skip
      replace B1 := own_keep_t hg ho B1 (by decide)
      replace B2 := own_keep_t hg ho B2 (by decide)
      replace B3 := own_keep_t hg ho B3 (by decide)
      replace hB := hB.grown hg hB.size (fun kk hk => Nat.le_trans (by omega) (ho.lt kk hk).1)
      clear hg B8 ho
      refine ⟨⟨B1, B2, B3, trivial⟩, ?_⟩
      refine atD_seg (m := 0) [15] [14, 13, 12, 8, 11, 10, 9, 7, 6, 5, 4, 3, 2, 1, 0] [] [2, 3, 5, 9, 13, 14, 15, 16, 17] [(2, .int .i64 top), (3, .int .i64 depth), (5, .pointer (some ⟨b1, 0, none⟩)), (9, .pointer (some ⟨b2, 0, none⟩)), (13, .int .i64 (n : Int)), (14, .slice (some ⟨b3, 0, none⟩) 4 4), (15, .func (.func 28) #[] #[]), (16, v8), (17, .int .i64 ((k : Int) + 1))] (fun w => True) hs ⟨B1, B2, B3, trivial⟩ (by kernel_rfl) (by kernel_rfl) (fun w ⟨B1, B2, B3, _⟩ => trivial) ?_
      clear hs a; intro a hs
      refine atD_done (by kernel_rfl) ?_
      refine wayN_node rfl ?_
      refine at_region (id := 18) (by kernel_rfl) ?_
      refine atR_seg (m := 3) (H := [(1, some (.int .i64 ((k : Int) + 1 + 1)), [])]) (ts := [2, 3, 5, 9, 13, 14, 15, 16, 17]) (L' := [(2, .int .i64 top), (3, .int .i64 depth), (5, .pointer (some ⟨b1, 0, none⟩)), (9, .pointer (some ⟨b2, 0, none⟩)), (13, .int .i64 (n : Int)), (14, .slice (some ⟨b3, 0, none⟩) 4 4), (15, .func (.func 28) #[] #[]), (16, v8), (17, .int .i64 ((k : Int) + 1 + 1))]) (O := fun w => (W .i64 ((k : Int) + 1 + 1)) ∧ True) hs (by kernel_rfl) ⟨w64 (by omega) (by omega), trivial⟩ ?_
      clear hs a; intro a hs
      refine atR_end (by kernel_rfl) ?_
      refine wayN_back ?_
      dsimp only [lpOf]
      exact ⟨k + 1, v8, ⟨hs.sub ⟨⟨_, rfl, rfl⟩, ⟨_, rfl, rfl⟩, ⟨_, rfl, rfl⟩, ⟨_, rfl, rfl⟩, ⟨_, rfl, rfl⟩, ⟨_, rfl, rfl⟩, ⟨_, rfl, rfl⟩, ⟨_, rfl, rfl⟩, ⟨_, rfl, (by first | rfl | (push_cast; rfl) | (congr 1; omega))⟩, trivial⟩, B1, B2, B3, hB, by omega, by rw [arcs_succ, har]; simpa [mvc] using ho9⟩, by omega⟩
  · have cd1 := hb; have cd1b := hb; clear hb
    replace cd1 := of_decide_eq_false cd1
    refine at_exit (id := 1) (by kernel_rfl) (wayE_ok rfl ?_)
    refine wayN_node rfl ?_
    refine at_seq (j := 68) (by kernel_rfl) ?_
    refine at_draw (fun W => Blk W b1 30 #[.int .i64 x, .int .i64 y] ∧ Blk W b2 33 #[.int .i64 num, .int .i64 kind, .int .i64 rad, .int .i64 flu, .int .i64 hol, .int .i64 stp, .int .i64 fd, .int .i64 plu] ∧ Blk W b3 30 #[.int .i64 (x + (radius - rad)), .int .i64 y, .int .i64 x, .int .i64 (y + (radius - rad)), .int .i64 (x - (radius - rad)), .int .i64 y, .int .i64 x, .int .i64 (y - (radius - rad))] ∧ True) (id := 21) (by kernel_rfl) (by kernel_rfl) 29 (by kernel_rfl) ?_
    intro w26 hb
    replace B1 := B1.below hb B1.lt
    replace B2 := B2.below hb B2.lt
    replace B3 := B3.below hb B3.lt
    replace ho := own_far ho hb
    replace hB := later hB hb
    clear hb
    refine atD_seg (m := 10) [0, 1, 2, 3, 4, 5, 6, 8, 9, 10, 12, 13, 14, 15, 17, 18, 20, 21, 22] [] [(4, none, [.int .i64 (x + (radius - rad)), .int .i64 y]), (6, some (.int .i64 (-depth)), []), (8, none, [.int .i64 x, .int .i64 y]), (10, none, [.int .i64 fd]), (13, none, [.int .i64 x, .int .i64 y]), (15, some (.int .i64 (-depth)), []), (18, none, [.int .i64 fd]), (21, none, [.int .i64 x, .int .i64 y])] [188, 189, 192, 194, 196, 198, 200, 201, 203, 206, 208, 209, 210] [(188, v), (189, .func (.func 28) #[] #[]), (192, .agg #[.int .i64 (x + (radius - rad)), .int .i64 y]), (194, .int .i64 (-depth)), (196, .agg #[.int .i64 x, .int .i64 y]), (198, .int .i64 fd), (200, .func (.func 28) #[] #[]), (201, .agg #[.int .i64 x, .int .i64 y]), (203, .int .i64 (-depth)), (206, .int .i64 fd), (208, .func (.func 28) #[] #[]), (209, .agg #[.int .i64 x, .int .i64 y]), (210, .int .i64 top)] (fun w => ((0 : Int) ≤ 0 ∧ 0 < ((4 : Nat) : Int)) ∧ (w.cell? ⟨b3, 0, none⟩ = some (.int .i64 (x + (radius - rad)))) ∧ (w.cell? ⟨b3, 1, none⟩ = some (.int .i64 y)) ∧ (Wn .i64 depth) ∧ (w.cell? ⟨b1, 0, none⟩ = some (.int .i64 x)) ∧ (w.cell? ⟨b1, 1, none⟩ = some (.int .i64 y)) ∧ (w.cell? ⟨b2, 6, none⟩ = some (.int .i64 fd)) ∧ (w.cell? ⟨b1, 0, none⟩ = some (.int .i64 x)) ∧ (w.cell? ⟨b1, 1, none⟩ = some (.int .i64 y)) ∧ (Wn .i64 depth) ∧ (w.cell? ⟨b2, 6, none⟩ = some (.int .i64 fd)) ∧ (w.cell? ⟨b1, 0, none⟩ = some (.int .i64 x)) ∧ (w.cell? ⟨b1, 1, none⟩ = some (.int .i64 y)) ∧ True) hs ⟨B1, B2, B3, trivial⟩ (by kernel_rfl) (by kernel_rfl) (fun w ⟨B1, B2, B3, _⟩ => ⟨⟨by omega, by omega⟩, B3.cell 0 rfl, B3.cell 1 rfl, wn64 (by omega) (by omega), B1.cell 0 rfl, B1.cell 1 rfl, B2.cell 6 rfl, B1.cell 0 rfl, B1.cell 1 rfl, wn64 (by omega) (by omega), B2.cell 6 rfl, B1.cell 0 rfl, B1.cell 1 rfl, trivial⟩) ?_
    clear hs a; intro a hs
    refine atD_op (m := 9) (j := 7) (D := [22, 21, 20, 18, 17, 15, 14, 13, 12, 10, 9, 8, 6, 5, 4, 3, 2, 1, 0]) hs (by kernel_rfl) (by kernel_rfl) (call1 (f := 28) (args := #[.agg #[.int .i64 (x + (radius - rad)), .int .i64 y], .int .i64 (-depth)]) [188, 195, 196, 198, 200, 201, 203, 206, 208, 209, 210] (fun rv_ => [(188, v), (195, rv_), (196, .agg #[.int .i64 x, .int .i64 y]), (198, .int .i64 fd), (200, .func (.func 28) #[] #[]), (201, .agg #[.int .i64 x, .int .i64 y]), (203, .int .i64 (-depth)), (206, .int .i64 fd), (208, .func (.func 28) #[] #[]), (209, .agg #[.int .i64 x, .int .i64 y]), (210, .int .i64 top)]) hs (by kernel_rfl) (fun _ => by kernel_rfl) ?_)
    refine (pos_any _ _ _ _).mono ?_
    rintro e w27 ⟨rfl, hb⟩
    refine ⟨_, rfl, ?_⟩
    clear hs a; intro a hs
    replace B1 := B1.below hb B1.lt
    replace B2 := B2.below hb B2.lt
    replace B3 := B3.below hb B3.lt
    replace ho := own_far ho hb
    replace hB := later hB hb
    clear hb
    refine ⟨⟨B1, B2, B3, trivial⟩, ?_⟩
    refine atD_seg (m := 8) [11] [7, 22, 21, 20, 18, 17, 15, 14, 13, 12, 10, 9, 8, 6, 5, 4, 3, 2, 1, 0] [] [188, 199, 200, 201, 203, 206, 208, 209, 210] [(188, v), (199, .agg #[.int .i64 4, .int .i64 (x + (radius - rad)), .int .i64 y, .int .i64 (-depth), .int .i64 x, .int .i64 y, .int .i64 fd]), (200, .func (.func 28) #[] #[]), (201, .agg #[.int .i64 x, .int .i64 y]), (203, .int .i64 (-depth)), (206, .int .i64 fd), (208, .func (.func 28) #[] #[]), (209, .agg #[.int .i64 x, .int .i64 y]), (210, .int .i64 top)] (fun w => True) hs ⟨B1, B2, B3, trivial⟩ (by kernel_rfl) (by kernel_rfl) (fun w ⟨B1, B2, B3, _⟩ => trivial) ?_
    clear hs a; intro a hs
    refine atD_op (m := 7) (j := 16) (D := [11, 7, 22, 21, 20, 18, 17, 15, 14, 13, 12, 10, 9, 8, 6, 5, 4, 3, 2, 1, 0]) hs (by kernel_rfl) (by kernel_rfl) (call1 (f := 28) (args := #[.agg #[.int .i64 x, .int .i64 y], .int .i64 (-depth)]) [188, 199, 204, 206, 208, 209, 210] (fun rv_ => [(188, v), (199, .agg #[.int .i64 4, .int .i64 (x + (radius - rad)), .int .i64 y, .int .i64 (-depth), .int .i64 x, .int .i64 y, .int .i64 fd]), (204, rv_), (206, .int .i64 fd), (208, .func (.func 28) #[] #[]), (209, .agg #[.int .i64 x, .int .i64 y]), (210, .int .i64 top)]) hs (by kernel_rfl) (fun _ => by kernel_rfl) ?_)
    refine (pos_any _ _ _ _).mono ?_
    rintro e w28 ⟨rfl, hb⟩
    refine ⟨_, rfl, ?_⟩
    clear hs a; intro a hs
    replace B1 := B1.below hb B1.lt
    replace B2 := B2.below hb B2.lt
    replace B3 := B3.below hb B3.lt
    replace ho := own_far ho hb
    replace hB := later hB hb
    clear hb
    refine ⟨⟨B1, B2, B3, trivial⟩, ?_⟩
    refine atD_seg (m := 6) [19] [16, 11, 7, 22, 21, 20, 18, 17, 15, 14, 13, 12, 10, 9, 8, 6, 5, 4, 3, 2, 1, 0] [] [188, 199, 207, 208, 209, 210] [(188, v), (199, .agg #[.int .i64 4, .int .i64 (x + (radius - rad)), .int .i64 y, .int .i64 (-depth), .int .i64 x, .int .i64 y, .int .i64 fd]), (207, .agg #[.int .i64 2, .int .i64 x, .int .i64 y, .int .i64 (-depth), .int .i64 0, .int .i64 0, .int .i64 fd]), (208, .func (.func 28) #[] #[]), (209, .agg #[.int .i64 x, .int .i64 y]), (210, .int .i64 top)] (fun w => True) hs ⟨B1, B2, B3, trivial⟩ (by kernel_rfl) (by kernel_rfl) (fun w ⟨B1, B2, B3, _⟩ => trivial) ?_
    clear hs a; intro a hs
    refine atD_op (m := 5) (j := 23) (D := [19, 16, 11, 7, 22, 21, 20, 18, 17, 15, 14, 13, 12, 10, 9, 8, 6, 5, 4, 3, 2, 1, 0]) hs (by kernel_rfl) (by kernel_rfl) (call1 (f := 28) (args := #[.agg #[.int .i64 x, .int .i64 y], .int .i64 top]) [188, 199, 207, 211] (fun rv_ => [(188, v), (199, .agg #[.int .i64 4, .int .i64 (x + (radius - rad)), .int .i64 y, .int .i64 (-depth), .int .i64 x, .int .i64 y, .int .i64 fd]), (207, .agg #[.int .i64 2, .int .i64 x, .int .i64 y, .int .i64 (-depth), .int .i64 0, .int .i64 0, .int .i64 fd]), (211, rv_)]) hs (by kernel_rfl) (fun _ => by kernel_rfl) ?_)
    refine (pos_any _ _ _ _).mono ?_
    rintro e w29 ⟨rfl, hb⟩
    refine ⟨_, rfl, ?_⟩
    clear hs a; intro a hs
    replace B1 := B1.below hb B1.lt
    replace B2 := B2.below hb B2.lt
    replace B3 := B3.below hb B3.lt
    replace ho := own_far ho hb
    replace hB := later hB hb
    clear hb
    refine ⟨⟨B1, B2, B3, trivial⟩, ?_⟩
    refine atD_seg (m := 4) [24] [23, 19, 16, 11, 7, 22, 21, 20, 18, 17, 15, 14, 13, 12, 10, 9, 8, 6, 5, 4, 3, 2, 1, 0] [] [188, 199, 207, 212] [(188, v), (199, .agg #[.int .i64 4, .int .i64 (x + (radius - rad)), .int .i64 y, .int .i64 (-depth), .int .i64 x, .int .i64 y, .int .i64 fd]), (207, .agg #[.int .i64 2, .int .i64 x, .int .i64 y, .int .i64 (-depth), .int .i64 0, .int .i64 0, .int .i64 fd]), (212, .agg #[.int .i64 1, .int .i64 x, .int .i64 y, .int .i64 top, .int .i64 0, .int .i64 0, .int .i64 0])] (fun w => True) hs ⟨B1, B2, B3, trivial⟩ (by kernel_rfl) (by kernel_rfl) (fun w ⟨B1, B2, B3, _⟩ => trivial) ?_
    clear hs a; intro a hs
    refine atD_op (m := 3) (j := 25) (D := [24, 23, 19, 16, 11, 7, 22, 21, 20, 18, 17, 15, 14, 13, 12, 10, 9, 8, 6, 5, 4, 3, 2, 1, 0]) hs (by kernel_rfl) (by kernel_rfl) (new1 (t := 48) (cs := #[.int .i64 4, .int .i64 (x + (radius - rad)), .int .i64 y, .int .i64 (-depth), .int .i64 x, .int .i64 y, .int .i64 fd, .int .i64 2, .int .i64 x, .int .i64 y, .int .i64 (-depth), .int .i64 0, .int .i64 0, .int .i64 fd, .int .i64 1, .int .i64 x, .int .i64 y, .int .i64 top, .int .i64 0, .int .i64 0, .int .i64 0]) (fun rb_ => .slice (some ⟨rb_, 0, none⟩) 3 3) [188, 213] (fun rb_ => [(188, v), (213, .slice (some ⟨rb_, 0, none⟩) 3 3)]) hs (fun _ => by kernel_rfl) (fun _ => by kernel_rfl) ?_)
    clear hs a; intro a w30 b9 hn hs
    have B9 := hn.blk
    have l9 : w.heap.size ≤ b9 := by rw [hn.at_]; exact hB.size
    have l9' : b3 < b9 := by rw [hn.at_]; exact B3.lt
    replace B1 := B1.below hn.below B1.lt
    replace B2 := B2.below hn.below B2.lt
    replace B3 := B3.below hn.below B3.lt
    replace ho := own_far ho hn.below
    replace hB := later hB hn.below
    clear hn
    refine ⟨⟨B1, B2, B3, trivial⟩, ?_⟩
    refine atD_op (m := 2) (j := 26) (D := [25, 24, 23, 19, 16, 11, 7, 22, 21, 20, 18, 17, 15, 14, 13, 12, 10, 9, 8, 6, 5, 4, 3, 2, 1, 0]) hs (by kernel_rfl) (by kernel_rfl) (append1 (v := v) (b := b9) (off := 0) (m := 3) (c := 3) (cs := [.int .i64 4, .int .i64 (x + (radius - rad)), .int .i64 y, .int .i64 (-depth), .int .i64 x, .int .i64 y, .int .i64 fd, .int .i64 2, .int .i64 x, .int .i64 y, .int .i64 (-depth), .int .i64 0, .int .i64 0, .int .i64 fd, .int .i64 1, .int .i64 x, .int .i64 y, .int .i64 top, .int .i64 0, .int .i64 0, .int .i64 0]) ((.tmp 188), (.tmp 213)) [214] (fun rv_ => [(214, rv_)]) hs (by kernel_rfl) rfl rfl (fun _ => by kernel_rfl) elem34 ho rfl (blk_row B9) (by simp [Value.oneCell']) (by unfold maxLen; omega) (by omega) (by have := hB.size; have := B1.lt; have := B2.lt; have := B3.lt; have := B9.lt; omega) ?_)
    clear hs a; intro v10 a w31 ho11 hg hs
    skip
    replace B1 := own_keep_t hg ho B1 (by decide)
    replace B2 := own_keep_t hg ho B2 (by decide)
    replace B3 := own_keep_t hg ho B3 (by decide)
    replace hB := hB.grown hg hB.size (fun kk hk => Nat.le_trans (by omega) (ho.lt kk hk).1)
    clear hg B9 ho
    refine ⟨⟨B1, B2, B3, trivial⟩, ?_⟩
    refine atD_seg (m := 0) [27, 28] [26, 25, 24, 23, 19, 16, 11, 7, 22, 21, 20, 18, 17, 15, 14, 13, 12, 10, 9, 8, 6, 5, 4, 3, 2, 1, 0] [] [10, 11] [(10, v10), (11, .int .i64 0)] (fun w => True) hs ⟨B1, B2, B3, trivial⟩ (by kernel_rfl) (by kernel_rfl) (fun w ⟨B1, B2, B3, _⟩ => trivial) ?_
    clear hs a; intro a hs
    refine atD_done (by kernel_rfl) ?_
    refine wayN_node rfl ?_
    refine at_ret (by kernel_rfl) ?_
    refine at_end (vs := [v10, .int .i64 0]) (H := []) (v := .tuple #[v10, .int .i64 0]) (O := fun w => True) hs (by kernel_rfl) rfl trivial ?_
    have hkk : k = 4 * n := by omega
    subst hkk
    exact ⟨_, rfl, by unfold boreC; rw [show (4 * (n : Int)).toNat = 4 * n by omega]; have hh := Rd.of_own (by decide) ho11; simpa [mvc] using hh, hB⟩
end Go.Proofs.YtpiabmjipgfjjaaDoor
