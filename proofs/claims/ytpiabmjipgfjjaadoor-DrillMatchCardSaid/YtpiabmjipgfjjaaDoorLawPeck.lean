/- The law DrillPeck returns true. -/
import Derived.Test.YtpiabmjipgfjjaaDoorPeck
import Derived.Test.YtpiabmjipgfjjaaDoorInterpV
namespace Go.Proofs.YtpiabmjipgfjjaaDoor
open Go.RowKit
theorem pkF_get (l : List Int) (x y top plu : Int) : ∀ (k : Nat) (m : Mv), (l.flatMap (pkF x y top plu))[k]? = some m → (k % 2 = 0 ∧ ∃ d, l[k / 2]? = some d ∧ m = ⟨2, x, y, -d, 0, 0, plu⟩) ∨ (k % 2 = 1 ∧ m = ⟨1, x, y, top, 0, 0, 0⟩) := by
  induction l with
  | nil => intro k m h; simp at h
  | cons a l ih =>
    intro k m h
    rw [List.flatMap_cons] at h
    match k, h with
    | 0, h => left; exact ⟨rfl, a, rfl, by simpa [pkF] using h.symm⟩
    | 1, h => right; exact ⟨rfl, by simpa [pkF] using h.symm⟩
    | k + 2, h =>
      rw [List.getElem?_append_right (by simp [pkF])] at h
      have h' : (l.flatMap (pkF x y top plu))[k]? = some m := by simpa [pkF] using h
      rcases ih k m h' with ⟨h1, d, h2, h3⟩ | ⟨h1, h2⟩
      · left; refine ⟨by omega, d, ?_, h3⟩; rw [show (k + 2) / 2 = k / 2 + 1 by omega]; simpa using h2
      · right; exact ⟨by omega, h2⟩
theorem pk_le {depth peck : Int} {k : Nat} {d : Int} (hd : (pkList depth peck)[k]? = some d) : 0 < d ∧ d ≤ depth := by
  have hne : pkErr depth peck = 0 := by
    unfold pkList at hd
    split at hd
    · assumption
    · simp at hd
  have hc : ¬ (depth < 1 ∨ peck < 1) ∧ ¬ 1000 ≤ (depth - 1) / peck := by
    unfold pkErr at hne
    split at hne
    · simp at hne
    · split at hne
      · simp at hne
      · exact ⟨by assumption, by assumption⟩
  obtain ⟨_, e1, e2, e3, e4, e5⟩ := pk_ok (depth := depth) (peck := peck) (by omega) (by omega) (by omega)
  generalize ((depth - 1) / peck).toNat = N at *
  have hk : k < N + 1 := by rw [← e2]; exact (List.getElem?_eq_some_iff.1 hd).1
  rcases Nat.lt_or_ge k N with h | h
  · rw [e1, mult_get peck N k h] at hd
    injection hd with hd
    have h0 : 0 < peck * ((k : Int) + 1) := Int.mul_pos (by omega) (by omega)
    have h2 : peck * ((k : Int) + 1) ≤ peck * (N : Int) := Int.mul_le_mul_of_nonneg_left (by omega) (by omega)
    omega
  · obtain rfl : k = N := by omega
    have : (mult peck k ++ [depth])[k]? = some depth := by rw [List.getElem?_append_right (by rw [mult_len]; exact Nat.le_refl _), mult_len]; simp
    rw [e1, this] at hd
    injection hd with hd
    omega
/-- What an error-free call of Peck knows. -/
theorem peckOk {t : Tl} {x y top depth peck : Int} (h : peckErr t x y top depth peck = 0) : t.good = true ∧ (t.kind != 2) = false ∧ 0 ≤ top ∧ 1 ≤ depth ∧ depth ≤ t.flu ∧ insB x = true ∧ insB y = true ∧ insB top = true ∧ insB depth = true ∧ pkErr depth peck = 0 := by
  unfold peckErr at h
  split at h
  · simp at h
  · rename_i h1
    split at h
    · simp at h
    · rename_i h2
      split at h
      · simp at h
      · rename_i h3
        simp only [Bool.or_eq_true, not_or, Bool.not_eq_true', decide_eq_true_eq, Bool.not_eq_false, Bool.not_eq_true] at h1 h2 h3
        exact ⟨h1.1.1.1.1, h1.1.1.1.2, by omega, by omega, by omega, h3.1.1.1, h3.1.1.2, h3.1.2, h3.2, h⟩
theorem peckR_get {t : Tl} {x y top depth peck : Int} {k : Nat} {m : Mv} (h : (peckR t x y top depth peck)[k]? = some m) :
    gr x ∧ gr y ∧ gr top ∧ ((k % 2 = 0 ∧ ∃ d, 0 < d ∧ d ≤ 10000000 ∧ 0 < t.plu ∧ m = ⟨2, x, y, -d, 0, 0, t.plu⟩) ∨ (k % 2 = 1 ∧ m = ⟨1, x, y, top, 0, 0, 0⟩)) := by
  unfold peckR at h
  split at h
  · rename_i h0
    obtain ⟨a1, a2, a3, a4, a5, a6, a7, a8, a9, a10⟩ := peckOk h0
    have b1 := insB_t a6
    have b2 := insB_t a7
    have b3 := insB_t a8
    have b4 := insB_t a9
    refine ⟨⟨by omega, by omega⟩, ⟨by omega, by omega⟩, ⟨by omega, by omega⟩, ?_⟩
    rcases pkF_get _ x y top t.plu k m h with ⟨h1, d, h2, h3⟩ | h1
    · left
      have h4 := pk_le h2
      have hG : t.Good := of_decide_eq_true a1
      unfold Tl.Good at hG
      exact ⟨h1, d, by omega, by omega, by omega, h3⟩
    · right; exact h1
  · simp at h
theorem peckR_even {t : Tl} {x y top depth peck : Int} : (peckR t x y top depth peck).length % 2 = 0 := by
  unfold peckR
  split
  · rw [flatMap_pkF_len]; omega
  · rfl
noncomputable def body6 : Code := Tryd.f6.body.getD .skip
set_option maxHeartbeats 1000000 in
theorem drillPeck_walk (x y n0 n1 n2 num kind rad flu hol stp fd plu : Int) (w : World) (HN : Nms w) (HK : (⟨num, kind, rad, flu, hol, stp, fd, plu⟩ : Tl).ok) (h1 : -9223372036854775808 ≤ n1) (h2 : n1 ≤ 9223372036854775807) (h3 : -9223372036854775808 ≤ n2) (h4 : n2 ≤ 9223372036854775807) :
    Calls Tryd.prog 6 #[.agg #[.int .i64 x, .int .i64 y], .agg #[.int .i64 n0, .int .i64 n1, .int .i64 n2], .agg #[.int .i64 num, .int .i64 kind, .int .i64 rad, .int .i64 flu, .int .i64 hol, .int .i64 stp, .int .i64 fd, .int .i64 plu]] w fun e w' => e = .returned (.bool true) ∧ Below w.heap.size w w' := by
  obtain ⟨n, hln⟩ : ∃ n, (peckR (⟨num, kind, rad, flu, hol, stp, fd, plu⟩ : Tl) x y n0 n1 n2).length = n := ⟨_, rfl⟩
  obtain ⟨er, her⟩ : ∃ er, peckErr (⟨num, kind, rad, flu, hol, stp, fd, plu⟩ : Tl) x y n0 n1 n2 = er := ⟨_, rfl⟩
  have hB : Below w.heap.size w w := Below.refl _ _
  refine enter (B := body6) (args := [.agg #[.int .i64 x, .int .i64 y], .agg #[.int .i64 n0, .int .i64 n1, .int .i64 n2], .agg #[.int .i64 num, .int .i64 kind, .int .i64 rad, .int .i64 flu, .int .i64 hol, .int .i64 stp, .int .i64 fd, .int .i64 plu]]) Tryd.func6 (by kernel_rfl) (by kernel_rfl) ?_
  rw [show Tryd.f6.ntmps = 94 from by kernel_rfl]
  intro a hs
  replace hs := hs.pick (ts := [0, 1, 2]) (L' := [(0, .agg #[.int .i64 x, .int .i64 y]), (1, .agg #[.int .i64 n0, .int .i64 n1, .int .i64 n2]), (2, .agg #[.int .i64 num, .int .i64 kind, .int .i64 rad, .int .i64 flu, .int .i64 hol, .int .i64 stp, .int .i64 fd, .int .i64 plu])]) (by kernel_rfl)
  refine at_seq (j := 2) (by kernel_rfl) ?_
  refine at_region (id := 0) (by kernel_rfl) ?_
  refine atR_op hs (by kernel_rfl) (new1 (t := 30) (cs := #[.int .i64 x, .int .i64 y]) (fun rb_ => .pointer (some ⟨rb_, 0, none⟩)) [1, 2, 3] (fun rb_ => [(1, .agg #[.int .i64 n0, .int .i64 n1, .int .i64 n2]), (2, .agg #[.int .i64 num, .int .i64 kind, .int .i64 rad, .int .i64 flu, .int .i64 hol, .int .i64 stp, .int .i64 fd, .int .i64 plu]), (3, .pointer (some ⟨rb_, 0, none⟩))]) hs (fun _ => by kernel_rfl) (fun _ => by kernel_rfl) ?_)
  clear hs a; intro a w1 b1 hn hs
  have B1 := hn.blk
  have l1 : w.heap.size ≤ b1 := by rw [hn.at_]; exact hB.size
  replace hB := later hB hn.below
  clear hn
  refine atR_op hs (by kernel_rfl) (new1 (t := 31) (cs := #[.int .i64 n0, .int .i64 n1, .int .i64 n2]) (fun rb_ => .pointer (some ⟨rb_, 0, none⟩)) [2, 3, 4] (fun rb_ => [(2, .agg #[.int .i64 num, .int .i64 kind, .int .i64 rad, .int .i64 flu, .int .i64 hol, .int .i64 stp, .int .i64 fd, .int .i64 plu]), (3, .pointer (some ⟨b1, 0, none⟩)), (4, .pointer (some ⟨rb_, 0, none⟩))]) hs (fun _ => by kernel_rfl) (fun _ => by kernel_rfl) ?_)
  clear hs a; intro a w2 b2 hn hs
  have B2 := hn.blk
  have l2 : w.heap.size ≤ b2 := by rw [hn.at_]; exact hB.size
  have l2' : b1 < b2 := by rw [hn.at_]; exact B1.lt
  replace B1 := B1.below hn.below B1.lt
  replace hB := later hB hn.below
  clear hn
  refine atR_op hs (by kernel_rfl) (new1 (t := 33) (cs := #[.int .i64 num, .int .i64 kind, .int .i64 rad, .int .i64 flu, .int .i64 hol, .int .i64 stp, .int .i64 fd, .int .i64 plu]) (fun rb_ => .pointer (some ⟨rb_, 0, none⟩)) [3, 4, 5] (fun rb_ => [(3, .pointer (some ⟨b1, 0, none⟩)), (4, .pointer (some ⟨b2, 0, none⟩)), (5, .pointer (some ⟨rb_, 0, none⟩))]) hs (fun _ => by kernel_rfl) (fun _ => by kernel_rfl) ?_)
  clear hs a; intro a w3 b3 hn hs
  have B3 := hn.blk
  have l3 : w.heap.size ≤ b3 := by rw [hn.at_]; exact hB.size
  have l3' : b2 < b3 := by rw [hn.at_]; exact B2.lt
  replace B1 := B1.below hn.below B1.lt
  replace B2 := B2.below hn.below B2.lt
  replace hB := later hB hn.below
  clear hn
  refine atR_seg (m := 1) (H := []) (ts := [3, 4, 5]) (L' := [(3, .pointer (some ⟨b1, 0, none⟩)), (4, .pointer (some ⟨b2, 0, none⟩)), (5, .pointer (some ⟨b3, 0, none⟩))]) (O := fun w => True) hs (by kernel_rfl) trivial ?_
  clear hs a; intro a hs
  refine atR_end (by kernel_rfl) ?_
  refine wayN_node rfl ?_
  refine at_seq (j := 10) (by kernel_rfl) ?_
  refine at_seq (j := 5) (by kernel_rfl) ?_
  refine at_region (id := 1) (by kernel_rfl) ?_
  refine atR_op hs (by kernel_rfl) (call1 (f := 8) (args := #[]) [3, 4, 5, 14] (fun rv_ => [(3, .pointer (some ⟨b1, 0, none⟩)), (4, .pointer (some ⟨b2, 0, none⟩)), (5, .pointer (some ⟨b3, 0, none⟩)), (14, rv_)]) hs (by kernel_rfl) (fun _ => by kernel_rfl) ?_)
  refine (awake_any _ (HN.below hB)).mono ?_
  rintro e w4 ⟨rfl, hb⟩
  refine ⟨_, rfl, ?_⟩
  clear hs a; intro a hs
  replace B1 := B1.below hb B1.lt
  replace B2 := B2.below hb B2.lt
  replace B3 := B3.below hb B3.lt
  replace hB := later hB hb
  clear hb
  refine atR_seg (m := 1) (H := []) (ts := [3, 4, 5, 15]) (L' := [(3, .pointer (some ⟨b1, 0, none⟩)), (4, .pointer (some ⟨b2, 0, none⟩)), (5, .pointer (some ⟨b3, 0, none⟩)), (15, .bool false)]) (O := fun w => True) hs (by kernel_rfl) trivial ?_
  clear hs a; intro a hs
  refine atR_end (by kernel_rfl) ?_
  refine wayN_node rfl ?_
  refine at_cond (t := 15) (j1 := 6) (j2 := 9) (b := false) (by kernel_rfl) hs rfl (fun hb => absurd (hb.symm.trans (show (false) = false from rfl)) (by decide)) (fun _ => ?_)
  refine at_skip (by kernel_rfl) ?_
  refine wayN_node rfl ?_
  refine at_seq (j := 12) (by kernel_rfl) ?_
  refine at_region (id := 3) (by kernel_rfl) ?_
  refine atR_seg (m := 8) (H := [(0, none, [.int .i64 x, .int .i64 y]), (2, none, [.int .i64 n0]), (4, none, [.int .i64 n1]), (6, none, [.int .i64 n2]), (7, none, [.int .i64 num, .int .i64 kind, .int .i64 rad, .int .i64 flu, .int .i64 hol, .int .i64 stp, .int .i64 fd, .int .i64 plu])]) (ts := [3, 4, 5, 17, 19, 21, 23, 24]) (L' := [(3, .pointer (some ⟨b1, 0, none⟩)), (4, .pointer (some ⟨b2, 0, none⟩)), (5, .pointer (some ⟨b3, 0, none⟩)), (17, .agg #[.int .i64 x, .int .i64 y]), (19, .int .i64 n0), (21, .int .i64 n1), (23, .int .i64 n2), (24, .agg #[.int .i64 num, .int .i64 kind, .int .i64 rad, .int .i64 flu, .int .i64 hol, .int .i64 stp, .int .i64 fd, .int .i64 plu])]) (O := fun w => (w.cell? ⟨b1, 0, none⟩ = some (.int .i64 x)) ∧ (w.cell? ⟨b1, 1, none⟩ = some (.int .i64 y)) ∧ ((0 : Int) ≤ 0 ∧ 0 < ((3 : Nat) : Int)) ∧ (w.cell? ⟨b2, 0, none⟩ = some (.int .i64 n0)) ∧ ((0 : Int) ≤ 1 ∧ 1 < ((3 : Nat) : Int)) ∧ (w.cell? ⟨b2, 1, none⟩ = some (.int .i64 n1)) ∧ ((0 : Int) ≤ 2 ∧ 2 < ((3 : Nat) : Int)) ∧ (w.cell? ⟨b2, 2, none⟩ = some (.int .i64 n2)) ∧ (w.cell? ⟨b3, 0, none⟩ = some (.int .i64 num)) ∧ (w.cell? ⟨b3, 1, none⟩ = some (.int .i64 kind)) ∧ (w.cell? ⟨b3, 2, none⟩ = some (.int .i64 rad)) ∧ (w.cell? ⟨b3, 3, none⟩ = some (.int .i64 flu)) ∧ (w.cell? ⟨b3, 4, none⟩ = some (.int .i64 hol)) ∧ (w.cell? ⟨b3, 5, none⟩ = some (.int .i64 stp)) ∧ (w.cell? ⟨b3, 6, none⟩ = some (.int .i64 fd)) ∧ (w.cell? ⟨b3, 7, none⟩ = some (.int .i64 plu)) ∧ True) hs (by kernel_rfl) ⟨B1.cell 0 rfl, B1.cell 1 rfl, ⟨by omega, by omega⟩, B2.cell 0 rfl, ⟨by omega, by omega⟩, B2.cell 1 rfl, ⟨by omega, by omega⟩, B2.cell 2 rfl, B3.cell 0 rfl, B3.cell 1 rfl, B3.cell 2 rfl, B3.cell 3 rfl, B3.cell 4 rfl, B3.cell 5 rfl, B3.cell 6 rfl, B3.cell 7 rfl, trivial⟩ ?_
  clear hs a; intro a hs
  refine atR_op hs (by kernel_rfl) (call1 (f := 19) (args := #[.agg #[.int .i64 x, .int .i64 y], .int .i64 n0, .int .i64 n1, .int .i64 n2, .agg #[.int .i64 num, .int .i64 kind, .int .i64 rad, .int .i64 flu, .int .i64 hol, .int .i64 stp, .int .i64 fd, .int .i64 plu]]) [3, 4, 5, 25] (fun rv_ => [(3, .pointer (some ⟨b1, 0, none⟩)), (4, .pointer (some ⟨b2, 0, none⟩)), (5, .pointer (some ⟨b3, 0, none⟩)), (25, rv_)]) hs (by kernel_rfl) (fun _ => by kernel_rfl) ?_)
  refine (peck_any (⟨num, kind, rad, flu, hol, stp, fd, plu⟩ : Tl) x y n0 n1 n2 _ h1 h2 h3 h4 (HN.below hB) HK).mono ?_
  rintro e w5 ⟨vp, rfl, hrvp, hb⟩
  rw [her]
  rw [hln] at hrvp
  obtain ⟨u1, huu1, R1⟩ := RdU.at_u hrvp
  obtain ⟨A1, c1, rfl, hnvp⟩ := R1.form
  clear hrvp huu1
  refine ⟨_, rfl, ?_⟩
  clear hs a; intro a hs
  replace B1 := B1.below hb B1.lt
  replace B2 := B2.below hb B2.lt
  replace B3 := B3.below hb B3.lt
  replace hB := later hB hb
  clear hb
  refine atR_seg (m := 5) (H := []) (ts := [3, 4, 5, 7, 8]) (L' := [(3, .pointer (some ⟨b1, 0, none⟩)), (4, .pointer (some ⟨b2, 0, none⟩)), (5, .pointer (some ⟨b3, 0, none⟩)), (7, .slice A1 n c1), (8, .int .i64 er)]) (O := fun w => True) hs (by kernel_rfl) trivial ?_
  clear hs a; intro a hs
  refine atR_end (by kernel_rfl) ?_
  refine wayN_node rfl ?_
  refine at_seq (j := 14) (by kernel_rfl) ?_
  refine at_region (id := 4) (by kernel_rfl) ?_
  refine atR_seg (m := 8) (H := [(0, none, [.int .i64 x, .int .i64 y]), (2, none, [.int .i64 n0]), (4, none, [.int .i64 n1]), (6, none, [.int .i64 n2]), (7, none, [.int .i64 num, .int .i64 kind, .int .i64 rad, .int .i64 flu, .int .i64 hol, .int .i64 stp, .int .i64 fd, .int .i64 plu])]) (ts := [3, 4, 7, 8, 29, 31, 33, 35, 36]) (L' := [(3, .pointer (some ⟨b1, 0, none⟩)), (4, .pointer (some ⟨b2, 0, none⟩)), (7, .slice A1 n c1), (8, .int .i64 er), (29, .agg #[.int .i64 x, .int .i64 y]), (31, .int .i64 n0), (33, .int .i64 n1), (35, .int .i64 n2), (36, .agg #[.int .i64 num, .int .i64 kind, .int .i64 rad, .int .i64 flu, .int .i64 hol, .int .i64 stp, .int .i64 fd, .int .i64 plu])]) (O := fun w => (w.cell? ⟨b1, 0, none⟩ = some (.int .i64 x)) ∧ (w.cell? ⟨b1, 1, none⟩ = some (.int .i64 y)) ∧ ((0 : Int) ≤ 0 ∧ 0 < ((3 : Nat) : Int)) ∧ (w.cell? ⟨b2, 0, none⟩ = some (.int .i64 n0)) ∧ ((0 : Int) ≤ 1 ∧ 1 < ((3 : Nat) : Int)) ∧ (w.cell? ⟨b2, 1, none⟩ = some (.int .i64 n1)) ∧ ((0 : Int) ≤ 2 ∧ 2 < ((3 : Nat) : Int)) ∧ (w.cell? ⟨b2, 2, none⟩ = some (.int .i64 n2)) ∧ (w.cell? ⟨b3, 0, none⟩ = some (.int .i64 num)) ∧ (w.cell? ⟨b3, 1, none⟩ = some (.int .i64 kind)) ∧ (w.cell? ⟨b3, 2, none⟩ = some (.int .i64 rad)) ∧ (w.cell? ⟨b3, 3, none⟩ = some (.int .i64 flu)) ∧ (w.cell? ⟨b3, 4, none⟩ = some (.int .i64 hol)) ∧ (w.cell? ⟨b3, 5, none⟩ = some (.int .i64 stp)) ∧ (w.cell? ⟨b3, 6, none⟩ = some (.int .i64 fd)) ∧ (w.cell? ⟨b3, 7, none⟩ = some (.int .i64 plu)) ∧ True) hs (by kernel_rfl) ⟨B1.cell 0 rfl, B1.cell 1 rfl, ⟨by omega, by omega⟩, B2.cell 0 rfl, ⟨by omega, by omega⟩, B2.cell 1 rfl, ⟨by omega, by omega⟩, B2.cell 2 rfl, B3.cell 0 rfl, B3.cell 1 rfl, B3.cell 2 rfl, B3.cell 3 rfl, B3.cell 4 rfl, B3.cell 5 rfl, B3.cell 6 rfl, B3.cell 7 rfl, trivial⟩ ?_
  clear hs a; intro a hs
  refine atR_op hs (by kernel_rfl) (call1 (f := 20) (args := #[.agg #[.int .i64 x, .int .i64 y], .int .i64 n0, .int .i64 n1, .int .i64 n2, .agg #[.int .i64 num, .int .i64 kind, .int .i64 rad, .int .i64 flu, .int .i64 hol, .int .i64 stp, .int .i64 fd, .int .i64 plu]]) [3, 4, 7, 8, 37] (fun rv_ => [(3, .pointer (some ⟨b1, 0, none⟩)), (4, .pointer (some ⟨b2, 0, none⟩)), (7, .slice A1 n c1), (8, .int .i64 er), (37, rv_)]) hs (by kernel_rfl) (fun _ => by kernel_rfl) ?_)
  refine (rpeck_any (⟨num, kind, rad, flu, hol, stp, fd, plu⟩ : Tl) x y n0 n1 n2 _ h1 h2 h3 h4).mono ?_
  rintro e w6 ⟨vq, rfl, hrvq, hb⟩
  rw [her]
  rw [hln] at hrvq
  obtain ⟨u2, huu2, R2⟩ := RdU.at_u hrvq
  obtain ⟨A2, c2, rfl, hnvq⟩ := R2.form
  clear hrvq huu2
  refine ⟨_, rfl, ?_⟩
  clear hs a; intro a hs
  replace B1 := B1.below hb B1.lt
  replace B2 := B2.below hb B2.lt
  replace B3 := B3.below hb B3.lt
  replace R1 := R1.below hb
  replace hB := later hB hb
  clear hb
  refine atR_seg (m := 5) (H := []) (ts := [3, 4, 7, 8, 9, 10]) (L' := [(3, .pointer (some ⟨b1, 0, none⟩)), (4, .pointer (some ⟨b2, 0, none⟩)), (7, .slice A1 n c1), (8, .int .i64 er), (9, .slice A2 n c2), (10, .int .i64 er)]) (O := fun w => True) hs (by kernel_rfl) trivial ?_
  clear hs a; intro a hs
  refine atR_end (by kernel_rfl) ?_
  refine wayN_node rfl ?_
  refine at_seq (j := 22) (by kernel_rfl) ?_
  refine at_seq (j := 17) (by kernel_rfl) ?_
  refine at_region (id := 5) (by kernel_rfl) ?_
  refine atR_seg (m := 4) (H := []) (ts := [3, 4, 7, 8, 9, 43]) (L' := [(3, .pointer (some ⟨b1, 0, none⟩)), (4, .pointer (some ⟨b2, 0, none⟩)), (7, .slice A1 n c1), (8, .int .i64 er), (9, .slice A2 n c2), (43, .bool (er != er))]) (O := fun w => True) hs (by kernel_rfl) trivial ?_
  clear hs a; intro a hs
  replace hs := hs.know (t := 43) rfl (show (er != er) = false from bne_self_eq_false _)
  replace hs := hs.pick (ts := [3, 4, 7, 8, 9, 43]) (L' := [(3, .pointer (some ⟨b1, 0, none⟩)), (4, .pointer (some ⟨b2, 0, none⟩)), (7, .slice A1 n c1), (8, .int .i64 er), (9, .slice A2 n c2), (43, .bool false)]) (by kernel_rfl)
  refine atR_seg (m := 2) (H := []) (ts := [3, 4, 7, 8, 43, 44, 45]) (L' := [(3, .pointer (some ⟨b1, 0, none⟩)), (4, .pointer (some ⟨b2, 0, none⟩)), (7, .slice A1 n c1), (8, .int .i64 er), (43, .bool false), (44, .slice A1 n c1), (45, .slice A2 n c2)]) (O := fun w => True) hs (by kernel_rfl) trivial ?_
  clear hs a; intro a hs
  refine atR_op hs (by kernel_rfl) (call1 (f := 14) (args := #[.slice A1 n c1, .slice A2 n c2]) [3, 4, 7, 8, 43, 46] (fun rv_ => [(3, .pointer (some ⟨b1, 0, none⟩)), (4, .pointer (some ⟨b2, 0, none⟩)), (7, .slice A1 n c1), (8, .int .i64 er), (43, .bool false), (46, rv_)]) hs (by kernel_rfl) (fun _ => by kernel_rfl) ?_)
  refine (same_same _ _ n (peckR (⟨num, kind, rad, flu, hol, stp, fd, plu⟩ : Tl) x y n0 n1 n2) _ hln R1.rd_ R2.rd_).mono ?_
  rintro e w7 ⟨rfl, hb⟩
  refine ⟨_, rfl, ?_⟩
  clear hs a; intro a hs
  replace B1 := B1.below hb B1.lt
  replace B2 := B2.below hb B2.lt
  replace B3 := B3.below hb B3.lt
  replace R1 := R1.below hb
  replace R2 := R2.below hb
  replace hB := later hB hb
  clear hb
  refine atR_seg (m := 2) (H := []) (ts := [3, 4, 7, 8, 48]) (L' := [(3, .pointer (some ⟨b1, 0, none⟩)), (4, .pointer (some ⟨b2, 0, none⟩)), (7, .slice A1 n c1), (8, .int .i64 er), (48, .bool false)]) (O := fun w => True) hs (by kernel_rfl) trivial ?_
  clear hs a; intro a hs
  refine atR_end (by kernel_rfl) ?_
  refine wayN_node rfl ?_
  refine at_cond (t := 48) (j1 := 18) (j2 := 21) (b := false) (by kernel_rfl) hs rfl (fun hb => absurd (hb.symm.trans (show (false) = false from rfl)) (by decide)) (fun _ => ?_)
  refine at_skip (by kernel_rfl) ?_
  refine wayN_node rfl ?_
  refine at_seq (j := 24) (by kernel_rfl) ?_
  refine at_region (id := 7) (by kernel_rfl) ?_
  refine atR_seg (m := 7) (H := [(1, none, [.int .i64 x]), (3, none, [.int .i64 y]), (5, none, [.int .i64 n0])]) (ts := [3, 4, 7, 8, 55]) (L' := [(3, .pointer (some ⟨b1, 0, none⟩)), (4, .pointer (some ⟨b2, 0, none⟩)), (7, .slice A1 n c1), (8, .int .i64 er), (55, .agg #[.int .i64 x, .int .i64 y, .int .i64 n0])]) (O := fun w => (w.cell? ⟨b1, 0, none⟩ = some (.int .i64 x)) ∧ (w.cell? ⟨b1, 1, none⟩ = some (.int .i64 y)) ∧ ((0 : Int) ≤ 0 ∧ 0 < ((3 : Nat) : Int)) ∧ (w.cell? ⟨b2, 0, none⟩ = some (.int .i64 n0)) ∧ True) hs (by kernel_rfl) ⟨B1.cell 0 rfl, B1.cell 1 rfl, ⟨by omega, by omega⟩, B2.cell 0 rfl, trivial⟩ ?_
  clear hs a; intro a hs
  refine atR_op hs (by kernel_rfl) (new1 (t := 46) (cs := #[.int .i64 0, .int .i64 0, .int .i64 0]) (fun rb_ => .pointer (some ⟨rb_, 0, none⟩)) [3, 4, 7, 8, 11, 55] (fun rb_ => [(3, .pointer (some ⟨b1, 0, none⟩)), (4, .pointer (some ⟨b2, 0, none⟩)), (7, .slice A1 n c1), (8, .int .i64 er), (11, .pointer (some ⟨rb_, 0, none⟩)), (55, .agg #[.int .i64 x, .int .i64 y, .int .i64 n0])]) hs (fun _ => by kernel_rfl) (fun _ => by kernel_rfl) ?_)
  clear hs a; intro a w8 b4 hn hs
  have B4 := hn.blk
  have l4 : w.heap.size ≤ b4 := by rw [hn.at_]; exact hB.size
  have l4' : b3 < b4 := by rw [hn.at_]; exact B3.lt
  have lu4R1 : u1 ≤ b4 := by rw [hn.at_]; exact R1.le
  have lu4R2 : u2 ≤ b4 := by rw [hn.at_]; exact R2.le
  replace B1 := B1.below hn.below B1.lt
  replace B2 := B2.below hn.below B2.lt
  replace B3 := B3.below hn.below B3.lt
  replace R1 := R1.below hn.below
  replace R2 := R2.below hn.below
  replace hB := later hB hn.below
  clear hn
  refine atR_op hs (by kernel_rfl) (store1 (b := b4) (cs := #[.int .i64 0, .int .i64 0, .int .i64 0]) #[.int .i64 x, .int .i64 y, .int .i64 n0] [(0, .int .i64 x), (1, .int .i64 y), (2, .int .i64 n0)] [3, 4, 7, 8, 11] [(3, .pointer (some ⟨b1, 0, none⟩)), (4, .pointer (some ⟨b2, 0, none⟩)), (7, .slice A1 n c1), (8, .int .i64 er), (11, .pointer (some ⟨b4, 0, none⟩))] hs B4 (by kernel_rfl) ⟨Nat.le_of_ble_eq_true rfl, trivial, ⟨Nat.le_of_ble_eq_true rfl, trivial, ⟨Nat.le_of_ble_eq_true rfl, trivial, trivial⟩⟩⟩ rfl (by kernel_rfl) ?_)
  clear hs a; intro a w9 B4' hu hs
  replace B4 := B4'; clear B4'
  replace B1 := hu.blk B1 (by omega)
  replace B2 := hu.blk B2 (by omega)
  replace B3 := hu.blk B3 (by omega)
  replace R1 := R1.upd hu (by omega)
  replace R2 := R2.upd hu (by omega)
  replace hB := hB.trans (hu.below (by omega))
  clear hu
  refine atR_end (by kernel_rfl) ?_
  refine wayN_node rfl ?_
  refine at_seq (j := 49) (by kernel_rfl) ?_
  refine at_seq (j := 27) (by kernel_rfl) ?_
  refine at_region (id := 8) (by kernel_rfl) ?_
  refine atR_seg (m := 3) (H := []) (ts := [3, 4, 8, 11, 56, 57, 58]) (L' := [(3, .pointer (some ⟨b1, 0, none⟩)), (4, .pointer (some ⟨b2, 0, none⟩)), (8, .int .i64 er), (11, .pointer (some ⟨b4, 0, none⟩)), (56, .slice A1 n c1), (57, .int .i64 (n : Int)), (58, .int .i64 0)]) (O := fun w => True) hs (by kernel_rfl) trivial ?_
  clear hs a; intro a hs
  refine atR_end (by kernel_rfl) ?_
  refine wayN_node rfl ?_
  refine at_block (id := 0) (by kernel_rfl) ?_
  refine at_loop2 (fun (k : Nat) (z : Int) a' W => St 94 [(3, .pointer (some ⟨b1, 0, none⟩)), (4, .pointer (some ⟨b2, 0, none⟩)), (8, .int .i64 er), (11, .pointer (some ⟨b4, 0, none⟩)), (56, .slice A1 n c1), (57, .int .i64 (n : Int)), (58, .int .i64 (k : Int))] a' ∧ Blk W b1 30 #[.int .i64 x, .int .i64 y] ∧ Blk W b2 31 #[.int .i64 n0, .int .i64 n1, .int .i64 n2] ∧ Blk W b3 33 #[.int .i64 num, .int .i64 kind, .int .i64 rad, .int .i64 flu, .int .i64 hol, .int .i64 stp, .int .i64 fd, .int .i64 plu] ∧ Blk W b4 46 #[.int .i64 x, .int .i64 y, .int .i64 z] ∧ Below w.heap.size w W ∧ RdU u1 W 7 (.slice A1 n c1) n ((peckR (⟨num, kind, rad, flu, hol, stp, fd, plu⟩ : Tl) x y n0 n1 n2).flatMap Mv.cs) ∧ RdU u2 W 7 (.slice A2 n c2) n ((peckR (⟨num, kind, rad, flu, hol, stp, fd, plu⟩ : Tl) x y n0 n1 n2).flatMap Mv.cs) ∧ (k ≤ n) ∧ (k < n → 0 < k → gr z) ∧ (k % 2 = 0 → z = n0)) (fun k z => n - k) 0 n0 (by kernel_rfl) ⟨hs.sub ⟨⟨_, rfl, rfl⟩, ⟨_, rfl, rfl⟩, ⟨_, rfl, rfl⟩, ⟨_, rfl, rfl⟩, ⟨_, rfl, rfl⟩, ⟨_, rfl, rfl⟩, ⟨_, rfl, (by first | rfl | (push_cast; rfl) | (congr 1; omega))⟩, trivial⟩, B1, B2, B3, B4, hB, R1, R2, Nat.zero_le _, fun _ h => absurd h (by decide), fun _ => rfl⟩ ?_
  clear hs a B1 B2 B3 B4 hB R1 R2
  intro k z a wr10 hI
  obtain ⟨hs, B1, B2, B3, B4, hB, R1, R2, hk, hgz, hz⟩ := hI
  refine at_seq (j := 31) (by kernel_rfl) ?_
  refine at_region (id := 9) (by kernel_rfl) ?_
  refine atR_seg (m := 1) (H := []) (ts := [3, 4, 8, 11, 56, 57, 58, 59]) (L' := [(3, .pointer (some ⟨b1, 0, none⟩)), (4, .pointer (some ⟨b2, 0, none⟩)), (8, .int .i64 er), (11, .pointer (some ⟨b4, 0, none⟩)), (56, .slice A1 n c1), (57, .int .i64 (n : Int)), (58, .int .i64 (k : Int)), (59, .bool (decide ((k : Int) < (n : Int))))]) (O := fun w => True) hs (by kernel_rfl) trivial ?_
  clear hs a; intro a hs
  refine atR_end (by kernel_rfl) ?_
  refine wayN_node rfl ?_
  refine at_seq (j := 35) (by kernel_rfl) ?_
  refine at_cond (t := 59) (j1 := 33) (j2 := 34) (b := decide ((k : Int) < (n : Int))) (by kernel_rfl) hs rfl (fun hb => ?_) (fun hb => ?_)
  · have cd1 := hb; have cd1b := hb; clear hb
    replace cd1 := of_decide_eq_true cd1
    have hkn : k < n := by omega
    have gz : gr z := by
        rcases Nat.eq_zero_or_pos k with hk0 | hk0
        · obtain ⟨m, hm⟩ : ∃ m, (peckR (⟨num, kind, rad, flu, hol, stp, fd, plu⟩ : Tl) x y n0 n1 n2)[k]? = some m := ⟨_, List.getElem?_eq_getElem (by omega)⟩
          rw [hz (by omega)]; exact (peckR_get hm).2.2.1
        · exact hgz hkn hk0
    refine at_skip (by kernel_rfl) ?_
    refine wayN_node rfl ?_
    refine at_seq (j := 48) (by kernel_rfl) ?_
    refine at_block (id := 1) (by kernel_rfl) ?_
    refine at_seq (j := 39) (by kernel_rfl) ?_
    obtain ⟨p1, o1, m, hA1, hm, e1⟩ := R1.elem (f := Mv.cs) (fun _ => rfl) hln hkn
    obtain ⟨gx, gy, gt, hm'⟩ := peckR_get hm
    dsimp only at hm'
    subst hA1
    rcases hm' with ⟨hpar, d, d1, d2, hpl, rfl⟩ | ⟨hpar, rfl⟩
    · skip
      refine at_region (id := 10) (by kernel_rfl) ?_
      refine atR_seg (m := 2) (H := [(0, some (.pointer (some ⟨p1, o1 + k * 7, none⟩)), []), (1, none, [.int .i64 2, .int .i64 x, .int .i64 y, .int .i64 (-d), .int .i64 0, .int .i64 0, .int .i64 plu])]) (ts := [3, 4, 8, 11, 56, 57, 58, 61]) (L' := [(3, .pointer (some ⟨b1, 0, none⟩)), (4, .pointer (some ⟨b2, 0, none⟩)), (8, .int .i64 er), (11, .pointer (some ⟨b4, 0, none⟩)), (56, .slice (some ⟨p1, o1, none⟩) n c1), (57, .int .i64 (n : Int)), (58, .int .i64 (k : Int)), (61, .agg #[.int .i64 2, .int .i64 x, .int .i64 y, .int .i64 (-d), .int .i64 0, .int .i64 0, .int .i64 plu])]) (O := fun w => (.pointer (some ⟨p1, o1 + ((k : Int)).toNat * 7, none⟩) = Value.pointer (some ⟨p1, o1 + k * 7, none⟩)) ∧ ((0 : Int) ≤ (k : Int) ∧ (k : Int) < ((n : Nat) : Int)) ∧ (w.cell? ⟨p1, o1 + k * 7, none⟩ = some (.int .i64 2)) ∧ (w.cell? ⟨p1, o1 + k * 7 + 1, none⟩ = some (.int .i64 x)) ∧ (w.cell? ⟨p1, o1 + k * 7 + 2, none⟩ = some (.int .i64 y)) ∧ (w.cell? ⟨p1, o1 + k * 7 + 3, none⟩ = some (.int .i64 (-d))) ∧ (w.cell? ⟨p1, o1 + k * 7 + 4, none⟩ = some (.int .i64 0)) ∧ (w.cell? ⟨p1, o1 + k * 7 + 5, none⟩ = some (.int .i64 0)) ∧ (w.cell? ⟨p1, o1 + k * 7 + 6, none⟩ = some (.int .i64 plu)) ∧ True) hs (by kernel_rfl) ⟨by simp [Int.toNat_natCast], ⟨by omega, by omega⟩, e1.at0 rfl, e1.at_ 1 rfl, e1.at_ 2 rfl, e1.at_ 3 rfl, e1.at_ 4 rfl, e1.at_ 5 rfl, e1.at_ 6 rfl, trivial⟩ ?_
      clear hs a; intro a hs
      refine atR_op hs (by kernel_rfl) (new1 (t := 48) (cs := #[.int .i64 0, .int .i64 0, .int .i64 0, .int .i64 0, .int .i64 0, .int .i64 0, .int .i64 0]) (fun rb_ => .pointer (some ⟨rb_, 0, none⟩)) [3, 4, 8, 11, 13, 56, 57, 58, 61] (fun rb_ => [(3, .pointer (some ⟨b1, 0, none⟩)), (4, .pointer (some ⟨b2, 0, none⟩)), (8, .int .i64 er), (11, .pointer (some ⟨b4, 0, none⟩)), (13, .pointer (some ⟨rb_, 0, none⟩)), (56, .slice (some ⟨p1, o1, none⟩) n c1), (57, .int .i64 (n : Int)), (58, .int .i64 (k : Int)), (61, .agg #[.int .i64 2, .int .i64 x, .int .i64 y, .int .i64 (-d), .int .i64 0, .int .i64 0, .int .i64 plu])]) hs (fun _ => by kernel_rfl) (fun _ => by kernel_rfl) ?_)
      clear hs a; intro a w11 b5 hn hs
      have B5 := hn.blk
      have l5 : w.heap.size ≤ b5 := by rw [hn.at_]; exact hB.size
      have l5' : b4 < b5 := by rw [hn.at_]; exact B4.lt
      have lu5R1 : u1 ≤ b5 := by rw [hn.at_]; exact R1.le
      have lu5R2 : u2 ≤ b5 := by rw [hn.at_]; exact R2.le
      have lu5e1 : u1 ≤ b5 := by rw [hn.at_]; exact e1.le
      replace B1 := B1.below hn.below B1.lt
      replace B2 := B2.below hn.below B2.lt
      replace B3 := B3.below hn.below B3.lt
      replace B4 := B4.below hn.below B4.lt
      replace R1 := R1.below hn.below
      replace R2 := R2.below hn.below
      replace e1 := e1.below hn.below
      replace hB := later hB hn.below
      clear hn
      refine atR_op hs (by kernel_rfl) (store1 (b := b5) (cs := #[.int .i64 0, .int .i64 0, .int .i64 0, .int .i64 0, .int .i64 0, .int .i64 0, .int .i64 0]) #[.int .i64 2, .int .i64 x, .int .i64 y, .int .i64 (-d), .int .i64 0, .int .i64 0, .int .i64 plu] [(0, .int .i64 2), (1, .int .i64 x), (2, .int .i64 y), (3, .int .i64 (-d)), (4, .int .i64 0), (5, .int .i64 0), (6, .int .i64 plu)] [3, 4, 8, 11, 13, 56, 57, 58] [(3, .pointer (some ⟨b1, 0, none⟩)), (4, .pointer (some ⟨b2, 0, none⟩)), (8, .int .i64 er), (11, .pointer (some ⟨b4, 0, none⟩)), (13, .pointer (some ⟨b5, 0, none⟩)), (56, .slice (some ⟨p1, o1, none⟩) n c1), (57, .int .i64 (n : Int)), (58, .int .i64 (k : Int))] hs B5 (by kernel_rfl) ⟨Nat.le_of_ble_eq_true rfl, trivial, ⟨Nat.le_of_ble_eq_true rfl, trivial, ⟨Nat.le_of_ble_eq_true rfl, trivial, ⟨Nat.le_of_ble_eq_true rfl, trivial, ⟨Nat.le_of_ble_eq_true rfl, trivial, ⟨Nat.le_of_ble_eq_true rfl, trivial, ⟨Nat.le_of_ble_eq_true rfl, trivial, trivial⟩⟩⟩⟩⟩⟩⟩ rfl (by kernel_rfl) ?_)
      clear hs a; intro a w12 B5' hu hs
      replace B5 := B5'; clear B5'
      replace B1 := hu.blk B1 (by omega)
      replace B2 := hu.blk B2 (by omega)
      replace B3 := hu.blk B3 (by omega)
      replace B4 := hu.blk B4 (by omega)
      replace R1 := R1.upd hu (by omega)
      replace R2 := R2.upd hu (by omega)
      replace e1 := e1.upd hu (by omega)
      replace hB := hB.trans (hu.below (by omega))
      clear hu
      refine atR_end (by kernel_rfl) ?_
      refine wayN_node rfl ?_
      refine at_seq (j := 47) (by kernel_rfl) ?_
      refine at_seq (j := 42) (by kernel_rfl) ?_
      refine at_region (id := 11) (by kernel_rfl) ?_
      refine atR_seg (m := 7) (H := [(2, none, [.int .i64 x]), (4, none, [.int .i64 x])]) (ts := [3, 4, 8, 11, 13, 56, 57, 58, 68]) (L' := [(3, .pointer (some ⟨b1, 0, none⟩)), (4, .pointer (some ⟨b2, 0, none⟩)), (8, .int .i64 er), (11, .pointer (some ⟨b4, 0, none⟩)), (13, .pointer (some ⟨b5, 0, none⟩)), (56, .slice (some ⟨p1, o1, none⟩) n c1), (57, .int .i64 (n : Int)), (58, .int .i64 (k : Int)), (68, .bool (x != x))]) (O := fun w => (w.cell? ⟨b5, 1, none⟩ = some (.int .i64 x)) ∧ (w.cell? ⟨b1, 0, none⟩ = some (.int .i64 x)) ∧ True) hs (by kernel_rfl) ⟨B5.cell 1 rfl, B1.cell 0 rfl, trivial⟩ ?_
      clear hs a; intro a hs
      replace hs := hs.know (t := 68) rfl (show (x != x) = false from bne_self_eq_false _)
      replace hs := hs.pick (ts := [3, 4, 8, 11, 13, 56, 57, 58, 68]) (L' := [(3, .pointer (some ⟨b1, 0, none⟩)), (4, .pointer (some ⟨b2, 0, none⟩)), (8, .int .i64 er), (11, .pointer (some ⟨b4, 0, none⟩)), (13, .pointer (some ⟨b5, 0, none⟩)), (56, .slice (some ⟨p1, o1, none⟩) n c1), (57, .int .i64 (n : Int)), (58, .int .i64 (k : Int)), (68, .bool false)]) (by kernel_rfl)
      refine atR_seg (m := 8) (H := [(9, none, [.int .i64 y]), (11, none, [.int .i64 y])]) (ts := [3, 4, 8, 11, 13, 56, 57, 58, 76]) (L' := [(3, .pointer (some ⟨b1, 0, none⟩)), (4, .pointer (some ⟨b2, 0, none⟩)), (8, .int .i64 er), (11, .pointer (some ⟨b4, 0, none⟩)), (13, .pointer (some ⟨b5, 0, none⟩)), (56, .slice (some ⟨p1, o1, none⟩) n c1), (57, .int .i64 (n : Int)), (58, .int .i64 (k : Int)), (76, .bool (y != y))]) (O := fun w => (w.cell? ⟨b5, 2, none⟩ = some (.int .i64 y)) ∧ (w.cell? ⟨b1, 1, none⟩ = some (.int .i64 y)) ∧ True) hs (by kernel_rfl) ⟨B5.cell 2 rfl, B1.cell 1 rfl, trivial⟩ ?_
      clear hs a; intro a hs
      replace hs := hs.know (t := 76) rfl (show (y != y) = false from bne_self_eq_false _)
      replace hs := hs.pick (ts := [3, 4, 8, 11, 13, 56, 57, 58, 76]) (L' := [(3, .pointer (some ⟨b1, 0, none⟩)), (4, .pointer (some ⟨b2, 0, none⟩)), (8, .int .i64 er), (11, .pointer (some ⟨b4, 0, none⟩)), (13, .pointer (some ⟨b5, 0, none⟩)), (56, .slice (some ⟨p1, o1, none⟩) n c1), (57, .int .i64 (n : Int)), (58, .int .i64 (k : Int)), (76, .bool false)]) (by kernel_rfl)
      refine atR_seg (m := 2) (H := [(15, none, [.int .i64 x, .int .i64 y, .int .i64 z]), (16, none, [.int .i64 2, .int .i64 x, .int .i64 y, .int .i64 (-d), .int .i64 0, .int .i64 0, .int .i64 plu])]) (ts := [3, 4, 8, 11, 13, 56, 57, 58, 76, 77, 78]) (L' := [(3, .pointer (some ⟨b1, 0, none⟩)), (4, .pointer (some ⟨b2, 0, none⟩)), (8, .int .i64 er), (11, .pointer (some ⟨b4, 0, none⟩)), (13, .pointer (some ⟨b5, 0, none⟩)), (56, .slice (some ⟨p1, o1, none⟩) n c1), (57, .int .i64 (n : Int)), (58, .int .i64 (k : Int)), (76, .bool false), (77, .agg #[.int .i64 x, .int .i64 y, .int .i64 z]), (78, .agg #[.int .i64 2, .int .i64 x, .int .i64 y, .int .i64 (-d), .int .i64 0, .int .i64 0, .int .i64 plu])]) (O := fun w => (w.cell? ⟨b4, 0, none⟩ = some (.int .i64 x)) ∧ (w.cell? ⟨b4, 1, none⟩ = some (.int .i64 y)) ∧ (w.cell? ⟨b4, 2, none⟩ = some (.int .i64 z)) ∧ (w.cell? ⟨b5, 0, none⟩ = some (.int .i64 2)) ∧ (w.cell? ⟨b5, 1, none⟩ = some (.int .i64 x)) ∧ (w.cell? ⟨b5, 2, none⟩ = some (.int .i64 y)) ∧ (w.cell? ⟨b5, 3, none⟩ = some (.int .i64 (-d))) ∧ (w.cell? ⟨b5, 4, none⟩ = some (.int .i64 0)) ∧ (w.cell? ⟨b5, 5, none⟩ = some (.int .i64 0)) ∧ (w.cell? ⟨b5, 6, none⟩ = some (.int .i64 plu)) ∧ True) hs (by kernel_rfl) ⟨B4.cell 0 rfl, B4.cell 1 rfl, B4.cell 2 rfl, B5.cell 0 rfl, B5.cell 1 rfl, B5.cell 2 rfl, B5.cell 3 rfl, B5.cell 4 rfl, B5.cell 5 rfl, B5.cell 6 rfl, trivial⟩ ?_
      clear hs a; intro a hs
      refine atR_op hs (by kernel_rfl) (call1 (f := 21) (args := #[.agg #[.int .i64 x, .int .i64 y, .int .i64 z], .agg #[.int .i64 2, .int .i64 x, .int .i64 y, .int .i64 (-d), .int .i64 0, .int .i64 0, .int .i64 plu]]) [3, 4, 8, 11, 13, 56, 57, 58, 76, 79] (fun rv_ => [(3, .pointer (some ⟨b1, 0, none⟩)), (4, .pointer (some ⟨b2, 0, none⟩)), (8, .int .i64 er), (11, .pointer (some ⟨b4, 0, none⟩)), (13, .pointer (some ⟨b5, 0, none⟩)), (56, .slice (some ⟨p1, o1, none⟩) n c1), (57, .int .i64 (n : Int)), (58, .int .i64 (k : Int)), (76, .bool false), (79, rv_)]) hs (by kernel_rfl) (fun _ => by kernel_rfl) ?_)
      refine (ivalid2 _ _ _ _ _ _ _ _ _ _ hpl gx gy gz gx gy ⟨by omega, by omega⟩).mono ?_
      rintro e w13 ⟨rfl, hb⟩
      refine ⟨_, rfl, ?_⟩
      clear hs a; intro a hs
      replace B1 := B1.below hb B1.lt
      replace B2 := B2.below hb B2.lt
      replace B3 := B3.below hb B3.lt
      replace B4 := B4.below hb B4.lt
      replace B5 := B5.below hb B5.lt
      replace R1 := R1.below hb
      replace R2 := R2.below hb
      replace e1 := e1.below hb
      replace hB := later hB hb
      clear hb
      refine atR_seg (m := 2) (H := []) (ts := [3, 4, 8, 11, 13, 56, 57, 58, 81]) (L' := [(3, .pointer (some ⟨b1, 0, none⟩)), (4, .pointer (some ⟨b2, 0, none⟩)), (8, .int .i64 er), (11, .pointer (some ⟨b4, 0, none⟩)), (13, .pointer (some ⟨b5, 0, none⟩)), (56, .slice (some ⟨p1, o1, none⟩) n c1), (57, .int .i64 (n : Int)), (58, .int .i64 (k : Int)), (81, .bool false)]) (O := fun w => True) hs (by kernel_rfl) trivial ?_
      clear hs a; intro a hs
      refine atR_end (by kernel_rfl) ?_
      refine wayN_node rfl ?_
      refine at_cond (t := 81) (j1 := 43) (j2 := 46) (b := false) (by kernel_rfl) hs rfl (fun hb => absurd (hb.symm.trans (show (false) = false from rfl)) (by decide)) (fun _ => ?_)
      refine at_skip (by kernel_rfl) ?_
      refine wayN_node rfl ?_
      refine at_region (id := 13) (by kernel_rfl) ?_
      refine atR_seg (m := 2) (H := [(1, none, [.int .i64 x, .int .i64 y, .int .i64 (-d)])]) (ts := [3, 4, 8, 11, 56, 57, 58, 83]) (L' := [(3, .pointer (some ⟨b1, 0, none⟩)), (4, .pointer (some ⟨b2, 0, none⟩)), (8, .int .i64 er), (11, .pointer (some ⟨b4, 0, none⟩)), (56, .slice (some ⟨p1, o1, none⟩) n c1), (57, .int .i64 (n : Int)), (58, .int .i64 (k : Int)), (83, .agg #[.int .i64 x, .int .i64 y, .int .i64 (-d)])]) (O := fun w => (w.cell? ⟨b5, 1, none⟩ = some (.int .i64 x)) ∧ (w.cell? ⟨b5, 2, none⟩ = some (.int .i64 y)) ∧ (w.cell? ⟨b5, 3, none⟩ = some (.int .i64 (-d))) ∧ True) hs (by kernel_rfl) ⟨B5.cell 1 rfl, B5.cell 2 rfl, B5.cell 3 rfl, trivial⟩ ?_
      clear hs a; intro a hs
      refine atR_op hs (by kernel_rfl) (store1 (b := b4) (cs := #[.int .i64 x, .int .i64 y, .int .i64 z]) #[.int .i64 x, .int .i64 y, .int .i64 (-d)] [(0, .int .i64 x), (1, .int .i64 y), (2, .int .i64 (-d))] [3, 4, 8, 11, 56, 57, 58] [(3, .pointer (some ⟨b1, 0, none⟩)), (4, .pointer (some ⟨b2, 0, none⟩)), (8, .int .i64 er), (11, .pointer (some ⟨b4, 0, none⟩)), (56, .slice (some ⟨p1, o1, none⟩) n c1), (57, .int .i64 (n : Int)), (58, .int .i64 (k : Int))] hs B4 (by kernel_rfl) ⟨Nat.le_of_ble_eq_true rfl, trivial, ⟨Nat.le_of_ble_eq_true rfl, trivial, ⟨Nat.le_of_ble_eq_true rfl, trivial, trivial⟩⟩⟩ rfl (by kernel_rfl) ?_)
      clear hs a; intro a w14 B4' hu hs
      replace B4 := B4'; clear B4'
      replace B1 := hu.blk B1 (by omega)
      replace B2 := hu.blk B2 (by omega)
      replace B3 := hu.blk B3 (by omega)
      replace B5 := hu.blk B5 (by omega)
      replace R1 := R1.upd hu (by omega)
      replace R2 := R2.upd hu (by omega)
      replace e1 := e1.upd hu (by omega)
      replace hB := hB.trans (hu.below (by omega))
      clear hu
      refine atR_end (by kernel_rfl) ?_
      refine wayN_node rfl ?_
      refine at_region (id := 14) (by kernel_rfl) ?_
      refine atR_seg (m := 2) (H := [(0, some (.int .i64 ((k : Int) + 1)), [])]) (ts := [3, 4, 8, 11, 56, 57, 58]) (L' := [(3, .pointer (some ⟨b1, 0, none⟩)), (4, .pointer (some ⟨b2, 0, none⟩)), (8, .int .i64 er), (11, .pointer (some ⟨b4, 0, none⟩)), (56, .slice (some ⟨p1, o1, none⟩) n c1), (57, .int .i64 (n : Int)), (58, .int .i64 ((k : Int) + 1))]) (O := fun w => (W .i64 ((k : Int) + 1)) ∧ True) hs (by kernel_rfl) ⟨w64 (by omega) (by omega), trivial⟩ ?_
      clear hs a; intro a hs
      refine atR_end (by kernel_rfl) ?_
      refine wayN_back ?_
      dsimp only [lpOf]
      exact ⟨k + 1, -d, ⟨hs.sub ⟨⟨_, rfl, rfl⟩, ⟨_, rfl, rfl⟩, ⟨_, rfl, rfl⟩, ⟨_, rfl, rfl⟩, ⟨_, rfl, (by first | rfl | (push_cast; rfl) | (congr 1; omega))⟩, ⟨_, rfl, rfl⟩, ⟨_, rfl, (by first | rfl | (push_cast; rfl) | (congr 1; omega))⟩, trivial⟩, B1, B2, B3, B4, hB, R1, R2, by omega, fun _ _ => ⟨by omega, by omega⟩, fun h => by omega⟩, by omega⟩
    · skip
      refine at_region (id := 10) (by kernel_rfl) ?_
      refine atR_seg (m := 2) (H := [(0, some (.pointer (some ⟨p1, o1 + k * 7, none⟩)), []), (1, none, [.int .i64 1, .int .i64 x, .int .i64 y, .int .i64 n0, .int .i64 0, .int .i64 0, .int .i64 0])]) (ts := [3, 4, 8, 11, 56, 57, 58, 61]) (L' := [(3, .pointer (some ⟨b1, 0, none⟩)), (4, .pointer (some ⟨b2, 0, none⟩)), (8, .int .i64 er), (11, .pointer (some ⟨b4, 0, none⟩)), (56, .slice (some ⟨p1, o1, none⟩) n c1), (57, .int .i64 (n : Int)), (58, .int .i64 (k : Int)), (61, .agg #[.int .i64 1, .int .i64 x, .int .i64 y, .int .i64 n0, .int .i64 0, .int .i64 0, .int .i64 0])]) (O := fun w => (.pointer (some ⟨p1, o1 + ((k : Int)).toNat * 7, none⟩) = Value.pointer (some ⟨p1, o1 + k * 7, none⟩)) ∧ ((0 : Int) ≤ (k : Int) ∧ (k : Int) < ((n : Nat) : Int)) ∧ (w.cell? ⟨p1, o1 + k * 7, none⟩ = some (.int .i64 1)) ∧ (w.cell? ⟨p1, o1 + k * 7 + 1, none⟩ = some (.int .i64 x)) ∧ (w.cell? ⟨p1, o1 + k * 7 + 2, none⟩ = some (.int .i64 y)) ∧ (w.cell? ⟨p1, o1 + k * 7 + 3, none⟩ = some (.int .i64 n0)) ∧ (w.cell? ⟨p1, o1 + k * 7 + 4, none⟩ = some (.int .i64 0)) ∧ (w.cell? ⟨p1, o1 + k * 7 + 5, none⟩ = some (.int .i64 0)) ∧ (w.cell? ⟨p1, o1 + k * 7 + 6, none⟩ = some (.int .i64 0)) ∧ True) hs (by kernel_rfl) ⟨by simp [Int.toNat_natCast], ⟨by omega, by omega⟩, e1.at0 rfl, e1.at_ 1 rfl, e1.at_ 2 rfl, e1.at_ 3 rfl, e1.at_ 4 rfl, e1.at_ 5 rfl, e1.at_ 6 rfl, trivial⟩ ?_
      clear hs a; intro a hs
      refine atR_op hs (by kernel_rfl) (new1 (t := 48) (cs := #[.int .i64 0, .int .i64 0, .int .i64 0, .int .i64 0, .int .i64 0, .int .i64 0, .int .i64 0]) (fun rb_ => .pointer (some ⟨rb_, 0, none⟩)) [3, 4, 8, 11, 13, 56, 57, 58, 61] (fun rb_ => [(3, .pointer (some ⟨b1, 0, none⟩)), (4, .pointer (some ⟨b2, 0, none⟩)), (8, .int .i64 er), (11, .pointer (some ⟨b4, 0, none⟩)), (13, .pointer (some ⟨rb_, 0, none⟩)), (56, .slice (some ⟨p1, o1, none⟩) n c1), (57, .int .i64 (n : Int)), (58, .int .i64 (k : Int)), (61, .agg #[.int .i64 1, .int .i64 x, .int .i64 y, .int .i64 n0, .int .i64 0, .int .i64 0, .int .i64 0])]) hs (fun _ => by kernel_rfl) (fun _ => by kernel_rfl) ?_)
      clear hs a; intro a w15 b6 hn hs
      have B6 := hn.blk
      have l6 : w.heap.size ≤ b6 := by rw [hn.at_]; exact hB.size
      have l6' : b4 < b6 := by rw [hn.at_]; exact B4.lt
      have lu6R1 : u1 ≤ b6 := by rw [hn.at_]; exact R1.le
      have lu6R2 : u2 ≤ b6 := by rw [hn.at_]; exact R2.le
      have lu6e1 : u1 ≤ b6 := by rw [hn.at_]; exact e1.le
      replace B1 := B1.below hn.below B1.lt
      replace B2 := B2.below hn.below B2.lt
      replace B3 := B3.below hn.below B3.lt
      replace B4 := B4.below hn.below B4.lt
      replace R1 := R1.below hn.below
      replace R2 := R2.below hn.below
      replace e1 := e1.below hn.below
      replace hB := later hB hn.below
      clear hn
      refine atR_op hs (by kernel_rfl) (store1 (b := b6) (cs := #[.int .i64 0, .int .i64 0, .int .i64 0, .int .i64 0, .int .i64 0, .int .i64 0, .int .i64 0]) #[.int .i64 1, .int .i64 x, .int .i64 y, .int .i64 n0, .int .i64 0, .int .i64 0, .int .i64 0] [(0, .int .i64 1), (1, .int .i64 x), (2, .int .i64 y), (3, .int .i64 n0), (4, .int .i64 0), (5, .int .i64 0), (6, .int .i64 0)] [3, 4, 8, 11, 13, 56, 57, 58] [(3, .pointer (some ⟨b1, 0, none⟩)), (4, .pointer (some ⟨b2, 0, none⟩)), (8, .int .i64 er), (11, .pointer (some ⟨b4, 0, none⟩)), (13, .pointer (some ⟨b6, 0, none⟩)), (56, .slice (some ⟨p1, o1, none⟩) n c1), (57, .int .i64 (n : Int)), (58, .int .i64 (k : Int))] hs B6 (by kernel_rfl) ⟨Nat.le_of_ble_eq_true rfl, trivial, ⟨Nat.le_of_ble_eq_true rfl, trivial, ⟨Nat.le_of_ble_eq_true rfl, trivial, ⟨Nat.le_of_ble_eq_true rfl, trivial, ⟨Nat.le_of_ble_eq_true rfl, trivial, ⟨Nat.le_of_ble_eq_true rfl, trivial, ⟨Nat.le_of_ble_eq_true rfl, trivial, trivial⟩⟩⟩⟩⟩⟩⟩ rfl (by kernel_rfl) ?_)
      clear hs a; intro a w16 B6' hu hs
      replace B6 := B6'; clear B6'
      replace B1 := hu.blk B1 (by omega)
      replace B2 := hu.blk B2 (by omega)
      replace B3 := hu.blk B3 (by omega)
      replace B4 := hu.blk B4 (by omega)
      replace R1 := R1.upd hu (by omega)
      replace R2 := R2.upd hu (by omega)
      replace e1 := e1.upd hu (by omega)
      replace hB := hB.trans (hu.below (by omega))
      clear hu
      refine atR_end (by kernel_rfl) ?_
      refine wayN_node rfl ?_
      refine at_seq (j := 47) (by kernel_rfl) ?_
      refine at_seq (j := 42) (by kernel_rfl) ?_
      refine at_region (id := 11) (by kernel_rfl) ?_
      refine atR_seg (m := 7) (H := [(2, none, [.int .i64 x]), (4, none, [.int .i64 x])]) (ts := [3, 4, 8, 11, 13, 56, 57, 58, 68]) (L' := [(3, .pointer (some ⟨b1, 0, none⟩)), (4, .pointer (some ⟨b2, 0, none⟩)), (8, .int .i64 er), (11, .pointer (some ⟨b4, 0, none⟩)), (13, .pointer (some ⟨b6, 0, none⟩)), (56, .slice (some ⟨p1, o1, none⟩) n c1), (57, .int .i64 (n : Int)), (58, .int .i64 (k : Int)), (68, .bool (x != x))]) (O := fun w => (w.cell? ⟨b6, 1, none⟩ = some (.int .i64 x)) ∧ (w.cell? ⟨b1, 0, none⟩ = some (.int .i64 x)) ∧ True) hs (by kernel_rfl) ⟨B6.cell 1 rfl, B1.cell 0 rfl, trivial⟩ ?_
      clear hs a; intro a hs
      replace hs := hs.know (t := 68) rfl (show (x != x) = false from bne_self_eq_false _)
      replace hs := hs.pick (ts := [3, 4, 8, 11, 13, 56, 57, 58, 68]) (L' := [(3, .pointer (some ⟨b1, 0, none⟩)), (4, .pointer (some ⟨b2, 0, none⟩)), (8, .int .i64 er), (11, .pointer (some ⟨b4, 0, none⟩)), (13, .pointer (some ⟨b6, 0, none⟩)), (56, .slice (some ⟨p1, o1, none⟩) n c1), (57, .int .i64 (n : Int)), (58, .int .i64 (k : Int)), (68, .bool false)]) (by kernel_rfl)
      refine atR_seg (m := 8) (H := [(9, none, [.int .i64 y]), (11, none, [.int .i64 y])]) (ts := [3, 4, 8, 11, 13, 56, 57, 58, 76]) (L' := [(3, .pointer (some ⟨b1, 0, none⟩)), (4, .pointer (some ⟨b2, 0, none⟩)), (8, .int .i64 er), (11, .pointer (some ⟨b4, 0, none⟩)), (13, .pointer (some ⟨b6, 0, none⟩)), (56, .slice (some ⟨p1, o1, none⟩) n c1), (57, .int .i64 (n : Int)), (58, .int .i64 (k : Int)), (76, .bool (y != y))]) (O := fun w => (w.cell? ⟨b6, 2, none⟩ = some (.int .i64 y)) ∧ (w.cell? ⟨b1, 1, none⟩ = some (.int .i64 y)) ∧ True) hs (by kernel_rfl) ⟨B6.cell 2 rfl, B1.cell 1 rfl, trivial⟩ ?_
      clear hs a; intro a hs
      replace hs := hs.know (t := 76) rfl (show (y != y) = false from bne_self_eq_false _)
      replace hs := hs.pick (ts := [3, 4, 8, 11, 13, 56, 57, 58, 76]) (L' := [(3, .pointer (some ⟨b1, 0, none⟩)), (4, .pointer (some ⟨b2, 0, none⟩)), (8, .int .i64 er), (11, .pointer (some ⟨b4, 0, none⟩)), (13, .pointer (some ⟨b6, 0, none⟩)), (56, .slice (some ⟨p1, o1, none⟩) n c1), (57, .int .i64 (n : Int)), (58, .int .i64 (k : Int)), (76, .bool false)]) (by kernel_rfl)
      refine atR_seg (m := 2) (H := [(15, none, [.int .i64 x, .int .i64 y, .int .i64 z]), (16, none, [.int .i64 1, .int .i64 x, .int .i64 y, .int .i64 n0, .int .i64 0, .int .i64 0, .int .i64 0])]) (ts := [3, 4, 8, 11, 13, 56, 57, 58, 76, 77, 78]) (L' := [(3, .pointer (some ⟨b1, 0, none⟩)), (4, .pointer (some ⟨b2, 0, none⟩)), (8, .int .i64 er), (11, .pointer (some ⟨b4, 0, none⟩)), (13, .pointer (some ⟨b6, 0, none⟩)), (56, .slice (some ⟨p1, o1, none⟩) n c1), (57, .int .i64 (n : Int)), (58, .int .i64 (k : Int)), (76, .bool false), (77, .agg #[.int .i64 x, .int .i64 y, .int .i64 z]), (78, .agg #[.int .i64 1, .int .i64 x, .int .i64 y, .int .i64 n0, .int .i64 0, .int .i64 0, .int .i64 0])]) (O := fun w => (w.cell? ⟨b4, 0, none⟩ = some (.int .i64 x)) ∧ (w.cell? ⟨b4, 1, none⟩ = some (.int .i64 y)) ∧ (w.cell? ⟨b4, 2, none⟩ = some (.int .i64 z)) ∧ (w.cell? ⟨b6, 0, none⟩ = some (.int .i64 1)) ∧ (w.cell? ⟨b6, 1, none⟩ = some (.int .i64 x)) ∧ (w.cell? ⟨b6, 2, none⟩ = some (.int .i64 y)) ∧ (w.cell? ⟨b6, 3, none⟩ = some (.int .i64 n0)) ∧ (w.cell? ⟨b6, 4, none⟩ = some (.int .i64 0)) ∧ (w.cell? ⟨b6, 5, none⟩ = some (.int .i64 0)) ∧ (w.cell? ⟨b6, 6, none⟩ = some (.int .i64 0)) ∧ True) hs (by kernel_rfl) ⟨B4.cell 0 rfl, B4.cell 1 rfl, B4.cell 2 rfl, B6.cell 0 rfl, B6.cell 1 rfl, B6.cell 2 rfl, B6.cell 3 rfl, B6.cell 4 rfl, B6.cell 5 rfl, B6.cell 6 rfl, trivial⟩ ?_
      clear hs a; intro a hs
      refine atR_op hs (by kernel_rfl) (call1 (f := 21) (args := #[.agg #[.int .i64 x, .int .i64 y, .int .i64 z], .agg #[.int .i64 1, .int .i64 x, .int .i64 y, .int .i64 n0, .int .i64 0, .int .i64 0, .int .i64 0]]) [3, 4, 8, 11, 13, 56, 57, 58, 76, 79] (fun rv_ => [(3, .pointer (some ⟨b1, 0, none⟩)), (4, .pointer (some ⟨b2, 0, none⟩)), (8, .int .i64 er), (11, .pointer (some ⟨b4, 0, none⟩)), (13, .pointer (some ⟨b6, 0, none⟩)), (56, .slice (some ⟨p1, o1, none⟩) n c1), (57, .int .i64 (n : Int)), (58, .int .i64 (k : Int)), (76, .bool false), (79, rv_)]) hs (by kernel_rfl) (fun _ => by kernel_rfl) ?_)
      refine (ivalid1 _ _ _ _ _ _ _ _ _ _ rfl gx gy gz gx gy gt).mono ?_
      rintro e w17 ⟨rfl, hb⟩
      refine ⟨_, rfl, ?_⟩
      clear hs a; intro a hs
      replace B1 := B1.below hb B1.lt
      replace B2 := B2.below hb B2.lt
      replace B3 := B3.below hb B3.lt
      replace B4 := B4.below hb B4.lt
      replace B6 := B6.below hb B6.lt
      replace R1 := R1.below hb
      replace R2 := R2.below hb
      replace e1 := e1.below hb
      replace hB := later hB hb
      clear hb
      refine atR_seg (m := 2) (H := []) (ts := [3, 4, 8, 11, 13, 56, 57, 58, 81]) (L' := [(3, .pointer (some ⟨b1, 0, none⟩)), (4, .pointer (some ⟨b2, 0, none⟩)), (8, .int .i64 er), (11, .pointer (some ⟨b4, 0, none⟩)), (13, .pointer (some ⟨b6, 0, none⟩)), (56, .slice (some ⟨p1, o1, none⟩) n c1), (57, .int .i64 (n : Int)), (58, .int .i64 (k : Int)), (81, .bool false)]) (O := fun w => True) hs (by kernel_rfl) trivial ?_
      clear hs a; intro a hs
      refine atR_end (by kernel_rfl) ?_
      refine wayN_node rfl ?_
      refine at_cond (t := 81) (j1 := 43) (j2 := 46) (b := false) (by kernel_rfl) hs rfl (fun hb => absurd (hb.symm.trans (show (false) = false from rfl)) (by decide)) (fun _ => ?_)
      refine at_skip (by kernel_rfl) ?_
      refine wayN_node rfl ?_
      refine at_region (id := 13) (by kernel_rfl) ?_
      refine atR_seg (m := 2) (H := [(1, none, [.int .i64 x, .int .i64 y, .int .i64 n0])]) (ts := [3, 4, 8, 11, 56, 57, 58, 83]) (L' := [(3, .pointer (some ⟨b1, 0, none⟩)), (4, .pointer (some ⟨b2, 0, none⟩)), (8, .int .i64 er), (11, .pointer (some ⟨b4, 0, none⟩)), (56, .slice (some ⟨p1, o1, none⟩) n c1), (57, .int .i64 (n : Int)), (58, .int .i64 (k : Int)), (83, .agg #[.int .i64 x, .int .i64 y, .int .i64 n0])]) (O := fun w => (w.cell? ⟨b6, 1, none⟩ = some (.int .i64 x)) ∧ (w.cell? ⟨b6, 2, none⟩ = some (.int .i64 y)) ∧ (w.cell? ⟨b6, 3, none⟩ = some (.int .i64 n0)) ∧ True) hs (by kernel_rfl) ⟨B6.cell 1 rfl, B6.cell 2 rfl, B6.cell 3 rfl, trivial⟩ ?_
      clear hs a; intro a hs
      refine atR_op hs (by kernel_rfl) (store1 (b := b4) (cs := #[.int .i64 x, .int .i64 y, .int .i64 z]) #[.int .i64 x, .int .i64 y, .int .i64 n0] [(0, .int .i64 x), (1, .int .i64 y), (2, .int .i64 n0)] [3, 4, 8, 11, 56, 57, 58] [(3, .pointer (some ⟨b1, 0, none⟩)), (4, .pointer (some ⟨b2, 0, none⟩)), (8, .int .i64 er), (11, .pointer (some ⟨b4, 0, none⟩)), (56, .slice (some ⟨p1, o1, none⟩) n c1), (57, .int .i64 (n : Int)), (58, .int .i64 (k : Int))] hs B4 (by kernel_rfl) ⟨Nat.le_of_ble_eq_true rfl, trivial, ⟨Nat.le_of_ble_eq_true rfl, trivial, ⟨Nat.le_of_ble_eq_true rfl, trivial, trivial⟩⟩⟩ rfl (by kernel_rfl) ?_)
      clear hs a; intro a w18 B4' hu hs
      replace B4 := B4'; clear B4'
      replace B1 := hu.blk B1 (by omega)
      replace B2 := hu.blk B2 (by omega)
      replace B3 := hu.blk B3 (by omega)
      replace B6 := hu.blk B6 (by omega)
      replace R1 := R1.upd hu (by omega)
      replace R2 := R2.upd hu (by omega)
      replace e1 := e1.upd hu (by omega)
      replace hB := hB.trans (hu.below (by omega))
      clear hu
      refine atR_end (by kernel_rfl) ?_
      refine wayN_node rfl ?_
      refine at_region (id := 14) (by kernel_rfl) ?_
      refine atR_seg (m := 2) (H := [(0, some (.int .i64 ((k : Int) + 1)), [])]) (ts := [3, 4, 8, 11, 56, 57, 58]) (L' := [(3, .pointer (some ⟨b1, 0, none⟩)), (4, .pointer (some ⟨b2, 0, none⟩)), (8, .int .i64 er), (11, .pointer (some ⟨b4, 0, none⟩)), (56, .slice (some ⟨p1, o1, none⟩) n c1), (57, .int .i64 (n : Int)), (58, .int .i64 ((k : Int) + 1))]) (O := fun w => (W .i64 ((k : Int) + 1)) ∧ True) hs (by kernel_rfl) ⟨w64 (by omega) (by omega), trivial⟩ ?_
      clear hs a; intro a hs
      refine atR_end (by kernel_rfl) ?_
      refine wayN_back ?_
      dsimp only [lpOf]
      exact ⟨k + 1, n0, ⟨hs.sub ⟨⟨_, rfl, rfl⟩, ⟨_, rfl, rfl⟩, ⟨_, rfl, rfl⟩, ⟨_, rfl, rfl⟩, ⟨_, rfl, (by first | rfl | (push_cast; rfl) | (congr 1; omega))⟩, ⟨_, rfl, rfl⟩, ⟨_, rfl, (by first | rfl | (push_cast; rfl) | (congr 1; omega))⟩, trivial⟩, B1, B2, B3, B4, hB, R1, R2, by omega, fun _ _ => gt, fun _ => rfl⟩, by omega⟩
  · have cd1 := hb; have cd1b := hb; clear hb
    replace cd1 := of_decide_eq_false cd1
    refine at_exit (id := 0) (by kernel_rfl) (wayE_ok rfl ?_)
    refine wayN_node rfl ?_
    refine at_seq (j := 51) (by kernel_rfl) ?_
    refine at_region (id := 15) (by kernel_rfl) ?_
    refine atR_seg (m := 3) (H := []) (ts := [4, 11, 87]) (L' := [(4, .pointer (some ⟨b2, 0, none⟩)), (11, .pointer (some ⟨b4, 0, none⟩)), (87, .bool (er != 0))]) (O := fun w => True) hs (by kernel_rfl) trivial ?_
    clear hs a; intro a hs
    rcases Bool.eq_false_or_eq_true (er != 0) with hb | hb
    · replace hs := hs.know (t := 87) rfl hb
      have cd2 := hb; have cd2b := hb; clear hb
      replace cd2 := bne_iff_ne.1 cd2
      replace hs := hs.pick (ts := [4, 11, 87]) (L' := [(4, .pointer (some ⟨b2, 0, none⟩)), (11, .pointer (some ⟨b4, 0, none⟩)), (87, .bool true)]) (by kernel_rfl)
      refine atR_seg (m := 7) (H := []) (ts := [6]) (L' := [(6, .bool true)]) (O := fun w => True) hs (by kernel_rfl) trivial ?_
      clear hs a; intro a hs
      refine atR_end (by kernel_rfl) ?_
      refine wayN_node rfl ?_
      refine at_ret (by kernel_rfl) ?_
      refine at_end (vs := [.bool true]) (H := []) (v := .bool true) (O := fun w => True) hs (by kernel_rfl) rfl trivial ?_
      exact ⟨rfl, hB⟩
    · replace hs := hs.know (t := 87) rfl hb
      have cd2 := hb; have cd2b := hb; clear hb
      replace cd2 := bne_eq_false_iff_eq.1 cd2
      replace hs := hs.pick (ts := [4, 11, 87]) (L' := [(4, .pointer (some ⟨b2, 0, none⟩)), (11, .pointer (some ⟨b4, 0, none⟩)), (87, .bool false)]) (by kernel_rfl)
      refine atR_seg (m := 7) (H := [(4, none, [.int .i64 z]), (6, none, [.int .i64 n0])]) (ts := [6]) (L' := [(6, .bool (z == n0))]) (O := fun w => (w.cell? ⟨b4, 2, none⟩ = some (.int .i64 z)) ∧ ((0 : Int) ≤ 0 ∧ 0 < ((3 : Nat) : Int)) ∧ (w.cell? ⟨b2, 0, none⟩ = some (.int .i64 n0)) ∧ True) hs (by kernel_rfl) ⟨B4.cell 2 rfl, ⟨by omega, by omega⟩, B2.cell 0 rfl, trivial⟩ ?_
      clear hs a; intro a hs
      refine atR_end (by kernel_rfl) ?_
      refine wayN_node rfl ?_
      refine at_ret (by kernel_rfl) ?_
      refine at_end (vs := [.bool (z == n0)]) (H := []) (v := .bool (z == n0)) (O := fun w => True) hs (by kernel_rfl) rfl trivial ?_
      have hkn' : k = n := by omega
      have hlast := hz (by rw [hkn', ← hln]; exact peckR_even)
      exact ⟨by rw [show (z == n0) = true from beq_iff_eq.2 hlast], hB⟩
end Go.Proofs.YtpiabmjipgfjjaaDoor
