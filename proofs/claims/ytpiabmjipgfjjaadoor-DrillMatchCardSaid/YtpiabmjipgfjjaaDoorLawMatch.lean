/- The law DrillMatch returns true. -/
import Derived.Test.YtpiabmjipgfjjaaDoorMatch
import Derived.Test.YtpiabmjipgfjjaaDoorLawPeck
namespace Go.Proofs.YtpiabmjipgfjjaaDoor
open Go.RowKit
theorem match_ok {ts : List Tl} {radius depth : Int} (h : mE ts radius depth = 0) : ∃ (j : Nat) (t : Tl), mI ts radius depth = j ∧ ts[j]? = some t ∧ 1 ≤ radius ∧ 1 ≤ depth ∧ depth ≤ t.flu ∧ (mB ts radius depth = true → t.kind = 2) ∧ (mB ts radius depth = false → t.mills radius = true) := by
  unfold mE at h
  split at h
  · simp at h
  · rename_i h0
    unfold mI mB
    rw [if_neg h0, if_neg h0]
    cases hf : ts.findIdx? (isD radius depth) with
    | some k =>
      rw [List.findIdx?_eq_some_iff_getElem] at hf
      obtain ⟨hk, h1, _⟩ := hf
      have h2 := of_decide_eq_true h1
      exact ⟨k, _, rfl, List.getElem?_eq_getElem hk, by omega, by omega, h2.1, fun _ => h2.2.1, fun h => by simp at h⟩
    | none =>
      rw [hf] at h
      dsimp only at h ⊢
      split at h
      · simp at h
      · rename_i hb
        rcases bst_form ts radius depth ts.length with h1 | ⟨j, t, h1, h2, h3, h4, h5⟩
        · omega
        · exact ⟨j, t, by rw [if_neg hb]; exact h1, h3, by omega, by omega, h4, fun h => by simp at h, fun _ => h5⟩
theorem insB_ok {n : Int} (h1 : -10000000 ≤ n) (h2 : n ≤ 10000000) : insB n = true := decide_eq_true ⟨h1, h2⟩
theorem peck_fine {t : Tl} {depth : Int} (hg : t.good = true) (hk : t.kind = 2) (h1 : 1 ≤ depth) (h2 : depth ≤ t.flu) (h3 : depth ≤ 20000) : peckErr t 0 0 1000 depth depth = 0 := by
  have hp : pkErr depth depth = 0 := by
    unfold pkErr
    rw [if_neg (by omega), if_neg]
    rw [Int.ediv_eq_zero_of_lt (by omega) (by omega)]; decide
  unfold peckErr
  rw [hg, show (t.kind != 2) = false from by rw [hk]; rfl, show decide ((1000 : Int) < 0) = false from rfl, decide_eq_false (show ¬ depth < 1 by omega), decide_eq_false (show ¬ t.flu < depth by omega), insB_ok (n := 0) (by decide) (by decide), insB_ok (n := 1000) (by decide) (by decide), insB_ok (n := depth) (by omega) (by omega)]
  exact hp
theorem bore_fine {t : Tl} {radius depth : Int} (hg : t.good = true) (hm : t.mills radius = true) (h0 : 1 ≤ radius) (h1 : 1 ≤ depth) (h2 : depth ≤ t.flu) (h3 : depth ≤ 20000) (h4 : radius ≤ 1000000) (h5 : 500 ≤ t.stp) : boreErr t 0 0 radius 1000 depth = 0 := by
  have hm' := of_decide_eq_true hm
  have hn : (depth + t.stp - 1) / t.stp < 41 := Int.ediv_lt_of_lt_mul (by omega) (by omega)
  have hG : t.Good := of_decide_eq_true hg
  unfold Tl.Good at hG
  unfold boreErr outB
  rw [hg, hm, show (t.kind != 1) = false from by rw [hm'.1]; rfl, show decide ((1000 : Int) < 0) = false from rfl, decide_eq_false (show ¬ radius < 1 by omega), decide_eq_false (show ¬ depth < 1 by omega), decide_eq_false (show ¬ t.flu < depth by omega), insB_ok (n := 0) (by decide) (by decide), insB_ok (n := 1000) (by decide) (by decide), insB_ok (n := depth) (by omega) (by omega),
    insB_ok (n := 0 + (radius - t.rad)) (by omega) (by omega), insB_ok (n := 0 - (radius - t.rad)) (by omega) (by omega), decide_eq_false (show ¬ 4 * ((depth + t.stp - 1) / t.stp) + 4 > 20000 by omega)]
  rfl
noncomputable def body5 : Code := Tryd.f5.body.getD .skip
theorem tools_one (ts : List Tl) : ∀ x ∈ ts.flatMap Tl.cs, x.oneCell' = true := by
  intro x hx
  obtain ⟨t, _, h⟩ := List.mem_flatMap.1 hx
  simp only [Tl.cs, List.mem_cons, List.not_mem_nil, or_false] at h
  rcases h with rfl | rfl | rfl | rfl | rfl | rfl | rfl | rfl <;> rfl
set_option maxHeartbeats 2000000 in
theorem drillMatch_walk (v : Value) (ts : List Tl) (radius depth : Int) (w : World) (HN : Nms w) (hrd : Rd w 8 v ts.length (ts.flatMap Tl.cs)) (HOK : ∀ t ∈ ts, t.ok) (br1 : -9223372036854775808 ≤ radius) (br2 : radius ≤ 9223372036854775807) (bd1 : -9223372036854775808 ≤ depth) (bd2 : depth ≤ 9223372036854775807) :
    Calls Tryd.prog 5 #[v, .int .i64 radius, .int .i64 depth] w fun e w' => e = .returned (.bool true) ∧ Below w.heap.size w w' := by
  obtain ⟨n, hl⟩ : ∃ n, ts.length = n := ⟨_, rfl⟩
  rw [hl] at hrd
  have R1 := RdU.of_rd hrd
  obtain ⟨A1, c1, rfl, hn⟩ := R1.form
  have cs1 := tools_one ts
  obtain ⟨i, hi⟩ : ∃ i, mI ts radius depth = i := ⟨_, rfl⟩
  obtain ⟨bis, hbis⟩ : ∃ i, mB ts radius depth = i := ⟨_, rfl⟩
  obtain ⟨er, her⟩ : ∃ i, mE ts radius depth = i := ⟨_, rfl⟩
  have hB : Below w.heap.size w w := Below.refl _ _
  refine enter (B := body5) (args := [.slice A1 n c1, .int .i64 radius, .int .i64 depth]) Tryd.func5 (by kernel_rfl) (by kernel_rfl) ?_
  rw [show Tryd.f5.ntmps = 120 from by kernel_rfl]
  intro a hs
  replace hs := hs.pick (ts := [0, 1, 2]) (L' := [(0, .slice A1 n c1), (1, .int .i64 radius), (2, .int .i64 depth)]) (by kernel_rfl)
  refine at_seq (j := 2) (by kernel_rfl) ?_
  refine at_region (id := 0) (by kernel_rfl) ?_
  refine atR_seg (m := 1) (H := []) (ts := [0, 1, 2]) (L' := [(0, .slice A1 n c1), (1, .int .i64 radius), (2, .int .i64 depth)]) (O := fun w => True) hs (by kernel_rfl) trivial ?_
  clear hs a; intro a hs
  refine atR_end (by kernel_rfl) ?_
  refine wayN_node rfl ?_
  refine at_seq (j := 10) (by kernel_rfl) ?_
  refine at_seq (j := 5) (by kernel_rfl) ?_
  refine at_region (id := 1) (by kernel_rfl) ?_
  refine atR_op hs (by kernel_rfl) (call1 (f := 8) (args := #[]) [0, 1, 2, 16] (fun rv_ => [(0, .slice A1 n c1), (1, .int .i64 radius), (2, .int .i64 depth), (16, rv_)]) hs (by kernel_rfl) (fun _ => by kernel_rfl) ?_)
  refine (awake_any _ (HN.below hB)).mono ?_
  rintro e w1 ⟨rfl, hb⟩
  refine ⟨_, rfl, ?_⟩
  clear hs a; intro a hs
  replace hB := later hB hb
  clear hb
  refine atR_seg (m := 6) (H := []) (ts := [0, 1, 2, 22]) (L' := [(0, .slice A1 n c1), (1, .int .i64 radius), (2, .int .i64 depth), (22, .bool (decide ((n : Int) > 12)))]) (O := fun w => True) hs (by kernel_rfl) trivial ?_
  clear hs a; intro a hs
  refine atR_end (by kernel_rfl) ?_
  refine wayN_node rfl ?_
  refine at_cond (t := 22) (j1 := 6) (j2 := 9) (b := decide ((n : Int) > 12)) (by kernel_rfl) hs rfl (fun hb => ?_) (fun hb => ?_)
  · have cd1 := hb; have cd1b := hb; clear hb
    replace cd1 := of_decide_eq_true cd1
    refine at_seq (j := 8) (by kernel_rfl) ?_
    refine at_region (id := 2) (by kernel_rfl) ?_
    refine atR_op hs (by kernel_rfl) (call1 (f := 8) (args := #[]) [23] (fun rv_ => [(23, rv_)]) hs (by kernel_rfl) (fun _ => by kernel_rfl) ?_)
    refine (awake_any _ (HN.below hB)).mono ?_
    rintro e w2 ⟨rfl, hb⟩
    refine ⟨_, rfl, ?_⟩
    clear hs a; intro a hs
    replace hB := later hB hb
    clear hb
    refine atR_seg (m := 1) (H := []) (ts := [6]) (L' := [(6, .bool true)]) (O := fun w => True) hs (by kernel_rfl) trivial ?_
    clear hs a; intro a hs
    refine atR_end (by kernel_rfl) ?_
    refine wayN_node rfl ?_
    refine at_ret (by kernel_rfl) ?_
    refine at_end (vs := [.bool true]) (H := []) (v := .bool true) (O := fun w => True) hs (by kernel_rfl) rfl trivial ?_
    exact ⟨rfl, hB⟩
  · have cd1 := hb; have cd1b := hb; clear hb
    replace cd1 := of_decide_eq_false cd1
    refine at_skip (by kernel_rfl) ?_
    refine wayN_node rfl ?_
    refine at_seq (j := 33) (by kernel_rfl) ?_
    refine at_seq (j := 13) (by kernel_rfl) ?_
    refine at_region (id := 3) (by kernel_rfl) ?_
    refine atR_seg (m := 3) (H := []) (ts := [0, 1, 2, 24, 25, 26]) (L' := [(0, .slice A1 n c1), (1, .int .i64 radius), (2, .int .i64 depth), (24, .slice A1 n c1), (25, .int .i64 (n : Int)), (26, .int .i64 0)]) (O := fun w => True) hs (by kernel_rfl) trivial ?_
    clear hs a; intro a hs
    refine atR_end (by kernel_rfl) ?_
    refine wayN_node rfl ?_
    refine at_block (id := 0) (by kernel_rfl) ?_
    refine at_loop1 (fun (k : Nat) a' W => St 120 [(0, .slice A1 n c1), (1, .int .i64 radius), (2, .int .i64 depth), (24, .slice A1 n c1), (25, .int .i64 (n : Int)), (26, .int .i64 (k : Int))] a' ∧ Below w.heap.size w W ∧ (k ≤ n) ∧ (∀ (j : Nat) (t : Tl), j < k → ts[j]? = some t → 0 ≤ t.rad ∧ t.rad ≤ 10000000)) (fun k => n - k) 0 (by kernel_rfl) ⟨hs.sub ⟨⟨_, rfl, rfl⟩, ⟨_, rfl, rfl⟩, ⟨_, rfl, rfl⟩, ⟨_, rfl, rfl⟩, ⟨_, rfl, rfl⟩, ⟨_, rfl, (by first | rfl | (push_cast; rfl) | (congr 1; omega))⟩, trivial⟩, hB, Nat.zero_le _, fun _ _ h => absurd h (Nat.not_lt_zero _)⟩ ?_
    clear hs a hB
    intro k a wr3 hI
    obtain ⟨hs, hB, hk, hrr⟩ := hI
    refine at_seq (j := 17) (by kernel_rfl) ?_
    refine at_region (id := 4) (by kernel_rfl) ?_
    refine atR_seg (m := 1) (H := []) (ts := [0, 1, 2, 24, 25, 26, 27]) (L' := [(0, .slice A1 n c1), (1, .int .i64 radius), (2, .int .i64 depth), (24, .slice A1 n c1), (25, .int .i64 (n : Int)), (26, .int .i64 (k : Int)), (27, .bool (decide ((k : Int) < (n : Int))))]) (O := fun w => True) hs (by kernel_rfl) trivial ?_
    clear hs a; intro a hs
    refine atR_end (by kernel_rfl) ?_
    refine wayN_node rfl ?_
    refine at_seq (j := 21) (by kernel_rfl) ?_
    refine at_cond (t := 27) (j1 := 19) (j2 := 20) (b := decide ((k : Int) < (n : Int))) (by kernel_rfl) hs rfl (fun hb => ?_) (fun hb => ?_)
    · have cd2 := hb; have cd2b := hb; clear hb
      replace cd2 := of_decide_eq_true cd2
      have hkn : k < n := by omega
      refine at_skip (by kernel_rfl) ?_
      refine wayN_node rfl ?_
      refine at_seq (j := 32) (by kernel_rfl) ?_
      refine at_block (id := 1) (by kernel_rfl) ?_
      refine at_seq (j := 25) (by kernel_rfl) ?_
      obtain ⟨p1, o1, t, hA1, ht, e1⟩ := (R1.below hB).elem (f := Tl.cs) (fun _ => rfl) hl hkn
      obtain ⟨num, kind, rad, flu, hol, stp, fd, plu⟩ := t
      subst hA1
      refine at_region (id := 5) (by kernel_rfl) ?_
      refine atR_seg (m := 2) (H := [(0, some (.pointer (some ⟨p1, o1 + k * 8, none⟩)), []), (1, none, [.int .i64 num, .int .i64 kind, .int .i64 rad, .int .i64 flu, .int .i64 hol, .int .i64 stp, .int .i64 fd, .int .i64 plu])]) (ts := [0, 1, 2, 24, 25, 26, 29]) (L' := [(0, .slice (some ⟨p1, o1, none⟩) n c1), (1, .int .i64 radius), (2, .int .i64 depth), (24, .slice (some ⟨p1, o1, none⟩) n c1), (25, .int .i64 (n : Int)), (26, .int .i64 (k : Int)), (29, .agg #[.int .i64 num, .int .i64 kind, .int .i64 rad, .int .i64 flu, .int .i64 hol, .int .i64 stp, .int .i64 fd, .int .i64 plu])]) (O := fun w => (.pointer (some ⟨p1, o1 + ((k : Int)).toNat * 8, none⟩) = Value.pointer (some ⟨p1, o1 + k * 8, none⟩)) ∧ ((0 : Int) ≤ (k : Int) ∧ (k : Int) < ((n : Nat) : Int)) ∧ (w.cell? ⟨p1, o1 + k * 8, none⟩ = some (.int .i64 num)) ∧ (w.cell? ⟨p1, o1 + k * 8 + 1, none⟩ = some (.int .i64 kind)) ∧ (w.cell? ⟨p1, o1 + k * 8 + 2, none⟩ = some (.int .i64 rad)) ∧ (w.cell? ⟨p1, o1 + k * 8 + 3, none⟩ = some (.int .i64 flu)) ∧ (w.cell? ⟨p1, o1 + k * 8 + 4, none⟩ = some (.int .i64 hol)) ∧ (w.cell? ⟨p1, o1 + k * 8 + 5, none⟩ = some (.int .i64 stp)) ∧ (w.cell? ⟨p1, o1 + k * 8 + 6, none⟩ = some (.int .i64 fd)) ∧ (w.cell? ⟨p1, o1 + k * 8 + 7, none⟩ = some (.int .i64 plu)) ∧ True) hs (by kernel_rfl) ⟨by simp [Int.toNat_natCast], ⟨by omega, by omega⟩, e1.at0 rfl, e1.at_ 1 rfl, e1.at_ 2 rfl, e1.at_ 3 rfl, e1.at_ 4 rfl, e1.at_ 5 rfl, e1.at_ 6 rfl, e1.at_ 7 rfl, trivial⟩ ?_
      clear hs a; intro a hs
      refine atR_op hs (by kernel_rfl) (new1 (t := 33) (cs := #[.int .i64 0, .int .i64 0, .int .i64 0, .int .i64 0, .int .i64 0, .int .i64 0, .int .i64 0, .int .i64 0]) (fun rb_ => .pointer (some ⟨rb_, 0, none⟩)) [0, 1, 2, 8, 24, 25, 26, 29] (fun rb_ => [(0, .slice (some ⟨p1, o1, none⟩) n c1), (1, .int .i64 radius), (2, .int .i64 depth), (8, .pointer (some ⟨rb_, 0, none⟩)), (24, .slice (some ⟨p1, o1, none⟩) n c1), (25, .int .i64 (n : Int)), (26, .int .i64 (k : Int)), (29, .agg #[.int .i64 num, .int .i64 kind, .int .i64 rad, .int .i64 flu, .int .i64 hol, .int .i64 stp, .int .i64 fd, .int .i64 plu])]) hs (fun _ => by kernel_rfl) (fun _ => by kernel_rfl) ?_)
      clear hs a; intro a w4 b1 hn hs
      have B1 := hn.blk
      have l1 : w.heap.size ≤ b1 := by rw [hn.at_]; exact hB.size
      replace e1 := e1.below hn.below
      replace hB := later hB hn.below
      clear hn
      refine atR_op hs (by kernel_rfl) (store1 (b := b1) (cs := #[.int .i64 0, .int .i64 0, .int .i64 0, .int .i64 0, .int .i64 0, .int .i64 0, .int .i64 0, .int .i64 0]) #[.int .i64 num, .int .i64 kind, .int .i64 rad, .int .i64 flu, .int .i64 hol, .int .i64 stp, .int .i64 fd, .int .i64 plu] [(0, .int .i64 num), (1, .int .i64 kind), (2, .int .i64 rad), (3, .int .i64 flu), (4, .int .i64 hol), (5, .int .i64 stp), (6, .int .i64 fd), (7, .int .i64 plu)] [0, 1, 2, 8, 24, 25, 26] [(0, .slice (some ⟨p1, o1, none⟩) n c1), (1, .int .i64 radius), (2, .int .i64 depth), (8, .pointer (some ⟨b1, 0, none⟩)), (24, .slice (some ⟨p1, o1, none⟩) n c1), (25, .int .i64 (n : Int)), (26, .int .i64 (k : Int))] hs B1 (by kernel_rfl) ⟨Nat.le_of_ble_eq_true rfl, trivial, ⟨Nat.le_of_ble_eq_true rfl, trivial, ⟨Nat.le_of_ble_eq_true rfl, trivial, ⟨Nat.le_of_ble_eq_true rfl, trivial, ⟨Nat.le_of_ble_eq_true rfl, trivial, ⟨Nat.le_of_ble_eq_true rfl, trivial, ⟨Nat.le_of_ble_eq_true rfl, trivial, ⟨Nat.le_of_ble_eq_true rfl, trivial, trivial⟩⟩⟩⟩⟩⟩⟩⟩ rfl (by kernel_rfl) ?_)
      clear hs a; intro a w5 B1' hu hs
      replace B1 := B1'; clear B1'
      replace e1 := e1.upd hu (by omega)
      replace hB := hB.trans (hu.below (by omega))
      clear hu
      refine atR_end (by kernel_rfl) ?_
      refine wayN_node rfl ?_
      refine at_seq (j := 27) (by kernel_rfl) ?_
      refine at_region (id := 6) (by kernel_rfl) ?_
      refine atR_seg (m := 4) (H := [(1, none, [.int .i64 rad])]) (ts := [0, 1, 2, 8, 24, 25, 26, 33]) (L' := [(0, .slice (some ⟨p1, o1, none⟩) n c1), (1, .int .i64 radius), (2, .int .i64 depth), (8, .pointer (some ⟨b1, 0, none⟩)), (24, .slice (some ⟨p1, o1, none⟩) n c1), (25, .int .i64 (n : Int)), (26, .int .i64 (k : Int)), (33, .bool (decide (rad < 0)))]) (O := fun w => (w.cell? ⟨b1, 2, none⟩ = some (.int .i64 rad)) ∧ True) hs (by kernel_rfl) ⟨B1.cell 2 rfl, trivial⟩ ?_
      clear hs a; intro a hs
      rcases Bool.eq_false_or_eq_true (decide (rad < 0)) with hb | hb
      · replace hs := hs.know (t := 33) rfl hb
        have cd3 := hb; have cd3b := hb; clear hb
        replace cd3 := of_decide_eq_true cd3
        replace hs := hs.pick (ts := [0, 1, 2, 8, 24, 25, 26, 33]) (L' := [(0, .slice (some ⟨p1, o1, none⟩) n c1), (1, .int .i64 radius), (2, .int .i64 depth), (8, .pointer (some ⟨b1, 0, none⟩)), (24, .slice (some ⟨p1, o1, none⟩) n c1), (25, .int .i64 (n : Int)), (26, .int .i64 (k : Int)), (33, .bool true)]) (by kernel_rfl)
        refine atR_seg (m := 4) (H := []) (ts := [0, 1, 2, 24, 25, 26, 37]) (L' := [(0, .slice (some ⟨p1, o1, none⟩) n c1), (1, .int .i64 radius), (2, .int .i64 depth), (24, .slice (some ⟨p1, o1, none⟩) n c1), (25, .int .i64 (n : Int)), (26, .int .i64 (k : Int)), (37, .bool true)]) (O := fun w => True) hs (by kernel_rfl) trivial ?_
        clear hs a; intro a hs
        refine atR_end (by kernel_rfl) ?_
        refine wayN_node rfl ?_
        refine at_cond (t := 37) (j1 := 28) (j2 := 31) (b := true) (by kernel_rfl) hs rfl (fun _ => ?_) (fun hb => absurd (hb.symm.trans (show (true) = true from rfl)) (by decide))
        refine at_seq (j := 30) (by kernel_rfl) ?_
        refine at_region (id := 7) (by kernel_rfl) ?_
        refine atR_seg (m := 1) (H := []) (ts := [6]) (L' := [(6, .bool true)]) (O := fun w => True) hs (by kernel_rfl) trivial ?_
        clear hs a; intro a hs
        refine atR_end (by kernel_rfl) ?_
        refine wayN_node rfl ?_
        refine at_ret (by kernel_rfl) ?_
        refine at_end (vs := [.bool true]) (H := []) (v := .bool true) (O := fun w => True) hs (by kernel_rfl) rfl trivial ?_
        exact ⟨rfl, hB⟩
      · replace hs := hs.know (t := 33) rfl hb
        have cd3 := hb; have cd3b := hb; clear hb
        replace cd3 := of_decide_eq_false cd3
        replace hs := hs.pick (ts := [0, 1, 2, 8, 24, 25, 26, 33]) (L' := [(0, .slice (some ⟨p1, o1, none⟩) n c1), (1, .int .i64 radius), (2, .int .i64 depth), (8, .pointer (some ⟨b1, 0, none⟩)), (24, .slice (some ⟨p1, o1, none⟩) n c1), (25, .int .i64 (n : Int)), (26, .int .i64 (k : Int)), (33, .bool false)]) (by kernel_rfl)
        refine atR_seg (m := 4) (H := [(5, none, [.int .i64 rad])]) (ts := [0, 1, 2, 24, 25, 26, 37]) (L' := [(0, .slice (some ⟨p1, o1, none⟩) n c1), (1, .int .i64 radius), (2, .int .i64 depth), (24, .slice (some ⟨p1, o1, none⟩) n c1), (25, .int .i64 (n : Int)), (26, .int .i64 (k : Int)), (37, .bool (decide (rad > 10000000)))]) (O := fun w => (w.cell? ⟨b1, 2, none⟩ = some (.int .i64 rad)) ∧ True) hs (by kernel_rfl) ⟨B1.cell 2 rfl, trivial⟩ ?_
        clear hs a; intro a hs
        refine atR_end (by kernel_rfl) ?_
        refine wayN_node rfl ?_
        refine at_cond (t := 37) (j1 := 28) (j2 := 31) (b := decide (rad > 10000000)) (by kernel_rfl) hs rfl (fun hb => ?_) (fun hb => ?_)
        · have cd4 := hb; have cd4b := hb; clear hb
          replace cd4 := of_decide_eq_true cd4
          refine at_seq (j := 30) (by kernel_rfl) ?_
          refine at_region (id := 7) (by kernel_rfl) ?_
          refine atR_seg (m := 1) (H := []) (ts := [6]) (L' := [(6, .bool true)]) (O := fun w => True) hs (by kernel_rfl) trivial ?_
          clear hs a; intro a hs
          refine atR_end (by kernel_rfl) ?_
          refine wayN_node rfl ?_
          refine at_ret (by kernel_rfl) ?_
          refine at_end (vs := [.bool true]) (H := []) (v := .bool true) (O := fun w => True) hs (by kernel_rfl) rfl trivial ?_
          exact ⟨rfl, hB⟩
        · have cd4 := hb; have cd4b := hb; clear hb
          replace cd4 := of_decide_eq_false cd4
          refine at_skip (by kernel_rfl) ?_
          refine wayN_node rfl ?_
          refine at_region (id := 8) (by kernel_rfl) ?_
          refine atR_seg (m := 2) (H := [(0, some (.int .i64 ((k : Int) + 1)), [])]) (ts := [0, 1, 2, 24, 25, 26]) (L' := [(0, .slice (some ⟨p1, o1, none⟩) n c1), (1, .int .i64 radius), (2, .int .i64 depth), (24, .slice (some ⟨p1, o1, none⟩) n c1), (25, .int .i64 (n : Int)), (26, .int .i64 ((k : Int) + 1))]) (O := fun w => (W .i64 ((k : Int) + 1)) ∧ True) hs (by kernel_rfl) ⟨w64 (by omega) (by omega), trivial⟩ ?_
          clear hs a; intro a hs
          refine atR_end (by kernel_rfl) ?_
          refine wayN_back ?_
          dsimp only [lpOf]
          exact ⟨k + 1, ⟨hs.sub ⟨⟨_, rfl, (by first | rfl | (push_cast; rfl) | (congr 1; omega))⟩, ⟨_, rfl, rfl⟩, ⟨_, rfl, rfl⟩, ⟨_, rfl, (by first | rfl | (push_cast; rfl) | (congr 1; omega))⟩, ⟨_, rfl, rfl⟩, ⟨_, rfl, (by first | rfl | (push_cast; rfl) | (congr 1; omega))⟩, trivial⟩, hB, by omega, fun j t' hj ht' => by
                  rcases Nat.lt_or_ge j k with h1 | h1
                  · exact hrr j t' h1 ht'
                  · obtain rfl : j = k := by omega
                    rw [ht] at ht'
                    injection ht' with e
                    subst e
                    exact ⟨by dsimp only; omega, by dsimp only; omega⟩⟩, by omega⟩
    · have cd2 := hb; have cd2b := hb; clear hb
      replace cd2 := of_decide_eq_false cd2
      refine at_exit (id := 0) (by kernel_rfl) (wayE_ok rfl ?_)
      refine wayN_node rfl ?_
      refine at_seq (j := 35) (by kernel_rfl) ?_
      have HR : ∀ t ∈ ts, 0 ≤ t.rad ∧ t.rad ≤ 10000000 := by
        intro t hm
        obtain ⟨j, hj, rfl⟩ := List.getElem_of_mem hm
        exact hrr j _ (by omega) (List.getElem?_eq_getElem hj)
      refine at_region (id := 9) (by kernel_rfl) ?_
      refine atR_seg (m := 1) (H := []) (ts := [0, 1, 2, 40]) (L' := [(0, .slice A1 n c1), (1, .int .i64 radius), (2, .int .i64 depth), (40, .slice A1 n c1)]) (O := fun w => True) hs (by kernel_rfl) trivial ?_
      clear hs a; intro a hs
      refine atR_op hs (by kernel_rfl) (call1 (f := 16) (args := #[.slice A1 n c1]) [0, 1, 2, 41] (fun rv_ => [(0, .slice A1 n c1), (1, .int .i64 radius), (2, .int .i64 depth), (41, rv_)]) hs (by kernel_rfl) (fun _ => by kernel_rfl) ?_)
      refine (clone_any w.heap.size _ n _ _ (R1.below hB) (by omega) cs1).mono ?_
      rintro e w6 ⟨vc, rfl, hrc, hb⟩
      obtain ⟨u2, hu2, R2⟩ := RdU.at_u hrc
      clear hu2 hrc
      refine ⟨_, rfl, ?_⟩
      clear hs a; intro a hs
      replace hB := later hB hb
      clear hb
      refine atR_seg (m := 2) (H := []) (ts := [0, 1, 2, 41, 42, 43]) (L' := [(0, .slice A1 n c1), (1, .int .i64 radius), (2, .int .i64 depth), (41, vc), (42, .int .i64 radius), (43, .int .i64 depth)]) (O := fun w => True) hs (by kernel_rfl) trivial ?_
      clear hs a; intro a hs
      refine atR_op hs (by kernel_rfl) (call1 (f := 15) (args := #[vc, .int .i64 radius, .int .i64 depth]) [0, 1, 2, 44] (fun rv_ => [(0, .slice A1 n c1), (1, .int .i64 radius), (2, .int .i64 depth), (44, rv_)]) hs (by kernel_rfl) (fun _ => by kernel_rfl) ?_)
      refine (match_any _ n ts radius depth _ hl R2.rd_ HR br1 br2).mono ?_
      rintro e w7 ⟨rfl, hb⟩
      rw [hi, hbis, her]
      refine ⟨_, rfl, ?_⟩
      clear hs a; intro a hs
      replace R2 := R2.below hb
      replace hB := later hB hb
      clear hb
      refine atR_seg (m := 7) (H := []) (ts := [0, 1, 2, 9, 10, 11]) (L' := [(0, .slice A1 n c1), (1, .int .i64 radius), (2, .int .i64 depth), (9, .int .i64 i), (10, .bool bis), (11, .int .i64 er)]) (O := fun w => True) hs (by kernel_rfl) trivial ?_
      clear hs a; intro a hs
      refine atR_end (by kernel_rfl) ?_
      refine wayN_node rfl ?_
      refine at_seq (j := 37) (by kernel_rfl) ?_
      refine at_region (id := 10) (by kernel_rfl) ?_
      refine atR_seg (m := 3) (H := []) (ts := [0, 1, 2, 9, 10, 11, 49, 50, 51]) (L' := [(0, .slice A1 n c1), (1, .int .i64 radius), (2, .int .i64 depth), (9, .int .i64 i), (10, .bool bis), (11, .int .i64 er), (49, .slice A1 n c1), (50, .int .i64 radius), (51, .int .i64 depth)]) (O := fun w => True) hs (by kernel_rfl) trivial ?_
      clear hs a; intro a hs
      refine atR_op hs (by kernel_rfl) (call1 (f := 17) (args := #[.slice A1 n c1, .int .i64 radius, .int .i64 depth]) [0, 1, 2, 9, 10, 11, 52] (fun rv_ => [(0, .slice A1 n c1), (1, .int .i64 radius), (2, .int .i64 depth), (9, .int .i64 i), (10, .bool bis), (11, .int .i64 er), (52, rv_)]) hs (by kernel_rfl) (fun _ => by kernel_rfl) ?_)
      refine (rmatch_any _ n ts radius depth _ hl (R1.below hB).rd_ HR br1 br2).mono ?_
      rintro e w8 ⟨rfl, hb⟩
      rw [hi, hbis, her]
      refine ⟨_, rfl, ?_⟩
      clear hs a; intro a hs
      replace R2 := R2.below hb
      replace hB := later hB hb
      clear hb
      refine atR_seg (m := 7) (H := []) (ts := [0, 1, 2, 9, 10, 11, 12, 13, 14]) (L' := [(0, .slice A1 n c1), (1, .int .i64 radius), (2, .int .i64 depth), (9, .int .i64 i), (10, .bool bis), (11, .int .i64 er), (12, .int .i64 i), (13, .bool bis), (14, .int .i64 er)]) (O := fun w => True) hs (by kernel_rfl) trivial ?_
      clear hs a; intro a hs
      refine atR_end (by kernel_rfl) ?_
      refine wayN_node rfl ?_
      refine at_seq (j := 45) (by kernel_rfl) ?_
      refine at_seq (j := 40) (by kernel_rfl) ?_
      refine at_region (id := 11) (by kernel_rfl) ?_
      refine atR_seg (m := 4) (H := []) (ts := [0, 1, 2, 9, 10, 11, 13, 14, 59]) (L' := [(0, .slice A1 n c1), (1, .int .i64 radius), (2, .int .i64 depth), (9, .int .i64 i), (10, .bool bis), (11, .int .i64 er), (13, .bool bis), (14, .int .i64 er), (59, .bool (i != i))]) (O := fun w => True) hs (by kernel_rfl) trivial ?_
      clear hs a; intro a hs
      replace hs := hs.know (t := 59) rfl (show (i != i) = false from bne_self_eq_false _)
      replace hs := hs.pick (ts := [0, 1, 2, 9, 10, 11, 13, 14, 59]) (L' := [(0, .slice A1 n c1), (1, .int .i64 radius), (2, .int .i64 depth), (9, .int .i64 i), (10, .bool bis), (11, .int .i64 er), (13, .bool bis), (14, .int .i64 er), (59, .bool false)]) (by kernel_rfl)
      refine atR_seg (m := 5) (H := []) (ts := [0, 1, 2, 9, 10, 11, 14, 64]) (L' := [(0, .slice A1 n c1), (1, .int .i64 radius), (2, .int .i64 depth), (9, .int .i64 i), (10, .bool bis), (11, .int .i64 er), (14, .int .i64 er), (64, .bool (!(bis == bis)))]) (O := fun w => True) hs (by kernel_rfl) trivial ?_
      clear hs a; intro a hs
      replace hs := hs.know (t := 64) rfl (show (!(bis == bis)) = false from by simp)
      replace hs := hs.pick (ts := [0, 1, 2, 9, 10, 11, 14, 64]) (L' := [(0, .slice A1 n c1), (1, .int .i64 radius), (2, .int .i64 depth), (9, .int .i64 i), (10, .bool bis), (11, .int .i64 er), (14, .int .i64 er), (64, .bool false)]) (by kernel_rfl)
      refine atR_seg (m := 4) (H := []) (ts := [0, 1, 2, 9, 10, 11, 68]) (L' := [(0, .slice A1 n c1), (1, .int .i64 radius), (2, .int .i64 depth), (9, .int .i64 i), (10, .bool bis), (11, .int .i64 er), (68, .bool (er != er))]) (O := fun w => True) hs (by kernel_rfl) trivial ?_
      clear hs a; intro a hs
      refine atR_end (by kernel_rfl) ?_
      refine wayN_node rfl ?_
      refine at_cond (t := 68) (j1 := 41) (j2 := 44) (b := er != er) (by kernel_rfl) hs rfl (fun hb => absurd (hb.symm.trans (show (er != er) = false from bne_self_eq_false _)) (by decide)) (fun _ => ?_)
      refine at_skip (by kernel_rfl) ?_
      refine wayN_node rfl ?_
      refine at_seq (j := 53) (by kernel_rfl) ?_
      refine at_seq (j := 48) (by kernel_rfl) ?_
      rcases Decidable.em (er = 0) with he0 | he0
      · obtain ⟨j, t, hij, ht, hj2, hj3, hj4, hd2, hm2⟩ := match_ok (her.trans he0)
        have hjn : j < n := by rw [← hl]; exact (List.getElem?_eq_some_iff.1 ht).1
        rw [hi] at hij; rw [hbis] at hd2 hm2; subst hij
        obtain ⟨p1, o1, t3, hA1, ht3, e1⟩ := (R1.below hB).elem (f := Tl.cs) (fun _ => rfl) hl hjn
        obtain rfl : t = t3 := by rw [ht] at ht3; injection ht3
        obtain ⟨num, kind, rad, flu, hol, stp, fd, plu⟩ := t
        subst hA1
        dsimp only at hj4 hd2 hm2
        refine at_region (id := 13) (by kernel_rfl) ?_
        refine atR_seg (m := 3) (H := []) (ts := [0, 1, 2, 9, 10, 71]) (L' := [(0, .slice (some ⟨p1, o1, none⟩) n c1), (1, .int .i64 radius), (2, .int .i64 depth), (9, .int .i64 (j : Int)), (10, .bool bis), (71, .bool (er != 0))]) (O := fun w => True) hs (by kernel_rfl) trivial ?_
        clear hs a; intro a hs
        replace hs := hs.know (t := 71) rfl (show (er != 0) = false from bne_eq_false_iff_eq.2 he0)
        replace hs := hs.pick (ts := [0, 1, 2, 9, 10, 71]) (L' := [(0, .slice (some ⟨p1, o1, none⟩) n c1), (1, .int .i64 radius), (2, .int .i64 depth), (9, .int .i64 (j : Int)), (10, .bool bis), (71, .bool false)]) (by kernel_rfl)
        refine atR_seg (m := 4) (H := [(5, some (.pointer (some ⟨p1, o1 + j * 8, none⟩)), []), (6, none, [.int .i64 num, .int .i64 kind, .int .i64 rad, .int .i64 flu, .int .i64 hol, .int .i64 stp, .int .i64 fd, .int .i64 plu])]) (ts := [0, 1, 2, 9, 10, 71, 75]) (L' := [(0, .slice (some ⟨p1, o1, none⟩) n c1), (1, .int .i64 radius), (2, .int .i64 depth), (9, .int .i64 (j : Int)), (10, .bool bis), (71, .bool false), (75, .agg #[.int .i64 num, .int .i64 kind, .int .i64 rad, .int .i64 flu, .int .i64 hol, .int .i64 stp, .int .i64 fd, .int .i64 plu])]) (O := fun w => (.pointer (some ⟨p1, o1 + ((j : Int)).toNat * 8, none⟩) = Value.pointer (some ⟨p1, o1 + j * 8, none⟩)) ∧ ((0 : Int) ≤ (j : Int) ∧ (j : Int) < ((n : Nat) : Int)) ∧ (w.cell? ⟨p1, o1 + j * 8, none⟩ = some (.int .i64 num)) ∧ (w.cell? ⟨p1, o1 + j * 8 + 1, none⟩ = some (.int .i64 kind)) ∧ (w.cell? ⟨p1, o1 + j * 8 + 2, none⟩ = some (.int .i64 rad)) ∧ (w.cell? ⟨p1, o1 + j * 8 + 3, none⟩ = some (.int .i64 flu)) ∧ (w.cell? ⟨p1, o1 + j * 8 + 4, none⟩ = some (.int .i64 hol)) ∧ (w.cell? ⟨p1, o1 + j * 8 + 5, none⟩ = some (.int .i64 stp)) ∧ (w.cell? ⟨p1, o1 + j * 8 + 6, none⟩ = some (.int .i64 fd)) ∧ (w.cell? ⟨p1, o1 + j * 8 + 7, none⟩ = some (.int .i64 plu)) ∧ True) hs (by kernel_rfl) ⟨by simp [Int.toNat_natCast], ⟨by omega, by omega⟩, e1.at0 rfl, e1.at_ 1 rfl, e1.at_ 2 rfl, e1.at_ 3 rfl, e1.at_ 4 rfl, e1.at_ 5 rfl, e1.at_ 6 rfl, e1.at_ 7 rfl, trivial⟩ ?_
        clear hs a; intro a hs
        refine atR_op hs (by kernel_rfl) (call1 (f := 18) (args := #[.agg #[.int .i64 num, .int .i64 kind, .int .i64 rad, .int .i64 flu, .int .i64 hol, .int .i64 stp, .int .i64 fd, .int .i64 plu]]) [0, 1, 2, 9, 10, 71, 76] (fun rv_ => [(0, .slice (some ⟨p1, o1, none⟩) n c1), (1, .int .i64 radius), (2, .int .i64 depth), (9, .int .i64 (j : Int)), (10, .bool bis), (71, .bool false), (76, rv_)]) hs (by kernel_rfl) (fun _ => by kernel_rfl) ?_)
        refine (good_any (⟨num, kind, rad, flu, hol, stp, fd, plu⟩ : Tl) _).mono ?_
        rintro e w9 ⟨rfl, hb⟩
        refine ⟨_, rfl, ?_⟩
        clear hs a; intro a hs
        replace R2 := R2.below hb
        replace e1 := e1.below hb
        replace hB := later hB hb
        clear hb
        refine atR_seg (m := 3) (H := []) (ts := [0, 1, 2, 9, 10, 79]) (L' := [(0, .slice (some ⟨p1, o1, none⟩) n c1), (1, .int .i64 radius), (2, .int .i64 depth), (9, .int .i64 (j : Int)), (10, .bool bis), (79, .bool (((⟨num, kind, rad, flu, hol, stp, fd, plu⟩ : Tl).good) == false))]) (O := fun w => True) hs (by kernel_rfl) trivial ?_
        clear hs a; intro a hs
        rcases Bool.eq_false_or_eq_true (((⟨num, kind, rad, flu, hol, stp, fd, plu⟩ : Tl).good) == false) with hb | hb
        · replace hs := hs.know (t := 79) rfl hb
          have cd5 := hb; have cd5b := hb; clear hb
          replace cd5 := eq_of_beq cd5
          replace hs := hs.pick (ts := [0, 1, 2, 9, 10, 79]) (L' := [(0, .slice (some ⟨p1, o1, none⟩) n c1), (1, .int .i64 radius), (2, .int .i64 depth), (9, .int .i64 (j : Int)), (10, .bool bis), (79, .bool true)]) (by kernel_rfl)
          refine atR_seg (m := 15) (H := []) (ts := [0, 1, 2, 9, 10, 94]) (L' := [(0, .slice (some ⟨p1, o1, none⟩) n c1), (1, .int .i64 radius), (2, .int .i64 depth), (9, .int .i64 (j : Int)), (10, .bool bis), (94, .bool true)]) (O := fun w => True) hs (by kernel_rfl) trivial ?_
          clear hs a; intro a hs
          refine atR_end (by kernel_rfl) ?_
          refine wayN_node rfl ?_
          refine at_cond (t := 94) (j1 := 49) (j2 := 52) (b := true) (by kernel_rfl) hs rfl (fun _ => ?_) (fun hb => absurd (hb.symm.trans (show (true) = true from rfl)) (by decide))
          refine at_seq (j := 51) (by kernel_rfl) ?_
          refine at_region (id := 14) (by kernel_rfl) ?_
          refine atR_seg (m := 1) (H := []) (ts := [6]) (L' := [(6, .bool true)]) (O := fun w => True) hs (by kernel_rfl) trivial ?_
          clear hs a; intro a hs
          refine atR_end (by kernel_rfl) ?_
          refine wayN_node rfl ?_
          refine at_ret (by kernel_rfl) ?_
          refine at_end (vs := [.bool true]) (H := []) (v := .bool true) (O := fun w => True) hs (by kernel_rfl) rfl trivial ?_
          exact ⟨rfl, hB⟩
        · replace hs := hs.know (t := 79) rfl hb
          have cd5 := hb; have cd5b := hb; clear hb
          replace cd5 := ne_of_beq_false cd5
          have hgd := cd5
          replace hs := hs.pick (ts := [0, 1, 2, 9, 10, 79]) (L' := [(0, .slice (some ⟨p1, o1, none⟩) n c1), (1, .int .i64 radius), (2, .int .i64 depth), (9, .int .i64 (j : Int)), (10, .bool bis), (79, .bool false)]) (by kernel_rfl)
          refine atR_seg (m := 4) (H := []) (ts := [0, 1, 2, 9, 10, 83]) (L' := [(0, .slice (some ⟨p1, o1, none⟩) n c1), (1, .int .i64 radius), (2, .int .i64 depth), (9, .int .i64 (j : Int)), (10, .bool bis), (83, .bool (decide (radius > 1000000)))]) (O := fun w => True) hs (by kernel_rfl) trivial ?_
          clear hs a; intro a hs
          rcases Bool.eq_false_or_eq_true (decide (radius > 1000000)) with hb | hb
          · replace hs := hs.know (t := 83) rfl hb
            have cd6 := hb; have cd6b := hb; clear hb
            replace cd6 := of_decide_eq_true cd6
            replace hs := hs.pick (ts := [0, 1, 2, 9, 10, 83]) (L' := [(0, .slice (some ⟨p1, o1, none⟩) n c1), (1, .int .i64 radius), (2, .int .i64 depth), (9, .int .i64 (j : Int)), (10, .bool bis), (83, .bool true)]) (by kernel_rfl)
            refine atR_seg (m := 11) (H := []) (ts := [0, 1, 2, 9, 10, 94]) (L' := [(0, .slice (some ⟨p1, o1, none⟩) n c1), (1, .int .i64 radius), (2, .int .i64 depth), (9, .int .i64 (j : Int)), (10, .bool bis), (94, .bool true)]) (O := fun w => True) hs (by kernel_rfl) trivial ?_
            clear hs a; intro a hs
            refine atR_end (by kernel_rfl) ?_
            refine wayN_node rfl ?_
            refine at_cond (t := 94) (j1 := 49) (j2 := 52) (b := true) (by kernel_rfl) hs rfl (fun _ => ?_) (fun hb => absurd (hb.symm.trans (show (true) = true from rfl)) (by decide))
            refine at_seq (j := 51) (by kernel_rfl) ?_
            refine at_region (id := 14) (by kernel_rfl) ?_
            refine atR_seg (m := 1) (H := []) (ts := [6]) (L' := [(6, .bool true)]) (O := fun w => True) hs (by kernel_rfl) trivial ?_
            clear hs a; intro a hs
            refine atR_end (by kernel_rfl) ?_
            refine wayN_node rfl ?_
            refine at_ret (by kernel_rfl) ?_
            refine at_end (vs := [.bool true]) (H := []) (v := .bool true) (O := fun w => True) hs (by kernel_rfl) rfl trivial ?_
            exact ⟨rfl, hB⟩
          · replace hs := hs.know (t := 83) rfl hb
            have cd6 := hb; have cd6b := hb; clear hb
            replace cd6 := of_decide_eq_false cd6
            replace hs := hs.pick (ts := [0, 1, 2, 9, 10, 83]) (L' := [(0, .slice (some ⟨p1, o1, none⟩) n c1), (1, .int .i64 radius), (2, .int .i64 depth), (9, .int .i64 (j : Int)), (10, .bool bis), (83, .bool false)]) (by kernel_rfl)
            refine atR_seg (m := 4) (H := []) (ts := [0, 1, 2, 9, 10, 87]) (L' := [(0, .slice (some ⟨p1, o1, none⟩) n c1), (1, .int .i64 radius), (2, .int .i64 depth), (9, .int .i64 (j : Int)), (10, .bool bis), (87, .bool (decide (depth > 20000)))]) (O := fun w => True) hs (by kernel_rfl) trivial ?_
            clear hs a; intro a hs
            rcases Bool.eq_false_or_eq_true (decide (depth > 20000)) with hb | hb
            · replace hs := hs.know (t := 87) rfl hb
              have cd7 := hb; have cd7b := hb; clear hb
              replace cd7 := of_decide_eq_true cd7
              replace hs := hs.pick (ts := [0, 1, 2, 9, 10, 87]) (L' := [(0, .slice (some ⟨p1, o1, none⟩) n c1), (1, .int .i64 radius), (2, .int .i64 depth), (9, .int .i64 (j : Int)), (10, .bool bis), (87, .bool true)]) (by kernel_rfl)
              refine atR_seg (m := 7) (H := []) (ts := [0, 1, 2, 9, 10, 94]) (L' := [(0, .slice (some ⟨p1, o1, none⟩) n c1), (1, .int .i64 radius), (2, .int .i64 depth), (9, .int .i64 (j : Int)), (10, .bool bis), (94, .bool true)]) (O := fun w => True) hs (by kernel_rfl) trivial ?_
              clear hs a; intro a hs
              refine atR_end (by kernel_rfl) ?_
              refine wayN_node rfl ?_
              refine at_cond (t := 94) (j1 := 49) (j2 := 52) (b := true) (by kernel_rfl) hs rfl (fun _ => ?_) (fun hb => absurd (hb.symm.trans (show (true) = true from rfl)) (by decide))
              refine at_seq (j := 51) (by kernel_rfl) ?_
              refine at_region (id := 14) (by kernel_rfl) ?_
              refine atR_seg (m := 1) (H := []) (ts := [6]) (L' := [(6, .bool true)]) (O := fun w => True) hs (by kernel_rfl) trivial ?_
              clear hs a; intro a hs
              refine atR_end (by kernel_rfl) ?_
              refine wayN_node rfl ?_
              refine at_ret (by kernel_rfl) ?_
              refine at_end (vs := [.bool true]) (H := []) (v := .bool true) (O := fun w => True) hs (by kernel_rfl) rfl trivial ?_
              exact ⟨rfl, hB⟩
            · replace hs := hs.know (t := 87) rfl hb
              have cd7 := hb; have cd7b := hb; clear hb
              replace cd7 := of_decide_eq_false cd7
              replace hs := hs.pick (ts := [0, 1, 2, 9, 10, 87]) (L' := [(0, .slice (some ⟨p1, o1, none⟩) n c1), (1, .int .i64 radius), (2, .int .i64 depth), (9, .int .i64 (j : Int)), (10, .bool bis), (87, .bool false)]) (by kernel_rfl)
              refine atR_seg (m := 7) (H := [(21, some (.pointer (some ⟨p1, o1 + j * 8, none⟩)), []), (23, none, [.int .i64 stp])]) (ts := [0, 1, 2, 9, 10, 94]) (L' := [(0, .slice (some ⟨p1, o1, none⟩) n c1), (1, .int .i64 radius), (2, .int .i64 depth), (9, .int .i64 (j : Int)), (10, .bool bis), (94, .bool (decide (stp < 500)))]) (O := fun w => (.pointer (some ⟨p1, o1 + ((j : Int)).toNat * 8, none⟩) = Value.pointer (some ⟨p1, o1 + j * 8, none⟩)) ∧ ((0 : Int) ≤ (j : Int) ∧ (j : Int) < ((n : Nat) : Int)) ∧ (w.cell? ⟨p1, o1 + j * 8 + 5, none⟩ = some (.int .i64 stp)) ∧ True) hs (by kernel_rfl) ⟨by simp [Int.toNat_natCast], ⟨by omega, by omega⟩, e1.at_ 5 rfl, trivial⟩ ?_
              clear hs a; intro a hs
              refine atR_end (by kernel_rfl) ?_
              refine wayN_node rfl ?_
              refine at_cond (t := 94) (j1 := 49) (j2 := 52) (b := decide (stp < 500)) (by kernel_rfl) hs rfl (fun hb => ?_) (fun hb => ?_)
              · have cd8 := hb; have cd8b := hb; clear hb
                replace cd8 := of_decide_eq_true cd8
                refine at_seq (j := 51) (by kernel_rfl) ?_
                refine at_region (id := 14) (by kernel_rfl) ?_
                refine atR_seg (m := 1) (H := []) (ts := [6]) (L' := [(6, .bool true)]) (O := fun w => True) hs (by kernel_rfl) trivial ?_
                clear hs a; intro a hs
                refine atR_end (by kernel_rfl) ?_
                refine wayN_node rfl ?_
                refine at_ret (by kernel_rfl) ?_
                refine at_end (vs := [.bool true]) (H := []) (v := .bool true) (O := fun w => True) hs (by kernel_rfl) rfl trivial ?_
                exact ⟨rfl, hB⟩
              · have cd8 := hb; have cd8b := hb; clear hb
                replace cd8 := of_decide_eq_false cd8
                refine at_skip (by kernel_rfl) ?_
                refine wayN_node rfl ?_
                refine at_seq (j := 55) (by kernel_rfl) ?_
                refine at_region (id := 15) (by kernel_rfl) ?_
                refine atR_seg (m := 1) (H := []) (ts := [0, 1, 2, 9, 10]) (L' := [(0, .slice (some ⟨p1, o1, none⟩) n c1), (1, .int .i64 radius), (2, .int .i64 depth), (9, .int .i64 (j : Int)), (10, .bool bis)]) (O := fun w => True) hs (by kernel_rfl) trivial ?_
                clear hs a; intro a hs
                refine atR_end (by kernel_rfl) ?_
                refine wayN_node rfl ?_
                refine at_seq (j := 61) (by kernel_rfl) ?_
                refine at_seq (j := 58) (by kernel_rfl) ?_
                refine at_region (id := 16) (by kernel_rfl) ?_
                refine atR_seg (m := 1) (H := []) (ts := [0, 1, 2, 9, 95]) (L' := [(0, .slice (some ⟨p1, o1, none⟩) n c1), (1, .int .i64 radius), (2, .int .i64 depth), (9, .int .i64 (j : Int)), (95, .bool bis)]) (O := fun w => True) hs (by kernel_rfl) trivial ?_
                clear hs a; intro a hs
                refine atR_end (by kernel_rfl) ?_
                refine wayN_node rfl ?_
                refine at_cond (t := 95) (j1 := 59) (j2 := 60) (b := bis) (by kernel_rfl) hs rfl (fun hb => ?_) (fun hb => ?_)
                · have cd9 := hb; have cd9b := hb; clear hb
                  subst cd9
                  refine at_region (id := 17) (by kernel_rfl) ?_
                  refine atR_seg (m := 7) (H := [(5, some (.pointer (some ⟨p1, o1 + j * 8, none⟩)), []), (6, none, [.int .i64 num, .int .i64 kind, .int .i64 rad, .int .i64 flu, .int .i64 hol, .int .i64 stp, .int .i64 fd, .int .i64 plu])]) (ts := [97, 98, 99, 103]) (L' := [(97, .agg #[.int .i64 0, .int .i64 0]), (98, .int .i64 depth), (99, .int .i64 depth), (103, .agg #[.int .i64 num, .int .i64 kind, .int .i64 rad, .int .i64 flu, .int .i64 hol, .int .i64 stp, .int .i64 fd, .int .i64 plu])]) (O := fun w => (.pointer (some ⟨p1, o1 + ((j : Int)).toNat * 8, none⟩) = Value.pointer (some ⟨p1, o1 + j * 8, none⟩)) ∧ ((0 : Int) ≤ (j : Int) ∧ (j : Int) < ((n : Nat) : Int)) ∧ (w.cell? ⟨p1, o1 + j * 8, none⟩ = some (.int .i64 num)) ∧ (w.cell? ⟨p1, o1 + j * 8 + 1, none⟩ = some (.int .i64 kind)) ∧ (w.cell? ⟨p1, o1 + j * 8 + 2, none⟩ = some (.int .i64 rad)) ∧ (w.cell? ⟨p1, o1 + j * 8 + 3, none⟩ = some (.int .i64 flu)) ∧ (w.cell? ⟨p1, o1 + j * 8 + 4, none⟩ = some (.int .i64 hol)) ∧ (w.cell? ⟨p1, o1 + j * 8 + 5, none⟩ = some (.int .i64 stp)) ∧ (w.cell? ⟨p1, o1 + j * 8 + 6, none⟩ = some (.int .i64 fd)) ∧ (w.cell? ⟨p1, o1 + j * 8 + 7, none⟩ = some (.int .i64 plu)) ∧ True) hs (by kernel_rfl) ⟨by simp [Int.toNat_natCast], ⟨by omega, by omega⟩, e1.at0 rfl, e1.at_ 1 rfl, e1.at_ 2 rfl, e1.at_ 3 rfl, e1.at_ 4 rfl, e1.at_ 5 rfl, e1.at_ 6 rfl, e1.at_ 7 rfl, trivial⟩ ?_
                  clear hs a; intro a hs
                  refine atR_op hs (by kernel_rfl) (call1 (f := 19) (args := #[.agg #[.int .i64 0, .int .i64 0], .int .i64 1000, .int .i64 depth, .int .i64 depth, .agg #[.int .i64 num, .int .i64 kind, .int .i64 rad, .int .i64 flu, .int .i64 hol, .int .i64 stp, .int .i64 fd, .int .i64 plu]]) [104] (fun rv_ => [(104, rv_)]) hs (by kernel_rfl) (fun _ => by kernel_rfl) ?_)
                  refine (peck_any (⟨num, kind, rad, flu, hol, stp, fd, plu⟩ : Tl) 0 0 1000 depth depth _ bd1 bd2 bd1 bd2 (HN.below hB) (HOK _ (List.mem_of_getElem? ht))).mono ?_
                  rintro e w10 ⟨vp, rfl, hrp, hb⟩
                  rw [peck_fine (by simpa using hgd) (hd2 rfl) hj3 hj4 (by omega)]
                  clear hrp
                  refine ⟨_, rfl, ?_⟩
                  clear hs a; intro a hs
                  replace R2 := R2.below hb
                  replace e1 := e1.below hb
                  replace hB := later hB hb
                  clear hb
                  refine atR_seg (m := 4) (H := []) (ts := [15]) (L' := [(15, .int .i64 0)]) (O := fun w => True) hs (by kernel_rfl) trivial ?_
                  clear hs a; intro a hs
                  refine atR_end (by kernel_rfl) ?_
                  refine wayN_node rfl ?_
                  refine at_seq (j := 63) (by kernel_rfl) ?_
                  refine at_region (id := 19) (by kernel_rfl) ?_
                  refine atR_seg (m := 3) (H := []) (ts := [6]) (L' := [(6, .bool true)]) (O := fun w => True) hs (by kernel_rfl) trivial ?_
                  clear hs a; intro a hs
                  refine atR_end (by kernel_rfl) ?_
                  refine wayN_node rfl ?_
                  refine at_ret (by kernel_rfl) ?_
                  refine at_end (vs := [.bool true]) (H := []) (v := .bool true) (O := fun w => True) hs (by kernel_rfl) rfl trivial ?_
                  exact ⟨rfl, hB⟩
                · have cd9 := hb; have cd9b := hb; clear hb
                  subst cd9
                  refine at_region (id := 18) (by kernel_rfl) ?_
                  refine atR_seg (m := 7) (H := [(5, some (.pointer (some ⟨p1, o1 + j * 8, none⟩)), []), (6, none, [.int .i64 num, .int .i64 kind, .int .i64 rad, .int .i64 flu, .int .i64 hol, .int .i64 stp, .int .i64 fd, .int .i64 plu])]) (ts := [108, 109, 110, 114]) (L' := [(108, .agg #[.int .i64 0, .int .i64 0]), (109, .int .i64 radius), (110, .int .i64 depth), (114, .agg #[.int .i64 num, .int .i64 kind, .int .i64 rad, .int .i64 flu, .int .i64 hol, .int .i64 stp, .int .i64 fd, .int .i64 plu])]) (O := fun w => (.pointer (some ⟨p1, o1 + ((j : Int)).toNat * 8, none⟩) = Value.pointer (some ⟨p1, o1 + j * 8, none⟩)) ∧ ((0 : Int) ≤ (j : Int) ∧ (j : Int) < ((n : Nat) : Int)) ∧ (w.cell? ⟨p1, o1 + j * 8, none⟩ = some (.int .i64 num)) ∧ (w.cell? ⟨p1, o1 + j * 8 + 1, none⟩ = some (.int .i64 kind)) ∧ (w.cell? ⟨p1, o1 + j * 8 + 2, none⟩ = some (.int .i64 rad)) ∧ (w.cell? ⟨p1, o1 + j * 8 + 3, none⟩ = some (.int .i64 flu)) ∧ (w.cell? ⟨p1, o1 + j * 8 + 4, none⟩ = some (.int .i64 hol)) ∧ (w.cell? ⟨p1, o1 + j * 8 + 5, none⟩ = some (.int .i64 stp)) ∧ (w.cell? ⟨p1, o1 + j * 8 + 6, none⟩ = some (.int .i64 fd)) ∧ (w.cell? ⟨p1, o1 + j * 8 + 7, none⟩ = some (.int .i64 plu)) ∧ True) hs (by kernel_rfl) ⟨by simp [Int.toNat_natCast], ⟨by omega, by omega⟩, e1.at0 rfl, e1.at_ 1 rfl, e1.at_ 2 rfl, e1.at_ 3 rfl, e1.at_ 4 rfl, e1.at_ 5 rfl, e1.at_ 6 rfl, e1.at_ 7 rfl, trivial⟩ ?_
                  clear hs a; intro a hs
                  refine atR_op hs (by kernel_rfl) (call1 (f := 12) (args := #[.agg #[.int .i64 0, .int .i64 0], .int .i64 radius, .int .i64 1000, .int .i64 depth, .agg #[.int .i64 num, .int .i64 kind, .int .i64 rad, .int .i64 flu, .int .i64 hol, .int .i64 stp, .int .i64 fd, .int .i64 plu]]) [115] (fun rv_ => [(115, rv_)]) hs (by kernel_rfl) (fun _ => by kernel_rfl) ?_)
                  refine (bore_any (⟨num, kind, rad, flu, hol, stp, fd, plu⟩ : Tl) 0 0 radius 1000 depth _ (HN.below hB) (HOK _ (List.mem_of_getElem? ht)) ⟨br1, br2⟩ ⟨bd1, bd2⟩).mono ?_
                  rintro e w11 ⟨vp, rfl, hrp, hb⟩
                  rw [bore_fine (by simpa using hgd) (hm2 rfl) hj2 hj3 hj4 (by omega) (by omega) (by dsimp only; omega)]
                  clear hrp
                  refine ⟨_, rfl, ?_⟩
                  clear hs a; intro a hs
                  replace R2 := R2.below hb
                  replace e1 := e1.below hb
                  replace hB := later hB hb
                  clear hb
                  refine atR_seg (m := 4) (H := []) (ts := [15]) (L' := [(15, .int .i64 0)]) (O := fun w => True) hs (by kernel_rfl) trivial ?_
                  clear hs a; intro a hs
                  refine atR_end (by kernel_rfl) ?_
                  refine wayN_node rfl ?_
                  refine at_seq (j := 63) (by kernel_rfl) ?_
                  refine at_region (id := 19) (by kernel_rfl) ?_
                  refine atR_seg (m := 3) (H := []) (ts := [6]) (L' := [(6, .bool true)]) (O := fun w => True) hs (by kernel_rfl) trivial ?_
                  clear hs a; intro a hs
                  refine atR_end (by kernel_rfl) ?_
                  refine wayN_node rfl ?_
                  refine at_ret (by kernel_rfl) ?_
                  refine at_end (vs := [.bool true]) (H := []) (v := .bool true) (O := fun w => True) hs (by kernel_rfl) rfl trivial ?_
                  exact ⟨rfl, hB⟩
      · skip
        refine at_region (id := 13) (by kernel_rfl) ?_
        refine atR_seg (m := 3) (H := []) (ts := [0, 1, 2, 9, 10, 71]) (L' := [(0, .slice A1 n c1), (1, .int .i64 radius), (2, .int .i64 depth), (9, .int .i64 i), (10, .bool bis), (71, .bool (er != 0))]) (O := fun w => True) hs (by kernel_rfl) trivial ?_
        clear hs a; intro a hs
        replace hs := hs.know (t := 71) rfl (show (er != 0) = true from bne_iff_ne.2 he0)
        replace hs := hs.pick (ts := [0, 1, 2, 9, 10, 71]) (L' := [(0, .slice A1 n c1), (1, .int .i64 radius), (2, .int .i64 depth), (9, .int .i64 i), (10, .bool bis), (71, .bool true)]) (by kernel_rfl)
        refine atR_seg (m := 23) (H := []) (ts := [0, 1, 2, 9, 10, 94]) (L' := [(0, .slice A1 n c1), (1, .int .i64 radius), (2, .int .i64 depth), (9, .int .i64 i), (10, .bool bis), (94, .bool true)]) (O := fun w => True) hs (by kernel_rfl) trivial ?_
        clear hs a; intro a hs
        refine atR_end (by kernel_rfl) ?_
        refine wayN_node rfl ?_
        refine at_cond (t := 94) (j1 := 49) (j2 := 52) (b := true) (by kernel_rfl) hs rfl (fun _ => ?_) (fun hb => absurd (hb.symm.trans (show (true) = true from rfl)) (by decide))
        refine at_seq (j := 51) (by kernel_rfl) ?_
        refine at_region (id := 14) (by kernel_rfl) ?_
        refine atR_seg (m := 1) (H := []) (ts := [6]) (L' := [(6, .bool true)]) (O := fun w => True) hs (by kernel_rfl) trivial ?_
        clear hs a; intro a hs
        refine atR_end (by kernel_rfl) ?_
        refine wayN_node rfl ?_
        refine at_ret (by kernel_rfl) ?_
        refine at_end (vs := [.bool true]) (H := []) (v := .bool true) (O := fun w => True) hs (by kernel_rfl) rfl trivial ?_
        exact ⟨rfl, hB⟩
-- decide ((n : Int) > 12)
-- decide ((k : Int) < (n : Int))
-- decide (rad < 0)
-- decide (rad > 10000000)
-- ((⟨num, kind, rad, flu, hol, stp, fd, plu⟩ : Tl).good) == false
-- decide (radius > 1000000)
-- decide (depth > 20000)
-- decide (stp < 500)
-- bis
end Go.Proofs.YtpiabmjipgfjjaaDoor
