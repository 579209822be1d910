/- slices.Clone. -/
import Derived.Test.YtfkidjkpgliffaaPuT
import Derived.Test.YtfkidjkpgliffaaEng6
namespace Go.Proofs.Ytfkidjkpgliffaa
open Go.RowKit
theorem own_mono {w : World} {b b' et sz m : Nat} {v : Value} {cs : List Value} (hb : b' ≤ b) (h : w.ownsRow b et sz v m cs) : w.ownsRow b' et sz v m cs := by
  refine ⟨h.1, ?_⟩
  rcases h.2 with h | ⟨g, cap, cur, h1, h2, h3⟩
  · exact .inl h
  · exact .inr ⟨g, cap, cur, h1, Nat.le_trans hb h2, h3⟩
theorem elem59 : Elem Try.prog 59 2 1 8 := Elem.mk_ (z := .int .i64 0) Try.underlying59 (by decide) (by kernel_rfl) rfl
noncomputable def body79 : Code := Try.f79.body.getD .skip
set_option maxRecDepth 100000 in
theorem clone_con (xs : List Int) (hb : decide (xs.length ≤ 10000000000) = true) : Con Try.prog 79 [.d (.sl (.int .i64)) xs] [.new 2 (.int .i64) xs] := by
  intro A w vs ha
  have hb := of_decide_eq_true hb
  match vs, ha with
  | [v], ⟨hv, _⟩ =>
    obtain ⟨cs, hrd, rfl⟩ := hv
    obtain ⟨p, n, c1, css, rfl, hn, hle, hcap, hall, hcell⟩ := hrd
    have hfl := flat_ints hall
    show Calls Try.prog 79 #[.slice p n c1] w _
    cases p with
    | none =>
      obtain rfl : n = 0 := by
        rcases Nat.eq_zero_or_pos n with h0 | h0
        · exact h0
        · obtain ⟨b, off, hp, _⟩ := hcell h0; cases hp
      obtain rfl : xs = [] := List.eq_nil_of_length_eq_zero hn
      have hB : Below w.heap.size w w := Below.refl _ _
      refine enter (B := body79) (args := [.slice none 0 c1]) Try.func79 (by kernel_rfl) (by kernel_rfl) ?_
      rw [show Try.f79.ntmps = 8 from by kernel_rfl]
      intro a hs
      replace hs := hs.pick (ts := [0]) (L' := [(0, .slice none 0 c1)]) (by kernel_rfl)
      refine at_seq (j := 2) (by kernel_rfl) ?_
      refine at_region (id := 0) (by kernel_rfl) ?_
      refine atR_seg (m := 1) (H := []) (ts := [0]) (L' := [(0, .slice none 0 c1)]) (O := fun w => True) hs (by kernel_rfl) trivial ?_
      clear hs a; intro a hs
      refine atR_end (by kernel_rfl) ?_
      refine wayN_node rfl ?_
      refine at_seq (j := 10) (by kernel_rfl) ?_
      refine at_seq (j := 5) (by kernel_rfl) ?_
      refine at_region (id := 1) (by kernel_rfl) ?_
      refine atR_seg (m := 1) (H := []) (ts := [0, 3]) (L' := [(0, .slice none 0 c1), (3, .slice none 0 c1)]) (O := fun w => True) hs (by kernel_rfl) trivial ?_
      clear hs a; intro a hs
      refine atR_op hs (by kernel_rfl) (eqnil1 (x := .tmp 3) (t := 59) (ty := 59) (m := 0) (c := c1) [0, 4] [(0, .slice none 0 c1), (4, .bool true)] hs (by kernel_rfl) rfl Try.underlying59 (show Option.isNone (none) = true from rfl) (by kernel_rfl) ?_)
      clear hs a; intro a hs
      refine atR_end (by kernel_rfl) ?_
      refine wayN_node rfl ?_
      refine at_cond (t := 4) (j1 := 6) (j2 := 9) (b := true) (by kernel_rfl) hs rfl (fun _ => ?_) (fun hb => absurd (hb.symm.trans (show (true) = true from rfl)) (by decide))
      refine at_seq (j := 8) (by kernel_rfl) ?_
      refine at_region (id := 2) (by kernel_rfl) ?_
      refine atR_seg (m := 1) (H := []) (ts := [2]) (L' := [(2, .slice none 0 0)]) (O := fun w => True) hs (by kernel_rfl) trivial ?_
      clear hs a; intro a hs
      refine atR_end (by kernel_rfl) ?_
      refine wayN_node rfl ?_
      refine at_ret (by kernel_rfl) ?_
      refine at_end (vs := [.slice none 0 0]) (H := []) (v := .slice none 0 0) (O := fun w => True) hs (by kernel_rfl) rfl trivial ?_
      exact ⟨_, rfl, hB, [], World.ownsRow_nil _ _ _ _, trivial, by decide⟩
    | some a0 =>
      have hnews : ∀ j v, (xs.map (Value.int .i64))[j]? = some v → w.cell? (a0.add j) = some v := by
        intro j v hv
        have hn0 : 0 < n := by
          rcases Nat.eq_zero_or_pos n with h0 | h0
          · subst h0; rw [List.eq_nil_of_length_eq_zero hn] at hv; simp at hv
          · exact h0
        obtain ⟨b, off, hp, _, _, hc⟩ := hcell hn0
        injection hp with hp
        subst hp
        rw [add_plain]
        exact hc j v (by rw [hfl]; exact hv)
      subst hn
      have hB : Below w.heap.size w w := Below.refl _ _
      refine enter (B := body79) (args := [.slice (some a0) xs.length c1]) Try.func79 (by kernel_rfl) (by kernel_rfl) ?_
      rw [show Try.f79.ntmps = 8 from by kernel_rfl]
      intro a hs
      replace hs := hs.pick (ts := [0]) (L' := [(0, .slice (some a0) xs.length c1)]) (by kernel_rfl)
      refine at_seq (j := 2) (by kernel_rfl) ?_
      refine at_region (id := 0) (by kernel_rfl) ?_
      refine atR_seg (m := 1) (H := []) (ts := [0]) (L' := [(0, .slice (some a0) xs.length c1)]) (O := fun w => True) hs (by kernel_rfl) trivial ?_
      clear hs a; intro a hs
      refine atR_end (by kernel_rfl) ?_
      refine wayN_node rfl ?_
      refine at_seq (j := 10) (by kernel_rfl) ?_
      refine at_seq (j := 5) (by kernel_rfl) ?_
      refine at_region (id := 1) (by kernel_rfl) ?_
      refine atR_seg (m := 1) (H := []) (ts := [0, 3]) (L' := [(0, .slice (some a0) xs.length c1), (3, .slice (some a0) xs.length c1)]) (O := fun w => True) hs (by kernel_rfl) trivial ?_
      clear hs a; intro a hs
      refine atR_op hs (by kernel_rfl) (eqnil1 (x := .tmp 3) (t := 59) (ty := 59) (m := xs.length) (c := c1) [0, 4] [(0, .slice (some a0) xs.length c1), (4, .bool false)] hs (by kernel_rfl) rfl Try.underlying59 (show Option.isNone ((some a0)) = false from rfl) (by kernel_rfl) ?_)
      clear hs a; intro a hs
      refine atR_end (by kernel_rfl) ?_
      refine wayN_node rfl ?_
      refine at_cond (t := 4) (j1 := 6) (j2 := 9) (b := false) (by kernel_rfl) hs rfl (fun hb => absurd (hb.symm.trans (show (false) = false from rfl)) (by decide)) (fun _ => ?_)
      refine at_skip (by kernel_rfl) ?_
      refine wayN_node rfl ?_
      refine at_seq (j := 12) (by kernel_rfl) ?_
      refine at_region (id := 3) (by kernel_rfl) ?_
      refine atR_op hs (by kernel_rfl) (new1 (t := 2) (cs := #[]) (fun rb_ => .slice (some ⟨rb_, 0, none⟩) 0 0) [0, 5] (fun rb_ => [(0, .slice (some a0) xs.length c1), (5, .slice (some ⟨rb_, 0, none⟩) 0 0)]) hs (fun _ => by kernel_rfl) (fun _ => by kernel_rfl) ?_)
      clear hs a; intro a w1 b1 hn hs
      have B1 := hn.blk
      have l1 : w.heap.size ≤ b1 := by rw [hn.at_]; exact hB.size
      replace hB := later hB hn.below
      clear hn
      refine atR_seg (m := 1) (H := []) (ts := [5, 6]) (L' := [(5, .slice (some ⟨b1, 0, none⟩) 0 0), (6, .slice (some a0) xs.length c1)]) (O := fun w => True) hs (by kernel_rfl) trivial ?_
      clear hs a; intro a hs
      refine atR_op hs (by kernel_rfl) (append1A (v := .slice (some ⟨b1, 0, none⟩) 0 0) (A := a0) (m := xs.length) (c := c1) (cs := (xs.map (Value.int .i64))) ((.tmp 5), (.tmp 6)) [7] (fun rv_ => [(7, rv_)]) hs (by kernel_rfl) rfl rfl (fun _ => by kernel_rfl) elem59 (own_blk (size := 1) (m := 0) (cs := []) B1 (Nat.le_refl _) rfl (by decide)) (by simp) (fun j v hv => (hB.cell (p := a0.add j) (World.block_lt_of_cell? w _ (hnews j v hv))).trans (hnews j v hv)) (by simp [Value.oneCell']) (by unfold maxLen; omega) (by omega) (by have := hB.size; have := B1.lt; omega) ?_)
      clear hs a; intro v1 a w2 ho2 hg hs
      replace hB := hB.grown hg hB.size (fun kk hk => Nat.le_trans (by omega) ((own_blk (size := 1) (m := 0) (cs := []) B1 (Nat.le_refl _) rfl (by decide)).lt kk hk).1)
      clear hg 
      refine atR_seg (m := 1) (H := []) (ts := [2]) (L' := [(2, v1)]) (O := fun w => True) hs (by kernel_rfl) trivial ?_
      clear hs a; intro a hs
      refine atR_end (by kernel_rfl) ?_
      refine wayN_node rfl ?_
      refine at_ret (by kernel_rfl) ?_
      refine at_end (vs := [v1]) (H := []) (v := v1) (O := fun w => True) hs (by kernel_rfl) rfl trivial ?_
      exact ⟨_, rfl, hB, xs.map fun y => [Value.int .i64 y], by rw [flat_map_ints]; have hh := own_mono l1 ho2; simpa [Ty.n] using hh, ints_rd xs, by decide⟩
end Go.Proofs.Ytfkidjkpgliffaa
