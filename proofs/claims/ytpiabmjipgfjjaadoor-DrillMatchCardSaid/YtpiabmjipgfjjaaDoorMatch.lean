/- slices.Clone on tools; Match, the program's and the reference's. -/
import Derived.Test.YtpiabmjipgfjjaaDoorEng6
import Derived.Test.YtpiabmjipgfjjaaDoorBoreSmall
import Derived.Test.YtpiabmjipgfjjaaDoorDrill2
namespace Go.Proofs.YtpiabmjipgfjjaaDoor
open Go.RowKit
def Tl.cs (t : Tl) : List Value := [.int .i64 t.num, .int .i64 t.kind, .int .i64 t.rad, .int .i64 t.flu, .int .i64 t.hol, .int .i64 t.stp, .int .i64 t.fd, .int .i64 t.plu]
theorem elem39 : Elem Tryd.prog 39 33 8 64 := Elem.mk_ (z := .agg #[.int .i64 0, .int .i64 0, .int .i64 0, .int .i64 0, .int .i64 0, .int .i64 0, .int .i64 0, .int .i64 0]) Tryd.underlying39 (by decide) (by kernel_rfl) rfl
theorem RdU.news {u : Nat} {w : World} {size n c : Nat} {A : Addr} {xs : List Value} (h : RdU u w size (.slice (some A) n c) n xs) : ∀ j v, xs[j]? = some v → w.cell? (A.add j) = some v := by
  intro j v hv
  rcases h.src with ⟨_, h0⟩ | ⟨b, off, h1, h2, _⟩
  · subst h0; simp at hv
  · injection h1 with h1
    subst h1
    rw [add_pl]
    exact h2.cell j v hv
theorem RdU.len {u : Nat} {w : World} {size n : Nat} {v : Value} {xs : List Value} (h : RdU u w size v n xs) : xs.length = n * size := h.rd.choose_spec.choose_spec.2.2.2.1
noncomputable def body16 : Code := Tryd.f16.body.getD .skip
theorem clone_any (u : Nat) (v : Value) (n : Nat) (xs : List Value) (w : World) (h : RdU u w 8 v n xs) (hn : n ≤ 12) (h1 : ∀ x ∈ xs, x.oneCell' = true) : Calls Tryd.prog 16 #[v] w fun e w' => ∃ v', e = .returned v' ∧ Rd w' 8 v' n xs ∧ Below w.heap.size w w' := by
  obtain ⟨A, c1, rfl, hn'⟩ := h.form
  cases A with
  | none =>
    obtain ⟨rfl, rfl⟩ : n = 0 ∧ xs = [] := by
      rcases h.src with h0 | ⟨_, _, h1, _⟩
      · exact h0
      · cases h1
    have hB : Below w.heap.size w w := Below.refl _ _
    refine enter (B := body16) (args := [.slice none 0 c1]) Tryd.func16 (by kernel_rfl) (by kernel_rfl) ?_
    rw [show Tryd.f16.ntmps = 8 from by kernel_rfl]
    intro a hs
    replace hs := hs.pick (ts := [0]) (L' := [(0, .slice none 0 c1)]) (by kernel_rfl)
    refine at_seq (j := 2) (by kernel_rfl) ?_
    refine at_region (id := 0) (by kernel_rfl) ?_
    refine atR_seg (m := 1) (H := []) (ts := [0]) (L' := [(0, .slice none 0 c1)]) (O := fun w => True) hs (by kernel_rfl) trivial ?_
    clear hs a; intro a hs
    refine atR_end (by kernel_rfl) ?_
    refine wayN_node rfl ?_
    refine at_seq (j := 10) (by kernel_rfl) ?_
    refine at_seq (j := 5) (by kernel_rfl) ?_
    refine at_region (id := 1) (by kernel_rfl) ?_
    refine atR_seg (m := 1) (H := []) (ts := [0, 3]) (L' := [(0, .slice none 0 c1), (3, .slice none 0 c1)]) (O := fun w => True) hs (by kernel_rfl) trivial ?_
    clear hs a; intro a hs
    refine atR_op hs (by kernel_rfl) (eqnil1 (x := .tmp 3) (t := 39) (ty := 39) (m := 0) (c := c1) [0, 4] [(0, .slice none 0 c1), (4, .bool true)] hs (by kernel_rfl) rfl Tryd.underlying39 (show Option.isNone (none) = true from rfl) (by kernel_rfl) ?_)
    clear hs a; intro a hs
    refine atR_end (by kernel_rfl) ?_
    refine wayN_node rfl ?_
    refine at_cond (t := 4) (j1 := 6) (j2 := 9) (b := true) (by kernel_rfl) hs rfl (fun _ => ?_) (fun hb => absurd (hb.symm.trans (show (true) = true from rfl)) (by decide))
    refine at_seq (j := 8) (by kernel_rfl) ?_
    refine at_region (id := 2) (by kernel_rfl) ?_
    refine atR_seg (m := 1) (H := []) (ts := [2]) (L' := [(2, .slice none 0 0)]) (O := fun w => True) hs (by kernel_rfl) trivial ?_
    clear hs a; intro a hs
    refine atR_end (by kernel_rfl) ?_
    refine wayN_node rfl ?_
    refine at_ret (by kernel_rfl) ?_
    refine at_end (vs := [.slice none 0 0]) (H := []) (v := .slice none 0 0) (O := fun w => True) hs (by kernel_rfl) rfl trivial ?_
    exact ⟨_, rfl, Rd.nil _ _, hB⟩
  | some a0 =>
    have hB : Below w.heap.size w w := Below.refl _ _
    refine enter (B := body16) (args := [.slice (some a0) n c1]) Tryd.func16 (by kernel_rfl) (by kernel_rfl) ?_
    rw [show Tryd.f16.ntmps = 8 from by kernel_rfl]
    intro a hs
    replace hs := hs.pick (ts := [0]) (L' := [(0, .slice (some a0) n c1)]) (by kernel_rfl)
    refine at_seq (j := 2) (by kernel_rfl) ?_
    refine at_region (id := 0) (by kernel_rfl) ?_
    refine atR_seg (m := 1) (H := []) (ts := [0]) (L' := [(0, .slice (some a0) n c1)]) (O := fun w => True) hs (by kernel_rfl) trivial ?_
    clear hs a; intro a hs
    refine atR_end (by kernel_rfl) ?_
    refine wayN_node rfl ?_
    refine at_seq (j := 10) (by kernel_rfl) ?_
    refine at_seq (j := 5) (by kernel_rfl) ?_
    refine at_region (id := 1) (by kernel_rfl) ?_
    refine atR_seg (m := 1) (H := []) (ts := [0, 3]) (L' := [(0, .slice (some a0) n c1), (3, .slice (some a0) n c1)]) (O := fun w => True) hs (by kernel_rfl) trivial ?_
    clear hs a; intro a hs
    refine atR_op hs (by kernel_rfl) (eqnil1 (x := .tmp 3) (t := 39) (ty := 39) (m := n) (c := c1) [0, 4] [(0, .slice (some a0) n c1), (4, .bool false)] hs (by kernel_rfl) rfl Tryd.underlying39 (show Option.isNone ((some a0)) = false from rfl) (by kernel_rfl) ?_)
    clear hs a; intro a hs
    refine atR_end (by kernel_rfl) ?_
    refine wayN_node rfl ?_
    refine at_cond (t := 4) (j1 := 6) (j2 := 9) (b := false) (by kernel_rfl) hs rfl (fun hb => absurd (hb.symm.trans (show (false) = false from rfl)) (by decide)) (fun _ => ?_)
    refine at_skip (by kernel_rfl) ?_
    refine wayN_node rfl ?_
    refine at_seq (j := 12) (by kernel_rfl) ?_
    refine at_region (id := 3) (by kernel_rfl) ?_
    refine atR_op hs (by kernel_rfl) (new1 (t := 33) (cs := #[]) (fun rb_ => .slice (some ⟨rb_, 0, none⟩) 0 0) [0, 5] (fun rb_ => [(0, .slice (some a0) n c1), (5, .slice (some ⟨rb_, 0, none⟩) 0 0)]) hs (fun _ => by kernel_rfl) (fun _ => by kernel_rfl) ?_)
    clear hs a; intro a w1 b1 hn hs
    have B1 := hn.blk
    have l1 : w.heap.size ≤ b1 := by rw [hn.at_]; exact hB.size
    have lu1h : u ≤ b1 := by rw [hn.at_]; exact h.le
    replace h := h.below hn.below
    replace hB := later hB hn.below
    clear hn
    refine atR_seg (m := 1) (H := []) (ts := [5, 6]) (L' := [(5, .slice (some ⟨b1, 0, none⟩) 0 0), (6, .slice (some a0) n c1)]) (O := fun w => True) hs (by kernel_rfl) trivial ?_
    clear hs a; intro a hs
    refine atR_op hs (by kernel_rfl) (append1A (v := .slice (some ⟨b1, 0, none⟩) 0 0) (A := a0) (m := n) (c := c1) (cs := xs) ((.tmp 5), (.tmp 6)) [7] (fun rv_ => [(7, rv_)]) hs (by kernel_rfl) rfl rfl (fun _ => by kernel_rfl) elem39 (own_blk (size := 8) (m := 0) (cs := []) B1 (Nat.le_refl _) rfl (by decide)) h.len h.news h1 (by unfold maxLen; omega) (by omega) (by have := hB.size; have := B1.lt; omega) ?_)
    clear hs a; intro v1 a w2 ho2 hg hs
    replace h := h.grown hg (fun kk hk => Nat.le_trans (by omega) ((own_blk (size := 8) (m := 0) (cs := []) B1 (Nat.le_refl _) rfl (by decide)).lt kk hk).1)
    replace hB := hB.grown hg hB.size (fun kk hk => Nat.le_trans (by omega) ((own_blk (size := 8) (m := 0) (cs := []) B1 (Nat.le_refl _) rfl (by decide)).lt kk hk).1)
    clear hg 
    refine atR_seg (m := 1) (H := []) (ts := [2]) (L' := [(2, v1)]) (O := fun w => True) hs (by kernel_rfl) trivial ?_
    clear hs a; intro a hs
    refine atR_end (by kernel_rfl) ?_
    refine wayN_node rfl ?_
    refine at_ret (by kernel_rfl) ?_
    refine at_end (vs := [v1]) (H := []) (v := v1) (O := fun w => True) hs (by kernel_rfl) rfl trivial ?_
    exact ⟨_, rfl, by have hh := Rd.of_own (by decide) ho2; simpa using hh, hB⟩
/-- A drill that fits. -/
def isD (radius depth : Int) (t : Tl) : Bool := decide (depth ≤ t.flu ∧ t.kind = 2 ∧ t.rad = radius)
def radAt (ts : List Tl) (b : Int) : Int := (ts[b.toNat]?.map Tl.rad).getD 0
def bc (ts : List Tl) (radius depth b : Int) (t : Tl) : Prop := depth ≤ t.flu ∧ t.mills radius = true ∧ (b < 0 ∨ radAt ts b < t.rad)
instance (ts : List Tl) (radius depth b : Int) (t : Tl) : Decidable (bc ts radius depth b t) := by unfold bc; infer_instance
/-- The best mill among the first k tools, or -1. -/
def bst (ts : List Tl) (radius depth : Int) : Nat → Int
  | 0 => -1
  | k + 1 => match ts[k]? with
    | some t => if bc ts radius depth (bst ts radius depth k) t then (k : Int) else bst ts radius depth k
    | none => bst ts radius depth k
theorem bst_succ {ts : List Tl} {radius depth : Int} {k : Nat} {t : Tl} (h : ts[k]? = some t) : bst ts radius depth (k + 1) = if bc ts radius depth (bst ts radius depth k) t then (k : Int) else bst ts radius depth k := by
  rw [bst, h]
theorem bst_form (ts : List Tl) (radius depth : Int) : ∀ k, bst ts radius depth k = -1 ∨ ∃ (j : Nat) (t : Tl), bst ts radius depth k = j ∧ j < k ∧ ts[j]? = some t ∧ depth ≤ t.flu ∧ t.mills radius = true
  | 0 => Or.inl rfl
  | k + 1 => by
    rw [bst]
    cases h : ts[k]? with
    | none =>
      dsimp only
      rcases bst_form ts radius depth k with h0 | ⟨j, t, h1, h2, h3⟩
      · exact Or.inl h0
      · exact Or.inr ⟨j, t, h1, by omega, h3⟩
    | some t =>
      dsimp only
      split
      · rename_i hb
        exact Or.inr ⟨k, t, rfl, by omega, h, hb.1, hb.2.1⟩
      · rcases bst_form ts radius depth k with h0 | ⟨j, t, h1, h2, h3⟩
        · exact Or.inl h0
        · exact Or.inr ⟨j, t, h1, by omega, h3⟩
theorem radAt_j {ts : List Tl} {j : Nat} {t : Tl} (h : ts[j]? = some t) : radAt ts (j : Int) = t.rad := by unfold radAt; rw [Int.toNat_natCast, h]; rfl
theorem mills_pos {t : Tl} {radius : Int} (h : t.mills radius = true) : 0 < t.rad ∧ t.kind = 1 := by
  have := of_decide_eq_true h
  exact ⟨by omega, this.1⟩
def mI (ts : List Tl) (radius depth : Int) : Int := if radius < 1 ∨ depth < 1 then 0 else match ts.findIdx? (isD radius depth) with
  | some k => (k : Int)
  | none => if bst ts radius depth ts.length < 0 then 0 else bst ts radius depth ts.length
def mB (ts : List Tl) (radius depth : Int) : Bool := if radius < 1 ∨ depth < 1 then false else (ts.findIdx? (isD radius depth)).isSome
def mE (ts : List Tl) (radius depth : Int) : Int := if radius < 1 ∨ depth < 1 then 1 else match ts.findIdx? (isD radius depth) with
  | some _ => 0
  | none => if bst ts radius depth ts.length < 0 then 16 else 0
def MatchPost (ts : List Tl) (radius depth : Int) (w : World) (e : Ending) (w' : World) : Prop :=
  e = .returned (.tuple #[.int .i64 (mI ts radius depth), .bool (mB ts radius depth), .int .i64 (mE ts radius depth)]) ∧ Below w.heap.size w w'
def noD (ts : List Tl) (radius depth : Int) (k : Nat) : Prop := ∀ (j : Nat) (t : Tl), j < k → ts[j]? = some t → isD radius depth t = false
section
variable {ts : List Tl} {radius depth : Int} {k : Nat} {t : Tl} {w w' : World} {b : Int}
theorem noD.succ (h : noD ts radius depth k) (ht : ts[k]? = some t) (hD : ¬ (depth ≤ t.flu ∧ t.kind = 2 ∧ t.rad = radius)) : noD ts radius depth (k + 1) := by
  intro j t' hj ht'
  rcases Nat.lt_or_ge j k with h1 | h1
  · exact h j t' h1 ht'
  · obtain rfl : j = k := by omega
    rw [ht] at ht'
    injection ht' with e
    subst e
    exact decide_eq_false hD
theorem fD_some (h : noD ts radius depth k) (ht : ts[k]? = some t) (hD : depth ≤ t.flu ∧ t.kind = 2 ∧ t.rad = radius) : ts.findIdx? (isD radius depth) = some k := by
  obtain ⟨hk, he⟩ := List.getElem?_eq_some_iff.1 ht
  rw [List.findIdx?_eq_some_iff_getElem]
  refine ⟨hk, by rw [he]; exact decide_eq_true hD, fun j hj => ?_⟩
  have := h j _ hj (List.getElem?_eq_getElem (by omega))
  rw [this]; decide
theorem fD_none (h : noD ts radius depth ts.length) : ts.findIdx? (isD radius depth) = none := by
  rw [List.findIdx?_eq_none_iff]
  intro x hx
  obtain ⟨i, hi, rfl⟩ := List.getElem_of_mem hx
  exact h i _ hi (List.getElem?_eq_getElem hi)
theorem match_bad (h : radius < 1 ∨ depth < 1) (hB : Below w.heap.size w w') : MatchPost ts radius depth w (.returned (.tuple #[.int .i64 0, .bool false, .int .i64 1])) w' :=
  ⟨by unfold mI mB mE; rw [if_pos h, if_pos h, if_pos h], hB⟩
theorem match_drill (h : ¬ (radius < 1 ∨ depth < 1)) (hn : noD ts radius depth k) (ht : ts[k]? = some t) (hD : depth ≤ t.flu ∧ t.kind = 2 ∧ t.rad = radius) (hB : Below w.heap.size w w') : MatchPost ts radius depth w (.returned (.tuple #[.int .i64 (k : Int), .bool true, .int .i64 0])) w' :=
  ⟨by unfold mI mB mE; rw [if_neg h, if_neg h, if_neg h, fD_some hn ht hD]; rfl, hB⟩
theorem match_none (h : ¬ (radius < 1 ∨ depth < 1)) (hn : noD ts radius depth ts.length) (hb : b = bst ts radius depth ts.length) (h0 : b < 0) (hB : Below w.heap.size w w') : MatchPost ts radius depth w (.returned (.tuple #[.int .i64 0, .bool false, .int .i64 16])) w' :=
  ⟨by unfold mI mB mE; rw [if_neg h, if_neg h, if_neg h, fD_none hn]; dsimp only; rw [← hb, if_pos h0, if_pos h0]; rfl, hB⟩
theorem match_best (h : ¬ (radius < 1 ∨ depth < 1)) (hn : noD ts radius depth ts.length) (hb : b = bst ts radius depth ts.length) (h0 : ¬ b < 0) (hB : Below w.heap.size w w') : MatchPost ts radius depth w (.returned (.tuple #[.int .i64 b, .bool false, .int .i64 0])) w' :=
  ⟨by unfold mI mB mE; rw [if_neg h, if_neg h, if_neg h, fD_none hn]; dsimp only; rw [← hb, if_neg h0, if_neg h0]; rfl, hB⟩
end
noncomputable def body15 : Code := Tryd.f15.body.getD .skip
set_option maxHeartbeats 2000000 in
theorem match_any (v : Value) (n : Nat) (ts : List Tl) (radius depth : Int) (w : World) (hl : ts.length = n) (h1 : Rd w 8 v n (ts.flatMap Tl.cs)) (HR : ∀ t ∈ ts, 0 ≤ t.rad ∧ t.rad ≤ 10000000) (br1 : -9223372036854775808 ≤ radius) (br2 : radius ≤ 9223372036854775807) :
    Calls Tryd.prog 15 #[v, .int .i64 radius, .int .i64 depth] w (MatchPost ts radius depth w) := by
  have R1 := RdU.of_rd h1
  obtain ⟨A1, c1, rfl, hn⟩ := R1.form
  have hB : Below w.heap.size w w := Below.refl _ _
  refine enter (B := body15) (args := [.slice A1 n c1, .int .i64 radius, .int .i64 depth]) Tryd.func15 (by kernel_rfl) (by kernel_rfl) ?_
  rw [show Tryd.f15.ntmps = 61 from by kernel_rfl]
  intro a hs
  replace hs := hs.pick (ts := [0, 1, 2]) (L' := [(0, .slice A1 n c1), (1, .int .i64 radius), (2, .int .i64 depth)]) (by kernel_rfl)
  refine at_seq (j := 2) (by kernel_rfl) ?_
  refine at_region (id := 0) (by kernel_rfl) ?_
  refine atR_seg (m := 3) (H := []) (ts := [0, 1, 2]) (L' := [(0, .slice A1 n c1), (1, .int .i64 radius), (2, .int .i64 depth)]) (O := fun w => True) hs (by kernel_rfl) trivial ?_
  clear hs a; intro a hs
  refine atR_end (by kernel_rfl) ?_
  refine wayN_node rfl ?_
  refine at_seq (j := 10) (by kernel_rfl) ?_
  refine at_seq (j := 5) (by kernel_rfl) ?_
  refine at_region (id := 1) (by kernel_rfl) ?_
  refine atR_seg (m := 3) (H := []) (ts := [0, 1, 2, 14]) (L' := [(0, .slice A1 n c1), (1, .int .i64 radius), (2, .int .i64 depth), (14, .bool (decide (radius < 1)))]) (O := fun w => True) hs (by kernel_rfl) trivial ?_
  clear hs a; intro a hs
  rcases Bool.eq_false_or_eq_true (decide (radius < 1)) with hb | hb
  · replace hs := hs.know (t := 14) rfl hb
    have cd1 := hb; have cd1b := hb; clear hb
    replace cd1 := of_decide_eq_true cd1
    replace hs := hs.pick (ts := [0, 1, 2, 14]) (L' := [(0, .slice A1 n c1), (1, .int .i64 radius), (2, .int .i64 depth), (14, .bool true)]) (by kernel_rfl)
    refine atR_seg (m := 3) (H := []) (ts := [0, 1, 2, 17]) (L' := [(0, .slice A1 n c1), (1, .int .i64 radius), (2, .int .i64 depth), (17, .bool true)]) (O := fun w => True) hs (by kernel_rfl) trivial ?_
    clear hs a; intro a hs
    refine atR_end (by kernel_rfl) ?_
    refine wayN_node rfl ?_
    refine at_cond (t := 17) (j1 := 6) (j2 := 9) (b := true) (by kernel_rfl) hs rfl (fun _ => ?_) (fun hb => absurd (hb.symm.trans (show (true) = true from rfl)) (by decide))
    refine at_seq (j := 8) (by kernel_rfl) ?_
    refine at_region (id := 2) (by kernel_rfl) ?_
    refine atR_seg (m := 3) (H := []) (ts := [6, 7, 8]) (L' := [(6, .int .i64 0), (7, .bool false), (8, .int .i64 1)]) (O := fun w => True) hs (by kernel_rfl) trivial ?_
    clear hs a; intro a hs
    refine atR_end (by kernel_rfl) ?_
    refine wayN_node rfl ?_
    refine at_ret (by kernel_rfl) ?_
    refine at_end (vs := [.int .i64 0, .bool false, .int .i64 1]) (H := []) (v := .tuple #[.int .i64 0, .bool false, .int .i64 1]) (O := fun w => True) hs (by kernel_rfl) rfl trivial ?_
    exact match_bad (by omega) hB
  · replace hs := hs.know (t := 14) rfl hb
    have cd1 := hb; have cd1b := hb; clear hb
    replace cd1 := of_decide_eq_false cd1
    replace hs := hs.pick (ts := [0, 1, 2, 14]) (L' := [(0, .slice A1 n c1), (1, .int .i64 radius), (2, .int .i64 depth), (14, .bool false)]) (by kernel_rfl)
    refine atR_seg (m := 3) (H := []) (ts := [0, 1, 2, 17]) (L' := [(0, .slice A1 n c1), (1, .int .i64 radius), (2, .int .i64 depth), (17, .bool (decide (depth < 1)))]) (O := fun w => True) hs (by kernel_rfl) trivial ?_
    clear hs a; intro a hs
    refine atR_end (by kernel_rfl) ?_
    refine wayN_node rfl ?_
    refine at_cond (t := 17) (j1 := 6) (j2 := 9) (b := decide (depth < 1)) (by kernel_rfl) hs rfl (fun hb => ?_) (fun hb => ?_)
    · have cd2 := hb; have cd2b := hb; clear hb
      replace cd2 := of_decide_eq_true cd2
      refine at_seq (j := 8) (by kernel_rfl) ?_
      refine at_region (id := 2) (by kernel_rfl) ?_
      refine atR_seg (m := 3) (H := []) (ts := [6, 7, 8]) (L' := [(6, .int .i64 0), (7, .bool false), (8, .int .i64 1)]) (O := fun w => True) hs (by kernel_rfl) trivial ?_
      clear hs a; intro a hs
      refine atR_end (by kernel_rfl) ?_
      refine wayN_node rfl ?_
      refine at_ret (by kernel_rfl) ?_
      refine at_end (vs := [.int .i64 0, .bool false, .int .i64 1]) (H := []) (v := .tuple #[.int .i64 0, .bool false, .int .i64 1]) (O := fun w => True) hs (by kernel_rfl) rfl trivial ?_
      exact match_bad (by omega) hB
    · have cd2 := hb; have cd2b := hb; clear hb
      replace cd2 := of_decide_eq_false cd2
      refine at_skip (by kernel_rfl) ?_
      refine wayN_node rfl ?_
      refine at_seq (j := 12) (by kernel_rfl) ?_
      refine at_region (id := 3) (by kernel_rfl) ?_
      refine atR_seg (m := 1) (H := []) (ts := [0, 1, 2, 9]) (L' := [(0, .slice A1 n c1), (1, .int .i64 radius), (2, .int .i64 depth), (9, .int .i64 (-1))]) (O := fun w => True) hs (by kernel_rfl) trivial ?_
      clear hs a; intro a hs
      refine atR_end (by kernel_rfl) ?_
      refine wayN_node rfl ?_
      refine at_seq (j := 47) (by kernel_rfl) ?_
      refine at_seq (j := 15) (by kernel_rfl) ?_
      refine at_region (id := 4) (by kernel_rfl) ?_
      refine atR_seg (m := 3) (H := []) (ts := [0, 1, 2, 9, 18, 19, 20]) (L' := [(0, .slice A1 n c1), (1, .int .i64 radius), (2, .int .i64 depth), (9, .int .i64 (-1)), (18, .slice A1 n c1), (19, .int .i64 (n : Int)), (20, .int .i64 0)]) (O := fun w => True) hs (by kernel_rfl) trivial ?_
      clear hs a; intro a hs
      refine atR_end (by kernel_rfl) ?_
      refine wayN_node rfl ?_
      refine at_block (id := 0) (by kernel_rfl) ?_
      refine at_loop2 (fun (k : Nat) (b : Int) a' W => St 61 [(0, .slice A1 n c1), (1, .int .i64 radius), (2, .int .i64 depth), (9, .int .i64 b), (18, .slice A1 n c1), (19, .int .i64 (n : Int)), (20, .int .i64 (k : Int))] a' ∧ Below w.heap.size w W ∧ (k ≤ n) ∧ (b = bst ts radius depth k) ∧ (noD ts radius depth k)) (fun k b => n - k) 0 (-1) (by kernel_rfl) ⟨hs.sub ⟨⟨_, rfl, rfl⟩, ⟨_, rfl, rfl⟩, ⟨_, rfl, rfl⟩, ⟨_, rfl, rfl⟩, ⟨_, rfl, rfl⟩, ⟨_, rfl, rfl⟩, ⟨_, rfl, (by first | rfl | (push_cast; rfl) | (congr 1; omega))⟩, trivial⟩, hB, Nat.zero_le _, rfl, fun _ _ h => absurd h (Nat.not_lt_zero _)⟩ ?_
      clear hs a hB
      intro k b a wr1 hI
      obtain ⟨hs, hB, hk, hbb, hno⟩ := hI
      refine at_seq (j := 19) (by kernel_rfl) ?_
      refine at_region (id := 5) (by kernel_rfl) ?_
      refine atR_seg (m := 1) (H := []) (ts := [0, 1, 2, 9, 18, 19, 20, 21]) (L' := [(0, .slice A1 n c1), (1, .int .i64 radius), (2, .int .i64 depth), (9, .int .i64 b), (18, .slice A1 n c1), (19, .int .i64 (n : Int)), (20, .int .i64 (k : Int)), (21, .bool (decide ((k : Int) < (n : Int))))]) (O := fun w => True) hs (by kernel_rfl) trivial ?_
      clear hs a; intro a hs
      refine atR_end (by kernel_rfl) ?_
      refine wayN_node rfl ?_
      refine at_seq (j := 23) (by kernel_rfl) ?_
      refine at_cond (t := 21) (j1 := 21) (j2 := 22) (b := decide ((k : Int) < (n : Int))) (by kernel_rfl) hs rfl (fun hb => ?_) (fun hb => ?_)
      · have cd3 := hb; have cd3b := hb; clear hb
        replace cd3 := of_decide_eq_true cd3
        have hkn : k < n := by omega
        refine at_skip (by kernel_rfl) ?_
        refine wayN_node rfl ?_
        refine at_seq (j := 46) (by kernel_rfl) ?_
        refine at_block (id := 1) (by kernel_rfl) ?_
        refine at_seq (j := 27) (by kernel_rfl) ?_
        obtain ⟨p1, o1, t, hA1, ht, e1⟩ := (R1.below hB).elem (f := Tl.cs) (fun _ => rfl) hl hkn
        obtain ⟨hr1, hr2⟩ := HR t (List.mem_of_getElem? ht)
        obtain ⟨num, kind, rad, flu, hol, stp, fd, plu⟩ := t
        dsimp only at hr1 hr2
        subst hA1
        refine at_region (id := 6) (by kernel_rfl) ?_
        refine atR_seg (m := 3) (H := [(1, some (.pointer (some ⟨p1, o1 + k * 8, none⟩)), []), (2, none, [.int .i64 num, .int .i64 kind, .int .i64 rad, .int .i64 flu, .int .i64 hol, .int .i64 stp, .int .i64 fd, .int .i64 plu])]) (ts := [0, 1, 2, 9, 18, 19, 20, 22, 24]) (L' := [(0, .slice (some ⟨p1, o1, none⟩) n c1), (1, .int .i64 radius), (2, .int .i64 depth), (9, .int .i64 b), (18, .slice (some ⟨p1, o1, none⟩) n c1), (19, .int .i64 (n : Int)), (20, .int .i64 (k : Int)), (22, .int .i64 (k : Int)), (24, .agg #[.int .i64 num, .int .i64 kind, .int .i64 rad, .int .i64 flu, .int .i64 hol, .int .i64 stp, .int .i64 fd, .int .i64 plu])]) (O := fun w => (.pointer (some ⟨p1, o1 + ((k : Int)).toNat * 8, none⟩) = Value.pointer (some ⟨p1, o1 + k * 8, none⟩)) ∧ ((0 : Int) ≤ (k : Int) ∧ (k : Int) < ((n : Nat) : Int)) ∧ (w.cell? ⟨p1, o1 + k * 8, none⟩ = some (.int .i64 num)) ∧ (w.cell? ⟨p1, o1 + k * 8 + 1, none⟩ = some (.int .i64 kind)) ∧ (w.cell? ⟨p1, o1 + k * 8 + 2, none⟩ = some (.int .i64 rad)) ∧ (w.cell? ⟨p1, o1 + k * 8 + 3, none⟩ = some (.int .i64 flu)) ∧ (w.cell? ⟨p1, o1 + k * 8 + 4, none⟩ = some (.int .i64 hol)) ∧ (w.cell? ⟨p1, o1 + k * 8 + 5, none⟩ = some (.int .i64 stp)) ∧ (w.cell? ⟨p1, o1 + k * 8 + 6, none⟩ = some (.int .i64 fd)) ∧ (w.cell? ⟨p1, o1 + k * 8 + 7, none⟩ = some (.int .i64 plu)) ∧ True) hs (by kernel_rfl) ⟨by simp [Int.toNat_natCast], ⟨by omega, by omega⟩, e1.at0 rfl, e1.at_ 1 rfl, e1.at_ 2 rfl, e1.at_ 3 rfl, e1.at_ 4 rfl, e1.at_ 5 rfl, e1.at_ 6 rfl, e1.at_ 7 rfl, trivial⟩ ?_
        clear hs a; intro a hs
        refine atR_op hs (by kernel_rfl) (new1 (t := 33) (cs := #[.int .i64 0, .int .i64 0, .int .i64 0, .int .i64 0, .int .i64 0, .int .i64 0, .int .i64 0, .int .i64 0]) (fun rb_ => .pointer (some ⟨rb_, 0, none⟩)) [0, 1, 2, 9, 11, 18, 19, 20, 22, 24] (fun rb_ => [(0, .slice (some ⟨p1, o1, none⟩) n c1), (1, .int .i64 radius), (2, .int .i64 depth), (9, .int .i64 b), (11, .pointer (some ⟨rb_, 0, none⟩)), (18, .slice (some ⟨p1, o1, none⟩) n c1), (19, .int .i64 (n : Int)), (20, .int .i64 (k : Int)), (22, .int .i64 (k : Int)), (24, .agg #[.int .i64 num, .int .i64 kind, .int .i64 rad, .int .i64 flu, .int .i64 hol, .int .i64 stp, .int .i64 fd, .int .i64 plu])]) hs (fun _ => by kernel_rfl) (fun _ => by kernel_rfl) ?_)
        clear hs a; intro a w2 b1 hn hs
        have B1 := hn.blk
        have l1 : w.heap.size ≤ b1 := by rw [hn.at_]; exact hB.size
        replace e1 := e1.below hn.below
        replace hB := later hB hn.below
        clear hn
        refine atR_seg (m := 1) (H := []) (ts := [0, 1, 2, 9, 10, 11, 18, 19, 20, 24]) (L' := [(0, .slice (some ⟨p1, o1, none⟩) n c1), (1, .int .i64 radius), (2, .int .i64 depth), (9, .int .i64 b), (10, .int .i64 (k : Int)), (11, .pointer (some ⟨b1, 0, none⟩)), (18, .slice (some ⟨p1, o1, none⟩) n c1), (19, .int .i64 (n : Int)), (20, .int .i64 (k : Int)), (24, .agg #[.int .i64 num, .int .i64 kind, .int .i64 rad, .int .i64 flu, .int .i64 hol, .int .i64 stp, .int .i64 fd, .int .i64 plu])]) (O := fun w => True) hs (by kernel_rfl) trivial ?_
        clear hs a; intro a hs
        refine atR_op hs (by kernel_rfl) (store1 (b := b1) (cs := #[.int .i64 0, .int .i64 0, .int .i64 0, .int .i64 0, .int .i64 0, .int .i64 0, .int .i64 0, .int .i64 0]) #[.int .i64 num, .int .i64 kind, .int .i64 rad, .int .i64 flu, .int .i64 hol, .int .i64 stp, .int .i64 fd, .int .i64 plu] [(0, .int .i64 num), (1, .int .i64 kind), (2, .int .i64 rad), (3, .int .i64 flu), (4, .int .i64 hol), (5, .int .i64 stp), (6, .int .i64 fd), (7, .int .i64 plu)] [0, 1, 2, 9, 10, 11, 18, 19, 20] [(0, .slice (some ⟨p1, o1, none⟩) n c1), (1, .int .i64 radius), (2, .int .i64 depth), (9, .int .i64 b), (10, .int .i64 (k : Int)), (11, .pointer (some ⟨b1, 0, none⟩)), (18, .slice (some ⟨p1, o1, none⟩) n c1), (19, .int .i64 (n : Int)), (20, .int .i64 (k : Int))] hs B1 (by kernel_rfl) ⟨Nat.le_of_ble_eq_true rfl, trivial, ⟨Nat.le_of_ble_eq_true rfl, trivial, ⟨Nat.le_of_ble_eq_true rfl, trivial, ⟨Nat.le_of_ble_eq_true rfl, trivial, ⟨Nat.le_of_ble_eq_true rfl, trivial, ⟨Nat.le_of_ble_eq_true rfl, trivial, ⟨Nat.le_of_ble_eq_true rfl, trivial, ⟨Nat.le_of_ble_eq_true rfl, trivial, trivial⟩⟩⟩⟩⟩⟩⟩⟩ rfl (by kernel_rfl) ?_)
        clear hs a; intro a w3 B1' hu hs
        replace B1 := B1'; clear B1'
        replace e1 := e1.upd hu (by omega)
        replace hB := hB.trans (hu.below (by omega))
        clear hu
        refine atR_end (by kernel_rfl) ?_
        refine wayN_node rfl ?_
        refine at_seq (j := 33) (by kernel_rfl) ?_
        refine at_seq (j := 30) (by kernel_rfl) ?_
        refine at_region (id := 7) (by kernel_rfl) ?_
        refine atR_seg (m := 4) (H := [(1, none, [.int .i64 flu])]) (ts := [0, 1, 2, 9, 10, 11, 18, 19, 20, 28]) (L' := [(0, .slice (some ⟨p1, o1, none⟩) n c1), (1, .int .i64 radius), (2, .int .i64 depth), (9, .int .i64 b), (10, .int .i64 (k : Int)), (11, .pointer (some ⟨b1, 0, none⟩)), (18, .slice (some ⟨p1, o1, none⟩) n c1), (19, .int .i64 (n : Int)), (20, .int .i64 (k : Int)), (28, .bool (decide (flu < depth)))]) (O := fun w => (w.cell? ⟨b1, 3, none⟩ = some (.int .i64 flu)) ∧ True) hs (by kernel_rfl) ⟨B1.cell 3 rfl, trivial⟩ ?_
        clear hs a; intro a hs
        refine atR_end (by kernel_rfl) ?_
        refine wayN_node rfl ?_
        refine at_cond (t := 28) (j1 := 31) (j2 := 32) (b := decide (flu < depth)) (by kernel_rfl) hs rfl (fun hb => ?_) (fun hb => ?_)
        · have cd4 := hb; have cd4b := hb; clear hb
          replace cd4 := of_decide_eq_true cd4
          refine at_exit (id := 1) (by kernel_rfl) (wayE_ok rfl ?_)
          refine wayN_node rfl ?_
          refine at_region (id := 12) (by kernel_rfl) ?_
          refine atR_seg (m := 2) (H := [(0, some (.int .i64 ((k : Int) + 1)), [])]) (ts := [0, 1, 2, 9, 18, 19, 20]) (L' := [(0, .slice (some ⟨p1, o1, none⟩) n c1), (1, .int .i64 radius), (2, .int .i64 depth), (9, .int .i64 b), (18, .slice (some ⟨p1, o1, none⟩) n c1), (19, .int .i64 (n : Int)), (20, .int .i64 ((k : Int) + 1))]) (O := fun w => (W .i64 ((k : Int) + 1)) ∧ True) hs (by kernel_rfl) ⟨w64 (by omega) (by omega), trivial⟩ ?_
          clear hs a; intro a hs
          refine atR_end (by kernel_rfl) ?_
          refine wayN_back ?_
          dsimp only [lpOf]
          exact ⟨k + 1, b, ⟨hs.sub ⟨⟨_, rfl, (by first | rfl | (push_cast; rfl) | (congr 1; omega))⟩, ⟨_, rfl, rfl⟩, ⟨_, rfl, rfl⟩, ⟨_, rfl, rfl⟩, ⟨_, rfl, (by first | rfl | (push_cast; rfl) | (congr 1; omega))⟩, ⟨_, rfl, rfl⟩, ⟨_, rfl, (by first | rfl | (push_cast; rfl) | (congr 1; omega))⟩, trivial⟩, hB, by omega, by rw [bst_succ ht, ← hbb, if_neg (by rintro ⟨h1, h2, h3⟩; have hmp := mills_pos h2; dsimp only at h1 h2 h3 hmp; (try rw [hrj] at h3); first | omega | (simp_all; done) | (simp_all; omega))], hno.succ ht (by dsimp only; omega)⟩, by omega⟩
        · have cd4 := hb; have cd4b := hb; clear hb
          replace cd4 := of_decide_eq_false cd4
          refine at_skip (by kernel_rfl) ?_
          refine wayN_node rfl ?_
          refine at_seq (j := 41) (by kernel_rfl) ?_
          refine at_seq (j := 36) (by kernel_rfl) ?_
          refine at_region (id := 8) (by kernel_rfl) ?_
          refine atR_seg (m := 4) (H := [(1, none, [.int .i64 kind])]) (ts := [0, 1, 2, 9, 10, 11, 18, 19, 20, 32]) (L' := [(0, .slice (some ⟨p1, o1, none⟩) n c1), (1, .int .i64 radius), (2, .int .i64 depth), (9, .int .i64 b), (10, .int .i64 (k : Int)), (11, .pointer (some ⟨b1, 0, none⟩)), (18, .slice (some ⟨p1, o1, none⟩) n c1), (19, .int .i64 (n : Int)), (20, .int .i64 (k : Int)), (32, .bool (kind == 2))]) (O := fun w => (w.cell? ⟨b1, 1, none⟩ = some (.int .i64 kind)) ∧ True) hs (by kernel_rfl) ⟨B1.cell 1 rfl, trivial⟩ ?_
          clear hs a; intro a hs
          rcases Bool.eq_false_or_eq_true (kind == 2) with hb | hb
          · replace hs := hs.know (t := 32) rfl hb
            have cd5 := hb; have cd5b := hb; clear hb
            replace cd5 := eq_of_beq cd5
            replace hs := hs.pick (ts := [0, 1, 2, 9, 10, 11, 18, 19, 20, 32]) (L' := [(0, .slice (some ⟨p1, o1, none⟩) n c1), (1, .int .i64 radius), (2, .int .i64 depth), (9, .int .i64 b), (10, .int .i64 (k : Int)), (11, .pointer (some ⟨b1, 0, none⟩)), (18, .slice (some ⟨p1, o1, none⟩) n c1), (19, .int .i64 (n : Int)), (20, .int .i64 (k : Int)), (32, .bool true)]) (by kernel_rfl)
            refine atR_seg (m := 5) (H := [(5, none, [.int .i64 rad])]) (ts := [0, 1, 2, 9, 10, 11, 18, 19, 20, 37]) (L' := [(0, .slice (some ⟨p1, o1, none⟩) n c1), (1, .int .i64 radius), (2, .int .i64 depth), (9, .int .i64 b), (10, .int .i64 (k : Int)), (11, .pointer (some ⟨b1, 0, none⟩)), (18, .slice (some ⟨p1, o1, none⟩) n c1), (19, .int .i64 (n : Int)), (20, .int .i64 (k : Int)), (37, .bool (rad == radius))]) (O := fun w => (w.cell? ⟨b1, 2, none⟩ = some (.int .i64 rad)) ∧ True) hs (by kernel_rfl) ⟨B1.cell 2 rfl, trivial⟩ ?_
            clear hs a; intro a hs
            refine atR_end (by kernel_rfl) ?_
            refine wayN_node rfl ?_
            refine at_cond (t := 37) (j1 := 37) (j2 := 40) (b := rad == radius) (by kernel_rfl) hs rfl (fun hb => ?_) (fun hb => ?_)
            · have cd6 := hb; have cd6b := hb; clear hb
              replace cd6 := eq_of_beq cd6
              refine at_seq (j := 39) (by kernel_rfl) ?_
              refine at_region (id := 9) (by kernel_rfl) ?_
              refine atR_seg (m := 4) (H := []) (ts := [6, 7, 8]) (L' := [(6, .int .i64 (k : Int)), (7, .bool true), (8, .int .i64 0)]) (O := fun w => True) hs (by kernel_rfl) trivial ?_
              clear hs a; intro a hs
              refine atR_end (by kernel_rfl) ?_
              refine wayN_node rfl ?_
              refine at_ret (by kernel_rfl) ?_
              refine at_end (vs := [.int .i64 (k : Int), .bool true, .int .i64 0]) (H := []) (v := .tuple #[.int .i64 (k : Int), .bool true, .int .i64 0]) (O := fun w => True) hs (by kernel_rfl) rfl trivial ?_
              exact match_drill (by omega) hno ht (by dsimp only; omega) hB
            · have cd6 := hb; have cd6b := hb; clear hb
              replace cd6 := ne_of_beq_false cd6
              refine at_skip (by kernel_rfl) ?_
              refine wayN_node rfl ?_
              refine at_seq (j := 43) (by kernel_rfl) ?_
              have hbf := bst_form ts radius depth k
              rw [← hbb] at hbf
              rcases hbf with hneg | ⟨j, t2, hbj, hjk, ht2, _, _⟩
              · have hb0 : decide (b < 0) = true := decide_eq_true (by omega)
                have hrj : b < 0 := by omega
                refine at_draw (fun W => Blk W b1 33 #[.int .i64 num, .int .i64 kind, .int .i64 rad, .int .i64 flu, .int .i64 hol, .int .i64 stp, .int .i64 fd, .int .i64 plu] ∧ Ce w.heap.size W p1 (o1 + k * 8) [.int .i64 num, .int .i64 kind, .int .i64 rad, .int .i64 flu, .int .i64 hol, .int .i64 stp, .int .i64 fd, .int .i64 plu] ∧ True) (id := 10) (by kernel_rfl) (by kernel_rfl) 17 (by kernel_rfl) ?_
                intro w4 hb
                replace B1 := B1.below hb B1.lt
                replace e1 := e1.below hb
                replace hB := later hB hb
                clear hb
                refine atD_seg (m := 15) [0, 1] [] [(0, none, [.int .i64 num, .int .i64 kind, .int .i64 rad, .int .i64 flu, .int .i64 hol, .int .i64 stp, .int .i64 fd, .int .i64 plu])] [0, 1, 2, 9, 10, 11, 18, 19, 20, 39, 40] [(0, .slice (some ⟨p1, o1, none⟩) n c1), (1, .int .i64 radius), (2, .int .i64 depth), (9, .int .i64 b), (10, .int .i64 (k : Int)), (11, .pointer (some ⟨b1, 0, none⟩)), (18, .slice (some ⟨p1, o1, none⟩) n c1), (19, .int .i64 (n : Int)), (20, .int .i64 (k : Int)), (39, .agg #[.int .i64 num, .int .i64 kind, .int .i64 rad, .int .i64 flu, .int .i64 hol, .int .i64 stp, .int .i64 fd, .int .i64 plu]), (40, .int .i64 radius)] (fun w => (w.cell? ⟨b1, 0, none⟩ = some (.int .i64 num)) ∧ (w.cell? ⟨b1, 1, none⟩ = some (.int .i64 kind)) ∧ (w.cell? ⟨b1, 2, none⟩ = some (.int .i64 rad)) ∧ (w.cell? ⟨b1, 3, none⟩ = some (.int .i64 flu)) ∧ (w.cell? ⟨b1, 4, none⟩ = some (.int .i64 hol)) ∧ (w.cell? ⟨b1, 5, none⟩ = some (.int .i64 stp)) ∧ (w.cell? ⟨b1, 6, none⟩ = some (.int .i64 fd)) ∧ (w.cell? ⟨b1, 7, none⟩ = some (.int .i64 plu)) ∧ True) hs ⟨B1, e1, trivial⟩ (by kernel_rfl) (by kernel_rfl) (fun w ⟨B1, e1, _⟩ => ⟨B1.cell 0 rfl, B1.cell 1 rfl, B1.cell 2 rfl, B1.cell 3 rfl, B1.cell 4 rfl, B1.cell 5 rfl, B1.cell 6 rfl, B1.cell 7 rfl, trivial⟩) ?_
                clear hs a; intro a hs
                refine atD_op (m := 14) (j := 2) (D := [1, 0]) hs (by kernel_rfl) (by kernel_rfl) (call1 (f := 26) (args := #[.agg #[.int .i64 num, .int .i64 kind, .int .i64 rad, .int .i64 flu, .int .i64 hol, .int .i64 stp, .int .i64 fd, .int .i64 plu], .int .i64 radius]) [0, 1, 2, 9, 10, 11, 18, 19, 20, 41] (fun rv_ => [(0, .slice (some ⟨p1, o1, none⟩) n c1), (1, .int .i64 radius), (2, .int .i64 depth), (9, .int .i64 b), (10, .int .i64 (k : Int)), (11, .pointer (some ⟨b1, 0, none⟩)), (18, .slice (some ⟨p1, o1, none⟩) n c1), (19, .int .i64 (n : Int)), (20, .int .i64 (k : Int)), (41, rv_)]) hs (by kernel_rfl) (fun _ => by kernel_rfl) ?_)
                refine (mills_any (⟨num, kind, rad, flu, hol, stp, fd, plu⟩ : Tl) _ _ (by dsimp only; omega) (by omega)).mono ?_
                rintro e w5 ⟨rfl, hb⟩
                refine ⟨_, rfl, ?_⟩
                clear hs a; intro a hs
                replace B1 := B1.below hb B1.lt
                replace e1 := e1.below hb
                replace hB := later hB hb
                clear hb
                refine ⟨⟨B1, e1, trivial⟩, ?_⟩
                refine atD_seg (m := 13) [3] [2, 1, 0] [] [0, 1, 2, 9, 10, 11, 18, 19, 20, 42] [(0, .slice (some ⟨p1, o1, none⟩) n c1), (1, .int .i64 radius), (2, .int .i64 depth), (9, .int .i64 b), (10, .int .i64 (k : Int)), (11, .pointer (some ⟨b1, 0, none⟩)), (18, .slice (some ⟨p1, o1, none⟩) n c1), (19, .int .i64 (n : Int)), (20, .int .i64 (k : Int)), (42, .bool ((⟨num, kind, rad, flu, hol, stp, fd, plu⟩ : Tl).mills radius))] (fun w => True) hs ⟨B1, e1, trivial⟩ (by kernel_rfl) (by kernel_rfl) (fun w ⟨B1, e1, _⟩ => trivial) ?_
                clear hs a; intro a hs
                rcases Bool.eq_false_or_eq_true ((⟨num, kind, rad, flu, hol, stp, fd, plu⟩ : Tl).mills radius) with hb | hb
                · replace hs := hs.know (t := 42) rfl hb
                  have cd7 := hb; have cd7b := hb; clear hb
                  replace hs := hs.pick (ts := [0, 1, 2, 9, 10, 11, 18, 19, 20, 42]) (L' := [(0, .slice (some ⟨p1, o1, none⟩) n c1), (1, .int .i64 radius), (2, .int .i64 depth), (9, .int .i64 b), (10, .int .i64 (k : Int)), (11, .pointer (some ⟨b1, 0, none⟩)), (18, .slice (some ⟨p1, o1, none⟩) n c1), (19, .int .i64 (n : Int)), (20, .int .i64 (k : Int)), (42, .bool true)]) (by kernel_rfl)
                  refine atD_seg (m := 10) [4, 5, 6] [3, 2, 1, 0] [] [0, 1, 2, 9, 10, 11, 18, 19, 20, 42, 45] [(0, .slice (some ⟨p1, o1, none⟩) n c1), (1, .int .i64 radius), (2, .int .i64 depth), (9, .int .i64 b), (10, .int .i64 (k : Int)), (11, .pointer (some ⟨b1, 0, none⟩)), (18, .slice (some ⟨p1, o1, none⟩) n c1), (19, .int .i64 (n : Int)), (20, .int .i64 (k : Int)), (42, .bool true), (45, .bool (decide (b < 0)))] (fun w => True) hs ⟨B1, e1, trivial⟩ (by kernel_rfl) (by kernel_rfl) (fun w ⟨B1, e1, _⟩ => trivial) ?_
                  clear hs a; intro a hs
                  replace hs := hs.know (t := 45) rfl (show (decide (b < 0)) = true from hb0)
                  replace hs := hs.pick (ts := [0, 1, 2, 9, 10, 11, 18, 19, 20, 42, 45]) (L' := [(0, .slice (some ⟨p1, o1, none⟩) n c1), (1, .int .i64 radius), (2, .int .i64 depth), (9, .int .i64 b), (10, .int .i64 (k : Int)), (11, .pointer (some ⟨b1, 0, none⟩)), (18, .slice (some ⟨p1, o1, none⟩) n c1), (19, .int .i64 (n : Int)), (20, .int .i64 (k : Int)), (42, .bool true), (45, .bool true)]) (by kernel_rfl)
                  refine atD_seg (m := 0) [7, 8, 9, 10, 11, 12, 13, 14, 15, 16] [6, 5, 4, 3, 2, 1, 0] [] [0, 1, 2, 9, 10, 18, 19, 20, 55] [(0, .slice (some ⟨p1, o1, none⟩) n c1), (1, .int .i64 radius), (2, .int .i64 depth), (9, .int .i64 b), (10, .int .i64 (k : Int)), (18, .slice (some ⟨p1, o1, none⟩) n c1), (19, .int .i64 (n : Int)), (20, .int .i64 (k : Int)), (55, .bool true)] (fun w => True) hs ⟨B1, e1, trivial⟩ (by kernel_rfl) (by kernel_rfl) (fun w ⟨B1, e1, _⟩ => trivial) ?_
                  clear hs a; intro a hs
                  refine atD_done (by kernel_rfl) ?_
                  refine wayN_node rfl ?_
                  refine at_cond (t := 55) (j1 := 44) (j2 := 45) (b := true) (by kernel_rfl) hs rfl (fun _ => ?_) (fun hb => absurd (hb.symm.trans (show (true) = true from rfl)) (by decide))
                  refine at_region (id := 11) (by kernel_rfl) ?_
                  refine atR_seg (m := 2) (H := []) (ts := [0, 1, 2, 9, 18, 19, 20]) (L' := [(0, .slice (some ⟨p1, o1, none⟩) n c1), (1, .int .i64 radius), (2, .int .i64 depth), (9, .int .i64 (k : Int)), (18, .slice (some ⟨p1, o1, none⟩) n c1), (19, .int .i64 (n : Int)), (20, .int .i64 (k : Int))]) (O := fun w => True) hs (by kernel_rfl) trivial ?_
                  clear hs a; intro a hs
                  refine atR_end (by kernel_rfl) ?_
                  refine wayN_node rfl ?_
                  refine at_region (id := 12) (by kernel_rfl) ?_
                  refine atR_seg (m := 2) (H := [(0, some (.int .i64 ((k : Int) + 1)), [])]) (ts := [0, 1, 2, 9, 18, 19, 20]) (L' := [(0, .slice (some ⟨p1, o1, none⟩) n c1), (1, .int .i64 radius), (2, .int .i64 depth), (9, .int .i64 (k : Int)), (18, .slice (some ⟨p1, o1, none⟩) n c1), (19, .int .i64 (n : Int)), (20, .int .i64 ((k : Int) + 1))]) (O := fun w => (W .i64 ((k : Int) + 1)) ∧ True) hs (by kernel_rfl) ⟨w64 (by omega) (by omega), trivial⟩ ?_
                  clear hs a; intro a hs
                  refine atR_end (by kernel_rfl) ?_
                  refine wayN_back ?_
                  dsimp only [lpOf]
                  exact ⟨k + 1, (k : Int), ⟨hs.sub ⟨⟨_, rfl, (by first | rfl | (push_cast; rfl) | (congr 1; omega))⟩, ⟨_, rfl, rfl⟩, ⟨_, rfl, rfl⟩, ⟨_, rfl, rfl⟩, ⟨_, rfl, (by first | rfl | (push_cast; rfl) | (congr 1; omega))⟩, ⟨_, rfl, rfl⟩, ⟨_, rfl, (by first | rfl | (push_cast; rfl) | (congr 1; omega))⟩, trivial⟩, hB, by omega, by rw [bst_succ ht, ← hbb, if_pos ⟨by dsimp only; omega, by assumption, by first | exact Or.inl hrj | (right; rw [hrj]; dsimp only; omega)⟩], hno.succ ht (by dsimp only; omega)⟩, by omega⟩
                · replace hs := hs.know (t := 42) rfl hb
                  have cd7 := hb; have cd7b := hb; clear hb
                  replace hs := hs.pick (ts := [0, 1, 2, 9, 10, 11, 18, 19, 20, 42]) (L' := [(0, .slice (some ⟨p1, o1, none⟩) n c1), (1, .int .i64 radius), (2, .int .i64 depth), (9, .int .i64 b), (10, .int .i64 (k : Int)), (11, .pointer (some ⟨b1, 0, none⟩)), (18, .slice (some ⟨p1, o1, none⟩) n c1), (19, .int .i64 (n : Int)), (20, .int .i64 (k : Int)), (42, .bool false)]) (by kernel_rfl)
                  refine atD_seg (m := 0) [4, 5, 6, 7, 8, 9, 10, 11, 12, 13, 14, 15, 16] [3, 2, 1, 0] [] [0, 1, 2, 9, 10, 18, 19, 20, 55] [(0, .slice (some ⟨p1, o1, none⟩) n c1), (1, .int .i64 radius), (2, .int .i64 depth), (9, .int .i64 b), (10, .int .i64 (k : Int)), (18, .slice (some ⟨p1, o1, none⟩) n c1), (19, .int .i64 (n : Int)), (20, .int .i64 (k : Int)), (55, .bool false)] (fun w => True) hs ⟨B1, e1, trivial⟩ (by kernel_rfl) (by kernel_rfl) (fun w ⟨B1, e1, _⟩ => trivial) ?_
                  clear hs a; intro a hs
                  refine atD_done (by kernel_rfl) ?_
                  refine wayN_node rfl ?_
                  refine at_cond (t := 55) (j1 := 44) (j2 := 45) (b := false) (by kernel_rfl) hs rfl (fun hb => absurd (hb.symm.trans (show (false) = false from rfl)) (by decide)) (fun _ => ?_)
                  refine at_skip (by kernel_rfl) ?_
                  refine wayN_node rfl ?_
                  refine at_region (id := 12) (by kernel_rfl) ?_
                  refine atR_seg (m := 2) (H := [(0, some (.int .i64 ((k : Int) + 1)), [])]) (ts := [0, 1, 2, 9, 18, 19, 20]) (L' := [(0, .slice (some ⟨p1, o1, none⟩) n c1), (1, .int .i64 radius), (2, .int .i64 depth), (9, .int .i64 b), (18, .slice (some ⟨p1, o1, none⟩) n c1), (19, .int .i64 (n : Int)), (20, .int .i64 ((k : Int) + 1))]) (O := fun w => (W .i64 ((k : Int) + 1)) ∧ True) hs (by kernel_rfl) ⟨w64 (by omega) (by omega), trivial⟩ ?_
                  clear hs a; intro a hs
                  refine atR_end (by kernel_rfl) ?_
                  refine wayN_back ?_
                  dsimp only [lpOf]
                  exact ⟨k + 1, b, ⟨hs.sub ⟨⟨_, rfl, (by first | rfl | (push_cast; rfl) | (congr 1; omega))⟩, ⟨_, rfl, rfl⟩, ⟨_, rfl, rfl⟩, ⟨_, rfl, rfl⟩, ⟨_, rfl, (by first | rfl | (push_cast; rfl) | (congr 1; omega))⟩, ⟨_, rfl, rfl⟩, ⟨_, rfl, (by first | rfl | (push_cast; rfl) | (congr 1; omega))⟩, trivial⟩, hB, by omega, by rw [bst_succ ht, ← hbb, if_neg (by rintro ⟨h1, h2, h3⟩; have hmp := mills_pos h2; dsimp only at h1 h2 h3 hmp; (try rw [hrj] at h3); first | omega | (simp_all; done) | (simp_all; omega))], hno.succ ht (by dsimp only; omega)⟩, by omega⟩
              · obtain ⟨p2, o2, t3, hA2, ht3, e2⟩ := (R1.below hB).elem (f := Tl.cs) (fun _ => rfl) hl (show j < n by omega)
                obtain rfl : t3 = t2 := by rw [ht2] at ht3; injection ht3 with e; exact e.symm
                have hrj := radAt_j ht2
                obtain ⟨num2, kind2, rad2, flu2, hol2, stp2, fd2, plu2⟩ := t3
                dsimp only at hrj
                injection hA2 with hA2; injection hA2 with hA3 hA4; subst hA3 hA4
                subst hbj
                refine at_draw (fun W => Blk W b1 33 #[.int .i64 num, .int .i64 kind, .int .i64 rad, .int .i64 flu, .int .i64 hol, .int .i64 stp, .int .i64 fd, .int .i64 plu] ∧ Ce w.heap.size W p1 (o1 + k * 8) [.int .i64 num, .int .i64 kind, .int .i64 rad, .int .i64 flu, .int .i64 hol, .int .i64 stp, .int .i64 fd, .int .i64 plu] ∧ Ce w.heap.size W p1 (o1 + j * 8) [.int .i64 num2, .int .i64 kind2, .int .i64 rad2, .int .i64 flu2, .int .i64 hol2, .int .i64 stp2, .int .i64 fd2, .int .i64 plu2] ∧ True) (id := 10) (by kernel_rfl) (by kernel_rfl) 17 (by kernel_rfl) ?_
                intro w6 hb
                replace B1 := B1.below hb B1.lt
                replace e1 := e1.below hb
                replace e2 := e2.below hb
                replace hB := later hB hb
                clear hb
                refine atD_seg (m := 15) [0, 1] [] [(0, none, [.int .i64 num, .int .i64 kind, .int .i64 rad, .int .i64 flu, .int .i64 hol, .int .i64 stp, .int .i64 fd, .int .i64 plu])] [0, 1, 2, 9, 10, 11, 18, 19, 20, 39, 40] [(0, .slice (some ⟨p1, o1, none⟩) n c1), (1, .int .i64 radius), (2, .int .i64 depth), (9, .int .i64 (j : Int)), (10, .int .i64 (k : Int)), (11, .pointer (some ⟨b1, 0, none⟩)), (18, .slice (some ⟨p1, o1, none⟩) n c1), (19, .int .i64 (n : Int)), (20, .int .i64 (k : Int)), (39, .agg #[.int .i64 num, .int .i64 kind, .int .i64 rad, .int .i64 flu, .int .i64 hol, .int .i64 stp, .int .i64 fd, .int .i64 plu]), (40, .int .i64 radius)] (fun w => (w.cell? ⟨b1, 0, none⟩ = some (.int .i64 num)) ∧ (w.cell? ⟨b1, 1, none⟩ = some (.int .i64 kind)) ∧ (w.cell? ⟨b1, 2, none⟩ = some (.int .i64 rad)) ∧ (w.cell? ⟨b1, 3, none⟩ = some (.int .i64 flu)) ∧ (w.cell? ⟨b1, 4, none⟩ = some (.int .i64 hol)) ∧ (w.cell? ⟨b1, 5, none⟩ = some (.int .i64 stp)) ∧ (w.cell? ⟨b1, 6, none⟩ = some (.int .i64 fd)) ∧ (w.cell? ⟨b1, 7, none⟩ = some (.int .i64 plu)) ∧ True) hs ⟨B1, e1, e2, trivial⟩ (by kernel_rfl) (by kernel_rfl) (fun w ⟨B1, e1, e2, _⟩ => ⟨B1.cell 0 rfl, B1.cell 1 rfl, B1.cell 2 rfl, B1.cell 3 rfl, B1.cell 4 rfl, B1.cell 5 rfl, B1.cell 6 rfl, B1.cell 7 rfl, trivial⟩) ?_
                clear hs a; intro a hs
                refine atD_op (m := 14) (j := 2) (D := [1, 0]) hs (by kernel_rfl) (by kernel_rfl) (call1 (f := 26) (args := #[.agg #[.int .i64 num, .int .i64 kind, .int .i64 rad, .int .i64 flu, .int .i64 hol, .int .i64 stp, .int .i64 fd, .int .i64 plu], .int .i64 radius]) [0, 1, 2, 9, 10, 11, 18, 19, 20, 41] (fun rv_ => [(0, .slice (some ⟨p1, o1, none⟩) n c1), (1, .int .i64 radius), (2, .int .i64 depth), (9, .int .i64 (j : Int)), (10, .int .i64 (k : Int)), (11, .pointer (some ⟨b1, 0, none⟩)), (18, .slice (some ⟨p1, o1, none⟩) n c1), (19, .int .i64 (n : Int)), (20, .int .i64 (k : Int)), (41, rv_)]) hs (by kernel_rfl) (fun _ => by kernel_rfl) ?_)
                refine (mills_any (⟨num, kind, rad, flu, hol, stp, fd, plu⟩ : Tl) _ _ (by dsimp only; omega) (by omega)).mono ?_
                rintro e w7 ⟨rfl, hb⟩
                refine ⟨_, rfl, ?_⟩
                clear hs a; intro a hs
                replace B1 := B1.below hb B1.lt
                replace e1 := e1.below hb
                replace e2 := e2.below hb
                replace hB := later hB hb
                clear hb
                refine ⟨⟨B1, e1, e2, trivial⟩, ?_⟩
                refine atD_seg (m := 13) [3] [2, 1, 0] [] [0, 1, 2, 9, 10, 11, 18, 19, 20, 42] [(0, .slice (some ⟨p1, o1, none⟩) n c1), (1, .int .i64 radius), (2, .int .i64 depth), (9, .int .i64 (j : Int)), (10, .int .i64 (k : Int)), (11, .pointer (some ⟨b1, 0, none⟩)), (18, .slice (some ⟨p1, o1, none⟩) n c1), (19, .int .i64 (n : Int)), (20, .int .i64 (k : Int)), (42, .bool ((⟨num, kind, rad, flu, hol, stp, fd, plu⟩ : Tl).mills radius))] (fun w => True) hs ⟨B1, e1, e2, trivial⟩ (by kernel_rfl) (by kernel_rfl) (fun w ⟨B1, e1, e2, _⟩ => trivial) ?_
                clear hs a; intro a hs
                rcases Bool.eq_false_or_eq_true ((⟨num, kind, rad, flu, hol, stp, fd, plu⟩ : Tl).mills radius) with hb | hb
                · replace hs := hs.know (t := 42) rfl hb
                  have cd8 := hb; have cd8b := hb; clear hb
                  replace hs := hs.pick (ts := [0, 1, 2, 9, 10, 11, 18, 19, 20, 42]) (L' := [(0, .slice (some ⟨p1, o1, none⟩) n c1), (1, .int .i64 radius), (2, .int .i64 depth), (9, .int .i64 (j : Int)), (10, .int .i64 (k : Int)), (11, .pointer (some ⟨b1, 0, none⟩)), (18, .slice (some ⟨p1, o1, none⟩) n c1), (19, .int .i64 (n : Int)), (20, .int .i64 (k : Int)), (42, .bool true)]) (by kernel_rfl)
                  refine atD_seg (m := 10) [4, 5, 6] [3, 2, 1, 0] [] [0, 1, 2, 9, 10, 11, 18, 19, 20, 42, 45] [(0, .slice (some ⟨p1, o1, none⟩) n c1), (1, .int .i64 radius), (2, .int .i64 depth), (9, .int .i64 (j : Int)), (10, .int .i64 (k : Int)), (11, .pointer (some ⟨b1, 0, none⟩)), (18, .slice (some ⟨p1, o1, none⟩) n c1), (19, .int .i64 (n : Int)), (20, .int .i64 (k : Int)), (42, .bool true), (45, .bool (decide ((j : Int) < 0)))] (fun w => True) hs ⟨B1, e1, e2, trivial⟩ (by kernel_rfl) (by kernel_rfl) (fun w ⟨B1, e1, e2, _⟩ => trivial) ?_
                  clear hs a; intro a hs
                  rcases Bool.eq_false_or_eq_true (decide ((j : Int) < 0)) with hb | hb
                  · replace hs := hs.know (t := 45) rfl hb
                    have cd9 := hb; have cd9b := hb; clear hb
                    replace cd9 := of_decide_eq_true cd9
                    replace hs := hs.pick (ts := [0, 1, 2, 9, 10, 11, 18, 19, 20, 42, 45]) (L' := [(0, .slice (some ⟨p1, o1, none⟩) n c1), (1, .int .i64 radius), (2, .int .i64 depth), (9, .int .i64 (j : Int)), (10, .int .i64 (k : Int)), (11, .pointer (some ⟨b1, 0, none⟩)), (18, .slice (some ⟨p1, o1, none⟩) n c1), (19, .int .i64 (n : Int)), (20, .int .i64 (k : Int)), (42, .bool true), (45, .bool true)]) (by kernel_rfl)
                    refine atD_seg (m := 0) [7, 8, 9, 10, 11, 12, 13, 14, 15, 16] [6, 5, 4, 3, 2, 1, 0] [] [0, 1, 2, 9, 10, 18, 19, 20, 55] [(0, .slice (some ⟨p1, o1, none⟩) n c1), (1, .int .i64 radius), (2, .int .i64 depth), (9, .int .i64 (j : Int)), (10, .int .i64 (k : Int)), (18, .slice (some ⟨p1, o1, none⟩) n c1), (19, .int .i64 (n : Int)), (20, .int .i64 (k : Int)), (55, .bool true)] (fun w => True) hs ⟨B1, e1, e2, trivial⟩ (by kernel_rfl) (by kernel_rfl) (fun w ⟨B1, e1, e2, _⟩ => trivial) ?_
                    clear hs a; intro a hs
                    refine atD_done (by kernel_rfl) ?_
                    refine wayN_node rfl ?_
                    refine at_cond (t := 55) (j1 := 44) (j2 := 45) (b := true) (by kernel_rfl) hs rfl (fun _ => ?_) (fun hb => absurd (hb.symm.trans (show (true) = true from rfl)) (by decide))
                    refine at_region (id := 11) (by kernel_rfl) ?_
                    refine atR_seg (m := 2) (H := []) (ts := [0, 1, 2, 9, 18, 19, 20]) (L' := [(0, .slice (some ⟨p1, o1, none⟩) n c1), (1, .int .i64 radius), (2, .int .i64 depth), (9, .int .i64 (k : Int)), (18, .slice (some ⟨p1, o1, none⟩) n c1), (19, .int .i64 (n : Int)), (20, .int .i64 (k : Int))]) (O := fun w => True) hs (by kernel_rfl) trivial ?_
                    clear hs a; intro a hs
                    refine atR_end (by kernel_rfl) ?_
                    refine wayN_node rfl ?_
                    refine at_region (id := 12) (by kernel_rfl) ?_
                    refine atR_seg (m := 2) (H := [(0, some (.int .i64 ((k : Int) + 1)), [])]) (ts := [0, 1, 2, 9, 18, 19, 20]) (L' := [(0, .slice (some ⟨p1, o1, none⟩) n c1), (1, .int .i64 radius), (2, .int .i64 depth), (9, .int .i64 (k : Int)), (18, .slice (some ⟨p1, o1, none⟩) n c1), (19, .int .i64 (n : Int)), (20, .int .i64 ((k : Int) + 1))]) (O := fun w => (W .i64 ((k : Int) + 1)) ∧ True) hs (by kernel_rfl) ⟨w64 (by omega) (by omega), trivial⟩ ?_
                    clear hs a; intro a hs
                    refine atR_end (by kernel_rfl) ?_
                    refine wayN_back ?_
                    dsimp only [lpOf]
                    exact ⟨k + 1, (k : Int), ⟨hs.sub ⟨⟨_, rfl, (by first | rfl | (push_cast; rfl) | (congr 1; omega))⟩, ⟨_, rfl, rfl⟩, ⟨_, rfl, rfl⟩, ⟨_, rfl, rfl⟩, ⟨_, rfl, (by first | rfl | (push_cast; rfl) | (congr 1; omega))⟩, ⟨_, rfl, rfl⟩, ⟨_, rfl, (by first | rfl | (push_cast; rfl) | (congr 1; omega))⟩, trivial⟩, hB, by omega, by rw [bst_succ ht, ← hbb, if_pos ⟨by dsimp only; omega, by assumption, by first | exact Or.inl hrj | (right; rw [hrj]; dsimp only; omega)⟩], hno.succ ht (by dsimp only; omega)⟩, by omega⟩
                  · replace hs := hs.know (t := 45) rfl hb
                    have cd9 := hb; have cd9b := hb; clear hb
                    replace cd9 := of_decide_eq_false cd9
                    replace hs := hs.pick (ts := [0, 1, 2, 9, 10, 11, 18, 19, 20, 42, 45]) (L' := [(0, .slice (some ⟨p1, o1, none⟩) n c1), (1, .int .i64 radius), (2, .int .i64 depth), (9, .int .i64 (j : Int)), (10, .int .i64 (k : Int)), (11, .pointer (some ⟨b1, 0, none⟩)), (18, .slice (some ⟨p1, o1, none⟩) n c1), (19, .int .i64 (n : Int)), (20, .int .i64 (k : Int)), (42, .bool true), (45, .bool false)]) (by kernel_rfl)
                    refine atD_seg (m := 0) [7, 8, 9, 10, 11, 12, 13, 14, 15, 16] [6, 5, 4, 3, 2, 1, 0] [(8, none, [.int .i64 rad]), (11, some (.pointer (some ⟨p1, o1 + j * 8, none⟩)), []), (13, none, [.int .i64 rad2])] [0, 1, 2, 9, 10, 18, 19, 20, 55] [(0, .slice (some ⟨p1, o1, none⟩) n c1), (1, .int .i64 radius), (2, .int .i64 depth), (9, .int .i64 (j : Int)), (10, .int .i64 (k : Int)), (18, .slice (some ⟨p1, o1, none⟩) n c1), (19, .int .i64 (n : Int)), (20, .int .i64 (k : Int)), (55, .bool (decide (rad > rad2)))] (fun w => (w.cell? ⟨b1, 2, none⟩ = some (.int .i64 rad)) ∧ (.pointer (some ⟨p1, o1 + ((j : Int)).toNat * 8, none⟩) = Value.pointer (some ⟨p1, o1 + j * 8, none⟩)) ∧ ((0 : Int) ≤ (j : Int) ∧ (j : Int) < ((n : Nat) : Int)) ∧ (w.cell? ⟨p1, o1 + j * 8 + 2, none⟩ = some (.int .i64 rad2)) ∧ True) hs ⟨B1, e1, e2, trivial⟩ (by kernel_rfl) (by kernel_rfl) (fun w ⟨B1, e1, e2, _⟩ => ⟨B1.cell 2 rfl, by simp [Int.toNat_natCast], ⟨by omega, by omega⟩, e2.at_ 2 rfl, trivial⟩) ?_
                    clear hs a; intro a hs
                    refine atD_done (by kernel_rfl) ?_
                    refine wayN_node rfl ?_
                    refine at_cond (t := 55) (j1 := 44) (j2 := 45) (b := decide (rad > rad2)) (by kernel_rfl) hs rfl (fun hb => ?_) (fun hb => ?_)
                    · have cd10 := hb; have cd10b := hb; clear hb
                      replace cd10 := of_decide_eq_true cd10
                      refine at_region (id := 11) (by kernel_rfl) ?_
                      refine atR_seg (m := 2) (H := []) (ts := [0, 1, 2, 9, 18, 19, 20]) (L' := [(0, .slice (some ⟨p1, o1, none⟩) n c1), (1, .int .i64 radius), (2, .int .i64 depth), (9, .int .i64 (k : Int)), (18, .slice (some ⟨p1, o1, none⟩) n c1), (19, .int .i64 (n : Int)), (20, .int .i64 (k : Int))]) (O := fun w => True) hs (by kernel_rfl) trivial ?_
                      clear hs a; intro a hs
                      refine atR_end (by kernel_rfl) ?_
                      refine wayN_node rfl ?_
                      refine at_region (id := 12) (by kernel_rfl) ?_
                      refine atR_seg (m := 2) (H := [(0, some (.int .i64 ((k : Int) + 1)), [])]) (ts := [0, 1, 2, 9, 18, 19, 20]) (L' := [(0, .slice (some ⟨p1, o1, none⟩) n c1), (1, .int .i64 radius), (2, .int .i64 depth), (9, .int .i64 (k : Int)), (18, .slice (some ⟨p1, o1, none⟩) n c1), (19, .int .i64 (n : Int)), (20, .int .i64 ((k : Int) + 1))]) (O := fun w => (W .i64 ((k : Int) + 1)) ∧ True) hs (by kernel_rfl) ⟨w64 (by omega) (by omega), trivial⟩ ?_
                      clear hs a; intro a hs
                      refine atR_end (by kernel_rfl) ?_
                      refine wayN_back ?_
                      dsimp only [lpOf]
                      exact ⟨k + 1, (k : Int), ⟨hs.sub ⟨⟨_, rfl, (by first | rfl | (push_cast; rfl) | (congr 1; omega))⟩, ⟨_, rfl, rfl⟩, ⟨_, rfl, rfl⟩, ⟨_, rfl, rfl⟩, ⟨_, rfl, (by first | rfl | (push_cast; rfl) | (congr 1; omega))⟩, ⟨_, rfl, rfl⟩, ⟨_, rfl, (by first | rfl | (push_cast; rfl) | (congr 1; omega))⟩, trivial⟩, hB, by omega, by rw [bst_succ ht, ← hbb, if_pos ⟨by dsimp only; omega, by assumption, by first | exact Or.inl hrj | (right; rw [hrj]; dsimp only; omega)⟩], hno.succ ht (by dsimp only; omega)⟩, by omega⟩
                    · have cd10 := hb; have cd10b := hb; clear hb
                      replace cd10 := of_decide_eq_false cd10
                      refine at_skip (by kernel_rfl) ?_
                      refine wayN_node rfl ?_
                      refine at_region (id := 12) (by kernel_rfl) ?_
                      refine atR_seg (m := 2) (H := [(0, some (.int .i64 ((k : Int) + 1)), [])]) (ts := [0, 1, 2, 9, 18, 19, 20]) (L' := [(0, .slice (some ⟨p1, o1, none⟩) n c1), (1, .int .i64 radius), (2, .int .i64 depth), (9, .int .i64 (j : Int)), (18, .slice (some ⟨p1, o1, none⟩) n c1), (19, .int .i64 (n : Int)), (20, .int .i64 ((k : Int) + 1))]) (O := fun w => (W .i64 ((k : Int) + 1)) ∧ True) hs (by kernel_rfl) ⟨w64 (by omega) (by omega), trivial⟩ ?_
                      clear hs a; intro a hs
                      refine atR_end (by kernel_rfl) ?_
                      refine wayN_back ?_
                      dsimp only [lpOf]
                      exact ⟨k + 1, (j : Int), ⟨hs.sub ⟨⟨_, rfl, (by first | rfl | (push_cast; rfl) | (congr 1; omega))⟩, ⟨_, rfl, rfl⟩, ⟨_, rfl, rfl⟩, ⟨_, rfl, rfl⟩, ⟨_, rfl, (by first | rfl | (push_cast; rfl) | (congr 1; omega))⟩, ⟨_, rfl, rfl⟩, ⟨_, rfl, (by first | rfl | (push_cast; rfl) | (congr 1; omega))⟩, trivial⟩, hB, by omega, by rw [bst_succ ht, ← hbb, if_neg (by rintro ⟨h1, h2, h3⟩; have hmp := mills_pos h2; dsimp only at h1 h2 h3 hmp; (try rw [hrj] at h3); first | omega | (simp_all; done) | (simp_all; omega))], hno.succ ht (by dsimp only; omega)⟩, by omega⟩
                · replace hs := hs.know (t := 42) rfl hb
                  have cd8 := hb; have cd8b := hb; clear hb
                  replace hs := hs.pick (ts := [0, 1, 2, 9, 10, 11, 18, 19, 20, 42]) (L' := [(0, .slice (some ⟨p1, o1, none⟩) n c1), (1, .int .i64 radius), (2, .int .i64 depth), (9, .int .i64 (j : Int)), (10, .int .i64 (k : Int)), (11, .pointer (some ⟨b1, 0, none⟩)), (18, .slice (some ⟨p1, o1, none⟩) n c1), (19, .int .i64 (n : Int)), (20, .int .i64 (k : Int)), (42, .bool false)]) (by kernel_rfl)
                  refine atD_seg (m := 0) [4, 5, 6, 7, 8, 9, 10, 11, 12, 13, 14, 15, 16] [3, 2, 1, 0] [] [0, 1, 2, 9, 10, 18, 19, 20, 55] [(0, .slice (some ⟨p1, o1, none⟩) n c1), (1, .int .i64 radius), (2, .int .i64 depth), (9, .int .i64 (j : Int)), (10, .int .i64 (k : Int)), (18, .slice (some ⟨p1, o1, none⟩) n c1), (19, .int .i64 (n : Int)), (20, .int .i64 (k : Int)), (55, .bool false)] (fun w => True) hs ⟨B1, e1, e2, trivial⟩ (by kernel_rfl) (by kernel_rfl) (fun w ⟨B1, e1, e2, _⟩ => trivial) ?_
                  clear hs a; intro a hs
                  refine atD_done (by kernel_rfl) ?_
                  refine wayN_node rfl ?_
                  refine at_cond (t := 55) (j1 := 44) (j2 := 45) (b := false) (by kernel_rfl) hs rfl (fun hb => absurd (hb.symm.trans (show (false) = false from rfl)) (by decide)) (fun _ => ?_)
                  refine at_skip (by kernel_rfl) ?_
                  refine wayN_node rfl ?_
                  refine at_region (id := 12) (by kernel_rfl) ?_
                  refine atR_seg (m := 2) (H := [(0, some (.int .i64 ((k : Int) + 1)), [])]) (ts := [0, 1, 2, 9, 18, 19, 20]) (L' := [(0, .slice (some ⟨p1, o1, none⟩) n c1), (1, .int .i64 radius), (2, .int .i64 depth), (9, .int .i64 (j : Int)), (18, .slice (some ⟨p1, o1, none⟩) n c1), (19, .int .i64 (n : Int)), (20, .int .i64 ((k : Int) + 1))]) (O := fun w => (W .i64 ((k : Int) + 1)) ∧ True) hs (by kernel_rfl) ⟨w64 (by omega) (by omega), trivial⟩ ?_
                  clear hs a; intro a hs
                  refine atR_end (by kernel_rfl) ?_
                  refine wayN_back ?_
                  dsimp only [lpOf]
                  exact ⟨k + 1, (j : Int), ⟨hs.sub ⟨⟨_, rfl, (by first | rfl | (push_cast; rfl) | (congr 1; omega))⟩, ⟨_, rfl, rfl⟩, ⟨_, rfl, rfl⟩, ⟨_, rfl, rfl⟩, ⟨_, rfl, (by first | rfl | (push_cast; rfl) | (congr 1; omega))⟩, ⟨_, rfl, rfl⟩, ⟨_, rfl, (by first | rfl | (push_cast; rfl) | (congr 1; omega))⟩, trivial⟩, hB, by omega, by rw [bst_succ ht, ← hbb, if_neg (by rintro ⟨h1, h2, h3⟩; have hmp := mills_pos h2; dsimp only at h1 h2 h3 hmp; (try rw [hrj] at h3); first | omega | (simp_all; done) | (simp_all; omega))], hno.succ ht (by dsimp only; omega)⟩, by omega⟩
          · replace hs := hs.know (t := 32) rfl hb
            have cd5 := hb; have cd5b := hb; clear hb
            replace cd5 := ne_of_beq_false cd5
            replace hs := hs.pick (ts := [0, 1, 2, 9, 10, 11, 18, 19, 20, 32]) (L' := [(0, .slice (some ⟨p1, o1, none⟩) n c1), (1, .int .i64 radius), (2, .int .i64 depth), (9, .int .i64 b), (10, .int .i64 (k : Int)), (11, .pointer (some ⟨b1, 0, none⟩)), (18, .slice (some ⟨p1, o1, none⟩) n c1), (19, .int .i64 (n : Int)), (20, .int .i64 (k : Int)), (32, .bool false)]) (by kernel_rfl)
            refine atR_seg (m := 5) (H := []) (ts := [0, 1, 2, 9, 10, 11, 18, 19, 20, 37]) (L' := [(0, .slice (some ⟨p1, o1, none⟩) n c1), (1, .int .i64 radius), (2, .int .i64 depth), (9, .int .i64 b), (10, .int .i64 (k : Int)), (11, .pointer (some ⟨b1, 0, none⟩)), (18, .slice (some ⟨p1, o1, none⟩) n c1), (19, .int .i64 (n : Int)), (20, .int .i64 (k : Int)), (37, .bool false)]) (O := fun w => True) hs (by kernel_rfl) trivial ?_
            clear hs a; intro a hs
            refine atR_end (by kernel_rfl) ?_
            refine wayN_node rfl ?_
            refine at_cond (t := 37) (j1 := 37) (j2 := 40) (b := false) (by kernel_rfl) hs rfl (fun hb => absurd (hb.symm.trans (show (false) = false from rfl)) (by decide)) (fun _ => ?_)
            refine at_skip (by kernel_rfl) ?_
            refine wayN_node rfl ?_
            refine at_seq (j := 43) (by kernel_rfl) ?_
            have hbf := bst_form ts radius depth k
            rw [← hbb] at hbf
            rcases hbf with hneg | ⟨j, t2, hbj, hjk, ht2, _, _⟩
            · have hb0 : decide (b < 0) = true := decide_eq_true (by omega)
              have hrj : b < 0 := by omega
              refine at_draw (fun W => Blk W b1 33 #[.int .i64 num, .int .i64 kind, .int .i64 rad, .int .i64 flu, .int .i64 hol, .int .i64 stp, .int .i64 fd, .int .i64 plu] ∧ Ce w.heap.size W p1 (o1 + k * 8) [.int .i64 num, .int .i64 kind, .int .i64 rad, .int .i64 flu, .int .i64 hol, .int .i64 stp, .int .i64 fd, .int .i64 plu] ∧ True) (id := 10) (by kernel_rfl) (by kernel_rfl) 17 (by kernel_rfl) ?_
              intro w8 hb
              replace B1 := B1.below hb B1.lt
              replace e1 := e1.below hb
              replace hB := later hB hb
              clear hb
              refine atD_seg (m := 15) [0, 1] [] [(0, none, [.int .i64 num, .int .i64 kind, .int .i64 rad, .int .i64 flu, .int .i64 hol, .int .i64 stp, .int .i64 fd, .int .i64 plu])] [0, 1, 2, 9, 10, 11, 18, 19, 20, 39, 40] [(0, .slice (some ⟨p1, o1, none⟩) n c1), (1, .int .i64 radius), (2, .int .i64 depth), (9, .int .i64 b), (10, .int .i64 (k : Int)), (11, .pointer (some ⟨b1, 0, none⟩)), (18, .slice (some ⟨p1, o1, none⟩) n c1), (19, .int .i64 (n : Int)), (20, .int .i64 (k : Int)), (39, .agg #[.int .i64 num, .int .i64 kind, .int .i64 rad, .int .i64 flu, .int .i64 hol, .int .i64 stp, .int .i64 fd, .int .i64 plu]), (40, .int .i64 radius)] (fun w => (w.cell? ⟨b1, 0, none⟩ = some (.int .i64 num)) ∧ (w.cell? ⟨b1, 1, none⟩ = some (.int .i64 kind)) ∧ (w.cell? ⟨b1, 2, none⟩ = some (.int .i64 rad)) ∧ (w.cell? ⟨b1, 3, none⟩ = some (.int .i64 flu)) ∧ (w.cell? ⟨b1, 4, none⟩ = some (.int .i64 hol)) ∧ (w.cell? ⟨b1, 5, none⟩ = some (.int .i64 stp)) ∧ (w.cell? ⟨b1, 6, none⟩ = some (.int .i64 fd)) ∧ (w.cell? ⟨b1, 7, none⟩ = some (.int .i64 plu)) ∧ True) hs ⟨B1, e1, trivial⟩ (by kernel_rfl) (by kernel_rfl) (fun w ⟨B1, e1, _⟩ => ⟨B1.cell 0 rfl, B1.cell 1 rfl, B1.cell 2 rfl, B1.cell 3 rfl, B1.cell 4 rfl, B1.cell 5 rfl, B1.cell 6 rfl, B1.cell 7 rfl, trivial⟩) ?_
              clear hs a; intro a hs
              refine atD_op (m := 14) (j := 2) (D := [1, 0]) hs (by kernel_rfl) (by kernel_rfl) (call1 (f := 26) (args := #[.agg #[.int .i64 num, .int .i64 kind, .int .i64 rad, .int .i64 flu, .int .i64 hol, .int .i64 stp, .int .i64 fd, .int .i64 plu], .int .i64 radius]) [0, 1, 2, 9, 10, 11, 18, 19, 20, 41] (fun rv_ => [(0, .slice (some ⟨p1, o1, none⟩) n c1), (1, .int .i64 radius), (2, .int .i64 depth), (9, .int .i64 b), (10, .int .i64 (k : Int)), (11, .pointer (some ⟨b1, 0, none⟩)), (18, .slice (some ⟨p1, o1, none⟩) n c1), (19, .int .i64 (n : Int)), (20, .int .i64 (k : Int)), (41, rv_)]) hs (by kernel_rfl) (fun _ => by kernel_rfl) ?_)
              refine (mills_any (⟨num, kind, rad, flu, hol, stp, fd, plu⟩ : Tl) _ _ (by dsimp only; omega) (by omega)).mono ?_
              rintro e w9 ⟨rfl, hb⟩
              refine ⟨_, rfl, ?_⟩
              clear hs a; intro a hs
              replace B1 := B1.below hb B1.lt
              replace e1 := e1.below hb
              replace hB := later hB hb
              clear hb
              refine ⟨⟨B1, e1, trivial⟩, ?_⟩
              refine atD_seg (m := 13) [3] [2, 1, 0] [] [0, 1, 2, 9, 10, 11, 18, 19, 20, 42] [(0, .slice (some ⟨p1, o1, none⟩) n c1), (1, .int .i64 radius), (2, .int .i64 depth), (9, .int .i64 b), (10, .int .i64 (k : Int)), (11, .pointer (some ⟨b1, 0, none⟩)), (18, .slice (some ⟨p1, o1, none⟩) n c1), (19, .int .i64 (n : Int)), (20, .int .i64 (k : Int)), (42, .bool ((⟨num, kind, rad, flu, hol, stp, fd, plu⟩ : Tl).mills radius))] (fun w => True) hs ⟨B1, e1, trivial⟩ (by kernel_rfl) (by kernel_rfl) (fun w ⟨B1, e1, _⟩ => trivial) ?_
              clear hs a; intro a hs
              rcases Bool.eq_false_or_eq_true ((⟨num, kind, rad, flu, hol, stp, fd, plu⟩ : Tl).mills radius) with hb | hb
              · replace hs := hs.know (t := 42) rfl hb
                have cd11 := hb; have cd11b := hb; clear hb
                replace hs := hs.pick (ts := [0, 1, 2, 9, 10, 11, 18, 19, 20, 42]) (L' := [(0, .slice (some ⟨p1, o1, none⟩) n c1), (1, .int .i64 radius), (2, .int .i64 depth), (9, .int .i64 b), (10, .int .i64 (k : Int)), (11, .pointer (some ⟨b1, 0, none⟩)), (18, .slice (some ⟨p1, o1, none⟩) n c1), (19, .int .i64 (n : Int)), (20, .int .i64 (k : Int)), (42, .bool true)]) (by kernel_rfl)
                refine atD_seg (m := 10) [4, 5, 6] [3, 2, 1, 0] [] [0, 1, 2, 9, 10, 11, 18, 19, 20, 42, 45] [(0, .slice (some ⟨p1, o1, none⟩) n c1), (1, .int .i64 radius), (2, .int .i64 depth), (9, .int .i64 b), (10, .int .i64 (k : Int)), (11, .pointer (some ⟨b1, 0, none⟩)), (18, .slice (some ⟨p1, o1, none⟩) n c1), (19, .int .i64 (n : Int)), (20, .int .i64 (k : Int)), (42, .bool true), (45, .bool (decide (b < 0)))] (fun w => True) hs ⟨B1, e1, trivial⟩ (by kernel_rfl) (by kernel_rfl) (fun w ⟨B1, e1, _⟩ => trivial) ?_
                clear hs a; intro a hs
                replace hs := hs.know (t := 45) rfl (show (decide (b < 0)) = true from hb0)
                replace hs := hs.pick (ts := [0, 1, 2, 9, 10, 11, 18, 19, 20, 42, 45]) (L' := [(0, .slice (some ⟨p1, o1, none⟩) n c1), (1, .int .i64 radius), (2, .int .i64 depth), (9, .int .i64 b), (10, .int .i64 (k : Int)), (11, .pointer (some ⟨b1, 0, none⟩)), (18, .slice (some ⟨p1, o1, none⟩) n c1), (19, .int .i64 (n : Int)), (20, .int .i64 (k : Int)), (42, .bool true), (45, .bool true)]) (by kernel_rfl)
                refine atD_seg (m := 0) [7, 8, 9, 10, 11, 12, 13, 14, 15, 16] [6, 5, 4, 3, 2, 1, 0] [] [0, 1, 2, 9, 10, 18, 19, 20, 55] [(0, .slice (some ⟨p1, o1, none⟩) n c1), (1, .int .i64 radius), (2, .int .i64 depth), (9, .int .i64 b), (10, .int .i64 (k : Int)), (18, .slice (some ⟨p1, o1, none⟩) n c1), (19, .int .i64 (n : Int)), (20, .int .i64 (k : Int)), (55, .bool true)] (fun w => True) hs ⟨B1, e1, trivial⟩ (by kernel_rfl) (by kernel_rfl) (fun w ⟨B1, e1, _⟩ => trivial) ?_
                clear hs a; intro a hs
                refine atD_done (by kernel_rfl) ?_
                refine wayN_node rfl ?_
                refine at_cond (t := 55) (j1 := 44) (j2 := 45) (b := true) (by kernel_rfl) hs rfl (fun _ => ?_) (fun hb => absurd (hb.symm.trans (show (true) = true from rfl)) (by decide))
                refine at_region (id := 11) (by kernel_rfl) ?_
                refine atR_seg (m := 2) (H := []) (ts := [0, 1, 2, 9, 18, 19, 20]) (L' := [(0, .slice (some ⟨p1, o1, none⟩) n c1), (1, .int .i64 radius), (2, .int .i64 depth), (9, .int .i64 (k : Int)), (18, .slice (some ⟨p1, o1, none⟩) n c1), (19, .int .i64 (n : Int)), (20, .int .i64 (k : Int))]) (O := fun w => True) hs (by kernel_rfl) trivial ?_
                clear hs a; intro a hs
                refine atR_end (by kernel_rfl) ?_
                refine wayN_node rfl ?_
                refine at_region (id := 12) (by kernel_rfl) ?_
                refine atR_seg (m := 2) (H := [(0, some (.int .i64 ((k : Int) + 1)), [])]) (ts := [0, 1, 2, 9, 18, 19, 20]) (L' := [(0, .slice (some ⟨p1, o1, none⟩) n c1), (1, .int .i64 radius), (2, .int .i64 depth), (9, .int .i64 (k : Int)), (18, .slice (some ⟨p1, o1, none⟩) n c1), (19, .int .i64 (n : Int)), (20, .int .i64 ((k : Int) + 1))]) (O := fun w => (W .i64 ((k : Int) + 1)) ∧ True) hs (by kernel_rfl) ⟨w64 (by omega) (by omega), trivial⟩ ?_
                clear hs a; intro a hs
                refine atR_end (by kernel_rfl) ?_
                refine wayN_back ?_
                dsimp only [lpOf]
                exact ⟨k + 1, (k : Int), ⟨hs.sub ⟨⟨_, rfl, (by first | rfl | (push_cast; rfl) | (congr 1; omega))⟩, ⟨_, rfl, rfl⟩, ⟨_, rfl, rfl⟩, ⟨_, rfl, rfl⟩, ⟨_, rfl, (by first | rfl | (push_cast; rfl) | (congr 1; omega))⟩, ⟨_, rfl, rfl⟩, ⟨_, rfl, (by first | rfl | (push_cast; rfl) | (congr 1; omega))⟩, trivial⟩, hB, by omega, by rw [bst_succ ht, ← hbb, if_pos ⟨by dsimp only; omega, by assumption, by first | exact Or.inl hrj | (right; rw [hrj]; dsimp only; omega)⟩], hno.succ ht (by dsimp only; omega)⟩, by omega⟩
              · replace hs := hs.know (t := 42) rfl hb
                have cd11 := hb; have cd11b := hb; clear hb
                replace hs := hs.pick (ts := [0, 1, 2, 9, 10, 11, 18, 19, 20, 42]) (L' := [(0, .slice (some ⟨p1, o1, none⟩) n c1), (1, .int .i64 radius), (2, .int .i64 depth), (9, .int .i64 b), (10, .int .i64 (k : Int)), (11, .pointer (some ⟨b1, 0, none⟩)), (18, .slice (some ⟨p1, o1, none⟩) n c1), (19, .int .i64 (n : Int)), (20, .int .i64 (k : Int)), (42, .bool false)]) (by kernel_rfl)
                refine atD_seg (m := 0) [4, 5, 6, 7, 8, 9, 10, 11, 12, 13, 14, 15, 16] [3, 2, 1, 0] [] [0, 1, 2, 9, 10, 18, 19, 20, 55] [(0, .slice (some ⟨p1, o1, none⟩) n c1), (1, .int .i64 radius), (2, .int .i64 depth), (9, .int .i64 b), (10, .int .i64 (k : Int)), (18, .slice (some ⟨p1, o1, none⟩) n c1), (19, .int .i64 (n : Int)), (20, .int .i64 (k : Int)), (55, .bool false)] (fun w => True) hs ⟨B1, e1, trivial⟩ (by kernel_rfl) (by kernel_rfl) (fun w ⟨B1, e1, _⟩ => trivial) ?_
                clear hs a; intro a hs
                refine atD_done (by kernel_rfl) ?_
                refine wayN_node rfl ?_
                refine at_cond (t := 55) (j1 := 44) (j2 := 45) (b := false) (by kernel_rfl) hs rfl (fun hb => absurd (hb.symm.trans (show (false) = false from rfl)) (by decide)) (fun _ => ?_)
                refine at_skip (by kernel_rfl) ?_
                refine wayN_node rfl ?_
                refine at_region (id := 12) (by kernel_rfl) ?_
                refine atR_seg (m := 2) (H := [(0, some (.int .i64 ((k : Int) + 1)), [])]) (ts := [0, 1, 2, 9, 18, 19, 20]) (L' := [(0, .slice (some ⟨p1, o1, none⟩) n c1), (1, .int .i64 radius), (2, .int .i64 depth), (9, .int .i64 b), (18, .slice (some ⟨p1, o1, none⟩) n c1), (19, .int .i64 (n : Int)), (20, .int .i64 ((k : Int) + 1))]) (O := fun w => (W .i64 ((k : Int) + 1)) ∧ True) hs (by kernel_rfl) ⟨w64 (by omega) (by omega), trivial⟩ ?_
                clear hs a; intro a hs
                refine atR_end (by kernel_rfl) ?_
                refine wayN_back ?_
                dsimp only [lpOf]
                exact ⟨k + 1, b, ⟨hs.sub ⟨⟨_, rfl, (by first | rfl | (push_cast; rfl) | (congr 1; omega))⟩, ⟨_, rfl, rfl⟩, ⟨_, rfl, rfl⟩, ⟨_, rfl, rfl⟩, ⟨_, rfl, (by first | rfl | (push_cast; rfl) | (congr 1; omega))⟩, ⟨_, rfl, rfl⟩, ⟨_, rfl, (by first | rfl | (push_cast; rfl) | (congr 1; omega))⟩, trivial⟩, hB, by omega, by rw [bst_succ ht, ← hbb, if_neg (by rintro ⟨h1, h2, h3⟩; have hmp := mills_pos h2; dsimp only at h1 h2 h3 hmp; (try rw [hrj] at h3); first | omega | (simp_all; done) | (simp_all; omega))], hno.succ ht (by dsimp only; omega)⟩, by omega⟩
            · obtain ⟨p2, o2, t3, hA2, ht3, e2⟩ := (R1.below hB).elem (f := Tl.cs) (fun _ => rfl) hl (show j < n by omega)
              obtain rfl : t3 = t2 := by rw [ht2] at ht3; injection ht3 with e; exact e.symm
              have hrj := radAt_j ht2
              obtain ⟨num2, kind2, rad2, flu2, hol2, stp2, fd2, plu2⟩ := t3
              dsimp only at hrj
              injection hA2 with hA2; injection hA2 with hA3 hA4; subst hA3 hA4
              subst hbj
              refine at_draw (fun W => Blk W b1 33 #[.int .i64 num, .int .i64 kind, .int .i64 rad, .int .i64 flu, .int .i64 hol, .int .i64 stp, .int .i64 fd, .int .i64 plu] ∧ Ce w.heap.size W p1 (o1 + k * 8) [.int .i64 num, .int .i64 kind, .int .i64 rad, .int .i64 flu, .int .i64 hol, .int .i64 stp, .int .i64 fd, .int .i64 plu] ∧ Ce w.heap.size W p1 (o1 + j * 8) [.int .i64 num2, .int .i64 kind2, .int .i64 rad2, .int .i64 flu2, .int .i64 hol2, .int .i64 stp2, .int .i64 fd2, .int .i64 plu2] ∧ True) (id := 10) (by kernel_rfl) (by kernel_rfl) 17 (by kernel_rfl) ?_
              intro w10 hb
              replace B1 := B1.below hb B1.lt
              replace e1 := e1.below hb
              replace e2 := e2.below hb
              replace hB := later hB hb
              clear hb
              refine atD_seg (m := 15) [0, 1] [] [(0, none, [.int .i64 num, .int .i64 kind, .int .i64 rad, .int .i64 flu, .int .i64 hol, .int .i64 stp, .int .i64 fd, .int .i64 plu])] [0, 1, 2, 9, 10, 11, 18, 19, 20, 39, 40] [(0, .slice (some ⟨p1, o1, none⟩) n c1), (1, .int .i64 radius), (2, .int .i64 depth), (9, .int .i64 (j : Int)), (10, .int .i64 (k : Int)), (11, .pointer (some ⟨b1, 0, none⟩)), (18, .slice (some ⟨p1, o1, none⟩) n c1), (19, .int .i64 (n : Int)), (20, .int .i64 (k : Int)), (39, .agg #[.int .i64 num, .int .i64 kind, .int .i64 rad, .int .i64 flu, .int .i64 hol, .int .i64 stp, .int .i64 fd, .int .i64 plu]), (40, .int .i64 radius)] (fun w => (w.cell? ⟨b1, 0, none⟩ = some (.int .i64 num)) ∧ (w.cell? ⟨b1, 1, none⟩ = some (.int .i64 kind)) ∧ (w.cell? ⟨b1, 2, none⟩ = some (.int .i64 rad)) ∧ (w.cell? ⟨b1, 3, none⟩ = some (.int .i64 flu)) ∧ (w.cell? ⟨b1, 4, none⟩ = some (.int .i64 hol)) ∧ (w.cell? ⟨b1, 5, none⟩ = some (.int .i64 stp)) ∧ (w.cell? ⟨b1, 6, none⟩ = some (.int .i64 fd)) ∧ (w.cell? ⟨b1, 7, none⟩ = some (.int .i64 plu)) ∧ True) hs ⟨B1, e1, e2, trivial⟩ (by kernel_rfl) (by kernel_rfl) (fun w ⟨B1, e1, e2, _⟩ => ⟨B1.cell 0 rfl, B1.cell 1 rfl, B1.cell 2 rfl, B1.cell 3 rfl, B1.cell 4 rfl, B1.cell 5 rfl, B1.cell 6 rfl, B1.cell 7 rfl, trivial⟩) ?_
              clear hs a; intro a hs
              refine atD_op (m := 14) (j := 2) (D := [1, 0]) hs (by kernel_rfl) (by kernel_rfl) (call1 (f := 26) (args := #[.agg #[.int .i64 num, .int .i64 kind, .int .i64 rad, .int .i64 flu, .int .i64 hol, .int .i64 stp, .int .i64 fd, .int .i64 plu], .int .i64 radius]) [0, 1, 2, 9, 10, 11, 18, 19, 20, 41] (fun rv_ => [(0, .slice (some ⟨p1, o1, none⟩) n c1), (1, .int .i64 radius), (2, .int .i64 depth), (9, .int .i64 (j : Int)), (10, .int .i64 (k : Int)), (11, .pointer (some ⟨b1, 0, none⟩)), (18, .slice (some ⟨p1, o1, none⟩) n c1), (19, .int .i64 (n : Int)), (20, .int .i64 (k : Int)), (41, rv_)]) hs (by kernel_rfl) (fun _ => by kernel_rfl) ?_)
              refine (mills_any (⟨num, kind, rad, flu, hol, stp, fd, plu⟩ : Tl) _ _ (by dsimp only; omega) (by omega)).mono ?_
              rintro e w11 ⟨rfl, hb⟩
              refine ⟨_, rfl, ?_⟩
              clear hs a; intro a hs
              replace B1 := B1.below hb B1.lt
              replace e1 := e1.below hb
              replace e2 := e2.below hb
              replace hB := later hB hb
              clear hb
              refine ⟨⟨B1, e1, e2, trivial⟩, ?_⟩
              refine atD_seg (m := 13) [3] [2, 1, 0] [] [0, 1, 2, 9, 10, 11, 18, 19, 20, 42] [(0, .slice (some ⟨p1, o1, none⟩) n c1), (1, .int .i64 radius), (2, .int .i64 depth), (9, .int .i64 (j : Int)), (10, .int .i64 (k : Int)), (11, .pointer (some ⟨b1, 0, none⟩)), (18, .slice (some ⟨p1, o1, none⟩) n c1), (19, .int .i64 (n : Int)), (20, .int .i64 (k : Int)), (42, .bool ((⟨num, kind, rad, flu, hol, stp, fd, plu⟩ : Tl).mills radius))] (fun w => True) hs ⟨B1, e1, e2, trivial⟩ (by kernel_rfl) (by kernel_rfl) (fun w ⟨B1, e1, e2, _⟩ => trivial) ?_
              clear hs a; intro a hs
              rcases Bool.eq_false_or_eq_true ((⟨num, kind, rad, flu, hol, stp, fd, plu⟩ : Tl).mills radius) with hb | hb
              · replace hs := hs.know (t := 42) rfl hb
                have cd12 := hb; have cd12b := hb; clear hb
                replace hs := hs.pick (ts := [0, 1, 2, 9, 10, 11, 18, 19, 20, 42]) (L' := [(0, .slice (some ⟨p1, o1, none⟩) n c1), (1, .int .i64 radius), (2, .int .i64 depth), (9, .int .i64 (j : Int)), (10, .int .i64 (k : Int)), (11, .pointer (some ⟨b1, 0, none⟩)), (18, .slice (some ⟨p1, o1, none⟩) n c1), (19, .int .i64 (n : Int)), (20, .int .i64 (k : Int)), (42, .bool true)]) (by kernel_rfl)
                refine atD_seg (m := 10) [4, 5, 6] [3, 2, 1, 0] [] [0, 1, 2, 9, 10, 11, 18, 19, 20, 42, 45] [(0, .slice (some ⟨p1, o1, none⟩) n c1), (1, .int .i64 radius), (2, .int .i64 depth), (9, .int .i64 (j : Int)), (10, .int .i64 (k : Int)), (11, .pointer (some ⟨b1, 0, none⟩)), (18, .slice (some ⟨p1, o1, none⟩) n c1), (19, .int .i64 (n : Int)), (20, .int .i64 (k : Int)), (42, .bool true), (45, .bool (decide ((j : Int) < 0)))] (fun w => True) hs ⟨B1, e1, e2, trivial⟩ (by kernel_rfl) (by kernel_rfl) (fun w ⟨B1, e1, e2, _⟩ => trivial) ?_
                clear hs a; intro a hs
                rcases Bool.eq_false_or_eq_true (decide ((j : Int) < 0)) with hb | hb
                · replace hs := hs.know (t := 45) rfl hb
                  have cd13 := hb; have cd13b := hb; clear hb
                  replace cd13 := of_decide_eq_true cd13
                  replace hs := hs.pick (ts := [0, 1, 2, 9, 10, 11, 18, 19, 20, 42, 45]) (L' := [(0, .slice (some ⟨p1, o1, none⟩) n c1), (1, .int .i64 radius), (2, .int .i64 depth), (9, .int .i64 (j : Int)), (10, .int .i64 (k : Int)), (11, .pointer (some ⟨b1, 0, none⟩)), (18, .slice (some ⟨p1, o1, none⟩) n c1), (19, .int .i64 (n : Int)), (20, .int .i64 (k : Int)), (42, .bool true), (45, .bool true)]) (by kernel_rfl)
                  refine atD_seg (m := 0) [7, 8, 9, 10, 11, 12, 13, 14, 15, 16] [6, 5, 4, 3, 2, 1, 0] [] [0, 1, 2, 9, 10, 18, 19, 20, 55] [(0, .slice (some ⟨p1, o1, none⟩) n c1), (1, .int .i64 radius), (2, .int .i64 depth), (9, .int .i64 (j : Int)), (10, .int .i64 (k : Int)), (18, .slice (some ⟨p1, o1, none⟩) n c1), (19, .int .i64 (n : Int)), (20, .int .i64 (k : Int)), (55, .bool true)] (fun w => True) hs ⟨B1, e1, e2, trivial⟩ (by kernel_rfl) (by kernel_rfl) (fun w ⟨B1, e1, e2, _⟩ => trivial) ?_
                  clear hs a; intro a hs
                  refine atD_done (by kernel_rfl) ?_
                  refine wayN_node rfl ?_
                  refine at_cond (t := 55) (j1 := 44) (j2 := 45) (b := true) (by kernel_rfl) hs rfl (fun _ => ?_) (fun hb => absurd (hb.symm.trans (show (true) = true from rfl)) (by decide))
                  refine at_region (id := 11) (by kernel_rfl) ?_
                  refine atR_seg (m := 2) (H := []) (ts := [0, 1, 2, 9, 18, 19, 20]) (L' := [(0, .slice (some ⟨p1, o1, none⟩) n c1), (1, .int .i64 radius), (2, .int .i64 depth), (9, .int .i64 (k : Int)), (18, .slice (some ⟨p1, o1, none⟩) n c1), (19, .int .i64 (n : Int)), (20, .int .i64 (k : Int))]) (O := fun w => True) hs (by kernel_rfl) trivial ?_
                  clear hs a; intro a hs
                  refine atR_end (by kernel_rfl) ?_
                  refine wayN_node rfl ?_
                  refine at_region (id := 12) (by kernel_rfl) ?_
                  refine atR_seg (m := 2) (H := [(0, some (.int .i64 ((k : Int) + 1)), [])]) (ts := [0, 1, 2, 9, 18, 19, 20]) (L' := [(0, .slice (some ⟨p1, o1, none⟩) n c1), (1, .int .i64 radius), (2, .int .i64 depth), (9, .int .i64 (k : Int)), (18, .slice (some ⟨p1, o1, none⟩) n c1), (19, .int .i64 (n : Int)), (20, .int .i64 ((k : Int) + 1))]) (O := fun w => (W .i64 ((k : Int) + 1)) ∧ True) hs (by kernel_rfl) ⟨w64 (by omega) (by omega), trivial⟩ ?_
                  clear hs a; intro a hs
                  refine atR_end (by kernel_rfl) ?_
                  refine wayN_back ?_
                  dsimp only [lpOf]
                  exact ⟨k + 1, (k : Int), ⟨hs.sub ⟨⟨_, rfl, (by first | rfl | (push_cast; rfl) | (congr 1; omega))⟩, ⟨_, rfl, rfl⟩, ⟨_, rfl, rfl⟩, ⟨_, rfl, rfl⟩, ⟨_, rfl, (by first | rfl | (push_cast; rfl) | (congr 1; omega))⟩, ⟨_, rfl, rfl⟩, ⟨_, rfl, (by first | rfl | (push_cast; rfl) | (congr 1; omega))⟩, trivial⟩, hB, by omega, by rw [bst_succ ht, ← hbb, if_pos ⟨by dsimp only; omega, by assumption, by first | exact Or.inl hrj | (right; rw [hrj]; dsimp only; omega)⟩], hno.succ ht (by dsimp only; omega)⟩, by omega⟩
                · replace hs := hs.know (t := 45) rfl hb
                  have cd13 := hb; have cd13b := hb; clear hb
                  replace cd13 := of_decide_eq_false cd13
                  replace hs := hs.pick (ts := [0, 1, 2, 9, 10, 11, 18, 19, 20, 42, 45]) (L' := [(0, .slice (some ⟨p1, o1, none⟩) n c1), (1, .int .i64 radius), (2, .int .i64 depth), (9, .int .i64 (j : Int)), (10, .int .i64 (k : Int)), (11, .pointer (some ⟨b1, 0, none⟩)), (18, .slice (some ⟨p1, o1, none⟩) n c1), (19, .int .i64 (n : Int)), (20, .int .i64 (k : Int)), (42, .bool true), (45, .bool false)]) (by kernel_rfl)
                  refine atD_seg (m := 0) [7, 8, 9, 10, 11, 12, 13, 14, 15, 16] [6, 5, 4, 3, 2, 1, 0] [(8, none, [.int .i64 rad]), (11, some (.pointer (some ⟨p1, o1 + j * 8, none⟩)), []), (13, none, [.int .i64 rad2])] [0, 1, 2, 9, 10, 18, 19, 20, 55] [(0, .slice (some ⟨p1, o1, none⟩) n c1), (1, .int .i64 radius), (2, .int .i64 depth), (9, .int .i64 (j : Int)), (10, .int .i64 (k : Int)), (18, .slice (some ⟨p1, o1, none⟩) n c1), (19, .int .i64 (n : Int)), (20, .int .i64 (k : Int)), (55, .bool (decide (rad > rad2)))] (fun w => (w.cell? ⟨b1, 2, none⟩ = some (.int .i64 rad)) ∧ (.pointer (some ⟨p1, o1 + ((j : Int)).toNat * 8, none⟩) = Value.pointer (some ⟨p1, o1 + j * 8, none⟩)) ∧ ((0 : Int) ≤ (j : Int) ∧ (j : Int) < ((n : Nat) : Int)) ∧ (w.cell? ⟨p1, o1 + j * 8 + 2, none⟩ = some (.int .i64 rad2)) ∧ True) hs ⟨B1, e1, e2, trivial⟩ (by kernel_rfl) (by kernel_rfl) (fun w ⟨B1, e1, e2, _⟩ => ⟨B1.cell 2 rfl, by simp [Int.toNat_natCast], ⟨by omega, by omega⟩, e2.at_ 2 rfl, trivial⟩) ?_
                  clear hs a; intro a hs
                  refine atD_done (by kernel_rfl) ?_
                  refine wayN_node rfl ?_
                  refine at_cond (t := 55) (j1 := 44) (j2 := 45) (b := decide (rad > rad2)) (by kernel_rfl) hs rfl (fun hb => ?_) (fun hb => ?_)
                  · have cd14 := hb; have cd14b := hb; clear hb
                    replace cd14 := of_decide_eq_true cd14
                    refine at_region (id := 11) (by kernel_rfl) ?_
                    refine atR_seg (m := 2) (H := []) (ts := [0, 1, 2, 9, 18, 19, 20]) (L' := [(0, .slice (some ⟨p1, o1, none⟩) n c1), (1, .int .i64 radius), (2, .int .i64 depth), (9, .int .i64 (k : Int)), (18, .slice (some ⟨p1, o1, none⟩) n c1), (19, .int .i64 (n : Int)), (20, .int .i64 (k : Int))]) (O := fun w => True) hs (by kernel_rfl) trivial ?_
                    clear hs a; intro a hs
                    refine atR_end (by kernel_rfl) ?_
                    refine wayN_node rfl ?_
                    refine at_region (id := 12) (by kernel_rfl) ?_
                    refine atR_seg (m := 2) (H := [(0, some (.int .i64 ((k : Int) + 1)), [])]) (ts := [0, 1, 2, 9, 18, 19, 20]) (L' := [(0, .slice (some ⟨p1, o1, none⟩) n c1), (1, .int .i64 radius), (2, .int .i64 depth), (9, .int .i64 (k : Int)), (18, .slice (some ⟨p1, o1, none⟩) n c1), (19, .int .i64 (n : Int)), (20, .int .i64 ((k : Int) + 1))]) (O := fun w => (W .i64 ((k : Int) + 1)) ∧ True) hs (by kernel_rfl) ⟨w64 (by omega) (by omega), trivial⟩ ?_
                    clear hs a; intro a hs
                    refine atR_end (by kernel_rfl) ?_
                    refine wayN_back ?_
                    dsimp only [lpOf]
                    exact ⟨k + 1, (k : Int), ⟨hs.sub ⟨⟨_, rfl, (by first | rfl | (push_cast; rfl) | (congr 1; omega))⟩, ⟨_, rfl, rfl⟩, ⟨_, rfl, rfl⟩, ⟨_, rfl, rfl⟩, ⟨_, rfl, (by first | rfl | (push_cast; rfl) | (congr 1; omega))⟩, ⟨_, rfl, rfl⟩, ⟨_, rfl, (by first | rfl | (push_cast; rfl) | (congr 1; omega))⟩, trivial⟩, hB, by omega, by rw [bst_succ ht, ← hbb, if_pos ⟨by dsimp only; omega, by assumption, by first | exact Or.inl hrj | (right; rw [hrj]; dsimp only; omega)⟩], hno.succ ht (by dsimp only; omega)⟩, by omega⟩
                  · have cd14 := hb; have cd14b := hb; clear hb
                    replace cd14 := of_decide_eq_false cd14
                    refine at_skip (by kernel_rfl) ?_
                    refine wayN_node rfl ?_
                    refine at_region (id := 12) (by kernel_rfl) ?_
                    refine atR_seg (m := 2) (H := [(0, some (.int .i64 ((k : Int) + 1)), [])]) (ts := [0, 1, 2, 9, 18, 19, 20]) (L' := [(0, .slice (some ⟨p1, o1, none⟩) n c1), (1, .int .i64 radius), (2, .int .i64 depth), (9, .int .i64 (j : Int)), (18, .slice (some ⟨p1, o1, none⟩) n c1), (19, .int .i64 (n : Int)), (20, .int .i64 ((k : Int) + 1))]) (O := fun w => (W .i64 ((k : Int) + 1)) ∧ True) hs (by kernel_rfl) ⟨w64 (by omega) (by omega), trivial⟩ ?_
                    clear hs a; intro a hs
                    refine atR_end (by kernel_rfl) ?_
                    refine wayN_back ?_
                    dsimp only [lpOf]
                    exact ⟨k + 1, (j : Int), ⟨hs.sub ⟨⟨_, rfl, (by first | rfl | (push_cast; rfl) | (congr 1; omega))⟩, ⟨_, rfl, rfl⟩, ⟨_, rfl, rfl⟩, ⟨_, rfl, rfl⟩, ⟨_, rfl, (by first | rfl | (push_cast; rfl) | (congr 1; omega))⟩, ⟨_, rfl, rfl⟩, ⟨_, rfl, (by first | rfl | (push_cast; rfl) | (congr 1; omega))⟩, trivial⟩, hB, by omega, by rw [bst_succ ht, ← hbb, if_neg (by rintro ⟨h1, h2, h3⟩; have hmp := mills_pos h2; dsimp only at h1 h2 h3 hmp; (try rw [hrj] at h3); first | omega | (simp_all; done) | (simp_all; omega))], hno.succ ht (by dsimp only; omega)⟩, by omega⟩
              · replace hs := hs.know (t := 42) rfl hb
                have cd12 := hb; have cd12b := hb; clear hb
                replace hs := hs.pick (ts := [0, 1, 2, 9, 10, 11, 18, 19, 20, 42]) (L' := [(0, .slice (some ⟨p1, o1, none⟩) n c1), (1, .int .i64 radius), (2, .int .i64 depth), (9, .int .i64 (j : Int)), (10, .int .i64 (k : Int)), (11, .pointer (some ⟨b1, 0, none⟩)), (18, .slice (some ⟨p1, o1, none⟩) n c1), (19, .int .i64 (n : Int)), (20, .int .i64 (k : Int)), (42, .bool false)]) (by kernel_rfl)
                refine atD_seg (m := 0) [4, 5, 6, 7, 8, 9, 10, 11, 12, 13, 14, 15, 16] [3, 2, 1, 0] [] [0, 1, 2, 9, 10, 18, 19, 20, 55] [(0, .slice (some ⟨p1, o1, none⟩) n c1), (1, .int .i64 radius), (2, .int .i64 depth), (9, .int .i64 (j : Int)), (10, .int .i64 (k : Int)), (18, .slice (some ⟨p1, o1, none⟩) n c1), (19, .int .i64 (n : Int)), (20, .int .i64 (k : Int)), (55, .bool false)] (fun w => True) hs ⟨B1, e1, e2, trivial⟩ (by kernel_rfl) (by kernel_rfl) (fun w ⟨B1, e1, e2, _⟩ => trivial) ?_
                clear hs a; intro a hs
                refine atD_done (by kernel_rfl) ?_
                refine wayN_node rfl ?_
                refine at_cond (t := 55) (j1 := 44) (j2 := 45) (b := false) (by kernel_rfl) hs rfl (fun hb => absurd (hb.symm.trans (show (false) = false from rfl)) (by decide)) (fun _ => ?_)
                refine at_skip (by kernel_rfl) ?_
                refine wayN_node rfl ?_
                refine at_region (id := 12) (by kernel_rfl) ?_
                refine atR_seg (m := 2) (H := [(0, some (.int .i64 ((k : Int) + 1)), [])]) (ts := [0, 1, 2, 9, 18, 19, 20]) (L' := [(0, .slice (some ⟨p1, o1, none⟩) n c1), (1, .int .i64 radius), (2, .int .i64 depth), (9, .int .i64 (j : Int)), (18, .slice (some ⟨p1, o1, none⟩) n c1), (19, .int .i64 (n : Int)), (20, .int .i64 ((k : Int) + 1))]) (O := fun w => (W .i64 ((k : Int) + 1)) ∧ True) hs (by kernel_rfl) ⟨w64 (by omega) (by omega), trivial⟩ ?_
                clear hs a; intro a hs
                refine atR_end (by kernel_rfl) ?_
                refine wayN_back ?_
                dsimp only [lpOf]
                exact ⟨k + 1, (j : Int), ⟨hs.sub ⟨⟨_, rfl, (by first | rfl | (push_cast; rfl) | (congr 1; omega))⟩, ⟨_, rfl, rfl⟩, ⟨_, rfl, rfl⟩, ⟨_, rfl, rfl⟩, ⟨_, rfl, (by first | rfl | (push_cast; rfl) | (congr 1; omega))⟩, ⟨_, rfl, rfl⟩, ⟨_, rfl, (by first | rfl | (push_cast; rfl) | (congr 1; omega))⟩, trivial⟩, hB, by omega, by rw [bst_succ ht, ← hbb, if_neg (by rintro ⟨h1, h2, h3⟩; have hmp := mills_pos h2; dsimp only at h1 h2 h3 hmp; (try rw [hrj] at h3); first | omega | (simp_all; done) | (simp_all; omega))], hno.succ ht (by dsimp only; omega)⟩, by omega⟩
      · have cd3 := hb; have cd3b := hb; clear hb
        replace cd3 := of_decide_eq_false cd3
        refine at_exit (id := 0) (by kernel_rfl) (wayE_ok rfl ?_)
        refine wayN_node rfl ?_
        refine at_seq (j := 55) (by kernel_rfl) ?_
        refine at_seq (j := 50) (by kernel_rfl) ?_
        refine at_region (id := 13) (by kernel_rfl) ?_
        refine atR_seg (m := 2) (H := []) (ts := [9, 59]) (L' := [(9, .int .i64 b), (59, .bool (decide (b < 0)))]) (O := fun w => True) hs (by kernel_rfl) trivial ?_
        clear hs a; intro a hs
        refine atR_end (by kernel_rfl) ?_
        refine wayN_node rfl ?_
        refine at_cond (t := 59) (j1 := 51) (j2 := 54) (b := decide (b < 0)) (by kernel_rfl) hs rfl (fun hb => ?_) (fun hb => ?_)
        · have cd15 := hb; have cd15b := hb; clear hb
          replace cd15 := of_decide_eq_true cd15
          refine at_seq (j := 53) (by kernel_rfl) ?_
          refine at_region (id := 14) (by kernel_rfl) ?_
          refine atR_seg (m := 3) (H := []) (ts := [6, 7, 8]) (L' := [(6, .int .i64 0), (7, .bool false), (8, .int .i64 16)]) (O := fun w => True) hs (by kernel_rfl) trivial ?_
          clear hs a; intro a hs
          refine atR_end (by kernel_rfl) ?_
          refine wayN_node rfl ?_
          refine at_ret (by kernel_rfl) ?_
          refine at_end (vs := [.int .i64 0, .bool false, .int .i64 16]) (H := []) (v := .tuple #[.int .i64 0, .bool false, .int .i64 16]) (O := fun w => True) hs (by kernel_rfl) rfl trivial ?_
          obtain rfl : k = ts.length := by omega
          exact match_none (by omega) hno hbb (by omega) hB
        · have cd15 := hb; have cd15b := hb; clear hb
          replace cd15 := of_decide_eq_false cd15
          refine at_skip (by kernel_rfl) ?_
          refine wayN_node rfl ?_
          refine at_seq (j := 57) (by kernel_rfl) ?_
          refine at_region (id := 15) (by kernel_rfl) ?_
          refine atR_seg (m := 4) (H := []) (ts := [6, 7, 8]) (L' := [(6, .int .i64 b), (7, .bool false), (8, .int .i64 0)]) (O := fun w => True) hs (by kernel_rfl) trivial ?_
          clear hs a; intro a hs
          refine atR_end (by kernel_rfl) ?_
          refine wayN_node rfl ?_
          refine at_ret (by kernel_rfl) ?_
          refine at_end (vs := [.int .i64 b, .bool false, .int .i64 0]) (H := []) (v := .tuple #[.int .i64 b, .bool false, .int .i64 0]) (O := fun w => True) hs (by kernel_rfl) rfl trivial ?_
          obtain rfl : k = ts.length := by omega
          exact match_best (by omega) hno hbb (by omega) hB
noncomputable def body17 : Code := Tryd.f17.body.getD .skip
set_option maxHeartbeats 2000000 in
theorem rmatch_any (v : Value) (n : Nat) (ts : List Tl) (radius depth : Int) (w : World) (hl : ts.length = n) (h1 : Rd w 8 v n (ts.flatMap Tl.cs)) (HR : ∀ t ∈ ts, 0 ≤ t.rad ∧ t.rad ≤ 10000000) (br1 : -9223372036854775808 ≤ radius) (br2 : radius ≤ 9223372036854775807) :
    Calls Tryd.prog 17 #[v, .int .i64 radius, .int .i64 depth] w (MatchPost ts radius depth w) := by
  have R1 := RdU.of_rd h1
  obtain ⟨A1, c1, rfl, hn⟩ := R1.form
  have hB : Below w.heap.size w w := Below.refl _ _
  refine enter (B := body17) (args := [.slice A1 n c1, .int .i64 radius, .int .i64 depth]) Tryd.func17 (by kernel_rfl) (by kernel_rfl) ?_
  rw [show Tryd.f17.ntmps = 99 from by kernel_rfl]
  intro a hs
  replace hs := hs.pick (ts := [0, 1, 2]) (L' := [(0, .slice A1 n c1), (1, .int .i64 radius), (2, .int .i64 depth)]) (by kernel_rfl)
  refine at_seq (j := 2) (by kernel_rfl) ?_
  refine at_region (id := 0) (by kernel_rfl) ?_
  refine atR_seg (m := 3) (H := []) (ts := [0, 1, 2]) (L' := [(0, .slice A1 n c1), (1, .int .i64 radius), (2, .int .i64 depth)]) (O := fun w => True) hs (by kernel_rfl) trivial ?_
  clear hs a; intro a hs
  refine atR_end (by kernel_rfl) ?_
  refine wayN_node rfl ?_
  refine at_seq (j := 10) (by kernel_rfl) ?_
  refine at_seq (j := 5) (by kernel_rfl) ?_
  refine at_region (id := 1) (by kernel_rfl) ?_
  refine atR_seg (m := 3) (H := []) (ts := [0, 1, 2, 14]) (L' := [(0, .slice A1 n c1), (1, .int .i64 radius), (2, .int .i64 depth), (14, .bool (decide (radius ≤ 0)))]) (O := fun w => True) hs (by kernel_rfl) trivial ?_
  clear hs a; intro a hs
  rcases Bool.eq_false_or_eq_true (decide (radius ≤ 0)) with hb | hb
  · replace hs := hs.know (t := 14) rfl hb
    have cd1 := hb; have cd1b := hb; clear hb
    replace cd1 := of_decide_eq_true cd1
    replace hs := hs.pick (ts := [0, 1, 2, 14]) (L' := [(0, .slice A1 n c1), (1, .int .i64 radius), (2, .int .i64 depth), (14, .bool true)]) (by kernel_rfl)
    refine atR_seg (m := 3) (H := []) (ts := [0, 1, 2, 17]) (L' := [(0, .slice A1 n c1), (1, .int .i64 radius), (2, .int .i64 depth), (17, .bool true)]) (O := fun w => True) hs (by kernel_rfl) trivial ?_
    clear hs a; intro a hs
    refine atR_end (by kernel_rfl) ?_
    refine wayN_node rfl ?_
    refine at_cond (t := 17) (j1 := 6) (j2 := 9) (b := true) (by kernel_rfl) hs rfl (fun _ => ?_) (fun hb => absurd (hb.symm.trans (show (true) = true from rfl)) (by decide))
    refine at_seq (j := 8) (by kernel_rfl) ?_
    refine at_region (id := 2) (by kernel_rfl) ?_
    refine atR_seg (m := 3) (H := []) (ts := [6, 7, 8]) (L' := [(6, .int .i64 0), (7, .bool false), (8, .int .i64 1)]) (O := fun w => True) hs (by kernel_rfl) trivial ?_
    clear hs a; intro a hs
    refine atR_end (by kernel_rfl) ?_
    refine wayN_node rfl ?_
    refine at_ret (by kernel_rfl) ?_
    refine at_end (vs := [.int .i64 0, .bool false, .int .i64 1]) (H := []) (v := .tuple #[.int .i64 0, .bool false, .int .i64 1]) (O := fun w => True) hs (by kernel_rfl) rfl trivial ?_
    exact match_bad (by omega) hB
  · replace hs := hs.know (t := 14) rfl hb
    have cd1 := hb; have cd1b := hb; clear hb
    replace cd1 := of_decide_eq_false cd1
    replace hs := hs.pick (ts := [0, 1, 2, 14]) (L' := [(0, .slice A1 n c1), (1, .int .i64 radius), (2, .int .i64 depth), (14, .bool false)]) (by kernel_rfl)
    refine atR_seg (m := 3) (H := []) (ts := [0, 1, 2, 17]) (L' := [(0, .slice A1 n c1), (1, .int .i64 radius), (2, .int .i64 depth), (17, .bool (decide (depth ≤ 0)))]) (O := fun w => True) hs (by kernel_rfl) trivial ?_
    clear hs a; intro a hs
    refine atR_end (by kernel_rfl) ?_
    refine wayN_node rfl ?_
    refine at_cond (t := 17) (j1 := 6) (j2 := 9) (b := decide (depth ≤ 0)) (by kernel_rfl) hs rfl (fun hb => ?_) (fun hb => ?_)
    · have cd2 := hb; have cd2b := hb; clear hb
      replace cd2 := of_decide_eq_true cd2
      refine at_seq (j := 8) (by kernel_rfl) ?_
      refine at_region (id := 2) (by kernel_rfl) ?_
      refine atR_seg (m := 3) (H := []) (ts := [6, 7, 8]) (L' := [(6, .int .i64 0), (7, .bool false), (8, .int .i64 1)]) (O := fun w => True) hs (by kernel_rfl) trivial ?_
      clear hs a; intro a hs
      refine atR_end (by kernel_rfl) ?_
      refine wayN_node rfl ?_
      refine at_ret (by kernel_rfl) ?_
      refine at_end (vs := [.int .i64 0, .bool false, .int .i64 1]) (H := []) (v := .tuple #[.int .i64 0, .bool false, .int .i64 1]) (O := fun w => True) hs (by kernel_rfl) rfl trivial ?_
      exact match_bad (by omega) hB
    · have cd2 := hb; have cd2b := hb; clear hb
      replace cd2 := of_decide_eq_false cd2
      refine at_skip (by kernel_rfl) ?_
      refine wayN_node rfl ?_
      refine at_seq (j := 31) (by kernel_rfl) ?_
      refine at_seq (j := 13) (by kernel_rfl) ?_
      refine at_region (id := 3) (by kernel_rfl) ?_
      refine atR_seg (m := 1) (H := []) (ts := [0, 1, 2, 9]) (L' := [(0, .slice A1 n c1), (1, .int .i64 radius), (2, .int .i64 depth), (9, .int .i64 0)]) (O := fun w => True) hs (by kernel_rfl) trivial ?_
      clear hs a; intro a hs
      refine atR_end (by kernel_rfl) ?_
      refine wayN_node rfl ?_
      refine at_block (id := 0) (by kernel_rfl) ?_
      refine at_loop1 (fun (k : Nat) a' W => St 99 [(0, .slice A1 n c1), (1, .int .i64 radius), (2, .int .i64 depth), (9, .int .i64 (k : Int))] a' ∧ Below w.heap.size w W ∧ (k ≤ n) ∧ (noD ts radius depth k)) (fun k => n - k) 0 (by kernel_rfl) ⟨hs.sub ⟨⟨_, rfl, rfl⟩, ⟨_, rfl, rfl⟩, ⟨_, rfl, rfl⟩, ⟨_, rfl, (by first | rfl | (push_cast; rfl) | (congr 1; omega))⟩, trivial⟩, hB, Nat.zero_le _, fun _ _ h => absurd h (Nat.not_lt_zero _)⟩ ?_
      clear hs a hB
      intro k a wr1 hI
      obtain ⟨hs, hB, hk, hno⟩ := hI
      refine at_seq (j := 21) (by kernel_rfl) ?_
      refine at_seq (j := 18) (by kernel_rfl) ?_
      refine at_region (id := 4) (by kernel_rfl) ?_
      refine atR_seg (m := 4) (H := []) (ts := [0, 1, 2, 9, 21]) (L' := [(0, .slice A1 n c1), (1, .int .i64 radius), (2, .int .i64 depth), (9, .int .i64 (k : Int)), (21, .bool (decide ((k : Int) < (n : Int))))]) (O := fun w => True) hs (by kernel_rfl) trivial ?_
      clear hs a; intro a hs
      refine atR_end (by kernel_rfl) ?_
      refine wayN_node rfl ?_
      refine at_cond (t := 21) (j1 := 19) (j2 := 20) (b := decide ((k : Int) < (n : Int))) (by kernel_rfl) hs rfl (fun hb => ?_) (fun hb => ?_)
      · have cd3 := hb; have cd3b := hb; clear hb
        replace cd3 := of_decide_eq_true cd3
        have hkn : k < n := by omega
        refine at_skip (by kernel_rfl) ?_
        refine wayN_node rfl ?_
        refine at_seq (j := 30) (by kernel_rfl) ?_
        refine at_block (id := 1) (by kernel_rfl) ?_
        refine at_seq (j := 25) (by kernel_rfl) ?_
        obtain ⟨p1, o1, t, hA1, ht, e1⟩ := (R1.below hB).elem (f := Tl.cs) (fun _ => rfl) hl hkn
        obtain ⟨hr1, hr2⟩ := HR t (List.mem_of_getElem? ht)
        obtain ⟨num, kind, rad, flu, hol, stp, fd, plu⟩ := t
        dsimp only at hr1 hr2
        subst hA1
        refine at_region (id := 6) (by kernel_rfl) ?_
        refine atR_seg (m := 7) (H := [(2, some (.pointer (some ⟨p1, o1 + k * 8, none⟩)), []), (4, none, [.int .i64 kind])]) (ts := [0, 1, 2, 9, 30]) (L' := [(0, .slice (some ⟨p1, o1, none⟩) n c1), (1, .int .i64 radius), (2, .int .i64 depth), (9, .int .i64 (k : Int)), (30, .bool (kind == 2))]) (O := fun w => (.pointer (some ⟨p1, o1 + ((k : Int)).toNat * 8, none⟩) = Value.pointer (some ⟨p1, o1 + k * 8, none⟩)) ∧ ((0 : Int) ≤ (k : Int) ∧ (k : Int) < ((n : Nat) : Int)) ∧ (w.cell? ⟨p1, o1 + k * 8 + 1, none⟩ = some (.int .i64 kind)) ∧ True) hs (by kernel_rfl) ⟨by simp [Int.toNat_natCast], ⟨by omega, by omega⟩, e1.at_ 1 rfl, trivial⟩ ?_
        clear hs a; intro a hs
        rcases Bool.eq_false_or_eq_true (kind == 2) with hb | hb
        · replace hs := hs.know (t := 30) rfl hb
          have cd4 := hb; have cd4b := hb; clear hb
          replace cd4 := eq_of_beq cd4
          replace hs := hs.pick (ts := [0, 1, 2, 9, 30]) (L' := [(0, .slice (some ⟨p1, o1, none⟩) n c1), (1, .int .i64 radius), (2, .int .i64 depth), (9, .int .i64 (k : Int)), (30, .bool true)]) (by kernel_rfl)
          refine atR_seg (m := 9) (H := [(9, some (.pointer (some ⟨p1, o1 + k * 8, none⟩)), []), (11, none, [.int .i64 rad])]) (ts := [0, 1, 2, 9, 39]) (L' := [(0, .slice (some ⟨p1, o1, none⟩) n c1), (1, .int .i64 radius), (2, .int .i64 depth), (9, .int .i64 (k : Int)), (39, .bool (rad == radius))]) (O := fun w => (.pointer (some ⟨p1, o1 + ((k : Int)).toNat * 8, none⟩) = Value.pointer (some ⟨p1, o1 + k * 8, none⟩)) ∧ ((0 : Int) ≤ (k : Int) ∧ (k : Int) < ((n : Nat) : Int)) ∧ (w.cell? ⟨p1, o1 + k * 8 + 2, none⟩ = some (.int .i64 rad)) ∧ True) hs (by kernel_rfl) ⟨by simp [Int.toNat_natCast], ⟨by omega, by omega⟩, e1.at_ 2 rfl, trivial⟩ ?_
          clear hs a; intro a hs
          rcases Bool.eq_false_or_eq_true (rad == radius) with hb | hb
          · replace hs := hs.know (t := 39) rfl hb
            have cd5 := hb; have cd5b := hb; clear hb
            replace cd5 := eq_of_beq cd5
            replace hs := hs.pick (ts := [0, 1, 2, 9, 39]) (L' := [(0, .slice (some ⟨p1, o1, none⟩) n c1), (1, .int .i64 radius), (2, .int .i64 depth), (9, .int .i64 (k : Int)), (39, .bool true)]) (by kernel_rfl)
            refine atR_seg (m := 8) (H := [(18, some (.pointer (some ⟨p1, o1 + k * 8, none⟩)), []), (20, none, [.int .i64 flu])]) (ts := [0, 1, 2, 9, 47]) (L' := [(0, .slice (some ⟨p1, o1, none⟩) n c1), (1, .int .i64 radius), (2, .int .i64 depth), (9, .int .i64 (k : Int)), (47, .bool (decide (flu ≥ depth)))]) (O := fun w => (.pointer (some ⟨p1, o1 + ((k : Int)).toNat * 8, none⟩) = Value.pointer (some ⟨p1, o1 + k * 8, none⟩)) ∧ ((0 : Int) ≤ (k : Int) ∧ (k : Int) < ((n : Nat) : Int)) ∧ (w.cell? ⟨p1, o1 + k * 8 + 3, none⟩ = some (.int .i64 flu)) ∧ True) hs (by kernel_rfl) ⟨by simp [Int.toNat_natCast], ⟨by omega, by omega⟩, e1.at_ 3 rfl, trivial⟩ ?_
            clear hs a; intro a hs
            refine atR_end (by kernel_rfl) ?_
            refine wayN_node rfl ?_
            refine at_cond (t := 47) (j1 := 26) (j2 := 29) (b := decide (flu ≥ depth)) (by kernel_rfl) hs rfl (fun hb => ?_) (fun hb => ?_)
            · have cd6 := hb; have cd6b := hb; clear hb
              replace cd6 := of_decide_eq_true cd6
              refine at_seq (j := 28) (by kernel_rfl) ?_
              refine at_region (id := 7) (by kernel_rfl) ?_
              refine atR_seg (m := 4) (H := []) (ts := [6, 7, 8]) (L' := [(6, .int .i64 (k : Int)), (7, .bool true), (8, .int .i64 0)]) (O := fun w => True) hs (by kernel_rfl) trivial ?_
              clear hs a; intro a hs
              refine atR_end (by kernel_rfl) ?_
              refine wayN_node rfl ?_
              refine at_ret (by kernel_rfl) ?_
              refine at_end (vs := [.int .i64 (k : Int), .bool true, .int .i64 0]) (H := []) (v := .tuple #[.int .i64 (k : Int), .bool true, .int .i64 0]) (O := fun w => True) hs (by kernel_rfl) rfl trivial ?_
              exact match_drill (by omega) hno ht (by dsimp only; omega) hB
            · have cd6 := hb; have cd6b := hb; clear hb
              replace cd6 := of_decide_eq_false cd6
              refine at_skip (by kernel_rfl) ?_
              refine wayN_node rfl ?_
              refine at_region (id := 5) (by kernel_rfl) ?_
              refine atR_seg (m := 3) (H := [(1, some (.int .i64 ((k : Int) + 1)), [])]) (ts := [0, 1, 2, 9]) (L' := [(0, .slice (some ⟨p1, o1, none⟩) n c1), (1, .int .i64 radius), (2, .int .i64 depth), (9, .int .i64 ((k : Int) + 1))]) (O := fun w => (W .i64 ((k : Int) + 1)) ∧ True) hs (by kernel_rfl) ⟨w64 (by omega) (by omega), trivial⟩ ?_
              clear hs a; intro a hs
              refine atR_end (by kernel_rfl) ?_
              refine wayN_back ?_
              dsimp only [lpOf]
              exact ⟨k + 1, ⟨hs.sub ⟨⟨_, rfl, (by first | rfl | (push_cast; rfl) | (congr 1; omega))⟩, ⟨_, rfl, rfl⟩, ⟨_, rfl, rfl⟩, ⟨_, rfl, (by first | rfl | (push_cast; rfl) | (congr 1; omega))⟩, trivial⟩, hB, by omega, hno.succ ht (by dsimp only; omega)⟩, by omega⟩
          · replace hs := hs.know (t := 39) rfl hb
            have cd5 := hb; have cd5b := hb; clear hb
            replace cd5 := ne_of_beq_false cd5
            replace hs := hs.pick (ts := [0, 1, 2, 9, 39]) (L' := [(0, .slice (some ⟨p1, o1, none⟩) n c1), (1, .int .i64 radius), (2, .int .i64 depth), (9, .int .i64 (k : Int)), (39, .bool false)]) (by kernel_rfl)
            refine atR_seg (m := 8) (H := []) (ts := [0, 1, 2, 9, 47]) (L' := [(0, .slice (some ⟨p1, o1, none⟩) n c1), (1, .int .i64 radius), (2, .int .i64 depth), (9, .int .i64 (k : Int)), (47, .bool false)]) (O := fun w => True) hs (by kernel_rfl) trivial ?_
            clear hs a; intro a hs
            refine atR_end (by kernel_rfl) ?_
            refine wayN_node rfl ?_
            refine at_cond (t := 47) (j1 := 26) (j2 := 29) (b := false) (by kernel_rfl) hs rfl (fun hb => absurd (hb.symm.trans (show (false) = false from rfl)) (by decide)) (fun _ => ?_)
            refine at_skip (by kernel_rfl) ?_
            refine wayN_node rfl ?_
            refine at_region (id := 5) (by kernel_rfl) ?_
            refine atR_seg (m := 3) (H := [(1, some (.int .i64 ((k : Int) + 1)), [])]) (ts := [0, 1, 2, 9]) (L' := [(0, .slice (some ⟨p1, o1, none⟩) n c1), (1, .int .i64 radius), (2, .int .i64 depth), (9, .int .i64 ((k : Int) + 1))]) (O := fun w => (W .i64 ((k : Int) + 1)) ∧ True) hs (by kernel_rfl) ⟨w64 (by omega) (by omega), trivial⟩ ?_
            clear hs a; intro a hs
            refine atR_end (by kernel_rfl) ?_
            refine wayN_back ?_
            dsimp only [lpOf]
            exact ⟨k + 1, ⟨hs.sub ⟨⟨_, rfl, (by first | rfl | (push_cast; rfl) | (congr 1; omega))⟩, ⟨_, rfl, rfl⟩, ⟨_, rfl, rfl⟩, ⟨_, rfl, (by first | rfl | (push_cast; rfl) | (congr 1; omega))⟩, trivial⟩, hB, by omega, hno.succ ht (by dsimp only; omega)⟩, by omega⟩
        · replace hs := hs.know (t := 30) rfl hb
          have cd4 := hb; have cd4b := hb; clear hb
          replace cd4 := ne_of_beq_false cd4
          replace hs := hs.pick (ts := [0, 1, 2, 9, 30]) (L' := [(0, .slice (some ⟨p1, o1, none⟩) n c1), (1, .int .i64 radius), (2, .int .i64 depth), (9, .int .i64 (k : Int)), (30, .bool false)]) (by kernel_rfl)
          refine atR_seg (m := 17) (H := []) (ts := [0, 1, 2, 9, 47]) (L' := [(0, .slice (some ⟨p1, o1, none⟩) n c1), (1, .int .i64 radius), (2, .int .i64 depth), (9, .int .i64 (k : Int)), (47, .bool false)]) (O := fun w => True) hs (by kernel_rfl) trivial ?_
          clear hs a; intro a hs
          refine atR_end (by kernel_rfl) ?_
          refine wayN_node rfl ?_
          refine at_cond (t := 47) (j1 := 26) (j2 := 29) (b := false) (by kernel_rfl) hs rfl (fun hb => absurd (hb.symm.trans (show (false) = false from rfl)) (by decide)) (fun _ => ?_)
          refine at_skip (by kernel_rfl) ?_
          refine wayN_node rfl ?_
          refine at_region (id := 5) (by kernel_rfl) ?_
          refine atR_seg (m := 3) (H := [(1, some (.int .i64 ((k : Int) + 1)), [])]) (ts := [0, 1, 2, 9]) (L' := [(0, .slice (some ⟨p1, o1, none⟩) n c1), (1, .int .i64 radius), (2, .int .i64 depth), (9, .int .i64 ((k : Int) + 1))]) (O := fun w => (W .i64 ((k : Int) + 1)) ∧ True) hs (by kernel_rfl) ⟨w64 (by omega) (by omega), trivial⟩ ?_
          clear hs a; intro a hs
          refine atR_end (by kernel_rfl) ?_
          refine wayN_back ?_
          dsimp only [lpOf]
          exact ⟨k + 1, ⟨hs.sub ⟨⟨_, rfl, (by first | rfl | (push_cast; rfl) | (congr 1; omega))⟩, ⟨_, rfl, rfl⟩, ⟨_, rfl, rfl⟩, ⟨_, rfl, (by first | rfl | (push_cast; rfl) | (congr 1; omega))⟩, trivial⟩, hB, by omega, hno.succ ht (by dsimp only; omega)⟩, by omega⟩
      · have cd3 := hb; have cd3b := hb; clear hb
        replace cd3 := of_decide_eq_false cd3
        refine at_exit (id := 0) (by kernel_rfl) (wayE_ok rfl ?_)
        refine wayN_node rfl ?_
        refine at_seq (j := 33) (by kernel_rfl) ?_
        refine at_region (id := 8) (by kernel_rfl) ?_
        refine atR_seg (m := 1) (H := []) (ts := [0, 1, 2, 10]) (L' := [(0, .slice A1 n c1), (1, .int .i64 radius), (2, .int .i64 depth), (10, .int .i64 (-1))]) (O := fun w => True) hs (by kernel_rfl) trivial ?_
        clear hs a; intro a hs
        refine atR_end (by kernel_rfl) ?_
        refine wayN_node rfl ?_
        refine at_seq (j := 52) (by kernel_rfl) ?_
        refine at_seq (j := 36) (by kernel_rfl) ?_
        refine at_region (id := 9) (by kernel_rfl) ?_
        refine atR_seg (m := 1) (H := []) (ts := [0, 1, 2, 10, 11]) (L' := [(0, .slice A1 n c1), (1, .int .i64 radius), (2, .int .i64 depth), (10, .int .i64 (-1)), (11, .int .i64 0)]) (O := fun w => True) hs (by kernel_rfl) trivial ?_
        clear hs a; intro a hs
        refine atR_end (by kernel_rfl) ?_
        refine wayN_node rfl ?_
        refine at_block (id := 2) (by kernel_rfl) ?_
        have hnoD : noD ts radius depth ts.length := by rw [hl, show n = k by omega]; exact hno
        clear hno
        clear cd3 cd3b
        clear hk k
        refine at_loop2 (fun (k : Nat) (b : Int) a' W => St 99 [(0, .slice A1 n c1), (1, .int .i64 radius), (2, .int .i64 depth), (10, .int .i64 b), (11, .int .i64 (k : Int))] a' ∧ Below w.heap.size w W ∧ (k ≤ n) ∧ (b = bst ts radius depth k)) (fun k b => n - k) 0 (-1) (by kernel_rfl) ⟨hs.sub ⟨⟨_, rfl, rfl⟩, ⟨_, rfl, rfl⟩, ⟨_, rfl, rfl⟩, ⟨_, rfl, rfl⟩, ⟨_, rfl, (by first | rfl | (push_cast; rfl) | (congr 1; omega))⟩, trivial⟩, hB, Nat.zero_le _, rfl⟩ ?_
        clear hs a hB
        intro k b a wr2 hI
        obtain ⟨hs, hB, hk, hbb⟩ := hI
        refine at_seq (j := 44) (by kernel_rfl) ?_
        refine at_seq (j := 41) (by kernel_rfl) ?_
        refine at_region (id := 10) (by kernel_rfl) ?_
        refine atR_seg (m := 4) (H := []) (ts := [0, 1, 2, 10, 11, 52]) (L' := [(0, .slice A1 n c1), (1, .int .i64 radius), (2, .int .i64 depth), (10, .int .i64 b), (11, .int .i64 (k : Int)), (52, .bool (decide ((k : Int) < (n : Int))))]) (O := fun w => True) hs (by kernel_rfl) trivial ?_
        clear hs a; intro a hs
        refine atR_end (by kernel_rfl) ?_
        refine wayN_node rfl ?_
        refine at_cond (t := 52) (j1 := 42) (j2 := 43) (b := decide ((k : Int) < (n : Int))) (by kernel_rfl) hs rfl (fun hb => ?_) (fun hb => ?_)
        · have cd7 := hb; have cd7b := hb; clear hb
          replace cd7 := of_decide_eq_true cd7
          have hkn : k < n := by omega
          refine at_skip (by kernel_rfl) ?_
          refine wayN_node rfl ?_
          refine at_seq (j := 51) (by kernel_rfl) ?_
          refine at_block (id := 3) (by kernel_rfl) ?_
          refine at_seq (j := 48) (by kernel_rfl) ?_
          obtain ⟨p1, o1, t, hA1, ht, e1⟩ := (R1.below hB).elem (f := Tl.cs) (fun _ => rfl) hl hkn
          obtain ⟨hr1, hr2⟩ := HR t (List.mem_of_getElem? ht)
          obtain ⟨num, kind, rad, flu, hol, stp, fd, plu⟩ := t
          dsimp only at hr1 hr2
          subst hA1
          have hbf := bst_form ts radius depth k
          rw [← hbb] at hbf
          rcases hbf with hneg | ⟨j, t2, hbj, hjk, ht2, _, _⟩
          · have hb0 : decide (b < 0) = true := decide_eq_true (by omega)
            have hrj : b < 0 := by omega
            refine at_draw (fun W => Ce w.heap.size W p1 (o1 + k * 8) [.int .i64 num, .int .i64 kind, .int .i64 rad, .int .i64 flu, .int .i64 hol, .int .i64 stp, .int .i64 fd, .int .i64 plu] ∧ True) (id := 12) (by kernel_rfl) (by kernel_rfl) 40 (by kernel_rfl) ?_
            intro w3 hb
            replace e1 := e1.below hb
            replace hB := later hB hb
            clear hb
            refine atD_seg (m := 32) [0, 1, 2, 3, 4, 5, 6, 7] [] [(2, some (.pointer (some ⟨p1, o1 + k * 8, none⟩)), []), (4, none, [.int .i64 flu])] [0, 1, 2, 10, 11, 62] [(0, .slice (some ⟨p1, o1, none⟩) n c1), (1, .int .i64 radius), (2, .int .i64 depth), (10, .int .i64 b), (11, .int .i64 (k : Int)), (62, .bool (decide (flu ≥ depth)))] (fun w => (.pointer (some ⟨p1, o1 + ((k : Int)).toNat * 8, none⟩) = Value.pointer (some ⟨p1, o1 + k * 8, none⟩)) ∧ ((0 : Int) ≤ (k : Int) ∧ (k : Int) < ((n : Nat) : Int)) ∧ (w.cell? ⟨p1, o1 + k * 8 + 3, none⟩ = some (.int .i64 flu)) ∧ True) hs ⟨e1, trivial⟩ (by kernel_rfl) (by kernel_rfl) (fun w ⟨e1, _⟩ => ⟨by simp [Int.toNat_natCast], ⟨by omega, by omega⟩, e1.at_ 3 rfl, trivial⟩) ?_
            clear hs a; intro a hs
            rcases Bool.eq_false_or_eq_true (decide (flu ≥ depth)) with hb | hb
            · replace hs := hs.know (t := 62) rfl hb
              have cd8 := hb; have cd8b := hb; clear hb
              replace cd8 := of_decide_eq_true cd8
              replace hs := hs.pick (ts := [0, 1, 2, 10, 11, 62]) (L' := [(0, .slice (some ⟨p1, o1, none⟩) n c1), (1, .int .i64 radius), (2, .int .i64 depth), (10, .int .i64 b), (11, .int .i64 (k : Int)), (62, .bool true)]) (by kernel_rfl)
              refine atD_seg (m := 24) [8, 9, 10, 11, 12, 13, 14, 15] [7, 6, 5, 4, 3, 2, 1, 0] [(10, some (.pointer (some ⟨p1, o1 + k * 8, none⟩)), []), (12, none, [.int .i64 rad])] [0, 1, 2, 10, 11, 70] [(0, .slice (some ⟨p1, o1, none⟩) n c1), (1, .int .i64 radius), (2, .int .i64 depth), (10, .int .i64 b), (11, .int .i64 (k : Int)), (70, .bool (decide (rad > 0)))] (fun w => (.pointer (some ⟨p1, o1 + ((k : Int)).toNat * 8, none⟩) = Value.pointer (some ⟨p1, o1 + k * 8, none⟩)) ∧ ((0 : Int) ≤ (k : Int) ∧ (k : Int) < ((n : Nat) : Int)) ∧ (w.cell? ⟨p1, o1 + k * 8 + 2, none⟩ = some (.int .i64 rad)) ∧ True) hs ⟨e1, trivial⟩ (by kernel_rfl) (by kernel_rfl) (fun w ⟨e1, _⟩ => ⟨by simp [Int.toNat_natCast], ⟨by omega, by omega⟩, e1.at_ 2 rfl, trivial⟩) ?_
              clear hs a; intro a hs
              rcases Bool.eq_false_or_eq_true (decide (rad > 0)) with hb | hb
              · replace hs := hs.know (t := 70) rfl hb
                have cd9 := hb; have cd9b := hb; clear hb
                replace cd9 := of_decide_eq_true cd9
                replace hs := hs.pick (ts := [0, 1, 2, 10, 11, 70]) (L' := [(0, .slice (some ⟨p1, o1, none⟩) n c1), (1, .int .i64 radius), (2, .int .i64 depth), (10, .int .i64 b), (11, .int .i64 (k : Int)), (70, .bool true)]) (by kernel_rfl)
                refine atD_seg (m := 19) [16, 17, 18, 19, 20] [15, 14, 13, 12, 11, 10, 9, 8, 7, 6, 5, 4, 3, 2, 1, 0] [(18, some (.pointer (some ⟨p1, o1 + k * 8, none⟩)), []), (19, none, [.int .i64 num, .int .i64 kind, .int .i64 rad, .int .i64 flu, .int .i64 hol, .int .i64 stp, .int .i64 fd, .int .i64 plu])] [0, 1, 2, 10, 11, 70, 74, 75] [(0, .slice (some ⟨p1, o1, none⟩) n c1), (1, .int .i64 radius), (2, .int .i64 depth), (10, .int .i64 b), (11, .int .i64 (k : Int)), (70, .bool true), (74, .agg #[.int .i64 num, .int .i64 kind, .int .i64 rad, .int .i64 flu, .int .i64 hol, .int .i64 stp, .int .i64 fd, .int .i64 plu]), (75, .int .i64 radius)] (fun w => (.pointer (some ⟨p1, o1 + ((k : Int)).toNat * 8, none⟩) = Value.pointer (some ⟨p1, o1 + k * 8, none⟩)) ∧ ((0 : Int) ≤ (k : Int) ∧ (k : Int) < ((n : Nat) : Int)) ∧ (w.cell? ⟨p1, o1 + k * 8, none⟩ = some (.int .i64 num)) ∧ (w.cell? ⟨p1, o1 + k * 8 + 1, none⟩ = some (.int .i64 kind)) ∧ (w.cell? ⟨p1, o1 + k * 8 + 2, none⟩ = some (.int .i64 rad)) ∧ (w.cell? ⟨p1, o1 + k * 8 + 3, none⟩ = some (.int .i64 flu)) ∧ (w.cell? ⟨p1, o1 + k * 8 + 4, none⟩ = some (.int .i64 hol)) ∧ (w.cell? ⟨p1, o1 + k * 8 + 5, none⟩ = some (.int .i64 stp)) ∧ (w.cell? ⟨p1, o1 + k * 8 + 6, none⟩ = some (.int .i64 fd)) ∧ (w.cell? ⟨p1, o1 + k * 8 + 7, none⟩ = some (.int .i64 plu)) ∧ True) hs ⟨e1, trivial⟩ (by kernel_rfl) (by kernel_rfl) (fun w ⟨e1, _⟩ => ⟨by simp [Int.toNat_natCast], ⟨by omega, by omega⟩, e1.at0 rfl, e1.at_ 1 rfl, e1.at_ 2 rfl, e1.at_ 3 rfl, e1.at_ 4 rfl, e1.at_ 5 rfl, e1.at_ 6 rfl, e1.at_ 7 rfl, trivial⟩) ?_
                clear hs a; intro a hs
                refine atD_op (m := 18) (j := 21) (D := [20, 19, 18, 17, 16, 15, 14, 13, 12, 11, 10, 9, 8, 7, 6, 5, 4, 3, 2, 1, 0]) hs (by kernel_rfl) (by kernel_rfl) (call1 (f := 29) (args := #[.agg #[.int .i64 num, .int .i64 kind, .int .i64 rad, .int .i64 flu, .int .i64 hol, .int .i64 stp, .int .i64 fd, .int .i64 plu], .int .i64 radius]) [0, 1, 2, 10, 11, 70, 76] (fun rv_ => [(0, .slice (some ⟨p1, o1, none⟩) n c1), (1, .int .i64 radius), (2, .int .i64 depth), (10, .int .i64 b), (11, .int .i64 (k : Int)), (70, .bool true), (76, rv_)]) hs (by kernel_rfl) (fun _ => by kernel_rfl) ?_)
                refine (rmills_any (⟨num, kind, rad, flu, hol, stp, fd, plu⟩ : Tl) _ _ (by dsimp only; omega) (by omega)).mono ?_
                rintro e w4 ⟨rfl, hb⟩
                refine ⟨_, rfl, ?_⟩
                clear hs a; intro a hs
                replace e1 := e1.below hb
                replace hB := later hB hb
                clear hb
                refine ⟨⟨e1, trivial⟩, ?_⟩
                refine atD_seg (m := 16) [22, 23] [21, 20, 19, 18, 17, 16, 15, 14, 13, 12, 11, 10, 9, 8, 7, 6, 5, 4, 3, 2, 1, 0] [] [0, 1, 2, 10, 11, 78] [(0, .slice (some ⟨p1, o1, none⟩) n c1), (1, .int .i64 radius), (2, .int .i64 depth), (10, .int .i64 b), (11, .int .i64 (k : Int)), (78, .bool ((⟨num, kind, rad, flu, hol, stp, fd, plu⟩ : Tl).mills radius))] (fun w => True) hs ⟨e1, trivial⟩ (by kernel_rfl) (by kernel_rfl) (fun w ⟨e1, _⟩ => trivial) ?_
                clear hs a; intro a hs
                rcases Bool.eq_false_or_eq_true ((⟨num, kind, rad, flu, hol, stp, fd, plu⟩ : Tl).mills radius) with hb | hb
                · replace hs := hs.know (t := 78) rfl hb
                  have cd10 := hb; have cd10b := hb; clear hb
                  replace hs := hs.pick (ts := [0, 1, 2, 10, 11, 78]) (L' := [(0, .slice (some ⟨p1, o1, none⟩) n c1), (1, .int .i64 radius), (2, .int .i64 depth), (10, .int .i64 b), (11, .int .i64 (k : Int)), (78, .bool true)]) (by kernel_rfl)
                  refine atD_seg (m := 13) [24, 25, 26] [23, 22, 21, 20, 19, 18, 17, 16, 15, 14, 13, 12, 11, 10, 9, 8, 7, 6, 5, 4, 3, 2, 1, 0] [] [0, 1, 2, 10, 11, 78, 81] [(0, .slice (some ⟨p1, o1, none⟩) n c1), (1, .int .i64 radius), (2, .int .i64 depth), (10, .int .i64 b), (11, .int .i64 (k : Int)), (78, .bool true), (81, .bool (decide (b < 0)))] (fun w => True) hs ⟨e1, trivial⟩ (by kernel_rfl) (by kernel_rfl) (fun w ⟨e1, _⟩ => trivial) ?_
                  clear hs a; intro a hs
                  replace hs := hs.know (t := 81) rfl (show (decide (b < 0)) = true from hb0)
                  replace hs := hs.pick (ts := [0, 1, 2, 10, 11, 78, 81]) (L' := [(0, .slice (some ⟨p1, o1, none⟩) n c1), (1, .int .i64 radius), (2, .int .i64 depth), (10, .int .i64 b), (11, .int .i64 (k : Int)), (78, .bool true), (81, .bool true)]) (by kernel_rfl)
                  refine atD_seg (m := 0) [27, 28, 29, 30, 31, 32, 33, 34, 35, 36, 37, 38, 39] [26, 25, 24, 23, 22, 21, 20, 19, 18, 17, 16, 15, 14, 13, 12, 11, 10, 9, 8, 7, 6, 5, 4, 3, 2, 1, 0] [] [0, 1, 2, 10, 11, 94] [(0, .slice (some ⟨p1, o1, none⟩) n c1), (1, .int .i64 radius), (2, .int .i64 depth), (10, .int .i64 b), (11, .int .i64 (k : Int)), (94, .bool true)] (fun w => True) hs ⟨e1, trivial⟩ (by kernel_rfl) (by kernel_rfl) (fun w ⟨e1, _⟩ => trivial) ?_
                  clear hs a; intro a hs
                  refine atD_done (by kernel_rfl) ?_
                  refine wayN_node rfl ?_
                  refine at_cond (t := 94) (j1 := 49) (j2 := 50) (b := true) (by kernel_rfl) hs rfl (fun _ => ?_) (fun hb => absurd (hb.symm.trans (show (true) = true from rfl)) (by decide))
                  refine at_region (id := 13) (by kernel_rfl) ?_
                  refine atR_seg (m := 2) (H := []) (ts := [0, 1, 2, 10, 11]) (L' := [(0, .slice (some ⟨p1, o1, none⟩) n c1), (1, .int .i64 radius), (2, .int .i64 depth), (10, .int .i64 (k : Int)), (11, .int .i64 (k : Int))]) (O := fun w => True) hs (by kernel_rfl) trivial ?_
                  clear hs a; intro a hs
                  refine atR_end (by kernel_rfl) ?_
                  refine wayN_node rfl ?_
                  refine at_region (id := 11) (by kernel_rfl) ?_
                  refine atR_seg (m := 3) (H := [(1, some (.int .i64 ((k : Int) + 1)), [])]) (ts := [0, 1, 2, 10, 11]) (L' := [(0, .slice (some ⟨p1, o1, none⟩) n c1), (1, .int .i64 radius), (2, .int .i64 depth), (10, .int .i64 (k : Int)), (11, .int .i64 ((k : Int) + 1))]) (O := fun w => (W .i64 ((k : Int) + 1)) ∧ True) hs (by kernel_rfl) ⟨w64 (by omega) (by omega), trivial⟩ ?_
                  clear hs a; intro a hs
                  refine atR_end (by kernel_rfl) ?_
                  refine wayN_back ?_
                  dsimp only [lpOf]
                  exact ⟨k + 1, (k : Int), ⟨hs.sub ⟨⟨_, rfl, (by first | rfl | (push_cast; rfl) | (congr 1; omega))⟩, ⟨_, rfl, rfl⟩, ⟨_, rfl, rfl⟩, ⟨_, rfl, rfl⟩, ⟨_, rfl, (by first | rfl | (push_cast; rfl) | (congr 1; omega))⟩, trivial⟩, hB, by omega, by rw [bst_succ ht, ← hbb, if_pos ⟨by dsimp only; omega, by assumption, by first | exact Or.inl hrj | (right; rw [hrj]; dsimp only; omega)⟩]⟩, by omega⟩
                · replace hs := hs.know (t := 78) rfl hb
                  have cd10 := hb; have cd10b := hb; clear hb
                  replace hs := hs.pick (ts := [0, 1, 2, 10, 11, 78]) (L' := [(0, .slice (some ⟨p1, o1, none⟩) n c1), (1, .int .i64 radius), (2, .int .i64 depth), (10, .int .i64 b), (11, .int .i64 (k : Int)), (78, .bool false)]) (by kernel_rfl)
                  refine atD_seg (m := 0) [24, 25, 26, 27, 28, 29, 30, 31, 32, 33, 34, 35, 36, 37, 38, 39] [23, 22, 21, 20, 19, 18, 17, 16, 15, 14, 13, 12, 11, 10, 9, 8, 7, 6, 5, 4, 3, 2, 1, 0] [] [0, 1, 2, 10, 11, 94] [(0, .slice (some ⟨p1, o1, none⟩) n c1), (1, .int .i64 radius), (2, .int .i64 depth), (10, .int .i64 b), (11, .int .i64 (k : Int)), (94, .bool false)] (fun w => True) hs ⟨e1, trivial⟩ (by kernel_rfl) (by kernel_rfl) (fun w ⟨e1, _⟩ => trivial) ?_
                  clear hs a; intro a hs
                  refine atD_done (by kernel_rfl) ?_
                  refine wayN_node rfl ?_
                  refine at_cond (t := 94) (j1 := 49) (j2 := 50) (b := false) (by kernel_rfl) hs rfl (fun hb => absurd (hb.symm.trans (show (false) = false from rfl)) (by decide)) (fun _ => ?_)
                  refine at_skip (by kernel_rfl) ?_
                  refine wayN_node rfl ?_
                  refine at_region (id := 11) (by kernel_rfl) ?_
                  refine atR_seg (m := 3) (H := [(1, some (.int .i64 ((k : Int) + 1)), [])]) (ts := [0, 1, 2, 10, 11]) (L' := [(0, .slice (some ⟨p1, o1, none⟩) n c1), (1, .int .i64 radius), (2, .int .i64 depth), (10, .int .i64 b), (11, .int .i64 ((k : Int) + 1))]) (O := fun w => (W .i64 ((k : Int) + 1)) ∧ True) hs (by kernel_rfl) ⟨w64 (by omega) (by omega), trivial⟩ ?_
                  clear hs a; intro a hs
                  refine atR_end (by kernel_rfl) ?_
                  refine wayN_back ?_
                  dsimp only [lpOf]
                  exact ⟨k + 1, b, ⟨hs.sub ⟨⟨_, rfl, (by first | rfl | (push_cast; rfl) | (congr 1; omega))⟩, ⟨_, rfl, rfl⟩, ⟨_, rfl, rfl⟩, ⟨_, rfl, rfl⟩, ⟨_, rfl, (by first | rfl | (push_cast; rfl) | (congr 1; omega))⟩, trivial⟩, hB, by omega, by rw [bst_succ ht, ← hbb, if_neg (by rintro ⟨h1, h2, h3⟩; have hmp := mills_pos h2; dsimp only at h1 h2 h3 hmp; (try rw [hrj] at h3); first | omega | (simp_all; done) | (simp_all; omega))]⟩, by omega⟩
              · replace hs := hs.know (t := 70) rfl hb
                have cd9 := hb; have cd9b := hb; clear hb
                replace cd9 := of_decide_eq_false cd9
                replace hs := hs.pick (ts := [0, 1, 2, 10, 11, 70]) (L' := [(0, .slice (some ⟨p1, o1, none⟩) n c1), (1, .int .i64 radius), (2, .int .i64 depth), (10, .int .i64 b), (11, .int .i64 (k : Int)), (70, .bool false)]) (by kernel_rfl)
                refine atD_seg (m := 0) [16, 17, 18, 19, 20, 21, 22, 23, 24, 25, 26, 27, 28, 29, 30, 31, 32, 33, 34, 35, 36, 37, 38, 39] [15, 14, 13, 12, 11, 10, 9, 8, 7, 6, 5, 4, 3, 2, 1, 0] [] [0, 1, 2, 10, 11, 94] [(0, .slice (some ⟨p1, o1, none⟩) n c1), (1, .int .i64 radius), (2, .int .i64 depth), (10, .int .i64 b), (11, .int .i64 (k : Int)), (94, .bool false)] (fun w => True) hs ⟨e1, trivial⟩ (by kernel_rfl) (by kernel_rfl) (fun w ⟨e1, _⟩ => trivial) ?_
                clear hs a; intro a hs
                refine atD_done (by kernel_rfl) ?_
                refine wayN_node rfl ?_
                refine at_cond (t := 94) (j1 := 49) (j2 := 50) (b := false) (by kernel_rfl) hs rfl (fun hb => absurd (hb.symm.trans (show (false) = false from rfl)) (by decide)) (fun _ => ?_)
                refine at_skip (by kernel_rfl) ?_
                refine wayN_node rfl ?_
                refine at_region (id := 11) (by kernel_rfl) ?_
                refine atR_seg (m := 3) (H := [(1, some (.int .i64 ((k : Int) + 1)), [])]) (ts := [0, 1, 2, 10, 11]) (L' := [(0, .slice (some ⟨p1, o1, none⟩) n c1), (1, .int .i64 radius), (2, .int .i64 depth), (10, .int .i64 b), (11, .int .i64 ((k : Int) + 1))]) (O := fun w => (W .i64 ((k : Int) + 1)) ∧ True) hs (by kernel_rfl) ⟨w64 (by omega) (by omega), trivial⟩ ?_
                clear hs a; intro a hs
                refine atR_end (by kernel_rfl) ?_
                refine wayN_back ?_
                dsimp only [lpOf]
                exact ⟨k + 1, b, ⟨hs.sub ⟨⟨_, rfl, (by first | rfl | (push_cast; rfl) | (congr 1; omega))⟩, ⟨_, rfl, rfl⟩, ⟨_, rfl, rfl⟩, ⟨_, rfl, rfl⟩, ⟨_, rfl, (by first | rfl | (push_cast; rfl) | (congr 1; omega))⟩, trivial⟩, hB, by omega, by rw [bst_succ ht, ← hbb, if_neg (by rintro ⟨h1, h2, h3⟩; have hmp := mills_pos h2; dsimp only at h1 h2 h3 hmp; (try rw [hrj] at h3); first | omega | (simp_all; done) | (simp_all; omega))]⟩, by omega⟩
            · replace hs := hs.know (t := 62) rfl hb
              have cd8 := hb; have cd8b := hb; clear hb
              replace cd8 := of_decide_eq_false cd8
              replace hs := hs.pick (ts := [0, 1, 2, 10, 11, 62]) (L' := [(0, .slice (some ⟨p1, o1, none⟩) n c1), (1, .int .i64 radius), (2, .int .i64 depth), (10, .int .i64 b), (11, .int .i64 (k : Int)), (62, .bool false)]) (by kernel_rfl)
              refine atD_seg (m := 0) [8, 9, 10, 11, 12, 13, 14, 15, 16, 17, 18, 19, 20, 21, 22, 23, 24, 25, 26, 27, 28, 29, 30, 31, 32, 33, 34, 35, 36, 37, 38, 39] [7, 6, 5, 4, 3, 2, 1, 0] [] [0, 1, 2, 10, 11, 94] [(0, .slice (some ⟨p1, o1, none⟩) n c1), (1, .int .i64 radius), (2, .int .i64 depth), (10, .int .i64 b), (11, .int .i64 (k : Int)), (94, .bool false)] (fun w => True) hs ⟨e1, trivial⟩ (by kernel_rfl) (by kernel_rfl) (fun w ⟨e1, _⟩ => trivial) ?_
              clear hs a; intro a hs
              refine atD_done (by kernel_rfl) ?_
              refine wayN_node rfl ?_
              refine at_cond (t := 94) (j1 := 49) (j2 := 50) (b := false) (by kernel_rfl) hs rfl (fun hb => absurd (hb.symm.trans (show (false) = false from rfl)) (by decide)) (fun _ => ?_)
              refine at_skip (by kernel_rfl) ?_
              refine wayN_node rfl ?_
              refine at_region (id := 11) (by kernel_rfl) ?_
              refine atR_seg (m := 3) (H := [(1, some (.int .i64 ((k : Int) + 1)), [])]) (ts := [0, 1, 2, 10, 11]) (L' := [(0, .slice (some ⟨p1, o1, none⟩) n c1), (1, .int .i64 radius), (2, .int .i64 depth), (10, .int .i64 b), (11, .int .i64 ((k : Int) + 1))]) (O := fun w => (W .i64 ((k : Int) + 1)) ∧ True) hs (by kernel_rfl) ⟨w64 (by omega) (by omega), trivial⟩ ?_
              clear hs a; intro a hs
              refine atR_end (by kernel_rfl) ?_
              refine wayN_back ?_
              dsimp only [lpOf]
              exact ⟨k + 1, b, ⟨hs.sub ⟨⟨_, rfl, (by first | rfl | (push_cast; rfl) | (congr 1; omega))⟩, ⟨_, rfl, rfl⟩, ⟨_, rfl, rfl⟩, ⟨_, rfl, rfl⟩, ⟨_, rfl, (by first | rfl | (push_cast; rfl) | (congr 1; omega))⟩, trivial⟩, hB, by omega, by rw [bst_succ ht, ← hbb, if_neg (by rintro ⟨h1, h2, h3⟩; have hmp := mills_pos h2; dsimp only at h1 h2 h3 hmp; (try rw [hrj] at h3); first | omega | (simp_all; done) | (simp_all; omega))]⟩, by omega⟩
          · obtain ⟨p2, o2, t3, hA2, ht3, e2⟩ := (R1.below hB).elem (f := Tl.cs) (fun _ => rfl) hl (show j < n by omega)
            obtain rfl : t3 = t2 := by rw [ht2] at ht3; injection ht3 with e; exact e.symm
            have hrj := radAt_j ht2
            obtain ⟨num2, kind2, rad2, flu2, hol2, stp2, fd2, plu2⟩ := t3
            dsimp only at hrj
            injection hA2 with hA2; injection hA2 with hA3 hA4; subst hA3 hA4
            subst hbj
            refine at_draw (fun W => Ce w.heap.size W p1 (o1 + k * 8) [.int .i64 num, .int .i64 kind, .int .i64 rad, .int .i64 flu, .int .i64 hol, .int .i64 stp, .int .i64 fd, .int .i64 plu] ∧ Ce w.heap.size W p1 (o1 + j * 8) [.int .i64 num2, .int .i64 kind2, .int .i64 rad2, .int .i64 flu2, .int .i64 hol2, .int .i64 stp2, .int .i64 fd2, .int .i64 plu2] ∧ True) (id := 12) (by kernel_rfl) (by kernel_rfl) 40 (by kernel_rfl) ?_
            intro w5 hb
            replace e1 := e1.below hb
            replace e2 := e2.below hb
            replace hB := later hB hb
            clear hb
            refine atD_seg (m := 32) [0, 1, 2, 3, 4, 5, 6, 7] [] [(2, some (.pointer (some ⟨p1, o1 + k * 8, none⟩)), []), (4, none, [.int .i64 flu])] [0, 1, 2, 10, 11, 62] [(0, .slice (some ⟨p1, o1, none⟩) n c1), (1, .int .i64 radius), (2, .int .i64 depth), (10, .int .i64 (j : Int)), (11, .int .i64 (k : Int)), (62, .bool (decide (flu ≥ depth)))] (fun w => (.pointer (some ⟨p1, o1 + ((k : Int)).toNat * 8, none⟩) = Value.pointer (some ⟨p1, o1 + k * 8, none⟩)) ∧ ((0 : Int) ≤ (k : Int) ∧ (k : Int) < ((n : Nat) : Int)) ∧ (w.cell? ⟨p1, o1 + k * 8 + 3, none⟩ = some (.int .i64 flu)) ∧ True) hs ⟨e1, e2, trivial⟩ (by kernel_rfl) (by kernel_rfl) (fun w ⟨e1, e2, _⟩ => ⟨by simp [Int.toNat_natCast], ⟨by omega, by omega⟩, e1.at_ 3 rfl, trivial⟩) ?_
            clear hs a; intro a hs
            rcases Bool.eq_false_or_eq_true (decide (flu ≥ depth)) with hb | hb
            · replace hs := hs.know (t := 62) rfl hb
              have cd11 := hb; have cd11b := hb; clear hb
              replace cd11 := of_decide_eq_true cd11
              replace hs := hs.pick (ts := [0, 1, 2, 10, 11, 62]) (L' := [(0, .slice (some ⟨p1, o1, none⟩) n c1), (1, .int .i64 radius), (2, .int .i64 depth), (10, .int .i64 (j : Int)), (11, .int .i64 (k : Int)), (62, .bool true)]) (by kernel_rfl)
              refine atD_seg (m := 24) [8, 9, 10, 11, 12, 13, 14, 15] [7, 6, 5, 4, 3, 2, 1, 0] [(10, some (.pointer (some ⟨p1, o1 + k * 8, none⟩)), []), (12, none, [.int .i64 rad])] [0, 1, 2, 10, 11, 70] [(0, .slice (some ⟨p1, o1, none⟩) n c1), (1, .int .i64 radius), (2, .int .i64 depth), (10, .int .i64 (j : Int)), (11, .int .i64 (k : Int)), (70, .bool (decide (rad > 0)))] (fun w => (.pointer (some ⟨p1, o1 + ((k : Int)).toNat * 8, none⟩) = Value.pointer (some ⟨p1, o1 + k * 8, none⟩)) ∧ ((0 : Int) ≤ (k : Int) ∧ (k : Int) < ((n : Nat) : Int)) ∧ (w.cell? ⟨p1, o1 + k * 8 + 2, none⟩ = some (.int .i64 rad)) ∧ True) hs ⟨e1, e2, trivial⟩ (by kernel_rfl) (by kernel_rfl) (fun w ⟨e1, e2, _⟩ => ⟨by simp [Int.toNat_natCast], ⟨by omega, by omega⟩, e1.at_ 2 rfl, trivial⟩) ?_
              clear hs a; intro a hs
              rcases Bool.eq_false_or_eq_true (decide (rad > 0)) with hb | hb
              · replace hs := hs.know (t := 70) rfl hb
                have cd12 := hb; have cd12b := hb; clear hb
                replace cd12 := of_decide_eq_true cd12
                replace hs := hs.pick (ts := [0, 1, 2, 10, 11, 70]) (L' := [(0, .slice (some ⟨p1, o1, none⟩) n c1), (1, .int .i64 radius), (2, .int .i64 depth), (10, .int .i64 (j : Int)), (11, .int .i64 (k : Int)), (70, .bool true)]) (by kernel_rfl)
                refine atD_seg (m := 19) [16, 17, 18, 19, 20] [15, 14, 13, 12, 11, 10, 9, 8, 7, 6, 5, 4, 3, 2, 1, 0] [(18, some (.pointer (some ⟨p1, o1 + k * 8, none⟩)), []), (19, none, [.int .i64 num, .int .i64 kind, .int .i64 rad, .int .i64 flu, .int .i64 hol, .int .i64 stp, .int .i64 fd, .int .i64 plu])] [0, 1, 2, 10, 11, 70, 74, 75] [(0, .slice (some ⟨p1, o1, none⟩) n c1), (1, .int .i64 radius), (2, .int .i64 depth), (10, .int .i64 (j : Int)), (11, .int .i64 (k : Int)), (70, .bool true), (74, .agg #[.int .i64 num, .int .i64 kind, .int .i64 rad, .int .i64 flu, .int .i64 hol, .int .i64 stp, .int .i64 fd, .int .i64 plu]), (75, .int .i64 radius)] (fun w => (.pointer (some ⟨p1, o1 + ((k : Int)).toNat * 8, none⟩) = Value.pointer (some ⟨p1, o1 + k * 8, none⟩)) ∧ ((0 : Int) ≤ (k : Int) ∧ (k : Int) < ((n : Nat) : Int)) ∧ (w.cell? ⟨p1, o1 + k * 8, none⟩ = some (.int .i64 num)) ∧ (w.cell? ⟨p1, o1 + k * 8 + 1, none⟩ = some (.int .i64 kind)) ∧ (w.cell? ⟨p1, o1 + k * 8 + 2, none⟩ = some (.int .i64 rad)) ∧ (w.cell? ⟨p1, o1 + k * 8 + 3, none⟩ = some (.int .i64 flu)) ∧ (w.cell? ⟨p1, o1 + k * 8 + 4, none⟩ = some (.int .i64 hol)) ∧ (w.cell? ⟨p1, o1 + k * 8 + 5, none⟩ = some (.int .i64 stp)) ∧ (w.cell? ⟨p1, o1 + k * 8 + 6, none⟩ = some (.int .i64 fd)) ∧ (w.cell? ⟨p1, o1 + k * 8 + 7, none⟩ = some (.int .i64 plu)) ∧ True) hs ⟨e1, e2, trivial⟩ (by kernel_rfl) (by kernel_rfl) (fun w ⟨e1, e2, _⟩ => ⟨by simp [Int.toNat_natCast], ⟨by omega, by omega⟩, e1.at0 rfl, e1.at_ 1 rfl, e1.at_ 2 rfl, e1.at_ 3 rfl, e1.at_ 4 rfl, e1.at_ 5 rfl, e1.at_ 6 rfl, e1.at_ 7 rfl, trivial⟩) ?_
                clear hs a; intro a hs
                refine atD_op (m := 18) (j := 21) (D := [20, 19, 18, 17, 16, 15, 14, 13, 12, 11, 10, 9, 8, 7, 6, 5, 4, 3, 2, 1, 0]) hs (by kernel_rfl) (by kernel_rfl) (call1 (f := 29) (args := #[.agg #[.int .i64 num, .int .i64 kind, .int .i64 rad, .int .i64 flu, .int .i64 hol, .int .i64 stp, .int .i64 fd, .int .i64 plu], .int .i64 radius]) [0, 1, 2, 10, 11, 70, 76] (fun rv_ => [(0, .slice (some ⟨p1, o1, none⟩) n c1), (1, .int .i64 radius), (2, .int .i64 depth), (10, .int .i64 (j : Int)), (11, .int .i64 (k : Int)), (70, .bool true), (76, rv_)]) hs (by kernel_rfl) (fun _ => by kernel_rfl) ?_)
                refine (rmills_any (⟨num, kind, rad, flu, hol, stp, fd, plu⟩ : Tl) _ _ (by dsimp only; omega) (by omega)).mono ?_
                rintro e w6 ⟨rfl, hb⟩
                refine ⟨_, rfl, ?_⟩
                clear hs a; intro a hs
                replace e1 := e1.below hb
                replace e2 := e2.below hb
                replace hB := later hB hb
                clear hb
                refine ⟨⟨e1, e2, trivial⟩, ?_⟩
                refine atD_seg (m := 16) [22, 23] [21, 20, 19, 18, 17, 16, 15, 14, 13, 12, 11, 10, 9, 8, 7, 6, 5, 4, 3, 2, 1, 0] [] [0, 1, 2, 10, 11, 78] [(0, .slice (some ⟨p1, o1, none⟩) n c1), (1, .int .i64 radius), (2, .int .i64 depth), (10, .int .i64 (j : Int)), (11, .int .i64 (k : Int)), (78, .bool ((⟨num, kind, rad, flu, hol, stp, fd, plu⟩ : Tl).mills radius))] (fun w => True) hs ⟨e1, e2, trivial⟩ (by kernel_rfl) (by kernel_rfl) (fun w ⟨e1, e2, _⟩ => trivial) ?_
                clear hs a; intro a hs
                rcases Bool.eq_false_or_eq_true ((⟨num, kind, rad, flu, hol, stp, fd, plu⟩ : Tl).mills radius) with hb | hb
                · replace hs := hs.know (t := 78) rfl hb
                  have cd13 := hb; have cd13b := hb; clear hb
                  replace hs := hs.pick (ts := [0, 1, 2, 10, 11, 78]) (L' := [(0, .slice (some ⟨p1, o1, none⟩) n c1), (1, .int .i64 radius), (2, .int .i64 depth), (10, .int .i64 (j : Int)), (11, .int .i64 (k : Int)), (78, .bool true)]) (by kernel_rfl)
                  refine atD_seg (m := 13) [24, 25, 26] [23, 22, 21, 20, 19, 18, 17, 16, 15, 14, 13, 12, 11, 10, 9, 8, 7, 6, 5, 4, 3, 2, 1, 0] [] [0, 1, 2, 10, 11, 78, 81] [(0, .slice (some ⟨p1, o1, none⟩) n c1), (1, .int .i64 radius), (2, .int .i64 depth), (10, .int .i64 (j : Int)), (11, .int .i64 (k : Int)), (78, .bool true), (81, .bool (decide ((j : Int) < 0)))] (fun w => True) hs ⟨e1, e2, trivial⟩ (by kernel_rfl) (by kernel_rfl) (fun w ⟨e1, e2, _⟩ => trivial) ?_
                  clear hs a; intro a hs
                  rcases Bool.eq_false_or_eq_true (decide ((j : Int) < 0)) with hb | hb
                  · replace hs := hs.know (t := 81) rfl hb
                    have cd14 := hb; have cd14b := hb; clear hb
                    replace cd14 := of_decide_eq_true cd14
                    replace hs := hs.pick (ts := [0, 1, 2, 10, 11, 78, 81]) (L' := [(0, .slice (some ⟨p1, o1, none⟩) n c1), (1, .int .i64 radius), (2, .int .i64 depth), (10, .int .i64 (j : Int)), (11, .int .i64 (k : Int)), (78, .bool true), (81, .bool true)]) (by kernel_rfl)
                    refine atD_seg (m := 0) [27, 28, 29, 30, 31, 32, 33, 34, 35, 36, 37, 38, 39] [26, 25, 24, 23, 22, 21, 20, 19, 18, 17, 16, 15, 14, 13, 12, 11, 10, 9, 8, 7, 6, 5, 4, 3, 2, 1, 0] [] [0, 1, 2, 10, 11, 94] [(0, .slice (some ⟨p1, o1, none⟩) n c1), (1, .int .i64 radius), (2, .int .i64 depth), (10, .int .i64 (j : Int)), (11, .int .i64 (k : Int)), (94, .bool true)] (fun w => True) hs ⟨e1, e2, trivial⟩ (by kernel_rfl) (by kernel_rfl) (fun w ⟨e1, e2, _⟩ => trivial) ?_
                    clear hs a; intro a hs
                    refine atD_done (by kernel_rfl) ?_
                    refine wayN_node rfl ?_
                    refine at_cond (t := 94) (j1 := 49) (j2 := 50) (b := true) (by kernel_rfl) hs rfl (fun _ => ?_) (fun hb => absurd (hb.symm.trans (show (true) = true from rfl)) (by decide))
                    refine at_region (id := 13) (by kernel_rfl) ?_
                    refine atR_seg (m := 2) (H := []) (ts := [0, 1, 2, 10, 11]) (L' := [(0, .slice (some ⟨p1, o1, none⟩) n c1), (1, .int .i64 radius), (2, .int .i64 depth), (10, .int .i64 (k : Int)), (11, .int .i64 (k : Int))]) (O := fun w => True) hs (by kernel_rfl) trivial ?_
                    clear hs a; intro a hs
                    refine atR_end (by kernel_rfl) ?_
                    refine wayN_node rfl ?_
                    refine at_region (id := 11) (by kernel_rfl) ?_
                    refine atR_seg (m := 3) (H := [(1, some (.int .i64 ((k : Int) + 1)), [])]) (ts := [0, 1, 2, 10, 11]) (L' := [(0, .slice (some ⟨p1, o1, none⟩) n c1), (1, .int .i64 radius), (2, .int .i64 depth), (10, .int .i64 (k : Int)), (11, .int .i64 ((k : Int) + 1))]) (O := fun w => (W .i64 ((k : Int) + 1)) ∧ True) hs (by kernel_rfl) ⟨w64 (by omega) (by omega), trivial⟩ ?_
                    clear hs a; intro a hs
                    refine atR_end (by kernel_rfl) ?_
                    refine wayN_back ?_
                    dsimp only [lpOf]
                    exact ⟨k + 1, (k : Int), ⟨hs.sub ⟨⟨_, rfl, (by first | rfl | (push_cast; rfl) | (congr 1; omega))⟩, ⟨_, rfl, rfl⟩, ⟨_, rfl, rfl⟩, ⟨_, rfl, rfl⟩, ⟨_, rfl, (by first | rfl | (push_cast; rfl) | (congr 1; omega))⟩, trivial⟩, hB, by omega, by rw [bst_succ ht, ← hbb, if_pos ⟨by dsimp only; omega, by assumption, by first | exact Or.inl hrj | (right; rw [hrj]; dsimp only; omega)⟩]⟩, by omega⟩
                  · replace hs := hs.know (t := 81) rfl hb
                    have cd14 := hb; have cd14b := hb; clear hb
                    replace cd14 := of_decide_eq_false cd14
                    replace hs := hs.pick (ts := [0, 1, 2, 10, 11, 78, 81]) (L' := [(0, .slice (some ⟨p1, o1, none⟩) n c1), (1, .int .i64 radius), (2, .int .i64 depth), (10, .int .i64 (j : Int)), (11, .int .i64 (k : Int)), (78, .bool true), (81, .bool false)]) (by kernel_rfl)
                    refine atD_seg (m := 0) [27, 28, 29, 30, 31, 32, 33, 34, 35, 36, 37, 38, 39] [26, 25, 24, 23, 22, 21, 20, 19, 18, 17, 16, 15, 14, 13, 12, 11, 10, 9, 8, 7, 6, 5, 4, 3, 2, 1, 0] [(29, some (.pointer (some ⟨p1, o1 + k * 8, none⟩)), []), (31, none, [.int .i64 rad]), (34, some (.pointer (some ⟨p1, o1 + j * 8, none⟩)), []), (36, none, [.int .i64 rad2])] [0, 1, 2, 10, 11, 94] [(0, .slice (some ⟨p1, o1, none⟩) n c1), (1, .int .i64 radius), (2, .int .i64 depth), (10, .int .i64 (j : Int)), (11, .int .i64 (k : Int)), (94, .bool (decide (rad > rad2)))] (fun w => (.pointer (some ⟨p1, o1 + ((k : Int)).toNat * 8, none⟩) = Value.pointer (some ⟨p1, o1 + k * 8, none⟩)) ∧ ((0 : Int) ≤ (k : Int) ∧ (k : Int) < ((n : Nat) : Int)) ∧ (w.cell? ⟨p1, o1 + k * 8 + 2, none⟩ = some (.int .i64 rad)) ∧ (.pointer (some ⟨p1, o1 + ((j : Int)).toNat * 8, none⟩) = Value.pointer (some ⟨p1, o1 + j * 8, none⟩)) ∧ ((0 : Int) ≤ (j : Int) ∧ (j : Int) < ((n : Nat) : Int)) ∧ (w.cell? ⟨p1, o1 + j * 8 + 2, none⟩ = some (.int .i64 rad2)) ∧ True) hs ⟨e1, e2, trivial⟩ (by kernel_rfl) (by kernel_rfl) (fun w ⟨e1, e2, _⟩ => ⟨by simp [Int.toNat_natCast], ⟨by omega, by omega⟩, e1.at_ 2 rfl, by simp [Int.toNat_natCast], ⟨by omega, by omega⟩, e2.at_ 2 rfl, trivial⟩) ?_
                    clear hs a; intro a hs
                    refine atD_done (by kernel_rfl) ?_
                    refine wayN_node rfl ?_
                    refine at_cond (t := 94) (j1 := 49) (j2 := 50) (b := decide (rad > rad2)) (by kernel_rfl) hs rfl (fun hb => ?_) (fun hb => ?_)
                    · have cd15 := hb; have cd15b := hb; clear hb
                      replace cd15 := of_decide_eq_true cd15
                      refine at_region (id := 13) (by kernel_rfl) ?_
                      refine atR_seg (m := 2) (H := []) (ts := [0, 1, 2, 10, 11]) (L' := [(0, .slice (some ⟨p1, o1, none⟩) n c1), (1, .int .i64 radius), (2, .int .i64 depth), (10, .int .i64 (k : Int)), (11, .int .i64 (k : Int))]) (O := fun w => True) hs (by kernel_rfl) trivial ?_
                      clear hs a; intro a hs
                      refine atR_end (by kernel_rfl) ?_
                      refine wayN_node rfl ?_
                      refine at_region (id := 11) (by kernel_rfl) ?_
                      refine atR_seg (m := 3) (H := [(1, some (.int .i64 ((k : Int) + 1)), [])]) (ts := [0, 1, 2, 10, 11]) (L' := [(0, .slice (some ⟨p1, o1, none⟩) n c1), (1, .int .i64 radius), (2, .int .i64 depth), (10, .int .i64 (k : Int)), (11, .int .i64 ((k : Int) + 1))]) (O := fun w => (W .i64 ((k : Int) + 1)) ∧ True) hs (by kernel_rfl) ⟨w64 (by omega) (by omega), trivial⟩ ?_
                      clear hs a; intro a hs
                      refine atR_end (by kernel_rfl) ?_
                      refine wayN_back ?_
                      dsimp only [lpOf]
                      exact ⟨k + 1, (k : Int), ⟨hs.sub ⟨⟨_, rfl, (by first | rfl | (push_cast; rfl) | (congr 1; omega))⟩, ⟨_, rfl, rfl⟩, ⟨_, rfl, rfl⟩, ⟨_, rfl, rfl⟩, ⟨_, rfl, (by first | rfl | (push_cast; rfl) | (congr 1; omega))⟩, trivial⟩, hB, by omega, by rw [bst_succ ht, ← hbb, if_pos ⟨by dsimp only; omega, by assumption, by first | exact Or.inl hrj | (right; rw [hrj]; dsimp only; omega)⟩]⟩, by omega⟩
                    · have cd15 := hb; have cd15b := hb; clear hb
                      replace cd15 := of_decide_eq_false cd15
                      refine at_skip (by kernel_rfl) ?_
                      refine wayN_node rfl ?_
                      refine at_region (id := 11) (by kernel_rfl) ?_
                      refine atR_seg (m := 3) (H := [(1, some (.int .i64 ((k : Int) + 1)), [])]) (ts := [0, 1, 2, 10, 11]) (L' := [(0, .slice (some ⟨p1, o1, none⟩) n c1), (1, .int .i64 radius), (2, .int .i64 depth), (10, .int .i64 (j : Int)), (11, .int .i64 ((k : Int) + 1))]) (O := fun w => (W .i64 ((k : Int) + 1)) ∧ True) hs (by kernel_rfl) ⟨w64 (by omega) (by omega), trivial⟩ ?_
                      clear hs a; intro a hs
                      refine atR_end (by kernel_rfl) ?_
                      refine wayN_back ?_
                      dsimp only [lpOf]
                      exact ⟨k + 1, (j : Int), ⟨hs.sub ⟨⟨_, rfl, (by first | rfl | (push_cast; rfl) | (congr 1; omega))⟩, ⟨_, rfl, rfl⟩, ⟨_, rfl, rfl⟩, ⟨_, rfl, rfl⟩, ⟨_, rfl, (by first | rfl | (push_cast; rfl) | (congr 1; omega))⟩, trivial⟩, hB, by omega, by rw [bst_succ ht, ← hbb, if_neg (by rintro ⟨h1, h2, h3⟩; have hmp := mills_pos h2; dsimp only at h1 h2 h3 hmp; (try rw [hrj] at h3); first | omega | (simp_all; done) | (simp_all; omega))]⟩, by omega⟩
                · replace hs := hs.know (t := 78) rfl hb
                  have cd13 := hb; have cd13b := hb; clear hb
                  replace hs := hs.pick (ts := [0, 1, 2, 10, 11, 78]) (L' := [(0, .slice (some ⟨p1, o1, none⟩) n c1), (1, .int .i64 radius), (2, .int .i64 depth), (10, .int .i64 (j : Int)), (11, .int .i64 (k : Int)), (78, .bool false)]) (by kernel_rfl)
                  refine atD_seg (m := 0) [24, 25, 26, 27, 28, 29, 30, 31, 32, 33, 34, 35, 36, 37, 38, 39] [23, 22, 21, 20, 19, 18, 17, 16, 15, 14, 13, 12, 11, 10, 9, 8, 7, 6, 5, 4, 3, 2, 1, 0] [] [0, 1, 2, 10, 11, 94] [(0, .slice (some ⟨p1, o1, none⟩) n c1), (1, .int .i64 radius), (2, .int .i64 depth), (10, .int .i64 (j : Int)), (11, .int .i64 (k : Int)), (94, .bool false)] (fun w => True) hs ⟨e1, e2, trivial⟩ (by kernel_rfl) (by kernel_rfl) (fun w ⟨e1, e2, _⟩ => trivial) ?_
                  clear hs a; intro a hs
                  refine atD_done (by kernel_rfl) ?_
                  refine wayN_node rfl ?_
                  refine at_cond (t := 94) (j1 := 49) (j2 := 50) (b := false) (by kernel_rfl) hs rfl (fun hb => absurd (hb.symm.trans (show (false) = false from rfl)) (by decide)) (fun _ => ?_)
                  refine at_skip (by kernel_rfl) ?_
                  refine wayN_node rfl ?_
                  refine at_region (id := 11) (by kernel_rfl) ?_
                  refine atR_seg (m := 3) (H := [(1, some (.int .i64 ((k : Int) + 1)), [])]) (ts := [0, 1, 2, 10, 11]) (L' := [(0, .slice (some ⟨p1, o1, none⟩) n c1), (1, .int .i64 radius), (2, .int .i64 depth), (10, .int .i64 (j : Int)), (11, .int .i64 ((k : Int) + 1))]) (O := fun w => (W .i64 ((k : Int) + 1)) ∧ True) hs (by kernel_rfl) ⟨w64 (by omega) (by omega), trivial⟩ ?_
                  clear hs a; intro a hs
                  refine atR_end (by kernel_rfl) ?_
                  refine wayN_back ?_
                  dsimp only [lpOf]
                  exact ⟨k + 1, (j : Int), ⟨hs.sub ⟨⟨_, rfl, (by first | rfl | (push_cast; rfl) | (congr 1; omega))⟩, ⟨_, rfl, rfl⟩, ⟨_, rfl, rfl⟩, ⟨_, rfl, rfl⟩, ⟨_, rfl, (by first | rfl | (push_cast; rfl) | (congr 1; omega))⟩, trivial⟩, hB, by omega, by rw [bst_succ ht, ← hbb, if_neg (by rintro ⟨h1, h2, h3⟩; have hmp := mills_pos h2; dsimp only at h1 h2 h3 hmp; (try rw [hrj] at h3); first | omega | (simp_all; done) | (simp_all; omega))]⟩, by omega⟩
              · replace hs := hs.know (t := 70) rfl hb
                have cd12 := hb; have cd12b := hb; clear hb
                replace cd12 := of_decide_eq_false cd12
                replace hs := hs.pick (ts := [0, 1, 2, 10, 11, 70]) (L' := [(0, .slice (some ⟨p1, o1, none⟩) n c1), (1, .int .i64 radius), (2, .int .i64 depth), (10, .int .i64 (j : Int)), (11, .int .i64 (k : Int)), (70, .bool false)]) (by kernel_rfl)
                refine atD_seg (m := 0) [16, 17, 18, 19, 20, 21, 22, 23, 24, 25, 26, 27, 28, 29, 30, 31, 32, 33, 34, 35, 36, 37, 38, 39] [15, 14, 13, 12, 11, 10, 9, 8, 7, 6, 5, 4, 3, 2, 1, 0] [] [0, 1, 2, 10, 11, 94] [(0, .slice (some ⟨p1, o1, none⟩) n c1), (1, .int .i64 radius), (2, .int .i64 depth), (10, .int .i64 (j : Int)), (11, .int .i64 (k : Int)), (94, .bool false)] (fun w => True) hs ⟨e1, e2, trivial⟩ (by kernel_rfl) (by kernel_rfl) (fun w ⟨e1, e2, _⟩ => trivial) ?_
                clear hs a; intro a hs
                refine atD_done (by kernel_rfl) ?_
                refine wayN_node rfl ?_
                refine at_cond (t := 94) (j1 := 49) (j2 := 50) (b := false) (by kernel_rfl) hs rfl (fun hb => absurd (hb.symm.trans (show (false) = false from rfl)) (by decide)) (fun _ => ?_)
                refine at_skip (by kernel_rfl) ?_
                refine wayN_node rfl ?_
                refine at_region (id := 11) (by kernel_rfl) ?_
                refine atR_seg (m := 3) (H := [(1, some (.int .i64 ((k : Int) + 1)), [])]) (ts := [0, 1, 2, 10, 11]) (L' := [(0, .slice (some ⟨p1, o1, none⟩) n c1), (1, .int .i64 radius), (2, .int .i64 depth), (10, .int .i64 (j : Int)), (11, .int .i64 ((k : Int) + 1))]) (O := fun w => (W .i64 ((k : Int) + 1)) ∧ True) hs (by kernel_rfl) ⟨w64 (by omega) (by omega), trivial⟩ ?_
                clear hs a; intro a hs
                refine atR_end (by kernel_rfl) ?_
                refine wayN_back ?_
                dsimp only [lpOf]
                exact ⟨k + 1, (j : Int), ⟨hs.sub ⟨⟨_, rfl, (by first | rfl | (push_cast; rfl) | (congr 1; omega))⟩, ⟨_, rfl, rfl⟩, ⟨_, rfl, rfl⟩, ⟨_, rfl, rfl⟩, ⟨_, rfl, (by first | rfl | (push_cast; rfl) | (congr 1; omega))⟩, trivial⟩, hB, by omega, by rw [bst_succ ht, ← hbb, if_neg (by rintro ⟨h1, h2, h3⟩; have hmp := mills_pos h2; dsimp only at h1 h2 h3 hmp; (try rw [hrj] at h3); first | omega | (simp_all; done) | (simp_all; omega))]⟩, by omega⟩
            · replace hs := hs.know (t := 62) rfl hb
              have cd11 := hb; have cd11b := hb; clear hb
              replace cd11 := of_decide_eq_false cd11
              replace hs := hs.pick (ts := [0, 1, 2, 10, 11, 62]) (L' := [(0, .slice (some ⟨p1, o1, none⟩) n c1), (1, .int .i64 radius), (2, .int .i64 depth), (10, .int .i64 (j : Int)), (11, .int .i64 (k : Int)), (62, .bool false)]) (by kernel_rfl)
              refine atD_seg (m := 0) [8, 9, 10, 11, 12, 13, 14, 15, 16, 17, 18, 19, 20, 21, 22, 23, 24, 25, 26, 27, 28, 29, 30, 31, 32, 33, 34, 35, 36, 37, 38, 39] [7, 6, 5, 4, 3, 2, 1, 0] [] [0, 1, 2, 10, 11, 94] [(0, .slice (some ⟨p1, o1, none⟩) n c1), (1, .int .i64 radius), (2, .int .i64 depth), (10, .int .i64 (j : Int)), (11, .int .i64 (k : Int)), (94, .bool false)] (fun w => True) hs ⟨e1, e2, trivial⟩ (by kernel_rfl) (by kernel_rfl) (fun w ⟨e1, e2, _⟩ => trivial) ?_
              clear hs a; intro a hs
              refine atD_done (by kernel_rfl) ?_
              refine wayN_node rfl ?_
              refine at_cond (t := 94) (j1 := 49) (j2 := 50) (b := false) (by kernel_rfl) hs rfl (fun hb => absurd (hb.symm.trans (show (false) = false from rfl)) (by decide)) (fun _ => ?_)
              refine at_skip (by kernel_rfl) ?_
              refine wayN_node rfl ?_
              refine at_region (id := 11) (by kernel_rfl) ?_
              refine atR_seg (m := 3) (H := [(1, some (.int .i64 ((k : Int) + 1)), [])]) (ts := [0, 1, 2, 10, 11]) (L' := [(0, .slice (some ⟨p1, o1, none⟩) n c1), (1, .int .i64 radius), (2, .int .i64 depth), (10, .int .i64 (j : Int)), (11, .int .i64 ((k : Int) + 1))]) (O := fun w => (W .i64 ((k : Int) + 1)) ∧ True) hs (by kernel_rfl) ⟨w64 (by omega) (by omega), trivial⟩ ?_
              clear hs a; intro a hs
              refine atR_end (by kernel_rfl) ?_
              refine wayN_back ?_
              dsimp only [lpOf]
              exact ⟨k + 1, (j : Int), ⟨hs.sub ⟨⟨_, rfl, (by first | rfl | (push_cast; rfl) | (congr 1; omega))⟩, ⟨_, rfl, rfl⟩, ⟨_, rfl, rfl⟩, ⟨_, rfl, rfl⟩, ⟨_, rfl, (by first | rfl | (push_cast; rfl) | (congr 1; omega))⟩, trivial⟩, hB, by omega, by rw [bst_succ ht, ← hbb, if_neg (by rintro ⟨h1, h2, h3⟩; have hmp := mills_pos h2; dsimp only at h1 h2 h3 hmp; (try rw [hrj] at h3); first | omega | (simp_all; done) | (simp_all; omega))]⟩, by omega⟩
        · have cd7 := hb; have cd7b := hb; clear hb
          replace cd7 := of_decide_eq_false cd7
          refine at_exit (id := 2) (by kernel_rfl) (wayE_ok rfl ?_)
          refine wayN_node rfl ?_
          refine at_seq (j := 60) (by kernel_rfl) ?_
          refine at_seq (j := 55) (by kernel_rfl) ?_
          refine at_region (id := 14) (by kernel_rfl) ?_
          refine atR_seg (m := 2) (H := []) (ts := [10, 97]) (L' := [(10, .int .i64 b), (97, .bool (decide (b < 0)))]) (O := fun w => True) hs (by kernel_rfl) trivial ?_
          clear hs a; intro a hs
          refine atR_end (by kernel_rfl) ?_
          refine wayN_node rfl ?_
          refine at_cond (t := 97) (j1 := 56) (j2 := 59) (b := decide (b < 0)) (by kernel_rfl) hs rfl (fun hb => ?_) (fun hb => ?_)
          · have cd16 := hb; have cd16b := hb; clear hb
            replace cd16 := of_decide_eq_true cd16
            refine at_seq (j := 58) (by kernel_rfl) ?_
            refine at_region (id := 15) (by kernel_rfl) ?_
            refine atR_seg (m := 3) (H := []) (ts := [6, 7, 8]) (L' := [(6, .int .i64 0), (7, .bool false), (8, .int .i64 16)]) (O := fun w => True) hs (by kernel_rfl) trivial ?_
            clear hs a; intro a hs
            refine atR_end (by kernel_rfl) ?_
            refine wayN_node rfl ?_
            refine at_ret (by kernel_rfl) ?_
            refine at_end (vs := [.int .i64 0, .bool false, .int .i64 16]) (H := []) (v := .tuple #[.int .i64 0, .bool false, .int .i64 16]) (O := fun w => True) hs (by kernel_rfl) rfl trivial ?_
            obtain rfl : k = ts.length := by omega
            exact match_none (by omega) hnoD hbb (by omega) hB
          · have cd16 := hb; have cd16b := hb; clear hb
            replace cd16 := of_decide_eq_false cd16
            refine at_skip (by kernel_rfl) ?_
            refine wayN_node rfl ?_
            refine at_seq (j := 62) (by kernel_rfl) ?_
            refine at_region (id := 16) (by kernel_rfl) ?_
            refine atR_seg (m := 4) (H := []) (ts := [6, 7, 8]) (L' := [(6, .int .i64 b), (7, .bool false), (8, .int .i64 0)]) (O := fun w => True) hs (by kernel_rfl) trivial ?_
            clear hs a; intro a hs
            refine atR_end (by kernel_rfl) ?_
            refine wayN_node rfl ?_
            refine at_ret (by kernel_rfl) ?_
            refine at_end (vs := [.int .i64 b, .bool false, .int .i64 0]) (H := []) (v := .tuple #[.int .i64 b, .bool false, .int .i64 0]) (O := fun w => True) hs (by kernel_rfl) rfl trivial ?_
            obtain rfl : k = ts.length := by omega
            exact match_best (by omega) hnoD hbb (by omega) hB
end Go.Proofs.YtpiabmjipgfjjaaDoor
