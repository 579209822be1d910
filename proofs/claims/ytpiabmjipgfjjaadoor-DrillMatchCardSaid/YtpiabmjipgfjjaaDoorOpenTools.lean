/- A list of tools as an argument. -/
import Derived.Test.YtpiabmjipgfjjaaDoorLawFrame
import Derived.Test.YtpiabmjipgfjjaaDoorMatch
import Derived.Deep.Slices
namespace Go.Proofs.YtpiabmjipgfjjaaDoor
open Go.ChangeShapes Go.WideShapes Go.ChangeAt Go.WideMaps Go.WideElems Go.RowKit
theorem flatMap_get {α : Type} {f : α → List Value} {s : Nat} (hs : 0 < s) (hf : ∀ m, (f m).length = s) : ∀ (ts : List α) (j : Nat) (u : Value), (ts.flatMap f)[j]? = some u → ∃ t, ts[j / s]? = some t ∧ (f t)[j % s]? = some u
  | [], j, u, h => by simp at h
  | m :: ts, j, u, h => by
    rw [List.flatMap_cons] at h
    rcases Nat.lt_or_ge j s with hj | hj
    · rw [List.getElem?_append_left (by rw [hf]; exact hj)] at h
      exact ⟨m, by rw [Nat.div_eq_of_lt hj]; rfl, by rw [Nat.mod_eq_of_lt hj]; exact h⟩
    · rw [List.getElem?_append_right (by rw [hf]; exact hj), hf] at h
      obtain ⟨t, h1, h2⟩ := flatMap_get hs hf ts (j - s) u h
      refine ⟨t, ?_, ?_⟩
      · rw [Nat.div_eq_sub_div hs hj]; simpa using h1
      · rw [Nat.mod_eq_sub_mod hj]; exact h2
theorem flatMap_len {α : Type} {f : α → List Value} {s : Nat} (hf : ∀ m, (f m).length = s) : ∀ ts : List α, (ts.flatMap f).length = ts.length * s
  | [] => by simp
  | m :: ts => by rw [List.flatMap_cons, List.length_append, flatMap_len hf ts, hf, List.length_cons, Nat.succ_mul, Nat.add_comm]
theorem cell_lt {w : World} {a : Addr} {v : Value} (h : w.cell? a = some v) : a.block < w.heap.size ∧ a.spot = none := by
  unfold World.cell? at h
  split at h
  · rename_i hb
    refine ⟨(Array.getElem?_eq_some_iff.1 hb).1, ?_⟩
    split at h
    · cases h
    · rename_i hn; simpa using hn
  · cases h
theorem mapM_get {α β : Type} {f : α → Option β} : ∀ {l : List α} {r : List β}, l.mapM f = some r → r.length = l.length ∧ ∀ (j : Nat) (y : β), r[j]? = some y → ∃ x, l[j]? = some x ∧ f x = some y
  | [], r, h => by simp at h; subst h; simp
  | x :: l, r, h => by
    rw [List.mapM_cons] at h
    cases hx : f x with
    | none => rw [hx] at h; simp at h
    | some y =>
      rw [hx] at h
      cases hl : l.mapM f with
      | none => rw [hl] at h; simp at h
      | some r' =>
        rw [hl] at h
        obtain rfl : y :: r' = r := by simpa using h
        obtain ⟨h1, h2⟩ := mapM_get hl
        refine ⟨by simp [h1], fun j z hz => ?_⟩
        cases j with
        | zero => exact ⟨x, rfl, by simpa [hx] using hz⟩
        | succ j => obtain ⟨u, h3, h4⟩ := h2 j z (by simpa using hz); exact ⟨u, by simpa using h3, h4⟩
theorem cells_get {w : World} {base n : Nat} {a : Addr} {l : List Value} (h : w.cells? base a n = some l) : l.length = n ∧ ∀ (j : Nat) (v : Value), l[j]? = some v → w.cell? (a.add j) = some v := by
  unfold World.cells? at h
  split at h
  · obtain ⟨h1, h2⟩ := mapM_get h
    refine ⟨by simpa using h1, fun j v hv => ?_⟩
    obtain ⟨x, h3, h4⟩ := h2 j v hv
    obtain ⟨h5, h6⟩ := List.getElem?_eq_some_iff.1 h3
    rw [List.getElem_range] at h6
    rw [h6]; exact h4
  · cases h
theorem tool_cells {H : Type} {enc : TypeId × Value → H} {w : World} {base fuel : Nat} {spare : Nat → Bool} {held : Bool} {l : List Value} {x : DataW H × List MemPlace} (hf : DataW.trod enc Tryd.prog w base spare held fuel 33 l = some x) (hl : l.length = 8) : ∃ t : Tl, l = t.cs ∧ t.ok := by
  match l, hl with
  | [c0, c1, c2, c3, c4, c5, c6, c7], _ =>
    obtain ⟨xs, n, _, hx, _, hlen, hg⟩ := DataW.trod_struct Tryd.underlying33 hf
    have g0 := hg 0 _ rfl
    obtain ⟨y0, hy0⟩ : ∃ y, xs[0]? = some y := ⟨xs[0]'(by rw [hlen]; exact Nat.le_of_ble_eq_true rfl), List.getElem?_eq_getElem _⟩
    rw [hy0] at g0
    have k0 : Tryd.prog.cellsOf 3 = 1 := by kernel_rfl
    obtain ⟨m0, q0, _, z0⟩ := DataW.trod_int (t := 3) Tryd.underlying3 (by simpa [Value.cells, k0] using g0)
    simp at q0
    have g1 := hg 1 _ rfl
    obtain ⟨y1, hy1⟩ : ∃ y, xs[1]? = some y := ⟨xs[1]'(by rw [hlen]; exact Nat.le_of_ble_eq_true rfl), List.getElem?_eq_getElem _⟩
    rw [hy1] at g1
    have k1 : Tryd.prog.cellsOf 3 = 1 := by kernel_rfl
    obtain ⟨m1, q1, _, z1⟩ := DataW.trod_int (t := 3) Tryd.underlying3 (by simpa [Value.cells, k1] using g1)
    simp at q1
    have g2 := hg 2 _ rfl
    obtain ⟨y2, hy2⟩ : ∃ y, xs[2]? = some y := ⟨xs[2]'(by rw [hlen]; exact Nat.le_of_ble_eq_true rfl), List.getElem?_eq_getElem _⟩
    rw [hy2] at g2
    have k2 : Tryd.prog.cellsOf 2 = 1 := by kernel_rfl
    obtain ⟨m2, q2, _, z2⟩ := DataW.trod_int (t := 2) Tryd.underlying2 (by simpa [Value.cells, k2] using g2)
    simp at q2
    have g3 := hg 3 _ rfl
    obtain ⟨y3, hy3⟩ : ∃ y, xs[3]? = some y := ⟨xs[3]'(by rw [hlen]; exact Nat.le_of_ble_eq_true rfl), List.getElem?_eq_getElem _⟩
    rw [hy3] at g3
    have k3 : Tryd.prog.cellsOf 2 = 1 := by kernel_rfl
    obtain ⟨m3, q3, _, z3⟩ := DataW.trod_int (t := 2) Tryd.underlying2 (by simpa [Value.cells, k3] using g3)
    simp at q3
    have g4 := hg 4 _ rfl
    obtain ⟨y4, hy4⟩ : ∃ y, xs[4]? = some y := ⟨xs[4]'(by rw [hlen]; exact Nat.le_of_ble_eq_true rfl), List.getElem?_eq_getElem _⟩
    rw [hy4] at g4
    have k4 : Tryd.prog.cellsOf 2 = 1 := by kernel_rfl
    obtain ⟨m4, q4, _, z4⟩ := DataW.trod_int (t := 2) Tryd.underlying2 (by simpa [Value.cells, k4] using g4)
    simp at q4
    have g5 := hg 5 _ rfl
    obtain ⟨y5, hy5⟩ : ∃ y, xs[5]? = some y := ⟨xs[5]'(by rw [hlen]; exact Nat.le_of_ble_eq_true rfl), List.getElem?_eq_getElem _⟩
    rw [hy5] at g5
    have k5 : Tryd.prog.cellsOf 2 = 1 := by kernel_rfl
    obtain ⟨m5, q5, _, z5⟩ := DataW.trod_int (t := 2) Tryd.underlying2 (by simpa [Value.cells, k5] using g5)
    simp at q5
    have g6 := hg 6 _ rfl
    obtain ⟨y6, hy6⟩ : ∃ y, xs[6]? = some y := ⟨xs[6]'(by rw [hlen]; exact Nat.le_of_ble_eq_true rfl), List.getElem?_eq_getElem _⟩
    rw [hy6] at g6
    have k6 : Tryd.prog.cellsOf 2 = 1 := by kernel_rfl
    obtain ⟨m6, q6, _, z6⟩ := DataW.trod_int (t := 2) Tryd.underlying2 (by simpa [Value.cells, k6] using g6)
    simp at q6
    have g7 := hg 7 _ rfl
    obtain ⟨y7, hy7⟩ : ∃ y, xs[7]? = some y := ⟨xs[7]'(by rw [hlen]; exact Nat.le_of_ble_eq_true rfl), List.getElem?_eq_getElem _⟩
    rw [hy7] at g7
    have k7 : Tryd.prog.cellsOf 2 = 1 := by kernel_rfl
    obtain ⟨m7, q7, _, z7⟩ := DataW.trod_int (t := 2) Tryd.underlying2 (by simpa [Value.cells, k7] using g7)
    simp at q7
    subst q0 q1 q2 q3 q4 q5 q6 q7
    exact ⟨⟨m0, m1, m2, m3, m4, m5, m6, m7⟩, rfl, bounds_i64 z0, bounds_i64 z1, bounds_i64 z2, bounds_i64 z3, bounds_i64 z4, bounds_i64 z5, bounds_i64 z6, bounds_i64 z7⟩
/-- A slice whose elements are known one by one. -/
theorem rd_of_elems {α : Type} {f : α → List Value} {s : Nat} (hs : 0 < s) (hf : ∀ m, (f m).length = s) {w : World} {A : Option Addr} {n c : Nat} {ts : List α} (hn : n ≤ c) (hc : c ≤ maxLen) (hl : ts.length = n)
    (h : 0 < n → ∃ b off, A = some ⟨b, off, none⟩ ∧ b < w.heap.size ∧ ∀ i t r u, ts[i]? = some t → (f t)[r]? = some u → w.cell? ⟨b, off + i * s + r, none⟩ = some u) : Rd w s (.slice A n c) n (ts.flatMap f) := by
  refine ⟨by rw [flatMap_len hf, hl], A, c, rfl, hn, hc, fun h0 => ?_⟩
  obtain ⟨b, off, h1, h2, h3⟩ := h h0
  refine ⟨b, off, h1, h2, fun j u hu => ?_⟩
  obtain ⟨t, h4, h5⟩ := flatMap_get hs hf ts j u hu
  have := h3 _ _ _ _ h4 h5
  rwa [Nat.add_assoc, Nat.mul_comm, Nat.div_add_mod] at this
theorem pick_list {α : Type} [Inhabited α] {n : Nat} {p : Nat → α → Prop} (h : ∀ i, i < n → ∃ t, p i t) : ∃ ts : List α, ts.length = n ∧ ∀ i t, ts[i]? = some t → p i t := by
  classical
  refine ⟨(List.range n).map fun i => if hi : i < n then Classical.choose (h i hi) else default, by simp, fun i t ht => ?_⟩
  obtain ⟨hi, he⟩ := List.getElem?_eq_some_iff.1 ht
  have hi' : i < n := by simpa using hi
  simp only [List.getElem_map, List.getElem_range, dif_pos hi'] at he
  rw [← he]
  exact Classical.choose_spec (h i hi')
instance : Inhabited Tl := ⟨⟨0, 0, 0, 0, 0, 0, 0, 0⟩⟩
theorem open_tools {H : Type} {enc : TypeId × Value → H} {w : World} {r : Reach} {b0 base : Nat} {spare : Nat → Bool} {held : Bool} {v : Value} {d : DataW H} {p : List MemPlace} (hv : Value.okWide Tryd.prog w r b0 39 v) (h : DataW.Trod enc Tryd.prog w base spare held 39 v d p) :
    ∃ ts : List Tl, Rd w 8 v ts.length (ts.flatMap Tl.cs) ∧ ∀ t ∈ ts, t.ok := by
  have hC : Tryd.prog.cellsOf 33 = 8 := by kernel_rfl
  obtain ⟨a0, len0, cap0, rfl⟩ := okWide_slice Tryd.underlying39 hv
  obtain ⟨fuel, hf⟩ := h
  rcases Deep.open_slice Tryd.underlying39 hf with ⟨h0, _⟩ | ⟨a, len, cap, m, n, D, Pl, hcs, hb, hle, hcap, hm, hx, hel⟩
  · simp [Value.cells] at h0
    obtain ⟨rfl, rfl, rfl⟩ := h0
    exact ⟨[], Rd.nil _ _, by simp⟩
  · simp [Value.cells] at hcs
    obtain ⟨rfl, rfl, rfl⟩ := hcs
    have hlm : len0 ≤ m := by rw [hm]; split <;> omega
    have key : ∀ i, i < len0 → ∃ t : Tl, (∀ j u, t.cs[j]? = some u → w.cell? ((a.add (i * 8)).add j) = some u) ∧ t.ok := by
      intro i hi
      obtain ⟨cs', h1, h2⟩ := hel i (by omega)
      rw [hC] at h1
      obtain ⟨h3, h4⟩ := cells_get h1
      obtain ⟨t, rfl, h5⟩ := tool_cells h2 h3
      exact ⟨t, h4, h5⟩
    obtain ⟨ts, hl, ht⟩ := pick_list key
    refine ⟨ts, ?_, fun t hm => ?_⟩
    · rw [hl]
      refine rd_of_elems (s := 8) (by decide) (fun _ => rfl) hle hcap hl fun h0 => ?_
      obtain ⟨t0, ht0⟩ : ∃ t, ts[0]? = some t := ⟨_, List.getElem?_eq_getElem (by omega)⟩
      have hc0 := (ht 0 t0 ht0).1 0 _ rfl
      have e0 : (a.add (0 * 8)).add 0 = a := rfl
      rw [e0] at hc0
      obtain ⟨h1, h2⟩ := cell_lt hc0
      obtain ⟨b, off, sp⟩ := a
      dsimp only at h1 h2
      subst h2
      refine ⟨b, off, rfl, h1, fun i t r u hi hr => ?_⟩
      have := (ht i t hi).1 r u hr
      rwa [add_pl, add_pl] at this
    · obtain ⟨i, hi, rfl⟩ := List.getElem_of_mem hm
      exact (ht i _ (List.getElem?_eq_getElem hi)).2
end Go.Proofs.YtpiabmjipgfjjaaDoor
