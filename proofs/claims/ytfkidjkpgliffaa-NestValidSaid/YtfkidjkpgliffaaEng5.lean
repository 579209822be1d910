/- Slices that came from elsewhere: they lie below block number u, and are read. -/
import Derived.Test.YtfkidjkpgliffaaEng4
namespace Go.Proofs.Ytfkidjkpgliffaa
open Go.RowKit

/-- Cells in memory, below u. -/
structure Ce (u : Nat) (w : World) (b off : Nat) (cs : List Value) : Prop where
  le : u ≤ w.heap.size
  lt : b < u
  cell : ∀ j v, cs[j]? = some v → w.cell? ⟨b, off + j, none⟩ = some v
theorem Ce.at_ {u : Nat} {w : World} {b off : Nat} {cs : List Value} (h : Ce u w b off cs) (j : Nat) {v : Value} (hv : cs[j]? = some v) : w.cell? ⟨b, off + j, none⟩ = some v := h.cell j v hv
theorem Ce.at0 {u : Nat} {w : World} {b off : Nat} {cs : List Value} (h : Ce u w b off cs) {v : Value} (hv : cs[0]? = some v) : w.cell? ⟨b, off, none⟩ = some v := h.cell 0 v hv
theorem Ce.keep {u : Nat} {w w' : World} {b off : Nat} {cs : List Value} (h : Ce u w b off cs) (hz : w.heap.size ≤ w'.heap.size) (hk : ∀ k, k < u → w'.heap[k]? = w.heap[k]?) : Ce u w' b off cs :=
  ⟨Nat.le_trans h.le hz, h.lt, fun j v hv => (World.cell?_of_block (hk b h.lt)).trans (h.cell j v hv)⟩
theorem Ce.below {u : Nat} {w w' : World} {b off : Nat} {cs : List Value} (h : Ce u w b off cs) (hb : Below w.heap.size w w') : Ce u w' b off cs := h.keep hb.size fun k hk => hb.block k (Nat.lt_of_lt_of_le hk h.le)
theorem Ce.upd {u : Nat} {w w' : World} {b off g : Nat} {cs : List Value} (h : Ce u w b off cs) (hu : Upd w w' g) (hg : u ≤ g) : Ce u w' b off cs := h.keep (by rw [hu.size]; exact Nat.le_refl _) fun k hk => hu.block k (by omega)

/-- A slice value that reads as xs, all of it below u. -/
structure RdU (u : Nat) (w : World) (size : Nat) (v : Value) (n : Nat) (xs : List Value) : Prop where
  le : u ≤ w.heap.size
  rd : ∃ A c, v = .slice A n c ∧ n ≤ c ∧ c ≤ maxLen ∧ xs.length = n * size ∧ (0 < n → ∃ b off, A = some ⟨b, off, none⟩ ∧ Ce u w b off xs)
section
variable {u : Nat} {w w' : World} {size n : Nat} {v : Value} {xs : List Value}
theorem RdU.keep (h : RdU u w size v n xs) (hz : w.heap.size ≤ w'.heap.size) (hk : ∀ k, k < u → w'.heap[k]? = w.heap[k]?) : RdU u w' size v n xs := by
  obtain ⟨hl, A, c, h1, h2, h3, h4, h5⟩ := h
  exact ⟨Nat.le_trans hl hz, A, c, h1, h2, h3, h4, fun hn => by obtain ⟨b, off, h6, h7⟩ := h5 hn; exact ⟨b, off, h6, h7.keep hz hk⟩⟩
theorem RdU.below (h : RdU u w size v n xs) (hb : Below w.heap.size w w') : RdU u w' size v n xs := h.keep hb.size fun k hk => hb.block k (Nat.lt_of_lt_of_le hk h.le)
theorem RdU.upd {g : Nat} (h : RdU u w size v n xs) (hu : Upd w w' g) (hg : u ≤ g) : RdU u w' size v n xs := h.keep (by rw [hu.size]; exact Nat.le_refl _) fun k hk => hu.block k (by omega)
theorem RdU.grown {row : Option Nat} (h : RdU u w size v n xs) (hg : w.grownBy w' row) (hr : ∀ k, row = some k → u ≤ k) : RdU u w' size v n xs := h.keep hg.size fun k hk => hg.block k (Nat.lt_of_lt_of_le hk h.le) (fun e => by have := hr k e.symm; omega)
theorem RdU.of_rd (h : Rd w size v n xs) : RdU w.heap.size w size v n xs := by
  obtain ⟨hl, A, c, hv, h1, h2, h3⟩ := h
  refine ⟨Nat.le_refl _, A, c, hv, h1, h2, hl, fun hn => ?_⟩
  obtain ⟨b, off, hA, hlt, hc⟩ := h3 hn
  exact ⟨b, off, hA, Nat.le_refl _, hlt, hc⟩
theorem RdU.rd_ (h : RdU u w size v n xs) : Rd w size v n xs := by
  obtain ⟨hle, A, c, h1, h2, h3, h4, h5⟩ := h
  refine ⟨h4, A, c, h1, h2, h3, fun hn => ?_⟩
  obtain ⟨b, off, hA, hc⟩ := h5 hn
  exact ⟨b, off, hA, Nat.lt_of_lt_of_le hc.lt hle, hc.cell⟩
/-- The value's form. -/
theorem RdU.form (h : RdU u w size v n xs) : ∃ A c, v = .slice A n c ∧ n ≤ 9223372036854775807 := by
  obtain ⟨_, A, c, h1, h2, h3, _⟩ := h
  exact ⟨A, c, h1, by unfold maxLen at h3; omega⟩
/-- Element k of a slice whose elements are of 'size' cells. -/
theorem RdU.elem {A : Option Addr} {c k : Nat} {α : Type} {f : α → List Value} {ms : List α} (hf : ∀ m, (f m).length = size) (h : RdU u w size (.slice A n c) n (ms.flatMap f)) (hn : ms.length = n) (hk : k < n) :
    ∃ b off m, A = some ⟨b, off, none⟩ ∧ ms[k]? = some m ∧ Ce u w b (off + k * size) (f m) := by
  obtain ⟨hle, A', c', h1, h2, h3, h4, h5⟩ := h
  injection h1 with hA _ hc
  subst hA
  obtain ⟨b, off, h6, h7⟩ := h5 (by omega)
  subst hn
  refine ⟨b, off, ms[k], h6, List.getElem?_eq_getElem hk, ⟨h7.le, h7.lt, fun j v hv => ?_⟩⟩
  have hj : j < size := by rw [← hf ms[k]]; exact (List.getElem?_eq_some_iff.1 hv).1
  have : (ms.flatMap f)[k * size + j]? = some v := by
    clear h7 h5 h4 h6 h2 hc
    induction ms generalizing k with
    | nil => simp at hk
    | cons m ms ih =>
      rw [List.flatMap_cons]
      cases k with
      | zero =>
        simp only [Nat.zero_mul, Nat.zero_add]
        rw [List.getElem?_append_left (by rw [hf]; exact hj)]
        simpa using hv
      | succ k =>
        rw [List.getElem?_append_right (by rw [hf, Nat.succ_mul]; omega), hf, show (k + 1) * size + j - size = k * size + j by rw [Nat.succ_mul]; omega]
        exact ih (by simpa using hk) rfl (by simpa using hv)
  have h8 := h7.cell _ _ this
  rwa [← Nat.add_assoc] at h8
/-- .. of one cell. -/
theorem RdU.elem1 {A : Option Addr} {c k : Nat} {α : Type} {f : α → Value} {ms : List α} (h : RdU u w 1 (.slice A n c) n (ms.map f)) (hn : ms.length = n) (hk : k < n) :
    ∃ b off m, A = some ⟨b, off, none⟩ ∧ ms[k]? = some m ∧ Ce u w b (off + k) [f m] := by
  have h' : RdU u w 1 (.slice A n c) n (ms.flatMap fun m => [f m]) := by rw [← List.map_eq_flatMap]; exact h
  obtain ⟨b, off, m, h1, h2, h3⟩ := h'.elem (f := fun m => [f m]) (fun _ => rfl) hn hk
  rw [Nat.mul_one] at h3
  exact ⟨b, off, m, h1, h2, h3⟩
end

theorem rd_blk {w : World} {g t size m : Nat} {cs : List Value} (hb : Blk w g t cs.toArray) (hl : cs.length = m * size) (hm : m ≤ maxLen) : Rd w size (.slice (some ⟨g, 0, none⟩) m m) m cs :=
  ⟨hl, _, m, rfl, Nat.le_refl _, hm, fun _ => ⟨g, 0, rfl, hb.lt, fun j u hu => by rw [Nat.zero_add]; exact hb.cell j (by simpa using hu)⟩⟩
/-- A slice that is not empty: its address, its cells. -/
theorem rd_some {w : World} {size n : Nat} {v : Value} {xs : List Value} (h : Rd w size v n xs) (hn : 0 < n) : ∃ b off c, v = .slice (some ⟨b, off, none⟩) n c ∧ Ce w.heap.size w b off xs := by
  obtain ⟨hl, A, c, rfl, h1, h2, h3⟩ := h
  obtain ⟨b, off, rfl, hlt, hc⟩ := h3 hn
  exact ⟨b, off, c, rfl, Nat.le_refl _, hlt, hc⟩
theorem Ce.at_u {w : World} {b off : Nat} {cs : List Value} (h : Ce w.heap.size w b off cs) : ∃ u, u = w.heap.size ∧ Ce u w b off cs := ⟨_, rfl, h⟩
theorem RdU.at_u {w : World} {size n : Nat} {v : Value} {xs : List Value} (h : Rd w size v n xs) : ∃ u, u = w.heap.size ∧ RdU u w size v n xs := ⟨_, rfl, RdU.of_rd h⟩
section
variable {P : Program} {fn : Func} {R : Ending → World → Prop} {B : Code} {K : List KI} {i : Nat} {a : Act} {w : World}
/-- A loop of known length, round by round. -/
theorem at_rounds (n : Nat) (hc : nth B i = .loop (nth B (i + 1))) (h : Code.rounds P (nth B (i + 1)) (cont P fn R B K) n a w) : At P fn R B K i a w := by
  unfold At; rw [hc]; exact wp_loop_rounds n h
theorem rounds_at {n : Nat} (h : At P fn R B (.lp (fun a w => Code.rounds P (nth B (i + 1)) (cont P fn R B K) n a w) :: K) (i + 1) a w) : Code.rounds P (nth B (i + 1)) (cont P fn R B K) (n + 1) a w := by
  rw [rounds_succ]; exact h
end
end Go.Proofs.Ytfkidjkpgliffaa
