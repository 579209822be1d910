/- The pure machine's state, and how it goes along with the world. -/
import Derived.Test.YtpiabmjipgfjjaaDoorPuA
namespace Go.Proofs.YtpiabmjipgfjjaaDoor
open Go.RowKit

abbrev SL := List (Nat × SV)
def lookS : SL → Nat → Option SV
  | [], _ => none
  | (k, x) :: r, t => match Nat.beq k t with
    | true => some x
    | false => lookS r t
def Item.live : Item → Bool
  | .gone => false
  | _ => true
/-- Blocks that are read and never written: those of no living item. -/
def Av (Z : Nat → Prop) (H : List Item) (G : List Value) (b : Nat) : Prop := Z b ∧ ∀ (j : Nat) it g, H[j]? = some it → it.live = true → G[j]? = some g → blkOf g ≠ some b
def ItemRel (base : Nat) (G : List Value) (A : Nat → Prop) (w : World) : Item → Value → Prop
  | .box t cells, g => ∃ b vs, g = .pointer (some ⟨b, 0, none⟩) ∧ base ≤ b ∧ Blk w b t (List.toArray vs) ∧ all2 (Rel1 G A w) cells vs
  | .row et e xs, g => ∃ css, w.ownsRow base et e.n g xs.length (List.flatten css) ∧ all2 (fun l y => e.rd A w l y) css xs ∧ 0 < e.n
  | .gone, _ => True
structure SR (Z : Nat → Prop) (w0 : World) (H : List Item) (G : List Value) (w : World) : Prop where
  len : G.length = H.length
  below : Below w0.heap.size w0 w
  items : ∀ (j : Nat) it g, H[j]? = some it → G[j]? = some g → ItemRel w0.heap.size G (Av Z H G) w it g
  disj : ∀ (i j : Nat) it jt g h b, i ≠ j → H[i]? = some it → H[j]? = some jt → it.live = true → jt.live = true → G[i]? = some g → G[j]? = some h → blkOf g = some b → blkOf h ≠ some b
  zf : ∀ b, w0.heap.size ≤ b → Z b

theorem ItemRel.blk {base : Nat} {G : List Value} {A : Nat → Prop} {w : World} {it : Item} {g : Value} {b : Nat} (h : ItemRel base G A w it g) (hl : it.live = true) (hb : blkOf g = some b) : base ≤ b ∧ b < w.heap.size := by
  cases it with
  | box t cells =>
    obtain ⟨b', vs, rfl, h1, h2, _⟩ := h
    simp only [blkOf, Option.some.injEq] at hb
    subst hb
    exact ⟨h1, h2.lt⟩
  | row et e xs =>
    obtain ⟨css, h1, _⟩ := h
    have : g.ownBlock = some b := by
      rcases h1.2 with ⟨rfl, _⟩ | ⟨g', cap, cur, rfl, _⟩
      · simp [blkOf] at hb
      · simpa [blkOf, Value.ownBlock] using hb
    exact h1.lt b this
  | gone => simp [Item.live] at hl

/-- s' says no more than s, whatever becomes of item j. -/
def Wk (j : Nat) (same : Prop) (s s' : SV) : Prop := s' = .dead ∨ (s' = s ∧ (s.of1 j = true → same))
def WkI (j : Nat) (same : Prop) : Item → Item → Prop
  | .box t cs, .box t' cs' => t = t' ∧ all2 (Wk j same) cs cs'
  | .row et e xs, it' => it' = .row et e xs
  | .gone, it' => it' = .gone
  | _, _ => False
theorem WkI.live {j : Nat} {same : Prop} {it it' : Item} (h : WkI j same it it') : it'.live = it.live := by
  cases it <;> cases it' <;> simp_all [WkI, Item.live]

/-- A step of the world: item j turns (or is new), all else stays. -/
structure Step (w0 : World) (j : Nat) (same : Prop) (H H' : List Item) (G G' : List Value) (w w' : World) : Prop where
  len : G'.length = H'.length
  below : Below w0.heap.size w0 w'
  size : w.heap.size ≤ w'.heap.size
  block : ∀ b, b < w.heap.size → (∀ it g, H[j]? = some it → it.live = true → G[j]? = some g → blkOf g ≠ some b) → w'.heap[b]? = w.heap[b]?
  head : ∀ (i : Nat) g, i ≠ j → G[i]? = some g → G'[i]? = some g
  item : ∀ (i : Nat) it', i ≠ j → H'[i]? = some it' → ∃ it, H[i]? = some it ∧ WkI j same it it'
  new : ∀ it' g' b, H'[j]? = some it' → it'.live = true → G'[j]? = some g' → blkOf g' = some b → (∃ it g, H[j]? = some it ∧ it.live = true ∧ G[j]? = some g ∧ blkOf g = some b) ∨ w.heap.size ≤ b
  fit : same → ∀ g, G[j]? = some g → G'[j]? = some g
  ptr : ∀ a, G[j]? = some (.pointer a) → G'[j]? = some (.pointer a)
section
variable {Z : Nat → Prop} {w0 : World} {j : Nat} {same : Prop} {H H' : List Item} {G G' : List Value} {w w' : World}
theorem Step.keeps (hs : Step w0 j same H H' G G' w w') (hr : SR Z w0 H G w) : Keeps (Av Z H G) (Av Z H' G') w w' := by
  refine ⟨hs.size, fun b hb hA => ⟨hA.1, fun i it' g' hi hl hg hbk => ?_⟩, fun b hb hA => hs.block b hb fun it g h1 h2 h3 => hA.2 j it g h1 h2 h3⟩
  by_cases hij : i = j
  · subst hij
    rcases hs.new it' g' b hi hl hg hbk with ⟨it, g, h1, h2, h3, h4⟩ | h1
    · exact hA.2 i it g h1 h2 h3 h4
    · omega
  · obtain ⟨it, h1, h2⟩ := hs.item i it' hij hi
    have hlt : i < G.length := by rw [hr.len]; exact (List.getElem?_eq_some_iff.1 h1).1
    have h3 : G[i]? = some G[i] := List.getElem?_eq_getElem hlt
    have h4 := hs.head i _ hij h3
    rw [h4] at hg
    injection hg with hg
    subst hg
    exact hA.2 i it _ h1 (h2.live ▸ hl) h3 hbk
theorem Step.rel1 (hs : Step w0 j same H H' G G' w w') (hr : SR Z w0 H G w) {s s' : SV} {v : Value} (h : Rel1 G (Av Z H G) w s v) (hw : Wk j same s s') : Rel1 G' (Av Z H' G') w' s' v := by
  rcases hw with rfl | ⟨rfl, hs1⟩
  · trivial
  · refine h.keep (hs.keeps hr) fun i g hi hg => ?_
    by_cases hij : i = j
    · subst hij
      rcases hi with hi | ⟨a, rfl⟩
      · exact hs.fit (hs1 hi) g hg
      · exact hs.ptr a hg
    · exact hs.head i g hij hg
theorem all2_rel {R S : SV → Value → Prop} {Q : SV → SV → Prop} (h : ∀ s s' v, R s v → Q s s' → S s' v) : ∀ {l l' : List SV} {vs : List Value}, all2 R l vs → all2 Q l l' → all2 S l' vs
  | [], [], [], _, _ => trivial
  | _ :: _, _ :: _, _ :: _, ⟨h1, h2⟩, ⟨g1, g2⟩ => ⟨h _ _ _ h1 g1, all2_rel h h2 g2⟩
theorem Step.sr (hs : Step w0 j same H H' G G' w w') (hr : SR Z w0 H G w) (hj : ∀ it' g', H'[j]? = some it' → G'[j]? = some g' → ItemRel w0.heap.size G' (Av Z H' G') w' it' g') : SR Z w0 H' G' w' := by
  have old : ∀ (i : Nat) it' g', i ≠ j → H'[i]? = some it' → G'[i]? = some g' → ∃ it, H[i]? = some it ∧ WkI j same it it' ∧ G[i]? = some g' := by
    intro i it' g' hij h1 h2
    obtain ⟨it, h3, h4⟩ := hs.item i it' hij h1
    have hlt : i < G.length := by rw [hr.len]; exact (List.getElem?_eq_some_iff.1 h3).1
    have h5 : G[i]? = some G[i] := List.getElem?_eq_getElem hlt
    have h6 := hs.head i _ hij h5
    rw [h6] at h2
    injection h2 with h2
    exact ⟨it, h3, h4, h2 ▸ h5⟩
  have apart : ∀ (i : Nat) it' g' b, i ≠ j → H'[i]? = some it' → it'.live = true → G'[i]? = some g' → blkOf g' = some b → b < w.heap.size ∧ (∀ it g, H[j]? = some it → it.live = true → G[j]? = some g → blkOf g ≠ some b) := by
    intro i it' g' b hij h1 h2 h3 h4
    obtain ⟨it, g1, g2, g3⟩ := old i it' g' hij h1 h3
    have hl : it.live = true := by rw [← g2.live]; exact h2
    exact ⟨((hr.items i it g' g1 g3).blk hl h4).2, fun jt g k1 k2 k3 => hr.disj i j it jt g' g b hij g1 k1 hl k2 g3 k3 h4⟩
  refine ⟨hs.len, hs.below, ?_, ?_, hr.zf⟩
  · intro i it' g' h1 h2
    by_cases hij : i = j
    · subst hij; exact hj it' g' h1 h2
    · obtain ⟨it, h3, h4, h5⟩ := old i it' g' hij h1 h2
      have hi := hr.items i it g' h3 h5
      cases it with
      | gone => simp only [WkI] at h4; subst h4; trivial
      | box t cs =>
        cases it' with
        | box t' cs' =>
          obtain ⟨rfl, h6⟩ := h4
          obtain ⟨b, vs, rfl, k1, k2, k3⟩ := hi
          obtain ⟨a1, a2⟩ := apart i _ _ b hij h1 rfl h2 rfl
          exact ⟨b, vs, rfl, k1, (hs.block b a1 a2).trans k2, all2_rel (S := Rel1 G' (Av Z H' G') w') (Q := Wk j same) (fun s s' v hR hQ => hs.rel1 hr hR hQ) k3 h6⟩
        | row => simp [WkI] at h4
        | gone => simp [WkI] at h4
      | row et e xs =>
        simp only [WkI] at h4
        subst h4
        obtain ⟨css, k1, k2, k3⟩ := hi
        refine ⟨css, ⟨k1.1, ?_⟩, all2_mono (fun _ _ h => Ty.rd_keep (hs.keeps hr) h) k2, k3⟩
        rcases k1.2 with h6 | ⟨g, cap, cur, rfl, h8, h9, r⟩
        · exact .inl h6
        · obtain ⟨a1, a2⟩ := apart i _ _ g hij h1 rfl h2 rfl
          exact .inr ⟨g, cap, cur, rfl, h8, (hs.block g a1 a2).trans h9, r⟩
  · intro i k it kt g h b hik h1 h2 h3 h4 h5 h6 h7
    have key : ∀ (k : Nat) it g kt h b, k ≠ j → H'[j]? = some it → it.live = true → G'[j]? = some g → H'[k]? = some kt → kt.live = true → G'[k]? = some h → blkOf g = some b → blkOf h = some b → False := by
      intro k it g kt h b hkj h1 h3 h5 h2 h4 h6 h7 h8
      obtain ⟨a1, a2⟩ := apart k kt h b hkj h2 h4 h6 h8
      rcases hs.new it g b h1 h3 h5 h7 with ⟨it0, g0, c1, c2, c3, c4⟩ | c
      · exact a2 it0 g0 c1 c2 c3 c4
      · omega
    intro h8
    by_cases hij : i = j
    · subst hij; exact key k it g kt h b (Ne.symm hik) h1 h3 h5 h2 h4 h6 h7 h8
    · by_cases hkj : k = j
      · subst hkj; exact key i kt h it g b hij h2 h4 h6 h1 h3 h5 h8 h7
      · obtain ⟨it0, a1, a2, a3⟩ := old i it g hij h1 h5
        obtain ⟨kt0, b1, b2, b3⟩ := old k kt h hkj h2 h6
        exact hr.disj i k it0 kt0 g h b hik a1 b1 (a2.live ▸ h3) (b2.live ▸ h4) a3 b3 h7 h8
end
end Go.Proofs.YtpiabmjipgfjjaaDoor
