/- Stores. -/
import Derived.Test.YtpiabmjipgfjjaaDoorPuL
namespace Go.Proofs.YtpiabmjipgfjjaaDoor
open Go.RowKit
theorem overV_left : ∀ (vs l r : List Value) (off : Nat), off + vs.length ≤ l.length → overV (l ++ r) off vs = overV l off vs ++ r
  | [], _, _, _, _ => rfl
  | v :: vs, l, r, off, h => by
    simp only [List.length_cons] at h
    simp only [overV]
    rw [List.set_append_left _ _ (by omega), overV_left vs _ r (off + 1) (by simp; omega)]
theorem overV_right : ∀ (vs l r : List Value) (off : Nat), overV (l ++ r) (l.length + off) vs = l ++ overV r off vs
  | [], _, _, _ => rfl
  | v :: vs, l, r, off => by
    simp only [overV]
    rw [List.set_append_right _ _ (by omega), Nat.add_sub_cancel_left, Nat.add_assoc, overV_right vs l _ (off + 1)]
theorem overV_all : ∀ (vs l : List Value), l.length = vs.length → overV l 0 vs = vs
  | [], l, h => by cases l with | nil => rfl | cons => simp at h
  | v :: vs, u :: l, h => by
    simp only [List.length_cons, Nat.add_right_cancel_iff] at h
    have := overV_right vs [v] l 0
    simp only [overV, List.set_cons_zero]
    simp only [List.length_singleton, Nat.add_zero, List.singleton_append] at this
    rw [Nat.zero_add, this, overV_all vs l h]
  | v :: vs, [], h => by simp at h
theorem overV_take : ∀ (vs l : List Value) (off N : Nat), off + vs.length ≤ N → N ≤ l.length → (overV l off vs).take N = overV (l.take N) off vs := by
  intro vs l off N h1 h2
  have := overV_left vs (l.take N) (l.drop N) off (by simp; omega)
  rw [List.take_append_drop] at this
  rw [this, List.take_left' (by rw [overV_len]; simp; omega)]
theorem overV_seg : ∀ (vs l : List Value) (off : Nat), off + vs.length ≤ l.length → overV l off vs = l.take off ++ vs ++ l.drop (off + vs.length)
  | [], l, off, h => by simp [overV]
  | v :: vs, l, off, h => by
    simp only [List.length_cons] at h
    simp only [overV]
    rw [overV_seg vs (l.set off v) (off + 1) (by simp; omega), list_seg_step l off v vs (by omega)]
    rfl
theorem overV_flat {sz : Nat} : ∀ {css : List (List Value)} {m : Nat} {l : List Value} {off : Nat} {vs : List Value}, (∀ l ∈ css, l.length = sz) → css[m]? = some l → off + vs.length ≤ sz → overV css.flatten (m * sz + off) vs = (css.set m (overV l off vs)).flatten
  | [], _, _, _, _, _, h, _ => by simp at h
  | c :: css, 0, l, off, vs, hl, h, hb => by
    simp at h; subst h
    have hc := hl c (by simp)
    simp only [List.flatten_cons, Nat.zero_mul, Nat.zero_add, List.set_cons_zero]
    rw [overV_left _ _ _ _ (by omega)]
  | c :: css, m + 1, l, off, vs, hl, h, hb => by
    have hc := hl c (by simp)
    simp only [List.flatten_cons, List.set_cons_succ]
    rw [show (m + 1) * sz + off = c.length + (m * sz + off) by rw [hc, Nat.succ_mul]; omega, overV_right, overV_flat (fun l hm => hl l (by simp [hm])) (by simpa using h) hb]
theorem upd_rd {A : Nat → Prop} {w : World} : ∀ {e : Ty} {l vs : List Value} {x x' : e.D} {off : Nat} {t : Ty} {y : t.D}, e.rd A w l x → e.upd x off t y = some x' → t.rd A w vs y → e.rd A w (overV l off vs) x' ∧ off + vs.length ≤ l.length := by
  have lf : ∀ {e : Ty} {l vs : List Value} {x x' : e.D} {off : Nat} {t : Ty} {y : t.D}, e.rd A w l x → (match Nat.beq off 0 with | true => castD t e y | false => none) = some x' → t.rd A w vs y → e.rd A w (overV l off vs) x' ∧ off + vs.length ≤ l.length := by
    intro e l vs x x' off t y hr h hy
    split at h
    · rename_i h0
      have : off = 0 := Nat.eq_of_beq_eq_true h0
      subst this
      obtain ⟨rfl, rfl⟩ := castD_some h
      have h1 := Ty.rd_len hr
      have h2 := Ty.rd_len hy
      rw [overV_all vs l (by omega)]
      exact ⟨hy, by omega⟩
    · cases h
  intro e
  induction e with
  | int k => intro l vs x x' off t y hr h hy; exact lf hr h hy
  | bool => intro l vs x x' off t y hr h hy; exact lf hr h hy
  | str => intro l vs x x' off t y hr h hy; exact lf hr h hy
  | sl e => intro l vs x x' off t y hr h hy; exact lf hr h hy
  | st a ih =>
    intro l vs x x' off t y hr h hy
    simp only [Ty.upd] at h
    split at h
    · rename_i z h0 h1
      injection h with h
      subst h
      exact lf (e := .st a) hr (by rw [h0]; exact h1) hy
    · exact ih hr h hy
  | pair a b iha ihb =>
    intro l vs x x' off t y hr h hy
    obtain ⟨l1, l2, rfl, h1, h2⟩ := hr
    simp only [Ty.upd] at h
    split at h
    · split at h <;> try (cases h; done)
      rename_i z hz
      injection h with h
      subst h
      obtain ⟨g1, g2⟩ := iha h1 hz hy
      rw [overV_left _ _ _ _ g2]
      exact ⟨⟨_, _, rfl, g1, h2⟩, by simp; omega⟩
    · rename_i hb
      have hl1 := Ty.rd_len h1
      have hge : a.n ≤ off := by
        rcases Nat.lt_or_ge off a.n with hlt | hge
        · have : Nat.ble (off + 1) a.n = true := Nat.ble_eq_true_of_le hlt
          rw [this] at hb; cases hb
        · exact hge
      split at h <;> try (cases h; done)
      rename_i z hz
      injection h with h
      subst h
      obtain ⟨g1, g2⟩ := ihb h2 hz hy
      have e : off = l1.length + (off - a.n) := by omega
      rw [e, overV_right, ← e]
      exact ⟨⟨_, _, rfl, h1, g1⟩, by simp; omega⟩
theorem run_storeAt_ty {P : Program} {t : Nat} {i : TI} (hc : chk P t i = true) (w : World) (b off : Nat) (bt : TypeId) (cur : Array Value) (v : Value) (hg : w.heap[b]? = some (.cells cur bt (0, 0))) (hl : v.cells.toList.length = i.ty.n) (hfit : off + v.cells.toList.length ≤ cur.size) (h1 : ∀ u ∈ v.cells.toList, u.oneCell' = true) :
    (Instr.storeAt t (.pointer (some ⟨b, off, none⟩)) v).run P w = .ok () (w.setRow b (overV cur.toList off v.cells.toList).toArray) := by
  have hst := run_storeCells_at P b off bt v.cells.toList 0 cur w hg (by simpa using hfit) h1
  rw [Nat.add_zero, ← overV_seg _ _ _ (by simpa using hfit)] at hst
  have hsz := chk_size hc
  cases hi : P.info? t with
  | none => rw [hi] at hsz; cases hsz
  | some inf =>
    have hs : inf.size = i.ty.n := by rw [hi] at hsz; simpa using hsz
    have hn : v.cells.size = inf.size := by rw [hs, ← hl]; simp
    simp [Instr.storeAt, Instr.sureAddr, storeVar, sizeOf, typeInfo, hi, hn, hst]
section
variable {Z : Nat → Prop} {w0 : World} {n : Nat} {L : SL} {H : List Item} {G : List Value} {w : World} {a : Act} {P : Program} {T : TT}
theorem setRow_size (w : World) (b : Nat) (cs : Array Value) : (w.setRow b cs).heap.size = w.heap.size := by simp [World.setRow]
theorem below_setRow (hr : SR Z w0 H G w) {b : Nat} (hb : w0.heap.size ≤ b) (cs : Array Value) : Below w0.heap.size w0 (w.setRow b cs) :=
  hr.below.trans ⟨rfl, rfl, rfl, by rw [setRow_size]; exact Nat.le_refl _, fun k hk => setRow_other w b k cs (by omega)⟩
theorem mod_item (hr : SR Z w0 H G w) (hf : FR Z n L H G w a) {j b : Nat} {it it' : Item} {g : Value} {cs : Array Value} (hj : H[j]? = some it) (hl : it.live = true) (hg : G[j]? = some g) (hb : blkOf g = some b) (hit : (∀ s v, Rel1 G (Av Z H G) w s v → Rel1 G (Av Z (H.set j it') G) (w.setRow b cs) s v) → (∀ t l y, Ty.rd (Av Z H G) w t l y → Ty.rd (Av Z (H.set j it') G) (w.setRow b cs) t l y) → ItemRel w0.heap.size G (Av Z (H.set j it') G) (w.setRow b cs) it' g) (fl : Nat) (ap : Bool) :
    SR Z w0 (H.set j it') G (w.setRow b cs) ∧ FR Z n L (H.set j it') G (w.setRow b cs) a ∧ Chg Z fl true ap H G w (H.set j it') G (w.setRow b cs) := by
  have hblk := (hr.items j it g hj hg).blk hl hb
  have hbl : ∀ b', b' < w.heap.size → (∀ g, G[j]? = some g → blkOf g ≠ some b') → (w.setRow b cs).heap[b']? = w.heap[b']? := fun b' _ hn => setRow_other w b b' cs (fun e => by subst e; exact hn g hg hb)
  have hB := below_setRow hr hblk.1 cs
  have hz : w.heap.size ≤ (w.setRow b cs).heap.size := by rw [setRow_size]; exact Nat.le_refl _
  have hst := step_mod (it' := it') hr hj hl hB hz hbl
  refine ⟨sr_mod hr hj hl hB hz hbl fun g' hg' => ?_, hf.keep fun s v h => rel_new hr hst h, ⟨fun s v h _ => rel_new hr hst h, .inl rfl, by simp⟩⟩
  rw [hg] at hg'
  injection hg' with hg'
  subst hg'
  exact hit (fun s v h => rel_new hr hst h) (fun t l y h => Ty.rd_keep (hst.keeps hr) h)
end
end Go.Proofs.YtpiabmjipgfjjaaDoor
