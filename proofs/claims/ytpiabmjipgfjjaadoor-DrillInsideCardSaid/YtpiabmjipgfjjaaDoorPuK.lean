/- Operations that change the state are the machine's. -/
import Derived.Test.YtpiabmjipgfjjaaDoorPuJ
import Derived.Laws.OwnMore
namespace Go.Proofs.YtpiabmjipgfjjaaDoor
open Go.RowKit

structure Chg (Z : Nat → Prop) (fl : Nat) (st ap : Bool) (H : List Item) (G : List Value) (w : World) (H' : List Item) (G' : List Value) (w' : World) : Prop where
  pres : ∀ s v, Rel1 G (Av Z H G) w s v → (∀ j, s.of1 j = true → j < fl) → Rel1 G' (Av Z H' G') w' s v
  agr : st = true ∨ (Agr (!ap) H G w w' ∧ ∀ b, b < w.heap.size → RowsB H' G' b → RowsB H G b)
  len : H.length ≤ H'.length

theorem rep_get {α : Type} (l : List α) : ∀ (n i : Nat), i < n * l.length → (repL l n)[i]? = l[i % l.length]?
  | 0, i, h => by simp at h
  | n + 1, i, h => by
    simp only [repL]
    rcases Nat.lt_or_ge i l.length with hi | hi
    · rw [List.getElem?_append_left hi, Nat.mod_eq_of_lt hi]
    · rw [Nat.succ_mul] at h
      rw [List.getElem?_append_right hi, rep_get l n (i - l.length) (by omega)]
      congr 1
      rw [Nat.mod_eq_sub_mod hi]
theorem rep_len {α : Type} (l : List α) : ∀ n, (repL l n).length = n * l.length
  | 0 => by simp [repL]
  | n + 1 => by simp [repL, rep_len l n, Nat.succ_mul]; omega
theorem made_rep (z : Array Value) (n : Nat) : (madeCells z (n * z.size)).toList = repL z.toList n := by
  apply List.ext_getElem?
  intro i
  rcases Nat.lt_or_ge i (n * z.size) with hi | hi
  · rw [rep_get _ _ _ (by simpa using hi)]
    have hz : 0 < z.size := by
      rcases Nat.eq_zero_or_pos z.size with h0 | h0
      · rw [h0, Nat.mul_zero] at hi; omega
      · exact h0
    have hm : i % z.size < z.size := Nat.mod_lt _ hz
    simp [madeCells, hi, getElem!_pos z (i % z.size) hm, hm]
  · rw [List.getElem?_eq_none (by simp [madeCells]; exact hi), List.getElem?_eq_none (by rw [rep_len]; simpa using hi)]
theorem rep_rel {R : SV → Value → Prop} {l : List SV} {vs : List Value} (h : all2 R l vs) : ∀ n, all2 R (repL l n) (repL vs n)
  | 0 => trivial
  | n + 1 => all2_append h (rep_rel h n)
theorem rep_rds {A : Nat → Prop} {w : World} {e : Ty} {cs : List Value} {x : e.D} (h : e.rd A w cs x) : ∀ n, all2 (fun l y => e.rd A w l y) (List.replicate n cs) (List.replicate n x) ∧ (List.replicate n cs).flatten = repL cs n
  | 0 => ⟨trivial, rfl⟩
  | n + 1 => ⟨⟨h, (rep_rds h n).1⟩, by rw [List.replicate_succ, List.flatten_cons, (rep_rds h n).2]; rfl⟩
theorem joinN_rd {G : List Value} {A : Nat → Prop} {w : World} {e : Ty} : ∀ {n : Nat} {l : List SV} {xs : List e.D} {vs : List Value}, joinN e n l = some xs → all2 (Rel1 G A w) l vs → ∃ css, vs = List.flatten css ∧ all2 (fun l y => e.rd A w l y) css xs ∧ xs.length = n
  | 0, [], xs, vs, h, ha => by
    simp only [joinN, Option.some.injEq] at h
    subst h
    cases vs with
    | nil => exact ⟨[], rfl, trivial, rfl⟩
    | cons => exact ha.elim
  | 0, _ :: _, xs, vs, h, ha => by simp [joinN] at h
  | n + 1, l, xs, vs, h, ha => by
    simp only [joinN] at h
    split at h <;> try (cases h; done)
    rename_i x r hj
    split at h <;> try (cases h; done)
    rename_i ys hy
    injection h with h
    subst h
    obtain ⟨v1, v2, rfl, h1, h2⟩ := join_rd hj ha
    obtain ⟨css, rfl, h3, h4⟩ := joinN_rd hy h2
    exact ⟨v1 :: css, rfl, ⟨h1, h3⟩, by simp [h4]⟩
theorem zsplit_rel {G : List Value} {A : Nat → Prop} {w : World} : ∀ {t : Ty}, all2 (Rel1 G A w) t.zsplit (zc t)
  | .int _ => ⟨⟨[_], rfl, rfl⟩, trivial⟩
  | .bool => ⟨⟨[_], rfl, rfl⟩, trivial⟩
  | .str => ⟨⟨[_], rfl, rfl⟩, trivial⟩
  | .sl _ => ⟨rfl, trivial⟩
  | .pair _ _ => all2_append zsplit_rel zsplit_rel
  | .st a => zsplit_rel (t := a)
theorem mkz_cells {t : Ty} (ht : t.isSt = true ∨ t.n = 1) : (mkV t (zc t)).cells.toList = zc t := by
  rcases ht with ht | ht
  · simp [mkV, ht, Value.cells]
  · cases t with
    | int => rfl
    | bool => rfl
    | str => rfl
    | sl => rfl
    | st a => simp [mkV, Ty.isSt, Value.cells]
    | pair a b =>
      have h1 := zc_len (.pair a b)
      rw [ht] at h1
      match hz : zc (.pair a b), h1 with
      | [v], _ =>
        have : ∀ t : Ty, ∀ v ∈ zc t, v.cells.toList = [v] := by
          intro t
          induction t with
          | int => intro v hv; simp [zc] at hv; subst hv; rfl
          | bool => intro v hv; simp [zc] at hv; subst hv; rfl
          | str => intro v hv; simp [zc] at hv; subst hv; rfl
          | sl => intro v hv; simp [zc] at hv; subst hv; rfl
          | st a ih => exact ih
          | pair a b iha ihb => intro v hv; simp only [zc, List.mem_append] at hv; exact hv.elim (iha v) (ihb v)
        simp only [mkV, Ty.isSt, List.headD_cons]
        exact this (.pair a b) v (by rw [hz]; simp)
/-- Cells of data are single cells. -/
theorem rd_one {A : Nat → Prop} {w : World} : ∀ {t : Ty} {cs : List Value} {x : t.D}, t.rd A w cs x → ∀ v ∈ cs, v.oneCell' = true
  | .int _, _, _, h, v, hv => by simp only [Ty.rd] at h; subst h; simp at hv; subst hv; rfl
  | .bool, _, _, h, v, hv => by simp only [Ty.rd] at h; subst h; simp at hv; subst hv; rfl
  | .str, _, _, h, v, hv => by simp only [Ty.rd] at h; subst h; simp at hv; subst hv; rfl
  | .pair a b, _, _, ⟨l1, l2, h0, h1, h2⟩, v, hv => by rw [h0] at hv; rcases List.mem_append.1 hv with h | h; exact rd_one h1 v h; exact rd_one h2 v h
  | .st a, _, _, h, v, hv => rd_one (t := a) h v hv
  | .sl e, _, _, ⟨p, n, c, css, h0, _⟩, v, hv => by subst h0; simp at hv; subst hv; rfl
theorem rds_one {A : Nat → Prop} {w : World} {e : Ty} : ∀ {css : List (List Value)} {xs : List e.D}, all2 (fun l y => e.rd A w l y) css xs → ∀ v ∈ css.flatten, v.oneCell' = true
  | [], [], _, v, hv => by simp at hv
  | c :: css, x :: xs, ⟨h1, h2⟩, v, hv => by
    rw [List.flatten_cons] at hv
    rcases List.mem_append.1 hv with h | h
    · exact rd_one h1 v h
    · exact rds_one h2 v h
/-- A value of one cell. -/
theorem rel_one {G : List Value} {A : Nat → Prop} {w : World} {s : SV} {v : Value} (hown : ∀ j, s = .own j → v.oneCell' = true) (hd : ∀ t x, s = .d t x → t.isSt = false) (hg : s.good = true) (h : Rel1 G A w s v) (hp : ∀ t x, s = .d t x → t.n = 1) : v.oneCell' = true := by
  cases s with
  | d t x => exact rd_one (rel_leaf (hd t x rfl) (hp t x rfl) h) v (by simp)
  | nil => rw [show v = .slice none 0 0 from h]; rfl
  | box j off => obtain ⟨b, _, rfl⟩ := h; rfl
  | elt e x off => obtain ⟨b, o, cs, rfl, _⟩ := h; rfl
  | own j => exact hown j rfl
  | oelt j sz i off => obtain ⟨b, n, c, _, rfl⟩ := h; rfl
  | clo f caps => obtain ⟨bs, _, rfl⟩ := h; rfl
  | tup l => exact h.elim
  | undef => simp [SV.good] at hg
  | dead => simp [SV.good] at hg
  | cut e xs => obtain ⟨p, _, rfl⟩ := h; rfl
  | osl j sz lo n => obtain ⟨g, q, c, _, rfl, _⟩ := h; rfl
theorem split_one {G : List Value} {A : Nat → Prop} {w : World} : ∀ {t : Ty} {cs : List Value} {x : t.D}, t.rd A w cs x → ∀ v ∈ cs, v.oneCell' = true := rd_one
section
variable {Z : Nat → Prop} {w0 : World} {n : Nat} {L : SL} {H : List Item} {G : List Value} {w : World} {a : Act} {P : Program} {T : TT} {R : Type}
theorem splitS_one (hr : SR Z w0 H G w) {s : SV} {v : Value} {l : List SV} (h : Rel G (Av Z H G) w s v) (hs : splitS H s = some l) : ∀ u ∈ v.cells.toList, u.oneCell' = true := by
  unfold splitS at hs
  split at hs
  · cases hs
  · rename_i t x hne
    obtain ⟨cs, h1, rfl⟩ := h
    rw [mkV_cells (fun a b e => by subst e; exact hne a b x rfl HEq.rfl) h1]
    exact rd_one h1
  · split at hs
    · rename_i j _ et e xs hj
      obtain ⟨css, ho, _⟩ := hr.items j _ _ hj h
      rcases own_form' ho with ⟨rfl, _⟩ | ⟨b, c, rfl⟩ <;> intro u hu <;> simp [Value.cells] at hu <;> subst hu <;> rfl
    · cases hs
  · rename_i s' hn1 hn2 hn3
    split at hs <;> try (cases hs; done)
    rename_i hg
    cases s with
    | d t x => cases t <;> first | exact (hn1 _ _ _ rfl).elim | exact (hn2 _ _ rfl).elim
    | nil => rw [show v = .slice none 0 0 from h]; intro u hu; simp [Value.cells] at hu; subst hu; rfl
    | box j off => obtain ⟨b, _, rfl⟩ := h; intro u hu; simp [Value.cells] at hu; subst hu; rfl
    | elt e x off => obtain ⟨b, o, cs, rfl, _⟩ := h; intro u hu; simp [Value.cells] at hu; subst hu; rfl
    | own j => exact (hn3 j rfl).elim
    | oelt j sz i off => obtain ⟨b, n, c, _, rfl⟩ := h; intro u hu; simp [Value.cells] at hu; subst hu; rfl
    | clo f caps => obtain ⟨bs, _, rfl⟩ := h; intro u hu; simp [Value.cells] at hu; subst hu; rfl
    | tup l => simp [SV.good] at hg
    | undef => simp [SV.good] at hg
    | dead => simp [SV.good] at hg
    | cut e xs => obtain ⟨p, _, rfl⟩ := h; intro u hu; simp [Value.cells] at hu; subst hu; rfl
    | osl j sz lo n => obtain ⟨g, q, c, _, rfl, _⟩ := h; intro u hu; simp [Value.cells] at hu; subst hu; rfl
theorem rows_new (hr : SR Z w0 H G w) {it : Item} {g : Value} (hg : ∀ b, blkOf g = some b → w.heap.size ≤ b) {b : Nat} (hb : b < w.heap.size) (h : RowsB (H ++ [it]) (G ++ [g]) b) : RowsB H G b := by
  obtain ⟨j, et, e, xs, g', h1, h2, h3⟩ := h
  rcases Nat.lt_or_ge j H.length with hlt | hge
  · rw [List.getElem?_append_left hlt] at h1
    rw [List.getElem?_append_left (by rw [hr.len]; exact hlt)] at h2
    exact ⟨j, et, e, xs, g', h1, h2, h3⟩
  · rw [List.getElem?_append_right (by rw [hr.len]; exact hge)] at h2
    have h4 := List.mem_of_getElem? h2
    simp at h4
    subst h4
    have := hg b h3
    omega
/-- A new thing: what is left to show. -/
theorem chg_new (hr : SR Z w0 H G w) {w' : World} (hb : Below w.heap.size w w') {it : Item} {g : Value} (hg : ∀ b, blkOf g = some b → w.heap.size ≤ b) (fl : Nat) (st ap : Bool) : Chg Z fl st ap H G w (H ++ [it]) (G ++ [g]) w' :=
  ⟨fun s v h _ => rel_new hr (step_new hr hb hg) h, .inr ⟨⟨hb.size, fun b h1 _ => hb.block b h1⟩, fun b h1 h2 => rows_new hr hg h1 h2⟩, by simp⟩
theorem below_alloc (w : World) (o : Obj) : Below w.heap.size w (w.alloc o) := (Below.refl _ _).alloc (Nat.le_refl _) o
theorem new_box (hr : SR Z w0 H G w) (hf : FR Z n L H G w a) {t : TypeId} {cs : List SV} {vs : Array Value} (hcs : all2 (Rel1 G (Av Z H G) w) cs vs.toList) (fl : Nat) (st ap : Bool) :
    ∃ G', SR Z w0 (H ++ [.box t cs]) G' (w.alloc (.cells vs t)) ∧ FR Z n L (H ++ [.box t cs]) G' (w.alloc (.cells vs t)) a ∧ Rel G' (Av Z (H ++ [.box t cs]) G') (w.alloc (.cells vs t)) (.box H.length 0) (.pointer (some ⟨w.heap.size, 0, none⟩)) ∧ Chg Z fl st ap H G w (H ++ [.box t cs]) G' (w.alloc (.cells vs t)) := by
  have hb := below_alloc w (.cells vs t)
  have hg : ∀ b, blkOf (.pointer (some ⟨w.heap.size, 0, none⟩)) = some b → w.heap.size ≤ b := fun b h => by simp [blkOf] at h; omega
  have hst := step_new (it := .box t cs) hr hb hg
  refine ⟨G ++ [.pointer (some ⟨w.heap.size, 0, none⟩)], sr_new hr hb hg ⟨w.heap.size, vs.toList, rfl, hr.below.size, Blk.new w t vs, all2_mono (fun s v h => rel_new hr hst h) hcs⟩, hf.keep fun s v h => rel_new hr hst h, ⟨w.heap.size, ?_, rfl⟩, chg_new hr hb hg fl st ap⟩
  rw [List.getElem?_append_right (by rw [hr.len]; exact Nat.le_refl _), hr.len, Nat.sub_self]
  rfl
theorem new_row (hr : SR Z w0 H G w) (hf : FR Z n L H G w a) {w' : World} (hb : Below w.heap.size w w') {et : TypeId} {e : Ty} {xs : List e.D} {v : Value} {css : List (List Value)} (ho : w'.ownsRow w.heap.size et e.n v xs.length css.flatten) (he : 0 < e.n)
    (hcs : all2 (fun l y => e.rd (fun b => (Av Z H G b ∨ w.heap.size ≤ b) ∧ blkOf v ≠ some b) w' l y) css xs) (fl : Nat) (st ap : Bool) :
    ∃ G', SR Z w0 (H ++ [.row et e xs]) G' w' ∧ FR Z n L (H ++ [.row et e xs]) G' w' a ∧ Rel G' (Av Z (H ++ [.row et e xs]) G') w' (.own H.length) v ∧ Chg Z fl st ap H G w (H ++ [.row et e xs]) G' w' := by
  have hg : ∀ b, blkOf v = some b → w.heap.size ≤ b := fun b h => by
    rcases own_form' ho with ⟨rfl, _⟩ | ⟨b', c, rfl⟩
    · simp [blkOf] at h
    · exact (ho.lt b (by simpa [Value.ownBlock, blkOf] using h)).1
  have hst := step_new (it := .row et e xs) hr hb hg
  have hown : w'.ownsRow w0.heap.size et e.n v xs.length css.flatten := by
    refine ⟨ho.1, ?_⟩
    rcases ho.2 with h | ⟨g, cap, cur, h1, h2, h3⟩
    · exact .inl h
    · exact .inr ⟨g, cap, cur, h1, Nat.le_trans hr.below.size h2, h3⟩
  have hav : ∀ b, b < w'.heap.size → ((Av Z H G b ∨ w.heap.size ≤ b) ∧ blkOf v ≠ some b) → Av Z (H ++ [.row et e xs]) (G ++ [v]) b := by
    rintro b _ ⟨h1, h2⟩
    refine ⟨h1.elim (fun h => h.1) (fun h => hr.zf b (Nat.le_trans hr.below.size h)), fun j it g hj hl hgj => ?_⟩
    rcases Nat.lt_or_ge j H.length with hlt | hge
    · rw [List.getElem?_append_left hlt] at hj
      rw [List.getElem?_append_left (by rw [hr.len]; exact hlt)] at hgj
      rcases h1 with h1 | h1
      · exact h1.2 j it g hj hl hgj
      · exact fun h => by have := ((hr.items j it g hj hgj).blk hl h).2; omega
    · rw [List.getElem?_append_right (by rw [hr.len]; exact hge)] at hgj
      have h4 := List.mem_of_getElem? hgj
      simp at h4
      subst h4
      exact h2
  refine ⟨G ++ [v], sr_new hr hb hg ⟨css, hown, all2_mono (fun l y h => Ty.rd_keep ⟨Nat.le_refl _, hav, fun _ _ _ => rfl⟩ h) hcs, he⟩, hf.keep fun s v h => rel_new hr hst h, ?_, chg_new hr hb hg fl st ap⟩
  show (G ++ [v])[H.length]? = some v
  rw [List.getElem?_append_right (by rw [hr.len]; exact Nat.le_refl _), hr.len, Nat.sub_self]
  rfl
end
end Go.Proofs.YtpiabmjipgfjjaaDoor
