/- Allocations and stores at a region's end: one order stands for all. Lists. -/
import Derived.Test.YtcaiedfkohigjaaGreatZ4
namespace Go.Proofs.YtcaiedfkohigjaaGreat
open Go.RowKit
abbrev dn (l : Array Bool) : Nat → Bool := fun k => l.getD k true
theorem dn_up (l : Array Bool) (j k : Nat) : dn (l.setIfInBounds j true) k = if k = j then true else dn l k := by
  by_cases h : k = j
  · subst h; rw [if_pos rfl]; exact getD_set_self l k
  · rw [if_neg h]; exact getD_set_ne true (Ne.symm h)
theorem lookS_put' {d : Nat} {s : SV} {L : SL} {t : Nat} : lookS ((d, s) :: delS L d) t = if t = d then some s else lookS L t := by
  by_cases h : t = d
  · subst h
    rw [if_pos rfl]
    simp [lookS, Nat.beq_refl]
  · rw [if_neg h]
    have hb : Nat.beq d t = false := by
      cases hq : Nat.beq d t with
      | false => rfl
      | true => exact absurd (Nat.eq_of_beq_eq_true hq).symm h
    simp only [lookS, hb]
theorem over_len : ∀ {l cs : List SV} {off : Nat}, (over cs off l).length = cs.length
  | [], _, _ => rfl
  | _ :: r, _, _ => by simp [over, over_len (l := r)]
theorem over_get : ∀ (l cs : List SV) (off i : Nat), (over cs off l)[i]? = if off ≤ i ∧ i < off + l.length ∧ i < cs.length then l[i - off]? else cs[i]?
  | [], cs, off, i => by rw [if_neg (by simp; omega)]; rfl
  | s :: r, cs, off, i => by
    rw [over, over_get r (cs.set off s) (off + 1) i, List.length_set, List.length_cons]
    by_cases h1 : i = off
    · subst h1
      rw [if_neg (by omega)]
      by_cases h2 : i < cs.length
      · rw [if_pos (by omega), Nat.sub_self, List.getElem?_set_self h2]; rfl
      · rw [if_neg (by omega), List.getElem?_eq_none (by simp; omega), List.getElem?_eq_none (by omega)]
    · by_cases h2 : off + 1 ≤ i ∧ i < off + 1 + r.length ∧ i < cs.length
      · rw [if_pos h2, if_pos (by omega), show i - off = (i - (off + 1)) + 1 by omega, List.getElem?_cons_succ]
      · rw [if_neg h2, if_neg (by omega), List.getElem?_set_ne (Ne.symm h1)]
theorem over_comm {l l' cs : List SV} {off off' : Nat} (h : off + l.length ≤ off' ∨ off' + l'.length ≤ off) : over (over cs off l) off' l' = over (over cs off' l') off l := by
  refine List.ext_getElem? fun i => ?_
  simp only [over_get, over_len]
  by_cases h1 : off ≤ i ∧ i < off + l.length ∧ i < cs.length
  · by_cases h2 : off' ≤ i ∧ i < off' + l'.length ∧ i < cs.length
    · omega
    · simp only [if_pos h1, if_neg h2]
  · by_cases h2 : off' ≤ i ∧ i < off' + l'.length ∧ i < cs.length
    · simp only [if_neg h1, if_pos h2]
    · simp only [if_neg h1, if_neg h2]
theorem over_mem {x : SV} : ∀ {l cs : List SV} {off : Nat}, x ∈ over cs off l → x ∈ cs ∨ x ∈ l
  | [], _, _, h => .inl h
  | s :: r, cs, off, h => by
    rcases over_mem (l := r) h with h1 | h1
    · rcases List.mem_or_eq_of_mem_set h1 with h2 | h2
      · exact .inl h2
      · subst h2; exact .inr (by simp)
    · exact .inr (by simp [h1])
def ovI (s : AlS) : Item → Item
  | .box bt cells => .box bt (over cells s.off s.l)
  | it => it
theorem stP_get (s : AlS) (H : List Item) (k : Nat) : (stP s H)[k]? = if k = s.j then H[k]?.map (ovI s) else H[k]? := by
  unfold stP
  split
  · rename_i bt cells hb
    by_cases h : k = s.j
    · subst h
      rw [if_pos rfl, hb, List.getElem?_set_self (List.getElem?_eq_some_iff.1 hb).1]
      rfl
    · rw [if_neg h, List.getElem?_set_ne (Ne.symm h)]
  · rename_i hb
    by_cases h : k = s.j
    · subst h
      rw [if_pos rfl]
      cases hh : H[s.j]? with
      | none => rfl
      | some it =>
        cases it with
        | box bt cells => exact absurd hh (hb bt cells)
        | row => rfl
        | gone => rfl
    · rw [if_neg h]
theorem stP_len (s : AlS) (H : List Item) : (stP s H).length = H.length := by
  unfold stP
  split
  · rw [List.length_set]
  · rfl
theorem stP_set {s : AlS} {H : List Item} {k : Nat} {it : Item} (h : s.j ≠ k) : stP s (H.set k it) = (stP s H).set k it := by
  refine List.ext_getElem? fun i => ?_
  rw [stP_get, List.getElem?_set, List.getElem?_set, stP_get, stP_len]
  by_cases h1 : k = i
  · subst h1; rw [if_neg (Ne.symm h), if_pos rfl, if_pos rfl]
  · rw [if_neg h1, if_neg h1]
theorem farS_spec {s p : AlS} (h : farS s p = true) : s.i ≠ p.i ∧ (s.j ≠ p.j ∨ s.off + s.l.length ≤ p.off ∨ p.off + p.l.length ≤ s.off) := by
  simp only [farS, Bool.and_eq_true, Bool.or_eq_true, Bool.not_eq_true'] at h
  obtain ⟨h1, h2⟩ := h
  refine ⟨fun e => (by rw [e, Nat.beq_refl] at h1; cases h1), ?_⟩
  rcases h2 with (h2 | h2) | h2
  · exact .inl fun e => by rw [e, Nat.beq_refl] at h2; cases h2
  · exact .inr (.inl (Nat.le_of_ble_eq_true h2))
  · exact .inr (.inr (Nat.le_of_ble_eq_true h2))
theorem stP_comm {s p : AlS} (h : farS s p = true) (H : List Item) : stP s (stP p H) = stP p (stP s H) := by
  obtain ⟨_, h⟩ := farS_spec h
  refine List.ext_getElem? fun k => ?_
  rw [stP_get, stP_get, stP_get, stP_get]
  by_cases h1 : k = s.j
  · subst h1
    rw [if_pos rfl]
    by_cases h2 : s.j = p.j
    · rw [if_pos h2, if_pos h2, if_pos rfl]
      cases hh : H[s.j]? with
      | none => rfl
      | some it =>
        cases it with
        | box bt cells =>
          simp only [Option.map_some, ovI]
          rw [over_comm (by rcases h with h | h | h; exact absurd h2 h; exact .inr h; exact .inl h)]
        | row => rfl
        | gone => rfl
    · rw [if_neg h2, if_neg h2, if_pos rfl]
  · rw [if_neg h1]
    by_cases h2 : k = p.j
    · rw [if_pos h2, if_pos h2, if_neg h1]
    · rw [if_neg h2, if_neg h2, if_neg h1]
theorem stHf_len {f : Nat → Bool} {H : List Item} : ∀ {ss : List AlS}, (stHf f ss H).length = H.length
  | [] => rfl
  | s :: r => by
    simp only [stHf]
    split
    · rw [stP_len]; exact stHf_len
    · exact stHf_len
theorem stHf_set {f : Nat → Bool} {H : List Item} {k : Nat} {it : Item} : ∀ {ss : List AlS}, (∀ s ∈ ss, f s.i = true → s.j ≠ k) → stHf f ss (H.set k it) = (stHf f ss H).set k it
  | [], _ => rfl
  | s :: r, h => by
    have ih := stHf_set (f := f) (H := H) (k := k) (it := it) (ss := r) fun s hs => h s (by simp [hs])
    simp only [stHf]
    split
    · rename_i h1
      rw [ih, stP_set (h s (by simp) h1)]
    · exact ih
theorem stHf_congr {f g : Nat → Bool} {H : List Item} : ∀ {ss : List AlS}, (∀ s ∈ ss, f s.i = g s.i) → stHf f ss H = stHf g ss H
  | [], _ => rfl
  | s :: r, h => by
    simp only [stHf]
    rw [h s (by simp), stHf_congr (ss := r) fun s hs => h s (by simp [hs])]
theorem stHf_none {f : Nat → Bool} {H : List Item} : ∀ {ss : List AlS}, (∀ s ∈ ss, f s.i = false) → stHf f ss H = H
  | [], _ => rfl
  | s :: r, h => by
    simp only [stHf]
    rw [h s (by simp)]
    exact stHf_none (ss := r) fun s hs => h s (by simp [hs])
theorem stHf_up {f g : Nat → Bool} {H : List Item} {s : AlS} (hg : ∀ k, g k = if k = s.i then true else f k) (hf : f s.i = false) : ∀ {ss : List AlS}, ss.Pairwise (fun s p => farS s p = true) → s ∈ ss → stHf g ss H = stP s (stHf f ss H)
  | [], _, hs => by cases hs
  | p :: r, hp, hs => by
    obtain ⟨h1, h2⟩ := List.pairwise_cons.1 hp
    simp only [stHf]
    rcases List.mem_cons.1 hs with e | hs
    · subst e
      rw [hg s.i, if_pos rfl, hf]
      dsimp only
      rw [stHf_congr (f := g) (g := f) (ss := r) fun q hq => by rw [hg, if_neg (Ne.symm (farS_spec (h1 q hq)).1)]]
    · have hne := (farS_spec (h1 s hs)).1
      have ih := stHf_up (H := H) hg hf h2 hs
      rw [hg p.i, if_neg hne, ih]
      split
      · exact stP_comm (h1 s hs) _
      · rfl
theorem stHf_box {f : Nat → Bool} {H : List Item} {k bt : Nat} {cells : List SV} (h : H[k]? = some (.box bt cells)) : ∀ {ss : List AlS}, ∃ cells', (stHf f ss H)[k]? = some (.box bt cells') ∧ cells'.length = cells.length
  | [] => ⟨cells, h, rfl⟩
  | s :: r => by
    obtain ⟨c', h1, h2⟩ := stHf_box (f := f) h (ss := r)
    simp only [stHf]
    split
    · rw [stP_get, h1]
      split
      · exact ⟨_, rfl, by rw [over_len, h2]⟩
      · exact ⟨c', rfl, h2⟩
    · exact ⟨c', h1, h2⟩
def LowH (h0 : Nat) (H : List Item) : Prop := ∀ (k : Nat) (t : TypeId) (cs : List SV), H[k]? = some (.box t cs) → ∀ s ∈ cs, s.refs h0 = true
theorem stHf_low {h0 : Nat} {f : Nat → Bool} {H : List Item} (hH : LowH h0 H) : ∀ {ss : List AlS}, (∀ s ∈ ss, ∀ x ∈ s.l, x.refs h0 = true) → LowH h0 (stHf f ss H)
  | [], _ => hH
  | s :: r, h => by
    have ih := stHf_low (f := f) hH (ss := r) fun s hs => h s (by simp [hs])
    simp only [stHf]
    split
    · intro k t cs hk x hx
      rw [stP_get] at hk
      split at hk
      · cases hh : (stHf f r H)[k]? with
        | none => rw [hh] at hk; cases hk
        | some it =>
          rw [hh] at hk
          cases it with
          | box bt cells =>
            simp only [Option.map_some, ovI, Option.some.injEq, Item.box.injEq] at hk
            obtain ⟨rfl, rfl⟩ := hk
            rcases over_mem hx with h1 | h1
            · exact ih k _ _ hh x h1
            · exact h s (by simp) x h1
          | row => simp [ovI] at hk
          | gone => simp [ovI] at hk
      · exact ih k t cs hk x hx
    · exact ih
theorem alX_get (f : Nat → Bool) (la : List AlA) (r : Nat) : (alX f la)[r]? = la[r]?.map fun a => match f a.i with
    | true => .box a.t a.cs
    | false => .gone := by
  unfold alX
  rw [List.getElem?_map]
  rfl
abbrev Dis (la : List AlA) : Prop := la.Pairwise fun a b => a.i ≠ b.i ∧ a.d ≠ b.d
theorem dis_ne {la : List AlA} (h : Dis la) {r k : Nat} {a b : AlA} (ha : la[r]? = some a) (hb : la[k]? = some b) (hne : k ≠ r) : b.i ≠ a.i ∧ b.d ≠ a.d := by
  obtain ⟨h1, rfl⟩ := List.getElem?_eq_some_iff.1 ha
  obtain ⟨h2, rfl⟩ := List.getElem?_eq_some_iff.1 hb
  have hp := List.pairwise_iff_getElem.1 h
  rcases Nat.lt_or_gt_of_ne hne with h3 | h3
  · exact hp k r h2 h1 h3
  · have := hp r k h1 h2 h3
    exact ⟨Ne.symm this.1, Ne.symm this.2⟩
theorem alX_up {f g : Nat → Bool} {la : List AlA} {r : Nat} {a : AlA} (hd : Dis la) (ha : la[r]? = some a) (hg : ∀ k, g k = if k = a.i then true else f k) : alX g la = (alX f la).set r (.box a.t a.cs) := by
  refine List.ext_getElem? fun k => ?_
  rw [List.getElem?_set, alX_get]
  by_cases h : r = k
  · subst h
    rw [if_pos rfl, ha, if_pos (by unfold alX; rw [List.length_map]; exact (List.getElem?_eq_some_iff.1 ha).1)]
    simp only [Option.map_some]
    rw [hg, if_pos rfl]
  · rw [if_neg h, alX_get]
    cases hk : la[k]? with
    | none => rfl
    | some b =>
      simp only [Option.map_some]
      rw [hg, if_neg (dis_ne hd ha hk (Ne.symm h)).1]
theorem alX_app_up {f g : Nat → Bool} {la : List AlA} {r : Nat} {a : AlA} {H0 : List Item} (hd : Dis la) (ha : la[r]? = some a) (hg : ∀ k, g k = if k = a.i then true else f k) : H0 ++ alX g la = (H0 ++ alX f la).set (H0.length + r) (.box a.t a.cs) := by
  rw [alX_up hd ha hg, List.set_append, if_neg (by omega), show H0.length + r - H0.length = r by omega]
theorem alX_low {h0 : Nat} {f : Nat → Bool} {la : List AlA} {H0 : List Item} (hH : LowH h0 H0) (hla : ∀ a ∈ la, ∀ x ∈ a.cs, x.refs h0 = true) : LowH h0 (H0 ++ alX f la) := by
  intro k t cs hk x hx
  rcases Nat.lt_or_ge k H0.length with h | h
  · rw [List.getElem?_append_left h] at hk
    exact hH k t cs hk x hx
  · rw [List.getElem?_append_right h, alX_get] at hk
    cases hh : la[k - H0.length]? with
    | none => rw [hh] at hk; cases hk
    | some a =>
      rw [hh] at hk
      simp only [Option.map_some, Option.some.injEq] at hk
      split at hk
      · simp only [Item.box.injEq] at hk
        obtain ⟨rfl, rfl⟩ := hk
        exact hla a (List.mem_of_getElem? hh) x hx
      · cases hk
theorem alLf_congr {f g : Nat → Bool} {t : Nat} : ∀ {la : List AlA} {k : Nat} {L M : SL}, (∀ a ∈ la, a.d = t → f a.i = g a.i) → lookS L t = lookS M t → lookS (alLf f la k L) t = lookS (alLf g la k M) t
  | [], _, _, _, _, h => h
  | b :: l, k, L, M, hl, h => by
    simp only [alLf]
    refine alLf_congr (fun a ha => hl a (by simp [ha])) ?_
    by_cases e : b.d = t
    · rw [← hl b (by simp) e]
      split
      · rw [lookS_put', lookS_put', if_pos e.symm, if_pos e.symm]
      · exact h
    · have e' : t ≠ b.d := fun h => e h.symm
      split <;> split <;> (try rw [lookS_put', if_neg e']) <;> (try rw [lookS_put', if_neg e']) <;> exact h
theorem alLf_off {f : Nat → Bool} {t : Nat} : ∀ {la : List AlA} {k : Nat} {L : SL}, (∀ a ∈ la, a.d ≠ t) → lookS (alLf f la k L) t = lookS L t
  | [], _, _, _ => rfl
  | b :: l, k, L, h => by
    simp only [alLf]
    rw [alLf_off fun a ha => h a (by simp [ha])]
    split
    · rw [lookS_put', if_neg (fun e => h b (by simp) e.symm)]
    · rfl
theorem alLf_up {f g : Nat → Bool} {a : AlA} (hg : ∀ k, g k = if k = a.i then true else f k) : ∀ {la : List AlA} {r k : Nat} {L : SL}, Dis la → la[r]? = some a → ∀ t, lookS (alLf g la k L) t = if t = a.d then some (.box (k + r) 0) else lookS (alLf f la k L) t
  | [], r, _, _, _, h, _ => by simp at h
  | b :: l, 0, k, L, hd, h, t => by
    simp only [List.getElem?_cons_zero, Option.some.injEq] at h
    subst h
    obtain ⟨h1, h2⟩ := List.pairwise_cons.1 hd
    simp only [alLf]
    rw [hg b.i, if_pos rfl]
    dsimp only
    by_cases e : t = b.d
    · subst e
      rw [if_pos rfl, alLf_off fun a ha => Ne.symm (h1 a ha).2, lookS_put', if_pos rfl, Nat.add_zero]
    · rw [if_neg e]
      refine alLf_congr (fun a ha _ => by rw [hg, if_neg (Ne.symm (h1 a ha).1)]) ?_
      rw [lookS_put', if_neg e]
      split
      · rw [lookS_put', if_neg e]
      · rfl
  | b :: l, r + 1, k, L, hd, h, t => by
    obtain ⟨h1, h2⟩ := List.pairwise_cons.1 hd
    rw [List.getElem?_cons_succ] at h
    simp only [alLf]
    rw [hg b.i, if_neg (h1 a (List.mem_of_getElem? h)).1, alLf_up hg h2 h t, show k + 1 + r = k + (r + 1) by omega]
theorem alLf_box {f : Nat → Bool} {t : Nat} {s : SV} : ∀ {la : List AlA} {k : Nat} {L : SL}, lookS (alLf f la k L) t = some s → (∃ r a, la[r]? = some a ∧ t = a.d ∧ f a.i = true ∧ s = .box (k + r) 0) ∨ lookS L t = some s
  | [], _, _, h => .inr h
  | b :: l, k, L, h => by
    simp only [alLf] at h
    rcases alLf_box h with ⟨r, a, h1, h2, h3, h4⟩ | h1
    · exact .inl ⟨r + 1, a, by rw [List.getElem?_cons_succ]; exact h1, h2, h3, by rw [h4, show k + 1 + r = k + (r + 1) by omega]⟩
    · split at h1
      · rename_i hb
        rw [lookS_put'] at h1
        split at h1
        · rename_i e
          injection h1 with h1
          exact .inl ⟨0, b, rfl, e, hb, by rw [← h1, Nat.add_zero]⟩
        · exact .inr h1
      · exact .inr h1
/-! What the lists say. -/
theorem alA_fact {T : TT} {N : Nat} : ∀ {lo : List Oper} {i0 : Nat} {la : List AlA}, alA T N lo i0 = some la →
    (∀ q o, lo[q]? = some o → isAlloc o = true → ∃ (r : Nat) (a : AlA), la[r]? = some a ∧ a.i = i0 + q ∧ o.dst = some a.d ∧ a.d < N ∧ ∃ x, o.op = .alloc a.t ∧ lookT T a.t = some x ∧ x.z = true ∧ (∀ p q, x.ty ≠ .pair p q) ∧ a.cs = x.ty.zsplit) ∧
    (∀ a ∈ la, i0 ≤ a.i ∧ ∃ o, lo[a.i - i0]? = some o ∧ isAlloc o = true ∧ ∃ x, a.cs = Ty.zsplit x) ∧ Dis la
  | [], _, _, h => by
    simp only [alA, Option.some.injEq] at h
    subst h
    exact ⟨fun q o h => (by simp at h), fun a h => (by cases h), List.Pairwise.nil⟩
  | o :: r, i, la, h => by
    simp only [alA] at h
    have sub : ∀ {la : List AlA}, (∀ a ∈ la, i + 1 ≤ a.i ∧ ∃ o, r[a.i - (i + 1)]? = some o ∧ isAlloc o = true ∧ ∃ x, a.cs = Ty.zsplit x) → ∀ a ∈ la, i ≤ a.i ∧ ∃ o', (o :: r)[a.i - i]? = some o' ∧ isAlloc o' = true ∧ ∃ x, a.cs = Ty.zsplit x := fun h a ha => by
      obtain ⟨h1, o', h2, h3⟩ := h a ha
      exact ⟨by omega, o', by rw [show a.i - i = (a.i - (i + 1)) + 1 by omega, List.getElem?_cons_succ]; exact h2, h3⟩
    split at h
    · rename_i hal
      obtain ⟨h1, h2, h3⟩ := alA_fact h
      refine ⟨fun q o' hq ho => ?_, sub h2, h3⟩
      cases q with
      | zero => simp only [List.getElem?_cons_zero, Option.some.injEq] at hq; subst hq; rw [hal] at ho; cases ho
      | succ q =>
        rw [List.getElem?_cons_succ] at hq
        obtain ⟨r', a, k1, k2, k3⟩ := h1 q o' hq ho
        exact ⟨r', a, k1, by omega, k3⟩
    · rename_i hal
      split at h <;> try (cases h; done)
      rename_i t d hop hdst
      split at h <;> try (cases h; done)
      rename_i x l hx hd hl
      split at h <;> try (cases h; done)
      rename_i hz hne
      split at h <;> try (cases h; done)
      rename_i hall
      injection h with h
      subst h
      obtain ⟨h1, h2, h3⟩ := alA_fact hl
      refine ⟨fun q o' hq ho => ?_, fun a ha => ?_, List.pairwise_cons.2 ⟨fun b hb => ?_, h3⟩⟩
      · cases q with
        | zero =>
          simp only [List.getElem?_cons_zero, Option.some.injEq] at hq
          subst hq
          exact ⟨0, _, rfl, rfl, hdst, Nat.le_of_ble_eq_true hd, x, hop, hx, hz, fun p q e => hne _ _ e, rfl⟩
        | succ q =>
          rw [List.getElem?_cons_succ] at hq
          obtain ⟨r', a, k1, k2, k3⟩ := h1 q o' hq ho
          exact ⟨r' + 1, a, by rw [List.getElem?_cons_succ]; exact k1, by omega, k3⟩
      · rcases List.mem_cons.1 ha with e | ha
        · subst e
          exact ⟨Nat.le_refl _, o, by simp, hal, x.ty, rfl⟩
        · exact sub h2 a ha
      · have := List.all_eq_true.1 hall b hb
        simp only [Bool.and_eq_true, Bool.not_eq_true'] at this
        exact ⟨fun e => (by have := this.1; simp only at e; rw [e, Nat.beq_refl] at this; cases this), fun e => (by have := this.2; simp only at e; rw [e, Nat.beq_refl] at this; cases this)⟩
/-- What a store's record says. -/
def StOk (T : TT) (ops : Array Oper) (la : List AlA) (h0 : Nat) (La : SL) (Ha : List Item) (s : AlS) (o : Oper) : Prop :=
  ∃ t x v sv y bt cells, o.op = .store t x v ∧ o.guard = none ∧ o.dst = none ∧ opS La x = some (.box s.j s.off) ∧ opS La v = some sv ∧ lookT T t = some y ∧ splitS [] sv = some s.l ∧ Ha[s.j]? = some (.box bt cells) ∧ s.l.length = y.ty.n ∧ s.off + s.l.length ≤ cells.length ∧
    (∀ z ∈ s.l, z.refs h0 = true) ∧ (∀ a ∈ la, (opIs x a.d || opIs v a.d) = true → waitsT ops 4 s.i a.i = true) ∧ tgtW ops s.i s.j la h0 = true
theorem alS_fact {T : TT} {E : Env} {ops : Array Oper} {l : Array Bool} {la : List AlA} {h0 : Nat} {La : SL} {Ha : List Item} : ∀ {lo : List Oper} {i0 : Nat} {ss : List AlS}, alS T E ops l la h0 La Ha lo i0 = some ss →
    (∀ q o, lo[q]? = some o → l.getD (i0 + q) true = false → isAlloc o = false → isTam E o = false → ∃ s ∈ ss, s.i = i0 + q) ∧
    (∀ s ∈ ss, i0 ≤ s.i ∧ l.getD s.i true = false ∧ ∃ o, lo[s.i - i0]? = some o ∧ isAlloc o = false ∧ StOk T ops la h0 La Ha s o) ∧ ss.Pairwise (fun s p => farS s p = true)
  | [], _, _, h => by
    simp only [alS, Option.some.injEq] at h
    subst h
    exact ⟨fun q o h => (by simp at h), fun a h => (by cases h), List.Pairwise.nil⟩
  | o :: r, i, ss, h => by
    simp only [alS] at h
    have sub : ∀ {ss : List AlS}, (∀ s ∈ ss, i + 1 ≤ s.i ∧ l.getD s.i true = false ∧ ∃ o, r[s.i - (i + 1)]? = some o ∧ isAlloc o = false ∧ StOk T ops la h0 La Ha s o) → ∀ s ∈ ss, i ≤ s.i ∧ l.getD s.i true = false ∧ ∃ o', (o :: r)[s.i - i]? = some o' ∧ isAlloc o' = false ∧ StOk T ops la h0 La Ha s o' := fun h a ha => by
      obtain ⟨h1, h1', o', h2, h3⟩ := h a ha
      exact ⟨by omega, h1', o', by rw [show a.i - i = (a.i - (i + 1)) + 1 by omega, List.getElem?_cons_succ]; exact h2, h3⟩
    split at h
    · rename_i hal
      obtain ⟨h1, h2, h3⟩ := alS_fact h
      refine ⟨fun q o' hq hu ho ht => ?_, sub h2, h3⟩
      cases q with
      | zero =>
        simp only [List.getElem?_cons_zero, Option.some.injEq] at hq
        subst hq
        rw [show i + 0 = i from rfl] at hu
        rw [hu, ho, ht] at hal
        cases hal
      | succ q =>
        rw [List.getElem?_cons_succ] at hq
        obtain ⟨s, k1, k2⟩ := h1 q o' hq (by rw [show i + 1 + q = i + (q + 1) by omega]; exact hu) ho ht
        exact ⟨s, k1, by omega⟩
    · rename_i hal
      simp only [Bool.or_eq_false_iff] at hal
      split at h <;> try (cases h; done)
      rename_i t x v hop
      split at h <;> try (cases h; done)
      rename_i j off sv y hg hdst hx hv hy
      split at h <;> try (cases h; done)
      rename_i cs bt cells ss' hcs hH hss
      split at h <;> try (cases h; done)
      rename_i hall
      injection h with h
      subst h
      simp only [Bool.and_eq_true] at hall
      obtain ⟨⟨⟨⟨⟨c1, c2⟩, c3⟩, c4⟩, c5⟩, c6⟩ := hall
      obtain ⟨h1, h2, h3⟩ := alS_fact hss
      refine ⟨fun q o' hq hu ho ht => ?_, fun s hs => ?_, List.pairwise_cons.2 ⟨fun p hp => List.all_eq_true.1 c6 p hp, h3⟩⟩
      · cases q with
        | zero => exact ⟨_, List.mem_cons_self .., rfl⟩
        | succ q =>
          rw [List.getElem?_cons_succ] at hq
          obtain ⟨s, k1, k2⟩ := h1 q o' hq (by rw [show i + 1 + q = i + (q + 1) by omega]; exact hu) ho ht
          exact ⟨s, by simp [k1], by omega⟩
      · rcases List.mem_cons.1 hs with e | hs
        · subst e
          exact ⟨Nat.le_refl _, hal.1.1, o, by simp, hal.1.2, t, x, v, sv, y, bt, cells, hop, hg, hdst, hx, hv, hy, hcs, hH, Nat.eq_of_beq_eq_true c1, Nat.le_of_ble_eq_true c2, List.all_eq_true.1 c3, fun a ha hw => by
            have := List.all_eq_true.1 c4 a ha
            rw [hw] at this
            simpa using this, c5⟩
        · exact sub h2 s hs
theorem tgtW_ok {ops : Array Oper} {i j : Nat} : ∀ {la : List AlA} {k r : Nat} {a : AlA}, tgtW ops i j la k = true → la[r]? = some a → j = k + r → waitsT ops 4 i a.i = true
  | [], _, _, _, _, h, _ => by simp at h
  | b :: l, k, 0, a, h, ha, hj => by
    simp only [List.getElem?_cons_zero, Option.some.injEq] at ha
    subst ha
    simp only [tgtW, Bool.and_eq_true, Bool.or_eq_true, Bool.not_eq_true'] at h
    rcases h.1 with h1 | h1
    · rw [hj, Nat.add_zero, Nat.beq_refl] at h1; cases h1
    · exact h1
  | b :: l, k, r + 1, a, h, ha, hj => by
    rw [List.getElem?_cons_succ] at ha
    simp only [tgtW, Bool.and_eq_true] at h
    exact tgtW_ok h.2 ha (by omega)
theorem getD_tf {l : Array Bool} {k : Nat} (h : k < l.size) : l.getD k false = l.getD k true := by simp [h]
theorem depA_ready {ops : Array Oper} {l' : Array Bool} (hs : l'.size = ops.size) : ∀ {C : List Nat} {l : Array Bool}, depA ops l C = true → (∀ k, l.getD k false = true → l'.getD k false = true) → (∃ i ∈ C, l'.getD i true = false) → Region.ready .any ops l' ≠ []
  | [], _, _, _, ⟨_, h, _⟩ => by cases h
  | i :: r, l, h, hsub, ⟨k, hk, hu⟩ => by
    simp only [depA, Bool.and_eq_true] at h
    obtain ⟨h1, h2⟩ := h
    split at h1 <;> try (cases h1; done)
    rename_i o ho
    have hlt : i < l'.size := by rw [hs]; exact (Array.getElem?_eq_some_iff.1 ho).1
    cases hi : l'.getD i true with
    | false =>
      intro hr
      have : i ∈ Region.ready .any ops l' := mem_ready.2 ⟨hi, o, ho, fun e he hb => by
        have := List.all_eq_true.1 h1 e (Array.mem_toList_iff.2 he)
        rw [hb] at this
        exact hsub _ (by simpa using this)⟩
      rw [hr] at this
      cases this
    | true =>
      refine depA_ready hs h2 (fun q hq => ?_) ⟨k, (List.mem_cons.1 hk).resolve_left fun e => (by subst e; rw [hi] at hu; cases hu), hu⟩
      by_cases e : i = q
      · subst e; rw [getD_tf hlt]; exact hi
      · rw [getD_set_ne false e] at hq
        exact hsub q hq
/-! How many are left. -/
def cu (l : Array Bool) : Nat := l.toList.countP fun b => !b
theorem countP_up : ∀ (l : List Bool) (j : Nat), l[j]? = some false → (l.set j true).countP (fun b => !b) + 1 = l.countP (fun b => !b)
  | [], _, h => by simp at h
  | b :: l, 0, h => by
    simp only [List.getElem?_cons_zero, Option.some.injEq] at h
    subst h
    simp
  | b :: l, j + 1, h => by
    rw [List.getElem?_cons_succ] at h
    have := countP_up l j h
    rw [List.set_cons_succ]
    cases b <;> simp <;> omega
theorem cu_up {l : Array Bool} {j : Nat} (h : l.getD j true = false) : cu (l.setIfInBounds j true) + 1 = cu l := by
  unfold cu
  rw [Array.toList_setIfInBounds]
  refine countP_up _ _ ?_
  rcases Nat.lt_or_ge j l.size with hlt | hge
  · simp [hlt] at h ⊢; exact h
  · simp [Array.getElem?_eq_none hge] at h
theorem cu_done {l : Array Bool} (h : cu l = 0) (k : Nat) : l.getD k true = true := by
  rcases Nat.lt_or_ge k l.size with hlt | hge
  · have := List.countP_eq_zero.1 h l[k] (by simp)
    simp [hlt] at this ⊢
    exact this
  · simp [Array.getElem?_eq_none hge]
theorem cu_nil (n : Nat) : cu (mkL n []) = n := by
  unfold cu mkL
  rw [Array.toList_replicate, List.countP_replicate]
  simp
end Go.Proofs.YtcaiedfkohigjaaGreat
/- Allocations and stores at a region's end: one order stands for all. The world. -/
namespace Go.Proofs.YtcaiedfkohigjaaGreat
open Go.RowKit
/-- What was there is there. -/
def Old (w w' : World) : Prop := w.heap.size ≤ w'.heap.size ∧ ∀ b, b < w.heap.size → w'.heap[b]? = w.heap[b]?
theorem Old.refl (w : World) : Old w w := ⟨Nat.le_refl _, fun _ _ => rfl⟩
theorem refs_sub {G G' : List Value} {A A' : Nat → Prop} {w w' : World} {h0 : Nat} (hk : Keeps A A' w w') {s : SV} {v : Value} (h : Rel1 G A w s v) (hs : s.refs h0 = true) (hG : ∀ j g, j < h0 → G[j]? = some g → G'[j]? = some g) : Rel1 G' A' w' s v := by
  have lt : ∀ {j : Nat}, Nat.ble (j + 1) h0 = true → j < h0 := fun h => Nat.le_of_ble_eq_true h
  cases s with
  | d t x => obtain ⟨cs, h1, h2⟩ := h; exact ⟨cs, Ty.rd_keep hk h1, h2⟩
  | nil => exact h
  | box j off => obtain ⟨b, h1, h2⟩ := h; exact ⟨b, hG j _ (lt hs) h1, h2⟩
  | elt e x off =>
    obtain ⟨b, o, cs, h1, h2, h3, h4, h5⟩ := h
    exact ⟨b, o, cs, h1, hk.sub b h3 h2, Nat.lt_of_lt_of_le h3 hk.size, Ty.rd_keep hk h4, hk.cells h3 h2 h5⟩
  | own j => exact hG j v (lt hs) h
  | oelt j sz i off => obtain ⟨b, n, c, h1, h2⟩ := h; exact ⟨b, n, c, hG j _ (lt hs) h1, h2⟩
  | clo f caps =>
    obtain ⟨bs, h1, h2⟩ := h
    refine ⟨bs, ?_, h2⟩
    simp only [SV.refs] at hs
    clear h2
    induction caps generalizing bs with
    | nil => cases bs <;> exact h1
    | cons c caps ih =>
      match bs, h1 with
      | b :: bs, ⟨q1, q2⟩ =>
        simp only [List.all_cons, Bool.and_eq_true] at hs
        exact ⟨hG c _ (lt hs.1) q1, ih hs.2 bs q2⟩
  | tup l => exact h.elim
  | undef => exact h
  | dead => trivial
  | cut e xs => obtain ⟨p, h1, h2⟩ := h; exact ⟨p, Ty.rd_keep hk h1, h2⟩
  | osl j sz lo n => obtain ⟨g, q, c, h1, h2⟩ := h; exact ⟨g, q, c, hG j _ (lt hs) h1, h2⟩
theorem refsT_sub {G G' : List Value} {A A' : Nat → Prop} {w w' : World} {h0 : Nat} (hk : ∀ s v, s.refs h0 = true → Rel1 G A w s v → Rel1 G' A' w' s v) {s : SV} {v : Value} (h : Rel G A w s v) (hs : s.refsT h0 = true) : Rel G' A' w' s v := by
  cases s with
  | tup l =>
    obtain ⟨vs, h1, h2⟩ := h
    refine ⟨vs, h1, ?_⟩
    clear h1
    induction l generalizing vs with
    | nil => cases vs <;> exact h2
    | cons s l ih =>
      simp only [SV.refsT, List.all_cons, Bool.and_eq_true] at hs
      match vs, h2 with
      | v :: vs, ⟨g1, g2⟩ => exact ⟨hk s v hs.1 g1, ih hs.2 vs g2⟩
  | _ => rw [refsT_eq (fun l e => by cases e)] at hs; exact rel_of1 (hk _ _ hs (rel_to1 h (fun l e => by cases e)))
section
variable {Z : Nat → Prop} {w0 : World} {H : List Item} {G : List Value} {w : World}
theorem lowH_of (hr : SR Z w0 H G w) : LowH H.length H := by
  intro k t cs hk x hx
  have hlt : k < G.length := by rw [hr.len]; exact (List.getElem?_eq_some_iff.1 hk).1
  obtain ⟨b, vs, _, _, _, h4⟩ := hr.items k _ _ hk (List.getElem?_eq_getElem hlt)
  obtain ⟨i, hi, rfl⟩ := List.getElem_of_mem hx
  obtain ⟨v, _, hv⟩ := all2_getL h4 i _ (List.getElem?_eq_getElem hi)
  exact rel_refs hr hv
/-- The last thing may stand at an empty place. -/
theorem sr_move {it : Item} {g : Value} {h0 k : Nat} (hr : SR Z w0 (H ++ [it]) (G ++ [g]) w) (hl : G.length = H.length) (hk : H[k]? = some .gone) (h0k : h0 ≤ k) (hlow : LowH h0 (H ++ [it])) :
    SR Z w0 (H.set k it) (G.set k g) w ∧ (∀ b, Av Z (H ++ [it]) (G ++ [g]) b ↔ Av Z (H.set k it) (G.set k g) b) := by
  have hkl := (List.getElem?_eq_some_iff.1 hk).1
  have a1 : ∀ {j : Nat} {x : Item}, j ≠ k → (H.set k it)[j]? = some x → j < H.length ∧ (H ++ [it])[j]? = some x := fun {j x} hj h => by
    rw [List.getElem?_set_ne (Ne.symm hj)] at h
    have := (List.getElem?_eq_some_iff.1 h).1
    exact ⟨this, by rw [List.getElem?_append_left this]; exact h⟩
  have a2 : ∀ {j : Nat} {x : Value}, j ≠ k → (G.set k g)[j]? = some x → (G ++ [g])[j]? = some x := fun {j x} hj h => by
    rw [List.getElem?_set_ne (Ne.symm hj)] at h
    rw [List.getElem?_append_left (List.getElem?_eq_some_iff.1 h).1]; exact h
  have b1 : (H.set k it)[k]? = some it := List.getElem?_set_self hkl
  have b2 : (G.set k g)[k]? = some g := List.getElem?_set_self (by omega)
  have c1 : (H ++ [it])[H.length]? = some it := by rw [List.getElem?_append_right (Nat.le_refl _), Nat.sub_self]; rfl
  have c2 : (G ++ [g])[H.length]? = some g := by rw [List.getElem?_append_right (by omega), hl, Nat.sub_self]; rfl
  have d1 : ∀ {j : Nat} {x : Item}, (H ++ [it])[j]? = some x → (j < H.length ∧ H[j]? = some x) ∨ (j = H.length ∧ x = it) := fun {j x} h => by
    rcases Nat.lt_or_ge j H.length with hlt | hge
    · rw [List.getElem?_append_left hlt] at h; exact .inl ⟨hlt, h⟩
    · rw [List.getElem?_append_right hge] at h
      have hj : j - H.length = 0 := by
        rcases Nat.eq_zero_or_pos (j - H.length) with h0 | h0
        · exact h0
        · rw [List.getElem?_eq_none (by simp; omega)] at h; cases h
      rw [hj] at h
      simp only [List.getElem?_cons_zero, Option.some.injEq] at h
      exact .inr ⟨by omega, h.symm⟩
  have hav : ∀ b, Av Z (H ++ [it]) (G ++ [g]) b ↔ Av Z (H.set k it) (G.set k g) b := by
    refine fun b => ⟨fun h => ⟨h.1, fun j x y hx hlv hy => ?_⟩, fun h => ⟨h.1, fun j x y hx hlv hy => ?_⟩⟩
    · by_cases hj : j = k
      · subst hj
        rw [b1] at hx; rw [b2] at hy
        injection hx with hx; injection hy with hy
        subst hx hy
        exact h.2 _ _ _ c1 hlv c2
      · exact h.2 j x y (a1 hj hx).2 hlv (a2 hj hy)
    · rcases d1 hx with ⟨h1, h2⟩ | ⟨h1, h2⟩
      · have hj : j ≠ k := fun e => by subst e; rw [hk] at h2; injection h2 with h2; subst h2; cases hlv
        refine h.2 j x y (by rw [List.getElem?_set_ne (Ne.symm hj)]; exact h2) hlv ?_
        rw [List.getElem?_append_left (by omega)] at hy
        rw [List.getElem?_set_ne (Ne.symm hj)]; exact hy
      · subst h1 h2
        rw [c2] at hy
        injection hy with hy
        subst hy
        exact h.2 k _ _ b1 hlv b2
  have hkp : Keeps (Av Z (H ++ [it]) (G ++ [g])) (Av Z (H.set k it) (G.set k g)) w w := ⟨Nat.le_refl _, fun b _ h => (hav b).1 h, fun _ _ _ => rfl⟩
  have hG : ∀ j x, j < h0 → (G ++ [g])[j]? = some x → (G.set k g)[j]? = some x := fun j x hj h => by
    rw [List.getElem?_append_left (by omega)] at h
    rw [List.getElem?_set_ne (by omega)]; exact h
  have hit : ∀ {j : Nat} {x : Item} {y : Value}, (H ++ [it])[j]? = some x → ItemRel w0.heap.size (G ++ [g]) (Av Z (H ++ [it]) (G ++ [g])) w x y → ItemRel w0.heap.size (G.set k g) (Av Z (H.set k it) (G.set k g)) w x y := by
    intro j x y hx h
    cases x with
    | box t cs =>
      obtain ⟨b, vs, e1, e2, e3, e4⟩ := h
      refine ⟨b, vs, e1, e2, e3, ?_⟩
      have hc := hlow j t cs hx
      clear e1 e3 hx
      induction cs generalizing vs with
      | nil => cases vs <;> exact e4
      | cons s l ih =>
        match vs, e4 with
        | v :: vs, ⟨q1, q2⟩ => exact ⟨refs_sub hkp q1 (hc s (by simp)) hG, ih vs q2 (fun s hs => hc s (by simp [hs]))⟩
    | row et e xs =>
      obtain ⟨css, e1, e2, e3⟩ := h
      exact ⟨css, e1, all2_mono (fun _ _ h => Ty.rd_keep hkp h) e2, e3⟩
    | gone => trivial
  refine ⟨⟨by simp [hl], hr.below, fun j x y hx hy => ?_, fun i j x y gx gy b hij hx hy hlx hly hgx hgy hb => ?_, hr.zf⟩, hav⟩
  · by_cases hj : j = k
    · subst hj
      rw [b1] at hx; rw [b2] at hy
      injection hx with hx; injection hy with hy
      subst hx hy
      exact hit c1 (hr.items _ _ _ c1 c2)
    · exact hit (a1 hj hx).2 (hr.items j x y (a1 hj hx).2 (a2 hj hy))
  · have key : ∀ {j : Nat} {x : Item} {y : Value}, (H.set k it)[j]? = some x → (G.set k g)[j]? = some y → ∃ j', (j' = if j = k then H.length else j) ∧ (H ++ [it])[j']? = some x ∧ (G ++ [g])[j']? = some y := by
      intro j x y hx hy
      by_cases hj : j = k
      · subst hj
        rw [b1] at hx; rw [b2] at hy
        injection hx with hx; injection hy with hy
        subst hx hy
        exact ⟨_, rfl, by rw [if_pos rfl]; exact c1, by rw [if_pos rfl]; exact c2⟩
      · exact ⟨_, rfl, by rw [if_neg hj]; exact (a1 hj hx).2, by rw [if_neg hj]; exact a2 hj hy⟩
    obtain ⟨i', ei, i1, i2⟩ := key hx hgx
    obtain ⟨j', ej, j1, j2⟩ := key hy hgy
    refine hr.disj i' j' x y gx gy b ?_ i1 j1 hlx hly i2 j2 hb
    rw [ei, ej]
    by_cases h1 : i = k
    · by_cases h2 : j = k
      · omega
      · rw [if_pos h1, if_neg h2]; have := (a1 h2 hy).1; omega
    · by_cases h2 : j = k
      · rw [if_neg h1, if_pos h2]; have := (a1 h1 hx).1; omega
      · rw [if_neg h1, if_neg h2]; exact hij
/-- A variable at an empty place. -/
theorem fill_box (hr : SR Z w0 H G w) {h0 k : Nat} (hk : H[k]? = some .gone) (h0k : h0 ≤ k) (hlow : LowH h0 H) {t : TypeId} {cs : List SV} {vs : Array Value} (hz : ∀ s ∈ cs, s.refs h0 = true) (hcs : all2 (Rel1 G (Av Z H G) w) cs vs.toList) :
    ∃ G', SR Z w0 (H.set k (.box t cs)) G' (w.alloc (.cells vs t)) ∧ (∀ s v, s.refs h0 = true → Rel1 G (Av Z H G) w s v → Rel1 G' (Av Z (H.set k (.box t cs)) G') (w.alloc (.cells vs t)) s v) ∧
      (∀ j off v, j ≠ k → Rel1 G (Av Z H G) w (.box j off) v → Rel1 G' (Av Z (H.set k (.box t cs)) G') (w.alloc (.cells vs t)) (.box j off) v) ∧
      Rel1 G' (Av Z (H.set k (.box t cs)) G') (w.alloc (.cells vs t)) (.box k 0) (.pointer (some ⟨w.heap.size, 0, none⟩)) := by
  have hb := below_alloc w (.cells vs t)
  have hg : ∀ b, blkOf (.pointer (some ⟨w.heap.size, 0, none⟩)) = some b → w.heap.size ≤ b := fun b h => by simp [blkOf] at h; omega
  have hst := step_new (it := .box t cs) hr hb hg
  have hsr := sr_new (it := .box t cs) hr hb hg ⟨w.heap.size, vs.toList, rfl, hr.below.size, Blk.new w t vs, all2_mono (fun s v h => rel_new hr hst h) hcs⟩
  have hkl := (List.getElem?_eq_some_iff.1 hk).1
  have hl := hr.len
  obtain ⟨m1, m2⟩ := sr_move hsr hl hk h0k (by
    intro j u cs' hj x hx
    rcases Nat.lt_or_ge j H.length with hlt | hge
    · rw [List.getElem?_append_left hlt] at hj; exact hlow j u cs' hj x hx
    · rw [List.getElem?_append_right hge] at hj
      have hj' := List.mem_of_getElem? hj
      simp only [List.mem_singleton, Item.box.injEq] at hj'
      obtain ⟨rfl, rfl⟩ := hj'
      exact hz x hx)
  have hkp : Keeps (Av Z (H ++ [.box t cs]) (G ++ [.pointer (some ⟨w.heap.size, 0, none⟩)])) (Av Z (H.set k (.box t cs)) (G.set k (.pointer (some ⟨w.heap.size, 0, none⟩)))) (w.alloc (.cells vs t)) (w.alloc (.cells vs t)) := ⟨Nat.le_refl _, fun b _ h => (m2 b).1 h, fun _ _ _ => rfl⟩
  refine ⟨_, m1, fun s v hs h => refs_sub hkp (rel_new hr hst h) hs fun j x hj h => ?_, fun j off v hj h => ?_, ⟨_, List.getElem?_set_self (by omega), rfl⟩⟩
  · rw [List.getElem?_append_left (by omega)] at h
    rw [List.getElem?_set_ne (by omega)]; exact h
  · obtain ⟨b, h1, h2⟩ := h
    exact ⟨b, by rw [List.getElem?_set_ne (Ne.symm hj)]; exact h1, h2⟩
/-- Empty places. -/
theorem sr_gones {n : Nat} {L : SL} {a : Act} (f : Nat → Bool) : ∀ {la : List AlA} {H : List Item} {G : List Value}, (∀ x ∈ la, f x.i = false) → SR Z w0 H G w → FR Z n L H G w a → ∃ G', SR Z w0 (H ++ alX f la) G' w ∧ FR Z n L (H ++ alX f la) G' w a ∧ (∀ s v, Rel1 G (Av Z H G) w s v → Rel1 G' (Av Z (H ++ alX f la) G') w s v)
  | [], H, G, _, hr, hf => by
    refine ⟨G, ?_⟩
    rw [show alX f [] = [] from rfl, List.append_nil]
    exact ⟨hr, hf, fun _ _ h => h⟩
  | x :: la, H, G, hx, hr, hf => by
    have hg : ∀ b, blkOf undef = some b → w.heap.size ≤ b := fun b h => by simp [blkOf, undef] at h
    have hst := step_new (it := .gone) (g := undef) hr (Below.refl _ _) hg
    have h1 := sr_new (it := .gone) (g := undef) hr (Below.refl _ _) hg trivial
    obtain ⟨G', k1, k2, k3⟩ := sr_gones f (la := la) (fun y hy => hx y (by simp [hy])) h1 (hf.keep fun s v h => rel_new hr hst h)
    have e : H ++ alX f (x :: la) = (H ++ [.gone]) ++ alX f la := by
      rw [show alX f (x :: la) = (match f x.i with | true => .box x.t x.cs | false => .gone) :: alX f la from rfl, hx x (by simp)]
      simp
    rw [e]
    exact ⟨G', k1, k2, fun s v h => k3 s v (rel_new hr hst h)⟩
end
theorem zsplit_low {h0 : Nat} : ∀ {t : Ty}, ∀ s ∈ t.zsplit, s.refs h0 = true := by
  intro t
  induction t with
  | pair a b iha ihb =>
    intro s hs
    simp only [Ty.zsplit, List.mem_append] at hs
    exact hs.elim (iha s) (ihb s)
  | st a ih => intro s hs; simp only [Ty.zsplit] at hs; exact ih s hs
  | sl e => intro s hs; simp only [Ty.zsplit, List.mem_singleton] at hs; subst hs; rfl
  | _ => intro s hs; simp only [Ty.zsplit, List.mem_singleton] at hs; subst hs; rfl
end Go.Proofs.YtcaiedfkohigjaaGreat
/- Allocations and stores at a region's end: one order stands for all. -/
namespace Go.Proofs.YtcaiedfkohigjaaGreat
open Go.RowKit
theorem splitS_nil {H : List Item} {s : SV} {l : List SV} (h : splitS [] s = some l) : splitS H s = some l := by
  unfold splitS at h ⊢
  split at h <;> first
    | (cases h; done)
    | exact h
    | (split at h <;> first
        | (cases h; done)
        | (rename_i hj; simp at hj; done)
        | (rename_i hg; simp only [hg]; exact h))
/-- What holds of the slots: they speak of what was there, or of a variable that is there by now. -/
def LowL (h0 : Nat) (la : List AlA) (f : Nat → Bool) (L : SL) : Prop := ∀ t s, lookS L t = some s → s.refsT h0 = true ∨ ∃ (r : Nat) (a : AlA), la[r]? = some a ∧ f a.i = true ∧ s = .box (h0 + r) 0
theorem lowL_al {h0 : Nat} {la : List AlA} {f : Nat → Bool} {L : SL} (h : ∀ t s, lookS L t = some s → s.refsT h0 = true) : LowL h0 la f (alLf f la h0 L) := by
  intro t s hs
  rcases alLf_box hs with ⟨r, a, h1, _, h3, h4⟩ | h1
  · exact .inr ⟨r, a, h1, h3, h4⟩
  · exact .inl (h t s h1)
section
variable {P : Program} {T : TT} {E : Env} {ops : Array Oper} {Z : Nat → Prop} {w0 : World} {N fl : Nat} {Q : Exit → Act → World → Prop} {X : List Item → List Value → World → Prop}
/-- An allocation fills its place. -/
theorem alloc_step {H : List Item} {G : List Value} {w : World} {a : Act} {L L' : SL} {h0 r j : Nat} {la : List AlA} {x : AlA} {oj : Oper} {f : Nat → Bool} {K : Act → World → Prop} {Qx : Exit → Act → World → Prop} (hT : chkAll P T = true) (hoj : ops[j]? = some oj) (hal : isAlloc oj = true)
    (hla : la[r]? = some x) (hdst : oj.dst = some x.d) (hd : x.d < N) (hop : oj.op = .alloc x.t) (hxx : ∃ y, lookT T x.t = some y ∧ y.z = true ∧ (∀ p q, y.ty ≠ .pair p q) ∧ x.cs = y.ty.zsplit) (_hD : Dis la) (hfx : f x.i = false)
    (hk : H[h0 + r]? = some .gone) (hlow : LowH h0 H) (hL : LowL h0 la f L) (hfl : fl ≤ h0) (hr : SR Z w0 H G w) (hf : FR Z N L H G w a) (hx : X H G w) (hX : ∀ H G w H' G' w', X H G w → Ev Z fl H G w H' G' w' → X H' G' w') (hL' : ∀ t, lookS L' t = if t = x.d then some (.box (h0 + r) 0) else lookS L t)
    (hK : ∀ v G' w', Old w w' → SR Z w0 (H.set (h0 + r) (.box x.t x.cs)) G' w' → FR Z N L' (H.set (h0 + r) (.box x.t x.cs)) G' w' (a.put oj.dst v) → X (H.set (h0 + r) (.box x.t x.cs)) G' w' → K (a.put oj.dst v) w') : wpOp P ops Qx j K a w := by
  obtain ⟨y, hy, hz, hne, hcs⟩ := hxx
  have hg : oj.guard = none := by
    unfold isAlloc at hal
    rw [hop] at hal
    cases hq : oj.guard with
    | none => rfl
    | some x => rw [hq] at hal; simp at hal
  have hck := chkAll_look hT hy
  obtain ⟨inf, hinf, hzero⟩ := chk_zero hck hz
  have hc : (mkV y.ty (zc y.ty)).cells.toList = zc y.ty := mkz_cells (by
    generalize y.ty = ty at *
    cases ty <;> first | exact .inr rfl | exact .inl rfl | exact (hne _ _ rfl).elim)
  obtain ⟨G', k1, k2, k3, k4⟩ := fill_box (t := x.t) (cs := x.cs) (vs := (mkV y.ty (zc y.ty)).cells) hr hk (by omega) hlow (by rw [hcs]; exact zsplit_low) (by rw [hcs, hc]; exact zsplit_rel)
  have hrun : (execOp a.eval oj).run P w = .ok (.value (.pointer (some ⟨w.heap.size, 0, none⟩))) (w.alloc (.cells (mkV y.ty (zc y.ty)).cells x.t)) := by
    simp [execOp, hop, Instr.alloc, zeroValue, typeInfo, hinf, hzero, newVar, newRow]
  unfold wpOp
  simp only [hoj]
  rw [if_pos (by simp [Region.wanted, hg])]
  refine .inl ?_
  unfold Oper.wp
  rw [hrun]
  refine hK _ G' _ ⟨(below_alloc w (.cells (mkV y.ty (zc y.ty)).cells x.t)).size, fun b hb => (below_alloc w (.cells (mkV y.ty (zc y.ty)).cells x.t)).block b hb⟩ k1 ?_ (hX _ _ _ _ _ _ hx fun s v h hs => k2 s v (refs_mono hfl hs) h)
  have hf1 : FR Z N L (H.set (h0 + r) (.box x.t x.cs)) G' (w.alloc (.cells (mkV y.ty (zc y.ty)).cells x.t)) a := by
    refine ⟨hf.defers, hf.size, fun t s hs => ?_⟩
    obtain ⟨v, h1, h2⟩ := hf.slot t s hs
    refine ⟨v, h1, ?_⟩
    rcases hL t s hs with h3 | ⟨r', b, h3, h4, rfl⟩
    · exact refsT_sub (fun s v hs h => k2 s v hs h) h2 h3
    · refine k3 _ _ v (fun e => ?_) h2
      have e : r' = r := by omega
      subst e
      rw [hla] at h3
      injection h3 with h3
      subst h3
      rw [hfx] at h4
      cases h4
  have hf2 := hf1.put (d := oj.dst) (L' := (x.d, .box (h0 + r) 0) :: delS L x.d) (s := .box (h0 + r) 0) (v := .pointer (some ⟨w.heap.size, 0, none⟩)) (by
    rw [hdst]
    simp only [putS]
    rw [Nat.ble_eq_true_of_le (show x.d + 1 ≤ N from hd)]) k4
  exact ⟨hf2.defers, hf2.size, fun t s hs => hf2.slot t s (by rw [lookS_put', ← hL' t]; exact hs)⟩
/-- What the lists of allocations and stores say. -/
structure PlanOk (T : TT) (ops : Array Oper) (N : Nat) (H0 : List Item) (la : List AlA) (ss : List AlS) : Prop where
  dis : Dis la
  la2 : ∀ a ∈ la, (∃ o, ops[a.i]? = some o ∧ isAlloc o = true) ∧ ∀ x ∈ a.cs, x.refs H0.length = true
  ss1 : ∀ s ∈ ss, (∃ o, ops[s.i]? = some o ∧ isAlloc o = false ∧ o.dst = none) ∧ (∀ x ∈ s.l, x.refs H0.length = true) ∧ tgtW ops s.i s.j la H0.length = true ∧ ∃ bt cells, (H0 ++ alX (fun _ => true) la)[s.j]? = some (.box bt cells) ∧ s.off + s.l.length ≤ cells.length
  far : ss.Pairwise (fun s p => farS s p = true)
/-- What is stored, told by the slots. -/
def StNow (T : TT) (L : SL) (s : AlS) (o : Oper) : Prop := ∃ t x v sv y, o.op = .store t x v ∧ o.guard = none ∧ o.dst = none ∧ opS L x = some (.box s.j s.off) ∧ opS L v = some sv ∧ lookT T t = some y ∧ splitS [] sv = some s.l ∧ s.l.length = y.ty.n
theorem plan_of {l0 : Array Bool} {H0 : List Item} {La : SL} {la : List AlA} {ss : List AlS} (hA : alA T N ops.toList 0 = some la) (hS : alS T E ops l0 la H0.length La (H0 ++ alX (fun _ => true) la) ops.toList 0 = some ss) : PlanOk T ops N H0 la ss := by
  obtain ⟨a1, a2, a3⟩ := alA_fact hA
  obtain ⟨s1, s2, s3⟩ := alS_fact hS
  refine ⟨a3, fun a ha => ?_, fun s hs => ?_, s3⟩
  · obtain ⟨_, o, ho, hal, y, hy⟩ := a2 a ha
    rw [Nat.sub_zero, Array.getElem?_toList] at ho
    exact ⟨⟨o, ho, hal⟩, by rw [hy]; exact zsplit_low⟩
  · obtain ⟨_, _, o, ho, hal, t, x, v, sv, y, bt, cells, q1, q2, q3, q4, q5, q6, q7, q8, q9, q10, q11, q12, q13⟩ := s2 s hs
    rw [Nat.sub_zero, Array.getElem?_toList] at ho
    exact ⟨⟨o, ho, hal, q3⟩, q11, q13, bt, cells, q8, q10⟩
theorem plan_al {la : List AlA} (hA : alA T N ops.toList 0 = some la) : ∀ {j : Nat} {o : Oper}, ops[j]? = some o → isAlloc o = true → ∃ (r : Nat) (a : AlA), la[r]? = some a ∧ a.i = j ∧ o.dst = some a.d ∧ a.d < N ∧ ∃ x, o.op = .alloc a.t ∧ lookT T a.t = some x ∧ x.z = true ∧ (∀ p q, x.ty ≠ .pair p q) ∧ a.cs = x.ty.zsplit := by
  intro j o ho hal
  obtain ⟨r, a, h1, h2, h3⟩ := (alA_fact hA).1 j o (by rw [Array.getElem?_toList]; exact ho) hal
  exact ⟨r, a, h1, by omega, h3⟩
theorem waits_done {l : Array Bool} {i j : Nat} (hcl : Clo ops l) (hj : ∀ os, ops[j]? = some os → ∀ e ∈ os.after, Region.binds .any e = true → l.getD e.on false = true) (h : waitsT ops 4 j i = true) : l.getD i true = true := by
  have := waitsT_ok hcl h hj
  rcases Nat.lt_or_ge i l.size with h' | h'
  · rw [← getD_tf h']; exact this
  · simp [Array.getElem?_eq_none h'] at this
section
variable {H0 : List Item} {la : List AlA} {ss : List AlS} {l : Array Bool}
theorem PlanOk.wt (hp : PlanOk T ops N H0 la ss) (hcl : Clo ops l) (hl : l.size = ops.size) {s : AlS} {i : Nat} (hs : dn l s.i = true) (hm : s ∈ ss) (h : waitsT ops 4 s.i i = true) : l.getD i true = true := by
  obtain ⟨⟨o, ho, _⟩, _⟩ := hp.ss1 s hm
  have hlt : s.i < l.size := by rw [hl]; exact (Array.getElem?_eq_some_iff.1 ho).1
  exact waits_done hcl (fun os hos e he hb => hcl s.i os hos hs e he hb) h
theorem PlanOk.setA (hp : PlanOk T ops N H0 la ss) (hcl : Clo ops l) (hl : l.size = ops.size) {r : Nat} {x : AlA} (h1 : la[r]? = some x) (hju : l.getD x.i true = false) :
    stHf (dn (l.setIfInBounds x.i true)) ss (H0 ++ alX (dn (l.setIfInBounds x.i true)) la) = (stHf (dn l) ss (H0 ++ alX (dn l) la)).set (H0.length + r) (.box x.t x.cs) ∧ (stHf (dn l) ss (H0 ++ alX (dn l) la))[H0.length + r]? = some .gone := by
  have hup := dn_up l x.i
  obtain ⟨⟨oj, hoj, hal⟩, _⟩ := hp.la2 x (List.mem_of_getElem? h1)
  have hne : ∀ s ∈ ss, dn l s.i = true → s.j ≠ H0.length + r := fun s hs hds e => by
    have := hp.wt hcl hl hds hs (tgtW_ok (hp.ss1 s hs).2.2.1 h1 e)
    rw [hju] at this
    cases this
  refine ⟨?_, ?_⟩
  · rw [alX_app_up hp.dis h1 hup, stHf_congr (g := dn l) fun s hs => ?_, stHf_set hne]
    rw [hup, if_neg]
    intro e
    obtain ⟨⟨o, ho, hal', _⟩, _⟩ := hp.ss1 s hs
    rw [e, hoj] at ho
    injection ho with ho
    subst ho
    rw [hal] at hal'
    cases hal'
  · have h3 : (H0 ++ alX (dn l) la)[H0.length + r]? = some .gone := by
      rw [List.getElem?_append_right (by omega), show H0.length + r - H0.length = r by omega, alX_get, h1]
      simp only [Option.map_some]
      rw [show dn l x.i = false from hju]
    have h4 : H0 ++ alX (dn l) la = (H0 ++ alX (dn l) la).set (H0.length + r) .gone := by
      refine List.ext_getElem? fun k => ?_
      rw [List.getElem?_set]
      split
      · rename_i e; subst e; rw [h3, if_pos (List.getElem?_eq_some_iff.1 h3).1]
      · rfl
    rw [h4, stHf_set hne, List.getElem?_set_self (by rw [stHf_len]; exact (List.getElem?_eq_some_iff.1 h3).1)]
theorem PlanOk.same (hp : PlanOk T ops N H0 la ss) {j : Nat} {oj : Oper} (hoj : ops[j]? = some oj) (hal : isAlloc oj = false) : alX (dn (l.setIfInBounds j true)) la = alX (dn l) la ∧ ∀ a ∈ la, dn (l.setIfInBounds j true) a.i = dn l a.i := by
  have h : ∀ a ∈ la, dn (l.setIfInBounds j true) a.i = dn l a.i := fun a ha => by
    rw [dn_up, if_neg]
    intro e
    obtain ⟨⟨o', h1, h2⟩, _⟩ := hp.la2 a ha
    rw [e, hoj] at h1
    injection h1 with h1
    subst h1
    rw [hal] at h2
    cases h2
  refine ⟨?_, h⟩
  unfold alX
  exact List.map_congr_left fun a ha => by rw [h a ha]
theorem PlanOk.setS (hp : PlanOk T ops N H0 la ss) {s : AlS} (hsm : s ∈ ss) (hju : l.getD s.i true = false) :
    stHf (dn (l.setIfInBounds s.i true)) ss (H0 ++ alX (dn (l.setIfInBounds s.i true)) la) = stP s (stHf (dn l) ss (H0 ++ alX (dn l) la)) := by
  obtain ⟨⟨o, ho, hal, _⟩, _⟩ := hp.ss1 s hsm
  rw [(hp.same ho hal).1]
  exact stHf_up (dn_up l s.i) hju hp.far hsm
/-- A tame operation comes. -/
theorem PlanOk.setT (hp : PlanOk T ops N H0 la ss) {j : Nat} {oj : Oper} {d : Nat} (hoj : ops[j]? = some oj) (hal : isAlloc oj = false) (hd : oj.dst = some d) :
    stHf (dn (l.setIfInBounds j true)) ss (H0 ++ alX (dn (l.setIfInBounds j true)) la) = stHf (dn l) ss (H0 ++ alX (dn l) la) := by
  rw [(hp.same hoj hal).1]
  refine stHf_congr fun s hs => ?_
  rw [dn_up, if_neg]
  intro e
  obtain ⟨⟨o, ho, _, hdn⟩, _⟩ := hp.ss1 s hs
  rw [e, hoj] at ho
  injection ho with ho
  subst ho
  rw [hd] at hdn
  cases hdn
theorem PlanOk.low (hp : PlanOk T ops N H0 la ss) (hlowH : LowH H0.length H0) : LowH H0.length (stHf (dn l) ss (H0 ++ alX (dn l) la)) :=
  stHf_low (alX_low hlowH fun a ha => (hp.la2 a ha).2) fun s hs => (hp.ss1 s hs).2.1
theorem PlanOk.box (hp : PlanOk T ops N H0 la ss) (hcl : Clo ops l) {s : AlS} (hsm : s ∈ ss) (hj : ∀ os, ops[s.i]? = some os → ∀ e ∈ os.after, Region.binds .any e = true → l.getD e.on false = true) : ∃ bt c', (stHf (dn l) ss (H0 ++ alX (dn l) la))[s.j]? = some (.box bt c') ∧ s.off + s.l.length ≤ c'.length := by
  obtain ⟨_, _, ht, bt, cells, q8, q10⟩ := hp.ss1 s hsm
  have : (H0 ++ alX (dn l) la)[s.j]? = some (.box bt cells) := by
    rcases Nat.lt_or_ge s.j H0.length with hlt | hge
    · rw [List.getElem?_append_left hlt] at q8 ⊢; exact q8
    · rw [List.getElem?_append_right hge, alX_get] at q8 ⊢
      cases hb : la[s.j - H0.length]? with
      | none => rw [hb] at q8; cases q8
      | some b =>
        rw [hb] at q8
        simp only [Option.map_some] at q8 ⊢
        rw [show dn l b.i = true from waits_done hcl hj (tgtW_ok ht hb (by omega))]
        exact q8
  obtain ⟨c', b1, b2⟩ := stHf_box (f := dn l) this (ss := ss)
  exact ⟨bt, c', b1, by omega⟩
/-- A store comes. -/
theorem store_step {H : List Item} {G : List Value} {w : World} {a : Act} {L : SL} {s : AlS} {oj : Oper} {bt : Nat} {c' : List SV} {K : Act → World → Prop} {Qx : Exit → Act → World → Prop} (hT : chkAll P T = true) (hE : EnvOk P E) (hI : inv w0) (hoj : ops[s.i]? = some oj) (hst : StNow T L s oj) (b1 : H[s.j]? = some (.box bt c')) (b2 : s.off + s.l.length ≤ c'.length)
    (hr : SR Z w0 H G w) (hf : FR Z N L H G w a) (hx : X H G w) (hX : ∀ H G w H' G' w', X H G w → Ev Z fl H G w H' G' w' → X H' G' w')
    (hK : ∀ G' w', SR Z w0 (stP s H) G' w' → FR Z N L (stP s H) G' w' a → X (stP s H) G' w' → K a w') : wpOp P ops Qx s.i K a w := by
  obtain ⟨t, x, v, sv, y, q1, q2, q3, q4, q5, q6, q7, q9⟩ := hst
  have hstP : stP s H = H.set s.j (.box bt (over c' s.off s.l)) := by
    unfold stP
    rw [b1]
  have heop : eop T E fl L H oj (fun s H' L' => some (s, H', L')) = some (.undef, stP s H, L) := by
    unfold eop
    rw [q1]
    dsimp only
    rw [q4, q5, q6]
    dsimp only
    rw [b1, splitS_nil q7]
    dsimp only
    rw [show Nat.beq s.l.length y.ty.n = true by rw [q9]; exact Nat.beq_refl _, Nat.ble_eq_true_of_le (show s.off + s.l.length ≤ c'.length by omega), hstP]
    rfl
  unfold wpOp
  simp only [hoj]
  rw [if_pos (by simp [Region.wanted, q2])]
  refine .inl ?_
  unfold Oper.wp
  refine eop_sound hT hE hI hr hf heop fun s' H' L1 G' w' v' k1 k2 k3 k4 k5 => ?_
  injection k1 with k1
  injection k1 with k1 k1'
  injection k1' with k1' k1''
  subst k1 k1' k1''
  rw [q3]
  exact hK G' w' k2 k3 (hX _ _ _ _ _ _ hx k5.ev)
end
theorem stNow_of {l : Array Bool} {H0 : List Item} {L0 : SL} {la : List AlA} {s : AlS} {o : Oper} {Ha : List Item} (h : StOk T ops la H0.length (alLf (fun _ => true) la H0.length L0) Ha s o) (hcl : Clo ops l) (hj : ∀ os, ops[s.i]? = some os → ∀ e ∈ os.after, Region.binds .any e = true → l.getD e.on false = true) : StNow T (alLf (dn l) la H0.length L0) s o := by
  obtain ⟨t, x, v, sv, y, bt, cells, q1, q2, q3, q4, q5, q6, q7, q8, q9, q10, q11, q12, q13⟩ := h
  have hopd : ∀ {z : Operand} {sz : SV}, (∀ a ∈ la, opIs z a.d = true → waitsT ops 4 s.i a.i = true) → opS (alLf (fun _ => true) la H0.length L0) z = some sz → opS (alLf (dn l) la H0.length L0) z = some sz := by
    intro z sz hw hz
    cases z with
    | tmp u =>
      simp only [opS] at hz ⊢
      rw [← hz]
      refine alLf_congr (fun b hb e => ?_) rfl
      exact waits_done hcl hj (hw b hb (by simp [opIs, e]))
    | _ => exact hz
  exact ⟨t, x, v, sv, y, q1, q2, q3, hopd (fun b hb h => q12 b hb (by rw [h]; rfl)) q4, hopd (fun b hb h => q12 b hb (by rw [h, Bool.or_true])) q5, q6, q7, q9⟩
set_option maxHeartbeats 1000000 in
theorem als_run {H0 : List Item} {L0 : SL} {l0 : Array Bool} {la : List AlA} {ss : List AlS} (hT : chkAll P T = true) (hE : EnvOk P E) (hI : inv w0)
    (hA : alA T N ops.toList 0 = some la) (hS : alS T E ops l0 la H0.length (alLf (fun _ => true) la H0.length L0) (H0 ++ alX (fun _ => true) la) ops.toList 0 = some ss) (hD : depA ops l0 (la.map (·.i) ++ ss.map (·.i)) = true) (hW : waitC E ops l0 (la.map (·.i) ++ ss.map (·.i)) = true)
    (hlowH : LowH H0.length H0) (hlowL : ∀ t s, lookS L0 t = some s → s.refsT H0.length = true) (hfl : fl ≤ H0.length) (hl0 : l0.size = ops.size)
    (hX : ∀ H G w H' G' w', X H G w → Ev Z fl H G w H' G' w' → X H' G' w')
    (hEnd : ∀ (n : Nat) (l : Array Bool) G w a, cu l ≤ n → l.size = ops.size → (∀ k, l0.getD k false = true → l.getD k false = true) → (∀ k ∈ la.map (·.i) ++ ss.map (·.i), l.getD k true = true) → (∀ k, l.getD k true = true → l0.getD k true = true ∨ k ∈ la.map (·.i) ++ ss.map (·.i)) → Clo ops l → SR Z w0 (stHf (fun _ => true) ss (H0 ++ alX (fun _ => true) la)) G w → FR Z N (alLf (fun _ => true) la H0.length L0) (stHf (fun _ => true) ss (H0 ++ alX (fun _ => true) la)) G w a → X (stHf (fun _ => true) ss (H0 ++ alX (fun _ => true) la)) G w → wpG P ops Q (fun _ => True) n l a w) :
    ∀ (n : Nat) (l : Array Bool), cu l ≤ n → l.size = ops.size → (∀ k, l0.getD k false = true → l.getD k false = true) → (∀ k, l.getD k true = true → l0.getD k true = true ∨ k ∈ la.map (·.i) ++ ss.map (·.i)) → Clo ops l → ∀ (G : List Value) (w : World) (a : Act),
      SR Z w0 (stHf (dn l) ss (H0 ++ alX (dn l) la)) G w → FR Z N (alLf (dn l) la H0.length L0) (stHf (dn l) ss (H0 ++ alX (dn l) la)) G w a → X (stHf (dn l) ss (H0 ++ alX (dn l) la)) G w → wpG P ops Q (fun _ => True) n l a w := by
  obtain ⟨a1, a2, a3⟩ := alA_fact hA
  obtain ⟨s1, s2, s3⟩ := alS_fact hS
  have hp := plan_of hA hS
  -- what is left
  have cov : ∀ {l : Array Bool}, (∀ k, l0.getD k false = true → l.getD k false = true) → ∀ {k : Nat} {o : Oper}, ops[k]? = some o → l.getD k true = false → (∃ (r : Nat) (x : AlA), la[r]? = some x ∧ x.i = k ∧ isAlloc o = true) ∨ (∃ s ∈ ss, s.i = k ∧ isAlloc o = false) ∨ (isTam E o = true ∧ l0.getD k true = false) := by
    intro l hsub k o ho hu
    have hk : ops.toList[k]? = some o := by rw [Array.getElem?_toList]; exact ho
    cases hal : isAlloc o with
    | true =>
      obtain ⟨r, x, h1, h2, _⟩ := a1 k o hk hal
      exact .inl ⟨r, x, h1, by omega, rfl⟩
    | false =>
      right
      have hlt : k < l0.size := by rw [hl0]; exact (Array.getElem?_eq_some_iff.1 ho).1
      have h0 : l0.getD (0 + k) true = false := by
        rw [Nat.zero_add]
        cases hq : l0.getD k true with
        | false => rfl
        | true =>
          rw [← getD_tf hlt] at hq
          have := hsub k hq
          rcases Nat.lt_or_ge k l.size with h' | h'
          · rw [getD_tf h', hu] at this; cases this
          · simp [Array.getElem?_eq_none h'] at hu
      cases ht : isTam E o with
      | true => rw [Nat.zero_add] at h0; exact .inr ⟨rfl, h0⟩
      | false =>
        obtain ⟨s, h1, h2⟩ := s1 k o hk h0 hal ht
        exact .inl ⟨s, h1, by omega, rfl⟩
  have fin : ∀ {n : Nat} {l : Array Bool}, cu l ≤ n → l.size = ops.size → (∀ k, l0.getD k false = true → l.getD k false = true) → (∀ k, l.getD k true = true → l0.getD k true = true ∨ k ∈ la.map (·.i) ++ ss.map (·.i)) → Clo ops l → (∀ k ∈ la.map (·.i) ++ ss.map (·.i), l.getD k true = true) → ∀ {G : List Value} {w : World} {a : Act}, SR Z w0 (stHf (dn l) ss (H0 ++ alX (dn l) la)) G w → FR Z N (alLf (dn l) la H0.length L0) (stHf (dn l) ss (H0 ++ alX (dn l) la)) G w a → X (stHf (dn l) ss (H0 ++ alX (dn l) la)) G w → wpG P ops Q (fun _ => True) n l a w := by
    intro n l hcu hl hsub hin hcl hall G w a hr hf hx
    have e1 : ∀ x ∈ la, dn l x.i = true := fun x hx => hall _ (List.mem_append_left _ (List.mem_map.2 ⟨x, hx, rfl⟩))
    have e2 : ∀ s ∈ ss, dn l s.i = true := fun s hs => hall _ (List.mem_append_right _ (List.mem_map.2 ⟨s, hs, rfl⟩))
    have e3 : alX (dn l) la = alX (fun _ => true) la := by
      unfold alX
      exact List.map_congr_left fun x hx => by rw [e1 x hx]
    have e4 : stHf (dn l) ss (H0 ++ alX (dn l) la) = stHf (fun _ => true) ss (H0 ++ alX (fun _ => true) la) := by
      rw [e3]
      exact stHf_congr e2
    rw [e4] at hr hf hx
    refine hEnd n l G w a hcu hl hsub hall hin hcl hr ⟨hf.defers, hf.size, fun t s hs => hf.slot t s ?_⟩ hx
    rw [← hs]
    exact alLf_congr (fun x hx _ => e1 x hx) rfl
  intro n
  induction n with
  | zero =>
    intro l hcu hl hsub hin hcl G w a hr hf hx
    exact fin hcu hl hsub hin hcl (fun k _ => cu_done (l := l) (by omega) k) hr hf hx
  | succ n ih =>
    intro l hcu hl hsub hin hcl G w a hr hf hx
    by_cases hC : ∀ k ∈ la.map (·.i) ++ ss.map (·.i), l.getD k true = true
    · exact fin hcu hl hsub hin hcl hC hr hf hx
    have hC' : ∃ k ∈ la.map (·.i) ++ ss.map (·.i), l.getD k true = false := by
      apply Classical.byContradiction
      intro hn
      refine hC fun k hk => ?_
      cases hq : l.getD k true with
      | true => rfl
      | false => exact (hn ⟨k, hk, hq⟩).elim
    refine ⟨fun h => (depA_ready hl hD hsub hC' h).elim, fun j hj => ?_⟩
    obtain ⟨hju, oj, hoj, hdep⟩ := mem_ready.1 hj
    have hin' : ∀ {i : Nat}, i ∈ la.map (·.i) ++ ss.map (·.i) → ∀ k, (l.setIfInBounds i true).getD k true = true → l0.getD k true = true ∨ k ∈ la.map (·.i) ++ ss.map (·.i) := fun {i} hi k hk => by
      have := dn_up l i k
      rw [show dn (l.setIfInBounds i true) k = true from hk] at this
      by_cases e : k = i
      · subst e; exact .inr hi
      · rw [if_neg e] at this; exact hin k this.symm
    have hsub' : ∀ k, l0.getD k false = true → (l.setIfInBounds j true).getD k false = true := fun k hk => getD_set_true (hsub k hk)
    have hcu' : cu (l.setIfInBounds j true) ≤ n := by have := cu_up hju; omega
    have hjr : ∀ os, ops[j]? = some os → ∀ e ∈ os.after, Region.binds .any e = true → l.getD e.on false = true := fun os hos e he hb => by rw [hoj] at hos; injection hos with hos; subst hos; exact hdep e he hb
    rcases cov hsub hoj hju with ⟨r, x, h1, h2, hal⟩ | ⟨s, hsm, h2, hal⟩ | ⟨ht, hu0⟩
    · -- an allocation
      subst h2
      obtain ⟨r', x', g1, g2, g3, g4, y, g5, g6⟩ := plan_al hA hoj hal
      have e : r' = r := by
        by_cases hh : r' = r
        · exact hh
        · exact absurd g2 (dis_ne a3 h1 g1 hh).1
      subst e
      rw [h1] at g1
      injection g1 with g1
      subst g1
      obtain ⟨hset, hgone⟩ := hp.setA hcl hl h1 hju
      refine alloc_step (L' := alLf (dn (l.setIfInBounds x.i true)) la H0.length L0) hT hoj hal h1 g3 g4 g5 ⟨y, g6⟩ a3 hju hgone (hp.low hlowH) (lowL_al hlowL) hfl hr hf hx hX (alLf_up (dn_up l x.i) a3 h1) fun v G' w' _ k1 k2 k3 => ⟨.inr trivial, ?_⟩
      rw [← hset] at k1 k2 k3
      exact ih _ hcu' (by simpa using hl) hsub' (hin' (List.mem_append_left _ (List.mem_map.2 ⟨x, List.mem_of_getElem? h1, rfl⟩))) (hcl.set hj) G' w' _ k1 k2 k3
    · -- a store
      subst h2
      obtain ⟨_, _, o, ho, _, hok⟩ := s2 s hsm
      rw [Nat.sub_zero, Array.getElem?_toList, hoj] at ho
      injection ho with ho
      subst ho
      obtain ⟨bt, c', b1, b2⟩ := hp.box hcl hsm hjr
      refine store_step (fl := fl) hT hE hI hoj (stNow_of hok hcl hjr) b1 b2 hr hf hx hX fun G' w' k2 k3 k5 => ⟨.inr trivial, ?_⟩
      rw [← hp.setS hsm hju] at k2 k3 k5
      refine ih _ hcu' (by simpa using hl) hsub' (hin' (List.mem_append_right _ (List.mem_map.2 ⟨s, hsm, rfl⟩))) (hcl.set hj) G' w' _ k2 ?_ k5
      exact ⟨k3.defers, k3.size, fun u su hs => k3.slot u su (by rw [← alLf_congr (fun x hx _ => (hp.same hoj hal).2 x hx) rfl]; exact hs)⟩
    · -- a tame one waits for all
      exfalso
      obtain ⟨k, hk, hku⟩ := hC'
      have hw := List.all_eq_true.1 hW j (List.mem_range.2 (Array.getElem?_eq_some_iff.1 hoj).1)
      unfold tamAt at hw
      rw [hu0, hoj] at hw
      dsimp only at hw
      rw [ht] at hw
      simp only [Bool.not_true, Bool.or_false, Bool.false_or] at hw
      have := waits_done hcl hjr (List.all_eq_true.1 hw k hk)
      rw [hku] at this
      cases this
end
end Go.Proofs.YtcaiedfkohigjaaGreat
