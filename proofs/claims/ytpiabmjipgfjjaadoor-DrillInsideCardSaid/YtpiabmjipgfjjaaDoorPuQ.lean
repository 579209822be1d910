/- The pure machine and the machine: slots, loop heads, waiting calls. -/
import Derived.Test.YtpiabmjipgfjjaaDoorPuP
namespace Go.Proofs.YtpiabmjipgfjjaaDoor
open Go.RowKit

theorem lookS_del {d : Nat} : ∀ {L : SL} {t : Nat} {s : SV}, lookS (delS L d) t = some s → lookS L t = some s ∧ t ≠ d
  | [], _, _, h => by simp [delS, lookS] at h
  | (k, x) :: r, t, s, h => by
    simp only [delS] at h
    split at h
    · rename_i hk
      obtain ⟨h1, h2⟩ := lookS_del h
      refine ⟨?_, h2⟩
      simp only [lookS]
      have : k = d := Nat.eq_of_beq_eq_true hk
      subst this
      cases hb : Nat.beq k t with
      | true => exact absurd (Nat.eq_of_beq_eq_true hb).symm h2
      | false => exact h1
    · rename_i hk
      simp only [lookS] at h ⊢
      cases hb : Nat.beq k t with
      | true =>
        rw [hb] at h
        refine ⟨h, fun e => ?_⟩
        have h1 : k = t := Nat.eq_of_beq_eq_true hb
        subst h1 e
        simp at hk
      | false => rw [hb] at h; exact lookS_del h
theorem lookS_cons {d : Nat} {x : SV} {L : SL} {t : Nat} {s : SV} (h : lookS ((d, x) :: L) t = some s) : (t = d ∧ s = x) ∨ (t ≠ d ∧ lookS L t = some s) := by
  simp only [lookS] at h
  split at h
  · rename_i hb
    injection h with h
    exact .inl ⟨(Nat.eq_of_beq_eq_true hb).symm, h.symm⟩
  · rename_i hb
    refine .inr ⟨fun e => ?_, h⟩
    subst e
    simp at hb
theorem pickS_look {L : SL} : ∀ {ts : List Nat} {L' : SL}, pickS L ts = some L' → ∀ t s, lookS L' t = some s → lookS L t = some s
  | [], L', h, t, s, hs => by simp only [pickS, Option.some.injEq] at h; subst h; simp [lookS] at hs
  | u :: ts, L', h, t, s, hs => by
    simp only [pickS] at h
    split at h <;> try (cases h; done)
    rename_i x r h1 h2
    injection h with h
    subst h
    rcases lookS_cons hs with ⟨rfl, rfl⟩ | ⟨_, h3⟩
    · exact h1
    · exact pickS_look h2 t s h3
theorem lookS_mem : ∀ {L : SL} {t : Nat} {s : SV}, lookS L t = some s → (t, s) ∈ L
  | [], _, _, h => by simp [lookS] at h
  | (k, x) :: r, t, s, h => by
    rcases lookS_cons h with ⟨rfl, rfl⟩ | ⟨_, h3⟩
    · simp
    · simp [lookS_mem h3]
def SV.refsT (hl : Nat) : SV → Bool
  | .tup l => l.all (SV.refs hl)
  | s => s.refs hl
theorem refsT_eq {k : Nat} {s : SV} (h : ∀ l, s ≠ .tup l) : s.refsT k = s.refs k := by cases s <;> first | rfl | exact (h _ rfl).elim
theorem refs_of1 {fl j : Nat} {s : SV} (h : s.refs fl = true) (ho : s.of1 j = true) : j < fl := by
  cases s <;> simp only [SV.of1, Bool.false_eq_true] at ho
  · have := Nat.eq_of_beq_eq_true ho; subst this; exact Nat.le_of_ble_eq_true h
  · have := Nat.eq_of_beq_eq_true ho; subst this; exact Nat.le_of_ble_eq_true h
  · have := Nat.eq_of_beq_eq_true ho; subst this; exact Nat.le_of_ble_eq_true h
section
variable {Z : Nat → Prop} {w0 : World} {n : Nat} {L L' : SL} {H H' : List Item} {G G' : List Value} {w w' : World} {a : Act} {F : FT}
theorem FR.put {d : Option Nat} {s : SV} {v : Value} (h : FR Z n L H G w a) (hp : putS n L d s = some L') (hv : Rel G (Av Z H G) w s v) : FR Z n L' H G w (a.put d v) := by
  cases d with
  | none => simp only [putS, Option.some.injEq] at hp; subst hp; exact h
  | some d =>
    simp only [putS] at hp
    split at hp <;> try (cases hp; done)
    rename_i hd
    have hd := Nat.le_of_ble_eq_true hd
    injection hp with hp
    subst hp
    refine ⟨h.defers, by simp [Act.put, h.size], fun t s' hs => ?_⟩
    simp only [Act.put, Array.getElem?_setIfInBounds, h.size]
    rcases lookS_cons hs with ⟨rfl, rfl⟩ | ⟨hne, h3⟩
    · exact ⟨v, by simp; omega, hv⟩
    · obtain ⟨h4, _⟩ := lookS_del h3
      obtain ⟨u, h5, h6⟩ := h.slot t s' h4
      exact ⟨u, by rw [if_neg (Ne.symm hne)]; exact h5, h6⟩
/-- A slot's value is said otherwise. -/
theorem FR.say {d : Nat} {s : SV} {v : Value} (h : FR Z n L H G w a) (hd : a.tmps[d]? = some v) (hv : Rel G (Av Z H G) w s v) : FR Z n ((d, s) :: delS L d) H G w a :=
  ⟨h.defers, h.size, fun t s' hs => by
    rcases lookS_cons hs with ⟨rfl, rfl⟩ | ⟨hne, h3⟩
    · exact ⟨v, hd, hv⟩
    · exact h.slot t s' (lookS_del h3).1⟩
theorem rel_refs (hr : SR Z w0 H G w) {s : SV} {v : Value} (h : Rel1 G (Av Z H G) w s v) : s.refs H.length = true := by
  have lt : ∀ (j : Nat) g, G[j]? = some g → Nat.ble (j + 1) H.length = true := fun j g hg => Nat.ble_eq_true_of_le (by rw [← hr.len]; exact (List.getElem?_eq_some_iff.1 hg).1)
  cases s with
  | box j off => obtain ⟨b, h1, _⟩ := h; exact lt j _ h1
  | own j => exact lt j _ h
  | oelt j sz i off => obtain ⟨b, m, c, h1, _⟩ := h; exact lt j _ h1
  | osl j sz lo n => obtain ⟨g, q, c, h1, _⟩ := h; exact lt j _ h1
  | clo f caps =>
    obtain ⟨bs, h1, _⟩ := h
    refine List.all_eq_true.2 fun j hj => ?_
    obtain ⟨k, hk, rfl⟩ := List.getElem_of_mem hj
    obtain ⟨b, _, hb⟩ := all2_getL h1 k _ (List.getElem?_eq_getElem hk)
    exact lt _ _ hb
  | tup l => exact h.elim
  | _ => rfl
theorem rel_refsT (hr : SR Z w0 H G w) {s : SV} {v : Value} (h : Rel G (Av Z H G) w s v) : s.refsT H.length = true := by
  cases s with
  | tup l =>
    obtain ⟨vs, _, h2⟩ := h
    refine List.all_eq_true.2 fun s hs => ?_
    obtain ⟨k, hk, rfl⟩ := List.getElem_of_mem hs
    obtain ⟨b, _, hb⟩ := all2_getL h2 k _ (List.getElem?_eq_getElem hk)
    exact rel_refs hr hb
  | _ => rw [refsT_eq (fun l e => by cases e)]; exact rel_refs hr (rel_to1 h (fun l e => by cases e))
/-- What the waiting calls know stays true. -/
def Ev (Z : Nat → Prop) (fl : Nat) (H : List Item) (G : List Value) (w : World) (H' : List Item) (G' : List Value) (w' : World) : Prop := ∀ s v, Rel1 G (Av Z H G) w s v → s.refs fl = true → Rel1 G' (Av Z H' G') w' s v
theorem Chg.ev {fl : Nat} {st ap : Bool} (h : Chg Z fl st ap H G w H' G' w') : Ev Z fl H G w H' G' w' := fun s v hs hr => h.pres s v hs fun j hj => refs_of1 hr hj
def FrsOk (Z : Nat → Prop) (F : FT) (H : List Item) (G : List Value) (w : World) : Nat → List Fm → List Act → Prop
  | _, [], [] => True
  | fl, fm :: fs, a :: ats => FR Z (ntm F fm.f) fm.L H G w a ∧ (∀ t s, lookS fm.L t = some s → s.refsT fl = true) ∧ (fm.fl ≤ fl ∧ ∃ fn, lookF F fm.f = some fn) ∧ FrsOk Z F H G w fm.fl fs ats
  | _, _, _ => False
theorem refs_mono {k l : Nat} (h : k ≤ l) {s : SV} (hs : s.refs k = true) : s.refs l = true := by
  have b : ∀ j, Nat.ble (j + 1) k = true → Nat.ble (j + 1) l = true := fun j hj => Nat.ble_eq_true_of_le (Nat.le_trans (Nat.le_of_ble_eq_true hj) h)
  cases s with
  | box j off => exact b j hs
  | own j => exact b j hs
  | oelt j sz i off => exact b j hs
  | osl j sz i off => exact b j hs
  | clo f caps => exact List.all_eq_true.2 fun j hj => b j (List.all_eq_true.1 hs j hj)
  | tup l => cases hs
  | _ => rfl
theorem refsT_mono {k l : Nat} (h : k ≤ l) {s : SV} (hs : s.refsT k = true) : s.refsT l = true := by
  cases s with
  | tup l => exact List.all_eq_true.2 fun s hm => refs_mono h (List.all_eq_true.1 hs s hm)
  | _ => rw [refsT_eq (fun l e => by cases e)] at hs ⊢; exact refs_mono h hs
theorem Rel.ev {fl : Nat} (he : Ev Z fl H G w H' G' w') {s : SV} {v : Value} (h : Rel G (Av Z H G) w s v) (hr : s.refsT fl = true) : Rel G' (Av Z H' G') w' s v := by
  cases s with
  | tup l =>
    obtain ⟨vs, h1, h2⟩ := h
    refine ⟨vs, h1, ?_⟩
    clear h1
    induction l generalizing vs with
    | nil => cases vs <;> exact h2
    | cons s l ih =>
      simp only [SV.refsT, List.all_cons, Bool.and_eq_true] at hr
      match vs, h2 with
      | v :: vs, ⟨g1, g2⟩ => exact ⟨he s v g1 hr.1, ih hr.2 vs g2⟩
  | _ => rw [refsT_eq (fun l e => by cases e)] at hr; exact rel_of1 (he _ _ (rel_to1 h (fun l e => by cases e)) hr)
theorem FrsOk.ev {fl : Nat} (he : Ev Z fl H G w H' G' w') : ∀ {fl' : Nat} {fs : List Fm} {ats : List Act}, fl' ≤ fl → FrsOk Z F H G w fl' fs ats → FrsOk Z F H' G' w' fl' fs ats
  | _, [], [], _, _ => trivial
  | fl', fm :: fs, a :: ats, hle, ⟨h1, h2, h3, h4⟩ => ⟨⟨h1.defers, h1.size, fun t s hs => by
      obtain ⟨v, g1, g2⟩ := h1.slot t s hs
      exact ⟨v, g1, g2.ev he (refsT_mono hle (h2 t s hs))⟩⟩, h2, h3, FrsOk.ev he (Nat.le_trans h3.1 hle) h4⟩
  | _, [], _ :: _, _, h => h.elim
  | _, _ :: _, [], _, h => h.elim

/-! Loop heads. -/
theorem normOwn_ok {fl : Nat} : ∀ {l : List (Nat × Nat × Ty)} {L : SL} {H : List Item} {G : List Value}, SR Z w0 H G w → FR Z n L H G w a → fl ≤ H.length → normOwn l L H = some (L', H') → ∃ G', SR Z w0 H' G' w ∧ FR Z n L' H' G' w a ∧ Ev Z fl H G w H' G' w ∧ fl ≤ H'.length
  | [], L, H, G, hr, hf, hfl, h => by
    simp only [normOwn, Option.some.injEq, Prod.mk.injEq] at h
    obtain ⟨rfl, rfl⟩ := h
    exact ⟨G, hr, hf, fun s v h _ => h, hfl⟩
  | (t, et, e) :: l, L, H, G, hr, hf, hfl, h => by
    simp only [normOwn] at h
    split at h
    · rename_i hs
      split at h <;> try (cases h; done)
      rename_i hn
      have hn := Nat.le_of_ble_eq_true hn
      obtain ⟨v, h1, h2⟩ := hf.slot t _ hs
      have h2 : v = .slice none 0 0 := h2
      subst h2
      obtain ⟨G1, k1, k2, k3, k4⟩ := new_row (et := et) (e := e) (xs := []) (css := []) hr hf (Below.refl _ _) (World.ownsRow_nil w _ _ _) hn trivial fl false false
      obtain ⟨G2, g1, g2, g3, g4⟩ := normOwn_ok (fl := fl) k1 (k2.say h1 k3) (by simp; omega) h
      exact ⟨G2, g1, g2, fun s v hs hrf => g3 s v (k4.ev s v hs hrf) hrf, g4⟩
    · exact normOwn_ok hr hf hfl h
theorem normPure_ok {fl : Nat} : ∀ {l : List (Nat × Ty)} {L : SL} {H : List Item}, SR Z w0 H G w → FR Z n L H G w a → fl ≤ H.length → normPure fl l L H = some (L', H') → SR Z w0 H' G w ∧ FR Z n L' H' G w a ∧ Ev Z fl H G w H' G w ∧ fl ≤ H'.length
  | [], L, H, hr, hf, hfl, h => by
    simp only [normPure, Option.some.injEq, Prod.mk.injEq] at h
    obtain ⟨rfl, rfl⟩ := h
    exact ⟨hr, hf, fun s v h _ => h, hfl⟩
  | (t, e) :: l, L, H, hr, hf, hfl, h => by
    simp only [normPure] at h
    split at h
    · rename_i hs
      obtain ⟨v, h1, h2⟩ := hf.slot t _ hs
      have h2 : v = .slice none 0 0 := h2
      subst h2
      exact normPure_ok hr (hf.say (s := .d (.sl e) []) h1 ⟨[_], nil_rd, rfl⟩) hfl h
    · rename_i j hs
      split at h <;> try (cases h; done)
      rename_i L1 H1 hg
      have hfz : fzAll fl [.tmp t] L H = some (L1, H1) := by simp only [fzAll, opS, hs, hg]
      obtain ⟨g1, g2, g3, _, _⟩ := fzAll_ok hr hf hfz
      have hlen : H1.length = H.length := by
        unfold giveUp at hg
        split at hg <;> try (cases hg; done)
        simp only [Option.some.injEq, Prod.mk.injEq] at hg
        rw [← hg.2]; simp
      obtain ⟨k1, k2, k3, k4⟩ := normPure_ok g1 g2 (by omega) h
      exact ⟨k1, k2, fun s v hs hrf => k3 s v (g3 s v hs fun j hj => refs_of1 hrf hj) hrf, k4⟩
    · exact normPure_ok hr hf hfl h
theorem take_get {α : Type} {l : List α} {k j : Nat} {x : α} (h : (l.take k)[j]? = some x) : j < k ∧ l[j]? = some x := by
  rw [List.getElem?_take] at h
  split at h
  · exact ⟨by assumption, h⟩
  · cases h
theorem av_take (hl : Nat) {b : Nat} (h : Av Z H G b) : Av Z (H.take hl) (G.take hl) b := ⟨h.1, fun j it g h1 h2 h3 => h.2 j it g (take_get h1).2 h2 (take_get h3).2⟩
theorem rel_take {hl : Nat} {s : SV} {v : Value} (h : Rel1 G (Av Z H G) w s v) (hs : s.refs hl = true) : Rel1 (G.take hl) (Av Z (H.take hl) (G.take hl)) w s v := by
  have hk : Keeps (Av Z H G) (Av Z (H.take hl) (G.take hl)) w w := ⟨Nat.le_refl _, fun b _ h => av_take hl h, fun _ _ _ => rfl⟩
  have g : ∀ (j : Nat) x, Nat.ble (j + 1) hl = true → G[j]? = some x → (G.take hl)[j]? = some x := fun j x hj hx => by
    rw [List.getElem?_take, if_pos (show j < hl from Nat.le_of_ble_eq_true hj)]; exact hx
  cases s with
  | d t x => obtain ⟨cs, h1, h2⟩ := h; exact ⟨cs, Ty.rd_keep hk h1, h2⟩
  | nil => exact h
  | box j off => obtain ⟨b, h1, h2⟩ := h; exact ⟨b, g j _ hs h1, h2⟩
  | elt e x off => obtain ⟨b, o, cs, h1, h2, h3, h4, h5⟩ := h; exact ⟨b, o, cs, h1, av_take hl h2, h3, Ty.rd_keep hk h4, h5⟩
  | own j => exact g j _ hs h
  | oelt j sz i off => obtain ⟨b, m, c, h1, h2⟩ := h; exact ⟨b, m, c, g j _ hs h1, h2⟩
  | cut e xs => obtain ⟨p, h1, h2⟩ := h; exact ⟨p, Ty.rd_keep hk h1, h2⟩
  | osl j sz lo n => obtain ⟨x, q, c, h1, h2⟩ := h; exact ⟨x, q, c, g j _ hs h1, h2⟩
  | clo f caps =>
    obtain ⟨bs, h1, h2⟩ := h
    refine ⟨bs, ?_, h2⟩
    clear h2
    induction caps generalizing bs with
    | nil => cases bs <;> exact h1
    | cons c caps ih =>
      simp only [SV.refs, List.all_cons, Bool.and_eq_true] at hs
      match bs, h1 with
      | b :: bs, ⟨q1, q2⟩ => exact ⟨g c _ hs.1 q1, ih hs.2 bs q2⟩
  | tup l => exact h
  | undef => exact h
  | dead => trivial
theorem sr_take {hl : Nat} (hr : SR Z w0 H G w) (hrf : (H.take hl).all (Item.refs hl) = true) : SR Z w0 (H.take hl) (G.take hl) w := by
  have hk : Keeps (Av Z H G) (Av Z (H.take hl) (G.take hl)) w w := ⟨Nat.le_refl _, fun b _ h => av_take hl h, fun _ _ _ => rfl⟩
  refine ⟨by simp [hr.len], hr.below, fun j it g h1 h2 => ?_, fun i j it jt g h b hij h1 h2 h3 h4 h5 h6 h7 => hr.disj i j it jt g h b hij (take_get h1).2 (take_get h2).2 h3 h4 (take_get h5).2 (take_get h6).2 h7, hr.zf⟩
  have hi := hr.items j it g (take_get h1).2 (take_get h2).2
  have hir : it.refs hl = true := List.all_eq_true.1 hrf it (List.mem_of_getElem? h1)
  cases it with
  | gone => trivial
  | row et e xs => obtain ⟨css, k1, k2, k3⟩ := hi; exact ⟨css, k1, all2_mono (fun _ _ h => Ty.rd_keep hk h) k2, k3⟩
  | box t cs =>
    obtain ⟨b, vs, rfl, k1, k2, k3⟩ := hi
    refine ⟨b, vs, rfl, k1, k2, ?_⟩
    clear k2 h1
    induction cs generalizing vs with
    | nil => cases vs <;> exact k3
    | cons s l ih =>
      simp only [Item.refs, List.all_cons, Bool.and_eq_true] at hir
      match vs, k3 with
      | v :: vs, ⟨q1, q2⟩ => exact ⟨rel_take q1 hir.1, ih hir.2 vs q2⟩
structure CR (Z : Nat → Prop) (F : FT) (w0 : World) (c : Cfg) (G : List Value) (w : World) (a : Act) (ats : List Act) : Prop where
  sr : SR Z w0 c.H G w
  fr : FR Z (ntm F c.f) c.L c.H G w a
  fl : c.fl ≤ c.H.length
  frs : FrsOk Z F c.H G w c.fl c.fs ats
theorem norm_ok {x : NI} {c c' : Cfg} {ats : List Act} (h : norm x c = some c') (hc : CR Z F w0 c G w a ats) : ∃ G', CR Z F w0 c' G' w a ats ∧ c'.f = c.f ∧ c'.K = c.K ∧ c'.fs = c.fs := by
  unfold norm at h
  split at h <;> try (cases h; done)
  rename_i L1 H1 h1
  split at h <;> try (cases h; done)
  rename_i L2 H2 h2
  split at h <;> try (cases h; done)
  rename_i L3 h3
  split at h <;> try (cases h; done)
  rename_i hb
  injection h with h
  subst h
  simp only [Bool.and_eq_true] at hb
  obtain ⟨⟨⟨b1, b2⟩, b3⟩, b4⟩ := hb
  obtain ⟨G1, g1, g2, g3, g4⟩ := normOwn_ok hc.sr hc.fr hc.fl h1
  obtain ⟨k1, k2, k3, k4⟩ := normPure_ok g1 g2 g4 h2
  have b3' := Nat.le_of_ble_eq_true b3
  have hev : Ev Z c.fl c.H G w (H2.take x.hl) (G1.take x.hl) w := fun s v hs hrf => rel_take (k3 s v (g3 s v hs hrf) hrf) (refs_mono b3' hrf)
  refine ⟨G1.take x.hl, ⟨sr_take k1 b2, ⟨k2.defers, k2.size, fun t s hs => ?_⟩, by simp; omega, hc.frs.ev hev (Nat.le_refl _)⟩, rfl, rfl, rfl⟩
  obtain ⟨v, q1, q2⟩ := k2.slot t s (pickS_look h3 t s hs)
  have hrf : s.refs x.hl = true := List.all_eq_true.1 b1 (t, s) (lookS_mem hs)
  exact ⟨v, q1, rel_of1 (rel_take (rel_to1 q2 fun l e => by subst e; cases hrf) hrf)⟩
end
end Go.Proofs.YtpiabmjipgfjjaaDoor
