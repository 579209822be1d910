/- Steps of the state: a new thing, a written one, a row that grows, a row that is given up. -/
import Derived.Test.YtpiabmjipgfjjaaDoorPuH
namespace Go.Proofs.YtpiabmjipgfjjaaDoor
open Go.RowKit

def onSV (f : SV → SV) : SV → SV
  | .tup l => .tup (l.map f)
  | s => f s
def mapL (f : SV → SV) : SL → SL
  | [] => []
  | (t, s) :: r => (t, onSV f s) :: mapL f r
def mapI (f : SV → SV) : Item → Item
  | .box t cs => .box t (cs.map f)
  | it => it
/-- What spoke of row j speaks of nothing. -/
def kill (j : Nat) (s : SV) : SV := match s.of1 j with
  | true => .dead
  | false => s
/-- Row j is given up: it is a datum now. -/
def fz (j : Nat) (e : Ty) (xs : List e.D) (s : SV) : SV := match s.of1 j with
  | true => match s with
    | .own _ => .d (.sl e) xs
    | .osl _ sz lo n => match Nat.beq sz e.n with
      | true => .d (.sl e) ((xs.drop lo).take n)
      | false => .dead
    | _ => .dead
  | false => s
theorem mapL_look {f : SV → SV} : ∀ {L : SL} {t : Nat} {s : SV}, lookS (mapL f L) t = some s → ∃ s0, lookS L t = some s0 ∧ s = onSV f s0
  | [], t, s, h => by simp [mapL, lookS] at h
  | (k, x) :: r, t, s, h => by
    simp only [mapL, lookS] at h ⊢
    split at h
    · injection h with h; exact ⟨x, rfl, h.symm⟩
    · exact mapL_look h
section
variable {Z : Nat → Prop} {w0 : World} {n : Nat} {L : SL} {H H' : List Item} {G G' : List Value} {w w' : World} {a : Act}
theorem Rel.map {A A' : Nat → Prop} {f : SV → SV} (hf : ∀ s v, Rel1 G A w s v → Rel1 G' A' w' (f s) v) {s : SV} {v : Value} (h : Rel G A w s v) : Rel G' A' w' (onSV f s) v := by
  cases s with
  | tup l =>
    obtain ⟨vs, h1, h2⟩ := h
    refine ⟨vs, h1, ?_⟩
    clear h1
    induction l generalizing vs with
    | nil => cases vs <;> exact h2
    | cons s l ih =>
      match vs, h2 with
      | v :: vs, ⟨g1, g2⟩ => exact ⟨hf s v g1, ih vs g2⟩
  | _ => exact rel_of1 (hf _ _ h)
theorem FR.map {f : SV → SV} (hf : ∀ s v, Rel1 G (Av Z H G) w s v → Rel1 G' (Av Z H' G') w' (f s) v) (h : FR Z n L H G w a) : FR Z n (mapL f L) H' G' w' a :=
  ⟨h.defers, h.size, fun t s hs => by
    obtain ⟨s0, h1, rfl⟩ := mapL_look hs
    obtain ⟨v, h2, h3⟩ := h.slot t s0 h1
    exact ⟨v, h2, h3.map hf⟩⟩
theorem FR.keep (hf : ∀ s v, Rel1 G (Av Z H G) w s v → Rel1 G' (Av Z H' G') w' s v) (h : FR Z n L H G w a) : FR Z n L H' G' w' a :=
  ⟨h.defers, h.size, fun t s hs => by
    obtain ⟨v, h2, h3⟩ := h.slot t s hs
    refine ⟨v, h2, ?_⟩
    have := h3.map (f := id) hf
    cases s <;> simpa [onSV] using this⟩
theorem wkI_refl {j : Nat} {same : Prop} (hs : same) : ∀ it : Item, WkI j same it it
  | .box t cs => ⟨rfl, by induction cs with | nil => trivial | cons s l ih => exact ⟨.inr ⟨rfl, fun _ => hs⟩, ih⟩⟩
  | .row _ _ _ => rfl
  | .gone => rfl
theorem getG_append {g : Value} {i : Nat} (hi : i < G.length) : (G ++ [g])[i]? = G[i]? := List.getElem?_append_left hi

/-- Something new. -/
theorem step_new (hr : SR Z w0 H G w) (hb : Below w.heap.size w w') {it : Item} {g : Value} (hg : ∀ b, blkOf g = some b → w.heap.size ≤ b) : Step w0 H.length True H (H ++ [it]) G (G ++ [g]) w w' := by
  have hl := hr.len
  refine ⟨by simp [hl], ?_, hb.size, fun b hbw _ => hb.block b hbw, ?_, ?_, ?_, ?_, ?_⟩
  · exact hr.below.trans (hb.mono hr.below.size)
  · intro i g' hi hg'
    have hlt := (List.getElem?_eq_some_iff.1 hg').1
    rw [getG_append hlt]; exact hg'
  · intro i it' hi h1
    rcases Nat.lt_or_ge i H.length with hlt | hge
    · rw [List.getElem?_append_left hlt] at h1; exact ⟨it', h1, wkI_refl trivial it'⟩
    · rw [List.getElem?_append_right hge] at h1
      have : i - H.length = 0 := by
        rcases Nat.eq_zero_or_pos (i - H.length) with h0 | h0
        · exact h0
        · rw [List.getElem?_eq_none (by simp; omega)] at h1; cases h1
      omega
  · intro it' g' b _ _ h3 h4
    rw [List.getElem?_append_right (by omega), hl, Nat.sub_self] at h3
    simp only [List.getElem?_cons_zero, Option.some.injEq] at h3
    subst h3
    exact .inr (hg b h4)
  · intro _ g' h1
    rw [List.getElem?_eq_none (by omega)] at h1; cases h1
  · intro a h1
    rw [List.getElem?_eq_none (by omega)] at h1; cases h1
theorem rel_new {j : Nat} (hr : SR Z w0 H G w) (hs : Step w0 j True H H' G G' w w') {s : SV} {v : Value} (h : Rel1 G (Av Z H G) w s v) : Rel1 G' (Av Z H' G') w' s v := hs.rel1 hr h (.inr ⟨rfl, fun _ => trivial⟩)
theorem sr_new (hr : SR Z w0 H G w) (hb : Below w.heap.size w w') {it : Item} {g : Value} (hg : ∀ b, blkOf g = some b → w.heap.size ≤ b)
    (hit : ItemRel w0.heap.size (G ++ [g]) (Av Z (H ++ [it]) (G ++ [g])) w' it g) : SR Z w0 (H ++ [it]) (G ++ [g]) w' := by
  refine (step_new hr hb hg).sr hr fun it' g' h1 h2 => ?_
  rw [List.getElem?_append_right (Nat.le_refl _), Nat.sub_self] at h1
  rw [List.getElem?_append_right (by rw [hr.len]; exact Nat.le_refl _), hr.len, Nat.sub_self] at h2
  simp only [List.getElem?_cons_zero, Option.some.injEq] at h1 h2
  subst h1 h2
  exact hit
/-- The world has grown. -/
theorem step_grow (hr : SR Z w0 H G w) (hb : Below w.heap.size w w') : Step w0 H.length True H H G G w w' := by
  have hl := hr.len
  refine ⟨hl, hr.below.trans (hb.mono hr.below.size), hb.size, fun b hbw _ => hb.block b hbw, fun i g _ h => h, fun i it' _ h => ⟨it', h, wkI_refl trivial it'⟩, ?_, fun _ g h => h, fun a h => h⟩
  intro it' g' b h1 _ _ _
  rw [List.getElem?_eq_none (Nat.le_refl _)] at h1; cases h1
theorem sr_grow (hr : SR Z w0 H G w) (hb : Below w.heap.size w w') : SR Z w0 H G w' :=
  (step_grow hr hb).sr hr fun it' g' h1 _ => by rw [List.getElem?_eq_none (Nat.le_refl _)] at h1; cases h1
/-- Item j is written; its address stays. -/
theorem step_mod (hr : SR Z w0 H G w) {j : Nat} {it it' : Item} (hj : H[j]? = some it) (hl : it.live = true) (hB : Below w0.heap.size w0 w') (hz : w.heap.size ≤ w'.heap.size)
    (hblk : ∀ b, b < w.heap.size → (∀ g, G[j]? = some g → blkOf g ≠ some b) → w'.heap[b]? = w.heap[b]?) : Step w0 j True H (H.set j it') G G w w' := by
  have hlt := (List.getElem?_eq_some_iff.1 hj).1
  refine ⟨by simp [hr.len], hB, hz, fun b hb hn => hblk b hb fun g hg => hn it g hj hl hg, fun i g _ h => h, fun i it'' hi h => ?_, ?_, fun _ g h => h, fun a h => h⟩
  · rw [List.getElem?_set, if_neg (Ne.symm hi)] at h
    exact ⟨it'', h, wkI_refl trivial it''⟩
  · intro it'' g' b _ _ h3 h4
    exact .inl ⟨it, g', hj, hl, h3, h4⟩
theorem sr_mod (hr : SR Z w0 H G w) {j : Nat} {it it' : Item} (hj : H[j]? = some it) (hl : it.live = true) (hB : Below w0.heap.size w0 w') (hz : w.heap.size ≤ w'.heap.size)
    (hblk : ∀ b, b < w.heap.size → (∀ g, G[j]? = some g → blkOf g ≠ some b) → w'.heap[b]? = w.heap[b]?) (hit : ∀ g, G[j]? = some g → ItemRel w0.heap.size G (Av Z (H.set j it') G) w' it' g) : SR Z w0 (H.set j it') G w' := by
  have hlt := (List.getElem?_eq_some_iff.1 hj).1
  refine (step_mod hr hj hl hB hz hblk).sr hr fun it'' g' h1 h2 => ?_
  rw [List.getElem?_set, if_pos rfl, if_pos hlt] at h1
  injection h1 with h1
  subst h1
  exact hit g' h2
/-- Row j grows: its address turns. -/
theorem wk_kill (j : Nat) (same : Prop) (s : SV) : Wk j same s (kill j s) := by
  unfold kill
  split
  · exact .inl rfl
  · rename_i h; exact .inr ⟨rfl, fun h' => by rw [h'] at h; cases h⟩
theorem wkI_kill (j : Nat) (same : Prop) : ∀ it : Item, WkI j same it (mapI (kill j) it)
  | .box t cs => ⟨rfl, by induction cs with | nil => trivial | cons s l ih => exact ⟨wk_kill j same s, ih⟩⟩
  | .row _ _ _ => rfl
  | .gone => rfl
theorem step_app (hr : SR Z w0 H G w) {j : Nat} {et et' : TypeId} {e e' : Ty} {xs : List e.D} {xs' : List e'.D} {g g' : Value} (hj : H[j]? = some (.row et e xs)) (hg : G[j]? = some g) (hnp : ∀ a, g ≠ .pointer a) (hgr : w.grownBy w' (blkOf g)) (hb : w0.heap.size ≤ w.heap.size)
    (hg' : ∀ b, blkOf g' = some b → blkOf g = some b ∨ w.heap.size ≤ b) : Step w0 j False H ((H.map (mapI (kill j))).set j (.row et' e' xs')) G (G.set j g') w w' := by
  have hlt := (List.getElem?_eq_some_iff.1 hj).1
  refine ⟨by simp [hr.len], ?_, hgr.size, ?_, ?_, ?_, ?_, fun h => h.elim, ?_⟩
  · refine hr.below.grown hgr hb fun k hk => ((hr.items j _ g hj hg).blk rfl hk).1
  · intro b hb' hn
    exact hgr.block b hb' fun e1 => hn _ g hj rfl hg e1.symm
  · intro i g1 hi h; rw [List.getElem?_set, if_neg (Ne.symm hi)]; exact h
  · intro i it' hi h
    rw [List.getElem?_set, if_neg (Ne.symm hi), List.getElem?_map] at h
    cases hh : H[i]? with
    | none => rw [hh] at h; cases h
    | some it => rw [hh] at h; simp only [Option.map_some, Option.some.injEq] at h; subst h; exact ⟨it, rfl, wkI_kill j False it⟩
  · intro it' g1 b h1 h2 h3 h4
    rw [List.getElem?_set, if_pos rfl, if_pos (by rw [hr.len]; exact hlt)] at h3
    injection h3 with h3
    subst h3
    rcases hg' b h4 with h5 | h5
    · exact .inl ⟨_, g, hj, rfl, hg, h5⟩
    · exact .inr h5
  · intro a h; rw [hg] at h; injection h with h; exact (hnp a h).elim
/-- Row j is given up. -/
theorem rd_own {j : Nat} {et : TypeId} {e : Ty} {xs : List e.D} {g : Value} {A : Nat → Prop} (hr : SR Z w0 H G w) (hj : H[j]? = some (.row et e xs)) (hg : G[j]? = some g) (hA : ∀ b, b < w.heap.size → Av Z H G b → A b) (hAj : ∀ b, blkOf g = some b → A b) : (Ty.sl e).rd A w [g] xs := by
  obtain ⟨css, ho, ha2, hn⟩ := hr.items j _ g hj hg
  have hk : Keeps (Av Z H G) A w w := ⟨Nat.le_refl _, hA, fun _ _ _ => rfl⟩
  have ha3 := all2_mono (fun _ _ h => Ty.rd_keep hk h) ha2
  have hrd := Rd.of_own hn ho
  obtain ⟨hlen, p, c, hv, h1, h2, h3⟩ := hrd
  subst hv
  refine ⟨p, xs.length, c, css, rfl, rfl, h1, h2, ha3, fun h0 => ?_⟩
  obtain ⟨b, off, rfl, h5, h6⟩ := h3 h0
  exact ⟨b, off, rfl, hAj b rfl, h5, h6⟩
/-- A window on a row, as data. -/
theorem rd_win {j lo n : Nat} {et : TypeId} {e : Ty} {xs : List e.D} {v : Value} {A : Nat → Prop} (hr : SR Z w0 H G w) (hj : H[j]? = some (.row et e xs)) (hv : Rel1 G (Av Z H G) w (.osl j e.n lo n) v) (hA : ∀ b, b < w.heap.size → Av Z H G b → A b) (hAj : ∀ g b, G[j]? = some g → blkOf g = some b → A b) : (Ty.sl e).rd A w [v] ((xs.drop lo).take n) := by
  obtain ⟨g, q, c, hg, rfl, h1, h2, h3⟩ := hv
  obtain ⟨css, ho, ha2, hn⟩ := hr.items j _ g hj hg
  have hk : Keeps (Av Z H G) A w w := ⟨Nat.le_refl _, hA, fun _ _ _ => rfl⟩
  have ha3 := all2_mono (fun _ _ h => Ty.rd_keep hk h) ha2
  have hl4 := rds_len ha2
  have hN : 0 < n → lo + n ≤ xs.length := fun h0 => by
    obtain ⟨b, N, c', rfl, h4, _⟩ := h3 h0
    rcases own_form' ho with ⟨h5, _⟩ | ⟨b', c'', h5⟩
    · cases h5
    · injection h5 with _ h5; omega
  refine ⟨q, n, c, (css.drop lo).take n, rfl, ?_, h1, h2, all2_take _ (all2_drop _ ha3), fun h0 => ?_⟩
  · rcases Nat.eq_zero_or_pos n with h0 | h0
    · subst h0; simp
    · have := hN h0; simp; omega
  · obtain ⟨b, N, c', rfl, h4, rfl⟩ := h3 h0
    obtain ⟨_, p, c1, hv, _, _, h6⟩ := Rd.of_own hn ho
    injection hv with hv1 hv2 hv3
    obtain ⟨b', off, e1, h7, h8⟩ := h6 (by have := hN h0; omega)
    rw [e1] at hv1
    injection hv1 with hv1
    injection hv1 with e2 e3
    subst e2 e3
    refine ⟨b, lo * e.n, rfl, hAj _ b hg rfl, h7, fun k u hu => ?_⟩
    rw [flatten_take _ (fun l hm => hl4 l (List.mem_of_mem_drop hm)), flatten_drop _ hl4, List.getElem?_take] at hu
    split at hu
    · rw [List.getElem?_drop] at hu
      have := h8 _ _ hu
      rwa [Nat.zero_add] at this
    · cases hu
theorem sr_freeze {j : Nat} {et : TypeId} {e : Ty} {xs : List e.D} (hr : SR Z w0 H G w) (hj : H[j]? = some (.row et e xs)) :
    SR Z w0 ((H.map (mapI (fz j e xs))).set j .gone) G w ∧ ∀ s v, Rel1 G (Av Z H G) w s v → Rel1 G (Av Z ((H.map (mapI (fz j e xs))).set j .gone) G) w (fz j e xs s) v := by
  have hlt := (List.getElem?_eq_some_iff.1 hj).1
  have hltG : j < G.length := by rw [hr.len]; exact hlt
  have hg : G[j]? = some G[j] := List.getElem?_eq_getElem hltG
  generalize hgg : G[j] = g at hg
  have hget : ∀ (i : Nat) it', ((H.map (mapI (fz j e xs))).set j .gone)[i]? = some it' → (i = j ∧ it' = .gone) ∨ (i ≠ j ∧ ∃ it, H[i]? = some it ∧ it' = mapI (fz j e xs) it) := by
    intro i it' h
    rw [List.getElem?_set] at h
    by_cases hij : j = i
    · subst hij
      rw [if_pos rfl, if_pos (by simpa using hlt)] at h
      injection h with h
      exact .inl ⟨rfl, h.symm⟩
    · rw [if_neg hij, List.getElem?_map] at h
      cases hh : H[i]? with
      | none => rw [hh] at h; cases h
      | some it => rw [hh] at h; simp only [Option.map_some, Option.some.injEq] at h; exact .inr ⟨fun e => hij e.symm, it, rfl, h.symm⟩
  have live : ∀ it : Item, (mapI (fz j e xs) it).live = it.live := fun it => by cases it <;> rfl
  have hsub : ∀ b, b < w.heap.size → Av Z H G b → Av Z ((H.map (mapI (fz j e xs))).set j .gone) G b := by
    intro b _ hA
    refine ⟨hA.1, fun i it' g' h1 h2 h3 => ?_⟩
    rcases hget i it' h1 with ⟨_, rfl⟩ | ⟨_, it, h4, rfl⟩
    · cases h2
    · exact hA.2 i it g' h4 (by rw [← live]; exact h2) h3
  have hAj : ∀ b, blkOf g = some b → Av Z ((H.map (mapI (fz j e xs))).set j .gone) G b := by
    intro b hb
    refine ⟨hr.zf b ((hr.items j _ g hj hg).blk rfl hb).1, fun i it' g' h1 h2 h3 => ?_⟩
    rcases hget i it' h1 with ⟨_, rfl⟩ | ⟨hij, it, h4, rfl⟩
    · cases h2
    · exact fun h5 => hr.disj i j it _ g' g b hij h4 hj (by rw [← live]; exact h2) rfl h3 hg h5 hb
  have hk : Keeps (Av Z H G) (Av Z ((H.map (mapI (fz j e xs))).set j .gone) G) w w := ⟨Nat.le_refl _, hsub, fun _ _ _ => rfl⟩
  have hrel : ∀ s v, Rel1 G (Av Z H G) w s v → Rel1 G (Av Z ((H.map (mapI (fz j e xs))).set j .gone) G) w (fz j e xs s) v := by
    intro s v h
    unfold fz
    split
    · rename_i hof
      split
      · rename_i i
        have : i = j := Nat.eq_of_beq_eq_true hof
        subst this
        have h : G[i]? = some v := h
        rw [hg] at h
        injection h with h
        subst h
        exact ⟨[g], rd_own hr hj hg hsub hAj, rfl⟩
      · rename_i i sz lo n
        have : i = j := Nat.eq_of_beq_eq_true hof
        subst this
        split
        · rename_i hb
          have := Nat.eq_of_beq_eq_true hb
          subst this
          have hv := rd_win hr hj h hsub (fun g' b h1 h2 => hAj b (by rw [hg] at h1; injection h1 with h1; rw [h1]; exact h2))
          exact ⟨[v], hv, rfl⟩
        · trivial
      · trivial
    · exact h.keep hk fun i g' _ h => h
  refine ⟨⟨by simp [hr.len], hr.below, ?_, ?_, hr.zf⟩, hrel⟩
  · intro i it' g' h1 h2
    rcases hget i it' h1 with ⟨_, rfl⟩ | ⟨hij, it, h4, rfl⟩
    · trivial
    · have hi := hr.items i it g' h4 h2
      cases it with
      | gone => trivial
      | box t cs =>
        obtain ⟨b, vs, rfl, k1, k2, k3⟩ := hi
        refine ⟨b, vs, rfl, k1, k2, ?_⟩
        clear k2 h4 h1
        induction cs generalizing vs with
        | nil => cases vs <;> exact k3
        | cons s l ih =>
          match vs, k3 with
          | v :: vs, ⟨q1, q2⟩ => exact ⟨hrel s v q1, ih vs q2⟩
      | row et' e' xs' =>
        obtain ⟨css, k1, k2, k3⟩ := hi
        exact ⟨css, k1, all2_mono (fun _ _ h => Ty.rd_keep hk h) k2, k3⟩
  · intro i k it kt g1 h1 b hik a1 a2 a3 a4 a5 a6 a7
    rcases hget i it a1 with ⟨_, rfl⟩ | ⟨_, it0, b1, rfl⟩
    · cases a3
    · rcases hget k kt a2 with ⟨_, rfl⟩ | ⟨_, kt0, c1, rfl⟩
      · cases a4
      · exact hr.disj i k it0 kt0 g1 h1 b hik b1 c1 (by rw [← live]; exact a3) (by rw [← live]; exact a4) a5 a6 a7
end
end Go.Proofs.YtpiabmjipgfjjaaDoor
