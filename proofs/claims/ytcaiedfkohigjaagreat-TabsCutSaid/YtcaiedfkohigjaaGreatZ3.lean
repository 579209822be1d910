/- Steps of the state: a new thing, a written one, a row that grows, a row that is given up. -/
import Derived.Test.YtcaiedfkohigjaaGreatZ2
import Derived.Laws.OwnMore
import Derived.Maps.AppendAt
import Derived.ArgAppend
namespace Go.Proofs.YtcaiedfkohigjaaGreat
open Go.RowKit

def onSV (f : SV → SV) : SV → SV
  | .tup l => .tup (l.map f)
  | s => f s
def mapL (f : SV → SV) : SL → SL
  | [] => []
  | (t, s) :: r => (t, onSV f s) :: mapL f r
def mapI (f : SV → SV) : Item → Item
  | .box t cs => .box t (cs.map f)
  | it => it
/-- What spoke of row j speaks of nothing. -/
def kill (j : Nat) (s : SV) : SV := match s.of1 j with
  | true => .dead
  | false => s
/-- Row j is given up: it is a datum now. -/
def fz (j : Nat) (e : Ty) (xs : List e.D) (s : SV) : SV := match s.of1 j with
  | true => match s with
    | .own _ => .d (.sl e) xs
    | .osl _ sz lo n => match Nat.beq sz e.n with
      | true => .d (.sl e) ((xs.drop lo).take n)
      | false => .dead
    | _ => .dead
  | false => s
theorem mapL_look {f : SV → SV} : ∀ {L : SL} {t : Nat} {s : SV}, lookS (mapL f L) t = some s → ∃ s0, lookS L t = some s0 ∧ s = onSV f s0
  | [], t, s, h => by simp [mapL, lookS] at h
  | (k, x) :: r, t, s, h => by
    simp only [mapL, lookS] at h ⊢
    split at h
    · injection h with h; exact ⟨x, rfl, h.symm⟩
    · exact mapL_look h
section
variable {Z : Nat → Prop} {w0 : World} {n : Nat} {L : SL} {H H' : List Item} {G G' : List Value} {w w' : World} {a : Act}
theorem Rel.map {A A' : Nat → Prop} {f : SV → SV} (hf : ∀ s v, Rel1 G A w s v → Rel1 G' A' w' (f s) v) {s : SV} {v : Value} (h : Rel G A w s v) : Rel G' A' w' (onSV f s) v := by
  cases s with
  | tup l =>
    obtain ⟨vs, h1, h2⟩ := h
    refine ⟨vs, h1, ?_⟩
    clear h1
    induction l generalizing vs with
    | nil => cases vs <;> exact h2
    | cons s l ih =>
      match vs, h2 with
      | v :: vs, ⟨g1, g2⟩ => exact ⟨hf s v g1, ih vs g2⟩
  | _ => exact rel_of1 (hf _ _ h)
theorem FR.map {f : SV → SV} (hf : ∀ s v, Rel1 G (Av Z H G) w s v → Rel1 G' (Av Z H' G') w' (f s) v) (h : FR Z n L H G w a) : FR Z n (mapL f L) H' G' w' a :=
  ⟨h.defers, h.size, fun t s hs => by
    obtain ⟨s0, h1, rfl⟩ := mapL_look hs
    obtain ⟨v, h2, h3⟩ := h.slot t s0 h1
    exact ⟨v, h2, h3.map hf⟩⟩
theorem FR.keep (hf : ∀ s v, Rel1 G (Av Z H G) w s v → Rel1 G' (Av Z H' G') w' s v) (h : FR Z n L H G w a) : FR Z n L H' G' w' a :=
  ⟨h.defers, h.size, fun t s hs => by
    obtain ⟨v, h2, h3⟩ := h.slot t s hs
    refine ⟨v, h2, ?_⟩
    have := h3.map (f := id) hf
    cases s <;> simpa [onSV] using this⟩
theorem wkI_refl {j : Nat} {same : Prop} (hs : same) : ∀ it : Item, WkI j same it it
  | .box t cs => ⟨rfl, by induction cs with | nil => trivial | cons s l ih => exact ⟨.inr ⟨rfl, fun _ => hs⟩, ih⟩⟩
  | .row _ _ _ => rfl
  | .gone => rfl
theorem getG_append {g : Value} {i : Nat} (hi : i < G.length) : (G ++ [g])[i]? = G[i]? := List.getElem?_append_left hi

/-- Something new. -/
theorem step_new (hr : SR Z w0 H G w) (hb : Below w.heap.size w w') {it : Item} {g : Value} (hg : ∀ b, blkOf g = some b → w.heap.size ≤ b) : Step w0 H.length True H (H ++ [it]) G (G ++ [g]) w w' := by
  have hl := hr.len
  refine ⟨by simp [hl], ?_, hb.size, fun b hbw _ => hb.block b hbw, ?_, ?_, ?_, ?_, ?_⟩
  · exact hr.below.trans (hb.mono hr.below.size)
  · intro i g' hi hg'
    have hlt := (List.getElem?_eq_some_iff.1 hg').1
    rw [getG_append hlt]; exact hg'
  · intro i it' hi h1
    rcases Nat.lt_or_ge i H.length with hlt | hge
    · rw [List.getElem?_append_left hlt] at h1; exact ⟨it', h1, wkI_refl trivial it'⟩
    · rw [List.getElem?_append_right hge] at h1
      have : i - H.length = 0 := by
        rcases Nat.eq_zero_or_pos (i - H.length) with h0 | h0
        · exact h0
        · rw [List.getElem?_eq_none (by simp; omega)] at h1; cases h1
      omega
  · intro it' g' b _ _ h3 h4
    rw [List.getElem?_append_right (by omega), hl, Nat.sub_self] at h3
    simp only [List.getElem?_cons_zero, Option.some.injEq] at h3
    subst h3
    exact .inr (hg b h4)
  · intro _ g' h1
    rw [List.getElem?_eq_none (by omega)] at h1; cases h1
  · intro a h1
    rw [List.getElem?_eq_none (by omega)] at h1; cases h1
theorem rel_new {j : Nat} (hr : SR Z w0 H G w) (hs : Step w0 j True H H' G G' w w') {s : SV} {v : Value} (h : Rel1 G (Av Z H G) w s v) : Rel1 G' (Av Z H' G') w' s v := hs.rel1 hr h (.inr ⟨rfl, fun _ => trivial⟩)
theorem sr_new (hr : SR Z w0 H G w) (hb : Below w.heap.size w w') {it : Item} {g : Value} (hg : ∀ b, blkOf g = some b → w.heap.size ≤ b)
    (hit : ItemRel w0.heap.size (G ++ [g]) (Av Z (H ++ [it]) (G ++ [g])) w' it g) : SR Z w0 (H ++ [it]) (G ++ [g]) w' := by
  refine (step_new hr hb hg).sr hr fun it' g' h1 h2 => ?_
  rw [List.getElem?_append_right (Nat.le_refl _), Nat.sub_self] at h1
  rw [List.getElem?_append_right (by rw [hr.len]; exact Nat.le_refl _), hr.len, Nat.sub_self] at h2
  simp only [List.getElem?_cons_zero, Option.some.injEq] at h1 h2
  subst h1 h2
  exact hit
/-- The world has grown. -/
theorem step_grow (hr : SR Z w0 H G w) (hb : Below w.heap.size w w') : Step w0 H.length True H H G G w w' := by
  have hl := hr.len
  refine ⟨hl, hr.below.trans (hb.mono hr.below.size), hb.size, fun b hbw _ => hb.block b hbw, fun i g _ h => h, fun i it' _ h => ⟨it', h, wkI_refl trivial it'⟩, ?_, fun _ g h => h, fun a h => h⟩
  intro it' g' b h1 _ _ _
  rw [List.getElem?_eq_none (Nat.le_refl _)] at h1; cases h1
theorem sr_grow (hr : SR Z w0 H G w) (hb : Below w.heap.size w w') : SR Z w0 H G w' :=
  (step_grow hr hb).sr hr fun it' g' h1 _ => by rw [List.getElem?_eq_none (Nat.le_refl _)] at h1; cases h1
/-- Item j is written; its address stays. -/
theorem step_mod (hr : SR Z w0 H G w) {j : Nat} {it it' : Item} (hj : H[j]? = some it) (hl : it.live = true) (hB : Below w0.heap.size w0 w') (hz : w.heap.size ≤ w'.heap.size)
    (hblk : ∀ b, b < w.heap.size → (∀ g, G[j]? = some g → blkOf g ≠ some b) → w'.heap[b]? = w.heap[b]?) : Step w0 j True H (H.set j it') G G w w' := by
  have hlt := (List.getElem?_eq_some_iff.1 hj).1
  refine ⟨by simp [hr.len], hB, hz, fun b hb hn => hblk b hb fun g hg => hn it g hj hl hg, fun i g _ h => h, fun i it'' hi h => ?_, ?_, fun _ g h => h, fun a h => h⟩
  · rw [List.getElem?_set, if_neg (Ne.symm hi)] at h
    exact ⟨it'', h, wkI_refl trivial it''⟩
  · intro it'' g' b _ _ h3 h4
    exact .inl ⟨it, g', hj, hl, h3, h4⟩
theorem sr_mod (hr : SR Z w0 H G w) {j : Nat} {it it' : Item} (hj : H[j]? = some it) (hl : it.live = true) (hB : Below w0.heap.size w0 w') (hz : w.heap.size ≤ w'.heap.size)
    (hblk : ∀ b, b < w.heap.size → (∀ g, G[j]? = some g → blkOf g ≠ some b) → w'.heap[b]? = w.heap[b]?) (hit : ∀ g, G[j]? = some g → ItemRel w0.heap.size G (Av Z (H.set j it') G) w' it' g) : SR Z w0 (H.set j it') G w' := by
  have hlt := (List.getElem?_eq_some_iff.1 hj).1
  refine (step_mod hr hj hl hB hz hblk).sr hr fun it'' g' h1 h2 => ?_
  rw [List.getElem?_set, if_pos rfl, if_pos hlt] at h1
  injection h1 with h1
  subst h1
  exact hit g' h2
/-- Row j grows: its address turns. -/
theorem wk_kill (j : Nat) (same : Prop) (s : SV) : Wk j same s (kill j s) := by
  unfold kill
  split
  · exact .inl rfl
  · rename_i h; exact .inr ⟨rfl, fun h' => by rw [h'] at h; cases h⟩
theorem wkI_kill (j : Nat) (same : Prop) : ∀ it : Item, WkI j same it (mapI (kill j) it)
  | .box t cs => ⟨rfl, by induction cs with | nil => trivial | cons s l ih => exact ⟨wk_kill j same s, ih⟩⟩
  | .row _ _ _ => rfl
  | .gone => rfl
theorem step_app (hr : SR Z w0 H G w) {j : Nat} {et et' : TypeId} {e e' : Ty} {xs : List e.D} {xs' : List e'.D} {g g' : Value} (hj : H[j]? = some (.row et e xs)) (hg : G[j]? = some g) (hnp : ∀ a, g ≠ .pointer a) (hgr : w.grownBy w' (blkOf g)) (hb : w0.heap.size ≤ w.heap.size)
    (hg' : ∀ b, blkOf g' = some b → blkOf g = some b ∨ w.heap.size ≤ b) : Step w0 j False H ((H.map (mapI (kill j))).set j (.row et' e' xs')) G (G.set j g') w w' := by
  have hlt := (List.getElem?_eq_some_iff.1 hj).1
  refine ⟨by simp [hr.len], ?_, hgr.size, ?_, ?_, ?_, ?_, fun h => h.elim, ?_⟩
  · refine hr.below.grown hgr hb fun k hk => ((hr.items j _ g hj hg).blk rfl hk).1
  · intro b hb' hn
    exact hgr.block b hb' fun e1 => hn _ g hj rfl hg e1.symm
  · intro i g1 hi h; rw [List.getElem?_set, if_neg (Ne.symm hi)]; exact h
  · intro i it' hi h
    rw [List.getElem?_set, if_neg (Ne.symm hi), List.getElem?_map] at h
    cases hh : H[i]? with
    | none => rw [hh] at h; cases h
    | some it => rw [hh] at h; simp only [Option.map_some, Option.some.injEq] at h; subst h; exact ⟨it, rfl, wkI_kill j False it⟩
  · intro it' g1 b h1 h2 h3 h4
    rw [List.getElem?_set, if_pos rfl, if_pos (by rw [hr.len]; exact hlt)] at h3
    injection h3 with h3
    subst h3
    rcases hg' b h4 with h5 | h5
    · exact .inl ⟨_, g, hj, rfl, hg, h5⟩
    · exact .inr h5
  · intro a h; rw [hg] at h; injection h with h; exact (hnp a h).elim
/-- Row j is given up. -/
theorem rd_own {j : Nat} {et : TypeId} {e : Ty} {xs : List e.D} {g : Value} {A : Nat → Prop} (hr : SR Z w0 H G w) (hj : H[j]? = some (.row et e xs)) (hg : G[j]? = some g) (hA : ∀ b, b < w.heap.size → Av Z H G b → A b) (hAj : ∀ b, blkOf g = some b → A b) : (Ty.sl e).rd A w [g] xs := by
  obtain ⟨css, ho, ha2, hn⟩ := hr.items j _ g hj hg
  have hk : Keeps (Av Z H G) A w w := ⟨Nat.le_refl _, hA, fun _ _ _ => rfl⟩
  have ha3 := all2_mono (fun _ _ h => Ty.rd_keep hk h) ha2
  have hrd := Rd.of_own hn ho
  obtain ⟨hlen, p, c, hv, h1, h2, h3⟩ := hrd
  subst hv
  refine ⟨p, xs.length, c, css, rfl, rfl, h1, h2, ha3, fun h0 => ?_⟩
  obtain ⟨b, off, rfl, h5, h6⟩ := h3 h0
  exact ⟨b, off, rfl, hAj b rfl, h5, h6⟩
/-- A window on a row, as data. -/
theorem rd_win {j lo n : Nat} {et : TypeId} {e : Ty} {xs : List e.D} {v : Value} {A : Nat → Prop} (hr : SR Z w0 H G w) (hj : H[j]? = some (.row et e xs)) (hv : Rel1 G (Av Z H G) w (.osl j e.n lo n) v) (hA : ∀ b, b < w.heap.size → Av Z H G b → A b) (hAj : ∀ g b, G[j]? = some g → blkOf g = some b → A b) : (Ty.sl e).rd A w [v] ((xs.drop lo).take n) := by
  obtain ⟨g, q, c, hg, rfl, h1, h2, h3⟩ := hv
  obtain ⟨css, ho, ha2, hn⟩ := hr.items j _ g hj hg
  have hk : Keeps (Av Z H G) A w w := ⟨Nat.le_refl _, hA, fun _ _ _ => rfl⟩
  have ha3 := all2_mono (fun _ _ h => Ty.rd_keep hk h) ha2
  have hl4 := rds_len ha2
  have hN : 0 < n → lo + n ≤ xs.length := fun h0 => by
    obtain ⟨b, N, c', rfl, h4, _⟩ := h3 h0
    rcases own_form' ho with ⟨h5, _⟩ | ⟨b', c'', h5⟩
    · cases h5
    · injection h5 with _ h5; omega
  refine ⟨q, n, c, (css.drop lo).take n, rfl, ?_, h1, h2, all2_take _ (all2_drop _ ha3), fun h0 => ?_⟩
  · rcases Nat.eq_zero_or_pos n with h0 | h0
    · subst h0; simp
    · have := hN h0; simp; omega
  · obtain ⟨b, N, c', rfl, h4, rfl⟩ := h3 h0
    obtain ⟨_, p, c1, hv, _, _, h6⟩ := Rd.of_own hn ho
    injection hv with hv1 hv2 hv3
    obtain ⟨b', off, e1, h7, h8⟩ := h6 (by have := hN h0; omega)
    rw [e1] at hv1
    injection hv1 with hv1
    injection hv1 with e2 e3
    subst e2 e3
    refine ⟨b, lo * e.n, rfl, hAj _ b hg rfl, h7, fun k u hu => ?_⟩
    rw [flatten_take _ (fun l hm => hl4 l (List.mem_of_mem_drop hm)), flatten_drop _ hl4, List.getElem?_take] at hu
    split at hu
    · rw [List.getElem?_drop] at hu
      have := h8 _ _ hu
      rwa [Nat.zero_add] at this
    · cases hu
theorem sr_freeze {j : Nat} {et : TypeId} {e : Ty} {xs : List e.D} (hr : SR Z w0 H G w) (hj : H[j]? = some (.row et e xs)) :
    SR Z w0 ((H.map (mapI (fz j e xs))).set j .gone) G w ∧ ∀ s v, Rel1 G (Av Z H G) w s v → Rel1 G (Av Z ((H.map (mapI (fz j e xs))).set j .gone) G) w (fz j e xs s) v := by
  have hlt := (List.getElem?_eq_some_iff.1 hj).1
  have hltG : j < G.length := by rw [hr.len]; exact hlt
  have hg : G[j]? = some G[j] := List.getElem?_eq_getElem hltG
  generalize hgg : G[j] = g at hg
  have hget : ∀ (i : Nat) it', ((H.map (mapI (fz j e xs))).set j .gone)[i]? = some it' → (i = j ∧ it' = .gone) ∨ (i ≠ j ∧ ∃ it, H[i]? = some it ∧ it' = mapI (fz j e xs) it) := by
    intro i it' h
    rw [List.getElem?_set] at h
    by_cases hij : j = i
    · subst hij
      rw [if_pos rfl, if_pos (by simpa using hlt)] at h
      injection h with h
      exact .inl ⟨rfl, h.symm⟩
    · rw [if_neg hij, List.getElem?_map] at h
      cases hh : H[i]? with
      | none => rw [hh] at h; cases h
      | some it => rw [hh] at h; simp only [Option.map_some, Option.some.injEq] at h; exact .inr ⟨fun e => hij e.symm, it, rfl, h.symm⟩
  have live : ∀ it : Item, (mapI (fz j e xs) it).live = it.live := fun it => by cases it <;> rfl
  have hsub : ∀ b, b < w.heap.size → Av Z H G b → Av Z ((H.map (mapI (fz j e xs))).set j .gone) G b := by
    intro b _ hA
    refine ⟨hA.1, fun i it' g' h1 h2 h3 => ?_⟩
    rcases hget i it' h1 with ⟨_, rfl⟩ | ⟨_, it, h4, rfl⟩
    · cases h2
    · exact hA.2 i it g' h4 (by rw [← live]; exact h2) h3
  have hAj : ∀ b, blkOf g = some b → Av Z ((H.map (mapI (fz j e xs))).set j .gone) G b := by
    intro b hb
    refine ⟨hr.zf b ((hr.items j _ g hj hg).blk rfl hb).1, fun i it' g' h1 h2 h3 => ?_⟩
    rcases hget i it' h1 with ⟨_, rfl⟩ | ⟨hij, it, h4, rfl⟩
    · cases h2
    · exact fun h5 => hr.disj i j it _ g' g b hij h4 hj (by rw [← live]; exact h2) rfl h3 hg h5 hb
  have hk : Keeps (Av Z H G) (Av Z ((H.map (mapI (fz j e xs))).set j .gone) G) w w := ⟨Nat.le_refl _, hsub, fun _ _ _ => rfl⟩
  have hrel : ∀ s v, Rel1 G (Av Z H G) w s v → Rel1 G (Av Z ((H.map (mapI (fz j e xs))).set j .gone) G) w (fz j e xs s) v := by
    intro s v h
    unfold fz
    split
    · rename_i hof
      split
      · rename_i i
        have : i = j := Nat.eq_of_beq_eq_true hof
        subst this
        have h : G[i]? = some v := h
        rw [hg] at h
        injection h with h
        subst h
        exact ⟨[g], rd_own hr hj hg hsub hAj, rfl⟩
      · rename_i i sz lo n
        have : i = j := Nat.eq_of_beq_eq_true hof
        subst this
        split
        · rename_i hb
          have := Nat.eq_of_beq_eq_true hb
          subst this
          have hv := rd_win hr hj h hsub (fun g' b h1 h2 => hAj b (by rw [hg] at h1; injection h1 with h1; rw [h1]; exact h2))
          exact ⟨[v], hv, rfl⟩
        · trivial
      · trivial
    · exact h.keep hk fun i g' _ h => h
  refine ⟨⟨by simp [hr.len], hr.below, ?_, ?_, hr.zf⟩, hrel⟩
  · intro i it' g' h1 h2
    rcases hget i it' h1 with ⟨_, rfl⟩ | ⟨hij, it, h4, rfl⟩
    · trivial
    · have hi := hr.items i it g' h4 h2
      cases it with
      | gone => trivial
      | box t cs =>
        obtain ⟨b, vs, rfl, k1, k2, k3⟩ := hi
        refine ⟨b, vs, rfl, k1, k2, ?_⟩
        clear k2 h4 h1
        induction cs generalizing vs with
        | nil => cases vs <;> exact k3
        | cons s l ih =>
          match vs, k3 with
          | v :: vs, ⟨q1, q2⟩ => exact ⟨hrel s v q1, ih vs q2⟩
      | row et' e' xs' =>
        obtain ⟨css, k1, k2, k3⟩ := hi
        exact ⟨css, k1, all2_mono (fun _ _ h => Ty.rd_keep hk h) k2, k3⟩
  · intro i k it kt g1 h1 b hik a1 a2 a3 a4 a5 a6 a7
    rcases hget i it a1 with ⟨_, rfl⟩ | ⟨_, it0, b1, rfl⟩
    · cases a3
    · rcases hget k kt a2 with ⟨_, rfl⟩ | ⟨_, kt0, c1, rfl⟩
      · cases a4
      · exact hr.disj i k it0 kt0 g1 h1 b hik b1 c1 (by rw [← live]; exact a3) (by rw [← live]; exact a4) a5 a6 a7
end
end Go.Proofs.YtcaiedfkohigjaaGreat
/- What holds in every world of a run: the package variables that stand. -/
namespace Go.Proofs.YtcaiedfkohigjaaGreat
open Go.RowKit
def inv (_ : World) : Prop := True
theorem inv_below {w w' : World} (_ : inv w) (_ : Below w.heap.size w w') : inv w' := trivial
theorem inv_triv {w : World} : inv w := trivial
end Go.Proofs.YtcaiedfkohigjaaGreat
/- Operations that change the state. -/
namespace Go.Proofs.YtcaiedfkohigjaaGreat
open Go.RowKit

inductive RV where
  | d (t : Ty) (x : t.D)
  | new (et : TypeId) (e : Ty) (xs : List e.D)
/-- A function that turns a row of numbers in place; `ret`: it gives the row back, perhaps shorter. -/
structure MutG where
  ret : Bool
  g : List Int → List Int
/-- What is known of a function: from arguments to results. -/
structure Spec where
  keep : Bool
  run : (R : Type) → List SV → (List RV → Option R) → Option R
  mut_ : Option MutG := none
  /-- All of its results are data: in a region of such calls alone the order does not matter. -/
  tame : Bool := false
abbrev Env := List (Nat × Spec)
def lookE : Env → Nat → Option Spec
  | [], _ => none
  | (k, x) :: r, t => match Nat.beq k t with
    | true => some x
    | false => lookE r t

def mutOf (E : Env) (f : Nat) : Option MutG := match lookE E f with
  | some sp => sp.mut_
  | none => none
def Ty.zsplit : Ty → List SV
  | .pair a b => a.zsplit ++ b.zsplit
  | .st a => a.zsplit
  | .int k => [.d (.int k) (0 : Int)]
  | .bool => [.d .bool false]
  | .str => [.d .str ⟨#[]⟩]
  | .sl _ => [.nil]
def joinN (e : Ty) : Nat → List SV → Option (List e.D)
  | 0, [] => some []
  | 0, _ => none
  | n + 1, l => match e.join l with
    | some (x, r) => match joinN e n r with
      | some xs => some (x :: xs)
      | none => none
    | none => none
def repL {α : Type} (l : List α) : Nat → List α
  | 0 => []
  | n + 1 => l ++ repL l n
def giveUp (fl : Nat) (j : Nat) (L : SL) (H : List Item) : Option (SL × List Item) := match Nat.ble fl j, H[j]? with
  | true, some (.row _ e xs) => some (mapL (fz j e xs) L, (H.map (mapI (fz j e xs))).set j .gone)
  | _, _ => none
def fzAll (fl : Nat) : List Operand → SL → List Item → Option (SL × List Item)
  | [], L, H => some (L, H)
  | x :: r, L, H => match opS L x with
    | some (.own j) => match giveUp fl j L H with
      | some (L', H') => fzAll fl r L' H'
      | none => none
    | some (.osl j _ _ _) => match giveUp fl j L H with
      | some (L', H') => fzAll fl r L' H'
      | none => none
    | _ => fzAll fl r L H
def sameOp : Operand → Operand → Bool
  | .tmp a, .tmp b => Nat.beq a b
  | _, _ => false
/-- Arguments as data. -/
def argS (T : TT) (H : List Item) : List SV → List Nat → Option (List SV)
  | [], [] => some []
  | s :: l, t :: ts => match argS T H l ts with
    | some r => match s with
      | .d t x => some (.d t x :: r)
      | .nil => match lookT T t with
        | some i => match i.ty with
          | .sl e => some (.d (.sl e) [] :: r)
          | _ => none
        | none => none
      | .own j => match H[j]? with
        | some (.row _ e xs) => some (.d (.sl e) xs :: r)
        | _ => none
      | .cut e xs => some (.d (.sl e) xs :: r)
      | .osl j sz lo n => match H[j]? with
        | some (.row _ e xs) => match Nat.beq sz e.n with
          | true => some (.d (.sl e) ((xs.drop lo).take n) :: r)
          | false => none
        | _ => none
      | _ => none
    | none => none
  | _, _ => none
def SV.noOwn : SV → Bool
  | .own _ => false
  | .osl _ _ _ _ => false
  | _ => true
def RV.flat : RV → Bool
  | .d t _ => t.flat
  | .new _ _ _ => false
def okKeep (rs : List RV) : Bool := match rs with
  | [.new _ e _] => e.flat
  | rs => rs.all RV.flat
def rvS : List RV → Option (List SV)
  | [] => some []
  | .d t x :: r => match rvS r with
    | some l => some (.d t x :: l)
    | none => none
  | .new _ e xs :: r => match rvS r with
    | some l => some (.d (.sl e) xs :: l)
    | none => none
section
variable {R : Type}
def putRes (H : List Item) (rs : List RV) (k : SV → List Item → Option R) : Option R := match rs with
  | [.new et e xs] => k (.own H.length) (H ++ [.row et e xs])
  | [.d t x] => k (.d t x) H
  | rs => match rvS rs with
    | some l => k (.tup l) H
    | none => none
def callE (T : TT) (E : Env) (fl : Nat) (L : SL) (H : List Item) (f : Nat) (args : List Operand) (tys : List Nat) (k : SV → List Item → SL → Option R) : Option R :=
  match lookE E f with
  | some sp => match sp.keep with
    | true => match allS L args with
      | some ss => match argS T H ss tys with
        | some al => sp.run R al fun rs => match okKeep rs with
          | true => putRes H rs fun s H' => k s H' L
          | false => none
        | none => none
      | none => none
    | false => match fzAll fl args L H with
      | some (L', H') => match allS L' args with
        | some ss => match argS T H' ss tys, ss.all SV.noOwn with
          | some al, true => sp.run R al fun rs => putRes H' rs fun s H'' => k s H'' L'
          | _, _ => none
        | none => none
      | none => none
  | none => none
def maxApp : Nat := 140737488355328
def eop (T : TT) (E : Env) (fl : Nat) (L : SL) (H : List Item) (o : Oper) (k : SV → List Item → SL → Option R) : Option R :=
  match o.op with
  | .box t x => match opS L x with
    | some s => match splitS H s with
      | some cs => k (.box H.length 0) (H ++ [.box t cs]) L
      | none => none
    | none => none
  | .alloc t => match lookT T t with
    | some i => match i.z, i.ty with
      | _, .pair _ _ => none
      | true, ty => k (.box H.length 0) (H ++ [.box t ty.zsplit]) L
      | _, _ => none
    | none => none
  | .buildSlice t len parts => match lookT T t with
    | some i => match i.ty with
      | .sl e => match fzAll fl (parts.toList.map (·.2)) L H with
        | some (L', H') => match fillS H' L' (fun q => some (q * e.n, e.n)) (repL (e.split e.zero) len) parts.toList with
          | some cs => match joinN e len cs, Nat.ble (len * e.n) 16777216 with
            | some xs, true => k (.own H'.length) (H' ++ [.row i.el e xs]) L'
            | _, _ => none
          | none => none
        | none => none
      | _ => none
    | none => none
  | .makeSlice t x y => match sameOp x y, opS L x, lookT T t with
    | true, some (.d (.int _) n), some i => match i.ty with
      | .sl e => match decide (0 ≤ n ∧ n * i.byt ≤ 140737488355328 ∧ n ≤ 140737488355328) with
        | true => k (.own H.length) (H ++ [.row i.el e (List.replicate n.toNat e.zero)]) L
        | false => none
      | _ => none
    | false, some (.d (.int _) m), some i => match opS L y, i.ty with
      | some (.d (.int _) n), .sl e => match decide (m = 0 ∧ 0 ≤ n ∧ n * i.byt ≤ 140737488355328 ∧ n ≤ 140737488355328) with
        | true => k (.own H.length) (H ++ [.row i.el e []]) L
        | false => none
      | _, _ => none
    | _, _, _ => none
  | .store t x v => match opS L x, opS L v, lookT T t with
    | some (.box j off), some s, some i => match H[j]?, splitS H s with
      | some (.box bt cells), some l => match Nat.beq l.length i.ty.n && Nat.ble (off + l.length) cells.length with
        | true => k .undef (H.set j (.box bt (over cells off l))) L
        | false => none
      | _, _ => none
    | some (.oelt j sz m off), some (.d t' y), some i => match true, H[j]? with
      | true, some (.row et e xs) => match Nat.beq sz e.n && Nat.beq t'.n i.ty.n, xs[m]? with
        | true, some x => match t', e.upd x off t' y with
          | .pair _ _, _ => none
          | _, some x' => k .undef (H.set j (.row et e (xs.set m x'))) L
          | _, none => none
        | _, _ => none
      | _, _ => none
    | _, _, _ => none
  | .call ⟨.builtin .append, ⟨[x, y]⟩, ⟨[t, t']⟩⟩ => match Nat.beq t t', lookT T t with
    | true, some i => match i.ty with
      | .sl e => match argS T H ((opS L y).toList) [t] with
        | some [.d (.sl e') ys] => match castD (.sl e') (.sl e) ys with
          | some ys => match opS L x with
            | some (.own j) => match Nat.ble fl j, H[j]? with
              | true, some (.row et e0 xs) => match Nat.beq et i.el, castD (.sl e0) (.sl e) xs with
                | true, some xs => match decide ((xs.length + ys.length) * i.byt ≤ 140737488355328 ∧ xs.length + ys.length ≤ 140737488355328) with
                  | true => k (.own j) ((H.map (mapI (kill j))).set j (.row i.el e (xs ++ ys))) (mapL (kill j) L)
                  | false => none
                | _, _ => none
              | _, _ => none
            | some .nil => match decide (ys.length * i.byt ≤ 140737488355328 ∧ ys.length ≤ 140737488355328) with
              | true => k (.own H.length) (H ++ [.row i.el e ys]) L
              | false => none
            | some (.cut e0 xs) => match castD (.sl e0) (.sl e) xs with
              | some xs => match decide (xs ≠ [] ∧ ys ≠ [] ∧ (xs.length + ys.length) * i.byt ≤ 140737488355328 ∧ xs.length + ys.length ≤ 140737488355328) with
                | true => k (.own H.length) (H ++ [.row i.el e (xs ++ ys)]) L
                | false => none
              | none => none
            | _ => none
          | none => none
        | _ => none
      | _ => none
    | _, _ => none
  | .call ⟨.value f, args, tys⟩ => match opS L f with
    | some (.clo f []) => match mutOf E f with
      | some g => match args.toList with
        | [x] => match opS L x with
          | some (.own j) => match Nat.ble fl j, H[j]? with
            | true, some (.row et (.int .i64) xs) => match decide (xs.length ≤ 140737488355328) with
              | true => match g.ret with
                | false => k (.tup []) (H.set j (.row et (.int .i64) (g.g xs))) L
                | true => k (.own j) ((H.map (mapI (kill j))).set j (.row et (.int .i64) (g.g xs))) (mapL (kill j) L)
              | false => none
            | _, _ => none
          | _ => none
        | _ => none
      | none => callE T E fl L H f args.toList tys.toList k
    | _ => none
  | _ => none
end
def isMut (E : Env) (L : SL) : Op → Bool
  | .call ⟨.value f, _, _⟩ => match opS L f with
    | some (.clo f []) => (mutOf E f).isSome
    | _ => false
  | _ => false
/-- A function that turns a row of numbers in place. -/
def MConN (P : Program) (f : Nat) (g : List Int → List Int) : Prop :=
  ∀ (w : World) (base et : Nat) (v : Value) (xs : List Int), w.ownsRow base et 1 v xs.length (xs.map (Value.int .i64)) → xs.length ≤ 140737488355328 →
    Calls P f #[v] w fun e w' => e = .returned (.tuple #[]) ∧ w'.ownsRow base et 1 v xs.length ((g xs).map (Value.int .i64)) ∧ (g xs).length = xs.length ∧ w.grownBy w' (blkOf v)
/-- The same, and it gives the row back. -/
def MConR (P : Program) (f : Nat) (g : List Int → List Int) : Prop :=
  ∀ (w : World) (base et : Nat) (v : Value) (xs : List Int), w.ownsRow base et 1 v xs.length (xs.map (Value.int .i64)) → xs.length ≤ 140737488355328 →
    Calls P f #[v] w fun e w' => ∃ v', e = .returned v' ∧ w'.ownsRow base et 1 v' (g xs).length ((g xs).map (Value.int .i64)) ∧ w.grownBy w' (blkOf v) ∧ blkOf v' = blkOf v
def MCon (P : Program) (f : Nat) (m : MutG) : Prop := match m.ret with
  | false => MConN P f m.g
  | true => MConR P f m.g
/-- What a contract promises. -/
def ResRel (A : Nat → Prop) (base : Nat) (w : World) (rs : List RV) (v : Value) : Prop := match rs with
  | [.new et e xs] => ∃ css, w.ownsRow base et e.n v xs.length (List.flatten css) ∧ all2 (fun l y => e.rd (fun b => A b ∧ blkOf v ≠ some b) w l y) css xs ∧ 0 < e.n
  | [.d t x] => Rel1 [] A w (.d t x) v
  | rs => ∃ vs : List Value, v = .tuple vs.toArray ∧ ∃ l, rvS rs = some l ∧ all2 (Rel1 [] A w) l vs
def Con (P : Program) (f : Nat) (args : List SV) (rs : List RV) : Prop :=
  ∀ (A : Nat → Prop) (w : World) (vs : List Value), inv w → all2 (Rel1 [] A w) args vs → Calls P f vs.toArray w fun e w' => ∃ v, e = .returned v ∧ Below w.heap.size w w' ∧ ResRel (fun b => A b ∨ w.heap.size ≤ b) w.heap.size w' rs v
def SpecOk (P : Program) (f : Nat) (sp : Spec) : Prop := ∀ (R : Type) args (k : List RV → Option R) r, sp.run R args k = some r → ∃ rs, k rs = some r ∧ Con P f args rs
def callable (P : Program) (g : Nat) : Bool := match P.funcs[g]? with
  | some fn => !(fn.name == "runtime.NumGoroutine") && fn.body.isSome
  | none => false
def EnvOk (P : Program) (E : Env) : Prop := ∀ f sp, lookE E f = some sp → callable P f = true ∧ SpecOk P f sp ∧ ∀ g, sp.mut_ = some g → MCon P f g
end Go.Proofs.YtcaiedfkohigjaaGreat
/- Operations that change the state are the machine's. -/
namespace Go.Proofs.YtcaiedfkohigjaaGreat
open Go.RowKit

structure Chg (Z : Nat → Prop) (fl : Nat) (st ap : Bool) (H : List Item) (G : List Value) (w : World) (H' : List Item) (G' : List Value) (w' : World) : Prop where
  pres : ∀ s v, Rel1 G (Av Z H G) w s v → (∀ j, s.of1 j = true → j < fl) → Rel1 G' (Av Z H' G') w' s v
  agr : st = true ∨ (Agr (!ap) H G w w' ∧ ∀ b, b < w.heap.size → RowsB H' G' b → RowsB H G b)
  len : H.length ≤ H'.length

theorem rep_get {α : Type} (l : List α) : ∀ (n i : Nat), i < n * l.length → (repL l n)[i]? = l[i % l.length]?
  | 0, i, h => by simp at h
  | n + 1, i, h => by
    simp only [repL]
    rcases Nat.lt_or_ge i l.length with hi | hi
    · rw [List.getElem?_append_left hi, Nat.mod_eq_of_lt hi]
    · rw [Nat.succ_mul] at h
      rw [List.getElem?_append_right hi, rep_get l n (i - l.length) (by omega)]
      congr 1
      rw [Nat.mod_eq_sub_mod hi]
theorem rep_len {α : Type} (l : List α) : ∀ n, (repL l n).length = n * l.length
  | 0 => by simp [repL]
  | n + 1 => by simp [repL, rep_len l n, Nat.succ_mul]; omega
theorem made_rep (z : Array Value) (n : Nat) : (madeCells z (n * z.size)).toList = repL z.toList n := by
  apply List.ext_getElem?
  intro i
  rcases Nat.lt_or_ge i (n * z.size) with hi | hi
  · rw [rep_get _ _ _ (by simpa using hi)]
    have hz : 0 < z.size := by
      rcases Nat.eq_zero_or_pos z.size with h0 | h0
      · rw [h0, Nat.mul_zero] at hi; omega
      · exact h0
    have hm : i % z.size < z.size := Nat.mod_lt _ hz
    simp [madeCells, hi, hm]
  · rw [List.getElem?_eq_none (by simp [madeCells]; exact hi), List.getElem?_eq_none (by rw [rep_len]; simpa using hi)]
theorem rep_rel {R : SV → Value → Prop} {l : List SV} {vs : List Value} (h : all2 R l vs) : ∀ n, all2 R (repL l n) (repL vs n)
  | 0 => trivial
  | n + 1 => all2_append h (rep_rel h n)
theorem rep_rds {A : Nat → Prop} {w : World} {e : Ty} {cs : List Value} {x : e.D} (h : e.rd A w cs x) : ∀ n, all2 (fun l y => e.rd A w l y) (List.replicate n cs) (List.replicate n x) ∧ (List.replicate n cs).flatten = repL cs n
  | 0 => ⟨trivial, rfl⟩
  | n + 1 => ⟨⟨h, (rep_rds h n).1⟩, by rw [List.replicate_succ, List.flatten_cons, (rep_rds h n).2]; rfl⟩
theorem joinN_rd {G : List Value} {A : Nat → Prop} {w : World} {e : Ty} : ∀ {n : Nat} {l : List SV} {xs : List e.D} {vs : List Value}, joinN e n l = some xs → all2 (Rel1 G A w) l vs → ∃ css, vs = List.flatten css ∧ all2 (fun l y => e.rd A w l y) css xs ∧ xs.length = n
  | 0, [], xs, vs, h, ha => by
    simp only [joinN, Option.some.injEq] at h
    subst h
    cases vs with
    | nil => exact ⟨[], rfl, trivial, rfl⟩
    | cons => exact ha.elim
  | 0, _ :: _, xs, vs, h, ha => by simp [joinN] at h
  | n + 1, l, xs, vs, h, ha => by
    simp only [joinN] at h
    split at h <;> try (cases h; done)
    rename_i x r hj
    split at h <;> try (cases h; done)
    rename_i ys hy
    injection h with h
    subst h
    obtain ⟨v1, v2, rfl, h1, h2⟩ := join_rd hj ha
    obtain ⟨css, rfl, h3, h4⟩ := joinN_rd hy h2
    exact ⟨v1 :: css, rfl, ⟨h1, h3⟩, by simp [h4]⟩
theorem zsplit_rel {G : List Value} {A : Nat → Prop} {w : World} : ∀ {t : Ty}, all2 (Rel1 G A w) t.zsplit (zc t)
  | .int _ => ⟨⟨[_], rfl, rfl⟩, trivial⟩
  | .bool => ⟨⟨[_], rfl, rfl⟩, trivial⟩
  | .str => ⟨⟨[_], rfl, rfl⟩, trivial⟩
  | .sl _ => ⟨rfl, trivial⟩
  | .pair _ _ => all2_append zsplit_rel zsplit_rel
  | .st a => zsplit_rel (t := a)
theorem mkz_cells {t : Ty} (ht : t.isSt = true ∨ t.n = 1) : (mkV t (zc t)).cells.toList = zc t := by
  rcases ht with ht | ht
  · simp [mkV, ht, Value.cells]
  · cases t with
    | int => rfl
    | bool => rfl
    | str => rfl
    | sl => rfl
    | st a => simp [mkV, Ty.isSt, Value.cells]
    | pair a b =>
      have h1 := zc_len (.pair a b)
      rw [ht] at h1
      match hz : zc (.pair a b), h1 with
      | [v], _ =>
        have : ∀ t : Ty, ∀ v ∈ zc t, v.cells.toList = [v] := by
          intro t
          induction t with
          | int => intro v hv; simp [zc] at hv; subst hv; rfl
          | bool => intro v hv; simp [zc] at hv; subst hv; rfl
          | str => intro v hv; simp [zc] at hv; subst hv; rfl
          | sl => intro v hv; simp [zc] at hv; subst hv; rfl
          | st a ih => exact ih
          | pair a b iha ihb => intro v hv; simp only [zc, List.mem_append] at hv; exact hv.elim (iha v) (ihb v)
        simp only [mkV, Ty.isSt, List.headD_cons]
        exact this (.pair a b) v (by rw [hz]; simp)
/-- Cells of data are single cells. -/
theorem rd_one {A : Nat → Prop} {w : World} : ∀ {t : Ty} {cs : List Value} {x : t.D}, t.rd A w cs x → ∀ v ∈ cs, v.oneCell' = true
  | .int _, _, _, h, v, hv => by simp only [Ty.rd] at h; subst h; simp at hv; subst hv; rfl
  | .bool, _, _, h, v, hv => by simp only [Ty.rd] at h; subst h; simp at hv; subst hv; rfl
  | .str, _, _, h, v, hv => by simp only [Ty.rd] at h; subst h; simp at hv; subst hv; rfl
  | .pair a b, _, _, ⟨l1, l2, h0, h1, h2⟩, v, hv => by rw [h0] at hv; rcases List.mem_append.1 hv with h | h; exact rd_one h1 v h; exact rd_one h2 v h
  | .st a, _, _, h, v, hv => rd_one (t := a) h v hv
  | .sl e, _, _, ⟨p, n, c, css, h0, _⟩, v, hv => by subst h0; simp at hv; subst hv; rfl
theorem rds_one {A : Nat → Prop} {w : World} {e : Ty} : ∀ {css : List (List Value)} {xs : List e.D}, all2 (fun l y => e.rd A w l y) css xs → ∀ v ∈ css.flatten, v.oneCell' = true
  | [], [], _, v, hv => by simp at hv
  | c :: css, x :: xs, ⟨h1, h2⟩, v, hv => by
    rw [List.flatten_cons] at hv
    rcases List.mem_append.1 hv with h | h
    · exact rd_one h1 v h
    · exact rds_one h2 v h
/-- A value of one cell. -/
theorem rel_one {G : List Value} {A : Nat → Prop} {w : World} {s : SV} {v : Value} (hown : ∀ j, s = .own j → v.oneCell' = true) (hd : ∀ t x, s = .d t x → t.isSt = false) (hg : s.good = true) (h : Rel1 G A w s v) (hp : ∀ t x, s = .d t x → t.n = 1) : v.oneCell' = true := by
  cases s with
  | d t x => exact rd_one (rel_leaf (hd t x rfl) (hp t x rfl) h) v (by simp)
  | nil => rw [show v = .slice none 0 0 from h]; rfl
  | box j off => obtain ⟨b, _, rfl⟩ := h; rfl
  | elt e x off => obtain ⟨b, o, cs, rfl, _⟩ := h; rfl
  | own j => exact hown j rfl
  | oelt j sz i off => obtain ⟨b, n, c, _, rfl⟩ := h; rfl
  | clo f caps => obtain ⟨bs, _, rfl⟩ := h; rfl
  | tup l => exact h.elim
  | undef => simp [SV.good] at hg
  | dead => simp [SV.good] at hg
  | cut e xs => obtain ⟨p, _, rfl⟩ := h; rfl
  | osl j sz lo n => obtain ⟨g, q, c, _, rfl, _⟩ := h; rfl
theorem split_one {_G : List Value} {A : Nat → Prop} {w : World} : ∀ {t : Ty} {cs : List Value} {x : t.D}, t.rd A w cs x → ∀ v ∈ cs, v.oneCell' = true := rd_one
section
variable {Z : Nat → Prop} {w0 : World} {n : Nat} {L : SL} {H : List Item} {G : List Value} {w : World} {a : Act} {P : Program} {T : TT} {R : Type}
theorem splitS_one (hr : SR Z w0 H G w) {s : SV} {v : Value} {l : List SV} (h : Rel G (Av Z H G) w s v) (hs : splitS H s = some l) : ∀ u ∈ v.cells.toList, u.oneCell' = true := by
  unfold splitS at hs
  split at hs
  · cases hs
  · rename_i t x hne
    obtain ⟨cs, h1, rfl⟩ := h
    rw [mkV_cells (fun a b e => by subst e; exact hne a b x rfl HEq.rfl) h1]
    exact rd_one h1
  · split at hs
    · rename_i j _ et e xs hj
      obtain ⟨css, ho, _⟩ := hr.items j _ _ hj h
      rcases own_form' ho with ⟨rfl, _⟩ | ⟨b, c, rfl⟩ <;> intro u hu <;> simp [Value.cells] at hu <;> subst hu <;> rfl
    · cases hs
  · rename_i s' hn1 hn2 hn3
    split at hs <;> try (cases hs; done)
    rename_i hg
    cases s with
    | d t x => cases t <;> first | exact (hn1 _ _ _ rfl).elim | exact (hn2 _ _ rfl).elim
    | nil => rw [show v = .slice none 0 0 from h]; intro u hu; simp [Value.cells] at hu; subst hu; rfl
    | box j off => obtain ⟨b, _, rfl⟩ := h; intro u hu; simp [Value.cells] at hu; subst hu; rfl
    | elt e x off => obtain ⟨b, o, cs, rfl, _⟩ := h; intro u hu; simp [Value.cells] at hu; subst hu; rfl
    | own j => exact (hn3 j rfl).elim
    | oelt j sz i off => obtain ⟨b, n, c, _, rfl⟩ := h; intro u hu; simp [Value.cells] at hu; subst hu; rfl
    | clo f caps => obtain ⟨bs, _, rfl⟩ := h; intro u hu; simp [Value.cells] at hu; subst hu; rfl
    | tup l => simp [SV.good] at hg
    | undef => simp [SV.good] at hg
    | dead => simp [SV.good] at hg
    | cut e xs => obtain ⟨p, _, rfl⟩ := h; intro u hu; simp [Value.cells] at hu; subst hu; rfl
    | osl j sz lo n => obtain ⟨g, q, c, _, rfl, _⟩ := h; intro u hu; simp [Value.cells] at hu; subst hu; rfl
theorem rows_new (hr : SR Z w0 H G w) {it : Item} {g : Value} (hg : ∀ b, blkOf g = some b → w.heap.size ≤ b) {b : Nat} (hb : b < w.heap.size) (h : RowsB (H ++ [it]) (G ++ [g]) b) : RowsB H G b := by
  obtain ⟨j, et, e, xs, g', h1, h2, h3⟩ := h
  rcases Nat.lt_or_ge j H.length with hlt | hge
  · rw [List.getElem?_append_left hlt] at h1
    rw [List.getElem?_append_left (by rw [hr.len]; exact hlt)] at h2
    exact ⟨j, et, e, xs, g', h1, h2, h3⟩
  · rw [List.getElem?_append_right (by rw [hr.len]; exact hge)] at h2
    have h4 := List.mem_of_getElem? h2
    simp at h4
    subst h4
    have := hg b h3
    omega
/-- A new thing: what is left to show. -/
theorem chg_new (hr : SR Z w0 H G w) {w' : World} (hb : Below w.heap.size w w') {it : Item} {g : Value} (hg : ∀ b, blkOf g = some b → w.heap.size ≤ b) (fl : Nat) (st ap : Bool) : Chg Z fl st ap H G w (H ++ [it]) (G ++ [g]) w' :=
  ⟨fun s v h _ => rel_new hr (step_new hr hb hg) h, .inr ⟨⟨hb.size, fun b h1 _ => hb.block b h1⟩, fun b h1 h2 => rows_new hr hg h1 h2⟩, by simp⟩
theorem below_alloc (w : World) (o : Obj) : Below w.heap.size w (w.alloc o) := (Below.refl _ _).alloc (Nat.le_refl _) o
theorem new_box (hr : SR Z w0 H G w) (hf : FR Z n L H G w a) {t : TypeId} {cs : List SV} {vs : Array Value} (hcs : all2 (Rel1 G (Av Z H G) w) cs vs.toList) (fl : Nat) (st ap : Bool) :
    ∃ G', SR Z w0 (H ++ [.box t cs]) G' (w.alloc (.cells vs t)) ∧ FR Z n L (H ++ [.box t cs]) G' (w.alloc (.cells vs t)) a ∧ Rel G' (Av Z (H ++ [.box t cs]) G') (w.alloc (.cells vs t)) (.box H.length 0) (.pointer (some ⟨w.heap.size, 0, none⟩)) ∧ Chg Z fl st ap H G w (H ++ [.box t cs]) G' (w.alloc (.cells vs t)) := by
  have hb := below_alloc w (.cells vs t)
  have hg : ∀ b, blkOf (.pointer (some ⟨w.heap.size, 0, none⟩)) = some b → w.heap.size ≤ b := fun b h => by simp [blkOf] at h; omega
  have hst := step_new (it := .box t cs) hr hb hg
  refine ⟨G ++ [.pointer (some ⟨w.heap.size, 0, none⟩)], sr_new hr hb hg ⟨w.heap.size, vs.toList, rfl, hr.below.size, Blk.new w t vs, all2_mono (fun s v h => rel_new hr hst h) hcs⟩, hf.keep fun s v h => rel_new hr hst h, ⟨w.heap.size, ?_, rfl⟩, chg_new hr hb hg fl st ap⟩
  rw [List.getElem?_append_right (by rw [hr.len]; exact Nat.le_refl _), hr.len, Nat.sub_self]
  rfl
theorem new_row (hr : SR Z w0 H G w) (hf : FR Z n L H G w a) {w' : World} (hb : Below w.heap.size w w') {et : TypeId} {e : Ty} {xs : List e.D} {v : Value} {css : List (List Value)} (ho : w'.ownsRow w.heap.size et e.n v xs.length css.flatten) (he : 0 < e.n)
    (hcs : all2 (fun l y => e.rd (fun b => (Av Z H G b ∨ w.heap.size ≤ b) ∧ blkOf v ≠ some b) w' l y) css xs) (fl : Nat) (st ap : Bool) :
    ∃ G', SR Z w0 (H ++ [.row et e xs]) G' w' ∧ FR Z n L (H ++ [.row et e xs]) G' w' a ∧ Rel G' (Av Z (H ++ [.row et e xs]) G') w' (.own H.length) v ∧ Chg Z fl st ap H G w (H ++ [.row et e xs]) G' w' := by
  have hg : ∀ b, blkOf v = some b → w.heap.size ≤ b := fun b h => by
    rcases own_form' ho with ⟨rfl, _⟩ | ⟨b', c, rfl⟩
    · simp [blkOf] at h
    · exact (ho.lt b (by simpa [Value.ownBlock, blkOf] using h)).1
  have hst := step_new (it := .row et e xs) hr hb hg
  have hown : w'.ownsRow w0.heap.size et e.n v xs.length css.flatten := by
    refine ⟨ho.1, ?_⟩
    rcases ho.2 with h | ⟨g, cap, cur, h1, h2, h3⟩
    · exact .inl h
    · exact .inr ⟨g, cap, cur, h1, Nat.le_trans hr.below.size h2, h3⟩
  have hav : ∀ b, b < w'.heap.size → ((Av Z H G b ∨ w.heap.size ≤ b) ∧ blkOf v ≠ some b) → Av Z (H ++ [.row et e xs]) (G ++ [v]) b := by
    rintro b _ ⟨h1, h2⟩
    refine ⟨h1.elim (fun h => h.1) (fun h => hr.zf b (Nat.le_trans hr.below.size h)), fun j it g hj hl hgj => ?_⟩
    rcases Nat.lt_or_ge j H.length with hlt | hge
    · rw [List.getElem?_append_left hlt] at hj
      rw [List.getElem?_append_left (by rw [hr.len]; exact hlt)] at hgj
      rcases h1 with h1 | h1
      · exact h1.2 j it g hj hl hgj
      · exact fun h => by have := ((hr.items j it g hj hgj).blk hl h).2; omega
    · rw [List.getElem?_append_right (by rw [hr.len]; exact hge)] at hgj
      have h4 := List.mem_of_getElem? hgj
      simp at h4
      subst h4
      exact h2
  refine ⟨G ++ [v], sr_new hr hb hg ⟨css, hown, all2_mono (fun l y h => Ty.rd_keep ⟨Nat.le_refl _, hav, fun _ _ _ => rfl⟩ h) hcs, he⟩, hf.keep fun s v h => rel_new hr hst h, ?_, chg_new hr hb hg fl st ap⟩
  show (G ++ [v])[H.length]? = some v
  rw [List.getElem?_append_right (by rw [hr.len]; exact Nat.le_refl _), hr.len, Nat.sub_self]
  rfl
end
end Go.Proofs.YtcaiedfkohigjaaGreat
/- Calls of what is known. -/
namespace Go.Proofs.YtcaiedfkohigjaaGreat
open Go.RowKit
theorem run_call {P : Program} {g : Nat} (hc : callable P g = true) (ρ : Operand → Value) (o : Oper) (f : Operand) (args : Array Operand) (tys : Array TypeId) (caps : Array Value) (ho : o.op = .call ⟨.value f, args, tys⟩) (hf : ρ f = .func (.func g) #[] caps) (w : World) :
    (execOp ρ o).run P w = .ok (.enter g (args.map ρ ++ caps)) w := by
  unfold callable at hc
  split at hc
  · rename_i fn hfn
    simp only [Bool.and_eq_true, Bool.not_eq_true'] at hc
    have hb : ¬ fn.body = none := fun h => by rw [h] at hc; simp at hc
    have hn : ¬ fn.name = "runtime.NumGoroutine" := by simpa using hc.1
    simp [execOp, ho, resolve, hf, Deferred.ofValue, invoke, callFunc, hfn, hn, hb]
  · cases hc
section
variable {Z : Nat → Prop} {w0 : World} {n : Nat} {L L' : SL} {H H' : List Item} {G : List Value} {w : World} {a : Act} {P : Program} {T : TT} {R : Type}
theorem fzAll_ok {fl : Nat} : ∀ {ops : List Operand} {L : SL} {H : List Item}, SR Z w0 H G w → FR Z n L H G w a → fzAll fl ops L H = some (L', H') → SR Z w0 H' G w ∧ FR Z n L' H' G w a ∧ (∀ s v, Rel1 G (Av Z H G) w s v → (∀ j, s.of1 j = true → j < fl) → Rel1 G (Av Z H' G) w s v) ∧ (∀ b, RowsB H' G b → RowsB H G b) ∧ H.length = H'.length
  | [], L, H, hr, hf, h => by
    simp only [fzAll, Option.some.injEq, Prod.mk.injEq] at h
    obtain ⟨rfl, rfl⟩ := h
    exact ⟨hr, hf, fun s v h _ => h, fun b h => h, rfl⟩
  | x :: r, L, H, hr, hf, h => by
    simp only [fzAll] at h
    split at h
    · rename_i j hs
      split at h <;> try (cases h; done)
      rename_i L1 H1 hg
      unfold giveUp at hg
      split at hg <;> try (cases hg; done)
      rename_i et e xs hfl hj
      simp only [Option.some.injEq, Prod.mk.injEq] at hg
      obtain ⟨rfl, rfl⟩ := hg
      obtain ⟨h1, h2⟩ := sr_freeze hr hj
      obtain ⟨g1, g2, g3, g4, g5⟩ := fzAll_ok h1 (hf.map h2) h
      have hfl := Nat.le_of_ble_eq_true hfl
      refine ⟨g1, g2, fun s v hsv hlt => ?_, fun b hb => ?_, by rw [← g5]; simp⟩
      · have : fz j e xs s = s := by
          unfold fz
          cases hof : s.of1 j with
          | true => have := hlt j hof; omega
          | false => rfl
        refine g3 s v ?_ hlt
        have := h2 s v hsv
        rwa [‹fz j e xs s = s›] at this
      · obtain ⟨i, et', e', xs', g', k1, k2, k3⟩ := g4 b hb
        rw [List.getElem?_set] at k1
        split at k1
        · split at k1 <;> cases k1
        · rw [List.getElem?_map] at k1
          cases hh : H[i]? with
          | none => rw [hh] at k1; cases k1
          | some it =>
            rw [hh] at k1
            cases it with
            | box t cs => simp [mapI] at k1
            | gone => simp [mapI] at k1
            | row a1 a2 a3 =>
              simp only [mapI, Option.map_some, Option.some.injEq] at k1
              exact ⟨i, et', e', xs', g', by rw [hh, k1], k2, k3⟩
    · rename_i j _ _ _ hs
      split at h <;> try (cases h; done)
      rename_i L1 H1 hg
      unfold giveUp at hg
      split at hg <;> try (cases hg; done)
      rename_i et e xs hfl hj
      simp only [Option.some.injEq, Prod.mk.injEq] at hg
      obtain ⟨rfl, rfl⟩ := hg
      obtain ⟨h1, h2⟩ := sr_freeze hr hj
      obtain ⟨g1, g2, g3, g4, g5⟩ := fzAll_ok h1 (hf.map h2) h
      have hfl := Nat.le_of_ble_eq_true hfl
      refine ⟨g1, g2, fun s v hsv hlt => ?_, fun b hb => ?_, by rw [← g5]; simp⟩
      · have : fz j e xs s = s := by
          unfold fz
          cases hof : s.of1 j with
          | true => have := hlt j hof; omega
          | false => rfl
        refine g3 s v ?_ hlt
        have := h2 s v hsv
        rwa [‹fz j e xs s = s›] at this
      · obtain ⟨i, et', e', xs', g', k1, k2, k3⟩ := g4 b hb
        rw [List.getElem?_set] at k1
        split at k1
        · split at k1 <;> cases k1
        · rw [List.getElem?_map] at k1
          cases hh : H[i]? with
          | none => rw [hh] at k1; cases k1
          | some it =>
            rw [hh] at k1
            cases it with
            | box t cs => simp [mapI] at k1
            | gone => simp [mapI] at k1
            | row a1 a2 a3 =>
              simp only [mapI, Option.map_some, Option.some.injEq] at k1
              exact ⟨i, et', e', xs', g', by rw [hh, k1], k2, k3⟩
    · exact fzAll_ok hr hf h
theorem Chg.after {fl : Nat} {st ap : Bool} {H1 : List Item} {G' : List Value} {w' : World} (h1 : ∀ s v, Rel1 G (Av Z H G) w s v → (∀ j, s.of1 j = true → j < fl) → Rel1 G (Av Z H' G) w s v) (h2 : ∀ b, RowsB H' G b → RowsB H G b) (h3 : H.length = H'.length) (h : Chg Z fl st ap H' G w H1 G' w') : Chg Z fl st ap H G w H1 G' w' :=
  ⟨fun s v hsv hlt => h.pres s v (h1 s v hsv hlt) hlt, h.agr.imp id fun ⟨g1, g2⟩ => ⟨⟨g1.1, fun b hb hor => g1.2 b hb (hor.imp id fun hn hx => hn (h2 b hx))⟩, fun b hb hx => h2 b (g2 b hb hx)⟩, by rw [h3]; exact h.len⟩
theorem argS_rel {ss0 : List SV} (hr : SR Z w0 H G w) {A : Nat → Prop} (hA : ∀ b, b < w.heap.size → Av Z H G b → A b) (hAj : (∀ (j : Nat) g b, G[j]? = some g → blkOf g = some b → (∃ et e xs, H[j]? = some (.row et e xs)) → A b) ∨ ∀ s ∈ ss0, s.noOwn = true) : ∀ {ss al : List SV} {tys : List Nat} {vs : List Value}, (∀ s ∈ ss, s ∈ ss0) → argS T H ss tys = some al → all2 (Rel G (Av Z H G) w) ss vs → all2 (Rel1 [] A w) al vs
  | [], al, [], [], _, h, _ => by simp only [argS, Option.some.injEq] at h; subst h; trivial
  | [], al, _ :: _, _, _, h, _ => by simp [argS] at h
  | _ :: _, al, [], _, _, h, _ => by simp [argS] at h
  | s :: ss, al, t :: ts, v :: vs, hss, h, ⟨h1, h2⟩ => by
    simp only [argS] at h
    split at h <;> try (cases h; done)
    rename_i r0 hr0
    have ih := argS_rel hr hA hAj (fun s hs => hss s (by simp [hs])) hr0 h2
    have hk : Keeps (Av Z H G) A w w := ⟨Nat.le_refl _, hA, fun _ _ _ => rfl⟩
    split at h
    · rename_i t x
      injection h with h
      subst h
      obtain ⟨cs, g1, g2⟩ := h1
      exact ⟨⟨cs, Ty.rd_keep hk g1, g2⟩, ih⟩
    · split at h <;> try (cases h; done)
      split at h <;> try (cases h; done)
      injection h with h
      subst h
      exact ⟨⟨[v], by rw [show v = .slice none 0 0 from h1]; exact nil_rd, rfl⟩, ih⟩
    · rename_i j
      split at h <;> try (cases h; done)
      rename_i et e xs hj
      injection h with h
      subst h
      rcases hAj with hAj | hno
      · exact ⟨⟨[v], rd_own hr hj h1 hA (fun b hb => hAj j _ b h1 hb ⟨_, _, _, hj⟩), rfl⟩, ih⟩
      · have := hno (.own j) (hss _ (by simp)); cases this
    · rename_i e xs
      injection h with h
      subst h
      obtain ⟨p, g1, rfl⟩ := h1
      exact ⟨⟨_, Ty.rd_keep hk g1, rfl⟩, ih⟩
    · rename_i j sz lo n0
      split at h <;> try (cases h; done)
      rename_i et e xs hj
      split at h <;> try (cases h; done)
      rename_i hsz
      have hsz := Nat.eq_of_beq_eq_true hsz
      subst hsz
      injection h with h
      subst h
      rcases hAj with hAj | hno
      · exact ⟨⟨[v], rd_win hr hj h1 hA (fun g b hg hb => hAj j g b hg hb ⟨_, _, _, hj⟩), rfl⟩, ih⟩
      · have := hno (.osl j e.n lo n0) (hss _ (by simp)); cases this
    · cases h
theorem av_fresh (hr : SR Z w0 H G w) {b : Nat} (hb : w.heap.size ≤ b) : Av Z H G b := ⟨hr.zf b (Nat.le_trans hr.below.size hb), fun j it g h1 h2 h3 h4 => by have := ((hr.items j it g h1 h3).blk h2 h4).2; omega⟩
theorem flat_rel {A : Nat → Prop} {t : Ty} {x : t.D} {v : Value} {G' : List Value} {A' : Nat → Prop} {w' : World} (hfl : t.flat = true) (h : Rel1 [] A w (.d t x) v) : Rel1 G' A' w' (.d t x) v := by
  obtain ⟨cs, h1, h2⟩ := h
  refine ⟨cs, ?_, h2⟩
  rw [rd_flat hfl h1]
  exact cells_rd hfl
theorem putRes_sound (hr : SR Z w0 H G w) (hf : FR Z n L H G w a) {A : Nat → Prop} {w' : World} {rs : List RV} {v : Value} {k : SV → List Item → Option R} {r : R} (hb : Below w.heap.size w w') (hres : ResRel (fun b => A b ∨ w.heap.size ≤ b) w.heap.size w' rs v)
    (hA : (∀ b, b < w.heap.size → A b → Av Z H G b) ∨ okKeep rs = true) (h : putRes H rs k = some r) (fl : Nat) (st ap : Bool) :
    ∃ s H' G', k s H' = some r ∧ SR Z w0 H' G' w' ∧ FR Z n L H' G' w' a ∧ Rel G' (Av Z H' G') w' s v ∧ Chg Z fl st ap H G w H' G' w' := by
  have hsg := step_grow hr hb
  have hsr := sr_grow hr hb
  have hfr : FR Z n L H G w' a := hf.keep fun s v h => rel_new hr hsg h
  have hchg : Chg Z fl st ap H G w H G w' := ⟨fun s v h _ => rel_new hr hsg h, .inr ⟨⟨hb.size, fun b h1 _ => hb.block b h1⟩, fun b _ h => h⟩, Nat.le_refl _⟩
  have one : ∀ {t : Ty} {x : t.D} {v : Value}, Rel1 [] (fun b => A b ∨ w.heap.size ≤ b) w' (.d t x) v → ((∀ b, b < w.heap.size → A b → Av Z H G b) ∨ t.flat = true) → Rel1 G (Av Z H G) w' (.d t x) v := by
    intro t x v h hor
    rcases hor with hA | hfl
    · obtain ⟨cs, h1, h2⟩ := h
      refine ⟨cs, Ty.rd_keep ⟨Nat.le_refl _, fun b _ hb' => ?_, fun _ _ _ => rfl⟩ h1, h2⟩
      rcases Nat.lt_or_ge b w.heap.size with hlt | hge
      · exact hb'.elim (hA b hlt) (fun h => by omega)
      · exact av_fresh hr hge
    · exact flat_rel hfl h
  unfold putRes at h
  split at h
  · rename_i et e xs
    obtain ⟨css, h1, h2, h3⟩ := hres
    have h2' : all2 (fun l y => e.rd (fun b => (Av Z H G b ∨ w.heap.size ≤ b) ∧ blkOf v ≠ some b) w' l y) css xs := by
      rcases hA with hA | hfl
      · refine all2_mono (fun l y h => Ty.rd_keep ⟨Nat.le_refl _, fun b _ hb' => ?_, fun _ _ _ => rfl⟩ h) h2
        refine ⟨?_, hb'.2⟩
        rcases Nat.lt_or_ge b w.heap.size with hlt | hge
        · exact hb'.1.elim (fun h => .inl (hA b hlt h)) (fun h => by omega)
        · exact .inr hge
      · have hfl : e.flat = true := hfl
        exact all2_mono (fun l y h => by rw [rd_flat hfl h]; exact cells_rd hfl) h2
    obtain ⟨G', g1, g2, g3, g4⟩ := new_row hr hf hb h1 h3 h2' fl st ap
    exact ⟨_, _, G', h, g1, g2, g3, g4⟩
  · rename_i t x
    exact ⟨_, _, G, h, hsr, hfr, rel_of1 (one hres (hA.imp id fun h => by simpa [okKeep, RV.flat] using h)), hchg⟩
  · rename_i hn1 hn2
    split at h <;> try (cases h; done)
    rename_i l hl
    refine ⟨_, _, G, h, hsr, hfr, ?_, hchg⟩
    have hres' : ∃ vs : List Value, v = .tuple vs.toArray ∧ ∃ l, rvS rs = some l ∧ all2 (Rel1 [] (fun b => A b ∨ w.heap.size ≤ b) w') l vs := by
      unfold ResRel at hres
      split at hres
      · exact (hn1 _ _ _ rfl).elim
      · exact (hn2 _ _ rfl).elim
      · exact hres
    obtain ⟨vs, h1, l', h2, h3⟩ := hres'
    rw [hl] at h2
    injection h2 with h2
    subst h2
    refine ⟨vs, h1, ?_⟩
    replace hA : (∀ b, b < w.heap.size → A b → Av Z H G b) ∨ rs.all RV.flat = true := hA.imp id fun h => by
      unfold okKeep at h
      split at h
      · exact (hn1 _ _ _ rfl).elim
      · exact h
    clear h hres hn1 hn2 h1
    induction rs generalizing l vs with
    | nil => simp only [rvS, Option.some.injEq] at hl; subst hl; cases vs <;> exact h3
    | cons q rs ih =>
      have hA' : (∀ b, b < w.heap.size → A b → Av Z H G b) ∨ (q.flat = true ∧ rs.all RV.flat = true) := hA.imp id fun h => by simpa using h
      cases q with
      | d t x =>
        simp only [rvS] at hl
        split at hl <;> try (cases hl; done)
        rename_i l2 hl2
        injection hl with hl
        subst hl
        match vs, h3 with
        | v1 :: vs, ⟨q1, q2⟩ => exact ⟨one q1 (hA'.imp id fun h => h.1), ih l2 hl2 vs q2 (hA'.imp id fun h => h.2)⟩
      | new et e xs =>
        simp only [rvS] at hl
        split at hl <;> try (cases hl; done)
        rename_i l2 hl2
        injection hl with hl
        subst hl
        match vs, h3 with
        | v1 :: vs, ⟨q1, q2⟩ =>
          refine ⟨?_, ih l2 hl2 vs q2 (hA'.imp id fun h => h.2)⟩
          rcases hA' with hA' | hA'
          · exact one q1 (.inl hA')
          · simp [RV.flat] at hA'
end
end Go.Proofs.YtcaiedfkohigjaaGreat
/- Stores. -/
namespace Go.Proofs.YtcaiedfkohigjaaGreat
open Go.RowKit
theorem overV_left : ∀ (vs l r : List Value) (off : Nat), off + vs.length ≤ l.length → overV (l ++ r) off vs = overV l off vs ++ r
  | [], _, _, _, _ => rfl
  | v :: vs, l, r, off, h => by
    simp only [List.length_cons] at h
    simp only [overV]
    rw [List.set_append_left _ _ (by omega), overV_left vs _ r (off + 1) (by simp; omega)]
theorem overV_right : ∀ (vs l r : List Value) (off : Nat), overV (l ++ r) (l.length + off) vs = l ++ overV r off vs
  | [], _, _, _ => rfl
  | v :: vs, l, r, off => by
    simp only [overV]
    rw [List.set_append_right _ _ (by omega), Nat.add_sub_cancel_left, Nat.add_assoc, overV_right vs l _ (off + 1)]
theorem overV_all : ∀ (vs l : List Value), l.length = vs.length → overV l 0 vs = vs
  | [], l, h => by cases l with | nil => rfl | cons => simp at h
  | v :: vs, u :: l, h => by
    simp only [List.length_cons, Nat.add_right_cancel_iff] at h
    have := overV_right vs [v] l 0
    simp only [overV, List.set_cons_zero]
    simp only [List.length_singleton, Nat.add_zero, List.singleton_append] at this
    rw [Nat.zero_add, this, overV_all vs l h]
  | v :: vs, [], h => by simp at h
theorem overV_take : ∀ (vs l : List Value) (off N : Nat), off + vs.length ≤ N → N ≤ l.length → (overV l off vs).take N = overV (l.take N) off vs := by
  intro vs l off N h1 h2
  have := overV_left vs (l.take N) (l.drop N) off (by simp; omega)
  rw [List.take_append_drop] at this
  rw [this, List.take_left' (by rw [overV_len]; simp; omega)]
theorem overV_seg : ∀ (vs l : List Value) (off : Nat), off + vs.length ≤ l.length → overV l off vs = l.take off ++ vs ++ l.drop (off + vs.length)
  | [], l, off, h => by simp [overV]
  | v :: vs, l, off, h => by
    simp only [List.length_cons] at h
    simp only [overV]
    rw [overV_seg vs (l.set off v) (off + 1) (by simp; omega), list_seg_step l off v vs (by omega)]
    rfl
theorem overV_flat {sz : Nat} : ∀ {css : List (List Value)} {m : Nat} {l : List Value} {off : Nat} {vs : List Value}, (∀ l ∈ css, l.length = sz) → css[m]? = some l → off + vs.length ≤ sz → overV css.flatten (m * sz + off) vs = (css.set m (overV l off vs)).flatten
  | [], _, _, _, _, _, h, _ => by simp at h
  | c :: css, 0, l, off, vs, hl, h, hb => by
    simp at h; subst h
    have hc := hl c (by simp)
    simp only [List.flatten_cons, Nat.zero_mul, Nat.zero_add, List.set_cons_zero]
    rw [overV_left _ _ _ _ (by omega)]
  | c :: css, m + 1, l, off, vs, hl, h, hb => by
    have hc := hl c (by simp)
    simp only [List.flatten_cons, List.set_cons_succ]
    rw [show (m + 1) * sz + off = c.length + (m * sz + off) by rw [hc, Nat.succ_mul]; omega, overV_right, overV_flat (fun l hm => hl l (by simp [hm])) (by simpa using h) hb]
theorem upd_rd {A : Nat → Prop} {w : World} : ∀ {e : Ty} {l vs : List Value} {x x' : e.D} {off : Nat} {t : Ty} {y : t.D}, e.rd A w l x → e.upd x off t y = some x' → t.rd A w vs y → e.rd A w (overV l off vs) x' ∧ off + vs.length ≤ l.length := by
  have lf : ∀ {e : Ty} {l vs : List Value} {x x' : e.D} {off : Nat} {t : Ty} {y : t.D}, e.rd A w l x → (match Nat.beq off 0 with | true => castD t e y | false => none) = some x' → t.rd A w vs y → e.rd A w (overV l off vs) x' ∧ off + vs.length ≤ l.length := by
    intro e l vs x x' off t y hr h hy
    split at h
    · rename_i h0
      have : off = 0 := Nat.eq_of_beq_eq_true h0
      subst this
      obtain ⟨rfl, rfl⟩ := castD_some h
      have h1 := Ty.rd_len hr
      have h2 := Ty.rd_len hy
      rw [overV_all vs l (by omega)]
      exact ⟨hy, by omega⟩
    · cases h
  intro e
  induction e with
  | int k => intro l vs x x' off t y hr h hy; exact lf hr h hy
  | bool => intro l vs x x' off t y hr h hy; exact lf hr h hy
  | str => intro l vs x x' off t y hr h hy; exact lf hr h hy
  | sl e => intro l vs x x' off t y hr h hy; exact lf hr h hy
  | st a ih =>
    intro l vs x x' off t y hr h hy
    simp only [Ty.upd] at h
    split at h
    · rename_i z h0 h1
      injection h with h
      subst h
      exact lf (e := .st a) hr (by rw [h0]; exact h1) hy
    · exact ih hr h hy
  | pair a b iha ihb =>
    intro l vs x x' off t y hr h hy
    obtain ⟨l1, l2, rfl, h1, h2⟩ := hr
    simp only [Ty.upd] at h
    split at h
    · split at h <;> try (cases h; done)
      rename_i z hz
      injection h with h
      subst h
      obtain ⟨g1, g2⟩ := iha h1 hz hy
      rw [overV_left _ _ _ _ g2]
      exact ⟨⟨_, _, rfl, g1, h2⟩, by simp; omega⟩
    · rename_i hb
      have hl1 := Ty.rd_len h1
      have hge : a.n ≤ off := by
        rcases Nat.lt_or_ge off a.n with hlt | hge
        · have : Nat.ble (off + 1) a.n = true := Nat.ble_eq_true_of_le hlt
          rw [this] at hb; cases hb
        · exact hge
      split at h <;> try (cases h; done)
      rename_i z hz
      injection h with h
      subst h
      obtain ⟨g1, g2⟩ := ihb h2 hz hy
      have e : off = l1.length + (off - a.n) := by omega
      rw [e, overV_right, ← e]
      exact ⟨⟨_, _, rfl, h1, g1⟩, by simp; omega⟩
theorem run_storeAt_ty {P : Program} {t : Nat} {i : TI} (hc : chk P t i = true) (w : World) (b off : Nat) (bt : TypeId) (cur : Array Value) (v : Value) (hg : w.heap[b]? = some (.cells cur bt (0, 0))) (hl : v.cells.toList.length = i.ty.n) (hfit : off + v.cells.toList.length ≤ cur.size) (h1 : ∀ u ∈ v.cells.toList, u.oneCell' = true) :
    (Instr.storeAt t (.pointer (some ⟨b, off, none⟩)) v).run P w = .ok () (w.setRow b (overV cur.toList off v.cells.toList).toArray) := by
  have hst := run_storeCells_at P b off bt v.cells.toList 0 cur w hg (by simpa using hfit) h1
  rw [Nat.add_zero, ← overV_seg _ _ _ (by simpa using hfit)] at hst
  have hsz := chk_size hc
  cases hi : P.info? t with
  | none => rw [hi] at hsz; cases hsz
  | some inf =>
    have hs : inf.size = i.ty.n := by rw [hi] at hsz; simpa using hsz
    have hn : v.cells.size = inf.size := by rw [hs, ← hl]; simp
    simp [Instr.storeAt, Instr.sureAddr, storeVar, sizeOf, typeInfo, hi, hn, hst]
section
variable {Z : Nat → Prop} {w0 : World} {n : Nat} {L : SL} {H : List Item} {G : List Value} {w : World} {a : Act} {P : Program} {T : TT}
theorem setRow_size (w : World) (b : Nat) (cs : Array Value) : (w.setRow b cs).heap.size = w.heap.size := by simp [World.setRow]
theorem below_setRow (hr : SR Z w0 H G w) {b : Nat} (hb : w0.heap.size ≤ b) (cs : Array Value) : Below w0.heap.size w0 (w.setRow b cs) :=
  hr.below.trans ⟨rfl, rfl, rfl, by rw [setRow_size]; exact Nat.le_refl _, fun k hk => setRow_other w b k cs (by omega)⟩
theorem mod_item (hr : SR Z w0 H G w) (hf : FR Z n L H G w a) {j b : Nat} {it it' : Item} {g : Value} {cs : Array Value} (hj : H[j]? = some it) (hl : it.live = true) (hg : G[j]? = some g) (hb : blkOf g = some b) (hit : (∀ s v, Rel1 G (Av Z H G) w s v → Rel1 G (Av Z (H.set j it') G) (w.setRow b cs) s v) → (∀ t l y, Ty.rd (Av Z H G) w t l y → Ty.rd (Av Z (H.set j it') G) (w.setRow b cs) t l y) → ItemRel w0.heap.size G (Av Z (H.set j it') G) (w.setRow b cs) it' g) (fl : Nat) (ap : Bool) :
    SR Z w0 (H.set j it') G (w.setRow b cs) ∧ FR Z n L (H.set j it') G (w.setRow b cs) a ∧ Chg Z fl true ap H G w (H.set j it') G (w.setRow b cs) := by
  have hblk := (hr.items j it g hj hg).blk hl hb
  have hbl : ∀ b', b' < w.heap.size → (∀ g, G[j]? = some g → blkOf g ≠ some b') → (w.setRow b cs).heap[b']? = w.heap[b']? := fun b' _ hn => setRow_other w b b' cs (fun e => by subst e; exact hn g hg hb)
  have hB := below_setRow hr hblk.1 cs
  have hz : w.heap.size ≤ (w.setRow b cs).heap.size := by rw [setRow_size]; exact Nat.le_refl _
  have hst := step_mod (it' := it') hr hj hl hB hz hbl
  refine ⟨sr_mod hr hj hl hB hz hbl fun g' hg' => ?_, hf.keep fun s v h => rel_new hr hst h, ⟨fun s v h _ => rel_new hr hst h, .inl rfl, by simp⟩⟩
  rw [hg] at hg'
  injection hg' with hg'
  subst hg'
  exact hit (fun s v h => rel_new hr hst h) (fun t l y h => Ty.rd_keep (hst.keeps hr) h)
end
end Go.Proofs.YtcaiedfkohigjaaGreat
/- Operations that change the state, all of them. -/
namespace Go.Proofs.YtcaiedfkohigjaaGreat
open Go.RowKit
def isStore : Op → Bool
  | .store .. => true
  | _ => false
def isApp : Op → Bool
  | .call ⟨.builtin .append, _, _⟩ => true
  | _ => false
theorem own_blk_eq {w : World} {base et sz m : Nat} {g : Value} {cs : List Value} (h : w.ownsRow base et sz g m cs) : g.ownBlock = blkOf g := by
  rcases own_form' h with ⟨rfl, _⟩ | ⟨b, c, rfl⟩ <;> rfl
theorem lenM {k : Nat} (h : k ≤ 140737488355328) : k ≤ maxLen := by unfold maxLen; omega
theorem run_buildSl {P : Program} (w : World) {t el : TypeId} {j : TypeInfo} {z : Value} {sz len : Nat} {parts : Array (Nat × Value)} {us : Array Value} (hu : P.underlying t = some (.slice el)) (hj : P.info? el = some j) (hjs : j.size = sz) (hjz : j.zero = some z) (hn : 0 < sz) (hb : len * sz ≤ 16777216)
    (hf : Instr.fill (fun i => some (i * sz, sz)) (madeCells z.cells (len * sz)) parts.toList = some us) : (Instr.buildSlice t len parts).run P w = .ok (.slice (some ⟨w.heap.size, 0, none⟩) len len) (w.alloc (.cells us el)) := by
  subst hjs
  have hgt : ¬ (len * j.size > 16777216) := by omega
  have hf' : Instr.fill (fun i => some (i * j.size, j.size)) ((Array.range (len * j.size)).map (z.cells[· % z.cells.size]!)) parts.toList = some us := hf
  by_cases hne : len * j.size = 0
  · have hr : Array.range 0 = #[] := rfl
    rw [hne, hr, Array.map_empty] at hf'
    simp only [Instr.buildSlice, Sem.run_bind, run_underlying hu, Result.andThen_ok, sizeOf, typeInfo, Sem.run_pure]
    simp [hj, hne, newRow, hr, hf']
  · simp only [Instr.buildSlice, Sem.run_bind, run_underlying hu, Result.andThen_ok, sizeOf, typeInfo, Sem.run_pure]
    simp [hj, hgt, hne, zeroValue, typeInfo, hjz, hf', newRow]
theorem run_append_none' {P : Program} (w : World) (base : Nat) (t ty e : TypeId) (i : TypeInfo) (size : Nat) (ht : P.underlying t = some (.slice e)) (hi : P.info? e = some i)
    (v : Value) (n : Nat) (xs : List Value) (hown : w.ownsRow base e size v n xs) (c : Nat) :
    (Builtin.append_ #[t, t] ty #[v, .slice none 0 c]).run P w = .ok v w := by
  rcases hown.2 with ⟨rfl, rfl⟩ | ⟨g, cap, cur, rfl, _, _, hnc, _⟩
  · simp [Builtin.append_, run_underlying ht, sizeOf, typeInfo, hi, Builtin.lenOf, Builtin.firstCells]
  · simp [Builtin.append_, run_underlying ht, sizeOf, typeInfo, hi, Builtin.lenOf, Builtin.firstCells, hnc, storeCells]
theorem flat_ints {A : Nat → Prop} {w : World} : ∀ {xs : List Int} {css : List (List Value)}, all2 (fun l y => (Ty.int .i64).rd A w l y) css xs → css.flatten = xs.map (Value.int .i64)
  | [], [], _ => rfl
  | y :: ys, c :: css, ⟨q1, q2⟩ => by
    have : c = [Value.int .i64 y] := q1
    subst this
    rw [List.flatten_cons, flat_ints q2]; rfl
section
variable {Z : Nat → Prop} {w0 : World} {n : Nat} {L : SL} {H : List Item} {G : List Value} {w : World} {a : Act} {P : Program} {T : TT} {E : Env} {R : Type}
/-- What is appended. -/
theorem src_rel (hr : SR Z w0 H G w) {s : SV} {v : Value} {e : Ty} {ys : List e.D} {t : Nat} (h : Rel G (Av Z H G) w s v) (ha : argS T H [s] [t] = some [.d (.sl e) ys]) :
    ∃ p m c css, v = .slice p m c ∧ ys.length = m ∧ all2 (fun l y => e.rd (Av Z H G) w l y) css ys ∧ (0 < m → ∃ b off, p = some ⟨b, off, none⟩ ∧ cellsAt w b off (List.flatten css)) := by
  simp only [argS] at ha
  split at ha
  · rename_i t' x
    simp only [Option.some.injEq, List.cons.injEq, and_true] at ha
    cases ha
    obtain ⟨cs, hrd, rfl⟩ := h
    obtain ⟨p, m, c, css, rfl, h1, _, _, h4, h5⟩ := hrd
    exact ⟨p, m, c, css, rfl, h1, h4, fun h0 => by obtain ⟨b, off, g1, _, _, g4⟩ := h5 h0; exact ⟨b, off, g1, g4⟩⟩
  · split at ha <;> try (cases ha; done)
    split at ha <;> try (cases ha; done)
    simp only [Option.some.injEq, List.cons.injEq, and_true] at ha
    cases ha
    exact ⟨none, 0, 0, [], h, rfl, trivial, fun h0 => absurd h0 (by omega)⟩
  · split at ha <;> try (cases ha; done)
    rename_i et e' xs hj
    simp only [Option.some.injEq, List.cons.injEq, and_true] at ha
    cases ha
    obtain ⟨css, ho, ha2, hn⟩ := hr.items _ _ _ hj h
    obtain ⟨_, p, c, hv, _, _, h3⟩ := Rd.of_own hn ho
    exact ⟨p, _, c, css, hv, rfl, ha2, fun h0 => by obtain ⟨b, off, g1, _, g3⟩ := h3 h0; exact ⟨b, off, g1, g3⟩⟩
  · simp only [Option.some.injEq, List.cons.injEq, and_true] at ha
    cases ha
    obtain ⟨p, hrd, rfl⟩ := h
    obtain ⟨p', m, c, css, e1, h1, _, _, h4, h5⟩ := hrd
    injection e1 with e1
    rw [e1]
    exact ⟨p', m, c, css, rfl, h1, h4, fun h0 => by obtain ⟨b, off, g1, _, _, g4⟩ := h5 h0; exact ⟨b, off, g1, g4⟩⟩
  · rename_i j sz lo n0
    split at ha <;> try (cases ha; done)
    rename_i et e' xs hj
    split at ha <;> try (cases ha; done)
    rename_i hsz
    have hsz := Nat.eq_of_beq_eq_true hsz
    subst hsz
    simp only [Option.some.injEq, List.cons.injEq, and_true] at ha
    cases ha
    obtain ⟨g, q, c, hg, rfl, h1, h2, h3⟩ := h
    obtain ⟨css0, ho, ha2, hn⟩ := hr.items _ _ _ hj hg
    have hl4 := rds_len ha2
    have hN : 0 < n0 → lo + n0 ≤ xs.length := fun h0 => by
      obtain ⟨b, N, c', rfl, h4, _⟩ := h3 h0
      rcases own_form' ho with ⟨h5, _⟩ | ⟨b', c'', h5⟩
      · cases h5
      · injection h5 with _ h5; omega
    refine ⟨q, n0, c, (css0.drop lo).take n0, rfl, ?_, all2_take _ (all2_drop _ ha2), fun h0 => ?_⟩
    · rcases Nat.eq_zero_or_pos n0 with h0 | h0
      · subst h0; simp
      · have := hN h0; simp; omega
    · obtain ⟨b, N, c', rfl, h4, rfl⟩ := h3 h0
      obtain ⟨_, p, c1, hv, _, _, h6⟩ := Rd.of_own hn ho
      injection hv with hv1 hv2 hv3
      obtain ⟨b', off, e1, h7, h8⟩ := h6 (by have := hN h0; omega)
      rw [e1] at hv1
      injection hv1 with hv1
      injection hv1 with e2 e3
      subst e2 e3
      refine ⟨b, _, rfl, fun k u hu => ?_⟩
      rw [flatten_take _ (fun l hm => hl4 l (List.mem_of_mem_drop hm)), flatten_drop _ hl4, List.getElem?_take] at hu
      split at hu
      · rw [List.getElem?_drop] at hu
        have := h8 _ _ hu
        rwa [Nat.zero_add] at this
      · cases hu
  · cases ha
/-- A call of what is known. -/
theorem callE_sound {fl f : Nat} {args : List Operand} {tys : List Nat} {k : SV → List Item → SL → Option R} {r : R} {Q : Value → World → Prop} (hE : EnvOk P E) (hI : inv w0) (hr : SR Z w0 H G w) (hf : FR Z n L H G w a) (h : callE T E fl L H f args tys k = some r)
    (hnext : ∀ s H' L' G' w' v, k s H' L' = some r → SR Z w0 H' G' w' → FR Z n L' H' G' w' a → Rel G' (Av Z H' G') w' s v → Chg Z fl false false H G w H' G' w' → Q v w') :
    callable P f = true ∧ Calls P f (args.map a.eval).toArray w fun e w' => ∃ v, e = .returned v ∧ Q v w' := by
  unfold callE at h
  split at h <;> try (cases h; done)
  rename_i sp hsp
  obtain ⟨hcl, hok, _⟩ := hE f sp hsp
  refine ⟨hcl, ?_⟩
  split at h
  · split at h <;> try (cases h; done)
    rename_i ss hss
    split at h <;> try (cases h; done)
    rename_i al hal
    obtain ⟨rs, hk, hcon⟩ := hok _ _ _ _ h
    have hrel := argS_rel (A := fun _ => True) (ss0 := ss) hr (fun _ _ _ => trivial) (.inl fun _ _ _ _ _ _ => trivial) (fun s hs => hs) hal (allS_rel hf hss)
    refine (hcon _ w _ (inv_below hI hr.below) hrel).mono ?_
    rintro e w' ⟨v, rfl, hb, hres⟩
    split at hk <;> try (cases hk; done)
    rename_i hkp
    obtain ⟨s, H', G', h1, h2, h3, h4, h5⟩ := putRes_sound hr hf hb hres (.inr hkp) hk fl false false
    exact ⟨v, rfl, hnext s H' L G' w' v h1 h2 h3 h4 h5⟩
  · split at h <;> try (cases h; done)
    rename_i L1 H1 hfz
    split at h <;> try (cases h; done)
    rename_i ss hss
    split at h <;> try (cases h; done)
    rename_i al hal hno
    obtain ⟨rs, hk, hcon⟩ := hok _ _ _ _ h
    obtain ⟨g1, g2, g3, g4, g5⟩ := fzAll_ok hr hf hfz
    have hrel : all2 (Rel1 [] (Av Z H1 G) w) al (args.map a.eval) := by
      refine argS_rel (A := Av Z H1 G) (ss0 := ss) g1 (fun _ _ h => h) (.inr ?_) (fun s hs => hs) hal (allS_rel g2 hss)
      intro s hs
      exact List.all_eq_true.1 hno _ hs
    refine (hcon _ w _ (inv_below hI hr.below) hrel).mono ?_
    rintro e w' ⟨v, rfl, hb, hres⟩
    obtain ⟨s, H', G', h1, h2, h3, h4, h5⟩ := putRes_sound g1 g2 hb hres (.inl fun _ _ h => h) hk fl false false
    exact ⟨v, rfl, hnext s H' L1 G' w' v h1 h2 h3 h4 (h5.after g3 g4 g5)⟩

set_option maxHeartbeats 1000000 in
theorem eop_sound {fl : Nat} {o : Oper} {k : SV → List Item → SL → Option R} {r : R} {N : Act → World → Prop} {Q : Exit → Act → World → Prop} (hT : chkAll P T = true) (hE : EnvOk P E) (hI : inv w0) (hr : SR Z w0 H G w) (hf : FR Z n L H G w a) (h : eop T E fl L H o k = some r)
    (hnext : ∀ s H' L' G' w' v, k s H' L' = some r → SR Z w0 H' G' w' → FR Z n L' H' G' w' a → Rel G' (Av Z H' G') w' s v → Chg Z fl (isStore o.op || isMut E L o.op) (isApp o.op) H G w H' G' w' → N (a.put o.dst v) w') :
    o.upon P a N Q ((execOp a.eval o).run P w) := by
  obtain ⟨dst, op, type, pos, after, guard⟩ := o
  have val : ∀ {v w'}, (execOp a.eval ⟨dst, op, type, pos, after, guard⟩).run P w = .ok (.value v) w' → N (a.put dst v) w' → Oper.upon P ⟨dst, op, type, pos, after, guard⟩ a N Q ((execOp a.eval ⟨dst, op, type, pos, after, guard⟩).run P w) := by
    intro v w' h1 h2
    rw [h1]
    exact h2
  unfold eop at h
  dsimp only at h hnext
  split at h
  case h_1 t x =>
    split at h <;> try (cases h; done)
    rename_i s hs
    split at h <;> try (cases h; done)
    rename_i cs hcs
    have hrel := opS_rel hf hs
    obtain ⟨G', h1, h2, h3, h4⟩ := new_box (t := t) hr hf (splitS_rel hr hrel hcs) fl false false
    refine val (v := .pointer (some ⟨w.heap.size, 0, none⟩)) (w' := w.alloc (.cells (a.eval x).cells t)) ?_ (hnext _ _ _ G' _ _ h h1 h2 h3 h4)
    simp [execOp, Instr.box, newVar, newRow]
  case h_2 t =>
    split at h <;> try (cases h; done)
    rename_i i hi
    split at h <;> try (cases h; done)
    rename_i ty hz hne
    have hck := chkAll_look hT hi
    obtain ⟨inf, hinf, hzero⟩ := chk_zero hck hz
    have hc : (mkV i.ty (zc i.ty)).cells.toList = zc i.ty := mkz_cells (by
      generalize i.ty = ty at *
      cases ty <;> first | exact .inr rfl | exact .inl rfl | exact (hne _ _ rfl).elim)
    obtain ⟨G', h1, h2, h3, h4⟩ := new_box (t := t) (cs := i.ty.zsplit) (vs := (mkV i.ty (zc i.ty)).cells) hr hf (by rw [hc]; exact zsplit_rel) fl false false
    refine val (v := .pointer (some ⟨w.heap.size, 0, none⟩)) (w' := w.alloc (.cells (mkV i.ty (zc i.ty)).cells t)) ?_ (hnext _ _ _ G' _ _ h h1 h2 h3 h4)
    simp [execOp, Instr.alloc, zeroValue, typeInfo, hinf, hzero, newVar, newRow]
  case h_3 t len parts =>
    split at h <;> try (cases h; done)
    rename_i i hi
    split at h <;> try (cases h; done)
    rename_i e he
    split at h <;> try (cases h; done)
    rename_i L1 H1 hfz
    split at h <;> try (cases h; done)
    rename_i cs hfl
    split at h <;> try (cases h; done)
    rename_i xs hjn hlen
    have hlen1 := Nat.le_of_ble_eq_true hlen
    obtain ⟨g1, g2, g3, g4, g5⟩ := fzAll_ok hr hf hfz
    have hck := chkAll_look hT hi
    obtain ⟨hu, hn0, j, hj, hjs, _, hjz, hone⟩ := chk_slice hck he
    have hz1 := mkz_cells hone
    have hcz : (mkV e (zc e)).cells.size = e.n ∧ (mkV e (zc e)).cells.toList = zc e := ⟨by have := congrArg List.length hz1; rw [zc_len] at this; simpa using this, hz1⟩
    have hm := made_rep (mkV e (zc e)).cells len
    rw [hcz.1, hcz.2] at hm
    obtain ⟨us', h1, h2⟩ := fillS_rel g1 g2 (us := madeCells (mkV e (zc e)).cells (len * e.n)) hfl (by rw [hm]; exact rep_rel (split_rel zc_rd) len)
    obtain ⟨css, hcss, hrds, hxl⟩ := joinN_rd hjn h2
    have hsz : us'.size = len * e.n := by
      have := flatten_len (rds_len hrds)
      rw [← hcss, all2_len hrds, hxl] at this
      simpa using this
    have hown := World.ownsRow_lit (e := i.el) (size := e.n) (base := w.heap.size) w us' len (Nat.le_refl _) (by unfold maxLen; have := Nat.le_trans (Nat.le_mul_of_pos_right len hn0) hlen1; omega) hsz
    have hbw := below_alloc w (.cells us' i.el)
    obtain ⟨G', k1, k2, k3, k4⟩ := new_row (et := i.el) (css := css) g1 g2 hbw (by rw [hxl, ← hcss]; exact hown) hn0 (all2_mono (fun l y h => Ty.rd_keep ⟨hbw.size, fun b hb hA => ⟨.inl hA, fun hh => by simp [blkOf] at hh; omega⟩, fun b hb _ => hbw.block b hb⟩ h) hrds) fl false false
    refine val (v := .slice (some ⟨w.heap.size, 0, none⟩) len len) (w' := w.alloc (.cells us' i.el)) ?_ (hnext _ _ _ G' _ _ h k1 k2 k3 (k4.after g3 g4 g5))
    have h1' : Instr.fill (fun i => some (i * e.n, e.n)) (madeCells (mkV e (zc e)).cells (len * e.n)) (parts.map fun p => (p.1, a.eval p.2)).toList = some us' := by
      rw [← h1]; simp
    have := run_buildSl (P := P) w hu hj hjs hjz hn0 hlen1 h1'
    simp [execOp, this]
  case h_4 t x y =>
    split at h <;> try (cases h; done)
    · rename_i kd m i hso hs hi
      split at h <;> try (cases h; done)
      rename_i e he
      split at h <;> try (cases h; done)
      rename_i hd
      have hd := of_decide_eq_true hd
      have hxy : y = x := by
        cases x <;> cases y <;> simp only [sameOp, Bool.false_eq_true] at hso
        rw [Nat.eq_of_beq_eq_true hso]
      subst hxy
      have hck := chkAll_look hT hi
      obtain ⟨hu, hn0, j, hj, hjs, hjb, hjz, hone⟩ := chk_slice hck he
      have hv := rel_int (opS_rel hf hs)
      obtain ⟨k0, rfl⟩ : ∃ k : Nat, m = (k : Int) := ⟨m.toNat, (Int.toNat_of_nonneg hd.1).symm⟩
      have hb1 : k0 * i.byt ≤ 140737488355328 := by
        have := hd.2.1
        rw [← Int.natCast_mul] at this
        exact Int.ofNat_le.1 this
      have hb2 : k0 ≤ 140737488355328 := Int.ofNat_le.1 hd.2.2
      have hz1 := mkz_cells hone
      have hcz : (mkV e (zc e)).cells.size = e.n := by have := congrArg List.length hz1; rw [zc_len] at this; simpa using this
      obtain ⟨w', hrun, hown, hgr⟩ := run_make_full (P := P) w w.heap.size t i.el j _ e.n hu hj hjz hjs kd kd k0 (by rw [hjb, Nat.mul_comm]; omega) (lenM hb2) (Nat.le_refl _)
      have hm := made_rep (mkV e (zc e)).cells k0
      rw [hcz, hz1] at hm
      obtain ⟨r1, r2⟩ := rep_rds (A := fun b => (Av Z H G b ∨ w.heap.size ≤ b) ∧ blkOf (.slice (some ⟨w.heap.size, 0, none⟩) k0 k0) ≠ some b) (w := w') (zc_rd (t := e)) k0
      have hbw : Below w.heap.size w w' := ⟨hgr.os, hgr.tape, hgr.output, hgr.size, fun b hb => hgr.block b hb (by simp)⟩
      obtain ⟨G', k1, k2, k3, k4⟩ := new_row (et := i.el) (e := e) (xs := List.replicate k0 e.zero) (css := List.replicate k0 (zc e)) hr hf hbw (by rw [r2, ← hm, List.length_replicate]; exact hown) hn0 r1 fl false false
      refine val (v := .slice (some ⟨w.heap.size, 0, none⟩) k0 k0) (w' := w') ?_ (hnext _ _ _ G' _ _ h k1 k2 k3 k4)
      simp [execOp, hv, hrun]
    · rename_i kd m i hso hs hi
      split at h <;> try (cases h; done)
      rename_i kd' n0 e hs' he
      split at h <;> try (cases h; done)
      rename_i hd
      obtain ⟨hm0, hd2⟩ := of_decide_eq_true hd
      clear hd
      subst hm0
      have hck := chkAll_look hT hi
      obtain ⟨hu, hn0, j, hj, hjs, hjb, hjz, hone⟩ := chk_slice hck he
      have hv := rel_int (opS_rel hf hs)
      have hv' := rel_int (opS_rel hf hs')
      obtain ⟨k0, rfl⟩ : ∃ k : Nat, n0 = (k : Int) := ⟨n0.toNat, (Int.toNat_of_nonneg hd2.1).symm⟩
      have hb1 : k0 * i.byt ≤ 140737488355328 := by
        have := hd2.2.1
        rw [← Int.natCast_mul] at this
        exact Int.ofNat_le.1 this
      have hb2 : k0 ≤ 140737488355328 := Int.ofNat_le.1 hd2.2.2
      obtain ⟨w', hrun, hown, hgr⟩ := run_make_own (P := P) w w.heap.size t i.el j _ e.n hu hj hjz hjs kd kd' k0 (by rw [hjb, Nat.mul_comm]; omega) (lenM hb2) (Nat.le_refl _)
      have hbw : Below w.heap.size w w' := ⟨hgr.os, hgr.tape, hgr.output, hgr.size, fun b hb => hgr.block b hb (by simp)⟩
      obtain ⟨G', k1, k2, k3, k4⟩ := new_row (et := i.el) (e := e) (xs := []) (css := []) hr hf hbw (by simpa using hown) hn0 trivial fl false false
      refine val (v := .slice (some ⟨w.heap.size, 0, none⟩) 0 k0) (w' := w') ?_ (hnext _ _ _ G' _ _ h k1 k2 k3 k4)
      simp [execOp, hv, hv', hrun]
  case h_5 t x v =>
    have sk : ∀ {w'}, (Instr.storeAt t (a.eval x) (a.eval v)).run P w = .ok () w' → N (a.put dst undef) w' → Oper.upon P ⟨dst, .store t x v, type, pos, after, guard⟩ a N Q ((execOp a.eval ⟨dst, .store t x v, type, pos, after, guard⟩).run P w) := by
      intro w' h1 h2
      have : (execOp a.eval ⟨dst, .store t x v, type, pos, after, guard⟩).run P w = .ok .skip w' := by simp [execOp, h1]
      rw [this]
      exact h2
    split at h <;> try (cases h; done)
    · rename_i j off s i hx hs hi
      split at h <;> try (cases h; done)
      rename_i bt cells l hj hl
      split at h <;> try (cases h; done)
      rename_i hb
      simp only [Bool.and_eq_true] at hb
      have hb1 := Nat.eq_of_beq_eq_true hb.1
      have hb2 := Nat.le_of_ble_eq_true hb.2
      obtain ⟨b, hg, hxv⟩ := opS_rel hf hx
      have hrel := opS_rel hf hs
      have hsp := splitS_rel hr hrel hl
      obtain ⟨b', vs, e1, hbb, hblk, hcs⟩ := hr.items j _ _ hj hg
      injection e1 with e1
      injection e1 with e1
      injection e1 with e1
      subst e1
      have hll := all2_len hsp
      have hcl := all2_len hcs
      have hrun := run_storeAt_ty (chkAll_look hT hi) w b off bt vs.toArray (a.eval v) hblk (by omega) (by simp only [List.size_toArray]; omega) (splitS_one hr hrel hl)
      obtain ⟨k1, k2, k3⟩ := mod_item (it' := .box bt (over cells off l)) (cs := (overV vs off (a.eval v).cells.toList).toArray) hr hf hj rfl hg rfl (fun hk _ => ⟨b, overV vs off (a.eval v).cells.toList, rfl, hbb, setRow_heap w b _ _ bt (0, 0) hblk, all2_mono hk (over_rel off hsp hcs)⟩) fl false
      refine sk (by rw [hxv]; exact hrun) (hnext .undef _ _ G _ undef h k1 k2 rfl k3)
    · rename_i j sz m off t' y i hx hs hi
      split at h <;> try (cases h; done)
      rename_i et e xs hfl hj
      split at h <;> try (cases h; done)
      rename_i x0 hb hx0
      simp only [Bool.and_eq_true] at hb
      have hb1 := Nat.eq_of_beq_eq_true hb.1
      have hb2 := Nat.eq_of_beq_eq_true hb.2
      subst hb1
      split at h <;> try (cases h; done)
      rename_i x' hne hup
      obtain ⟨b, m', c, hg, hxv⟩ := opS_rel hf hx
      obtain ⟨vs, hrd, hvv⟩ := opS_rel hf hs
      obtain ⟨css, ho, ha2, hn0⟩ := hr.items j _ _ hj hg
      obtain ⟨l, hl, hlrd⟩ := all2_get ha2 m x0 hx0
      obtain ⟨u1, u2⟩ := upd_rd hlrd hup hrd
      have hvc : (a.eval v).cells.toList = vs := by rw [hvv]; exact mkV_cells (fun p q e => by subst e; exact hne p q y rfl HEq.rfl) hrd
      have hls := rds_len ha2
      have hll := hls l (List.mem_of_getElem? hl)
      rcases ho.2 with ⟨e1, _⟩ | ⟨g, cap, cur, e1, h1, h2, h3, h4, h5, h6⟩
      · cases e1
      · injection e1 with e1 e2 e3
        injection e1 with e1
        injection e1 with e1
        subst e1 e2 e3
        have hmlt : m < xs.length := (List.getElem?_eq_some_iff.1 hx0).1
        have hfit : m * e.n + e.n ≤ xs.length * e.n := by rw [← Nat.succ_mul]; exact Nat.mul_le_mul_right _ hmlt
        have hcap : xs.length * e.n ≤ c * e.n := Nat.mul_le_mul_right _ h3
        have hrun := run_storeAt_ty (chkAll_look hT hi) w b (m * e.n + off) et cur (a.eval v) h2 (by rw [hvc, Ty.rd_len hrd, hb2]) (by rw [hvc]; omega) (by rw [hvc]; exact rd_one hrd)
        rw [hvc] at hrun
        obtain ⟨k1, k2, k3⟩ := mod_item (it' := .row et e (xs.set m x')) (cs := (overV cur.toList (m * e.n + off) vs).toArray) hr hf hj rfl hg rfl (fun _ hk => by
          refine ⟨css.set m (overV l off vs), ⟨?_, .inr ⟨b, c, _, by rw [List.length_set], h1, setRow_heap w b cur _ et (0, 0) h2, by rw [List.length_set]; exact h3, h4, ?_, ?_⟩⟩, all2_set m (all2_mono (fun l y h => hk _ l y h) ha2) (hk _ _ _ u1), hn0⟩
          · rw [← overV_flat hls hl (by omega), overV_len, List.length_set]; exact ho.1
          · simp [overV_len, h5]
          · rw [List.length_set]
            show (overV cur.toList (m * e.n + off) vs).take (xs.length * e.n) = _
            rw [overV_take _ _ _ _ (by omega) (by simp; omega), h6, overV_flat hls hl (by omega)]) fl false
        refine sk (by rw [hxv]; exact hrun) (hnext .undef _ _ G _ undef h k1 k2 rfl k3)
  case h_6 x y t t' =>
    split at h <;> try (cases h; done)
    rename_i i htt hi
    split at h <;> try (cases h; done)
    rename_i e he
    split at h <;> try (cases h; done)
    rename_i e' ys0 hys
    split at h <;> try (cases h; done)
    rename_i ys hcast
    obtain ⟨ee, rfl⟩ := castD_some hcast
    injection ee with ee
    subst ee
    have := Nat.eq_of_beq_eq_true htt
    subst this
    clear hcast
    dsimp only at h
    have hck := chkAll_look hT hi
    obtain ⟨hu, hn0, j, hj, hjs, hjb, hjz, hone⟩ := chk_slice hck he
    have hz1 := mkz_cells hone
    have hcz : (mkV e' (zc e')).cells.size = e'.n := by have := congrArg List.length hz1; rw [zc_len] at this; simpa using this
    obtain ⟨sy, hsy, hsy2⟩ : ∃ sy, opS L y = some sy ∧ argS T H [sy] [t] = some [.d (.sl e') ys0] := by
      cases hq : opS L y with
      | none => rw [hq] at hys; simp [argS] at hys
      | some sy => rw [hq] at hys; exact ⟨sy, rfl, hys⟩
    have hyr := opS_rel hf hsy
    obtain ⟨p, m, c, css, hyv, hym, hya, hyc⟩ := src_rel hr hyr hsy2
    have hfl := flatten_len (rds_len hya)
    rw [all2_len hya, hym] at hfl
    have hone' := rds_one hya
    -- the run, whatever row it goes onto
    have run : ∀ (g : Value) (N0 : Nat) (cs1 : List Value), w.ownsRow w0.heap.size i.el e'.n g N0 cs1 → (N0 + m) * i.byt ≤ 140737488355328 → N0 + m ≤ 140737488355328 →
        ∃ v' w', (Builtin.append_ #[t, t] type #[g, a.eval y]).run P w = .ok v' w' ∧ w'.ownsRow w0.heap.size i.el e'.n v' (N0 + m) (cs1 ++ css.flatten) ∧ w.grownBy w' (blkOf g) ∧ (blkOf v' = blkOf g ∨ blkOf v' = some w.heap.size) := by
      intro g N0 cs1 hown hb1 hb2
      rw [hyv]
      cases p with
      | none =>
        have hm0 : m = 0 := by
          rcases Nat.eq_zero_or_pos m with h0 | h0
          · exact h0
          · obtain ⟨b, off, hp, _⟩ := hyc h0; cases hp
        subst hm0
        have hcss : css.flatten = [] := List.eq_nil_of_length_eq_zero (by simpa using hfl)
        refine ⟨g, w, run_append_none' (P := P) w w0.heap.size t type i.el j e'.n hu hj g N0 cs1 hown c, by rw [hcss, List.append_nil]; exact hown, ⟨rfl, rfl, rfl, Nat.le_refl _, fun _ _ _ => rfl⟩, .inl rfl⟩
      | some ad =>
        obtain ⟨v', w', h1, h2, h3, _, h5⟩ := run_append_own_at (P := P) w w0.heap.size t type i.el j _ e'.n i.byt hu hj hjz hjs hjb hcz hn0 g N0 cs1 hown ad m c css.flatten (by rw [hfl]) (fun q u hq => by
          have hm0 : 0 < m := by
            rcases Nat.eq_zero_or_pos m with h0 | h0
            · subst h0
              have hnil : css.flatten = [] := List.eq_nil_of_length_eq_zero (by rw [hfl]; simp)
              rw [hnil] at hq; simp at hq
            · exact h0
          obtain ⟨b, off, hp, hc⟩ := hyc hm0
          injection hp with hp
          subst hp
          rw [add_plain]
          exact hc q u hq) hone' (lenM hb2) hb1 hr.below.size
        exact ⟨v', w', h1, h2, by rw [← own_blk_eq hown]; exact h3, by rw [← own_blk_eq hown, ← own_blk_eq h2]; exact h5⟩
    have ex : ∀ {v' w'}, (Builtin.append_ #[t, t] type #[a.eval x, a.eval y]).run P w = .ok v' w' → (execOp a.eval ⟨dst, .call ⟨.builtin .append, ⟨[x, y]⟩, ⟨[t, t]⟩⟩, type, pos, after, guard⟩).run P w = .ok (.value v') w' := by
      intro v' w' h1
      have h1' : (Builtin.append_ [t, t].toArray type [a.eval x, a.eval y].toArray).run P w = .ok v' w' := h1
      simp [execOp, resolve, invoke, builtin, h1']
    split at h <;> try (cases h; done)
    · rename_i j0 hx
      split at h <;> try (cases h; done)
      rename_i et e0 xs0 hflr hj0
      split at h <;> try (cases h; done)
      rename_i xs het hcast
      obtain ⟨ee, rfl⟩ := castD_some hcast
      injection ee with ee
      subst ee
      clear hcast
      dsimp only at h
      split at h <;> try (cases h; done)
      rename_i hd
      have hd := of_decide_eq_true hd
      have het := Nat.eq_of_beq_eq_true het
      subst het
      have hxr := opS_rel hf hx
      have hitem := hr.items j0 _ _ hj0 hxr
      obtain ⟨css1, ho1, ha1, _⟩ := hitem
      obtain ⟨v', w', h1, h2, h3, h4⟩ := run _ _ _ ho1 (by rw [← hym]; exact hd.1) (by rw [← hym]; exact hd.2)
      have hnp : ∀ q, a.eval x ≠ .pointer q := fun q hq => by rcases own_form' ho1 with ⟨e1, _⟩ | ⟨b, c, e1⟩ <;> rw [hq] at e1 <;> cases e1
      have hst := step_app (et' := i.el) (e' := e0) (xs' := xs0 ++ ys0) hr hj0 hxr hnp h3 hr.below.size (g' := v') (fun b hb => by
        rcases h4 with h4 | h4
        · left; rw [← h4]; exact hb
        · right; rw [h4] at hb; injection hb with hb; omega)
      have hlt := (List.getElem?_eq_some_iff.1 hj0).1
      refine val (ex h1) (hnext (.own j0) _ _ (G.set j0 v') w' v' h (hst.sr hr fun it' g' k1 k2 => ?_) (hf.map fun s v hs => hst.rel1 hr hs (wk_kill j0 False s)) ?_ ?_)
      · rw [List.getElem?_set, if_pos rfl, if_pos (by simpa using hlt)] at k1
        rw [List.getElem?_set, if_pos rfl, if_pos (by rw [hr.len]; exact hlt)] at k2
        injection k1 with k1
        injection k2 with k2
        subst k1 k2
        refine ⟨css1 ++ css, ?_, all2_append (all2_mono (fun l y h => Ty.rd_keep (hst.keeps hr) h) ha1) (all2_mono (fun l y h => Ty.rd_keep (hst.keeps hr) h) hya), hn0⟩
        rw [List.length_append, hym, List.flatten_append]
        exact h2
      · show (G.set j0 v')[j0]? = some v'
        rw [List.getElem?_set, if_pos rfl, if_pos (by rw [hr.len]; exact hlt)]
      · refine ⟨fun s v hs hfl => ?_, .inr ⟨⟨h3.size, fun b hb hor => h3.block b hb fun e1 => ?_⟩, ?_⟩, by simp⟩
        · have hof : s.of1 j0 = false := by
            cases hq : s.of1 j0 with
            | false => rfl
            | true => have := hfl j0 hq; have := Nat.le_of_ble_eq_true hflr; omega
          have := hst.rel1 hr hs (wk_kill j0 False s)
          unfold kill at this
          rw [hof] at this
          exact this
        · rcases hor with hor | hor
          · cases hor
          · exact hor ⟨j0, _, _, _, _, hj0, hxr, e1.symm⟩
        · rintro b hb ⟨q, et2, e2, xs2, g2, k1, k2, k3⟩
          by_cases hq : j0 = q
          · subst hq
            rw [List.getElem?_set, if_pos rfl, if_pos (by rw [hr.len]; exact hlt)] at k2
            injection k2 with k2
            subst k2
            rcases h4 with h4 | h4
            · exact ⟨j0, _, _, _, _, hj0, hxr, by rw [← h4]; exact k3⟩
            · rw [h4] at k3; injection k3 with k3; omega
          · rw [List.getElem?_set, if_neg hq] at k2
            rw [List.getElem?_set, if_neg hq, List.getElem?_map] at k1
            cases hh : H[q]? with
            | none => rw [hh] at k1; cases k1
            | some it =>
              rw [hh] at k1
              cases it with
              | box t cs => simp [mapI] at k1
              | gone => simp [mapI] at k1
              | row a1 a2 a3 =>
                simp only [mapI, Option.map_some, Option.some.injEq] at k1
                exact ⟨q, et2, e2, xs2, g2, by rw [hh, k1], k2, k3⟩
    · rename_i hx
      split at h <;> try (cases h; done)
      rename_i hd
      have hd := of_decide_eq_true hd
      have hxr : a.eval x = .slice none 0 0 := opS_rel hf hx
      obtain ⟨v', w', h1, h2, h3, h4⟩ := run (.slice none 0 0) 0 [] (World.ownsRow_nil w _ _ _) (by rw [← hym, Nat.zero_add]; exact hd.1) (by rw [← hym, Nat.zero_add]; exact hd.2)
      have hbw : Below w.heap.size w w' := ⟨h3.os, h3.tape, h3.output, h3.size, fun b hb => h3.block b hb (by simp [blkOf])⟩
      have hown : w'.ownsRow w.heap.size i.el e'.n v' ys0.length css.flatten := by
        rw [Nat.zero_add, List.nil_append] at h2
        refine ⟨by rw [hym]; exact h2.1, ?_⟩
        rcases h2.2 with ⟨k1, k2⟩ | ⟨g, cap, cur, k1, k2, k3⟩
        · exact .inl ⟨k1, by rw [hym]; exact k2⟩
        · refine .inr ⟨g, cap, cur, by rw [hym]; exact k1, ?_, by rw [hym]; exact k3⟩
          rw [k1] at h4
          simp [blkOf] at h4
          omega
      have hblk : ∀ b, b < w.heap.size → blkOf v' ≠ some b := fun b hb h5 => by
        rcases h4 with h4 | h4
        · rw [h4] at h5; simp [blkOf] at h5
        · rw [h4] at h5; injection h5 with h5; omega
      obtain ⟨G', k1, k2, k3, k4⟩ := new_row (et := i.el) (css := css) hr hf hbw hown hn0 (all2_mono (fun l y h => Ty.rd_keep ⟨hbw.size, fun b hb hA => ⟨.inl hA, hblk b hb⟩, fun b hb _ => hbw.block b hb⟩ h) hya) fl false true
      exact val (ex (by rw [hxr]; exact h1)) (hnext _ _ _ G' _ _ h k1 k2 k3 k4)
    · rename_i e0 xs0 hx
      split at h <;> try (cases h; done)
      rename_i xs hcast
      obtain ⟨ee, rfl⟩ := castD_some hcast
      injection ee with ee
      subst ee
      clear hcast
      dsimp only at h
      split at h <;> try (cases h; done)
      rename_i hd
      obtain ⟨hd1, hd2, hd3, hd4⟩ := of_decide_eq_true hd
      obtain ⟨px, hrd, hxv⟩ := opS_rel hf hx
      obtain ⟨px', nx, cx, cssx, e1, hx1, hx2, hx3, hx4, hx5⟩ := hrd
      injection e1 with e1
      injection e1 with e1 e2 e3
      subst e1 e2 e3
      have hx0 : 0 < xs0.length := by
        cases xs0 with
        | nil => exact absurd rfl hd1
        | cons => simp
      have hy0 : 0 < m := by
        rw [← hym]
        cases ys0 with
        | nil => exact absurd rfl hd2
        | cons => simp
      obtain ⟨bx, ox, rfl, hAx, hbx, hcx⟩ := hx5 hx0
      obtain ⟨by_, oy, rfl, hcy⟩ := hyc hy0
      have hflx := flatten_len (rds_len hx4)
      rw [all2_len hx4] at hflx
      obtain ⟨v', w', h1, h2, h3⟩ := run_append_arg_grows (P := P) w t type i.el j _ e0.n i.byt hu hj hjz hjs hjb hcz hn0 ⟨bx, ox, none⟩ xs0.length xs0.length cssx.flatten hflx (fun q u hq => by rw [add_plain]; exact hcx q u hq)
        ⟨by_, oy, none⟩ m c css.flatten hfl (fun q u hq => by rw [add_plain]; exact hcy q u hq) (by omega) (lenM (by rw [← hym]; exact hd4)) (by rw [← hym]; exact hd3)
      have hbw : Below w.heap.size w w' := ⟨h3.os, h3.tape, h3.output, h3.size, fun b hb => h3.block b hb (by simp)⟩
      have hblk : ∀ b, b < w.heap.size → blkOf v' ≠ some b := fun b hb h5 => by
        rcases h2.2 with ⟨k1, k2⟩ | ⟨g, cap, cur, k1, k2, _⟩
        · rw [k1] at h5; simp [blkOf] at h5
        · rw [k1] at h5; simp [blkOf] at h5; omega
      obtain ⟨G', k1, k2, k3, k4⟩ := new_row (et := i.el) (e := e0) (xs := xs0 ++ ys0) (css := cssx ++ css) hr hf hbw (by rw [List.length_append, hym, List.flatten_append]; exact h2) hn0 (all2_append (all2_mono (fun l y h => Ty.rd_keep ⟨hbw.size, fun b hb hA => ⟨.inl hA, hblk b hb⟩, fun b hb _ => hbw.block b hb⟩ h) hx4) (all2_mono (fun l y h => Ty.rd_keep ⟨hbw.size, fun b hb hA => ⟨.inl hA, hblk b hb⟩, fun b hb _ => hbw.block b hb⟩ h) hya)) fl false true
      exact val (ex (by rw [hxv, hyv]; exact h1)) (hnext _ _ _ G' _ _ h k1 k2 k3 k4)
  case h_7 f args tys =>
    split at h <;> try (cases h; done)
    rename_i g hs
    obtain ⟨bs, hbs, hfv⟩ := opS_rel hf hs
    have : bs = [] := by cases bs with | nil => rfl | cons => exact hbs.elim
    subst this
    split at h
    · rename_i gm hgm
      split at h <;> try (cases h; done)
      rename_i x hargs
      split at h <;> try (cases h; done)
      rename_i j hxs
      split at h <;> try (cases h; done)
      rename_i et xs hfl hj
      split at h <;> try (cases h; done)
      rename_i hlen
      have hlen := of_decide_eq_true hlen
      have hsp : ∃ sp, lookE E g = some sp ∧ sp.mut_ = some gm := by
        unfold mutOf at hgm
        split at hgm
        · rename_i sp hsp; exact ⟨sp, hsp, hgm⟩
        · cases hgm
      obtain ⟨sp, hsp, hmu⟩ := hsp
      obtain ⟨hcl, _, hmc⟩ := hE g sp hsp
      have hxr := opS_rel hf hxs
      obtain ⟨css, ho, ha, hn0⟩ := hr.items j _ _ hj hxr
      have hcss : css.flatten = xs.map (Value.int .i64) := flat_ints ha
      rw [hcss] at ho
      have hrun := run_call hcl a.eval ⟨dst, .call ⟨.value f, args, tys⟩, type, pos, after, guard⟩ f args tys #[] rfl hfv w
      rw [hrun]
      have e1 : Array.map a.eval args ++ #[] = #[a.eval x] := by obtain ⟨l⟩ := args; simp only at hargs; subst hargs; simp
      rw [e1]
      have hmut : isMut E L (.call ⟨.value f, args, tys⟩) = true := by simp only [isMut, hs, hgm, Option.isSome_some]
      have hmc := hmc gm hmu
      unfold MCon at hmc
      split at h
      · rename_i hret
        rw [hret] at hmc
        refine Calls.mono (hmc w _ et _ xs ho hlen) ?_
        rintro e w' ⟨rfl, k1, k2, k3⟩
        have hblk : ∀ b, b < w.heap.size → (∀ g', G[j]? = some g' → blkOf g' ≠ some b) → w'.heap[b]? = w.heap[b]? := fun b hb hn => k3.block b hb fun e2 => hn _ hxr e2.symm
        have hB : Below w0.heap.size w0 w' := hr.below.grown k3 hr.below.size fun q hq => ((hr.items j _ _ hj hxr).blk rfl hq).1
        have hst := step_mod (it' := .row et (.int .i64) (gm.g xs)) hr hj rfl hB k3.size hblk
        refine hnext (.tup []) _ _ G w' _ h (sr_mod hr hj rfl hB k3.size hblk fun g' hg' => ?_) (hf.keep fun s v hv => rel_new hr hst hv) ⟨[], rfl, trivial⟩ ⟨fun s v hv _ => rel_new hr hst hv, .inl (by rw [hmut]; simp), by simp⟩
        rw [show G[j]? = some (a.eval x) from hxr] at hg'
        injection hg' with hg'
        subst hg'
        refine ⟨(gm.g xs).map fun y => [Value.int .i64 y], ?_, ?_, Nat.le_refl _⟩
        · have e2 : ((gm.g xs).map fun y => [Value.int .i64 y]).flatten = (gm.g xs).map (Value.int .i64) := by induction gm.g xs with | nil => rfl | cons y ys ih => simp [ih]
          rw [e2, k2]
          exact k1
        · induction gm.g xs with
          | nil => trivial
          | cons y ys ih => exact ⟨rfl, ih⟩
      · rename_i hret
        rw [hret] at hmc
        refine Calls.mono (hmc w _ et _ xs ho hlen) ?_
        rintro e w' ⟨v', rfl, k1, k3, k4⟩
        have hnp : ∀ q, a.eval x ≠ .pointer q := fun q hq => by rcases own_form' ho with ⟨e1, _⟩ | ⟨b, c, e1⟩ <;> rw [hq] at e1 <;> cases e1
        have hst := step_app (et' := et) (e' := .int .i64) (xs' := gm.g xs) hr hj hxr hnp k3 hr.below.size (g' := v') (fun b hb => .inl (by rw [← k4]; exact hb))
        have hlt := (List.getElem?_eq_some_iff.1 hj).1
        refine hnext (.own j) _ _ (G.set j v') w' v' h (hst.sr hr fun it' g' q1 q2 => ?_) (hf.map fun s v hs => hst.rel1 hr hs (wk_kill j False s)) ?_ ⟨fun s v hs hfl' => ?_, .inl (by rw [hmut]; simp), by simp⟩
        · rw [List.getElem?_set, if_pos rfl, if_pos (by simpa using hlt)] at q1
          rw [List.getElem?_set, if_pos rfl, if_pos (by rw [hr.len]; exact hlt)] at q2
          injection q1 with q1
          injection q2 with q2
          subst q1 q2
          refine ⟨(gm.g xs).map fun y => [Value.int .i64 y], ?_, ?_, Nat.le_refl _⟩
          · have e2 : ((gm.g xs).map fun y => [Value.int .i64 y]).flatten = (gm.g xs).map (Value.int .i64) := by induction gm.g xs with | nil => rfl | cons y ys ih => simp [ih]
            rw [e2]
            exact k1
          · induction gm.g xs with
            | nil => trivial
            | cons y ys ih => exact ⟨rfl, ih⟩
        · show (G.set j v')[j]? = some v'
          rw [List.getElem?_set, if_pos rfl, if_pos (by rw [hr.len]; exact hlt)]
        · have hof : s.of1 j = false := by
            cases hq : s.of1 j with
            | false => rfl
            | true => have := hfl' j hq; have := Nat.le_of_ble_eq_true hfl; omega
          have := hst.rel1 hr hs (wk_kill j False s)
          unfold kill at this
          rw [hof] at this
          exact this
    rename_i hgm
    have hmut : isMut E L (.call ⟨.value f, args, tys⟩) = false := by simp only [isMut, hs, hgm, Option.isSome_none]
    obtain ⟨hcl, hcalls⟩ := callE_sound (Q := fun v w' => N (a.put dst v) w') hE hI hr hf h fun s H' L' G' w' v h1 h2 h3 h4 h5 => hnext s H' L' G' w' v h1 h2 h3 h4 (by rw [hmut]; exact h5)
    have := run_call hcl a.eval ⟨dst, .call ⟨.value f, args, tys⟩, type, pos, after, guard⟩ f args tys #[] rfl hfv w
    rw [this]
    have e1 : Array.map a.eval args ++ #[] = (args.toList.map a.eval).toArray := by obtain ⟨l⟩ := args; simp
    rw [e1]
    refine Calls.mono hcalls ?_
    rintro e w' ⟨v, rfl, hN⟩
    exact hN
  case h_8 => cases h
end
end Go.Proofs.YtcaiedfkohigjaaGreat
