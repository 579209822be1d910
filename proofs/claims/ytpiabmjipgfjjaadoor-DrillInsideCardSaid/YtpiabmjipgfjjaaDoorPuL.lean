/- Calls of what is known. -/
import Derived.Test.YtpiabmjipgfjjaaDoorPuK
namespace Go.Proofs.YtpiabmjipgfjjaaDoor
open Go.RowKit
theorem run_call {P : Program} {g : Nat} (hc : callable P g = true) (ρ : Operand → Value) (o : Oper) (f : Operand) (args : Array Operand) (tys : Array TypeId) (caps : Array Value) (ho : o.op = .call ⟨.value f, args, tys⟩) (hf : ρ f = .func (.func g) #[] caps) (w : World) :
    (execOp ρ o).run P w = .ok (.enter g (args.map ρ ++ caps)) w := by
  unfold callable at hc
  split at hc
  · rename_i fn hfn
    simp only [Bool.and_eq_true, Bool.not_eq_true'] at hc
    have hb : ¬ fn.body = none := fun h => by rw [h] at hc; simp at hc
    have hn : ¬ fn.name = "runtime.NumGoroutine" := by simpa using hc.1
    simp [execOp, ho, resolve, hf, Deferred.ofValue, invoke, callFunc, hfn, hn, hb]
  · cases hc
section
variable {Z : Nat → Prop} {w0 : World} {n : Nat} {L L' : SL} {H H' : List Item} {G : List Value} {w : World} {a : Act} {P : Program} {T : TT} {R : Type}
theorem fzAll_ok {fl : Nat} : ∀ {ops : List Operand} {L : SL} {H : List Item}, SR Z w0 H G w → FR Z n L H G w a → fzAll fl ops L H = some (L', H') → SR Z w0 H' G w ∧ FR Z n L' H' G w a ∧ (∀ s v, Rel1 G (Av Z H G) w s v → (∀ j, s.of1 j = true → j < fl) → Rel1 G (Av Z H' G) w s v) ∧ (∀ b, RowsB H' G b → RowsB H G b) ∧ H.length = H'.length
  | [], L, H, hr, hf, h => by
    simp only [fzAll, Option.some.injEq, Prod.mk.injEq] at h
    obtain ⟨rfl, rfl⟩ := h
    exact ⟨hr, hf, fun s v h _ => h, fun b h => h, rfl⟩
  | x :: r, L, H, hr, hf, h => by
    simp only [fzAll] at h
    split at h
    · rename_i j hs
      split at h <;> try (cases h; done)
      rename_i L1 H1 hg
      unfold giveUp at hg
      split at hg <;> try (cases hg; done)
      rename_i et e xs hfl hj
      simp only [Option.some.injEq, Prod.mk.injEq] at hg
      obtain ⟨rfl, rfl⟩ := hg
      obtain ⟨h1, h2⟩ := sr_freeze hr hj
      obtain ⟨g1, g2, g3, g4, g5⟩ := fzAll_ok h1 (hf.map h2) h
      have hfl := Nat.le_of_ble_eq_true hfl
      refine ⟨g1, g2, fun s v hsv hlt => ?_, fun b hb => ?_, by rw [← g5]; simp⟩
      · have : fz j e xs s = s := by
          unfold fz
          cases hof : s.of1 j with
          | true => have := hlt j hof; omega
          | false => rfl
        refine g3 s v ?_ hlt
        have := h2 s v hsv
        rwa [‹fz j e xs s = s›] at this
      · obtain ⟨i, et', e', xs', g', k1, k2, k3⟩ := g4 b hb
        rw [List.getElem?_set] at k1
        split at k1
        · split at k1 <;> cases k1
        · rw [List.getElem?_map] at k1
          cases hh : H[i]? with
          | none => rw [hh] at k1; cases k1
          | some it =>
            rw [hh] at k1
            cases it with
            | box t cs => simp [mapI] at k1
            | gone => simp [mapI] at k1
            | row a1 a2 a3 =>
              simp only [mapI, Option.map_some, Option.some.injEq] at k1
              exact ⟨i, et', e', xs', g', by rw [hh, k1], k2, k3⟩
    · rename_i j _ _ _ hs
      split at h <;> try (cases h; done)
      rename_i L1 H1 hg
      unfold giveUp at hg
      split at hg <;> try (cases hg; done)
      rename_i et e xs hfl hj
      simp only [Option.some.injEq, Prod.mk.injEq] at hg
      obtain ⟨rfl, rfl⟩ := hg
      obtain ⟨h1, h2⟩ := sr_freeze hr hj
      obtain ⟨g1, g2, g3, g4, g5⟩ := fzAll_ok h1 (hf.map h2) h
      have hfl := Nat.le_of_ble_eq_true hfl
      refine ⟨g1, g2, fun s v hsv hlt => ?_, fun b hb => ?_, by rw [← g5]; simp⟩
      · have : fz j e xs s = s := by
          unfold fz
          cases hof : s.of1 j with
          | true => have := hlt j hof; omega
          | false => rfl
        refine g3 s v ?_ hlt
        have := h2 s v hsv
        rwa [‹fz j e xs s = s›] at this
      · obtain ⟨i, et', e', xs', g', k1, k2, k3⟩ := g4 b hb
        rw [List.getElem?_set] at k1
        split at k1
        · split at k1 <;> cases k1
        · rw [List.getElem?_map] at k1
          cases hh : H[i]? with
          | none => rw [hh] at k1; cases k1
          | some it =>
            rw [hh] at k1
            cases it with
            | box t cs => simp [mapI] at k1
            | gone => simp [mapI] at k1
            | row a1 a2 a3 =>
              simp only [mapI, Option.map_some, Option.some.injEq] at k1
              exact ⟨i, et', e', xs', g', by rw [hh, k1], k2, k3⟩
    · exact fzAll_ok hr hf h
theorem Chg.after {fl : Nat} {st ap : Bool} {H1 : List Item} {G' : List Value} {w' : World} (h1 : ∀ s v, Rel1 G (Av Z H G) w s v → (∀ j, s.of1 j = true → j < fl) → Rel1 G (Av Z H' G) w s v) (h2 : ∀ b, RowsB H' G b → RowsB H G b) (h3 : H.length = H'.length) (h : Chg Z fl st ap H' G w H1 G' w') : Chg Z fl st ap H G w H1 G' w' :=
  ⟨fun s v hsv hlt => h.pres s v (h1 s v hsv hlt) hlt, h.agr.imp id fun ⟨g1, g2⟩ => ⟨⟨g1.1, fun b hb hor => g1.2 b hb (hor.imp id fun hn hx => hn (h2 b hx))⟩, fun b hb hx => h2 b (g2 b hb hx)⟩, by rw [h3]; exact h.len⟩
theorem argS_rel {ss0 : List SV} (hr : SR Z w0 H G w) {A : Nat → Prop} (hA : ∀ b, b < w.heap.size → Av Z H G b → A b) (hAj : (∀ (j : Nat) g b, G[j]? = some g → blkOf g = some b → (∃ et e xs, H[j]? = some (.row et e xs)) → A b) ∨ ∀ s ∈ ss0, s.noOwn = true) : ∀ {ss al : List SV} {tys : List Nat} {vs : List Value}, (∀ s ∈ ss, s ∈ ss0) → argS T H ss tys = some al → all2 (Rel G (Av Z H G) w) ss vs → all2 (Rel1 [] A w) al vs
  | [], al, [], [], _, h, _ => by simp only [argS, Option.some.injEq] at h; subst h; trivial
  | [], al, _ :: _, _, _, h, _ => by simp [argS] at h
  | _ :: _, al, [], _, _, h, _ => by simp [argS] at h
  | s :: ss, al, t :: ts, v :: vs, hss, h, ⟨h1, h2⟩ => by
    simp only [argS] at h
    split at h <;> try (cases h; done)
    rename_i r0 hr0
    have ih := argS_rel hr hA hAj (fun s hs => hss s (by simp [hs])) hr0 h2
    have hk : Keeps (Av Z H G) A w w := ⟨Nat.le_refl _, hA, fun _ _ _ => rfl⟩
    split at h
    · rename_i t x
      injection h with h
      subst h
      obtain ⟨cs, g1, g2⟩ := h1
      exact ⟨⟨cs, Ty.rd_keep hk g1, g2⟩, ih⟩
    · split at h <;> try (cases h; done)
      split at h <;> try (cases h; done)
      injection h with h
      subst h
      exact ⟨⟨[v], by rw [show v = .slice none 0 0 from h1]; exact nil_rd, rfl⟩, ih⟩
    · rename_i j
      split at h <;> try (cases h; done)
      rename_i et e xs hj
      injection h with h
      subst h
      rcases hAj with hAj | hno
      · exact ⟨⟨[v], rd_own hr hj h1 hA (fun b hb => hAj j _ b h1 hb ⟨_, _, _, hj⟩), rfl⟩, ih⟩
      · have := hno (.own j) (hss _ (by simp)); cases this
    · rename_i e xs
      injection h with h
      subst h
      obtain ⟨p, g1, rfl⟩ := h1
      exact ⟨⟨_, Ty.rd_keep hk g1, rfl⟩, ih⟩
    · rename_i j sz lo n0
      split at h <;> try (cases h; done)
      rename_i et e xs hj
      split at h <;> try (cases h; done)
      rename_i hsz
      have hsz := Nat.eq_of_beq_eq_true hsz
      subst hsz
      injection h with h
      subst h
      rcases hAj with hAj | hno
      · exact ⟨⟨[v], rd_win hr hj h1 hA (fun g b hg hb => hAj j g b hg hb ⟨_, _, _, hj⟩), rfl⟩, ih⟩
      · have := hno (.osl j e.n lo n0) (hss _ (by simp)); cases this
    · cases h
theorem av_fresh (hr : SR Z w0 H G w) {b : Nat} (hb : w.heap.size ≤ b) : Av Z H G b := ⟨hr.zf b (Nat.le_trans hr.below.size hb), fun j it g h1 h2 h3 h4 => by have := ((hr.items j it g h1 h3).blk h2 h4).2; omega⟩
theorem flat_rel {A : Nat → Prop} {t : Ty} {x : t.D} {v : Value} {G' : List Value} {A' : Nat → Prop} {w' : World} (hfl : t.flat = true) (h : Rel1 [] A w (.d t x) v) : Rel1 G' A' w' (.d t x) v := by
  obtain ⟨cs, h1, h2⟩ := h
  refine ⟨cs, ?_, h2⟩
  rw [rd_flat hfl h1]
  exact cells_rd hfl
theorem putRes_sound (hr : SR Z w0 H G w) (hf : FR Z n L H G w a) {A : Nat → Prop} {w' : World} {rs : List RV} {v : Value} {k : SV → List Item → Option R} {r : R} (hb : Below w.heap.size w w') (hres : ResRel (fun b => A b ∨ w.heap.size ≤ b) w.heap.size w' rs v)
    (hA : (∀ b, b < w.heap.size → A b → Av Z H G b) ∨ okKeep rs = true) (h : putRes H rs k = some r) (fl : Nat) (st ap : Bool) :
    ∃ s H' G', k s H' = some r ∧ SR Z w0 H' G' w' ∧ FR Z n L H' G' w' a ∧ Rel G' (Av Z H' G') w' s v ∧ Chg Z fl st ap H G w H' G' w' := by
  have hsg := step_grow hr hb
  have hsr := sr_grow hr hb
  have hfr : FR Z n L H G w' a := hf.keep fun s v h => rel_new hr hsg h
  have hchg : Chg Z fl st ap H G w H G w' := ⟨fun s v h _ => rel_new hr hsg h, .inr ⟨⟨hb.size, fun b h1 _ => hb.block b h1⟩, fun b _ h => h⟩, Nat.le_refl _⟩
  have one : ∀ {t : Ty} {x : t.D} {v : Value}, Rel1 [] (fun b => A b ∨ w.heap.size ≤ b) w' (.d t x) v → ((∀ b, b < w.heap.size → A b → Av Z H G b) ∨ t.flat = true) → Rel1 G (Av Z H G) w' (.d t x) v := by
    intro t x v h hor
    rcases hor with hA | hfl
    · obtain ⟨cs, h1, h2⟩ := h
      refine ⟨cs, Ty.rd_keep ⟨Nat.le_refl _, fun b _ hb' => ?_, fun _ _ _ => rfl⟩ h1, h2⟩
      rcases Nat.lt_or_ge b w.heap.size with hlt | hge
      · exact hb'.elim (hA b hlt) (fun h => by omega)
      · exact av_fresh hr hge
    · exact flat_rel hfl h
  unfold putRes at h
  split at h
  · rename_i et e xs
    obtain ⟨css, h1, h2, h3⟩ := hres
    have h2' : all2 (fun l y => e.rd (fun b => (Av Z H G b ∨ w.heap.size ≤ b) ∧ blkOf v ≠ some b) w' l y) css xs := by
      rcases hA with hA | hfl
      · refine all2_mono (fun l y h => Ty.rd_keep ⟨Nat.le_refl _, fun b _ hb' => ?_, fun _ _ _ => rfl⟩ h) h2
        refine ⟨?_, hb'.2⟩
        rcases Nat.lt_or_ge b w.heap.size with hlt | hge
        · exact hb'.1.elim (fun h => .inl (hA b hlt h)) (fun h => by omega)
        · exact .inr hge
      · have hfl : e.flat = true := hfl
        exact all2_mono (fun l y h => by rw [rd_flat hfl h]; exact cells_rd hfl) h2
    obtain ⟨G', g1, g2, g3, g4⟩ := new_row hr hf hb h1 h3 h2' fl st ap
    exact ⟨_, _, G', h, g1, g2, g3, g4⟩
  · rename_i t x
    exact ⟨_, _, G, h, hsr, hfr, rel_of1 (one hres (hA.imp id fun h => by simpa [okKeep, RV.flat] using h)), hchg⟩
  · rename_i hn1 hn2
    split at h <;> try (cases h; done)
    rename_i l hl
    refine ⟨_, _, G, h, hsr, hfr, ?_, hchg⟩
    have hres' : ∃ vs : List Value, v = .tuple vs.toArray ∧ ∃ l, rvS rs = some l ∧ all2 (Rel1 [] (fun b => A b ∨ w.heap.size ≤ b) w') l vs := by
      unfold ResRel at hres
      split at hres
      · exact (hn1 _ _ _ rfl).elim
      · exact (hn2 _ _ rfl).elim
      · exact hres
    obtain ⟨vs, h1, l', h2, h3⟩ := hres'
    rw [hl] at h2
    injection h2 with h2
    subst h2
    refine ⟨vs, h1, ?_⟩
    replace hA : (∀ b, b < w.heap.size → A b → Av Z H G b) ∨ rs.all RV.flat = true := hA.imp id fun h => by
      unfold okKeep at h
      split at h
      · exact (hn1 _ _ _ rfl).elim
      · exact h
    clear h hres hn1 hn2 h1
    induction rs generalizing l vs with
    | nil => simp only [rvS, Option.some.injEq] at hl; subst hl; cases vs <;> exact h3
    | cons q rs ih =>
      have hA' : (∀ b, b < w.heap.size → A b → Av Z H G b) ∨ (q.flat = true ∧ rs.all RV.flat = true) := hA.imp id fun h => by simpa using h
      cases q with
      | d t x =>
        simp only [rvS] at hl
        split at hl <;> try (cases hl; done)
        rename_i l2 hl2
        injection hl with hl
        subst hl
        match vs, h3 with
        | v1 :: vs, ⟨q1, q2⟩ => exact ⟨one q1 (hA'.imp id fun h => h.1), ih l2 hl2 vs q2 (hA'.imp id fun h => h.2)⟩
      | new et e xs =>
        simp only [rvS] at hl
        split at hl <;> try (cases hl; done)
        rename_i l2 hl2
        injection hl with hl
        subst hl
        match vs, h3 with
        | v1 :: vs, ⟨q1, q2⟩ =>
          refine ⟨?_, ih l2 hl2 vs q2 (hA'.imp id fun h => h.2)⟩
          rcases hA' with hA' | hA'
          · exact one q1 (.inl hA')
          · simp [RV.flat] at hA'
end
end Go.Proofs.YtpiabmjipgfjjaaDoor
