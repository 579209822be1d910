/- Regions of calls whose results are data: one order stands for all, the proof. -/
import Derived.Test.YtcaiedfkohigjaaGreatZ5
namespace Go.Proofs.YtcaiedfkohigjaaGreat
open Go.RowKit
section
variable {P : Program} {T : TT} {R : Type}
theorem flatOp_nat {L : SL} {o : Oper} {k : SV → Option R} {r : R} (h : flatOp P L o k = some r) : ∃ s, k s = some r ∧ flatOp P L o some = some s := by
  unfold flatOp at h ⊢
  repeat' (split at h)
  all_goals first
    | (cases h; done)
    | exact ⟨_, h, by simp [*]⟩
    | exact ⟨_, h, rfl⟩
theorem qop_nat {L : SL} {H : List Item} {o : Oper} {k : SV → Option R} {r : R} (hq : quietT o.op = true) (h : qop P T true L H o k = some r) : ∃ s, k s = some r ∧ qop P T true L H o some = some s := by
  unfold qop at h ⊢
  split at h
  all_goals (repeat' (split at h))
  all_goals first
    | (cases h; done)
    | exact ⟨_, h, by simp [*]⟩
    | exact ⟨_, h, rfl⟩
    | exact flatOp_nat h
    | (obtain ⟨s, h1, h2⟩ := flatOp_nat h; exact ⟨s, h1, by simp [*]⟩)
    | (exfalso; simp [quietT, *] at hq; done)
end
section
variable {P : Program} {T : TT} {R : Type}
theorem get_app {H X : List Item} {j : Nat} {it : Item} (h : H[j]? = some it) : (H ++ X)[j]? = some it := by
  rw [List.getElem?_append_left (List.getElem?_eq_some_iff.1 h).1]
  exact h
theorem splitS_ext {H X : List Item} {s : SV} {l : List SV} (h : splitS H s = some l) : splitS (H ++ X) s = some l := by
  unfold splitS at h ⊢
  split at h <;> first
    | (cases h; done)
    | exact h
    | (split at h <;> first
        | (cases h; done)
        | (rename_i hj; simp only [get_app hj]; exact h)
        | (rename_i hg; simp only [hg]; exact h))
theorem fillS_ext {H X : List Item} {L : SL} {place : Nat → Option (Nat × Nat)} : ∀ {ps : List (Nat × Operand)} {cs cs' : List SV}, fillS H L place cs ps = some cs' → fillS (H ++ X) L place cs ps = some cs'
  | [], _, _, h => h
  | (i, x) :: r, cs, cs', h => by
    simp only [fillS] at h ⊢
    split at h <;> try (cases h; done)
    rename_i h1 h2
    split at h <;> try (cases h; done)
    rename_i l hl
    split at h <;> try (cases h; done)
    rename_i hb
    simp only [splitS_ext hl, hb]
    exact fillS_ext h
theorem argS_ext {H X : List Item} : ∀ {ss : List SV} {tys : List Nat} {al : List SV}, ss.all SV.noOwn = true → argS T H ss tys = some al → argS T (H ++ X) ss tys = some al
  | [], [], _, _, h => h
  | [], _ :: _, _, _, h => by simp [argS] at h
  | _ :: _, [], _, _, h => by simp [argS] at h
  | s :: l, t :: ts, al, hn, h => by
    simp only [List.all_cons, Bool.and_eq_true] at hn
    simp only [argS] at h ⊢
    split at h <;> try (cases h; done)
    rename_i r hr
    rw [argS_ext hn.2 hr]
    cases s <;> first
      | exact h
      | (exfalso; have := hn.1; simp [SV.noOwn] at this; done)
theorem qop_ext {L : SL} {H X : List Item} {o : Oper} {s : SV} (hq : quietT o.op = true) (h : qop P T true L H o some = some s) : qop P T true L (H ++ X) o some = some s := by
  have hq' : ∀ op t x y u, o.op = .binOp op t x y u → nilOf op y = none := fun op t x y u e => by
    rw [e] at hq
    simpa [quietT, isQ] using hq
  unfold qop at h ⊢
  split at h
  all_goals (try (rename_i hop; simp only [hq' _ _ _ _ _ hop] at h ⊢; exact h))
  all_goals (try (rename_i hop; simp only at h ⊢; exact h))
  all_goals (repeat' (split at h))
  all_goals first
    | (cases h; done)
    | exact h
    | (simp only [*]; done)
    | (have hx := get_app (X := X) (by assumption : H[_]? = some _); simp only [*]; done)
    | (simp [*]; done)
    | (have hx := fillS_ext (X := X) (by assumption : fillS H _ _ _ _ = some _); simp only [*]; done)
end
theorem lookS_put {d : Nat} {s : SV} {L : SL} {t : Nat} : lookS ((d, s) :: delS L d) t = if t = d then some s else lookS L t := lookS_put'
theorem selS_get {L : SL} {t : Nat} : ∀ {ts : List Nat}, t ∈ ts → lookS (selS L ts) t = lookS L t := by
  intro ts ht
  cases hl : lookS L t with
  | none =>
    cases hs : lookS (selS L ts) t with
    | none => rfl
    | some s => rw [selS_look hs] at hl; cases hl
  | some s =>
    induction ts with
    | nil => cases ht
    | cons u us ih =>
      simp only [selS]
      by_cases hu : u = t
      · subst hu
        rw [hl]
        simp [lookS, Nat.beq_refl]
      · have hm : t ∈ us := (List.mem_cons.1 ht).resolve_left (fun e => hu e.symm)
        have hb : Nat.beq u t = false := by
          cases hq : Nat.beq u t with
          | false => rfl
          | true => exact absurd (Nat.eq_of_beq_eq_true hq) hu
        split
        · simp only [lookS, hb]; exact ih hm
        · exact ih hm
theorem selS_congr {L M : SL} : ∀ {ts : List Nat}, (∀ t ∈ ts, lookS L t = lookS M t) → selS L ts = selS M ts
  | [], _ => rfl
  | u :: us, h => by
    simp only [selS]
    rw [h u (by simp), selS_congr (ts := us) fun t ht => h t (by simp [ht])]
theorem guarded_nat {R : Type} {ops : Array Oper} {L : SL} {o : Oper} {yes no : SL → Option R} {r : R} (h : guarded ops L o yes no = some r) :
    (∃ L', (∀ t, lookS L' t = lookS L t) ∧ yes L' = some r ∧ guarded ops (selS L (o.looksAt ops)) o (fun _ => some true) (fun _ => some false) = some true) ∨ (∃ L', (∀ t, lookS L' t = lookS L t) ∧ no L' = some r ∧ guarded ops (selS L (o.looksAt ops)) o (fun _ => some true) (fun _ => some false) = some false) := by
  unfold guarded at h
  split at h
  · rename_i hg
    exact .inl ⟨L, fun _ => rfl, h, by unfold guarded; rw [hg]⟩
  · rename_i j want hg
    split at h <;> try (cases h; done)
    rename_i d hd
    have hm : d ∈ o.looksAt ops := by unfold Oper.looksAt; rw [hg]; simp [hd]
    have hl := selS_get (L := L) hm
    split at h
    · rename_i b hb
      have hy : ∀ b' : Bool, b = b' → ∀ t, lookS ((d, .d .bool b') :: delS L d) t = lookS L t := fun b' e t => by
        subst e
        rw [lookS_put]
        split
        · rename_i e; subst e; exact hb.symm
        · rfl
      split at h
      · split at h
        · exact .inl ⟨_, hy true rfl, h, by unfold guarded; simp only [hg, hd, hl, hb]⟩
        · exact .inr ⟨_, hy true rfl, h, by unfold guarded; simp only [hg, hd, hl, hb]⟩
      · split at h
        · exact .inr ⟨_, hy false rfl, h, by unfold guarded; simp only [hg, hd, hl, hb]⟩
        · exact .inl ⟨_, hy false rfl, h, by unfold guarded; simp only [hg, hd, hl, hb]⟩
    · rename_i hb
      exact .inr ⟨L, fun _ => rfl, h, by unfold guarded; simp only [hg, hd, hl, hb]⟩
    · cases h
/-- What a step does in every world, and with further items. -/
def StepF (P : Program) (H : List Item) (ops : Array Oper) (Lr : SL) (o : Oper) (j : Nat) (s : SV) : Prop :=
  ∀ (X : List Item) (Z : Nat → Prop) (w0 : World) (n : Nat) (G : List Value) (w : World) (a : Act) (Q : Exit → Act → World → Prop) (K : Act → World → Prop), inv w0 → SR Z w0 (H ++ X) G w → FR Z n Lr (H ++ X) G w a →
    (∀ v G' w', Old w w' → SR Z w0 (H ++ X) G' w' → (∀ s' v', Rel1 G (Av Z (H ++ X) G) w s' v' → Rel1 G' (Av Z (H ++ X) G') w' s' v') → Rel G' (Av Z (H ++ X) G') w' s v → K (a.put o.dst v) w') → wpOp P ops Q j K a w
theorem StepF.ext {P : Program} {H : List Item} {ops : Array Oper} {Lr : SL} {o : Oper} {j : Nat} {s : SV} (h : StepF P H ops Lr o j s) (X : List Item) : StepF P (H ++ X) ops Lr o j s := by
  intro Y Z w0 n G w a Q K
  rw [List.append_assoc]
  exact h (X ++ Y) Z w0 n G w a Q K
/-- A step that looks at no memory. -/
def StepP (P : Program) (H : List Item) (ops : Array Oper) (Lr : SL) (o : Oper) (s : SV) : Prop :=
  ∀ (X : List Item) (Z : Nat → Prop) (w0 : World) (n : Nat) (G : List Value) (w : World) (a : Act), SR Z w0 (H ++ X) G w → FR Z n Lr (H ++ X) G w a → ∃ v, YieldsIf P ops (fun _ => True) o v a ∧ Rel G (Av Z (H ++ X) G) w s v
theorem StepP.ext {P : Program} {H : List Item} {ops : Array Oper} {Lr : SL} {o : Oper} {s : SV} (h : StepP P H ops Lr o s) (X : List Item) : StepP P (H ++ X) ops Lr o s := by
  intro Y Z w0 n G w a
  rw [List.append_assoc]
  exact h (X ++ Y) Z w0 n G w a
section
variable {P : Program} {T : TT} {E : Env} {H : List Item} {ops : Array Oper} {R : Type}
theorem putRes_out {rs : List RV} {s : SV} (h : outS rs = some s) : putRes H rs (fun s H' => some (s, H')) = some (s, H) := by
  unfold outS at h
  split at h
  · injection h with h; subst h; rfl
  · cases h
  · rename_i h1 h2
    unfold putRes
    split at h <;> try (cases h; done)
    rename_i l hl
    injection h with h
    subst h
    split
    · exact absurd rfl (h2 _ _ _)
    · exact absurd rfl (h1 _ _)
    · rw [hl]
theorem undef_pure {Lr : SL} {o : Oper} (hg : guarded ops Lr o (fun _ => some true) (fun _ => some false) = some false) : StepP P H ops Lr o .undef := by
  intro X Z w0 n G w a hr hf
  have want : Region.wanted o (yielded ops a.tmps) = false := by
    rcases guarded_ok hf hg with ⟨_, h1, _, _⟩ | ⟨_, _, _, h3⟩
    · cases h1
    · exact h3
  exact ⟨undef, .inr ⟨want, rfl⟩, rfl⟩
theorem tq_step {Lr : SL} {o : Oper} {j : Nat} {k : SV → Option R} {r : R} (hT : chkAll P T = true) (hE : EnvOk P E) (hops : ops[j]? = some o) (hg : guarded ops Lr o (fun _ => some true) (fun _ => some false) = some true) (h : tq P T E Lr H o k = some r) :
    ∃ s, k s = some r ∧ StepF P H ops Lr o j s ∧ (pureT o = true → StepP P H ops Lr o s) := by
  have want : ∀ {H : List Item} {Z : Nat → Prop} {n : Nat} {G : List Value} {w : World} {a : Act}, FR Z n Lr H G w a → Region.wanted o (yielded ops a.tmps) = true := fun hf => by
    rcases guarded_ok hf hg with ⟨_, _, _, h3⟩ | ⟨_, h1, _, _⟩
    · exact h3
    · cases h1
  unfold tq at h
  split at h
  · rename_i hq
    obtain ⟨s, h1, h2⟩ := qop_nat hq h
    refine ⟨s, h1, fun X Z w0 n G w a Q K hI hr hf hK => ?_, fun hp X Z w0 n G w a hr hf => ?_⟩
    rotate_left
    · obtain ⟨s', v, g1, g2, g3⟩ := qop_sound hT hr hf (qop_ext (X := X) hq h2)
      injection g1 with g1
      subst g1
      refine ⟨v, .inl ⟨want hf, fun w' _ => g3 w' fun hl => ?_⟩, g2⟩
      unfold pureT at hp
      rw [hl] at hp
      simp at hp
    obtain ⟨s', v, g1, g2, g3⟩ := qop_sound hT hr hf (qop_ext (X := X) hq h2)
    injection g1 with g1
    subst g1
    unfold wpOp
    simp only [hops]
    rw [if_pos (want hf)]
    refine .inl ?_
    unfold Oper.wp
    rw [g3 w (fun _ => Agr.refl)]
    exact hK v G w (Old.refl w) hr (fun _ _ h => h) g2
  · split at h
    · rename_i f args tys ht ho
      unfold tcall at h
      split at h <;> try (cases h; done)
      rename_i sp hsp
      obtain ⟨hcl, hok, _⟩ := hE f sp hsp
      split at h <;> try (cases h; done)
      rename_i ss hss
      split at h <;> try (cases h; done)
      rename_i al hal hno
      obtain ⟨rs, hk, hcon⟩ := hok _ _ _ _ h
      split at hk <;> try (cases hk; done)
      rename_i s hs
      refine ⟨s, hk, fun X Z w0 n G w a Q K hI hr hf hK => ?_, fun hp => by
        unfold pureT at hp
        rw [‹quietT o.op = false›] at hp
        cases hp⟩
      have hrel : all2 (Rel1 [] (Av Z (H ++ X) G) w) al (args.toList.map a.eval) := by
        refine argS_rel (A := Av Z (H ++ X) G) (ss0 := ss) hr (fun _ _ h => h) (.inr ?_) (fun s hs => hs) (argS_ext hno hal) (allS_rel hf hss)
        intro s hs
        exact List.all_eq_true.1 hno _ hs
      unfold wpOp
      simp only [hops]
      rw [if_pos (want hf)]
      refine .inl ?_
      unfold Oper.wp
      rw [run_call hcl a.eval o (.func f) args tys #[] ho rfl w]
      have e1 : Array.map a.eval args ++ #[] = (args.toList.map a.eval).toArray := by obtain ⟨l⟩ := args; simp
      rw [e1]
      refine (hcon _ w _ (inv_below hI hr.below) hrel).mono ?_
      rintro e w' ⟨v, rfl, hb, hres⟩
      obtain ⟨s', H', G', k1, k2, k3, k4, k5⟩ := putRes_sound hr hf hb hres (.inl fun _ _ h => h) (putRes_out hs) (H ++ X).length false false
      injection k1 with k1
      injection k1 with k1 k1'
      subst k1 k1'
      refine hK v G' w' ⟨hb.size, fun b hbs => hb.block b hbs⟩ k2 (fun s' v' h => k5.pres s' v' h fun i hi => refs_of1 (rel_refs hr h) hi) k4
    · cases h
theorem undef_step {Lr : SL} {o : Oper} {j : Nat} (hops : ops[j]? = some o) (hg : guarded ops Lr o (fun _ => some true) (fun _ => some false) = some false) : StepF P H ops Lr o j .undef := by
  intro X Z w0 n G w a Q K hI hr hf hK
  have want : Region.wanted o (yielded ops a.tmps) = false := by
    rcases guarded_ok hf hg with ⟨_, h1, _, _⟩ | ⟨_, _, _, h3⟩
    · cases h1
    · exact h3
  unfold wpOp
  simp only [hops]
  rw [if_neg (by rw [want]; simp)]
  exact hK undef G w (Old.refl w) hr (fun _ _ h => h) rfl
/-- Some order leads to the end, or to what is late: allocations and stores. -/
inductive TRun (P : Program) (E : Env) (ops : Array Oper) (N : Nat) (H : List Item) (lo : Bool) (Stp Fin : Nat → Array Bool → SL → Prop) : Nat → Array Bool → SL → Prop
  | done {n : Nat} {l : Array Bool} {L : SL} : onlyL E ops l = true → Fin n l L → TRun P E ops N H lo Stp Fin n l L
  | stop {n : Nat} {l : Array Bool} {L : SL} : Region.ready .any ops l = [] → Stp n l L → TRun P E ops N H lo Stp Fin n l L
  | step {n : Nat} {l : Array Bool} {L L' : SL} {j : Nat} {o : Oper} {d : Nat} {s : SV} : j ∈ Region.ready .any ops l → (allLate E ops j = true ∨ StepP P H ops (selS L (o.looksAt ops)) o s ∨ lo = true) → tamAt E ops j = true → ops[j]? = some o → o.dst = some d → d < N → Region.free .any ops l j = true → StepF P H ops (selS L (o.looksAt ops)) o j s →
      s.refsT H.length = true → (∀ t, lookS L' t = if t = d then some s else lookS L t) → TRun P E ops N H lo Stp Fin n (l.setIfInBounds j true) L' → TRun P E ops N H lo Stp Fin (n + 1) l L
variable {N : Nat} {lo : Bool} {Stp Fin : Nat → Array Bool → SL → Prop}
theorem onlyL_ready {l : Array Bool} (hc : Clo ops l) (h : onlyL E ops l = true) {j : Nat} (hj : j ∈ Region.ready .any ops l) : tamAt E ops j = false := by
  obtain ⟨h1, o, h2, h3⟩ := mem_ready.1 hj
  have := List.all_eq_true.1 h j (List.mem_range.2 (Array.getElem?_eq_some_iff.1 h2).1)
  rw [h1] at this
  simp only [Bool.false_or, Bool.or_eq_true, Bool.not_eq_true'] at this
  rcases this with h4 | h4
  · exact h4
  · rw [List.any_eq_true] at h4
    obtain ⟨s, hs, hb⟩ := h4
    simp only [Bool.and_eq_true, Bool.not_eq_true'] at hb
    have := waits_done hc (fun os hos e he hb => by rw [h2] at hos; injection hos with hos; subst hos; exact h3 e he hb) hb.2
    rw [hb.1.2] at this
    cases this
theorem onlyL_set {l : Array Bool} (h : onlyL E ops l = true) (j : Nat) (hj : lateAt E ops j = false) : onlyL E ops (l.setIfInBounds j true) = true := by
  refine List.all_eq_true.2 fun k hk => ?_
  have := List.all_eq_true.1 h k hk
  by_cases hjk : j = k
  · subst hjk; rw [getD_set_self]; rfl
  · rw [getD_set_ne true hjk]
    simp only [Bool.or_eq_true] at this ⊢
    rcases this with h1 | h1
    · exact .inl h1
    · refine .inr ?_
      rw [List.any_eq_true] at h1 ⊢
      obtain ⟨s, hs, hb⟩ := h1
      refine ⟨s, hs, ?_⟩
      simp only [Bool.and_eq_true] at hb ⊢
      have hne : j ≠ s := fun e' => by rw [← e', hj] at hb; cases hb.1.1
      rw [getD_set_ne true hne]
      exact hb
theorem allLate_ok {l : Array Bool} (hc : Clo ops l) {i j : Nat} (h : allLate E ops i = true) (hi : l.getD i true = false) (hj : j ∈ Region.ready .any ops l) : lateAt E ops j = false := by
  obtain ⟨_, o, ho, hall⟩ := mem_ready.1 hj
  have h1 := List.all_eq_true.1 h j (by simpa using (Array.getElem?_eq_some_iff.1 ho).1)
  simp only [Bool.or_eq_true, Bool.not_eq_true'] at h1
  rcases h1 with h1 | h1
  · exact h1
  · have := waitsT_ok hc h1 (fun os hos e he hb => by rw [ho] at hos; injection hos with hos; subst hos; exact hall e he hb)
    rcases Nat.lt_or_ge i l.size with hlt | hge
    · simp [hlt] at hi this; rw [hi] at this; cases this
    · simp [Array.getElem?_eq_none hge] at this
theorem free_set {l : Array Bool} {i j : Nat} {oi : Oper} (h2 : ops[i]? = some oi) (hjun : l.getD j true = false) (h5 : Region.free .any ops l i = true) : Region.free .any ops (l.setIfInBounds j true) i = true := by
  have hjn : ∀ k, (l.setIfInBounds j true).getD k true = false → l.getD k true = false := fun k hk => by
    by_cases hjk : j = k
    · subst hjk; exact hjun
    · rw [getD_set_ne true hjk] at hk; exact hk
  simp only [Region.free, h2, List.all_eq_true, List.mem_range] at h5 ⊢
  intro k hk
  have := h5 k hk
  cases hd : (l.setIfInBounds j true).getD k true with
  | true => simp
  | false => rw [hjn k hd] at this; simpa [hd] using this
theorem tam_not_alloc {o : Oper} (h : isAlloc o = true) : isTam E o = false := by
  unfold isAlloc at h
  unfold isTam quietT tameE
  cases hop : o.op <;> rw [hop] at h <;> simp at h
  rfl
theorem tam_not_store {o : Oper} (h : isTam E o = true) : isStore o.op = false := by
  unfold isTam quietT tameE at h
  cases hop : o.op <;> rw [hop] at h <;> first | rfl | (simp [isQ] at h)
/-- Then every order does. -/
theorem TRun.any {n : Nat} {l : Array Bool} {L : SL} (h : TRun P E ops N H lo Stp Fin n l L) : Clo ops l → ∀ {j : Nat}, j ∈ Region.ready .any ops l → tamAt E ops j = true →
    ∃ (n' : Nat) (o : Oper) (d : Nat) (s : SV) (L' : SL), n = n' + 1 ∧ ops[j]? = some o ∧ o.dst = some d ∧ d < N ∧ StepF P H ops (selS L (o.looksAt ops)) o j s ∧ s.refsT H.length = true ∧ (∀ t, lookS L' t = if t = d then some s else lookS L t) ∧ TRun P E ops N H lo Stp Fin n' (l.setIfInBounds j true) L' := by
  induction h with
  | done h1 h2 => intro hcl j hj hs; rw [onlyL_ready hcl h1 hj] at hs; cases hs
  | stop h1 h2 => intro _ j hj; rw [h1] at hj; cases hj
  | @step n l L L1 i oi di si h1 h0 h0' h2 h3 h4 h5 h6 hrf h7 h8 ih =>
    intro hcl j hj hst
    by_cases hji : j = i
    · subst hji
      exact ⟨n, oi, di, si, L1, rfl, h2, h3, h4, h6, hrf, h7, h8⟩
    · obtain ⟨n', oj, dj, sj, L2, e1, g2, g3, g4, g6, grf, g7, g8⟩ := ih (hcl.set h1) (ready_mono hj hji) hst
      have hjun := (mem_ready.1 hj).1
      have hap := Region.free_spec h2 h5 j oj g2 hji hjun (ready_undone h1 hj g2)
      obtain ⟨a1, a2, a3⟩ := Oper.apart_spec hap
      have b1 := a1 di h3
      have b2 : dj ≠ di := fun e => a2 di h3 (by rw [g3, e])
      have b3 := a3 dj g3
      have c1 : StepF P H ops (selS L (oj.looksAt ops)) oj j sj := by
        rw [← selS_congr (L := L1) (M := L) fun t ht => by rw [h7 t, if_neg (fun e => b1 (by rw [← e]; exact ht))]]
        exact g6
      refine ⟨n, oj, dj, sj, (dj, sj) :: delS L dj, rfl, g2, g3, g4, c1, grf, fun t => lookS_put, ?_⟩
      rw [e1]
      refine .step (j := i) (L' := L2) (ready_mono h1 (Ne.symm hji)) ?_ h0' h2 h3 h4 (free_set h2 hjun h5) ?_ hrf (fun t => ?_) ?_ (s := si)
      · rw [selS_congr (M := L) fun t ht => by rw [lookS_put, if_neg (fun e => b3 (by rw [← e]; exact ht))]]
        exact h0
      · rw [selS_congr (M := L) fun t ht => by rw [lookS_put, if_neg (fun e => b3 (by rw [← e]; exact ht))]]
        exact h6
      · rw [g7 t, h7 t, lookS_put]
        by_cases e1 : t = dj
        · subst e1; rw [if_pos rfl, if_neg b2]; rw [if_pos rfl]
        · rw [if_neg e1, if_neg e1]
      · rw [Array.setIfInBounds_comm _ _ hji]
        exact g8
/-- An allocation may come early. -/
theorem TRun.alloc {la : List AlA} (hFin : ∀ n l L j oj, Fin n l L → j ∈ Region.ready .any ops l → onlyL E ops l = true → ops[j]? = some oj → isAlloc oj = true → ∃ n' r a L', n = n' + 1 ∧ la[r]? = some a ∧ a.i = j ∧ oj.dst = some a.d ∧ a.d < N ∧ (∃ x, oj.op = .alloc a.t ∧ lookT T a.t = some x ∧ x.z = true ∧ (∀ p q, x.ty ≠ .pair p q) ∧ a.cs = x.ty.zsplit) ∧ (∀ t, lookS L' t = if t = a.d then some (.box (H.length + r) 0) else lookS L t) ∧ TRun P E ops N H lo Stp Fin n' (l.setIfInBounds j true) L')
    {n : Nat} {l : Array Bool} {L : SL} (h : TRun P E ops N H lo Stp Fin n l L) : Clo ops l → ∀ {j : Nat} {oj : Oper}, j ∈ Region.ready .any ops l → ops[j]? = some oj → isAlloc oj = true →
    ∃ (n' r : Nat) (a : AlA) (L' : SL), n = n' + 1 ∧ la[r]? = some a ∧ a.i = j ∧ oj.dst = some a.d ∧ a.d < N ∧ (∃ x, oj.op = .alloc a.t ∧ lookT T a.t = some x ∧ x.z = true ∧ (∀ p q, x.ty ≠ .pair p q) ∧ a.cs = x.ty.zsplit) ∧ (∀ t, lookS L' t = if t = a.d then some (.box (H.length + r) 0) else lookS L t) ∧ TRun P E ops N H lo Stp Fin n' (l.setIfInBounds j true) L' := by
  induction h with
  | done h1 h2 => intro _ j oj hj hoj hal; exact hFin _ _ _ _ _ h2 hj h1 hoj hal
  | stop h1 h2 => intro _ j oj hj; rw [h1] at hj; cases hj
  | @step n l L L1 i oi di si h1 h0 h0' h2 h3 h4 h5 h6 hrf h7 h8 ih =>
    intro hcl j oj hj hoj hal
    by_cases hji : j = i
    · exfalso
      subst hji
      unfold tamAt at h0'
      rw [hoj] at h0'
      dsimp only at h0'
      rw [tam_not_alloc hal] at h0'
      cases h0'
    · obtain ⟨n', r, x, L2, e1, e2, e3, g3, g4, g5, g7, g8⟩ := ih (hcl.set h1) (ready_mono hj hji) hoj hal
      have hjun := (mem_ready.1 hj).1
      have hap := Region.free_spec h2 h5 j oj hoj hji hjun (ready_undone h1 hj hoj)
      obtain ⟨a1, a2, a3⟩ := Oper.apart_spec hap
      have b2 : x.d ≠ di := fun e => a2 di h3 (by rw [g3, e])
      have b3 := a3 x.d g3
      refine ⟨n, r, x, (x.d, .box (H.length + r) 0) :: delS L x.d, rfl, e2, e3, g3, g4, g5, fun t => lookS_put, ?_⟩
      rw [e1]
      refine .step (j := i) (L' := L2) (ready_mono h1 (Ne.symm hji)) ?_ h0' h2 h3 h4 (free_set h2 hjun h5) ?_ hrf (fun t => ?_) ?_ (s := si)
      · rw [selS_congr (M := L) fun t ht => by rw [lookS_put, if_neg (fun e => b3 (by rw [← e]; exact ht))]]
        exact h0
      · rw [selS_congr (M := L) fun t ht => by rw [lookS_put, if_neg (fun e => b3 (by rw [← e]; exact ht))]]
        exact h6
      · rw [g7 t, h7 t, lookS_put]
        by_cases e1 : t = x.d
        · subst e1; rw [if_pos rfl, if_neg b2]; rw [if_pos rfl]
        · rw [if_neg e1, if_neg e1]
      · rw [Array.setIfInBounds_comm _ _ hji]
        exact g8
/-- A store into a new variable may come early. -/
theorem TRun.store {ss : List AlS} (hFin : ∀ n l L j oj, Fin n l L → Clo ops l → j ∈ Region.ready .any ops l → onlyL E ops l = true → ops[j]? = some oj → lateAt E ops j = true → ∃ n' s, n = n' + 1 ∧ s ∈ ss ∧ s.i = j ∧ StNow T L s oj ∧ TRun P E ops N H lo Stp Fin n' (l.setIfInBounds j true) L)
    {n : Nat} {l : Array Bool} {L : SL} (h : TRun P E ops N H lo Stp Fin n l L) : Clo ops l → ∀ {j : Nat} {oj : Oper}, j ∈ Region.ready .any ops l → ops[j]? = some oj → lateAt E ops j = true →
    ∃ (n' : Nat) (s : AlS), n = n' + 1 ∧ s ∈ ss ∧ s.i = j ∧ StNow T L s oj ∧ TRun P E ops N H lo Stp Fin n' (l.setIfInBounds j true) L := by
  induction h with
  | done h1 h2 => intro hcl j oj hj hoj hal; exact hFin _ _ _ _ _ h2 hcl hj h1 hoj hal
  | stop h1 h2 => intro _ j oj hj; rw [h1] at hj; cases hj
  | @step n l L L1 i oi di si h1 h0 h0' h2 h3 h4 h5 h6 hrf h7 h8 ih =>
    intro hcl j oj hj hoj hal
    by_cases hji : j = i
    · exfalso
      subst hji
      unfold tamAt at h0'
      unfold lateAt at hal
      rw [hoj] at h0' hal
      dsimp only at h0' hal
      rw [h0'] at hal
      cases hal
    · obtain ⟨n', s, e1, e2, e3, g5, g8⟩ := ih (hcl.set h1) (ready_mono hj hji) hoj hal
      have hjun := (mem_ready.1 hj).1
      have hap := Region.free_spec h2 h5 j oj hoj hji hjun (ready_undone h1 hj hoj)
      obtain ⟨a1, a2, a3⟩ := Oper.apart_spec hap
      have b1 := a1 di h3
      refine ⟨n, s, rfl, e2, e3, ?_, ?_⟩
      · obtain ⟨t, x, v, sv, y, q1, q2, q3, q4, q5, q6⟩ := g5
        have hop : ∀ {z : Operand} {sz : SV}, (∀ u, z = .tmp u → u ∈ oj.looksAt ops) → opS L1 z = some sz → opS L z = some sz := by
          intro z sz hz he
          cases z with
          | tmp u =>
            simp only [opS] at he ⊢
            rw [h7 u, if_neg (fun e => b1 (by rw [← e]; exact hz u rfl))] at he
            exact he
          | _ => exact he
        refine ⟨t, x, v, sv, y, q1, q2, q3, hop (fun u hu => ?_) q4, hop (fun u hu => ?_) q5, q6⟩
        · unfold Oper.looksAt; rw [q1, hu]; simp [Op.operands]
        · unfold Oper.looksAt; rw [q1, hu]; simp [Op.operands]
      · rw [e1]
        refine .step (j := i) (L' := L1) (ready_mono h1 (Ne.symm hji)) h0 h0' h2 h3 h4 (free_set h2 hjun h5) h6 hrf h7 ?_ (s := si)
        rw [Array.setIfInBounds_comm _ _ hji]
        exact g8
theorem stHf_app {f : Nat → Bool} {H Y : List Item} : ∀ {ss : List AlS}, (∀ s ∈ ss, H.length ≤ s.j) → ∃ X, stHf f ss (H ++ Y) = H ++ X
  | [], _ => ⟨Y, rfl⟩
  | s :: r, h => by
    obtain ⟨X, hX⟩ := stHf_app (f := f) (H := H) (Y := Y) (ss := r) fun s hs => h s (by simp [hs])
    simp only [stHf]
    rw [hX]
    split
    · unfold stP
      split
      · rename_i bt cells hb
        rw [List.set_append, if_neg (by have := h s (by simp); omega)]
        exact ⟨_, rfl⟩
      · exact ⟨X, rfl⟩
    · exact ⟨X, rfl⟩
theorem FR.eqv {Z : Nat → Prop} {n : Nat} {L M : SL} {H : List Item} {G : List Value} {w : World} {a : Act} (h : FR Z n L H G w a) (he : ∀ t, lookS L t = lookS M t) : FR Z n M H G w a :=
  ⟨h.defers, h.size, fun t s hs => h.slot t s (by rw [he t]; exact hs)⟩
theorem wpG_weak {Q : Exit → Act → World → Prop} {S0 : World → Prop} : ∀ (n : Nat) (l : Array Bool) (a : Act) (w : World), wpG P ops Q S0 n l a w → wpG P ops Q (fun _ => True) n l a w
  | 0, _, _, _, h => h
  | n + 1, _, _, _, h => ⟨h.1, fun i hi => wpOp_mono (fun _ _ h' => ⟨.inr trivial, wpG_weak n _ _ _ h'.2⟩) (h.2 i hi)⟩
theorem TRun.sound {Z : Nat → Prop} {w0 : World} {fl : Nat} {Q : Exit → Act → World → Prop} {X : List Item → List Value → World → Prop} {la : List AlA} {ss : List AlS} {S0 : World → Prop} (hS0 : ∀ w w', S0 w → Old w w' → S0 w') (hSs : ss ≠ [] → ∀ w, S0 w) (hT : chkAll P T = true) (hE : EnvOk P E) (hI : inv w0) (hsel : ∀ (j : Nat) (o : Oper) cs b, ops[j]? = some o → o.op ≠ .select cs b) (hPQ : ∀ c a d v w, Q (.panic c) (Act.put a d v) w → Q (.panic c) a w)
    (hFin : ∀ n l L j oj, Fin n l L → j ∈ Region.ready .any ops l → onlyL E ops l = true → ops[j]? = some oj → isAlloc oj = true → ∃ n' r a L', n = n' + 1 ∧ la[r]? = some a ∧ a.i = j ∧ oj.dst = some a.d ∧ a.d < N ∧ (∃ x, oj.op = .alloc a.t ∧ lookT T a.t = some x ∧ x.z = true ∧ (∀ p q, x.ty ≠ .pair p q) ∧ a.cs = x.ty.zsplit) ∧ (∀ t, lookS L' t = if t = a.d then some (.box (H.length + r) 0) else lookS L t) ∧ TRun P E ops N H lo Stp Fin n' (l.setIfInBounds j true) L')
    (hFinS : lo = true → ∀ n l L j oj, Fin n l L → Clo ops l → j ∈ Region.ready .any ops l → onlyL E ops l = true → ops[j]? = some oj → lateAt E ops j = true → ∃ n' s, n = n' + 1 ∧ s ∈ ss ∧ s.i = j ∧ StNow T L s oj ∧ TRun P E ops N H lo Stp Fin n' (l.setIfInBounds j true) L)
    (hp : PlanOk T ops N H la ss) (hnew : ∀ s ∈ ss, H.length ≤ s.j) (hlow : LowH H.length H) (hfl : fl ≤ H.length)
    (hX : ∀ H G w H' G' w', X H G w → Ev Z fl H G w H' G' w' → X H' G' w') (hQ : ∀ n l L G w a, Fin n l L ∨ (Stp n l L ∧ Region.ready .any ops l = []) → S0 w → Clo ops l → l.size = ops.size → LowL H.length la (dn l) L → SR Z w0 (stHf (dn l) ss (H ++ alX (dn l) la)) G w → FR Z N L (stHf (dn l) ss (H ++ alX (dn l) la)) G w a → X (stHf (dn l) ss (H ++ alX (dn l) la)) G w → wpG P ops Q S0 n l a w) :
    ∀ (n : Nat) (l : Array Bool) (L : SL), TRun P E ops N H lo Stp Fin n l L → Clo ops l → l.size = ops.size → LowL H.length la (dn l) L → ∀ (G : List Value) (w : World) (a : Act), SR Z w0 (stHf (dn l) ss (H ++ alX (dn l) la)) G w → FR Z N L (stHf (dn l) ss (H ++ alX (dn l) la)) G w a → X (stHf (dn l) ss (H ++ alX (dn l) la)) G w → S0 w → wpG P ops Q S0 n l a w := by
  have lowS : ∀ {l : Array Bool} {L L' : SL} {j d : Nat} {s : SV}, LowL H.length la (dn l) L → s.refsT H.length = true → (∀ t, lookS L' t = if t = d then some s else lookS L t) → LowL H.length la (dn (l.setIfInBounds j true)) L' := by
    intro l L L' j d s hL hs hL' t u hu
    rw [hL' t] at hu
    split at hu
    · injection hu with hu
      subst hu
      exact .inl hs
    · rcases hL t u hu with h | ⟨r, a, h1, h2, h3⟩
      · exact .inl h
      · refine .inr ⟨r, a, h1, ?_, h3⟩
        rw [dn_up]
        split
        · rfl
        · exact h2
  intro n
  induction n with
  | zero =>
    intro l L h hcl hsz hL G w a hr hf hx hs0
    cases h with
    | done h1 h2 => exact hQ 0 l L G w a (.inl h2) hs0 hcl hsz hL hr hf hx
    | stop h1 h2 => exact hQ 0 l L G w a (.inr ⟨h2, h1⟩) hs0 hcl hsz hL hr hf hx
  | succ n ih =>
    intro l L h hcl hsz hL G w a hr hf hx hs0
    have h' := h
    cases h with
    | done h1 h2 => exact hQ _ l L G w a (.inl h2) hs0 hcl hsz hL hr hf hx
    | stop h1 h2 => exact hQ _ l L G w a (.inr ⟨h2, h1⟩) hs0 hcl hsz hL hr hf hx
    | @step _ _ _ L1 i oi di si h1 h0 h0' h2 h3 h4 h5 h6 hrf h7 h8 =>
      have ht : isTam E oi = true := by
        unfold tamAt at h0'
        rw [h2] at h0'
        exact h0'
      have hnal : isAlloc oi = false := by
        cases hq : isAlloc oi with
        | false => rfl
        | true => rw [tam_not_alloc hq] at ht; cases ht
      rw [← or_assoc, or_right_comm] at h0
      rcases h0 with h0 | h0
      rotate_left
      · have hns : isStore oi.op = false := by
          unfold isTam quietT tameE at ht
          cases hop : oi.op <;> rw [hop] at ht <;> first | rfl | (simp [isQ] at ht)
        obtain ⟨Y, hY⟩ := stHf_app (f := dn l) (Y := alX (dn l) la) hnew
        have e1 := hp.setT (l := l) h2 hnal h3
        obtain ⟨v, y1, y2⟩ := h0 Y Z w0 N G w a (by rw [← hY]; exact hr) (by rw [← hY]; exact ⟨hf.defers, hf.size, fun t s' hs => hf.slot t s' (selS_look hs)⟩)
        rw [← hY] at y2
        refine wpG_pure h2 hsel (fun c a w hq => hPQ c a _ _ w hq) hns n l a w (Region.free_spec h2 h5) h1 y1 (.inr hs0) (ih _ _ h8 (hcl.set h1) (by simpa using hsz) (lowS hL hrf h7) G w _ (by rw [e1]; exact hr) ?_ (by rw [e1]; exact hx) hs0)
        have hf1 := hf.put (d := some di) (L' := (di, si) :: delS L di) (s := si) (by
          simp only [putS]
          rw [Nat.ble_eq_true_of_le h4]) y2
        rw [← h3] at hf1
        rw [e1]
        exact hf1.eqv fun t => by rw [lookS_put, h7 t]
      refine wpG_all rfl (fun e => by rw [e] at h1; cases h1) fun j hj => ?_
      obtain ⟨hjun, oj, hoj, _⟩ := mem_ready.1 hj
      cases hnl : lateAt E ops j with
      | true =>
        have hlo : lo = true := h0.resolve_left fun h0 => by
          rw [allLate_ok hcl h0 (mem_ready.1 h1).1 hj] at hnl
          cases hnl
        obtain ⟨n', s, e1, e2, e3, g5, g8⟩ := h'.store (T := T) (hFinS hlo) hcl hj hoj hnl
        have e1 : n = n' := by omega
        subst e1 e3
        obtain ⟨_, oj', hoj', hdep⟩ := mem_ready.1 hj
        rw [hoj] at hoj'
        injection hoj' with hoj'
        subst hoj'
        obtain ⟨bt, c', b1, b2⟩ := hp.box hcl e2 fun os hos e he hb => by rw [hoj] at hos; injection hos with hos; subst hos; exact hdep e he hb
        refine store_step (fl := fl) hT hE hI hoj g5 b1 b2 hr hf hx hX fun G' w' k2 k3 k5 => ⟨.inr (hSs (fun e => by rw [e] at e2; cases e2) w'), ?_⟩
        rw [← hp.setS e2 hjun] at k2 k3 k5
        refine ih _ _ g8 (hcl.set hj) (by simpa using hsz) (fun t u hu => ?_) G' w' _ k2 k3 k5 (hSs (fun e => by rw [e] at e2; cases e2) w')
        rcases hL t u hu with h | ⟨r, b, q1, q2, q3⟩
        · exact .inl h
        · refine .inr ⟨r, b, q1, ?_, q3⟩
          rw [dn_up]
          split
          · rfl
          · exact q2
      | false =>
      cases hal : isAlloc oj with
      | false =>
        have hst : tamAt E ops j = true := by
          unfold lateAt at hnl
          unfold tamAt
          rw [hoj] at hnl ⊢
          simpa [hal] using hnl
        obtain ⟨n', o, d, s, L', e1, g2, g3, g4, g5, grf, g6, g7⟩ := h'.any hcl hj hst
        have e1 : n = n' := by omega
        subst e1
        have e1 := hp.setT (l := l) g2 (by rw [hoj] at g2; injection g2 with g2; subst g2; exact hal) g3
        obtain ⟨Y, hY⟩ := stHf_app (f := dn l) (Y := alX (dn l) la) hnew
        rw [hY] at hr hf hx
        refine g5 Y Z w0 N G w a Q _ hI hr ⟨hf.defers, hf.size, fun t s' hs => hf.slot t s' (selS_look hs)⟩ fun v G' w' k0 k1 k2 k3 => ⟨.inr (hS0 _ _ hs0 k0), ?_⟩
        rw [hY] at e1
        have hf1 : FR Z N ((d, s) :: delS L d) (H ++ Y) G' w' (a.put o.dst v) := by
          refine (hf.keep k2).put (d := o.dst) (s := s) ?_ k3
          rw [g3]
          simp only [putS]
          rw [Nat.ble_eq_true_of_le (show d + 1 ≤ N by omega)]
        refine ih _ _ g7 (hcl.set hj) (by simpa using hsz) (lowS hL grf g6) G' w' _ (by rw [e1]; exact k1) (by rw [e1]; exact hf1.eqv fun t => by rw [lookS_put, g6 t]) (by rw [e1]; exact hX _ _ _ _ _ _ hx fun s v hs _ => k2 s v hs) (hS0 _ _ hs0 k0)
      | true =>
        obtain ⟨n', r, x, L', e1, e2, e3, g3, g4, ⟨y, y5, y6, y7, y8, y9⟩, g7, g8⟩ := h'.alloc (T := T) hFin hcl hj hoj hal
        have e1 : n = n' := by omega
        subst e1 e3
        obtain ⟨hset, hgone⟩ := hp.setA hcl hsz e2 hjun
        refine alloc_step (L' := L') hT hoj hal e2 g3 g4 y5 ⟨y, y6, y7, y8, y9⟩ hp.dis hjun hgone (hp.low hlow) hL hfl hr hf hx hX g7 fun v G' w' k0 k1 k2 k3 => ⟨.inr (hS0 _ _ hs0 k0), ?_⟩
        rw [← hset] at k1 k2 k3
        refine ih _ _ g8 (hcl.set hj) (by simpa using hsz) (fun t u hu => ?_) G' w' _ k1 k2 k3 (hS0 _ _ hs0 k0)
        rw [g7 t] at hu
        split at hu
        · injection hu with hu
          exact .inr ⟨r, x, e2, by rw [dn_up, if_pos rfl], hu.symm⟩
        · rcases hL t u hu with h | ⟨r', b, q1, q2, q3⟩
          · exact .inl h
          · refine .inr ⟨r', b, q1, ?_, q3⟩
            rw [dn_up]
            split
            · rfl
            · exact q2
theorem pickT_ok {D : List Nat} : ∀ {rs : List Nat} {j : Nat}, pickT E ops D rs = some j → j ∈ rs ∧ ∃ o d, ops[j]? = some o ∧ isTam E o = true ∧ o.dst = some d ∧ Region.free .any ops (mkL ops.size D) j = true ∧ (allLate E ops j = true ∨ pureT o = true ∨ (!(strictR E ops)) = true)
  | [], _, h => by simp [pickT] at h
  | q :: rs, j, h => by
    simp only [pickT] at h
    split at h <;> try (cases h; done)
    rename_i o ho
    split at h
    · rename_i hb
      injection h with h
      subst h
      simp only [Bool.and_eq_true] at hb
      obtain ⟨d, hd⟩ := Option.isSome_iff_exists.1 hb.1.1.2
      simp only [Bool.or_eq_true] at hb
      exact ⟨by simp, o, d, ho, hb.1.1.1, hd, hb.1.2, by rcases hb.2 with (h | h) | h; exact .inr (.inl h); exact .inl h; exact .inr (.inr h)⟩
    · obtain ⟨h1, h2⟩ := pickT_ok h
      exact ⟨by simp [h1], h2⟩
end
section
variable {F : FT} {P : Program} {T : TT} {E : Env} {N : NT} {Fn : Nat → Cfg → Option (List RV)} {r : List RV}
/-- How a region goes on where nothing tame is left: with what is late, or with allocations and stores at once. -/
def finT (P : Program) (F : FT) (T : TT) (E : Env) (N : NT) (Fn : Nat → Cfg → Option (List RV)) (r : List RV) (c : Cfg) (i : Nat) (la : List AlA) (ss : List AlS) (m : Nat) (n : Nat) (l : Array Bool) (L : SL) : Prop :=
  (∃ D q, strictR E (opsAt (nth (bodyF F c.f) i)) = true ∧ (opsAt (nth (bodyF F c.f) i)).toList.any isAlloc = false ∧ la = [] ∧ ss = [] ∧ l = mkL (opsAt (nth (bodyF F c.f) i)).size D ∧ n + D.length = (opsAt (nth (bodyF F c.f) i)).size ∧ (∀ j ∈ D, ∀ o, (opsAt (nth (bodyF F c.f) i))[j]? = some o → isStore o.op = false) ∧ q < m ∧ go P F T E N Fn q { c with L := L } (.drw i (!((opsAt (nth (bodyF F c.f) i)).any fun o => isApp o.op)) false D) = some r) ∨
  (∃ D q L0 ss', alA T (ntm F c.f) (opsAt (nth (bodyF F c.f) i)).toList 0 = some la ∧ alS T E (opsAt (nth (bodyF F c.f) i)) (mkL (opsAt (nth (bodyF F c.f) i)).size D) la c.H.length (alLf (fun _ => true) la c.H.length L0) (c.H ++ alX (fun _ => true) la) (opsAt (nth (bodyF F c.f) i)).toList 0 = some ss' ∧ depA (opsAt (nth (bodyF F c.f) i)) (mkL (opsAt (nth (bodyF F c.f) i)).size D) (la.map (·.i) ++ ss'.map (·.i)) = true ∧ waitC E (opsAt (nth (bodyF F c.f) i)) (mkL (opsAt (nth (bodyF F c.f) i)).size D) (la.map (·.i) ++ ss'.map (·.i)) = true ∧
    ((strictR E (opsAt (nth (bodyF F c.f) i)) = true ∧ ss = [] ∧ ∀ s ∈ ss', l.getD s.i true = false) ∨ (strictR E (opsAt (nth (bodyF F c.f) i)) = false ∧ ss = ss' ∧ (∀ s ∈ ss', c.H.length ≤ s.j) ∧ ∀ k, k < (opsAt (nth (bodyF F c.f) i)).size → (mkL (opsAt (nth (bodyF F c.f) i)).size D).getD k true = true ∨ tamAt E (opsAt (nth (bodyF F c.f) i)) k = false)) ∧
    ((la.map (·.i) ++ ss'.map (·.i)) ++ D).length ≤ (opsAt (nth (bodyF F c.f) i)).size ∧ q < m ∧ go P F T E N Fn q { c with L := alLf (fun _ => true) la c.H.length L0, H := stHf (fun _ => true) ss' (c.H ++ alX (fun _ => true) la) } (.drw i true true ((la.map (·.i) ++ ss'.map (·.i)) ++ D)) = some r ∧
    cu l ≤ n ∧ (∀ k, (mkL (opsAt (nth (bodyF F c.f) i)).size D).getD k false = true → l.getD k false = true) ∧ (∀ k, l.getD k true = true → (mkL (opsAt (nth (bodyF F c.f) i)).size D).getD k true = true ∨ k ∈ la.map (·.i) ++ ss'.map (·.i)) ∧
    (∀ t s, lookS L0 t = some s → s.refsT c.H.length = true) ∧ ∀ t, lookS L t = lookS (alLf (dn l) la c.H.length L0) t) ∨
  (∃ D q j o, strictR E (opsAt (nth (bodyF F c.f) i)) = true ∧ (opsAt (nth (bodyF F c.f) i)).toList.any isAlloc = false ∧ la = [] ∧ ss = [] ∧ l = mkL (opsAt (nth (bodyF F c.f) i)).size D ∧ n + D.length = (opsAt (nth (bodyF F c.f) i)).size ∧ D.length + 1 ≤ (opsAt (nth (bodyF F c.f) i)).size ∧ Region.ready .any (opsAt (nth (bodyF F c.f) i)) (mkL (opsAt (nth (bodyF F c.f) i)).size D) = [j] ∧ (opsAt (nth (bodyF F c.f) i))[j]? = some o ∧ q < m ∧
    guarded (opsAt (nth (bodyF F c.f) i)) L o (fun L => match into F E L o.op with
      | some (g, ss) => go P F T E N Fn q { f := g, K := [], L := argsL 0 ss, H := c.H, fl := c.H.length, fs := { f := c.f, K := c.K, i := i, k := j, L := cutF N c.f i L, fl := c.fl, d := some (j :: D) } :: c.fs } (.node 0)
      | none => none) (fun L => match putS (ntm F c.f) L o.dst .undef with
      | some L' => go P F T E N Fn q { c with L := L' } (.tal i (j :: D))
      | none => none) = some r)
theorem TRun.mono {P : Program} {ops : Array Oper} {N : Nat} {H : List Item} {lo : Bool} {Stp Stp' Fin Fin' : Nat → Array Bool → SL → Prop} (hS : ∀ n l L, Stp n l L → Stp' n l L) (hF : ∀ n l L, Fin n l L → Fin' n l L) {n : Nat} {l : Array Bool} {L : SL} (h : TRun P E ops N H lo Stp Fin n l L) : TRun P E ops N H lo Stp' Fin' n l L := by
  induction h with
  | done h1 h2 => exact .done h1 (hF _ _ _ h2)
  | stop h1 h2 => exact .stop h1 (hS _ _ _ h2)
  | step h1 h0 h0' h2 h3 h4 h5 h6 hrf h7 h8 ih => exact .step h1 h0 h0' h2 h3 h4 h5 h6 hrf h7 ih
theorem alsF_some {N : Nat} {ops : Array Oper} {l : Array Bool} {L L1 : SL} {H H1 : List Item} {C : List Nat} (h : alsF T E N ops l L H = some (L1, H1, C)) : ∃ la ss, alA T N ops.toList 0 = some la ∧ alS T E ops l la H.length (alLf (fun _ => true) la H.length L) (H ++ alX (fun _ => true) la) ops.toList 0 = some ss ∧ depA ops l (la.map (·.i) ++ ss.map (·.i)) = true ∧ waitC E ops l (la.map (·.i) ++ ss.map (·.i)) = true ∧
    (strictR E ops = true ∨ (strictR E ops = false ∧ (∀ s ∈ ss, H.length ≤ s.j) ∧ ∀ k, k < ops.size → l.getD k true = true ∨ tamAt E ops k = false)) ∧ C = la.map (·.i) ++ ss.map (·.i) ∧ L1 = alLf (fun _ => true) la H.length L ∧ H1 = stHf (fun _ => true) ss (H ++ alX (fun _ => true) la) := by
  unfold alsF at h
  split at h <;> try (cases h; done)
  rename_i la hla
  split at h <;> try (cases h; done)
  rename_i ss hss
  split at h <;> try (cases h; done)
  rename_i hd
  injection h with h
  injection h with h1 h2
  injection h2 with h2 h3
  simp only [Bool.and_eq_true] at hd
  refine ⟨la, ss, hla, hss, hd.1.1, hd.1.2, ?_, h3.symm, h1.symm, h2.symm⟩
  cases hq : strictR E ops with
  | true => exact .inl rfl
  | false =>
    have hd2 := hd.2
    rw [hq, Bool.false_or, Bool.and_eq_true] at hd2
    refine .inr ⟨rfl, fun s hs => Nat.le_of_ble_eq_true (List.all_eq_true.1 hd2.1 s hs), fun k hk => ?_⟩
    have := List.all_eq_true.1 hd2.2 k (List.mem_range.2 hk)
    simpa using this
theorem finT_alloc {i : Nat} {c : Cfg} {la : List AlA} {ss : List AlS} {m : Nat} (n : Nat) (l : Array Bool) (L : SL) (j : Nat) (oj : Oper) (h : finT P F T E N Fn r c i la ss m n l L) (hj : j ∈ Region.ready .any (opsAt (nth (bodyF F c.f) i)) l) (ho : onlyL E (opsAt (nth (bodyF F c.f) i)) l = true)
    (hoj : (opsAt (nth (bodyF F c.f) i))[j]? = some oj) (hal : isAlloc oj = true) : ∃ n' r' a L', n = n' + 1 ∧ la[r']? = some a ∧ a.i = j ∧ oj.dst = some a.d ∧ a.d < ntm F c.f ∧ (∃ x, oj.op = .alloc a.t ∧ lookT T a.t = some x ∧ x.z = true ∧ (∀ p q, x.ty ≠ .pair p q) ∧ a.cs = x.ty.zsplit) ∧ (∀ t, lookS L' t = if t = a.d then some (.box (c.H.length + r') 0) else lookS L t) ∧ TRun P E (opsAt (nth (bodyF F c.f) i)) (ntm F c.f) c.H (!(strictR E (opsAt (nth (bodyF F c.f) i)))) (fun _ _ _ => False) (finT P F T E N Fn r c i la ss m) n' (l.setIfInBounds j true) L' := by
  rcases h with ⟨D, q, _, h1, _⟩ | ⟨D, q, L0, ss', k1, k2, k3, k4, k5, k6, h2, h3, h4, h5, h6, h6', h7⟩ | ⟨D, q, j', o', _, h1, _⟩
  · exfalso
    have := List.any_eq_false.1 h1 oj (Array.mem_toList_iff.2 (Array.mem_of_getElem? hoj))
    exact this hal
  rotate_left
  · exfalso
    have := List.any_eq_false.1 h1 oj (Array.mem_toList_iff.2 (Array.mem_of_getElem? hoj))
    exact this hal
  · have hp := plan_of k1 k2
    obtain ⟨r', x, g1, g2, g3, g4, y, g5⟩ := plan_al k1 hoj hal
    have hjun := (mem_ready.1 hj).1
    have hcu := cu_up hjun
    refine ⟨n - 1, r', x, alLf (dn (l.setIfInBounds j true)) la c.H.length L0, by omega, g1, g2, g3, g4, ⟨y, g5⟩, fun t => ?_, .done (onlyL_set ho j ?_) (.inr (.inl ⟨D, q, L0, ss', k1, k2, k3, k4, ?_, k6, h2, h3, by omega, fun k hk => getD_set_true (h5 k hk), fun k hk => ?_, h6', fun t => rfl⟩))⟩
    · rw [alLf_up (fun k => by rw [dn_up, g2]) hp.dis g1 t, h7 t]
    · unfold lateAt
      rw [hoj]
      dsimp only
      rw [hal, Bool.not_true, Bool.and_false]
    · rcases k5 with ⟨e1, e2, e3⟩ | e
      · refine .inl ⟨e1, e2, fun s hs => ?_⟩
        obtain ⟨⟨o', ho', hal', _⟩, _⟩ := hp.ss1 s hs
        have hne : j ≠ s.i := fun e => by
          subst e
          rw [hoj] at ho'
          injection ho' with ho'
          subst ho'
          rw [hal] at hal'
          cases hal'
        rw [getD_set_ne true hne]
        exact e3 s hs
      · exact .inr e
    · have := dn_up l j k
      rw [show dn (l.setIfInBounds j true) k = true from hk] at this
      by_cases e : k = j
      · subst e
        exact .inr (List.mem_append_left _ (List.mem_map.2 ⟨x, List.mem_of_getElem? g1, g2⟩))
      · rw [if_neg e] at this; exact h6 k this.symm
theorem finT_store {i : Nat} {c : Cfg} {la : List AlA} {ss : List AlS} {m : Nat} (hlo : (!(strictR E (opsAt (nth (bodyF F c.f) i)))) = true) (n : Nat) (l : Array Bool) (L : SL) (j : Nat) (oj : Oper) (h : finT P F T E N Fn r c i la ss m n l L) (hcl : Clo (opsAt (nth (bodyF F c.f) i)) l) (hj : j ∈ Region.ready .any (opsAt (nth (bodyF F c.f) i)) l) (_ho : onlyL E (opsAt (nth (bodyF F c.f) i)) l = true)
    (hoj : (opsAt (nth (bodyF F c.f) i))[j]? = some oj) (hal : lateAt E (opsAt (nth (bodyF F c.f) i)) j = true) : ∃ n' s, n = n' + 1 ∧ s ∈ ss ∧ s.i = j ∧ StNow T L s oj ∧ TRun P E (opsAt (nth (bodyF F c.f) i)) (ntm F c.f) c.H (!(strictR E (opsAt (nth (bodyF F c.f) i)))) (fun _ _ _ => False) (finT P F T E N Fn r c i la ss m) n' (l.setIfInBounds j true) L := by
  rcases h with ⟨D, q, h0, h1, _⟩ | ⟨D, q, L0, ss', k1, k2, k3, k4, k5, k6, h2, h3, h4, h5, h6, h6', h7⟩ | ⟨D, q, j', o', h0, h1, _⟩
  · rw [h0] at hlo; cases hlo
  rotate_left
  · rw [h0] at hlo; cases hlo
  · rcases k5 with ⟨e1, _⟩ | ⟨e1, e2, e3, e4⟩
    · rw [e1] at hlo; cases hlo
    subst e2
    have hp := plan_of k1 k2
    obtain ⟨s1, s2, s3⟩ := alS_fact k2
    obtain ⟨hjun, oj', hoj', hdep⟩ := mem_ready.1 hj
    rw [hoj] at hoj'
    injection hoj' with hoj'
    subst hoj'
    have hcu := cu_up hjun
    have hlate := hal
    unfold lateAt at hal
    rw [hoj] at hal
    simp only [Bool.and_eq_true, Bool.not_eq_true'] at hal
    have hlt := (Array.getElem?_eq_some_iff.1 hoj).1
    have hu0 : (mkL (opsAt (nth (bodyF F c.f) i)).size D).getD j true = false := by
      cases hq : (mkL (opsAt (nth (bodyF F c.f) i)).size D).getD j true with
      | false => rfl
      | true =>
        have := h5 j (by rw [getD_tf (by rw [mkL_size]; exact hlt)]; exact hq)
        rcases Nat.lt_or_ge j l.size with h' | h'
        · rw [getD_tf h', hjun] at this; cases this
        · simp [Array.getElem?_eq_none h'] at hjun
    obtain ⟨s, hsm, hsi⟩ := s1 j oj (by rw [Array.getElem?_toList]; exact hoj) (by rw [Nat.zero_add]; exact hu0) hal.2 hal.1
    have hsi : s.i = j := by omega
    subst hsi
    obtain ⟨_, _, o, ho', hno, hok⟩ := s2 s hsm
    rw [Nat.sub_zero, Array.getElem?_toList, hoj] at ho'
    injection ho' with ho'
    subst ho'
    have hst := stNow_of hok hcl fun os hos e he hb => by rw [hoj] at hos; injection hos with hos; subst hos; exact hdep e he hb
    have hst' : StNow T L s oj := by
      obtain ⟨t, x, v, sv, y, q1, q2, q3, q4, q5, q6⟩ := hst
      have hop : ∀ {z : Operand} {sz : SV}, opS (alLf (dn l) la c.H.length L0) z = some sz → opS L z = some sz := by
        intro z sz he
        cases z with
        | tmp u => simp only [opS] at he ⊢; rw [h7 u]; exact he
        | _ => exact he
      exact ⟨t, x, v, sv, y, q1, q2, q3, hop q4, hop q5, q6⟩
    refine ⟨n - 1, s, by omega, hsm, rfl, hst', .done ?_ (.inr (.inl ⟨D, q, L0, ss, k1, k2, k3, k4, .inr ⟨e1, rfl, e3, e4⟩, k6, h2, h3, by omega, fun k hk => getD_set_true (h5 k hk), fun k hk => ?_, h6', fun t => ?_⟩))⟩
    · refine List.all_eq_true.2 fun k hk => ?_
      have hk := List.mem_range.1 hk
      rcases e4 k hk with h | h
      · have := getD_set_true (i := s.i) (h5 k (by rw [getD_tf (by rw [mkL_size]; exact hk)]; exact h))
        rcases Nat.lt_or_ge k (l.setIfInBounds s.i true).size with h' | h'
        · rw [getD_tf h'] at this; rw [this]; rfl
        · rw [show (l.setIfInBounds s.i true).getD k true = true by simp [Array.getElem?_eq_none h']]; rfl
      · rw [h]; simp
    · have := dn_up l s.i k
      rw [show dn (l.setIfInBounds s.i true) k = true from hk] at this
      by_cases e : k = s.i
      · subst e
        exact .inr (List.mem_append_right _ (List.mem_map.2 ⟨s, hsm, rfl⟩))
      · rw [if_neg e] at this; exact h6 k this.symm
    · rw [h7 t]
      exact (alLf_congr (fun x hx _ => (hp.same hoj hal.2).2 x hx) rfl).symm
theorem alLf_nil {f : Nat → Bool} : ∀ {la : List AlA} {k : Nat} {L : SL}, (∀ a ∈ la, f a.i = false) → alLf f la k L = L
  | [], _, _, _ => rfl
  | a :: la, k, L, h => by
    simp only [alLf]
    rw [h a (by simp)]
    exact alLf_nil fun b hb => h b (by simp [hb])
theorem mkL_in {n s : Nat} : ∀ {D : List Nat}, s ∈ D → (mkL n D).getD s true = true
  | [], h => by cases h
  | j :: D, h => by
    rw [mkL]
    by_cases e : j = s
    · subst e; exact getD_set_self _ _
    · rw [getD_set_ne true e]
      exact mkL_in ((List.mem_cons.1 h).resolve_left (fun h => e h.symm))
theorem mkL_cu (n : Nat) : ∀ D : List Nat, n ≤ cu (mkL n D) + D.length
  | [] => by rw [cu_nil]; exact Nat.le_refl _
  | j :: D => by
    have ih := mkL_cu n D
    rw [mkL, List.length_cons]
    cases h : (mkL n D).getD j true with
    | false => have := cu_up h; omega
    | true =>
      have e : (mkL n D).setIfInBounds j true = mkL n D := by
        refine Array.ext_getElem? fun k => ?_
        by_cases e : j = k
        · subst e
          rcases Nat.lt_or_ge j (mkL n D).size with h2 | h2
          · rw [Array.getElem?_setIfInBounds_self_of_lt h2]
            rw [Array.getD_eq_getD_getElem?, Array.getElem?_eq_getElem h2] at h
            rw [Array.getElem?_eq_getElem h2]
            exact congrArg some h.symm
          · rw [Array.getElem?_eq_none h2, Array.getElem?_eq_none (by simpa using h2)]
        · rw [Array.getElem?_setIfInBounds_ne e]
      rw [e]; omega
theorem wpG_more {P : Program} {ops : Array Oper} {Q : Exit → Act → World → Prop} {S0 : World → Prop} : ∀ (m n : Nat) (l : Array Bool) (a : Act) (w : World), m ≤ n → wpG P ops Q S0 m l a w → wpG P ops Q S0 n l a w
  | 0, n, l, a, w, _, h => wpG_done h.1 h.2 n
  | m + 1, 0, _, _, _, hle, _ => by omega
  | m + 1, n + 1, l, a, w, hle, h => ⟨h.1, fun i hi => wpOp_mono (fun a' w' h' => ⟨h'.1, wpG_more m n _ a' w' (by omega) h'.2⟩) (h.2 i hi)⟩
theorem mkL_notin' {n s : Nat} : ∀ {D : List Nat}, s ∉ D → s < n → (mkL n D).getD s true = false
  | [], _, h => by simp [mkL, h]
  | j :: D, hn, h => by
    have h1 : s ≠ j := fun e => hn (by simp [e])
    rw [mkL, getD_set_ne true (Ne.symm h1)]
    exact mkL_notin' (fun hm => hn (by simp [hm])) h
theorem tam_run (hT : chkAll P T = true) (hE : EnvOk P E) {i : Nat} {c : Cfg} : ∀ (m : Nat) (D : List Nat) (L : SL), go P F T E N Fn m { c with L := L } (.tam i D) = some r →
    cu (mkL (opsAt (nth (bodyF F c.f) i)).size D) + D.length = (opsAt (nth (bodyF F c.f) i)).size → (∀ j ∈ D, tamAt E (opsAt (nth (bodyF F c.f) i)) j = true) → (∀ t s, lookS L t = some s → s.refsT c.H.length = true) → Clo (opsAt (nth (bodyF F c.f) i)) (mkL (opsAt (nth (bodyF F c.f) i)).size D) → ∃ la ss, PlanOk T (opsAt (nth (bodyF F c.f) i)) (ntm F c.f) c.H la ss ∧ (∀ s ∈ ss, c.H.length ≤ s.j) ∧ TRun P E (opsAt (nth (bodyF F c.f) i)) (ntm F c.f) c.H (!(strictR E (opsAt (nth (bodyF F c.f) i)))) (fun _ _ _ => False) (finT P F T E N Fn r c i la ss m) ((opsAt (nth (bodyF F c.f) i)).size - D.length) (mkL (opsAt (nth (bodyF F c.f) i)).size D) L := by
  intro m
  induction m with
  | zero => intro D L h; simp [go] at h
  | succ m ih =>
    intro D L h hlen hD hlowL hcl
    have nostore : ∀ j ∈ D, ∀ o, (opsAt (nth (bodyF F c.f) i))[j]? = some o → isStore o.op = false ∧ isAlloc o = false := fun j hj o ho => by
      have := hD j hj
      unfold tamAt at this
      rw [ho] at this
      dsimp only at this
      refine ⟨tam_not_store this, ?_⟩
      cases hq : isAlloc o with
      | false => rfl
      | true => rw [tam_not_alloc hq] at this; cases this
    have next : ∀ {j : Nat} {o : Oper} {d : Nat} {L1 L2 : SL} {s : SV}, j ∈ Region.ready .any (opsAt (nth (bodyF F c.f) i)) (mkL (opsAt (nth (bodyF F c.f) i)).size D) → (opsAt (nth (bodyF F c.f) i))[j]? = some o → o.dst = some d → Region.free .any (opsAt (nth (bodyF F c.f) i)) (mkL (opsAt (nth (bodyF F c.f) i)).size D) j = true → (allLate E (opsAt (nth (bodyF F c.f) i)) j = true ∨ StepP P c.H (opsAt (nth (bodyF F c.f) i)) (selS L (o.looksAt (opsAt (nth (bodyF F c.f) i)))) o s ∨ (!(strictR E (opsAt (nth (bodyF F c.f) i)))) = true) → isTam E o = true → D.length + 1 ≤ (opsAt (nth (bodyF F c.f) i)).size →
        (∀ t, lookS L1 t = lookS L t) → StepF P c.H (opsAt (nth (bodyF F c.f) i)) (selS L (o.looksAt (opsAt (nth (bodyF F c.f) i)))) o j s → s.refsT c.H.length = true → putS (ntm F c.f) L1 o.dst s = some L2 → go P F T E N Fn m { c with L := L2 } (.tam i (j :: D)) = some r → ∃ la ss, PlanOk T (opsAt (nth (bodyF F c.f) i)) (ntm F c.f) c.H la ss ∧ (∀ s ∈ ss, c.H.length ≤ s.j) ∧ TRun P E (opsAt (nth (bodyF F c.f) i)) (ntm F c.f) c.H (!(strictR E (opsAt (nth (bodyF F c.f) i)))) (fun _ _ _ => False) (finT P F T E N Fn r c i la ss (m + 1)) ((opsAt (nth (bodyF F c.f) i)).size - D.length) (mkL (opsAt (nth (bodyF F c.f) i)).size D) L := by
      intro j o d L1 L2 s h1 h2 h3 h4 h4' h4'' h5 h6 h7 hrf h8 h9
      have htj : tamAt E (opsAt (nth (bodyF F c.f) i)) j = true := by unfold tamAt; rw [h2]; exact h4''
      have hcu := cu_up (mem_ready.1 h1).1
      rw [h3] at h8
      simp only [putS] at h8
      split at h8 <;> try (cases h8; done)
      rename_i hd
      have hd := Nat.le_of_ble_eq_true hd
      injection h8 with h8
      have hlk : ∀ t, lookS L2 t = if t = d then some s else lookS L t := fun t => by rw [← h8, lookS_put, h6 t]
      obtain ⟨la, ss, hp, hnew, h10⟩ := ih (j :: D) L2 h9 (by
        rw [List.length_cons]
        show cu ((mkL _ D).setIfInBounds j true) + _ = _
        omega) (fun k hk => by
        rcases List.mem_cons.1 hk with e | hk
        · subst e; exact htj
        · exact hD k hk) (fun t u hu => by
        rw [hlk t] at hu
        split at hu
        · injection hu with hu; subst hu; exact hrf
        · exact hlowL t u hu) (hcl.set h1)
      have h11 := h10.mono (Fin' := finT P F T E N Fn r c i la ss (m + 1)) (fun _ _ _ h => h) (fun n l L hf => by
        rcases hf with ⟨D', q, e1, e2, e3, e4, e5, e6, e7, e8, e9⟩ | ⟨D', q, L0, ss', e1, e2, e3, e4, e5, e6, e7, e8⟩ | ⟨D', q, j', o', e1, e2, e3, e4, e5, e6, e7, e8, e9, e10, e11⟩
        · exact .inl ⟨D', q, e1, e2, e3, e4, e5, e6, e7, by omega, e9⟩
        · exact .inr (.inl ⟨D', q, L0, ss', e1, e2, e3, e4, e5, e6, by omega, e8⟩)
        · exact .inr (.inr ⟨D', q, j', o', e1, e2, e3, e4, e5, e6, e7, e8, e9, by omega, e11⟩))
      refine ⟨la, ss, hp, hnew, ?_⟩
      rw [show (opsAt (nth (bodyF F c.f) i)).size - D.length = ((opsAt (nth (bodyF F c.f) i)).size - (j :: D).length) + 1 by simp; omega]
      exact .step (L' := L2) h1 h4' htj h2 h3 (by omega) h4 h7 hrf hlk h11
    simp only [go] at h
    split at h
    · rename_i hall
      have drw : ((opsAt (nth (bodyF F c.f) i)).toList.any isAlloc || !(strictR E (opsAt (nth (bodyF F c.f) i)))) = false → go P F T E N Fn m { c with L := L } (.drw i (!((opsAt (nth (bodyF F c.f) i)).any fun o => isApp o.op)) false D) = some r → ∃ la ss, PlanOk T (opsAt (nth (bodyF F c.f) i)) (ntm F c.f) c.H la ss ∧ (∀ s ∈ ss, c.H.length ≤ s.j) ∧ TRun P E (opsAt (nth (bodyF F c.f) i)) (ntm F c.f) c.H (!(strictR E (opsAt (nth (bodyF F c.f) i)))) (fun _ _ _ => False) (finT P F T E N Fn r c i la ss (m + 1)) ((opsAt (nth (bodyF F c.f) i)).size - D.length) (mkL (opsAt (nth (bodyF F c.f) i)).size D) L := fun hna h => by
        simp only [Bool.or_eq_false_iff, Bool.not_eq_false'] at hna
        exact ⟨[], [], ⟨List.Pairwise.nil, fun a ha => (by cases ha), fun s hs => (by cases hs), List.Pairwise.nil⟩, fun s hs => (by cases hs), .done hall (.inl ⟨D, m, hna.2, hna.1, rfl, rfl, rfl, by omega, fun j hj o ho => (nostore j hj o ho).1, by omega, h⟩)⟩
      split at h
      · rename_i j hcf
        split at h <;> try (cases h; done)
        rename_i o ho
        unfold callF at hcf
        split at hcf <;> try (cases hcf; done)
        rename_i j' hst hrd
        split at hcf <;> try (cases hcf; done)
        rename_i o' ho'
        split at hcf <;> try (cases hcf; done)
        rename_i x hq hin hble
        injection hcf with hcf
        subst hcf
        simp only [Bool.and_eq_true, Bool.not_eq_true'] at hst
        exact ⟨[], [], ⟨List.Pairwise.nil, fun a ha => (by cases ha), fun s hs => (by cases hs), List.Pairwise.nil⟩, fun s hs => (by cases hs), .done hall (.inr (.inr ⟨D, m, j', o, hst.1, hst.2, rfl, rfl, rfl, by have := Nat.le_of_ble_eq_true hble; omega, Nat.le_of_ble_eq_true hble, hrd, ho, by omega, h⟩))⟩
      split at h
      · split at h
        · rename_i L1 H1 C hals
          split at h <;> try (cases h; done)
          rename_i hble
          obtain ⟨la, ss, k1, k2, k3, k4, k5, k6, k7, k8⟩ := alsF_some hals
          subst k6 k7 k8
          have hp := plan_of k1 k2
          have fin : ∀ ss0, ((strictR E (opsAt (nth (bodyF F c.f) i)) = true ∧ ss0 = [] ∧ ∀ s ∈ ss, (mkL (opsAt (nth (bodyF F c.f) i)).size D).getD s.i true = false) ∨ (strictR E (opsAt (nth (bodyF F c.f) i)) = false ∧ ss0 = ss ∧ (∀ s ∈ ss, c.H.length ≤ s.j) ∧ ∀ k, k < (opsAt (nth (bodyF F c.f) i)).size → (mkL (opsAt (nth (bodyF F c.f) i)).size D).getD k true = true ∨ tamAt E (opsAt (nth (bodyF F c.f) i)) k = false)) → finT P F T E N Fn r c i la ss0 (m + 1) ((opsAt (nth (bodyF F c.f) i)).size - D.length) (mkL (opsAt (nth (bodyF F c.f) i)).size D) L := fun ss0 hs0 => .inr (.inl ⟨D, m, L, ss, k1, k2, k3, k4, hs0, Nat.le_of_ble_eq_true hble, by omega, h, by omega, fun _ h => h, fun _ h => .inl h, hlowL, fun t => by
            rw [alLf_nil fun a ha => ?_]
            obtain ⟨⟨o, ho, hal⟩, _⟩ := hp.la2 a ha
            exact mkL_notin' (fun hm => by rw [(nostore _ hm o ho).2] at hal; cases hal) (Array.getElem?_eq_some_iff.1 ho).1⟩)
          rcases k5 with k5 | ⟨k5, k6, k7⟩
          · refine ⟨la, [], ⟨hp.dis, hp.la2, fun s hs => (by cases hs), List.Pairwise.nil⟩, fun s hs => (by cases hs), .done hall (fin [] (.inl ⟨k5, rfl, fun s hs => ?_⟩))⟩
            obtain ⟨_, hu, _⟩ := (alS_fact k2).2.1 s hs
            exact hu
          · exact ⟨la, ss, hp, k6, .done hall (fin ss (.inr ⟨k5, rfl, k6, k7⟩))⟩
        · split at h <;> try (cases h; done)
          exact drw (by assumption) h
      · split at h <;> try (cases h; done)
        exact drw (by assumption) h
    · rename_i hall
      split at h <;> try (cases h; done)
      rename_i j hb hj
      have hb := Nat.le_of_ble_eq_true hb
      obtain ⟨g1, o', d, g2, gt, g3, g4, g5⟩ := pickT_ok hj
      split at h <;> try (cases h; done)
      rename_i o ho
      rw [ho] at g2
      injection g2 with g2
      subst g2
      rcases guarded_nat h with ⟨L1, k1, k2, k3⟩ | ⟨L1, k1, k2, k3⟩
      · rw [selS_congr (M := L) fun t _ => k1 t] at k2
        obtain ⟨s, q1, q2, q3⟩ := tq_step hT hE ho k3 k2
        split at q1 <;> try (cases q1; done)
        rename_i L2 hp hrf
        exact next g1 ho g3 g4 (g5.imp id (Or.imp q3 id)) gt hb k1 q2 hrf hp q1
      · split at k2 <;> try (cases k2; done)
        rename_i L2 hp
        exact next g1 ho g3 g4 (.inr (.inl (undef_pure k3))) gt hb k1 (undef_step ho k3) rfl hp k2
theorem pickE_ok {ops : Array Oper} {D : List Nat} : ∀ {rs : List Nat} {j : Nat}, pickE E ops D rs = some j → j ∈ rs ∧ ∃ o d, ops[j]? = some o ∧ isTam E o = true ∧ o.dst = some d ∧ Region.free .any ops (mkL ops.size D) j = true
  | [], _, h => by simp [pickE] at h
  | q :: rs, j, h => by
    simp only [pickE] at h
    split at h <;> try (cases h; done)
    rename_i o ho
    split at h
    · rename_i hb
      injection h with h
      subst h
      simp only [Bool.and_eq_true] at hb
      obtain ⟨d, hd⟩ := Option.isSome_iff_exists.1 hb.1.2
      exact ⟨by simp, o, d, ho, hb.1.1, hd, hb.2⟩
    · obtain ⟨h1, h2⟩ := pickE_ok h
      exact ⟨by simp [h1], h2⟩
/-- All that is left is tame. -/
theorem tal_run (hT : chkAll P T = true) (hE : EnvOk P E) {i : Nat} {c : Cfg} : ∀ (m : Nat) (D : List Nat) (L : SL), go P F T E N Fn m { c with L := L } (.tal i D) = some r → D.length ≤ (opsAt (nth (bodyF F c.f) i)).size →
    TRun P E (opsAt (nth (bodyF F c.f) i)) (ntm F c.f) c.H true (fun _ _ L => ∃ q, q < m ∧ go P F T E N Fn q { c with L := L } .nrm = some r) (fun _ _ _ => False) ((opsAt (nth (bodyF F c.f) i)).size - D.length) (mkL (opsAt (nth (bodyF F c.f) i)).size D) L := by
  intro m
  induction m with
  | zero => intro D L h; simp [go] at h
  | succ m ih =>
    intro D L h hlen
    have next : ∀ {j : Nat} {o : Oper} {d : Nat} {L1 L2 : SL} {s : SV}, j ∈ Region.ready .any (opsAt (nth (bodyF F c.f) i)) (mkL (opsAt (nth (bodyF F c.f) i)).size D) → (opsAt (nth (bodyF F c.f) i))[j]? = some o → o.dst = some d → Region.free .any (opsAt (nth (bodyF F c.f) i)) (mkL (opsAt (nth (bodyF F c.f) i)).size D) j = true → isTam E o = true → D.length + 1 ≤ (opsAt (nth (bodyF F c.f) i)).size →
        (∀ t, lookS L1 t = lookS L t) → StepF P c.H (opsAt (nth (bodyF F c.f) i)) (selS L (o.looksAt (opsAt (nth (bodyF F c.f) i)))) o j s → s.refsT c.H.length = true → putS (ntm F c.f) L1 o.dst s = some L2 → go P F T E N Fn m { c with L := L2 } (.tal i (j :: D)) = some r → TRun P E (opsAt (nth (bodyF F c.f) i)) (ntm F c.f) c.H true (fun _ _ L => ∃ q, q < m + 1 ∧ go P F T E N Fn q { c with L := L } .nrm = some r) (fun _ _ _ => False) ((opsAt (nth (bodyF F c.f) i)).size - D.length) (mkL (opsAt (nth (bodyF F c.f) i)).size D) L := by
      intro j o d L1 L2 s h1 h2 h3 h4 h4'' h5 h6 h7 hrf h8 h9
      have htj : tamAt E (opsAt (nth (bodyF F c.f) i)) j = true := by unfold tamAt; rw [h2]; exact h4''
      rw [h3] at h8
      simp only [putS] at h8
      split at h8 <;> try (cases h8; done)
      rename_i hd
      have hd := Nat.le_of_ble_eq_true hd
      injection h8 with h8
      have hlk : ∀ t, lookS L2 t = if t = d then some s else lookS L t := fun t => by rw [← h8, lookS_put, h6 t]
      have h11 := (ih (j :: D) L2 h9 (by simpa using h5)).mono (Stp' := fun _ _ L => ∃ q, q < m + 1 ∧ go P F T E N Fn q { c with L := L } .nrm = some r) (Fin' := fun _ _ _ => False) (fun _ _ _ ⟨q, h1, h2⟩ => ⟨q, by omega, h2⟩) (fun _ _ _ h => h)
      rw [show (opsAt (nth (bodyF F c.f) i)).size - D.length = ((opsAt (nth (bodyF F c.f) i)).size - (j :: D).length) + 1 by simp; omega]
      exact .step (L' := L2) h1 (.inr (.inr rfl)) htj h2 h3 (by omega) h4 h7 hrf hlk h11
    simp only [go] at h
    split at h
    · rename_i hrd
      exact .stop hrd ⟨m, by omega, h⟩
    · rename_i rs hrd
      split at h <;> try (cases h; done)
      rename_i j hb hj
      have hb := Nat.le_of_ble_eq_true hb
      obtain ⟨g1, o', d, g2, gt, g3, g4⟩ := pickE_ok hj
      split at h <;> try (cases h; done)
      rename_i o ho
      rw [ho] at g2
      injection g2 with g2
      subst g2
      rcases guarded_nat h with ⟨L1, k1, k2, k3⟩ | ⟨L1, k1, k2, k3⟩
      · rw [selS_congr (M := L) fun t _ => k1 t] at k2
        obtain ⟨s, q1, q2, q3⟩ := tq_step hT hE ho k3 k2
        split at q1 <;> try (cases q1; done)
        rename_i L2 hp hrf
        exact next g1 ho g3 g4 gt hb k1 q2 hrf hp q1
      · split at k2 <;> try (cases k2; done)
        rename_i L2 hp
        exact next g1 ho g3 g4 gt hb k1 (undef_step ho k3) rfl hp k2
theorem wpG_st {P : Program} {ops : Array Oper} {Q : Exit → Act → World → Prop} {S0 S1 : World → Prop} : ∀ (n : Nat) (l : Array Bool) (a : Act) (w : World), storeDone ops l → wpG P ops Q S1 n l a w → wpG P ops Q S0 n l a w
  | 0, _, _, _, _, h => h
  | n + 1, _, _, _, hs, h => ⟨h.1, fun i hi => wpOp_mono (fun _ _ h' => ⟨.inl (hs.set i), wpG_st n _ _ _ (hs.set i) h'.2⟩) (h.2 i hi)⟩
end
end Go.Proofs.YtcaiedfkohigjaaGreat
/- The pure machine is sound: the induction. -/
namespace Go.Proofs.YtcaiedfkohigjaaGreat
open Go.RowKit
theorem at_draw2 {P : Program} {fn : Func} {R : Ending → World → Prop} {B : Code} {K : List KI} {i : Nat} {a : Act} {w : World} (S : World → Prop) {id : Nat} (hm : P.follows .mixedOrders = true) (hc : nth B i = .region id (opsAt (nth B i)) true) (h : AtG P fn R B K i S (opsAt (nth B i)).size [] a w.drew) : At P fn R B K i a w := by
  unfold At; rw [hc]
  refine wp_region_any hm (any_of_G (S0 := S) _ _ _ _ ?_)
  simpa [AtG, mkL, opsAt] using h
theorem mkL_notin {n s : Nat} : ∀ {D : List Nat}, s ∉ D → s < n → (mkL n D).getD s true = false
  | [], _, h => by simp [mkL, h]
  | j :: D, hn, h => by
    have h1 : s ≠ j := fun e => hn (by simp [e])
    rw [mkL, getD_set_ne true (Ne.symm h1)]
    exact mkL_notin (fun hm => hn (by simp [hm])) h
theorem no_store_nil {ops : Array Oper} : ¬ storeDone ops (mkL ops.size []) := by
  rintro ⟨s, os, h1, _, h3⟩
  have hlt := (Array.getElem?_eq_some_iff.1 h1).1
  simp [mkL, hlt] at h3
section
variable {Z : Nat → Prop} {w0 : World} {F : FT} {P : Program} {T : TT} {E : Env} {N : NT} {Fin : Nat → Cfg → Option (List RV)} {Rt : Ending → World → Prop} {r : List RV}
set_option maxHeartbeats 2000000 in
theorem go_sound (hT : chkAll P T = true) (hE : EnvOk P E) (hI : inv w0) (hF : ∀ f fn, lookF F f = some fn → P.funcs[f]? = some fn) (hm : P.follows .mixedOrders = true)
    (hRt : ∀ vs H G w ss tys, outR T H ss tys = some r → SR Z w0 H G w → all2 (Rel G (Av Z H G) w) ss vs → Rt (.returned (bundle vs)) w)
    (hFin : ∀ i c G w a ats fn, Fin i c = some r → CR Z F w0 c G w a ats → lookF F c.f = some fn → InLoop P (nth (bodyF F c.f) (i + 1)) (cont P fn (RetR P F Rt c.fs ats) (bodyF F c.f) (toKI P fn (RetR P F Rt c.fs ats) (bodyF F c.f) c.K)) a w) :
    ∀ (m : Nat) (c : Cfg) (p : Pos), go P F T E N Fin m c p = some r → ∀ G w a ats fn, CR Z F w0 c G w a ats → lookF F c.f = some fn → PosOk P F Rt c fn G w a ats p := by
  have headOk : ∀ i c, head N Fin i c = some r → ∀ G w a ats fn, CR Z F w0 c G w a ats → lookF F c.f = some fn → InLoop P (nth (bodyF F c.f) (i + 1)) (cont P fn (RetR P F Rt c.fs ats) (bodyF F c.f) (toKI P fn (RetR P F Rt c.fs ats) (bodyF F c.f) c.K)) a w := by
    intro i c h G w a ats fn hc hfn
    unfold head at h
    split at h
    · split at h <;> try (cases h; done)
      rename_i c' hn
      obtain ⟨G', k1, k2, k3, k4⟩ := norm_ok hn hc
      have := hFin i c' G' w a ats fn h k1 (by rw [k2]; exact hfn)
      rw [k2, k3, k4] at this
      exact this
    · exact hFin i c G w a ats fn h hc hfn
  intro m
  induction m using Nat.strongRecOn with
  | ind m0 ihs =>
  cases m0 with
  | zero => intro c p h; simp [go] at h
  | succ m =>
    have ih := ihs m (Nat.lt_succ_self m)
    intro c p h G w a ats fn hc hfn
    have h0 := h
    simp only [go] at h
    split at h
    · -- nrm
      split at h
      · rename_i hK
        have := ih _ _ h G w a ats fn hc hfn
        simp only [PosOk] at this ⊢
        rw [hK]
        exact this
      · rename_i j K hK
        have := ih _ _ h G w a ats fn ⟨hc.sr, hc.fr, hc.fl, hc.frs⟩ hfn
        simp only [PosOk] at this ⊢
        rw [hK]
        exact this
      · rename_i id K hK
        have := ih _ _ h G w a ats fn ⟨hc.sr, hc.fr, hc.fl, hc.frs⟩ hfn
        simp only [PosOk] at this ⊢
        rw [hK]
        exact this
      · rename_i i K hK
        have := headOk i { c with K := K } h G w a ats fn ⟨hc.sr, hc.fr, hc.fl, hc.frs⟩ hfn
        simp only [PosOk]
        rw [hK]
        exact this
    · -- node
      rename_i i
      simp only [PosOk]
      split at h
      · rename_i hn
        exact at_skip hn (ih _ _ h G w a ats fn hc hfn)
      · rename_i x y hn
        have := ih _ _ h G w a ats fn ⟨hc.sr, hc.fr, hc.fl, hc.frs⟩ hfn
        exact at_seq (kid_seq hn) this
      · rename_i id x hn
        have := ih _ _ h G w a ats fn ⟨hc.sr, hc.fr, hc.fl, hc.frs⟩ hfn
        exact at_block (kid_block hn) this
      · rename_i id hn
        split at h <;> try (cases h; done)
        rename_i K hK
        have := ih _ _ h G w a ats fn ⟨hc.sr, hc.fr, hc.fl, hc.frs⟩ hfn
        exact at_exit hn (wayE_ok (wayJ_ok hK) this)
      · rename_i hn
        exact at_ret hn (ih _ _ h G w a ats fn hc hfn)
      · rename_i x p q hn
        split at h <;> try (cases h; done)
        rename_i b hb
        have hv := rel_bool (opS_rel hc.fr hb)
        unfold At
        rw [kid_cond hn]
        split at h
        · exact wp_cond_true hv (ih _ _ h G w a ats fn hc hfn)
        · exact wp_cond_false hv (ih _ _ h G w a ats fn hc hfn)
      · rename_i x hn
        unfold At
        rw [kid_loop hn]
        exact (headOk i c h G w a ats fn hc hfn).wp
      · rename_i id ops hn
        have := ih _ _ h G w a ats fn hc hfn
        exact at_region (id := id) (by rw [hn]; rfl) this
      · rename_i id ops hn
        split at h <;> try (cases h; done)
        rename_i hns
        have hops : opsAt (nth (bodyF F c.f) i) = ops := by rw [hn]; rfl
        have hb : Below w.heap.size w w.drew := (Below.refl _ _).drew
        have hsg := step_grow hc.sr hb
        have hev : Ev Z c.fl c.H G w c.H G w.drew := fun s v hs _ => rel_new hc.sr hsg hs
        have hcr : CR Z F w0 c G w.drew a ats := ⟨sr_grow hc.sr hb, hc.fr.keep fun s v hs => rel_new hc.sr hsg hs, hc.fl, hc.frs.ev hev (Nat.le_refl _)⟩
        split at h
        · refine at_draw2 (fun _ => True) hm (id := id) (by rw [hn]; rfl) ?_
          exact ih _ _ h G w.drew a ats fn hcr hfn rfl (by rw [hops]; exact hns)
        refine at_draw2 (Agr (!(ops.any fun o => isApp o.op)) c.H G w.drew) hm (id := id) (by rw [hn]; rfl) ?_
        exact ih _ _ h G w.drew a ats fn hcr hfn c.H G w.drew (.inr ⟨Agr.refl, fun _ _ hx => hx, fun _ => ⟨rfl, rfl, rfl⟩, no_store_nil⟩) clo_nil (by rw [hops]; exact hns) _ (by simp)
      · cases h
    · -- ops
      rename_i i k
      simp only [PosOk]
      split at h
      · rename_i hk
        exact atR_nil hk (ih _ _ h G w a ats fn hc hfn)
      · rename_i o hk
        rcases guarded_ok hc.fr h with ⟨L1, h1, hf1, hw⟩ | ⟨L1, h1, hf1, hw⟩
        · refine atR_yes hk hw ?_
          split at h1
          · obtain ⟨s, v, h2, h3, h4⟩ := qop_sound hT hc.sr hf1 h1
            split at h2 <;> try (cases h2; done)
            rename_i L2 hp
            rw [h4 w (fun _ => Agr.refl)]
            exact ih _ _ h2 G w (a.put o.dst v) ats fn ⟨hc.sr, hf1.put hp h3, hc.fl, hc.frs⟩ hfn
          · split at h1
            · rename_i g ss hin
              obtain ⟨f, args, tys, fg, caps, e1, e2, e3, e4, e5, e6, e7⟩ := into_ok hf1 hin
              have hcl : callable P g = true := by unfold callable; rw [hF g fg e2]; simp only [e6, e7, Bool.and_self]
              rw [run_call hcl a.eval o f args tys caps e1 e3 w]
              obtain ⟨B, hB⟩ := Option.isSome_iff_exists.1 e7
              have hbf : bodyF F g = B := by simp [bodyF, e2, hB]
              have hcal : Calls P g (args.map a.eval ++ caps) w (RetR P F Rt ({ f := c.f, K := c.K, i := i, k := k, L := cutF N c.f i L1, fl := c.fl } :: c.fs) (a :: ats)) := by
                have hto : args.map a.eval ++ caps = (args.map a.eval ++ caps).toList.toArray := by simp
                rw [hto]
                refine enter (hF g fg e2) hB (Nat.ble_eq_true_of_le (by rw [← all2_len e4]; exact e5)) fun a2 hst => ?_
                have := ih _ _ h1 G w a2 (a :: ats) fg ⟨hc.sr, ⟨hst.defers, by rw [hst.size]; simp [ntm, e2], argsL_rel e4 hst.slot⟩, Nat.le_refl _, ⟨⟨hf1.defers, hf1.size, fun t s hs => hf1.slot t s (cutF_look hs)⟩, fun t s hs => by obtain ⟨v, _, hv⟩ := hf1.slot t s (cutF_look hs); exact rel_refsT hc.sr hv, ⟨hc.fl, ⟨fn, hfn⟩, fun D hD => by cases hD⟩, hc.frs⟩⟩ e2
                simp only [PosOk, toKI] at this
                rw [hbf] at this
                exact this
              refine Calls.mono hcal ?_
              rintro e w' ⟨v, rfl, fn', o', q1, q2, q3, _⟩
              have q3 := q3 rfl
              simp only at q1 q2 q3
              rw [hfn] at q1
              injection q1 with q1
              subst q1
              rw [hk] at q2
              injection q2 with q2
              subst q2
              exact q3
            · refine eop_sound hT hE hI hc.sr hf1 h1 fun s H' L2 G' w' v h2 h3 h4 h5 h6 => ?_
              split at h2 <;> try (cases h2; done)
              rename_i L3 hp
              exact ih _ _ h2 G' w' (a.put o.dst v) ats fn ⟨h3, h4.put hp h5, Nat.le_trans hc.fl h6.len, hc.frs.evF h6.pres (Nat.le_refl _)⟩ hfn
        · refine atR_no hk hw ?_
          split at h1 <;> try (cases h1; done)
          rename_i L2 hp
          exact ih _ _ h1 G w (a.put o.dst undef) ats fn ⟨hc.sr, hf1.put hp rfl, hc.fl, hc.frs⟩ hfn
    · -- drw
      rename_i i rw eff D
      simp only [PosOk]
      intro Hs Gs ws hinv hclo hns m' hm'
      split at h
      · exact ih _ _ h G w a ats fn hc hfn (Agr rw Hs Gs ws) (fun w w' hw ho => ⟨Nat.le_trans hw.1 ho.1, fun b hb hor => (ho.2 b (Nat.lt_of_lt_of_le hb hw.1)).trans (hw.2 b hb hor)⟩) (hinv.elim (fun h => .inl h.1) (fun h => .inr h.1)) hclo hns m' hm'
      split at h
      · rename_i hrd
        exact wpG_done hrd (ih _ _ h G w a ats fn hc hfn) _
      · rename_i rs hrd
        split at h <;> try (cases h; done)
        rename_i hlen
        have hlen := Nat.le_of_ble_eq_true hlen
        obtain ⟨m'', rfl⟩ : ∃ m'', m' = m'' + 1 := ⟨m' - 1, by omega⟩
        have hsst : Sst (opsAt (nth (bodyF F c.f) i)) (Agr rw Hs Gs ws) (mkL (opsAt (nth (bodyF F c.f) i)).size D) w := hinv.elim (fun h => .inl h.1) (fun h => .inr h.1)
        split at h
        · rename_i j hj
          obtain ⟨j1, o, j2, j3, j4, j5, j6⟩ := pickQ_ok hj
          rw [j2] at h
          dsimp only at h
          have hns1 : isStore o.op = false := by
            cases hop : o.op <;> first | rfl | (rw [hop] at j3; cases j3)
          have hclo' : Clo (opsAt (nth (bodyF F c.f) i)) (mkL (opsAt (nth (bodyF F c.f) i)).size (j :: D)) := hclo.set j1
          have hinv' : (storeDone (opsAt (nth (bodyF F c.f) i)) (mkL (opsAt (nth (bodyF F c.f) i)).size (j :: D)) ∧ eff = true) ∨ (Agr rw Hs Gs ws w ∧ (∀ b, b < ws.heap.size → RowsB c.H G b → RowsB Hs Gs b) ∧ (eff = false → c.H = Hs ∧ G = Gs ∧ w = ws) ∧ ¬ storeDone (opsAt (nth (bodyF F c.f) i)) (mkL (opsAt (nth (bodyF F c.f) i)).size (j :: D))) :=
            hinv.elim (fun h => .inl ⟨h.1.set j, h.2⟩) fun h => .inr ⟨h.1, h.2.1, h.2.2.1, fun h' => h.2.2.2 (h'.unset j2 hns1)⟩
          have take : ∀ {v : Value}, YieldsIf P (opsAt (nth (bodyF F c.f) i)) (fun w' => isLoad o.op = true → Agr rw Hs Gs ws w') o v a → AtG P fn (RetR P F Rt c.fs ats) (bodyF F c.f) (toKI P fn (RetR P F Rt c.fs ats) (bodyF F c.f) c.K) i (Agr rw Hs Gs ws) m'' (j :: D) (a.put o.dst v) w → AtG P fn (RetR P F Rt c.fs ats) (bodyF F c.f) (toKI P fn (RetR P F Rt c.fs ats) (bodyF F c.f) c.K) i (Agr rw Hs Gs ws) (m'' + 1) D a w := by
            intro v hy hk
            cases hl : isLoad o.op with
            | true =>
              obtain ⟨he, haw⟩ := j4 hl
              obtain ⟨hagr, _, _, hun⟩ := hinv.resolve_left (fun h => by rw [he] at h; cases h.2)
              have hy' : YieldsIf P (opsAt (nth (bodyF F c.f) i)) (Agr rw Hs Gs ws) o v a := hy.imp (fun h => ⟨h.1, fun w' hS => h.2 w' fun _ => hS⟩) id
              exact wpG_first j2 (Region.noSelect_spec hns) (fun cc a w hq => PQ_cont _ cc a _ _ w hq) hns1 haw m'' _ a w (Region.free_spec j2 j6) hclo hun j1 hy' hagr hk
            | false =>
              have hy' : YieldsIf P (opsAt (nth (bodyF F c.f) i)) (fun _ => True) o v a := hy.imp (fun h => ⟨h.1, fun w' _ => h.2 w' fun h' => by rw [hl] at h'; cases h'⟩) id
              exact wpG_pure j2 (Region.noSelect_spec hns) (fun cc a w hq => PQ_cont _ cc a _ _ w hq) hns1 m'' _ a w (Region.free_spec j2 j6) j1 hy' hsst hk
          rcases guarded_ok hc.fr h with ⟨L1, h1, hf1, hw⟩ | ⟨L1, h1, hf1, hw⟩
          · obtain ⟨s, v, h2, h3, h4⟩ := qop_sound hT hc.sr hf1 h1
            split at h2 <;> try (cases h2; done)
            rename_i L2 hp
            refine take (v := v) (.inl ⟨hw, fun w' hS => h4 w' fun hl => ?_⟩) ?_
            · obtain ⟨he, _⟩ := j4 hl
              obtain ⟨_, _, heff, _⟩ := hinv.resolve_left (fun h => by rw [he] at h; cases h.2)
              obtain ⟨e1, e2, e3⟩ := heff he
              rw [e1, e2, e3]
              exact hS hl
            · exact ih _ _ h2 G w (a.put o.dst v) ats fn ⟨hc.sr, hf1.put hp h3, hc.fl, hc.frs⟩ hfn Hs Gs ws hinv' hclo' hns m'' (by simp; omega)
          · split at h1 <;> try (cases h1; done)
            rename_i L2 hp
            refine take (v := undef) (.inr ⟨hw, rfl⟩) ?_
            exact ih _ _ h1 G w (a.put o.dst undef) ats fn ⟨hc.sr, hf1.put hp rfl, hc.fl, hc.frs⟩ hfn Hs Gs ws hinv' hclo' hns m'' (by simp; omega)
        · refine wpG_all (rs := Region.ready .any (opsAt (nth (bodyF F c.f) i)) (mkL (opsAt (nth (bodyF F c.f) i)).size D)) rfl (by assumption) fun k hk => ?_
          have h := allR_some h k hk
          split at h <;> try (cases h; done)
          rename_i o j2
          have hclo' : Clo (opsAt (nth (bodyF F c.f) i)) (mkL (opsAt (nth (bodyF F c.f) i)).size (k :: D)) := hclo.set hk
          have hsst' : Sst (opsAt (nth (bodyF F c.f) i)) (Agr rw Hs Gs ws) (mkL (opsAt (nth (bodyF F c.f) i)).size (k :: D)) w := hsst.set k
          have sdone : isStore o.op = true → storeDone (opsAt (nth (bodyF F c.f) i)) (mkL (opsAt (nth (bodyF F c.f) i)).size (k :: D)) := fun h => ⟨k, o, j2, h, getD_set_self _ _⟩
          have hinv' : isStore o.op = false → (storeDone (opsAt (nth (bodyF F c.f) i)) (mkL (opsAt (nth (bodyF F c.f) i)).size (k :: D)) ∧ eff = true) ∨ (Agr rw Hs Gs ws w ∧ (∀ b, b < ws.heap.size → RowsB c.H G b → RowsB Hs Gs b) ∧ (eff = false → c.H = Hs ∧ G = Gs ∧ w = ws) ∧ ¬ storeDone (opsAt (nth (bodyF F c.f) i)) (mkL (opsAt (nth (bodyF F c.f) i)).size (k :: D))) :=
            fun hns1 => hinv.elim (fun h => .inl ⟨h.1.set k, h.2⟩) fun h => .inr ⟨h.1, h.2.1, h.2.2.1, fun h' => h.2.2.2 (h'.unset j2 hns1)⟩
          unfold wpOp
          simp only [j2]
          rcases guarded_ok hc.fr h with ⟨L1, h1, hf1, hw⟩ | ⟨L1, h1, hf1, hw⟩
          · rw [if_pos hw]
            refine .inl ?_
            unfold Oper.wp
            split at h1
            · rename_i hq
              have hns1 : isStore o.op = false := by
                cases hop : o.op <;> first | rfl | (rw [hop] at hq; cases hq)
              obtain ⟨s, v, h2, h3, h4⟩ := qop_sound hT hc.sr hf1 h1
              split at h2 <;> try (cases h2; done)
              rename_i L2 hp
              rw [h4 w (fun _ => Agr.refl)]
              exact ⟨hsst', ih _ _ h2 G w (a.put o.dst v) ats fn ⟨hc.sr, hf1.put hp h3, hc.fl, hc.frs⟩ hfn Hs Gs ws (hinv' hns1) hclo' hns m'' (by simp; omega)⟩
            · split at h1 <;> try (cases h1; done)
              rename_i hcond
              simp only [Bool.or_eq_false_iff] at hcond
              obtain ⟨hst1, hst2⟩ := hcond
              simp only [Bool.and_eq_false_iff] at hst2
              refine eop_sound hT hE hI hc.sr hf1 h1 fun s H' L2 G' w' v h2 h3 h4 h5 h6 => ?_
              split at h2 <;> try (cases h2; done)
              rename_i L3 hp
              have hcr : CR Z F w0 { c with L := L3, H := H' } G' w' (a.put o.dst v) ats := ⟨h3, h4.put hp h5, Nat.le_trans hc.fl h6.len, hc.frs.evF h6.pres (Nat.le_refl _)⟩
              cases hiss : isStore o.op with
              | true => exact ⟨.inl (sdone hiss), ih _ _ h2 G' w' (a.put o.dst v) ats fn hcr hfn Hs Gs ws (.inl ⟨sdone hiss, rfl⟩) hclo' hns m'' (by simp; omega)⟩
              | false =>
                rcases hinv with hinv | ⟨hagr, hrows, heff, hun⟩
                · exact ⟨.inl (hinv.1.set k), ih _ _ h2 G' w' (a.put o.dst v) ats fn hcr hfn Hs Gs ws (.inl ⟨hinv.1.set k, rfl⟩) hclo' hns m'' (by simp; omega)⟩
                · have hag := h6.agr.resolve_left (by rw [hiss, hst1]; simp)
                  have hagr' : Agr rw Hs Gs ws w' := by
                    refine ⟨Nat.le_trans hagr.1 hag.1.1, fun b hb hor => ?_⟩
                    rw [← hagr.2 b hb hor]
                    refine hag.1.2 b (Nat.lt_of_lt_of_le hb hagr.1) ?_
                    rcases hst2 with h7 | h7
                    · left; rw [h7]; rfl
                    · right
                      rcases hor with hor | hor
                      · rw [h7] at hor; cases hor
                      · exact fun hx => hor (hrows b hb hx)
                  exact ⟨.inr hagr', ih _ _ h2 G' w' (a.put o.dst v) ats fn hcr hfn Hs Gs ws (.inr ⟨hagr', fun b hb hx => hrows b hb (hag.2 b (Nat.lt_of_lt_of_le hb hagr.1) hx), (fun e => by cases e), fun h' => hun (h'.unset j2 hiss)⟩) hclo' hns m'' (by simp; omega)⟩
          · rw [if_neg (by rw [hw]; simp)]
            split at h1 <;> try (cases h1; done)
            rename_i L2 hp
            refine ⟨hsst', ih _ _ h1 G w (a.put o.dst undef) ats fn ⟨hc.sr, hf1.put hp rfl, hc.fl, hc.frs⟩ hfn Hs Gs ws ?_ hclo' hns m'' (by simp; omega)⟩
            cases hiss : isStore o.op with
            | true => exact .inl ⟨sdone hiss, by simp⟩
            | false => simpa using hinv' hiss
    · -- tam
      rename_i i D
      clear h
      simp only [PosOk]
      intro hD0 hns
      subst hD0
      have hlow : ∀ t s, lookS c.L t = some s → s.refsT c.H.length = true := fun t s hs => by
        obtain ⟨v, _, hv⟩ := hc.fr.slot t s hs
        exact rel_refsT hc.sr hv
      obtain ⟨la, ss, hp, hnew, hrun⟩ := tam_run hT hE (c := c) (m + 1) [] c.L h0 (by rw [cu_nil]; rfl) (fun j hj => by cases hj) hlow clo_nil
      obtain ⟨G1, g1, g2, g3⟩ := sr_gones (dn (mkL (opsAt (nth (bodyF F c.f) i)).size [])) (la := la) (fun x hx => by
        obtain ⟨⟨o, ho, _⟩, _⟩ := hp.la2 x hx
        exact mkL_notin' (by simp) (Array.getElem?_eq_some_iff.1 ho).1) hc.sr hc.fr
      have hst0 : stHf (dn (mkL (opsAt (nth (bodyF F c.f) i)).size [])) ss (c.H ++ alX (dn (mkL (opsAt (nth (bodyF F c.f) i)).size [])) la) = c.H ++ alX (dn (mkL (opsAt (nth (bodyF F c.f) i)).size [])) la := stHf_none fun s hs => by
        obtain ⟨⟨o, ho, _⟩, _⟩ := hp.ss1 s hs
        exact mkL_notin' (by simp) (Array.getElem?_eq_some_iff.1 ho).1
      refine TRun.sound (T := T) (S0 := fun _ => True) (fun _ _ h _ => h) (fun _ _ => trivial) (fl := c.fl) (X := fun H G w => FrsOk Z F H G w c.fl c.fs ats) hT hE hI (Region.noSelect_spec hns) (PQ_cont _) finT_alloc finT_store hp hnew (lowH_of hc.sr) hc.fl (fun H G w H' G' w' hx hp => hx.ev hp (Nat.le_refl _)) (fun n l L G w a hf ho hcl hsz hL k1 k2 k3 => ?_) _ _ _ hrun clo_nil (by rw [mkL_size]) (fun t s hs => .inl (hlow t s hs)) G1 w a (by rw [hst0]; exact g1) (by rw [hst0]; exact g2) (by rw [hst0]; exact hc.frs.ev (fun s v h _ => g3 s v h) (Nat.le_refl _)) trivial
      rcases hf.resolve_right (fun h => h.1) with ⟨D', q, _, e1, rfl, rfl, rfl, e2, e3, e4, e5⟩ | ⟨D', q, L0, ss', q1, q2, q3, qW, qS, eC, e2, e3, e4, e5, e6, e7, e8⟩ | ⟨D', q, j, o, _, _, rfl, rfl, rfl, e2, e2', hrd, ho1, e4, e5⟩
      · rw [show stHf (dn (mkL (opsAt (nth (bodyF F c.f) i)).size D')) [] (c.H ++ alX (dn (mkL (opsAt (nth (bodyF F c.f) i)).size D')) []) = c.H from List.append_nil _] at k1 k2 k3
        refine wpG_weak _ _ _ _ (ihs q (by omega) _ _ e5 G w a ats fn ⟨k1, k2, hc.fl, k3⟩ hfn c.H G w (.inr ⟨Agr.refl, fun _ _ hx => hx, fun _ => ⟨rfl, rfl, rfl⟩, ?_⟩) hcl hns n e2)
        rintro ⟨s, os, h1, h2, h3⟩
        have hlt := (Array.getElem?_eq_some_iff.1 h1).1
        have : s ∈ D' := by
          apply Classical.byContradiction
          intro hn
          rw [mkL_notin hn hlt] at h3
          cases h3
        have := e3 s this os h1
        rw [h2] at this
        cases this
      · have hst : stHf (dn l) ss (c.H ++ alX (dn l) la) = stHf (dn l) ss' (c.H ++ alX (dn l) la) := by
          rcases qS with ⟨_, rfl, h⟩ | ⟨_, rfl, _⟩
          · exact (stHf_none (ss := ss') h).symm
          · rfl
        rw [hst] at k1 k2 k3
        refine als_run (fl := c.fl) (X := fun H G w => FrsOk Z F H G w c.fl c.fs ats) hT hE hI q1 q2 q3 qW (lowH_of hc.sr) e7 hc.fl (by rw [mkL_size]) (fun H G w H' G' w' hx hp => hx.ev hp (Nat.le_refl _)) (fun n l G w a r1 r2 r3 r4 r5 r6 u1 u2 u3 => ?_) n l e4 hsz e5 e6 hcl G w a k1 (k2.eqv e8) k3
        have hl : l = mkL (opsAt (nth (bodyF F c.f) i)).size ((la.map (·.i) ++ ss'.map (·.i)) ++ D') := by
          refine Array.ext (by rw [r2, mkL_size]) fun k h1 h2 => ?_
          rw [show l[k] = l.getD k true by simp [h1], show (mkL (opsAt (nth (bodyF F c.f) i)).size ((la.map (·.i) ++ ss'.map (·.i)) ++ D'))[k] = (mkL (opsAt (nth (bodyF F c.f) i)).size ((la.map (·.i) ++ ss'.map (·.i)) ++ D')).getD k true by rw [Array.getD_eq_getD_getElem?, Array.getElem?_eq_getElem h2]; rfl]
          by_cases hm : k ∈ (la.map (·.i) ++ ss'.map (·.i)) ++ D'
          · rw [mkL_in hm]
            rcases List.mem_append.1 hm with hm | hm
            · exact r4 k hm
            · have := r3 k (by rw [getD_tf (by rw [mkL_size, ← r2]; exact h1)]; exact mkL_in hm)
              rw [getD_tf h1] at this; exact this
          · rw [mkL_notin' hm (by rw [← r2]; exact h1)]
            cases hq : l.getD k true with
            | false => rfl
            | true =>
              exfalso
              rw [List.mem_append, not_or] at hm
              rcases r5 k hq with h | h
              · rw [mkL_notin' hm.2 (by rw [← r2]; exact h1)] at h; cases h
              · exact hm.1 h
        subst hl
        have hcu := mkL_cu (opsAt (nth (bodyF F c.f) i)).size ((la.map (·.i) ++ ss'.map (·.i)) ++ D')
        refine wpG_more ((opsAt (nth (bodyF F c.f) i)).size - ((la.map (·.i) ++ ss'.map (·.i)) ++ D').length) n _ _ _ (by omega) (wpG_weak _ _ _ _ (ihs q (by omega) _ _ e3 G w a ats fn ⟨u1, u2, by rw [stHf_len, List.length_append]; exact Nat.le_trans hc.fl (Nat.le_add_right _ _), u3⟩ hfn (stHf (fun _ => true) ss' (c.H ++ alX (fun _ => true) la)) G w ?_ r6 hns ((opsAt (nth (bodyF F c.f) i)).size - ((la.map (·.i) ++ ss'.map (·.i)) ++ D').length) (Nat.sub_add_cancel eC)))
        by_cases hsd : storeDone (opsAt (nth (bodyF F c.f) i)) (mkL (opsAt (nth (bodyF F c.f) i)).size ((la.map (·.i) ++ ss'.map (·.i)) ++ D'))
        · exact .inl ⟨hsd, rfl⟩
        · exact .inr ⟨Agr.refl, fun _ _ hx => hx, fun e => (by cases e), hsd⟩
      · rw [show stHf (dn (mkL (opsAt (nth (bodyF F c.f) i)).size D')) [] (c.H ++ alX (dn (mkL (opsAt (nth (bodyF F c.f) i)).size D')) []) = c.H from List.append_nil _] at k1 k2 k3
        have hjr : j ∈ Region.ready .any (opsAt (nth (bodyF F c.f) i)) (mkL (opsAt (nth (bodyF F c.f) i)).size D') := by rw [hrd]; simp
        obtain ⟨n', rfl⟩ : ∃ n', n = n' + 1 := ⟨n - 1, by omega⟩
        have hn' : n' = (opsAt (nth (bodyF F c.f) i)).size - (j :: D').length := by simp; omega
        refine wpG_all hrd (by simp) fun k hk => ?_
        have hk : k = j := by simpa using hk
        subst hk
        unfold wpOp
        simp only [ho1]
        rcases guarded_ok k2 e5 with ⟨L1, h1, hf1, hw⟩ | ⟨L1, h1, hf1, hw⟩
        · rw [if_pos hw]
          refine .inl ?_
          unfold Oper.wp
          split at h1 <;> try (cases h1; done)
          rename_i g ss hin
          obtain ⟨f, args, tys, fg, caps, e1, e2, e3, e4, e5, e6, e7⟩ := into_ok hf1 hin
          have hcl2 : callable P g = true := by unfold callable; rw [hF g fg e2]; simp only [e6, e7, Bool.and_self]
          rw [run_call hcl2 a.eval o f args tys caps e1 e3 w]
          obtain ⟨B, hB⟩ := Option.isSome_iff_exists.1 e7
          have hbf : bodyF F g = B := by simp [bodyF, e2, hB]
          have hcal : Calls P g (args.map a.eval ++ caps) w (RetR P F Rt ({ f := c.f, K := c.K, i := i, k := k, L := cutF N c.f i L1, fl := c.fl, d := some (k :: D') } :: c.fs) (a :: ats)) := by
            have hto : args.map a.eval ++ caps = (args.map a.eval ++ caps).toList.toArray := by simp
            rw [hto]
            refine enter (hF g fg e2) hB (Nat.ble_eq_true_of_le (by rw [← all2_len e4]; exact e5)) fun a2 hst => ?_
            have := ihs q (by omega) _ _ h1 G w a2 (a :: ats) fg ⟨k1, ⟨hst.defers, by rw [hst.size]; simp [ntm, e2], argsL_rel e4 hst.slot⟩, Nat.le_refl _, ⟨⟨hf1.defers, hf1.size, fun t s hs => hf1.slot t s (cutF_look hs)⟩, fun t s hs => by obtain ⟨v, _, hv⟩ := hf1.slot t s (cutF_look hs); exact rel_refsT k1 hv, ⟨hc.fl, ⟨fn, hfn⟩, fun D hD => by
              injection hD with hD
              subst hD
              exact ⟨hcl.set hjr, hns, by simpa using e2'⟩⟩, k3⟩⟩ e2
            simp only [PosOk, toKI] at this
            rw [hbf] at this
            exact this
          refine Calls.mono hcal ?_
          rintro e w' ⟨v, rfl, fn', o', q1, q2, _, q3⟩
          have q3 := q3 _ rfl
          simp only at q1 q2 q3
          rw [hfn] at q1
          injection q1 with q1
          subst q1
          rw [ho1] at q2
          injection q2 with q2
          subst q2
          refine ⟨.inr trivial, ?_⟩
          rw [hn']
          exact q3
        · rw [if_neg (by rw [hw]; simp)]
          split at h1 <;> try (cases h1; done)
          rename_i L2 hp2
          refine ⟨.inr trivial, ?_⟩
          rw [hn']
          exact ihs q (by omega) _ _ h1 G w (a.put o.dst undef) ats fn ⟨k1, hf1.put hp2 rfl, hc.fl, k3⟩ hfn (fun _ => True) (fun _ _ _ _ => trivial) (.inr trivial) (hcl.set hjr) hns _ (Nat.sub_add_cancel (by simpa using e2'))
    · -- tal
      rename_i i D
      clear h
      simp only [PosOk]
      intro S0 hS0 hSt hclo hns m' hm'
      have hlow : ∀ t s, lookS c.L t = some s → s.refsT c.H.length = true := fun t s hs => by
        obtain ⟨v, _, hv⟩ := hc.fr.slot t s hs
        exact rel_refsT hc.sr hv
      have hrun := tal_run hT hE (c := c) (m + 1) D c.L h0 (by omega)
      have e : m' = (opsAt (nth (bodyF F c.f) i)).size - D.length := by omega
      subst e
      have key : ∀ S1 : World → Prop, (∀ w w', S1 w → Old w w' → S1 w') → S1 w → wpG P (opsAt (nth (bodyF F c.f) i)) (cont P fn (RetR P F Rt c.fs ats) (bodyF F c.f) (toKI P fn (RetR P F Rt c.fs ats) (bodyF F c.f) c.K)) S1 ((opsAt (nth (bodyF F c.f) i)).size - D.length) (mkL (opsAt (nth (bodyF F c.f) i)).size D) a w := fun S1 hS1 hw1 => by
        refine TRun.sound (T := T) (S0 := S1) (la := []) (ss := []) hS1 (fun h => (h rfl).elim) (fl := c.fl) (X := fun H G w => FrsOk Z F H G w c.fl c.fs ats) hT hE hI (Region.noSelect_spec hns) (PQ_cont _) (fun _ _ _ _ _ h => h.elim) (fun _ _ _ _ _ _ h => h.elim) (N := ntm F c.f) ⟨List.Pairwise.nil, fun a ha => (by cases ha), fun s hs => (by cases hs), List.Pairwise.nil⟩ (fun s hs => by cases hs) (lowH_of hc.sr) hc.fl (fun H G w H' G' w' hx hp => hx.ev hp (Nat.le_refl _)) (fun n l L G w a hf ho hcl hsz hL k1 k2 k3 => ?_) _ _ _ hrun hclo (by rw [mkL_size]) (fun t s hs => .inl (hlow t s hs)) G w a (by rw [show stHf (dn (mkL (opsAt (nth (bodyF F c.f) i)).size D)) [] (c.H ++ alX (dn (mkL (opsAt (nth (bodyF F c.f) i)).size D)) []) = c.H from List.append_nil _]; exact hc.sr) (by rw [show stHf (dn (mkL (opsAt (nth (bodyF F c.f) i)).size D)) [] (c.H ++ alX (dn (mkL (opsAt (nth (bodyF F c.f) i)).size D)) []) = c.H from List.append_nil _]; exact hc.fr) (by rw [show stHf (dn (mkL (opsAt (nth (bodyF F c.f) i)).size D)) [] (c.H ++ alX (dn (mkL (opsAt (nth (bodyF F c.f) i)).size D)) []) = c.H from List.append_nil _]; exact hc.frs) hw1
        rcases hf with h | ⟨⟨q, hq, hgo⟩, hrd⟩
        · exact h.elim
        · rw [show stHf (dn l) [] (c.H ++ alX (dn l) []) = c.H from List.append_nil _] at k1 k2 k3
          exact wpG_done hrd (ihs q (by omega) _ _ hgo G w a ats fn ⟨k1, k2, hc.fl, k3⟩ hfn) _
      rcases hSt with h | h
      · exact wpG_st _ _ _ _ h (key (fun _ => True) (fun _ _ _ _ => trivial) trivial)
      · exact key S0 hS0 h
    · -- ret
      simp only [PosOk]
      rw [hfn] at h
      dsimp only at h
      split at h <;> try (cases h; done)
      rename_i ss hss
      split at h
      · rename_i hfs
        rw [hfs]
        have hats : ats = [] := by
          have := hc.frs
          rw [hfs] at this
          cases ats with
          | nil => rfl
          | cons => exact this.elim
        subst hats
        exact ret_ok hT hc.sr hc.fr hss fun vs hvs => hRt vs _ _ _ _ _ h hc.sr hvs
      · rename_i fm fs hfs
        split at h <;> try (cases h; done)
        rename_i o ho
        split at h <;> try (cases h; done)
        rename_i L2 hp hgood
        have hfrs := hc.frs
        rw [hfs] at hfrs ⊢
        match ats, hfrs with
        | a0 :: ats, ⟨k1, k2, k3, k4⟩ =>
          obtain ⟨k3, ⟨fn', hfn'⟩, k5⟩ := k3
          refine ret_ok hT hc.sr hc.fr hss fun vs hvs => ⟨_, rfl, fn', o, hfn', ho, ?_⟩
          have hb := bndl_rel (fun s hs l e => by subst e; have := List.all_eq_true.1 hgood _ hs; simp [SV.good] at this) hvs
          split at h
          · rename_i hd
            exact ⟨fun _ => ih _ _ h G w (a0.put o.dst _) ats fn' ⟨hc.sr, k1.put hp hb, Nat.le_trans k3 hc.fl, k4⟩ hfn', fun D hD => (by rw [hd] at hD; cases hD)⟩
          · rename_i D hd
            refine ⟨fun hD => (by rw [hd] at hD; cases hD), fun D' hD => ?_⟩
            rw [hd] at hD
            injection hD with hD
            subst hD
            obtain ⟨d1, d2, d3⟩ := k5 D hd
            exact ih _ _ h G w (a0.put o.dst _) ats fn' ⟨hc.sr, k1.put hp hb, Nat.le_trans k3 hc.fl, k4⟩ hfn' (fun _ => True) (fun _ _ _ _ => trivial) (.inr trivial) d1 d2 _ (Nat.sub_add_cancel d3)
end
end Go.Proofs.YtcaiedfkohigjaaGreat
/- What the pure machine computes is what a call returns. -/
namespace Go.Proofs.YtcaiedfkohigjaaGreat
open Go.RowKit
/-- All that is given for a seat. -/
structure Ctx where
  P : Program
  F : FT
  T : TT
  E : Env
  N : NT
structure Ctx.Ok (C : Ctx) : Prop where
  T : chkAll C.P C.T = true
  E : EnvOk C.P C.E
  F : ∀ f fn, lookF C.F f = some fn → C.P.funcs[f]? = some fn
  m : C.P.follows .mixedOrders = true
noncomputable def Ctx.k (C : Ctx) (n : Nat) : Nat → Cfg → Option (List RV) := run C.P C.F C.T C.E C.N n
/-- From a loop's head on. -/
def Ctx.Runs (C : Ctx) (i : Nat) (c : Cfg) (r : List RV) : Prop := ∃ n, C.k n i c = some r
/-- From a loop's head on, however long one waits. -/
def Ctx.RunsE (C : Ctx) (i : Nat) (c : Cfg) (r : List RV) : Prop := ∃ n0, ∀ n, n0 ≤ n → C.k n i c = some r
theorem Ctx.RunsE.runs {C : Ctx} {i : Nat} {c : Cfg} {r : List RV} (h : C.RunsE i c r) : C.Runs i c r := by
  obtain ⟨n, h⟩ := h
  exact ⟨n, h n (Nat.le_refl _)⟩
noncomputable def Ctx.go (C : Ctx) (n : Nat) (c : Cfg) (p : Pos) : Option (List RV) := Proofs.YtcaiedfkohigjaaGreat.go C.P C.F C.T C.E C.N (C.k n) 4000 c p
/-- From the function's beginning on. -/
def Ctx.Res (C : Ctx) (f : Nat) (args : List SV) (r : List RV) : Prop := ∃ n, C.go n (start f args) (.node 0) = some r
/-- The kernel's way. -/
noncomputable def Ctx.goK (C : Ctx) (n : Nat) (c : Cfg) (p : Pos) : Option (List RV) := go2 C.P C.F C.T C.E C.N (run2 C.P C.F C.T C.E C.N n) 4000 c p
theorem Ctx.goK_eq (C : Ctx) (n : Nat) (c : Cfg) (p : Pos) : C.goK n c p = C.go n c p := by
  have h : run2 C.P C.F C.T C.E C.N n = C.k n := funext fun i => funext fun c => run2_eq C.P C.F C.T C.E C.N n i c
  unfold Ctx.goK Ctx.go
  rw [go2_eq, h]
theorem Ctx.Res.ofK {C : Ctx} {f : Nat} {args : List SV} {r : List RV} (h : ∃ n, C.goK n (start f args) (.node 0) = some r) : C.Res f args r := by
  obtain ⟨n, h⟩ := h
  exact ⟨n, (C.goK_eq n _ _).symm.trans h⟩
theorem Ctx.Runs.step {C : Ctx} {i : Nat} {c : Cfg} {r : List RV} (h : ∃ n, C.go n { c with K := .lp i :: c.K } (.node (i + 1)) = some r) : C.Runs i c r := by
  obtain ⟨n, h⟩ := h
  exact ⟨n + 1, h⟩
def okF (fn : Func) (k : Nat) : Bool := fn.body.isSome && Nat.ble k fn.ntmps
theorem run_sound {C : Ctx} (ok : C.Ok) {Z : Nat → Prop} {w0 : World} (hI : inv w0) {Rt : Ending → World → Prop} {r : List RV} (hRt : ∀ vs H G w ss tys, outR C.T H ss tys = some r → SR Z w0 H G w → all2 (Rel G (Av Z H G) w) ss vs → Rt (.returned (bundle vs)) w) :
    ∀ n i c G w a ats fn, run C.P C.F C.T C.E C.N n i c = some r → CR Z C.F w0 c G w a ats → lookF C.F c.f = some fn → InLoop C.P (nth (bodyF C.F c.f) (i + 1)) (cont C.P fn (RetR C.P C.F Rt c.fs ats) (bodyF C.F c.f) (toKI C.P fn (RetR C.P C.F Rt c.fs ats) (bodyF C.F c.f) c.K)) a w := by
  intro n
  induction n with
  | zero => intro i c G w a ats fn h; simp [run] at h
  | succ n ih =>
    intro i c G w a ats fn h hc hfn
    simp only [run] at h
    have := go_sound ok.T ok.E hI ok.F ok.m hRt (fun i c G w a ats fn h1 h2 h3 => ih i c G w a ats fn h1 h2 h3) 4000 _ _ h G w a ats fn ⟨hc.sr, hc.fr, hc.fl, hc.frs⟩ hfn
    exact InLoop.step this
theorem Ctx.Res.con {C : Ctx} (ok : C.Ok) {f : Nat} {fn : Func} {args : List SV} {r : List RV} (h : C.Res f args r) (hfn : lookF C.F f = some fn) (hk : okF fn args.length = true) : Con C.P f args r := by
  intro A w vs hI ha
  obtain ⟨n, h⟩ := h
  simp only [okF, Bool.and_eq_true] at hk
  obtain ⟨B, hB⟩ := Option.isSome_iff_exists.1 hk.1
  have hbf : bodyF C.F f = B := by simp [bodyF, hfn, hB]
  let Z : Nat → Prop := fun b => A b ∨ w.heap.size ≤ b
  have hkp : Keeps A (Av Z [] []) w w := ⟨Nat.le_refl _, fun b _ hA => ⟨.inl hA, fun j it g h => by simp at h⟩, fun _ _ _ => rfl⟩
  have ha2 : all2 (Rel [] (Av Z [] []) w) args vs := all2_mono (fun s v h => rel_of1 (h.keep hkp fun j g _ h => h)) ha
  refine enter (ok.F f fn hfn) hB (Nat.ble_eq_true_of_le (by rw [← all2_len ha]; exact Nat.le_of_ble_eq_true hk.2)) fun a hst => ?_
  have hsr : SR Z w [] [] w := ⟨rfl, Below.refl _ _, fun j it g h => by simp at h, fun i j it jt g h b _ h1 => by simp at h1, fun b hb => .inr hb⟩
  let Rt : Ending → World → Prop := fun e w' => ∃ v, e = .returned v ∧ Below w.heap.size w w' ∧ ResRel Z w.heap.size w' r v
  have hRt : ∀ vs H G w' ss tys, outR C.T H ss tys = some r → SR Z w H G w' → all2 (Rel G (Av Z H G) w') ss vs → Rt (.returned (bundle vs)) w' := fun vs H G w' ss tys h1 h2 h3 => ⟨_, rfl, h2.below, out_ok ok.T h2 h1 h3⟩
  have := go_sound ok.T ok.E hI ok.F ok.m hRt (fun i c G w a ats fn h1 h2 h3 => run_sound ok hI hRt n i c G w a ats fn h1 h2 h3) 4000 _ _ h [] w a [] fn ⟨hsr, ⟨hst.defers, by rw [hst.size]; simp [ntm, start, hfn], argsL_rel ha2 hst.slot⟩, Nat.le_refl _, trivial⟩ hfn
  simp only [PosOk, toKI, start] at this
  rw [hbf] at this
  exact this
theorem flat_map_ints (xs : List Int) : (xs.map fun y => [Value.int .i64 y]).flatten = xs.map (Value.int .i64) := by
  induction xs with
  | nil => rfl
  | cons y ys ih => simp [ih]
theorem ints_rd {A : Nat → Prop} {w : World} (xs : List Int) : all2 (fun l y => (Ty.int .i64).rd A w l y) (xs.map fun y => [Value.int .i64 y]) xs := by
  induction xs with
  | nil => trivial
  | cons y ys ih => exact ⟨rfl, ih⟩
def FtAll (P : Program) : FT → Prop
  | [] => True
  | p :: l => P.funcs[p.1]? = some p.2 ∧ FtAll P l
theorem FtAll.look {P : Program} : ∀ {l : FT}, FtAll P l → ∀ f fn, lookF l f = some fn → P.funcs[f]? = some fn
  | [], _, f, fn, h => by simp [lookF] at h
  | (k, x) :: l, ⟨h1, h2⟩, f, fn, h => by
    simp only [lookF] at h
    split at h
    · rename_i hb
      have := Nat.eq_of_beq_eq_true hb
      subst this
      injection h with h
      subst h
      exact h1
    · exact FtAll.look h2 f fn h
/-- A known function. -/
theorem specOk_of {P : Program} {f : Nat} {sp : Spec} (h : ∀ (R : Type) args (k : List RV → Option R) r, sp.run R args k = some r → ∃ rs, k rs = some r ∧ Con P f args rs) : SpecOk P f sp := h
end Go.Proofs.YtcaiedfkohigjaaGreat
