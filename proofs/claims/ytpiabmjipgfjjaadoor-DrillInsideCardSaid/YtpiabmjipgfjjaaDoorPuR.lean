/- What the pure machine computes the machine does. -/
import Derived.Test.YtpiabmjipgfjjaaDoorPuQ
namespace Go.Proofs.YtpiabmjipgfjjaaDoor
open Go.RowKit

def toKI (P : Program) (fn : Func) (R : Ending → World → Prop) (B : Code) : List KJ → List KI
  | [] => []
  | .seq i :: K => .seq i :: toKI P fn R B K
  | .blk id :: K => .blk id :: toKI P fn R B K
  | .lp i :: K => .lp (InLoop P (nth B (i + 1)) (cont P fn R B (toKI P fn R B K))) :: toKI P fn R B K
def RetR (P : Program) (F : FT) (Rt : Ending → World → Prop) : List Fm → List Act → Ending → World → Prop
  | fm :: fs, a :: ats => fun e w' => ∃ v, e = .returned v ∧ ∃ fn o, lookF F fm.f = some fn ∧ (opsAt (nth (bodyF F fm.f) fm.i))[fm.k]? = some o ∧
      AtR P fn (RetR P F Rt fs ats) (bodyF F fm.f) (toKI P fn (RetR P F Rt fs ats) (bodyF F fm.f) fm.K) fm.i (fm.k + 1) (a.put o.dst v) w'
  | _, _ => Rt
section
variable {Z : Nat → Prop} {w0 : World} {n : Nat} {L L' : SL} {H H' : List Item} {G G' : List Value} {w w' : World} {a : Act} {F : FT} {P : Program} {T : TT}
theorem guarded_ok {R : Type} {ops : Array Oper} {o : Oper} {yes no : SL → Option R} {r : R} (hf : FR Z n L H G w a) (h : guarded ops L o yes no = some r) :
    (∃ L', yes L' = some r ∧ FR Z n L' H G w a ∧ Region.wanted o (yielded ops a.tmps) = true) ∨ (∃ L', no L' = some r ∧ FR Z n L' H G w a ∧ Region.wanted o (yielded ops a.tmps) = false) := by
  unfold guarded at h
  split at h
  · rename_i hg
    exact .inl ⟨L, h, hf, by simp [Region.wanted, hg]⟩
  · rename_i j want hg
    split at h <;> try (cases h; done)
    rename_i d hd
    split at h <;> try (cases h; done)
    · rename_i b hb
      obtain ⟨v, h1, h2⟩ := hf.slot d _ hb
      have hv := rel_bool h2
      subst hv
      have hy : ∀ b' : Bool, b = b' → FR Z n ((d, .d .bool b') :: delS L d) H G w a := fun b' e => by subst e; exact hf.say h1 h2
      have hw : Region.wanted o (yielded ops a.tmps) = (b == want) := by
        simp only [Region.wanted, hg, yielded, hd, Option.bind_some, h1]
        cases b <;> cases want <;> rfl
      split at h
      · split at h
        · exact .inl ⟨_, h, hy true rfl, hw⟩
        · exact .inr ⟨_, h, hy true rfl, hw⟩
      · split at h
        · exact .inr ⟨_, h, hy false rfl, hw⟩
        · exact .inl ⟨_, h, hy false rfl, hw⟩
    · rename_i hb
      obtain ⟨v, h1, h2⟩ := hf.slot d _ hb
      have h2 : v = undef := h2
      subst h2
      refine .inr ⟨L, h, hf, ?_⟩
      simp only [Region.wanted, hg, yielded, hd, Option.bind_some, h1]
      rfl
theorem atR_nil {fn : Func} {R : Ending → World → Prop} {B : Code} {K : List KI} {i k : Nat} (hk : (opsAt (nth B i))[k]? = none) (h : cont P fn R B K .normal a w) : AtR P fn R B K i k a w := by
  refine atR_end ?_ h
  rw [List.drop_eq_nil_iff]
  simpa using hk
theorem atR_yes {fn : Func} {R : Ending → World → Prop} {B : Code} {K : List KI} {i k : Nat} {o : Oper} (hk : (opsAt (nth B i))[k]? = some o) (hw : Region.wanted o (yielded (opsAt (nth B i)) a.tmps) = true)
    (h : o.upon P a (fun a' w' => AtR P fn R B K i (k + 1) a' w') (cont P fn R B K) ((execOp a.eval o).run P w)) : AtR P fn R B K i k a w := by
  have hlt : k < (opsAt (nth B i)).toList.length := by simpa using (Array.getElem?_eq_some_iff.1 hk).1
  unfold AtR
  have : (opsAt (nth B i)).toList.drop k = o :: (opsAt (nth B i)).toList.drop (k + 1) := by
    rw [List.drop_eq_getElem_cons hlt]
    congr 1
    have := (Array.getElem?_eq_some_iff.1 hk).2
    simpa using this
  rw [this]
  unfold wpList
  rw [if_pos hw]
  exact .inl h
theorem atR_no {fn : Func} {R : Ending → World → Prop} {B : Code} {K : List KI} {i k : Nat} {o : Oper} (hk : (opsAt (nth B i))[k]? = some o) (hw : Region.wanted o (yielded (opsAt (nth B i)) a.tmps) = false)
    (h : AtR P fn R B K i (k + 1) (a.put o.dst undef) w) : AtR P fn R B K i k a w := by
  have hlt : k < (opsAt (nth B i)).toList.length := by simpa using (Array.getElem?_eq_some_iff.1 hk).1
  unfold AtR
  have : (opsAt (nth B i)).toList.drop k = o :: (opsAt (nth B i)).toList.drop (k + 1) := by
    rw [List.drop_eq_getElem_cons hlt]
    congr 1
    have := (Array.getElem?_eq_some_iff.1 hk).2
    simpa using this
  rw [this]
  unfold wpList
  rw [if_neg (by rw [hw]; simp)]
  exact h
theorem resS_run (hT : chkAll P T = true) (hr : SR Z w0 H G w) (hf : FR Z n L H G w a) : ∀ {rs : List ResultVar} {ss : List SV}, resS T H L rs = some ss → ∃ vs, all2 (Rel G (Av Z H G) w) ss vs ∧
    ((rs.mapM (m := Sem) fun
      | .tmp t => pure (a.tmps.getD t undef)
      | .cell ad t => do loadVar t (← asAddr (a.tmps.getD ad undef))).run P w) = .ok vs w := by
  intro rs
  induction rs with
  | nil => intro ss h; simp only [resS, Option.some.injEq] at h; subst h; exact ⟨[], trivial, rfl⟩
  | cons q rs ih =>
    intro ss h
    rw [List.mapM_cons]
    cases q with
    | tmp t =>
      simp only [resS] at h
      split at h <;> try (cases h; done)
      rename_i s l h1 h2
      injection h with h
      subst h
      obtain ⟨vs, g1, g2⟩ := ih h2
      obtain ⟨v, k1, k2⟩ := hf.slot t s h1
      refine ⟨v :: vs, ⟨k2, g1⟩, ?_⟩
      simp only [Sem.run_bind, Sem.run_pure, Result.andThen_ok, Array.getD_eq_getD_getElem?, k1, Option.getD_some] at g2 ⊢
      rw [g2]
      rfl
    | cell ad t =>
      simp only [resS] at h
      split at h <;> try (cases h; done)
      rename_i j off i l h1 hi h2
      split at h <;> try (cases h; done)
      rename_i bt cells hj
      split at h <;> try (cases h; done)
      rename_i s hl
      injection h with h
      subst h
      obtain ⟨vs, g1, g2⟩ := ih h2
      obtain ⟨p, k1, k2⟩ := hf.slot ad _ h1
      obtain ⟨v, e1, e2⟩ := load_box (rw := true) hr (chkAll_look hT hi) k2 hj hl
      obtain ⟨b, hb, rfl⟩ := k2
      refine ⟨v :: vs, ⟨rel_of1 e1, g1⟩, ?_⟩
      have e3 := e2 w Agr.refl
      simp only [Instr.loadAt, Instr.sureAddr, Sem.run_bind, Sem.run_pure, Result.andThen_ok] at e3
      simp only [Sem.run_bind, Sem.run_pure, Result.andThen_ok, Array.getD_eq_getD_getElem?, k1, Option.getD_some, asAddr, e3] at g2 ⊢
      rw [g2]
      rfl
theorem ret_ok {fn : Func} {R : Ending → World → Prop} (hT : chkAll P T = true) (hr : SR Z w0 H G w) (hf : FR Z n L H G w a) {ss : List SV} (h : resS T H L fn.results.toList = some ss) (hR : ∀ vs, all2 (Rel G (Av Z H G) w) ss vs → R (.returned (bundle vs)) w) : bodyPost P fn R .ret a w := by
  obtain ⟨vs, g1, g2⟩ := resS_run (P := P) hT hr hf h
  refine ⟨hf.defers, bundle vs, ?_, hR vs g1⟩
  unfold Go.results
  generalize hrs : fn.results = rs at *
  obtain ⟨l⟩ := rs
  simp only [List.mapM_toArray, bind_map_left]
  simp only [Sem.run_bind]
  refine (congrArg (fun r : Result (List Value) => r.andThen fun (a : List Value) w' => Sem.run P (pure (if h : a.toArray.size = 1 then a.toArray[0] else Value.tuple a.toArray)) w') g2).trans ?_
  match vs with
  | [] => rfl
  | [x] => rfl
  | x :: y :: r => simp [bundle]
theorem bndl_rel {ss : List SV} {vs : List Value} (hn : ∀ s ∈ ss, ∀ l, s ≠ .tup l) (h : all2 (Rel G (Av Z H G) w) ss vs) : Rel G (Av Z H G) w (bndl ss) (bundle vs) := by
  have h1 : all2 (Rel1 G (Av Z H G) w) ss vs := by
    induction ss generalizing vs with
    | nil => cases vs <;> exact h
    | cons s ss ih =>
      match vs, h with
      | v :: vs, ⟨q1, q2⟩ => exact ⟨rel_to1 q1 (hn s (by simp)), ih (fun s hs => hn s (by simp [hs])) q2⟩
  match ss, vs, h, h1 with
  | [], [], _, _ => exact ⟨[], rfl, trivial⟩
  | [s], [v], ⟨q1, _⟩, _ => exact q1
  | s :: s' :: ss, v :: v' :: vs, _, h1 => exact ⟨v :: v' :: vs, rfl, h1⟩
theorem outL_rel {A : Nat → Prop} : ∀ {l : List SV} {r : List RV} {vs : List Value}, outR.outL l = some r → all2 (Rel1 [] A w) l vs → rvS r = some l ∧ (∀ q ∈ r, ∃ t x, q = .d t x)
  | [], r, vs, h, _ => by simp only [outR.outL, Option.some.injEq] at h; subst h; exact ⟨rfl, by simp⟩
  | s :: l, r, vs, h, ha => by
    unfold outR.outL at h
    split at h
    · rename_i e; cases e
    · rename_i t x l' e
      injection e with e1 e2
      subst e1 e2
      split at h <;> try (cases h; done)
      rename_i r' hr'
      injection h with h
      subst h
      match vs, ha with
      | v :: vs, ⟨_, h2⟩ =>
        obtain ⟨g1, g2⟩ := outL_rel hr' h2
        exact ⟨by simp [rvS, g1], fun q hq => by rcases List.mem_cons.1 hq with rfl | hq; exact ⟨t, x, rfl⟩; exact g2 q hq⟩
    · cases h
theorem out_ok (hT : chkAll P T = true) (hr : SR Z w0 H G w) {ss : List SV} {tys : List Nat} {r : List RV} {vs : List Value} (h : outR T H ss tys = some r) (ha : all2 (Rel G (Av Z H G) w) ss vs) : ResRel Z w0.heap.size w r (bundle vs) := by
  unfold outR at h
  split at h
  · rename_i j
    split at h <;> try (cases h; done)
    rename_i et e xs hj
    injection h with h
    subst h
    match vs, ha with
    | [v], ⟨hv, _⟩ =>
      obtain ⟨css, k1, k2, k3⟩ := hr.items j _ _ hj hv
      refine ⟨css, k1, all2_mono (fun l y h => Ty.rd_keep ⟨Nat.le_refl _, fun b _ hA => ⟨hA.1, hA.2 j _ _ hj rfl hv⟩, fun _ _ _ => rfl⟩ h) k2, k3⟩
  · split at h <;> try (cases h; done)
    split at h <;> try (cases h; done)
    split at h <;> try (cases h; done)
    split at h <;> try (cases h; done)
    rename_i hb
    injection h with h
    subst h
    match vs, ha with
    | [v], ⟨hv, _⟩ =>
      have hv : v = .slice none 0 0 := hv
      subst hv
      exact ⟨[], World.ownsRow_nil _ _ _ _, trivial, Nat.le_of_ble_eq_true hb⟩
  · split at h <;> try (cases h; done)
    rename_i l hl
    have h1 : all2 (Rel1 [] Z w) l vs := argS_rel (ss0 := ss) hr (fun _ _ h => h.1) (.inl fun j g b hg hb ⟨_, _, _, hj⟩ => hr.zf b ((hr.items j _ g hj hg).blk rfl hb).1) (fun s hs => hs) hl ha
    obtain ⟨g1, g2⟩ := outL_rel h h1
    match r, g1, g2 with
    | [], g1, _ =>
      simp only [rvS, Option.some.injEq] at g1
      subst g1
      match vs, h1 with
      | [], _ => exact ⟨[], rfl, [], rfl, trivial⟩
    | [.d t x], g1, _ =>
      simp only [rvS, Option.some.injEq] at g1
      subst g1
      match vs, h1 with
      | [v], ⟨q, _⟩ => exact q
    | [.new et e xs], _, g2 => obtain ⟨t, x, he⟩ := g2 (.new et e xs) (by simp); cases he
    | q :: q' :: r, g1, _ =>
      have hlen : vs.length = (q :: q' :: r).length := by
        rw [← all2_len h1]
        have : ∀ (r : List RV) (l : List SV), rvS r = some l → l.length = r.length := by
          intro r
          induction r with
          | nil => intro l h; simp only [rvS, Option.some.injEq] at h; subst h; rfl
          | cons q r ih =>
            intro l h
            cases q <;> simp only [rvS] at h <;> split at h <;> first | (cases h; done) | (injection h with h; subst h; simp [ih _ (by assumption)])
        exact this _ _ g1
      match vs, hlen, h1 with
      | v :: v' :: vs, _, h1 => cases q <;> exact ⟨v :: v' :: vs, rfl, l, g1, h1⟩
end
end Go.Proofs.YtpiabmjipgfjjaaDoor
