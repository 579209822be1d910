/- What the pure machine computes the machine does. -/
import Derived.Test.YtfkidjkpgliffaaPuQ
namespace Go.Proofs.Ytfkidjkpgliffaa
open Go.RowKit

def toKI (P : Program) (fn : Func) (R : Ending → World → Prop) (B : Code) : List KJ → List KI
  | [] => []
  | .seq i :: K => .seq i :: toKI P fn R B K
  | .blk id :: K => .blk id :: toKI P fn R B K
  | .lp i :: K => .lp (InLoop P (nth B (i + 1)) (cont P fn R B (toKI P fn R B K))) :: toKI P fn R B K
def RetR (P : Program) (F : FT) (Rt : Ending → World → Prop) : List Fm → List Act → Ending → World → Prop
  | fm :: fs, a :: ats => fun e w' => ∃ v, e = .returned v ∧ ∃ fn o, lookF F fm.f = some fn ∧ (opsAt (nth (bodyF F fm.f) fm.i))[fm.k]? = some o ∧
      AtR P fn (RetR P F Rt fs ats) (bodyF F fm.f) (toKI P fn (RetR P F Rt fs ats) (bodyF F fm.f) fm.K) fm.i (fm.k + 1) (a.put o.dst v) w'
  | _, _ => Rt
section
variable {Z : Nat → Prop} {w0 : World} {n : Nat} {L L' : SL} {H H' : List Item} {G G' : List Value} {w w' : World} {a : Act} {F : FT} {P : Program} {T : TT}
theorem guarded_ok {R : Type} {ops : Array Oper} {o : Oper} {yes no : SL → Option R} {r : R} (hf : FR Z n L H G w a) (h : guarded ops L o yes no = some r) :
    (∃ L', yes L' = some r ∧ FR Z n L' H G w a ∧ Region.wanted o (yielded ops a.tmps) = true) ∨ (∃ L', no L' = some r ∧ FR Z n L' H G w a ∧ Region.wanted o (yielded ops a.tmps) = false) := by
  unfold guarded at h
  split at h
  · rename_i hg
    exact .inl ⟨L, h, hf, by simp [Region.wanted, hg]⟩
  · rename_i j want hg
    split at h <;> try (cases h; done)
    rename_i d hd
    split at h <;> try (cases h; done)
    · rename_i b hb
      obtain ⟨v, h1, h2⟩ := hf.slot d _ hb
      have hv := rel_bool h2
      subst hv
      have hy : ∀ b' : Bool, b = b' → FR Z n ((d, .d .bool b') :: delS L d) H G w a := fun b' e => by subst e; exact hf.say h1 h2
      have hw : Region.wanted o (yielded ops a.tmps) = (b == want) := by
        simp only [Region.wanted, hg, yielded, hd, Option.bind_some, h1]
        cases b <;> cases want <;> rfl
      split at h
      · split at h
        · exact .inl ⟨_, h, hy true rfl, hw⟩
        · exact .inr ⟨_, h, hy true rfl, hw⟩
      · split at h
        · exact .inr ⟨_, h, hy false rfl, hw⟩
        · exact .inl ⟨_, h, hy false rfl, hw⟩
    · rename_i hb
      obtain ⟨v, h1, h2⟩ := hf.slot d _ hb
      have h2 : v = undef := h2
      subst h2
      refine .inr ⟨L, h, hf, ?_⟩
      simp only [Region.wanted, hg, yielded, hd, Option.bind_some, h1]
      rfl
theorem atR_nil {fn : Func} {R : Ending → World → Prop} {B : Code} {K : List KI} {i k : Nat} (hk : (opsAt (nth B i))[k]? = none) (h : cont P fn R B K .normal a w) : AtR P fn R B K i k a w := by
  refine atR_end ?_ h
  rw [List.drop_eq_nil_iff]
  simpa using hk
theorem atR_yes {fn : Func} {R : Ending → World → Prop} {B : Code} {K : List KI} {i k : Nat} {o : Oper} (hk : (opsAt (nth B i))[k]? = some o) (hw : Region.wanted o (yielded (opsAt (nth B i)) a.tmps) = true)
    (h : o.upon P a (fun a' w' => AtR P fn R B K i (k + 1) a' w') (cont P fn R B K) ((execOp a.eval o).run P w)) : AtR P fn R B K i k a w := by
  have hlt : k < (opsAt (nth B i)).toList.length := by simpa using (Array.getElem?_eq_some_iff.1 hk).1
  unfold AtR
  have : (opsAt (nth B i)).toList.drop k = o :: (opsAt (nth B i)).toList.drop (k + 1) := by
    rw [List.drop_eq_getElem_cons hlt]
    congr 1
    have := (Array.getElem?_eq_some_iff.1 hk).2
    simpa using this
  rw [this]
  unfold wpList
  rw [if_pos hw]
  exact .inl h
theorem atR_no {fn : Func} {R : Ending → World → Prop} {B : Code} {K : List KI} {i k : Nat} {o : Oper} (hk : (opsAt (nth B i))[k]? = some o) (hw : Region.wanted o (yielded (opsAt (nth B i)) a.tmps) = false)
    (h : AtR P fn R B K i (k + 1) (a.put o.dst undef) w) : AtR P fn R B K i k a w := by
  have hlt : k < (opsAt (nth B i)).toList.length := by simpa using (Array.getElem?_eq_some_iff.1 hk).1
  unfold AtR
  have : (opsAt (nth B i)).toList.drop k = o :: (opsAt (nth B i)).toList.drop (k + 1) := by
    rw [List.drop_eq_getElem_cons hlt]
    congr 1
    have := (Array.getElem?_eq_some_iff.1 hk).2
    simpa using this
  rw [this]
  unfold wpList
  rw [if_neg (by rw [hw]; simp)]
  exact h
theorem resS_rel (hf : FR Z n L H G w a) : ∀ {rs : List ResultVar} {ss : List SV}, resS L rs = some ss → ∃ vs Lv, all2 (Rel G (Av Z H G) w) ss vs ∧ (∀ t v, look Lv t = some v → a.tmps[t]? = some v) ∧ ∀ Lx, (∀ t v, look Lv t = some v → look Lx t = some v) → resVal P Lx rs [] = some (vs, [])
  | [], ss, h => by simp only [resS, Option.some.injEq] at h; subst h; exact ⟨[], [], trivial, fun t v h => by simp [look] at h, fun Lx _ => rfl⟩
  | .tmp t :: rs, ss, h => by
    simp only [resS] at h
    split at h <;> try (cases h; done)
    rename_i s l h1 h2
    injection h with h
    subst h
    obtain ⟨vs, Lv, g1, g2, g3⟩ := resS_rel hf h2
    obtain ⟨v, k1, k2⟩ := hf.slot t s h1
    refine ⟨v :: vs, (t, v) :: Lv, ⟨k2, g1⟩, fun u x hx => ?_, fun Lx hLx => ?_⟩
    · simp only [look] at hx
      split at hx
      · rename_i hb
        have : t = u := Nat.eq_of_beq_eq_true hb
        subst this
        injection hx with hx
        subst hx
        exact k1
      · exact g2 u x hx
    · have e1 : look Lx t = some v := hLx t v (by simp [look])
      have e2 : resVal P Lx rs [] = some (vs, []) := g3 Lx fun u x hx => by
        refine hLx u x ?_
        simp only [look]
        split
        · rename_i hb
          have : t = u := Nat.eq_of_beq_eq_true hb
          subst this
          have := g2 t x hx
          rw [k1] at this
          exact this
        · exact hx
      simp only [resVal, e1, e2]
  | .cell _ _ :: rs, ss, h => by simp [resS] at h
theorem ret_ok {fn : Func} {R : Ending → World → Prop} (hf : FR Z n L H G w a) {ss : List SV} (h : resS L fn.results.toList = some ss) (hR : ∀ vs, all2 (Rel G (Av Z H G) w) ss vs → R (.returned (bundle vs)) w) : bodyPost P fn R .ret a w := by
  obtain ⟨vs, Lv, g1, g2, g3⟩ := resS_rel (P := P) hf h
  have hst : St n Lv a := ⟨hf.defers, hf.size, g2⟩
  refine at_end (H := []) (vs := vs) (O := conj []) hst ?_ rfl trivial (hR vs g1)
  simp [resK, g3 Lv (fun _ _ h => h)]
theorem bndl_rel {ss : List SV} {vs : List Value} (hn : ∀ s ∈ ss, ∀ l, s ≠ .tup l) (h : all2 (Rel G (Av Z H G) w) ss vs) : Rel G (Av Z H G) w (bndl ss) (bundle vs) := by
  have h1 : all2 (Rel1 G (Av Z H G) w) ss vs := by
    induction ss generalizing vs with
    | nil => cases vs <;> exact h
    | cons s ss ih =>
      match vs, h with
      | v :: vs, ⟨q1, q2⟩ => exact ⟨rel_to1 q1 (hn s (by simp)), ih (fun s hs => hn s (by simp [hs])) q2⟩
  match ss, vs, h, h1 with
  | [], [], _, _ => exact ⟨[], rfl, trivial⟩
  | [s], [v], ⟨q1, _⟩, _ => exact q1
  | s :: s' :: ss, v :: v' :: vs, _, h1 => exact ⟨v :: v' :: vs, rfl, h1⟩
theorem outL_rel {A : Nat → Prop} : ∀ {l : List SV} {r : List RV} {vs : List Value}, outR.outL l = some r → all2 (Rel1 [] A w) l vs → rvS r = some l ∧ (∀ q ∈ r, ∃ t x, q = .d t x)
  | [], r, vs, h, _ => by simp only [outR.outL, Option.some.injEq] at h; subst h; exact ⟨rfl, by simp⟩
  | s :: l, r, vs, h, ha => by
    unfold outR.outL at h
    split at h
    · rename_i e; cases e
    · rename_i t x l' e
      injection e with e1 e2
      subst e1 e2
      split at h <;> try (cases h; done)
      rename_i r' hr'
      injection h with h
      subst h
      match vs, ha with
      | v :: vs, ⟨_, h2⟩ =>
        obtain ⟨g1, g2⟩ := outL_rel hr' h2
        exact ⟨by simp [rvS, g1], fun q hq => by rcases List.mem_cons.1 hq with rfl | hq; exact ⟨t, x, rfl⟩; exact g2 q hq⟩
    · cases h
theorem out_ok (hr : SR Z w0 H G w) {ss : List SV} {tys : List Nat} {r : List RV} {vs : List Value} (h : outR T H ss tys = some r) (ha : all2 (Rel G (Av Z H G) w) ss vs) : ResRel Z w0.heap.size w r (bundle vs) := by
  unfold outR at h
  split at h
  · rename_i j
    split at h <;> try (cases h; done)
    rename_i et e xs hj
    injection h with h
    subst h
    match vs, ha with
    | [v], ⟨hv, _⟩ =>
      obtain ⟨css, k1, k2, k3⟩ := hr.items j _ _ hj hv
      refine ⟨css, k1, all2_mono (fun l y h => Ty.rd_keep ⟨Nat.le_refl _, fun b _ hA => ⟨hA.1, hA.2 j _ _ hj rfl hv⟩, fun _ _ _ => rfl⟩ h) k2, k3⟩
  · split at h <;> try (cases h; done)
    rename_i l hl
    have h1 : all2 (Rel1 [] Z w) l vs := argS_rel (ss0 := ss) hr (fun _ _ h => h.1) (.inl fun j g b hg hb ⟨_, _, _, hj⟩ => hr.zf b ((hr.items j _ g hj hg).blk rfl hb).1) (fun s hs => hs) hl ha
    obtain ⟨g1, g2⟩ := outL_rel h h1
    match r, g1, g2 with
    | [], g1, _ =>
      simp only [rvS, Option.some.injEq] at g1
      subst g1
      match vs, h1 with
      | [], _ => exact ⟨[], rfl, [], rfl, trivial⟩
    | [.d t x], g1, _ =>
      simp only [rvS, Option.some.injEq] at g1
      subst g1
      match vs, h1 with
      | [v], ⟨q, _⟩ => exact q
    | [.new et e xs], _, g2 => obtain ⟨t, x, he⟩ := g2 (.new et e xs) (by simp); cases he
    | q :: q' :: r, g1, _ =>
      have hlen : vs.length = (q :: q' :: r).length := by
        rw [← all2_len h1]
        have : ∀ (r : List RV) (l : List SV), rvS r = some l → l.length = r.length := by
          intro r
          induction r with
          | nil => intro l h; simp only [rvS, Option.some.injEq] at h; subst h; rfl
          | cons q r ih =>
            intro l h
            cases q <;> simp only [rvS] at h <;> split at h <;> first | (cases h; done) | (injection h with h; subst h; simp [ih _ (by assumption)])
        exact this _ _ g1
      match vs, hlen, h1 with
      | v :: v' :: vs, _, h1 => cases q <;> exact ⟨v :: v' :: vs, rfl, l, g1, h1⟩
end
end Go.Proofs.Ytfkidjkpgliffaa
