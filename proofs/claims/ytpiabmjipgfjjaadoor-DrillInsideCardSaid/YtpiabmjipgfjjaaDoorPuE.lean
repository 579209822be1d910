/- The pure machine's quiet operations are the machine's. -/
import Derived.Test.YtpiabmjipgfjjaaDoorPuD
namespace Go.Proofs.YtpiabmjipgfjjaaDoor
open Go.RowKit

structure FR (Z : Nat → Prop) (n : Nat) (L : SL) (H : List Item) (G : List Value) (w : World) (a : Act) : Prop where
  defers : a.defers = []
  size : a.tmps.size = n
  slot : ∀ t s, lookS L t = some s → ∃ v, a.tmps[t]? = some v ∧ Rel G (Av Z H G) w s v
def RowsB (H : List Item) (G : List Value) (b : Nat) : Prop := ∃ (j : Nat) (et : TypeId) (e : Ty) (xs : List e.D) (g : Value), H[j]? = some (.row et e xs) ∧ G[j]? = some g ∧ blkOf g = some b
def Agr (rw : Bool) (H : List Item) (G : List Value) (w w' : World) : Prop := w.heap.size ≤ w'.heap.size ∧ ∀ b, b < w.heap.size → (rw = true ∨ ¬ RowsB H G b) → w'.heap[b]? = w.heap[b]?
theorem Agr.refl {rw : Bool} {H : List Item} {G : List Value} {w : World} : Agr rw H G w w := ⟨Nat.le_refl _, fun _ _ _ => rfl⟩

theorem rel_of1 {G : List Value} {A : Nat → Prop} {w : World} {s : SV} {v : Value} (h : Rel1 G A w s v) : Rel G A w s v := by cases s <;> first | exact h | exact h.elim
theorem rel_to1 {G : List Value} {A : Nat → Prop} {w : World} {s : SV} {v : Value} (h : Rel G A w s v) (hg : ∀ l, s ≠ .tup l) : Rel1 G A w s v := by cases s <;> first | exact h | exact (hg _ rfl).elim

section
variable {G : List Value} {A : Nat → Prop} {w : World}
theorem unval_rel {v : Value} {s : SV} (h : unval v = some s) : Rel1 G A w s v := by
  unfold unval at h
  split at h <;> first | (injection h with h; subst h; exact ⟨[_], rfl, rfl⟩) | cases h
theorem unval_form {v : Value} {s : SV} (h : unval v = some s) : ∃ t x, s = .d t x ∧ t.isSt = false ∧ t.n = 1 := by
  unfold unval at h
  split at h <;> first | (injection h with h; subst h; exact ⟨_, _, rfl, rfl, rfl⟩) | cases h
theorem unval_rd {v : Value} {t : Ty} {x : t.D} (h : unval v = some (.d t x)) : t.rd A w [v] x := by
  obtain ⟨t', x', e, h1, h2⟩ := unval_form h
  injection e with e1 e2
  subst e1
  exact rel_leaf h1 h2 (unval_rel (G := []) h)
theorem constL_rd : ∀ {l : List Value} {t : Ty} {x : t.D}, constL l = some ⟨t, x⟩ → t.rd A w l x
  | [], t, x, h => by simp [constL] at h
  | [v], t, x, h => by
    simp only [constL] at h
    split at h
    · rename_i t' x' hv
      injection h with h
      cases h
      exact unval_rd hv
    · cases h
  | v :: u :: l, t, x, h => by
    simp only [constL] at h
    split at h
    · rename_i t1 x1 t2 x2 h1 h2
      injection h with h
      cases h
      exact ⟨[v], u :: l, rfl, unval_rd h1, constL_rd h2⟩
    · cases h
theorem constS_rel {v : Value} {s : SV} (h : constS v = some s) : Rel1 G A w s v := by
  unfold constS at h
  split at h
  · injection h with h; subst h; rfl
  · split at h
    · rename_i cs t x hc
      injection h with h
      subst h
      refine ⟨_, constL_rd (t := t) hc, ?_⟩
      simp [mkV, Ty.isSt]
    · cases h
  · exact unval_rel h
end
section
variable {Z : Nat → Prop} {w0 : World} {n : Nat} {L : SL} {H : List Item} {G : List Value} {w : World} {a : Act}
theorem opS_rel (hf : FR Z n L H G w a) {x : Operand} {s : SV} (h : opS L x = some s) : Rel G (Av Z H G) w s (a.eval x) := by
  cases x with
  | tmp t =>
    obtain ⟨v, h1, h2⟩ := hf.slot t s h
    simpa [Act.eval, Array.getD_eq_getD_getElem?, h1] using h2
  | const v => exact rel_of1 (constS_rel h)
  | global g => simp [opS] at h
  | func f => simp only [opS, Option.some.injEq] at h; subst h; exact ⟨[], trivial, rfl⟩
theorem val?_rel {s : SV} {v u : Value} {A : Nat → Prop} (h : Rel G A w s u) (hv : val? s = some v) : u = v := by
  unfold val? at hv
  split at hv
  · rename_i t x
    split at hv
    · rename_i hfl
      injection hv with hv
      obtain ⟨cs, h1, h2⟩ := h
      rw [h2, ← hv, rd_flat hfl h1]
    · cases hv
  · cases hv
theorem opV_eval (hf : FR Z n L H G w a) {x : Operand} (h : (match opS L x with | some s => (val? s).isSome | none => false) = true) : a.eval x = opV L x := by
  unfold opV
  cases hs : opS L x with
  | none => rw [hs] at h; cases h
  | some s =>
    rw [hs] at h
    dsimp only at h ⊢
    obtain ⟨v, hv⟩ := Option.isSome_iff_exists.1 h
    rw [hv]
    exact val?_rel (opS_rel hf hs) hv
theorem flat_exec (hf : FR Z n L H G w a) {o : Oper} (h : flatOps L o.op = true) : execOp a.eval o = execOp (opV L) o := by
  simp only [flatOps, Bool.and_eq_true] at h
  refine execOp_congr o (fun cs b e => ?_) (fun x hx => opV_eval hf (List.all_eq_true.1 h.1 x (by simpa using hx)))
  rw [e] at h; simp at h

theorem flatOp_sound {P : Program} {R : Type} {o : Oper} {k : SV → Option R} {r : R} (hf : FR Z n L H G w a) (h : flatOp P L o k = some r) :
    ∃ s v, k s = some r ∧ Rel1 G (Av Z H G) w s v ∧ ∀ w', (execOp a.eval o).run P w' = .ok (.value v) w' := by
  unfold flatOp at h
  split at h
  · cases h
  · rename_i hfl
    rw [flat_exec hf hfl]
    have gen : (match evT P (execOp (opV L) o) [] with
        | some (.value v, []) => match unval v with | some s => k s | none => none
        | _ => none) = some r → ∃ s v, k s = some r ∧ Rel1 G (Av Z H G) w s v ∧ ∀ w', (execOp (opV L) o).run P w' = .ok (.value v) w' := by
      intro h
      split at h
      · rename_i v he
        split at h
        · rename_i s hs
          exact ⟨s, v, h, unval_rel hs, fun w' => evT_run _ _ _ _ he trivial⟩
        · cases h
      · cases h
    obtain ⟨dst, op, type, pos, after, guard⟩ := o
    dsimp only at h
    split at h
    case h_7 => exact gen h
    · rename_i t x y yt
      split at h <;> try (cases h; done)
      all_goals
        rename_i p q hp hq
        split at h <;> try (cases h; done)
        rename_i hb
        have hb := of_decide_eq_false hb
        refine ⟨_, _, h, ⟨[_], rfl, rfl⟩, fun w' => ?_⟩
        simp [execOp, hp, hq, eqGuard, binOp, Op.intDiv, hb, mkV, Ty.isSt]
    · rename_i t x y yt
      split at h <;> try (cases h; done)
      all_goals
        rename_i p q hp hq
        split at h <;> try (cases h; done)
        rename_i hb
        have hb := of_decide_eq_false hb
        refine ⟨_, _, h, ⟨[_], rfl, rfl⟩, fun w' => ?_⟩
        simp [execOp, hp, hq, eqGuard, binOp, Op.intDiv, hb, mkV, Ty.isSt]
    · rename_i t x y yt
      split at h <;> try (cases h; done)
      rename_i kd p kd' q hp hq
      split at h <;> try (cases h; done)
      rename_i hb
      have hb := of_decide_eq_false hb
      refine ⟨_, _, h, ⟨[_], rfl, rfl⟩, fun w' => ?_⟩
      simp [execOp, hp, hq, eqGuard, binOp, Op.shift, hb, mkV, Ty.isSt]
    · rename_i t x y yt
      split at h <;> try (cases h; done)
      rename_i kd p kd' q hp hq
      split at h <;> try (cases h; done)
      rename_i hb
      have hb := of_decide_eq_false hb
      refine ⟨_, _, h, ⟨[_], rfl, rfl⟩, fun w' => ?_⟩
      simp [execOp, hp, hq, eqGuard, binOp, Op.shift, hb, mkV, Ty.isSt]
    · rename_i t x y yt
      split at h
      · rename_i xs ys hx hy
        split at h <;> try (cases h; done)
        rename_i rr hg hr
        refine ⟨_, _, h, ⟨[_], rfl, rfl⟩, fun w' => ?_⟩
        simp only [execOp, hx, hy, Sem.run_bind, run_eqGuard_agg w' .eql t x y xs ys hg, Result.andThen_ok, run_eql_struct, eqV_run _ _ _ _ _ w' hr, Sem.run_pure]
        rfl
      · exact gen h
    · rename_i t x y yt
      split at h
      · rename_i xs ys hx hy
        split at h <;> try (cases h; done)
        rename_i rr hg hr
        refine ⟨_, _, h, ⟨[_], rfl, rfl⟩, fun w' => ?_⟩
        simp only [execOp, hx, hy, Sem.run_bind, run_eqGuard_agg w' .neq t x y xs ys hg, Result.andThen_ok, run_neq_struct, eqV_run _ _ _ _ _ w' hr, Sem.run_pure]
        rfl
      · exact gen h
end
end Go.Proofs.YtpiabmjipgfjjaaDoor
