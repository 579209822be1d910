/- Regions that draw their order and end in a store. -/
import Derived.Test.YtpiabmjipgfjjaaDoorPuN
namespace Go.Proofs.YtpiabmjipgfjjaaDoor
open Go.RowKit
/-- What holds behind every operation but the last store. -/
def Sst (st : Option Nat) (S0 : World → Prop) (l : Array Bool) (w : World) : Prop := (∃ s, st = some s ∧ l.getD s true = true) ∨ S0 w
def wpG (P : Program) (ops : Array Oper) (Q : Exit → Act → World → Prop) (st : Option Nat) (S0 : World → Prop) : Nat → Array Bool → Act → World → Prop
  | 0, l, a, w => Region.ready .any ops l = [] ∧ Q .normal a w
  | n + 1, l, a, w => (Region.ready .any ops l = [] → Q .normal a w) ∧
    ∀ i ∈ Region.ready .any ops l, wpOp P ops Q i (fun a' w' => Sst st S0 (l.setIfInBounds i true) w' ∧ wpG P ops Q st S0 n (l.setIfInBounds i true) a' w') a w
section
variable {P : Program} {ops : Array Oper} {Q : Exit → Act → World → Prop} {st : Option Nat} {S0 : World → Prop}
theorem any_of_G : ∀ (n : Nat) (l : Array Bool) (a : Act) (w : World), wpG P ops Q st S0 n l a w → wpAny P .any ops Q n l a w
  | 0, _, _, _, h => h
  | n + 1, _, _, _, h => ⟨h.1, fun i hi => wpOp_mono (fun a' w' h' => any_of_G n _ a' w' h'.2) (h.2 i hi)⟩
/-- A quiet operation that the store waits for may be taken first. -/
theorem wpG_first {i : Nat} {oi : Oper} {v : Value} (hi : ops[i]? = some oi) (hsel : ∀ (j : Nat) (o : Oper) cs b, ops[j]? = some o → o.op ≠ .select cs b)
    (hQ : ∀ c a w, Q (.panic c) (a.put oi.dst v) w → Q (.panic c) a w) (hst : ∀ s, st = some s → s ≠ i ∧ ∃ os, ops[s]? = some os ∧ ∃ e ∈ os.after, Region.binds .any e = true ∧ e.on = i) :
    ∀ (n : Nat) (l : Array Bool) (a : Act) (w : World),
      (∀ j oj, ops[j]? = some oj → j ≠ i → l.getD j true = false → (∀ e ∈ oj.after, Region.binds .any e = true → e.on ≠ i) → oi.apart ops oj = true) →
      (∀ s, st = some s → l.getD s true = false) → i ∈ Region.ready .any ops l → YieldsIf P ops S0 oi v a → S0 w →
      wpG P ops Q st S0 n (l.setIfInBounds i true) (a.put oi.dst v) w → wpG P ops Q st S0 (n + 1) l a w := by
  intro n
  induction n with
  | zero =>
    intro l a w _ _ hr hy hS H
    refine ⟨fun h => (by rw [h] at hr; cases hr), fun j hj => ?_⟩
    by_cases hji : j = i
    · subst hji; exact hy.wpOp hi hS ⟨.inr hS, H⟩
    · have := ready_mono hj hji
      rw [H.1] at this
      cases this
  | succ n ih =>
    intro l a w hfree hun hr hy hS H
    refine ⟨fun h => (by rw [h] at hr; cases hr), fun j hj => ?_⟩
    by_cases hji : j = i
    · subst hji; exact hy.wpOp hi hS ⟨.inr hS, H⟩
    · have h1 := H.2 j (ready_mono hj hji)
      obtain ⟨hjun, oj, hoj, hall⟩ := mem_ready.1 hj
      have hiun := (mem_ready.1 hr).1
      have bef : ∀ e ∈ oj.after, Region.binds .any e = true → e.on ≠ i := fun e he hb heq => by
        have h2 := hall e he hb
        rw [heq] at h2
        rcases Nat.lt_or_ge i l.size with h' | h'
        · simp [h'] at hiun h2; rw [hiun] at h2; cases h2
        · simp [Array.getElem?_eq_none h'] at h2
      have hjs : ∀ s, st = some s → j ≠ s := fun s hs e => by
        subst e
        obtain ⟨_, os, ho, e, he, hb, hon⟩ := hst j hs
        rw [hoj] at ho
        injection ho with ho
        subst ho
        exact bef e he hb hon
      have h2 := wpOp_putIf hoj (hfree j oj hoj hji hjun bef) (fun cs b => hsel i oi cs b hi) (fun cs b => hsel j oj cs b hoj) hQ hy h1
      have hun' : ∀ s, st = some s → (l.setIfInBounds j true).getD s true = false := fun s hs => by
        rw [getD_set_ne true (hjs s hs)]; exact hun s hs
      have hfree' : ∀ k ok, ops[k]? = some ok → k ≠ i → (l.setIfInBounds j true).getD k true = false → (∀ e ∈ ok.after, Region.binds .any e = true → e.on ≠ i) → oi.apart ops ok = true := fun k ok hk hki hu hno => by
        refine hfree k ok hk hki ?_ hno
        by_cases hjk : j = k
        · subst hjk; exact hjun
        · rw [getD_set_ne true hjk] at hu; exact hu
      refine wpOp_mono (fun a' w' h3 => ?_) h2
      obtain ⟨y1, y2, y3⟩ := h3
      have hS' : S0 w' := by
        rcases y2 with ⟨s, hs, hl⟩ | h
        · rw [getD_set_ne true (hjs s hs), getD_set_ne true (Ne.symm (hst s hs).1), hun s hs] at hl
          cases hl
        · exact h
      refine ⟨.inr hS', ih (l.setIfInBounds j true) a' w' hfree' hun' (ready_mono hr (Ne.symm hji)) y1 hS' ?_⟩
      rw [Array.setIfInBounds_comm _ _ hji]
      exact y3
theorem wpG_all {rs : List Nat} {n : Nat} {l : Array Bool} {a : Act} {w : World} (hr : Region.ready .any ops l = rs) (hne : rs ≠ [])
    (h : ∀ i ∈ rs, wpOp P ops Q i (fun a' w' => Sst st S0 (l.setIfInBounds i true) w' ∧ wpG P ops Q st S0 n (l.setIfInBounds i true) a' w') a w) : wpG P ops Q st S0 (n + 1) l a w :=
  ⟨fun h0 => absurd (hr ▸ h0) hne, hr ▸ h⟩
theorem wpG_done {l : Array Bool} {a : Act} {w : World} (hr : Region.ready .any ops l = []) (h : Q .normal a w) : ∀ n, wpG P ops Q st S0 n l a w
  | 0 => ⟨hr, h⟩
  | _ + 1 => ⟨fun _ => h, by rw [hr]; simp⟩
end
/-- The store of a region, if it waits for all else. -/
def storeAt (ops : Array Oper) : Option (Option Nat) := match (List.range ops.size).filter (fun j => match ops[j]? with | some o => isStore o.op | none => false) with
  | [] => some none
  | [s] => match ops[s]? with
    | some os => match (List.range ops.size).all fun i => Nat.beq i s || os.after.any (fun e => Region.binds .any e && Nat.beq e.on i) with
      | true => some (some s)
      | false => none
    | none => none
  | _ => none
theorem storeAt_ok {ops : Array Oper} {st : Option Nat} (h : storeAt ops = some st) {i : Nat} (hi : i < ops.size) (hns : ∀ o, ops[i]? = some o → isStore o.op = false) : ∀ s, st = some s → s ≠ i ∧ ∃ os, ops[s]? = some os ∧ ∃ e ∈ os.after, Region.binds .any e = true ∧ e.on = i := by
  intro s hs
  subst hs
  unfold storeAt at h
  split at h
  · cases h
  · rename_i s' hf
    split at h <;> try (cases h; done)
    rename_i os hos
    split at h <;> try (cases h; done)
    rename_i hall
    simp only [Option.some.injEq] at h
    subst h
    have hmem : s' ∈ (List.range ops.size).filter (fun j => match ops[j]? with | some o => isStore o.op | none => false) := by rw [hf]; simp
    have hst : isStore os.op = true := by
      have := (List.mem_filter.1 hmem).2
      rw [hos] at this
      exact this
    have hne : s' ≠ i := fun e => by subst e; rw [hns os hos] at hst; cases hst
    have h1 := List.all_eq_true.1 hall i (by simpa using hi)
    simp only [Bool.or_eq_true, Array.any_eq_true', Bool.and_eq_true] at h1
    rcases h1 with h1 | ⟨e, he, hb, hon⟩
    · exact absurd (Nat.eq_of_beq_eq_true h1).symm hne
    · exact ⟨hne, os, hos, e, he, hb, Nat.eq_of_beq_eq_true hon⟩
  · cases h
theorem storeAt_lt {ops : Array Oper} {st : Option Nat} (h : storeAt ops = some st) (s : Nat) (hs : st = some s) : s < ops.size := by
  subst hs
  unfold storeAt at h
  split at h
  · cases h
  · split at h <;> try (cases h; done)
    rename_i os hos
    split at h <;> try (cases h; done)
    simp only [Option.some.injEq] at h
    subst h
    exact (Array.getElem?_eq_some_iff.1 hos).1
  · cases h
theorem storeAt_is {ops : Array Oper} {st : Option Nat} (h : storeAt ops = some st) {k : Nat} {o : Oper} (hk : ops[k]? = some o) (ho : isStore o.op = true) : st = some k := by
  have hm : k ∈ (List.range ops.size).filter (fun j => match ops[j]? with | some o => isStore o.op | none => false) := List.mem_filter.2 ⟨by simpa using (Array.getElem?_eq_some_iff.1 hk).1, by rw [hk]; exact ho⟩
  unfold storeAt at h
  split at h
  · rename_i hf; rw [hf] at hm; simp at hm
  · rename_i s hf
    rw [hf] at hm
    split at h <;> try (cases h; done)
    split at h <;> try (cases h; done)
    simp only [Option.some.injEq] at h
    subst h
    simp at hm
    rw [hm]
  · cases h
theorem mkL_nil {n s : Nat} (h : s < n) : (mkL n []).getD s true = false := by simp [mkL, h]
theorem getD_set_self (l : Array Bool) (k : Nat) : (l.setIfInBounds k true).getD k true = true := by
  by_cases h : k < l.size
  · simp [h]
  · simp [h]
end Go.Proofs.YtpiabmjipgfjjaaDoor
