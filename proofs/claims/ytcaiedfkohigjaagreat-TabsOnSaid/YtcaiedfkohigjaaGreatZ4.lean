/- Regions that draw their order, with stores anywhere. -/
import Derived.Test.YtcaiedfkohigjaaGreatZ3
namespace Go.Proofs.YtcaiedfkohigjaaGreat
open Go.RowKit
/-- Some store has come up. -/
def storeDone (ops : Array Oper) (l : Array Bool) : Prop := ∃ s os, ops[s]? = some os ∧ isStore os.op = true ∧ l.getD s true = true
/-- What holds behind every operation, as long as no store has come up. -/
def Sst (ops : Array Oper) (S0 : World → Prop) (l : Array Bool) (w : World) : Prop := storeDone ops l ∨ S0 w
def wpG (P : Program) (ops : Array Oper) (Q : Exit → Act → World → Prop) (S0 : World → Prop) : Nat → Array Bool → Act → World → Prop
  | 0, l, a, w => Region.ready .any ops l = [] ∧ Q .normal a w
  | n + 1, l, a, w => (Region.ready .any ops l = [] → Q .normal a w) ∧
    ∀ i ∈ Region.ready .any ops l, wpOp P ops Q i (fun a' w' => Sst ops S0 (l.setIfInBounds i true) w' ∧ wpG P ops Q S0 n (l.setIfInBounds i true) a' w') a w
/-- What has come up has all it waits for behind it. -/
def Clo (ops : Array Oper) (l : Array Bool) : Prop := ∀ j oj, ops[j]? = some oj → l.getD j true = true → ∀ e ∈ oj.after, Region.binds .any e = true → l.getD e.on false = true
theorem Clo.set {ops : Array Oper} {l : Array Bool} {j : Nat} (h : Clo ops l) (hj : j ∈ Region.ready .any ops l) : Clo ops (l.setIfInBounds j true) := by
  intro k ok hk hd e he hb
  by_cases hjk : j = k
  · subst hjk
    obtain ⟨_, o, ho, hall⟩ := mem_ready.1 hj
    rw [hk] at ho
    injection ho with ho
    subst ho
    exact getD_set_true (hall e he hb)
  · rw [getD_set_ne true hjk] at hd
    exact getD_set_true (h k ok hk hd e he hb)
theorem clo_nil {ops : Array Oper} : Clo ops (mkL ops.size []) := by
  intro j oj hj hd
  have hlt := (Array.getElem?_eq_some_iff.1 hj).1
  simp [mkL, hlt] at hd
/-- s waits for i. -/
def waitsT (ops : Array Oper) : Nat → Nat → Nat → Bool
  | 0, _, _ => false
  | n + 1, s, i => match ops[s]? with
    | some os => os.after.toList.any fun e => Region.binds .any e && (Nat.beq e.on i || waitsT ops n e.on i)
    | none => false
theorem waitsT_ok {ops : Array Oper} {l : Array Bool} (hc : Clo ops l) {i : Nat} : ∀ {n s : Nat}, waitsT ops n s i = true → (∀ os, ops[s]? = some os → ∀ e ∈ os.after, Region.binds .any e = true → l.getD e.on false = true) → l.getD i false = true := by
  intro n
  induction n with
  | zero => intro s h; simp [waitsT] at h
  | succ n ih =>
    intro s h hs
    unfold waitsT at h
    split at h <;> try (cases h; done)
    rename_i os hos
    rw [List.any_eq_true] at h
    obtain ⟨e, he, hb⟩ := h
    simp only [Bool.and_eq_true, Bool.or_eq_true] at hb
    have hd := hs os hos e (Array.mem_toList_iff.1 he) hb.1
    rcases hb.2 with h1 | h1
    · rw [← Nat.eq_of_beq_eq_true h1]; exact hd
    · refine ih h1 fun os' ho' e' he' hb' => hc e.on os' ho' ?_ e' he' hb'
      rcases Nat.lt_or_ge e.on l.size with hlt | hge
      · simp [hlt] at hd ⊢; exact hd
      · simp [Array.getElem?_eq_none hge] at hd
/-- Every store waits for i. -/
def allWait (ops : Array Oper) (i : Nat) : Bool := (List.range ops.size).all fun s => match ops[s]? with
  | some os => !isStore os.op || waitsT ops 4 s i
  | none => true
theorem allWait_ok {ops : Array Oper} {l : Array Bool} (hc : Clo ops l) {i j : Nat} {oj : Oper} (h : allWait ops i = true) (hi : l.getD i true = false) (hj : j ∈ Region.ready .any ops l) (hoj : ops[j]? = some oj) : isStore oj.op = false := by
  have h1 := List.all_eq_true.1 h j (by simpa using (Array.getElem?_eq_some_iff.1 hoj).1)
  rw [hoj] at h1
  simp only [Bool.or_eq_true, Bool.not_eq_true'] at h1
  rcases h1 with h1 | h1
  · exact h1
  · obtain ⟨_, o, ho, hall⟩ := mem_ready.1 hj
    rw [hoj] at ho
    injection ho with ho
    subst ho
    have := waitsT_ok hc h1 (fun os hos e he hb => by rw [hoj] at hos; injection hos with hos; subst hos; exact hall e he hb)
    rcases Nat.lt_or_ge i l.size with hlt | hge
    · simp [hlt] at hi this; rw [hi] at this; cases this
    · simp [Array.getElem?_eq_none hge] at this
section
variable {P : Program} {ops : Array Oper} {Q : Exit → Act → World → Prop} {S0 : World → Prop}
theorem storeDone.set {l : Array Bool} (h : storeDone ops l) (i : Nat) : storeDone ops (l.setIfInBounds i true) := by
  obtain ⟨s, os, h1, h2, h3⟩ := h
  refine ⟨s, os, h1, h2, ?_⟩
  by_cases hs : i = s
  · subst hs
    by_cases hlt : i < l.size
    · simp [hlt]
    · simp [hlt]
  · rw [getD_set_ne true hs]; exact h3
theorem storeDone.unset {l : Array Bool} {i : Nat} {oi : Oper} (hi : ops[i]? = some oi) (hq : isStore oi.op = false) (h : storeDone ops (l.setIfInBounds i true)) : storeDone ops l := by
  obtain ⟨s, os, h1, h2, h3⟩ := h
  refine ⟨s, os, h1, h2, ?_⟩
  have hs : i ≠ s := fun e => by subst e; rw [hi] at h1; injection h1 with h1; subst h1; rw [hq] at h2; cases h2
  rw [getD_set_ne true hs] at h3
  exact h3
theorem Sst.set {l : Array Bool} {w : World} (h : Sst ops S0 l w) (i : Nat) : Sst ops S0 (l.setIfInBounds i true) w := h.elim (fun h => .inl (h.set i)) .inr
theorem any_of_G : ∀ (n : Nat) (l : Array Bool) (a : Act) (w : World), wpG P ops Q S0 n l a w → wpAny P .any ops Q n l a w
  | 0, _, _, _, h => h
  | n + 1, _, _, _, h => ⟨h.1, fun i hi => wpOp_mono (fun a' w' h' => any_of_G n _ a' w' h'.2) (h.2 i hi)⟩
theorem ready_undone {l : Array Bool} {i j : Nat} {oj : Oper} (hr : i ∈ Region.ready .any ops l) (hj : j ∈ Region.ready .any ops l) (hoj : ops[j]? = some oj) : ∀ e ∈ oj.after, Region.binds .any e = true → e.on ≠ i := fun e he hb heq => by
  obtain ⟨_, o, ho, hall⟩ := mem_ready.1 hj
  rw [hoj] at ho
  injection ho with ho
  subst ho
  have hiun := (mem_ready.1 hr).1
  have h2 := hall e he hb
  rw [heq] at h2
  rcases Nat.lt_or_ge i l.size with h' | h'
  · simp [h'] at hiun h2; rw [hiun] at h2; cases h2
  · simp [Array.getElem?_eq_none h'] at h2
/-- A quiet operation that every store waits for may be taken first. -/
theorem wpG_first {i : Nat} {oi : Oper} {v : Value} (hi : ops[i]? = some oi) (hsel : ∀ (j : Nat) (o : Oper) cs b, ops[j]? = some o → o.op ≠ .select cs b)
    (hQ : ∀ c a w, Q (.panic c) (a.put oi.dst v) w → Q (.panic c) a w) (hq : isStore oi.op = false) (hst : allWait ops i = true) :
    ∀ (n : Nat) (l : Array Bool) (a : Act) (w : World),
      (∀ j oj, ops[j]? = some oj → j ≠ i → l.getD j true = false → (∀ e ∈ oj.after, Region.binds .any e = true → e.on ≠ i) → oi.apart ops oj = true) →
      Clo ops l → ¬ storeDone ops l → i ∈ Region.ready .any ops l → YieldsIf P ops S0 oi v a → S0 w →
      wpG P ops Q S0 n (l.setIfInBounds i true) (a.put oi.dst v) w → wpG P ops Q S0 (n + 1) l a w := by
  intro n
  induction n with
  | zero =>
    intro l a w _ _ _ hr hy hS H
    refine ⟨fun h => (by rw [h] at hr; cases hr), fun j hj => ?_⟩
    by_cases hji : j = i
    · subst hji; exact hy.wpOp hi hS ⟨.inr hS, H⟩
    · have := ready_mono hj hji
      rw [H.1] at this
      cases this
  | succ n ih =>
    intro l a w hfree hcl hun hr hy hS H
    refine ⟨fun h => (by rw [h] at hr; cases hr), fun j hj => ?_⟩
    by_cases hji : j = i
    · subst hji; exact hy.wpOp hi hS ⟨.inr hS, H⟩
    · have h1 := H.2 j (ready_mono hj hji)
      obtain ⟨hjun, oj, hoj, hall⟩ := mem_ready.1 hj
      have hiun := (mem_ready.1 hr).1
      have hjs := allWait_ok hcl hst hiun hj hoj
      have h2 := wpOp_putIf hoj (hfree j oj hoj hji hjun (ready_undone hr hj hoj)) (fun cs b => hsel i oi cs b hi) (fun cs b => hsel j oj cs b hoj) hQ hy h1
      have hun' : ¬ storeDone ops (l.setIfInBounds j true) := fun h => hun (h.unset hoj hjs)
      have hfree' : ∀ k ok, ops[k]? = some ok → k ≠ i → (l.setIfInBounds j true).getD k true = false → (∀ e ∈ ok.after, Region.binds .any e = true → e.on ≠ i) → oi.apart ops ok = true := fun k ok hk hki hu hno => by
        refine hfree k ok hk hki ?_ hno
        by_cases hjk : j = k
        · subst hjk; exact hjun
        · rw [getD_set_ne true hjk] at hu; exact hu
      refine wpOp_mono (fun a' w' h3 => ?_) h2
      obtain ⟨y1, y2, y3⟩ := h3
      have hS' : S0 w' := by
        rcases y2 with h | h
        · exact absurd ((h.unset hoj hjs).unset hi hq) hun
        · exact h
      refine ⟨.inr hS', ih (l.setIfInBounds j true) a' w' hfree' (hcl.set hj) hun' (ready_mono hr (Ne.symm hji)) y1 hS' ?_⟩
      rw [Array.setIfInBounds_comm _ _ hji]
      exact y3
/-- An operation that looks at no memory may be taken first. -/
theorem wpG_pure {i : Nat} {oi : Oper} {v : Value} (hi : ops[i]? = some oi) (hsel : ∀ (j : Nat) (o : Oper) cs b, ops[j]? = some o → o.op ≠ .select cs b)
    (hQ : ∀ c a w, Q (.panic c) (a.put oi.dst v) w → Q (.panic c) a w) (hq : isStore oi.op = false) :
    ∀ (n : Nat) (l : Array Bool) (a : Act) (w : World),
      (∀ j oj, ops[j]? = some oj → j ≠ i → l.getD j true = false → (∀ e ∈ oj.after, Region.binds .any e = true → e.on ≠ i) → oi.apart ops oj = true) →
      i ∈ Region.ready .any ops l → YieldsIf P ops (fun _ => True) oi v a → Sst ops S0 l w →
      wpG P ops Q S0 n (l.setIfInBounds i true) (a.put oi.dst v) w → wpG P ops Q S0 (n + 1) l a w := by
  intro n
  induction n with
  | zero =>
    intro l a w _ hr hy hS H
    refine ⟨fun h => (by rw [h] at hr; cases hr), fun j hj => ?_⟩
    by_cases hji : j = i
    · subst hji; exact hy.wpOp hi trivial ⟨hS.set _, H⟩
    · have := ready_mono hj hji
      rw [H.1] at this
      cases this
  | succ n ih =>
    intro l a w hfree hr hy hS H
    refine ⟨fun h => (by rw [h] at hr; cases hr), fun j hj => ?_⟩
    by_cases hji : j = i
    · subst hji; exact hy.wpOp hi trivial ⟨hS.set _, H⟩
    · have h1 := H.2 j (ready_mono hj hji)
      obtain ⟨hjun, oj, hoj, hall⟩ := mem_ready.1 hj
      have h2 := wpOp_putIf hoj (hfree j oj hoj hji hjun (ready_undone hr hj hoj)) (fun cs b => hsel i oi cs b hi) (fun cs b => hsel j oj cs b hoj) hQ hy h1
      have hfree' : ∀ k ok, ops[k]? = some ok → k ≠ i → (l.setIfInBounds j true).getD k true = false → (∀ e ∈ ok.after, Region.binds .any e = true → e.on ≠ i) → oi.apart ops ok = true := fun k ok hk hki hu hno => by
        refine hfree k ok hk hki ?_ hno
        by_cases hjk : j = k
        · subst hjk; exact hjun
        · rw [getD_set_ne true hjk] at hu; exact hu
      refine wpOp_mono (fun a' w' h3 => ?_) h2
      obtain ⟨y1, y2, y3⟩ := h3
      have hS' : Sst ops S0 (l.setIfInBounds j true) w' := by
        rcases y2 with h | h
        · rw [Array.setIfInBounds_comm _ _ (Ne.symm hji)] at h
          exact .inl (h.unset hi hq)
        · exact .inr h
      refine ⟨hS', ih (l.setIfInBounds j true) a' w' hfree' (ready_mono hr (Ne.symm hji)) y1 hS' ?_⟩
      rw [Array.setIfInBounds_comm _ _ hji]
      exact y3
theorem wpG_all {rs : List Nat} {n : Nat} {l : Array Bool} {a : Act} {w : World} (hr : Region.ready .any ops l = rs) (hne : rs ≠ [])
    (h : ∀ i ∈ rs, wpOp P ops Q i (fun a' w' => Sst ops S0 (l.setIfInBounds i true) w' ∧ wpG P ops Q S0 n (l.setIfInBounds i true) a' w') a w) : wpG P ops Q S0 (n + 1) l a w :=
  ⟨fun h0 => absurd (hr ▸ h0) hne, hr ▸ h⟩
theorem wpG_done {l : Array Bool} {a : Act} {w : World} (hr : Region.ready .any ops l = []) (h : Q .normal a w) : ∀ n, wpG P ops Q S0 n l a w
  | 0 => ⟨hr, h⟩
  | _ + 1 => ⟨fun _ => h, by rw [hr]; simp⟩
end
theorem getD_set_self (l : Array Bool) (k : Nat) : (l.setIfInBounds k true).getD k true = true := by
  by_cases h : k < l.size
  · simp [h]
  · simp [h]
end Go.Proofs.YtcaiedfkohigjaaGreat
/- Regions of calls whose results are data: one order stands for all. -/
namespace Go.Proofs.YtcaiedfkohigjaaGreat
open Go.RowKit
def isQ : Op → Bool
  | .move _ | .assign _ | .nilCheck _ | .pick .. | .load .. | .fieldAddr .. | .indexAddr .. | .extract .. | .build .. | .makeFunc .. | .slice .. | .binOp .. | .unOp .. | .convert .. | .index .. => true
  | .call ⟨.builtin .len, _, _⟩ | .call ⟨.builtin .max, _, _⟩ | .call ⟨.builtin .min, _, _⟩ => true
  | _ => false
/-- What a call's frame keeps. -/
def selS (L : SL) : List Nat → SL
  | [] => []
  | t :: ts => match lookS L t with
    | some s => (t, s) :: selS L ts
    | none => selS L ts
/-- What is said anew stands ahead of what was said: nothing is taken out. -/
abbrev delS (L : SL) (_ : Nat) : SL := L
/-- An operation's guard: how to go on if it is wanted, if it is not. -/
def guarded {R : Type} (ops : Array Oper) (L : SL) (o : Oper) (yes no : SL → Option R) : Option R := match o.guard with
  | none => yes L
  | some (j, want) => match (ops[j]?).bind (·.dst) with
    | some d => match lookS L d with
      | some (.d .bool b) => match b with
        | true => match want with
          | true => yes ((d, .d .bool true) :: L)
          | false => no ((d, .d .bool true) :: L)
        | false => match want with
          | true => no ((d, .d .bool false) :: L)
          | false => yes ((d, .d .bool false) :: L)
      | some .undef => no L
      | _ => none
    | none => none
/-- A quiet operation that gives one value. -/
def quietT (o : Op) : Bool := isQ o && match o with
  | .binOp op _ _ y _ => (nilOf op y).isNone
  | _ => true
def tameE (E : Env) : Op → Bool
  | .call ⟨.value (.func f), _, _⟩ => match lookE E f with
    | some sp => sp.tame && sp.mut_.isNone
    | none => false
  | _ => false
def isAlloc (o : Oper) : Bool := (match o.op with
  | .alloc _ => true
  | _ => false) && o.guard.isNone && o.dst.isSome
def isTam (E : Env) (o : Oper) : Bool := quietT o.op || tameE E o.op
def tamAt (E : Env) (ops : Array Oper) (j : Nat) : Bool := match ops[j]? with
  | some o => isTam E o
  | none => false
/-- Neither tame nor an allocation. -/
def lateAt (E : Env) (ops : Array Oper) (j : Nat) : Bool := match ops[j]? with
  | some o => !(isTam E o) && !(isAlloc o)
  | none => false
/-- All that is late waits for i. -/
def allLate (E : Env) (ops : Array Oper) (i : Nat) : Bool := (List.range ops.size).all fun s => !(lateAt E ops s) || waitsT ops 4 s i
/-- Allocations and stores, and what is tame. -/
def alsForm (E : Env) (ops : Array Oper) : Bool := ops.toList.all fun o => isTam E o || isAlloc o || (isStore o.op && o.guard.isNone && o.dst.isNone)
/-- A quiet operation that looks at no memory. -/
def pureT (o : Oper) : Bool := quietT o.op && !(isLoad o.op)
/-- Whatever looks at memory or calls comes ahead of all that is late. -/
def strictR (E : Env) (ops : Array Oper) : Bool := (List.range ops.size).all fun j => match ops[j]? with
  | some o => !(isTam E o) || pureT o || allLate E ops j
  | none => true
/-- Every store goes into a variable that is new here. -/
def newForm (ops : Array Oper) : Bool := ops.toList.all fun o => match o.op with
  | .store _ (.tmp d) _ => ops.toList.any fun a => isAlloc a && (match a.dst with
    | some e => Nat.beq e d
    | none => false)
  | .store .. => false
  | _ => true
def tameR (E : Env) (ops : Array Oper) : Bool := (strictR E ops || (alsForm E ops && newForm ops)) && E.any (fun p => p.2.tame) && (!(ops.toList.any isAlloc) || alsForm E ops)
def outS : List RV → Option SV
  | [.d t x] => some (.d t x)
  | [.new _ _ _] => none
  | rs => match rvS rs with
    | some l => some (.tup l)
    | none => none
def tcall {R : Type} (T : TT) (E : Env) (L : SL) (H : List Item) (f : Nat) (args : List Operand) (tys : List Nat) (k : SV → Option R) : Option R := match lookE E f with
  | some sp => match allS L args with
    | some ss => match argS T H ss tys, ss.all SV.noOwn with
      | some al, true => sp.run R al fun rs => match outS rs with
        | some s => k s
        | none => none
      | _, _ => none
    | none => none
  | none => none
noncomputable def tq {R : Type} (P : Program) (T : TT) (E : Env) (L : SL) (H : List Item) (o : Oper) (k : SV → Option R) : Option R := match quietT o.op with
  | true => qop P T true L H o k
  | false => match tameE E o.op, o.op with
    | true, .call ⟨.value (.func f), args, tys⟩ => tcall T E L H f args.toList tys.toList k
    | _, _ => none
def SV.refs (hl : Nat) : SV → Bool
  | .box j _ => Nat.ble (j + 1) hl
  | .own j => Nat.ble (j + 1) hl
  | .oelt j _ _ _ => Nat.ble (j + 1) hl
  | .osl j _ _ _ => Nat.ble (j + 1) hl
  | .clo _ caps => caps.all fun j => Nat.ble (j + 1) hl
  | .tup _ => false
  | _ => true
def SV.refsT (hl : Nat) : SV → Bool
  | .tup l => l.all (SV.refs hl)
  | s => s.refs hl
/-- Nothing tame is left, but what waits for something late. -/
def onlyL (E : Env) (ops : Array Oper) (l : Array Bool) : Bool := (List.range ops.size).all fun k => l.getD k true || !(tamAt E ops k) || (List.range ops.size).any fun s => lateAt E ops s && !(l.getD s true) && waitsT ops 4 k s
/-- An allocation: its place, its slot, its type, its cells. -/
structure AlA where
  i : Nat
  d : Nat
  t : Nat
  cs : List SV
/-- A store: its place, the variable, the first cell, what is stored. -/
structure AlS where
  i : Nat
  j : Nat
  off : Nat
  l : List SV
def alA (T : TT) (N : Nat) : List Oper → Nat → Option (List AlA)
  | [], _ => some []
  | o :: r, i => match isAlloc o with
    | false => alA T N r (i + 1)
    | true => match o.op, o.dst with
      | .alloc t, some d => match lookT T t, Nat.ble (d + 1) N, alA T N r (i + 1) with
        | some x, true, some l => match x.z, x.ty with
          | _, .pair _ _ => none
          | true, ty => match l.all (fun b => !(Nat.beq i b.i) && !(Nat.beq d b.d)) with
            | true => some (⟨i, d, t, ty.zsplit⟩ :: l)
            | false => none
          | _, _ => none
        | _, _, _ => none
      | _, _ => none
def alLf (f : Nat → Bool) : List AlA → Nat → SL → SL
  | [], _, L => L
  | a :: r, k, L => alLf f r (k + 1) (match f a.i with
    | true => (a.d, .box k 0) :: L
    | false => L)
def alX (f : Nat → Bool) (la : List AlA) : List Item := la.map fun a => match f a.i with
  | true => .box a.t a.cs
  | false => .gone
def opIs : Operand → Nat → Bool
  | .tmp t, d => Nat.beq t d
  | _, _ => false
def farS (s p : AlS) : Bool := !(Nat.beq s.i p.i) && (!(Nat.beq s.j p.j) || Nat.ble (s.off + s.l.length) p.off || Nat.ble (p.off + p.l.length) s.off)
def tgtW (ops : Array Oper) (i j : Nat) : List AlA → Nat → Bool
  | [], _ => true
  | a :: r, k => (!(Nat.beq j k) || waitsT ops 4 i a.i) && tgtW ops i j r (k + 1)
def alS (T : TT) (E : Env) (ops : Array Oper) (l : Array Bool) (la : List AlA) (h0 : Nat) (La : SL) (Ha : List Item) : List Oper → Nat → Option (List AlS)
  | [], _ => some []
  | o :: r, i => match l.getD i true || isAlloc o || isTam E o with
    | true => alS T E ops l la h0 La Ha r (i + 1)
    | false => match o.op with
      | .store t x v => match o.guard, o.dst, opS La x, opS La v, lookT T t with
        | none, none, some (.box j off), some s, some y => match splitS [] s, Ha[j]?, alS T E ops l la h0 La Ha r (i + 1) with
          | some cs, some (.box _ cells), some ss => match Nat.beq cs.length y.ty.n && Nat.ble (off + cs.length) cells.length && cs.all (SV.refs h0) && la.all (fun a => !(opIs x a.d || opIs v a.d) || waitsT ops 4 i a.i) && tgtW ops i j la h0 && ss.all (farS ⟨i, j, off, cs⟩) with
            | true => some (⟨i, j, off, cs⟩ :: ss)
            | false => none
          | _, _, _ => none
        | _, _, _, _, _ => none
      | _ => none
def stP (s : AlS) (H : List Item) : List Item := match H[s.j]? with
  | some (.box bt cells) => H.set s.j (.box bt (over cells s.off s.l))
  | _ => H
def stHf (f : Nat → Bool) : List AlS → List Item → List Item
  | [], H => H
  | s :: r, H => match f s.i with
    | true => stP s (stHf f r H)
    | false => stHf f r H
/-- In this order all that is left may come. -/
def depA (ops : Array Oper) : Array Bool → List Nat → Bool
  | _, [] => true
  | l, i :: r => (match ops[i]? with
    | some o => o.after.toList.all fun e => !(Region.binds .any e) || l.getD e.on false
    | none => false) && depA ops (l.setIfInBounds i true) r
/-- Allocations and stores at a region's end, in one order. -/
def waitC (E : Env) (ops : Array Oper) (l : Array Bool) (C : List Nat) : Bool := (List.range ops.size).all fun k => l.getD k true || !(tamAt E ops k) || C.all (fun j => waitsT ops 4 k j)
def alsF (T : TT) (E : Env) (N : Nat) (ops : Array Oper) (l : Array Bool) (L : SL) (H : List Item) : Option (SL × List Item × List Nat) := match alA T N ops.toList 0 with
  | some la => match alS T E ops l la H.length (alLf (fun _ => true) la H.length L) (H ++ alX (fun _ => true) la) ops.toList 0 with
    | some ss => match depA ops l (la.map (·.i) ++ ss.map (·.i)) && waitC E ops l (la.map (·.i) ++ ss.map (·.i)) && (strictR E ops || (ss.all (fun s => Nat.ble H.length s.j) && (List.range ops.size).all fun k => l.getD k true || !(tamAt E ops k))) with
      | true => some (alLf (fun _ => true) la H.length L, stHf (fun _ => true) ss (H ++ alX (fun _ => true) la), la.map (·.i) ++ ss.map (·.i))
      | false => none
    | none => none
  | none => none
def pickT (E : Env) (ops : Array Oper) (D : List Nat) : List Nat → Option Nat
  | [] => none
  | j :: r => match ops[j]? with
    | some o => match isTam E o && o.dst.isSome && Region.free .any ops (mkL ops.size D) j && (pureT o || allLate E ops j || !(strictR E ops)) with
      | true => some j
      | false => pickT E ops D r
    | none => none
/-- All that is left is tame. -/
def restT (E : Env) (ops : Array Oper) (l : Array Bool) : Bool := E.any (fun p => p.2.tame) && (List.range ops.size).all fun k => l.getD k true || tamAt E ops k
def pickE (E : Env) (ops : Array Oper) (D : List Nat) : List Nat → Option Nat
  | [] => none
  | j :: r => match ops[j]? with
    | some o => match isTam E o && o.dst.isSome && Region.free .any ops (mkL ops.size D) j with
      | true => some j
      | false => pickE E ops D r
    | none => none
end Go.Proofs.YtcaiedfkohigjaaGreat
/- The pure machine. -/
namespace Go.Proofs.YtcaiedfkohigjaaGreat
open Go.RowKit

inductive KJ where
  | seq (i : Nat)
  | blk (id : Nat)
  | lp (i : Nat)
/-- A call that waits. -/
structure Fm where
  f : Nat
  K : List KJ
  i : Nat
  k : Nat
  L : SL
  fl : Nat
  d : Option (List Nat) := none
structure Cfg where
  f : Nat
  K : List KJ
  L : SL
  H : List Item
  fl : Nat
  fs : List Fm
/-- The rows that waiting calls speak of lie below. -/
def maxN (a b : Nat) : Nat := bif Nat.ble a b then b else a
def SV.ofm : SV → Nat
  | .own j => j + 1
  | .oelt j _ _ _ => j + 1
  | .osl j _ _ _ => j + 1
  | _ => 0
def SV.ofmT : SV → Nat
  | .tup l => l.foldr (fun s m => maxN s.ofm m) 0
  | s => s.ofm
def slM : SL → Nat
  | [] => 0
  | (_, s) :: r => maxN s.ofmT (slM r)
def aflr : List Fm → Nat
  | [] => 0
  | fm :: r => maxN (slM fm.L) (aflr r)
inductive Pos where
  | nrm
  | node (i : Nat)
  | ops (i k : Nat)
  | drw (i : Nat) (rw eff : Bool) (D : List Nat)
  | tam (i : Nat) (D : List Nat)
  | tal (i : Nat) (D : List Nat)
  | ret
abbrev FT := List (Nat × Func)
def lookF : FT → Nat → Option Func
  | [], _ => none
  | (k, x) :: r, t => match Nat.beq k t with
    | true => some x
    | false => lookF r t
def bodyF (F : FT) (f : Nat) : Code := match lookF F f with
  | some fn => fn.body.getD .skip
  | none => .skip
/-- What a loop's head keeps: slots; rows that are to be owned (slot, element's type, its form); slots that are to be data; the number of items. -/
structure NI where
  keep : List Nat
  own : List (Nat × Nat × Ty) := []
  pure_ : List (Nat × Ty) := []
  bx : List (Nat × Nat × Nat × Ty) := []
  hl : Nat
abbrev NT := List ((Nat × Nat) × NI)
def lookN : NT → Nat → Nat → Option NI
  | [], _, _ => none
  | ((f, i), x) :: r, g, j => match Nat.beq f g && Nat.beq i j with
    | true => some x
    | false => lookN r g j
def putS (n : Nat) (L : SL) : Option Nat → SV → Option SL
  | none, _ => some L
  | some d, s => match Nat.ble (d + 1) n with
    | true => some ((d, s) :: delS L d)
    | false => none
def cutF (N : NT) (f i : Nat) (L : SL) : SL := match lookN N f i with
  | some x => selS L x.keep
  | none => L
def pickS (L : SL) : List Nat → Option SL
  | [] => some []
  | t :: ts => match lookS L t, pickS L ts with
    | some s, some r => some ((t, s) :: r)
    | _, _ => none
def Item.refs (hl : Nat) : Item → Bool
  | .box _ cs => cs.all (SV.refs hl)
  | _ => true
def normOwn : List (Nat × Nat × Ty) → SL → List Item → Option (SL × List Item)
  | [], L, H => some (L, H)
  | (t, et, e) :: r, L, H => match lookS L t with
    | some .nil => match Nat.ble 1 e.n with
      | true => normOwn r ((t, .own H.length) :: delS L t) (H ++ [.row et e []])
      | false => none
    | _ => normOwn r L H
def normPure (fl : Nat) : List (Nat × Ty) → SL → List Item → Option (SL × List Item)
  | [], L, H => some (L, H)
  | (t, e) :: r, L, H => match lookS L t with
    | some .nil => normPure fl r ((t, .d (.sl e) []) :: delS L t) H
    | some (.own j) => match giveUp fl j L H with
      | some (L', H') => normPure fl r L' H'
      | none => none
    | _ => normPure fl r L H
/-- Variables that hold nil hold a row of their own. -/
def normBx : List (Nat × Nat × Nat × Ty) → List Item → List Item
  | [], H => H
  | (j, q, et, e) :: r, H => match H[j]? with
    | some (.box t cs) => match cs[q]?, Nat.ble 1 e.n with
      | some .nil, true => normBx r ((H.set j (.box t (cs.set q (.own H.length)))) ++ [.row et e []])
      | _, _ => normBx r H
    | _ => normBx r H
def norm (x : NI) (c : Cfg) : Option Cfg := match normOwn x.own c.L (normBx x.bx c.H) with
  | some (L1, H1) => match normPure c.fl x.pure_ L1 H1 with
    | some (L2, H2) => match pickS L2 x.keep with
      | some L3 => match L3.all (fun p => p.2.refs x.hl) && (H2.take x.hl).all (Item.refs x.hl) && Nat.ble c.fl x.hl && Nat.ble x.hl H2.length with
        | true => some { c with L := L3, H := H2.take x.hl }
        | false => none
      | none => none
    | none => none
  | none => none
def wayJ (id : Nat) : List KJ → Option (List KJ)
  | [] => none
  | .blk j :: K => match Nat.beq j id with
    | true => some K
    | false => wayJ id K
  | _ :: K => wayJ id K
def pickQ (ops : Array Oper) (eff : Bool) (D : List Nat) : List Nat → Option Nat
  | [] => none
  | j :: r => match ops[j]? with
    | some o => match isQ o.op && !(isLoad o.op && (eff || !allWait ops j)) && o.dst.isSome && Region.free .any ops (mkL ops.size D) j with
      | true => some j
      | false => pickQ ops eff D r
    | none => none
/-- The results, as data. -/
def resS (T : TT) (H : List Item) (L : SL) : List ResultVar → Option (List SV)
  | [] => some []
  | .tmp t :: r => match lookS L t, resS T H L r with
    | some s, some l => some (s :: l)
    | _, _ => none
  | .cell ad t :: r => match lookS L ad, lookT T t, resS T H L r with
    | some (.box j off), some i, some l => match H[j]? with
      | some (.box _ cells) => match loadB i.ty (cells.drop off) with
        | some s => some (s :: l)
        | none => none
      | _ => none
    | _, _, _ => none
def outR (T : TT) (H : List Item) (ss : List SV) (tys : List Nat) : Option (List RV) := match ss with
  | [.own j] => match H[j]? with
    | some (.row et e xs) => some [.new et e xs]
    | _ => none
  | [.nil] => match tys with
    | [t] => match lookT T t with
      | some i => match i.ty with
        | .sl e => match Nat.ble 1 e.n with
          | true => some [.new i.el e []]
          | false => none
        | _ => none
      | none => none
    | _ => none
  | ss => match argS T H ss tys with
    | some l => outL l
    | none => none
where outL : List SV → Option (List RV)
  | [] => some []
  | .d t x :: r => match outL r with
    | some l => some (.d t x :: l)
    | none => none
  | _ => none
/-! Results that are equal, told by looking. -/
def beqL {α : Type} (f : α → α → Bool) : List α → List α → Bool
  | [], [] => true
  | x :: l, y :: m => match f x y with
    | true => beqL f l m
    | false => false
  | _, _ => false
theorem beqL_ok {α : Type} {f : α → α → Bool} (hf : ∀ x y, f x y = true → x = y) : ∀ {l m : List α}, beqL f l m = true → l = m
  | [], [], _ => rfl
  | x :: l, y :: m, h => by
    simp only [beqL] at h
    split at h
    · rename_i h1; rw [hf x y h1, beqL_ok hf h]
    · cases h
  | [], _ :: _, h => by cases h
  | _ :: _, [], h => by cases h
def Ty.beq : (t : Ty) → t.D → t.D → Bool
  | .int _, x, y => decide ((x : Int) = y)
  | .bool, x, y => match x, y with
    | true, true => true
    | false, false => true
    | _, _ => false
  | .str, _, _ => false
  | .sl e, x, y => beqL e.beq x y
  | .pair a b, x, y => match a.beq x.1 y.1 with
    | true => b.beq x.2 y.2
    | false => false
  | .st a, x, y => a.beq x y
theorem Ty.beq_ok : ∀ (t : Ty) (x y : t.D), t.beq x y = true → x = y
  | .int _, x, y, h => of_decide_eq_true (p := (x : Int) = y) h
  | .bool, x, y, h => by cases x <;> cases y <;> first | rfl | cases h
  | .str, _, _, h => by cases h
  | .sl e, x, y, h => beqL_ok e.beq_ok h
  | .pair a b, (x1, x2), (y1, y2), h => by
    simp only [Ty.beq] at h
    split at h
    · rename_i h1
      rw [a.beq_ok _ _ h1, b.beq_ok _ _ h]
    · cases h
  | .st a, x, y, h => a.beq_ok x y h
def RV.beq : RV → RV → Bool
  | .d t x, .d t' y => match castD t t' x with
    | some z => t'.beq z y
    | none => false
  | .new n e xs, .new m e' ys => match Nat.beq n m, castD (.sl e) (.sl e') xs with
    | true, some z => Ty.beq (.sl e') z ys
    | _, _ => false
  | _, _ => false
theorem RV.beq_ok : ∀ (x y : RV), x.beq y = true → x = y
  | .d t x, .d t' y, h => by
    simp only [RV.beq] at h
    split at h
    · rename_i z hz
      obtain ⟨rfl, rfl⟩ := castD_some hz
      rw [← Ty.beq_ok _ _ _ h]
    · cases h
  | .new n e xs, .new m e' ys, h => by
    simp only [RV.beq] at h
    split at h
    · rename_i z h1 hz
      obtain ⟨he, rfl⟩ := castD_some hz
      cases he
      rw [← Ty.beq_ok _ _ _ h, Nat.eq_of_beq_eq_true h1]
    · cases h
  | .d _ _, .new _ _ _, h => by cases h
  | .new _ _ _, .d _ _, h => by cases h
def eqRV : Option (List RV) → Option (List RV) → Bool
  | some x, some y => beqL RV.beq x y
  | _, _ => false
/-- Two ways that must give the same. -/
noncomputable def bothV (x y : Option (List RV)) : Option (List RV) := match eqRV x y with
  | true => x
  | false => both x y
theorem bothV_self (x : Option (List RV)) : bothV x x = x := by
  unfold bothV
  split
  · rfl
  · exact both_self x
theorem bothV_some {x y : Option (List RV)} {r : List RV} (h : bothV x y = some r) : x = some r ∧ y = some r := by
  unfold bothV at h
  split at h
  · rename_i he
    subst h
    cases y with
    | none => cases he
    | some y => exact ⟨rfl, by rw [beqL_ok RV.beq_ok he]⟩
  · exact both_some h
inductive Sh where
  | l
  | b (x y : Sh)
/-- The same, as often as there are ways. -/
noncomputable def dup : Sh → Option (List RV) → Option (List RV)
  | .l, x => x
  | .b s t, x => bothV (dup s x) (dup t x)
theorem dup_eq : ∀ (s : Sh) (x : Option (List RV)), dup s x = x
  | .l, _ => rfl
  | .b s t, x => by rw [dup, dup_eq s, dup_eq t, bothV_self]
/-- All ways must give the same. -/
noncomputable def allR (f : Nat → Option (List RV)) : List Nat → Option (List RV)
  | [] => none
  | j :: rs => match rs with
    | [] => f j
    | _ :: _ => bothV (f j) (allR f rs)
theorem allR_some {f : Nat → Option (List RV)} {r : List RV} : ∀ {rs : List Nat}, allR f rs = some r → ∀ j ∈ rs, f j = some r
  | [], h => by simp [allR] at h
  | [q], h => by intro j hj; simp at hj; subst hj; exact h
  | q :: q' :: rs, h => by
    have h : bothV (f q) (allR f (q' :: rs)) = some r := h
    have ⟨h1, h2⟩ := bothV_some h
    intro j hj
    rcases List.mem_cons.1 hj with rfl | hj
    · exact h1
    · exact allR_some h2 j hj
def bndl : List SV → SV
  | [s] => s
  | l => .tup l
section
variable (P : Program) (F : FT) (T : TT) (E : Env) (N : NT) (Fin : Nat → Cfg → Option (List RV))
def head (i : Nat) (c : Cfg) : Option (List RV) := match lookN N c.f i with
  | some x => match norm x c with
    | some c' => Fin i c'
    | none => none
  | none => Fin i c
def ntm (f : Nat) : Nat := match lookF F f with
  | some fn => fn.ntmps
  | none => 0
def argsL : Nat → List SV → SL
  | _, [] => []
  | k, s :: r => (k, s) :: argsL (k + 1) r
/-- What is called, if it is to be walked into. -/
def into (L : SL) (o : Op) : Option (Nat × List SV) := match o with
  | .call ⟨.value f, args, _⟩ => match opS L f with
    | some (.clo g caps) => match lookE E g with
      | some _ => none
      | none => match lookF F g, allS L args.toList with
        | some fn, some ss => match Nat.ble (ss.length + caps.length) fn.ntmps && (!(fn.name == "runtime.NumGoroutine") && fn.body.isSome) with
          | true => some (g, ss ++ caps.map fun j => .box j 0)
          | false => none
        | _, _ => none
    | _ => none
  | _ => none
/-- The one call that is left to be walked into. -/
def callF (L : SL) (ops : Array Oper) (D : List Nat) : Option Nat := match strictR E ops && !(ops.toList.any isAlloc), Region.ready .any ops (mkL ops.size D) with
  | true, [j] => match ops[j]? with
    | some o => match isQ o.op, into F E L o.op, Nat.ble (D.length + 1) ops.size with
      | false, some _, true => some j
      | _, _, _ => none
    | none => none
  | _, _ => none
noncomputable def go : Nat → Cfg → Pos → Option (List RV)
  | 0, _, _ => none
  | m + 1, c, p => match p with
    | .nrm => match c.K with
      | [] => go m c .ret
      | .seq j :: K => go m { c with K := K } (.node j)
      | .blk _ :: K => go m { c with K := K } .nrm
      | .lp i :: K => head N Fin i { c with K := K }
    | .node i => match nth (bodyF F c.f) i with
      | .skip => go m c .nrm
      | .seq a _ => go m { c with K := .seq (i + 1 + Code.size a) :: c.K } (.node (i + 1))
      | .block id _ => go m { c with K := .blk id :: c.K } (.node (i + 1))
      | .exit id => match wayJ id c.K with
        | some K => go m { c with K := K } .nrm
        | none => none
      | .ret => go m c .ret
      | .cond x a _ => match opS c.L x with
        | some (.d .bool b) => match b with
          | true => go m c (.node (i + 1))
          | false => go m c (.node (i + 1 + Code.size a))
        | _ => none
      | .loop _ => head N Fin i c
      | .region _ _ false => go m c (.ops i 0)
      | .region _ ops true => match Region.noSelect ops with
        | true => match tameR E ops with
          | true => go m c (.tam i [])
          | false => go m c (.drw i (!(ops.any fun o => isApp o.op)) false [])
        | false => none
      | _ => none
    | .ops i k => match (opsAt (nth (bodyF F c.f) i))[k]? with
      | none => go m c .nrm
      | some o => guarded (opsAt (nth (bodyF F c.f) i)) c.L o
          (fun L => match isQ o.op with
            | true => qop P T true L c.H o fun s => match putS (ntm F c.f) L o.dst s with
              | some L' => go m { c with L := L' } (.ops i (k + 1))
              | none => none
            | false => match into F E L o.op with
              | some (g, ss) => go m { f := g, K := [], L := argsL 0 ss, H := c.H, fl := c.H.length, fs := { f := c.f, K := c.K, i := i, k := k, L := cutF N c.f i L, fl := c.fl } :: c.fs } (.node 0)
              | none => eop T E (aflr c.fs) L c.H o fun s H' L1 => match putS (ntm F c.f) L1 o.dst s with
                | some L' => go m { c with L := L', H := H' } (.ops i (k + 1))
                | none => none)
          (fun L => match putS (ntm F c.f) L o.dst .undef with
            | some L' => go m { c with L := L' } (.ops i (k + 1))
            | none => none)
    | .drw i rw eff D => match restT E (opsAt (nth (bodyF F c.f) i)) (mkL (opsAt (nth (bodyF F c.f) i)).size D) with
      | true => go m c (.tal i D)
      | false => match Region.ready .any (opsAt (nth (bodyF F c.f) i)) (mkL (opsAt (nth (bodyF F c.f) i)).size D) with
      | [] => go m c .nrm
      | rs => match Nat.ble (D.length + 1) (opsAt (nth (bodyF F c.f) i)).size with
        | false => none
        | true => match pickQ (opsAt (nth (bodyF F c.f) i)) eff D rs with
          | some j => match (opsAt (nth (bodyF F c.f) i))[j]? with
            | none => none
            | some o => guarded (opsAt (nth (bodyF F c.f) i)) c.L o
              (fun L => qop P T rw L c.H o fun s => match putS (ntm F c.f) L o.dst s with
                | some L' => go m { c with L := L' } (.drw i rw eff (j :: D))
                | none => none)
              (fun L => match putS (ntm F c.f) L o.dst .undef with
                | some L' => go m { c with L := L' } (.drw i rw eff (j :: D))
                | none => none)
          | none => allR (fun j => match (opsAt (nth (bodyF F c.f) i))[j]? with
              | none => none
              | some o => guarded (opsAt (nth (bodyF F c.f) i)) c.L o
                (fun L => match isQ o.op with
                  | true => qop P T true L c.H o fun s => match putS (ntm F c.f) L o.dst s with
                    | some L' => go m { c with L := L' } (.drw i rw eff (j :: D))
                    | none => none
                  | false => match isMut E L o.op || (isApp o.op && rw) with
                    | true => none
                    | false => eop T E (aflr c.fs) L c.H o fun s H' L1 => match putS (ntm F c.f) L1 o.dst s with
                      | some L' => go m { c with L := L', H := H' } (.drw i rw true (j :: D))
                      | none => none)
                (fun L => match putS (ntm F c.f) L o.dst .undef with
                  | some L' => go m { c with L := L' } (.drw i rw (eff || isStore o.op) (j :: D))
                  | none => none)) rs
    | .tam i D => match onlyL E (opsAt (nth (bodyF F c.f) i)) (mkL (opsAt (nth (bodyF F c.f) i)).size D) with
      | true => match callF F E c.L (opsAt (nth (bodyF F c.f) i)) D with
        | some j => match (opsAt (nth (bodyF F c.f) i))[j]? with
          | some o => guarded (opsAt (nth (bodyF F c.f) i)) c.L o
            (fun L => match into F E L o.op with
              | some (g, ss) => go m { f := g, K := [], L := argsL 0 ss, H := c.H, fl := c.H.length, fs := { f := c.f, K := c.K, i := i, k := j, L := cutF N c.f i L, fl := c.fl, d := some (j :: D) } :: c.fs } (.node 0)
              | none => none)
            (fun L => match putS (ntm F c.f) L o.dst .undef with
              | some L' => go m { c with L := L' } (.tal i (j :: D))
              | none => none)
          | none => none
        | none => match alsForm E (opsAt (nth (bodyF F c.f) i)) with
        | true => match alsF T E (ntm F c.f) (opsAt (nth (bodyF F c.f) i)) (mkL (opsAt (nth (bodyF F c.f) i)).size D) c.L c.H with
          | some (L', H', C) => match Nat.ble (C ++ D).length (opsAt (nth (bodyF F c.f) i)).size with
            | true => go m { c with L := L', H := H' } (.drw i true true (C ++ D))
            | false => none
          | none => match (opsAt (nth (bodyF F c.f) i)).toList.any isAlloc || !(strictR E (opsAt (nth (bodyF F c.f) i))) with
            | true => none
            | false => go m c (.drw i (!((opsAt (nth (bodyF F c.f) i)).any fun o => isApp o.op)) false D)
        | false => match (opsAt (nth (bodyF F c.f) i)).toList.any isAlloc || !(strictR E (opsAt (nth (bodyF F c.f) i))) with
          | true => none
          | false => go m c (.drw i (!((opsAt (nth (bodyF F c.f) i)).any fun o => isApp o.op)) false D)
      | false => match Nat.ble (D.length + 1) (opsAt (nth (bodyF F c.f) i)).size, pickT E (opsAt (nth (bodyF F c.f) i)) D (Region.ready .any (opsAt (nth (bodyF F c.f) i)) (mkL (opsAt (nth (bodyF F c.f) i)).size D)) with
        | true, some j => match (opsAt (nth (bodyF F c.f) i))[j]? with
          | some o => guarded (opsAt (nth (bodyF F c.f) i)) c.L o
            (fun L => tq P T E (selS L (o.looksAt (opsAt (nth (bodyF F c.f) i)))) c.H o fun s => match putS (ntm F c.f) L o.dst s, s.refsT c.H.length with
              | some L', true => go m { c with L := L' } (.tam i (j :: D))
              | _, _ => none)
            (fun L => match putS (ntm F c.f) L o.dst .undef with
              | some L' => go m { c with L := L' } (.tam i (j :: D))
              | none => none)
          | none => none
        | _, _ => none
    | .tal i D => match Region.ready .any (opsAt (nth (bodyF F c.f) i)) (mkL (opsAt (nth (bodyF F c.f) i)).size D) with
      | [] => go m c .nrm
      | rs => match Nat.ble (D.length + 1) (opsAt (nth (bodyF F c.f) i)).size, pickE E (opsAt (nth (bodyF F c.f) i)) D rs with
        | true, some j => match (opsAt (nth (bodyF F c.f) i))[j]? with
          | some o => guarded (opsAt (nth (bodyF F c.f) i)) c.L o
            (fun L => tq P T E (selS L (o.looksAt (opsAt (nth (bodyF F c.f) i)))) c.H o fun s => match putS (ntm F c.f) L o.dst s, s.refsT c.H.length with
              | some L', true => go m { c with L := L' } (.tal i (j :: D))
              | _, _ => none)
            (fun L => match putS (ntm F c.f) L o.dst .undef with
              | some L' => go m { c with L := L' } (.tal i (j :: D))
              | none => none)
          | none => none
        | _, _ => none
    | .ret => match lookF F c.f with
      | some fn => match resS T c.H c.L fn.results.toList with
        | some ss => match c.fs with
          | [] => outR T c.H ss fn.resultTypes.toList
          | fm :: fs => match (opsAt (nth (bodyF F fm.f) fm.i))[fm.k]? with
            | some o => match putS (ntm F fm.f) fm.L o.dst (bndl ss), ss.all SV.good with
              | some L', true => match fm.d with
                | none => go m { f := fm.f, K := fm.K, L := L', H := c.H, fl := fm.fl, fs := fs } (.ops fm.i (fm.k + 1))
                | some D => go m { f := fm.f, K := fm.K, L := L', H := c.H, fl := fm.fl, fs := fs } (.tal fm.i D)
              | _, _ => none
            | none => none
        | none => none
      | none => none
end
/-! The same, step by step, with the state's parts at hand: for the kernel. -/
def frc {R : Type} (n : Nat) (k : Nat → R) : R := match n with
  | 0 => k 0
  | n + 1 => k (n + 1)
theorem frc_eq {R : Type} (n : Nat) (k : Nat → R) : frc n k = k n := by cases n <;> rfl
noncomputable def stNrm (_P : Program) (_F : FT) (_T : TT) (_E : Env) (N : NT) (Fin : Nat → Cfg → Option (List RV)) (rec : Cfg → Pos → Option (List RV)) (f : Nat) (K : List KJ) (L : SL) (H : List Item) (fl : Nat) (fs : List Fm) : Option (List RV) := match K with
  | [] => rec ⟨f, [], L, H, fl, fs⟩ .ret
  | .seq j :: K => rec ⟨f, K, L, H, fl, fs⟩ (.node j)
  | .blk _ :: K => rec ⟨f, K, L, H, fl, fs⟩ .nrm
  | .lp i :: K => head N Fin i ⟨f, K, L, H, fl, fs⟩
noncomputable def stNode (_P : Program) (F : FT) (_T : TT) (E : Env) (N : NT) (Fin : Nat → Cfg → Option (List RV)) (rec : Cfg → Pos → Option (List RV)) (f : Nat) (K : List KJ) (L : SL) (H : List Item) (fl : Nat) (fs : List Fm) (i : Nat) : Option (List RV) := match nth (bodyF F f) i with
  | .skip => rec ⟨f, K, L, H, fl, fs⟩ .nrm
  | .seq a _ => frc (i + 1 + Code.size a) fun j => frc (i + 1) fun i' => rec ⟨f, .seq j :: K, L, H, fl, fs⟩ (.node i')
  | .block id _ => frc (i + 1) fun i' => rec ⟨f, .blk id :: K, L, H, fl, fs⟩ (.node i')
  | .exit id => match wayJ id K with
    | some K => rec ⟨f, K, L, H, fl, fs⟩ .nrm
    | none => none
  | .ret => rec ⟨f, K, L, H, fl, fs⟩ .ret
  | .cond x a _ => match opS L x with
    | some (.d .bool b) => match b with
      | true => frc (i + 1) fun i' => rec ⟨f, K, L, H, fl, fs⟩ (.node i')
      | false => frc (i + 1 + Code.size a) fun j => rec ⟨f, K, L, H, fl, fs⟩ (.node j)
    | _ => none
  | .loop _ => head N Fin i ⟨f, K, L, H, fl, fs⟩
  | .region _ _ false => rec ⟨f, K, L, H, fl, fs⟩ (.ops i 0)
  | .region _ ops true => match Region.noSelect ops with
    | true => match tameR E ops with
      | true => rec ⟨f, K, L, H, fl, fs⟩ (.tam i [])
      | false => rec ⟨f, K, L, H, fl, fs⟩ (.drw i (!(ops.any fun o => isApp o.op)) false [])
    | false => none
  | _ => none
noncomputable def stOps (P : Program) (F : FT) (T : TT) (E : Env) (N : NT) (_Fin : Nat → Cfg → Option (List RV)) (rec : Cfg → Pos → Option (List RV)) (f : Nat) (K : List KJ) (L : SL) (H : List Item) (fl : Nat) (fs : List Fm) (i k : Nat) : Option (List RV) := match (opsAt (nth (bodyF F f) i))[k]? with
      | none => rec ⟨f, K, L, H, fl, fs⟩ .nrm
      | some o => guarded (opsAt (nth (bodyF F f) i)) L o
          (fun L => match isQ o.op with
            | true => qop P T true L H o fun s => match putS (ntm F f) L o.dst s with
              | some L' => frc (k + 1) fun k' => rec ⟨f, K, L', H, fl, fs⟩ (.ops i k')
              | none => none
            | false => match into F E L o.op with
              | some (g, ss) => rec ⟨g, [], argsL 0 ss, H, H.length, ⟨f, K, i, k, cutF N f i L, fl, none⟩ :: fs⟩ (.node 0)
              | none => eop T E (aflr fs) L H o fun s H' L1 => match putS (ntm F f) L1 o.dst s with
                | some L' => frc (k + 1) fun k' => rec ⟨f, K, L', H', fl, fs⟩ (.ops i k')
                | none => none)
          (fun L => match putS (ntm F f) L o.dst .undef with
            | some L' => frc (k + 1) fun k' => rec ⟨f, K, L', H, fl, fs⟩ (.ops i k')
            | none => none)
noncomputable def stDrw (P : Program) (F : FT) (T : TT) (E : Env) (_N : NT) (_Fin : Nat → Cfg → Option (List RV)) (rec : Cfg → Pos → Option (List RV)) (f : Nat) (K : List KJ) (L : SL) (H : List Item) (fl : Nat) (fs : List Fm) (i : Nat) (rw eff : Bool) (D : List Nat) : Option (List RV) := match restT E (opsAt (nth (bodyF F f) i)) (mkL (opsAt (nth (bodyF F f) i)).size D) with
      | true => rec ⟨f, K, L, H, fl, fs⟩ (.tal i D)
      | false => match Region.ready .any (opsAt (nth (bodyF F f) i)) (mkL (opsAt (nth (bodyF F f) i)).size D) with
      | [] => rec ⟨f, K, L, H, fl, fs⟩ .nrm
      | rs => match Nat.ble (D.length + 1) (opsAt (nth (bodyF F f) i)).size with
        | false => none
        | true => match pickQ (opsAt (nth (bodyF F f) i)) eff D rs with
          | some j => match (opsAt (nth (bodyF F f) i))[j]? with
            | none => none
            | some o => guarded (opsAt (nth (bodyF F f) i)) L o
              (fun L => qop P T rw L H o fun s => match putS (ntm F f) L o.dst s with
                | some L' => frc j fun j' => rec ⟨f, K, L', H, fl, fs⟩ (.drw i rw eff (j' :: D))
                | none => none)
              (fun L => match putS (ntm F f) L o.dst .undef with
                | some L' => frc j fun j' => rec ⟨f, K, L', H, fl, fs⟩ (.drw i rw eff (j' :: D))
                | none => none)
          | none => allR (fun j => match (opsAt (nth (bodyF F f) i))[j]? with
              | none => none
              | some o => guarded (opsAt (nth (bodyF F f) i)) L o
                (fun L => match isQ o.op with
                  | true => qop P T true L H o fun s => match putS (ntm F f) L o.dst s with
                    | some L' => frc j fun j' => rec ⟨f, K, L', H, fl, fs⟩ (.drw i rw eff (j' :: D))
                    | none => none
                  | false => match isMut E L o.op || (isApp o.op && rw) with
                    | true => none
                    | false => eop T E (aflr fs) L H o fun s H' L1 => match putS (ntm F f) L1 o.dst s with
                      | some L' => frc j fun j' => rec ⟨f, K, L', H', fl, fs⟩ (.drw i rw true (j' :: D))
                      | none => none)
                (fun L => match putS (ntm F f) L o.dst .undef with
                  | some L' => frc j fun j' => rec ⟨f, K, L', H, fl, fs⟩ (.drw i rw (eff || isStore o.op) (j' :: D))
                  | none => none)) rs
noncomputable def stTam (P : Program) (F : FT) (T : TT) (E : Env) (N : NT) (_Fin : Nat → Cfg → Option (List RV)) (rec : Cfg → Pos → Option (List RV)) (f : Nat) (K : List KJ) (L : SL) (H : List Item) (fl : Nat) (fs : List Fm) (i : Nat) (D : List Nat) : Option (List RV) := match onlyL E (opsAt (nth (bodyF F f) i)) (mkL (opsAt (nth (bodyF F f) i)).size D) with
      | true => match callF F E L (opsAt (nth (bodyF F f) i)) D with
        | some j => match (opsAt (nth (bodyF F f) i))[j]? with
          | some o => guarded (opsAt (nth (bodyF F f) i)) L o
            (fun L => match into F E L o.op with
              | some (g, ss) => frc j fun j' => rec ⟨g, [], argsL 0 ss, H, H.length, ⟨f, K, i, j', cutF N f i L, fl, some (j' :: D)⟩ :: fs⟩ (.node 0)
              | none => none)
            (fun L => match putS (ntm F f) L o.dst .undef with
              | some L' => frc j fun j' => rec ⟨f, K, L', H, fl, fs⟩ (.tal i (j' :: D))
              | none => none)
          | none => none
        | none => match alsForm E (opsAt (nth (bodyF F f) i)) with
        | true => match alsF T E (ntm F f) (opsAt (nth (bodyF F f) i)) (mkL (opsAt (nth (bodyF F f) i)).size D) L H with
          | some (L', H', C) => match Nat.ble (C ++ D).length (opsAt (nth (bodyF F f) i)).size with
            | true => rec ⟨f, K, L', H', fl, fs⟩ (.drw i true true (C ++ D))
            | false => none
          | none => match (opsAt (nth (bodyF F f) i)).toList.any isAlloc || !(strictR E (opsAt (nth (bodyF F f) i))) with
            | true => none
            | false => rec ⟨f, K, L, H, fl, fs⟩ (.drw i (!((opsAt (nth (bodyF F f) i)).any fun o => isApp o.op)) false D)
        | false => match (opsAt (nth (bodyF F f) i)).toList.any isAlloc || !(strictR E (opsAt (nth (bodyF F f) i))) with
          | true => none
          | false => rec ⟨f, K, L, H, fl, fs⟩ (.drw i (!((opsAt (nth (bodyF F f) i)).any fun o => isApp o.op)) false D)
      | false => match Nat.ble (D.length + 1) (opsAt (nth (bodyF F f) i)).size, pickT E (opsAt (nth (bodyF F f) i)) D (Region.ready .any (opsAt (nth (bodyF F f) i)) (mkL (opsAt (nth (bodyF F f) i)).size D)) with
        | true, some j => match (opsAt (nth (bodyF F f) i))[j]? with
          | some o => guarded (opsAt (nth (bodyF F f) i)) L o
            (fun L => tq P T E (selS L (o.looksAt (opsAt (nth (bodyF F f) i)))) H o fun s => match putS (ntm F f) L o.dst s, s.refsT H.length with
              | some L', true => frc j fun j' => rec ⟨f, K, L', H, fl, fs⟩ (.tam i (j' :: D))
              | _, _ => none)
            (fun L => match putS (ntm F f) L o.dst .undef with
              | some L' => frc j fun j' => rec ⟨f, K, L', H, fl, fs⟩ (.tam i (j' :: D))
              | none => none)
          | none => none
        | _, _ => none
noncomputable def stTal (P : Program) (F : FT) (T : TT) (E : Env) (_N : NT) (_Fin : Nat → Cfg → Option (List RV)) (rec : Cfg → Pos → Option (List RV)) (f : Nat) (K : List KJ) (L : SL) (H : List Item) (fl : Nat) (fs : List Fm) (i : Nat) (D : List Nat) : Option (List RV) := match Region.ready .any (opsAt (nth (bodyF F f) i)) (mkL (opsAt (nth (bodyF F f) i)).size D) with
      | [] => rec ⟨f, K, L, H, fl, fs⟩ .nrm
      | rs => match Nat.ble (D.length + 1) (opsAt (nth (bodyF F f) i)).size, pickE E (opsAt (nth (bodyF F f) i)) D rs with
        | true, some j => match (opsAt (nth (bodyF F f) i))[j]? with
          | some o => guarded (opsAt (nth (bodyF F f) i)) L o
            (fun L => tq P T E (selS L (o.looksAt (opsAt (nth (bodyF F f) i)))) H o fun s => match putS (ntm F f) L o.dst s, s.refsT H.length with
              | some L', true => frc j fun j' => rec ⟨f, K, L', H, fl, fs⟩ (.tal i (j' :: D))
              | _, _ => none)
            (fun L => match putS (ntm F f) L o.dst .undef with
              | some L' => frc j fun j' => rec ⟨f, K, L', H, fl, fs⟩ (.tal i (j' :: D))
              | none => none)
          | none => none
        | _, _ => none
noncomputable def stRet (_P : Program) (F : FT) (T : TT) (_E : Env) (_N : NT) (_Fin : Nat → Cfg → Option (List RV)) (rec : Cfg → Pos → Option (List RV)) (f : Nat) (_K : List KJ) (L : SL) (H : List Item) (_fl : Nat) (fs : List Fm) : Option (List RV) := match lookF F f with
      | some fn => match resS T H L fn.results.toList with
        | some ss => match fs with
          | [] => outR T H ss fn.resultTypes.toList
          | ⟨g, K2, i, k, L2, fl2, d⟩ :: fs => match (opsAt (nth (bodyF F g) i))[k]? with
            | some o => match putS (ntm F g) L2 o.dst (bndl ss), ss.all SV.good with
              | some L', true => match d with
                | none => frc (k + 1) fun k' => rec ⟨g, K2, L', H, fl2, fs⟩ (.ops i k')
                | some D => rec ⟨g, K2, L', H, fl2, fs⟩ (.tal i D)
              | _, _ => none
            | none => none
        | none => none
      | none => none
noncomputable def stC (P : Program) (F : FT) (T : TT) (E : Env) (N : NT) (Fin : Nat → Cfg → Option (List RV)) (rec : Cfg → Pos → Option (List RV)) (f : Nat) (K : List KJ) (L : SL) (H : List Item) (fl : Nat) (fs : List Fm) (p : Pos) : Option (List RV) := match p with
  | .nrm => stNrm P F T E N Fin rec f K L H fl fs
  | .node i => stNode P F T E N Fin rec f K L H fl fs i
  | .ops i k => stOps P F T E N Fin rec f K L H fl fs i k
  | .drw i rw eff D => stDrw P F T E N Fin rec f K L H fl fs i rw eff D
  | .tam i D => stTam P F T E N Fin rec f K L H fl fs i D
  | .tal i D => stTal P F T E N Fin rec f K L H fl fs i D
  | .ret => stRet P F T E N Fin rec f K L H fl fs
theorem stC_eq (P : Program) (F : FT) (T : TT) (E : Env) (N : NT) (Fin : Nat → Cfg → Option (List RV)) (m : Nat) (f : Nat) (K : List KJ) (L : SL) (H : List Item) (fl : Nat) (fs : List Fm) (p : Pos) : go P F T E N Fin (m + 1) ⟨f, K, L, H, fl, fs⟩ p = stC P F T E N Fin (go P F T E N Fin m) f K L H fl fs p := by
  cases p with
  | nrm => cases K with
    | nil => rfl
    | cons x K => cases x <;> rfl
  | node i => rw [go, stC, stNode]; simp only [frc_eq]
  | ops i k => rw [go, stC, stOps]; simp only [frc_eq]
  | drw i rw' eff D => rw [go, stC, stDrw]; simp only [frc_eq]
  | tam i D => rw [go, stC, stTam]; simp only [frc_eq]
  | tal i D => rw [go, stC, stTal]; simp only [frc_eq]
  | ret => rw [go, stC, stRet]; simp only [frc_eq]; cases fs <;> rfl
noncomputable def go2 (P : Program) (F : FT) (T : TT) (E : Env) (N : NT) (Fin : Nat → Cfg → Option (List RV)) : Nat → Cfg → Pos → Option (List RV)
  | 0, _, _ => none
  | m + 1, ⟨f, K, L, H, fl, fs⟩, p => stC P F T E N Fin (go2 P F T E N Fin m) f K L H fl fs p
theorem go2_eq (P : Program) (F : FT) (T : TT) (E : Env) (N : NT) (Fin : Nat → Cfg → Option (List RV)) : ∀ (m : Nat) (c : Cfg) (p : Pos), go2 P F T E N Fin m c p = go P F T E N Fin m c p
  | 0, _, _ => rfl
  | m + 1, ⟨f, K, L, H, fl, fs⟩, p => by
    have h : go2 P F T E N Fin m = go P F T E N Fin m := funext fun c => funext fun p => go2_eq P F T E N Fin m c p
    rw [go2, stC_eq, h]
/-- From loop's head to loop's head. -/
noncomputable def run (P : Program) (F : FT) (T : TT) (E : Env) (N : NT) : Nat → Nat → Cfg → Option (List RV)
  | 0, _, _ => none
  | n + 1, i, c => go P F T E N (run P F T E N n) 4000 { c with K := .lp i :: c.K } (.node (i + 1))
noncomputable def run2 (P : Program) (F : FT) (T : TT) (E : Env) (N : NT) : Nat → Nat → Cfg → Option (List RV)
  | 0, _, _ => none
  | n + 1, i, ⟨f, K, L, H, fl, fs⟩ => go2 P F T E N (run2 P F T E N n) 4000 ⟨f, .lp i :: K, L, H, fl, fs⟩ (.node (i + 1))
theorem run2_eq (P : Program) (F : FT) (T : TT) (E : Env) (N : NT) : ∀ (n i : Nat) (c : Cfg), run2 P F T E N n i c = run P F T E N n i c
  | 0, _, _ => rfl
  | n + 1, i, ⟨f, K, L, H, fl, fs⟩ => by
    have h : run2 P F T E N n = run P F T E N n := funext fun i => funext fun c => run2_eq P F T E N n i c
    rw [run2, run, h, go2_eq]
def start (f : Nat) (args : List SV) : Cfg := { f := f, K := [], L := argsL 0 args, H := [], fl := 0, fs := [] }
/-- The function's result. -/
def Runs (P : Program) (F : FT) (T : TT) (E : Env) (N : NT) (i : Nat) (c : Cfg) (r : List RV) : Prop := ∃ n, run P F T E N n i c = some r
end Go.Proofs.YtcaiedfkohigjaaGreat
/- The pure machine and the machine: control. -/
namespace Go.Proofs.YtcaiedfkohigjaaGreat
open Go.RowKit

def InLoop (P : Program) (c : Code) (Q : Exit → Act → World → Prop) (a : Act) (w : World) : Prop :=
  ∀ (b : Frame) (k : List Go.Item) (cs : List Frame), ∃ e a' w', Q e a' w' ∧ Arrives P (lone (b.at a (.code c :: .inLoop c :: k)) cs w) b k cs e a' w'
section
variable {P : Program} {c : Code} {Q : Exit → Act → World → Prop} {a : Act} {w : World}
theorem InLoop.wp (h : InLoop P c Q a w) : (Code.loop c).wp P Q a w := by
  intro b k cs
  obtain ⟨e, a', w', hq, harr⟩ := h b k cs
  exact ⟨e, a', w', hq, .of_steps (.one step_loop) harr⟩
theorem InLoop.step (h : c.wp P (Exit.then (InLoop P c Q) Q) a w) : InLoop P c Q a w := by
  intro b k cs
  obtain ⟨e, a₁, w₁, hq, harr⟩ := h b (.inLoop c :: k) cs
  cases e with
  | normal =>
    obtain ⟨e₂, a₂, w₂, hq₂, harr₂⟩ := hq b k cs
    exact ⟨e₂, a₂, w₂, hq₂, .of_steps (Steps.trans harr (.one step_inLoop)) harr₂⟩
  | exit id => exact ⟨_, a₁, w₁, hq, .pass (x := .inLoop c) rfl (fun _ _ => .inl (by simp)) harr⟩
  | goto l => exact ⟨_, a₁, w₁, hq, .pass (x := .inLoop c) rfl (fun _ _ => .inl (by simp)) harr⟩
  | ret => exact ⟨_, a₁, w₁, hq, .pass (x := .inLoop c) rfl (fun _ _ => .inl (by simp)) harr⟩
  | panic ch => exact ⟨_, a₁, w₁, hq, .pass (x := .inLoop c) rfl (fun _ _ => .inl (by simp)) harr⟩
  | outgrown => exact ⟨_, a₁, w₁, hq, .pass (x := .inLoop c) rfl (fun _ _ => .inl (by simp)) harr⟩
end
theorem size_pos : ∀ c : Code, 0 < Code.size c := by intro c; cases c <;> simp [Code.size]
/-- Where the parts of a node lie. -/
theorem nth_none : ∀ (B : Code) (i : Nat), Code.size B ≤ i → nth B i = .skip := by
  intro B
  induction B with
  | seq a b iha ihb =>
    intro i h
    simp only [Code.size] at h
    cases i with
    | zero => omega
    | succ i =>
      simp only [nth]
      split
      · rename_i hb; have := Nat.le_of_ble_eq_true hb; omega
      · exact ihb _ (by omega)
  | cond x a b iha ihb =>
    intro i h
    simp only [Code.size] at h
    cases i with
    | zero => omega
    | succ i =>
      simp only [nth]
      split
      · rename_i hb; have := Nat.le_of_ble_eq_true hb; omega
      · exact ihb _ (by omega)
  | block id c ih => intro i h; simp only [Code.size] at h; cases i with | zero => omega | succ i => exact ih _ (by omega)
  | loop c ih => intro i h; simp only [Code.size] at h; cases i with | zero => omega | succ i => exact ih _ (by omega)
  | scope c ih => intro i h; simp only [Code.size] at h; cases i with | zero => omega | succ i => exact ih _ (by omega)
  | _ => intro i h; simp only [Code.size] at h; cases i with | zero => omega | succ i => rfl
theorem nth_two (a b : Code) (i : Nat) : (match Nat.ble (i + 1) (Code.size a) with | true => nth a i | false => nth b (i - Code.size a)) = if i < Code.size a then nth a i else nth b (i - Code.size a) := by
  by_cases h : i < Code.size a
  · rw [if_pos h, Nat.ble_eq_true_of_le h]
  · rw [if_neg h]
    cases hb : Nat.ble (i + 1) (Code.size a) with
    | true => exact absurd (Nat.le_of_ble_eq_true hb) (by omega)
    | false => rfl
theorem nth_zero (c : Code) : nth c 0 = c := by cases c <;> rfl
theorem nth_seq (a b : Code) (i : Nat) : nth (.seq a b) (i + 1) = if i < Code.size a then nth a i else nth b (i - Code.size a) := nth_two a b i
theorem nth_cond (x : Operand) (a b : Code) (i : Nat) : nth (.cond x a b) (i + 1) = if i < Code.size a then nth a i else nth b (i - Code.size a) := nth_two a b i
theorem nth_bound : ∀ (B : Code) (i : Nat), i < Code.size B → i + Code.size (nth B i) ≤ Code.size B := by
  intro B
  induction B with
  | seq a b iha ihb =>
    intro i h
    cases i with
    | zero => rw [nth_zero]; omega
    | succ i =>
      rw [nth_seq]
      simp only [Code.size] at h ⊢
      split
      · rename_i hi; have := iha i hi; omega
      · have := ihb (i - Code.size a) (by omega); omega
  | cond x a b iha ihb =>
    intro i h
    cases i with
    | zero => rw [nth_zero]; omega
    | succ i =>
      rw [nth_cond]
      simp only [Code.size] at h ⊢
      split
      · rename_i hi; have := iha i hi; omega
      · have := ihb (i - Code.size a) (by omega); omega
  | block id c ih => intro i h; cases i with | zero => rw [nth_zero]; omega | succ i => simp only [Code.size] at h ⊢; have := ih i (by omega); simp only [nth]; omega
  | loop c ih => intro i h; cases i with | zero => rw [nth_zero]; omega | succ i => simp only [Code.size] at h ⊢; have := ih i (by omega); simp only [nth]; omega
  | scope c ih => intro i h; cases i with | zero => rw [nth_zero]; omega | succ i => simp only [Code.size] at h ⊢; have := ih i (by omega); simp only [nth]; omega
  | _ => intro i h; cases i with | zero => rw [nth_zero]; omega | succ i => simp only [Code.size] at h; omega
/-- A node's subtree lies where it is looked for. -/
theorem nth_in : ∀ (B : Code) (i : Nat), i < Code.size B → ∀ j, j < Code.size (nth B i) → nth B (i + j) = nth (nth B i) j := by
  intro B
  induction B with
  | seq a b iha ihb =>
    intro i h j hj
    cases i with
    | zero => rw [nth_zero, Nat.zero_add]
    | succ i =>
      rw [nth_seq] at hj ⊢
      rw [show i + 1 + j = (i + j) + 1 by omega, nth_seq]
      simp only [Code.size] at h
      split at hj
      · rename_i hi
        have := nth_bound a i hi
        rw [if_pos hi, if_pos (by omega)]
        exact iha i hi j hj
      · rename_i hi
        rw [if_neg hi, if_neg (by omega), show i + j - Code.size a = (i - Code.size a) + j by omega]
        exact ihb (i - Code.size a) (by omega) j hj
  | cond x a b iha ihb =>
    intro i h j hj
    cases i with
    | zero => rw [nth_zero, Nat.zero_add]
    | succ i =>
      rw [nth_cond] at hj ⊢
      rw [show i + 1 + j = (i + j) + 1 by omega, nth_cond]
      simp only [Code.size] at h
      split at hj
      · rename_i hi
        have := nth_bound a i hi
        rw [if_pos hi, if_pos (by omega)]
        exact iha i hi j hj
      · rename_i hi
        rw [if_neg hi, if_neg (by omega), show i + j - Code.size a = (i - Code.size a) + j by omega]
        exact ihb (i - Code.size a) (by omega) j hj
  | block id c ih => intro i h j hj; cases i with | zero => rw [nth_zero, Nat.zero_add] | succ i => simp only [Code.size] at h; rw [show i + 1 + j = (i + j) + 1 by omega]; exact ih i (by omega) j hj
  | loop c ih => intro i h j hj; cases i with | zero => rw [nth_zero, Nat.zero_add] | succ i => simp only [Code.size] at h; rw [show i + 1 + j = (i + j) + 1 by omega]; exact ih i (by omega) j hj
  | scope c ih => intro i h j hj; cases i with | zero => rw [nth_zero, Nat.zero_add] | succ i => simp only [Code.size] at h; rw [show i + 1 + j = (i + j) + 1 by omega]; exact ih i (by omega) j hj
  | _ => intro i h j hj; cases i with | zero => rw [nth_zero, Nat.zero_add] | succ i => simp only [Code.size] at h; omega
theorem nth_lt {B : Code} {i : Nat} (h : nth B i ≠ .skip) : i < Code.size B := by
  rcases Nat.lt_or_ge i (Code.size B) with hlt | hge
  · exact hlt
  · exact absurd (nth_none B i hge) h
theorem kid_seq {B : Code} {i : Nat} {a b : Code} (h : nth B i = .seq a b) : nth B i = .seq (nth B (i + 1)) (nth B (i + 1 + Code.size a)) := by
  have hlt := nth_lt (B := B) (i := i) (by rw [h]; simp)
  have ha := size_pos a
  have hb := size_pos b
  have h1 := nth_in B i hlt 1 (by rw [h]; simp only [Code.size]; omega)
  have h2 := nth_in B i hlt (1 + Code.size a) (by rw [h]; simp only [Code.size]; omega)
  rw [h, show (1 : Nat) = 0 + 1 from rfl, nth_seq, if_pos ha, nth_zero] at h1
  rw [h, show 1 + Code.size a = Code.size a + 1 by omega, nth_seq, if_neg (by omega), Nat.sub_self, nth_zero] at h2
  rw [h, h1, show i + 1 + Code.size a = i + (Code.size a + 1) by omega, h2]
theorem kid_cond {B : Code} {i : Nat} {x : Operand} {a b : Code} (h : nth B i = .cond x a b) : nth B i = .cond x (nth B (i + 1)) (nth B (i + 1 + Code.size a)) := by
  have hlt := nth_lt (B := B) (i := i) (by rw [h]; simp)
  have ha := size_pos a
  have hb := size_pos b
  have h1 := nth_in B i hlt 1 (by rw [h]; simp only [Code.size]; omega)
  have h2 := nth_in B i hlt (1 + Code.size a) (by rw [h]; simp only [Code.size]; omega)
  rw [h, show (1 : Nat) = 0 + 1 from rfl, nth_cond, if_pos ha, nth_zero] at h1
  rw [h, show 1 + Code.size a = Code.size a + 1 by omega, nth_cond, if_neg (by omega), Nat.sub_self, nth_zero] at h2
  rw [h, h1, show i + 1 + Code.size a = i + (Code.size a + 1) by omega, h2]
theorem kid_block {B : Code} {i : Nat} {id : Nat} {c : Code} (h : nth B i = .block id c) : nth B i = .block id (nth B (i + 1)) := by
  have hlt := nth_lt (B := B) (i := i) (by rw [h]; simp)
  have hc := size_pos c
  have h1 := nth_in B i hlt 1 (by rw [h]; simp only [Code.size]; omega)
  rw [h] at h1
  rw [h, h1]
  show _ = Code.block id (nth c 0)
  rw [nth_zero]
theorem kid_loop {B : Code} {i : Nat} {c : Code} (h : nth B i = .loop c) : nth B i = .loop (nth B (i + 1)) := by
  have hlt := nth_lt (B := B) (i := i) (by rw [h]; simp)
  have hc := size_pos c
  have h1 := nth_in B i hlt 1 (by rw [h]; simp only [Code.size]; omega)
  rw [h] at h1
  rw [h, h1]
  show _ = Code.loop (nth c 0)
  rw [nth_zero]
end Go.Proofs.YtcaiedfkohigjaaGreat
/- The pure machine and the machine: slots, loop heads, waiting calls. -/
namespace Go.Proofs.YtcaiedfkohigjaaGreat
open Go.RowKit

theorem lookS_del {d : Nat} {L : SL} {t : Nat} {s : SV} (h : lookS (delS L d) t = some s) : lookS L t = some s := h
theorem lookS_cons {d : Nat} {x : SV} {L : SL} {t : Nat} {s : SV} (h : lookS ((d, x) :: L) t = some s) : (t = d ∧ s = x) ∨ (t ≠ d ∧ lookS L t = some s) := by
  simp only [lookS] at h
  split at h
  · rename_i hb
    injection h with h
    exact .inl ⟨(Nat.eq_of_beq_eq_true hb).symm, h.symm⟩
  · rename_i hb
    refine .inr ⟨fun e => ?_, h⟩
    subst e
    simp at hb
theorem selS_look {L : SL} : ∀ {ts : List Nat} {t : Nat} {s : SV}, lookS (selS L ts) t = some s → lookS L t = some s
  | [], _, _, h => by simp [selS, lookS] at h
  | u :: ts, t, s, h => by
    simp only [selS] at h
    split at h
    · rename_i x hx
      rcases lookS_cons h with ⟨rfl, rfl⟩ | ⟨_, h1⟩
      · exact hx
      · exact selS_look h1
    · exact selS_look h
theorem cutF_look {N : NT} {f i : Nat} {L : SL} {t : Nat} {s : SV} (h : lookS (cutF N f i L) t = some s) : lookS L t = some s := by
  unfold cutF at h
  split at h
  · exact selS_look h
  · exact h
theorem pickS_look {L : SL} : ∀ {ts : List Nat} {L' : SL}, pickS L ts = some L' → ∀ t s, lookS L' t = some s → lookS L t = some s
  | [], L', h, t, s, hs => by simp only [pickS, Option.some.injEq] at h; subst h; simp [lookS] at hs
  | u :: ts, L', h, t, s, hs => by
    simp only [pickS] at h
    split at h <;> try (cases h; done)
    rename_i x r h1 h2
    injection h with h
    subst h
    rcases lookS_cons hs with ⟨rfl, rfl⟩ | ⟨_, h3⟩
    · exact h1
    · exact pickS_look h2 t s h3
theorem lookS_mem : ∀ {L : SL} {t : Nat} {s : SV}, lookS L t = some s → (t, s) ∈ L
  | [], _, _, h => by simp [lookS] at h
  | (k, x) :: r, t, s, h => by
    rcases lookS_cons h with ⟨rfl, rfl⟩ | ⟨_, h3⟩
    · simp
    · simp [lookS_mem h3]
theorem refsT_eq {k : Nat} {s : SV} (h : ∀ l, s ≠ .tup l) : s.refsT k = s.refs k := by cases s <;> first | rfl | exact (h _ rfl).elim
theorem refs_of1 {fl j : Nat} {s : SV} (h : s.refs fl = true) (ho : s.of1 j = true) : j < fl := by
  cases s <;> simp only [SV.of1, Bool.false_eq_true] at ho
  · have := Nat.eq_of_beq_eq_true ho; subst this; exact Nat.le_of_ble_eq_true h
  · have := Nat.eq_of_beq_eq_true ho; subst this; exact Nat.le_of_ble_eq_true h
  · have := Nat.eq_of_beq_eq_true ho; subst this; exact Nat.le_of_ble_eq_true h
section
variable {Z : Nat → Prop} {w0 : World} {n : Nat} {L L' : SL} {H H' : List Item} {G G' : List Value} {w w' : World} {a : Act} {F : FT}
theorem FR.put {d : Option Nat} {s : SV} {v : Value} (h : FR Z n L H G w a) (hp : putS n L d s = some L') (hv : Rel G (Av Z H G) w s v) : FR Z n L' H G w (a.put d v) := by
  cases d with
  | none => simp only [putS, Option.some.injEq] at hp; subst hp; exact h
  | some d =>
    simp only [putS] at hp
    split at hp <;> try (cases hp; done)
    rename_i hd
    have hd := Nat.le_of_ble_eq_true hd
    injection hp with hp
    subst hp
    refine ⟨h.defers, by simp [Act.put, h.size], fun t s' hs => ?_⟩
    simp only [Act.put, Array.getElem?_setIfInBounds, h.size]
    rcases lookS_cons hs with ⟨rfl, rfl⟩ | ⟨hne, h3⟩
    · exact ⟨v, by simp; omega, hv⟩
    · have h4 := lookS_del h3
      obtain ⟨u, h5, h6⟩ := h.slot t s' h4
      exact ⟨u, by rw [if_neg (Ne.symm hne)]; exact h5, h6⟩
/-- A slot's value is said otherwise. -/
theorem FR.say {d : Nat} {s : SV} {v : Value} (h : FR Z n L H G w a) (hd : a.tmps[d]? = some v) (hv : Rel G (Av Z H G) w s v) : FR Z n ((d, s) :: delS L d) H G w a :=
  ⟨h.defers, h.size, fun t s' hs => by
    rcases lookS_cons hs with ⟨rfl, rfl⟩ | ⟨hne, h3⟩
    · exact ⟨v, hd, hv⟩
    · exact h.slot t s' (lookS_del h3)⟩
theorem rel_refs (hr : SR Z w0 H G w) {s : SV} {v : Value} (h : Rel1 G (Av Z H G) w s v) : s.refs H.length = true := by
  have lt : ∀ (j : Nat) g, G[j]? = some g → Nat.ble (j + 1) H.length = true := fun j g hg => Nat.ble_eq_true_of_le (by rw [← hr.len]; exact (List.getElem?_eq_some_iff.1 hg).1)
  cases s with
  | box j off => obtain ⟨b, h1, _⟩ := h; exact lt j _ h1
  | own j => exact lt j _ h
  | oelt j sz i off => obtain ⟨b, m, c, h1, _⟩ := h; exact lt j _ h1
  | osl j sz lo n => obtain ⟨g, q, c, h1, _⟩ := h; exact lt j _ h1
  | clo f caps =>
    obtain ⟨bs, h1, _⟩ := h
    refine List.all_eq_true.2 fun j hj => ?_
    obtain ⟨k, hk, rfl⟩ := List.getElem_of_mem hj
    obtain ⟨b, _, hb⟩ := all2_getL h1 k _ (List.getElem?_eq_getElem hk)
    exact lt _ _ hb
  | tup l => exact h.elim
  | _ => rfl
theorem rel_refsT (hr : SR Z w0 H G w) {s : SV} {v : Value} (h : Rel G (Av Z H G) w s v) : s.refsT H.length = true := by
  cases s with
  | tup l =>
    obtain ⟨vs, _, h2⟩ := h
    refine List.all_eq_true.2 fun s hs => ?_
    obtain ⟨k, hk, rfl⟩ := List.getElem_of_mem hs
    obtain ⟨b, _, hb⟩ := all2_getL h2 k _ (List.getElem?_eq_getElem hk)
    exact rel_refs hr hb
  | _ => rw [refsT_eq (fun l e => by cases e)]; exact rel_refs hr (rel_to1 h (fun l e => by cases e))
/-- What the waiting calls know stays true. -/
def Ev (Z : Nat → Prop) (fl : Nat) (H : List Item) (G : List Value) (w : World) (H' : List Item) (G' : List Value) (w' : World) : Prop := ∀ s v, Rel1 G (Av Z H G) w s v → s.refs fl = true → Rel1 G' (Av Z H' G') w' s v
theorem Chg.ev {fl : Nat} {st ap : Bool} (h : Chg Z fl st ap H G w H' G' w') : Ev Z fl H G w H' G' w' := fun s v hs hr => h.pres s v hs fun _j hj => refs_of1 hr hj
/-- A call that waits in a drawn region. -/
def DOk (F : FT) (fm : Fm) : Prop := ∀ D, fm.d = some D → Clo (opsAt (nth (bodyF F fm.f) fm.i)) (mkL (opsAt (nth (bodyF F fm.f) fm.i)).size D) ∧ Region.noSelect (opsAt (nth (bodyF F fm.f) fm.i)) = true ∧ D.length ≤ (opsAt (nth (bodyF F fm.f) fm.i)).size
def FrsOk (Z : Nat → Prop) (F : FT) (H : List Item) (G : List Value) (w : World) : Nat → List Fm → List Act → Prop
  | _, [], [] => True
  | fl, fm :: fs, a :: ats => FR Z (ntm F fm.f) fm.L H G w a ∧ (∀ t s, lookS fm.L t = some s → s.refsT fl = true) ∧ (fm.fl ≤ fl ∧ (∃ fn, lookF F fm.f = some fn) ∧ DOk F fm) ∧ FrsOk Z F H G w fm.fl fs ats
  | _, _, _ => False
theorem refs_mono {k l : Nat} (h : k ≤ l) {s : SV} (hs : s.refs k = true) : s.refs l = true := by
  have b : ∀ j, Nat.ble (j + 1) k = true → Nat.ble (j + 1) l = true := fun j hj => Nat.ble_eq_true_of_le (Nat.le_trans (Nat.le_of_ble_eq_true hj) h)
  cases s with
  | box j off => exact b j hs
  | own j => exact b j hs
  | oelt j sz i off => exact b j hs
  | osl j sz i off => exact b j hs
  | clo f caps => exact List.all_eq_true.2 fun j hj => b j (List.all_eq_true.1 hs j hj)
  | tup l => cases hs
  | _ => rfl
theorem refsT_mono {k l : Nat} (h : k ≤ l) {s : SV} (hs : s.refsT k = true) : s.refsT l = true := by
  cases s with
  | tup l => exact List.all_eq_true.2 fun s hm => refs_mono h (List.all_eq_true.1 hs s hm)
  | _ => rw [refsT_eq (fun l e => by cases e)] at hs ⊢; exact refs_mono h hs
theorem Rel.ev {fl : Nat} (he : Ev Z fl H G w H' G' w') {s : SV} {v : Value} (h : Rel G (Av Z H G) w s v) (hr : s.refsT fl = true) : Rel G' (Av Z H' G') w' s v := by
  cases s with
  | tup l =>
    obtain ⟨vs, h1, h2⟩ := h
    refine ⟨vs, h1, ?_⟩
    clear h1
    induction l generalizing vs with
    | nil => cases vs <;> exact h2
    | cons s l ih =>
      simp only [SV.refsT, List.all_cons, Bool.and_eq_true] at hr
      match vs, h2 with
      | v :: vs, ⟨g1, g2⟩ => exact ⟨he s v g1 hr.1, ih hr.2 vs g2⟩
  | _ => rw [refsT_eq (fun l e => by cases e)] at hr; exact rel_of1 (he _ _ (rel_to1 h (fun l e => by cases e)) hr)
theorem FrsOk.ev {fl : Nat} (he : Ev Z fl H G w H' G' w') : ∀ {fl' : Nat} {fs : List Fm} {ats : List Act}, fl' ≤ fl → FrsOk Z F H G w fl' fs ats → FrsOk Z F H' G' w' fl' fs ats
  | _, [], [], _, _ => trivial
  | fl', fm :: fs, a :: ats, hle, ⟨h1, h2, h3, h4⟩ => ⟨⟨h1.defers, h1.size, fun t s hs => by
      obtain ⟨v, g1, g2⟩ := h1.slot t s hs
      exact ⟨v, g1, g2.ev he (refsT_mono hle (h2 t s hs))⟩⟩, h2, h3, FrsOk.ev he (Nat.le_trans h3.1 hle) h4⟩
  | _, [], _ :: _, _, h => h.elim
  | _, _ :: _, [], _, h => h.elim

theorem le_maxN {a b k : Nat} : maxN a b ≤ k ↔ a ≤ k ∧ b ≤ k := by
  unfold maxN
  cases h : Nat.ble a b with
  | true => have := Nat.le_of_ble_eq_true h; simp only [cond_true]; omega
  | false => have : ¬ a ≤ b := fun hh => by rw [Nat.ble_eq_true_of_le hh] at h; cases h
             simp only [cond_false]; omega
theorem ofm_of1 {k j : Nat} {s : SV} (h : s.ofm ≤ k) (ho : s.of1 j = true) : j < k := by
  cases s <;> simp only [SV.of1, Bool.false_eq_true] at ho
  all_goals (have := Nat.eq_of_beq_eq_true ho; subst this; exact h)
theorem ofmT_eq {s : SV} (h : ∀ l, s ≠ .tup l) : s.ofmT = s.ofm := by cases s <;> first | rfl | exact (h _ rfl).elim
theorem slM_look {k : Nat} : ∀ {L : SL} {t : Nat} {s : SV}, slM L ≤ k → lookS L t = some s → s.ofmT ≤ k
  | [], _, _, _, h => by simp [lookS] at h
  | (q, x) :: r, t, s, hk, h => by
    obtain ⟨h1, h2⟩ := le_maxN.1 hk
    rcases lookS_cons h with ⟨rfl, rfl⟩ | ⟨_, h3⟩
    · exact h1
    · exact slM_look h2 h3
theorem Rel.evF {k : Nat} (he : ∀ s v, Rel1 G (Av Z H G) w s v → (∀ j, s.of1 j = true → j < k) → Rel1 G' (Av Z H' G') w' s v) {s : SV} {v : Value} (h : Rel G (Av Z H G) w s v) (hr : s.ofmT ≤ k) : Rel G' (Av Z H' G') w' s v := by
  cases s with
  | tup l =>
    obtain ⟨vs, h1, h2⟩ := h
    refine ⟨vs, h1, ?_⟩
    clear h1
    induction l generalizing vs with
    | nil => cases vs <;> exact h2
    | cons s l ih =>
      obtain ⟨r1, r2⟩ := le_maxN.1 hr
      match vs, h2 with
      | v :: vs, ⟨g1, g2⟩ => exact ⟨he s v g1 fun j hj => ofm_of1 r1 hj, ih r2 vs g2⟩
  | _ => rw [ofmT_eq (fun l e => by cases e)] at hr; exact rel_of1 (he _ _ (rel_to1 h (fun l e => by cases e)) fun j hj => ofm_of1 hr hj)
theorem FrsOk.evF {k : Nat} (he : ∀ s v, Rel1 G (Av Z H G) w s v → (∀ j, s.of1 j = true → j < k) → Rel1 G' (Av Z H' G') w' s v) : ∀ {fl' : Nat} {fs : List Fm} {ats : List Act}, aflr fs ≤ k → FrsOk Z F H G w fl' fs ats → FrsOk Z F H' G' w' fl' fs ats
  | _, [], [], _, _ => trivial
  | fl', fm :: fs, a :: ats, hle, ⟨h1, h2, h3, h4⟩ => ⟨⟨h1.defers, h1.size, fun t s hs => by
      obtain ⟨v, g1, g2⟩ := h1.slot t s hs
      exact ⟨v, g1, g2.evF he (slM_look (le_maxN.1 hle).1 hs)⟩⟩, h2, h3, FrsOk.evF he (le_maxN.1 hle).2 h4⟩
  | _, [], _ :: _, _, h => h.elim
  | _, _ :: _, [], _, h => h.elim
/-! Loop heads. -/
theorem normOwn_ok {fl : Nat} : ∀ {l : List (Nat × Nat × Ty)} {L : SL} {H : List Item} {G : List Value}, SR Z w0 H G w → FR Z n L H G w a → fl ≤ H.length → normOwn l L H = some (L', H') → ∃ G', SR Z w0 H' G' w ∧ FR Z n L' H' G' w a ∧ Ev Z fl H G w H' G' w ∧ fl ≤ H'.length
  | [], L, H, G, hr, hf, hfl, h => by
    simp only [normOwn, Option.some.injEq, Prod.mk.injEq] at h
    obtain ⟨rfl, rfl⟩ := h
    exact ⟨G, hr, hf, fun s v h _ => h, hfl⟩
  | (t, et, e) :: l, L, H, G, hr, hf, hfl, h => by
    simp only [normOwn] at h
    split at h
    · rename_i hs
      split at h <;> try (cases h; done)
      rename_i hn
      have hn := Nat.le_of_ble_eq_true hn
      obtain ⟨v, h1, h2⟩ := hf.slot t _ hs
      have h2 : v = .slice none 0 0 := h2
      subst h2
      obtain ⟨G1, k1, k2, k3, k4⟩ := new_row (et := et) (e := e) (xs := []) (css := []) hr hf (Below.refl _ _) (World.ownsRow_nil w _ _ _) hn trivial fl false false
      obtain ⟨G2, g1, g2, g3, g4⟩ := normOwn_ok (fl := fl) k1 (k2.say h1 k3) (by simp; omega) h
      exact ⟨G2, g1, g2, fun s v hs hrf => g3 s v (k4.ev s v hs hrf) hrf, g4⟩
    · exact normOwn_ok hr hf hfl h
theorem normPure_ok {fl : Nat} : ∀ {l : List (Nat × Ty)} {L : SL} {H : List Item}, SR Z w0 H G w → FR Z n L H G w a → fl ≤ H.length → normPure fl l L H = some (L', H') → SR Z w0 H' G w ∧ FR Z n L' H' G w a ∧ Ev Z fl H G w H' G w ∧ fl ≤ H'.length
  | [], L, H, hr, hf, hfl, h => by
    simp only [normPure, Option.some.injEq, Prod.mk.injEq] at h
    obtain ⟨rfl, rfl⟩ := h
    exact ⟨hr, hf, fun s v h _ => h, hfl⟩
  | (t, e) :: l, L, H, hr, hf, hfl, h => by
    simp only [normPure] at h
    split at h
    · rename_i hs
      obtain ⟨v, h1, h2⟩ := hf.slot t _ hs
      have h2 : v = .slice none 0 0 := h2
      subst h2
      exact normPure_ok hr (hf.say (s := .d (.sl e) []) h1 ⟨[_], nil_rd, rfl⟩) hfl h
    · rename_i j hs
      split at h <;> try (cases h; done)
      rename_i L1 H1 hg
      have hfz : fzAll fl [.tmp t] L H = some (L1, H1) := by simp only [fzAll, opS, hs, hg]
      obtain ⟨g1, g2, g3, _, _⟩ := fzAll_ok hr hf hfz
      have hlen : H1.length = H.length := by
        unfold giveUp at hg
        split at hg <;> try (cases hg; done)
        simp only [Option.some.injEq, Prod.mk.injEq] at hg
        rw [← hg.2]; simp
      obtain ⟨k1, k2, k3, k4⟩ := normPure_ok g1 g2 (by omega) h
      exact ⟨k1, k2, fun s v hs hrf => k3 s v (g3 s v hs fun j hj => refs_of1 hrf hj) hrf, k4⟩
    · exact normPure_ok hr hf hfl h
theorem take_get {α : Type} {l : List α} {k j : Nat} {x : α} (h : (l.take k)[j]? = some x) : j < k ∧ l[j]? = some x := by
  rw [List.getElem?_take] at h
  split at h
  · exact ⟨by assumption, h⟩
  · cases h
theorem av_take (hl : Nat) {b : Nat} (h : Av Z H G b) : Av Z (H.take hl) (G.take hl) b := ⟨h.1, fun j it g h1 h2 h3 => h.2 j it g (take_get h1).2 h2 (take_get h3).2⟩
theorem rel_take {hl : Nat} {s : SV} {v : Value} (h : Rel1 G (Av Z H G) w s v) (hs : s.refs hl = true) : Rel1 (G.take hl) (Av Z (H.take hl) (G.take hl)) w s v := by
  have hk : Keeps (Av Z H G) (Av Z (H.take hl) (G.take hl)) w w := ⟨Nat.le_refl _, fun b _ h => av_take hl h, fun _ _ _ => rfl⟩
  have g : ∀ (j : Nat) x, Nat.ble (j + 1) hl = true → G[j]? = some x → (G.take hl)[j]? = some x := fun j x hj hx => by
    rw [List.getElem?_take, if_pos (show j < hl from Nat.le_of_ble_eq_true hj)]; exact hx
  cases s with
  | d t x => obtain ⟨cs, h1, h2⟩ := h; exact ⟨cs, Ty.rd_keep hk h1, h2⟩
  | nil => exact h
  | box j off => obtain ⟨b, h1, h2⟩ := h; exact ⟨b, g j _ hs h1, h2⟩
  | elt e x off => obtain ⟨b, o, cs, h1, h2, h3, h4, h5⟩ := h; exact ⟨b, o, cs, h1, av_take hl h2, h3, Ty.rd_keep hk h4, h5⟩
  | own j => exact g j _ hs h
  | oelt j sz i off => obtain ⟨b, m, c, h1, h2⟩ := h; exact ⟨b, m, c, g j _ hs h1, h2⟩
  | cut e xs => obtain ⟨p, h1, h2⟩ := h; exact ⟨p, Ty.rd_keep hk h1, h2⟩
  | osl j sz lo n => obtain ⟨x, q, c, h1, h2⟩ := h; exact ⟨x, q, c, g j _ hs h1, h2⟩
  | clo f caps =>
    obtain ⟨bs, h1, h2⟩ := h
    refine ⟨bs, ?_, h2⟩
    clear h2
    induction caps generalizing bs with
    | nil => cases bs <;> exact h1
    | cons c caps ih =>
      simp only [SV.refs, List.all_cons, Bool.and_eq_true] at hs
      match bs, h1 with
      | b :: bs, ⟨q1, q2⟩ => exact ⟨g c _ hs.1 q1, ih hs.2 bs q2⟩
  | tup l => exact h
  | undef => exact h
  | dead => trivial
theorem sr_take {hl : Nat} (hr : SR Z w0 H G w) (hrf : (H.take hl).all (Item.refs hl) = true) : SR Z w0 (H.take hl) (G.take hl) w := by
  have hk : Keeps (Av Z H G) (Av Z (H.take hl) (G.take hl)) w w := ⟨Nat.le_refl _, fun b _ h => av_take hl h, fun _ _ _ => rfl⟩
  refine ⟨by simp [hr.len], hr.below, fun j it g h1 h2 => ?_, fun i j it jt g h b hij h1 h2 h3 h4 h5 h6 h7 => hr.disj i j it jt g h b hij (take_get h1).2 (take_get h2).2 h3 h4 (take_get h5).2 (take_get h6).2 h7, hr.zf⟩
  have hi := hr.items j it g (take_get h1).2 (take_get h2).2
  have hir : it.refs hl = true := List.all_eq_true.1 hrf it (List.mem_of_getElem? h1)
  cases it with
  | gone => trivial
  | row et e xs => obtain ⟨css, k1, k2, k3⟩ := hi; exact ⟨css, k1, all2_mono (fun _ _ h => Ty.rd_keep hk h) k2, k3⟩
  | box t cs =>
    obtain ⟨b, vs, rfl, k1, k2, k3⟩ := hi
    refine ⟨b, vs, rfl, k1, k2, ?_⟩
    clear k2 h1
    induction cs generalizing vs with
    | nil => cases vs <;> exact k3
    | cons s l ih =>
      simp only [Item.refs, List.all_cons, Bool.and_eq_true] at hir
      match vs, k3 with
      | v :: vs, ⟨q1, q2⟩ => exact ⟨rel_take q1 hir.1, ih hir.2 vs q2⟩
structure CR (Z : Nat → Prop) (F : FT) (w0 : World) (c : Cfg) (G : List Value) (w : World) (a : Act) (ats : List Act) : Prop where
  sr : SR Z w0 c.H G w
  fr : FR Z (ntm F c.f) c.L c.H G w a
  fl : c.fl ≤ c.H.length
  frs : FrsOk Z F c.H G w c.fl c.fs ats
theorem all2_say {R : SV → Value → Prop} {s : SV} (hs : ∀ v, R .nil v → R s v) : ∀ {cs : List SV} {vs : List Value} {q : Nat}, all2 R cs vs → cs[q]? = some .nil → all2 R (cs.set q s) vs
  | [], _, _, _, h => by simp at h
  | c :: cs, [], _, h, _ => h.elim
  | c :: cs, v :: vs, 0, ⟨h1, h2⟩, h => by
    simp only [List.getElem?_cons_zero, Option.some.injEq] at h
    subst h
    exact ⟨hs v h1, h2⟩
  | c :: cs, v :: vs, q + 1, ⟨h1, h2⟩, h => by
    rw [List.getElem?_cons_succ] at h
    exact ⟨h1, all2_say hs h2 h⟩
theorem normBx_ok {fl : Nat} : ∀ {l : List (Nat × Nat × Nat × Ty)} {H : List Item} {G : List Value}, SR Z w0 H G w → FR Z n L H G w a → fl ≤ H.length → ∃ G', SR Z w0 (normBx l H) G' w ∧ FR Z n L (normBx l H) G' w a ∧ Ev Z fl H G w (normBx l H) G' w ∧ fl ≤ (normBx l H).length
  | [], H, G, hr, hf, hfl => ⟨G, hr, hf, fun s v h _ => h, hfl⟩
  | (j, q, et, e) :: l, H, G, hr, hf, hfl => by
    simp only [normBx]
    split
    · rename_i t cs hj
      split
      · rename_i hq hn
        have hn := Nat.le_of_ble_eq_true hn
        obtain ⟨G1, k1, k2, k3, k4⟩ := new_row (et := et) (e := e) (xs := []) (css := []) hr hf (Below.refl _ _) (World.ownsRow_nil w _ _ _) hn trivial fl false false
        have hlt := (List.getElem?_eq_some_iff.1 hj).1
        have hj1 : (H ++ [.row et e []])[j]? = some (.box t cs) := by rw [List.getElem?_append_left hlt]; exact hj
        have hst := step_mod (it' := .box t (cs.set q (.own H.length))) k1 hj1 rfl k1.below (Nat.le_refl _) (fun _ _ _ => rfl)
        have hsr := sr_mod (it' := .box t (cs.set q (.own H.length))) k1 hj1 rfl k1.below (Nat.le_refl _) (fun _ _ _ => rfl) (fun g hg => by
          obtain ⟨b, vs, e1, e2, e3, e4⟩ := k1.items j _ g hj1 hg
          refine ⟨b, vs, e1, e2, e3, all2_say (fun v hv => ?_) (all2_mono (fun s v h => rel_new k1 hst h) e4) hq⟩
          have hv : v = .slice none 0 0 := hv
          subst hv
          exact k3)
        rw [List.set_append, if_pos hlt] at hsr hst
        obtain ⟨G2, g1, g2, g3, g4⟩ := normBx_ok (fl := fl) (l := l) hsr (k2.keep fun s v h => rel_new k1 hst h) (by simp; omega)
        exact ⟨G2, g1, g2, fun s v hs hrf => g3 s v (rel_new k1 hst (k4.ev s v hs hrf)) hrf, g4⟩
      · exact normBx_ok hr hf hfl
    · exact normBx_ok hr hf hfl
theorem norm_ok {x : NI} {c c' : Cfg} {ats : List Act} (h : norm x c = some c') (hc : CR Z F w0 c G w a ats) : ∃ G', CR Z F w0 c' G' w a ats ∧ c'.f = c.f ∧ c'.K = c.K ∧ c'.fs = c.fs := by
  unfold norm at h
  split at h <;> try (cases h; done)
  rename_i L1 H1 h1
  split at h <;> try (cases h; done)
  rename_i L2 H2 h2
  split at h <;> try (cases h; done)
  rename_i L3 h3
  split at h <;> try (cases h; done)
  rename_i hb
  injection h with h
  subst h
  simp only [Bool.and_eq_true] at hb
  obtain ⟨⟨⟨b1, b2⟩, b3⟩, b4⟩ := hb
  obtain ⟨G0, f1, f2, f3, f4⟩ := normBx_ok (l := x.bx) hc.sr hc.fr hc.fl
  obtain ⟨G1, g1, g2, g3', g4⟩ := normOwn_ok f1 f2 f4 h1
  have g3 : Ev Z c.fl c.H G w H1 G1 w := fun s v hs hr => g3' s v (f3 s v hs hr) hr
  obtain ⟨k1, k2, k3, k4⟩ := normPure_ok g1 g2 g4 h2
  have b3' := Nat.le_of_ble_eq_true b3
  have hev : Ev Z c.fl c.H G w (H2.take x.hl) (G1.take x.hl) w := fun s v hs hrf => rel_take (k3 s v (g3 s v hs hrf) hrf) (refs_mono b3' hrf)
  refine ⟨G1.take x.hl, ⟨sr_take k1 b2, ⟨k2.defers, k2.size, fun t s hs => ?_⟩, by simp; omega, hc.frs.ev hev (Nat.le_refl _)⟩, rfl, rfl, rfl⟩
  obtain ⟨v, q1, q2⟩ := k2.slot t s (pickS_look h3 t s hs)
  have hrf : s.refs x.hl = true := List.all_eq_true.1 b1 (t, s) (lookS_mem hs)
  exact ⟨v, q1, rel_of1 (rel_take (rel_to1 q2 fun l e => by subst e; cases hrf) hrf)⟩
end
end Go.Proofs.YtcaiedfkohigjaaGreat
/- What the pure machine computes the machine does. -/
namespace Go.Proofs.YtcaiedfkohigjaaGreat
open Go.RowKit

def toKI (P : Program) (fn : Func) (R : Ending → World → Prop) (B : Code) : List KJ → List KI
  | [] => []
  | .seq i :: K => .seq i :: toKI P fn R B K
  | .blk id :: K => .blk id :: toKI P fn R B K
  | .lp i :: K => .lp (InLoop P (nth B (i + 1)) (cont P fn R B (toKI P fn R B K))) :: toKI P fn R B K
def RetR (P : Program) (F : FT) (Rt : Ending → World → Prop) : List Fm → List Act → Ending → World → Prop
  | fm :: fs, a :: ats => fun e w' => ∃ v, e = .returned v ∧ ∃ fn o, lookF F fm.f = some fn ∧ (opsAt (nth (bodyF F fm.f) fm.i))[fm.k]? = some o ∧
      (fm.d = none → AtR P fn (RetR P F Rt fs ats) (bodyF F fm.f) (toKI P fn (RetR P F Rt fs ats) (bodyF F fm.f) fm.K) fm.i (fm.k + 1) (a.put o.dst v) w') ∧
      (∀ D, fm.d = some D → wpG P (opsAt (nth (bodyF F fm.f) fm.i)) (cont P fn (RetR P F Rt fs ats) (bodyF F fm.f) (toKI P fn (RetR P F Rt fs ats) (bodyF F fm.f) fm.K)) (fun _ => True) ((opsAt (nth (bodyF F fm.f) fm.i)).size - D.length) (mkL (opsAt (nth (bodyF F fm.f) fm.i)).size D) (a.put o.dst v) w')
  | _, _ => Rt
section
variable {Z : Nat → Prop} {w0 : World} {n : Nat} {L L' : SL} {H H' : List Item} {G G' : List Value} {w w' : World} {a : Act} {F : FT} {P : Program} {T : TT}
theorem guarded_ok {R : Type} {ops : Array Oper} {o : Oper} {yes no : SL → Option R} {r : R} (hf : FR Z n L H G w a) (h : guarded ops L o yes no = some r) :
    (∃ L', yes L' = some r ∧ FR Z n L' H G w a ∧ Region.wanted o (yielded ops a.tmps) = true) ∨ (∃ L', no L' = some r ∧ FR Z n L' H G w a ∧ Region.wanted o (yielded ops a.tmps) = false) := by
  unfold guarded at h
  split at h
  · rename_i hg
    exact .inl ⟨L, h, hf, by simp [Region.wanted, hg]⟩
  · rename_i j want hg
    split at h <;> try (cases h; done)
    rename_i d hd
    split at h <;> try (cases h; done)
    · rename_i b hb
      obtain ⟨v, h1, h2⟩ := hf.slot d _ hb
      have hv := rel_bool h2
      subst hv
      have hy : ∀ b' : Bool, b = b' → FR Z n ((d, .d .bool b') :: delS L d) H G w a := fun b' e => by subst e; exact hf.say h1 h2
      have hw : Region.wanted o (yielded ops a.tmps) = (b == want) := by
        simp only [Region.wanted, hg, yielded, hd, Option.bind_some, h1]
        cases b <;> cases want <;> rfl
      split at h
      · split at h
        · exact .inl ⟨_, h, hy true rfl, hw⟩
        · exact .inr ⟨_, h, hy true rfl, hw⟩
      · split at h
        · exact .inr ⟨_, h, hy false rfl, hw⟩
        · exact .inl ⟨_, h, hy false rfl, hw⟩
    · rename_i hb
      obtain ⟨v, h1, h2⟩ := hf.slot d _ hb
      have h2 : v = undef := h2
      subst h2
      refine .inr ⟨L, h, hf, ?_⟩
      simp only [Region.wanted, hg, yielded, hd, Option.bind_some, h1]
      rfl
theorem atR_nil {fn : Func} {R : Ending → World → Prop} {B : Code} {K : List KI} {i k : Nat} (hk : (opsAt (nth B i))[k]? = none) (h : cont P fn R B K .normal a w) : AtR P fn R B K i k a w := by
  refine atR_end ?_ h
  rw [List.drop_eq_nil_iff]
  simpa using hk
theorem atR_yes {fn : Func} {R : Ending → World → Prop} {B : Code} {K : List KI} {i k : Nat} {o : Oper} (hk : (opsAt (nth B i))[k]? = some o) (hw : Region.wanted o (yielded (opsAt (nth B i)) a.tmps) = true)
    (h : o.upon P a (fun a' w' => AtR P fn R B K i (k + 1) a' w') (cont P fn R B K) ((execOp a.eval o).run P w)) : AtR P fn R B K i k a w := by
  have hlt : k < (opsAt (nth B i)).toList.length := by simpa using (Array.getElem?_eq_some_iff.1 hk).1
  unfold AtR
  have : (opsAt (nth B i)).toList.drop k = o :: (opsAt (nth B i)).toList.drop (k + 1) := by
    rw [List.drop_eq_getElem_cons hlt]
    congr 1
    have := (Array.getElem?_eq_some_iff.1 hk).2
    simpa using this
  rw [this]
  unfold wpList
  rw [if_pos hw]
  exact .inl h
theorem atR_no {fn : Func} {R : Ending → World → Prop} {B : Code} {K : List KI} {i k : Nat} {o : Oper} (hk : (opsAt (nth B i))[k]? = some o) (hw : Region.wanted o (yielded (opsAt (nth B i)) a.tmps) = false)
    (h : AtR P fn R B K i (k + 1) (a.put o.dst undef) w) : AtR P fn R B K i k a w := by
  have hlt : k < (opsAt (nth B i)).toList.length := by simpa using (Array.getElem?_eq_some_iff.1 hk).1
  unfold AtR
  have : (opsAt (nth B i)).toList.drop k = o :: (opsAt (nth B i)).toList.drop (k + 1) := by
    rw [List.drop_eq_getElem_cons hlt]
    congr 1
    have := (Array.getElem?_eq_some_iff.1 hk).2
    simpa using this
  rw [this]
  unfold wpList
  rw [if_neg (by rw [hw]; simp)]
  exact h
theorem resS_run (hT : chkAll P T = true) (hr : SR Z w0 H G w) (hf : FR Z n L H G w a) : ∀ {rs : List ResultVar} {ss : List SV}, resS T H L rs = some ss → ∃ vs, all2 (Rel G (Av Z H G) w) ss vs ∧
    ((rs.mapM (m := Sem) fun
      | .tmp t => pure (a.tmps.getD t undef)
      | .cell ad t => do loadVar t (← asAddr (a.tmps.getD ad undef))).run P w) = .ok vs w := by
  intro rs
  induction rs with
  | nil => intro ss h; simp only [resS, Option.some.injEq] at h; subst h; exact ⟨[], trivial, rfl⟩
  | cons q rs ih =>
    intro ss h
    rw [List.mapM_cons]
    cases q with
    | tmp t =>
      simp only [resS] at h
      split at h <;> try (cases h; done)
      rename_i s l h1 h2
      injection h with h
      subst h
      obtain ⟨vs, g1, g2⟩ := ih h2
      obtain ⟨v, k1, k2⟩ := hf.slot t s h1
      refine ⟨v :: vs, ⟨k2, g1⟩, ?_⟩
      simp only [Sem.run_bind, Sem.run_pure, Result.andThen_ok, Array.getD_eq_getD_getElem?, k1, Option.getD_some] at g2 ⊢
      rw [g2]
      rfl
    | cell ad t =>
      simp only [resS] at h
      split at h <;> try (cases h; done)
      rename_i j off i l h1 hi h2
      split at h <;> try (cases h; done)
      rename_i bt cells hj
      split at h <;> try (cases h; done)
      rename_i s hl
      injection h with h
      subst h
      obtain ⟨vs, g1, g2⟩ := ih h2
      obtain ⟨p, k1, k2⟩ := hf.slot ad _ h1
      obtain ⟨v, e1, e2⟩ := load_box (rw := true) hr (chkAll_look hT hi) k2 hj hl
      obtain ⟨b, hb, rfl⟩ := k2
      refine ⟨v :: vs, ⟨rel_of1 e1, g1⟩, ?_⟩
      have e3 := e2 w Agr.refl
      simp only [Instr.loadAt, Instr.sureAddr, Sem.run_bind, Sem.run_pure, Result.andThen_ok] at e3
      simp only [Sem.run_bind, Sem.run_pure, Result.andThen_ok, Array.getD_eq_getD_getElem?, k1, Option.getD_some, asAddr, e3] at g2 ⊢
      rw [g2]
      rfl
theorem ret_ok {fn : Func} {R : Ending → World → Prop} (hT : chkAll P T = true) (hr : SR Z w0 H G w) (hf : FR Z n L H G w a) {ss : List SV} (h : resS T H L fn.results.toList = some ss) (hR : ∀ vs, all2 (Rel G (Av Z H G) w) ss vs → R (.returned (bundle vs)) w) : bodyPost P fn R .ret a w := by
  obtain ⟨vs, g1, g2⟩ := resS_run (P := P) hT hr hf h
  refine ⟨hf.defers, bundle vs, ?_, hR vs g1⟩
  unfold Go.results
  generalize hrs : fn.results = rs at *
  obtain ⟨l⟩ := rs
  simp only [List.mapM_toArray, bind_map_left]
  simp only [Sem.run_bind]
  refine (congrArg (fun r : Result (List Value) => r.andThen fun (a : List Value) w' => Sem.run P (pure (if h : a.toArray.size = 1 then a.toArray[0] else Value.tuple a.toArray)) w') g2).trans ?_
  match vs with
  | [] => rfl
  | [x] => rfl
  | x :: y :: r => simp [bundle]
theorem bndl_rel {ss : List SV} {vs : List Value} (hn : ∀ s ∈ ss, ∀ l, s ≠ .tup l) (h : all2 (Rel G (Av Z H G) w) ss vs) : Rel G (Av Z H G) w (bndl ss) (bundle vs) := by
  have h1 : all2 (Rel1 G (Av Z H G) w) ss vs := by
    induction ss generalizing vs with
    | nil => cases vs <;> exact h
    | cons s ss ih =>
      match vs, h with
      | v :: vs, ⟨q1, q2⟩ => exact ⟨rel_to1 q1 (hn s (by simp)), ih (fun s hs => hn s (by simp [hs])) q2⟩
  match ss, vs, h, h1 with
  | [], [], _, _ => exact ⟨[], rfl, trivial⟩
  | [s], [v], ⟨q1, _⟩, _ => exact q1
  | s :: s' :: ss, v :: v' :: vs, _, h1 => exact ⟨v :: v' :: vs, rfl, h1⟩
theorem outL_rel {A : Nat → Prop} : ∀ {l : List SV} {r : List RV} {vs : List Value}, outR.outL l = some r → all2 (Rel1 [] A w) l vs → rvS r = some l ∧ (∀ q ∈ r, ∃ t x, q = .d t x)
  | [], r, vs, h, _ => by simp only [outR.outL, Option.some.injEq] at h; subst h; exact ⟨rfl, by simp⟩
  | s :: l, r, vs, h, ha => by
    unfold outR.outL at h
    split at h
    · rename_i e; cases e
    · rename_i t x l' e
      injection e with e1 e2
      subst e1 e2
      split at h <;> try (cases h; done)
      rename_i r' hr'
      injection h with h
      subst h
      match vs, ha with
      | v :: vs, ⟨_, h2⟩ =>
        obtain ⟨g1, g2⟩ := outL_rel hr' h2
        exact ⟨by simp [rvS, g1], fun q hq => by rcases List.mem_cons.1 hq with rfl | hq; exact ⟨t, x, rfl⟩; exact g2 q hq⟩
    · cases h
theorem out_ok (_hT : chkAll P T = true) (hr : SR Z w0 H G w) {ss : List SV} {tys : List Nat} {r : List RV} {vs : List Value} (h : outR T H ss tys = some r) (ha : all2 (Rel G (Av Z H G) w) ss vs) : ResRel Z w0.heap.size w r (bundle vs) := by
  unfold outR at h
  split at h
  · rename_i j
    split at h <;> try (cases h; done)
    rename_i et e xs hj
    injection h with h
    subst h
    match vs, ha with
    | [v], ⟨hv, _⟩ =>
      obtain ⟨css, k1, k2, k3⟩ := hr.items j _ _ hj hv
      refine ⟨css, k1, all2_mono (fun l y h => Ty.rd_keep ⟨Nat.le_refl _, fun b _ hA => ⟨hA.1, hA.2 j _ _ hj rfl hv⟩, fun _ _ _ => rfl⟩ h) k2, k3⟩
  · split at h <;> try (cases h; done)
    split at h <;> try (cases h; done)
    split at h <;> try (cases h; done)
    split at h <;> try (cases h; done)
    rename_i hb
    injection h with h
    subst h
    match vs, ha with
    | [v], ⟨hv, _⟩ =>
      have hv : v = .slice none 0 0 := hv
      subst hv
      exact ⟨[], World.ownsRow_nil _ _ _ _, trivial, Nat.le_of_ble_eq_true hb⟩
  · split at h <;> try (cases h; done)
    rename_i l hl
    have h1 : all2 (Rel1 [] Z w) l vs := argS_rel (ss0 := ss) hr (fun _ _ h => h.1) (.inl fun j g b hg hb ⟨_, _, _, hj⟩ => hr.zf b ((hr.items j _ g hj hg).blk rfl hb).1) (fun s hs => hs) hl ha
    obtain ⟨g1, g2⟩ := outL_rel h h1
    match r, g1, g2 with
    | [], g1, _ =>
      simp only [rvS, Option.some.injEq] at g1
      subst g1
      match vs, h1 with
      | [], _ => exact ⟨[], rfl, [], rfl, trivial⟩
    | [.d t x], g1, _ =>
      simp only [rvS, Option.some.injEq] at g1
      subst g1
      match vs, h1 with
      | [v], ⟨q, _⟩ => exact q
    | [.new et e xs], _, g2 => obtain ⟨t, x, he⟩ := g2 (.new et e xs) (by simp); cases he
    | q :: q' :: r, g1, _ =>
      have hlen : vs.length = (q :: q' :: r).length := by
        rw [← all2_len h1]
        have : ∀ (r : List RV) (l : List SV), rvS r = some l → l.length = r.length := by
          intro r
          induction r with
          | nil => intro l h; simp only [rvS, Option.some.injEq] at h; subst h; rfl
          | cons q r ih =>
            intro l h
            cases q <;> simp only [rvS] at h <;> split at h <;> first | (cases h; done) | (injection h with h; subst h; simp [ih _ (by assumption)])
        exact this _ _ g1
      match vs, hlen, h1 with
      | v :: v' :: vs, _, h1 => cases q <;> exact ⟨v :: v' :: vs, rfl, l, g1, h1⟩
end
end Go.Proofs.YtcaiedfkohigjaaGreat
/- The pure machine is sound. -/
namespace Go.Proofs.YtcaiedfkohigjaaGreat
open Go.RowKit
theorem argsL_rel {Z : Nat → Prop} {H : List Item} {G : List Value} {w : World} {a : Act} : ∀ {ss : List SV} {vs : List Value} {k : Nat}, all2 (Rel G (Av Z H G) w) ss vs → (∀ t v, look (argL k vs) t = some v → a.tmps[t]? = some v) → ∀ t s, lookS (argsL k ss) t = some s → ∃ v, a.tmps[t]? = some v ∧ Rel G (Av Z H G) w s v
  | [], [], k, _, _, t, s, h => by simp [argsL, lookS] at h
  | s0 :: ss, v0 :: vs, k, ⟨h1, h2⟩, ha, t, s, h => by
    rcases lookS_cons h with ⟨rfl, rfl⟩ | ⟨hne, h3⟩
    · exact ⟨v0, ha t v0 (by simp [argL, look]), h1⟩
    · refine argsL_rel h2 (fun u x hx => ha u x ?_) t s h3
      simp only [argL, look]
      split
      · rename_i hb
        have e : k = u := Nat.eq_of_beq_eq_true hb
        have := (argL_look vs (k + 1) u x hx).1
        omega
      · exact hx
def AtG (P : Program) (fn : Func) (R : Ending → World → Prop) (B : Code) (K : List KI) (i : Nat) (S0 : World → Prop) (m : Nat) (D : List Nat) (a : Act) (w : World) : Prop :=
  wpG P (opsAt (nth B i)) (cont P fn R B K) S0 m (mkL (opsAt (nth B i)).size D) a w
def PosOk (P : Program) (F : FT) (Rt : Ending → World → Prop) (c : Cfg) (fn : Func) (G : List Value) (w : World) (a : Act) (ats : List Act) : Pos → Prop
  | .nrm => cont P fn (RetR P F Rt c.fs ats) (bodyF F c.f) (toKI P fn (RetR P F Rt c.fs ats) (bodyF F c.f) c.K) .normal a w
  | .node i => At P fn (RetR P F Rt c.fs ats) (bodyF F c.f) (toKI P fn (RetR P F Rt c.fs ats) (bodyF F c.f) c.K) i a w
  | .ops i k => AtR P fn (RetR P F Rt c.fs ats) (bodyF F c.f) (toKI P fn (RetR P F Rt c.fs ats) (bodyF F c.f) c.K) i k a w
  | .ret => bodyPost P fn (RetR P F Rt c.fs ats) .ret a w
  | .tam i D => D = [] → Region.noSelect (opsAt (nth (bodyF F c.f) i)) = true → AtG P fn (RetR P F Rt c.fs ats) (bodyF F c.f) (toKI P fn (RetR P F Rt c.fs ats) (bodyF F c.f) c.K) i (fun _ => True) (opsAt (nth (bodyF F c.f) i)).size [] a w
  | .tal i D => ∀ S0 : World → Prop, (∀ w w', S0 w → (w.heap.size ≤ w'.heap.size ∧ ∀ b, b < w.heap.size → w'.heap[b]? = w.heap[b]?) → S0 w') → (storeDone (opsAt (nth (bodyF F c.f) i)) (mkL (opsAt (nth (bodyF F c.f) i)).size D) ∨ S0 w) → Clo (opsAt (nth (bodyF F c.f) i)) (mkL (opsAt (nth (bodyF F c.f) i)).size D) → Region.noSelect (opsAt (nth (bodyF F c.f) i)) = true → ∀ m', m' + D.length = (opsAt (nth (bodyF F c.f) i)).size → AtG P fn (RetR P F Rt c.fs ats) (bodyF F c.f) (toKI P fn (RetR P F Rt c.fs ats) (bodyF F c.f) c.K) i S0 m' D a w
  | .drw i rw eff D => ∀ Hs Gs ws, ((storeDone (opsAt (nth (bodyF F c.f) i)) (mkL (opsAt (nth (bodyF F c.f) i)).size D) ∧ eff = true) ∨ (Agr rw Hs Gs ws w ∧ (∀ b, b < ws.heap.size → RowsB c.H G b → RowsB Hs Gs b) ∧ (eff = false → c.H = Hs ∧ G = Gs ∧ w = ws) ∧ ¬ storeDone (opsAt (nth (bodyF F c.f) i)) (mkL (opsAt (nth (bodyF F c.f) i)).size D))) → Clo (opsAt (nth (bodyF F c.f) i)) (mkL (opsAt (nth (bodyF F c.f) i)).size D) → Region.noSelect (opsAt (nth (bodyF F c.f) i)) = true →
      ∀ m', m' + D.length = (opsAt (nth (bodyF F c.f) i)).size → AtG P fn (RetR P F Rt c.fs ats) (bodyF F c.f) (toKI P fn (RetR P F Rt c.fs ats) (bodyF F c.f) c.K) i (Agr rw Hs Gs ws) m' D a w
section
variable {Z : Nat → Prop} {w0 : World} {F : FT} {P : Program} {T : TT} {E : Env} {N : NT} {Fin : Nat → Cfg → Option (List RV)} {Rt : Ending → World → Prop} {r : List RV}
theorem wayJ_ok {fn : Func} {R : Ending → World → Prop} {B : Code} {id : Nat} : ∀ {K K' : List KJ}, wayJ id K = some K' → wayE id (toKI P fn R B K) = some (toKI P fn R B K')
  | [], K', h => by simp [wayJ] at h
  | .blk j :: K, K', h => by
    simp only [wayJ] at h
    simp only [toKI, wayE]
    split at h
    · rename_i hb; rw [hb]; injection h with h; rw [h]
    · rename_i hb; rw [hb]; exact wayJ_ok h
  | .seq _ :: K, K', h => by simp only [wayJ] at h; simp only [toKI, wayE]; exact wayJ_ok h
  | .lp _ :: K, K', h => by simp only [wayJ] at h; simp only [toKI, wayE]; exact wayJ_ok h
theorem into_ok {L : SL} {H : List Item} {G : List Value} {w : World} {a : Act} {n g : Nat} {ss : List SV} {o : Op} (hf : FR Z n L H G w a) (h : into F E L o = some (g, ss)) : ∃ f args tys fn caps, o = .call ⟨.value f, args, tys⟩ ∧ lookF F g = some fn ∧ a.eval f = .func (.func g) #[] caps ∧ all2 (Rel G (Av Z H G) w) ss (args.map a.eval ++ caps).toList ∧ ss.length ≤ fn.ntmps ∧ (!(fn.name == "runtime.NumGoroutine")) = true ∧ fn.body.isSome = true := by
  unfold into at h
  split at h <;> try (cases h; done)
  rename_i f args tys
  split at h <;> try (cases h; done)
  rename_i g' caps hs
  split at h <;> try (cases h; done)
  split at h <;> try (cases h; done)
  rename_i fn ss' hfn hss
  split at h <;> try (cases h; done)
  rename_i hb
  simp only [Option.some.injEq, Prod.mk.injEq] at h
  obtain ⟨rfl, rfl⟩ := h
  simp only [Bool.and_eq_true] at hb
  obtain ⟨bs, hbs, hfv⟩ := opS_rel hf hs
  refine ⟨f, args, tys, fn, _, rfl, hfn, hfv, ?_, by simp; exact Nat.le_of_ble_eq_true hb.1, hb.2.1, hb.2.2⟩
  have h1 := allS_rel hf hss
  have h2 : all2 (Rel G (Av Z H G) w) (caps.map fun j => .box j 0) (bs.map fun b => Value.pointer (some ⟨b, 0, none⟩)) := by
    clear hs hfv
    induction caps generalizing bs with
    | nil => cases bs <;> exact hbs
    | cons c caps ih =>
      match bs, hbs with
      | b :: bs, ⟨q1, q2⟩ => exact ⟨⟨b, q1, rfl⟩, ih (by
          simp only [List.length_cons] at hb
          exact ⟨Nat.ble_eq_true_of_le (by have := Nat.le_of_ble_eq_true hb.1; omega), hb.2⟩) bs q2⟩
  have := all2_append h1 h2
  simpa using this
theorem pickQ_ok {ops : Array Oper} {eff : Bool} {D : List Nat} : ∀ {rs : List Nat} {j : Nat}, pickQ ops eff D rs = some j → j ∈ rs ∧ ∃ o, ops[j]? = some o ∧ isQ o.op = true ∧ (isLoad o.op = true → eff = false ∧ allWait ops j = true) ∧ o.dst.isSome = true ∧ Region.free .any ops (mkL ops.size D) j = true
  | [], j, h => by simp [pickQ] at h
  | q :: rs, j, h => by
    simp only [pickQ] at h
    split at h <;> try (cases h; done)
    rename_i o ho
    split at h
    · rename_i hb
      injection h with h
      subst h
      simp only [Bool.and_eq_true, Bool.not_eq_true', Bool.and_eq_false_iff, Bool.or_eq_false_iff, Bool.not_eq_false'] at hb
      obtain ⟨⟨⟨b1, b2⟩, b3⟩, b4⟩ := hb
      exact ⟨by simp, o, ho, b1, fun hl => by rcases b2 with b2 | b2; rw [hl] at b2; cases b2; exact b2, b3, b4⟩
    · obtain ⟨h1, h2⟩ := pickQ_ok h
      exact ⟨by simp [h1], h2⟩
end
end Go.Proofs.YtcaiedfkohigjaaGreat
