/- The engine: stretches of operations; new blocks; stores; calls. -/
import Derived.Test.YtpiabmjipgfjjaaDoorEng
namespace Go.Proofs.YtpiabmjipgfjjaaDoor
open Go.RowKit

abbrev Hints := List (Nat × Option Value × List Value)
def hint : Hints → Nat → Option Value × List Value
  | [], _ => (none, [])
  | (k, x) :: r, t => match Nat.beq k t with
    | true => x
    | false => hint r t

def evO (P : Program) (L : Sl) (o : Oper) (H : List Value) : Option (Value × Obl) :=
  match special P L o.op with
  | some r => some r
  | none => match evT P (execOp (envOf L) o) H with
    | some (.value v, O) => some (v, O)
    | _ => none
theorem evO_run {P : Program} {w : World} {L : Sl} {o : Oper} {H : List Value} {v : Value} {O : Obl} (h : evO P L o H = some (v, O)) (hO : conj O w) : (execOp (envOf L) o).run P w = .ok (.value v) w := by
  unfold evO at h
  split at h
  · rename_i r hr
    injection h with h
    subst h
    exact special_run w hr hO
  · split at h
    · rename_i hr
      simp only [Option.some.injEq, Prod.mk.injEq] at h
      obtain ⟨rfl, rfl⟩ := h
      exact evT_run _ _ _ _ hr hO
    · cases h

def stp (P : Program) (ops : Array Oper) (n : Nat) (L : Sl) (o : Oper) (h : Option Value × List Value) : Option (Sl × Obl) :=
  match wantedL ops L o with
  | some false => match putL n L o.dst undef with
    | some L' => some (L', [])
    | none => none
  | some true => match opsOk L o.op with
    | true => match evO P L o h.2 with
      | some (v, O) => match h.1 with
        | none => match putL n L o.dst v with
          | some L' => some (L', O)
          | none => none
        | some v' => match putL n L o.dst v' with
          | some L' => some (L', (fun _ => v = v') :: O)
          | none => none
      | none => none
    | false => none
  | none => none

/-- What a step of the engine says of the machine's: the value, and the frame behind it. -/
theorem stp_run {P : Program} {w : World} {ops : Array Oper} {n : Nat} {L L' : Sl} {o : Oper} {h : Option Value × List Value} {O : Obl} {a : Act} (hs : St n L a) (he : stp P ops n L o h = some (L', O)) (hO : conj O w) :
    ∃ v, St n L' (a.put o.dst v) ∧ ((Region.wanted o (yielded ops a.tmps) = true ∧ (execOp a.eval o).run P w = .ok (.value v) w) ∨ (Region.wanted o (yielded ops a.tmps) = false ∧ v = undef)) := by
  unfold stp at he
  split at he
  · rename_i hw
    split at he
    · rename_i L1 hp
      simp only [Option.some.injEq, Prod.mk.injEq] at he
      obtain ⟨rfl, rfl⟩ := he
      exact ⟨undef, hs.put hp, .inr ⟨hs.wanted hw, rfl⟩⟩
    · cases he
  · rename_i hw
    split at he
    · rename_i hok
      split at he
      · rename_i v O1 hev
        split at he
        · split at he
          · rename_i L1 hp
            simp only [Option.some.injEq, Prod.mk.injEq] at he
            obtain ⟨rfl, rfl⟩ := he
            exact ⟨v, hs.put hp, .inl ⟨hs.wanted hw, by rw [hs.exec o hok]; exact evO_run hev hO⟩⟩
          · cases he
        · split at he
          · rename_i v' _ L1 hp
            simp only [Option.some.injEq, Prod.mk.injEq] at he
            obtain ⟨rfl, rfl⟩ := he
            obtain ⟨rfl, hO'⟩ := hO
            exact ⟨v, hs.put hp, .inl ⟨hs.wanted hw, by rw [hs.exec o hok]; exact evO_run hev hO'⟩⟩
          · cases he
      · cases he
    · cases he
  · cases he

theorem stp_wp {P : Program} {w : World} {ops : Array Oper} {n : Nat} {L L' : Sl} {o : Oper} {h : Option Value × List Value} {O : Obl} {a : Act} {rest : List Oper} {Q : Exit → Act → World → Prop} (hs : St n L a) (he : stp P ops n L o h = some (L', O)) (hO : conj O w)
    (hk : ∀ a', St n L' a' → wpList P ops Q rest a' w) : wpList P ops Q (o :: rest) a w := by
  obtain ⟨v, hv, ⟨hw, hr⟩ | ⟨hw, rfl⟩⟩ := stp_run hs he hO
  · unfold wpList
    rw [if_pos hw]
    refine .inl ?_
    unfold Oper.wp
    rw [hr]
    exact hk _ hv
  · unfold wpList
    rw [if_neg (by rw [hw]; simp)]
    exact hk _ hv

def segL (P : Program) (ops : Array Oper) (n : Nat) (H : Hints) : Nat → List Oper → Sl → Option (Sl × Obl)
  | _, [], L => some (L, [])
  | k, o :: os, L => match stp P ops n L o (hint H k) with
    | some (L', O) => match segL P ops n H (k + 1) os L' with
      | some (L'', O') => some (L'', O ++ O')
      | none => none
    | none => none
theorem segL_wp {P : Program} {w : World} {ops : Array Oper} {n : Nat} {H : Hints} {Q : Exit → Act → World → Prop} {rest : List Oper} : ∀ (os : List Oper) (k : Nat) (L L' : Sl) (O : Obl) (a : Act), segL P ops n H k os L = some (L', O) → conj O w → St n L a →
    (∀ a', St n L' a' → wpList P ops Q rest a' w) → wpList P ops Q (os ++ rest) a w := by
  intro os
  induction os with
  | nil =>
    intro k L L' O a h _ hs hk
    simp only [segL, Option.some.injEq, Prod.mk.injEq] at h
    obtain ⟨rfl, rfl⟩ := h
    exact hk a hs
  | cons o os ih =>
    intro k L L' O a h hO hs hk
    simp only [segL] at h
    split at h
    · rename_i L1 O1 h1
      split at h
      · rename_i L2 O2 h2
        simp only [Option.some.injEq, Prod.mk.injEq] at h
        obtain ⟨rfl, rfl⟩ := h
        obtain ⟨hO1, hO2⟩ := conj_append hO
        exact stp_wp hs h1 hO1 fun a' ha' => ih (k + 1) L1 L2 O2 a' h2 hO2 ha' hk
      · cases h
    · cases h

def pickL (L : Sl) : List Nat → Option Sl
  | [] => some []
  | t :: ts => match look L t with
    | some v => match pickL L ts with
      | some r => some ((t, v) :: r)
      | none => none
    | none => none
theorem pickL_look {L : Sl} : ∀ {ts : List Nat} {L' : Sl}, pickL L ts = some L' → ∀ t v, look L' t = some v → look L t = some v := by
  intro ts
  induction ts with
  | nil => intro L' h t v hv; simp [pickL] at h; subst h; simp [look] at hv
  | cons s ts ih =>
    intro L' h t v hv
    simp only [pickL] at h
    split at h
    · rename_i u hu
      split at h
      · rename_i r hr
        injection h with h
        subst h
        simp only [look] at hv
        split at hv
        · rename_i he
          have : s = t := Nat.eq_of_beq_eq_true he
          subst this
          injection hv with hv
          subst hv
          exact hu
        · exact ih hr t v hv
      · cases h
    · cases h
theorem St.pick {n : Nat} {L L' : Sl} {a : Act} {ts : List Nat} (h : St n L a) (hp : pickL L ts = some L') : St n L' a := ⟨h.defers, h.size, fun t v hv => h.slot t v (pickL_look hp t v hv)⟩

/-- A stretch of a region: operations k .. k + m - 1; the slots 'ts' are kept. -/
def seg (P : Program) (ops : Array Oper) (n k m : Nat) (L : Sl) (H : Hints) (ts : List Nat) : Option (Sl × (World → Prop)) :=
  match segL P ops n H k ((ops.toList.drop k).take m) L with
  | some (L', O) => match pickL L' ts with
    | some L2 => some (L2, conj O)
    | none => none
  | none => none

/-! The places of a function's code. -/
def Code.size : Code → Nat
  | .seq a b => size a + size b + 1
  | .cond _ a b => size a + size b + 1
  | .block _ c => size c + 1
  | .loop c => size c + 1
  | .scope c => size c + 1
  | _ => 1
/-- The i-th node, the text's order. -/
def nth : Code → Nat → Code
  | c, 0 => c
  | .seq a b, i + 1 => match Nat.ble (i + 1) (Code.size a) with
    | true => nth a i
    | false => nth b (i - Code.size a)
  | .cond _ a b, i + 1 => match Nat.ble (i + 1) (Code.size a) with
    | true => nth a i
    | false => nth b (i - Code.size a)
  | .block _ c, i + 1 => nth c i
  | .loop c, i + 1 => nth c i
  | .scope c, i + 1 => nth c i
  | _, _ => .skip

inductive KI where
  | seq (i : Nat)
  | blk (id : Nat)
  | lp (J : Act → World → Prop)

/-- What is asked of an ending of the piece at hand. -/
def cont (P : Program) (fn : Func) (R : Ending → World → Prop) (B : Code) : List KI → Exit → Act → World → Prop
  | [] => bodyPost P fn R
  | .seq i :: K => Exit.then ((nth B i).wp P (cont P fn R B K)) (cont P fn R B K)
  | .blk id :: K => Exit.inBlock id (cont P fn R B K)
  | .lp J :: K => Exit.then J (cont P fn R B K)

/-- Node i is to be run. -/
def At (P : Program) (fn : Func) (R : Ending → World → Prop) (B : Code) (K : List KI) (i : Nat) (a : Act) (w : World) : Prop := (nth B i).wp P (cont P fn R B K) a w
def opsAt : Code → Array Oper
  | .region _ ops _ => ops
  | _ => #[]
/-- Operation k of region i is to be run. -/
def AtR (P : Program) (fn : Func) (R : Ending → World → Prop) (B : Code) (K : List KI) (i k : Nat) (a : Act) (w : World) : Prop :=
  wpList P (opsAt (nth B i)) (cont P fn R B K) ((opsAt (nth B i)).toList.drop k) a w

/-- Where an ending leads: to a node, to the loop's head, to the function's end. -/
inductive Way where
  | node (i : Nat) (K : List KI)
  | back
  | ret
  | lost
def wayE (id : Nat) : List KI → Option (List KI)
  | [] => none
  | .blk j :: K => match Nat.beq j id with
    | true => some K
    | false => wayE id K
  | _ :: K => wayE id K
def wayN : List KI → Way
  | [] => .ret
  | .seq i :: K => .node i K
  | .blk _ :: K => wayN K
  | .lp _ :: _ => .back

section
variable {P : Program} {fn : Func} {R : Ending → World → Prop} {B : Code} {K K' : List KI} {i : Nat} {a : Act} {w : World}
theorem wayN_node (h : wayN K = .node i K') (hk : At P fn R B K' i a w) : cont P fn R B K .normal a w := by
  induction K with
  | nil => simp [wayN] at h
  | cons x K ih =>
    cases x with
    | seq j => simp only [wayN, Way.node.injEq] at h; obtain ⟨rfl, rfl⟩ := h; exact hk
    | blk id => exact ih (by simpa [wayN] using h)
    | lp J => simp [wayN] at h
theorem wayN_ret (h : wayN K = .ret) (hk : bodyPost P fn R .normal a w) : cont P fn R B K .normal a w := by
  induction K with
  | nil => exact hk
  | cons x K ih =>
    cases x with
    | seq j => simp [wayN] at h
    | blk id => exact ih (by simpa [wayN] using h)
    | lp J => simp [wayN] at h
/-- The loop's own relation, where the round ends. -/
def lpOf : List KI → Act → World → Prop
  | .blk _ :: K => lpOf K
  | .lp J :: _ => J
  | _ => fun _ _ => False
theorem wayN_back (hk : lpOf K a w) : cont P fn R B K .normal a w := by
  induction K with
  | nil => exact hk.elim
  | cons x K ih =>
    cases x with
    | seq j => exact hk.elim
    | blk id => exact ih hk
    | lp J => exact hk
theorem wayE_ok {id : Nat} (h : wayE id K = some K') (hk : cont P fn R B K' .normal a w) : cont P fn R B K (.exit id) a w := by
  induction K with
  | nil => simp [wayE] at h
  | cons x K ih =>
    cases x with
    | seq j => exact ih (by simpa [wayE] using h)
    | lp J => exact ih (by simpa [wayE] using h)
    | blk j =>
      simp only [wayE] at h
      split at h
      · rename_i he
        have : j = id := Nat.eq_of_beq_eq_true he
        subst this
        injection h with h
        subst h
        show Exit.inBlock j (cont P fn R B K) (.exit j) a w
        simpa [Exit.inBlock] using hk
      · rename_i he
        have hne : ¬ id = j := fun e => by subst e; simp at he
        show Exit.inBlock j (cont P fn R B K) (.exit id) a w
        simp only [Exit.inBlock, hne, if_false]
        exact ih h
theorem cont_ret (hk : bodyPost P fn R .ret a w) : cont P fn R B K .ret a w := by
  induction K with
  | nil => exact hk
  | cons x K ih => cases x <;> exact ih

/-- A node that only leads on. -/
theorem at_seq {j : Nat} (hc : nth B i = .seq (nth B (i + 1)) (nth B j)) (h : At P fn R B (.seq j :: K) (i + 1) a w) : At P fn R B K i a w := by
  unfold At; rw [hc]; exact wp_seq h
theorem at_block {id : Nat} (hc : nth B i = .block id (nth B (i + 1))) (h : At P fn R B (.blk id :: K) (i + 1) a w) : At P fn R B K i a w := by
  unfold At; rw [hc]; exact wp_block h
theorem at_skip (hc : nth B i = .skip) (h : cont P fn R B K .normal a w) : At P fn R B K i a w := by
  unfold At; rw [hc]; exact wp_skip h
theorem at_exit {id : Nat} (hc : nth B i = .exit id) (h : cont P fn R B K (.exit id) a w) : At P fn R B K i a w := by
  unfold At; rw [hc]; exact wp_exit h
theorem at_ret (hc : nth B i = .ret) (h : bodyPost P fn R .ret a w) : At P fn R B K i a w := by
  unfold At; rw [hc]; exact wp_ret (cont_ret h)
theorem at_region {id : Nat} (hc : nth B i = .region id (opsAt (nth B i)) false) (h : AtR P fn R B K i 0 a w) : At P fn R B K i a w := by
  unfold At; rw [hc]; exact wp_region_list (by simpa [AtR] using h)
theorem at_cond {n : Nat} {L : Sl} {t j1 j2 : Nat} {b : Bool} (hc : nth B i = .cond (.tmp t) (nth B j1) (nth B j2)) (hs : St n L a) (hl : look L t = some (.bool b)) (h1 : b = true → At P fn R B K j1 a w) (h2 : b = false → At P fn R B K j2 a w) : At P fn R B K i a w := by
  unfold At; rw [hc]
  have := hs.slot t _ hl
  exact wp_cond_split (t := b) (by simp [Act.eval, Array.getD_eq_getD_getElem?, this]) h1 h2
theorem atR_end {k : Nat} (hk : (opsAt (nth B i)).toList.drop k = []) (h : cont P fn R B K .normal a w) : AtR P fn R B K i k a w := by
  unfold AtR; rw [hk]; exact h

/-- A stretch. -/
theorem atR_seg {n k m : Nat} {L L' : Sl} {H : Hints} {ts : List Nat} {O : World → Prop} (hs : St n L a) (he : seg P (opsAt (nth B i)) n k m L H ts = some (L', O)) (hO : O w) (h : ∀ a', St n L' a' → AtR P fn R B K i (k + m) a' w) : AtR P fn R B K i k a w := by
  unfold seg at he
  split at he
  · rename_i L1 O1 h1
    split at he
    · rename_i L2 h2
      simp only [Option.some.injEq, Prod.mk.injEq] at he
      obtain ⟨rfl, rfl⟩ := he
      have : (opsAt (nth B i)).toList.drop k = ((opsAt (nth B i)).toList.drop k).take m ++ (opsAt (nth B i)).toList.drop (k + m) := by
        rw [← List.drop_drop, List.take_append_drop]
      unfold AtR
      rw [this]
      exact segL_wp _ k L L1 O1 a h1 hO hs fun a' ha' => h a' (ha'.pick h2)
    · cases he
  · cases he
end
end Go.Proofs.YtpiabmjipgfjjaaDoor
