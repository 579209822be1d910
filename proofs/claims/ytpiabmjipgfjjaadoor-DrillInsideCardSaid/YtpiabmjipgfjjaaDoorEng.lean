/- A small engine: the frame is a variable of which some slots are known; regions are run by the kernel over those slots. -/
import Derived.Test.YtpiabmjipgfjjaaDoorBase2
import Derived.OrdersHeld
namespace Go.Proofs.YtpiabmjipgfjjaaDoor
open Go.RowKit

/-! Known slots. -/
abbrev Sl := List (Nat × Value)
def look : Sl → Nat → Option Value
  | [], _ => none
  | (k, x) :: r, t => match Nat.beq k t with
    | true => some x
    | false => look r t

structure St (n : Nat) (L : Sl) (a : Act) : Prop where
  defers : a.defers = []
  size : a.tmps.size = n
  slot : ∀ t v, look L t = some v → a.tmps[t]? = some v

def putL (n : Nat) (L : Sl) : Option Nat → Value → Option Sl
  | none, _ => some L
  | some d, v => match Nat.ble (d + 1) n with
    | true => some ((d, v) :: L)
    | false => none

theorem St.put {n : Nat} {L L' : Sl} {a : Act} {d : Option Nat} {v : Value} (h : St n L a) (hp : putL n L d v = some L') : St n L' (a.put d v) := by
  cases d with
  | none => simp [putL] at hp; subst hp; exact h
  | some d =>
    simp only [putL] at hp
    split at hp
    · rename_i hd
      have hd' : d < n := by have := Nat.le_of_ble_eq_true hd; omega
      injection hp with hp
      subst hp
      refine ⟨h.defers, by simp [Act.put, h.size], fun t u hu => ?_⟩
      simp only [look] at hu
      simp only [Act.put, Array.getElem?_setIfInBounds, h.size]
      split at hu
      · rename_i he
        have : d = t := Nat.eq_of_beq_eq_true he
        subst this
        simpa [hd'] using hu
      · rename_i he
        have : d ≠ t := fun e => by subst e; simp at he
        rw [if_neg this]
        exact h.slot t u hu
    · cases hp

def envOf (L : Sl) : Operand → Value
  | .tmp t => (look L t).getD undef
  | .const v => v
  | .global g => .pointer (some ⟨g, 0, none⟩)
  | .func f => .func (.func f) #[] #[]
def known (L : Sl) : Operand → Bool
  | .tmp t => (look L t).isSome
  | _ => true
def opsOk (L : Sl) (o : Op) : Bool := o.operands.toList.all (known L) && (match o with | .select _ _ => false | _ => true)

theorem St.eval {n : Nat} {L : Sl} {a : Act} (h : St n L a) (x : Operand) (hx : known L x = true) : a.eval x = envOf L x := by
  cases x with
  | tmp t =>
    simp only [known, Option.isSome_iff_exists] at hx
    obtain ⟨v, hv⟩ := hx
    have := h.slot t v hv
    simp [Act.eval, envOf, hv, Array.getD_eq_getD_getElem?, this]
  | _ => rfl
theorem St.exec {n : Nat} {L : Sl} {a : Act} (h : St n L a) (o : Oper) (ho : opsOk L o.op = true) : execOp a.eval o = execOp (envOf L) o := by
  simp only [opsOk, Bool.and_eq_true] at ho
  refine execOp_congr o (fun cs b e => ?_) (fun x hx => h.eval x ?_)
  · rw [e] at ho; simp at ho
  · exact List.all_eq_true.1 ho.1 x (by simpa using hx)

/-! Guards. -/
def wantedL (ops : Array Oper) (L : Sl) (o : Oper) : Option Bool :=
  match o.guard with
  | none => some true
  | some (j, want) =>
    match (ops[j]?).bind (·.dst) with
    | some d => match look L d with
      | some (.bool b) => some (b == want)
      | some (.tuple _) => some false
      | _ => none
    | none => none
theorem St.wanted {n : Nat} {L : Sl} {a : Act} {ops : Array Oper} {o : Oper} {b : Bool} (h : St n L a) (hw : wantedL ops L o = some b) : Region.wanted o (yielded ops a.tmps) = b := by
  unfold wantedL at hw
  unfold Region.wanted
  cases hg : o.guard with
  | none => simp [hg] at hw; simpa using hw
  | some gw =>
    obtain ⟨j, want⟩ := gw
    simp only [hg] at hw
    cases hd : (ops[j]?).bind (·.dst) with
    | none => simp [hd] at hw
    | some d =>
      simp only [hd] at hw
      cases hl : look L d with
      | none => simp [hl] at hw
      | some v =>
        simp only [hl] at hw
        have hs := h.slot d v hl
        cases v <;> simp at hw
        · subst hw
          simp only [yielded, hd, Option.bind_some, hs]
          rename_i b
          cases b <;> cases want <;> rfl
        · subst hw
          simp only [yielded, hd, Option.bind_some, hs]
          rfl

/-! An operation's run, by the kernel. -/
abbrev Obl := List (World → Prop)
def conj : Obl → World → Prop
  | [], _ => True
  | p :: r, w => p w ∧ conj r w
theorem conj_append {w : World} : ∀ {l m : Obl}, conj (l ++ m) w → conj l w ∧ conj m w
  | [], _, h => ⟨trivial, h⟩
  | _ :: _, _, h => ⟨⟨h.1, (conj_append h.2).1⟩, (conj_append h.2).2⟩

def evT (P : Program) : Sem Next → List Value → Option (Next × Obl)
  | .pure n, [] => some (n, [])
  | .program k, H => evT P (k P) H
  | .load .plain a k, v :: H => match evT P (k v) H with
    | some (n, O) => some (n, (fun w => w.cell? a = some v) :: O)
    | none => none
  | _, _ => none
theorem evT_run {P : Program} {w : World} : ∀ (t : Sem Next) (H : List Value) (n : Next) (O : Obl), evT P t H = some (n, O) → conj O w → t.run P w = .ok n w := by
  intro t
  induction t with
  | pure m =>
    intro H n O h _
    cases H with
    | nil => simp [evT] at h; rw [h.1]; rfl
    | cons => simp [evT] at h
  | program k ih =>
    intro H n O h hO
    simp only [evT] at h
    exact ih P H n O h hO
  | load m a k ih =>
    intro H n O h hO
    cases m with
    | atomic => cases H <;> simp [evT] at h
    | plain =>
      cases H with
      | nil => simp [evT] at h
      | cons v H =>
        simp only [evT] at h
        cases hr : evT P (k v) H with
        | none => simp [hr] at h
        | some r =>
          obtain ⟨n', O'⟩ := r
          simp only [hr, Option.some.injEq, Prod.mk.injEq] at h
          obtain ⟨rfl, rfl⟩ := h
          simp only [Sem.run, hO.1]
          exact ih v H _ _ hr hO.2
  | _ => intro H n O h; cases H <;> simp [evT] at h

/-- '==' on structs of integers and bools. -/
def partV (P : Program) (t : TypeId) (cs : Array Value) (off : Nat) : Option Value :=
  match P.underlying t, P.info? t with
  | some (.struct _), some i => some (.agg (cs.extract off (off + i.size)))
  | some (.int _), _ => cs[off]?
  | some .bool, _ => cs[off]?
  | _, _ => none
def eqFs (rc : TypeId → Value → Value → Option Bool) (P : Program) (xs ys : Array Value) : List Field → Option Bool
  | [] => some true
  | f :: fs => if f.name ≠ "_" then
      match partV P f.type xs f.offset, partV P f.type ys f.offset with
      | some a, some b => match rc f.type a b, eqFs rc P xs ys fs with
        | some r, some r' => some (r && r')
        | _, _ => none
      | _, _ => none
    else none
def eqV (P : Program) : Nat → TypeId → Value → Value → Option Bool
  | 0, _, _, _ => none
  | d + 1, t, x, y => match P.underlying t, x, y with
    | some (.int _), .int .i64 a, .int .i64 b => some (a == b)
    | some (.int _), .int .u32 a, .int .u32 b => some (a == b)
    | some .bool, .bool a, .bool b => some (a == b)
    | some (.struct fs), .agg xs, .agg ys => match P.stoodInHeld t with
      | false => eqFs (eqV P d) P xs ys fs.toList
      | true => none
    | _, _, _ => none
theorem partV_run {P : Program} {t : TypeId} {cs : Array Value} {off : Nat} {v : Value} (w : World) (h : partV P t cs off = some v) : (part t cs off).run P w = .ok v w := by
  unfold partV at h
  split at h
  · rename_i fs i hu hi
    injection h with h
    subst h
    simp [part, isAgg, run_underlying hu, sizeOf, typeInfo, hi]
  · rename_i hu
    simp [part, isAgg, run_underlying hu, h]
  · rename_i hu
    simp [part, isAgg, run_underlying hu, h]
  · cases h
theorem eqFs_run {P : Program} {rc : TypeId → Value → Value → Option Bool} {d : Nat} (hrc : ∀ t x y r (w : World), rc t x y = some r → (Op.equalIn d t x y).run P w = .ok r w) (w : World) (xs ys : Array Value) : ∀ (fs : List Field) (r : Bool), eqFs rc P xs ys fs = some r → (Op.eqFields d xs ys fs).run P w = .ok r w
  | [], r, h => by simp [eqFs] at h; subst h; rfl
  | f :: fs, r, h => by
    simp only [eqFs] at h
    split at h
    · rename_i hn
      split at h
      · rename_i a b ha hb
        split at h
        · rename_i r1 r2 h1 h2
          injection h with h
          subst h
          have ih := eqFs_run hrc w xs ys fs r2 h2
          simp only [Op.eqFields, if_pos hn, Sem.run_bind, partV_run w ha, partV_run w hb, hrc _ _ _ _ w h1, Result.andThen_ok]
          cases r1
          · simp
          · simpa using ih
        · cases h
      · cases h
    · cases h
theorem eqV_run {P : Program} : ∀ (d : Nat) (t : TypeId) (x y : Value) (r : Bool) (w : World), eqV P d t x y = some r → (Op.equalIn d t x y).run P w = .ok r w
  | 0, _, _, _, _, _, h => by simp [eqV] at h
  | d + 1, t, x, y, r, w, h => by
    simp only [eqV] at h
    split at h
    · rename_i hu
      injection h with h; subst h
      exact run_equalIn_int w d t _ _ _ _ hu
    · rename_i hu
      injection h with h; subst h
      exact run_equalIn_int w d t _ _ _ _ hu
    · rename_i hu
      injection h with h; subst h
      exact run_equalIn_bool' w d t _ _ hu
    · rename_i fs xs ys hu
      split at h
      · rename_i hst
        have hf : P.fieldsOf t = fs := by simp [Program.fieldsOf, hu]
        rw [run_equalIn_struct w d t xs ys (by rw [hf]; exact hu) hst, hf]
        exact eqFs_run (fun t x y r w h => eqV_run d t x y r w h) w xs ys fs.toList r h
      · cases h
    · cases h

/-- Operations whose way hangs on a number: an index, a division. -/
def special (P : Program) (L : Sl) : Op → Option (Value × Obl)
  | .indexAddr t x ix => match P.underlying t, envOf L x, envOf L ix with
    | some (.slice e), .slice (some ⟨b, off, none⟩) len _, .int _ i => match P.info? e with
      | some inf => some (.pointer (some ⟨b, off + i.toNat * inf.size, none⟩), [fun _ => 0 ≤ i ∧ i < (len : Int)])
      | none => none
    | some (.array len e), .pointer (some ⟨b, off, none⟩), .int _ i => match P.info? e with
      | some inf => some (.pointer (some ⟨b, off + i.toNat * inf.size, none⟩), [fun _ => 0 ≤ i ∧ i < (len : Int)])
      | none => none
    | _, _, _ => none
  | .binOp .quo _ x y _ => match envOf L x, envOf L y with
    | .int .i64 a, .int .i64 b => some (.int .i64 (IntKind.i64.wrap (a.tdiv b)), [fun _ => b ≠ 0])
    | .int .u64 a, .int .u64 b => some (.int .u64 (IntKind.u64.wrap (a.tdiv b)), [fun _ => b ≠ 0])
    | .int .u32 a, .int .u32 b => some (.int .u32 (IntKind.u32.wrap (a.tdiv b)), [fun _ => b ≠ 0])
    | _, _ => none
  | .binOp .rem _ x y _ => match envOf L x, envOf L y with
    | .int .i64 a, .int .i64 b => some (.int .i64 (a.tmod b), [fun _ => b ≠ 0])
    | .int .u64 a, .int .u64 b => some (.int .u64 (a.tmod b), [fun _ => b ≠ 0])
    | .int .u32 a, .int .u32 b => some (.int .u32 (a.tmod b), [fun _ => b ≠ 0])
    | _, _ => none
  | .binOp .eql t x y _ => match envOf L x, envOf L y, P.eqGuardType P.depth t with
    | .agg xs, .agg ys, false => match eqV P 10000 t (.agg xs) (.agg ys) with
      | some r => some (.bool r, [])
      | none => none
    | _, _, _ => none
  | .binOp .neq t x y _ => match envOf L x, envOf L y, P.eqGuardType P.depth t with
    | .agg xs, .agg ys, false => match eqV P 10000 t (.agg xs) (.agg ys) with
      | some r => some (.bool (!r), [])
      | none => none
    | _, _, _ => none
  | _ => none

theorem add_plain (b off n : Nat) : Addr.add ⟨b, off, none⟩ n = ⟨b, off + n, none⟩ := by unfold Addr.add; split <;> simp_all

theorem special_run {P : Program} {L : Sl} {o : Oper} {v : Value} {O : Obl} (w : World) (h : special P L o.op = some (v, O)) (hO : conj O w) : (execOp (envOf L) o).run P w = .ok (.value v) w := by
  obtain ⟨dst, op, type, pos, after, guard⟩ := o
  cases op <;> simp only [special] at h <;> try (cases h; done)
  case indexAddr t x ix =>
    split at h <;> try (cases h; done)
    · rename_i e b off len cap kk i hu hx hi
      split at h <;> try (cases h; done)
      rename_i inf hinf
      simp only [Option.some.injEq, Prod.mk.injEq] at h
      obtain ⟨rfl, rfl⟩ := h
      obtain ⟨⟨h0, h1⟩, _⟩ := hO
      simp [execOp, hx, hi, Instr.indexAt, asIntOf, run_underlying hu, sizeOf, typeInfo, hinf, h0, h1, add_plain]
    · rename_i len e b off kk i hu hx hi
      split at h <;> try (cases h; done)
      rename_i inf hinf
      simp only [Option.some.injEq, Prod.mk.injEq] at h
      obtain ⟨rfl, rfl⟩ := h
      obtain ⟨⟨h0, h1⟩, _⟩ := hO
      simp [execOp, hx, hi, Instr.indexAt, asIntOf, run_underlying hu, sizeOf, typeInfo, hinf, h0, h1, add_plain, Instr.sureAddr]
  case binOp bo xt x y yt =>
    cases bo <;> simp only [special] at h <;> try (cases h; done)
    case eql =>
      split at h <;> try (cases h; done)
      rename_i xs ys hx hy hg
      split at h <;> try (cases h; done)
      rename_i r hr
      simp only [Option.some.injEq, Prod.mk.injEq] at h
      obtain ⟨rfl, rfl⟩ := h
      simp only [execOp, hx, hy, Sem.run_bind, run_eqGuard_agg w .eql xt x y xs ys hg, Result.andThen_ok, run_eql_struct, eqV_run _ _ _ _ _ w hr, Sem.run_pure]
    case neq =>
      split at h <;> try (cases h; done)
      rename_i xs ys hx hy hg
      split at h <;> try (cases h; done)
      rename_i r hr
      simp only [Option.some.injEq, Prod.mk.injEq] at h
      obtain ⟨rfl, rfl⟩ := h
      simp only [execOp, hx, hy, Sem.run_bind, run_eqGuard_agg w .neq xt x y xs ys hg, Result.andThen_ok, run_neq_struct, eqV_run _ _ _ _ _ w hr, Sem.run_pure]
    all_goals
      split at h <;> try (cases h; done)
      all_goals
        rename_i hx hy
        simp only [Option.some.injEq, Prod.mk.injEq] at h
        obtain ⟨rfl, rfl⟩ := h
        have hb := hO.1
        simp [execOp, hx, hy, eqGuard, binOp, Op.intDiv, hb]
end Go.Proofs.YtpiabmjipgfjjaaDoor
