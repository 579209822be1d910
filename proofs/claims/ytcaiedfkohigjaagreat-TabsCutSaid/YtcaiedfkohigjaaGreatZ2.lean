/- The pure machine: its operations. -/
import Derived.Test.YtcaiedfkohigjaaGreatZ1
import Derived.Deep.MidRow
import Derived.Laws.Tables
import Derived.Lib.LazyBuf
namespace Go.Proofs.YtcaiedfkohigjaaGreat
open Go.RowKit

def Ty.eq? : (a b : Ty) → Option (PLift (a = b))
  | .int k, .int k' => if h : k = k' then some ⟨by rw [h]⟩ else none
  | .bool, .bool => some ⟨rfl⟩
  | .str, .str => some ⟨rfl⟩
  | .sl e, .sl e' => match Ty.eq? e e' with
    | some ⟨h⟩ => some ⟨by rw [h]⟩
    | none => none
  | .pair a b, .pair a' b' => match Ty.eq? a a', Ty.eq? b b' with
    | some ⟨h⟩, some ⟨h'⟩ => some ⟨by rw [h, h']⟩
    | _, _ => none
  | .st a, .st a' => match Ty.eq? a a' with
    | some ⟨h⟩ => some ⟨by rw [h]⟩
    | none => none
  | _, _ => none
def castD (a b : Ty) (x : a.D) : Option b.D := match Ty.eq? a b with
  | some ⟨h⟩ => some (h ▸ x)
  | none => none

def Ty.zero : (t : Ty) → t.D
  | .int _ => (0 : Int)
  | .bool => false
  | .str => ⟨#[]⟩
  | .sl _ => []
  | .pair a b => (a.zero, b.zero)
  | .st a => a.zero
def Ty.flat : Ty → Bool
  | .sl _ => false
  | .pair a b => a.flat && b.flat
  | .st a => a.flat
  | _ => true
def Ty.cells : (t : Ty) → t.D → List Value
  | .int k, x => [.int k x]
  | .bool, x => [.bool x]
  | .str, x => [.string x]
  | .pair a b, x => a.cells x.1 ++ b.cells x.2
  | .st a, x => a.cells x
  | .sl _, _ => []
def Ty.split : (t : Ty) → t.D → List SV
  | .pair a b, x => a.split x.1 ++ b.split x.2
  | .st a, x => a.split x
  | .int k, x => [.d (.int k) x]
  | .bool, x => [.d .bool x]
  | .str, x => [.d .str x]
  | .sl e, x => [.d (.sl e) x]
def leaf? (t : Ty) : List SV → Option (t.D × List SV)
  | .d t' x :: r => match castD t' t x with
    | some y => some (y, r)
    | none => none
  | _ => none
def Ty.join : (t : Ty) → List SV → Option (t.D × List SV)
  | .pair a b, l => match a.join l with
    | some (x, r) => match b.join r with
      | some (y, r') => some ((x, y), r')
      | none => none
    | none => none
  | .st a, l => a.join l
  | .sl e, l => match l with
    | .nil :: r => some ([], r)
    | l => leaf? (.sl e) l
  | .int k, l => leaf? (.int k) l
  | .bool, l => leaf? .bool l
  | .str, l => leaf? .str l
/-- The part of a datum that begins at cell off, of type t. -/
def Ty.sub : (e : Ty) → e.D → Nat → (t : Ty) → Option t.D
  | .pair a b, x, off, t => match Nat.ble (off + 1) a.n with
    | true => a.sub x.1 off t
    | false => b.sub x.2 (off - a.n) t
  | .st a, x, off, t => match Nat.beq off 0, castD (.st a) t x with
    | true, some y => some y
    | _, _ => a.sub x off t
  | .int k, x, off, t => match Nat.beq off 0 with
    | true => castD (.int k) t x
    | false => none
  | .bool, x, off, t => match Nat.beq off 0 with
    | true => castD .bool t x
    | false => none
  | .str, x, off, t => match Nat.beq off 0 with
    | true => castD .str t x
    | false => none
  | .sl e, x, off, t => match Nat.beq off 0 with
    | true => castD (.sl e) t x
    | false => none
/-- .. replaced. -/
def Ty.upd : (e : Ty) → e.D → Nat → (t : Ty) → t.D → Option e.D
  | .pair a b, x, off, t, y => match Nat.ble (off + 1) a.n with
    | true => match a.upd x.1 off t y with
      | some z => some (z, x.2)
      | none => none
    | false => match b.upd x.2 (off - a.n) t y with
      | some z => some (x.1, z)
      | none => none
  | .st a, x, off, t, y => match Nat.beq off 0, castD t (.st a) y with
    | true, some z => some z
    | _, _ => a.upd x off t y
  | .int k, _, off, t, y => match Nat.beq off 0 with
    | true => castD t (.int k) y
    | false => none
  | .bool, _, off, t, y => match Nat.beq off 0 with
    | true => castD t .bool y
    | false => none
  | .str, _, off, t, y => match Nat.beq off 0 with
    | true => castD t .str y
    | false => none
  | .sl e, _, off, t, y => match Nat.beq off 0 with
    | true => castD t (.sl e) y
    | false => none

structure TI where
  ty : Ty
  pl : List (Nat × Nat) := []
  el : Nat := 0
  len : Nat := 0
  byt : Nat := 0
  z : Bool := true
abbrev TT := List (Nat × TI)
def lookT : TT → Nat → Option TI
  | [], _ => none
  | (k, x) :: r, t => match Nat.beq k t with
    | true => some x
    | false => lookT r t

/-- A flat datum's value. -/
def val? : SV → Option Value
  | .d t x => match t.flat with
    | true => some (mkV t (t.cells x))
    | false => none
  | _ => none
def unval : Value → Option SV
  | .int k n => some (.d (.int k) n)
  | .bool b => some (.d .bool b)
  | .string s => some (.d .str s)
  | _ => none
/-- A constant struct of numbers and bools. -/
def constL : List Value → Option ((t : Ty) × t.D)
  | [v] => match unval v with
    | some (.d t x) => some ⟨t, x⟩
    | _ => none
  | v :: l => match unval v, constL l with
    | some (.d t x), some ⟨u, y⟩ => some ⟨.pair t u, (x, y)⟩
    | _, _ => none
  | [] => none
def constS : Value → Option SV
  | .slice none 0 0 => some .nil
  | .agg cs => match constL cs.toList with
    | some ⟨t, x⟩ => some (.d (.st t) x)
    | none => none
  | v => unval v
def opS (L : SL) : Operand → Option SV
  | .tmp t => lookS L t
  | .const v => constS v
  | .func f => some (.clo f [])
  | .global _ => none
def opV (L : SL) (x : Operand) : Value := match opS L x with
  | some s => (val? s).getD undef
  | none => undef
def flatOps (L : SL) (o : Op) : Bool := o.operands.toList.all (fun x => match opS L x with | some s => (val? s).isSome | none => false) && (match o with | .select _ _ => false | _ => true)

def SV.good : SV → Bool
  | .dead => false
  | .undef => false
  | .tup _ => false
  | _ => true
def loadB (ty : Ty) (cells : List SV) : Option SV := match ty.isSt with
  | true => match ty.join cells with
    | some (x, _) => some (.d ty x)
    | none => none
  | false => match cells with
    | s :: _ => match s.good with
      | true => some s
      | false => none
    | [] => none
def splitS (H : List Item) : SV → Option (List SV)
  | .d (.pair _ _) _ => none
  | .d t x => some (t.split x)
  | .own j => match H[j]? with
    | some (.row _ _ _) => some [.own j]
    | _ => none
  | s => match s.good with
    | true => some [s]
    | false => none
def getI {α : Type} (xs : List α) (i : Int) : Option α := match decide (0 ≤ i) with
  | true => xs[i.toNat]?
  | false => none
def boxIds : List SV → Option (List Nat)
  | [] => some []
  | .box j 0 :: r => match boxIds r with
    | some l => some (j :: l)
    | none => none
  | _ => none
def allS (L : SL) : List Operand → Option (List SV)
  | [] => some []
  | x :: r => match opS L x, allS L r with
    | some s, some l => some (s :: l)
    | _, _ => none
/-- Cells with others written over them from off on. -/
def over (cs : List SV) : Nat → List SV → List SV
  | _, [] => cs
  | off, s :: r => over (cs.set off s) (off + 1) r
/-- The parts of a struct or array. -/
def fillS (H : List Item) (L : SL) (place : Nat → Option (Nat × Nat)) (cs : List SV) : List (Nat × Operand) → Option (List SV)
  | [] => some cs
  | (i, x) :: r => match place i, opS L x with
    | some (off, size), some s => match splitS H s with
      | some l => match Nat.beq l.length size && Nat.ble (off + l.length) cs.length with
        | true => fillS H L place (over cs off l) r
        | false => none
      | none => none
    | _, _ => none
def placeOf (i : TI) (es : Nat) : Nat → Option (Nat × Nat) := match Nat.beq i.len 0 with
  | true => fun k => i.pl[k]?
  | false => fun k => some (k * es, es)

section
variable {R : Type}
/-- Operations on numbers and bools. -/
def flatOp (P : Program) (L : SL) (o : Oper) (k : SV → Option R) : Option R :=
  match flatOps L o.op with
  | false => none
  | true => match o.op with
    | .binOp .quo _ x y _ => match opV L x, opV L y with
      | .int .i64 a, .int .i64 b => match decide (b = 0) with | true => none | false => k (.d (.int .i64) (IntKind.i64.wrap (a.tdiv b)))
      | .int .u64 a, .int .u64 b => match decide (b = 0) with | true => none | false => k (.d (.int .u64) (IntKind.u64.wrap (a.tdiv b)))
      | .int .u32 a, .int .u32 b => match decide (b = 0) with | true => none | false => k (.d (.int .u32) (IntKind.u32.wrap (a.tdiv b)))
      | _, _ => none
    | .binOp .rem _ x y _ => match opV L x, opV L y with
      | .int .i64 a, .int .i64 b => match decide (b = 0) with | true => none | false => k (.d (.int .i64) (a.tmod b))
      | .int .u64 a, .int .u64 b => match decide (b = 0) with | true => none | false => k (.d (.int .u64) (a.tmod b))
      | .int .u32 a, .int .u32 b => match decide (b = 0) with | true => none | false => k (.d (.int .u32) (a.tmod b))
      | _, _ => none
    | .binOp .shl _ x y _ => match opV L x, opV L y with
      | .int kd a, .int _ b => match decide (b < 0) with | true => none | false => k (.d (.int kd) (kd.wrap (a * 2 ^ min b.toNat kd.bits)))
      | _, _ => none
    | .binOp .shr _ x y _ => match opV L x, opV L y with
      | .int kd a, .int _ b => match decide (b < 0) with | true => none | false => k (.d (.int kd) (a.fdiv (2 ^ min b.toNat kd.bits)))
      | _, _ => none
    | .binOp .eql t x y _ => match opV L x, opV L y with
      | .agg xs, .agg ys => match P.eqGuardType P.depth t, eqV P 10000 t (.agg xs) (.agg ys) with
        | false, some r => k (.d .bool r)
        | _, _ => none
      | _, _ => match evT P (execOp (opV L) o) [] with
        | some (.value v, []) => match unval v with | some s => k s | none => none
        | _ => none
    | .binOp .neq t x y _ => match opV L x, opV L y with
      | .agg xs, .agg ys => match P.eqGuardType P.depth t, eqV P 10000 t (.agg xs) (.agg ys) with
        | false, some r => k (.d .bool (!r))
        | _, _ => none
      | _, _ => match evT P (execOp (opV L) o) [] with
        | some (.value v, []) => match unval v with | some s => k s | none => none
        | _ => none
    | _ => match evT P (execOp (opV L) o) [] with
      | some (.value v, []) => match unval v with | some s => k s | none => none
      | _ => none

def slB (L : SL) (d : Int) : Option Operand → Option Int
  | none => some d
  | some x => match opS L x with
    | some (.d (.int _) i) => some i
    | _ => none

/-- Two ways that must give the same. -/
noncomputable def both {R : Type} (x y : Option R) : Option R := open Classical in if x = y then x else none
theorem both_self {R : Type} (x : Option R) : both x x = x := by unfold both; rw [if_pos rfl]
theorem both_some {R : Type} {x y : Option R} {r : R} (h : both x y = some r) : x = some r ∧ y = some r := by
  unfold both at h
  split at h
  · rename_i e; exact ⟨h, by rw [← e]; exact h⟩
  · cases h
def max4 (a b c d : Int) : Int := if d > (if c > (if b > a then b else a) then c else (if b > a then b else a)) then d else (if c > (if b > a then b else a) then c else (if b > a then b else a))
/-- A comparison with nil: what it is if the row is nil. -/
def nilOf (op : BinOp) (y : Operand) : Option Bool := match op, y with
  | .eql, .const (.slice none 0 0) => some true
  | .neq, .const (.slice none 0 0) => some false
  | _, _ => none
/-- A row that may be nil only if it is empty. -/
noncomputable def nilK {α R : Type} (xs : List α) (b : Bool) (k : SV → Option R) : Option R := match xs with
  | [] => both (k (SB b)) (k (SB (!b)))
  | _ :: _ => k (SB (!b))
def isConst : Operand → Bool
  | .const _ => true
  | _ => false
/-- Operations that change nothing. -/
noncomputable def qop (P : Program) (T : TT) (rw : Bool) (L : SL) (H : List Item) (o : Oper) (k : SV → Option R) : Option R :=
  match o.op with
  | .move x => match opS L x with | some s => k s | none => none
  | .assign x => match opS L x with | some s => k s | none => none
  | .nilCheck x => match opS L x with
    | some (.box j off) => k (.box j off)
    | some (.elt e x off) => k (.elt e x off)
    | some (.oelt j sz i off) => k (.oelt j sz i off)
    | _ => none
  | .pick c x y => match opS L c with
    | some (.d .bool b) => match b with
      | true => match opS L x with | some s => k s | none => none
      | false => match opS L y with | some s => k s | none => none
    | _ => none
  | .load t x => match opS L x, lookT T t with
    | some (.box j off), some i => match H[j]? with
      | some (.box _ cells) => match loadB i.ty (cells.drop off) with | some s => k s | none => none
      | _ => none
    | some (.elt e x off), some i => match e.sub x off i.ty with | some y => k (.d i.ty y) | none => none
    | some (.oelt j sz n off), some i => match rw, H[j]? with
      | true, some (.row _ e xs) => match Nat.beq sz e.n, xs[n]? with
        | true, some x => match e.sub x off i.ty with | some y => k (.d i.ty y) | none => none
        | _, _ => none
      | _, _ => none
    | _, _ => none
  | .fieldAddr s x f => match opS L x, lookT T s with
    | some (.box j off), some i => match i.pl[f]? with | some p => k (.box j (off + p.1)) | none => none
    | some (.elt e x off), some i => match i.pl[f]? with | some p => k (.elt e x (off + p.1)) | none => none
    | some (.oelt j sz n off), some i => match i.pl[f]? with | some p => k (.oelt j sz n (off + p.1)) | none => none
    | _, _ => none
  | .indexAddr t x ix => match opS L x, opS L ix, lookT T t with
    | some (.d (.sl e) xs), some (.d (.int _) n), some i => match i.ty with
      | .sl e' => match Ty.eq? e e' with
        | some _ => match getI xs n with | some y => k (.elt e y 0) | none => none
        | none => none
      | _ => none
    | some (.own j), some (.d (.int _) n), some i => match H[j]?, i.ty with
      | some (.row _ e xs), .sl e' => match Ty.eq? e e' with
        | some _ => match getI xs n with | some _ => k (.oelt j e.n n.toNat 0) | none => none
        | none => none
      | _, _ => none
    | some (.box j off), some (.d (.int _) n), some i => match i.ty.isSt, decide (0 ≤ n ∧ n < (i.len : Int)) with
      | true, true => k (.box j (off + n.toNat * i.el))
      | _, _ => none
    | some (.osl j sz lo m), some (.d (.int _) n), some i => match i.ty with
      | .sl e' => match Nat.beq sz e'.n, decide (0 ≤ n ∧ n < (m : Int)) with
        | true, true => k (.oelt j sz (lo + n.toNat) 0)
        | _, _ => none
      | _ => none
    | _, _, _ => none
  | .extract x n => match opS L x with
    | some (.tup l) => match l[n]? with | some s => k s | none => none
    | _ => none
  | .build t parts => match lookT T t with
    | some i => match i.z && i.ty.isSt, fillS H L (placeOf i i.el) (i.ty.split i.ty.zero) parts.toList with
      | true, some cs => match i.ty.join cs with
        | some (x, []) => k (.d i.ty x)
        | _ => none
      | _, _ => none
    | none => none
  | .makeFunc (.func f) ⟨[]⟩ caps => match allS L caps.toList with
    | some l => match boxIds l with | some js => k (.clo f js) | none => none
    | none => none
  | .call ⟨.builtin .len, ⟨[x]⟩, ⟨[t]⟩⟩ => match opS L x, lookT T t with
    | some (.d (.sl _) xs), some i => match i.ty with | .sl _ => k (SI xs.length) | _ => none
    | some .nil, some i => match i.ty with | .sl _ => k (SI 0) | _ => none
    | some (.own j), some i => match H[j]?, i.ty with
      | some (.row _ _ xs), .sl _ => k (SI xs.length)
      | _, _ => none
    | some (.osl _ _ _ n), some i => match i.ty with | .sl _ => k (SI n) | _ => none
    | some (.cut _ xs), some i => match i.ty with | .sl _ => k (SI xs.length) | _ => none
    | _, _ => none
  | .slice t x lo hi none => match opS L x, lookT T t with
    | some (.d (.sl e) xs), some i => match i.ty, slB L 0 lo, slB L xs.length hi with
      | .sl e', some l, some h => match Ty.eq? e e' with
        | some _ => match decide (0 ≤ l ∧ l ≤ h ∧ h ≤ xs.length) with
          | true => k (.d (.sl e) ((xs.take h.toNat).drop l.toNat))
          | false => none
        | none => none
      | _, _, _ => none
    | some (.own j), some i => match H[j]?, i.ty with
      | some (.row _ e xs), .sl e' => match slB L 0 lo, slB L xs.length hi, Nat.beq e.n e'.n with
        | some l, some h, true => match decide (0 ≤ l ∧ l ≤ h ∧ h ≤ xs.length) with
          | true => k (.osl j e.n l.toNat (h.toNat - l.toNat))
          | false => none
        | _, _, _ => none
      | _, _ => none
    | some (.osl j sz b n), some i => match i.ty with
      | .sl e' => match slB L 0 lo, slB L n hi, Nat.beq sz e'.n with
        | some l, some h, true => match decide (0 ≤ l ∧ l ≤ h ∧ h ≤ (n : Int)) with
          | true => k (.osl j sz (b + l.toNat) (h.toNat - l.toNat))
          | false => none
        | _, _, _ => none
      | _ => none
    | _, _ => none
  | .call ⟨.builtin .max, ⟨[x, y]⟩, _⟩ => match opS L x, opS L y with
    | some (.d (.int kd) a), some (.d (.int kd') b) => match Ty.eq? (.int kd) (.int kd') with
      | some _ => k (.d (.int kd) (if b > a then b else a))
      | none => none
    | _, _ => none
  | .call ⟨.builtin .min, ⟨[x, y]⟩, _⟩ => match opS L x, opS L y with
    | some (.d (.int kd) a), some (.d (.int kd') b) => match Ty.eq? (.int kd) (.int kd') with
      | some _ => k (.d (.int kd) (if b < a then b else a))
      | none => none
    | _, _ => none
  | .binOp op t x y _ => match nilOf op y with
    | none => flatOp P L o k
    | some b => match opS L x, lookT T t with
      | some (.d (.sl _) xs), some i => match i.ty with | .sl _ => nilK xs b k | _ => none
      | some .nil, some i => match i.ty with | .sl _ => k (SB b) | _ => none
      | some (.own j), some i => match H[j]?, i.ty with
        | some (.row _ _ xs), .sl _ => nilK xs b k
        | _, _ => none
      | _, _ => none
  | .unOp .. => flatOp P L o k
  | .convert .. => flatOp P L o k
  | .index .. => flatOp P L o k
  | .slice t x lo hi (some mx) => match opS L x, lookT T t with
    | some (.d (.sl e) xs), some i => match i.ty, slB L 0 lo, slB L xs.length hi, slB L 0 (some mx) with
      | .sl e', some l, some h, some m => match hi, Ty.eq? e e' with
        | some _, some _ => match decide (0 ≤ l ∧ l ≤ h ∧ h ≤ m ∧ m ≤ xs.length) with
          | true => match isConst mx, decide (h = m) with
            | true, true => k (.cut e ((xs.take h.toNat).drop l.toNat))
            | _, _ => k (.d (.sl e) ((xs.take h.toNat).drop l.toNat))
          | false => none
        | _, _ => none
      | _, _, _, _ => none
    | _, _ => none
  | .call ⟨.builtin .max, ⟨[x, y, z, u]⟩, _⟩ => match opS L x, opS L y, opS L z, opS L u with
    | some (.d (.int .i64) a), some (.d (.int .i64) b), some (.d (.int .i64) c), some (.d (.int .i64) d) => k (SI (max4 a b c d))
    | _, _, _, _ => none
  | _ => none
end
end Go.Proofs.YtcaiedfkohigjaaGreat
/- Data: parts, casts, zeros; the tables of types. -/
namespace Go.Proofs.YtcaiedfkohigjaaGreat
open Go.RowKit

theorem castD_some {a b : Ty} {x : a.D} {y : b.D} (h : castD a b x = some y) : ∃ e : a = b, y = e ▸ x := by
  unfold castD at h
  split at h
  · rename_i e _
    injection h with h
    exact ⟨e, h.symm⟩
  · cases h
theorem castD_rd {A : Nat → Prop} {w : World} {a b : Ty} {x : a.D} {y : b.D} {cs : List Value} (h : castD a b x = some y) (hr : a.rd A w cs x) : b.rd A w cs y := by
  obtain ⟨rfl, rfl⟩ := castD_some h
  exact hr
theorem rd_flat {A : Nat → Prop} {w : World} : ∀ {t : Ty} {cs : List Value} {x : t.D}, t.flat = true → t.rd A w cs x → cs = t.cells x
  | .int _, _, _, _, h => h
  | .bool, _, _, _, h => h
  | .str, _, _, _, h => h
  | .pair a b, _, _, hf, ⟨l1, l2, h0, h1, h2⟩ => by
    simp only [Ty.flat, Bool.and_eq_true] at hf
    rw [h0, rd_flat hf.1 h1, rd_flat hf.2 h2]; rfl
  | .st a, _, _, hf, h => rd_flat (t := a) hf h
  | .sl _, _, _, hf, _ => by simp [Ty.flat] at hf
theorem cells_rd {A : Nat → Prop} {w : World} : ∀ {t : Ty} {x : t.D}, t.flat = true → t.rd A w (t.cells x) x
  | .int _, _, _ => rfl
  | .bool, _, _ => rfl
  | .str, _, _ => rfl
  | .pair a b, x, hf => by
    simp only [Ty.flat, Bool.and_eq_true] at hf
    exact ⟨_, _, rfl, cells_rd hf.1, cells_rd hf.2⟩
  | .st a, _, hf => cells_rd (t := a) hf
  | .sl _, _, hf => by simp [Ty.flat] at hf
theorem nil_rd {A : Nat → Prop} {w : World} {e : Ty} : (Ty.sl e).rd A w [.slice none 0 0] [] := ⟨none, 0, 0, [], rfl, rfl, Nat.le_refl _, Nat.zero_le _, trivial, fun h => absurd h (by omega)⟩
theorem rd_leaf_mkV {A : Nat → Prop} {w : World} {t : Ty} {v : Value} {x : t.D} (hs : t.isSt = false) (_h : t.rd A w [v] x) : mkV t [v] = v := by simp [mkV, hs]
theorem leaf_rel {G : List Value} {A : Nat → Prop} {w : World} {t : Ty} {cs : List Value} {x : t.D} (hs : t.isSt = false) (hn : t.n = 1) (h : t.rd A w cs x) : ∃ v, cs = [v] ∧ Rel1 G A w (.d t x) v := by
  have hl := (Ty.rd_len h)
  match cs, hl with
  | [v], _ => exact ⟨v, rfl, [v], h, by simp [mkV, hs]⟩
  | [], hl => rw [hn] at hl; simp at hl
  | _ :: _ :: _, hl => rw [hn] at hl; simp at hl
theorem split_rel {G : List Value} {A : Nat → Prop} {w : World} : ∀ {t : Ty} {cs : List Value} {x : t.D}, t.rd A w cs x → all2 (Rel1 G A w) (t.split x) cs
  | .int k, cs, x, h => by obtain ⟨v, rfl, hv⟩ := leaf_rel (G := G) (t := .int k) rfl rfl h; exact ⟨hv, trivial⟩
  | .bool, cs, x, h => by obtain ⟨v, rfl, hv⟩ := leaf_rel (G := G) (t := .bool) rfl rfl h; exact ⟨hv, trivial⟩
  | .str, cs, x, h => by obtain ⟨v, rfl, hv⟩ := leaf_rel (G := G) (t := .str) rfl rfl h; exact ⟨hv, trivial⟩
  | .sl e, cs, x, h => by obtain ⟨v, rfl, hv⟩ := leaf_rel (G := G) (t := .sl e) rfl rfl h; exact ⟨hv, trivial⟩
  | .pair a b, _, _, ⟨l1, l2, h0, h1, h2⟩ => by rw [h0]; exact all2_append (split_rel h1) (split_rel h2)
  | .st a, _, _, h => split_rel (t := a) h
theorem rel_leaf {G : List Value} {A : Nat → Prop} {w : World} {t : Ty} {v : Value} {x : t.D} (hs : t.isSt = false) (hn : t.n = 1) (h : Rel1 G A w (.d t x) v) : t.rd A w [v] x := by
  obtain ⟨cs, h1, rfl⟩ := h
  have hl := (Ty.rd_len h1)
  match cs, hl with
  | [v], _ => simpa [mkV, hs] using h1
  | [], hl => rw [hn] at hl; simp at hl
  | _ :: _ :: _, hl => rw [hn] at hl; simp at hl
theorem leaf?_rd {G : List Value} {A : Nat → Prop} {w : World} {t : Ty} (hs : t.isSt = false) (hn : t.n = 1) {l r : List SV} {x : t.D} {vs : List Value} (h : leaf? t l = some (x, r)) (ha : all2 (Rel1 G A w) l vs) :
    ∃ v1 v2, vs = v1 ++ v2 ∧ t.rd A w v1 x ∧ all2 (Rel1 G A w) r v2 := by
  unfold leaf? at h
  split at h
  · rename_i t' x' r'
    split at h
    · rename_i y hy
      simp only [Option.some.injEq, Prod.mk.injEq] at h
      obtain ⟨rfl, rfl⟩ := h
      match vs, ha with
      | v :: vs, ⟨h1, h2⟩ =>
        obtain ⟨rfl, rfl⟩ := castD_some hy
        exact ⟨[v], vs, rfl, rel_leaf hs hn h1, h2⟩
    · cases h
  · cases h
theorem join_rd {G : List Value} {A : Nat → Prop} {w : World} : ∀ {t : Ty} {l r : List SV} {x : t.D} {vs : List Value}, t.join l = some (x, r) → all2 (Rel1 G A w) l vs → ∃ v1 v2, vs = v1 ++ v2 ∧ t.rd A w v1 x ∧ all2 (Rel1 G A w) r v2
  | .int _, _, _, _, _, h, ha => leaf?_rd rfl rfl h ha
  | .bool, _, _, _, _, h, ha => leaf?_rd rfl rfl h ha
  | .str, _, _, _, _, h, ha => leaf?_rd rfl rfl h ha
  | .st a, _, _, _, _, h, ha => join_rd (t := a) h ha
  | .pair a b, l, r, x, vs, h, ha => by
    simp only [Ty.join] at h
    split at h
    · rename_i x1 r1 h1
      split at h
      · rename_i x2 r2 h2
        simp only [Option.some.injEq, Prod.mk.injEq] at h
        obtain ⟨rfl, rfl⟩ := h
        obtain ⟨v1, v2, rfl, g1, g2⟩ := join_rd h1 ha
        obtain ⟨v3, v4, rfl, g3, g4⟩ := join_rd h2 g2
        exact ⟨v1 ++ v3, v4, by rw [List.append_assoc], ⟨v1, v3, rfl, g1, g3⟩, g4⟩
      · cases h
    · cases h
  | .sl e, l, r, x, vs, h, ha => by
    simp only [Ty.join] at h
    split at h
    · rename_i r'
      simp only [Option.some.injEq, Prod.mk.injEq] at h
      obtain ⟨rfl, rfl⟩ := h
      match vs, ha with
      | v :: vs, ⟨h1, h2⟩ => exact ⟨[v], vs, rfl, by rw [show v = .slice none 0 0 from h1]; exact nil_rd, h2⟩
    · exact leaf?_rd rfl rfl h ha

theorem take_self {α : Type} (l : List α) (n : Nat) (h : l.length = n) : (l.drop 0).take n = l := by rw [List.drop_zero, ← h, List.take_length]
theorem sub_rd {A : Nat → Prop} {w : World} : ∀ {e : Ty} {cs : List Value} {x : e.D} {off : Nat} {t : Ty} {y : t.D}, e.rd A w cs x → e.sub x off t = some y → t.rd A w ((cs.drop off).take t.n) y := by
  have lf : ∀ {e : Ty} {cs : List Value} {x : e.D} {off : Nat} {t : Ty} {y : t.D}, e.rd A w cs x → (match Nat.beq off 0 with | true => castD e t x | false => none) = some y → t.rd A w ((cs.drop off).take t.n) y := by
    intro e cs x off t y hr h
    split at h
    · rename_i h0
      have : off = 0 := Nat.eq_of_beq_eq_true h0
      subst this
      obtain ⟨rfl, rfl⟩ := castD_some h
      rw [take_self _ _ (Ty.rd_len hr)]
      exact hr
    · cases h
  intro e
  induction e with
  | int k => intro cs x off t y hr h; exact lf hr h
  | bool => intro cs x off t y hr h; exact lf hr h
  | str => intro cs x off t y hr h; exact lf hr h
  | sl e => intro cs x off t y hr h; exact lf hr h
  | st a ih =>
    intro cs x off t y hr h
    simp only [Ty.sub] at h
    split at h
    · rename_i z h0 h1
      injection h with h
      subst h
      exact lf (e := .st a) hr (by rw [h0]; exact h1)
    · exact ih hr h
  | pair a b iha ihb =>
    intro cs x off t y hr h
    obtain ⟨l1, l2, rfl, h1, h2⟩ := hr
    simp only [Ty.sub] at h
    split at h
    · rename_i hb
      have hlt := Nat.le_of_ble_eq_true hb
      have := iha h1 h
      have hl := (Ty.rd_len this)
      have hl1 := (Ty.rd_len h1)
      rw [List.length_take, List.length_drop] at hl
      rw [List.drop_append_of_le_length (by omega), List.take_append_of_le_length (by rw [List.length_drop]; omega)]
      exact this
    · rename_i hb
      have hge : a.n ≤ off := by
        rcases Nat.lt_or_ge off a.n with hlt | hge
        · have : Nat.ble (off + 1) a.n = true := Nat.ble_eq_true_of_le hlt
          rw [this] at hb; cases hb
        · exact hge
      have := ihb h2 h
      have hl1 := (Ty.rd_len h1)
      rw [List.drop_append, List.drop_eq_nil_of_le (by omega), List.nil_append, hl1]
      exact this

/-! Tables of types. -/
def zc : Ty → List Value
  | .int k => [.int k 0]
  | .bool => [.bool false]
  | .str => [.string ⟨#[]⟩]
  | .sl _ => [.slice none 0 0]
  | .pair a b => zc a ++ zc b
  | .st a => zc a
theorem zc_rd {A : Nat → Prop} {w : World} : ∀ {t : Ty}, t.rd A w (zc t) t.zero
  | .int _ => rfl
  | .bool => rfl
  | .str => rfl
  | .sl _ => nil_rd
  | .pair _ _ => ⟨_, _, rfl, zc_rd, zc_rd⟩
  | .st a => zc_rd (t := a)
def eqZ : Value → Value → Bool
  | .int k a, .int k' b => decide (k = k') && decide (a = b)
  | .bool a, .bool b => a == b
  | .string a, .string b => a.data.toList.isEmpty && b.data.toList.isEmpty
  | .slice none 0 0, .slice none 0 0 => true
  | _, _ => false
theorem eqZ_eq {a b : Value} (h : eqZ a b = true) : a = b := by
  unfold eqZ at h
  split at h
  · simp at h; rw [h.1, h.2]
  · simp at h; rw [h]
  · rename_i s t
    obtain ⟨⟨s⟩⟩ := s
    obtain ⟨⟨t⟩⟩ := t
    simp at h
    rw [h.1, h.2]
  · rfl
  · cases h
def eqZL : List Value → List Value → Bool
  | [], [] => true
  | a :: l, b :: m => eqZ a b && eqZL l m
  | _, _ => false
theorem eqZL_eq : ∀ {l m : List Value}, eqZL l m = true → l = m
  | [], [], _ => rfl
  | a :: l, b :: m, h => by simp only [eqZL, Bool.and_eq_true] at h; rw [eqZ_eq h.1, eqZL_eq h.2]
def isZ (t : Ty) : Option Value → Bool
  | some (.agg cs) => t.isSt && eqZL cs.toList (zc t)
  | some v => !t.isSt && eqZL [v] (zc t)
  | none => false
theorem isZ_eq {t : Ty} {z : Option Value} (h : isZ t z = true) : z = some (mkV t (zc t)) := by
  unfold isZ at h
  split at h
  · rename_i cs
    simp only [Bool.and_eq_true] at h
    have := eqZL_eq h.2
    simp [mkV, h.1, ← this]
  · simp only [Bool.and_eq_true, Bool.not_eq_true'] at h
    have := eqZL_eq h.2
    simp [mkV, h.1, ← this]
  · cases h
theorem zc_len : ∀ t : Ty, (zc t).length = t.n
  | .int _ => rfl
  | .bool => rfl
  | .str => rfl
  | .sl _ => rfl
  | .pair a b => by simp [zc, Ty.n, zc_len a, zc_len b]
  | .st a => zc_len a
theorem isZ_one {t : Ty} {z : Option Value} (h : isZ t z = true) : t.isSt = true ∨ t.n = 1 := by
  unfold isZ at h
  split at h
  · simp only [Bool.and_eq_true] at h; exact .inl h.1
  · simp only [Bool.and_eq_true] at h
    have := eqZL_eq h.2
    exact .inr (by rw [← zc_len, ← this]; rfl)
  · cases h
def eqP : List (Nat × Nat) → List (Nat × Nat) → Bool
  | [], [] => true
  | (a, b) :: l, (c, d) :: m => Nat.beq a c && Nat.beq b d && Nat.ble 1 b && eqP l m
  | _, _ => false
theorem eqP_eq : ∀ {l m : List (Nat × Nat)}, eqP l m = true → l = m ∧ ∀ p ∈ l, 1 ≤ p.2
  | [], [], _ => ⟨rfl, by simp⟩
  | (a, b) :: l, (c, d) :: m, h => by
    simp only [eqP, Bool.and_eq_true] at h
    obtain ⟨⟨⟨h1, h2⟩, h3⟩, h4⟩ := h
    obtain ⟨rfl, h5⟩ := eqP_eq h4
    refine ⟨by rw [Nat.eq_of_beq_eq_true h1, Nat.eq_of_beq_eq_true h2], fun p hp => ?_⟩
    rcases List.mem_cons.1 hp with rfl | hp
    · exact Nat.le_of_ble_eq_true h3
    · exact h5 p hp
def chk (P : Program) (t : Nat) (i : TI) : Bool :=
  match P.info? t, P.underlying t with
  | some inf, some d => Nat.beq inf.size i.ty.n && (!i.z || isZ i.ty inf.zero) && (match d with
    | .struct fs => i.ty.isSt && (match fs.toList.mapM (fun f => (P.info? f.type).map fun i => (f.offset, i.size)) with | some pl => eqP pl i.pl && Nat.beq i.len 0 | none => false)
    | .array n e => i.ty.isSt && Nat.beq n i.len && Nat.ble 2 n && i.pl.isEmpty && (match P.info? e with | some j => Nat.beq j.size i.el | none => false)
    | .slice e => (match i.ty, P.info? e with | .sl et, some j => i.pl.isEmpty && Nat.beq e i.el && Nat.beq j.size et.n && Nat.ble 1 et.n && Nat.beq j.bytes i.byt && isZ et j.zero | _, _ => false)
    | _ => i.pl.isEmpty && (match i.ty with | .st _ => false | .sl _ => false | .pair _ _ => false | _ => true))
  | _, _ => false
def chkAll (P : Program) : TT → Bool
  | [] => true
  | (t, i) :: r => chk P t i && chkAll P r
theorem chkAll_look {P : Program} : ∀ {T : TT} {t : Nat} {i : TI}, chkAll P T = true → lookT T t = some i → chk P t i = true
  | [], _, _, _, h => by simp [lookT] at h
  | (k, x) :: r, t, i, hc, h => by
    simp only [chkAll, Bool.and_eq_true] at hc
    simp only [lookT] at h
    split at h
    · rename_i he
      have : k = t := Nat.eq_of_beq_eq_true he
      subst this
      injection h with h
      subst h
      exact hc.1
    · exact chkAll_look hc.2 h
theorem chk_size {P : Program} {t : Nat} {i : TI} (h : chk P t i = true) : (P.info? t).map (·.size) = some i.ty.n := by
  unfold chk at h
  split at h
  · rename_i inf d h1 h2
    simp only [Bool.and_eq_true] at h
    simp [h1, Nat.eq_of_beq_eq_true h.1.1]
  · cases h
theorem chk_st {P : Program} {t : Nat} {i : TI} (h : chk P t i = true) : ∃ d, P.underlying t = some d ∧ d.isRow = i.ty.isSt := by
  unfold chk at h
  split at h
  · rename_i inf d h1 h2
    refine ⟨d, h2, ?_⟩
    simp only [Bool.and_eq_true] at h
    have h := h.2
    cases d <;> simp only [Bool.and_eq_true] at h <;> simp only [TypeDesc.isRow]
    case struct => exact h.1.symm
    case array => exact h.1.1.1.1.symm
    case slice => split at h <;> first | (rename_i hh _; rw [hh]; rfl) | cases h
    all_goals (obtain ⟨_, h⟩ := h; (split at h <;> first | cases h | skip) <;> (generalize i.ty = t at *; cases t <;> simp_all [Ty.isSt]))
  · cases h
theorem chk_zero {P : Program} {t : Nat} {i : TI} (h : chk P t i = true) (hz : i.z = true) : ∃ inf, P.info? t = some inf ∧ inf.zero = some (mkV i.ty (zc i.ty)) := by
  unfold chk at h
  split at h
  · rename_i inf d h1 h2
    simp only [Bool.and_eq_true, hz] at h
    exact ⟨inf, h1, isZ_eq (by simpa using h.1.2)⟩
  · cases h
theorem chk_slice {P : Program} {t : Nat} {i : TI} {et : Ty} (h : chk P t i = true) (ht : i.ty = .sl et) : P.underlying t = some (.slice i.el) ∧ 0 < et.n ∧ ∃ j, P.info? i.el = some j ∧ j.size = et.n ∧ j.bytes = i.byt ∧ j.zero = some (mkV et (zc et)) ∧ (et.isSt = true ∨ et.n = 1) := by
  unfold chk at h
  split at h
  · rename_i inf d h1 h2
    simp only [Bool.and_eq_true] at h
    have h := h.2
    cases d <;> simp only [ht, Ty.isSt, Bool.and_eq_true, Bool.false_eq_true, false_and] at h
    case slice e =>
      split at h
      · rename_i et' j he hj
        injection he with he
        subst he
        simp only [Bool.and_eq_true] at h
        obtain ⟨⟨⟨⟨⟨_, h3⟩, h4⟩, h5⟩, h6⟩, h7⟩ := h
        have he := Nat.eq_of_beq_eq_true h3
        subst he
        exact ⟨h2, Nat.le_of_ble_eq_true h5, j, hj, Nat.eq_of_beq_eq_true h4, Nat.eq_of_beq_eq_true h6, isZ_eq h7, isZ_one h7⟩
      · cases h
    all_goals simp at h
  · cases h
theorem chk_field {P : Program} {t f : Nat} {i : TI} {p : Nat × Nat} (h : chk P t i = true) (hp : i.pl[f]? = some p) : ∃ fs fl inf, P.underlying t = some (.struct fs) ∧ fs[f]? = some fl ∧ fl.offset = p.1 ∧ P.info? fl.type = some inf ∧ inf.size ≠ 0 := by
  unfold chk at h
  split at h
  · rename_i inf d h1 h2
    simp only [Bool.and_eq_true] at h
    have h := h.2
    have emp : i.pl.isEmpty = true → False := fun he => by
      rw [List.isEmpty_iff] at he
      rw [he] at hp
      simp at hp
    match d, h, h2 with
    | .struct fs, h, h2 =>
      simp only [Bool.and_eq_true] at h
      obtain ⟨_, h⟩ := h
      split at h
      · rename_i pl hpl
        simp only [Bool.and_eq_true] at h
        obtain ⟨rfl, hp1⟩ := eqP_eq h.1
        have key : ∀ (l : List Field) (pl : List (Nat × Nat)) (f : Nat), l.mapM (fun f => (P.info? f.type).map fun i => (f.offset, i.size)) = some pl → pl[f]? = some p → ∃ fl inf, l[f]? = some fl ∧ fl.offset = p.1 ∧ P.info? fl.type = some inf ∧ inf.size = p.2 := by
          intro l
          induction l with
          | nil => intro pl f h1 h2; simp at h1; subst h1; simp at h2
          | cons x l ih =>
            intro pl f h1 h2
            simp only [List.mapM_cons, Option.bind_eq_bind, Option.pure_def] at h1
            cases hx : P.info? x.type with
            | none => simp [hx] at h1
            | some ix =>
              cases hr : l.mapM (fun f => (P.info? f.type).map fun i => (f.offset, i.size)) with
              | none => simp [hx, hr] at h1
              | some rest =>
                simp [hx, hr] at h1
                subst h1
                cases f with
                | zero => simp at h2; subst h2; exact ⟨x, ix, rfl, rfl, hx, rfl⟩
                | succ f => obtain ⟨fl, inf, g1, g2⟩ := ih rest f hr (by simpa using h2); exact ⟨fl, inf, by simpa using g1, g2⟩
        obtain ⟨fl, inf', g1, g2, g3, g4⟩ := key _ _ f hpl hp
        exact ⟨fs, fl, inf', h2, by simpa using g1, g2, g3, by have := hp1 p (List.mem_of_getElem? hp); omega⟩
      · cases h
    | .array n e, h, h2 => simp only [Bool.and_eq_true] at h; exact (emp h.1.2).elim
    | .slice e, h, h2 =>
      dsimp only at h
      split at h
      · simp only [Bool.and_eq_true] at h; exact (emp h.1.1.1.1.1).elim
      · cases h
    | .invalid, h, h2 | .bool, h, h2 | .int _, h, h2 | .float _, h, h2 | .complex _, h, h2 | .string, h, h2 | .pointer _, h, h2 | .map _ _, h, h2 | .chan _ _, h, h2 | .func _ _ _, h, h2 | .interface _, h, h2 | .tuple _, h, h2 | .named _ _, h, h2 | .unsafePointer, h, h2 => simp only [Bool.and_eq_true] at h; exact (emp h.1).elim
  · cases h
end Go.Proofs.YtcaiedfkohigjaaGreat
/- The pure machine's quiet operations are the machine's. -/
namespace Go.Proofs.YtcaiedfkohigjaaGreat
open Go.RowKit

structure FR (Z : Nat → Prop) (n : Nat) (L : SL) (H : List Item) (G : List Value) (w : World) (a : Act) : Prop where
  defers : a.defers = []
  size : a.tmps.size = n
  slot : ∀ t s, lookS L t = some s → ∃ v, a.tmps[t]? = some v ∧ Rel G (Av Z H G) w s v
def RowsB (H : List Item) (G : List Value) (b : Nat) : Prop := ∃ (j : Nat) (et : TypeId) (e : Ty) (xs : List e.D) (g : Value), H[j]? = some (.row et e xs) ∧ G[j]? = some g ∧ blkOf g = some b
def Agr (rw : Bool) (H : List Item) (G : List Value) (w w' : World) : Prop := w.heap.size ≤ w'.heap.size ∧ ∀ b, b < w.heap.size → (rw = true ∨ ¬ RowsB H G b) → w'.heap[b]? = w.heap[b]?
theorem Agr.refl {rw : Bool} {H : List Item} {G : List Value} {w : World} : Agr rw H G w w := ⟨Nat.le_refl _, fun _ _ _ => rfl⟩

theorem rel_of1 {G : List Value} {A : Nat → Prop} {w : World} {s : SV} {v : Value} (h : Rel1 G A w s v) : Rel G A w s v := by cases s <;> first | exact h | exact h.elim
theorem rel_to1 {G : List Value} {A : Nat → Prop} {w : World} {s : SV} {v : Value} (h : Rel G A w s v) (hg : ∀ l, s ≠ .tup l) : Rel1 G A w s v := by cases s <;> first | exact h | exact (hg _ rfl).elim

section
variable {G : List Value} {A : Nat → Prop} {w : World}
theorem unval_rel {v : Value} {s : SV} (h : unval v = some s) : Rel1 G A w s v := by
  unfold unval at h
  split at h <;> first | (injection h with h; subst h; exact ⟨[_], rfl, rfl⟩) | cases h
theorem unval_form {v : Value} {s : SV} (h : unval v = some s) : ∃ t x, s = .d t x ∧ t.isSt = false ∧ t.n = 1 := by
  unfold unval at h
  split at h <;> first | (injection h with h; subst h; exact ⟨_, _, rfl, rfl, rfl⟩) | cases h
theorem unval_rd {v : Value} {t : Ty} {x : t.D} (h : unval v = some (.d t x)) : t.rd A w [v] x := by
  obtain ⟨t', x', e, h1, h2⟩ := unval_form h
  injection e with e1 e2
  subst e1
  exact rel_leaf h1 h2 (unval_rel (G := []) h)
theorem constL_rd : ∀ {l : List Value} {t : Ty} {x : t.D}, constL l = some ⟨t, x⟩ → t.rd A w l x
  | [], t, x, h => by simp [constL] at h
  | [v], t, x, h => by
    simp only [constL] at h
    split at h
    · rename_i t' x' hv
      injection h with h
      cases h
      exact unval_rd hv
    · cases h
  | v :: u :: l, t, x, h => by
    simp only [constL] at h
    split at h
    · rename_i t1 x1 t2 x2 h1 h2
      injection h with h
      cases h
      exact ⟨[v], u :: l, rfl, unval_rd h1, constL_rd h2⟩
    · cases h
theorem constS_rel {v : Value} {s : SV} (h : constS v = some s) : Rel1 G A w s v := by
  unfold constS at h
  split at h
  · injection h with h; subst h; rfl
  · split at h
    · rename_i cs t x hc
      injection h with h
      subst h
      refine ⟨_, constL_rd (t := t) hc, ?_⟩
      simp [mkV, Ty.isSt]
    · cases h
  · exact unval_rel h
end
section
variable {Z : Nat → Prop} {w0 : World} {n : Nat} {L : SL} {H : List Item} {G : List Value} {w : World} {a : Act}
theorem opS_rel (hf : FR Z n L H G w a) {x : Operand} {s : SV} (h : opS L x = some s) : Rel G (Av Z H G) w s (a.eval x) := by
  cases x with
  | tmp t =>
    obtain ⟨v, h1, h2⟩ := hf.slot t s h
    simpa [Act.eval, Array.getD_eq_getD_getElem?, h1] using h2
  | const v => exact rel_of1 (constS_rel h)
  | global g => simp [opS] at h
  | func f => simp only [opS, Option.some.injEq] at h; subst h; exact ⟨[], trivial, rfl⟩
theorem val?_rel {s : SV} {v u : Value} {A : Nat → Prop} (h : Rel G A w s u) (hv : val? s = some v) : u = v := by
  unfold val? at hv
  split at hv
  · rename_i t x
    split at hv
    · rename_i hfl
      injection hv with hv
      obtain ⟨cs, h1, h2⟩ := h
      rw [h2, ← hv, rd_flat hfl h1]
    · cases hv
  · cases hv
theorem opV_eval (hf : FR Z n L H G w a) {x : Operand} (h : (match opS L x with | some s => (val? s).isSome | none => false) = true) : a.eval x = opV L x := by
  unfold opV
  cases hs : opS L x with
  | none => rw [hs] at h; cases h
  | some s =>
    rw [hs] at h
    dsimp only at h ⊢
    obtain ⟨v, hv⟩ := Option.isSome_iff_exists.1 h
    rw [hv]
    exact val?_rel (opS_rel hf hs) hv
theorem flat_exec (hf : FR Z n L H G w a) {o : Oper} (h : flatOps L o.op = true) : execOp a.eval o = execOp (opV L) o := by
  simp only [flatOps, Bool.and_eq_true] at h
  refine execOp_congr o (fun cs b e => ?_) (fun x hx => opV_eval hf (List.all_eq_true.1 h.1 x (by simpa using hx)))
  rw [e] at h; simp at h

theorem flatOp_sound {P : Program} {R : Type} {o : Oper} {k : SV → Option R} {r : R} (hf : FR Z n L H G w a) (h : flatOp P L o k = some r) :
    ∃ s v, k s = some r ∧ Rel1 G (Av Z H G) w s v ∧ ∀ w', (execOp a.eval o).run P w' = .ok (.value v) w' := by
  unfold flatOp at h
  split at h
  · cases h
  · rename_i hfl
    rw [flat_exec hf hfl]
    have gen : (match evT P (execOp (opV L) o) [] with
        | some (.value v, []) => match unval v with | some s => k s | none => none
        | _ => none) = some r → ∃ s v, k s = some r ∧ Rel1 G (Av Z H G) w s v ∧ ∀ w', (execOp (opV L) o).run P w' = .ok (.value v) w' := by
      intro h
      split at h
      · rename_i v he
        split at h
        · rename_i s hs
          exact ⟨s, v, h, unval_rel hs, fun w' => evT_run _ _ _ _ he trivial⟩
        · cases h
      · cases h
    obtain ⟨dst, op, type, pos, after, guard⟩ := o
    dsimp only at h
    split at h
    case h_7 => exact gen h
    · rename_i t x y yt
      split at h <;> try (cases h; done)
      all_goals
        rename_i p q hp hq
        split at h <;> try (cases h; done)
        rename_i hb
        have hb := of_decide_eq_false hb
        refine ⟨_, _, h, ⟨[_], rfl, rfl⟩, fun w' => ?_⟩
        simp [execOp, hp, hq, eqGuard, binOp, Op.intDiv, hb, mkV, Ty.isSt]
    · rename_i t x y yt
      split at h <;> try (cases h; done)
      all_goals
        rename_i p q hp hq
        split at h <;> try (cases h; done)
        rename_i hb
        have hb := of_decide_eq_false hb
        refine ⟨_, _, h, ⟨[_], rfl, rfl⟩, fun w' => ?_⟩
        simp [execOp, hp, hq, eqGuard, binOp, Op.intDiv, hb, mkV, Ty.isSt]
    · rename_i t x y yt
      split at h <;> try (cases h; done)
      rename_i kd p kd' q hp hq
      split at h <;> try (cases h; done)
      rename_i hb
      have hb := of_decide_eq_false hb
      refine ⟨_, _, h, ⟨[_], rfl, rfl⟩, fun w' => ?_⟩
      simp [execOp, hp, hq, eqGuard, binOp, Op.shift, hb, mkV, Ty.isSt]
    · rename_i t x y yt
      split at h <;> try (cases h; done)
      rename_i kd p kd' q hp hq
      split at h <;> try (cases h; done)
      rename_i hb
      have hb := of_decide_eq_false hb
      refine ⟨_, _, h, ⟨[_], rfl, rfl⟩, fun w' => ?_⟩
      simp [execOp, hp, hq, eqGuard, binOp, Op.shift, hb, mkV, Ty.isSt]
    · rename_i t x y yt
      split at h
      · rename_i xs ys hx hy
        split at h <;> try (cases h; done)
        rename_i rr hg hr
        refine ⟨_, _, h, ⟨[_], rfl, rfl⟩, fun w' => ?_⟩
        simp only [execOp, hx, hy, Sem.run_bind, run_eqGuard_agg w' .eql t x y xs ys hg, Result.andThen_ok, run_eql_struct, eqV_run _ _ _ _ _ w' hr, Sem.run_pure]
        rfl
      · exact gen h
    · rename_i t x y yt
      split at h
      · rename_i xs ys hx hy
        split at h <;> try (cases h; done)
        rename_i rr hg hr
        refine ⟨_, _, h, ⟨[_], rfl, rfl⟩, fun w' => ?_⟩
        simp only [execOp, hx, hy, Sem.run_bind, run_eqGuard_agg w' .neq t x y xs ys hg, Result.andThen_ok, run_neq_struct, eqV_run _ _ _ _ _ w' hr, Sem.run_pure]
        rfl
      · exact gen h
end
end Go.Proofs.YtcaiedfkohigjaaGreat
/- .. loads, addresses, parts, slices. -/
namespace Go.Proofs.YtcaiedfkohigjaaGreat
open Go.RowKit

theorem run_loadAt_leaf {P : Program} (w : World) (b o : Nat) (ty : TypeId) (v : Value) (d : TypeDesc) (hc : w.cell? ⟨b, o, none⟩ = some v) (hu : P.underlying ty = some d) (hd : d.isRow = false) :
    (Instr.loadAt ty (.pointer (some ⟨b, o, none⟩))).run P w = .ok v w := by
  have hagg : (isAgg ty).run P w = .ok false w := by
    unfold isAgg
    rw [Sem.run_bind, run_underlying hu w]
    cases d <;> simp_all
  have hl : (load ⟨b, o, none⟩).run P w = .ok v w := by simp only [load, Sem.run, hc]
  simp only [Instr.loadAt, Instr.sureAddr, loadVar, Sem.run_bind, Sem.run_pure, Result.andThen_ok, hagg, Bool.false_eq_true, if_false]
  exact hl
/-- A variable's load: a struct's cells, or the one cell. -/
theorem run_loadAt_ty {P : Program} {t : Nat} {i : TI} (hc : chk P t i = true) (w : World) (b o : Nat) (cs : List Value) (hl : cs.length = i.ty.n) (hn : i.ty.isSt = false → i.ty.n = 1) (hcs : cellsAt w b o cs) :
    (Instr.loadAt t (.pointer (some ⟨b, o, none⟩))).run P w = .ok (mkV i.ty cs) w := by
  obtain ⟨d, h1, h2⟩ := chk_st hc
  have hsz := chk_size hc
  cases hst : i.ty.isSt with
  | true =>
    rw [hst] at h2
    rw [run_loadAt_mid w b o t cs d hcs h1 h2 (by rw [hsz, hl])]
    simp [mkV, hst]
  | false =>
    rw [hst] at h2
    have hl1 := hn hst
    match cs, hl with
    | [v], _ => rw [run_loadAt_leaf w b o t v d (by simpa using hcs 0 v rfl) h1 h2]; simp [mkV, hst]
    | [], hl => rw [hl1] at hl; simp at hl
    | _ :: _ :: _, hl => rw [hl1] at hl; simp at hl
theorem run_fieldAt {P : Program} {t f : Nat} {i : TI} {p : Nat × Nat} (hc : chk P t i = true) (hp : i.pl[f]? = some p) (w : World) (b o : Nat) :
    (Instr.fieldAt t (.pointer (some ⟨b, o, none⟩)) f).run P w = .ok (.pointer (some ⟨b, o + p.1, none⟩)) w := by
  obtain ⟨fs, fl, inf, h1, h2, h3, h4, h5⟩ := chk_field hc hp
  simp [Instr.fieldAt, run_underlying h1, h2, Instr.sureAddr, fieldPlace, sizeOf, typeInfo, h4, h5, add_plain, h3]

theorem flatten_get {sz : Nat} : ∀ {css : List (List Value)} {n i : Nat} {l : List Value} {v : Value}, (∀ l ∈ css, l.length = sz) → css[n]? = some l → l[i]? = some v → css.flatten[n * sz + i]? = some v
  | [], _, _, _, _, _, h, _ => by simp at h
  | c :: css, 0, i, l, v, hl, h, hv => by
    simp at h; subst h
    rw [List.flatten_cons, Nat.zero_mul, Nat.zero_add, List.getElem?_append_left (List.getElem?_eq_some_iff.1 hv).1]
    exact hv
  | c :: css, n + 1, i, l, v, hl, h, hv => by
    have hc : c.length = sz := hl c (by simp)
    rw [List.flatten_cons, List.getElem?_append_right (by rw [hc, Nat.succ_mul]; omega), hc, show (n + 1) * sz + i - sz = n * sz + i by rw [Nat.succ_mul]; omega]
    exact flatten_get (fun l hm => hl l (by simp [hm])) (by simpa using h) hv
theorem rds_len {A : Nat → Prop} {w : World} {e : Ty} : ∀ {css : List (List Value)} {xs : List e.D}, all2 (fun l y => e.rd A w l y) css xs → ∀ l ∈ css, l.length = e.n
  | [], [], _, l, h => by simp at h
  | c :: css, x :: xs, ⟨h1, h2⟩, l, h => by
    rcases List.mem_cons.1 h with rfl | h
    · exact Ty.rd_len h1
    · exact rds_len h2 l h
theorem flatten_len {sz : Nat} : ∀ {css : List (List Value)}, (∀ l ∈ css, l.length = sz) → css.flatten.length = css.length * sz
  | [], _ => by simp
  | c :: css, h => by rw [List.flatten_cons, List.length_append, flatten_len (fun l hm => h l (by simp [hm])), h c (by simp), List.length_cons, Nat.succ_mul]; omega
theorem flatten_take {sz : Nat} : ∀ {css : List (List Value)} (n : Nat), (∀ l ∈ css, l.length = sz) → (css.take n).flatten = css.flatten.take (n * sz)
  | [], n, _ => by simp
  | c :: css, 0, _ => by simp
  | c :: css, n + 1, h => by
    have hc := h c (by simp)
    rw [List.take_succ_cons, List.flatten_cons, flatten_take n (fun l hm => h l (by simp [hm])), List.flatten_cons, List.take_append, hc, List.take_of_length_le (l := c) (by rw [hc, Nat.succ_mul]; omega), show (n + 1) * sz - sz = n * sz by rw [Nat.succ_mul]; omega]
theorem flatten_drop {sz : Nat} : ∀ {css : List (List Value)} (n : Nat), (∀ l ∈ css, l.length = sz) → (css.drop n).flatten = css.flatten.drop (n * sz)
  | [], n, _ => by simp
  | c :: css, 0, _ => by simp
  | c :: css, n + 1, h => by
    have hc := h c (by simp)
    rw [List.drop_succ_cons, List.flatten_cons, flatten_drop n (fun l hm => h l (by simp [hm])), List.drop_append, hc, (List.drop_eq_nil_of_le (by rw [hc, Nat.succ_mul]; omega) : c.drop ((n + 1) * sz) = []), List.nil_append, show (n + 1) * sz - sz = n * sz by rw [Nat.succ_mul]; omega]

section
variable {Z : Nat → Prop} {w0 : World} {n : Nat} {L : SL} {H : List Item} {G : List Value} {w : World} {a : Act} {P : Program} {T : TT}
theorem Agr.pure {rw : Bool} {w' : World} (ha : Agr rw H G w w') {b : Nat} (hb : b < w.heap.size) (hA : Av Z H G b) : w'.heap[b]? = w.heap[b]? :=
  ha.2 b hb (.inr fun ⟨j, _et, _e, _xs, g, h1, h2, h3⟩ => hA.2 j _ g h1 rfl h2 h3)
theorem Agr.box {rw : Bool} {w' : World} (ha : Agr rw H G w w') (hr : SR Z w0 H G w) {j b : Nat} {t : TypeId} {cs : List SV} {g : Value} (hj : H[j]? = some (.box t cs)) (hg : G[j]? = some g) (hb : blkOf g = some b) : w'.heap[b]? = w.heap[b]? :=
  ha.2 b ((hr.items j _ g hj hg).blk rfl hb).2 (.inr fun ⟨i, et, e, xs, h, h1, h2, h3⟩ => by
    by_cases hij : i = j
    · subst hij; rw [hj] at h1; cases h1
    · exact hr.disj i j _ _ h g b hij h1 hj rfl rfl h2 hg h3 hb)
theorem cellsAt_of {w' : World} {b o : Nat} {cs : List Value} (h : w'.heap[b]? = w.heap[b]?) (hc : cellsAt w b o cs) : cellsAt w' b o cs := fun i v hv => (World.cell?_of_block (a := ⟨b, o + i, none⟩) h).trans (hc i v hv)
/-- The cells of an element of one's own row. -/
theorem own_cells {base et : Nat} {e : Ty} {g : Value} {m b c N : Nat} {css : List (List Value)} {l : List Value} {A : Nat → Prop} {xs : List e.D} (ho : w.ownsRow base et e.n g m css.flatten) (hg : g = .slice (some ⟨b, 0, none⟩) N c) (ha : all2 (fun l y => e.rd A w l y) css xs) {k : Nat} (hk : css[k]? = some l) : cellsAt w b (k * e.n) l := by
  intro i v hv
  have hf := flatten_get (rds_len ha) hk hv
  rcases ho.2 with ⟨rfl, _⟩ | ⟨g', cap, cur, rfl, h1, h2, h3, h4, h5, h6⟩
  · cases hg
  · injection hg with hg
    injection hg with hg
    injection hg with hg
    subst hg
    rw [cell_of_row w _ _ cur et (0, 0) h2]
    rw [← h6, List.getElem?_take] at hf
    split at hf
    · rw [← Array.getElem?_toList]; exact hf
    · cases hf
theorem sub_n {e t : Ty} {x : e.D} {off : Nat} {y : t.D} : e.sub x off t = some y → t.isSt = false → t.n = 1 := by
  have lf : ∀ {e : Ty} {x : e.D} {off : Nat}, e.n = 1 → (match Nat.beq off 0 with | true => castD e t x | false => none) = some y → t.n = 1 := by
    intro e x off hn h
    split at h
    · obtain ⟨rfl, _⟩ := castD_some h; exact hn
    · cases h
  induction e generalizing off with
  | int k => exact fun h _ => lf rfl h
  | bool => exact fun h _ => lf rfl h
  | str => exact fun h _ => lf rfl h
  | sl e => exact fun h _ => lf rfl h
  | st a ih =>
    intro h hs
    simp only [Ty.sub] at h
    split at h
    · rename_i z h0 h1
      obtain ⟨rfl, _⟩ := castD_some h1
      simp [Ty.isSt] at hs
    · exact ih h hs
  | pair a b iha ihb =>
    intro h hs
    simp only [Ty.sub] at h
    split at h
    · exact iha h hs
    · exact ihb h hs

theorem rel1_box {s : SV} {j off : Nat} {v : Value} (hs : s = .box j off) (h : Rel G (Av Z H G) w s v) : ∃ b, G[j]? = some (.pointer (some ⟨b, 0, none⟩)) ∧ v = .pointer (some ⟨b, off, none⟩) := by subst hs; exact h

theorem load_box (hr : SR Z w0 H G w) {rw : Bool} {t : Nat} {i : TI} (hc : chk P t i = true) {j off : Nat} {bt : TypeId} {cells : List SV} {p : Value} {s : SV} (hp : Rel G (Av Z H G) w (.box j off) p) (hj : H[j]? = some (.box bt cells)) (hl : loadB i.ty (cells.drop off) = some s) :
    ∃ v, Rel1 G (Av Z H G) w s v ∧ ∀ w', Agr rw H G w w' → (Instr.loadAt t p).run P w' = .ok v w' := by
  obtain ⟨b, hg, rfl⟩ := hp
  obtain ⟨b', vs, e1, hb, hblk, hrel⟩ := hr.items j _ _ hj hg
  injection e1 with e1
  injection e1 with e1
  injection e1 with e1
  subst e1
  have hcell : ∀ (cs : List Value), (∃ r, vs.drop off = cs ++ r) → cellsAt w b off cs := by
    rintro cs ⟨r, hcs⟩ k v hv
    refine hblk.cell _ ?_
    have : (vs.drop off)[k]? = some v := by rw [hcs, List.getElem?_append_left (List.getElem?_eq_some_iff.1 hv).1]; exact hv
    rw [List.getElem?_drop] at this
    simpa using this
  have hd := all2_drop off hrel
  unfold loadB at hl
  split at hl
  · rename_i hst
    split at hl
    · rename_i x r hjn
      injection hl with hl
      subst hl
      obtain ⟨v1, v2, h1, h2, _⟩ := join_rd hjn hd
      refine ⟨mkV i.ty v1, ⟨v1, h2, rfl⟩, fun w' ha => ?_⟩
      exact run_loadAt_ty hc w' b off v1 (Ty.rd_len h2) (fun h => by rw [hst] at h; cases h) (cellsAt_of (ha.box hr hj hg rfl) (hcell v1 ⟨v2, h1⟩))
    · cases hl
  · rename_i hst
    split at hl
    · rename_i s' r hdr
      split at hl <;> try (cases hl; done)
      rename_i hgood
      injection hl with hl
      subst hl
      rw [hdr] at hd
      match hv : vs.drop off, hd with
      | v :: vr, hd =>
        obtain ⟨h1, _⟩ := hd
        obtain ⟨d, hu, hrow⟩ := chk_st hc
        refine ⟨v, h1, fun w' ha => ?_⟩
        refine run_loadAt_leaf w' b off t v d ?_ hu (by rw [hrow, hst])
        have := cellsAt_of (ha.box hr hj hg rfl) (hcell [v] ⟨vr, hv⟩) 0 v rfl
        simpa using this
    · cases hl
theorem load_elt {rw : Bool} {t : Nat} {i : TI} (hc : chk P t i = true) {e : Ty} {x : e.D} {off : Nat} {p : Value} {y : i.ty.D} (hp : Rel G (Av Z H G) w (.elt e x off) p) (hs : e.sub x off i.ty = some y) :
    ∃ v, Rel1 G (Av Z H G) w (.d i.ty y) v ∧ ∀ w', Agr rw H G w w' → (Instr.loadAt t p).run P w' = .ok v w' := by
  obtain ⟨b, o, cs, rfl, hA, hb, hrd, hcs⟩ := hp
  have h1 := sub_rd hrd hs
  refine ⟨mkV i.ty _, ⟨_, h1, rfl⟩, fun w' ha => ?_⟩
  refine run_loadAt_ty hc w' b (o + off) _ (Ty.rd_len h1) (sub_n hs) (cellsAt_of (ha.pure hb hA) fun k v hv => ?_)
  rw [List.getElem?_take] at hv
  split at hv
  · rw [List.getElem?_drop] at hv
    have := hcs _ _ hv
    rwa [← Nat.add_assoc] at this
  · cases hv
theorem load_oelt (hr : SR Z w0 H G w) {t : Nat} {i : TI} (hc : chk P t i = true) {j k off : Nat} {et : TypeId} {e : Ty} {xs : List e.D} {x : e.D} {p : Value} {y : i.ty.D} (hp : Rel G (Av Z H G) w (.oelt j e.n k off) p) (hj : H[j]? = some (.row et e xs)) (hx : xs[k]? = some x) (hs : e.sub x off i.ty = some y) :
    ∃ v, Rel1 G (Av Z H G) w (.d i.ty y) v ∧ ∀ w', Agr true H G w w' → (Instr.loadAt t p).run P w' = .ok v w' := by
  obtain ⟨b, m, c, hg, rfl⟩ := hp
  have hit := hr.items j _ _ hj hg
  obtain ⟨css, ho, ha2, _⟩ := hit
  obtain ⟨l, hl, hrd⟩ := all2_get ha2 k x hx
  have h1 := sub_rd hrd hs
  refine ⟨mkV i.ty _, ⟨_, h1, rfl⟩, fun w' ha => ?_⟩
  have hb := ((hr.items j _ _ hj hg).blk rfl rfl).2
  refine run_loadAt_ty hc w' b (k * e.n + off) _ (Ty.rd_len h1) (sub_n hs) (cellsAt_of (ha.2 b hb (.inl rfl)) fun q v hv => ?_)
  rw [List.getElem?_take] at hv
  split at hv
  · rw [List.getElem?_drop] at hv
    have := own_cells ho rfl ha2 hl _ _ hv
    rwa [← Nat.add_assoc] at this
  · cases hv

theorem run_indexAt_sl {t : Nat} {i : TI} {e : Ty} (hc : chk P t i = true) (ht : i.ty = .sl e) (w : World) (b off len c : Nat) (kd : IntKind) (m : Int) (h0 : 0 ≤ m) (h1 : m < len) :
    (Instr.indexAt t (.slice (some ⟨b, off, none⟩) len c) (.int kd m)).run P w = .ok (.pointer (some ⟨b, off + m.toNat * e.n, none⟩)) w := by
  obtain ⟨hu, _, j, hj, hjs, _⟩ := chk_slice hc ht
  simp [Instr.indexAt, asIntOf, run_underlying hu, sizeOf, typeInfo, hj, h0, h1, add_plain, hjs]
theorem getI_some {α : Type} {xs : List α} {m : Int} {y : α} (h : getI xs m = some y) : 0 ≤ m ∧ m < xs.length ∧ xs[m.toNat]? = some y := by
  unfold getI at h
  split at h
  · rename_i h0
    have h0 := of_decide_eq_true h0
    have := (List.getElem?_eq_some_iff.1 h).1
    exact ⟨h0, by omega, h⟩
  · cases h
theorem index_sl {t : Nat} {i : TI} {e : Ty} (hc : chk P t i = true) (ht : i.ty = .sl e) {xs : List e.D} {m : Int} {y : e.D} {p : Value} {kd : IntKind} (hp : Rel G (Av Z H G) w (.d (.sl e) xs) p) (hy : getI xs m = some y) :
    ∃ v, Rel1 G (Av Z H G) w (.elt e y 0) v ∧ ∀ w', (Instr.indexAt t p (.int kd m)).run P w' = .ok v w' := by
  obtain ⟨cs, hrd, rfl⟩ := hp
  obtain ⟨p, n, c, css, rfl, h1, h2, h3, h4, h5⟩ := hrd
  obtain ⟨g1, g2, g3⟩ := getI_some hy
  obtain ⟨b, off, rfl, hA, hb, hcs⟩ := h5 (by omega)
  obtain ⟨l, hl, hrd⟩ := all2_get h4 _ _ g3
  refine ⟨.pointer (some ⟨b, off + m.toNat * e.n, none⟩), ⟨b, off + m.toNat * e.n, l, rfl, hA, hb, hrd, fun k v hv => ?_⟩, fun w' => run_indexAt_sl hc ht w' b off n c kd m g1 (by omega)⟩
  have := hcs _ _ (flatten_get (rds_len h4) hl hv)
  rwa [← Nat.add_assoc] at this
theorem own_form' {base et sz : Nat} {g : Value} {m : Nat} {cs : List Value} (h : w.ownsRow base et sz g m cs) : (g = .slice none 0 0 ∧ m = 0) ∨ ∃ b c, g = .slice (some ⟨b, 0, none⟩) m c := by
  rcases h.2 with h | ⟨g', cap, cur, rfl, _⟩
  · exact .inl h
  · exact .inr ⟨g', cap, rfl⟩
theorem index_own (hr : SR Z w0 H G w) {t : Nat} {i : TI} {e : Ty} (hc : chk P t i = true) (ht : i.ty = .sl e) {et : TypeId} {xs : List e.D} {j : Nat} {m : Int} {y : e.D} {p : Value} {kd : IntKind} (hj : H[j]? = some (.row et e xs)) (hp : Rel G (Av Z H G) w (.own j) p) (hy : getI xs m = some y) :
    ∃ v, Rel1 G (Av Z H G) w (.oelt j e.n m.toNat 0) v ∧ ∀ w', (Instr.indexAt t p (.int kd m)).run P w' = .ok v w' := by
  obtain ⟨css, ho, _⟩ := hr.items j _ _ hj hp
  obtain ⟨g1, g2, g3⟩ := getI_some hy
  rcases own_form' ho with ⟨rfl, h0⟩ | ⟨b, c, rfl⟩
  · omega
  · refine ⟨.pointer (some ⟨b, m.toNat * e.n, none⟩), ⟨b, _, c, hp, rfl⟩, fun w' => ?_⟩
    have := run_indexAt_sl hc ht w' b 0 xs.length c kd m g1 (by omega)
    rwa [Nat.zero_add] at this
end
end Go.Proofs.YtcaiedfkohigjaaGreat
/- The quiet operations, all of them. -/
namespace Go.Proofs.YtcaiedfkohigjaaGreat
open Go.RowKit

def overV (cs : List Value) : Nat → List Value → List Value
  | _, [] => cs
  | off, s :: r => overV (cs.set off s) (off + 1) r
theorem over_rel {R : SV → Value → Prop} : ∀ {l : List SV} {vs : List Value} {cs : List SV} {us : List Value} (off : Nat), all2 R l vs → all2 R cs us → all2 R (over cs off l) (overV us off vs)
  | [], [], _, _, _, _, h => h
  | _ :: _, _ :: _, _, _, off, ⟨h1, h2⟩, h => over_rel (off + 1) h2 (all2_set off h h1)
theorem overV_len : ∀ {l : List Value} {cs : List Value} {off : Nat}, (overV cs off l).length = cs.length
  | [], _, _ => rfl
  | _ :: r, _, _ => by simp [overV, overV_len (l := r)]
theorem fold_over : ∀ (l : List Value) (off k : Nat) (cells : Array Value), ((l.zipIdx k).foldl (fun (cs : Array Value) (x : Value × Nat) => cs.setIfInBounds (off + x.2) x.1) cells).toList = overV cells.toList (off + k) l
  | [], _, _, _ => rfl
  | v :: l, off, k, cells => by
    rw [List.zipIdx_cons, List.foldl_cons, fold_over l off (k + 1)]
    simp [overV, Nat.add_assoc]
theorem fill_step (v : Value) (off : Nat) (cells : Array Value) : (v.cells.zipIdx.foldl (fun (cs : Array Value) (x : Value × Nat) => cs.setIfInBounds (off + x.2) x.1) cells).toList = overV cells.toList off v.cells.toList := by
  have := fold_over v.cells.toList off 0 cells
  rw [Nat.add_zero] at this
  rw [← this]
  congr 1
  obtain ⟨l⟩ := v.cells
  simp
theorem mkV_cells {t : Ty} {A : Nat → Prop} {w : World} {cs : List Value} {x : t.D} (ht : ∀ a b, t ≠ .pair a b) (h : t.rd A w cs x) : (mkV t cs).cells.toList = cs := by
  cases t with
  | int k => simp only [Ty.rd] at h; subst h; rfl
  | bool => simp only [Ty.rd] at h; subst h; rfl
  | str => simp only [Ty.rd] at h; subst h; rfl
  | sl e => obtain ⟨p, n, c, css, rfl, _⟩ := h; rfl
  | pair a b => exact (ht a b rfl).elim
  | st a => simp [mkV, Ty.isSt, Value.cells]
section
variable {Z : Nat → Prop} {w0 : World} {n : Nat} {L : SL} {H : List Item} {G : List Value} {w : World} {a : Act} {P : Program} {T : TT}
theorem splitS_rel (hr : SR Z w0 H G w) {s : SV} {v : Value} {l : List SV} (h : Rel G (Av Z H G) w s v) (hs : splitS H s = some l) : all2 (Rel1 G (Av Z H G) w) l v.cells.toList := by
  unfold splitS at hs
  split at hs
  · cases hs
  · rename_i t x hne
    injection hs with hs
    subst hs
    obtain ⟨cs, h1, rfl⟩ := h
    rw [mkV_cells (fun a b e => by subst e; exact hne a b x rfl HEq.rfl) h1]
    exact split_rel h1
  · split at hs
    · rename_i j _ et e xs hj
      injection hs with hs
      subst hs
      obtain ⟨css, ho, _⟩ := hr.items j _ _ hj h
      have hc : v.cells.toList = [v] := by rcases own_form' ho with ⟨rfl, _⟩ | ⟨b, c, rfl⟩ <;> rfl
      rw [hc]
      exact ⟨h, trivial⟩
    · cases hs
  · rename_i s' hn1 hn2 hn3
    split at hs <;> try (cases hs; done)
    rename_i hg
    injection hs with hs
    subst hs
    have hc : v.cells.toList = [v] := by
      cases s with
      | d t x => cases t <;> first | exact (hn1 _ _ _ rfl).elim | exact (hn2 _ _ rfl).elim
      | nil => rw [show v = .slice none 0 0 from h]; rfl
      | box j off => obtain ⟨b, _, rfl⟩ := h; rfl
      | elt e x off => obtain ⟨b, o, cs, rfl, _⟩ := h; rfl
      | own j => exact (hn3 j rfl).elim
      | oelt j sz i off => obtain ⟨b, n, c, _, rfl⟩ := h; rfl
      | clo f caps => obtain ⟨bs, _, rfl⟩ := h; rfl
      | tup l => simp [SV.good] at hg
      | undef => simp [SV.good] at hg
      | dead => simp [SV.good] at hg
      | cut e xs => obtain ⟨p, _, rfl⟩ := h; rfl
      | osl j sz lo n => obtain ⟨g, q, c, _, rfl, _⟩ := h; rfl
    rw [hc]
    exact ⟨rel_to1 h (fun l e => by subst e; simp [SV.good] at hg), trivial⟩
theorem fillS_rel (hr : SR Z w0 H G w) (hf : FR Z n L H G w a) {place : Nat → Option (Nat × Nat)} : ∀ {parts : List (Nat × Operand)} {cs cs' : List SV} {us : Array Value}, fillS H L place cs parts = some cs' → all2 (Rel1 G (Av Z H G) w) cs us.toList →
    ∃ us', Instr.fill place us (parts.map fun p => (p.1, a.eval p.2)) = some us' ∧ all2 (Rel1 G (Av Z H G) w) cs' us'.toList
  | [], cs, cs', us, h, ha => by simp only [fillS, Option.some.injEq] at h; subst h; exact ⟨us, rfl, ha⟩
  | (i, x) :: r, cs, cs', us, h, ha => by
    simp only [fillS] at h
    split at h
    · rename_i off size s hp hs
      split at h <;> try (cases h; done)
      rename_i l hl
      split at h <;> try (cases h; done)
      rename_i hb
      simp only [Bool.and_eq_true] at hb
      have hv := opS_rel hf hs
      have hl2 := splitS_rel hr hv hl
      have hlen : (a.eval x).cells.size = l.length := by have := all2_len hl2; simpa using this.symm
      have hlu : cs.length = us.size := by have := all2_len ha; simpa using this
      obtain ⟨us', h1, h2⟩ := fillS_rel hr hf (us := ((a.eval x).cells.zipIdx.foldl (fun (cs : Array Value) (x : Value × Nat) => cs.setIfInBounds (off + x.2) x.1) us)) h (by rw [fill_step]; exact over_rel off hl2 ha)
      refine ⟨us', ?_, h2⟩
      have e1 := Nat.eq_of_beq_eq_true hb.1
      have e2 := Nat.le_of_ble_eq_true hb.2
      simp only [List.map_cons, Instr.fill, hp]
      rw [if_neg (by simp [hlen, e1]; omega)]
      exact h1
    · cases h
theorem chk_built {t : Nat} {i : TI} (hc : chk P t i = true) (hz : i.z = true) (hst : i.ty.isSt = true) (parts : List (Nat × Value)) : P.built t parts = Instr.fill (placeOf i i.el) (zc i.ty).toArray parts := by
  obtain ⟨inf, hi, hzero⟩ := chk_zero hc hz
  unfold chk at hc
  rw [hi] at hc
  cases hu : P.underlying t with
  | none => rw [hu] at hc; cases hc
  | some d =>
    rw [hu] at hc
    simp only [Bool.and_eq_true] at hc
    have hc := hc.2
    have hmk : (mkV i.ty (zc i.ty)).cells = (zc i.ty).toArray := by simp [mkV, hst, Value.cells]
    unfold Program.built
    rw [hi, hu]
    match d, hc with
    | .struct fs, hc =>
      simp only [Bool.and_eq_true] at hc
      obtain ⟨_, hc⟩ := hc
      split at hc
      · rename_i pl hpl
        simp only [Bool.and_eq_true] at hc
        obtain ⟨rfl, _⟩ := eqP_eq hc.1
        simp only [hzero, hpl, hmk]
        congr 1
        unfold placeOf
        rw [hc.2]
        funext k
        simp
      · cases hc
    | .array m e, hc =>
      simp only [Bool.and_eq_true] at hc
      obtain ⟨⟨⟨⟨_, h1⟩, h2⟩, h3⟩, h4⟩ := hc
      split at h4
      · rename_i j hj
        simp only [hzero, hj, hmk, Nat.eq_of_beq_eq_true h4]
        unfold placeOf
        have e1 := Nat.eq_of_beq_eq_true h1
        have e2 := Nat.le_of_ble_eq_true h2
        have e3 : Nat.beq i.len 0 = false := by rw [← e1]; cases m <;> first | omega | rfl
        rw [e3]
      · cases h4
    | .slice e, hc => 
      dsimp only at hc
      split at hc
      · rename_i he _; rw [he] at hst; cases hst
      · cases hc
    | .invalid, hc | .bool, hc | .int _, hc | .float _, hc | .complex _, hc | .string, hc | .pointer _, hc | .map _ _, hc | .chan _ _, hc | .func _ _ _, hc | .interface _, hc | .tuple _, hc | .named _ _, hc | .unsafePointer, hc =>
      simp only [Bool.and_eq_true] at hc
      have hc := hc.2
      generalize i.ty = ty at *
      cases ty <;> simp_all [Ty.isSt]
theorem slice_sl {t : Nat} {i : TI} {e : Ty} (hc : chk P t i = true) (ht : i.ty = .sl e) {xs : List e.D} {l h : Int} {p : Value} {lo hi : Option Value} (hp : Rel G (Av Z H G) w (.d (.sl e) xs) p)
    (hlo : (lo = none ∧ l = 0) ∨ ∃ kd, lo = some (.int kd l)) (hhi : (hi = none ∧ h = xs.length) ∨ ∃ kd, hi = some (.int kd h)) (hb : 0 ≤ l ∧ l ≤ h ∧ h ≤ xs.length) :
    ∃ v, Rel1 G (Av Z H G) w (.d (.sl e) ((xs.take h.toNat).drop l.toNat)) v ∧ ∀ w', (Instr.sliceAt t p lo hi none).run P w' = .ok v w' := by
  obtain ⟨cs, hrd, rfl⟩ := hp
  obtain ⟨p, n, c, css, rfl, h1, h2, h3, h4, h5⟩ := hrd
  obtain ⟨hu, _, j, hj, hjs, _⟩ := chk_slice hc ht
  obtain ⟨b1, b2, b3⟩ := hb
  have hel : P.elem t = i.el := by simp [Program.elem, hu]
  have hu' : P.underlying t = some (.slice (P.elem t)) := by rw [hel]; exact hu
  have hsz : ∀ w', (sizeOf (P.elem t)).run P w' = .ok e.n w' := fun w' => by rw [hel]; simp [sizeOf, typeInfo, hj, hjs]
  refine ⟨sliced p l.toNat h.toNat c e.n, ?_, fun w' => ?_⟩
  · have hl4 := rds_len h4
    have hlen : ((xs.take h.toNat).drop l.toNat).length = h.toNat - l.toNat := by simp; omega
    refine ⟨[sliced p l.toNat h.toNat c e.n], ⟨if c = l.toNat then p else p.map (·.add (l.toNat * e.n)), h.toNat - l.toNat, c - l.toNat, (css.take h.toNat).drop l.toNat, rfl, hlen, by omega, by omega, all2_drop _ (all2_take _ h4), fun hn => ?_⟩, rfl⟩
    have hn0 : 0 < n := by omega
    have hcl : c ≠ l.toNat := by omega
    obtain ⟨b, off, rfl, hA, hb, hcs⟩ := h5 hn0
    refine ⟨b, off + l.toNat * e.n, ?_, hA, hb, ?_⟩
    · rw [if_neg hcl]
      simp [add_plain]
    · intro k v hv
      rw [flatten_drop _ (fun l hm => hl4 l (List.mem_of_mem_take hm)), flatten_take _ hl4, List.getElem?_drop, List.getElem?_take] at hv
      split at hv
      · have := hcs _ _ hv
        rwa [← Nat.add_assoc] at this
      · cases hv
  · rw [run_sliceAt_slice w' t _ lo hi none hu']
    have hn : (n : Int) = xs.length := by omega
    rcases hlo with ⟨rfl, rfl⟩ | ⟨kl, rfl⟩ <;> rcases hhi with ⟨rfl, rfl⟩ | ⟨kh, rfl⟩
    · have := run_slice_all (P := P) w' t p n c hu'
      simp only [mkV, Ty.isSt, List.headD_cons, this, hsz, Result.andThen_ok, ← hn]
      simp
    · have := run_slice_h (P := P) w' t p n c hu' kh h (by omega) (by omega)
      simp only [mkV, Ty.isSt, List.headD_cons, this, hsz, Result.andThen_ok]
      simp
    · have := run_slice_l (P := P) w' t p n c hu' kl l (by omega) (by omega)
      simp only [mkV, Ty.isSt, List.headD_cons, this, hsz, Result.andThen_ok, ← hn]
      simp
    · have := run_slice_lh (P := P) w' t p n c hu' kl kh l h (by omega) (by omega) (by omega)
      simp only [mkV, Ty.isSt, List.headD_cons, this, hsz, Result.andThen_ok]
theorem slice3_sl {t : Nat} {i : TI} {e : Ty} (hc : chk P t i = true) (ht : i.ty = .sl e) {xs : List e.D} {l h m : Int} {p : Value} {lo hi mx : Option Value} (hp : Rel G (Av Z H G) w (.d (.sl e) xs) p)
    (hlo : (lo = none ∧ l = 0) ∨ ∃ kd, lo = some (.int kd l)) (hhi : ∃ kd, hi = some (.int kd h)) (hmx : ∃ kd, mx = some (.int kd m)) (hb : 0 ≤ l ∧ l ≤ h ∧ h ≤ m ∧ m ≤ xs.length) :
    ∃ v, Rel1 G (Av Z H G) w (.d (.sl e) ((xs.take h.toNat).drop l.toNat)) v ∧ (h = m → Rel1 G (Av Z H G) w (.cut e ((xs.take h.toNat).drop l.toNat)) v) ∧ ∀ w', (Instr.sliceAt t p lo hi mx).run P w' = .ok v w' := by
  obtain ⟨cs, hrd, rfl⟩ := hp
  obtain ⟨p, n, c, css, rfl, h1, h2, h3, h4, h5⟩ := hrd
  obtain ⟨hu, _, j, hj, hjs, _⟩ := chk_slice hc ht
  obtain ⟨b1, b2, b3, b4⟩ := hb
  have hel : P.elem t = i.el := by simp [Program.elem, hu]
  have hu' : P.underlying t = some (.slice (P.elem t)) := by rw [hel]; exact hu
  have hsz : ∀ w', (sizeOf (P.elem t)).run P w' = .ok e.n w' := fun w' => by rw [hel]; simp [sizeOf, typeInfo, hj, hjs]
  have hlen : ((xs.take h.toNat).drop l.toNat).length = h.toNat - l.toNat := by simp; omega
  have main : (Ty.sl e).rd (Av Z H G) w [sliced p l.toNat h.toNat m.toNat e.n] ((xs.take h.toNat).drop l.toNat) := by
    have hl4 := rds_len h4
    refine ⟨if m.toNat = l.toNat then p else p.map (·.add (l.toNat * e.n)), h.toNat - l.toNat, m.toNat - l.toNat, (css.take h.toNat).drop l.toNat, rfl, hlen, by omega, by omega, all2_drop _ (all2_take _ h4), fun hn => ?_⟩
    have hn0 : 0 < n := by omega
    have hcl : m.toNat ≠ l.toNat := by omega
    obtain ⟨b, off, rfl, hA, hb, hcs⟩ := h5 hn0
    refine ⟨b, off + l.toNat * e.n, ?_, hA, hb, ?_⟩
    · rw [if_neg hcl]
      simp [add_plain]
    · intro k v hv
      rw [flatten_drop _ (fun l hm => hl4 l (List.mem_of_mem_take hm)), flatten_take _ hl4, List.getElem?_drop, List.getElem?_take] at hv
      split at hv
      · have := hcs _ _ hv
        rwa [← Nat.add_assoc] at this
      · cases hv
  refine ⟨sliced p l.toNat h.toNat m.toNat e.n, ⟨_, main, rfl⟩, fun hm => ?_, fun w' => ?_⟩
  · subst hm
    refine ⟨if h.toNat = l.toNat then p else p.map (·.add (l.toNat * e.n)), ?_, ?_⟩
    · rw [hlen]; exact main
    · rw [hlen]; rfl
  · rw [run_sliceAt_slice w' t _ lo hi mx hu']
    obtain ⟨kh, rfl⟩ := hhi
    obtain ⟨km, rfl⟩ := hmx
    rcases hlo with ⟨rfl, rfl⟩ | ⟨kl, rfl⟩
    · have := run_slice_hm (P := P) w' t p n c hu' kh km h m (by omega) (by omega) (by omega)
      simp only [mkV, Ty.isSt, List.headD_cons, this, hsz, Result.andThen_ok]
      simp
    · have := run_slice_lhm (P := P) w' t p n c hu' kl kh km l h m (by omega) (by omega) (by omega) (by omega)
      simp only [mkV, Ty.isSt, List.headD_cons, this, hsz, Result.andThen_ok]
theorem boxIds_rel : ∀ {l : List SV} {js : List Nat} {vs : List Value}, boxIds l = some js → all2 (Rel G (Av Z H G) w) l vs → ∃ bs : List Nat, all2 (fun j b => G[j]? = some (.pointer (some ⟨b, 0, none⟩))) js bs ∧ vs = bs.map fun b => .pointer (some ⟨b, 0, none⟩)
  | [], js, [], h, _ => by simp only [boxIds, Option.some.injEq] at h; subst h; exact ⟨[], trivial, rfl⟩
  | s :: l, js, v :: vs, h, ⟨h1, h2⟩ => by
    unfold boxIds at h
    split at h
    · rename_i he; cases he
    · rename_i j r he
      injection he with e1 e2
      subst e1 e2
      split at h
      · rename_i l' hl'
        injection h with h
        subst h
        obtain ⟨b, hb, rfl⟩ := h1
        obtain ⟨bs, g1, g2⟩ := boxIds_rel hl' h2
        exact ⟨b :: bs, ⟨hb, g1⟩, by rw [g2]; rfl⟩
      · cases h
    · cases h
theorem allS_rel (hf : FR Z n L H G w a) : ∀ {l : List Operand} {ss : List SV}, allS L l = some ss → all2 (Rel G (Av Z H G) w) ss (l.map a.eval)
  | [], ss, h => by simp only [allS, Option.some.injEq] at h; subst h; trivial
  | x :: l, ss, h => by
    simp only [allS] at h
    split at h
    · rename_i s l' h1 h2
      injection h with h
      subst h
      exact ⟨opS_rel hf h1, allS_rel hf h2⟩
    · cases h
theorem slB_rel (hf : FR Z n L H G w a) {d l : Int} {o : Option Operand} (h : slB L d o = some l) : (o.map a.eval = none ∧ l = d) ∨ ∃ kd, o.map a.eval = some (.int kd l) := by
  unfold slB at h
  split at h
  · injection h with h; exact .inl ⟨rfl, h.symm⟩
  · split at h
    · rename_i kd i hs
      injection h with h
      subst h
      obtain ⟨cs, h1, h2⟩ := opS_rel hf hs
      simp only [Ty.rd] at h1
      subst h1
      exact .inr ⟨kd, by simp [h2, mkV, Ty.isSt]⟩
    · cases h
end
end Go.Proofs.YtcaiedfkohigjaaGreat
/- The quiet operations are the machine's. -/
namespace Go.Proofs.YtcaiedfkohigjaaGreat
open Go.RowKit
theorem rel_int {G : List Value} {A : Nat → Prop} {w : World} {k : IntKind} {x : Int} {v : Value} (h : Rel G A w (.d (.int k) x) v) : v = .int k x := by
  obtain ⟨cs, h1, rfl⟩ := h
  simp only [Ty.rd] at h1
  subst h1
  rfl
theorem rel_bool {G : List Value} {A : Nat → Prop} {w : World} {x : Bool} {v : Value} (h : Rel G A w (.d .bool x) v) : v = .bool x := by
  obtain ⟨cs, h1, rfl⟩ := h
  simp only [Ty.rd] at h1
  subst h1
  rfl
theorem run_len_sl {P : Program} {t ty : TypeId} {i : TI} {e : Ty} (hc : chk P t i = true) (ht : i.ty = .sl e) (w : World) (p : Option Addr) (n c : Nat) : (Builtin.len_ #[t] ty #[.slice p n c]).run P w = .ok (.int .i64 n) w := by
  obtain ⟨hu, _⟩ := chk_slice hc ht
  simp [Builtin.len_, run_underlying hu, goInt]
def isLoad : Op → Bool
  | .load .. => true
  | _ => false
theorem run_win {P : Program} {t : Nat} {i : TI} {e : Ty} (hc : chk P t i = true) (ht : i.ty = .sl e) (w' : World) (q : Option Addr) (n c : Nat) {l h : Int} {lo hi : Option Value}
    (hlo : (lo = none ∧ l = 0) ∨ ∃ kd, lo = some (.int kd l)) (hhi : (hi = none ∧ h = (n : Int)) ∨ ∃ kd, hi = some (.int kd h)) (hb : 0 ≤ l ∧ l ≤ h ∧ h ≤ (n : Int)) (hnc : n ≤ c) :
    (Instr.sliceAt t (.slice q n c) lo hi none).run P w' = .ok (sliced q l.toNat h.toNat c e.n) w' := by
  obtain ⟨hu, _, j, hj, hjs, _⟩ := chk_slice hc ht
  obtain ⟨b1, b2, b3⟩ := hb
  have hel : P.elem t = i.el := by simp [Program.elem, hu]
  have hu' : P.underlying t = some (.slice (P.elem t)) := by rw [hel]; exact hu
  have hsz : ∀ w', (sizeOf (P.elem t)).run P w' = .ok e.n w' := fun w' => by rw [hel]; simp [sizeOf, typeInfo, hj, hjs]
  rw [run_sliceAt_slice w' t _ lo hi none hu']
  rcases hlo with ⟨rfl, rfl⟩ | ⟨kl, rfl⟩ <;> rcases hhi with ⟨rfl, rfl⟩ | ⟨kh, rfl⟩
  · have := run_slice_all (P := P) w' t q n c hu'
    simp only [this, hsz, Result.andThen_ok]
    simp
  · have := run_slice_h (P := P) w' t q n c hu' kh h (by omega) (by omega)
    simp only [this, hsz, Result.andThen_ok]
    simp
  · have := run_slice_l (P := P) w' t q n c hu' kl l (by omega) (by omega)
    simp only [this, hsz, Result.andThen_ok]
    simp
  · have := run_slice_lh (P := P) w' t q n c hu' kl kh l h (by omega) (by omega) (by omega)
    simp only [this, hsz, Result.andThen_ok]
section
variable {Z : Nat → Prop} {w0 : World} {n : Nat} {L : SL} {H : List Item} {G : List Value} {w : World} {a : Act} {P : Program} {T : TT} {R : Type}
set_option maxHeartbeats 1000000 in
theorem qop_sound {rw : Bool} {o : Oper} {k : SV → Option R} {r : R} (hT : chkAll P T = true) (hr : SR Z w0 H G w) (hf : FR Z n L H G w a) (h : qop P T rw L H o k = some r) :
    ∃ s v, k s = some r ∧ Rel G (Av Z H G) w s v ∧ ∀ w', (isLoad o.op = true → Agr rw H G w w') → (execOp a.eval o).run P w' = .ok (.value v) w' := by
  have hflat : flatOp P L o k = some r → ∃ s v, k s = some r ∧ Rel G (Av Z H G) w s v ∧ ∀ w', (isLoad o.op = true → Agr rw H G w w') → (execOp a.eval o).run P w' = .ok (.value v) w' := fun h => by
    obtain ⟨s, v, h1, h2, h3⟩ := flatOp_sound hf h
    exact ⟨s, v, h1, rel_of1 h2, fun w' _ => h3 w'⟩
  obtain ⟨dst, op, type, pos, after, guard⟩ := o
  unfold qop at h
  dsimp only at h
  split at h
  case h_1 x =>
    split at h <;> try (cases h; done)
    rename_i s hs
    exact ⟨s, _, h, opS_rel hf hs, fun w' _ => rfl⟩
  case h_2 x =>
    split at h <;> try (cases h; done)
    rename_i s hs
    exact ⟨s, _, h, opS_rel hf hs, fun w' _ => rfl⟩
  case h_3 x =>
    split at h <;> try (cases h; done)
    · rename_i j off hs
      have hv := opS_rel hf hs
      refine ⟨_, _, h, hv, fun w' _ => ?_⟩
      obtain ⟨b, _, hv⟩ := hv
      simp [execOp, hv]
    · rename_i e y off hs
      have hv := opS_rel hf hs
      refine ⟨_, _, h, hv, fun w' _ => ?_⟩
      obtain ⟨b, o, cs, hv, _⟩ := hv
      simp [execOp, hv]
    · rename_i j sz i off hs
      have hv := opS_rel hf hs
      refine ⟨_, _, h, hv, fun w' _ => ?_⟩
      obtain ⟨b, _, _, _, hv⟩ := hv
      simp [execOp, hv]
  case h_4 c x y =>
    split at h <;> try (cases h; done)
    rename_i b hs
    have hb := rel_bool (opS_rel hf hs)
    split at h
    · split at h <;> try (cases h; done)
      rename_i s hs
      exact ⟨s, _, h, opS_rel hf hs, fun w' _ => by simp [execOp, hb, asBool]⟩
    · split at h <;> try (cases h; done)
      rename_i s hs
      exact ⟨s, _, h, opS_rel hf hs, fun w' _ => by simp [execOp, hb, asBool]⟩
  case h_5 t x =>
    have fin : ∀ {s : SV} (_ : k s = some r), (∃ v, Rel1 G (Av Z H G) w s v ∧ ∀ w', Agr rw H G w w' → (Instr.loadAt t (a.eval x)).run P w' = .ok v w') → ∃ s v, k s = some r ∧ Rel G (Av Z H G) w s v ∧ ∀ w', (isLoad (.load t x) = true → Agr rw H G w w') → (execOp a.eval ⟨dst, .load t x, type, pos, after, guard⟩).run P w' = .ok (.value v) w' := by
      rintro s hk ⟨v, h1, h2⟩
      exact ⟨s, v, hk, rel_of1 h1, fun w' ha => by simp [execOp, h2 w' (ha rfl)]⟩
    split at h <;> try (cases h; done)
    · rename_i j off i hs hi
      split at h <;> try (cases h; done)
      rename_i bt cells hj
      split at h <;> try (cases h; done)
      rename_i s hl
      exact fin h (load_box hr (chkAll_look hT hi) (opS_rel hf hs) hj hl)
    · rename_i e y off i hs hi
      split at h <;> try (cases h; done)
      rename_i z hz
      exact fin h (load_elt (chkAll_look hT hi) (opS_rel hf hs) hz)
    · rename_i j sz m off i hs hi
      split at h <;> try (cases h; done)
      rename_i et e xs hj
      split at h <;> try (cases h; done)
      rename_i y hsz hy
      split at h <;> try (cases h; done)
      rename_i z hz
      have := Nat.eq_of_beq_eq_true hsz
      subst this
      exact fin h (load_oelt hr (chkAll_look hT hi) (opS_rel hf hs) hj hy hz)
  case h_6 s x f =>
    split at h <;> try (cases h; done)
    · rename_i j off i hs hi
      split at h <;> try (cases h; done)
      rename_i p hp
      obtain ⟨b, hg, hv⟩ := opS_rel hf hs
      exact ⟨_, .pointer (some ⟨b, off + p.1, none⟩), h, ⟨b, hg, rfl⟩, fun w' _ => by simp [execOp, hv, run_fieldAt (chkAll_look hT hi) hp]⟩
    · rename_i e y off i hs hi
      split at h <;> try (cases h; done)
      rename_i p hp
      obtain ⟨b, o, cs, hv, h2⟩ := opS_rel hf hs
      exact ⟨_, .pointer (some ⟨b, o + (off + p.1), none⟩), h, ⟨b, o, cs, rfl, h2⟩, fun w' _ => by simp [execOp, hv, run_fieldAt (chkAll_look hT hi) hp, Nat.add_assoc]⟩
    · rename_i j sz m off i hs hi
      split at h <;> try (cases h; done)
      rename_i p hp
      obtain ⟨b, n1, c1, hg, hv⟩ := opS_rel hf hs
      exact ⟨_, .pointer (some ⟨b, m * sz + (off + p.1), none⟩), h, ⟨b, n1, c1, hg, rfl⟩, fun w' _ => by simp [execOp, hv, run_fieldAt (chkAll_look hT hi) hp, Nat.add_assoc]⟩
  case h_7 t x ix =>
    split at h <;> try (cases h; done)
    · rename_i e xs kd m i hs hm hi
      split at h <;> try (cases h; done)
      rename_i e' he
      split at h <;> try (cases h; done)
      rename_i hee _
      split at h <;> try (cases h; done)
      rename_i y hy
      have hee := hee.down
      subst hee
      obtain ⟨v, h1, h2⟩ := index_sl (kd := kd) (chkAll_look hT hi) he (opS_rel hf hs) hy
      exact ⟨_, v, h, rel_of1 h1, fun w' _ => by simp [execOp, rel_int (opS_rel hf hm), h2 w']⟩
    · rename_i j kd m i hs hm hi
      split at h <;> try (cases h; done)
      rename_i et e xs e' hj he
      split at h <;> try (cases h; done)
      rename_i hee _
      split at h <;> try (cases h; done)
      rename_i y hy
      have hee := hee.down
      subst hee
      obtain ⟨v, h1, h2⟩ := index_own (kd := kd) hr (chkAll_look hT hi) he hj (opS_rel hf hs) hy
      exact ⟨_, v, h, rel_of1 h1, fun w' _ => by simp [execOp, rel_int (opS_rel hf hm), h2 w']⟩
    · rename_i j off kd m i hs hm hi
      split at h <;> try (cases h; done)
      rename_i hst hb
      have hb := of_decide_eq_true hb
      obtain ⟨b, hg, hv⟩ := opS_rel hf hs
      have hck := chkAll_look hT hi
      refine ⟨_, .pointer (some ⟨b, off + m.toNat * i.el, none⟩), h, ⟨b, hg, rfl⟩, fun w' _ => ?_⟩
      have : ∃ ne ej, P.underlying t = some (.array i.len ne) ∧ P.info? ne = some ej ∧ ej.size = i.el := by
        obtain ⟨d, hu, hrow⟩ := chk_st hck
        have hck' := hck
        unfold chk at hck'
        rw [hu] at hck'
        cases hinf : P.info? t with
        | none => rw [hinf] at hck'; cases hck'
        | some inf =>
          rw [hinf] at hck'
          simp only [Bool.and_eq_true] at hck'
          have hck' := hck'.2
          rw [hst] at hrow
          match d, hck', hrow with
          | .struct fs, hck', _ =>
            simp only [Bool.and_eq_true] at hck'
            obtain ⟨_, hck'⟩ := hck'
            split at hck'
            · simp only [Bool.and_eq_true] at hck'
              have hz := Nat.eq_of_beq_eq_true hck'.2
              have h02 := hb.2
              rw [hz] at h02
              exact (Int.lt_irrefl 0 (Int.lt_of_le_of_lt hb.1 h02)).elim
            · cases hck'
          | .array m' e, hck', _ =>
            simp only [Bool.and_eq_true] at hck'
            obtain ⟨⟨⟨⟨_, h1⟩, _⟩, _⟩, h4⟩ := hck'
            split at h4
            · rename_i ej hej
              exact ⟨e, ej, by rw [← Nat.eq_of_beq_eq_true h1]; exact hu, hej, Nat.eq_of_beq_eq_true h4⟩
            · cases h4
      obtain ⟨ne, ej, h1, h2, h3⟩ := this
      simp [execOp, rel_int (opS_rel hf hm), hv, Instr.indexAt, asIntOf, run_underlying h1, sizeOf, typeInfo, h2, hb.1, hb.2, add_plain, Instr.sureAddr, h3]
    · rename_i j sz lo mm kd m i hs hm hi
      split at h <;> try (cases h; done)
      rename_i e' he
      split at h <;> try (cases h; done)
      rename_i hsz hb
      have hb := of_decide_eq_true hb
      have hsz := Nat.eq_of_beq_eq_true hsz
      subst hsz
      obtain ⟨g, q, c, hg, hv, h1, h2, h3⟩ := opS_rel hf hs
      have hmm : 0 < mm := Int.ofNat_lt.1 (Int.lt_of_le_of_lt hb.1 hb.2)
      obtain ⟨b, N, c', rfl, h4, rfl⟩ := h3 hmm
      refine ⟨_, .pointer (some ⟨b, (lo + m.toNat) * e'.n + 0, none⟩), h, ⟨b, N, c', hg, rfl⟩, fun w' _ => ?_⟩
      have := run_indexAt_sl (P := P) (kd := kd) (chkAll_look hT hi) he w' b (lo * e'.n) mm c m hb.1 hb.2
      simp [execOp, rel_int (opS_rel hf hm), hv, this, Nat.add_mul]
  case h_8 x m =>
    split at h <;> try (cases h; done)
    rename_i l hs
    split at h <;> try (cases h; done)
    rename_i s hl
    obtain ⟨vs, hv, hal⟩ := opS_rel hf hs
    obtain ⟨v, h1, h2⟩ := all2_getL hal m s hl
    exact ⟨s, v, h, rel_of1 h2, fun w' _ => by simp [execOp, hv, Instr.extract, h1]⟩
  case h_9 t parts =>
    split at h <;> try (cases h; done)
    rename_i i hi
    split at h <;> try (cases h; done)
    rename_i cs hzs hfl
    split at h <;> try (cases h; done)
    rename_i x hjn
    simp only [Bool.and_eq_true] at hzs
    obtain ⟨us', h1, h2⟩ := fillS_rel hr hf (us := (zc i.ty).toArray) hfl (by simpa using split_rel (zc_rd (t := i.ty)))
    obtain ⟨v1, v2, h3, h4, h5⟩ := join_rd hjn h2
    match v2, h5 with
    | [], _ =>
      rw [List.append_nil] at h3
      subst h3
      refine ⟨_, mkV i.ty us'.toList, h, ⟨_, h4, rfl⟩, fun w' _ => ?_⟩
      have hb : P.built t (parts.map fun p => (p.1, a.eval p.2)).toList = some us' := by
        rw [chk_built (chkAll_look hT hi) hzs.1 hzs.2, ← h1]
        simp
      have := run_build (P := P) w' t (parts.map fun p => (p.1, a.eval p.2)) us' hb
      simp [execOp, this, mkV, hzs.2]
  case h_10 f caps =>
    split at h <;> try (cases h; done)
    rename_i l hl
    split at h <;> try (cases h; done)
    rename_i js hj
    obtain ⟨bs, h1, h2⟩ := boxIds_rel hj (allS_rel hf hl)
    refine ⟨_, .func (.func f) #[] (bs.map fun b => .pointer (some ⟨b, 0, none⟩)).toArray, h, ⟨bs, h1, rfl⟩, fun w' _ => ?_⟩
    rw [← h2]
    obtain ⟨cl⟩ := caps
    simp [execOp, Instr.makeFunc]
  case h_11 x t =>
    split at h <;> try (cases h; done)
    · rename_i e xs i hs hi
      split at h <;> try (cases h; done)
      rename_i e' he
      obtain ⟨cs, hrd, hv⟩ := opS_rel hf hs
      obtain ⟨p, m, c, css, rfl, hlen, _⟩ := hrd
      have hv : a.eval x = .slice p m c := hv
      refine ⟨_, .int .i64 m, h, ⟨[_], rfl, by rw [hlen]; rfl⟩, fun w' _ => ?_⟩
      simp [execOp, resolve, invoke, builtin, hv, run_len_sl (chkAll_look hT hi) he]
    · rename_i i hs hi
      split at h <;> try (cases h; done)
      rename_i e' he
      have hv : a.eval x = .slice none 0 0 := opS_rel hf hs
      refine ⟨_, .int .i64 0, h, ⟨[_], rfl, rfl⟩, fun w' _ => ?_⟩
      simp [execOp, resolve, invoke, builtin, hv, run_len_sl (chkAll_look hT hi) he]
    · rename_i j i hs hi
      split at h <;> try (cases h; done)
      rename_i et e xs e' hj he
      have hv := opS_rel hf hs
      obtain ⟨css, ho, _⟩ := hr.items j _ _ hj hv
      refine ⟨_, .int .i64 xs.length, h, ⟨[_], rfl, rfl⟩, fun w' _ => ?_⟩
      rcases own_form' ho with ⟨h1, h2⟩ | ⟨b, c, h1⟩
      · simp [execOp, resolve, invoke, builtin, h1, h2, run_len_sl (chkAll_look hT hi) he]
      · simp [execOp, resolve, invoke, builtin, h1, run_len_sl (chkAll_look hT hi) he]
    · rename_i j sz lo n i hs hi
      split at h <;> try (cases h; done)
      rename_i e' he
      obtain ⟨g, q, c, hg, hv, _⟩ := opS_rel hf hs
      refine ⟨_, .int .i64 n, h, ⟨[_], rfl, rfl⟩, fun w' _ => ?_⟩
      simp [execOp, resolve, invoke, builtin, hv, run_len_sl (chkAll_look hT hi) he]
    · rename_i e0 xs i hs hi
      split at h <;> try (cases h; done)
      rename_i e' he
      obtain ⟨p, hrd, hv⟩ := opS_rel hf hs
      refine ⟨_, .int .i64 xs.length, h, ⟨[_], rfl, rfl⟩, fun w' _ => ?_⟩
      simp [execOp, resolve, invoke, builtin, hv, run_len_sl (chkAll_look hT hi) he]
  case h_12 t x lo hi =>
    split at h <;> try (cases h; done)
    · rename_i e xs i hs hti
      split at h <;> try (cases h; done)
      rename_i e' l hh he hl hhh
      split at h <;> try (cases h; done)
      rename_i hee _
      split at h <;> try (cases h; done)
      rename_i hb
      have hb := of_decide_eq_true hb
      have hee := hee.down
      subst hee
      obtain ⟨v, h1, h2⟩ := slice_sl (chkAll_look hT hti) he (opS_rel hf hs) (slB_rel hf hl) (slB_rel hf hhh) hb
      exact ⟨_, v, h, rel_of1 h1, fun w' _ => by simp [execOp, h2 w']⟩
    · rename_i j i hs hti
      split at h <;> try (cases h; done)
      rename_i et e xs e' hj he
      split at h <;> try (cases h; done)
      rename_i l hh hl hhh hsz
      split at h <;> try (cases h; done)
      rename_i hb
      have hb := of_decide_eq_true hb
      have hsz := Nat.eq_of_beq_eq_true hsz
      have hx := opS_rel hf hs
      obtain ⟨css, ho, _⟩ := hr.items j _ _ hj hx
      have hform : ∃ q c, a.eval x = .slice q xs.length c ∧ xs.length ≤ c ∧ c ≤ maxLen ∧ (0 < xs.length → ∃ b, q = some ⟨b, 0, none⟩) := by
        rcases ho.2 with ⟨e1, e2⟩ | ⟨g, cap, cur, e1, _, _, e4, e5, _⟩
        · exact ⟨none, 0, by rw [e1, e2], by omega, by unfold maxLen; omega, fun h0 => by omega⟩
        · exact ⟨_, cap, e1, e4, e5, fun _ => ⟨g, rfl⟩⟩
      obtain ⟨q, c, hv, hc1, hc2, hq⟩ := hform
      refine ⟨_, sliced q l.toNat hh.toNat c e.n, h, ⟨_, _, _, hx, rfl, by omega, by omega, fun h0 => ?_⟩, fun w' _ => ?_⟩
      · obtain ⟨b, rfl⟩ := hq (by omega)
        refine ⟨b, xs.length, c, hv, by omega, ?_⟩
        rw [if_neg (by omega)]
        simp [add_plain]
      · have := run_win (P := P) (chkAll_look hT hti) he w' q xs.length c (slB_rel hf hl) (slB_rel hf hhh) hb hc1
        rw [← hsz] at this
        simp [execOp, hv, this]
    · rename_i j sz b0 n i hs hti
      split at h <;> try (cases h; done)
      rename_i e' he
      split at h <;> try (cases h; done)
      rename_i l hh hl hhh hsz
      split at h <;> try (cases h; done)
      rename_i hb
      have hb := of_decide_eq_true hb
      have hsz := Nat.eq_of_beq_eq_true hsz
      subst hsz
      obtain ⟨g, q, c, hg, hv, hc1, hc2, h3⟩ := opS_rel hf hs
      obtain ⟨b1, b2, b3⟩ := hb
      have z1 : hh.toNat - l.toNat ≤ c - l.toNat := by clear h3; omega
      have z2 : c - l.toNat ≤ maxLen := by clear h3; omega
      have z3 : 0 < hh.toNat - l.toNat → 0 < n ∧ l.toNat + (hh.toNat - l.toNat) ≤ n ∧ c ≠ l.toNat := by clear h3; omega
      refine ⟨_, sliced q l.toNat hh.toNat c e'.n, h, ⟨g, _, _, hg, rfl, z1, z2, fun h0 => ?_⟩, fun w' _ => ?_⟩
      · obtain ⟨y1, y2, y3⟩ := z3 h0
        obtain ⟨b, N, c', rfl, h4, rfl⟩ := h3 y1
        refine ⟨b, N, c', rfl, by clear h3; omega, ?_⟩
        rw [if_neg y3]
        simp [add_plain, Nat.add_mul]
      · have := run_win (P := P) (chkAll_look hT hti) he w' q n c (slB_rel hf hl) (slB_rel hf hhh) ⟨b1, b2, b3⟩ hc1
        simp [execOp, hv, this]
  case h_13 x y _ =>
    split at h <;> try (cases h; done)
    rename_i kd p kd' q hp hq
    split at h <;> try (cases h; done)
    rename_i hee _
    have hee := hee.down
    injection hee with hee
    subst hee
    refine ⟨_, .int kd (if q > p then q else p), h, ⟨[_], rfl, rfl⟩, fun w' _ => ?_⟩
    simp [execOp, resolve, invoke, builtin, rel_int (opS_rel hf hp), rel_int (opS_rel hf hq), Builtin.max_, Builtin.max2]
  case h_14 x y _ =>
    split at h <;> try (cases h; done)
    rename_i kd p kd' q hp hq
    split at h <;> try (cases h; done)
    rename_i hee _
    have hee := hee.down
    injection hee with hee
    subst hee
    refine ⟨_, .int kd (if q < p then q else p), h, ⟨[_], rfl, rfl⟩, fun w' _ => ?_⟩
    simp [execOp, resolve, invoke, builtin, rel_int (opS_rel hf hp), rel_int (opS_rel hf hq), Builtin.min_, Builtin.min2]
  case h_15 op t x y ty =>
    split at h
    · exact hflat h
    · rename_i b hb
      have ev : ∀ (A : Option Addr) (l c : Nat) (e : TypeId), a.eval x = .slice A l c → P.underlying t = some (.slice e) → ∀ w', (execOp a.eval ⟨dst, .binOp op t x y ty, type, pos, after, guard⟩).run P w' = .ok (.value (.bool (if A.isNone then b else !b))) w' := by
        intro A l c e hx hu w'
        unfold nilOf at hb
        split at hb <;> try (cases hb; done)
        · injection hb with hb
          subst hb
          unfold execOp
          simp only [hx, Sem.run_bind]
          rw [show a.eval (.const (.slice none 0 0)) = .slice none 0 0 from rfl]
          simp only [eqGuard_at_slice, Sem.run_pure, Result.andThen_ok, run_eql_slice_nil w' t e A l c hu]
          cases A <;> rfl
        · injection hb with hb
          subst hb
          unfold execOp
          simp only [hx, Sem.run_bind]
          rw [show a.eval (.const (.slice none 0 0)) = .slice none 0 0 from rfl]
          simp only [eqGuard_at_slice, Sem.run_pure, Result.andThen_ok, run_neq_slice_nil w' t e A l c hu]
          cases A <;> rfl
      have nk : ∀ {α : Type} {xs : List α} {A : Option Addr} {l c : Nat} {e : TypeId}, nilK xs b k = some r → a.eval x = .slice A l c → (xs ≠ [] → A.isNone = false) → P.underlying t = some (.slice e) →
          ∃ s v, k s = some r ∧ Rel G (Av Z H G) w s v ∧ ∀ w', (isLoad (.binOp op t x y ty) = true → Agr rw H G w w') → (execOp a.eval ⟨dst, .binOp op t x y ty, type, pos, after, guard⟩).run P w' = .ok (.value v) w' := by
        intro α xs A l c e hk hx hne hu
        have hev := ev A l c e hx hu
        unfold nilK at hk
        split at hk
        · obtain ⟨k1, k2⟩ := both_some hk
          cases hA : A.isNone with
          | true => exact ⟨_, .bool b, k1, ⟨[_], rfl, rfl⟩, fun w' _ => by rw [hev w', hA]; rfl⟩
          | false => exact ⟨_, .bool (!b), k2, ⟨[_], rfl, rfl⟩, fun w' _ => by rw [hev w', hA]; rfl⟩
        · have hA := hne (by simp)
          exact ⟨_, .bool (!b), hk, ⟨[_], rfl, rfl⟩, fun w' _ => by rw [hev w', hA]; rfl⟩
      split at h <;> try (cases h; done)
      · rename_i e xs i hs hi
        split at h <;> try (cases h; done)
        rename_i e' he
        obtain ⟨hu, _⟩ := chk_slice (chkAll_look hT hi) he
        obtain ⟨cs, hrd, hv⟩ := opS_rel hf hs
        obtain ⟨p, n, c, css, rfl, h1, h2, h3, h4, h5⟩ := hrd
        refine nk h hv (fun hne => ?_) hu
        have : 0 < n := by
          rw [← h1]
          cases xs with
          | nil => exact absurd rfl hne
          | cons => simp
        obtain ⟨b, off, rfl, _⟩ := h5 this
        rfl
      · rename_i i hs hi
        split at h <;> try (cases h; done)
        rename_i e' he
        obtain ⟨hu, _⟩ := chk_slice (chkAll_look hT hi) he
        have hv : a.eval x = .slice none 0 0 := opS_rel hf hs
        exact ⟨_, .bool b, h, ⟨[_], rfl, rfl⟩, fun w' _ => by rw [ev none 0 0 _ hv hu w']; rfl⟩
      · rename_i j i hs hi
        split at h <;> try (cases h; done)
        rename_i et e xs e' hj he
        obtain ⟨hu, _⟩ := chk_slice (chkAll_look hT hi) he
        obtain ⟨css, ho, ha2, hn0⟩ := hr.items j _ _ hj (opS_rel hf hs)
        rcases ho.2 with ⟨e1, e2⟩ | ⟨g, cap, cur, e1, _⟩
        · refine nk h e1 (fun hne => ?_) hu
          exact absurd (List.eq_nil_of_length_eq_zero e2) hne
        · exact nk h e1 (fun _ => rfl) hu
  case h_16 => exact hflat h
  case h_17 => exact hflat h
  case h_18 => exact hflat h
  case h_19 t x lo hi mx =>
    split at h <;> try (cases h; done)
    rename_i e xs i hs hti
    split at h <;> try (cases h; done)
    rename_i e' l hh m he hl hhh hm
    split at h <;> try (cases h; done)
    rename_i hq hee _
    split at h <;> try (cases h; done)
    rename_i hb
    have hb := of_decide_eq_true hb
    have hee := hee.down
    subst hee
    have h2 := (slB_rel hf hhh).resolve_left (by simp)
    have h3 := (slB_rel hf hm).resolve_left (by simp)
    obtain ⟨v, h1, h1c, h2⟩ := slice3_sl (chkAll_look hT hti) he (opS_rel hf hs) (slB_rel hf hl) h2 h3 hb
    split at h
    · rename_i _ hm
      exact ⟨_, v, h, h1c (of_decide_eq_true hm), fun w' _ => by simp only [execOp, Option.map_some, Sem.run_bind]; have := h2 w'; simp only [Option.map_some] at this; simp [this]⟩
    exact ⟨_, v, h, rel_of1 h1, fun w' _ => by simp only [execOp, Option.map_some, Sem.run_bind]; have := h2 w'; simp only [Option.map_some] at this; simp [this]⟩
  case h_20 x y z u _ =>
    split at h <;> try (cases h; done)
    rename_i p q p' q' hp hq hp' hq'
    refine ⟨_, .int .i64 (max4 p q p' q'), h, ⟨[_], rfl, rfl⟩, fun w' _ => ?_⟩
    simp [execOp, resolve, invoke, builtin, rel_int (opS_rel hf hp), rel_int (opS_rel hf hq), rel_int (opS_rel hf hp'), rel_int (opS_rel hf hq'), Builtin.max_, Builtin.max2, max4]
  case h_21 => cases h
end
end Go.Proofs.YtcaiedfkohigjaaGreat
