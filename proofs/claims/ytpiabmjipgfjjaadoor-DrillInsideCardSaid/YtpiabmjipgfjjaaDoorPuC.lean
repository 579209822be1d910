/- The pure machine: its operations. -/
import Derived.Test.YtpiabmjipgfjjaaDoorPuB
namespace Go.Proofs.YtpiabmjipgfjjaaDoor
open Go.RowKit

def Ty.eq? : (a b : Ty) → Option (PLift (a = b))
  | .int k, .int k' => if h : k = k' then some ⟨by rw [h]⟩ else none
  | .bool, .bool => some ⟨rfl⟩
  | .str, .str => some ⟨rfl⟩
  | .sl e, .sl e' => match Ty.eq? e e' with
    | some ⟨h⟩ => some ⟨by rw [h]⟩
    | none => none
  | .pair a b, .pair a' b' => match Ty.eq? a a', Ty.eq? b b' with
    | some ⟨h⟩, some ⟨h'⟩ => some ⟨by rw [h, h']⟩
    | _, _ => none
  | .st a, .st a' => match Ty.eq? a a' with
    | some ⟨h⟩ => some ⟨by rw [h]⟩
    | none => none
  | _, _ => none
def castD (a b : Ty) (x : a.D) : Option b.D := match Ty.eq? a b with
  | some ⟨h⟩ => some (h ▸ x)
  | none => none

def Ty.zero : (t : Ty) → t.D
  | .int _ => (0 : Int)
  | .bool => false
  | .str => ⟨#[]⟩
  | .sl _ => []
  | .pair a b => (a.zero, b.zero)
  | .st a => a.zero
def Ty.flat : Ty → Bool
  | .sl _ => false
  | .pair a b => a.flat && b.flat
  | .st a => a.flat
  | _ => true
def Ty.cells : (t : Ty) → t.D → List Value
  | .int k, x => [.int k x]
  | .bool, x => [.bool x]
  | .str, x => [.string x]
  | .pair a b, x => a.cells x.1 ++ b.cells x.2
  | .st a, x => a.cells x
  | .sl _, _ => []
def Ty.split : (t : Ty) → t.D → List SV
  | .pair a b, x => a.split x.1 ++ b.split x.2
  | .st a, x => a.split x
  | .int k, x => [.d (.int k) x]
  | .bool, x => [.d .bool x]
  | .str, x => [.d .str x]
  | .sl e, x => [.d (.sl e) x]
def leaf? (t : Ty) : List SV → Option (t.D × List SV)
  | .d t' x :: r => match castD t' t x with
    | some y => some (y, r)
    | none => none
  | _ => none
def Ty.join : (t : Ty) → List SV → Option (t.D × List SV)
  | .pair a b, l => match a.join l with
    | some (x, r) => match b.join r with
      | some (y, r') => some ((x, y), r')
      | none => none
    | none => none
  | .st a, l => a.join l
  | .sl e, l => match l with
    | .nil :: r => some ([], r)
    | l => leaf? (.sl e) l
  | .int k, l => leaf? (.int k) l
  | .bool, l => leaf? .bool l
  | .str, l => leaf? .str l
/-- The part of a datum that begins at cell off, of type t. -/
def Ty.sub : (e : Ty) → e.D → Nat → (t : Ty) → Option t.D
  | .pair a b, x, off, t => match Nat.ble (off + 1) a.n with
    | true => a.sub x.1 off t
    | false => b.sub x.2 (off - a.n) t
  | .st a, x, off, t => match Nat.beq off 0, castD (.st a) t x with
    | true, some y => some y
    | _, _ => a.sub x off t
  | .int k, x, off, t => match Nat.beq off 0 with
    | true => castD (.int k) t x
    | false => none
  | .bool, x, off, t => match Nat.beq off 0 with
    | true => castD .bool t x
    | false => none
  | .str, x, off, t => match Nat.beq off 0 with
    | true => castD .str t x
    | false => none
  | .sl e, x, off, t => match Nat.beq off 0 with
    | true => castD (.sl e) t x
    | false => none
/-- .. replaced. -/
def Ty.upd : (e : Ty) → e.D → Nat → (t : Ty) → t.D → Option e.D
  | .pair a b, x, off, t, y => match Nat.ble (off + 1) a.n with
    | true => match a.upd x.1 off t y with
      | some z => some (z, x.2)
      | none => none
    | false => match b.upd x.2 (off - a.n) t y with
      | some z => some (x.1, z)
      | none => none
  | .st a, x, off, t, y => match Nat.beq off 0, castD t (.st a) y with
    | true, some z => some z
    | _, _ => a.upd x off t y
  | .int k, _, off, t, y => match Nat.beq off 0 with
    | true => castD t (.int k) y
    | false => none
  | .bool, _, off, t, y => match Nat.beq off 0 with
    | true => castD t .bool y
    | false => none
  | .str, _, off, t, y => match Nat.beq off 0 with
    | true => castD t .str y
    | false => none
  | .sl e, _, off, t, y => match Nat.beq off 0 with
    | true => castD t (.sl e) y
    | false => none

structure TI where
  ty : Ty
  pl : List (Nat × Nat) := []
  el : Nat := 0
  len : Nat := 0
  byt : Nat := 0
  z : Bool := true
abbrev TT := List (Nat × TI)
def lookT : TT → Nat → Option TI
  | [], _ => none
  | (k, x) :: r, t => match Nat.beq k t with
    | true => some x
    | false => lookT r t

/-- A flat datum's value. -/
def val? : SV → Option Value
  | .d t x => match t.flat with
    | true => some (mkV t (t.cells x))
    | false => none
  | _ => none
def unval : Value → Option SV
  | .int k n => some (.d (.int k) n)
  | .bool b => some (.d .bool b)
  | .string s => some (.d .str s)
  | _ => none
/-- A constant struct of numbers and bools. -/
def constL : List Value → Option ((t : Ty) × t.D)
  | [v] => match unval v with
    | some (.d t x) => some ⟨t, x⟩
    | _ => none
  | v :: l => match unval v, constL l with
    | some (.d t x), some ⟨u, y⟩ => some ⟨.pair t u, (x, y)⟩
    | _, _ => none
  | [] => none
def constS : Value → Option SV
  | .slice none 0 0 => some .nil
  | .agg cs => match constL cs.toList with
    | some ⟨t, x⟩ => some (.d (.st t) x)
    | none => none
  | v => unval v
def opS (L : SL) : Operand → Option SV
  | .tmp t => lookS L t
  | .const v => constS v
  | .func f => some (.clo f [])
  | .global _ => none
def opV (L : SL) (x : Operand) : Value := match opS L x with
  | some s => (val? s).getD undef
  | none => undef
def flatOps (L : SL) (o : Op) : Bool := o.operands.toList.all (fun x => match opS L x with | some s => (val? s).isSome | none => false) && (match o with | .select _ _ => false | _ => true)

def SV.good : SV → Bool
  | .dead => false
  | .undef => false
  | .tup _ => false
  | _ => true
def loadB (ty : Ty) (cells : List SV) : Option SV := match ty.isSt with
  | true => match ty.join cells with
    | some (x, _) => some (.d ty x)
    | none => none
  | false => match cells with
    | s :: _ => match s.good with
      | true => some s
      | false => none
    | [] => none
def splitS (H : List Item) : SV → Option (List SV)
  | .d (.pair _ _) _ => none
  | .d t x => some (t.split x)
  | .own j => match H[j]? with
    | some (.row _ _ _) => some [.own j]
    | _ => none
  | s => match s.good with
    | true => some [s]
    | false => none
def getI {α : Type} (xs : List α) (i : Int) : Option α := match decide (0 ≤ i) with
  | true => xs[i.toNat]?
  | false => none
def boxIds : List SV → Option (List Nat)
  | [] => some []
  | .box j 0 :: r => match boxIds r with
    | some l => some (j :: l)
    | none => none
  | _ => none
def allS (L : SL) : List Operand → Option (List SV)
  | [] => some []
  | x :: r => match opS L x, allS L r with
    | some s, some l => some (s :: l)
    | _, _ => none
/-- Cells with others written over them from off on. -/
def over (cs : List SV) : Nat → List SV → List SV
  | _, [] => cs
  | off, s :: r => over (cs.set off s) (off + 1) r
/-- The parts of a struct or array. -/
def fillS (H : List Item) (L : SL) (place : Nat → Option (Nat × Nat)) (cs : List SV) : List (Nat × Operand) → Option (List SV)
  | [] => some cs
  | (i, x) :: r => match place i, opS L x with
    | some (off, size), some s => match splitS H s with
      | some l => match Nat.beq l.length size && Nat.ble (off + l.length) cs.length with
        | true => fillS H L place (over cs off l) r
        | false => none
      | none => none
    | _, _ => none
def placeOf (i : TI) (es : Nat) : Nat → Option (Nat × Nat) := match Nat.beq i.len 0 with
  | true => fun k => i.pl[k]?
  | false => fun k => some (k * es, es)

section
variable {R : Type}
/-- Operations on numbers and bools. -/
def flatOp (P : Program) (L : SL) (o : Oper) (k : SV → Option R) : Option R :=
  match flatOps L o.op with
  | false => none
  | true => match o.op with
    | .binOp .quo _ x y _ => match opV L x, opV L y with
      | .int .i64 a, .int .i64 b => match decide (b = 0) with | true => none | false => k (.d (.int .i64) (IntKind.i64.wrap (a.tdiv b)))
      | .int .u64 a, .int .u64 b => match decide (b = 0) with | true => none | false => k (.d (.int .u64) (IntKind.u64.wrap (a.tdiv b)))
      | .int .u32 a, .int .u32 b => match decide (b = 0) with | true => none | false => k (.d (.int .u32) (IntKind.u32.wrap (a.tdiv b)))
      | _, _ => none
    | .binOp .rem _ x y _ => match opV L x, opV L y with
      | .int .i64 a, .int .i64 b => match decide (b = 0) with | true => none | false => k (.d (.int .i64) (a.tmod b))
      | .int .u64 a, .int .u64 b => match decide (b = 0) with | true => none | false => k (.d (.int .u64) (a.tmod b))
      | .int .u32 a, .int .u32 b => match decide (b = 0) with | true => none | false => k (.d (.int .u32) (a.tmod b))
      | _, _ => none
    | .binOp .shl _ x y _ => match opV L x, opV L y with
      | .int kd a, .int _ b => match decide (b < 0) with | true => none | false => k (.d (.int kd) (kd.wrap (a * 2 ^ min b.toNat kd.bits)))
      | _, _ => none
    | .binOp .shr _ x y _ => match opV L x, opV L y with
      | .int kd a, .int _ b => match decide (b < 0) with | true => none | false => k (.d (.int kd) (a.fdiv (2 ^ min b.toNat kd.bits)))
      | _, _ => none
    | .binOp .eql t x y _ => match opV L x, opV L y with
      | .agg xs, .agg ys => match P.eqGuardType P.depth t, eqV P 10000 t (.agg xs) (.agg ys) with
        | false, some r => k (.d .bool r)
        | _, _ => none
      | _, _ => match evT P (execOp (opV L) o) [] with
        | some (.value v, []) => match unval v with | some s => k s | none => none
        | _ => none
    | .binOp .neq t x y _ => match opV L x, opV L y with
      | .agg xs, .agg ys => match P.eqGuardType P.depth t, eqV P 10000 t (.agg xs) (.agg ys) with
        | false, some r => k (.d .bool (!r))
        | _, _ => none
      | _, _ => match evT P (execOp (opV L) o) [] with
        | some (.value v, []) => match unval v with | some s => k s | none => none
        | _ => none
    | _ => match evT P (execOp (opV L) o) [] with
      | some (.value v, []) => match unval v with | some s => k s | none => none
      | _ => none

def slB (L : SL) (d : Int) : Option Operand → Option Int
  | none => some d
  | some x => match opS L x with
    | some (.d (.int _) i) => some i
    | _ => none

/-- Two ways that must give the same. -/
noncomputable def both {R : Type} (x y : Option R) : Option R := open Classical in if x = y then x else none
theorem both_self {R : Type} (x : Option R) : both x x = x := by unfold both; rw [if_pos rfl]
theorem both_some {R : Type} {x y : Option R} {r : R} (h : both x y = some r) : x = some r ∧ y = some r := by
  unfold both at h
  split at h
  · rename_i e; exact ⟨h, by rw [← e]; exact h⟩
  · cases h
def max4 (a b c d : Int) : Int := if d > (if c > (if b > a then b else a) then c else (if b > a then b else a)) then d else (if c > (if b > a then b else a) then c else (if b > a then b else a))
/-- A comparison with nil: what it is if the row is nil. -/
def nilOf (op : BinOp) (y : Operand) : Option Bool := match op, y with
  | .eql, .const (.slice none 0 0) => some true
  | .neq, .const (.slice none 0 0) => some false
  | _, _ => none
/-- A row that may be nil only if it is empty. -/
noncomputable def nilK {α R : Type} (xs : List α) (b : Bool) (k : SV → Option R) : Option R := match xs with
  | [] => both (k (SB b)) (k (SB (!b)))
  | _ :: _ => k (SB (!b))
def isConst : Operand → Bool
  | .const _ => true
  | _ => false
/-- Operations that change nothing. -/
noncomputable def qop (P : Program) (T : TT) (rw : Bool) (L : SL) (H : List Item) (o : Oper) (k : SV → Option R) : Option R :=
  match o.op with
  | .move x => match opS L x with | some s => k s | none => none
  | .assign x => match opS L x with | some s => k s | none => none
  | .nilCheck x => match opS L x with
    | some (.box j off) => k (.box j off)
    | some (.elt e x off) => k (.elt e x off)
    | some (.oelt j sz i off) => k (.oelt j sz i off)
    | _ => none
  | .pick c x y => match opS L c with
    | some (.d .bool b) => match b with
      | true => match opS L x with | some s => k s | none => none
      | false => match opS L y with | some s => k s | none => none
    | _ => none
  | .load t x => match opS L x, lookT T t with
    | some (.box j off), some i => match H[j]? with
      | some (.box _ cells) => match loadB i.ty (cells.drop off) with | some s => k s | none => none
      | _ => none
    | some (.elt e x off), some i => match e.sub x off i.ty with | some y => k (.d i.ty y) | none => none
    | some (.oelt j sz n off), some i => match rw, H[j]? with
      | true, some (.row _ e xs) => match Nat.beq sz e.n, xs[n]? with
        | true, some x => match e.sub x off i.ty with | some y => k (.d i.ty y) | none => none
        | _, _ => none
      | _, _ => none
    | _, _ => none
  | .fieldAddr s x f => match opS L x, lookT T s with
    | some (.box j off), some i => match i.pl[f]? with | some p => k (.box j (off + p.1)) | none => none
    | some (.elt e x off), some i => match i.pl[f]? with | some p => k (.elt e x (off + p.1)) | none => none
    | some (.oelt j sz n off), some i => match i.pl[f]? with | some p => k (.oelt j sz n (off + p.1)) | none => none
    | _, _ => none
  | .indexAddr t x ix => match opS L x, opS L ix, lookT T t with
    | some (.d (.sl e) xs), some (.d (.int _) n), some i => match i.ty with
      | .sl e' => match Ty.eq? e e' with
        | some _ => match getI xs n with | some y => k (.elt e y 0) | none => none
        | none => none
      | _ => none
    | some (.own j), some (.d (.int _) n), some i => match H[j]?, i.ty with
      | some (.row _ e xs), .sl e' => match Ty.eq? e e' with
        | some _ => match getI xs n with | some _ => k (.oelt j e.n n.toNat 0) | none => none
        | none => none
      | _, _ => none
    | some (.box j off), some (.d (.int _) n), some i => match i.ty.isSt, decide (0 ≤ n ∧ n < (i.len : Int)) with
      | true, true => k (.box j (off + n.toNat * i.el))
      | _, _ => none
    | some (.osl j sz lo m), some (.d (.int _) n), some i => match i.ty with
      | .sl e' => match Nat.beq sz e'.n, decide (0 ≤ n ∧ n < (m : Int)) with
        | true, true => k (.oelt j sz (lo + n.toNat) 0)
        | _, _ => none
      | _ => none
    | _, _, _ => none
  | .extract x n => match opS L x with
    | some (.tup l) => match l[n]? with | some s => k s | none => none
    | _ => none
  | .build t parts => match lookT T t with
    | some i => match i.z && i.ty.isSt, fillS H L (placeOf i i.el) (i.ty.split i.ty.zero) parts.toList with
      | true, some cs => match i.ty.join cs with
        | some (x, []) => k (.d i.ty x)
        | _ => none
      | _, _ => none
    | none => none
  | .makeFunc (.func f) ⟨[]⟩ caps => match allS L caps.toList with
    | some l => match boxIds l with | some js => k (.clo f js) | none => none
    | none => none
  | .call ⟨.builtin .len, ⟨[x]⟩, ⟨[t]⟩⟩ => match opS L x, lookT T t with
    | some (.d (.sl _) xs), some i => match i.ty with | .sl _ => k (SI xs.length) | _ => none
    | some .nil, some i => match i.ty with | .sl _ => k (SI 0) | _ => none
    | some (.own j), some i => match H[j]?, i.ty with
      | some (.row _ _ xs), .sl _ => k (SI xs.length)
      | _, _ => none
    | some (.osl _ _ _ n), some i => match i.ty with | .sl _ => k (SI n) | _ => none
    | some (.cut _ xs), some i => match i.ty with | .sl _ => k (SI xs.length) | _ => none
    | _, _ => none
  | .slice t x lo hi none => match opS L x, lookT T t with
    | some (.d (.sl e) xs), some i => match i.ty, slB L 0 lo, slB L xs.length hi with
      | .sl e', some l, some h => match Ty.eq? e e' with
        | some _ => match decide (0 ≤ l ∧ l ≤ h ∧ h ≤ xs.length) with
          | true => k (.d (.sl e) ((xs.take h.toNat).drop l.toNat))
          | false => none
        | none => none
      | _, _, _ => none
    | some (.own j), some i => match H[j]?, i.ty with
      | some (.row _ e xs), .sl e' => match slB L 0 lo, slB L xs.length hi, Nat.beq e.n e'.n with
        | some l, some h, true => match decide (0 ≤ l ∧ l ≤ h ∧ h ≤ xs.length) with
          | true => k (.osl j e.n l.toNat (h.toNat - l.toNat))
          | false => none
        | _, _, _ => none
      | _, _ => none
    | some (.osl j sz b n), some i => match i.ty with
      | .sl e' => match slB L 0 lo, slB L n hi, Nat.beq sz e'.n with
        | some l, some h, true => match decide (0 ≤ l ∧ l ≤ h ∧ h ≤ (n : Int)) with
          | true => k (.osl j sz (b + l.toNat) (h.toNat - l.toNat))
          | false => none
        | _, _, _ => none
      | _ => none
    | _, _ => none
  | .call ⟨.builtin .max, ⟨[x, y]⟩, _⟩ => match opS L x, opS L y with
    | some (.d (.int kd) a), some (.d (.int kd') b) => match Ty.eq? (.int kd) (.int kd') with
      | some _ => k (.d (.int kd) (if b > a then b else a))
      | none => none
    | _, _ => none
  | .call ⟨.builtin .min, ⟨[x, y]⟩, _⟩ => match opS L x, opS L y with
    | some (.d (.int kd) a), some (.d (.int kd') b) => match Ty.eq? (.int kd) (.int kd') with
      | some _ => k (.d (.int kd) (if b < a then b else a))
      | none => none
    | _, _ => none
  | .binOp op t x y _ => match nilOf op y with
    | none => flatOp P L o k
    | some b => match opS L x, lookT T t with
      | some (.d (.sl _) xs), some i => match i.ty with | .sl _ => nilK xs b k | _ => none
      | some .nil, some i => match i.ty with | .sl _ => k (SB b) | _ => none
      | some (.own j), some i => match H[j]?, i.ty with
        | some (.row _ _ xs), .sl _ => nilK xs b k
        | _, _ => none
      | _, _ => none
  | .unOp .. => flatOp P L o k
  | .convert .. => flatOp P L o k
  | .slice t x lo hi (some mx) => match opS L x, lookT T t with
    | some (.d (.sl e) xs), some i => match i.ty, slB L 0 lo, slB L xs.length hi, slB L 0 (some mx) with
      | .sl e', some l, some h, some m => match hi, Ty.eq? e e' with
        | some _, some _ => match decide (0 ≤ l ∧ l ≤ h ∧ h ≤ m ∧ m ≤ xs.length) with
          | true => match isConst mx, decide (h = m) with
            | true, true => k (.cut e ((xs.take h.toNat).drop l.toNat))
            | _, _ => k (.d (.sl e) ((xs.take h.toNat).drop l.toNat))
          | false => none
        | _, _ => none
      | _, _, _, _ => none
    | _, _ => none
  | .call ⟨.builtin .max, ⟨[x, y, z, u]⟩, _⟩ => match opS L x, opS L y, opS L z, opS L u with
    | some (.d (.int .i64) a), some (.d (.int .i64) b), some (.d (.int .i64) c), some (.d (.int .i64) d) => k (SI (max4 a b c d))
    | _, _, _, _ => none
  | _ => none
end
end Go.Proofs.YtpiabmjipgfjjaaDoor
