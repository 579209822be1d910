/- Operations that change the state. -/
import Derived.Test.YtpiabmjipgfjjaaDoorPuInv
namespace Go.Proofs.YtpiabmjipgfjjaaDoor
open Go.RowKit

inductive RV where
  | d (t : Ty) (x : t.D)
  | new (et : TypeId) (e : Ty) (xs : List e.D)
/-- A function that turns a row of numbers in place; `ret`: it gives the row back, perhaps shorter. -/
structure MutG where
  ret : Bool
  g : List Int → List Int
/-- What is known of a function: from arguments to results. -/
structure Spec where
  keep : Bool
  run : (R : Type) → List SV → (List RV → Option R) → Option R
  mut_ : Option MutG := none
abbrev Env := List (Nat × Spec)
def lookE : Env → Nat → Option Spec
  | [], _ => none
  | (k, x) :: r, t => match Nat.beq k t with
    | true => some x
    | false => lookE r t

def mutOf (E : Env) (f : Nat) : Option MutG := match lookE E f with
  | some sp => sp.mut_
  | none => none
def Ty.zsplit : Ty → List SV
  | .pair a b => a.zsplit ++ b.zsplit
  | .st a => a.zsplit
  | .int k => [.d (.int k) (0 : Int)]
  | .bool => [.d .bool false]
  | .str => [.d .str ⟨#[]⟩]
  | .sl _ => [.nil]
def joinN (e : Ty) : Nat → List SV → Option (List e.D)
  | 0, [] => some []
  | 0, _ => none
  | n + 1, l => match e.join l with
    | some (x, r) => match joinN e n r with
      | some xs => some (x :: xs)
      | none => none
    | none => none
def repL {α : Type} (l : List α) : Nat → List α
  | 0 => []
  | n + 1 => l ++ repL l n
def giveUp (fl : Nat) (j : Nat) (L : SL) (H : List Item) : Option (SL × List Item) := match Nat.ble fl j, H[j]? with
  | true, some (.row _ e xs) => some (mapL (fz j e xs) L, (H.map (mapI (fz j e xs))).set j .gone)
  | _, _ => none
def fzAll (fl : Nat) : List Operand → SL → List Item → Option (SL × List Item)
  | [], L, H => some (L, H)
  | x :: r, L, H => match opS L x with
    | some (.own j) => match giveUp fl j L H with
      | some (L', H') => fzAll fl r L' H'
      | none => none
    | some (.osl j _ _ _) => match giveUp fl j L H with
      | some (L', H') => fzAll fl r L' H'
      | none => none
    | _ => fzAll fl r L H
def sameOp : Operand → Operand → Bool
  | .tmp a, .tmp b => Nat.beq a b
  | _, _ => false
/-- Arguments as data. -/
def argS (T : TT) (H : List Item) : List SV → List Nat → Option (List SV)
  | [], [] => some []
  | s :: l, t :: ts => match argS T H l ts with
    | some r => match s with
      | .d t x => some (.d t x :: r)
      | .nil => match lookT T t with
        | some i => match i.ty with
          | .sl e => some (.d (.sl e) [] :: r)
          | _ => none
        | none => none
      | .own j => match H[j]? with
        | some (.row _ e xs) => some (.d (.sl e) xs :: r)
        | _ => none
      | .cut e xs => some (.d (.sl e) xs :: r)
      | .osl j sz lo n => match H[j]? with
        | some (.row _ e xs) => match Nat.beq sz e.n with
          | true => some (.d (.sl e) ((xs.drop lo).take n) :: r)
          | false => none
        | _ => none
      | _ => none
    | none => none
  | _, _ => none
def SV.noOwn : SV → Bool
  | .own _ => false
  | .osl _ _ _ _ => false
  | _ => true
def RV.flat : RV → Bool
  | .d t _ => t.flat
  | .new _ _ _ => false
def okKeep (rs : List RV) : Bool := match rs with
  | [.new _ e _] => e.flat
  | rs => rs.all RV.flat
def rvS : List RV → Option (List SV)
  | [] => some []
  | .d t x :: r => match rvS r with
    | some l => some (.d t x :: l)
    | none => none
  | .new _ e xs :: r => match rvS r with
    | some l => some (.d (.sl e) xs :: l)
    | none => none
section
variable {R : Type}
def putRes (H : List Item) (rs : List RV) (k : SV → List Item → Option R) : Option R := match rs with
  | [.new et e xs] => k (.own H.length) (H ++ [.row et e xs])
  | [.d t x] => k (.d t x) H
  | rs => match rvS rs with
    | some l => k (.tup l) H
    | none => none
def callE (T : TT) (E : Env) (fl : Nat) (L : SL) (H : List Item) (f : Nat) (args : List Operand) (tys : List Nat) (k : SV → List Item → SL → Option R) : Option R :=
  match lookE E f with
  | some sp => match sp.keep with
    | true => match allS L args with
      | some ss => match argS T H ss tys with
        | some al => sp.run R al fun rs => match okKeep rs with
          | true => putRes H rs fun s H' => k s H' L
          | false => none
        | none => none
      | none => none
    | false => match fzAll fl args L H with
      | some (L', H') => match allS L' args with
        | some ss => match argS T H' ss tys, ss.all SV.noOwn with
          | some al, true => sp.run R al fun rs => putRes H' rs fun s H'' => k s H'' L'
          | _, _ => none
        | none => none
      | none => none
  | none => none
def maxApp : Nat := 140737488355328
def eop (T : TT) (E : Env) (fl : Nat) (L : SL) (H : List Item) (o : Oper) (k : SV → List Item → SL → Option R) : Option R :=
  match o.op with
  | .box t x => match opS L x with
    | some s => match splitS H s with
      | some cs => k (.box H.length 0) (H ++ [.box t cs]) L
      | none => none
    | none => none
  | .alloc t => match lookT T t with
    | some i => match i.z, i.ty with
      | _, .pair _ _ => none
      | true, ty => k (.box H.length 0) (H ++ [.box t ty.zsplit]) L
      | _, _ => none
    | none => none
  | .buildSlice t len parts => match lookT T t with
    | some i => match i.ty with
      | .sl e => match fzAll fl (parts.toList.map (·.2)) L H with
        | some (L', H') => match fillS H' L' (fun q => some (q * e.n, e.n)) (repL (e.split e.zero) len) parts.toList with
          | some cs => match joinN e len cs, Nat.ble (len * e.n) 16777216 with
            | some xs, true => k (.own H'.length) (H' ++ [.row i.el e xs]) L'
            | _, _ => none
          | none => none
        | none => none
      | _ => none
    | none => none
  | .makeSlice t x y => match sameOp x y, opS L x, lookT T t with
    | true, some (.d (.int _) n), some i => match i.ty with
      | .sl e => match decide (0 ≤ n ∧ n * i.byt ≤ 140737488355328 ∧ n ≤ 140737488355328) with
        | true => k (.own H.length) (H ++ [.row i.el e (List.replicate n.toNat e.zero)]) L
        | false => none
      | _ => none
    | false, some (.d (.int _) m), some i => match opS L y, i.ty with
      | some (.d (.int _) n), .sl e => match decide (m = 0 ∧ 0 ≤ n ∧ n * i.byt ≤ 140737488355328 ∧ n ≤ 140737488355328) with
        | true => k (.own H.length) (H ++ [.row i.el e []]) L
        | false => none
      | _, _ => none
    | _, _, _ => none
  | .store t x v => match opS L x, opS L v, lookT T t with
    | some (.box j off), some s, some i => match H[j]?, splitS H s with
      | some (.box bt cells), some l => match Nat.beq l.length i.ty.n && Nat.ble (off + l.length) cells.length with
        | true => k .undef (H.set j (.box bt (over cells off l))) L
        | false => none
      | _, _ => none
    | some (.oelt j sz m off), some (.d t' y), some i => match true, H[j]? with
      | true, some (.row et e xs) => match Nat.beq sz e.n && Nat.beq t'.n i.ty.n, xs[m]? with
        | true, some x => match t', e.upd x off t' y with
          | .pair _ _, _ => none
          | _, some x' => k .undef (H.set j (.row et e (xs.set m x'))) L
          | _, none => none
        | _, _ => none
      | _, _ => none
    | _, _, _ => none
  | .call ⟨.builtin .append, ⟨[x, y]⟩, ⟨[t, t']⟩⟩ => match Nat.beq t t', lookT T t with
    | true, some i => match i.ty with
      | .sl e => match argS T H ((opS L y).toList) [t] with
        | some [.d (.sl e') ys] => match castD (.sl e') (.sl e) ys with
          | some ys => match opS L x with
            | some (.own j) => match Nat.ble fl j, H[j]? with
              | true, some (.row et e0 xs) => match Nat.beq et i.el, castD (.sl e0) (.sl e) xs with
                | true, some xs => match decide ((xs.length + ys.length) * i.byt ≤ 140737488355328 ∧ xs.length + ys.length ≤ 140737488355328) with
                  | true => k (.own j) ((H.map (mapI (kill j))).set j (.row i.el e (xs ++ ys))) (mapL (kill j) L)
                  | false => none
                | _, _ => none
              | _, _ => none
            | some .nil => match decide (ys.length * i.byt ≤ 140737488355328 ∧ ys.length ≤ 140737488355328) with
              | true => k (.own H.length) (H ++ [.row i.el e ys]) L
              | false => none
            | some (.cut e0 xs) => match castD (.sl e0) (.sl e) xs with
              | some xs => match decide (xs ≠ [] ∧ ys ≠ [] ∧ (xs.length + ys.length) * i.byt ≤ 140737488355328 ∧ xs.length + ys.length ≤ 140737488355328) with
                | true => k (.own H.length) (H ++ [.row i.el e (xs ++ ys)]) L
                | false => none
              | none => none
            | _ => none
          | none => none
        | _ => none
      | _ => none
    | _, _ => none
  | .call ⟨.value f, args, tys⟩ => match opS L f with
    | some (.clo f []) => match mutOf E f with
      | some g => match args.toList with
        | [x] => match opS L x with
          | some (.own j) => match Nat.ble fl j, H[j]? with
            | true, some (.row et (.int .i64) xs) => match decide (xs.length ≤ 140737488355328) with
              | true => match g.ret with
                | false => k (.tup []) (H.set j (.row et (.int .i64) (g.g xs))) L
                | true => k (.own j) ((H.map (mapI (kill j))).set j (.row et (.int .i64) (g.g xs))) (mapL (kill j) L)
              | false => none
            | _, _ => none
          | _ => none
        | _ => none
      | none => callE T E fl L H f args.toList tys.toList k
    | _ => none
  | _ => none
end
def isMut (E : Env) (L : SL) : Op → Bool
  | .call ⟨.value f, _, _⟩ => match opS L f with
    | some (.clo f []) => (mutOf E f).isSome
    | _ => false
  | _ => false
/-- A function that turns a row of numbers in place. -/
def MConN (P : Program) (f : Nat) (g : List Int → List Int) : Prop :=
  ∀ (w : World) (base et : Nat) (v : Value) (xs : List Int), w.ownsRow base et 1 v xs.length (xs.map (Value.int .i64)) → xs.length ≤ 140737488355328 →
    Calls P f #[v] w fun e w' => e = .returned (.tuple #[]) ∧ w'.ownsRow base et 1 v xs.length ((g xs).map (Value.int .i64)) ∧ (g xs).length = xs.length ∧ w.grownBy w' (blkOf v)
/-- The same, and it gives the row back. -/
def MConR (P : Program) (f : Nat) (g : List Int → List Int) : Prop :=
  ∀ (w : World) (base et : Nat) (v : Value) (xs : List Int), w.ownsRow base et 1 v xs.length (xs.map (Value.int .i64)) → xs.length ≤ 140737488355328 →
    Calls P f #[v] w fun e w' => ∃ v', e = .returned v' ∧ w'.ownsRow base et 1 v' (g xs).length ((g xs).map (Value.int .i64)) ∧ w.grownBy w' (blkOf v) ∧ blkOf v' = blkOf v
def MCon (P : Program) (f : Nat) (m : MutG) : Prop := match m.ret with
  | false => MConN P f m.g
  | true => MConR P f m.g
/-- What a contract promises. -/
def ResRel (A : Nat → Prop) (base : Nat) (w : World) (rs : List RV) (v : Value) : Prop := match rs with
  | [.new et e xs] => ∃ css, w.ownsRow base et e.n v xs.length (List.flatten css) ∧ all2 (fun l y => e.rd (fun b => A b ∧ blkOf v ≠ some b) w l y) css xs ∧ 0 < e.n
  | [.d t x] => Rel1 [] A w (.d t x) v
  | rs => ∃ vs : List Value, v = .tuple vs.toArray ∧ ∃ l, rvS rs = some l ∧ all2 (Rel1 [] A w) l vs
def Con (P : Program) (f : Nat) (args : List SV) (rs : List RV) : Prop :=
  ∀ (A : Nat → Prop) (w : World) (vs : List Value), inv w → all2 (Rel1 [] A w) args vs → Calls P f vs.toArray w fun e w' => ∃ v, e = .returned v ∧ Below w.heap.size w w' ∧ ResRel (fun b => A b ∨ w.heap.size ≤ b) w.heap.size w' rs v
def SpecOk (P : Program) (f : Nat) (sp : Spec) : Prop := ∀ (R : Type) args (k : List RV → Option R) r, sp.run R args k = some r → ∃ rs, k rs = some r ∧ Con P f args rs
def callable (P : Program) (g : Nat) : Bool := match P.funcs[g]? with
  | some fn => !(fn.name == "runtime.NumGoroutine") && fn.body.isSome
  | none => false
def EnvOk (P : Program) (E : Env) : Prop := ∀ f sp, lookE E f = some sp → callable P f = true ∧ SpecOk P f sp ∧ ∀ g, sp.mut_ = some g → MCon P f g
end Go.Proofs.YtpiabmjipgfjjaaDoor
