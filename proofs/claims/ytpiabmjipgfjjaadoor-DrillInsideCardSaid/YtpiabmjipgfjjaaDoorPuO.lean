/- The pure machine. -/
import Derived.Test.YtpiabmjipgfjjaaDoorPuG2
namespace Go.Proofs.YtpiabmjipgfjjaaDoor
open Go.RowKit

inductive KJ where
  | seq (i : Nat)
  | blk (id : Nat)
  | lp (i : Nat)
/-- A call that waits. -/
structure Fm where
  f : Nat
  K : List KJ
  i : Nat
  k : Nat
  L : SL
  fl : Nat
structure Cfg where
  f : Nat
  K : List KJ
  L : SL
  H : List Item
  fl : Nat
  fs : List Fm
inductive Pos where
  | nrm
  | node (i : Nat)
  | ops (i k : Nat)
  | drw (i : Nat) (rw eff : Bool) (D : List Nat)
  | ret
abbrev FT := List (Nat × Func)
def lookF : FT → Nat → Option Func
  | [], _ => none
  | (k, x) :: r, t => match Nat.beq k t with
    | true => some x
    | false => lookF r t
def bodyF (F : FT) (f : Nat) : Code := match lookF F f with
  | some fn => fn.body.getD .skip
  | none => .skip
/-- What a loop's head keeps: slots; rows that are to be owned (slot, element's type, its form); slots that are to be data; the number of items. -/
structure NI where
  keep : List Nat
  own : List (Nat × Nat × Ty) := []
  pure_ : List (Nat × Ty) := []
  hl : Nat
abbrev NT := List ((Nat × Nat) × NI)
def lookN : NT → Nat → Nat → Option NI
  | [], _, _ => none
  | ((f, i), x) :: r, g, j => match Nat.beq f g && Nat.beq i j with
    | true => some x
    | false => lookN r g j
def delS : SL → Nat → SL
  | [], _ => []
  | (k, x) :: r, t => match Nat.beq k t with
    | true => delS r t
    | false => (k, x) :: delS r t
def putS (n : Nat) (L : SL) : Option Nat → SV → Option SL
  | none, _ => some L
  | some d, s => match Nat.ble (d + 1) n with
    | true => some ((d, s) :: delS L d)
    | false => none
def pickS (L : SL) : List Nat → Option SL
  | [] => some []
  | t :: ts => match lookS L t, pickS L ts with
    | some s, some r => some ((t, s) :: r)
    | _, _ => none
def SV.refs (hl : Nat) : SV → Bool
  | .box j _ => Nat.ble (j + 1) hl
  | .own j => Nat.ble (j + 1) hl
  | .oelt j _ _ _ => Nat.ble (j + 1) hl
  | .osl j _ _ _ => Nat.ble (j + 1) hl
  | .clo _ caps => caps.all fun j => Nat.ble (j + 1) hl
  | .tup _ => false
  | _ => true
def Item.refs (hl : Nat) : Item → Bool
  | .box _ cs => cs.all (SV.refs hl)
  | _ => true
def normOwn : List (Nat × Nat × Ty) → SL → List Item → Option (SL × List Item)
  | [], L, H => some (L, H)
  | (t, et, e) :: r, L, H => match lookS L t with
    | some .nil => match Nat.ble 1 e.n with
      | true => normOwn r ((t, .own H.length) :: delS L t) (H ++ [.row et e []])
      | false => none
    | _ => normOwn r L H
def normPure (fl : Nat) : List (Nat × Ty) → SL → List Item → Option (SL × List Item)
  | [], L, H => some (L, H)
  | (t, e) :: r, L, H => match lookS L t with
    | some .nil => normPure fl r ((t, .d (.sl e) []) :: delS L t) H
    | some (.own j) => match giveUp fl j L H with
      | some (L', H') => normPure fl r L' H'
      | none => none
    | _ => normPure fl r L H
def norm (x : NI) (c : Cfg) : Option Cfg := match normOwn x.own c.L c.H with
  | some (L1, H1) => match normPure c.fl x.pure_ L1 H1 with
    | some (L2, H2) => match pickS L2 x.keep with
      | some L3 => match L3.all (fun p => p.2.refs x.hl) && (H2.take x.hl).all (Item.refs x.hl) && Nat.ble c.fl x.hl && Nat.ble x.hl H2.length with
        | true => some { c with L := L3, H := H2.take x.hl }
        | false => none
      | none => none
    | none => none
  | none => none
def wayJ (id : Nat) : List KJ → Option (List KJ)
  | [] => none
  | .blk j :: K => match Nat.beq j id with
    | true => some K
    | false => wayJ id K
  | _ :: K => wayJ id K
def isQ : Op → Bool
  | .move _ | .assign _ | .nilCheck _ | .pick .. | .load .. | .fieldAddr .. | .indexAddr .. | .extract .. | .build .. | .makeFunc .. | .slice .. | .binOp .. | .unOp .. | .convert .. => true
  | .call ⟨.builtin .len, _, _⟩ | .call ⟨.builtin .max, _, _⟩ | .call ⟨.builtin .min, _, _⟩ => true
  | _ => false
def pickQ (ops : Array Oper) (eff : Bool) (D : List Nat) : List Nat → Option Nat
  | [] => none
  | j :: r => match ops[j]? with
    | some o => match isQ o.op && !(isLoad o.op && eff) && o.dst.isSome && Region.free .any ops (mkL ops.size D) j with
      | true => some j
      | false => pickQ ops eff D r
    | none => none
/-- The results, as data. -/
def resS (T : TT) (H : List Item) (L : SL) : List ResultVar → Option (List SV)
  | [] => some []
  | .tmp t :: r => match lookS L t, resS T H L r with
    | some s, some l => some (s :: l)
    | _, _ => none
  | .cell ad t :: r => match lookS L ad, lookT T t, resS T H L r with
    | some (.box j off), some i, some l => match H[j]? with
      | some (.box _ cells) => match loadB i.ty (cells.drop off) with
        | some s => some (s :: l)
        | none => none
      | _ => none
    | _, _, _ => none
def outR (T : TT) (H : List Item) (ss : List SV) (tys : List Nat) : Option (List RV) := match ss with
  | [.own j] => match H[j]? with
    | some (.row et e xs) => some [.new et e xs]
    | _ => none
  | [.nil] => match tys with
    | [t] => match lookT T t with
      | some i => match i.ty with
        | .sl e => match Nat.ble 1 e.n with
          | true => some [.new i.el e []]
          | false => none
        | _ => none
      | none => none
    | _ => none
  | ss => match argS T H ss tys with
    | some l => outL l
    | none => none
where outL : List SV → Option (List RV)
  | [] => some []
  | .d t x :: r => match outL r with
    | some l => some (.d t x :: l)
    | none => none
  | _ => none
inductive Sh where
  | l
  | b (x y : Sh)
/-- The same, as often as there are ways. -/
noncomputable def dup {R : Type} : Sh → Option R → Option R
  | .l, x => x
  | .b s t, x => both (dup s x) (dup t x)
theorem dup_eq {R : Type} : ∀ (s : Sh) (x : Option R), dup s x = x
  | .l, _ => rfl
  | .b s t, x => by rw [dup, dup_eq s, dup_eq t, both_self]
/-- All ways must give the same. -/
noncomputable def allR {R : Type} (f : Nat → Option R) : List Nat → Option R
  | [] => none
  | j :: rs => match rs with
    | [] => f j
    | _ :: _ => both (f j) (allR f rs)
theorem allR_some {R : Type} {f : Nat → Option R} {r : R} : ∀ {rs : List Nat}, allR f rs = some r → ∀ j ∈ rs, f j = some r
  | [], h => by simp [allR] at h
  | [q], h => by intro j hj; simp at hj; subst hj; exact h
  | q :: q' :: rs, h => by
    have h : both (f q) (allR f (q' :: rs)) = some r := h
    have ⟨h1, h2⟩ := both_some h
    intro j hj
    rcases List.mem_cons.1 hj with rfl | hj
    · exact h1
    · exact allR_some h2 j hj
def bndl : List SV → SV
  | [s] => s
  | l => .tup l
section
variable (P : Program) (F : FT) (T : TT) (E : Env) (N : NT) (Fin : Nat → Cfg → Option (List RV))
def head (i : Nat) (c : Cfg) : Option (List RV) := match lookN N c.f i with
  | some x => match norm x c with
    | some c' => Fin i c'
    | none => none
  | none => Fin i c
/-- An operation's guard: how to go on if it is wanted, if it is not. -/
def guarded {R : Type} (ops : Array Oper) (L : SL) (o : Oper) (yes no : SL → Option R) : Option R := match o.guard with
  | none => yes L
  | some (j, want) => match (ops[j]?).bind (·.dst) with
    | some d => match lookS L d with
      | some (.d .bool b) => match b with
        | true => match want with
          | true => yes ((d, .d .bool true) :: delS L d)
          | false => no ((d, .d .bool true) :: delS L d)
        | false => match want with
          | true => no ((d, .d .bool false) :: delS L d)
          | false => yes ((d, .d .bool false) :: delS L d)
      | some .undef => no L
      | _ => none
    | none => none
def ntm (f : Nat) : Nat := match lookF F f with
  | some fn => fn.ntmps
  | none => 0
def argsL : Nat → List SV → SL
  | _, [] => []
  | k, s :: r => (k, s) :: argsL (k + 1) r
/-- What is called, if it is to be walked into. -/
def into (L : SL) (o : Op) : Option (Nat × List SV) := match o with
  | .call ⟨.value f, args, _⟩ => match opS L f with
    | some (.clo g caps) => match lookE E g with
      | some _ => none
      | none => match lookF F g, allS L args.toList with
        | some fn, some ss => match Nat.ble (ss.length + caps.length) fn.ntmps && (!(fn.name == "runtime.NumGoroutine") && fn.body.isSome) with
          | true => some (g, ss ++ caps.map fun j => .box j 0)
          | false => none
        | _, _ => none
    | _ => none
  | _ => none
noncomputable def go : Nat → Cfg → Pos → Option (List RV)
  | 0, _, _ => none
  | m + 1, c, p => match p with
    | .nrm => match c.K with
      | [] => go m c .ret
      | .seq j :: K => go m { c with K := K } (.node j)
      | .blk _ :: K => go m { c with K := K } .nrm
      | .lp i :: K => head N Fin i { c with K := K }
    | .node i => match nth (bodyF F c.f) i with
      | .skip => go m c .nrm
      | .seq a _ => go m { c with K := .seq (i + 1 + Code.size a) :: c.K } (.node (i + 1))
      | .block id _ => go m { c with K := .blk id :: c.K } (.node (i + 1))
      | .exit id => match wayJ id c.K with
        | some K => go m { c with K := K } .nrm
        | none => none
      | .ret => go m c .ret
      | .cond x a _ => match opS c.L x with
        | some (.d .bool b) => match b with
          | true => go m c (.node (i + 1))
          | false => go m c (.node (i + 1 + Code.size a))
        | _ => none
      | .loop _ => head N Fin i c
      | .region _ _ false => go m c (.ops i 0)
      | .region _ ops true => match Region.noSelect ops, storeAt ops with
        | true, some _ => go m c (.drw i (!(ops.any fun o => isApp o.op)) false [])
        | _, _ => none
      | _ => none
    | .ops i k => match (opsAt (nth (bodyF F c.f) i))[k]? with
      | none => go m c .nrm
      | some o => guarded (opsAt (nth (bodyF F c.f) i)) c.L o
          (fun L => match isQ o.op with
            | true => qop P T true L c.H o fun s => match putS (ntm F c.f) L o.dst s with
              | some L' => go m { c with L := L' } (.ops i (k + 1))
              | none => none
            | false => match into F E L o.op with
              | some (g, ss) => go m { f := g, K := [], L := argsL 0 ss, H := c.H, fl := c.H.length, fs := { f := c.f, K := c.K, i := i, k := k, L := L, fl := c.fl } :: c.fs } (.node 0)
              | none => eop T E c.fl L c.H o fun s H' L1 => match putS (ntm F c.f) L1 o.dst s with
                | some L' => go m { c with L := L', H := H' } (.ops i (k + 1))
                | none => none)
          (fun L => match putS (ntm F c.f) L o.dst .undef with
            | some L' => go m { c with L := L' } (.ops i (k + 1))
            | none => none)
    | .drw i rw eff D => match Region.ready .any (opsAt (nth (bodyF F c.f) i)) (mkL (opsAt (nth (bodyF F c.f) i)).size D) with
      | [] => go m c .nrm
      | rs => match Nat.ble (D.length + 1) (opsAt (nth (bodyF F c.f) i)).size with
        | false => none
        | true => match pickQ (opsAt (nth (bodyF F c.f) i)) eff D rs with
          | some j => match (opsAt (nth (bodyF F c.f) i))[j]? with
            | none => none
            | some o => guarded (opsAt (nth (bodyF F c.f) i)) c.L o
              (fun L => qop P T rw L c.H o fun s => match putS (ntm F c.f) L o.dst s with
                | some L' => go m { c with L := L' } (.drw i rw eff (j :: D))
                | none => none)
              (fun L => match putS (ntm F c.f) L o.dst .undef with
                | some L' => go m { c with L := L' } (.drw i rw eff (j :: D))
                | none => none)
          | none => allR (fun j => match (opsAt (nth (bodyF F c.f) i))[j]? with
              | none => none
              | some o => guarded (opsAt (nth (bodyF F c.f) i)) c.L o
                (fun L => match isQ o.op with
                  | true => qop P T true L c.H o fun s => match putS (ntm F c.f) L o.dst s with
                    | some L' => go m { c with L := L' } (.drw i rw eff (j :: D))
                    | none => none
                  | false => match (isStore o.op && !Nat.beq (D.length + 1) (opsAt (nth (bodyF F c.f) i)).size) || isMut E L o.op || (isApp o.op && rw) with
                    | true => none
                    | false => eop T E c.fl L c.H o fun s H' L1 => match putS (ntm F c.f) L1 o.dst s with
                      | some L' => go m { c with L := L', H := H' } (.drw i rw true (j :: D))
                      | none => none)
                (fun L => match putS (ntm F c.f) L o.dst .undef, isStore o.op && !Nat.beq (D.length + 1) (opsAt (nth (bodyF F c.f) i)).size with
                  | some L', false => go m { c with L := L' } (.drw i rw eff (j :: D))
                  | _, _ => none)) rs
    | .ret => match lookF F c.f with
      | some fn => match resS T c.H c.L fn.results.toList with
        | some ss => match c.fs with
          | [] => outR T c.H ss fn.resultTypes.toList
          | fm :: fs => match (opsAt (nth (bodyF F fm.f) fm.i))[fm.k]? with
            | some o => match putS (ntm F fm.f) fm.L o.dst (bndl ss), ss.all SV.good with
              | some L', true => go m { f := fm.f, K := fm.K, L := L', H := c.H, fl := fm.fl, fs := fs } (.ops fm.i (fm.k + 1))
              | _, _ => none
            | none => none
        | none => none
      | none => none
end
/-- From loop's head to loop's head. -/
noncomputable def run (P : Program) (F : FT) (T : TT) (E : Env) (N : NT) : Nat → Nat → Cfg → Option (List RV)
  | 0, _, _ => none
  | n + 1, i, c => go P F T E N (run P F T E N n) 4000 { c with K := .lp i :: c.K } (.node (i + 1))
def start (f : Nat) (args : List SV) : Cfg := { f := f, K := [], L := argsL 0 args, H := [], fl := 0, fs := [] }
/-- The function's result. -/
def Runs (P : Program) (F : FT) (T : TT) (E : Env) (N : NT) (i : Nat) (c : Cfg) (r : List RV) : Prop := ∃ n, run P F T E N n i c = some r
end Go.Proofs.YtpiabmjipgfjjaaDoor
