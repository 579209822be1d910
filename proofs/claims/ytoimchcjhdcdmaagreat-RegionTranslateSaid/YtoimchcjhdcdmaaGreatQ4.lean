/- Regions of calls whose results are data: one order stands for all. -/
import Derived.Test.YtoimchcjhdcdmaaGreatQ3
noncomputable section
namespace Go.Proofs.YtoimchcjhdcdmaaGreat
open Go.RowKit Go.IntKind
open Bool renaming true->T',false->F'
open Option renaming some->S'
theorem apq:type_of% @List.getElem?_cons_succ:=@List.getElem?_cons_succ
theorem apP:type_of% @List.getElem?_cons_zero:=@List.getElem?_cons_zero
theorem arI:type_of% @Bool.or_eq_false_iff:=@Bool.or_eq_false_iff
def isQ:Op->Bool
 |.move _|.assign _|.nilCheck _|.pick .. |.load .. |.fieldAddr .. |.indexAddr .. |.extract .. |.build .. |.makeFunc .. |.slice .. |.binOp .. |.unOp .. |.convert .. |.index .. |.field .. =>true
 |.call ⟨.builtin .len,_,_⟩|.call ⟨.builtin .max,_,_⟩|.call ⟨.builtin .min,_,_⟩=>true
 |_=>false
theorem CO{o:Op}(h:isQ o=T'):dO o=false:=by
 cases o with
 |store=>cases h
 |call c=>
  obtain⟨f,x,y⟩:=c;cases f with
  |builtin b=>cases b<;>first|rfl|cases h
  |_=>rfl
 |_=>rfl
def gI(L:SL):List Nat->SL
 |[]=>[]
 |t::ts=>match aK L t with
  |some s=>(t,s)::gI L ts
  |none=>gI L ts
abbrev nH(L:SL)(_:Nat):SL:=L
def cN{R:Type}(ops:Array Oper)(L:SL)(o:Oper)(yes no:SL->Option R):Option R:=match o.guard with
 |none=>yes L
 |some (j,want)=>match(ops[j]?).bind (·.dst)with
  |some d=>match aK L d with
   |some (.d .bool b)=>match b with
    |true=>match want with
     |true=>yes ((d,.d .bool true)::L)
     |false=>no ((d,.d .bool true)::L)
    |false=>match want with
     |true=>no ((d,.d .bool false)::L)
     |false=>yes ((d,.d .bool false)::L)
   |some .undef=>no L
   |_=>none
  |none=>none
def kQ(o:Op):Bool:=isQ o&&match o with
 |.binOp op _ _ y _=>(Ju op y).isNone
 |_=>true
def Fp(E:Env):Op->Bool
 |.call ⟨.value (.func f),_,_⟩=>match lG E f with
  |some sp=>sp.tame&&(match sp.mut_ with
   |none=>true
   |some g=>g.bx.isSome)
  |none=>false
 |_=>false
def bz(o:Oper):Bool:=(match o.op with
 |.alloc _=>true
 |_=>false)&&o.guard.isNone&&o.dst.isSome
def fw(E:Env)(o:Oper):Bool:=kQ o.op||Fp E o.op
def dZ(E:Env)(ops:Array Oper)(j:Nat):Bool:=match ops[j]? with
 |some o=>fw E o
 |none=>false
def eE(E:Env)(ops:Array Oper)(j:Nat):Bool:=match ops[j]? with
 |some o=>!(fw E o)&&!(bz o)
 |none=>false
def iY(E:Env)(ops:Array Oper)(i:Nat):Bool:=(List.range ops.size).all λs=>!(eE E ops s)||gz ops 4 s i
def Cw(E:Env)(ops:Array Oper):Bool:=ops.toList.all λo=>fw E o||bz o||(isSt o.op&&o.guard.isNone&&o.dst.isNone)
def BA(o:Oper):Bool:=kQ o.op&&!(nJ o.op)
def ce(E:Env)(ops:Array Oper):Bool:=(List.range ops.size).all λj=>match ops[j]? with
 |some o=>!(fw E o)||BA o||iY E ops j
 |none=>true
def WS(ops:Array Oper):Bool:=ops.toList.all λo=>match o.op with
 |.store _ (.tmp d) _=>ops.toList.any λa=>bz a&&(match a.dst with
  |some e=>Nat.beq e d
  |none=>false)
 |.store .. =>false
 |_=>true
def abS(E:Env)(ops:Array Oper):Bool:=(ce E ops||(Cw E ops&&WS ops))&&E.any (λp=>p.2.tame)&&(!(ops.toList.any bz)||Cw E ops)
def af0:List RV->Option SV
 |[.d t x]=>some (.d t x)
 |[.new _ _ _]=>none
 |rs=>match rvS rs with
  |some l=>some (.tup l)
  |none=>none
def abM{R:Type}(T:TT)(E:Env)(L:SL)(H:List Item)(f:Nat)(args:List Operand)(tys:List Nat)(k:SV->Option R):Option R:=match lG E f with
 |some sp=>match yG L args with
  |some ss=>match fe T H ss tys,ss.all SV.noOwn with
   |some al,true=>sp.run R al λrs=>match af0 rs with
    |some s=>k s
    |none=>none
   |_,_=>none
  |none=>none
 |none=>none
def tq{R:Type}(P:Program)(T:TT)(E:Env)(L:SL)(H:List Item)(o:Oper)(k:SV->Option R):Option R:=match kQ o.op with
 |true=>qop P T true L H o k
 |false=>match Fp E o.op,o.op with
  |true,.call ⟨.value (.func f),args,tys⟩=>abM T E L H f args.toList tys.toList k
  |_,_=>none
def SV.refs(hl:Nat):SV->Bool
 |.box j _=>Nat.ble (j+1) hl
 |.own j=>Nat.ble (j+1) hl
 |.oelt j _ _ _=>Nat.ble (j+1) hl
 |.osl j _ _ _=>Nat.ble (j+1) hl
 |.clo _ caps=>caps.all λj=>Nat.ble (j+1) hl
 |.tup _=>false
 |_=>true
def SV.refsT(hl:Nat):SV->Bool
 |.tup l=>l.all (SV.refs hl)
 |s=>s.refs hl
def fJ(E:Env)(ops:Array Oper)(l:Array Bool):Bool:=(List.range ops.size).all λk=>l.getD k T'||!(dZ E ops k)||(List.range ops.size).any λs=>eE E ops s&&!(l.getD s T')&&gz ops 4 k s
structure AlA where
 i:Nat
 d:Nat
 t:Nat
 cs:List SV
structure AlS where
 i:Nat
 j:Nat
 off:Nat
 l:List SV
def alA(T:TT)(N:Nat):List Oper->Nat->Option (List AlA)
 |[],_=>some []
 |o::r,i=>match bz o with
  |false=>alA T N r (i+1)
  |true=>match o.op,o.dst with
   |.alloc t,some d=>match dl T t,Nat.ble (d+1) N,alA T N r (i+1)with
    |some x,true,some l=>match x.z,x.ty with
     |_,.pair _ _=>none
     |true,ty=>match l.all (λb=>!(Nat.beq i b.i)&&!(Nat.beq d b.d))with
      |true=>some (⟨i,d,t,ty.zsplit⟩::l)
      |false=>none
     |_,_=>none
    |_,_,_=>none
   |_,_=>none
def fV(f:Nat->Bool):List AlA->Nat->SL->SL
 |[],_,L=>L
 |a::r,k,L=>fV f r (k+1) (match f a.i with
  |true=>(a.d,.box k 0)::L
  |false=>L)
def alX(f:Nat->Bool)(la:List AlA):List Item:=la.map λa=>match f a.i with
 |true=>.box a.t a.cs
 |false=>.gone
def MN:Operand->Nat->Bool
 |.tmp t,d=>Nat.beq t d
 |_,_=>false
def Iz(s p:AlS):Bool:=!(Nat.beq s.i p.i)&&(!(Nat.beq s.j p.j)||Nat.ble (s.off+s.l.length) p.off||Nat.ble (p.off+p.l.length) s.off)
def IE(ops:Array Oper)(i j:Nat):List AlA->Nat->Bool
 |[],_=>true
 |a::r,k=>(!(Nat.beq j k)||gz ops 4 i a.i)&&IE ops i j r (k+1)
def alS(T:TT)(E:Env)(ops:Array Oper)(l:Array Bool)(la:List AlA)(h0:Nat)(La:SL)(Ha:List Item):List Oper->Nat->Option (List AlS)
 |[],_=>some []
 |o::r,i=>match l.getD i true||bz o||fw E o with
  |true=>alS T E ops l la h0 La Ha r (i+1)
  |false=>match o.op with
   |.store t x v=>match o.guard,o.dst,opS La x,opS La v,dl T t with
    |none,none,some (.box j off),some s,some y=>match fH [] s,Ha[j]?,alS T E ops l la h0 La Ha r (i+1)with
     |some cs,some (.box _ cells),some ss=>match Nat.beq cs.length y.ty.n&&Nat.ble (off+cs.length) cells.length&&cs.all (SV.refs h0)&&la.all (λa=>!(MN x a.d||MN v a.d)||gz ops 4 i a.i)&&IE ops i j la h0&&ss.all (Iz ⟨i,j,off,cs⟩)with
      |true=>some (⟨i,j,off,cs⟩::ss)
      |false=>none
     |_,_,_=>none
    |_,_,_,_,_=>none
   |_=>none
def stP(s:AlS)(H:List Item):List Item:=match H[s.j]? with
 |some (.box bt cells)=>H.set s.j (.box bt (nT cells s.off s.l))
 |_=>H
def ct(f:Nat->Bool):List AlS->List Item->List Item
 |[],H=>H
 |s::r,H=>match f s.i with
  |true=>stP s (ct f r H)
  |false=>ct f r H
def IB(ops:Array Oper):Array Bool->List Nat->Bool
 |_,[]=>true
 |l,i::r=>(match ops[i]? with
  |some o=>o.after.toList.all λe=>!(Region.binds .any e)||l.getD e.on false
  |none=>false)&&IB ops (l.setIfInBounds i true) r
def Lj(E:Env)(ops:Array Oper)(l:Array Bool)(C:List Nat):Bool:=(List.range ops.size).all λk=>l.getD k T'||!(dZ E ops k)||C.all (λj=>gz ops 4 k j)
def ac7(T:TT)(E:Env)(N:Nat)(ops:Array Oper)(l:Array Bool)(L:SL)(H:List Item):Option (SL×List Item×List Nat):=match alA T N ops.toList 0 with
 |some la=>match alS T E ops l la H.length (fV (λ_=>true) la H.length L) (H++alX (λ_=>true) la) ops.toList 0 with
  |some ss=>match IB ops l (la.map (·.i)++ss.map (·.i))&&Lj E ops l (la.map (·.i)++ss.map (·.i))&&(ce E ops||(ss.all (λs=>Nat.ble H.length s.j)&&(List.range ops.size).all λk=>l.getD k true||!(dZ E ops k)))with
   |true=>some (fV (λ_=>true) la H.length L,ct (λ_=>true) ss (H++alX (λ_=>true) la),la.map (·.i)++ss.map (·.i))
   |false=>none
  |none=>none
 |none=>none
def afU(E:Env)(f:Nat):Option Nat:=match lG E f with
 |some sp=>match sp.mut_ with
  |some g=>g.bx
  |none=>none
 |none=>none
def aou(E:Env)(o:Oper):Bool:=match o.op with
 |.call ⟨.value (.func f),_,_⟩=>(afU E f).isSome
 |_=>false
def bxC(E:Env)(L:SL)(H:List Item)(o:Oper):Option (Nat×SV×Bool):=match o.op with
 |.call ⟨.value (.func f),⟨[x,y,z]⟩,_⟩=>match afU E f with
  |some t=>match opS L x,opS L y,opS L z with
   |some (.box j 0),some (.d (.st (.pair (.int .i64) (.int .i64))) i),some (.d .bool c)=>match H[j]? with
    |some (.box t' [.d .bool _])=>match Nat.beq t t' with
     |true=>some (j,.d (.st (.pair (.int .i64) (.int .i64))) i,c)
     |false=>none
    |_=>none
   |_,_,_=>none
  |none=>none
 |_=>none
def ml(j:Nat)(c:Bool)(H:List Item):List Item:=match H[j]? with
 |some (.box t [.d .bool b])=>H.set j (.box t [.d .bool (b&&c)])
 |_=>H
def ddI:Item->Item
 |.box t [.d .bool _]=>.box t [.dead]
 |it=>it
def ddJ:Item->Item
 |.box t [.d .bool _]=>.box t [.d .bool false]
 |it=>it
def Fs(E:Env)(ops:Array Oper)(D:List Nat):List Nat->Option Nat
 |[]=>none
 |j::r=>match ops[j]? with
  |some o=>match fw E o&&o.dst.isSome&&Region.free .any ops (mkL ops.size D) j&&(iY E ops j||!(ce E ops))with
   |true=>some j
   |false=>Fs E ops D r
  |none=>none
def EJ(E:Env)(ops:Array Oper)(D:List Nat):List Nat->Option Nat
 |[]=>none
 |j::r=>match ops[j]? with
  |some o=>match fw E o&&o.dst.isSome&&Region.free .any ops (mkL ops.size D) j&&(BA o||iY E ops j||!(ce E ops))with
   |true=>some j
   |false=>EJ E ops D r
  |none=>none
def T4(E:Env)(ops:Array Oper)(l:Array Bool):Bool:=E.any (λp=>p.2.tame)&&(List.range ops.size).all λk=>l.getD k T'||dZ E ops k
def GJ(E:Env)(ops:Array Oper)(D:List Nat):List Nat->Option Nat
 |[]=>none
 |j::r=>match ops[j]? with
  |some o=>match fw E o&&o.dst.isSome&&Region.free .any ops (mkL ops.size D) j with
   |true=>some j
   |false=>GJ E ops D r
  |none=>none
section
inductive KJ where
 |seq (i:Nat)
 |blk (id:Nat)
 |lp (i:Nat)
structure Fm where
 f:Nat
 K:List KJ
 i:Nat
 k:Nat
 L:SL
 fl:Nat
 d:Option (List Nat):=none
structure Cfg where
 f:Nat
 K:List KJ
 L:SL
 H:List Item
 fl:Nat
 fs:List Fm
def MT(a b:Nat):Nat:=bif Nat.ble a b then b else a
def SV.ofm:SV->Nat
 |.own j=>j+1
 |.oelt j _ _ _=>j+1
 |.osl j _ _ _=>j+1
 |_=>0
def SV.ofmT:SV->Nat
 |.tup l=>l.foldr (λs m=>MT s.ofm m) 0
 |s=>s.ofm
def slM:SL->Nat
 |[]=>0
 |(_,s)::r=>MT s.ofmT (slM r)
def Mi:List Fm->Nat
 |[]=>0
 |fm::r=>MT (slM fm.L) (Mi r)
inductive Pos where
 |nrm
 |node (i:Nat)
 |ops (i k:Nat)
 |drw (i:Nat) (rw eff:Bool) (D:List Nat)
 |tam (i:Nat) (D:List Nat)
 |tal (i:Nat) (D:List Nat)
 |cal (i:Nat) (D:List Nat)
 |tbx (i:Nat) (D:List Nat)
 |ret
abbrev FT:=List (Nat×Func)
def fT:FT->Nat->Option Func
 |[],_=>none
 |(k,x)::r,t=>match Nat.beq k t with
  |true=>some x
  |false=>fT r t
def ai(F:FT)(f:Nat):Code:=match fT F f with
 |some fn=>fn.body.getD .skip
 |none=>.skip
structure NI where
 keep:List Nat
 own:List (Nat×Nat×Ty):=[]
 pure_:List (Nat×Ty):=[]
 bx:List (Nat×Nat×Nat×Ty):=[]
 hl:Nat
 pd:Nat:=0
 er:List Nat:=[]
 dyn:Bool:=F'
abbrev NT:=List ((Nat×Nat)×NI)
def J1:NT->Nat->Nat->Option NI
 |[],_,_=>none
 |((f,i),x)::r,g,j=>match Nat.beq f g&&Nat.beq i j with
  |true=>some x
  |false=>J1 r g j
def fc(n:Nat)(L:SL):Option Nat->SV->Option SL
 |none,_=>some L
 |some d,s=>match Nat.ble (d+1) n with
  |true=>some ((d,s)::nH L d)
  |false=>none
def xI(N:NT)(f i:Nat)(L:SL):SL:=match J1 N f i with
 |some x=>gI L x.keep
 |none=>L
def As(L:SL):List Nat->Option SL
 |[]=>some []
 |t::ts=>match aK L t,As L ts with
  |some s,some r=>some ((t,s)::r)
  |_,_=>none
def Item.refs(hl:Nat):Item->Bool
 |.box _ cs=>cs.all (SV.refs hl)
 |.rws _ cs=>cs.all (SV.refs hl)
 |_=>true
def qw:List (Nat×Nat×Ty)->SL->List Item->Option (SL×List Item)
 |[],L,H=>some (L,H)
 |(t,et,e)::r,L,H=>match aK L t with
  |some .nil=>match Nat.ble 1 e.n with
   |true=>qw r ((t,.own H.length)::nH L t) (H++[.row et e []])
   |false=>none
  |_=>qw r L H
def kJ(fl:Nat):List (Nat×Ty)->SL->List Item->Option (SL×List Item)
 |[],L,H=>some (L,H)
 |(t,e)::r,L,H=>match aK L t with
  |some .nil=>kJ fl r ((t,.d (.sl e) [])::nH L t) H
  |some (.own j)=>match rK fl j L H with
   |some (L',H')=>kJ fl r L' H'
   |none=>none
  |_=>kJ fl r L H
def nS:List (Nat×Nat×Nat×Ty)->List Item->List Item
 |[],H=>H
 |(j,q,et,e)::r,H=>match H[j]? with
  |some (.box t cs)=>match cs[q]?,Nat.ble 1 e.n with
   |some .nil,true=>nS r ((H.set j (.box t (cs.set q (.own H.length))))++[.row et e []])
   |_,_=>nS r H
  |_=>nS r H
def frc{R:Type}(n:Nat)(k:Nat->R):R:=match n with
 |0=>k 0
 |n+1=>k (n+1)
theorem gL{R:Type}(n:Nat)(k:Nat->R):frc n k=k n:=by cases n<;>rfl
def afB(M i:Nat):Bool:=Nat.beq (Nat.land M (Nat.shiftLeft 1 i)) 0
def an8:SV->Nat->Nat
 |.box j _,m=>Nat.lor m (Nat.shiftLeft 1 j)
 |.own j,m=>Nat.lor m (Nat.shiftLeft 1 j)
 |.oelt j _ _ _,m=>Nat.lor m (Nat.shiftLeft 1 j)
 |.osl j _ _ _,m=>Nat.lor m (Nat.shiftLeft 1 j)
 |.clo _ caps,m=>caps.foldl (λm j=>Nat.lor m (Nat.shiftLeft 1 j)) m
 |_,m=>m
def BF{R:Type}:List SV->Nat->(Nat->R)->R
 |[],m,k=>k m
 |s::l,m,k=>frc (an8 s m) λm=>BF l m k
def sE{R:Type}(M:Nat):Nat->List Item->Nat->(Nat->R)->R
 |_,[],m,k=>k m
 |i,it::r,m,k=>frc (i+1) λi'=>match it with
  |.box _ cs=>match afB M i with
   |true=>sE M i' r m k
   |false=>BF cs m λm=>sE M i' r m k
  |.rws _ cs=>match afB M i with
   |true=>sE M i' r m k
   |false=>BF cs m λm=>sE M i' r m k
  |_=>sE M i' r m k
def uw{R:Type}(M:Nat):Nat->List Item->List Nat->Nat->(List Nat->Nat->R)->R
 |_,[],d,t,k=>k d t
 |i,it::r,d,t,k=>frc (i+1) λi'=>match it with
  |.gone=>uw M i' r d t k
  |_=>match afB M i with
   |true=>uw M i' r (i::d) t k
   |false=>uw M i' r d i' k
def ad7{R:Type}(x:NI)(c:Cfg)(k:NI->Option R):Option R:=match x.dyn with
 |true=>match As c.L x.keep with
  |some L=>frc (Nat.shiftLeft 1 c.fl-1) λM=>BF (L.map (·.2)) M λM=>sE M 0 c.H M λM=>sE M 0 c.H M λM=>uw M 0 c.H [] 0 λd t=>k {x with er:=d,hl:=MT c.fl t}
  |none=>k x
 |false=>k x
theorem LS{R:Type}{x:NI}{c:Cfg}{k:NI->Option R}{r:R}(h:ad7 x c k=S' r):∃y,k y=S' r:=by
 have q1:∀(l:List SV) (m:Nat) (k:Nat->Option R),BF l m k=S' r->∃m,k m=S' r:=λl=>by
  induction l with
  |nil=>exact λm k h=>⟨m,h⟩
  |cons s l ih=>exact λm k h=>ih _ k (by rw[BF,gL]at h;exact h)
 have q2:∀(M:Nat) (l:List Item) (i m:Nat) (k:Nat->Option R),sE M i l m k=S' r->∃m,k m=S' r:=λM l=>by
  induction l with
  |nil=>exact λi m k h=>⟨m,h⟩
  |cons s l ih=>
   intro i m k h;rw[sE,gL]at h;split at h
   ·split at h
    ·exact ih _ _ k h
    ·obtain⟨m,h⟩:=q1 _ _ _ h;exact ih _ _ k h
   ·split at h
    ·exact ih _ _ k h
    ·obtain⟨m,h⟩:=q1 _ _ _ h;exact ih _ _ k h
   ·exact ih _ _ k h
 have q3:∀(M:Nat) (l:List Item) (i:Nat) (d:List Nat) (t:Nat) (k:List Nat->Nat->Option R),uw M i l d t k=S' r->∃d t,k d t=S' r:=λM l=>by
  induction l with
  |nil=>exact λi d t k h=>⟨d,t,h⟩
  |cons s l ih=>
   intro i d t k h;rw[uw,gL]at h;split at h
   ·exact ih _ _ _ k h
   ·split at h<;>exact ih _ _ _ k h
 unfold ad7 at h;split at h
 ·split at h
  ·rw[gL]at h;obtain⟨M,h⟩:=q1 _ _ _ h;obtain⟨M,h⟩:=q2 _ _ _ _ _ h;obtain⟨M,h⟩:=q2 _ _ _ _ _ h;obtain⟨d,t,h⟩:=q3 _ _ _ _ _ _ h;exact⟨_,h⟩
  ·exact⟨_,h⟩
 ·exact⟨_,h⟩
def MG(p:Nat)(H:List Item):List Item:=match Nat.ble p H.length with
 |true=>H
 |false=>H++List.replicate (p-H.length) .gone
def erH:List Nat->List Item->List Item
 |[],H=>H
 |j::l,H=>erH l (H.set j .gone)
def ae2(x:NI)(c:Cfg):Option Cfg:=match qw x.own c.L (MG x.pd (nS x.bx c.H))with
 |some (L1,H1)=>match kJ c.fl x.pure_ L1 H1 with
  |some (L2,H2)=>match As L2 x.keep with
   |some L3=>match L3.all (λp=>p.2.refs x.hl)&&((erH x.er H2).take x.hl).all (Item.refs x.hl)&&Nat.ble c.fl x.hl with
    |true=>some {c with L:=L3,H:=(erH x.er H2).take x.hl}
    |false=>none
   |none=>none
  |none=>none
 |none=>none
def EB(id:Nat):List KJ->Option (List KJ)
 |[]=>none
 |.blk j::K=>match Nat.beq j id with
  |true=>some K
  |false=>EB id K
 |_::K=>EB id K
def Bl(ops:Array Oper)(eff:Bool)(D:List Nat):List Nat->Option Nat
 |[]=>none
 |j::r=>match ops[j]? with
  |some o=>match isQ o.op&&!(nJ o.op&&(eff||!wX ops j))&&o.dst.isSome&&Region.free .any ops (mkL ops.size D) j with
   |true=>some j
   |false=>Bl ops eff D r
  |none=>none
def ami(L:SL)(o:Oper):Bool:=match o.op with
 |.load _ x=>match opS L x with
  |some (.oelt _ _ _ _)=>true
  |_=>false
 |_=>false
def rdy(rw:Bool)(L:SL)(ops:Array Oper)(rs:List Nat):List Nat:=match rw with
 |true=>rs
 |false=>rs.filter λj=>match ops[j]? with
  |some o=>!(ami L o)
  |none=>true
theorem VO{rw:Bool}{L:SL}{ops:Array Oper}{rs:List Nat}{j:Nat}(h:j∈rdy rw L ops rs):j∈rs:=by
 cases rw
 ·exact(List.mem_filter.1 h).1
 ·exact h
def FW(T:TT)(H:List Item)(L:SL):List ResultVar->Option (List SV)
 |[]=>some []
 |.tmp t::r=>match aK L t,FW T H L r with
  |some s,some l=>some (s::l)
  |_,_=>none
 |.cell ad t::r=>match aK L ad,dl T t,FW T H L r with
  |some (.box j off),some i,some l=>match H[j]? with
   |some (.box _ cells)=>match Jf i.ty (cells.drop off)with
    |some s=>some (s::l)
    |none=>none
   |_=>none
  |_,_,_=>none
def Td(e:Ty):List SV->Option (List (List e.D))
 |[]=>some []
 |.d t x::r=>match eU t (.sl e) x,Td e r with
  |some y,some l=>some (y::l)
  |_,_=>none
 |_::_=>none
def Ah(T:TT)(H:List Item)(ss:List SV)(tys:List Nat):Option (List RV):=match ss with
 |[.own j]=>match H[j]? with
  |some (.row et e xs)=>some [.new et e xs]
  |some (.rws et cs)=>match fe T H cs (cs.map λ_=>et)with
   |some l=>match l with
    |.d (.sl e) _::_=>match Td e l with
     |some xs=>some [.new et (.sl e) xs]
     |none=>none
    |_=>none
   |none=>none
  |_=>none
 |[.nil]=>match tys with
  |[t]=>match dl T t with
   |some i=>match i.ty with
    |.sl e=>match Nat.ble 1 e.n with
     |true=>some [.new i.el e []]
     |false=>none
    |_=>none
   |none=>none
  |_=>none
 |ss=>match fe T H ss tys with
  |some l=>outL l
  |none=>none
where outL:List SV->Option (List RV)
 |[]=>some []
 |.d t x::r=>match outL r with
  |some l=>some (.d t x::l)
  |none=>none
 |_=>none
def NZ{α:Type}(f:α->α->Bool):List α->List α->Bool
 |[],[]=>true
 |x::l,y::m=>match f x y with
  |true=>NZ f l m
  |false=>false
 |_,_=>false
theorem CI{α:Type}{f:α->α->Bool}(hf:∀x y,f x y=T'->x=y):∀{l m:List α},NZ f l m=T'->l=m
 |[],[],_=>rfl
 |x::l,y::m,h=>by
  simp only[NZ]at h;split at h
  ·rename_i h1;rw[hf x y h1,CI hf h]
  ·cases h
 |[],_::_,h=>by cases h
 |_::_,[],h=>by cases h
def Ty.beq:(t:Ty)->t.D->t.D->Bool
 |.int _,x,y=>decide ((x:Int)=y)
 |.bool,x,y=>match x,y with
  |true,true=>true
  |false,false=>true
  |_,_=>false
 |.str,_,_=>false
 |.sl e,x,y=>NZ e.beq x y
 |.pair a b,x,y=>match a.beq x.1 y.1 with
  |true=>b.beq x.2 y.2
  |false=>false
 |.st a,x,y=>a.beq x y
theorem Ty.beq_ok:∀(t:Ty) (x y:t.D),t.beq x y=T'->x=y
 |.int _,x,y,h=>aoQ (p:=(x:Int)=y) h
 |.bool,x,y,h=>by cases x<;>cases y<;>first|rfl|cases h
 |.str,_,_,h=>by cases h
 |.sl e,x,y,h=>CI e.beq_ok h
 |.pair a b,(x1,x2),(y1,y2),h=>by
  simp only[Ty.beq]at h;split at h
  ·rename_i h1;rw[a.beq_ok _ _ h1,b.beq_ok _ _ h]
  ·cases h
 |.st a,x,y,h=>a.beq_ok x y h
def RV.beq:RV->RV->Bool
 |.d t x,.d t' y=>match eU t t' x with
  |some z=>t'.beq z y
  |none=>false
 |.new n e xs,.new m e' ys=>match Nat.beq n m,eU (.sl e) (.sl e') xs with
  |true,some z=>Ty.beq (.sl e') z ys
  |_,_=>false
 |_,_=>false
theorem RV.beq_ok:∀(x y:RV),x.beq y=T'->x=y
 |.d t x,.d t' y,h=>by
  simp only[RV.beq]at h;split at h
  ·rename_i z hz;obtain⟨rfl,rfl⟩:=cZ hz;rw[<-Ty.beq_ok _ _ _ h]
  ·cases h
 |.new n e xs,.new m e' ys,h=>by
  simp only[RV.beq]at h;split at h
  ·rename_i z h1 hz;obtain⟨he,rfl⟩:=cZ hz;cases he;rw[<-Ty.beq_ok _ _ _ h,aoS h1]
  ·cases h
 |.d _ _,.new _ _ _,h=>by cases h
 |.new _ _ _,.d _ _,h=>by cases h
def aog:Option (List RV)->Option (List RV)->Bool
 |some x,some y=>NZ RV.beq x y
 |_,_=>false
def cW(x y:Option (List RV)):Option (List RV):=match aog x y with
 |true=>x
 |false=>FX x y
theorem cO(x:Option (List RV)):cW x x=x:=by
 unfold cW;split
 ·rfl
 simp[dD]
theorem HJ{x y:Option (List RV)}{r:List RV}(h:cW x y=S' r):x=S' r/\y=S' r:=by
 unfold cW at h;split at h
 ·rename_i he;subst h;cases y with
  |none=>cases he
  |some y=>exact⟨rfl,by rw[CI RV.beq_ok he]⟩
 grind [AS]
inductive Sh where
 |l
 |b (x y:Sh)
def dup:Sh->Option (List RV)->Option (List RV)
 |.l,x=>x
 |.b s t,x=>cW (dup s x) (dup t x)
theorem dp:∀(s:Sh) (x:Option (List RV)),dup s x=x
 |.l,_=>rfl
 |.b s t,x=>by rw[dup,dp s,dp t,cO]
def Ma(f:Nat->Option (List RV)):List Nat->Option (List RV)
 |[]=>none
 |j::rs=>match rs with
  |[]=>f j
  |_::_=>cW (f j) (Ma f rs)
theorem u7{f:Nat->Option (List RV)}{r:List RV}:∀{rs:List Nat},Ma f rs=S' r->∀j∈rs,f j=S' r
 |[],h=>by simp[Ma]at h
 |[q],h=>by intro j hj;simp at hj;subst hj;exact h
 |q::q'::rs,h=>by
  have h:cW (f q) (Ma f (q'::rs))=some r:=h;have⟨h1,h2⟩:=HJ h;intro j hj;rcases ao7.1 hj with rfl|hj
  ·exact h1
  ·exact u7 h2 j hj
def amw:List SV->SV
 |[s]=>s
 |l=>.tup l
section
variable (P:Program) (F:FT) (T:TT) (E:Env) (N:NT) (Fin:Nat->Cfg->Option (List RV))
def head(i:Nat)(c:Cfg):Option (List RV):=match J1 N c.f i with
 |some x=>ad7 x c λx=>match ae2 x c with
  |some c'=>Fin i c'
  |none=>none
 |none=>Fin i c
def ntm(f:Nat):Nat:=match fT F f with
 |some fn=>fn.ntmps
 |none=>0
def qU:Nat->List SV->SL
 |_,[]=>[]
 |k,s::r=>(k,s)::qU (k+1) r
def ahC(E:Env)(g:Nat):Bool:=match lG E g with
 |some sp=>match sp.mut_ with
  |some m=>m.bx.isSome
  |none=>false
 |none=>true
def Gh(L:SL)(o:Op):Option (Nat×List SV):=match o with
 |.call ⟨.value f,args,_⟩=>match opS L f with
  |some (.clo g caps)=>match ahC E g with
   |false=>none
   |true=>match fT F g,yG L args.toList with
    | some fn, some ss => match Nat.ble (ss.length + caps.length) fn.ntmps && (!(fn.name == "runtime.NumGoroutine") && fn.body.isSome) with
     |true=>some (g,ss++caps.map λj=>.box j 0)
     |false=>none
    |_,_=>none
  |_=>none
 |_=>none
def abk(L:SL)(ops:Array Oper)(D:List Nat):Option Nat:=match ce E ops&&!(ops.toList.any bz),Region.ready .any ops (mkL ops.size D)with
 |true,[j]=>match ops[j]? with
  |some o=>match isQ o.op,Gh F E L o.op,Nat.ble (D.length+1) ops.size with
   |false,some _,true=>some j
   |_,_,_=>none
  |none=>none
 |_,_=>none
def Uy(L:SL)(ops:Array Oper):List Nat->Option Nat
 |[j]=>match ops[j]? with
  |some o=>match isQ o.op,Gh F E L o.op with
   |false,some _=>some j
   |_,_=>none
  |none=>none
 |_=>none
def stC(φ:Nat->(Nat->Option (List RV))->Option (List RV))(rec:Cfg->Pos->Option (List RV))(f:Nat)(K:List KJ)(L:SL)(H:List Item)(fl:Nat)(fs:List Fm):Pos->Option (List RV)
 |.nrm=>match K with
  |[]=>rec ⟨f,[],L,H,fl,fs⟩ .ret
  |.seq j::K=>rec ⟨f,K,L,H,fl,fs⟩ (.node j)
  |.blk _::K=>rec ⟨f,K,L,H,fl,fs⟩ .nrm
  |.lp i::K=>head N Fin i ⟨f,K,L,H,fl,fs⟩
 |.node i=>match nth (ai F f) i with
  |.skip=>rec ⟨f,K,L,H,fl,fs⟩ .nrm
  |.seq a _=>φ (i+1+Code.size a) λj=>φ (i+1) λi'=>rec ⟨f,.seq j::K,L,H,fl,fs⟩ (.node i')
  |.block id _=>φ (i+1) λi'=>rec ⟨f,.blk id::K,L,H,fl,fs⟩ (.node i')
  |.exit id=>match EB id K with
   |some K=>rec ⟨f,K,L,H,fl,fs⟩ .nrm
   |none=>none
  |.ret=>rec ⟨f,K,L,H,fl,fs⟩ .ret
  |.cond x a _=>match opS L x with
   |some (.d .bool b)=>match b with
    |true=>φ (i+1) λi'=>rec ⟨f,K,L,H,fl,fs⟩ (.node i')
    |false=>φ (i+1+Code.size a) λj=>rec ⟨f,K,L,H,fl,fs⟩ (.node j)
   |_=>none
  |.loop _=>head N Fin i ⟨f,K,L,H,fl,fs⟩
  |.region _ _ false=>rec ⟨f,K,L,H,fl,fs⟩ (.ops i 0)
  |.region _ ops true=>match Region.noSelect ops with
   |true=>match abS E ops with
    |true=>match ops.toList.any (aou E)with
     |true=>rec ⟨f,K,L,H,fl,fs⟩ (.tbx i [])
     |false=>rec ⟨f,K,L,H,fl,fs⟩ (.tam i [])
    |false=>match J1 N f i with
     |some _=>rec ⟨f,K,L,H,fl,fs⟩ (.cal i [])
     |none=>rec ⟨f,K,L,H,fl,fs⟩ (.drw i (!(ops.any λo=>vX o.op)) false [])
   |false=>none
  |_=>none
 |.ops i k=>match(aj (nth (ai F f) i))[k]? with
    |none=>rec ⟨f,K,L,H,fl,fs⟩ .nrm
    |some o=>cN (aj (nth (ai F f) i)) L o
      (λL=>match isQ o.op with
       |true=>match fzB T (Mi fs) o L H with
        |some (L1,H1)=>qop P T true L1 H1 o λs=>match fc (ntm F f) L1 o.dst s with
         |some L'=>φ (k+1) λk'=>rec ⟨f,K,L',H1,fl,fs⟩ (.ops i k')
         |none=>none
        |none=>none
       |false=>match Gh F E L o.op with
        |some (g,ss)=>rec ⟨g,[],qU 0 ss,H,H.length,⟨f,K,i,k,xI N f i (xI N f (i+1000*(k+1)) L),fl,none⟩::fs⟩ (.node 0)
        |none=>eop T E (Mi fs) L H o λs H' L1=>match fc (ntm F f) L1 o.dst s with
         |some L'=>φ (k+1) λk'=>rec ⟨f,K,L',H',fl,fs⟩ (.ops i k')
         |none=>none)
      (λL=>match fc (ntm F f) L o.dst .undef with
       |some L'=>φ (k+1) λk'=>rec ⟨f,K,L',H,fl,fs⟩ (.ops i k')
       |none=>none)
 |.drw i rw eff D=>match T4 E (aj (nth (ai F f) i)) (mkL (aj (nth (ai F f) i)).size D)with
    |true=>rec ⟨f,K,L,H,fl,fs⟩ (.tal i D)
    |false=>match Region.ready .any (aj (nth (ai F f) i)) (mkL (aj (nth (ai F f) i)).size D)with
    |[]=>rec ⟨f,K,L,H,fl,fs⟩ .nrm
    |rs=>match Nat.ble (D.length+1) (aj (nth (ai F f) i)).size with
     |false=>none
     |true=>match Bl (aj (nth (ai F f) i)) eff D (rdy rw L (aj (nth (ai F f) i)) rs)with
      |some j=>match(aj (nth (ai F f) i))[j]? with
       |none=>none
       |some o=>cN (aj (nth (ai F f) i)) L o
        (λL=>qop P T rw L H o λs=>match fc (ntm F f) L o.dst s with
         |some L'=>φ j λj'=>rec ⟨f,K,L',H,fl,fs⟩ (.drw i rw eff (j'::D))
         |none=>none)
        (λL=>match fc (ntm F f) L o.dst .undef with
         |some L'=>φ j λj'=>rec ⟨f,K,L',H,fl,fs⟩ (.drw i rw eff (j'::D))
         |none=>none)
      |none=>Ma (λj=>match(aj (nth (ai F f) i))[j]? with
        |none=>none
        |some o=>cN (aj (nth (ai F f) i)) L o
         (λL=>match isQ o.op with
          |true=>qop P T true L H o λs=>match fc (ntm F f) L o.dst s with
           |some L'=>φ j λj'=>rec ⟨f,K,L',H,fl,fs⟩ (.drw i rw eff (j'::D))
           |none=>none
          |false=>match we E L o.op||(vX o.op&&rw)with
           |true=>none
           |false=>eop T E (Mi fs) L H o λs H' L1=>match fc (ntm F f) L1 o.dst s with
            |some L'=>φ j λj'=>rec ⟨f,K,L',H',fl,fs⟩ (.drw i rw true (j'::D))
            |none=>none)
         (λL=>match fc (ntm F f) L o.dst .undef with
          |some L'=>φ j λj'=>rec ⟨f,K,L',H,fl,fs⟩ (.drw i rw (eff||dO o.op) (j'::D))
          |none=>none)) rs
 |.tam i D=>match fJ E (aj (nth (ai F f) i)) (mkL (aj (nth (ai F f) i)).size D)with
    |true=>match abk F E L (aj (nth (ai F f) i)) D with
     |some j=>match(aj (nth (ai F f) i))[j]? with
      |some o=>cN (aj (nth (ai F f) i)) L o
       (λL=>match Gh F E L o.op with
        |some (g,ss)=>φ j λj'=>rec ⟨g,[],qU 0 ss,H,H.length,⟨f,K,i,j',xI N f i L,fl,some (j'::D)⟩::fs⟩ (.node 0)
        |none=>none)
       (λL=>match fc (ntm F f) L o.dst .undef with
        |some L'=>φ j λj'=>rec ⟨f,K,L',H,fl,fs⟩ (.tal i (j'::D))
        |none=>none)
      |none=>none
     |none=>match Cw E (aj (nth (ai F f) i))with
     |true=>match ac7 T E (ntm F f) (aj (nth (ai F f) i)) (mkL (aj (nth (ai F f) i)).size D) L H with
      |some (L',H',C)=>match Nat.ble (C++D).length (aj (nth (ai F f) i)).size with
       |true=>rec ⟨f,K,L',H',fl,fs⟩ (.drw i true true (C++D))
       |false=>none
      |none=>match(aj (nth (ai F f) i)).toList.any bz||!(ce E (aj (nth (ai F f) i)))with
       |true=>none
       |false=>rec ⟨f,K,L,H,fl,fs⟩ (.drw i (!((aj (nth (ai F f) i)).any λo=>vX o.op)) false D)
     |false=>match(aj (nth (ai F f) i)).toList.any bz||!(ce E (aj (nth (ai F f) i)))with
      |true=>none
      |false=>rec ⟨f,K,L,H,fl,fs⟩ (.drw i (!((aj (nth (ai F f) i)).any λo=>vX o.op)) false D)
    |false=>match Nat.ble (D.length+1) (aj (nth (ai F f) i)).size,EJ E (aj (nth (ai F f) i)) D (Region.ready .any (aj (nth (ai F f) i)) (mkL (aj (nth (ai F f) i)).size D))with
     |true,some j=>match(aj (nth (ai F f) i))[j]? with
      |some o=>cN (aj (nth (ai F f) i)) L o
       (λL=>tq P T E (gI L (o.looksAt (aj (nth (ai F f) i)))) H o λs=>match fc (ntm F f) L o.dst s,s.refsT H.length with
        |some L',true=>φ j λj'=>rec ⟨f,K,L',H,fl,fs⟩ (.tam i (j'::D))
        |_,_=>none)
       (λL=>match fc (ntm F f) L o.dst .undef with
        |some L'=>φ j λj'=>rec ⟨f,K,L',H,fl,fs⟩ (.tam i (j'::D))
        |none=>none)
      |none=>none
     |_,_=>none
 |.tbx i D=>match fJ E (aj (nth (ai F f) i)) (mkL (aj (nth (ai F f) i)).size D)with
    |true=>match ce E (aj (nth (ai F f) i))with
     |true=>rec ⟨f,K,L,H,fl,fs⟩ (.tam i D)
     |false=>none
    |false=>match Nat.ble (D.length+1) (aj (nth (ai F f) i)).size,Fs E (aj (nth (ai F f) i)) D (Region.ready .any (aj (nth (ai F f) i)) (mkL (aj (nth (ai F f) i)).size D))with
     |true,some j=>match(aj (nth (ai F f) i))[j]? with
      |some o=>cN (aj (nth (ai F f) i)) L o
       (λL=>match bxC E (gI L (o.looksAt (aj (nth (ai F f) i)))) H o with
        |some (q,s,b)=>match fc (ntm F f) L o.dst s,s.refsT H.length with
         |some L',true=>φ j λj'=>rec ⟨f,K,L',ml q b H,fl,fs⟩ (.tbx i (j'::D))
         |_,_=>none
        |none=>tq P T E (gI L (o.looksAt (aj (nth (ai F f) i)))) (H.map ddI) o λs=>match fc (ntm F f) L o.dst s,s.refsT H.length with
         |some L',true=>φ j λj'=>rec ⟨f,K,L',H,fl,fs⟩ (.tbx i (j'::D))
         |_,_=>none)
       (λL=>match fc (ntm F f) L o.dst .undef with
        |some L'=>φ j λj'=>rec ⟨f,K,L',H,fl,fs⟩ (.tbx i (j'::D))
        |none=>none)
      |none=>none
     |_,_=>none
 |.tal i D=>match Region.ready .any (aj (nth (ai F f) i)) (mkL (aj (nth (ai F f) i)).size D)with
    |[]=>rec ⟨f,K,L,H,fl,fs⟩ .nrm
    |rs=>match Nat.ble (D.length+1) (aj (nth (ai F f) i)).size,GJ E (aj (nth (ai F f) i)) D rs with
     |true,some j=>match(aj (nth (ai F f) i))[j]? with
      |some o=>cN (aj (nth (ai F f) i)) L o
       (λL=>tq P T E (gI L (o.looksAt (aj (nth (ai F f) i)))) H o λs=>match fc (ntm F f) L o.dst s,s.refsT H.length with
        |some L',true=>φ j λj'=>rec ⟨f,K,L',H,fl,fs⟩ (.tal i (j'::D))
        |_,_=>none)
       (λL=>match fc (ntm F f) L o.dst .undef with
        |some L'=>φ j λj'=>rec ⟨f,K,L',H,fl,fs⟩ (.tal i (j'::D))
        |none=>none)
      |none=>none
     |_,_=>none
 |.cal i D=>match T4 E (aj (nth (ai F f) i)) (mkL (aj (nth (ai F f) i)).size D)with
    |true=>rec ⟨f,K,L,H,fl,fs⟩ (.tal i D)
    |false=>match Region.ready .any (aj (nth (ai F f) i)) (mkL (aj (nth (ai F f) i)).size D)with
    |[]=>rec ⟨f,K,L,H,fl,fs⟩ .nrm
    |rs=>match Nat.ble (D.length+1) (aj (nth (ai F f) i)).size with
     |false=>none
     |true=>match Bl (aj (nth (ai F f) i)) true D rs with
      |some j=>match(aj (nth (ai F f) i))[j]? with
       |none=>none
       |some o=>cN (aj (nth (ai F f) i)) L o
        (λL=>qop P T T' L H o λs=>match fc (ntm F f) L o.dst s with
         |some L'=>φ j λj'=>rec ⟨f,K,L',H,fl,fs⟩ (.cal i (j'::D))
         |none=>none)
        (λL=>match fc (ntm F f) L o.dst .undef with
         |some L'=>φ j λj'=>rec ⟨f,K,L',H,fl,fs⟩ (.cal i (j'::D))
         |none=>none)
      |none=>match Uy F E L (aj (nth (ai F f) i)) rs with
       |some j=>match(aj (nth (ai F f) i))[j]? with
        |some o=>cN (aj (nth (ai F f) i)) L o
         (λL=>match Gh F E L o.op with
          |some (g,ss)=>φ j λj'=>rec ⟨g,[],qU 0 ss,H,H.length,⟨f,K,i,j',xI N f i L,fl,some (j'::D)⟩::fs⟩ (.node 0)
          |none=>none)
         (λL=>match fc (ntm F f) L o.dst .undef with
          |some L'=>φ j λj'=>rec ⟨f,K,L',H,fl,fs⟩ (.cal i (j'::D))
          |none=>none)
        |none=>none
       |none=>Ma (λj=>match(aj (nth (ai F f) i))[j]? with
        |none=>none
        |some o=>cN (aj (nth (ai F f) i)) L o
         (λL=>match isQ o.op with
          |true=>qop P T true L H o λs=>match fc (ntm F f) L o.dst s with
           |some L'=>φ j λj'=>rec ⟨f,K,L',H,fl,fs⟩ (.cal i (j'::D))
           |none=>none
          |false=>eop T E (Mi fs) L H o λs H' L1=>match fc (ntm F f) L1 o.dst s with
            |some L'=>φ j λj'=>rec ⟨f,K,L',H',fl,fs⟩ (.cal i (j'::D))
            |none=>none)
         (λL=>match fc (ntm F f) L o.dst .undef with
          |some L'=>φ j λj'=>rec ⟨f,K,L',H,fl,fs⟩ (.cal i (j'::D))
          |none=>none)) rs
 |.ret=>match fT F f with
    |some fn=>match FW T H L fn.results.toList with
     |some ss=>match fs with
      |[]=>Ah T H ss fn.resultTypes.toList
      |⟨g,K2,i,k,L2,fl2,d⟩::fs=>match(aj (nth (ai F g) i))[k]? with
       |some o=>match fc (ntm F g) L2 o.dst (amw ss),ss.all SV.good with
        |some L',true=>match d with
         |none=>φ (k+1) λk'=>rec ⟨g,K2,L',H,fl2,fs⟩ (.ops i k')
         |some D=>match T4 E (aj (nth (ai F g) i)) (mkL (aj (nth (ai F g) i)).size D)||abS E (aj (nth (ai F g) i))with
          |true=>rec ⟨g,K2,L',H,fl2,fs⟩ (.tal i D)
          |false=>rec ⟨g,K2,L',H,fl2,fs⟩ (.cal i D)
        |_,_=>none
       |none=>none
     |none=>none
    |none=>none
def goC(φ:Nat->(Nat->Option (List RV))->Option (List RV)):Nat->Cfg->Pos->Option (List RV)
 |0,_,_=>none
 |m+1,⟨f,K,L,H,fl,fs⟩,p=>stC P F T E N Fin φ (goC φ m) f K L H fl fs p
def go:Nat->Cfg->Pos->Option (List RV):=goC P F T E N Fin λn k=>k n
theorem WK(c:Cfg)(p:Pos):go P F T E N Fin 0 c p=none:=rfl
theorem Xx(m:Nat)(c:Cfg)(p:Pos):go P F T E N Fin (m+1) c p=stC P F T E N Fin (λn k=>k n) (go P F T E N Fin m) c.f c.K c.L c.H c.fl c.fs p:=by cases c;rfl
def go2:Nat->Cfg->Pos->Option (List RV):=goC P F T E N Fin frc
theorem n8(m:Nat)(c:Cfg)(p:Pos):go2 P F T E N Fin m c p=go P F T E N Fin m c p:=by
 have e:(frc:Nat->(Nat->Option (List RV))->Option (List RV))=λn k=>k n:=by funext n k;cases n<;>rfl
 unfold go2 go;rw[e]
end
def run(P:Program)(F:FT)(T:TT)(E:Env)(N:NT):Nat->Nat->Cfg->Option (List RV)
 |0,_,_=>none
 |n+1,i,c=>go P F T E N (run P F T E N n) 4000 {c with K:=.lp i::c.K} (.node (i+1))
def nh(f:Nat)(args:List SV):Cfg:={f:=f,K:=[],L:=qU 0 args,H:=[],fl:=0,fs:=[]}
def Runs(P:Program)(F:FT)(T:TT)(E:Env)(N:NT)(i:Nat)(c:Cfg)(r:List RV):Prop:=∃n,run P F T E N n i c=S' r
end
section
def InLoop(P:Program)(c:Code)(Q:Exit->Act->World->Prop)(a:Act)(w:World):Prop:=
 ∀(b:Frame) (k:List Go.Item) (cs:List Frame),∃e a' w',Q e a' w'/\Arrives P (lone (b.at a (.code c:: .inLoop c::k)) cs w) b k cs e a' w'
section
variable {P:Program} {c:Code} {Q:Exit->Act->World->Prop} {a:Act} {w:World}
theorem InLoop.wp(h:InLoop P c Q a w):(Code.loop c).wp P Q a w:=by
 intro b k cs;obtain⟨e,a',w',hq,harr⟩:=h b k cs;exact⟨e,a',w',hq,.of_steps (.one step_loop) harr⟩
theorem InLoop.step(h:c.wp P (Exit.then (InLoop P c Q) Q) a w):InLoop P c Q a w:=by
 intro b k cs;obtain⟨e,a₁,w₁,hq,harr⟩:=h b (.inLoop c::k) cs;cases e with
 |normal=>
  obtain⟨e₂,a₂,w₂,hq₂,harr₂⟩:=hq b k cs;exact⟨e₂,a₂,w₂,hq₂,.of_steps (Steps.trans harr (.one step_inLoop)) harr₂⟩
 |exit id=>exact⟨_,a₁,w₁,hq,.pass (x:=.inLoop c) rfl (λ_ _=>.inl (by simp)) harr⟩
 |goto l=>exact⟨_,a₁,w₁,hq,.pass (x:=.inLoop c) rfl (λ_ _=>.inl (by simp)) harr⟩
 |ret=>exact⟨_,a₁,w₁,hq,.pass (x:=.inLoop c) rfl (λ_ _=>.inl (by simp)) harr⟩
 |panic ch=>exact⟨_,a₁,w₁,hq,.pass (x:=.inLoop c) rfl (λ_ _=>.inl (by simp)) harr⟩
 |outgrown=>exact⟨_,a₁,w₁,hq,.pass (x:=.inLoop c) rfl (λ_ _=>.inl (by simp)) harr⟩
end
theorem tH:∀c:Code,0<Code.size c:=by intro c;cases c<;>simp[Code.size]
theorem S6:∀(B:Code) (i:Nat),Code.size B<=i->nth B i=.skip:=by
 intro B;induction B with
 |seq a b iha ihb=>
  intro i h;simp only[Code.size]at h;cases i with
  |zero=>omega
  |succ i=>
   simp only[nth];grind
 |cond x a b iha ihb=>
  intro i h;simp only[Code.size]at h;cases i with
  |zero=>omega
  |succ i=>
   simp only[nth];grind
 |block id c ih=>intro i h;simp only[Code.size]at h;cases i with|zero=>omega|succ i=>exact ih _ (by omega)
 |loop c ih=>intro i h;simp only[Code.size]at h;cases i with|zero=>omega|succ i=>exact ih _ (by omega)
 |scope c ih=>intro i h;simp only[Code.size]at h;cases i with|zero=>omega|succ i=>exact ih _ (by omega)
 |_=>intro i h;simp only[Code.size]at h;cases i with|zero=>omega|succ i=>rfl
theorem Jw(a b:Code)(i:Nat):(match Nat.ble (i+1) (Code.size a)with|T'=>nth a i|F'=>nth b (i-Code.size a))=if i<Code.size a then nth a i else nth b (i-Code.size a):=by grind [apf,aoV]
theorem dR(c:Code):nth c 0=c:=by cases c<;>rfl
theorem sW(a b:Code)(i:Nat):nth (.seq a b) (i+1)=if i<Code.size a then nth a i else nth b (i-Code.size a):=Jw a b i
theorem pn(x:Operand)(a b:Code)(i:Nat):nth (.cond x a b) (i+1)=if i<Code.size a then nth a i else nth b (i-Code.size a):=Jw a b i
theorem AF:∀(B:Code) (i:Nat),i<Code.size B->i+Code.size (nth B i)<=Code.size B:=by
 intro B;induction B with
 |seq a b iha ihb=>
  intro i h;cases i with
  |zero=>rw[dR];omega
  |succ i=>
   rw[sW];simp only[Code.size]at h ⊢;grind
 |cond x a b iha ihb=>
  intro i h;cases i with
  |zero=>rw[dR];omega
  |succ i=>
   rw[pn];simp only[Code.size]at h ⊢;split
   ·rename_i hi;have:=iha i hi;omega
   ·have:=ihb (i-Code.size a) (by omega);omega
 |block id c ih=>intro i h;cases i with|zero=>rw[dR];omega|succ i=>simp only[Code.size]at h ⊢;have:=ih i (by omega);simp only[nth];omega
 |loop c ih=>intro i h;cases i with|zero=>rw[dR];omega|succ i=>simp only[Code.size]at h ⊢;have:=ih i (by omega);simp only[nth];omega
 |scope c ih=>intro i h;cases i with|zero=>rw[dR];omega|succ i=>simp only[Code.size]at h ⊢;have:=ih i (by omega);simp only[nth];omega
 |_=>intro i h;cases i with|zero=>rw[dR];omega|succ i=>simp only[Code.size]at h;omega
theorem vn:∀(B:Code) (i:Nat),i<Code.size B->∀j,j<Code.size (nth B i)->nth B (i+j)=nth (nth B i) j:=by
 intro B;induction B with
 |seq a b iha ihb=>
  intro i h j hj;cases i with
  |zero=>rw[dR,ao3]
  |succ i=>
   rw[sW]at hj ⊢;rw[show i+1+j=(i+j)+1 by omega,sW];simp only[Code.size]at h;split at hj
   ·rename_i hi;have:=AF a i hi;rw[apB hi,apB (by omega)];exact iha i hi j hj
   ·rename_i hi;rw[aph hi,aph (by omega),show i+j-Code.size a=(i-Code.size a)+j by omega];exact ihb (i-Code.size a) (by omega) j hj
 |cond x a b iha ihb=>
  intro i h j hj;cases i with
  |zero=>rw[dR,ao3]
  |succ i=>
   rw[pn]at hj ⊢;rw[show i+1+j=(i+j)+1 by omega,pn];simp only[Code.size]at h;split at hj
   ·rename_i hi;have:=AF a i hi;rw[apB hi,apB (by omega)];exact iha i hi j hj
   ·rename_i hi;rw[aph hi,aph (by omega),show i+j-Code.size a=(i-Code.size a)+j by omega];exact ihb (i-Code.size a) (by omega) j hj
 |block id c ih=>intro i h j hj;cases i with|zero=>rw[dR,ao3]|succ i=>simp only[Code.size]at h;rw[show i+1+j=(i+j)+1 by omega];exact ih i (by omega) j hj
 |loop c ih=>intro i h j hj;cases i with|zero=>rw[dR,ao3]|succ i=>simp only[Code.size]at h;rw[show i+1+j=(i+j)+1 by omega];exact ih i (by omega) j hj
 |scope c ih=>intro i h j hj;cases i with|zero=>rw[dR,ao3]|succ i=>simp only[Code.size]at h;rw[show i+1+j=(i+j)+1 by omega];exact ih i (by omega) j hj
 |_=>intro i h j hj;cases i with|zero=>rw[dR,ao3]|succ i=>simp only[Code.size]at h;omega
theorem C1{B:Code}{i:Nat}(h:nth B i≠.skip):i<Code.size B:=by grind [S6]
theorem W2{B:Code}{i:Nat}{a b:Code}(h:nth B i=.seq a b):nth B i=.seq (nth B (i+1)) (nth B (i+1+Code.size a)):=by
 have hlt:=C1 (B:=B) (i:=i) (by rw[h];simp);have ha:=tH a;have hb:=tH b;have h1:=vn B i hlt 1 (by rw[h];simp only[Code.size];omega);have h2:=vn B i hlt (1+Code.size a) (by rw[h];simp only[Code.size];omega);rw[h,show(1:Nat)=0+1 from rfl,sW,apB ha,dR]at h1;rw[h,show 1+Code.size a=Code.size a+1 by omega,sW,aph (by omega),arg,dR]at h2;grind
theorem Vj{B:Code}{i:Nat}{x:Operand}{a b:Code}(h:nth B i=.cond x a b):nth B i=.cond x (nth B (i+1)) (nth B (i+1+Code.size a)):=by
 have hlt:=C1 (B:=B) (i:=i) (by rw[h];simp);have ha:=tH a;have hb:=tH b;have h1:=vn B i hlt 1 (by rw[h];simp only[Code.size];omega);have h2:=vn B i hlt (1+Code.size a) (by rw[h];simp only[Code.size];omega);rw[h,show(1:Nat)=0+1 from rfl,pn,apB ha,dR]at h1;rw[h,show 1+Code.size a=Code.size a+1 by omega,pn,aph (by omega),arg,dR]at h2;grind
theorem My{B:Code}{i id:Nat}{c:Code}(h:nth B i=.block id c):nth B i=.block id (nth B (i+1)):=by grind [C1,vn,Code.size,nth]
theorem T7{B:Code}{i:Nat}{c:Code}(h:nth B i=.loop c):nth B i=.loop (nth B (i+1)):=by grind [C1,vn,Code.size,nth]
end
section
theorem Bn{d:Nat}{L:SL}{t:Nat}{s:SV}(h:aK (nH L d) t=S' s):aK L t=S' s:=h
theorem gv{d:Nat}{x:SV}{L:SL}{t:Nat}{s:SV}(h:aK ((d,x)::L) t=S' s):(t=d/\s=x)\/(t≠d/\aK L t=S' s):=by
 simp only[aK]at h;split at h
 ·simp_all
 ·refine .inr ⟨λe=>?_,h⟩;simp_all
theorem gD{L:SL}:∀{ts:List Nat} {t:Nat} {s:SV},aK (gI L ts) t=S' s->aK L t=S' s
 |[],_,_,h=>by simp[gI,aK]at h
 |u::ts,t,s,h=>by
  simp only[gI]at h;split at h
  ·rename_i x hx;rcases gv h with⟨rfl,rfl⟩|⟨_,h1⟩
   ·exact hx
   ·exact gD h1
  ·exact gD h
theorem gE{N:NT}{f i:Nat}{L:SL}{t:Nat}{s:SV}(h:aK (xI N f i L) t=S' s):aK L t=S' s:=by
 unfold xI at h;split at h
 ·exact gD h
 omega
theorem xx{L:SL}:∀{ts:List Nat} {L':SL},As L ts=S' L'->∀t s,aK L' t=S' s->aK L t=S' s
 |[],L',h,t,s,hs=>by simp only[As,aoX]at h;subst h;simp[aK]at hs
 |u::ts,L',h,t,s,hs=>by
  simp only[As]at h;split at h<;>try (cases h;done)
  rename_i x r h1 h2;injection h with h;subst h;rcases gv hs with⟨rfl,rfl⟩|⟨_,h3⟩
  ·exact h1
  ·exact xx h2 t s h3
theorem Au:∀{L:SL} {t:Nat} {s:SV},aK L t=S' s->(t,s)∈L
 |[],_,_,h=>by simp[aK]at h
 |(k,x)::r,t,s,h=>by
  rcases gv h with⟨rfl,rfl⟩|⟨_,h3⟩
  ·simp
  ·simp[Au h3]
theorem tX{k:Nat}{s:SV}(h:∀l,s≠.tup l):s.refsT k=s.refs k:=by cases s<;>first|rfl|exact(h _ rfl).elim
theorem zZ{fl j:Nat}{s:SV}(h:s.refs fl=T')(ho:s.of1 j=T'):j<fl:=by
 cases s<;>simp only[SV.of1,arp]at ho
 ·have:=aoS ho;subst this;exact aoV h
 ·have:=aoS ho;subst this;exact aoV h
 ·have:=aoS ho;subst this;exact aoV h
section
variable {Z:Nat->Prop} {w0:World} {n:Nat} {L L':SL} {H H':List Item} {G G':List Value} {w w':World} {a:Act} {F:FT}
theorem FR.put{d:Option Nat}{s:SV}{v:Value}(h:FR Z n L H G w a)(hp:fc n L d s=S' L')(hv:Rel G (Av Z H G) w s v):FR Z n L' H G w (a.put d v):=by
 cases d with
 |none=>simp only[fc,aoX]at hp;subst hp;exact h
 |some d=>
  simp only[fc]at hp;split at hp<;>try (cases hp;done)
  rename_i hd;have hd:=aoV hd;injection hp with hp;subst hp;refine⟨h.defers,by simp[Act.put,h.size],λt s' hs=>?_⟩;simp only[Act.put,Array.getElem?_setIfInBounds,h.size];rcases gv hs with⟨rfl,rfl⟩|⟨hne,h3⟩
  ·grind
  ·have h4:=Bn h3;obtain⟨u,h5,h6⟩:=h.slot t s' h4;grind
theorem FR.say{d:Nat}{s:SV}{v:Value}(h:FR Z n L H G w a)(hd:a.tmps[d]?=S' v)(hv:Rel G (Av Z H G) w s v):FR Z n ((d,s)::nH L d) H G w a:=
 ⟨h.defers,h.size,λt s' hs=>by
  rcases gv hs with⟨rfl,rfl⟩|⟨hne,h3⟩
  ·exact⟨v,hd,hv⟩
  ·exact h.slot t s' (Bn h3)⟩
theorem tg(hr:SR Z w0 H G w){s:SV}{v:Value}(h:Rel1 G (Av Z H G) w s v):s.refs H.length=true:=by
 have lt:∀(j:Nat) g,G[j]?=some g->Nat.ble (j+1) H.length=true:=λj g hg=>apf (by rw[<-hr.len];exact(aoZ.1 hg).1);cases s with
 |box j off=>obtain⟨b,h1,_⟩:=h;exact lt j _ h1
 |own j=>exact lt j _ h
 |oelt j sz i off=>obtain⟨b,m,c,h1,_⟩:=h;exact lt j _ h1
 |osl j sz lo n=>obtain⟨g,q,c,h1,_⟩:=h;exact lt j _ h1
 |clo f caps=>
  obtain⟨bs,h1,_⟩:=h;refine apa.2 λj hj=>?_;obtain⟨k,hk,rfl⟩:=aqT hj;obtain⟨b,_,hb⟩:=fR h1 k _ (aoO hk);grind
 |tup l=>exact h.elim
 |_=>rfl
theorem ko(hr:SR Z w0 H G w){s:SV}{v:Value}(h:Rel G (Av Z H G) w s v):s.refsT H.length=true:=by
 cases s with
 |tup l=>
  obtain⟨vs,_,h2⟩:=h;refine apa.2 λs hs=>?_;obtain⟨k,hk,rfl⟩:=aqT hs;obtain⟨b,_,hb⟩:=fR h2 k _ (aoO hk);grind [tg]
 |_=>rw[tX (λl e=>by cases e)];exact tg hr (n4 h (λl e=>by cases e))
def Ev(Z:Nat->Prop)(fl:Nat)(H:List Item)(G:List Value)(w:World)(H':List Item)(G':List Value)(w':World):Prop:=∀s v,Rel1 G (Av Z H G) w s v->s.refs fl=T'->Rel1 G' (Av Z H' G') w' s v
theorem Chg.ev{fl:Nat}{st ap:Bool}(h:Chg Z fl st ap H G w H' G' w'):Ev Z fl H G w H' G' w':=λs v hs hr=>h.pres s v hs λ_j hj=>zZ hr hj
def DOk(F:FT)(fm:Fm):Prop:=∀D,fm.d=S' D->Clo (aj (nth (ai F fm.f) fm.i)) (mkL (aj (nth (ai F fm.f) fm.i)).size D)/\Region.noSelect (aj (nth (ai F fm.f) fm.i))=T'/\D.length<=(aj (nth (ai F fm.f) fm.i)).size
def FrsOk(Z:Nat->Prop)(F:FT)(H:List Item)(G:List Value)(w:World):Nat->List Fm->List Act->Prop
 |_,[],[]=>True
 |fl,fm::fs,a::ats=>FR Z (ntm F fm.f) fm.L H G w a/\(∀t s,aK fm.L t=some s->s.refsT fl=true)/\(fm.fl<=fl/\(∃fn,fT F fm.f=some fn)/\DOk F fm)/\FrsOk Z F H G w fm.fl fs ats
 |_,_,_=>False
theorem qj{k l:Nat}(h:k<=l){s:SV}(hs:s.refs k=T'):s.refs l=true:=by
 have b:∀j,Nat.ble (j+1) k=true->Nat.ble (j+1) l=true:=λj hj=>apf (ao1 (aoV hj) h);cases s with
 |box j off=>exact b j hs
 |own j=>exact b j hs
 |oelt j sz i off=>exact b j hs
 |osl j sz i off=>exact b j hs
 |clo f caps=>exact apa.2 λj hj=>b j (apa.1 hs j hj)
 |tup l=>cases hs
 |_=>rfl
theorem HI{k l:Nat}(h:k<=l){s:SV}(hs:s.refsT k=T'):s.refsT l=true:=by
 cases s with
 |tup l=>exact apa.2 λs hm=>qj h (apa.1 hs s hm)
 |_=>rw[tX (λl e=>by cases e)]at hs ⊢;exact qj h hs
theorem Rel.ev{fl:Nat}(he:Ev Z fl H G w H' G' w'){s:SV}{v:Value}(h:Rel G (Av Z H G) w s v)(hr:s.refsT fl=T'):Rel G' (Av Z H' G') w' s v:=by
 cases s with
 |tup l=>
  obtain⟨vs,h1,h2⟩:=h;refine⟨vs,h1,?_⟩;clear h1;induction l generalizing vs with
  |nil=>cases vs<;>exact h2
  |cons s l ih=>
   simp only[SV.refsT,aqR,aoT]at hr;match vs,h2 with
   |v::vs,⟨g1,g2⟩=>exact⟨he s v g1 hr.1,ih hr.2 vs g2⟩
 |_=>rw[tX (λl e=>by cases e)]at hr;exact dN (he _ _ (n4 h (λl e=>by cases e)) hr)
theorem FrsOk.ev{fl:Nat}(he:Ev Z fl H G w H' G' w'):∀{fl':Nat} {fs:List Fm} {ats:List Act},fl'<=fl->FrsOk Z F H G w fl' fs ats->FrsOk Z F H' G' w' fl' fs ats
 |_,[],[],_,_=>trivial
 |fl',fm::fs,a::ats,hle,⟨h1,h2,h3,h4⟩=>⟨⟨h1.defers,h1.size,λt s hs=>by
   obtain⟨v,g1,g2⟩:=h1.slot t s hs;exact⟨v,g1,g2.ev he (HI hle (h2 t s hs))⟩⟩,h2,h3,FrsOk.ev he (ao1 h3.1 hle) h4⟩
 |_,[],_::_,_,h=>h.elim
 |_,_::_,[],_,h=>h.elim
theorem xd{a b k:Nat}:MT a b<=k↔a<=k/\b<=k:=by grind [MT,aoV,apf]
theorem Jy{k j:Nat}{s:SV}(h:s.ofm<=k)(ho:s.of1 j=T'):j<k:=by
 cases s<;>simp only[SV.of1,arp]at ho;all_goals (have:=aoS ho;subst this;exact h)
theorem Xb{s:SV}(h:∀l,s≠.tup l):s.ofmT=s.ofm:=by cases s<;>first|rfl|exact(h _ rfl).elim
theorem GH{k:Nat}:∀{L:SL} {t:Nat} {s:SV},slM L<=k->aK L t=S' s->s.ofmT<=k
 |[],_,_,_,h=>by simp[aK]at h
 |(q,x)::r,t,s,hk,h=>by
  obtain⟨h1,h2⟩:=xd.1 hk;rcases gv h with⟨rfl,rfl⟩|⟨_,h3⟩
  ·exact h1
  ·exact GH h2 h3
theorem Rel.evF{k:Nat}(he:∀s v,Rel1 G (Av Z H G) w s v->(∀j,s.of1 j=T'->j<k)->Rel1 G' (Av Z H' G') w' s v){s:SV}{v:Value}(h:Rel G (Av Z H G) w s v)(hr:s.ofmT<=k):Rel G' (Av Z H' G') w' s v:=by
 cases s with
 |tup l=>
  obtain⟨vs,h1,h2⟩:=h;refine⟨vs,h1,?_⟩;clear h1;induction l generalizing vs with
  |nil=>cases vs<;>exact h2
  |cons s l ih=>
   obtain⟨r1,r2⟩:=xd.1 hr;match vs,h2 with
   |v::vs,⟨g1,g2⟩=>exact⟨he s v g1 λj hj=>Jy r1 hj,ih r2 vs g2⟩
 |_=>rw[Xb (λl e=>by cases e)]at hr;exact dN (he _ _ (n4 h (λl e=>by cases e)) λj hj=>Jy hr hj)
theorem FrsOk.evF{k:Nat}(he:∀s v,Rel1 G (Av Z H G) w s v->(∀j,s.of1 j=T'->j<k)->Rel1 G' (Av Z H' G') w' s v):∀{fl':Nat} {fs:List Fm} {ats:List Act},Mi fs<=k->FrsOk Z F H G w fl' fs ats->FrsOk Z F H' G' w' fl' fs ats
 |_,[],[],_,_=>trivial
 |fl',fm::fs,a::ats,hle,⟨h1,h2,h3,h4⟩=>⟨⟨h1.defers,h1.size,λt s hs=>by
   obtain⟨v,g1,g2⟩:=h1.slot t s hs;exact⟨v,g1,g2.evF he (GH (xd.1 hle).1 hs)⟩⟩,h2,h3,FrsOk.evF he (xd.1 hle).2 h4⟩
 |_,[],_::_,_,h=>h.elim
 |_,_::_,[],_,h=>h.elim
theorem rN{fl:Nat}:∀{l:List (Nat×Nat×Ty)} {L:SL} {H:List Item} {G:List Value},SR Z w0 H G w->FR Z n L H G w a->fl<=H.length->qw l L H=S' (L',H')->∃G',SR Z w0 H' G' w/\FR Z n L' H' G' w a/\Ev Z fl H G w H' G' w/\fl<=H'.length
 |[],L,H,G,hr,hf,hfl,h=>by
  simp only[qw,aoX,apt]at h;obtain⟨rfl,rfl⟩:=h;exact⟨G,hr,hf,λs v h _=>h,hfl⟩
 |(t,et,e)::l,L,H,G,hr,hf,hfl,h=>by
  simp only[qw]at h;split at h
  ·rename_i hs;split at h<;>try (cases h;done)
   rename_i hn;have hn:=aoV hn;obtain⟨v,h1,h2⟩:=hf.slot t _ hs;have h2:v=.slice none 0 0:=h2;subst h2;obtain⟨G1,k1,k2,k3,k4⟩:=lL (et:=et) (e:=e) (xs:=[]) (css:=[]) hr hf (arl _ _) (arF w _ _ _) hn trivial fl F' F';obtain⟨G2,g1,g2,g3,g4⟩:=rN (fl:=fl) k1 (k2.say h1 k3) (by simp;omega) h;exact⟨G2,g1,g2,λs v hs hrf=>g3 s v (k4.ev s v hs hrf) hrf,g4⟩
  ·exact rN hr hf hfl h
theorem lI{fl:Nat}:∀{l:List (Nat×Ty)} {L:SL} {H:List Item},SR Z w0 H G w->FR Z n L H G w a->fl<=H.length->kJ fl l L H=S' (L',H')->SR Z w0 H' G w/\FR Z n L' H' G w a/\Ev Z fl H G w H' G w/\fl<=H'.length
 |[],L,H,hr,hf,hfl,h=>by
  simp only[kJ,aoX,apt]at h;obtain⟨rfl,rfl⟩:=h;exact⟨hr,hf,λs v h _=>h,hfl⟩
 |(t,e)::l,L,H,hr,hf,hfl,h=>by
  simp only[kJ]at h;split at h
  ·rename_i hs;obtain⟨v,h1,h2⟩:=hf.slot t _ hs;have h2:v=.slice none 0 0:=h2;subst h2;exact lI hr (hf.say (s:=.d (.sl e) []) h1 ⟨[_],yU,rfl⟩) hfl h
  ·rename_i j hs;split at h<;>try (cases h;done)
   rename_i L1 H1 hg;have hfz:pS fl [.tmp t] L H=S' (L1,H1):=by simp only[pS,opS,hs,hg]
   obtain⟨g1,g2,g3,_,_⟩:=mt hr hf hfz
   have hlen:H1.length=H.length:=by
    unfold rK at hg;split at hg<;>try (cases hg;done)
    simp only[aoX,apt]at hg;rw[<-hg.2];simp
   obtain⟨k1,k2,k3,k4⟩:=lI g1 g2 (by omega) h;exact⟨k1,k2,λs v hs hrf=>k3 s v (g3 s v hs λj hj=>zZ hrf hj) hrf,k4⟩
  ·exact lI hr hf hfl h
theorem jB{α:Type}{l:List α}{k j:Nat}{x:α}(h:(l.take k)[j]?=S' x):j<k/\l[j]?=S' x:=by grind
theorem D1(hl:Nat){b:Nat}(h:Av Z H G b):Av Z (H.take hl) (G.take hl) b:=⟨h.1,λj it g h1 h2 h3=>h.2 j it g (jB h1).2 h2 (jB h3).2⟩
theorem ug{hl:Nat}{s:SV}{v:Value}(h:Rel1 G (Av Z H G) w s v)(hs:s.refs hl=T'):Rel1 (G.take hl) (Av Z (H.take hl) (G.take hl)) w s v:=by
 have hk:Keeps (Av Z H G) (Av Z (H.take hl) (G.take hl)) w w:=⟨aoU _,λb _ h=>D1 hl h,λ_ _ _=>rfl⟩
 have g:∀(j:Nat) x,Nat.ble (j+1) hl=T'->G[j]?=S' x->(G.take hl)[j]?=S' x:=λj x hj hx=>by
  grind [aoV]
 cases s with
 |d t x=>obtain⟨cs,h1,h2⟩:=h;exact⟨cs,Ty.rd_keep hk h1,h2⟩
 |nil=>exact h
 |box j off=>obtain⟨b,h1,h2⟩:=h;exact⟨b,g j _ hs h1,h2⟩
 |elt e x off=>obtain⟨b,o,cs,h1,h2,h3,h4,h5⟩:=h;exact⟨b,o,cs,h1,D1 hl h2,h3,Ty.rd_keep hk h4,h5⟩
 |own j=>exact g j _ hs h
 |oelt j sz i off=>obtain⟨b,m,c,h1,h2⟩:=h;exact⟨b,m,c,g j _ hs h1,h2⟩
 |cut e xs=>obtain⟨p,h1,h2⟩:=h;exact⟨p,Ty.rd_keep hk h1,h2⟩
 |osl j sz lo n=>obtain⟨x,q,c,h1,h2⟩:=h;exact⟨x,q,c,g j _ hs h1,h2⟩
 |clo f caps=>
  obtain⟨bs,h1,h2⟩:=h;refine⟨bs,?_,h2⟩;clear h2;induction caps generalizing bs with
  |nil=>cases bs<;>exact h1
  |cons c caps ih=>
   simp only[SV.refs,aqR,aoT]at hs;match bs,h1 with
   |b::bs,⟨q1,q2⟩=>exact⟨g c _ hs.1 q1,ih hs.2 bs q2⟩
 |tup l=>exact h
 |undef=>exact h
 |dead=>trivial
theorem WD{hl:Nat}(hr:SR Z w0 H G w)(hrf:(H.take hl).all (Item.refs hl)=T'):SR Z w0 (H.take hl) (G.take hl) w:=by
 have hk:Keeps (Av Z H G) (Av Z (H.take hl) (G.take hl)) w w:=⟨aoU _,λb _ h=>D1 hl h,λ_ _ _=>rfl⟩
 refine⟨by simp[hr.len],hr.below,λj it g h1 h2=>?_,λi j it jt g h b hij h1 h2 h3 h4 h5 h6 h7=>hr.disj i j it jt g h b hij (jB h1).2 (jB h2).2 h3 h4 (jB h5).2 (jB h6).2 h7,hr.zf⟩;have hi:=hr.items j it g (jB h1).2 (jB h2).2;have hir:it.refs hl=true:=apa.1 hrf it (apM h1);cases it with
 |gone=>trivial
 |row et e xs=>obtain⟨css,k1,k2,k3⟩:=hi;exact⟨css,k1,a8 (λ_ _ h=>Ty.rd_keep hk h) k2,k3⟩
 |len e xs=>obtain⟨et,css,k1,k2,k3⟩:=hi;exact⟨et,css,k1,a8 (λ_ _ h=>Ty.rd_keep hk h) k2,k3⟩
 |rws t cs=>
  obtain⟨vs,k1,k3⟩:=hi;refine⟨vs,k1,?_⟩;clear k1 h1;induction cs generalizing vs with
  |nil=>cases vs<;>exact k3
  |cons s l ih=>
   simp only[Item.refs,aqR,aoT]at hir;match vs,k3 with
   |v::vs,⟨q1,q2⟩=>exact⟨ug q1 hir.1,ih hir.2 vs q2⟩
 |box t cs=>
  obtain⟨b,vs,rfl,k1,k2,k3⟩:=hi;refine⟨b,vs,rfl,k1,k2,?_⟩;clear k2 h1;induction cs generalizing vs with
  |nil=>cases vs<;>exact k3
  |cons s l ih=>
   simp only[Item.refs,aqR,aoT]at hir;match vs,k3 with
   |v::vs,⟨q1,q2⟩=>exact⟨ug q1 hir.1,ih hir.2 vs q2⟩
structure CR (Z:Nat->Prop) (F:FT) (w0:World) (c:Cfg) (G:List Value) (w:World) (a:Act) (ats:List Act):Prop where
 sr:SR Z w0 c.H G w
 fr:FR Z (ntm F c.f) c.L c.H G w a
 fl:c.fl<=c.H.length
 frs:FrsOk Z F c.H G w c.fl c.fs ats
theorem GS{R:SV->Value->Prop}{s:SV}(hs:∀v,R .nil v->R s v):∀{cs:List SV} {vs:List Value} {q:Nat},bJ R cs vs->cs[q]?=S' .nil->bJ R (cs.set q s) vs
 |[],_,_,_,h=>by simp at h
 |c::cs,[],_,h,_=>h.elim
 |c::cs,v::vs,0,⟨h1,h2⟩,h=>by
  simp only[apP,aoX]at h;subst h;exact⟨hs v h1,h2⟩
 |c::cs,v::vs,q+1,⟨h1,h2⟩,h=>by
  rw[apq]at h;exact⟨h1,GS hs h2 h⟩
theorem qf{fl:Nat}:∀{l:List (Nat×Nat×Nat×Ty)} {H:List Item} {G:List Value},SR Z w0 H G w->FR Z n L H G w a->fl<=H.length->∃G',SR Z w0 (nS l H) G' w/\FR Z n L (nS l H) G' w a/\Ev Z fl H G w (nS l H) G' w/\fl<=(nS l H).length
 |[],H,G,hr,hf,hfl=>⟨G,hr,hf,λs v h _=>h,hfl⟩
 |(j,q,et,e)::l,H,G,hr,hf,hfl=>by
  simp only[nS];split
  ·rename_i t cs hj;split
   ·rename_i hq hn;have hn:=aoV hn;obtain⟨G1,k1,k2,k3,k4⟩:=lL (et:=et) (e:=e) (xs:=[]) (css:=[]) hr hf (arl _ _) (arF w _ _ _) hn trivial fl F' F';have hlt:=(aoZ.1 hj).1;have hj1:(H++[.row et e []])[j]?=S' (.box t cs):=by rw[apc hlt];exact hj
    have hst:=pA (it':=.box t (cs.set q (.own H.length))) k1 hj1 rfl k1.below (aoU _) (λ_ _ _=>rfl)
    have hsr:=Ck (it':=.box t (cs.set q (.own H.length))) k1 hj1 rfl k1.below (aoU _) (λ_ _ _=>rfl) (λg hg=>by
     obtain⟨b,vs,e1,e2,e3,e4⟩:=k1.items j _ g hj1 hg;refine⟨b,vs,e1,e2,e3,GS (λv hv=>?_) (a8 (λs v h=>cU k1 hst h) e4) hq⟩;have hv:v=.slice none 0 0:=hv;subst hv;exact k3)
    rw[List.set_append,apB hlt]at hsr hst;obtain⟨G2,g1,g2,g3,g4⟩:=qf (fl:=fl) (l:=l) hsr (k2.keep λs v h=>cU k1 hst h) (by simp;omega);exact⟨G2,g1,g2,λs v hs hrf=>g3 s v (cU k1 hst (k4.ev s v hs hrf)) hrf,g4⟩
   ·exact qf hr hf hfl
  ·exact qf hr hf hfl
theorem Mj(hr:SR Z w0 H G w)(j:Nat):Step w0 j True H (H.set j .gone) G G w w:=by
 refine⟨by simp[hr.len],hr.below,aoU _,λ_ _ _=>rfl,λi g _ h=>h,λi it'' hi h=>?_,λit' g' b h hl _ _=>?_,λ_ g h=>h,λa h=>h⟩
 ·simp_all [aqK,tW]
 ·rw[List.getElem?_set_self']at h;cases e:H[j]?<;>rw[e]at h<;>cases h;cases hl
theorem Zr:∀(l:List Nat) {H:List Item},SR Z w0 H G w->SR Z w0 (erH l H) G w/\(∀s v,Rel1 G (Av Z H G) w s v->Rel1 G (Av Z (erH l H) G) w s v)/\(erH l H).length=H.length
 |[],_,hr=>⟨hr,λ_ _ h=>h,rfl⟩
 |j::l,H,hr=>by
  have hs:=Mj hr j
  obtain⟨g1,g2,g3⟩:=Zr l (hs.sr hr λit' g' h _=>by
   rw[List.getElem?_set_self']at h;cases e:H[j]?<;>rw[e]at h<;>cases h;trivial)
  exact⟨g1,λs v h=>g2 s v (cU hr hs h),by rw[erH,g3,ap3]⟩
theorem Vm{L:SL}:∀(k:Nat) {H:List Item} {G:List Value},SR Z w0 H G w->FR Z n L H G w a->∃G',SR Z w0 (H++List.replicate k .gone) G' w/\FR Z n L (H++List.replicate k .gone) G' w a/\∀s v,Rel1 G (Av Z H G) w s v->Rel1 G' (Av Z (H++List.replicate k .gone) G') w s v
 |0,H,G,hr,hf=>⟨G,by simpa using hr,by simpa using hf,by simp⟩
 |k+1,H,G,hr,hf=>by
  have hs:=jr (it:=.gone) (g:=.bool T') hr (arl _ _) (λb h=>by cases h);have h1:=uM (it:=.gone) (g:=.bool T') hr (arl _ _) (λb h=>by cases h) trivial;have h2:∀s v,Rel1 G (Av Z H G) w s v->Rel1 (G++[.bool T']) (Av Z (H++[.gone]) (G++[.bool T'])) w s v:=λs v h=>cU hr hs h;obtain⟨G',g1,g2,g3⟩:=Vm k h1 (hf.keep h2);rw[apg]at g1 g2 g3;exact⟨G',g1,g2,λs v h=>g3 s v (h2 s v h)⟩
theorem Xf{L:SL}{p:Nat}(hr:SR Z w0 H G w)(hf:FR Z n L H G w a):∃G',SR Z w0 (MG p H) G' w/\FR Z n L (MG p H) G' w a/\(∀s v,Rel1 G (Av Z H G) w s v->Rel1 G' (Av Z (MG p H) G') w s v)/\H.length<=(MG p H).length:=by
 unfold MG;split
 ·exact⟨G,hr,hf,λs v h=>h,aoU _⟩
 ·obtain⟨G',g1,g2,g3⟩:=Vm (p-H.length) hr hf;exact⟨G',g1,g2,g3,by simp⟩
theorem W9{x:NI}{c c':Cfg}{ats:List Act}(h:ae2 x c=S' c')(hc:CR Z F w0 c G w a ats):∃G',CR Z F w0 c' G' w a ats/\c'.f=c.f/\c'.K=c.K/\c'.fs=c.fs:=by
 unfold ae2 at h;split at h<;>try (cases h;done)
 rename_i L1 H1 h1;split at h<;>try (cases h;done)
 rename_i L2 H2 h2;split at h<;>try (cases h;done)
 rename_i L3 h3;split at h<;>try (cases h;done)
 rename_i hb;injection h with h;subst h;simp only[aoT]at hb;obtain⟨⟨b1,b2⟩,b3⟩:=hb;obtain⟨G0,f1,f2,f3,f4⟩:=qf (l:=x.bx) hc.sr hc.fr hc.fl;obtain⟨Gp,p1,p2,p3,p4⟩:=Xf (p:=x.pd) f1 f2;obtain⟨G1,g1,g2,g3',g4⟩:=rN p1 p2 (ao1 f4 p4) h1;have g3:Ev Z c.fl c.H G w H1 G1 w:=λs v hs hr=>g3' s v (p3 s v (f3 s v hs hr)) hr;obtain⟨k1,k2,k3,k4⟩:=lI g1 g2 g4 h2;have b3':=aoV b3;obtain⟨e1,e2,e3⟩:=Zr x.er k1;have hev:Ev Z c.fl c.H G w ((erH x.er H2).take x.hl) (G1.take x.hl) w:=λs v hs hrf=>ug (e2 s v (k3 s v (g3 s v hs hrf) hrf)) (qj b3' hrf);refine⟨G1.take x.hl,⟨WD e1 b2,⟨k2.defers,k2.size,λt s hs=>?_⟩,by simp[e3];omega,hc.frs.ev hev (aoU _)⟩,rfl,rfl,rfl⟩;obtain⟨v,q1,q2⟩:=(k2.keep e2).slot t s (xx h3 t s hs);have hrf:s.refs x.hl=true:=apa.1 b1 (t,s) (Au hs);exact⟨v,q1,dN (ug (n4 q2 λl e=>by subst e;cases hrf) hrf)⟩
end
end
section
def ii(P:Program)(fn:Func)(R:Ending->World->Prop)(B:Code):List KJ->List KI
 |[]=>[]
 |.seq i::K=>.seq i::ii P fn R B K
 |.blk id::K=>.blk id::ii P fn R B K
 |.lp i::K=>.lp (InLoop P (nth B (i+1)) (iy P fn R B (ii P fn R B K)))::ii P fn R B K
def fb(P:Program)(F:FT)(Rt:Ending->World->Prop):List Fm->List Act->Ending->World->Prop
 |fm::fs,a::ats=>λe w'=>∃v,e=.returned v/\∃fn o,fT F fm.f=some fn/\(aj (nth (ai F fm.f) fm.i))[fm.k]?=some o/\
   (fm.d=none->AtR P fn (fb P F Rt fs ats) (ai F fm.f) (ii P fn (fb P F Rt fs ats) (ai F fm.f) fm.K) fm.i (fm.k+1) (a.put o.dst v) w')/\
   (∀D,fm.d=S' D->wpG P (aj (nth (ai F fm.f) fm.i)) (iy P fn (fb P F Rt fs ats) (ai F fm.f) (ii P fn (fb P F Rt fs ats) (ai F fm.f) fm.K)) (λ_=>True) ((aj (nth (ai F fm.f) fm.i)).size-D.length) (mkL (aj (nth (ai F fm.f) fm.i)).size D) (a.put o.dst v) w')
 |_,_=>Rt
section
variable {Z:Nat->Prop} {w0:World} {n:Nat} {L L':SL} {H H':List Item} {G G':List Value} {w w':World} {a:Act} {F:FT} {P:Program} {T:TT}
theorem d8{R:Type}{ops:Array Oper}{o:Oper}{yes no:SL->Option R}{r:R}(hf:FR Z n L H G w a)(h:cN ops L o yes no=S' r):
  (∃L',yes L'=S' r/\FR Z n L' H G w a/\Region.wanted o (yielded ops a.tmps)=T')\/(∃L',no L'=S' r/\FR Z n L' H G w a/\Region.wanted o (yielded ops a.tmps)=F'):=by
 unfold cN at h;split at h
 ·grind [Region.wanted]
 ·rename_i j want hg;split at h<;>try (cases h;done)
  rename_i d hd;split at h<;>try (cases h;done)
  ·rename_i b hb;obtain⟨v,h1,h2⟩:=hf.slot d _ hb;have hv:=sR h2;subst hv;have hy:∀b':Bool,b=b'->FR Z n ((d,.d .bool b')::nH L d) H G w a:=λb' e=>by subst e;exact hf.say h1 h2
   have hw:Region.wanted o (yielded ops a.tmps)=(b==want):=by
    simp only[Region.wanted,hg,yielded,hd,Option.bind_some,h1];cases b<;>cases want<;>rfl
   grind
  ·rename_i hb;obtain⟨v,h1,h2⟩:=hf.slot d _ hb;have h2:v=undef:=h2;subst h2;refine .inr ⟨L,h,hf,?_⟩;simp only[Region.wanted,hg,yielded,hd,Option.bind_some,h1];rfl
theorem W1{fn:Func}{R:Ending->World->Prop}{B:Code}{K:List KI}{i k:Nat}(hk:(aj (nth B i))[k]?=none)(h:iy P fn R B K .normal a w):AtR P fn R B K i k a w:=by simp_all [qq]
theorem Yr{fn:Func}{R:Ending->World->Prop}{B:Code}{K:List KI}{i k:Nat}{o:Oper}(hk:(aj (nth B i))[k]?=S' o)(hw:Region.wanted o (yielded (aj (nth B i)) a.tmps)=T')
  (h:o.upon P a (λa' w'=>AtR P fn R B K i (k+1) a' w') (iy P fn R B K) ((execOp a.eval o).run P w)):AtR P fn R B K i k a w:=by
 unfold AtR
 have:(aj (nth B i)).toList.drop k=o::(aj (nth B i)).toList.drop (k+1):=by
  grind [ao5]
 rw[this];unfold wpList;rw[apB hw];exact .inl h
theorem ago{fn:Func}{R:Ending->World->Prop}{B:Code}{K:List KI}{i k:Nat}{o:Oper}(hk:(aj (nth B i))[k]?=S' o)(hw:Region.wanted o (yielded (aj (nth B i)) a.tmps)=F')
  (h:AtR P fn R B K i (k+1) (a.put o.dst undef) w):AtR P fn R B K i k a w:=by
 unfold AtR
 have:(aj (nth B i)).toList.drop k=o::(aj (nth B i)).toList.drop (k+1):=by
  grind [ao5]
 rw[this];unfold wpList;rwa [aph (by rw[hw];simp)]
theorem Qs(hT:eO P T=T')(hr:SR Z w0 H G w)(hf:FR Z n L H G w a):∀{rs:List ResultVar} {ss:List SV},FW T H L rs=S' ss->∃vs,bJ (Rel G (Av Z H G) w) ss vs/\
  ((rs.mapM (m:=Sem) fun
   |.tmp t=>pure (a.tmps.getD t undef)
   |.cell ad t=>do loadVar t (<-asAddr (a.tmps.getD ad undef))).run P w)=.ok vs w:=by
 intro rs;induction rs with
 |nil=>intro ss h;simp only[FW,aoX]at h;subst h;exact⟨[],trivial,rfl⟩
 |cons q rs ih=>
  intro ss h;rw[List.mapM_cons];cases q with
  |tmp t=>
   simp only[FW]at h;split at h<;>try (cases h;done)
   rename_i s l h1 h2;injection h with h;subst h;obtain⟨vs,g1,g2⟩:=ih h2;obtain⟨v,k1,k2⟩:=hf.slot t s h1;refine⟨v::vs,⟨k2,g1⟩,?_⟩;simp only[apO,aqh,api,ap2,k1,Option.getD_some]at g2 ⊢;rw[g2];rfl
  |cell ad t=>
   simp only[FW]at h;split at h<;>try (cases h;done)
   rename_i j off i l h1 hi h2;split at h<;>try (cases h;done)
   rename_i bt cells hj;split at h<;>try (cases h;done)
   rename_i s hl;injection h with h;subst h;obtain⟨vs,g1,g2⟩:=ih h2;obtain⟨p,k1,k2⟩:=hf.slot ad _ h1;obtain⟨v,e1,e2⟩:=FK (rw:=true) hr (aG hT hi) k2 hj hl;obtain⟨b,hb,rfl⟩:=k2;refine⟨v::vs,⟨dN e1,g1⟩,?_⟩;have e3:=e2 w Agr.refl;simp only[Instr.loadAt,Instr.sureAddr,apO,aqh,api]at e3;simp only[apO,aqh,api,ap2,k1,Option.getD_some,asAddr,e3]at g2 ⊢;rw[g2];rfl
theorem OD{fn:Func}{R:Ending->World->Prop}(hT:eO P T=T')(hr:SR Z w0 H G w)(hf:FR Z n L H G w a){ss:List SV}(h:FW T H L fn.results.toList=S' ss)(hR:∀vs,bJ (Rel G (Av Z H G) w) ss vs->R (.returned (kS vs)) w):bodyPost P fn R .ret a w:=by
 obtain⟨vs,g1,g2⟩:=Qs (P:=P) hT hr hf h;refine⟨hf.defers,kS vs,?_,hR vs g1⟩;unfold Go.results;generalize hrs:fn.results=rs at*
 obtain⟨l⟩:=rs;simp only[List.mapM_toArray,bind_map_left];simp only[apO];refine(congrArg (λr:Result (List Value)=>r.andThen λ(a:List Value) w'=>Sem.run P (pure (if h:a.toArray.size=1 then a.toArray[0]else Value.tuple a.toArray)) w') g2).trans ?_;match vs with
 |[]=>rfl
 |[x]=>rfl
 |x::y::r=>simp[kS]
theorem TJ{ss:List SV}{vs:List Value}(hn:∀s∈ss,∀l,s≠.tup l)(h:bJ (Rel G (Av Z H G) w) ss vs):Rel G (Av Z H G) w (amw ss) (kS vs):=by
 have h1:bJ (Rel1 G (Av Z H G) w) ss vs:=by
  induction ss generalizing vs with
  |nil=>cases vs<;>exact h
  |cons s ss ih=>
   match vs,h with
   |v::vs,⟨q1,q2⟩=>exact⟨n4 q1 (hn s (by simp)),ih (λs hs=>hn s (by simp[hs])) q2⟩
 match ss,vs,h,h1 with
 |[],[],_,_=>exact⟨[],rfl,trivial⟩
 |[s],[v],⟨q1,_⟩,_=>exact q1
 |s::s'::ss,v::v'::vs,_,h1=>exact⟨v::v'::vs,rfl,h1⟩
theorem Ex{A:Nat->Prop}:∀{l:List SV} {r:List RV} {vs:List Value},Ah.outL l=S' r->bJ (Rel1 [] A w) l vs->rvS r=S' l/\(∀q∈r,∃t x,q=.d t x)
 |[],r,vs,h,_=>by simp only[Ah.outL,aoX]at h;subst h;exact⟨rfl,by simp⟩
 |s::l,r,vs,h,ha=>by
  unfold Ah.outL at h;split at h
  ·rename_i e;cases e
  ·rename_i t x l' e;injection e with e1 e2;subst e1 e2;split at h<;>try (cases h;done)
   rename_i r' hr';injection h with h;subst h;match vs,ha with
   |v::vs,⟨_,h2⟩=>
    obtain⟨g1,g2⟩:=Ex hr' h2;exact⟨by simp[rvS,g1],λq hq=>by rcases ao7.1 hq with rfl|hq;exact⟨t,x,rfl⟩;exact g2 q hq⟩
  ·cases h
theorem F7{T:TT}{H:List Item}:∀{ss al:List SV} {tys:List Nat},fe T H ss tys=S' al->al.length=ss.length
 |[],al,[],h=>by simp only[fe,aoX]at h;subst h;rfl
 |[],al,_::_,h=>by simp[fe]at h
 |_::_,al,[],h=>by simp[fe]at h
 |s::ss,al,t::ts,h=>by
  simp only[fe]at h;split at h<;>try (cases h;done)
  rename_i r hr;have ih:=F7 hr;repeat' split at h
  all_goals first|(cases h;done)|(injection h with h;subst h;simp[ih])
theorem F6{A:Nat->Prop}{e:Ty}:∀{l:List SV} {xs:List (List e.D)} {vs:List Value},Td e l=S' xs->bJ (Rel1 [] A w) l vs->bJ (λl y=>(Ty.sl e).rd A w l y) (vs.map ([·])) xs/\xs.length=l.length
 |[],xs,vs,h,ha=>by
  simp only[Td,aoX]at h;subst h;cases vs with
  |nil=>exact⟨trivial,rfl⟩
  |cons v vs=>cases ha
 |s::l,xs,vs,h,ha=>by
  unfold Td at h;split at h
  ·rename_i e';cases e'
  ·rename_i t x r e';injection e' with e1 e2;subst e1 e2;split at h<;>try (cases h;done)
   rename_i y m h1 h2;injection h with h;subst h;obtain⟨rfl,rfl⟩:=cZ h1;match vs,ha with
   |v::vs,⟨⟨cs,g1,g2⟩,g3⟩=>
    obtain⟨k1,k2⟩:=F6 h2 g3;refine⟨⟨?_,k1⟩,by simp[k2]⟩;have g1':=g1;obtain⟨p,n,c,css,rfl,_⟩:=g1';have g2:v=_:=g2;subst g2;exact g1
  ·cases h
theorem Ob(_hT:eO P T=T')(hr:SR Z w0 H G w){ss:List SV}{tys:List Nat}{r:List RV}{vs:List Value}(h:Ah T H ss tys=S' r)(ha:bJ (Rel G (Av Z H G) w) ss vs):rn Z w0.heap.size w r (kS vs):=by
 unfold Ah at h;split at h
 ·rename_i j;split at h<;>try (cases h;done)
  rename_i et e xs hj;injection h with h;subst h;match vs,ha with
  |[v],⟨hv,_⟩=>
   obtain⟨css,k1,k2,k3⟩:=hr.items j _ _ hj hv;refine⟨css,k1,a8 (λl y h=>Ty.rd_keep ⟨aoU _,λb _ hA=>⟨hA.1,hA.2 j _ _ hj rfl hv⟩,λ_ _ _=>rfl⟩ h) k2,k3⟩
  ·rename_i et cs hj;split at h<;>try (cases h;done)
   rename_i l hl;split at h<;>try (cases h;done)
   split at h<;>try (cases h;done)
   rename_i e _ _ xs hx;injection h with h;subst h;match vs,ha with
   |[v],⟨hv,_⟩=>
    obtain⟨us,k1,k2⟩:=hr.items j _ _ hj hv;have h1:=io (A:=λb=>Z b/\bh v≠S' b) (ss0:=cs) hr (λb _ hb=>⟨hb.1,hb.2 j _ _ hj rfl hv⟩) (.inl λk g b hg hb ⟨_,_,_,hk⟩=>⟨hr.zf b (((hr.items k _ g hk hg).blk rfl hb).1 rfl),hr.disj k j _ _ _ _ b (λe=>by subst e;rw[hj]at hk;cases hk) hk hj rfl rfl hg hv hb⟩) (λs hs=>hs) hl (a8 (λs v h=>dN h) k2);obtain⟨g1,g2⟩:=F6 hx h1;have hlen:=F7 hl;refine⟨us.map ([·]),?_,g1,Nat.zero_lt_one⟩;rw[show(us.map ([·])).flatten=us by clear k1 k2 h1 g1;induction us<;>simp_all,g2,hlen];exact k1
 ·split at h<;>try (cases h;done)
  split at h<;>try (cases h;done)
  split at h<;>try (cases h;done)
  split at h<;>try (cases h;done)
  rename_i hb;injection h with h;subst h;match vs,ha with
  |[v],⟨hv,_⟩=>
   have hv:v=.slice none 0 0:=hv;subst hv;exact⟨[],arF _ _ _ _,trivial,aoV hb⟩
 ·split at h<;>try (cases h;done)
  rename_i l hl;have h1:bJ (Rel1 [] Z w) l vs:=io (ss0:=ss) hr (λ_ _ h=>h.1) (.inl λj g b hg hb ⟨_,_,_,hj⟩=>hr.zf b (((hr.items j _ g hj hg).blk rfl hb).1 rfl)) (λs hs=>hs) hl ha;obtain⟨g1,g2⟩:=Ex h h1;match r,g1,g2 with
  |[],g1,_=>
   simp only[rvS,aoX]at g1;subst g1;match vs,h1 with
   |[],_=>exact⟨[],rfl,[],rfl,trivial⟩
  |[.d t x],g1,_=>
   simp only[rvS,aoX]at g1;subst g1;match vs,h1 with
   |[v],⟨q,_⟩=>exact q
  |[.new et e xs],_,g2=>obtain⟨t,x,he⟩:=g2 (.new et e xs) (by simp);cases he
  |q::q'::r,g1,_=>
   have hlen:vs.length=(q::q'::r).length:=by
    rw[<-dw h1]
    have:∀(r:List RV) (l:List SV),rvS r=S' l->l.length=r.length:=by
     intro r;induction r with
     |nil=>intro l h;simp only[rvS,aoX]at h;subst h;rfl
     |cons q r ih=>
      intro l h;cases q<;>simp only[rvS]at h<;>split at h<;>first|(cases h;done)|(injection h with h;subst h;simp[ih _ (by assumption)])
    exact this _ _ g1
   match vs,hlen,h1 with
   |v::v'::vs,_,h1=>cases q<;>exact⟨v::v'::vs,rfl,l,g1,h1⟩
end
end
section
theorem kq{Z:Nat->Prop}{H:List Item}{G:List Value}{w:World}{a:Act}:∀{ss:List SV} {vs:List Value} {k:Nat},bJ (Rel G (Av Z H G) w) ss vs->(∀t v,look (Gg k vs) t=S' v->a.tmps[t]?=S' v)->∀t s,aK (qU k ss) t=S' s->∃v,a.tmps[t]?=S' v/\Rel G (Av Z H G) w s v
 |[],[],k,_,_,t,s,h=>by simp[qU,aK]at h
 |s0::ss,v0::vs,k,⟨h1,h2⟩,ha,t,s,h=>by
  rcases gv h with⟨rfl,rfl⟩|⟨hne,h3⟩
  ·exact⟨v0,ha t v0 (by simp[Gg,look]),h1⟩
  ·refine kq h2 (λu x hx=>ha u x ?_) t s h3;simp only[Gg,look];split
   ·rename_i hb;have e:k=u:=aoS hb;have:=(BS vs (k+1) u x hx).1;omega
   ·exact hx
def AtG(P:Program)(fn:Func)(R:Ending->World->Prop)(B:Code)(K:List KI)(i:Nat)(S0:World->Prop)(m:Nat)(D:List Nat)(a:Act)(w:World):Prop:=
 wpG P (aj (nth B i)) (iy P fn R B K) S0 m (mkL (aj (nth B i)).size D) a w
def iC(P:Program)(F:FT)(Rt:Ending->World->Prop)(c:Cfg)(fn:Func)(G:List Value)(w:World)(a:Act)(ats:List Act):Pos->Prop
 |.nrm=>iy P fn (fb P F Rt c.fs ats) (ai F c.f) (ii P fn (fb P F Rt c.fs ats) (ai F c.f) c.K) .normal a w
 |.node i=>At P fn (fb P F Rt c.fs ats) (ai F c.f) (ii P fn (fb P F Rt c.fs ats) (ai F c.f) c.K) i a w
 |.ops i k=>AtR P fn (fb P F Rt c.fs ats) (ai F c.f) (ii P fn (fb P F Rt c.fs ats) (ai F c.f) c.K) i k a w
 |.ret=>bodyPost P fn (fb P F Rt c.fs ats) .ret a w
 |.tam i D=>D=[]->Region.noSelect (aj (nth (ai F c.f) i))=true->AtG P fn (fb P F Rt c.fs ats) (ai F c.f) (ii P fn (fb P F Rt c.fs ats) (ai F c.f) c.K) i (λ_=>True) (aj (nth (ai F c.f) i)).size [] a w
 |.tbx i D=>D=[]->Region.noSelect (aj (nth (ai F c.f) i))=true->AtG P fn (fb P F Rt c.fs ats) (ai F c.f) (ii P fn (fb P F Rt c.fs ats) (ai F c.f) c.K) i (λ_=>True) (aj (nth (ai F c.f) i)).size [] a w
 |.tal i D=>∀S0:World->Prop,(∀w w',S0 w->(w.heap.size<=w'.heap.size/\∀b,b<w.heap.size->w'.heap[b]?=w.heap[b]?)->S0 w')->(storeDone (aj (nth (ai F c.f) i)) (mkL (aj (nth (ai F c.f) i)).size D)\/S0 w)->Clo (aj (nth (ai F c.f) i)) (mkL (aj (nth (ai F c.f) i)).size D)->Region.noSelect (aj (nth (ai F c.f) i))=true->∀m',m'+D.length=(aj (nth (ai F c.f) i)).size->AtG P fn (fb P F Rt c.fs ats) (ai F c.f) (ii P fn (fb P F Rt c.fs ats) (ai F c.f) c.K) i S0 m' D a w
 |.cal i D=>Clo (aj (nth (ai F c.f) i)) (mkL (aj (nth (ai F c.f) i)).size D)->Region.noSelect (aj (nth (ai F c.f) i))=true->∀m',m'+D.length=(aj (nth (ai F c.f) i)).size->AtG P fn (fb P F Rt c.fs ats) (ai F c.f) (ii P fn (fb P F Rt c.fs ats) (ai F c.f) c.K) i (λ_=>True) m' D a w
 |.drw i rw eff D=>∀Hs Gs ws,((storeDone (aj (nth (ai F c.f) i)) (mkL (aj (nth (ai F c.f) i)).size D)/\eff=true)\/(Agr rw Hs Gs ws w/\(∀b,b<ws.heap.size->fW c.H G b->fW Hs Gs b)/\(eff=false->c.H=Hs/\G=Gs/\w=ws)/\¬storeDone (aj (nth (ai F c.f) i)) (mkL (aj (nth (ai F c.f) i)).size D)))->Clo (aj (nth (ai F c.f) i)) (mkL (aj (nth (ai F c.f) i)).size D)->Region.noSelect (aj (nth (ai F c.f) i))=true->
   ∀m',m'+D.length=(aj (nth (ai F c.f) i)).size->AtG P fn (fb P F Rt c.fs ats) (ai F c.f) (ii P fn (fb P F Rt c.fs ats) (ai F c.f) c.K) i (Agr rw Hs Gs ws) m' D a w
section
variable {Z:Nat->Prop} {w0:World} {F:FT} {P:Program} {T:TT} {E:Env} {N:NT} {Fin:Nat->Cfg->Option (List RV)} {Rt:Ending->World->Prop} {r:List RV}
theorem wW{fn:Func}{R:Ending->World->Prop}{B:Code}{id:Nat}:∀{K K':List KJ},EB id K=S' K'->xo id (ii P fn R B K)=S' (ii P fn R B K')
 |[],K',h=>by simp[EB]at h
 |.blk j::K,K',h=>by
  simp only[EB]at h;simp only[ii,xo];split at h
  ·rename_i hb;rw[hb];injection h with h;rw[h]
  ·rename_i hb;rw[hb];exact wW h
 |.seq _::K,K',h=>by simp only[EB]at h;simp only[ii,xo];exact wW h
 |.lp _::K,K',h=>by simp only[EB]at h;simp only[ii,xo];exact wW h
theorem CA {L : SL} {H : List Item} {G : List Value} {w : World} {a : Act} {n g : Nat} {ss : List SV} {o : Op} (hf : FR Z n L H G w a) (h : Gh F E L o = some (g, ss)) : ∃ f args tys fn caps, o = .call ⟨.value f, args, tys⟩ /\ fT F g = some fn /\ a.eval f = .func (.func g) #[] caps /\ bJ (Rel G (Av Z H G) w) ss (args.map a.eval ++ caps).toList /\ ss.length <= fn.ntmps /\ (!(fn.name == "runtime.NumGoroutine")) = true /\ fn.body.isSome = true := by
 unfold Gh at h;split at h<;>try (cases h;done)
 rename_i f args tys;split at h<;>try (cases h;done)
 rename_i g' caps hs;split at h<;>try (cases h;done)
 split at h<;>try (cases h;done)
 rename_i fn ss' hfn hss;split at h<;>try (cases h;done)
 rename_i hb;obtain⟨rfl,rfl⟩:=h;simp only[aoT]at hb;obtain⟨bs,hbs,hfv⟩:=aF hf hs;refine⟨f,args,tys,fn,_,rfl,hfn,hfv,?_,by simp;exact aoV hb.1,hb.2.1,hb.2.2⟩;have h1:=jC hf hss
 have h2:bJ (Rel G (Av Z H G) w) (caps.map λj=>.box j 0) (bs.map λb=>Value.pointer (S' ⟨b,0,none⟩)):=by
  clear hs hfv;induction caps generalizing bs with
  |nil=>cases bs<;>exact hbs
  |cons c caps ih=>
   match bs,hbs with
   |b::bs,⟨q1,q2⟩=>exact⟨⟨b,q1,rfl⟩,ih (by
    simp only[ao8]at hb;exact⟨apf (by have:=aoV hb.1;omega),hb.2⟩) bs q2⟩
 simp_all [dJ]
theorem NX{L:SL}{ops:Array Oper}{rs:List Nat}{j:Nat}(h:Uy F E L ops rs=S' j):rs=[j]:=by
 unfold Uy at h;split at h<;>try (cases h;done)
 split at h<;>try (cases h;done)
 split at h<;>try (cases h;done)
 injection h with h;rw[h]
theorem xO{ops:Array Oper}{eff:Bool}{D:List Nat}:∀{rs:List Nat} {j:Nat},Bl ops eff D rs=S' j->j∈rs/\∃o,ops[j]?=S' o/\isQ o.op=T'/\(nJ o.op=T'->eff=F'/\wX ops j=T')/\o.dst.isSome=T'/\Region.free .any ops (mkL ops.size D) j=T'
 |[],j,h=>by simp[Bl]at h
 |q::rs,j,h=>by
  simp only[Bl]at h;split at h<;>try (cases h;done)
  rename_i o ho;split at h
  ·rename_i hb;injection h with h;subst h;simp only[aoT,aql,Bool.and_eq_false_iff,arI,Bool.not_eq_false']at hb;obtain⟨⟨⟨b1,b2⟩,b3⟩,b4⟩:=hb;exact⟨by simp,o,ho,b1,λhl=>by rcases b2 with b2|b2;rw[hl]at b2;cases b2;exact b2,b3,b4⟩
  ·obtain⟨h1,h2⟩:=xO h;exact⟨by simp[h1],h2⟩
end
end
end Go.Proofs.YtoimchcjhdcdmaaGreat
end
