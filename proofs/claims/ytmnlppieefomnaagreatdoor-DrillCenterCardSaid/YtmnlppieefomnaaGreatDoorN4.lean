/- Regions of calls whose results are data: one order stands for all. -/
import Derived.Test.YtmnlppieefomnaaGreatDoorN3
noncomputable section
namespace Go.Proofs.YtmnlppieefomnaaGreatDoor
open Go.RowKit Go.IntKind
theorem amS:type_of% @List.getElem?_cons_succ:=@List.getElem?_cons_succ
theorem ang:type_of% @List.getElem?_cons_zero:=@List.getElem?_cons_zero
theorem anl:type_of% @List.pairwise_cons:=@List.pairwise_cons
theorem anT:type_of% @List.getElem?_set_ne:=@List.getElem?_set_ne
theorem anY:type_of% @List.getElem?_set_self:=@List.getElem?_set_self
theorem aov:type_of% @List.mem_or_eq_of_mem_set:=@List.mem_or_eq_of_mem_set
theorem aoT:type_of% @Nat.beq_refl:=@Nat.beq_refl
theorem ao6:type_of% @Bool.or_eq_false_iff:=@Bool.or_eq_false_iff
def isQ:Op->Bool
 |.move _|.assign _|.nilCheck _|.pick .. |.load .. |.fieldAddr .. |.indexAddr .. |.extract .. |.build .. |.makeFunc .. |.slice .. |.binOp .. |.unOp .. |.convert .. |.index .. |.field .. =>true
 |.call ⟨.builtin .len,_,_⟩|.call ⟨.builtin .max,_,_⟩|.call ⟨.builtin .min,_,_⟩=>true
 |_=>false
theorem JQ{o:Op}(h:isQ o=true):dR o=false:=by
 cases o with
 |store=>cases h
 |call c=>
  obtain⟨f,x,y⟩:=c;cases f with
  |builtin b=>cases b<;>first|rfl|cases h
  |_=>rfl
 |_=>rfl
def gI(L:SL):List Nat->SL
 |[]=>[]
 |t::ts=>match aI L t with
  |some s=>(t,s)::gI L ts
  |none=>gI L ts
abbrev nS(L:SL)(_:Nat):SL:=L
def c9{R:Type}(ops:Array Oper)(L:SL)(o:Oper)(yes no:SL->Option R):Option R:=match o.guard with
 |none=>yes L
 |some (j,want)=>match(ops[j]?).bind (·.dst)with
  |some d=>match aI L d with
   |some (.d .bool b)=>match b with
    |true=>match want with
     |true=>yes ((d,.d .bool true)::L)
     |false=>no ((d,.d .bool true)::L)
    |false=>match want with
     |true=>no ((d,.d .bool false)::L)
     |false=>yes ((d,.d .bool false)::L)
   |some .undef=>no L
   |_=>none
  |none=>none
def kK(o:Op):Bool:=isQ o&&match o with
 |.binOp op _ _ y _=>(H5 op y).isNone
 |_=>true
def Fa(E:Env):Op->Bool
 |.call ⟨.value (.func f),_,_⟩=>match lL E f with
  |some sp=>sp.tame&&(match sp.mut_ with
   |none=>true
   |some g=>g.bx.isSome)
  |none=>false
 |_=>false
def bj(o:Oper):Bool:=(match o.op with
 |.alloc _=>true
 |_=>false)&&o.guard.isNone&&o.dst.isSome
def fo(E:Env)(o:Oper):Bool:=kK o.op||Fa E o.op
def dY(E:Env)(ops:Array Oper)(j:Nat):Bool:=match ops[j]? with
 |some o=>fo E o
 |none=>false
def eF(E:Env)(ops:Array Oper)(j:Nat):Bool:=match ops[j]? with
 |some o=>!(fo E o)&&!(bj o)
 |none=>false
def iV(E:Env)(ops:Array Oper)(i:Nat):Bool:=(List.range ops.size).all λs=>!(eF E ops s)||gz ops 4 s i
def Ce(E:Env)(ops:Array Oper):Bool:=ops.toList.all λo=>fo E o||bj o||(isSt o.op&&o.guard.isNone&&o.dst.isNone)
def AV(o:Oper):Bool:=kK o.op&&!(nI o.op)
def ce(E:Env)(ops:Array Oper):Bool:=(List.range ops.size).all λj=>match ops[j]? with
 |some o=>!(fo E o)||AV o||iV E ops j
 |none=>true
def UX(ops:Array Oper):Bool:=ops.toList.all λo=>match o.op with
 |.store _ (.tmp d) _=>ops.toList.any λa=>bj a&&(match a.dst with
  |some e=>Nat.beq e d
  |none=>false)
 |.store .. =>false
 |_=>true
def aju(E:Env)(ops:Array Oper):Bool:=(ce E ops||(Ce E ops&&UX ops))&&E.any (λp=>p.2.tame)&&(!(ops.toList.any bj)||Ce E ops)
def abr:List RV->Option SV
 |[.d t x]=>some (.d t x)
 |[.new _ _ _]=>none
 |rs=>match rvS rs with
  |some l=>some (.tup l)
  |none=>none
def YD{R:Type}(T:TT)(E:Env)(L:SL)(H:List Item)(f:Nat)(args:List Operand)(tys:List Nat)(k:SV->Option R):Option R:=match lL E f with
 |some sp=>match xu L args with
  |some ss=>match eW T H ss tys,ss.all SV.noOwn with
   |some al,true=>sp.run R al λrs=>match abr rs with
    |some s=>k s
    |none=>none
   |_,_=>none
  |none=>none
 |none=>none
def tq{R:Type}(P:Program)(T:TT)(E:Env)(L:SL)(H:List Item)(o:Oper)(k:SV->Option R):Option R:=match kK o.op with
 |true=>qop P T true L H o k
 |false=>match Fa E o.op,o.op with
  |true,.call ⟨.value (.func f),args,tys⟩=>YD T E L H f args.toList tys.toList k
  |_,_=>none
def SV.refs(hl:Nat):SV->Bool
 |.box j _=>Nat.ble (j+1) hl
 |.own j=>Nat.ble (j+1) hl
 |.oelt j _ _ _=>Nat.ble (j+1) hl
 |.osl j _ _ _=>Nat.ble (j+1) hl
 |.clo _ caps=>caps.all λj=>Nat.ble (j+1) hl
 |.tup _=>false
 |_=>true
def SV.refsT(hl:Nat):SV->Bool
 |.tup l=>l.all (SV.refs hl)
 |s=>s.refs hl
def fA(E:Env)(ops:Array Oper)(l:Array Bool):Bool:=(List.range ops.size).all λk=>l.getD k true||!(dY E ops k)||(List.range ops.size).any λs=>eF E ops s&&!(l.getD s true)&&gz ops 4 k s
structure AlA where
 i:Nat
 d:Nat
 t:Nat
 cs:List SV
structure AlS where
 i:Nat
 j:Nat
 off:Nat
 l:List SV
def alA(T:TT)(N:Nat):List Oper->Nat->Option (List AlA)
 |[],_=>some []
 |o::r,i=>match bj o with
  |false=>alA T N r (i+1)
  |true=>match o.op,o.dst with
   |.alloc t,some d=>match dt T t,Nat.ble (d+1) N,alA T N r (i+1)with
    |some x,true,some l=>match x.z,x.ty with
     |_,.pair _ _=>none
     |true,ty=>match l.all (λb=>!(Nat.beq i b.i)&&!(Nat.beq d b.d))with
      |true=>some (⟨i,d,t,ty.zsplit⟩::l)
      |false=>none
     |_,_=>none
    |_,_,_=>none
   |_,_=>none
def fV(f:Nat->Bool):List AlA->Nat->SL->SL
 |[],_,L=>L
 |a::r,k,L=>fV f r (k+1) (match f a.i with
  |true=>(a.d,.box k 0)::L
  |false=>L)
def alX(f:Nat->Bool)(la:List AlA):List Item:=la.map λa=>match f a.i with
 |true=>.box a.t a.cs
 |false=>.gone
def Ks:Operand->Nat->Bool
 |.tmp t,d=>Nat.beq t d
 |_,_=>false
def G3(s p:AlS):Bool:=!(Nat.beq s.i p.i)&&(!(Nat.beq s.j p.j)||Nat.ble (s.off+s.l.length) p.off||Nat.ble (p.off+p.l.length) s.off)
def GS(ops:Array Oper)(i j:Nat):List AlA->Nat->Bool
 |[],_=>true
 |a::r,k=>(!(Nat.beq j k)||gz ops 4 i a.i)&&GS ops i j r (k+1)
def alS(T:TT)(E:Env)(ops:Array Oper)(l:Array Bool)(la:List AlA)(h0:Nat)(La:SL)(Ha:List Item):List Oper->Nat->Option (List AlS)
 |[],_=>some []
 |o::r,i=>match l.getD i true||bj o||fo E o with
  |true=>alS T E ops l la h0 La Ha r (i+1)
  |false=>match o.op with
   |.store t x v=>match o.guard,o.dst,opS La x,opS La v,dt T t with
    |none,none,some (.box j off),some s,some y=>match fD [] s,Ha[j]?,alS T E ops l la h0 La Ha r (i+1)with
     |some cs,some (.box _ cells),some ss=>match Nat.beq cs.length y.ty.n&&Nat.ble (off+cs.length) cells.length&&cs.all (SV.refs h0)&&la.all (λa=>!(Ks x a.d||Ks v a.d)||gz ops 4 i a.i)&&GS ops i j la h0&&ss.all (G3 ⟨i,j,off,cs⟩)with
      |true=>some (⟨i,j,off,cs⟩::ss)
      |false=>none
     |_,_,_=>none
    |_,_,_,_,_=>none
   |_=>none
def stP(s:AlS)(H:List Item):List Item:=match H[s.j]? with
 |some (.box bt cells)=>H.set s.j (.box bt (nK cells s.off s.l))
 |_=>H
def cD(f:Nat->Bool):List AlS->List Item->List Item
 |[],H=>H
 |s::r,H=>match f s.i with
  |true=>stP s (cD f r H)
  |false=>cD f r H
def GG(ops:Array Oper):Array Bool->List Nat->Bool
 |_,[]=>true
 |l,i::r=>(match ops[i]? with
  |some o=>o.after.toList.all λe=>!(Region.binds .any e)||l.getD e.on false
  |none=>false)&&GG ops (l.setIfInBounds i true) r
def JT(E:Env)(ops:Array Oper)(l:Array Bool)(C:List Nat):Bool:=(List.range ops.size).all λk=>l.getD k true||!(dY E ops k)||C.all (λj=>gz ops 4 k j)
def adK(T:TT)(E:Env)(N:Nat)(ops:Array Oper)(l:Array Bool)(L:SL)(H:List Item):Option (SL×List Item×List Nat):=match alA T N ops.toList 0 with
 |some la=>match alS T E ops l la H.length (fV (λ_=>true) la H.length L) (H++alX (λ_=>true) la) ops.toList 0 with
  |some ss=>match GG ops l (la.map (·.i)++ss.map (·.i))&&JT E ops l (la.map (·.i)++ss.map (·.i))&&(ce E ops||(ss.all (λs=>Nat.ble H.length s.j)&&(List.range ops.size).all λk=>l.getD k true||!(dY E ops k)))with
   |true=>some (fV (λ_=>true) la H.length L,cD (λ_=>true) ss (H++alX (λ_=>true) la),la.map (·.i)++ss.map (·.i))
   |false=>none
  |none=>none
 |none=>none
def aeP(E:Env)(f:Nat):Option Nat:=match lL E f with
 |some sp=>match sp.mut_ with
  |some g=>g.bx
  |none=>none
 |none=>none
def alm(E:Env)(o:Oper):Bool:=match o.op with
 |.call ⟨.value (.func f),_,_⟩=>(aeP E f).isSome
 |_=>false
def bxC(E:Env)(L:SL)(H:List Item)(o:Oper):Option (Nat×SV×Bool):=match o.op with
 |.call ⟨.value (.func f),⟨[x,y,z]⟩,_⟩=>match aeP E f with
  |some t=>match opS L x,opS L y,opS L z with
   |some (.box j 0),some (.d (.st (.pair (.int .i64) (.int .i64))) i),some (.d .bool c)=>match H[j]? with
    |some (.box t' [.d .bool _])=>match Nat.beq t t' with
     |true=>some (j,.d (.st (.pair (.int .i64) (.int .i64))) i,c)
     |false=>none
    |_=>none
   |_,_,_=>none
  |none=>none
 |_=>none
def l6(j:Nat)(c:Bool)(H:List Item):List Item:=match H[j]? with
 |some (.box t [.d .bool b])=>H.set j (.box t [.d .bool (b&&c)])
 |_=>H
def ddI:Item->Item
 |.box t [.d .bool _]=>.box t [.dead]
 |it=>it
def ddJ:Item->Item
 |.box t [.d .bool _]=>.box t [.d .bool false]
 |it=>it
def Dp(E:Env)(ops:Array Oper)(D:List Nat):List Nat->Option Nat
 |[]=>none
 |j::r=>match ops[j]? with
  |some o=>match fo E o&&o.dst.isSome&&Region.free .any ops (mkL ops.size D) j&&(iV E ops j||!(ce E ops))with
   |true=>some j
   |false=>Dp E ops D r
  |none=>none
def Em(E:Env)(ops:Array Oper)(D:List Nat):List Nat->Option Nat
 |[]=>none
 |j::r=>match ops[j]? with
  |some o=>match fo E o&&o.dst.isSome&&Region.free .any ops (mkL ops.size D) j&&(AV o||iV E ops j||!(ce E ops))with
   |true=>some j
   |false=>Em E ops D r
  |none=>none
def aiG(E:Env)(ops:Array Oper)(l:Array Bool):Bool:=E.any (λp=>p.2.tame)&&(List.range ops.size).all λk=>l.getD k true||dY E ops k
def EU(E:Env)(ops:Array Oper)(D:List Nat):List Nat->Option Nat
 |[]=>none
 |j::r=>match ops[j]? with
  |some o=>match fo E o&&o.dst.isSome&&Region.free .any ops (mkL ops.size D) j with
   |true=>some j
   |false=>EU E ops D r
  |none=>none
section
inductive KJ where
 |seq (i:Nat)
 |blk (id:Nat)
 |lp (i:Nat)
structure Fm where
 f:Nat
 K:List KJ
 i:Nat
 k:Nat
 L:SL
 fl:Nat
 d:Option (List Nat):=none
structure Cfg where
 f:Nat
 K:List KJ
 L:SL
 H:List Item
 fl:Nat
 fs:List Fm
def Pe(a b:Nat):Nat:=bif Nat.ble a b then b else a
def SV.ofm:SV->Nat
 |.own j=>j+1
 |.oelt j _ _ _=>j+1
 |.osl j _ _ _=>j+1
 |_=>0
def SV.ofmT:SV->Nat
 |.tup l=>l.foldr (λs m=>Pe s.ofm m) 0
 |s=>s.ofm
def slM:SL->Nat
 |[]=>0
 |(_,s)::r=>Pe s.ofmT (slM r)
def Pu:List Fm->Nat
 |[]=>0
 |fm::r=>Pe (slM fm.L) (Pu r)
inductive Pos where
 |nrm
 |node (i:Nat)
 |ops (i k:Nat)
 |drw (i:Nat) (rw eff:Bool) (D:List Nat)
 |tam (i:Nat) (D:List Nat)
 |tal (i:Nat) (D:List Nat)
 |tbx (i:Nat) (D:List Nat)
 |ret
abbrev FT:=List (Nat×Func)
def fQ:FT->Nat->Option Func
 |[],_=>none
 |(k,x)::r,t=>match Nat.beq k t with
  |true=>some x
  |false=>fQ r t
def aj(F:FT)(f:Nat):Code:=match fQ F f with
 |some fn=>fn.body.getD .skip
 |none=>.skip
structure NI where
 keep:List Nat
 own:List (Nat×Nat×Ty):=[]
 pure_:List (Nat×Ty):=[]
 bx:List (Nat×Nat×Nat×Ty):=[]
 hl:Nat
 pd:Nat:=0
 er:List Nat:=[]
abbrev NT:=List ((Nat×Nat)×NI)
def QP:NT->Nat->Nat->Option NI
 |[],_,_=>none
 |((f,i),x)::r,g,j=>match Nat.beq f g&&Nat.beq i j with
  |true=>some x
  |false=>QP r g j
def gg(n:Nat)(L:SL):Option Nat->SV->Option SL
 |none,_=>some L
 |some d,s=>match Nat.ble (d+1) n with
  |true=>some ((d,s)::nS L d)
  |false=>none
def G7(N:NT)(f i:Nat)(L:SL):SL:=match QP N f i with
 |some x=>gI L x.keep
 |none=>L
def Es(L:SL):List Nat->Option SL
 |[]=>some []
 |t::ts=>match aI L t,Es L ts with
  |some s,some r=>some ((t,s)::r)
  |_,_=>none
def Item.refs(hl:Nat):Item->Bool
 |.box _ cs=>cs.all (SV.refs hl)
 |.rws _ cs=>cs.all (SV.refs hl)
 |_=>true
def qo:List (Nat×Nat×Ty)->SL->List Item->Option (SL×List Item)
 |[],L,H=>some (L,H)
 |(t,et,e)::r,L,H=>match aI L t with
  |some .nil=>match Nat.ble 1 e.n with
   |true=>qo r ((t,.own H.length)::nS L t) (H++[.row et e []])
   |false=>none
  |_=>qo r L H
def kN(fl:Nat):List (Nat×Ty)->SL->List Item->Option (SL×List Item)
 |[],L,H=>some (L,H)
 |(t,e)::r,L,H=>match aI L t with
  |some .nil=>kN fl r ((t,.d (.sl e) [])::nS L t) H
  |some (.own j)=>match vu fl j L H with
   |some (L',H')=>kN fl r L' H'
   |none=>none
  |_=>kN fl r L H
def nv:List (Nat×Nat×Nat×Ty)->List Item->List Item
 |[],H=>H
 |(j,q,et,e)::r,H=>match H[j]? with
  |some (.box t cs)=>match cs[q]?,Nat.ble 1 e.n with
   |some .nil,true=>nv r ((H.set j (.box t (cs.set q (.own H.length))))++[.row et e []])
   |_,_=>nv r H
  |_=>nv r H
def Kl(p:Nat)(H:List Item):List Item:=match Nat.ble p H.length with
 |true=>H
 |false=>H++List.replicate (p-H.length) .gone
def erH:List Nat->List Item->List Item
 |[],H=>H
 |j::l,H=>erH l (H.set j .gone)
def ael(x:NI)(c:Cfg):Option Cfg:=match qo x.own c.L (Kl x.pd (nv x.bx c.H))with
 |some (L1,H1)=>match kN c.fl x.pure_ L1 H1 with
  |some (L2,H2)=>match Es L2 x.keep with
   |some L3=>match L3.all (λp=>p.2.refs x.hl)&&((erH x.er H2).take x.hl).all (Item.refs x.hl)&&Nat.ble c.fl x.hl with
    |true=>some {c with L:=L3,H:=(erH x.er H2).take x.hl}
    |false=>none
   |none=>none
  |none=>none
 |none=>none
def D2(id:Nat):List KJ->Option (List KJ)
 |[]=>none
 |.blk j::K=>match Nat.beq j id with
  |true=>some K
  |false=>D2 id K
 |_::K=>D2 id K
def E7(ops:Array Oper)(eff:Bool)(D:List Nat):List Nat->Option Nat
 |[]=>none
 |j::r=>match ops[j]? with
  |some o=>match isQ o.op&&!(nI o.op&&(eff||!v9 ops j))&&o.dst.isSome&&Region.free .any ops (mkL ops.size D) j with
   |true=>some j
   |false=>E7 ops eff D r
  |none=>none
def afi(L:SL)(o:Oper):Bool:=match o.op with
 |.load _ x=>match opS L x with
  |some (.oelt _ _ _ _)=>true
  |_=>false
 |_=>false
def rdy(rw:Bool)(L:SL)(ops:Array Oper)(rs:List Nat):List Nat:=match rw with
 |true=>rs
 |false=>rs.filter λj=>match ops[j]? with
  |some o=>!(afi L o)
  |none=>true
theorem Tq{rw:Bool}{L:SL}{ops:Array Oper}{rs:List Nat}{j:Nat}(h:j∈rdy rw L ops rs):j∈rs:=by
 cases rw
 ·exact(List.mem_filter.1 h).1
 ·exact h
def Dv(T:TT)(H:List Item)(L:SL):List ResultVar->Option (List SV)
 |[]=>some []
 |.tmp t::r=>match aI L t,Dv T H L r with
  |some s,some l=>some (s::l)
  |_,_=>none
 |.cell ad t::r=>match aI L ad,dt T t,Dv T H L r with
  |some (.box j off),some i,some l=>match H[j]? with
   |some (.box _ cells)=>match JK i.ty (cells.drop off)with
    |some s=>some (s::l)
    |none=>none
   |_=>none
  |_,_,_=>none
def LD(e:Ty):List SV->Option (List (List e.D))
 |[]=>some []
 |.d t x::r=>match eN t (.sl e) x,LD e r with
  |some y,some l=>some (y::l)
  |_,_=>none
 |_::_=>none
def zz(T:TT)(H:List Item)(ss:List SV)(tys:List Nat):Option (List RV):=match ss with
 |[.own j]=>match H[j]? with
  |some (.row et e xs)=>some [.new et e xs]
  |some (.rws et cs)=>match eW T H cs (cs.map λ_=>et)with
   |some l=>match l with
    |.d (.sl e) _::_=>match LD e l with
     |some xs=>some [.new et (.sl e) xs]
     |none=>none
    |_=>none
   |none=>none
  |_=>none
 |[.nil]=>match tys with
  |[t]=>match dt T t with
   |some i=>match i.ty with
    |.sl e=>match Nat.ble 1 e.n with
     |true=>some [.new i.el e []]
     |false=>none
    |_=>none
   |none=>none
  |_=>none
 |ss=>match eW T H ss tys with
  |some l=>outL l
  |none=>none
where outL:List SV->Option (List RV)
 |[]=>some []
 |.d t x::r=>match outL r with
  |some l=>some (.d t x::l)
  |none=>none
 |_=>none
def Ss{α:Type}(f:α->α->Bool):List α->List α->Bool
 |[],[]=>true
 |x::l,y::m=>match f x y with
  |true=>Ss f l m
  |false=>false
 |_,_=>false
theorem CV{α:Type}{f:α->α->Bool}(hf:∀x y,f x y=true->x=y):∀{l m:List α},Ss f l m=true->l=m
 |[],[],_=>rfl
 |x::l,y::m,h=>by
  simp only[Ss]at h;split at h
  ·rename_i h1;rw[hf x y h1,CV hf h]
  ·cases h
 |[],_::_,h=>by cases h
 |_::_,[],h=>by cases h
def Ty.beq:(t:Ty)->t.D->t.D->Bool
 |.int _,x,y=>decide ((x:Int)=y)
 |.bool,x,y=>match x,y with
  |true,true=>true
  |false,false=>true
  |_,_=>false
 |.str,_,_=>false
 |.sl e,x,y=>Ss e.beq x y
 |.pair a b,x,y=>match a.beq x.1 y.1 with
  |true=>b.beq x.2 y.2
  |false=>false
 |.st a,x,y=>a.beq x y
theorem Ty.beq_ok:∀(t:Ty) (x y:t.D),t.beq x y=true->x=y
 |.int _,x,y,h=>amj (p:=(x:Int)=y) h
 |.bool,x,y,h=>by cases x<;>cases y<;>first|rfl|cases h
 |.str,_,_,h=>by cases h
 |.sl e,x,y,h=>CV e.beq_ok h
 |.pair a b,(x1,x2),(y1,y2),h=>by
  simp only[Ty.beq]at h;split at h
  ·rename_i h1;rw[a.beq_ok _ _ h1,b.beq_ok _ _ h]
  ·cases h
 |.st a,x,y,h=>a.beq_ok x y h
def RV.beq:RV->RV->Bool
 |.d t x,.d t' y=>match eN t t' x with
  |some z=>t'.beq z y
  |none=>false
 |.new n e xs,.new m e' ys=>match Nat.beq n m,eN (.sl e) (.sl e') xs with
  |true,some z=>Ty.beq (.sl e') z ys
  |_,_=>false
 |_,_=>false
theorem RV.beq_ok:∀(x y:RV),x.beq y=true->x=y
 |.d t x,.d t' y,h=>by
  simp only[RV.beq]at h;split at h
  ·rename_i z hz;obtain⟨rfl,rfl⟩:=cX hz;rw[<-Ty.beq_ok _ _ _ h]
  ·cases h
 |.new n e xs,.new m e' ys,h=>by
  simp only[RV.beq]at h;split at h
  ·rename_i z h1 hz;obtain⟨he,rfl⟩:=cX hz;cases he;rw[<-Ty.beq_ok _ _ _ h,amk h1]
  ·cases h
 |.d _ _,.new _ _ _,h=>by cases h
 |.new _ _ _,.d _ _,h=>by cases h
def alj:Option (List RV)->Option (List RV)->Bool
 |some x,some y=>Ss RV.beq x y
 |_,_=>false
def cW(x y:Option (List RV)):Option (List RV):=match alj x y with
 |true=>x
 |false=>D4 x y
theorem cO(x:Option (List RV)):cW x x=x:=by
 unfold cW;split
 ·rfl
 simp[dz]
theorem FE{x y:Option (List RV)}{r:List RV}(h:cW x y=some r):x=some r/\y=some r:=by
 unfold cW at h;split at h
 ·rename_i he;subst h;cases y with
  |none=>cases he
  |some y=>exact⟨rfl,by rw[CV RV.beq_ok he]⟩
 grind [Aj]
inductive Sh where
 |l
 |b (x y:Sh)
def dup:Sh->Option (List RV)->Option (List RV)
 |.l,x=>x
 |.b s t,x=>cW (dup s x) (dup t x)
theorem da:∀(s:Sh) (x:Option (List RV)),dup s x=x
 |.l,_=>rfl
 |.b s t,x=>by rw[dup,da s,da t,cO]
def Md(f:Nat->Option (List RV)):List Nat->Option (List RV)
 |[]=>none
 |j::rs=>match rs with
  |[]=>f j
  |_::_=>cW (f j) (Md f rs)
theorem zO{f:Nat->Option (List RV)}{r:List RV}:∀{rs:List Nat},Md f rs=some r->∀j∈rs,f j=some r
 |[],h=>by simp[Md]at h
 |[q],h=>by intro j hj;simp at hj;subst hj;exact h
 |q::q'::rs,h=>by
  have h:cW (f q) (Md f (q'::rs))=some r:=h;have⟨h1,h2⟩:=FE h;intro j hj;rcases amy.1 hj with rfl|hj
  ·exact h1
  ·exact zO h2 j hj
def aiC:List SV->SV
 |[s]=>s
 |l=>.tup l
section
variable (P:Program) (F:FT) (T:TT) (E:Env) (N:NT) (Fin:Nat->Cfg->Option (List RV))
def head(i:Nat)(c:Cfg):Option (List RV):=match QP N c.f i with
 |some x=>match ael x c with
  |some c'=>Fin i c'
  |none=>none
 |none=>Fin i c
def ntm(f:Nat):Nat:=match fQ F f with
 |some fn=>fn.ntmps
 |none=>0
def ti:Nat->List SV->SL
 |_,[]=>[]
 |k,s::r=>(k,s)::ti (k+1) r
def ajU(E:Env)(g:Nat):Bool:=match lL E g with
 |some sp=>match sp.mut_ with
  |some m=>m.bx.isSome
  |none=>false
 |none=>true
def J8(L:SL)(o:Op):Option (Nat×List SV):=match o with
 |.call ⟨.value f,args,_⟩=>match opS L f with
  |some (.clo g caps)=>match ajU E g with
   |false=>none
   |true=>match fQ F g,xu L args.toList with
    | some fn, some ss => match Nat.ble (ss.length + caps.length) fn.ntmps && (!(fn.name == "runtime.NumGoroutine") && fn.body.isSome) with
     |true=>some (g,ss++caps.map λj=>.box j 0)
     |false=>none
    |_,_=>none
  |_=>none
 |_=>none
def aaA(L:SL)(ops:Array Oper)(D:List Nat):Option Nat:=match ce E ops&&!(ops.toList.any bj),Region.ready .any ops (mkL ops.size D)with
 |true,[j]=>match ops[j]? with
  |some o=>match isQ o.op,J8 F E L o.op,Nat.ble (D.length+1) ops.size with
   |false,some _,true=>some j
   |_,_,_=>none
  |none=>none
 |_,_=>none
def stC(φ:Nat->(Nat->Option (List RV))->Option (List RV))(rec:Cfg->Pos->Option (List RV))(f:Nat)(K:List KJ)(L:SL)(H:List Item)(fl:Nat)(fs:List Fm):Pos->Option (List RV)
 |.nrm=>match K with
  |[]=>rec ⟨f,[],L,H,fl,fs⟩ .ret
  |.seq j::K=>rec ⟨f,K,L,H,fl,fs⟩ (.node j)
  |.blk _::K=>rec ⟨f,K,L,H,fl,fs⟩ .nrm
  |.lp i::K=>head N Fin i ⟨f,K,L,H,fl,fs⟩
 |.node i=>match nth (aj F f) i with
  |.skip=>rec ⟨f,K,L,H,fl,fs⟩ .nrm
  |.seq a _=>φ (i+1+Code.size a) λj=>φ (i+1) λi'=>rec ⟨f,.seq j::K,L,H,fl,fs⟩ (.node i')
  |.block id _=>φ (i+1) λi'=>rec ⟨f,.blk id::K,L,H,fl,fs⟩ (.node i')
  |.exit id=>match D2 id K with
   |some K=>rec ⟨f,K,L,H,fl,fs⟩ .nrm
   |none=>none
  |.ret=>rec ⟨f,K,L,H,fl,fs⟩ .ret
  |.cond x a _=>match opS L x with
   |some (.d .bool b)=>match b with
    |true=>φ (i+1) λi'=>rec ⟨f,K,L,H,fl,fs⟩ (.node i')
    |false=>φ (i+1+Code.size a) λj=>rec ⟨f,K,L,H,fl,fs⟩ (.node j)
   |_=>none
  |.loop _=>head N Fin i ⟨f,K,L,H,fl,fs⟩
  |.region _ _ false=>rec ⟨f,K,L,H,fl,fs⟩ (.ops i 0)
  |.region _ ops true=>match Region.noSelect ops with
   |true=>match aju E ops with
    |true=>match ops.toList.any (alm E)with
     |true=>rec ⟨f,K,L,H,fl,fs⟩ (.tbx i [])
     |false=>rec ⟨f,K,L,H,fl,fs⟩ (.tam i [])
    |false=>rec ⟨f,K,L,H,fl,fs⟩ (.drw i (!(ops.any λo=>vB o.op)) false [])
   |false=>none
  |_=>none
 |.ops i k=>match(ak (nth (aj F f) i))[k]? with
    |none=>rec ⟨f,K,L,H,fl,fs⟩ .nrm
    |some o=>c9 (ak (nth (aj F f) i)) L o
      (λL=>match isQ o.op with
       |true=>match fzB (Pu fs) o L H with
        |some (L1,H1)=>qop P T true L1 H1 o λs=>match gg (ntm F f) L1 o.dst s with
         |some L'=>φ (k+1) λk'=>rec ⟨f,K,L',H1,fl,fs⟩ (.ops i k')
         |none=>none
        |none=>none
       |false=>match J8 F E L o.op with
        |some (g,ss)=>rec ⟨g,[],ti 0 ss,H,H.length,⟨f,K,i,k,G7 N f i L,fl,none⟩::fs⟩ (.node 0)
        |none=>eop T E (Pu fs) L H o λs H' L1=>match gg (ntm F f) L1 o.dst s with
         |some L'=>φ (k+1) λk'=>rec ⟨f,K,L',H',fl,fs⟩ (.ops i k')
         |none=>none)
      (λL=>match gg (ntm F f) L o.dst .undef with
       |some L'=>φ (k+1) λk'=>rec ⟨f,K,L',H,fl,fs⟩ (.ops i k')
       |none=>none)
 |.drw i rw eff D=>match aiG E (ak (nth (aj F f) i)) (mkL (ak (nth (aj F f) i)).size D)with
    |true=>rec ⟨f,K,L,H,fl,fs⟩ (.tal i D)
    |false=>match Region.ready .any (ak (nth (aj F f) i)) (mkL (ak (nth (aj F f) i)).size D)with
    |[]=>rec ⟨f,K,L,H,fl,fs⟩ .nrm
    |rs=>match Nat.ble (D.length+1) (ak (nth (aj F f) i)).size with
     |false=>none
     |true=>match E7 (ak (nth (aj F f) i)) eff D (rdy rw L (ak (nth (aj F f) i)) rs)with
      |some j=>match(ak (nth (aj F f) i))[j]? with
       |none=>none
       |some o=>c9 (ak (nth (aj F f) i)) L o
        (λL=>qop P T rw L H o λs=>match gg (ntm F f) L o.dst s with
         |some L'=>φ j λj'=>rec ⟨f,K,L',H,fl,fs⟩ (.drw i rw eff (j'::D))
         |none=>none)
        (λL=>match gg (ntm F f) L o.dst .undef with
         |some L'=>φ j λj'=>rec ⟨f,K,L',H,fl,fs⟩ (.drw i rw eff (j'::D))
         |none=>none)
      |none=>Md (λj=>match(ak (nth (aj F f) i))[j]? with
        |none=>none
        |some o=>c9 (ak (nth (aj F f) i)) L o
         (λL=>match isQ o.op with
          |true=>qop P T true L H o λs=>match gg (ntm F f) L o.dst s with
           |some L'=>φ j λj'=>rec ⟨f,K,L',H,fl,fs⟩ (.drw i rw eff (j'::D))
           |none=>none
          |false=>match vC E L o.op||(vB o.op&&rw)with
           |true=>none
           |false=>eop T E (Pu fs) L H o λs H' L1=>match gg (ntm F f) L1 o.dst s with
            |some L'=>φ j λj'=>rec ⟨f,K,L',H',fl,fs⟩ (.drw i rw true (j'::D))
            |none=>none)
         (λL=>match gg (ntm F f) L o.dst .undef with
          |some L'=>φ j λj'=>rec ⟨f,K,L',H,fl,fs⟩ (.drw i rw (eff||dR o.op) (j'::D))
          |none=>none)) rs
 |.tam i D=>match fA E (ak (nth (aj F f) i)) (mkL (ak (nth (aj F f) i)).size D)with
    |true=>match aaA F E L (ak (nth (aj F f) i)) D with
     |some j=>match(ak (nth (aj F f) i))[j]? with
      |some o=>c9 (ak (nth (aj F f) i)) L o
       (λL=>match J8 F E L o.op with
        |some (g,ss)=>φ j λj'=>rec ⟨g,[],ti 0 ss,H,H.length,⟨f,K,i,j',G7 N f i L,fl,some (j'::D)⟩::fs⟩ (.node 0)
        |none=>none)
       (λL=>match gg (ntm F f) L o.dst .undef with
        |some L'=>φ j λj'=>rec ⟨f,K,L',H,fl,fs⟩ (.tal i (j'::D))
        |none=>none)
      |none=>none
     |none=>match Ce E (ak (nth (aj F f) i))with
     |true=>match adK T E (ntm F f) (ak (nth (aj F f) i)) (mkL (ak (nth (aj F f) i)).size D) L H with
      |some (L',H',C)=>match Nat.ble (C++D).length (ak (nth (aj F f) i)).size with
       |true=>rec ⟨f,K,L',H',fl,fs⟩ (.drw i true true (C++D))
       |false=>none
      |none=>match(ak (nth (aj F f) i)).toList.any bj||!(ce E (ak (nth (aj F f) i)))with
       |true=>none
       |false=>rec ⟨f,K,L,H,fl,fs⟩ (.drw i (!((ak (nth (aj F f) i)).any λo=>vB o.op)) false D)
     |false=>match(ak (nth (aj F f) i)).toList.any bj||!(ce E (ak (nth (aj F f) i)))with
      |true=>none
      |false=>rec ⟨f,K,L,H,fl,fs⟩ (.drw i (!((ak (nth (aj F f) i)).any λo=>vB o.op)) false D)
    |false=>match Nat.ble (D.length+1) (ak (nth (aj F f) i)).size,Em E (ak (nth (aj F f) i)) D (Region.ready .any (ak (nth (aj F f) i)) (mkL (ak (nth (aj F f) i)).size D))with
     |true,some j=>match(ak (nth (aj F f) i))[j]? with
      |some o=>c9 (ak (nth (aj F f) i)) L o
       (λL=>tq P T E (gI L (o.looksAt (ak (nth (aj F f) i)))) H o λs=>match gg (ntm F f) L o.dst s,s.refsT H.length with
        |some L',true=>φ j λj'=>rec ⟨f,K,L',H,fl,fs⟩ (.tam i (j'::D))
        |_,_=>none)
       (λL=>match gg (ntm F f) L o.dst .undef with
        |some L'=>φ j λj'=>rec ⟨f,K,L',H,fl,fs⟩ (.tam i (j'::D))
        |none=>none)
      |none=>none
     |_,_=>none
 |.tbx i D=>match fA E (ak (nth (aj F f) i)) (mkL (ak (nth (aj F f) i)).size D)with
    |true=>match ce E (ak (nth (aj F f) i))with
     |true=>rec ⟨f,K,L,H,fl,fs⟩ (.tam i D)
     |false=>none
    |false=>match Nat.ble (D.length+1) (ak (nth (aj F f) i)).size,Dp E (ak (nth (aj F f) i)) D (Region.ready .any (ak (nth (aj F f) i)) (mkL (ak (nth (aj F f) i)).size D))with
     |true,some j=>match(ak (nth (aj F f) i))[j]? with
      |some o=>c9 (ak (nth (aj F f) i)) L o
       (λL=>match bxC E (gI L (o.looksAt (ak (nth (aj F f) i)))) H o with
        |some (q,s,b)=>match gg (ntm F f) L o.dst s,s.refsT H.length with
         |some L',true=>φ j λj'=>rec ⟨f,K,L',l6 q b H,fl,fs⟩ (.tbx i (j'::D))
         |_,_=>none
        |none=>tq P T E (gI L (o.looksAt (ak (nth (aj F f) i)))) (H.map ddI) o λs=>match gg (ntm F f) L o.dst s,s.refsT H.length with
         |some L',true=>φ j λj'=>rec ⟨f,K,L',H,fl,fs⟩ (.tbx i (j'::D))
         |_,_=>none)
       (λL=>match gg (ntm F f) L o.dst .undef with
        |some L'=>φ j λj'=>rec ⟨f,K,L',H,fl,fs⟩ (.tbx i (j'::D))
        |none=>none)
      |none=>none
     |_,_=>none
 |.tal i D=>match Region.ready .any (ak (nth (aj F f) i)) (mkL (ak (nth (aj F f) i)).size D)with
    |[]=>rec ⟨f,K,L,H,fl,fs⟩ .nrm
    |rs=>match Nat.ble (D.length+1) (ak (nth (aj F f) i)).size,EU E (ak (nth (aj F f) i)) D rs with
     |true,some j=>match(ak (nth (aj F f) i))[j]? with
      |some o=>c9 (ak (nth (aj F f) i)) L o
       (λL=>tq P T E (gI L (o.looksAt (ak (nth (aj F f) i)))) H o λs=>match gg (ntm F f) L o.dst s,s.refsT H.length with
        |some L',true=>φ j λj'=>rec ⟨f,K,L',H,fl,fs⟩ (.tal i (j'::D))
        |_,_=>none)
       (λL=>match gg (ntm F f) L o.dst .undef with
        |some L'=>φ j λj'=>rec ⟨f,K,L',H,fl,fs⟩ (.tal i (j'::D))
        |none=>none)
      |none=>none
     |_,_=>none
 |.ret=>match fQ F f with
    |some fn=>match Dv T H L fn.results.toList with
     |some ss=>match fs with
      |[]=>zz T H ss fn.resultTypes.toList
      |⟨g,K2,i,k,L2,fl2,d⟩::fs=>match(ak (nth (aj F g) i))[k]? with
       |some o=>match gg (ntm F g) L2 o.dst (aiC ss),ss.all SV.good with
        |some L',true=>match d with
         |none=>φ (k+1) λk'=>rec ⟨g,K2,L',H,fl2,fs⟩ (.ops i k')
         |some D=>rec ⟨g,K2,L',H,fl2,fs⟩ (.tal i D)
        |_,_=>none
       |none=>none
     |none=>none
    |none=>none
def goC(φ:Nat->(Nat->Option (List RV))->Option (List RV)):Nat->Cfg->Pos->Option (List RV)
 |0,_,_=>none
 |m+1,⟨f,K,L,H,fl,fs⟩,p=>stC P F T E N Fin φ (goC φ m) f K L H fl fs p
def go:Nat->Cfg->Pos->Option (List RV):=goC P F T E N Fin λn k=>k n
theorem UI(c:Cfg)(p:Pos):go P F T E N Fin 0 c p=none:=rfl
theorem VY(m:Nat)(c:Cfg)(p:Pos):go P F T E N Fin (m+1) c p=stC P F T E N Fin (λn k=>k n) (go P F T E N Fin m) c.f c.K c.L c.H c.fl c.fs p:=by cases c;rfl
def frc{R:Type}(n:Nat)(k:Nat->R):R:=match n with
 |0=>k 0
 |n+1=>k (n+1)
def go2:Nat->Cfg->Pos->Option (List RV):=goC P F T E N Fin frc
theorem xc(m:Nat)(c:Cfg)(p:Pos):go2 P F T E N Fin m c p=go P F T E N Fin m c p:=by
 have e:(frc:Nat->(Nat->Option (List RV))->Option (List RV))=λn k=>k n:=by funext n k;cases n<;>rfl
 unfold go2 go;rw[e]
end
def run(P:Program)(F:FT)(T:TT)(E:Env)(N:NT):Nat->Nat->Cfg->Option (List RV)
 |0,_,_=>none
 |n+1,i,c=>go P F T E N (run P F T E N n) 4000 {c with K:=.lp i::c.K} (.node (i+1))
def oo(f:Nat)(args:List SV):Cfg:={f:=f,K:=[],L:=ti 0 args,H:=[],fl:=0,fs:=[]}
def Runs(P:Program)(F:FT)(T:TT)(E:Env)(N:NT)(i:Nat)(c:Cfg)(r:List RV):Prop:=∃n,run P F T E N n i c=some r
end
section
def InLoop(P:Program)(c:Code)(Q:Exit->Act->World->Prop)(a:Act)(w:World):Prop:=
 ∀(b:Frame) (k:List Go.Item) (cs:List Frame),∃e a' w',Q e a' w'/\Arrives P (lone (b.at a (.code c:: .inLoop c::k)) cs w) b k cs e a' w'
section
variable {P:Program} {c:Code} {Q:Exit->Act->World->Prop} {a:Act} {w:World}
theorem InLoop.wp(h:InLoop P c Q a w):(Code.loop c).wp P Q a w:=by
 intro b k cs;obtain⟨e,a',w',hq,harr⟩:=h b k cs;exact⟨e,a',w',hq,.of_steps (.one step_loop) harr⟩
theorem InLoop.step(h:c.wp P (Exit.then (InLoop P c Q) Q) a w):InLoop P c Q a w:=by
 intro b k cs;obtain⟨e,a₁,w₁,hq,harr⟩:=h b (.inLoop c::k) cs;cases e with
 |normal=>
  obtain⟨e₂,a₂,w₂,hq₂,harr₂⟩:=hq b k cs;exact⟨e₂,a₂,w₂,hq₂,.of_steps (Steps.trans harr (.one step_inLoop)) harr₂⟩
 |exit id=>exact⟨_,a₁,w₁,hq,.pass (x:=.inLoop c) rfl (λ_ _=>.inl (by simp)) harr⟩
 |goto l=>exact⟨_,a₁,w₁,hq,.pass (x:=.inLoop c) rfl (λ_ _=>.inl (by simp)) harr⟩
 |ret=>exact⟨_,a₁,w₁,hq,.pass (x:=.inLoop c) rfl (λ_ _=>.inl (by simp)) harr⟩
 |panic ch=>exact⟨_,a₁,w₁,hq,.pass (x:=.inLoop c) rfl (λ_ _=>.inl (by simp)) harr⟩
 |outgrown=>exact⟨_,a₁,w₁,hq,.pass (x:=.inLoop c) rfl (λ_ _=>.inl (by simp)) harr⟩
end
theorem sh:∀c:Code,0<Code.size c:=by intro c;cases c<;>simp[Code.size]
theorem L4:∀(B:Code) (i:Nat),Code.size B<=i->nth B i=.skip:=by
 intro B;induction B with
 |seq a b iha ihb=>
  intro i h;simp only[Code.size]at h;cases i with
  |zero=>omega
  |succ i=>
   simp only[nth];grind
 |cond x a b iha ihb=>
  intro i h;simp only[Code.size]at h;cases i with
  |zero=>omega
  |succ i=>
   simp only[nth];grind
 |block id c ih=>intro i h;simp only[Code.size]at h;cases i with|zero=>omega|succ i=>exact ih _ (by omega)
 |loop c ih=>intro i h;simp only[Code.size]at h;cases i with|zero=>omega|succ i=>exact ih _ (by omega)
 |scope c ih=>intro i h;simp only[Code.size]at h;cases i with|zero=>omega|succ i=>exact ih _ (by omega)
 |_=>intro i h;simp only[Code.size]at h;cases i with|zero=>omega|succ i=>rfl
theorem IF(a b:Code)(i:Nat):(match Nat.ble (i+1) (Code.size a)with|true=>nth a i|false=>nth b (i-Code.size a))=if i<Code.size a then nth a i else nth b (i-Code.size a):=by grind [amI,amn]
theorem dQ(c:Code):nth c 0=c:=by cases c<;>rfl
theorem sA(a b:Code)(i:Nat):nth (.seq a b) (i+1)=if i<Code.size a then nth a i else nth b (i-Code.size a):=IF a b i
theorem pj(x:Operand)(a b:Code)(i:Nat):nth (.cond x a b) (i+1)=if i<Code.size a then nth a i else nth b (i-Code.size a):=IF a b i
theorem Ap:∀(B:Code) (i:Nat),i<Code.size B->i+Code.size (nth B i)<=Code.size B:=by
 intro B;induction B with
 |seq a b iha ihb=>
  intro i h;cases i with
  |zero=>rw[dQ];omega
  |succ i=>
   rw[sA];simp only[Code.size]at h ⊢;grind
 |cond x a b iha ihb=>
  intro i h;cases i with
  |zero=>rw[dQ];omega
  |succ i=>
   rw[pj];simp only[Code.size]at h ⊢;split
   ·rename_i hi;have:=iha i hi;omega
   ·have:=ihb (i-Code.size a) (by omega);omega
 |block id c ih=>intro i h;cases i with|zero=>rw[dQ];omega|succ i=>simp only[Code.size]at h ⊢;have:=ih i (by omega);simp only[nth];omega
 |loop c ih=>intro i h;cases i with|zero=>rw[dQ];omega|succ i=>simp only[Code.size]at h ⊢;have:=ih i (by omega);simp only[nth];omega
 |scope c ih=>intro i h;cases i with|zero=>rw[dQ];omega|succ i=>simp only[Code.size]at h ⊢;have:=ih i (by omega);simp only[nth];omega
 |_=>intro i h;cases i with|zero=>rw[dQ];omega|succ i=>simp only[Code.size]at h;omega
theorem ut:∀(B:Code) (i:Nat),i<Code.size B->∀j,j<Code.size (nth B i)->nth B (i+j)=nth (nth B i) j:=by
 intro B;induction B with
 |seq a b iha ihb=>
  intro i h j hj;cases i with
  |zero=>rw[dQ,amx]
  |succ i=>
   rw[sA]at hj ⊢;rw[show i+1+j=(i+j)+1 by omega,sA];simp only[Code.size]at h;split at hj
   ·rename_i hi;have:=Ap a i hi;rw[am2 hi,am2 (by omega)];exact iha i hi j hj
   ·rename_i hi;rw[amJ hi,amJ (by omega),show i+j-Code.size a=(i-Code.size a)+j by omega];exact ihb (i-Code.size a) (by omega) j hj
 |cond x a b iha ihb=>
  intro i h j hj;cases i with
  |zero=>rw[dQ,amx]
  |succ i=>
   rw[pj]at hj ⊢;rw[show i+1+j=(i+j)+1 by omega,pj];simp only[Code.size]at h;split at hj
   ·rename_i hi;have:=Ap a i hi;rw[am2 hi,am2 (by omega)];exact iha i hi j hj
   ·rename_i hi;rw[amJ hi,amJ (by omega),show i+j-Code.size a=(i-Code.size a)+j by omega];exact ihb (i-Code.size a) (by omega) j hj
 |block id c ih=>intro i h j hj;cases i with|zero=>rw[dQ,amx]|succ i=>simp only[Code.size]at h;rw[show i+1+j=(i+j)+1 by omega];exact ih i (by omega) j hj
 |loop c ih=>intro i h j hj;cases i with|zero=>rw[dQ,amx]|succ i=>simp only[Code.size]at h;rw[show i+1+j=(i+j)+1 by omega];exact ih i (by omega) j hj
 |scope c ih=>intro i h j hj;cases i with|zero=>rw[dQ,amx]|succ i=>simp only[Code.size]at h;rw[show i+1+j=(i+j)+1 by omega];exact ih i (by omega) j hj
 |_=>intro i h j hj;cases i with|zero=>rw[dQ,amx]|succ i=>simp only[Code.size]at h;omega
theorem A4{B:Code}{i:Nat}(h:nth B i≠.skip):i<Code.size B:=by grind [L4]
theorem VV{B:Code}{i:Nat}{a b:Code}(h:nth B i=.seq a b):nth B i=.seq (nth B (i+1)) (nth B (i+1+Code.size a)):=by
 have hlt:=A4 (B:=B) (i:=i) (by rw[h];simp);have ha:=sh a;have hb:=sh b;have h1:=ut B i hlt 1 (by rw[h];simp only[Code.size];omega);have h2:=ut B i hlt (1+Code.size a) (by rw[h];simp only[Code.size];omega);rw[h,show(1:Nat)=0+1 from rfl,sA,am2 ha,dQ]at h1;rw[h,show 1+Code.size a=Code.size a+1 by omega,sA,amJ (by omega),aoD,dQ]at h2;grind
theorem QN{B:Code}{i:Nat}{x:Operand}{a b:Code}(h:nth B i=.cond x a b):nth B i=.cond x (nth B (i+1)) (nth B (i+1+Code.size a)):=by
 have hlt:=A4 (B:=B) (i:=i) (by rw[h];simp);have ha:=sh a;have hb:=sh b;have h1:=ut B i hlt 1 (by rw[h];simp only[Code.size];omega);have h2:=ut B i hlt (1+Code.size a) (by rw[h];simp only[Code.size];omega);rw[h,show(1:Nat)=0+1 from rfl,pj,am2 ha,dQ]at h1;rw[h,show 1+Code.size a=Code.size a+1 by omega,pj,amJ (by omega),aoD,dQ]at h2;grind
theorem KU{B:Code}{i id:Nat}{c:Code}(h:nth B i=.block id c):nth B i=.block id (nth B (i+1)):=by grind [A4,ut,Code.size,nth]
theorem OW{B:Code}{i:Nat}{c:Code}(h:nth B i=.loop c):nth B i=.loop (nth B (i+1)):=by grind [A4,ut,Code.size,nth]
end
section
theorem AC{d:Nat}{L:SL}{t:Nat}{s:SV}(h:aI (nS L d) t=some s):aI L t=some s:=h
theorem gA{d:Nat}{x:SV}{L:SL}{t:Nat}{s:SV}(h:aI ((d,x)::L) t=some s):(t=d/\s=x)\/(t≠d/\aI L t=some s):=by
 simp only[aI]at h;split at h
 ·simp_all
 ·refine .inr ⟨λe=>?_,h⟩;simp_all
theorem gF{L:SL}:∀{ts:List Nat} {t:Nat} {s:SV},aI (gI L ts) t=some s->aI L t=some s
 |[],_,_,h=>by simp[gI,aI]at h
 |u::ts,t,s,h=>by
  simp only[gI]at h;split at h
  ·rename_i x hx;rcases gA h with⟨rfl,rfl⟩|⟨_,h1⟩
   ·exact hx
   ·exact gF h1
  ·exact gF h
theorem pZ{N:NT}{f i:Nat}{L:SL}{t:Nat}{s:SV}(h:aI (G7 N f i L) t=some s):aI L t=some s:=by
 unfold G7 at h;split at h
 ·exact gF h
 omega
theorem yU{L:SL}:∀{ts:List Nat} {L':SL},Es L ts=some L'->∀t s,aI L' t=some s->aI L t=some s
 |[],L',h,t,s,hs=>by simp only[Es,amp]at h;subst h;simp[aI]at hs
 |u::ts,L',h,t,s,hs=>by
  simp only[Es]at h;split at h<;>try (cases h;done)
  rename_i x r h1 h2;injection h with h;subst h;rcases gA hs with⟨rfl,rfl⟩|⟨_,h3⟩
  ·exact h1
  ·exact yU h2 t s h3
theorem z8:∀{L:SL} {t:Nat} {s:SV},aI L t=some s->(t,s)∈L
 |[],_,_,h=>by simp[aI]at h
 |(k,x)::r,t,s,h=>by
  rcases gA h with⟨rfl,rfl⟩|⟨_,h3⟩
  ·simp
  ·simp[z8 h3]
theorem tT{k:Nat}{s:SV}(h:∀l,s≠.tup l):s.refsT k=s.refs k:=by cases s<;>first|rfl|exact(h _ rfl).elim
theorem xO{fl j:Nat}{s:SV}(h:s.refs fl=true)(ho:s.of1 j=true):j<fl:=by
 cases s<;>simp only[SV.of1,aoM]at ho
 ·have:=amk ho;subst this;exact amn h
 ·have:=amk ho;subst this;exact amn h
 ·have:=amk ho;subst this;exact amn h
section
variable {Z:Nat->Prop} {w0:World} {n:Nat} {L L':SL} {H H':List Item} {G G':List Value} {w w':World} {a:Act} {F:FT}
theorem FR.put{d:Option Nat}{s:SV}{v:Value}(h:FR Z n L H G w a)(hp:gg n L d s=some L')(hv:Rel G (Av Z H G) w s v):FR Z n L' H G w (a.put d v):=by
 cases d with
 |none=>simp only[gg,amp]at hp;subst hp;exact h
 |some d=>
  simp only[gg]at hp;split at hp<;>try (cases hp;done)
  rename_i hd;have hd:=amn hd;injection hp with hp;subst hp;refine⟨h.defers,by simp[Act.put,h.size],λt s' hs=>?_⟩;simp only[Act.put,Array.getElem?_setIfInBounds,h.size];rcases gA hs with⟨rfl,rfl⟩|⟨hne,h3⟩
  ·grind
  ·have h4:=AC h3;obtain⟨u,h5,h6⟩:=h.slot t s' h4;grind
theorem FR.say{d:Nat}{s:SV}{v:Value}(h:FR Z n L H G w a)(hd:a.tmps[d]?=some v)(hv:Rel G (Av Z H G) w s v):FR Z n ((d,s)::nS L d) H G w a:=
 ⟨h.defers,h.size,λt s' hs=>by
  rcases gA hs with⟨rfl,rfl⟩|⟨hne,h3⟩
  ·exact⟨v,hd,hv⟩
  ·exact h.slot t s' (AC h3)⟩
theorem so(hr:SR Z w0 H G w){s:SV}{v:Value}(h:Rel1 G (Av Z H G) w s v):s.refs H.length=true:=by
 have lt:∀(j:Nat) g,G[j]?=some g->Nat.ble (j+1) H.length=true:=λj g hg=>amI (by rw[<-hr.len];exact(amr.1 hg).1);cases s with
 |box j off=>obtain⟨b,h1,_⟩:=h;exact lt j _ h1
 |own j=>exact lt j _ h
 |oelt j sz i off=>obtain⟨b,m,c,h1,_⟩:=h;exact lt j _ h1
 |osl j sz lo n=>obtain⟨g,q,c,h1,_⟩:=h;exact lt j _ h1
 |clo f caps=>
  obtain⟨bs,h1,_⟩:=h;refine amC.2 λj hj=>?_;obtain⟨k,hk,rfl⟩:=an0 hj;obtain⟨b,_,hb⟩:=fO h1 k _ (amg hk);grind
 |tup l=>exact h.elim
 |_=>rfl
theorem m9(hr:SR Z w0 H G w){s:SV}{v:Value}(h:Rel G (Av Z H G) w s v):s.refsT H.length=true:=by
 cases s with
 |tup l=>
  obtain⟨vs,_,h2⟩:=h;refine amC.2 λs hs=>?_;obtain⟨k,hk,rfl⟩:=an0 hs;obtain⟨b,_,hb⟩:=fO h2 k _ (amg hk);grind [so]
 |_=>rw[tT (λl e=>by cases e)];exact so hr (nT h (λl e=>by cases e))
def Ev(Z:Nat->Prop)(fl:Nat)(H:List Item)(G:List Value)(w:World)(H':List Item)(G':List Value)(w':World):Prop:=∀s v,Rel1 G (Av Z H G) w s v->s.refs fl=true->Rel1 G' (Av Z H' G') w' s v
theorem Chg.ev{fl:Nat}{st ap:Bool}(h:Chg Z fl st ap H G w H' G' w'):Ev Z fl H G w H' G' w':=λs v hs hr=>h.pres s v hs λ_j hj=>xO hr hj
def DOk(F:FT)(fm:Fm):Prop:=∀D,fm.d=some D->Clo (ak (nth (aj F fm.f) fm.i)) (mkL (ak (nth (aj F fm.f) fm.i)).size D)/\Region.noSelect (ak (nth (aj F fm.f) fm.i))=true/\D.length<=(ak (nth (aj F fm.f) fm.i)).size
def FrsOk(Z:Nat->Prop)(F:FT)(H:List Item)(G:List Value)(w:World):Nat->List Fm->List Act->Prop
 |_,[],[]=>True
 |fl,fm::fs,a::ats=>FR Z (ntm F fm.f) fm.L H G w a/\(∀t s,aI fm.L t=some s->s.refsT fl=true)/\(fm.fl<=fl/\(∃fn,fQ F fm.f=some fn)/\DOk F fm)/\FrsOk Z F H G w fm.fl fs ats
 |_,_,_=>False
theorem pS{k l:Nat}(h:k<=l){s:SV}(hs:s.refs k=true):s.refs l=true:=by
 have b:∀j,Nat.ble (j+1) k=true->Nat.ble (j+1) l=true:=λj hj=>amI (amt (amn hj) h);cases s with
 |box j off=>exact b j hs
 |own j=>exact b j hs
 |oelt j sz i off=>exact b j hs
 |osl j sz i off=>exact b j hs
 |clo f caps=>exact amC.2 λj hj=>b j (amC.1 hs j hj)
 |tup l=>cases hs
 |_=>rfl
theorem Hd{k l:Nat}(h:k<=l){s:SV}(hs:s.refsT k=true):s.refsT l=true:=by
 cases s with
 |tup l=>exact amC.2 λs hm=>pS h (amC.1 hs s hm)
 |_=>rw[tT (λl e=>by cases e)]at hs ⊢;exact pS h hs
theorem Rel.ev{fl:Nat}(he:Ev Z fl H G w H' G' w'){s:SV}{v:Value}(h:Rel G (Av Z H G) w s v)(hr:s.refsT fl=true):Rel G' (Av Z H' G') w' s v:=by
 cases s with
 |tup l=>
  obtain⟨vs,h1,h2⟩:=h;refine⟨vs,h1,?_⟩;clear h1;induction l generalizing vs with
  |nil=>cases vs<;>exact h2
  |cons s l ih=>
   simp only[SV.refsT,anu,aml]at hr;match vs,h2 with
   |v::vs,⟨g1,g2⟩=>exact⟨he s v g1 hr.1,ih hr.2 vs g2⟩
 |_=>rw[tT (λl e=>by cases e)]at hr;exact dM (he _ _ (nT h (λl e=>by cases e)) hr)
theorem FrsOk.ev{fl:Nat}(he:Ev Z fl H G w H' G' w'):∀{fl':Nat} {fs:List Fm} {ats:List Act},fl'<=fl->FrsOk Z F H G w fl' fs ats->FrsOk Z F H' G' w' fl' fs ats
 |_,[],[],_,_=>trivial
 |fl',fm::fs,a::ats,hle,⟨h1,h2,h3,h4⟩=>⟨⟨h1.defers,h1.size,λt s hs=>by
   obtain⟨v,g1,g2⟩:=h1.slot t s hs;exact⟨v,g1,g2.ev he (Hd hle (h2 t s hs))⟩⟩,h2,h3,FrsOk.ev he (amt h3.1 hle) h4⟩
 |_,[],_::_,_,h=>h.elim
 |_,_::_,[],_,h=>h.elim
theorem wv{a b k:Nat}:Pe a b<=k↔a<=k/\b<=k:=by grind [Pe,amn,amI]
theorem It{k j:Nat}{s:SV}(h:s.ofm<=k)(ho:s.of1 j=true):j<k:=by
 cases s<;>simp only[SV.of1,aoM]at ho;all_goals (have:=amk ho;subst this;exact h)
theorem VT{s:SV}(h:∀l,s≠.tup l):s.ofmT=s.ofm:=by cases s<;>first|rfl|exact(h _ rfl).elim
theorem EH{k:Nat}:∀{L:SL} {t:Nat} {s:SV},slM L<=k->aI L t=some s->s.ofmT<=k
 |[],_,_,_,h=>by simp[aI]at h
 |(q,x)::r,t,s,hk,h=>by
  obtain⟨h1,h2⟩:=wv.1 hk;rcases gA h with⟨rfl,rfl⟩|⟨_,h3⟩
  ·exact h1
  ·exact EH h2 h3
theorem Rel.evF{k:Nat}(he:∀s v,Rel1 G (Av Z H G) w s v->(∀j,s.of1 j=true->j<k)->Rel1 G' (Av Z H' G') w' s v){s:SV}{v:Value}(h:Rel G (Av Z H G) w s v)(hr:s.ofmT<=k):Rel G' (Av Z H' G') w' s v:=by
 cases s with
 |tup l=>
  obtain⟨vs,h1,h2⟩:=h;refine⟨vs,h1,?_⟩;clear h1;induction l generalizing vs with
  |nil=>cases vs<;>exact h2
  |cons s l ih=>
   obtain⟨r1,r2⟩:=wv.1 hr;match vs,h2 with
   |v::vs,⟨g1,g2⟩=>exact⟨he s v g1 λj hj=>It r1 hj,ih r2 vs g2⟩
 |_=>rw[VT (λl e=>by cases e)]at hr;exact dM (he _ _ (nT h (λl e=>by cases e)) λj hj=>It hr hj)
theorem FrsOk.evF{k:Nat}(he:∀s v,Rel1 G (Av Z H G) w s v->(∀j,s.of1 j=true->j<k)->Rel1 G' (Av Z H' G') w' s v):∀{fl':Nat} {fs:List Fm} {ats:List Act},Pu fs<=k->FrsOk Z F H G w fl' fs ats->FrsOk Z F H' G' w' fl' fs ats
 |_,[],[],_,_=>trivial
 |fl',fm::fs,a::ats,hle,⟨h1,h2,h3,h4⟩=>⟨⟨h1.defers,h1.size,λt s hs=>by
   obtain⟨v,g1,g2⟩:=h1.slot t s hs;exact⟨v,g1,g2.evF he (EH (wv.1 hle).1 hs)⟩⟩,h2,h3,FrsOk.evF he (wv.1 hle).2 h4⟩
 |_,[],_::_,_,h=>h.elim
 |_,_::_,[],_,h=>h.elim
theorem rh{fl:Nat}:∀{l:List (Nat×Nat×Ty)} {L:SL} {H:List Item} {G:List Value},SR Z w0 H G w->FR Z n L H G w a->fl<=H.length->qo l L H=some (L',H')->∃G',SR Z w0 H' G' w/\FR Z n L' H' G' w a/\Ev Z fl H G w H' G' w/\fl<=H'.length
 |[],L,H,G,hr,hf,hfl,h=>by
  simp only[qo,amp,amL]at h;obtain⟨rfl,rfl⟩:=h;exact⟨G,hr,hf,λs v h _=>h,hfl⟩
 |(t,et,e)::l,L,H,G,hr,hf,hfl,h=>by
  simp only[qo]at h;split at h
  ·rename_i hs;split at h<;>try (cases h;done)
   rename_i hn;have hn:=amn hn;obtain⟨v,h1,h2⟩:=hf.slot t _ hs;have h2:v=.slice none 0 0:=h2;subst h2;obtain⟨G1,k1,k2,k3,k4⟩:=lH (et:=et) (e:=e) (xs:=[]) (css:=[]) hr hf (aoo _ _) (ao5 w _ _ _) hn trivial fl false false;obtain⟨G2,g1,g2,g3,g4⟩:=rh (fl:=fl) k1 (k2.say h1 k3) (by simp;omega) h;exact⟨G2,g1,g2,λs v hs hrf=>g3 s v (k4.ev s v hs hrf) hrf,g4⟩
  ·exact rh hr hf hfl h
theorem lG{fl:Nat}:∀{l:List (Nat×Ty)} {L:SL} {H:List Item},SR Z w0 H G w->FR Z n L H G w a->fl<=H.length->kN fl l L H=some (L',H')->SR Z w0 H' G w/\FR Z n L' H' G w a/\Ev Z fl H G w H' G w/\fl<=H'.length
 |[],L,H,hr,hf,hfl,h=>by
  simp only[kN,amp,amL]at h;obtain⟨rfl,rfl⟩:=h;exact⟨hr,hf,λs v h _=>h,hfl⟩
 |(t,e)::l,L,H,hr,hf,hfl,h=>by
  simp only[kN]at h;split at h
  ·rename_i hs;obtain⟨v,h1,h2⟩:=hf.slot t _ hs;have h2:v=.slice none 0 0:=h2;subst h2;exact lG hr (hf.say (s:=.d (.sl e) []) h1 ⟨[_],wN,rfl⟩) hfl h
  ·rename_i j hs;split at h<;>try (cases h;done)
   rename_i L1 H1 hg;have hfz:o8 fl [.tmp t] L H=some (L1,H1):=by simp only[o8,opS,hs,hg]
   obtain⟨g1,g2,g3,_,_⟩:=lc hr hf hfz
   have hlen:H1.length=H.length:=by
    unfold vu at hg;split at hg<;>try (cases hg;done)
    simp only[amp,amL]at hg;rw[<-hg.2];simp
   obtain⟨k1,k2,k3,k4⟩:=lG g1 g2 (by omega) h;exact⟨k1,k2,λs v hs hrf=>k3 s v (g3 s v hs λj hj=>xO hrf hj) hrf,k4⟩
  ·exact lG hr hf hfl h
theorem jx{α:Type}{l:List α}{k j:Nat}{x:α}(h:(l.take k)[j]?=some x):j<k/\l[j]?=some x:=by grind
theorem CL(hl:Nat){b:Nat}(h:Av Z H G b):Av Z (H.take hl) (G.take hl) b:=⟨h.1,λj it g h1 h2 h3=>h.2 j it g (jx h1).2 h2 (jx h3).2⟩
theorem sV{hl:Nat}{s:SV}{v:Value}(h:Rel1 G (Av Z H G) w s v)(hs:s.refs hl=true):Rel1 (G.take hl) (Av Z (H.take hl) (G.take hl)) w s v:=by
 have hk:Keeps (Av Z H G) (Av Z (H.take hl) (G.take hl)) w w:=⟨amm _,λb _ h=>CL hl h,λ_ _ _=>rfl⟩
 have g:∀(j:Nat) x,Nat.ble (j+1) hl=true->G[j]?=some x->(G.take hl)[j]?=some x:=λj x hj hx=>by
  grind [amn]
 cases s with
 |d t x=>obtain⟨cs,h1,h2⟩:=h;exact⟨cs,Ty.rd_keep hk h1,h2⟩
 |nil=>exact h
 |box j off=>obtain⟨b,h1,h2⟩:=h;exact⟨b,g j _ hs h1,h2⟩
 |elt e x off=>obtain⟨b,o,cs,h1,h2,h3,h4,h5⟩:=h;exact⟨b,o,cs,h1,CL hl h2,h3,Ty.rd_keep hk h4,h5⟩
 |own j=>exact g j _ hs h
 |oelt j sz i off=>obtain⟨b,m,c,h1,h2⟩:=h;exact⟨b,m,c,g j _ hs h1,h2⟩
 |cut e xs=>obtain⟨p,h1,h2⟩:=h;exact⟨p,Ty.rd_keep hk h1,h2⟩
 |osl j sz lo n=>obtain⟨x,q,c,h1,h2⟩:=h;exact⟨x,q,c,g j _ hs h1,h2⟩
 |clo f caps=>
  obtain⟨bs,h1,h2⟩:=h;refine⟨bs,?_,h2⟩;clear h2;induction caps generalizing bs with
  |nil=>cases bs<;>exact h1
  |cons c caps ih=>
   simp only[SV.refs,anu,aml]at hs;match bs,h1 with
   |b::bs,⟨q1,q2⟩=>exact⟨g c _ hs.1 q1,ih hs.2 bs q2⟩
 |tup l=>exact h
 |undef=>exact h
 |dead=>trivial
theorem TR{hl:Nat}(hr:SR Z w0 H G w)(hrf:(H.take hl).all (Item.refs hl)=true):SR Z w0 (H.take hl) (G.take hl) w:=by
 have hk:Keeps (Av Z H G) (Av Z (H.take hl) (G.take hl)) w w:=⟨amm _,λb _ h=>CL hl h,λ_ _ _=>rfl⟩
 refine⟨by simp[hr.len],hr.below,λj it g h1 h2=>?_,λi j it jt g h b hij h1 h2 h3 h4 h5 h6 h7=>hr.disj i j it jt g h b hij (jx h1).2 (jx h2).2 h3 h4 (jx h5).2 (jx h6).2 h7,hr.zf⟩;have hi:=hr.items j it g (jx h1).2 (jx h2).2;have hir:it.refs hl=true:=amC.1 hrf it (ano h1);cases it with
 |gone=>trivial
 |row et e xs=>obtain⟨css,k1,k2,k3⟩:=hi;exact⟨css,k1,aY (λ_ _ h=>Ty.rd_keep hk h) k2,k3⟩
 |len e xs=>obtain⟨et,css,k1,k2,k3⟩:=hi;exact⟨et,css,k1,aY (λ_ _ h=>Ty.rd_keep hk h) k2,k3⟩
 |rws t cs=>
  obtain⟨vs,k1,k3⟩:=hi;refine⟨vs,k1,?_⟩;clear k1 h1;induction cs generalizing vs with
  |nil=>cases vs<;>exact k3
  |cons s l ih=>
   simp only[Item.refs,anu,aml]at hir;match vs,k3 with
   |v::vs,⟨q1,q2⟩=>exact⟨sV q1 hir.1,ih hir.2 vs q2⟩
 |box t cs=>
  obtain⟨b,vs,rfl,k1,k2,k3⟩:=hi;refine⟨b,vs,rfl,k1,k2,?_⟩;clear k2 h1;induction cs generalizing vs with
  |nil=>cases vs<;>exact k3
  |cons s l ih=>
   simp only[Item.refs,anu,aml]at hir;match vs,k3 with
   |v::vs,⟨q1,q2⟩=>exact⟨sV q1 hir.1,ih hir.2 vs q2⟩
structure CR (Z:Nat->Prop) (F:FT) (w0:World) (c:Cfg) (G:List Value) (w:World) (a:Act) (ats:List Act):Prop where
 sr:SR Z w0 c.H G w
 fr:FR Z (ntm F c.f) c.L c.H G w a
 fl:c.fl<=c.H.length
 frs:FrsOk Z F c.H G w c.fl c.fs ats
theorem Er{R:SV->Value->Prop}{s:SV}(hs:∀v,R .nil v->R s v):∀{cs:List SV} {vs:List Value} {q:Nat},bI R cs vs->cs[q]?=some .nil->bI R (cs.set q s) vs
 |[],_,_,_,h=>by simp at h
 |c::cs,[],_,h,_=>h.elim
 |c::cs,v::vs,0,⟨h1,h2⟩,h=>by
  simp only[ang,amp]at h;subst h;exact⟨hs v h1,h2⟩
 |c::cs,v::vs,q+1,⟨h1,h2⟩,h=>by
  rw[amS]at h;exact⟨h1,Er hs h2 h⟩
theorem qa{fl:Nat}:∀{l:List (Nat×Nat×Nat×Ty)} {H:List Item} {G:List Value},SR Z w0 H G w->FR Z n L H G w a->fl<=H.length->∃G',SR Z w0 (nv l H) G' w/\FR Z n L (nv l H) G' w a/\Ev Z fl H G w (nv l H) G' w/\fl<=(nv l H).length
 |[],H,G,hr,hf,hfl=>⟨G,hr,hf,λs v h _=>h,hfl⟩
 |(j,q,et,e)::l,H,G,hr,hf,hfl=>by
  simp only[nv];split
  ·rename_i t cs hj;split
   ·rename_i hq hn;have hn:=amn hn;obtain⟨G1,k1,k2,k3,k4⟩:=lH (et:=et) (e:=e) (xs:=[]) (css:=[]) hr hf (aoo _ _) (ao5 w _ _ _) hn trivial fl false false;have hlt:=(amr.1 hj).1;have hj1:(H++[.row et e []])[j]?=some (.box t cs):=by rw[amE hlt];exact hj
    have hst:=oU (it':=.box t (cs.set q (.own H.length))) k1 hj1 rfl k1.below (amm _) (λ_ _ _=>rfl)
    have hsr:=CD (it':=.box t (cs.set q (.own H.length))) k1 hj1 rfl k1.below (amm _) (λ_ _ _=>rfl) (λg hg=>by
     obtain⟨b,vs,e1,e2,e3,e4⟩:=k1.items j _ g hj1 hg;refine⟨b,vs,e1,e2,e3,Er (λv hv=>?_) (aY (λs v h=>cV k1 hst h) e4) hq⟩;have hv:v=.slice none 0 0:=hv;subst hv;exact k3)
    rw[List.set_append,am2 hlt]at hsr hst;obtain⟨G2,g1,g2,g3,g4⟩:=qa (fl:=fl) (l:=l) hsr (k2.keep λs v h=>cV k1 hst h) (by simp;omega);exact⟨G2,g1,g2,λs v hs hrf=>g3 s v (cV k1 hst (k4.ev s v hs hrf)) hrf,g4⟩
   ·exact qa hr hf hfl
  ·exact qa hr hf hfl
theorem KP(hr:SR Z w0 H G w)(j:Nat):Step w0 j True H (H.set j .gone) G G w w:=by
 refine⟨by simp[hr.len],hr.below,amm _,λ_ _ _=>rfl,λi g _ h=>h,λi it'' hi h=>?_,λit' g' b h hl _ _=>?_,λ_ g h=>h,λa h=>h⟩
 ·simp_all [aod,te]
 ·rw[List.getElem?_set_self']at h;cases e:H[j]?<;>rw[e]at h<;>cases h;cases hl
theorem Ze:∀(l:List Nat) {H:List Item},SR Z w0 H G w->SR Z w0 (erH l H) G w/\(∀s v,Rel1 G (Av Z H G) w s v->Rel1 G (Av Z (erH l H) G) w s v)/\(erH l H).length=H.length
 |[],_,hr=>⟨hr,λ_ _ h=>h,rfl⟩
 |j::l,H,hr=>by
  have hs:=KP hr j
  obtain⟨g1,g2,g3⟩:=Ze l (hs.sr hr λit' g' h _=>by
   rw[List.getElem?_set_self']at h;cases e:H[j]?<;>rw[e]at h<;>cases h;trivial)
  exact⟨g1,λs v h=>g2 s v (cV hr hs h),by rw[erH,g3,anr]⟩
theorem LJ{L:SL}:∀(k:Nat) {H:List Item} {G:List Value},SR Z w0 H G w->FR Z n L H G w a->∃G',SR Z w0 (H++List.replicate k .gone) G' w/\FR Z n L (H++List.replicate k .gone) G' w a/\∀s v,Rel1 G (Av Z H G) w s v->Rel1 G' (Av Z (H++List.replicate k .gone) G') w s v
 |0,H,G,hr,hf=>⟨G,by simpa using hr,by simpa using hf,by simp⟩
 |k+1,H,G,hr,hf=>by
  have hs:=jr (it:=.gone) (g:=.bool true) hr (aoo _ _) (λb h=>by cases h);have h1:=u5 (it:=.gone) (g:=.bool true) hr (aoo _ _) (λb h=>by cases h) trivial;have h2:∀s v,Rel1 G (Av Z H G) w s v->Rel1 (G++[.bool true]) (Av Z (H++[.gone]) (G++[.bool true])) w s v:=λs v h=>cV hr hs h;obtain⟨G',g1,g2,g3⟩:=LJ k h1 (hf.keep h2);rw[amH]at g1 g2 g3;exact⟨G',g1,g2,λs v h=>g3 s v (h2 s v h)⟩
theorem Uh{L:SL}{p:Nat}(hr:SR Z w0 H G w)(hf:FR Z n L H G w a):∃G',SR Z w0 (Kl p H) G' w/\FR Z n L (Kl p H) G' w a/\(∀s v,Rel1 G (Av Z H G) w s v->Rel1 G' (Av Z (Kl p H) G') w s v)/\H.length<=(Kl p H).length:=by
 unfold Kl;split
 ·exact⟨G,hr,hf,λs v h=>h,amm _⟩
 ·obtain⟨G',g1,g2,g3⟩:=LJ (p-H.length) hr hf;exact⟨G',g1,g2,g3,by simp⟩
theorem U7{x:NI}{c c':Cfg}{ats:List Act}(h:ael x c=some c')(hc:CR Z F w0 c G w a ats):∃G',CR Z F w0 c' G' w a ats/\c'.f=c.f/\c'.K=c.K/\c'.fs=c.fs:=by
 unfold ael at h;split at h<;>try (cases h;done)
 rename_i L1 H1 h1;split at h<;>try (cases h;done)
 rename_i L2 H2 h2;split at h<;>try (cases h;done)
 rename_i L3 h3;split at h<;>try (cases h;done)
 rename_i hb;injection h with h;subst h;simp only[aml]at hb;obtain⟨⟨b1,b2⟩,b3⟩:=hb;obtain⟨G0,f1,f2,f3,f4⟩:=qa (l:=x.bx) hc.sr hc.fr hc.fl;obtain⟨Gp,p1,p2,p3,p4⟩:=Uh (p:=x.pd) f1 f2;obtain⟨G1,g1,g2,g3',g4⟩:=rh p1 p2 (amt f4 p4) h1;have g3:Ev Z c.fl c.H G w H1 G1 w:=λs v hs hr=>g3' s v (p3 s v (f3 s v hs hr)) hr;obtain⟨k1,k2,k3,k4⟩:=lG g1 g2 g4 h2;have b3':=amn b3;obtain⟨e1,e2,e3⟩:=Ze x.er k1;have hev:Ev Z c.fl c.H G w ((erH x.er H2).take x.hl) (G1.take x.hl) w:=λs v hs hrf=>sV (e2 s v (k3 s v (g3 s v hs hrf) hrf)) (pS b3' hrf);refine⟨G1.take x.hl,⟨TR e1 b2,⟨k2.defers,k2.size,λt s hs=>?_⟩,by simp[e3];omega,hc.frs.ev hev (amm _)⟩,rfl,rfl,rfl⟩;obtain⟨v,q1,q2⟩:=(k2.keep e2).slot t s (yU h3 t s hs);have hrf:s.refs x.hl=true:=amC.1 b1 (t,s) (z8 hs);exact⟨v,q1,dM (sV (nT q2 λl e=>by subst e;cases hrf) hrf)⟩
end
end
section
def iy(P:Program)(fn:Func)(R:Ending->World->Prop)(B:Code):List KJ->List KI
 |[]=>[]
 |.seq i::K=>.seq i::iy P fn R B K
 |.blk id::K=>.blk id::iy P fn R B K
 |.lp i::K=>.lp (InLoop P (nth B (i+1)) (iu P fn R B (iy P fn R B K)))::iy P fn R B K
def fj(P:Program)(F:FT)(Rt:Ending->World->Prop):List Fm->List Act->Ending->World->Prop
 |fm::fs,a::ats=>λe w'=>∃v,e=.returned v/\∃fn o,fQ F fm.f=some fn/\(ak (nth (aj F fm.f) fm.i))[fm.k]?=some o/\
   (fm.d=none->AtR P fn (fj P F Rt fs ats) (aj F fm.f) (iy P fn (fj P F Rt fs ats) (aj F fm.f) fm.K) fm.i (fm.k+1) (a.put o.dst v) w')/\
   (∀D,fm.d=some D->wpG P (ak (nth (aj F fm.f) fm.i)) (iu P fn (fj P F Rt fs ats) (aj F fm.f) (iy P fn (fj P F Rt fs ats) (aj F fm.f) fm.K)) (λ_=>True) ((ak (nth (aj F fm.f) fm.i)).size-D.length) (mkL (ak (nth (aj F fm.f) fm.i)).size D) (a.put o.dst v) w')
 |_,_=>Rt
section
variable {Z:Nat->Prop} {w0:World} {n:Nat} {L L':SL} {H H':List Item} {G G':List Value} {w w':World} {a:Act} {F:FT} {P:Program} {T:TT}
theorem fv{R:Type}{ops:Array Oper}{o:Oper}{yes no:SL->Option R}{r:R}(hf:FR Z n L H G w a)(h:c9 ops L o yes no=some r):
  (∃L',yes L'=some r/\FR Z n L' H G w a/\Region.wanted o (yielded ops a.tmps)=true)\/(∃L',no L'=some r/\FR Z n L' H G w a/\Region.wanted o (yielded ops a.tmps)=false):=by
 unfold c9 at h;split at h
 ·grind [Region.wanted]
 ·rename_i j want hg;split at h<;>try (cases h;done)
  rename_i d hd;split at h<;>try (cases h;done)
  ·rename_i b hb;obtain⟨v,h1,h2⟩:=hf.slot d _ hb;have hv:=r9 h2;subst hv;have hy:∀b':Bool,b=b'->FR Z n ((d,.d .bool b')::nS L d) H G w a:=λb' e=>by subst e;exact hf.say h1 h2
   have hw:Region.wanted o (yielded ops a.tmps)=(b==want):=by
    simp only[Region.wanted,hg,yielded,hd,Option.bind_some,h1];cases b<;>cases want<;>rfl
   grind
  ·rename_i hb;obtain⟨v,h1,h2⟩:=hf.slot d _ hb;have h2:v=undef:=h2;subst h2;refine .inr ⟨L,h,hf,?_⟩;simp only[Region.wanted,hg,yielded,hd,Option.bind_some,h1];rfl
theorem Wm{fn:Func}{R:Ending->World->Prop}{B:Code}{K:List KI}{i k:Nat}(hk:(ak (nth B i))[k]?=none)(h:iu P fn R B K .normal a w):AtR P fn R B K i k a w:=by simp_all [qq]
theorem VC{fn:Func}{R:Ending->World->Prop}{B:Code}{K:List KI}{i k:Nat}{o:Oper}(hk:(ak (nth B i))[k]?=some o)(hw:Region.wanted o (yielded (ak (nth B i)) a.tmps)=true)
  (h:o.upon P a (λa' w'=>AtR P fn R B K i (k+1) a' w') (iu P fn R B K) ((execOp a.eval o).run P w)):AtR P fn R B K i k a w:=by
 unfold AtR
 have:(ak (nth B i)).toList.drop k=o::(ak (nth B i)).toList.drop (k+1):=by
  grind [amz]
 rw[this];unfold wpList;rw[am2 hw];exact .inl h
theorem aaL{fn:Func}{R:Ending->World->Prop}{B:Code}{K:List KI}{i k:Nat}{o:Oper}(hk:(ak (nth B i))[k]?=some o)(hw:Region.wanted o (yielded (ak (nth B i)) a.tmps)=false)
  (h:AtR P fn R B K i (k+1) (a.put o.dst undef) w):AtR P fn R B K i k a w:=by
 unfold AtR
 have:(ak (nth B i)).toList.drop k=o::(ak (nth B i)).toList.drop (k+1):=by
  grind [amz]
 rw[this];unfold wpList;rwa [amJ (by rw[hw];simp)]
theorem PH(hT:eM P T=true)(hr:SR Z w0 H G w)(hf:FR Z n L H G w a):∀{rs:List ResultVar} {ss:List SV},Dv T H L rs=some ss->∃vs,bI (Rel G (Av Z H G) w) ss vs/\
  ((rs.mapM (m:=Sem) fun
   |.tmp t=>pure (a.tmps.getD t undef)
   |.cell ad t=>do loadVar t (<-asAddr (a.tmps.getD ad undef))).run P w)=.ok vs w:=by
 intro rs;induction rs with
 |nil=>intro ss h;simp only[Dv,amp]at h;subst h;exact⟨[],trivial,rfl⟩
 |cons q rs ih=>
  intro ss h;rw[List.mapM_cons];cases q with
  |tmp t=>
   simp only[Dv]at h;split at h<;>try (cases h;done)
   rename_i s l h1 h2;injection h with h;subst h;obtain⟨vs,g1,g2⟩:=ih h2;obtain⟨v,k1,k2⟩:=hf.slot t s h1;refine⟨v::vs,⟨k2,g1⟩,?_⟩;simp only[anf,anF,amK,anq,k1,Option.getD_some]at g2 ⊢;rw[g2];rfl
  |cell ad t=>
   simp only[Dv]at h;split at h<;>try (cases h;done)
   rename_i j off i l h1 hi h2;split at h<;>try (cases h;done)
   rename_i bt cells hj;split at h<;>try (cases h;done)
   rename_i s hl;injection h with h;subst h;obtain⟨vs,g1,g2⟩:=ih h2;obtain⟨p,k1,k2⟩:=hf.slot ad _ h1;obtain⟨v,e1,e2⟩:=Eo (rw:=true) hr (aF hT hi) k2 hj hl;obtain⟨b,hb,rfl⟩:=k2;refine⟨v::vs,⟨dM e1,g1⟩,?_⟩;have e3:=e2 w Agr.refl;simp only[Instr.loadAt,Instr.sureAddr,anf,anF,amK]at e3;simp only[anf,anF,amK,anq,k1,Option.getD_some,asAddr,e3]at g2 ⊢;rw[g2];rfl
theorem Qr{fn:Func}{R:Ending->World->Prop}(hT:eM P T=true)(hr:SR Z w0 H G w)(hf:FR Z n L H G w a){ss:List SV}(h:Dv T H L fn.results.toList=some ss)(hR:∀vs,bI (Rel G (Av Z H G) w) ss vs->R (.returned (ll vs)) w):bodyPost P fn R .ret a w:=by
 obtain⟨vs,g1,g2⟩:=PH (P:=P) hT hr hf h;refine⟨hf.defers,ll vs,?_,hR vs g1⟩;unfold Go.results;generalize hrs:fn.results=rs at*
 obtain⟨l⟩:=rs;simp only[List.mapM_toArray,bind_map_left];simp only[anf];refine(congrArg (λr:Result (List Value)=>r.andThen λ(a:List Value) w'=>Sem.run P (pure (if h:a.toArray.size=1 then a.toArray[0]else Value.tuple a.toArray)) w') g2).trans ?_;match vs with
 |[]=>rfl
 |[x]=>rfl
 |x::y::r=>simp[ll]
theorem Qy{ss:List SV}{vs:List Value}(hn:∀s∈ss,∀l,s≠.tup l)(h:bI (Rel G (Av Z H G) w) ss vs):Rel G (Av Z H G) w (aiC ss) (ll vs):=by
 have h1:bI (Rel1 G (Av Z H G) w) ss vs:=by
  induction ss generalizing vs with
  |nil=>cases vs<;>exact h
  |cons s ss ih=>
   match vs,h with
   |v::vs,⟨q1,q2⟩=>exact⟨nT q1 (hn s (by simp)),ih (λs hs=>hn s (by simp[hs])) q2⟩
 match ss,vs,h,h1 with
 |[],[],_,_=>exact⟨[],rfl,trivial⟩
 |[s],[v],⟨q1,_⟩,_=>exact q1
 |s::s'::ss,v::v'::vs,_,h1=>exact⟨v::v'::vs,rfl,h1⟩
theorem EG{A:Nat->Prop}:∀{l:List SV} {r:List RV} {vs:List Value},zz.outL l=some r->bI (Rel1 [] A w) l vs->rvS r=some l/\(∀q∈r,∃t x,q=.d t x)
 |[],r,vs,h,_=>by simp only[zz.outL,amp]at h;subst h;exact⟨rfl,by simp⟩
 |s::l,r,vs,h,ha=>by
  unfold zz.outL at h;split at h
  ·rename_i e;cases e
  ·rename_i t x l' e;injection e with e1 e2;subst e1 e2;split at h<;>try (cases h;done)
   rename_i r' hr';injection h with h;subst h;match vs,ha with
   |v::vs,⟨_,h2⟩=>
    obtain⟨g1,g2⟩:=EG hr' h2;exact⟨by simp[rvS,g1],λq hq=>by rcases amy.1 hq with rfl|hq;exact⟨t,x,rfl⟩;exact g2 q hq⟩
  ·cases h
theorem EL{T:TT}{H:List Item}:∀{ss al:List SV} {tys:List Nat},eW T H ss tys=some al->al.length=ss.length
 |[],al,[],h=>by simp only[eW,amp]at h;subst h;rfl
 |[],al,_::_,h=>by simp[eW]at h
 |_::_,al,[],h=>by simp[eW]at h
 |s::ss,al,t::ts,h=>by
  simp only[eW]at h;split at h<;>try (cases h;done)
  rename_i r hr;have ih:=EL hr;repeat' split at h
  all_goals first|(cases h;done)|(injection h with h;subst h;simp[ih])
theorem EF{A:Nat->Prop}{e:Ty}:∀{l:List SV} {xs:List (List e.D)} {vs:List Value},LD e l=some xs->bI (Rel1 [] A w) l vs->bI (λl y=>(Ty.sl e).rd A w l y) (vs.map ([·])) xs/\xs.length=l.length
 |[],xs,vs,h,ha=>by
  simp only[LD,amp]at h;subst h;cases vs with
  |nil=>exact⟨trivial,rfl⟩
  |cons v vs=>cases ha
 |s::l,xs,vs,h,ha=>by
  unfold LD at h;split at h
  ·rename_i e';cases e'
  ·rename_i t x r e';injection e' with e1 e2;subst e1 e2;split at h<;>try (cases h;done)
   rename_i y m h1 h2;injection h with h;subst h;obtain⟨rfl,rfl⟩:=cX h1;match vs,ha with
   |v::vs,⟨⟨cs,g1,g2⟩,g3⟩=>
    obtain⟨k1,k2⟩:=EF h2 g3;refine⟨⟨?_,k1⟩,by simp[k2]⟩;have g1':=g1;obtain⟨p,n,c,css,rfl,_⟩:=g1';have g2:v=_:=g2;subst g2;exact g1
  ·cases h
theorem Mn(_hT:eM P T=true)(hr:SR Z w0 H G w){ss:List SV}{tys:List Nat}{r:List RV}{vs:List Value}(h:zz T H ss tys=some r)(ha:bI (Rel G (Av Z H G) w) ss vs):ro Z w0.heap.size w r (ll vs):=by
 unfold zz at h;split at h
 ·rename_i j;split at h<;>try (cases h;done)
  rename_i et e xs hj;injection h with h;subst h;match vs,ha with
  |[v],⟨hv,_⟩=>
   obtain⟨css,k1,k2,k3⟩:=hr.items j _ _ hj hv;refine⟨css,k1,aY (λl y h=>Ty.rd_keep ⟨amm _,λb _ hA=>⟨hA.1,hA.2 j _ _ hj rfl hv⟩,λ_ _ _=>rfl⟩ h) k2,k3⟩
  ·rename_i et cs hj;split at h<;>try (cases h;done)
   rename_i l hl;split at h<;>try (cases h;done)
   split at h<;>try (cases h;done)
   rename_i e _ _ xs hx;injection h with h;subst h;match vs,ha with
   |[v],⟨hv,_⟩=>
    obtain⟨us,k1,k2⟩:=hr.items j _ _ hj hv;have h1:=ic (A:=λb=>Z b/\a9 v≠some b) (ss0:=cs) hr (λb _ hb=>⟨hb.1,hb.2 j _ _ hj rfl hv⟩) (.inl λk g b hg hb ⟨_,_,_,hk⟩=>⟨hr.zf b (((hr.items k _ g hk hg).blk rfl hb).1 rfl),hr.disj k j _ _ _ _ b (λe=>by subst e;rw[hj]at hk;cases hk) hk hj rfl rfl hg hv hb⟩) (λs hs=>hs) hl (aY (λs v h=>dM h) k2);obtain⟨g1,g2⟩:=EF hx h1;have hlen:=EL hl;refine⟨us.map ([·]),?_,g1,Nat.zero_lt_one⟩;rw[show(us.map ([·])).flatten=us by clear k1 k2 h1 g1;induction us<;>simp_all,g2,hlen];exact k1
 ·split at h<;>try (cases h;done)
  split at h<;>try (cases h;done)
  split at h<;>try (cases h;done)
  split at h<;>try (cases h;done)
  rename_i hb;injection h with h;subst h;match vs,ha with
  |[v],⟨hv,_⟩=>
   have hv:v=.slice none 0 0:=hv;subst hv;exact⟨[],ao5 _ _ _ _,trivial,amn hb⟩
 ·split at h<;>try (cases h;done)
  rename_i l hl;have h1:bI (Rel1 [] Z w) l vs:=ic (ss0:=ss) hr (λ_ _ h=>h.1) (.inl λj g b hg hb ⟨_,_,_,hj⟩=>hr.zf b (((hr.items j _ g hj hg).blk rfl hb).1 rfl)) (λs hs=>hs) hl ha;obtain⟨g1,g2⟩:=EG h h1;match r,g1,g2 with
  |[],g1,_=>
   simp only[rvS,amp]at g1;subst g1;match vs,h1 with
   |[],_=>exact⟨[],rfl,[],rfl,trivial⟩
  |[.d t x],g1,_=>
   simp only[rvS,amp]at g1;subst g1;match vs,h1 with
   |[v],⟨q,_⟩=>exact q
  |[.new et e xs],_,g2=>obtain⟨t,x,he⟩:=g2 (.new et e xs) (by simp);cases he
  |q::q'::r,g1,_=>
   have hlen:vs.length=(q::q'::r).length:=by
    rw[<-dD h1]
    have:∀(r:List RV) (l:List SV),rvS r=some l->l.length=r.length:=by
     intro r;induction r with
     |nil=>intro l h;simp only[rvS,amp]at h;subst h;rfl
     |cons q r ih=>
      intro l h;cases q<;>simp only[rvS]at h<;>split at h<;>first|(cases h;done)|(injection h with h;subst h;simp[ih _ (by assumption)])
    exact this _ _ g1
   match vs,hlen,h1 with
   |v::v'::vs,_,h1=>cases q<;>exact⟨v::v'::vs,rfl,l,g1,h1⟩
end
end
section
theorem nj{Z:Nat->Prop}{H:List Item}{G:List Value}{w:World}{a:Act}:∀{ss:List SV} {vs:List Value} {k:Nat},bI (Rel G (Av Z H G) w) ss vs->(∀t v,look (Ec k vs) t=some v->a.tmps[t]?=some v)->∀t s,aI (ti k ss) t=some s->∃v,a.tmps[t]?=some v/\Rel G (Av Z H G) w s v
 |[],[],k,_,_,t,s,h=>by simp[ti,aI]at h
 |s0::ss,v0::vs,k,⟨h1,h2⟩,ha,t,s,h=>by
  rcases gA h with⟨rfl,rfl⟩|⟨hne,h3⟩
  ·exact⟨v0,ha t v0 (by simp[Ec,look]),h1⟩
  ·refine nj h2 (λu x hx=>ha u x ?_) t s h3;simp only[Ec,look];split
   ·rename_i hb;have e:k=u:=amk hb;have:=(Ar vs (k+1) u x hx).1;omega
   ·exact hx
def AtG(P:Program)(fn:Func)(R:Ending->World->Prop)(B:Code)(K:List KI)(i:Nat)(S0:World->Prop)(m:Nat)(D:List Nat)(a:Act)(w:World):Prop:=
 wpG P (ak (nth B i)) (iu P fn R B K) S0 m (mkL (ak (nth B i)).size D) a w
def jR(P:Program)(F:FT)(Rt:Ending->World->Prop)(c:Cfg)(fn:Func)(G:List Value)(w:World)(a:Act)(ats:List Act):Pos->Prop
 |.nrm=>iu P fn (fj P F Rt c.fs ats) (aj F c.f) (iy P fn (fj P F Rt c.fs ats) (aj F c.f) c.K) .normal a w
 |.node i=>At P fn (fj P F Rt c.fs ats) (aj F c.f) (iy P fn (fj P F Rt c.fs ats) (aj F c.f) c.K) i a w
 |.ops i k=>AtR P fn (fj P F Rt c.fs ats) (aj F c.f) (iy P fn (fj P F Rt c.fs ats) (aj F c.f) c.K) i k a w
 |.ret=>bodyPost P fn (fj P F Rt c.fs ats) .ret a w
 |.tam i D=>D=[]->Region.noSelect (ak (nth (aj F c.f) i))=true->AtG P fn (fj P F Rt c.fs ats) (aj F c.f) (iy P fn (fj P F Rt c.fs ats) (aj F c.f) c.K) i (λ_=>True) (ak (nth (aj F c.f) i)).size [] a w
 |.tbx i D=>D=[]->Region.noSelect (ak (nth (aj F c.f) i))=true->AtG P fn (fj P F Rt c.fs ats) (aj F c.f) (iy P fn (fj P F Rt c.fs ats) (aj F c.f) c.K) i (λ_=>True) (ak (nth (aj F c.f) i)).size [] a w
 |.tal i D=>∀S0:World->Prop,(∀w w',S0 w->(w.heap.size<=w'.heap.size/\∀b,b<w.heap.size->w'.heap[b]?=w.heap[b]?)->S0 w')->(storeDone (ak (nth (aj F c.f) i)) (mkL (ak (nth (aj F c.f) i)).size D)\/S0 w)->Clo (ak (nth (aj F c.f) i)) (mkL (ak (nth (aj F c.f) i)).size D)->Region.noSelect (ak (nth (aj F c.f) i))=true->∀m',m'+D.length=(ak (nth (aj F c.f) i)).size->AtG P fn (fj P F Rt c.fs ats) (aj F c.f) (iy P fn (fj P F Rt c.fs ats) (aj F c.f) c.K) i S0 m' D a w
 |.drw i rw eff D=>∀Hs Gs ws,((storeDone (ak (nth (aj F c.f) i)) (mkL (ak (nth (aj F c.f) i)).size D)/\eff=true)\/(Agr rw Hs Gs ws w/\(∀b,b<ws.heap.size->jv c.H G b->jv Hs Gs b)/\(eff=false->c.H=Hs/\G=Gs/\w=ws)/\¬storeDone (ak (nth (aj F c.f) i)) (mkL (ak (nth (aj F c.f) i)).size D)))->Clo (ak (nth (aj F c.f) i)) (mkL (ak (nth (aj F c.f) i)).size D)->Region.noSelect (ak (nth (aj F c.f) i))=true->
   ∀m',m'+D.length=(ak (nth (aj F c.f) i)).size->AtG P fn (fj P F Rt c.fs ats) (aj F c.f) (iy P fn (fj P F Rt c.fs ats) (aj F c.f) c.K) i (Agr rw Hs Gs ws) m' D a w
section
variable {Z:Nat->Prop} {w0:World} {F:FT} {P:Program} {T:TT} {E:Env} {N:NT} {Fin:Nat->Cfg->Option (List RV)} {Rt:Ending->World->Prop} {r:List RV}
theorem wk{fn:Func}{R:Ending->World->Prop}{B:Code}{id:Nat}:∀{K K':List KJ},D2 id K=some K'->yX id (iy P fn R B K)=some (iy P fn R B K')
 |[],K',h=>by simp[D2]at h
 |.blk j::K,K',h=>by
  simp only[D2]at h;simp only[iy,yX];split at h
  ·rename_i hb;rw[hb];injection h with h;rw[h]
  ·rename_i hb;rw[hb];exact wk h
 |.seq _::K,K',h=>by simp only[D2]at h;simp only[iy,yX];exact wk h
 |.lp _::K,K',h=>by simp only[D2]at h;simp only[iy,yX];exact wk h
theorem IN {L : SL} {H : List Item} {G : List Value} {w : World} {a : Act} {n g : Nat} {ss : List SV} {o : Op} (hf : FR Z n L H G w a) (h : J8 F E L o = some (g, ss)) : ∃ f args tys fn caps, o = .call ⟨.value f, args, tys⟩ /\ fQ F g = some fn /\ a.eval f = .func (.func g) #[] caps /\ bI (Rel G (Av Z H G) w) ss (args.map a.eval ++ caps).toList /\ ss.length <= fn.ntmps /\ (!(fn.name == "runtime.NumGoroutine")) = true /\ fn.body.isSome = true := by
 unfold J8 at h;split at h<;>try (cases h;done)
 rename_i f args tys;split at h<;>try (cases h;done)
 rename_i g' caps hs;split at h<;>try (cases h;done)
 split at h<;>try (cases h;done)
 rename_i fn ss' hfn hss;split at h<;>try (cases h;done)
 rename_i hb;obtain⟨rfl,rfl⟩:=h;simp only[aml]at hb;obtain⟨bs,hbs,hfv⟩:=aE hf hs;refine⟨f,args,tys,fn,_,rfl,hfn,hfv,?_,by simp;exact amn hb.1,hb.2.1,hb.2.2⟩;have h1:=jq hf hss
 have h2:bI (Rel G (Av Z H G) w) (caps.map λj=>.box j 0) (bs.map λb=>Value.pointer (some ⟨b,0,none⟩)):=by
  clear hs hfv;induction caps generalizing bs with
  |nil=>cases bs<;>exact hbs
  |cons c caps ih=>
   match bs,hbs with
   |b::bs,⟨q1,q2⟩=>exact⟨⟨b,q1,rfl⟩,ih (by
    simp only[amD]at hb;exact⟨amI (by have:=amn hb.1;omega),hb.2⟩) bs q2⟩
 simp_all [dE]
theorem EY{ops:Array Oper}{eff:Bool}{D:List Nat}:∀{rs:List Nat} {j:Nat},E7 ops eff D rs=some j->j∈rs/\∃o,ops[j]?=some o/\isQ o.op=true/\(nI o.op=true->eff=false/\v9 ops j=true)/\o.dst.isSome=true/\Region.free .any ops (mkL ops.size D) j=true
 |[],j,h=>by simp[E7]at h
 |q::rs,j,h=>by
  simp only[E7]at h;split at h<;>try (cases h;done)
  rename_i o ho;split at h
  ·rename_i hb;injection h with h;subst h;simp only[aml,an1,Bool.and_eq_false_iff,ao6,Bool.not_eq_false']at hb;obtain⟨⟨⟨b1,b2⟩,b3⟩,b4⟩:=hb;exact⟨by simp,o,ho,b1,λhl=>by rcases b2 with b2|b2;rw[hl]at b2;cases b2;exact b2,b3,b4⟩
  ·obtain⟨h1,h2⟩:=EY h;exact⟨by simp[h1],h2⟩
end
end
abbrev dn(l:Array Bool):Nat->Bool:=λk=>l.getD k true
theorem jy(l:Array Bool)(j k:Nat):dn (l.setIfInBounds j true) k=if k=j then true else dn l k:=by
 by_cases h:k=j
 ·simp_all
 simp_all [aod]
theorem d8{d:Nat}{s:SV}{L:SL}{t:Nat}:aI ((d,s)::nS L d) t=if t=d then some s else aI L t:=by grind [aI,aoT,amk]
theorem wS:∀{l cs:List SV} {off:Nat},(nK cs off l).length=cs.length
 |[],_,_=>rfl
 |_::r,_,_=>by simp[nK,wS (l:=r)]
theorem ED:∀(l cs:List SV) (off i:Nat),(nK cs off l)[i]?=if off<=i/\i<off+l.length/\i<cs.length then l[i-off]? else cs[i]?
 |[],cs,off,i=>by rw[amJ (by simp;omega)];rfl
 |s::r,cs,off,i=>by
  rw[nK,ED r (cs.set off s) (off+1) i,anr,amD];by_cases h1:i=off
  ·subst h1;rw[amJ (by omega)];by_cases h2:i<cs.length
   ·rw[am2 (by omega),aoD,anY h2];rfl
   ·rw[amJ (by omega),anH (by simp;omega),anH (by omega)]
  ·by_cases h2:off+1<=i/\i<off+1+r.length/\i<cs.length
   ·rw[am2 h2,am2 (by omega),show i-off=(i-(off+1))+1 by omega,amS]
   ·rw[amJ h2,amJ (by omega),anT (aod h1)]
theorem Ko{l l' cs:List SV}{off off':Nat}(h:off+l.length<=off'\/off'+l'.length<=off):nK (nK cs off l) off' l'=nK (nK cs off' l') off l:=by
 refine anZ λi=>?_;grind [ED,wS]
theorem Fc{x:SV}:∀{l cs:List SV} {off:Nat},x∈nK cs off l->x∈cs\/x∈l
 |[],_,_,h=>.inl h
 |s::r,cs,off,h=>by
  rcases Fc (l:=r) h with h1|h1
  ·rcases aov h1 with h2|h2
   ·exact .inl h2
   ·subst h2;exact .inr (by simp)
  ·exact .inr (by simp[h1])
def ovI(s:AlS):Item->Item
 |.box bt cells=>.box bt (nK cells s.off s.l)
 |it=>it
theorem oh(s:AlS)(H:List Item)(k:Nat):(stP s H)[k]?=if k=s.j then H[k]?.map (ovI s)else H[k]?:=by
 unfold stP;split
 ·rename_i bt cells hb;by_cases h:k=s.j
  ·subst h;rw[am2 rfl,hb,anY (amr.1 hb).1];rfl
  grind
 ·rename_i hb;by_cases h:k=s.j
  ·subst h;rw[am2 rfl];cases hh:H[s.j]? with
   |none=>rfl
   |some it=>
    cases it with
    |box bt cells=>exact absurd hh (hb bt cells)
    |row=>rfl
    |len=>rfl
    |rws=>rfl
    |gone=>rfl
  ·rw[amJ h]
theorem JV(s:AlS)(H:List Item):(stP s H).length=H.length:=by grind [stP]
theorem Wb{s:AlS}{H:List Item}{k:Nat}{it:Item}(h:s.j≠k):stP s (H.set k it)=(stP s H).set k it:=by
 refine anZ λi=>?_;grind [oh,JV]
theorem uP{s p:AlS}(h:G3 s p=true):s.i≠p.i/\(s.j≠p.j\/s.off+s.l.length<=p.off\/p.off+p.l.length<=s.off):=by
 simp only[G3,aml,aok]at h;obtain⟨h1,h2⟩:=h;refine⟨λe=>(by rw[e,aoT]at h1;cases h1),?_⟩;rcases h2 with(h2|h2)|h2
 ·grind [aoT]
 ·simp_all
 simp_all
theorem Ps{s p:AlS}(h:G3 s p=true)(H:List Item):stP s (stP p H)=stP p (stP s H):=by
 obtain⟨_,h⟩:=uP h;refine anZ λk=>?_;rw[oh,oh,oh,oh];by_cases h1:k=s.j
 ·subst h1;rw[am2 rfl];by_cases h2:s.j=p.j
  ·rw[am2 h2,am2 h2,am2 rfl];cases hh:H[s.j]? with
   |none=>rfl
   |some it=>
    cases it with
    |box bt cells=>
     simp only[anz,ovI];rw[Ko (by rcases h with h|h|h;exact absurd h2 h;exact .inr h;exact .inl h)]
    |row=>rfl
    |len=>rfl
    |rws=>rfl
    |gone=>rfl
  ·rw[amJ h2,amJ h2,am2 rfl]
 grind
theorem uc{f:Nat->Bool}{H:List Item}:∀{ss:List AlS},(cD f ss H).length=H.length
 |[]=>rfl
 |s::r=>by
  simp only[cD];split
  ·rw[JV];exact uc
  ·exact uc
theorem yA{f:Nat->Bool}{H:List Item}{k:Nat}{it:Item}:∀{ss:List AlS},(∀s∈ss,f s.i=true->s.j≠k)->cD f ss (H.set k it)=(cD f ss H).set k it
 |[],_=>rfl
 |s::r,h=>by
  have ih:=yA (f:=f) (H:=H) (k:=k) (it:=it) (ss:=r) λs hs=>h s (by simp[hs]);simp only[cD];split
  ·rename_i h1;rw[ih,Wb (h s (by simp) h1)]
  ·exact ih
theorem kE{f g:Nat->Bool}{H:List Item}:∀{ss:List AlS},(∀s∈ss,f s.i=g s.i)->cD f ss H=cD g ss H
 |[],_=>rfl
 |s::r,h=>by
  simp only[cD];rw[h s (by simp),kE (ss:=r) λs hs=>h s (by simp[hs])]
theorem pN{f:Nat->Bool}{H:List Item}:∀{ss:List AlS},(∀s∈ss,f s.i=false)->cD f ss H=H
 |[],_=>rfl
 |s::r,h=>by
  simp only[cD];rw[h s (by simp)];exact pN (ss:=r) λs hs=>h s (by simp[hs])
theorem H9{f g:Nat->Bool}{H:List Item}{s:AlS}(hg:∀k,g k=if k=s.i then true else f k)(hf:f s.i=false):∀{ss:List AlS},ss.Pairwise (λs p=>G3 s p=true)->s∈ss->cD g ss H=stP s (cD f ss H)
 |[],_,hs=>by cases hs
 |p::r,hp,hs=>by
  obtain⟨h1,h2⟩:=anl.1 hp;simp only[cD];rcases amy.1 hs with e|hs
  ·subst e;rw[hg s.i,am2 rfl,hf];dsimp only;rw[kE (f:=g) (g:=f) (ss:=r) λq hq=>by rw[hg,amJ (aod (uP (h1 q hq)).1)]]
  ·have hne:=(uP (h1 s hs)).1;have ih:=H9 (H:=H) hg hf h2 hs;rw[hg p.i,amJ hne,ih];split
   ·exact Ps (h1 s hs) _
   ·rfl
theorem Ed{f:Nat->Bool}{H:List Item}{k bt:Nat}{cells:List SV}(h:H[k]?=some (.box bt cells)):∀{ss:List AlS},∃cells',(cD f ss H)[k]?=some (.box bt cells')/\cells'.length=cells.length
 |[]=>⟨cells,h,rfl⟩
 |s::r=>by
  obtain⟨c',h1,h2⟩:=Ed (f:=f) h (ss:=r);simp only[cD];split
  ·rw[oh,h1];split
   ·exact⟨_,rfl,by rw[wS,h2]⟩
   ·exact⟨c',rfl,h2⟩
  ·exact⟨c',h1,h2⟩
def Item.svs:Item->List SV
 |.box _ cs=>cs
 |.rws _ cs=>cs
 |_=>[]
def mQ(h0:Nat)(H:List Item):Prop:=∀(k:Nat) (it:Item),H[k]?=some it->∀s∈it.svs,s.refs h0=true
theorem EB{h0:Nat}{f:Nat->Bool}{H:List Item}(hH:mQ h0 H):∀{ss:List AlS},(∀s∈ss,∀x∈s.l,x.refs h0=true)->mQ h0 (cD f ss H)
 |[],_=>hH
 |s::r,h=>by
  have ih:=EB (f:=f) hH (ss:=r) λs hs=>h s (by simp[hs]);simp only[cD];split
  ·intro k it hk x hx;rw[oh]at hk;split at hk
   ·cases hh:(cD f r H)[k]? with
    |none=>rw[hh]at hk;cases hk
    |some i0=>
     rw[hh]at hk;simp only[anz,amp]at hk;subst hk;cases i0 with
     |box bt cells=>
      have hx:x∈nK cells s.off s.l:=hx;rcases Fc hx with h1|h1
      ·exact ih k _ hh x h1
      ·exact h s (by simp) x h1
     |_=>exact ih k _ hh x hx
   ·exact ih k it hk x hx
  ·exact ih
theorem tD(f:Nat->Bool)(la:List AlA)(r:Nat):(alX f la)[r]?=la[r]?.map λa=>match f a.i with
  |true=>.box a.t a.cs
  |false=>.gone:=by grind [alX]
abbrev Dis(la:List AlA):Prop:=la.Pairwise λa b=>a.i≠b.i/\a.d≠b.d
theorem Mm{la:List AlA}(h:Dis la){r k:Nat}{a b:AlA}(ha:la[r]?=some a)(hb:la[k]?=some b)(hne:k≠r):b.i≠a.i/\b.d≠a.d:=by grind [List.pairwise_iff_getElem]
theorem aaS{f g:Nat->Bool}{la:List AlA}{r:Nat}{a:AlA}(hd:Dis la)(ha:la[r]?=some a)(hg:∀k,g k=if k=a.i then true else f k):alX g la=(alX f la).set r (.box a.t a.cs):=by
 refine anZ λk=>?_;rw[ank,tD];by_cases h:r=k
 ·grind [alX,anA,amr,anz]
 ·rw[amJ h,tD];cases hk:la[k]? with
  |none=>rfl
  |some b=>
   simp only[anz];rw[hg,amJ (Mm hd ha hk (aod h)).1]
theorem GE{f g:Nat->Bool}{la:List AlA}{r:Nat}{a:AlA}{H0:List Item}(hd:Dis la)(ha:la[r]?=some a)(hg:∀k,g k=if k=a.i then true else f k):H0++alX g la=(H0++alX f la).set (H0.length+r) (.box a.t a.cs):=by
 rw[aaS hd ha hg,List.set_append,amJ (by omega),show H0.length+r-H0.length=r by omega]
theorem Um{h0:Nat}{f:Nat->Bool}{la:List AlA}{H0:List Item}(hH:mQ h0 H0)(hla:∀a∈la,∀x∈a.cs,x.refs h0=true):mQ h0 (H0++alX f la):=by
 intro k it hk x hx;rcases amX k H0.length with h|h
 ·rw[amE h]at hk;exact hH k it hk x hx
 grind [tD,Item.svs]
theorem iH{f g:Nat->Bool}{t:Nat}:∀{la:List AlA} {k:Nat} {L M:SL},(∀a∈la,a.d=t->f a.i=g a.i)->aI L t=aI M t->aI (fV f la k L) t=aI (fV g la k M) t
 |[],_,_,_,_,h=>h
 |b::l,k,L,M,hl,h=>by
  simp only[fV];refine iH (λa ha=>hl a (by simp[ha])) ?_;by_cases e:b.d=t
  ·rw[<-hl b (by simp) e];split
   ·rw[d8,d8,am2 e.symm,am2 e.symm]
   ·exact h
  ·have e':t≠b.d:=λh=>e h.symm;split<;>split<;>(try rw[d8,amJ e'])<;>(try rw[d8,amJ e'])<;>exact h
theorem E1{f:Nat->Bool}{t:Nat}:∀{la:List AlA} {k:Nat} {L:SL},(∀a∈la,a.d≠t)->aI (fV f la k L) t=aI L t
 |[],_,_,_=>rfl
 |b::l,k,L,h=>by
  simp only[fV];rw[E1 λa ha=>h a (by simp[ha])];split
  ·rw[d8,amJ (λe=>h b (by simp) e.symm)]
  ·rfl
theorem CP{f g:Nat->Bool}{a:AlA}(hg:∀k,g k=if k=a.i then true else f k):∀{la:List AlA} {r k:Nat} {L:SL},Dis la->la[r]?=some a->∀t,aI (fV g la k L) t=if t=a.d then some (.box (k+r) 0)else aI (fV f la k L) t
 |[],r,_,_,_,h,_=>by simp at h
 |b::l,0,k,L,hd,h,t=>by
  simp only[ang,amp]at h;subst h;obtain⟨h1,h2⟩:=anl.1 hd;simp only[fV];rw[hg b.i,am2 rfl];dsimp only;by_cases e:t=b.d
  ·subst e;rw[am2 rfl,E1 λa ha=>aod (h1 a ha).2,d8,am2 rfl,aoQ]
  ·rw[amJ e];refine iH (λa ha _=>by rw[hg,amJ (aod (h1 a ha).1)]) ?_;rw[d8,amJ e];split
   ·rw[d8,amJ e]
   ·rfl
 |b::l,r+1,k,L,hd,h,t=>by
  obtain⟨h1,h2⟩:=anl.1 hd;rw[amS]at h;simp only[fV];rw[hg b.i,amJ (h1 a (ano h)).1,CP hg h2 h t,show k+1+r=k+(r+1) by omega]
theorem Dn{f:Nat->Bool}{t:Nat}{s:SV}:∀{la:List AlA} {k:Nat} {L:SL},aI (fV f la k L) t=some s->(∃r a,la[r]?=some a/\t=a.d/\f a.i=true/\s=.box (k+r) 0)\/aI L t=some s
 |[],_,_,h=>.inr h
 |b::l,k,L,h=>by
  simp only[fV]at h;rcases Dn h with⟨r,a,h1,h2,h3,h4⟩|h1
  ·exact .inl ⟨r+1,a,by rw[amS];exact h1,h2,h3,by rw[h4,show k+1+r=k+(r+1) by omega]⟩
  ·split at h1
   ·rename_i hb;rw[d8]at h1;split at h1
    ·rename_i e;injection h1 with h1;exact .inl ⟨0,b,rfl,e,hb,by rw[<-h1,aoQ]⟩
    ·exact .inr h1
   ·exact .inr h1
theorem oZ{T:TT}{N:Nat}:∀{lo:List Oper} {i0:Nat} {la:List AlA},alA T N lo i0=some la->
  (∀q o,lo[q]?=some o->bj o=true->∃(r:Nat) (a:AlA),la[r]?=some a/\a.i=i0+q/\o.dst=some a.d/\a.d<N/\∃x,o.op=.alloc a.t/\dt T a.t=some x/\x.z=true/\(∀p q,x.ty≠.pair p q)/\a.cs=x.ty.zsplit)/\
  (∀a∈la,i0<=a.i/\∃o,lo[a.i-i0]?=some o/\bj o=true/\∃x,a.cs=Ty.zsplit x)/\Dis la
 |[],_,_,h=>by
  simp only[alA,amp]at h;subst h;exact⟨λq o h=>(by simp at h),λa h=>(by cases h),List.Pairwise.nil⟩
 |o::r,i,la,h=>by
  simp only[alA]at h
  have sub:∀{la:List AlA},(∀a∈la,i+1<=a.i/\∃o,r[a.i-(i+1)]?=some o/\bj o=true/\∃x,a.cs=Ty.zsplit x)->∀a∈la,i<=a.i/\∃o',(o::r)[a.i-i]?=some o'/\bj o'=true/\∃x,a.cs=Ty.zsplit x:=λh a ha=>by
   obtain⟨h1,o',h2,h3⟩:=h a ha;exact⟨by omega,o',by rw[show a.i-i=(a.i-(i+1))+1 by omega,amS];exact h2,h3⟩
  split at h
  ·rename_i hal;obtain⟨h1,h2,h3⟩:=oZ h;refine⟨λq o' hq ho=>?_,sub h2,h3⟩;cases q with
   |zero=>simp only[ang,amp]at hq;subst hq;rw[hal]at ho;cases ho
   |succ q=>
    rw[amS]at hq;obtain⟨r',a,k1,k2,k3⟩:=h1 q o' hq ho;exact⟨r',a,k1,by omega,k3⟩
  ·rename_i hal;split at h<;>try (cases h;done)
   rename_i t d hop hdst;split at h<;>try (cases h;done)
   rename_i x l hx hd hl;split at h<;>try (cases h;done)
   rename_i hz hne;split at h<;>try (cases h;done)
   rename_i hall;injection h with h;subst h;obtain⟨h1,h2,h3⟩:=oZ hl;refine⟨λq o' hq ho=>?_,λa ha=>?_,anl.2 ⟨λb hb=>?_,h3⟩⟩
   ·cases q with
    |zero=>
     simp only[ang,amp]at hq;subst hq;exact⟨0,_,rfl,rfl,hdst,amn hd,x,hop,hx,hz,λp q e=>hne _ _ e,rfl⟩
    |succ q=>
     rw[amS]at hq;obtain⟨r',a,k1,k2,k3⟩:=h1 q o' hq ho;exact⟨r'+1,a,by rw[amS];exact k1,by omega,k3⟩
   ·rcases amy.1 ha with e|ha
    ·subst e;exact⟨amm _,o,by simp,hal,x.ty,rfl⟩
    ·exact sub h2 a ha
   ·have:=amC.1 hall b hb;simp only[aml,an1]at this;exact⟨λe=>(by have:=this.1;simp only at e;rw[e,aoT]at this;cases this),λe=>(by have:=this.2;simp only at e;rw[e,aoT]at this;cases this)⟩
def Vp(T:TT)(ops:Array Oper)(la:List AlA)(h0:Nat)(La:SL)(Ha:List Item)(s:AlS)(o:Oper):Prop:=
 ∃t x v sv y bt cells,o.op=.store t x v/\o.guard=none/\o.dst=none/\opS La x=some (.box s.j s.off)/\opS La v=some sv/\dt T t=some y/\fD [] sv=some s.l/\Ha[s.j]?=some (.box bt cells)/\s.l.length=y.ty.n/\s.off+s.l.length<=cells.length/\
  (∀z∈s.l,z.refs h0=true)/\(∀a∈la,(Ks x a.d||Ks v a.d)=true->gz ops 4 s.i a.i=true)/\GS ops s.i s.j la h0=true
theorem mD{T:TT}{E:Env}{ops:Array Oper}{l:Array Bool}{la:List AlA}{h0:Nat}{La:SL}{Ha:List Item}:∀{lo:List Oper} {i0:Nat} {ss:List AlS},alS T E ops l la h0 La Ha lo i0=some ss->
  (∀q o,lo[q]?=some o->l.getD (i0+q) true=false->bj o=false->fo E o=false->∃s∈ss,s.i=i0+q)/\
  (∀s∈ss,i0<=s.i/\l.getD s.i true=false/\∃o,lo[s.i-i0]?=some o/\bj o=false/\Vp T ops la h0 La Ha s o)/\ss.Pairwise (λs p=>G3 s p=true)
 |[],_,_,h=>by
  simp only[alS,amp]at h;subst h;exact⟨λq o h=>(by simp at h),λa h=>(by cases h),List.Pairwise.nil⟩
 |o::r,i,ss,h=>by
  simp only[alS]at h
  have sub:∀{ss:List AlS},(∀s∈ss,i+1<=s.i/\l.getD s.i true=false/\∃o,r[s.i-(i+1)]?=some o/\bj o=false/\Vp T ops la h0 La Ha s o)->∀s∈ss,i<=s.i/\l.getD s.i true=false/\∃o',(o::r)[s.i-i]?=some o'/\bj o'=false/\Vp T ops la h0 La Ha s o':=λh a ha=>by
   obtain⟨h1,h1',o',h2,h3⟩:=h a ha;exact⟨by omega,h1',o',by rw[show a.i-i=(a.i-(i+1))+1 by omega,amS];exact h2,h3⟩
  split at h
  ·rename_i hal;obtain⟨h1,h2,h3⟩:=mD h;refine⟨λq o' hq hu ho ht=>?_,sub h2,h3⟩;cases q with
   |zero=>
    simp only[ang,amp]at hq;subst hq;rw[show i+0=i from rfl]at hu;rw[hu,ho,ht]at hal;cases hal
   |succ q=>
    rw[amS]at hq;obtain⟨s,k1,k2⟩:=h1 q o' hq (by rw[show i+1+q=i+(q+1) by omega];exact hu) ho ht;exact⟨s,k1,by omega⟩
  ·rename_i hal;simp only[ao6]at hal;split at h<;>try (cases h;done)
   rename_i t x v hop;split at h<;>try (cases h;done)
   rename_i j off sv y hg hdst hx hv hy;split at h<;>try (cases h;done)
   rename_i cs bt cells ss' hcs hH hss;split at h<;>try (cases h;done)
   rename_i hall;injection h with h;subst h;simp only[aml]at hall;obtain⟨⟨⟨⟨⟨c1,c2⟩,c3⟩,c4⟩,c5⟩,c6⟩:=hall;obtain⟨h1,h2,h3⟩:=mD hss;refine⟨λq o' hq hu ho ht=>?_,λs hs=>?_,anl.2 ⟨λp hp=>amC.1 c6 p hp,h3⟩⟩
   ·cases q with
    |zero=>exact⟨_,List.mem_cons_self ..,rfl⟩
    |succ q=>
     rw[amS]at hq;obtain⟨s,k1,k2⟩:=h1 q o' hq (by rw[show i+1+q=i+(q+1) by omega];exact hu) ho ht;exact⟨s,by simp[k1],by omega⟩
   ·rcases amy.1 hs with e|hs
    ·subst e
     exact⟨amm _,hal.1.1,o,by simp,hal.1.2,t,x,v,sv,y,bt,cells,hop,hg,hdst,hx,hv,hy,hcs,hH,amk c1,amn c2,amC.1 c3,λa ha hw=>by
      have:=amC.1 c4 a ha;rw[hw]at this;simpa using this,c5⟩
    ·exact sub h2 s hs
theorem Cq{ops:Array Oper}{i j:Nat}:∀{la:List AlA} {k r:Nat} {a:AlA},GS ops i j la k=true->la[r]?=some a->j=k+r->gz ops 4 i a.i=true
 |[],_,_,_,_,h,_=>by simp at h
 |b::l,k,0,a,h,ha,hj=>by
  simp only[ang,amp]at ha;subst ha;simp only[GS,aml,aok,an1]at h;rcases h.1 with h1|h1
  ·rw[hj,aoQ,aoT]at h1;cases h1
  ·exact h1
 |b::l,k,r+1,a,h,ha,hj=>by
  rw[amS]at ha;simp only[GS,aml]at h;exact Cq h.2 ha (by omega)
theorem jX{l:Array Bool}{k:Nat}(h:k<l.size):l.getD k false=l.getD k true:=by simp[h]
theorem xn{ops:Array Oper}{l':Array Bool}(hs:l'.size=ops.size):∀{C:List Nat} {l:Array Bool},GG ops l C=true->(∀k,l.getD k false=true->l'.getD k false=true)->(∃i∈C,l'.getD i true=false)->Region.ready .any ops l'≠[]
 |[],_,_,_,⟨_,h,_⟩=>by cases h
 |i::r,l,h,hsub,⟨k,hk,hu⟩=>by
  simp only[GG,aml]at h;obtain⟨h1,h2⟩:=h;split at h1<;>try (cases h1;done)
  rename_i o ho;have hlt:i<l'.size:=by rw[hs];exact(amw.1 ho).1
  cases hi:l'.getD i true with
  |false=>
   intro hr
   have:i∈Region.ready .any ops l':=anm.2 ⟨hi,o,ho,λe he hb=>by
    have:=amC.1 h1 e (Array.mem_toList_iff.2 he);rw[hb]at this;exact hsub _ (by simpa using this)⟩
   rw[hr]at this;cases this
  |true=>
   refine xn hs h2 (λq hq=>?_) ⟨k,(amy.1 hk).resolve_left λe=>(by subst e;rw[hi]at hu;cases hu),hu⟩;by_cases e:i=q
   ·subst e;rw[jX hlt];exact hi
   ·rw[aoS false e]at hq;exact hsub q hq
def cu(l:Array Bool):Nat:=l.toList.countP λb=>!b
theorem Ah:∀(l:List Bool) (j:Nat),l[j]?=some false->(l.set j true).countP (λb=>!b)+1=l.countP (λb=>!b)
 |[],_,h=>by simp at h
 |b::l,0,h=>by
  simp only[ang,amp]at h;subst h;simp
 |b::l,j+1,h=>by
  rw[amS]at h;have:=Ah l j h;rw[List.set_cons_succ];cases b<;>simp<;>omega
theorem zJ{l:Array Bool}{j:Nat}(h:l.getD j true=false):cu (l.setIfInBounds j true)+1=cu l:=by
 unfold cu;rw[Array.toList_setIfInBounds];refine Ah _ _ ?_;rcases amX j l.size with hlt|hge<;>simp_all
theorem T3{l:Array Bool}(h:cu l=0)(k:Nat):l.getD k true=true:=by
 rcases amX k l.size with hlt|hge
 ·have:=List.countP_eq_zero.1 h l[k] (by simp);simp_all
 grind
theorem F0(n:Nat):cu (mkL n [])=n:=by simp[cu,mkL,List.countP_replicate]
end Go.Proofs.YtmnlppieefomnaaGreatDoor
end
