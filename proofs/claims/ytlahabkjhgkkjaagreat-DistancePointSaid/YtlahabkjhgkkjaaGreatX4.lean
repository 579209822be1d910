/- The pure machine. -/
import Derived.Test.YtlahabkjhgkkjaaGreatX3
noncomputable section
namespace Go.Proofs.YtlahabkjhgkkjaaGreat
open Go.RowKit Go.IntKind
theorem auG:type_of% @List.getElem?_cons_succ:=@List.getElem?_cons_succ
theorem avp:type_of% @List.getElem?_set_ne:=@List.getElem?_set_ne
theorem avA:type_of% @List.pairwise_cons:=@List.pairwise_cons
theorem avM:type_of% @List.getElem?_set_self:=@List.getElem?_set_self
theorem av0:type_of% @List.length_map:=@List.length_map
theorem awi:type_of% @List.getElem_of_mem:=@List.getElem_of_mem
theorem awy:type_of% @Nat.beq_refl:=@Nat.beq_refl
theorem awF:type_of% @List.all_cons:=@List.all_cons
theorem awH:type_of% @List.drop_eq_nil_iff:=@List.drop_eq_nil_iff
theorem awI:type_of% @Bool.or_eq_false_iff:=@Bool.or_eq_false_iff
theorem awX:type_of% @List.set_append:=@List.set_append
section
inductive KJ where
 |seq (i:Nat)
 |blk (id:Nat)
 |lp (i:Nat)
structure Fm where
 f:Nat
 K:List KJ
 i:Nat
 k:Nat
 L:SL
 fl:Nat
 d:Option (List Nat):=none
structure Cfg where
 f:Nat
 K:List KJ
 L:SL
 H:List Item
 fl:Nat
 fs:List Fm
def Su(a b:Nat):Nat:=bif Nat.ble a b then b else a
def SV.ofm:SV→Nat
 |.own j=>j+1
 |.oelt j _ _ _=>j+1
 |.osl j _ _ _=>j+1
 |_=>0
def SV.ofmT:SV→Nat
 |.tup l=>l.foldr (fun s m=>Su s.ofm m) 0
 |s=>s.ofm
def slM:SL→Nat
 |[]=>0
 |(_,s)::r=>Su s.ofmT (slM r)
def Dl:List Fm→Nat
 |[]=>0
 |fm::r=>Su (slM fm.L) (Dl r)
inductive Pos where
 |nrm
 |node (i:Nat)
 |ops (i k:Nat)
 |drw (i:Nat) (rw eff:Bool) (D:List Nat)
 |tam (i:Nat) (D:List Nat)
 |tal (i:Nat) (D:List Nat)
 |tbx (i:Nat) (D:List Nat)
 |ret
abbrev FT:=List (Nat×Func)
def fQ:FT→Nat→Option Func
 |[],_=>none
 |(k,x)::r,t=>match Nat.beq k t with
  |true=>some x
  |false=>fQ r t
def aq(F:FT)(f:Nat):Code:=match fQ F f with
 |some fn=>fn.body.getD .skip
 |none=>.skip
structure NI where
 keep:List Nat
 own:List (Nat×Nat×Ty):=[]
 pure_:List (Nat×Ty):=[]
 bx:List (Nat×Nat×Nat×Ty):=[]
 hl:Nat
abbrev NT:=List ((Nat×Nat)×NI)
def Vq:NT→Nat→Nat→Option NI
 |[],_,_=>none
 |((f,i),x)::r,g,j=>match Nat.beq f g&&Nat.beq i j with
  |true=>some x
  |false=>Vq r g j
def dI(n:Nat)(L:SL):Option Nat→SV→Option SL
 |none,_=>some L
 |some d,s=>match Nat.ble (d+1) n with
  |true=>some ((d,s)::lc L d)
  |false=>none
def xp(N:NT)(f i:Nat)(L:SL):SL:=match Vq N f i with
 |some x=>fo L x.keep
 |none=>L
def Ej(L:SL):List Nat→Option SL
 |[]=>some []
 |t::ts=>match aX L t,Ej L ts with
  |some s,some r=>some ((t,s)::r)
  |_,_=>none
def Item.refs(hl:Nat):Item→Bool
 |.box _ cs=>cs.all (SV.refs hl)
 |_=>true
def m8:List (Nat×Nat×Ty)→SL→List Item→Option (SL×List Item)
 |[],L,H=>some (L,H)
 |(t,et,e)::r,L,H=>match aX L t with
  |some .nil=>match Nat.ble 1 e.n with
   |true=>m8 r ((t,.own H.length)::lc L t) (H++[.row et e []])
   |false=>none
  |_=>m8 r L H
def iS(fl:Nat):List (Nat×Ty)→SL→List Item→Option (SL×List Item)
 |[],L,H=>some (L,H)
 |(t,e)::r,L,H=>match aX L t with
  |some .nil=>iS fl r ((t,.d (.sl e) [])::lc L t) H
  |some (.own j)=>match sA fl j L H with
   |some (L',H')=>iS fl r L' H'
   |none=>none
  |_=>iS fl r L H
def kZ:List (Nat×Nat×Nat×Ty)→List Item→List Item
 |[],H=>H
 |(j,q,et,e)::r,H=>match H[j]? with
  |some (.box t cs)=>match cs[q]?,Nat.ble 1 e.n with
   |some .nil,true=>kZ r ((H.set j (.box t (cs.set q (.own H.length))))++[.row et e []])
   |_,_=>kZ r H
  |_=>kZ r H
def ak8(x:NI)(c:Cfg):Option Cfg:=match m8 x.own c.L (kZ x.bx c.H)with
 |some (L1,H1)=>match iS c.fl x.pure_ L1 H1 with
  |some (L2,H2)=>match Ej L2 x.keep with
   |some L3=>match L3.all (fun p=>p.2.refs x.hl)&&(H2.take x.hl).all (Item.refs x.hl)&&Nat.ble c.fl x.hl&&Nat.ble x.hl H2.length with
    |true=>some {c with L:=L3,H:=H2.take x.hl}
    |false=>none
   |none=>none
  |none=>none
 |none=>none
def A0(id:Nat):List KJ→Option (List KJ)
 |[]=>none
 |.blk j::K=>match Nat.beq j id with
  |true=>some K
  |false=>A0 id K
 |_::K=>A0 id K
def yA(ops:Array Oper)(eff:Bool)(D:List Nat):List Nat→Option Nat
 |[]=>none
 |j::r=>match ops[j]? with
  |some o=>match isQ o.op&&!(lD o.op&&(eff||!tT ops j))&&o.dst.isSome&&Region.free .any ops (mkL ops.size D) j with
   |true=>some j
   |false=>yA ops eff D r
  |none=>none
def Az(T:TT)(H:List Item)(L:SL):List ResultVar→Option (List SV)
 |[]=>some []
 |.tmp t::r=>match aX L t,Az T H L r with
  |some s,some l=>some (s::l)
  |_,_=>none
 |.cell ad t::r=>match aX L ad,dw T t,Az T H L r with
  |some (.box j off),some i,some l=>match H[j]? with
   |some (.box _ cells)=>match Jy i.ty (cells.drop off)with
    |some s=>some (s::l)
    |none=>none
   |_=>none
  |_,_,_=>none
def xz(T:TT)(H:List Item)(ss:List SV)(tys:List Nat):Option (List RV):=match ss with
 |[.own j]=>match H[j]? with
  |some (.row et e xs)=>some [.new et e xs]
  |_=>none
 |[.nil]=>match tys with
  |[t]=>match dw T t with
   |some i=>match i.ty with
    |.sl e=>match Nat.ble 1 e.n with
     |true=>some [.new i.el e []]
     |false=>none
    |_=>none
   |none=>none
  |_=>none
 |ss=>match j7 T H ss tys with
  |some l=>outL l
  |none=>none
where outL:List SV→Option (List RV)
 |[]=>some []
 |.d t x::r=>match outL r with
  |some l=>some (.d t x::l)
  |none=>none
 |_=>none
def VB{α:Type}(f:α→α→Bool):List α→List α→Bool
 |[],[]=>true
 |x::l,y::m=>match f x y with
  |true=>VB f l m
  |false=>false
 |_,_=>false
theorem AT{α:Type}{f:α→α→Bool}(hf:∀x y,f x y=true→x=y):∀{l m:List α},VB f l m=true→l=m
 |[],[],_=>rfl
 |x::l,y::m,h=>by
  simp only[VB]at h
  split at h
  ·rename_i h1;rw[hf x y h1,AT hf h]
  ·cases h
 |[],_::_,h=>by cases h
 |_::_,[],h=>by cases h
def Ty.beq:(t:Ty)→t.D→t.D→Bool
 |.int _,x,y=>decide ((x:Int)=y)
 |.bool,x,y=>match x,y with
  |true,true=>true
  |false,false=>true
  |_,_=>false
 |.str,_,_=>false
 |.sl e,x,y=>VB e.beq x y
 |.pair a b,x,y=>match a.beq x.1 y.1 with
  |true=>b.beq x.2 y.2
  |false=>false
 |.st a,x,y=>a.beq x y
theorem Ty.beq_ok:∀(t:Ty) (x y:t.D),t.beq x y=true→x=y
 |.int _,x,y,h=>at6 (p:=(x:Int)=y) h
 |.bool,x,y,h=>by cases x<;>cases y<;>first|rfl|cases h
 |.str,_,_,h=>by cases h
 |.sl e,x,y,h=>AT e.beq_ok h
 |.pair a b,(x1,x2),(y1,y2),h=>by
  simp only[Ty.beq]at h
  split at h
  ·rename_i h1
   rw[a.beq_ok _ _ h1,b.beq_ok _ _ h]
  ·cases h
 |.st a,x,y,h=>a.beq_ok x y h
def RV.beq:RV→RV→Bool
 |.d t x,.d t' y=>match fv t t' x with
  |some z=>t'.beq z y
  |none=>false
 |.new n e xs,.new m e' ys=>match Nat.beq n m,fv (.sl e) (.sl e') xs with
  |true,some z=>Ty.beq (.sl e') z ys
  |_,_=>false
 |_,_=>false
theorem RV.beq_ok:∀(x y:RV),x.beq y=true→x=y
 |.d t x,.d t' y,h=>by
  simp only[RV.beq]at h
  split at h
  ·rename_i z hz
   obtain⟨rfl,rfl⟩:=dO hz
   rw[←Ty.beq_ok _ _ _ h]
  ·cases h
 |.new n e xs,.new m e' ys,h=>by
  simp only[RV.beq]at h
  split at h
  ·rename_i z h1 hz
   obtain⟨he,rfl⟩:=dO hz
   cases he
   rw[←Ty.beq_ok _ _ _ h,auh h1]
  ·cases h
 |.d _ _,.new _ _ _,h=>by cases h
 |.new _ _ _,.d _ _,h=>by cases h
def asL:Option (List RV)→Option (List RV)→Bool
 |some x,some y=>VB RV.beq x y
 |_,_=>false
def cp(x y:Option (List RV)):Option (List RV):=match asL x y with
 |true=>x
 |false=>LJ x y
theorem ao(x:Option (List RV)):cp x x=x:=by
 unfold cp
 split
 ·rfl
 ·exact av x
theorem FF{x y:Option (List RV)}{r:List RV}(h:cp x y=some r):x=some r∧y=some r:=by
 unfold cp at h
 split at h
 ·rename_i he
  subst h
  cases y with
  |none=>cases he
  |some y=>exact⟨rfl,by rw[AT RV.beq_ok he]⟩
 ·exact yF h
inductive Sh where
 |l
 |b (x y:Sh)
def dup:Sh→Option (List RV)→Option (List RV)
 |.l,x=>x
 |.b s t,x=>cp (dup s x) (dup t x)
theorem aK:∀(s:Sh) (x:Option (List RV)),dup s x=x
 |.l,_=>rfl
 |.b s t,x=>by rw[dup,aK s,aK t,ao]
def Lc(f:Nat→Option (List RV)):List Nat→Option (List RV)
 |[]=>none
 |j::rs=>match rs with
  |[]=>f j
  |_::_=>cp (f j) (Lc f rs)
theorem yM{f:Nat→Option (List RV)}{r:List RV}:∀{rs:List Nat},Lc f rs=some r→∀j∈rs,f j=some r
 |[],h=>by simp[Lc]at h
 |[q],h=>by intro j hj;simp at hj;subst hj;exact h
 |q::q'::rs,h=>by
  have h:cp (f q) (Lc f (q'::rs))=some r:=h
  have⟨h1,h2⟩:=FF h
  intro j hj
  rcases auK.1 hj with rfl|hj
  ·exact h1
  ·exact yM h2 j hj
def akd:List SV→SV
 |[s]=>s
 |l=>.tup l
section
variable (P:Program) (F:FT) (T:TT) (E:Env) (N:NT) (Fin:Nat→Cfg→Option (List RV))
def head(i:Nat)(c:Cfg):Option (List RV):=match Vq N c.f i with
 |some x=>match ak8 x c with
  |some c'=>Fin i c'
  |none=>none
 |none=>Fin i c
def ntm(f:Nat):Nat:=match fQ F f with
 |some fn=>fn.ntmps
 |none=>0
def qj:Nat→List SV→SL
 |_,[]=>[]
 |k,s::r=>(k,s)::qj (k+1) r
def aqx(E:Env)(g:Nat):Bool:=match lP E g with
 |some sp=>match sp.mut_ with
  |some m=>m.bx.isSome
  |none=>false
 |none=>true
def EG(L:SL)(o:Op):Option (Nat×List SV):=match o with
 |.call ⟨.value f,args,_⟩=>match opS L f with
  |some (.clo g caps)=>match aqx E g with
   |false=>none
   |true=>match fQ F g,Bl L args.toList with
    | some fn, some ss => match Nat.ble (ss.length + caps.length) fn.ntmps && (!(fn.name == "runtime.NumGoroutine") && fn.body.isSome) with
     |true=>some (g,ss++caps.map fun j=>.box j 0)
     |false=>none
    |_,_=>none
  |_=>none
 |_=>none
def Us(L:SL)(ops:Array Oper)(D:List Nat):Option Nat:=match cd E ops&&!(ops.toList.any bI),Region.ready .any ops (mkL ops.size D)with
 |true,[j]=>match ops[j]? with
  |some o=>match isQ o.op,EG F E L o.op,Nat.ble (D.length+1) ops.size with
   |false,some _,true=>some j
   |_,_,_=>none
  |none=>none
 |_,_=>none
def go:Nat→Cfg→Pos→Option (List RV)
 |0,_,_=>none
 |m+1,c,p=>match p with
  |.nrm=>match c.K with
   |[]=>go m c .ret
   |.seq j::K=>go m {c with K:=K} (.node j)
   |.blk _::K=>go m {c with K:=K} .nrm
   |.lp i::K=>head N Fin i {c with K:=K}
  |.node i=>match nth (aq F c.f) i with
   |.skip=>go m c .nrm
   |.seq a _=>go m {c with K:=.seq (i+1+Code.size a)::c.K} (.node (i+1))
   |.block id _=>go m {c with K:=.blk id::c.K} (.node (i+1))
   |.exit id=>match A0 id c.K with
    |some K=>go m {c with K:=K} .nrm
    |none=>none
   |.ret=>go m c .ret
   |.cond x a _=>match opS c.L x with
    |some (.d .bool b)=>match b with
     |true=>go m c (.node (i+1))
     |false=>go m c (.node (i+1+Code.size a))
    |_=>none
   |.loop _=>head N Fin i c
   |.region _ _ false=>go m c (.ops i 0)
   |.region _ ops true=>match Region.noSelect ops with
    |true=>match adu E ops with
     |true=>match ops.toList.any (ama E)with
      |true=>go m c (.tbx i [])
      |false=>go m c (.tam i [])
     |false=>go m c (.drw i (!(ops.any fun o=>lQ o.op)) false [])
    |false=>none
   |_=>none
  |.ops i k=>match(au (nth (aq F c.f) i))[k]? with
   |none=>go m c .nrm
   |some o=>ct (au (nth (aq F c.f) i)) c.L o
     (fun L=>match isQ o.op with
      |true=>match fzB (Dl c.fs) o L c.H with
       |some (L1,H1)=>qop P T true L1 H1 o fun s=>match dI (ntm F c.f) L1 o.dst s with
        |some L'=>go m {c with L:=L',H:=H1} (.ops i (k+1))
        |none=>none
       |none=>none
      |false=>match EG F E L o.op with
       |some (g,ss)=>go m {f:=g,K:=[],L:=qj 0 ss,H:=c.H,fl:=c.H.length,fs:={f:=c.f,K:=c.K,i:=i,k:=k,L:=xp N c.f i L,fl:=c.fl}::c.fs} (.node 0)
       |none=>eop T E (Dl c.fs) L c.H o fun s H' L1=>match dI (ntm F c.f) L1 o.dst s with
        |some L'=>go m {c with L:=L',H:=H'} (.ops i (k+1))
        |none=>none)
     (fun L=>match dI (ntm F c.f) L o.dst .undef with
      |some L'=>go m {c with L:=L'} (.ops i (k+1))
      |none=>none)
  |.drw i rw eff D=>match adr E (au (nth (aq F c.f) i)) (mkL (au (nth (aq F c.f) i)).size D)with
   |true=>go m c (.tal i D)
   |false=>match Region.ready .any (au (nth (aq F c.f) i)) (mkL (au (nth (aq F c.f) i)).size D)with
   |[]=>go m c .nrm
   |rs=>match Nat.ble (D.length+1) (au (nth (aq F c.f) i)).size with
    |false=>none
    |true=>match yA (au (nth (aq F c.f) i)) eff D rs with
     |some j=>match(au (nth (aq F c.f) i))[j]? with
      |none=>none
      |some o=>ct (au (nth (aq F c.f) i)) c.L o
       (fun L=>qop P T rw L c.H o fun s=>match dI (ntm F c.f) L o.dst s with
        |some L'=>go m {c with L:=L'} (.drw i rw eff (j::D))
        |none=>none)
       (fun L=>match dI (ntm F c.f) L o.dst .undef with
        |some L'=>go m {c with L:=L'} (.drw i rw eff (j::D))
        |none=>none)
     |none=>Lc (fun j=>match(au (nth (aq F c.f) i))[j]? with
       |none=>none
       |some o=>ct (au (nth (aq F c.f) i)) c.L o
        (fun L=>match isQ o.op with
         |true=>qop P T true L c.H o fun s=>match dI (ntm F c.f) L o.dst s with
          |some L'=>go m {c with L:=L'} (.drw i rw eff (j::D))
          |none=>none
         |false=>match uI E L o.op||(lQ o.op&&rw)with
          |true=>none
          |false=>eop T E (Dl c.fs) L c.H o fun s H' L1=>match dI (ntm F c.f) L1 o.dst s with
           |some L'=>go m {c with L:=L',H:=H'} (.drw i rw true (j::D))
           |none=>none)
        (fun L=>match dI (ntm F c.f) L o.dst .undef with
         |some L'=>go m {c with L:=L'} (.drw i rw (eff||dA o.op) (j::D))
         |none=>none)) rs
  |.tam i D=>match eL E (au (nth (aq F c.f) i)) (mkL (au (nth (aq F c.f) i)).size D)with
   |true=>match Us F E c.L (au (nth (aq F c.f) i)) D with
    |some j=>match(au (nth (aq F c.f) i))[j]? with
     |some o=>ct (au (nth (aq F c.f) i)) c.L o
      (fun L=>match EG F E L o.op with
       |some (g,ss)=>go m {f:=g,K:=[],L:=qj 0 ss,H:=c.H,fl:=c.H.length,fs:={f:=c.f,K:=c.K,i:=i,k:=j,L:=xp N c.f i L,fl:=c.fl,d:=some (j::D)}::c.fs} (.node 0)
       |none=>none)
      (fun L=>match dI (ntm F c.f) L o.dst .undef with
       |some L'=>go m {c with L:=L'} (.tal i (j::D))
       |none=>none)
     |none=>none
    |none=>match tM E (au (nth (aq F c.f) i))with
    |true=>match Zt T E (ntm F c.f) (au (nth (aq F c.f) i)) (mkL (au (nth (aq F c.f) i)).size D) c.L c.H with
     |some (L',H',C)=>match Nat.ble (C++D).length (au (nth (aq F c.f) i)).size with
      |true=>go m {c with L:=L',H:=H'} (.drw i true true (C++D))
      |false=>none
     |none=>match(au (nth (aq F c.f) i)).toList.any bI||!(cd E (au (nth (aq F c.f) i)))with
      |true=>none
      |false=>go m c (.drw i (!((au (nth (aq F c.f) i)).any fun o=>lQ o.op)) false D)
    |false=>match(au (nth (aq F c.f) i)).toList.any bI||!(cd E (au (nth (aq F c.f) i)))with
     |true=>none
     |false=>go m c (.drw i (!((au (nth (aq F c.f) i)).any fun o=>lQ o.op)) false D)
   |false=>match Nat.ble (D.length+1) (au (nth (aq F c.f) i)).size,xH E (au (nth (aq F c.f) i)) D (Region.ready .any (au (nth (aq F c.f) i)) (mkL (au (nth (aq F c.f) i)).size D))with
    |true,some j=>match(au (nth (aq F c.f) i))[j]? with
     |some o=>ct (au (nth (aq F c.f) i)) c.L o
      (fun L=>tq P T E (fo L (o.looksAt (au (nth (aq F c.f) i)))) c.H o fun s=>match dI (ntm F c.f) L o.dst s,s.refsT c.H.length with
       |some L',true=>go m {c with L:=L'} (.tam i (j::D))
       |_,_=>none)
      (fun L=>match dI (ntm F c.f) L o.dst .undef with
       |some L'=>go m {c with L:=L'} (.tam i (j::D))
       |none=>none)
     |none=>none
    |_,_=>none
  |.tbx i D=>match eL E (au (nth (aq F c.f) i)) (mkL (au (nth (aq F c.f) i)).size D)with
   |true=>match cd E (au (nth (aq F c.f) i))with
    |true=>go m c (.tam i D)
    |false=>none
   |false=>match Nat.ble (D.length+1) (au (nth (aq F c.f) i)).size,xR E (au (nth (aq F c.f) i)) D (Region.ready .any (au (nth (aq F c.f) i)) (mkL (au (nth (aq F c.f) i)).size D))with
    |true,some j=>match(au (nth (aq F c.f) i))[j]? with
     |some o=>ct (au (nth (aq F c.f) i)) c.L o
      (fun L=>match bxC E (fo L (o.looksAt (au (nth (aq F c.f) i)))) c.H o with
       |some (q,s,b)=>match dI (ntm F c.f) L o.dst s,s.refsT c.H.length with
        |some L',true=>go m {c with L:=L',H:=jr q b c.H} (.tbx i (j::D))
        |_,_=>none
       |none=>tq P T E (fo L (o.looksAt (au (nth (aq F c.f) i)))) (c.H.map ddI) o fun s=>match dI (ntm F c.f) L o.dst s,s.refsT c.H.length with
        |some L',true=>go m {c with L:=L'} (.tbx i (j::D))
        |_,_=>none)
      (fun L=>match dI (ntm F c.f) L o.dst .undef with
       |some L'=>go m {c with L:=L'} (.tbx i (j::D))
       |none=>none)
     |none=>none
    |_,_=>none
  |.tal i D=>match Region.ready .any (au (nth (aq F c.f) i)) (mkL (au (nth (aq F c.f) i)).size D)with
   |[]=>go m c .nrm
   |rs=>match Nat.ble (D.length+1) (au (nth (aq F c.f) i)).size,xT E (au (nth (aq F c.f) i)) D rs with
    |true,some j=>match(au (nth (aq F c.f) i))[j]? with
     |some o=>ct (au (nth (aq F c.f) i)) c.L o
      (fun L=>tq P T E (fo L (o.looksAt (au (nth (aq F c.f) i)))) c.H o fun s=>match dI (ntm F c.f) L o.dst s,s.refsT c.H.length with
       |some L',true=>go m {c with L:=L'} (.tal i (j::D))
       |_,_=>none)
      (fun L=>match dI (ntm F c.f) L o.dst .undef with
       |some L'=>go m {c with L:=L'} (.tal i (j::D))
       |none=>none)
     |none=>none
    |_,_=>none
  |.ret=>match fQ F c.f with
   |some fn=>match Az T c.H c.L fn.results.toList with
    |some ss=>match c.fs with
     |[]=>xz T c.H ss fn.resultTypes.toList
     |fm::fs=>match(au (nth (aq F fm.f) fm.i))[fm.k]? with
      |some o=>match dI (ntm F fm.f) fm.L o.dst (akd ss),ss.all SV.good with
       |some L',true=>match fm.d with
        |none=>go m {f:=fm.f,K:=fm.K,L:=L',H:=c.H,fl:=fm.fl,fs:=fs} (.ops fm.i (fm.k+1))
        |some D=>go m {f:=fm.f,K:=fm.K,L:=L',H:=c.H,fl:=fm.fl,fs:=fs} (.tal fm.i D)
       |_,_=>none
      |none=>none
    |none=>none
   |none=>none
end
def frc{R:Type}(n:Nat)(k:Nat→R):R:=match n with
 |0=>k 0
 |n+1=>k (n+1)
theorem oU{R:Type}(n:Nat)(k:Nat→R):frc n k=k n:=by cases n<;>rfl
def alQ(_P:Program)(_F:FT)(_T:TT)(_E:Env)(N:NT)(Fin:Nat→Cfg→Option (List RV))(rec:Cfg→Pos→Option (List RV))(f:Nat)(K:List KJ)(L:SL)(H:List Item)(fl:Nat)(fs:List Fm):Option (List RV):=match K with
 |[]=>rec ⟨f,[],L,H,fl,fs⟩ .ret
 |.seq j::K=>rec ⟨f,K,L,H,fl,fs⟩ (.node j)
 |.blk _::K=>rec ⟨f,K,L,H,fl,fs⟩ .nrm
 |.lp i::K=>head N Fin i ⟨f,K,L,H,fl,fs⟩
def WF(_P:Program)(F:FT)(_T:TT)(E:Env)(N:NT)(Fin:Nat→Cfg→Option (List RV))(rec:Cfg→Pos→Option (List RV))(f:Nat)(K:List KJ)(L:SL)(H:List Item)(fl:Nat)(fs:List Fm)(i:Nat):Option (List RV):=match nth (aq F f) i with
 |.skip=>rec ⟨f,K,L,H,fl,fs⟩ .nrm
 |.seq a _=>frc (i+1+Code.size a) fun j=>frc (i+1) fun i'=>rec ⟨f,.seq j::K,L,H,fl,fs⟩ (.node i')
 |.block id _=>frc (i+1) fun i'=>rec ⟨f,.blk id::K,L,H,fl,fs⟩ (.node i')
 |.exit id=>match A0 id K with
  |some K=>rec ⟨f,K,L,H,fl,fs⟩ .nrm
  |none=>none
 |.ret=>rec ⟨f,K,L,H,fl,fs⟩ .ret
 |.cond x a _=>match opS L x with
  |some (.d .bool b)=>match b with
   |true=>frc (i+1) fun i'=>rec ⟨f,K,L,H,fl,fs⟩ (.node i')
   |false=>frc (i+1+Code.size a) fun j=>rec ⟨f,K,L,H,fl,fs⟩ (.node j)
  |_=>none
 |.loop _=>head N Fin i ⟨f,K,L,H,fl,fs⟩
 |.region _ _ false=>rec ⟨f,K,L,H,fl,fs⟩ (.ops i 0)
 |.region _ ops true=>match Region.noSelect ops with
  |true=>match adu E ops with
   |true=>match ops.toList.any (ama E)with
    |true=>rec ⟨f,K,L,H,fl,fs⟩ (.tbx i [])
    |false=>rec ⟨f,K,L,H,fl,fs⟩ (.tam i [])
   |false=>rec ⟨f,K,L,H,fl,fs⟩ (.drw i (!(ops.any fun o=>lQ o.op)) false [])
  |false=>none
 |_=>none
def aeF(P:Program)(F:FT)(T:TT)(E:Env)(N:NT)(_Fin:Nat→Cfg→Option (List RV))(rec:Cfg→Pos→Option (List RV))(f:Nat)(K:List KJ)(L:SL)(H:List Item)(fl:Nat)(fs:List Fm)(i k:Nat):Option (List RV):=match(au (nth (aq F f) i))[k]? with
   |none=>rec ⟨f,K,L,H,fl,fs⟩ .nrm
   |some o=>ct (au (nth (aq F f) i)) L o
     (fun L=>match isQ o.op with
      |true=>match fzB (Dl fs) o L H with
       |some (L1,H1)=>qop P T true L1 H1 o fun s=>match dI (ntm F f) L1 o.dst s with
        |some L'=>frc (k+1) fun k'=>rec ⟨f,K,L',H1,fl,fs⟩ (.ops i k')
        |none=>none
       |none=>none
      |false=>match EG F E L o.op with
       |some (g,ss)=>rec ⟨g,[],qj 0 ss,H,H.length,⟨f,K,i,k,xp N f i L,fl,none⟩::fs⟩ (.node 0)
       |none=>eop T E (Dl fs) L H o fun s H' L1=>match dI (ntm F f) L1 o.dst s with
        |some L'=>frc (k+1) fun k'=>rec ⟨f,K,L',H',fl,fs⟩ (.ops i k')
        |none=>none)
     (fun L=>match dI (ntm F f) L o.dst .undef with
      |some L'=>frc (k+1) fun k'=>rec ⟨f,K,L',H,fl,fs⟩ (.ops i k')
      |none=>none)
def aev(P:Program)(F:FT)(T:TT)(E:Env)(_N:NT)(_Fin:Nat→Cfg→Option (List RV))(rec:Cfg→Pos→Option (List RV))(f:Nat)(K:List KJ)(L:SL)(H:List Item)(fl:Nat)(fs:List Fm)(i:Nat)(rw eff:Bool)(D:List Nat):Option (List RV):=match adr E (au (nth (aq F f) i)) (mkL (au (nth (aq F f) i)).size D)with
   |true=>rec ⟨f,K,L,H,fl,fs⟩ (.tal i D)
   |false=>match Region.ready .any (au (nth (aq F f) i)) (mkL (au (nth (aq F f) i)).size D)with
   |[]=>rec ⟨f,K,L,H,fl,fs⟩ .nrm
   |rs=>match Nat.ble (D.length+1) (au (nth (aq F f) i)).size with
    |false=>none
    |true=>match yA (au (nth (aq F f) i)) eff D rs with
     |some j=>match(au (nth (aq F f) i))[j]? with
      |none=>none
      |some o=>ct (au (nth (aq F f) i)) L o
       (fun L=>qop P T rw L H o fun s=>match dI (ntm F f) L o.dst s with
        |some L'=>frc j fun j'=>rec ⟨f,K,L',H,fl,fs⟩ (.drw i rw eff (j'::D))
        |none=>none)
       (fun L=>match dI (ntm F f) L o.dst .undef with
        |some L'=>frc j fun j'=>rec ⟨f,K,L',H,fl,fs⟩ (.drw i rw eff (j'::D))
        |none=>none)
     |none=>Lc (fun j=>match(au (nth (aq F f) i))[j]? with
       |none=>none
       |some o=>ct (au (nth (aq F f) i)) L o
        (fun L=>match isQ o.op with
         |true=>qop P T true L H o fun s=>match dI (ntm F f) L o.dst s with
          |some L'=>frc j fun j'=>rec ⟨f,K,L',H,fl,fs⟩ (.drw i rw eff (j'::D))
          |none=>none
         |false=>match uI E L o.op||(lQ o.op&&rw)with
          |true=>none
          |false=>eop T E (Dl fs) L H o fun s H' L1=>match dI (ntm F f) L1 o.dst s with
           |some L'=>frc j fun j'=>rec ⟨f,K,L',H',fl,fs⟩ (.drw i rw true (j'::D))
           |none=>none)
        (fun L=>match dI (ntm F f) L o.dst .undef with
         |some L'=>frc j fun j'=>rec ⟨f,K,L',H,fl,fs⟩ (.drw i rw (eff||dA o.op) (j'::D))
         |none=>none)) rs
def aex(P:Program)(F:FT)(T:TT)(E:Env)(N:NT)(_Fin:Nat→Cfg→Option (List RV))(rec:Cfg→Pos→Option (List RV))(f:Nat)(K:List KJ)(L:SL)(H:List Item)(fl:Nat)(fs:List Fm)(i:Nat)(D:List Nat):Option (List RV):=match eL E (au (nth (aq F f) i)) (mkL (au (nth (aq F f) i)).size D)with
   |true=>match Us F E L (au (nth (aq F f) i)) D with
    |some j=>match(au (nth (aq F f) i))[j]? with
     |some o=>ct (au (nth (aq F f) i)) L o
      (fun L=>match EG F E L o.op with
       |some (g,ss)=>frc j fun j'=>rec ⟨g,[],qj 0 ss,H,H.length,⟨f,K,i,j',xp N f i L,fl,some (j'::D)⟩::fs⟩ (.node 0)
       |none=>none)
      (fun L=>match dI (ntm F f) L o.dst .undef with
       |some L'=>frc j fun j'=>rec ⟨f,K,L',H,fl,fs⟩ (.tal i (j'::D))
       |none=>none)
     |none=>none
    |none=>match tM E (au (nth (aq F f) i))with
    |true=>match Zt T E (ntm F f) (au (nth (aq F f) i)) (mkL (au (nth (aq F f) i)).size D) L H with
     |some (L',H',C)=>match Nat.ble (C++D).length (au (nth (aq F f) i)).size with
      |true=>rec ⟨f,K,L',H',fl,fs⟩ (.drw i true true (C++D))
      |false=>none
     |none=>match(au (nth (aq F f) i)).toList.any bI||!(cd E (au (nth (aq F f) i)))with
      |true=>none
      |false=>rec ⟨f,K,L,H,fl,fs⟩ (.drw i (!((au (nth (aq F f) i)).any fun o=>lQ o.op)) false D)
    |false=>match(au (nth (aq F f) i)).toList.any bI||!(cd E (au (nth (aq F f) i)))with
     |true=>none
     |false=>rec ⟨f,K,L,H,fl,fs⟩ (.drw i (!((au (nth (aq F f) i)).any fun o=>lQ o.op)) false D)
   |false=>match Nat.ble (D.length+1) (au (nth (aq F f) i)).size,xH E (au (nth (aq F f) i)) D (Region.ready .any (au (nth (aq F f) i)) (mkL (au (nth (aq F f) i)).size D))with
    |true,some j=>match(au (nth (aq F f) i))[j]? with
     |some o=>ct (au (nth (aq F f) i)) L o
      (fun L=>tq P T E (fo L (o.looksAt (au (nth (aq F f) i)))) H o fun s=>match dI (ntm F f) L o.dst s,s.refsT H.length with
       |some L',true=>frc j fun j'=>rec ⟨f,K,L',H,fl,fs⟩ (.tam i (j'::D))
       |_,_=>none)
      (fun L=>match dI (ntm F f) L o.dst .undef with
       |some L'=>frc j fun j'=>rec ⟨f,K,L',H,fl,fs⟩ (.tam i (j'::D))
       |none=>none)
     |none=>none
    |_,_=>none
def aeB(P:Program)(F:FT)(T:TT)(E:Env)(_N:NT)(_Fin:Nat→Cfg→Option (List RV))(rec:Cfg→Pos→Option (List RV))(f:Nat)(K:List KJ)(L:SL)(H:List Item)(fl:Nat)(fs:List Fm)(i:Nat)(D:List Nat):Option (List RV):=match Region.ready .any (au (nth (aq F f) i)) (mkL (au (nth (aq F f) i)).size D)with
   |[]=>rec ⟨f,K,L,H,fl,fs⟩ .nrm
   |rs=>match Nat.ble (D.length+1) (au (nth (aq F f) i)).size,xT E (au (nth (aq F f) i)) D rs with
    |true,some j=>match(au (nth (aq F f) i))[j]? with
     |some o=>ct (au (nth (aq F f) i)) L o
      (fun L=>tq P T E (fo L (o.looksAt (au (nth (aq F f) i)))) H o fun s=>match dI (ntm F f) L o.dst s,s.refsT H.length with
       |some L',true=>frc j fun j'=>rec ⟨f,K,L',H,fl,fs⟩ (.tal i (j'::D))
       |_,_=>none)
      (fun L=>match dI (ntm F f) L o.dst .undef with
       |some L'=>frc j fun j'=>rec ⟨f,K,L',H,fl,fs⟩ (.tal i (j'::D))
       |none=>none)
     |none=>none
    |_,_=>none
def aeh(P:Program)(F:FT)(T:TT)(E:Env)(_N:NT)(_Fin:Nat→Cfg→Option (List RV))(rec:Cfg→Pos→Option (List RV))(f:Nat)(K:List KJ)(L:SL)(H:List Item)(fl:Nat)(fs:List Fm)(i:Nat)(D:List Nat):Option (List RV):=match eL E (au (nth (aq F f) i)) (mkL (au (nth (aq F f) i)).size D)with
   |true=>match cd E (au (nth (aq F f) i))with
    |true=>rec ⟨f,K,L,H,fl,fs⟩ (.tam i D)
    |false=>none
   |false=>match Nat.ble (D.length+1) (au (nth (aq F f) i)).size,xR E (au (nth (aq F f) i)) D (Region.ready .any (au (nth (aq F f) i)) (mkL (au (nth (aq F f) i)).size D))with
    |true,some j=>match(au (nth (aq F f) i))[j]? with
     |some o=>ct (au (nth (aq F f) i)) L o
      (fun L=>match bxC E (fo L (o.looksAt (au (nth (aq F f) i)))) H o with
       |some (q,s,b)=>match dI (ntm F f) L o.dst s,s.refsT H.length with
        |some L',true=>frc j fun j'=>rec ⟨f,K,L',jr q b H,fl,fs⟩ (.tbx i (j'::D))
        |_,_=>none
       |none=>tq P T E (fo L (o.looksAt (au (nth (aq F f) i)))) (H.map ddI) o fun s=>match dI (ntm F f) L o.dst s,s.refsT H.length with
        |some L',true=>frc j fun j'=>rec ⟨f,K,L',H,fl,fs⟩ (.tbx i (j'::D))
        |_,_=>none)
      (fun L=>match dI (ntm F f) L o.dst .undef with
       |some L'=>frc j fun j'=>rec ⟨f,K,L',H,fl,fs⟩ (.tbx i (j'::D))
       |none=>none)
     |none=>none
    |_,_=>none
def adV(_P:Program)(F:FT)(T:TT)(_E:Env)(_N:NT)(_Fin:Nat→Cfg→Option (List RV))(rec:Cfg→Pos→Option (List RV))(f:Nat)(_K:List KJ)(L:SL)(H:List Item)(_fl:Nat)(fs:List Fm):Option (List RV):=match fQ F f with
   |some fn=>match Az T H L fn.results.toList with
    |some ss=>match fs with
     |[]=>xz T H ss fn.resultTypes.toList
     |⟨g,K2,i,k,L2,fl2,d⟩::fs=>match(au (nth (aq F g) i))[k]? with
      |some o=>match dI (ntm F g) L2 o.dst (akd ss),ss.all SV.good with
       |some L',true=>match d with
        |none=>frc (k+1) fun k'=>rec ⟨g,K2,L',H,fl2,fs⟩ (.ops i k')
        |some D=>rec ⟨g,K2,L',H,fl2,fs⟩ (.tal i D)
       |_,_=>none
      |none=>none
    |none=>none
   |none=>none
def stC(P:Program)(F:FT)(T:TT)(E:Env)(N:NT)(Fin:Nat→Cfg→Option (List RV))(rec:Cfg→Pos→Option (List RV))(f:Nat)(K:List KJ)(L:SL)(H:List Item)(fl:Nat)(fs:List Fm)(p:Pos):Option (List RV):=match p with
 |.nrm=>alQ P F T E N Fin rec f K L H fl fs
 |.node i=>WF P F T E N Fin rec f K L H fl fs i
 |.ops i k=>aeF P F T E N Fin rec f K L H fl fs i k
 |.drw i rw eff D=>aev P F T E N Fin rec f K L H fl fs i rw eff D
 |.tam i D=>aex P F T E N Fin rec f K L H fl fs i D
 |.tal i D=>aeB P F T E N Fin rec f K L H fl fs i D
 |.tbx i D=>aeh P F T E N Fin rec f K L H fl fs i D
 |.ret=>adV P F T E N Fin rec f K L H fl fs
theorem akN(P:Program)(F:FT)(T:TT)(E:Env)(N:NT)(Fin:Nat→Cfg→Option (List RV))(m f:Nat)(K:List KJ)(L:SL)(H:List Item)(fl:Nat)(fs:List Fm)(p:Pos):go P F T E N Fin (m+1) ⟨f,K,L,H,fl,fs⟩ p=stC P F T E N Fin (go P F T E N Fin m) f K L H fl fs p:=by
 cases p with
 |nrm=>cases K with
  |nil=>rfl
  |cons x K=>cases x<;>rfl
 |node i=>rw[go,stC,WF];simp only[oU]
 |ops i k=>rw[go,stC,aeF];simp only[oU]
 |drw i rw' eff D=>rw[go,stC,aev];simp only[oU]
 |tam i D=>rw[go,stC,aex];simp only[oU]
 |tal i D=>rw[go,stC,aeB];simp only[oU]
 |tbx i D=>rw[go,stC,aeh];simp only[oU]
 |ret=>rw[go,stC,adV];simp only[oU];cases fs<;>rfl
def go2(P:Program)(F:FT)(T:TT)(E:Env)(N:NT)(Fin:Nat→Cfg→Option (List RV)):Nat→Cfg→Pos→Option (List RV)
 |0,_,_=>none
 |m+1,⟨f,K,L,H,fl,fs⟩,p=>stC P F T E N Fin (go2 P F T E N Fin m) f K L H fl fs p
theorem zU(P:Program)(F:FT)(T:TT)(E:Env)(N:NT)(Fin:Nat→Cfg→Option (List RV)):∀(m:Nat) (c:Cfg) (p:Pos),go2 P F T E N Fin m c p=go P F T E N Fin m c p
 |0,_,_=>rfl
 |m+1,⟨f,K,L,H,fl,fs⟩,p=>by
  have h:go2 P F T E N Fin m=go P F T E N Fin m:=funext fun c=>funext fun p=>zU P F T E N Fin m c p
  rw[go2,akN,h]
def run(P:Program)(F:FT)(T:TT)(E:Env)(N:NT):Nat→Nat→Cfg→Option (List RV)
 |0,_,_=>none
 |n+1,i,c=>go P F T E N (run P F T E N n) 4000 {c with K:=.lp i::c.K} (.node (i+1))
def D0(f:Nat)(args:List SV):Cfg:={f:=f,K:=[],L:=qj 0 args,H:=[],fl:=0,fs:=[]}
def Runs(P:Program)(F:FT)(T:TT)(E:Env)(N:NT)(i:Nat)(c:Cfg)(r:List RV):Prop:=∃n,run P F T E N n i c=some r
end
section
def InLoop(P:Program)(c:Code)(Q:Exit→Act→World→Prop)(a:Act)(w:World):Prop:=
 ∀(b:Frame) (k:List Go.Item) (cs:List Frame),∃e a' w',Q e a' w'∧Arrives P (lone (b.at a (.code c:: .inLoop c::k)) cs w) b k cs e a' w'
section
variable {P:Program} {c:Code} {Q:Exit→Act→World→Prop} {a:Act} {w:World}
theorem InLoop.wp(h:InLoop P c Q a w):(Code.loop c).wp P Q a w:=by
 intro b k cs
 obtain⟨e,a',w',hq,harr⟩:=h b k cs
 exact⟨e,a',w',hq,.of_steps (.one step_loop) harr⟩
theorem InLoop.step(h:c.wp P (Exit.then (InLoop P c Q) Q) a w):InLoop P c Q a w:=by
 intro b k cs
 obtain⟨e,a₁,w₁,hq,harr⟩:=h b (.inLoop c::k) cs
 cases e with
 |normal=>
  obtain⟨e₂,a₂,w₂,hq₂,harr₂⟩:=hq b k cs
  exact⟨e₂,a₂,w₂,hq₂,.of_steps (Steps.trans harr (.one step_inLoop)) harr₂⟩
 |exit id=>exact⟨_,a₁,w₁,hq,.pass (x:=.inLoop c) rfl (fun _ _=>.inl (by simp)) harr⟩
 |goto l=>exact⟨_,a₁,w₁,hq,.pass (x:=.inLoop c) rfl (fun _ _=>.inl (by simp)) harr⟩
 |ret=>exact⟨_,a₁,w₁,hq,.pass (x:=.inLoop c) rfl (fun _ _=>.inl (by simp)) harr⟩
 |panic ch=>exact⟨_,a₁,w₁,hq,.pass (x:=.inLoop c) rfl (fun _ _=>.inl (by simp)) harr⟩
 |outgrown=>exact⟨_,a₁,w₁,hq,.pass (x:=.inLoop c) rfl (fun _ _=>.inl (by simp)) harr⟩
end
theorem kO:∀c:Code,0<Code.size c:=by intro c;cases c<;>simp[Code.size]
theorem OO:∀(B:Code) (i:Nat),Code.size B≤i→nth B i=.skip:=by
 intro B
 induction B with
 |seq a b iha ihb=>
  intro i h
  simp only[Code.size]at h
  cases i with
  |zero=>omega
  |succ i=>
   simp only[nth]
   split
   ·rename_i hb;have:=aui hb;omega
   ·exact ihb _ (by omega)
 |cond x a b iha ihb=>
  intro i h
  simp only[Code.size]at h
  cases i with
  |zero=>omega
  |succ i=>
   simp only[nth]
   split
   ·rename_i hb;have:=aui hb;omega
   ·exact ihb _ (by omega)
 |block id c ih=>intro i h;simp only[Code.size]at h;cases i with|zero=>omega|succ i=>exact ih _ (by omega)
 |loop c ih=>intro i h;simp only[Code.size]at h;cases i with|zero=>omega|succ i=>exact ih _ (by omega)
 |scope c ih=>intro i h;simp only[Code.size]at h;cases i with|zero=>omega|succ i=>exact ih _ (by omega)
 |_=>intro i h;simp only[Code.size]at h;cases i with|zero=>omega|succ i=>rfl
theorem JH(a b:Code)(i:Nat):(match Nat.ble (i+1) (Code.size a)with|true=>nth a i|false=>nth b (i-Code.size a))=if i<Code.size a then nth a i else nth b (i-Code.size a):=by
 by_cases h:i<Code.size a
 ·rw[auw h,auA h]
 ·rw[aus h]
  cases hb:Nat.ble (i+1) (Code.size a)with
  |true=>exact absurd (aui hb) (by omega)
  |false=>rfl
theorem db(c:Code):nth c 0=c:=by cases c<;>rfl
theorem qm(a b:Code)(i:Nat):nth (.seq a b) (i+1)=if i<Code.size a then nth a i else nth b (i-Code.size a):=JH a b i
theorem mB(x:Operand)(a b:Code)(i:Nat):nth (.cond x a b) (i+1)=if i<Code.size a then nth a i else nth b (i-Code.size a):=JH a b i
theorem xX:∀(B:Code) (i:Nat),i<Code.size B→i+Code.size (nth B i)≤Code.size B:=by
 intro B
 induction B with
 |seq a b iha ihb=>
  intro i h
  cases i with
  |zero=>rw[db];omega
  |succ i=>
   rw[qm]
   simp only[Code.size]at h ⊢
   split
   ·rename_i hi;have:=iha i hi;omega
   ·have:=ihb (i-Code.size a) (by omega);omega
 |cond x a b iha ihb=>
  intro i h
  cases i with
  |zero=>rw[db];omega
  |succ i=>
   rw[mB]
   simp only[Code.size]at h ⊢
   split
   ·rename_i hi;have:=iha i hi;omega
   ·have:=ihb (i-Code.size a) (by omega);omega
 |block id c ih=>intro i h;cases i with|zero=>rw[db];omega|succ i=>simp only[Code.size]at h ⊢;have:=ih i (by omega);simp only[nth];omega
 |loop c ih=>intro i h;cases i with|zero=>rw[db];omega|succ i=>simp only[Code.size]at h ⊢;have:=ih i (by omega);simp only[nth];omega
 |scope c ih=>intro i h;cases i with|zero=>rw[db];omega|succ i=>simp only[Code.size]at h ⊢;have:=ih i (by omega);simp only[nth];omega
 |_=>intro i h;cases i with|zero=>rw[db];omega|succ i=>simp only[Code.size]at h;omega
theorem sS:∀(B:Code) (i:Nat),i<Code.size B→∀j,j<Code.size (nth B i)→nth B (i+j)=nth (nth B i) j:=by
 intro B
 induction B with
 |seq a b iha ihb=>
  intro i h j hj
  cases i with
  |zero=>rw[db,auP]
  |succ i=>
   rw[qm]at hj ⊢
   rw[show i+1+j=(i+j)+1 by omega,qm]
   simp only[Code.size]at h
   split at hj
   ·rename_i hi
    have:=xX a i hi
    rw[auw hi,auw (by omega)]
    exact iha i hi j hj
   ·rename_i hi
    rw[aus hi,aus (by omega),show i+j-Code.size a=(i-Code.size a)+j by omega]
    exact ihb (i-Code.size a) (by omega) j hj
 |cond x a b iha ihb=>
  intro i h j hj
  cases i with
  |zero=>rw[db,auP]
  |succ i=>
   rw[mB]at hj ⊢
   rw[show i+1+j=(i+j)+1 by omega,mB]
   simp only[Code.size]at h
   split at hj
   ·rename_i hi
    have:=xX a i hi
    rw[auw hi,auw (by omega)]
    exact iha i hi j hj
   ·rename_i hi
    rw[aus hi,aus (by omega),show i+j-Code.size a=(i-Code.size a)+j by omega]
    exact ihb (i-Code.size a) (by omega) j hj
 |block id c ih=>intro i h j hj;cases i with|zero=>rw[db,auP]|succ i=>simp only[Code.size]at h;rw[show i+1+j=(i+j)+1 by omega];exact ih i (by omega) j hj
 |loop c ih=>intro i h j hj;cases i with|zero=>rw[db,auP]|succ i=>simp only[Code.size]at h;rw[show i+1+j=(i+j)+1 by omega];exact ih i (by omega) j hj
 |scope c ih=>intro i h j hj;cases i with|zero=>rw[db,auP]|succ i=>simp only[Code.size]at h;rw[show i+1+j=(i+j)+1 by omega];exact ih i (by omega) j hj
 |_=>intro i h j hj;cases i with|zero=>rw[db,auP]|succ i=>simp only[Code.size]at h;omega
theorem AR{B:Code}{i:Nat}(h:nth B i≠.skip):i<Code.size B:=by
 rcases auz i (Code.size B)with hlt|hge
 ·exact hlt
 ·exact absurd (OO B i hge) h
theorem Zm{B:Code}{i:Nat}{a b:Code}(h:nth B i=.seq a b):nth B i=.seq (nth B (i+1)) (nth B (i+1+Code.size a)):=by
 have hlt:=AR (B:=B) (i:=i) (by rw[h];simp)
 have ha:=kO a
 have hb:=kO b
 have h1:=sS B i hlt 1 (by rw[h];simp only[Code.size];omega)
 have h2:=sS B i hlt (1+Code.size a) (by rw[h];simp only[Code.size];omega)
 rw[h,show(1:Nat)=0+1 from rfl,qm,auw ha,db]at h1
 rw[h,show 1+Code.size a=Code.size a+1 by omega,qm,aus (by omega),avE,db]at h2
 rw[h,h1,show i+1+Code.size a=i+(Code.size a+1) by omega,h2]
theorem PL{B:Code}{i:Nat}{x:Operand}{a b:Code}(h:nth B i=.cond x a b):nth B i=.cond x (nth B (i+1)) (nth B (i+1+Code.size a)):=by
 have hlt:=AR (B:=B) (i:=i) (by rw[h];simp)
 have ha:=kO a
 have hb:=kO b
 have h1:=sS B i hlt 1 (by rw[h];simp only[Code.size];omega)
 have h2:=sS B i hlt (1+Code.size a) (by rw[h];simp only[Code.size];omega)
 rw[h,show(1:Nat)=0+1 from rfl,mB,auw ha,db]at h1
 rw[h,show 1+Code.size a=Code.size a+1 by omega,mB,aus (by omega),avE,db]at h2
 rw[h,h1,show i+1+Code.size a=i+(Code.size a+1) by omega,h2]
theorem KK{B:Code}{i id:Nat}{c:Code}(h:nth B i=.block id c):nth B i=.block id (nth B (i+1)):=by
 have hlt:=AR (B:=B) (i:=i) (by rw[h];simp)
 have hc:=kO c
 have h1:=sS B i hlt 1 (by rw[h];simp only[Code.size];omega)
 rw[h]at h1
 rw[h,h1]
 show _=Code.block id (nth c 0)
 rw[db]
theorem Wz{B:Code}{i:Nat}{c:Code}(h:nth B i=.loop c):nth B i=.loop (nth B (i+1)):=by
 have hlt:=AR (B:=B) (i:=i) (by rw[h];simp)
 have hc:=kO c
 have h1:=sS B i hlt 1 (by rw[h];simp only[Code.size];omega)
 rw[h]at h1
 rw[h,h1]
 show _=Code.loop (nth c 0)
 rw[db]
end
section
theorem yB{d:Nat}{L:SL}{t:Nat}{s:SV}(h:aX (lc L d) t=some s):aX L t=some s:=h
theorem fM{d:Nat}{x:SV}{L:SL}{t:Nat}{s:SV}(h:aX ((d,x)::L) t=some s):(t=d∧s=x)∨(t≠d∧aX L t=some s):=by
 simp only[aX]at h
 split at h
 ·rename_i hb
  injection h with h
  exact .inl ⟨(auh hb).symm,h.symm⟩
 ·rename_i hb
  refine .inr ⟨fun e=>?_,h⟩
  subst e
  simp at hb
theorem fO{L:SL}:∀{ts:List Nat} {t:Nat} {s:SV},aX (fo L ts) t=some s→aX L t=some s
 |[],_,_,h=>by simp[fo,aX]at h
 |u::ts,t,s,h=>by
  simp only[fo]at h
  split at h
  ·rename_i x hx
   rcases fM h with⟨rfl,rfl⟩|⟨_,h1⟩
   ·exact hx
   ·exact fO h1
  ·exact fO h
theorem iC{N:NT}{f i:Nat}{L:SL}{t:Nat}{s:SV}(h:aX (xp N f i L) t=some s):aX L t=some s:=by
 unfold xp at h
 split at h
 ·exact fO h
 ·exact h
theorem vY{L:SL}:∀{ts:List Nat} {L':SL},Ej L ts=some L'→∀t s,aX L' t=some s→aX L t=some s
 |[],L',h,t,s,hs=>by simp only[Ej,auk]at h;subst h;simp[aX]at hs
 |u::ts,L',h,t,s,hs=>by
  simp only[Ej]at h
  split at h<;>try (cases h;done)
  rename_i x r h1 h2
  injection h with h
  subst h
  rcases fM hs with⟨rfl,rfl⟩|⟨_,h3⟩
  ·exact h1
  ·exact vY h2 t s h3
theorem yO:∀{L:SL} {t:Nat} {s:SV},aX L t=some s→(t,s)∈L
 |[],_,_,h=>by simp[aX]at h
 |(k,x)::r,t,s,h=>by
  rcases fM h with⟨rfl,rfl⟩|⟨_,h3⟩
  ·simp
  ·simp[yO h3]
theorem qa{k:Nat}{s:SV}(h:∀l,s≠.tup l):s.refsT k=s.refs k:=by cases s<;>first|rfl|exact(h _ rfl).elim
theorem wq{fl j:Nat}{s:SV}(h:s.refs fl=true)(ho:s.of1 j=true):j<fl:=by
 cases s<;>simp only[SV.of1,awq]at ho
 ·have:=auh ho;subst this;exact aui h
 ·have:=auh ho;subst this;exact aui h
 ·have:=auh ho;subst this;exact aui h
section
variable {Z:Nat→Prop} {w0:World} {n:Nat} {L L':SL} {H H':List Item} {G G':List Value} {w w':World} {a:Act} {F:FT}
theorem FR.put{d:Option Nat}{s:SV}{v:Value}(h:FR Z n L H G w a)(hp:dI n L d s=some L')(hv:Rel G (Av Z H G) w s v):FR Z n L' H G w (a.put d v):=by
 cases d with
 |none=>simp only[dI,auk]at hp;subst hp;exact h
 |some d=>
  simp only[dI]at hp
  split at hp<;>try (cases hp;done)
  rename_i hd
  have hd:=aui hd
  injection hp with hp
  subst hp
  refine⟨h.defers,by simp[Act.put,h.size],fun t s' hs=>?_⟩
  simp only[Act.put,Array.getElem?_setIfInBounds,h.size]
  rcases fM hs with⟨rfl,rfl⟩|⟨hne,h3⟩
  ·exact⟨v,by simp;omega,hv⟩
  ·have h4:=yB h3
   obtain⟨u,h5,h6⟩:=h.slot t s' h4
   exact⟨u,by rw[aus (avy hne)];exact h5,h6⟩
theorem FR.say{d:Nat}{s:SV}{v:Value}(h:FR Z n L H G w a)(hd:a.tmps[d]?=some v)(hv:Rel G (Av Z H G) w s v):FR Z n ((d,s)::lc L d) H G w a:=
 ⟨h.defers,h.size,fun t s' hs=>by
  rcases fM hs with⟨rfl,rfl⟩|⟨hne,h3⟩
  ·exact⟨v,hd,hv⟩
  ·exact h.slot t s' (yB h3)⟩
theorem pU(hr:SR Z w0 H G w){s:SV}{v:Value}(h:Rel1 G (Av Z H G) w s v):s.refs H.length=true:=by
 have lt:∀(j:Nat) g,G[j]?=some g→Nat.ble (j+1) H.length=true:=fun j g hg=>auA (by rw[←hr.len];exact(aul.1 hg).1)
 cases s with
 |box j off=>obtain⟨b,h1,_⟩:=h;exact lt j _ h1
 |own j=>exact lt j _ h
 |oelt j sz i off=>obtain⟨b,m,c,h1,_⟩:=h;exact lt j _ h1
 |osl j sz lo n=>obtain⟨g,q,c,h1,_⟩:=h;exact lt j _ h1
 |clo f caps=>
  obtain⟨bs,h1,_⟩:=h
  refine auu.2 fun j hj=>?_
  obtain⟨k,hk,rfl⟩:=awi hj
  obtain⟨b,_,hb⟩:=gv h1 k _ (at8 hk)
  exact lt _ _ hb
 |tup l=>exact h.elim
 |_=>rfl
theorem iN(hr:SR Z w0 H G w){s:SV}{v:Value}(h:Rel G (Av Z H G) w s v):s.refsT H.length=true:=by
 cases s with
 |tup l=>
  obtain⟨vs,_,h2⟩:=h
  refine auu.2 fun s hs=>?_
  obtain⟨k,hk,rfl⟩:=awi hs
  obtain⟨b,_,hb⟩:=gv h2 k _ (at8 hk)
  exact pU hr hb
 |_=>rw[qa (fun l e=>by cases e)];exact pU hr (kS h (fun l e=>by cases e))
def Ev(Z:Nat→Prop)(fl:Nat)(H:List Item)(G:List Value)(w:World)(H':List Item)(G':List Value)(w':World):Prop:=∀s v,Rel1 G (Av Z H G) w s v→s.refs fl=true→Rel1 G' (Av Z H' G') w' s v
theorem Chg.ev{fl:Nat}{st ap:Bool}(h:Chg Z fl st ap H G w H' G' w'):Ev Z fl H G w H' G' w':=fun s v hs hr=>h.pres s v hs fun _j hj=>wq hr hj
def DOk(F:FT)(fm:Fm):Prop:=∀D,fm.d=some D→Clo (au (nth (aq F fm.f) fm.i)) (mkL (au (nth (aq F fm.f) fm.i)).size D)∧Region.noSelect (au (nth (aq F fm.f) fm.i))=true∧D.length≤(au (nth (aq F fm.f) fm.i)).size
def FrsOk(Z:Nat→Prop)(F:FT)(H:List Item)(G:List Value)(w:World):Nat→List Fm→List Act→Prop
 |_,[],[]=>True
 |fl,fm::fs,a::ats=>FR Z (ntm F fm.f) fm.L H G w a∧(∀t s,aX fm.L t=some s→s.refsT fl=true)∧(fm.fl≤fl∧(∃fn,fQ F fm.f=some fn)∧DOk F fm)∧FrsOk Z F H G w fm.fl fs ats
 |_,_,_=>False
theorem nL{k l:Nat}(h:k≤l){s:SV}(hs:s.refs k=true):s.refs l=true:=by
 have b:∀j,Nat.ble (j+1) k=true→Nat.ble (j+1) l=true:=fun j hj=>auA (aur (aui hj) h)
 cases s with
 |box j off=>exact b j hs
 |own j=>exact b j hs
 |oelt j sz i off=>exact b j hs
 |osl j sz i off=>exact b j hs
 |clo f caps=>exact auu.2 fun j hj=>b j (auu.1 hs j hj)
 |tup l=>cases hs
 |_=>rfl
theorem Hj{k l:Nat}(h:k≤l){s:SV}(hs:s.refsT k=true):s.refsT l=true:=by
 cases s with
 |tup l=>exact auu.2 fun s hm=>nL h (auu.1 hs s hm)
 |_=>rw[qa (fun l e=>by cases e)]at hs ⊢;exact nL h hs
theorem Rel.ev{fl:Nat}(he:Ev Z fl H G w H' G' w'){s:SV}{v:Value}(h:Rel G (Av Z H G) w s v)(hr:s.refsT fl=true):Rel G' (Av Z H' G') w' s v:=by
 cases s with
 |tup l=>
  obtain⟨vs,h1,h2⟩:=h
  refine⟨vs,h1,?_⟩
  clear h1
  induction l generalizing vs with
  |nil=>cases vs<;>exact h2
  |cons s l ih=>
   simp only[SV.refsT,awF,aug]at hr
   match vs,h2 with
   |v::vs,⟨g1,g2⟩=>exact⟨he s v g1 hr.1,ih hr.2 vs g2⟩
 |_=>rw[qa (fun l e=>by cases e)]at hr;exact dS (he _ _ (kS h (fun l e=>by cases e)) hr)
theorem FrsOk.ev{fl:Nat}(he:Ev Z fl H G w H' G' w'):∀{fl':Nat} {fs:List Fm} {ats:List Act},fl'≤fl→FrsOk Z F H G w fl' fs ats→FrsOk Z F H' G' w' fl' fs ats
 |_,[],[],_,_=>trivial
 |fl',fm::fs,a::ats,hle,⟨h1,h2,h3,h4⟩=>⟨⟨h1.defers,h1.size,fun t s hs=>by
   obtain⟨v,g1,g2⟩:=h1.slot t s hs
   exact⟨v,g1,g2.ev he (Hj hle (h2 t s hs))⟩⟩,h2,h3,FrsOk.ev he (aur h3.1 hle) h4⟩
 |_,[],_::_,_,h=>h.elim
 |_,_::_,[],_,h=>h.elim
theorem uf{a b k:Nat}:Su a b≤k↔a≤k∧b≤k:=by
 unfold Su
 cases h:Nat.ble a b with
 |true=>have:=aui h;simp only[cond_true];omega
 |false=>have:¬a≤b:=fun hh=>by rw[auA hh]at h;cases h
         simp only[cond_false];omega
theorem HQ{k j:Nat}{s:SV}(h:s.ofm≤k)(ho:s.of1 j=true):j<k:=by
 cases s<;>simp only[SV.of1,awq]at ho
 all_goals (have:=auh ho;subst this;exact h)
theorem X8{s:SV}(h:∀l,s≠.tup l):s.ofmT=s.ofm:=by cases s<;>first|rfl|exact(h _ rfl).elim
theorem CW{k:Nat}:∀{L:SL} {t:Nat} {s:SV},slM L≤k→aX L t=some s→s.ofmT≤k
 |[],_,_,_,h=>by simp[aX]at h
 |(q,x)::r,t,s,hk,h=>by
  obtain⟨h1,h2⟩:=uf.1 hk
  rcases fM h with⟨rfl,rfl⟩|⟨_,h3⟩
  ·exact h1
  ·exact CW h2 h3
theorem Rel.evF{k:Nat}(he:∀s v,Rel1 G (Av Z H G) w s v→(∀j,s.of1 j=true→j<k)→Rel1 G' (Av Z H' G') w' s v){s:SV}{v:Value}(h:Rel G (Av Z H G) w s v)(hr:s.ofmT≤k):Rel G' (Av Z H' G') w' s v:=by
 cases s with
 |tup l=>
  obtain⟨vs,h1,h2⟩:=h
  refine⟨vs,h1,?_⟩
  clear h1
  induction l generalizing vs with
  |nil=>cases vs<;>exact h2
  |cons s l ih=>
   obtain⟨r1,r2⟩:=uf.1 hr
   match vs,h2 with
   |v::vs,⟨g1,g2⟩=>exact⟨he s v g1 fun j hj=>HQ r1 hj,ih r2 vs g2⟩
 |_=>rw[X8 (fun l e=>by cases e)]at hr;exact dS (he _ _ (kS h (fun l e=>by cases e)) fun j hj=>HQ hr hj)
theorem FrsOk.evF{k:Nat}(he:∀s v,Rel1 G (Av Z H G) w s v→(∀j,s.of1 j=true→j<k)→Rel1 G' (Av Z H' G') w' s v):∀{fl':Nat} {fs:List Fm} {ats:List Act},Dl fs≤k→FrsOk Z F H G w fl' fs ats→FrsOk Z F H' G' w' fl' fs ats
 |_,[],[],_,_=>trivial
 |fl',fm::fs,a::ats,hle,⟨h1,h2,h3,h4⟩=>⟨⟨h1.defers,h1.size,fun t s hs=>by
   obtain⟨v,g1,g2⟩:=h1.slot t s hs
   exact⟨v,g1,g2.evF he (CW (uf.1 hle).1 hs)⟩⟩,h2,h3,FrsOk.evF he (uf.1 hle).2 h4⟩
 |_,[],_::_,_,h=>h.elim
 |_,_::_,[],_,h=>h.elim
theorem pi{fl:Nat}:∀{l:List (Nat×Nat×Ty)} {L:SL} {H:List Item} {G:List Value},SR Z w0 H G w→FR Z n L H G w a→fl≤H.length→m8 l L H=some (L',H')→∃G',SR Z w0 H' G' w∧FR Z n L' H' G' w a∧Ev Z fl H G w H' G' w∧fl≤H'.length
 |[],L,H,G,hr,hf,hfl,h=>by
  simp only[m8,auk,auB]at h
  obtain⟨rfl,rfl⟩:=h
  exact⟨G,hr,hf,fun s v h _=>h,hfl⟩
 |(t,et,e)::l,L,H,G,hr,hf,hfl,h=>by
  simp only[m8]at h
  split at h
  ·rename_i hs
   split at h<;>try (cases h;done)
   rename_i hn
   have hn:=aui hn
   obtain⟨v,h1,h2⟩:=hf.slot t _ hs
   have h2:v=.slice none 0 0:=h2
   subst h2
   obtain⟨G1,k1,k2,k3,k4⟩:=jF (et:=et) (e:=e) (xs:=[]) (css:=[]) hr hf (aw2 _ _) (World.ownsRow_nil w _ _ _) hn trivial fl false false
   obtain⟨G2,g1,g2,g3,g4⟩:=pi (fl:=fl) k1 (k2.say h1 k3) (by simp;omega) h
   exact⟨G2,g1,g2,fun s v hs hrf=>g3 s v (k4.ev s v hs hrf) hrf,g4⟩
  ·exact pi hr hf hfl h
theorem jB{fl:Nat}:∀{l:List (Nat×Ty)} {L:SL} {H:List Item},SR Z w0 H G w→FR Z n L H G w a→fl≤H.length→iS fl l L H=some (L',H')→SR Z w0 H' G w∧FR Z n L' H' G w a∧Ev Z fl H G w H' G w∧fl≤H'.length
 |[],L,H,hr,hf,hfl,h=>by
  simp only[iS,auk,auB]at h
  obtain⟨rfl,rfl⟩:=h
  exact⟨hr,hf,fun s v h _=>h,hfl⟩
 |(t,e)::l,L,H,hr,hf,hfl,h=>by
  simp only[iS]at h
  split at h
  ·rename_i hs
   obtain⟨v,h1,h2⟩:=hf.slot t _ hs
   have h2:v=.slice none 0 0:=h2
   subst h2
   exact jB hr (hf.say (s:=.d (.sl e) []) h1 ⟨[_],wc,rfl⟩) hfl h
  ·rename_i j hs
   split at h<;>try (cases h;done)
   rename_i L1 H1 hg
   have hfz:mi fl [.tmp t] L H=some (L1,H1):=by simp only[mi,opS,hs,hg]
   obtain⟨g1,g2,g3,_,_⟩:=iQ hr hf hfz
   have hlen:H1.length=H.length:=by
    unfold sA at hg
    split at hg<;>try (cases hg;done)
    simp only[auk,auB]at hg
    rw[←hg.2];simp
   obtain⟨k1,k2,k3,k4⟩:=jB g1 g2 (by omega) h
   exact⟨k1,k2,fun s v hs hrf=>k3 s v (g3 s v hs fun j hj=>wq hrf hj) hrf,k4⟩
  ·exact jB hr hf hfl h
theorem hU{α:Type}{l:List α}{k j:Nat}{x:α}(h:(l.take k)[j]?=some x):j<k∧l[j]?=some x:=by
 rw[avr]at h
 split at h
 ·exact⟨by assumption,h⟩
 ·cases h
theorem Bp(hl:Nat){b:Nat}(h:Av Z H G b):Av Z (H.take hl) (G.take hl) b:=⟨h.1,fun j it g h1 h2 h3=>h.2 j it g (hU h1).2 h2 (hU h3).2⟩
theorem uy{hl:Nat}{s:SV}{v:Value}(h:Rel1 G (Av Z H G) w s v)(hs:s.refs hl=true):Rel1 (G.take hl) (Av Z (H.take hl) (G.take hl)) w s v:=by
 have hk:Keeps (Av Z H G) (Av Z (H.take hl) (G.take hl)) w w:=⟨auj _,fun b _ h=>Bp hl h,fun _ _ _=>rfl⟩
 have g:∀(j:Nat) x,Nat.ble (j+1) hl=true→G[j]?=some x→(G.take hl)[j]?=some x:=fun j x hj hx=>by
  rw[avr,auw (show j<hl from aui hj)];exact hx
 cases s with
 |d t x=>obtain⟨cs,h1,h2⟩:=h;exact⟨cs,Ty.rd_keep hk h1,h2⟩
 |nil=>exact h
 |box j off=>obtain⟨b,h1,h2⟩:=h;exact⟨b,g j _ hs h1,h2⟩
 |elt e x off=>obtain⟨b,o,cs,h1,h2,h3,h4,h5⟩:=h;exact⟨b,o,cs,h1,Bp hl h2,h3,Ty.rd_keep hk h4,h5⟩
 |own j=>exact g j _ hs h
 |oelt j sz i off=>obtain⟨b,m,c,h1,h2⟩:=h;exact⟨b,m,c,g j _ hs h1,h2⟩
 |cut e xs=>obtain⟨p,h1,h2⟩:=h;exact⟨p,Ty.rd_keep hk h1,h2⟩
 |osl j sz lo n=>obtain⟨x,q,c,h1,h2⟩:=h;exact⟨x,q,c,g j _ hs h1,h2⟩
 |clo f caps=>
  obtain⟨bs,h1,h2⟩:=h
  refine⟨bs,?_,h2⟩
  clear h2
  induction caps generalizing bs with
  |nil=>cases bs<;>exact h1
  |cons c caps ih=>
   simp only[SV.refs,awF,aug]at hs
   match bs,h1 with
   |b::bs,⟨q1,q2⟩=>exact⟨g c _ hs.1 q1,ih hs.2 bs q2⟩
 |tup l=>exact h
 |undef=>exact h
 |dead=>trivial
theorem abd{hl:Nat}(hr:SR Z w0 H G w)(hrf:(H.take hl).all (Item.refs hl)=true):SR Z w0 (H.take hl) (G.take hl) w:=by
 have hk:Keeps (Av Z H G) (Av Z (H.take hl) (G.take hl)) w w:=⟨auj _,fun b _ h=>Bp hl h,fun _ _ _=>rfl⟩
 refine⟨by simp[hr.len],hr.below,fun j it g h1 h2=>?_,fun i j it jt g h b hij h1 h2 h3 h4 h5 h6 h7=>hr.disj i j it jt g h b hij (hU h1).2 (hU h2).2 h3 h4 (hU h5).2 (hU h6).2 h7,hr.zf⟩
 have hi:=hr.items j it g (hU h1).2 (hU h2).2
 have hir:it.refs hl=true:=auu.1 hrf it (au4 h1)
 cases it with
 |gone=>trivial
 |row et e xs=>obtain⟨css,k1,k2,k3⟩:=hi;exact⟨css,k1,bW (fun _ _ h=>Ty.rd_keep hk h) k2,k3⟩
 |box t cs=>
  obtain⟨b,vs,rfl,k1,k2,k3⟩:=hi
  refine⟨b,vs,rfl,k1,k2,?_⟩
  clear k2 h1
  induction cs generalizing vs with
  |nil=>cases vs<;>exact k3
  |cons s l ih=>
   simp only[Item.refs,awF,aug]at hir
   match vs,k3 with
   |v::vs,⟨q1,q2⟩=>exact⟨uy q1 hir.1,ih hir.2 vs q2⟩
structure CR (Z:Nat→Prop) (F:FT) (w0:World) (c:Cfg) (G:List Value) (w:World) (a:Act) (ats:List Act):Prop where
 sr:SR Z w0 c.H G w
 fr:FR Z (ntm F c.f) c.L c.H G w a
 fl:c.fl≤c.H.length
 frs:FrsOk Z F c.H G w c.fl c.fs ats
theorem Dh{R:SV→Value→Prop}{s:SV}(hs:∀v,R .nil v→R s v):∀{cs:List SV} {vs:List Value} {q:Nat},co R cs vs→cs[q]?=some .nil→co R (cs.set q s) vs
 |[],_,_,_,h=>by simp at h
 |c::cs,[],_,h,_=>h.elim
 |c::cs,v::vs,0,⟨h1,h2⟩,h=>by
  simp only[auS,auk]at h
  subst h
  exact⟨hs v h1,h2⟩
 |c::cs,v::vs,q+1,⟨h1,h2⟩,h=>by
  rw[auG]at h
  exact⟨h1,Dh hs h2 h⟩
theorem nR{fl:Nat}:∀{l:List (Nat×Nat×Nat×Ty)} {H:List Item} {G:List Value},SR Z w0 H G w→FR Z n L H G w a→fl≤H.length→∃G',SR Z w0 (kZ l H) G' w∧FR Z n L (kZ l H) G' w a∧Ev Z fl H G w (kZ l H) G' w∧fl≤(kZ l H).length
 |[],H,G,hr,hf,hfl=>⟨G,hr,hf,fun s v h _=>h,hfl⟩
 |(j,q,et,e)::l,H,G,hr,hf,hfl=>by
  simp only[kZ]
  split
  ·rename_i t cs hj
   split
   ·rename_i hq hn
    have hn:=aui hn
    obtain⟨G1,k1,k2,k3,k4⟩:=jF (et:=et) (e:=e) (xs:=[]) (css:=[]) hr hf (aw2 _ _) (World.ownsRow_nil w _ _ _) hn trivial fl false false
    have hlt:=(aul.1 hj).1
    have hj1:(H++[.row et e []])[j]?=some (.box t cs):=by rw[auo hlt];exact hj
    have hst:=mA (it':=.box t (cs.set q (.own H.length))) k1 hj1 rfl k1.below (auj _) (fun _ _ _=>rfl)
    have hsr:=Bw (it':=.box t (cs.set q (.own H.length))) k1 hj1 rfl k1.below (auj _) (fun _ _ _=>rfl) (fun g hg=>by
     obtain⟨b,vs,e1,e2,e3,e4⟩:=k1.items j _ g hj1 hg
     refine⟨b,vs,e1,e2,e3,Dh (fun v hv=>?_) (bW (fun s v h=>dm k1 hst h) e4) hq⟩
     have hv:v=.slice none 0 0:=hv
     subst hv
     exact k3)
    rw[awX,auw hlt]at hsr hst
    obtain⟨G2,g1,g2,g3,g4⟩:=nR (fl:=fl) (l:=l) hsr (k2.keep fun s v h=>dm k1 hst h) (by simp;omega)
    exact⟨G2,g1,g2,fun s v hs hrf=>g3 s v (dm k1 hst (k4.ev s v hs hrf)) hrf,g4⟩
   ·exact nR hr hf hfl
  ·exact nR hr hf hfl
theorem Yj{x:NI}{c c':Cfg}{ats:List Act}(h:ak8 x c=some c')(hc:CR Z F w0 c G w a ats):∃G',CR Z F w0 c' G' w a ats∧c'.f=c.f∧c'.K=c.K∧c'.fs=c.fs:=by
 unfold ak8 at h
 split at h<;>try (cases h;done)
 rename_i L1 H1 h1
 split at h<;>try (cases h;done)
 rename_i L2 H2 h2
 split at h<;>try (cases h;done)
 rename_i L3 h3
 split at h<;>try (cases h;done)
 rename_i hb
 injection h with h
 subst h
 simp only[aug]at hb
 obtain⟨⟨⟨b1,b2⟩,b3⟩,b4⟩:=hb
 obtain⟨G0,f1,f2,f3,f4⟩:=nR (l:=x.bx) hc.sr hc.fr hc.fl
 obtain⟨G1,g1,g2,g3',g4⟩:=pi f1 f2 f4 h1
 have g3:Ev Z c.fl c.H G w H1 G1 w:=fun s v hs hr=>g3' s v (f3 s v hs hr) hr
 obtain⟨k1,k2,k3,k4⟩:=jB g1 g2 g4 h2
 have b3':=aui b3
 have hev:Ev Z c.fl c.H G w (H2.take x.hl) (G1.take x.hl) w:=fun s v hs hrf=>uy (k3 s v (g3 s v hs hrf) hrf) (nL b3' hrf)
 refine⟨G1.take x.hl,⟨abd k1 b2,⟨k2.defers,k2.size,fun t s hs=>?_⟩,by simp;omega,hc.frs.ev hev (auj _)⟩,rfl,rfl,rfl⟩
 obtain⟨v,q1,q2⟩:=k2.slot t s (vY h3 t s hs)
 have hrf:s.refs x.hl=true:=auu.1 b1 (t,s) (yO hs)
 exact⟨v,q1,dS (uy (kS q2 fun l e=>by subst e;cases hrf) hrf)⟩
end
end
section
def gj(P:Program)(fn:Func)(R:Ending→World→Prop)(B:Code):List KJ→List KI
 |[]=>[]
 |.seq i::K=>.seq i::gj P fn R B K
 |.blk id::K=>.blk id::gj P fn R B K
 |.lp i::K=>.lp (InLoop P (nth B (i+1)) (gE P fn R B (gj P fn R B K)))::gj P fn R B K
def fj(P:Program)(F:FT)(Rt:Ending→World→Prop):List Fm→List Act→Ending→World→Prop
 |fm::fs,a::ats=>fun e w'=>∃v,e=.returned v∧∃fn o,fQ F fm.f=some fn∧(au (nth (aq F fm.f) fm.i))[fm.k]?=some o∧
   (fm.d=none→AtR P fn (fj P F Rt fs ats) (aq F fm.f) (gj P fn (fj P F Rt fs ats) (aq F fm.f) fm.K) fm.i (fm.k+1) (a.put o.dst v) w')∧
   (∀D,fm.d=some D→wpG P (au (nth (aq F fm.f) fm.i)) (gE P fn (fj P F Rt fs ats) (aq F fm.f) (gj P fn (fj P F Rt fs ats) (aq F fm.f) fm.K)) (fun _=>True) ((au (nth (aq F fm.f) fm.i)).size-D.length) (mkL (au (nth (aq F fm.f) fm.i)).size D) (a.put o.dst v) w')
 |_,_=>Rt
section
variable {Z:Nat→Prop} {w0:World} {n:Nat} {L L':SL} {H H':List Item} {G G':List Value} {w w':World} {a:Act} {F:FT} {P:Program} {T:TT}
theorem eI{R:Type}{ops:Array Oper}{o:Oper}{yes no:SL→Option R}{r:R}(hf:FR Z n L H G w a)(h:ct ops L o yes no=some r):
  (∃L',yes L'=some r∧FR Z n L' H G w a∧Region.wanted o (yielded ops a.tmps)=true)∨(∃L',no L'=some r∧FR Z n L' H G w a∧Region.wanted o (yielded ops a.tmps)=false):=by
 unfold ct at h
 split at h
 ·rename_i hg
  exact .inl ⟨L,h,hf,by simp[Region.wanted,hg]⟩
 ·rename_i j want hg
  split at h<;>try (cases h;done)
  rename_i d hd
  split at h<;>try (cases h;done)
  ·rename_i b hb
   obtain⟨v,h1,h2⟩:=hf.slot d _ hb
   have hv:=mt h2
   subst hv
   have hy:∀b':Bool,b=b'→FR Z n ((d,.d .bool b')::lc L d) H G w a:=fun b' e=>by subst e;exact hf.say h1 h2
   have hw:Region.wanted o (yielded ops a.tmps)=(b==want):=by
    simp only[Region.wanted,hg,yielded,hd,Option.bind_some,h1]
    cases b<;>cases want<;>rfl
   split at h
   ·split at h
    ·exact .inl ⟨_,h,hy true rfl,hw⟩
    ·exact .inr ⟨_,h,hy true rfl,hw⟩
   ·split at h
    ·exact .inr ⟨_,h,hy false rfl,hw⟩
    ·exact .inl ⟨_,h,hy false rfl,hw⟩
  ·rename_i hb
   obtain⟨v,h1,h2⟩:=hf.slot d _ hb
   have h2:v=undef:=h2
   subst h2
   refine .inr ⟨L,h,hf,?_⟩
   simp only[Region.wanted,hg,yielded,hd,Option.bind_some,h1]
   rfl
theorem acm{fn:Func}{R:Ending→World→Prop}{B:Code}{K:List KI}{i k:Nat}(hk:(au (nth B i))[k]?=none)(h:gE P fn R B K .normal a w):AtR P fn R B K i k a w:=by
 refine np ?_ h
 rw[awH]
 simpa using hk
theorem aaV{fn:Func}{R:Ending→World→Prop}{B:Code}{K:List KI}{i k:Nat}{o:Oper}(hk:(au (nth B i))[k]?=some o)(hw:Region.wanted o (yielded (au (nth B i)) a.tmps)=true)
  (h:o.upon P a (fun a' w'=>AtR P fn R B K i (k+1) a' w') (gE P fn R B K) ((execOp a.eval o).run P w)):AtR P fn R B K i k a w:=by
 have hlt:k<(au (nth B i)).toList.length:=by simpa using(aun.1 hk).1
 unfold AtR
 have:(au (nth B i)).toList.drop k=o::(au (nth B i)).toList.drop (k+1):=by
  rw[auv hlt]
  congr 1
  have:=(aun.1 hk).2
  simpa using this
 rw[this]
 unfold wpList
 rw[auw hw]
 exact .inl h
theorem ak4{fn:Func}{R:Ending→World→Prop}{B:Code}{K:List KI}{i k:Nat}{o:Oper}(hk:(au (nth B i))[k]?=some o)(hw:Region.wanted o (yielded (au (nth B i)) a.tmps)=false)
  (h:AtR P fn R B K i (k+1) (a.put o.dst undef) w):AtR P fn R B K i k a w:=by
 have hlt:k<(au (nth B i)).toList.length:=by simpa using(aun.1 hk).1
 unfold AtR
 have:(au (nth B i)).toList.drop k=o::(au (nth B i)).toList.drop (k+1):=by
  rw[auv hlt]
  congr 1
  have:=(aun.1 hk).2
  simpa using this
 rw[this]
 unfold wpList
 rw[aus (by rw[hw];simp)]
 exact h
theorem OI(hT:em P T=true)(hr:SR Z w0 H G w)(hf:FR Z n L H G w a):∀{rs:List ResultVar} {ss:List SV},Az T H L rs=some ss→∃vs,co (Rel G (Av Z H G) w) ss vs∧
  ((rs.mapM (m:=Sem) fun
   |.tmp t=>pure (a.tmps.getD t undef)
   |.cell ad t=>do loadVar t (←asAddr (a.tmps.getD ad undef))).run P w)=.ok vs w:=by
 intro rs
 induction rs with
 |nil=>intro ss h;simp only[Az,auk]at h;subst h;exact⟨[],trivial,rfl⟩
 |cons q rs ih=>
  intro ss h
  rw[List.mapM_cons]
  cases q with
  |tmp t=>
   simp only[Az]at h
   split at h<;>try (cases h;done)
   rename_i s l h1 h2
   injection h with h
   subst h
   obtain⟨vs,g1,g2⟩:=ih h2
   obtain⟨v,k1,k2⟩:=hf.slot t s h1
   refine⟨v::vs,⟨k2,g1⟩,?_⟩
   simp only[ava,avC,aux,auT,k1,Option.getD_some]at g2 ⊢
   rw[g2]
   rfl
  |cell ad t=>
   simp only[Az]at h
   split at h<;>try (cases h;done)
   rename_i j off i l h1 hi h2
   split at h<;>try (cases h;done)
   rename_i bt cells hj
   split at h<;>try (cases h;done)
   rename_i s hl
   injection h with h
   subst h
   obtain⟨vs,g1,g2⟩:=ih h2
   obtain⟨p,k1,k2⟩:=hf.slot ad _ h1
   obtain⟨v,e1,e2⟩:=Er (rw:=true) hr (bh hT hi) k2 hj hl
   obtain⟨b,hb,rfl⟩:=k2
   refine⟨v::vs,⟨dS e1,g1⟩,?_⟩
   have e3:=e2 w Agr.refl
   simp only[Instr.loadAt,Instr.sureAddr,ava,avC,aux]at e3
   simp only[ava,avC,aux,auT,k1,Option.getD_some,asAddr,e3]at g2 ⊢
   rw[g2]
   rfl
theorem VL{fn:Func}{R:Ending→World→Prop}(hT:em P T=true)(hr:SR Z w0 H G w)(hf:FR Z n L H G w a){ss:List SV}(h:Az T H L fn.results.toList=some ss)(hR:∀vs,co (Rel G (Av Z H G) w) ss vs→R (.returned (jO vs)) w):bodyPost P fn R .ret a w:=by
 obtain⟨vs,g1,g2⟩:=OI (P:=P) hT hr hf h
 refine⟨hf.defers,jO vs,?_,hR vs g1⟩
 unfold Go.results
 generalize hrs:fn.results=rs at*
 obtain⟨l⟩:=rs
 simp only[List.mapM_toArray,bind_map_left]
 simp only[ava]
 refine(congrArg (fun r:Result (List Value)=>r.andThen fun(a:List Value) w'=>Sem.run P (pure (if h:a.toArray.size=1 then a.toArray[0]else Value.tuple a.toArray)) w') g2).trans ?_
 match vs with
 |[]=>rfl
 |[x]=>rfl
 |x::y::r=>simp[jO]
theorem P3{ss:List SV}{vs:List Value}(hn:∀s∈ss,∀l,s≠.tup l)(h:co (Rel G (Av Z H G) w) ss vs):Rel G (Av Z H G) w (akd ss) (jO vs):=by
 have h1:co (Rel1 G (Av Z H G) w) ss vs:=by
  induction ss generalizing vs with
  |nil=>cases vs<;>exact h
  |cons s ss ih=>
   match vs,h with
   |v::vs,⟨q1,q2⟩=>exact⟨kS q1 (hn s (by simp)),ih (fun s hs=>hn s (by simp[hs])) q2⟩
 match ss,vs,h,h1 with
 |[],[],_,_=>exact⟨[],rfl,trivial⟩
 |[s],[v],⟨q1,_⟩,_=>exact q1
 |s::s'::ss,v::v'::vs,_,h1=>exact⟨v::v'::vs,rfl,h1⟩
theorem C7{A:Nat→Prop}:∀{l:List SV} {r:List RV} {vs:List Value},xz.outL l=some r→co (Rel1 [] A w) l vs→rvS r=some l∧(∀q∈r,∃t x,q=.d t x)
 |[],r,vs,h,_=>by simp only[xz.outL,auk]at h;subst h;exact⟨rfl,by simp⟩
 |s::l,r,vs,h,ha=>by
  unfold xz.outL at h
  split at h
  ·rename_i e;cases e
  ·rename_i t x l' e
   injection e with e1 e2
   subst e1 e2
   split at h<;>try (cases h;done)
   rename_i r' hr'
   injection h with h
   subst h
   match vs,ha with
   |v::vs,⟨_,h2⟩=>
    obtain⟨g1,g2⟩:=C7 hr' h2
    exact⟨by simp[rvS,g1],fun q hq=>by rcases auK.1 hq with rfl|hq;exact⟨t,x,rfl⟩;exact g2 q hq⟩
  ·cases h
theorem ai7(_hT:em P T=true)(hr:SR Z w0 H G w){ss:List SV}{tys:List Nat}{r:List RV}{vs:List Value}(h:xz T H ss tys=some r)(ha:co (Rel G (Av Z H G) w) ss vs):uY Z w0.heap.size w r (jO vs):=by
 unfold xz at h
 split at h
 ·rename_i j
  split at h<;>try (cases h;done)
  rename_i et e xs hj
  injection h with h
  subst h
  match vs,ha with
  |[v],⟨hv,_⟩=>
   obtain⟨css,k1,k2,k3⟩:=hr.items j _ _ hj hv
   refine⟨css,k1,bW (fun l y h=>Ty.rd_keep ⟨auj _,fun b _ hA=>⟨hA.1,hA.2 j _ _ hj rfl hv⟩,fun _ _ _=>rfl⟩ h) k2,k3⟩
 ·split at h<;>try (cases h;done)
  split at h<;>try (cases h;done)
  split at h<;>try (cases h;done)
  split at h<;>try (cases h;done)
  rename_i hb
  injection h with h
  subst h
  match vs,ha with
  |[v],⟨hv,_⟩=>
   have hv:v=.slice none 0 0:=hv
   subst hv
   exact⟨[],World.ownsRow_nil _ _ _ _,trivial,aui hb⟩
 ·split at h<;>try (cases h;done)
  rename_i l hl
  have h1:co (Rel1 [] Z w) l vs:=mH (ss0:=ss) hr (fun _ _ h=>h.1) (.inl fun j g b hg hb ⟨_,_,_,hj⟩=>hr.zf b ((hr.items j _ g hj hg).blk rfl hb).1) (fun s hs=>hs) hl ha
  obtain⟨g1,g2⟩:=C7 h h1
  match r,g1,g2 with
  |[],g1,_=>
   simp only[rvS,auk]at g1
   subst g1
   match vs,h1 with
   |[],_=>exact⟨[],rfl,[],rfl,trivial⟩
  |[.d t x],g1,_=>
   simp only[rvS,auk]at g1
   subst g1
   match vs,h1 with
   |[v],⟨q,_⟩=>exact q
  |[.new et e xs],_,g2=>obtain⟨t,x,he⟩:=g2 (.new et e xs) (by simp);cases he
  |q::q'::r,g1,_=>
   have hlen:vs.length=(q::q'::r).length:=by
    rw[←ew h1]
    have:∀(r:List RV) (l:List SV),rvS r=some l→l.length=r.length:=by
     intro r
     induction r with
     |nil=>intro l h;simp only[rvS,auk]at h;subst h;rfl
     |cons q r ih=>
      intro l h
      cases q<;>simp only[rvS]at h<;>split at h<;>first|(cases h;done)|(injection h with h;subst h;simp[ih _ (by assumption)])
    exact this _ _ g1
   match vs,hlen,h1 with
   |v::v'::vs,_,h1=>cases q<;>exact⟨v::v'::vs,rfl,l,g1,h1⟩
end
end
section
theorem ki{Z:Nat→Prop}{H:List Item}{G:List Value}{w:World}{a:Act}:∀{ss:List SV} {vs:List Value} {k:Nat},co (Rel G (Av Z H G) w) ss vs→(∀t v,look (Es k vs) t=some v→a.tmps[t]?=some v)→∀t s,aX (qj k ss) t=some s→∃v,a.tmps[t]?=some v∧Rel G (Av Z H G) w s v
 |[],[],k,_,_,t,s,h=>by simp[qj,aX]at h
 |s0::ss,v0::vs,k,⟨h1,h2⟩,ha,t,s,h=>by
  rcases fM h with⟨rfl,rfl⟩|⟨hne,h3⟩
  ·exact⟨v0,ha t v0 (by simp[Es,look]),h1⟩
  ·refine ki h2 (fun u x hx=>ha u x ?_) t s h3
   simp only[Es,look]
   split
   ·rename_i hb
    have e:k=u:=auh hb
    have:=(yf vs (k+1) u x hx).1
    omega
   ·exact hx
def AtG(P:Program)(fn:Func)(R:Ending→World→Prop)(B:Code)(K:List KI)(i:Nat)(S0:World→Prop)(m:Nat)(D:List Nat)(a:Act)(w:World):Prop:=
 wpG P (au (nth B i)) (gE P fn R B K) S0 m (mkL (au (nth B i)).size D) a w
def ir(P:Program)(F:FT)(Rt:Ending→World→Prop)(c:Cfg)(fn:Func)(G:List Value)(w:World)(a:Act)(ats:List Act):Pos→Prop
 |.nrm=>gE P fn (fj P F Rt c.fs ats) (aq F c.f) (gj P fn (fj P F Rt c.fs ats) (aq F c.f) c.K) .normal a w
 |.node i=>At P fn (fj P F Rt c.fs ats) (aq F c.f) (gj P fn (fj P F Rt c.fs ats) (aq F c.f) c.K) i a w
 |.ops i k=>AtR P fn (fj P F Rt c.fs ats) (aq F c.f) (gj P fn (fj P F Rt c.fs ats) (aq F c.f) c.K) i k a w
 |.ret=>bodyPost P fn (fj P F Rt c.fs ats) .ret a w
 |.tam i D=>D=[]→Region.noSelect (au (nth (aq F c.f) i))=true→AtG P fn (fj P F Rt c.fs ats) (aq F c.f) (gj P fn (fj P F Rt c.fs ats) (aq F c.f) c.K) i (fun _=>True) (au (nth (aq F c.f) i)).size [] a w
 |.tbx i D=>D=[]→Region.noSelect (au (nth (aq F c.f) i))=true→AtG P fn (fj P F Rt c.fs ats) (aq F c.f) (gj P fn (fj P F Rt c.fs ats) (aq F c.f) c.K) i (fun _=>True) (au (nth (aq F c.f) i)).size [] a w
 |.tal i D=>∀S0:World→Prop,(∀w w',S0 w→(w.heap.size≤w'.heap.size∧∀b,b<w.heap.size→w'.heap[b]?=w.heap[b]?)→S0 w')→(storeDone (au (nth (aq F c.f) i)) (mkL (au (nth (aq F c.f) i)).size D)∨S0 w)→Clo (au (nth (aq F c.f) i)) (mkL (au (nth (aq F c.f) i)).size D)→Region.noSelect (au (nth (aq F c.f) i))=true→∀m',m'+D.length=(au (nth (aq F c.f) i)).size→AtG P fn (fj P F Rt c.fs ats) (aq F c.f) (gj P fn (fj P F Rt c.fs ats) (aq F c.f) c.K) i S0 m' D a w
 |.drw i rw eff D=>∀Hs Gs ws,((storeDone (au (nth (aq F c.f) i)) (mkL (au (nth (aq F c.f) i)).size D)∧eff=true)∨(Agr rw Hs Gs ws w∧(∀b,b<ws.heap.size→gW c.H G b→gW Hs Gs b)∧(eff=false→c.H=Hs∧G=Gs∧w=ws)∧¬storeDone (au (nth (aq F c.f) i)) (mkL (au (nth (aq F c.f) i)).size D)))→Clo (au (nth (aq F c.f) i)) (mkL (au (nth (aq F c.f) i)).size D)→Region.noSelect (au (nth (aq F c.f) i))=true→
   ∀m',m'+D.length=(au (nth (aq F c.f) i)).size→AtG P fn (fj P F Rt c.fs ats) (aq F c.f) (gj P fn (fj P F Rt c.fs ats) (aq F c.f) c.K) i (Agr rw Hs Gs ws) m' D a w
section
variable {Z:Nat→Prop} {w0:World} {F:FT} {P:Program} {T:TT} {E:Env} {N:NT} {Fin:Nat→Cfg→Option (List RV)} {Rt:Ending→World→Prop} {r:List RV}
theorem tX{fn:Func}{R:Ending→World→Prop}{B:Code}{id:Nat}:∀{K K':List KJ},A0 id K=some K'→wR id (gj P fn R B K)=some (gj P fn R B K')
 |[],K',h=>by simp[A0]at h
 |.blk j::K,K',h=>by
  simp only[A0]at h
  simp only[gj,wR]
  split at h
  ·rename_i hb;rw[hb];injection h with h;rw[h]
  ·rename_i hb;rw[hb];exact tX h
 |.seq _::K,K',h=>by simp only[A0]at h;simp only[gj,wR];exact tX h
 |.lp _::K,K',h=>by simp only[A0]at h;simp only[gj,wR];exact tX h
theorem Aj {L : SL} {H : List Item} {G : List Value} {w : World} {a : Act} {n g : Nat} {ss : List SV} {o : Op} (hf : FR Z n L H G w a) (h : EG F E L o = some (g, ss)) : ∃ f args tys fn caps, o = .call ⟨.value f, args, tys⟩ ∧ fQ F g = some fn ∧ a.eval f = .func (.func g) #[] caps ∧ co (Rel G (Av Z H G) w) ss (args.map a.eval ++ caps).toList ∧ ss.length ≤ fn.ntmps ∧ (!(fn.name == "runtime.NumGoroutine")) = true ∧ fn.body.isSome = true := by
 unfold EG at h
 split at h<;>try (cases h;done)
 rename_i f args tys
 split at h<;>try (cases h;done)
 rename_i g' caps hs
 split at h<;>try (cases h;done)
 split at h<;>try (cases h;done)
 rename_i fn ss' hfn hss
 split at h<;>try (cases h;done)
 rename_i hb
 simp only[auk,auB]at h
 obtain⟨rfl,rfl⟩:=h
 simp only[aug]at hb
 obtain⟨bs,hbs,hfv⟩:=a8 hf hs
 refine⟨f,args,tys,fn,_,rfl,hfn,hfv,?_,by simp;exact aui hb.1,hb.2.1,hb.2.2⟩
 have h1:=kb hf hss
 have h2:co (Rel G (Av Z H G) w) (caps.map fun j=>.box j 0) (bs.map fun b=>Value.pointer (some ⟨b,0,none⟩)):=by
  clear hs hfv
  induction caps generalizing bs with
  |nil=>cases bs<;>exact hbs
  |cons c caps ih=>
   match bs,hbs with
   |b::bs,⟨q1,q2⟩=>exact⟨⟨b,q1,rfl⟩,ih (by
     simp only[auD]at hb
     exact⟨auA (by have:=aui hb.1;omega),hb.2⟩) bs q2⟩
 have:=eT h1 h2
 simpa using this
theorem CQ{ops:Array Oper}{eff:Bool}{D:List Nat}:∀{rs:List Nat} {j:Nat},yA ops eff D rs=some j→j∈rs∧∃o,ops[j]?=some o∧isQ o.op=true∧(lD o.op=true→eff=false∧tT ops j=true)∧o.dst.isSome=true∧Region.free .any ops (mkL ops.size D) j=true
 |[],j,h=>by simp[yA]at h
 |q::rs,j,h=>by
  simp only[yA]at h
  split at h<;>try (cases h;done)
  rename_i o ho
  split at h
  ·rename_i hb
   injection h with h
   subst h
   simp only[aug,avh,Bool.and_eq_false_iff,awI,Bool.not_eq_false']at hb
   obtain⟨⟨⟨b1,b2⟩,b3⟩,b4⟩:=hb
   exact⟨by simp,o,ho,b1,fun hl=>by rcases b2 with b2|b2;rw[hl]at b2;cases b2;exact b2,b3,b4⟩
  ·obtain⟨h1,h2⟩:=CQ h
   exact⟨by simp[h1],h2⟩
end
end
abbrev dn(l:Array Bool):Nat→Bool:=fun k=>l.getD k true
theorem gX(l:Array Bool)(j k:Nat):dn (l.setIfInBounds j true) k=if k=j then true else dn l k:=by
 by_cases h:k=j
 ·subst h;rw[auw rfl];exact gN l k
 ·rw[aus h];exact avO true (avy h)
theorem dL{d:Nat}{s:SV}{L:SL}{t:Nat}:aX ((d,s)::lc L d) t=if t=d then some s else aX L t:=by
 by_cases h:t=d
 ·subst h
  rw[auw rfl]
  simp[aX]
 ·rw[aus h]
  have hb:Nat.beq d t=false:=by
   cases hq:Nat.beq d t with
   |false=>rfl
   |true=>exact absurd (auh hq).symm h
  simp only[aX,hb]
theorem uF:∀{l cs:List SV} {off:Nat},(lU cs off l).length=cs.length
 |[],_,_=>rfl
 |_::r,_,_=>by simp[lU,uF (l:=r)]
theorem DH:∀(l cs:List SV) (off i:Nat),(lU cs off l)[i]?=if off≤i∧i<off+l.length∧i<cs.length then l[i-off]? else cs[i]?
 |[],cs,off,i=>by rw[aus (by simp;omega)];rfl
 |s::r,cs,off,i=>by
  rw[lU,DH r (cs.set off s) (off+1) i,awx,auD]
  by_cases h1:i=off
  ·subst h1
   rw[aus (by omega)]
   by_cases h2:i<cs.length
   ·rw[auw (by omega),avE,avM h2];rfl
   ·rw[aus (by omega),avc (by simp;omega),avc (by omega)]
  ·by_cases h2:off+1≤i∧i<off+1+r.length∧i<cs.length
   ·rw[auw h2,auw (by omega),show i-off=(i-(off+1))+1 by omega,auG]
   ·rw[aus h2,aus (by omega),avp (avy h1)]
theorem K7{l l' cs:List SV}{off off':Nat}(h:off+l.length≤off'∨off'+l'.length≤off):lU (lU cs off l) off' l'=lU (lU cs off' l') off l:=by
 refine avN fun i=>?_
 simp only[DH,uF]
 by_cases h1:off≤i∧i<off+l.length∧i<cs.length
 ·by_cases h2:off'≤i∧i<off'+l'.length∧i<cs.length
  ·omega
  ·simp only[auw h1,aus h2]
 ·by_cases h2:off'≤i∧i<off'+l'.length∧i<cs.length
  ·simp only[aus h1,auw h2]
  ·simp only[aus h1,aus h2]
theorem Cn{x:SV}:∀{l cs:List SV} {off:Nat},x∈lU cs off l→x∈cs∨x∈l
 |[],_,_,h=>.inl h
 |s::r,cs,off,h=>by
  rcases Cn (l:=r) h with h1|h1
  ·rcases List.mem_or_eq_of_mem_set h1 with h2|h2
   ·exact .inl h2
   ·subst h2;exact .inr (by simp)
  ·exact .inr (by simp[h1])
def ovI(s:AlS):Item→Item
 |.box bt cells=>.box bt (lU cells s.off s.l)
 |it=>it
theorem jz(s:AlS)(H:List Item)(k:Nat):(stP s H)[k]?=if k=s.j then H[k]?.map (ovI s)else H[k]?:=by
 unfold stP
 split
 ·rename_i bt cells hb
  by_cases h:k=s.j
  ·subst h
   rw[auw rfl,hb,avM (aul.1 hb).1]
   rfl
  ·rw[aus h,avp (avy h)]
 ·rename_i hb
  by_cases h:k=s.j
  ·subst h
   rw[auw rfl]
   cases hh:H[s.j]? with
   |none=>rfl
   |some it=>
    cases it with
    |box bt cells=>exact absurd hh (hb bt cells)
    |row=>rfl
    |gone=>rfl
  ·rw[aus h]
theorem HH(s:AlS)(H:List Item):(stP s H).length=H.length:=by
 unfold stP
 split
 ·rw[awx]
 ·rfl
theorem Ys{s:AlS}{H:List Item}{k:Nat}{it:Item}(h:s.j≠k):stP s (H.set k it)=(stP s H).set k it:=by
 refine avN fun i=>?_
 rw[jz,auy,auy,jz,HH]
 by_cases h1:k=i
 ·subst h1;rw[aus (avy h),auw rfl,auw rfl]
 ·rw[aus h1,aus h1]
theorem rP{s p:AlS}(h:Fv s p=true):s.i≠p.i∧(s.j≠p.j∨s.off+s.l.length≤p.off∨p.off+p.l.length≤s.off):=by
 simp only[Fv,aug,avR,avh]at h
 obtain⟨h1,h2⟩:=h
 refine⟨fun e=>(by rw[e,awy]at h1;cases h1),?_⟩
 rcases h2 with(h2|h2)|h2
 ·exact .inl fun e=>by rw[e,awy]at h2;cases h2
 ·exact .inr (.inl (aui h2))
 ·exact .inr (.inr (aui h2))
theorem VY{s p:AlS}(h:Fv s p=true)(H:List Item):stP s (stP p H)=stP p (stP s H):=by
 obtain⟨_,h⟩:=rP h
 refine avN fun k=>?_
 rw[jz,jz,jz,jz]
 by_cases h1:k=s.j
 ·subst h1
  rw[auw rfl]
  by_cases h2:s.j=p.j
  ·rw[auw h2,auw h2,auw rfl]
   cases hh:H[s.j]? with
   |none=>rfl
   |some it=>
    cases it with
    |box bt cells=>
     simp only[au0,ovI]
     rw[K7 (by rcases h with h|h|h;exact absurd h2 h;exact .inr h;exact .inl h)]
    |row=>rfl
    |gone=>rfl
  ·rw[aus h2,aus h2,auw rfl]
 ·rw[aus h1]
  by_cases h2:k=p.j
  ·rw[auw h2,auw h2,aus h1]
  ·rw[aus h2,aus h2,aus h1]
theorem mW{f:Nat→Bool}{H:List Item}:∀{ss:List AlS},(cC f ss H).length=H.length
 |[]=>rfl
 |s::r=>by
  simp only[cC]
  split
  ·rw[HH];exact mW
  ·exact mW
theorem vU{f:Nat→Bool}{H:List Item}{k:Nat}{it:Item}:∀{ss:List AlS},(∀s∈ss,f s.i=true→s.j≠k)→cC f ss (H.set k it)=(cC f ss H).set k it
 |[],_=>rfl
 |s::r,h=>by
  have ih:=vU (f:=f) (H:=H) (k:=k) (it:=it) (ss:=r) fun s hs=>h s (by simp[hs])
  simp only[cC]
  split
  ·rename_i h1
   rw[ih,Ys (h s (by simp) h1)]
  ·exact ih
theorem jb{f g:Nat→Bool}{H:List Item}:∀{ss:List AlS},(∀s∈ss,f s.i=g s.i)→cC f ss H=cC g ss H
 |[],_=>rfl
 |s::r,h=>by
  simp only[cC]
  rw[h s (by simp),jb (ss:=r) fun s hs=>h s (by simp[hs])]
theorem kC{f:Nat→Bool}{H:List Item}:∀{ss:List AlS},(∀s∈ss,f s.i=false)→cC f ss H=H
 |[],_=>rfl
 |s::r,h=>by
  simp only[cC]
  rw[h s (by simp)]
  exact kC (ss:=r) fun s hs=>h s (by simp[hs])
theorem Jb{f g:Nat→Bool}{H:List Item}{s:AlS}(hg:∀k,g k=if k=s.i then true else f k)(hf:f s.i=false):∀{ss:List AlS},ss.Pairwise (fun s p=>Fv s p=true)→s∈ss→cC g ss H=stP s (cC f ss H)
 |[],_,hs=>by cases hs
 |p::r,hp,hs=>by
  obtain⟨h1,h2⟩:=avA.1 hp
  simp only[cC]
  rcases auK.1 hs with e|hs
  ·subst e
   rw[hg s.i,auw rfl,hf]
   dsimp only
   rw[jb (f:=g) (g:=f) (ss:=r) fun q hq=>by rw[hg,aus (avy (rP (h1 q hq)).1)]]
  ·have hne:=(rP (h1 s hs)).1
   have ih:=Jb (H:=H) hg hf h2 hs
   rw[hg p.i,aus hne,ih]
   split
   ·exact VY (h1 s hs) _
   ·rfl
theorem D7{f:Nat→Bool}{H:List Item}{k bt:Nat}{cells:List SV}(h:H[k]?=some (.box bt cells)):∀{ss:List AlS},∃cells',(cC f ss H)[k]?=some (.box bt cells')∧cells'.length=cells.length
 |[]=>⟨cells,h,rfl⟩
 |s::r=>by
  obtain⟨c',h1,h2⟩:=D7 (f:=f) h (ss:=r)
  simp only[cC]
  split
  ·rw[jz,h1]
   split
   ·exact⟨_,rfl,by rw[uF,h2]⟩
   ·exact⟨c',rfl,h2⟩
  ·exact⟨c',h1,h2⟩
def kQ(h0:Nat)(H:List Item):Prop:=∀(k:Nat) (t:TypeId) (cs:List SV),H[k]?=some (.box t cs)→∀s∈cs,s.refs h0=true
theorem DF{h0:Nat}{f:Nat→Bool}{H:List Item}(hH:kQ h0 H):∀{ss:List AlS},(∀s∈ss,∀x∈s.l,x.refs h0=true)→kQ h0 (cC f ss H)
 |[],_=>hH
 |s::r,h=>by
  have ih:=DF (f:=f) hH (ss:=r) fun s hs=>h s (by simp[hs])
  simp only[cC]
  split
  ·intro k t cs hk x hx
   rw[jz]at hk
   split at hk
   ·cases hh:(cC f r H)[k]? with
    |none=>rw[hh]at hk;cases hk
    |some it=>
     rw[hh]at hk
     cases it with
     |box bt cells=>
      simp only[au0,ovI,auk,Item.box.injEq]at hk
      obtain⟨rfl,rfl⟩:=hk
      rcases Cn hx with h1|h1
      ·exact ih k _ _ hh x h1
      ·exact h s (by simp) x h1
     |row=>simp[ovI]at hk
     |gone=>simp[ovI]at hk
   ·exact ih k t cs hk x hx
  ·exact ih
theorem qP(f:Nat→Bool)(la:List AlA)(r:Nat):(alX f la)[r]?=la[r]?.map fun a=>match f a.i with
  |true=>.box a.t a.cs
  |false=>.gone:=by
 unfold alX
 rw[au6]
 rfl
abbrev Dis(la:List AlA):Prop:=la.Pairwise fun a b=>a.i≠b.i∧a.d≠b.d
theorem Qb{la:List AlA}(h:Dis la){r k:Nat}{a b:AlA}(ha:la[r]?=some a)(hb:la[k]?=some b)(hne:k≠r):b.i≠a.i∧b.d≠a.d:=by
 obtain⟨h1,rfl⟩:=aul.1 ha
 obtain⟨h2,rfl⟩:=aul.1 hb
 have hp:=List.pairwise_iff_getElem.1 h
 rcases Nat.lt_or_gt_of_ne hne with h3|h3
 ·exact hp k r h2 h1 h3
 ·have:=hp r k h1 h2 h3
  exact⟨avy this.1,avy this.2⟩
theorem ail{f g:Nat→Bool}{la:List AlA}{r:Nat}{a:AlA}(hd:Dis la)(ha:la[r]?=some a)(hg:∀k,g k=if k=a.i then true else f k):alX g la=(alX f la).set r (.box a.t a.cs):=by
 refine avN fun k=>?_
 rw[auy,qP]
 by_cases h:r=k
 ·subst h
  rw[auw rfl,ha,auw (by unfold alX;rw[av0];exact(aul.1 ha).1)]
  simp only[au0]
  rw[hg,auw rfl]
 ·rw[aus h,qP]
  cases hk:la[k]? with
  |none=>rfl
  |some b=>
   simp only[au0]
   rw[hg,aus (Qb hd ha hk (avy h)).1]
theorem Hd{f g:Nat→Bool}{la:List AlA}{r:Nat}{a:AlA}{H0:List Item}(hd:Dis la)(ha:la[r]?=some a)(hg:∀k,g k=if k=a.i then true else f k):H0++alX g la=(H0++alX f la).set (H0.length+r) (.box a.t a.cs):=by
 rw[ail hd ha hg,awX,aus (by omega),show H0.length+r-H0.length=r by omega]
theorem acA{h0:Nat}{f:Nat→Bool}{la:List AlA}{H0:List Item}(hH:kQ h0 H0)(hla:∀a∈la,∀x∈a.cs,x.refs h0=true):kQ h0 (H0++alX f la):=by
 intro k t cs hk x hx
 rcases auz k H0.length with h|h
 ·rw[auo h]at hk
  exact hH k t cs hk x hx
 ·rw[aup h,qP]at hk
  cases hh:la[k-H0.length]? with
  |none=>rw[hh]at hk;cases hk
  |some a=>
   rw[hh]at hk
   simp only[au0,auk]at hk
   split at hk
   ·simp only[Item.box.injEq]at hk
    obtain⟨rfl,rfl⟩:=hk
    exact hla a (au4 hh) x hx
   ·cases hk
theorem gA{f g:Nat→Bool}{t:Nat}:∀{la:List AlA} {k:Nat} {L M:SL},(∀a∈la,a.d=t→f a.i=g a.i)→aX L t=aX M t→aX (fw f la k L) t=aX (fw g la k M) t
 |[],_,_,_,_,h=>h
 |b::l,k,L,M,hl,h=>by
  simp only[fw]
  refine gA (fun a ha=>hl a (by simp[ha])) ?_
  by_cases e:b.d=t
  ·rw[←hl b (by simp) e]
   split
   ·rw[dL,dL,auw e.symm,auw e.symm]
   ·exact h
  ·have e':t≠b.d:=fun h=>e h.symm
   split<;>split<;>(try rw[dL,aus e'])<;>(try rw[dL,aus e'])<;>exact h
theorem Cw{f:Nat→Bool}{t:Nat}:∀{la:List AlA} {k:Nat} {L:SL},(∀a∈la,a.d≠t)→aX (fw f la k L) t=aX L t
 |[],_,_,_=>rfl
 |b::l,k,L,h=>by
  simp only[fw]
  rw[Cw fun a ha=>h a (by simp[ha])]
  split
  ·rw[dL,aus (fun e=>h b (by simp) e.symm)]
  ·rfl
theorem Ay{f g:Nat→Bool}{a:AlA}(hg:∀k,g k=if k=a.i then true else f k):∀{la:List AlA} {r k:Nat} {L:SL},Dis la→la[r]?=some a→∀t,aX (fw g la k L) t=if t=a.d then some (.box (k+r) 0)else aX (fw f la k L) t
 |[],r,_,_,_,h,_=>by simp at h
 |b::l,0,k,L,hd,h,t=>by
  simp only[auS,auk]at h
  subst h
  obtain⟨h1,h2⟩:=avA.1 hd
  simp only[fw]
  rw[hg b.i,auw rfl]
  dsimp only
  by_cases e:t=b.d
  ·subst e
   rw[auw rfl,Cw fun a ha=>avy (h1 a ha).2,dL,auw rfl,aw6]
  ·rw[aus e]
   refine gA (fun a ha _=>by rw[hg,aus (avy (h1 a ha).1)]) ?_
   rw[dL,aus e]
   split
   ·rw[dL,aus e]
   ·rfl
 |b::l,r+1,k,L,hd,h,t=>by
  obtain⟨h1,h2⟩:=avA.1 hd
  rw[auG]at h
  simp only[fw]
  rw[hg b.i,aus (h1 a (au4 h)).1,Ay hg h2 h t,show k+1+r=k+(r+1) by omega]
theorem E6{f:Nat→Bool}{t:Nat}{s:SV}:∀{la:List AlA} {k:Nat} {L:SL},aX (fw f la k L) t=some s→(∃r a,la[r]?=some a∧t=a.d∧f a.i=true∧s=.box (k+r) 0)∨aX L t=some s
 |[],_,_,h=>.inr h
 |b::l,k,L,h=>by
  simp only[fw]at h
  rcases E6 h with⟨r,a,h1,h2,h3,h4⟩|h1
  ·exact .inl ⟨r+1,a,by rw[auG];exact h1,h2,h3,by rw[h4,show k+1+r=k+(r+1) by omega]⟩
  ·split at h1
   ·rename_i hb
    rw[dL]at h1
    split at h1
    ·rename_i e
     injection h1 with h1
     exact .inl ⟨0,b,rfl,e,hb,by rw[←h1,aw6]⟩
    ·exact .inr h1
   ·exact .inr h1
theorem mr{T:TT}{N:Nat}:∀{lo:List Oper} {i0:Nat} {la:List AlA},alA T N lo i0=some la→
  (∀q o,lo[q]?=some o→bI o=true→∃(r:Nat) (a:AlA),la[r]?=some a∧a.i=i0+q∧o.dst=some a.d∧a.d<N∧∃x,o.op=.alloc a.t∧dw T a.t=some x∧x.z=true∧(∀p q,x.ty≠.pair p q)∧a.cs=x.ty.zsplit)∧
  (∀a∈la,i0≤a.i∧∃o,lo[a.i-i0]?=some o∧bI o=true∧∃x,a.cs=Ty.zsplit x)∧Dis la
 |[],_,_,h=>by
  simp only[alA,auk]at h
  subst h
  exact⟨fun q o h=>(by simp at h),fun a h=>(by cases h),List.Pairwise.nil⟩
 |o::r,i,la,h=>by
  simp only[alA]at h
  have sub:∀{la:List AlA},(∀a∈la,i+1≤a.i∧∃o,r[a.i-(i+1)]?=some o∧bI o=true∧∃x,a.cs=Ty.zsplit x)→∀a∈la,i≤a.i∧∃o',(o::r)[a.i-i]?=some o'∧bI o'=true∧∃x,a.cs=Ty.zsplit x:=fun h a ha=>by
   obtain⟨h1,o',h2,h3⟩:=h a ha
   exact⟨by omega,o',by rw[show a.i-i=(a.i-(i+1))+1 by omega,auG];exact h2,h3⟩
  split at h
  ·rename_i hal
   obtain⟨h1,h2,h3⟩:=mr h
   refine⟨fun q o' hq ho=>?_,sub h2,h3⟩
   cases q with
   |zero=>simp only[auS,auk]at hq;subst hq;rw[hal]at ho;cases ho
   |succ q=>
    rw[auG]at hq
    obtain⟨r',a,k1,k2,k3⟩:=h1 q o' hq ho
    exact⟨r',a,k1,by omega,k3⟩
  ·rename_i hal
   split at h<;>try (cases h;done)
   rename_i t d hop hdst
   split at h<;>try (cases h;done)
   rename_i x l hx hd hl
   split at h<;>try (cases h;done)
   rename_i hz hne
   split at h<;>try (cases h;done)
   rename_i hall
   injection h with h
   subst h
   obtain⟨h1,h2,h3⟩:=mr hl
   refine⟨fun q o' hq ho=>?_,fun a ha=>?_,avA.2 ⟨fun b hb=>?_,h3⟩⟩
   ·cases q with
    |zero=>
     simp only[auS,auk]at hq
     subst hq
     exact⟨0,_,rfl,rfl,hdst,aui hd,x,hop,hx,hz,fun p q e=>hne _ _ e,rfl⟩
    |succ q=>
     rw[auG]at hq
     obtain⟨r',a,k1,k2,k3⟩:=h1 q o' hq ho
     exact⟨r'+1,a,by rw[auG];exact k1,by omega,k3⟩
   ·rcases auK.1 ha with e|ha
    ·subst e
     exact⟨auj _,o,by simp,hal,x.ty,rfl⟩
    ·exact sub h2 a ha
   ·have:=auu.1 hall b hb
    simp only[aug,avh]at this
    exact⟨fun e=>(by have:=this.1;simp only at e;rw[e,awy]at this;cases this),fun e=>(by have:=this.2;simp only at e;rw[e,awy]at this;cases this)⟩
def abQ(T:TT)(ops:Array Oper)(la:List AlA)(h0:Nat)(La:SL)(Ha:List Item)(s:AlS)(o:Oper):Prop:=
 ∃t x v sv y bt cells,o.op=.store t x v∧o.guard=none∧o.dst=none∧opS La x=some (.box s.j s.off)∧opS La v=some sv∧dw T t=some y∧fy [] sv=some s.l∧Ha[s.j]?=some (.box bt cells)∧s.l.length=y.ty.n∧s.off+s.l.length≤cells.length∧
  (∀z∈s.l,z.refs h0=true)∧(∀a∈la,(LV x a.d||LV v a.d)=true→fK ops 4 s.i a.i=true)∧GE ops s.i s.j la h0=true
theorem ka{T:TT}{E:Env}{ops:Array Oper}{l:Array Bool}{la:List AlA}{h0:Nat}{La:SL}{Ha:List Item}:∀{lo:List Oper} {i0:Nat} {ss:List AlS},alS T E ops l la h0 La Ha lo i0=some ss→
  (∀q o,lo[q]?=some o→l.getD (i0+q) true=false→bI o=false→eZ E o=false→∃s∈ss,s.i=i0+q)∧
  (∀s∈ss,i0≤s.i∧l.getD s.i true=false∧∃o,lo[s.i-i0]?=some o∧bI o=false∧abQ T ops la h0 La Ha s o)∧ss.Pairwise (fun s p=>Fv s p=true)
 |[],_,_,h=>by
  simp only[alS,auk]at h
  subst h
  exact⟨fun q o h=>(by simp at h),fun a h=>(by cases h),List.Pairwise.nil⟩
 |o::r,i,ss,h=>by
  simp only[alS]at h
  have sub:∀{ss:List AlS},(∀s∈ss,i+1≤s.i∧l.getD s.i true=false∧∃o,r[s.i-(i+1)]?=some o∧bI o=false∧abQ T ops la h0 La Ha s o)→∀s∈ss,i≤s.i∧l.getD s.i true=false∧∃o',(o::r)[s.i-i]?=some o'∧bI o'=false∧abQ T ops la h0 La Ha s o':=fun h a ha=>by
   obtain⟨h1,h1',o',h2,h3⟩:=h a ha
   exact⟨by omega,h1',o',by rw[show a.i-i=(a.i-(i+1))+1 by omega,auG];exact h2,h3⟩
  split at h
  ·rename_i hal
   obtain⟨h1,h2,h3⟩:=ka h
   refine⟨fun q o' hq hu ho ht=>?_,sub h2,h3⟩
   cases q with
   |zero=>
    simp only[auS,auk]at hq
    subst hq
    rw[show i+0=i from rfl]at hu
    rw[hu,ho,ht]at hal
    cases hal
   |succ q=>
    rw[auG]at hq
    obtain⟨s,k1,k2⟩:=h1 q o' hq (by rw[show i+1+q=i+(q+1) by omega];exact hu) ho ht
    exact⟨s,k1,by omega⟩
  ·rename_i hal
   simp only[awI]at hal
   split at h<;>try (cases h;done)
   rename_i t x v hop
   split at h<;>try (cases h;done)
   rename_i j off sv y hg hdst hx hv hy
   split at h<;>try (cases h;done)
   rename_i cs bt cells ss' hcs hH hss
   split at h<;>try (cases h;done)
   rename_i hall
   injection h with h
   subst h
   simp only[aug]at hall
   obtain⟨⟨⟨⟨⟨c1,c2⟩,c3⟩,c4⟩,c5⟩,c6⟩:=hall
   obtain⟨h1,h2,h3⟩:=ka hss
   refine⟨fun q o' hq hu ho ht=>?_,fun s hs=>?_,avA.2 ⟨fun p hp=>auu.1 c6 p hp,h3⟩⟩
   ·cases q with
    |zero=>exact⟨_,List.mem_cons_self ..,rfl⟩
    |succ q=>
     rw[auG]at hq
     obtain⟨s,k1,k2⟩:=h1 q o' hq (by rw[show i+1+q=i+(q+1) by omega];exact hu) ho ht
     exact⟨s,by simp[k1],by omega⟩
   ·rcases auK.1 hs with e|hs
    ·subst e
     exact⟨auj _,hal.1.1,o,by simp,hal.1.2,t,x,v,sv,y,bt,cells,hop,hg,hdst,hx,hv,hy,hcs,hH,auh c1,aui c2,auu.1 c3,fun a ha hw=>by
      have:=auu.1 c4 a ha
      rw[hw]at this
      simpa using this,c5⟩
    ·exact sub h2 s hs
theorem BE{ops:Array Oper}{i j:Nat}:∀{la:List AlA} {k r:Nat} {a:AlA},GE ops i j la k=true→la[r]?=some a→j=k+r→fK ops 4 i a.i=true
 |[],_,_,_,_,h,_=>by simp at h
 |b::l,k,0,a,h,ha,hj=>by
  simp only[auS,auk]at ha
  subst ha
  simp only[GE,aug,avR,avh]at h
  rcases h.1 with h1|h1
  ·rw[hj,aw6,awy]at h1;cases h1
  ·exact h1
 |b::l,k,r+1,a,h,ha,hj=>by
  rw[auG]at ha
  simp only[GE,aug]at h
  exact BE h.2 ha (by omega)
theorem fH{l:Array Bool}{k:Nat}(h:k<l.size):l.getD k false=l.getD k true:=by simp[h]
theorem wa{ops:Array Oper}{l':Array Bool}(hs:l'.size=ops.size):∀{C:List Nat} {l:Array Bool},F1 ops l C=true→(∀k,l.getD k false=true→l'.getD k false=true)→(∃i∈C,l'.getD i true=false)→Region.ready .any ops l'≠[]
 |[],_,_,_,⟨_,h,_⟩=>by cases h
 |i::r,l,h,hsub,⟨k,hk,hu⟩=>by
  simp only[F1,aug]at h
  obtain⟨h1,h2⟩:=h
  split at h1<;>try (cases h1;done)
  rename_i o ho
  have hlt:i<l'.size:=by rw[hs];exact(aun.1 ho).1
  cases hi:l'.getD i true with
  |false=>
   intro hr
   have:i∈Region.ready .any ops l':=avj.2 ⟨hi,o,ho,fun e he hb=>by
    have:=auu.1 h1 e (awG.2 he)
    rw[hb]at this
    exact hsub _ (by simpa using this)⟩
   rw[hr]at this
   cases this
  |true=>
   refine wa hs h2 (fun q hq=>?_) ⟨k,(auK.1 hk).resolve_left fun e=>(by subst e;rw[hi]at hu;cases hu),hu⟩
   by_cases e:i=q
   ·subst e;rw[fH hlt];exact hi
   ·rw[avO false e]at hq
    exact hsub q hq
def cu(l:Array Bool):Nat:=l.toList.countP fun b=>!b
theorem ym:∀(l:List Bool) (j:Nat),l[j]?=some false→(l.set j true).countP (fun b=>!b)+1=l.countP (fun b=>!b)
 |[],_,h=>by simp at h
 |b::l,0,h=>by
  simp only[auS,auk]at h
  subst h
  simp
 |b::l,j+1,h=>by
  rw[auG]at h
  have:=ym l j h
  rw[List.set_cons_succ]
  cases b<;>simp<;>omega
theorem yW{l:Array Bool}{j:Nat}(h:l.getD j true=false):cu (l.setIfInBounds j true)+1=cu l:=by
 unfold cu
 rw[Array.toList_setIfInBounds]
 refine ym _ _ ?_
 rcases auz j l.size with hlt|hge
 ·simp[hlt]at h ⊢;exact h
 ·simp[auO hge]at h
theorem aaj{l:Array Bool}(h:cu l=0)(k:Nat):l.getD k true=true:=by
 rcases auz k l.size with hlt|hge
 ·have:=List.countP_eq_zero.1 h l[k] (by simp)
  simp[hlt]at this ⊢
  exact this
 ·simp[auO hge]
theorem GP(n:Nat):cu (mkL n [])=n:=by
 unfold cu mkL
 rw[Array.toList_replicate,List.countP_replicate]
 simp
end Go.Proofs.YtlahabkjhgkkjaaGreat
end
