/- The pure machine. -/
import Derived.Test.YtlahabkjhgkkjaaGreatW3
noncomputable section
namespace Go.Proofs.YtlahabkjhgkkjaaGreat
open Go.RowKit Go.IntKind
theorem aqY:type_of% @List.getElem?_cons_succ:=@List.getElem?_cons_succ
theorem arJ:type_of% @List.getElem?_set_ne:=@List.getElem?_set_ne
theorem arS:type_of% @List.pairwise_cons:=@List.pairwise_cons
theorem ar5:type_of% @List.getElem?_set_self:=@List.getElem?_set_self
theorem ask:type_of% @List.length_map:=@List.length_map
theorem asB:type_of% @List.getElem_of_mem:=@List.getElem_of_mem
theorem asR:type_of% @Nat.beq_refl:=@Nat.beq_refl
theorem asY:type_of% @List.all_cons:=@List.all_cons
theorem as1:type_of% @List.drop_eq_nil_iff:=@List.drop_eq_nil_iff
theorem as2:type_of% @Bool.or_eq_false_iff:=@Bool.or_eq_false_iff
theorem atg:type_of% @List.set_append:=@List.set_append
section
inductive KJ where
 |seq (i:Nat)
 |blk (id:Nat)
 |lp (i:Nat)
structure Fm where
 f:Nat
 K:List KJ
 i:Nat
 k:Nat
 L:SL
 fl:Nat
 d:Option (List Nat):=none
structure Cfg where
 f:Nat
 K:List KJ
 L:SL
 H:List Item
 fl:Nat
 fs:List Fm
def TB(a b:Nat):Nat:=bif Nat.ble a b then b else a
def SV.ofm:SV→Nat
 |.own j=>j+1
 |.oelt j _ _ _=>j+1
 |.osl j _ _ _=>j+1
 |_=>0
def SV.ofmT:SV→Nat
 |.tup l=>l.foldr (fun s m=>TB s.ofm m) 0
 |s=>s.ofm
def slM:SL→Nat
 |[]=>0
 |(_,s)::r=>TB s.ofmT (slM r)
def Cd:List Fm→Nat
 |[]=>0
 |fm::r=>TB (slM fm.L) (Cd r)
inductive Pos where
 |nrm
 |node (i:Nat)
 |ops (i k:Nat)
 |drw (i:Nat) (rw eff:Bool) (D:List Nat)
 |tam (i:Nat) (D:List Nat)
 |tal (i:Nat) (D:List Nat)
 |tbx (i:Nat) (D:List Nat)
 |ret
abbrev FT:=List (Nat×Func)
def fH:FT→Nat→Option Func
 |[],_=>none
 |(k,x)::r,t=>match Nat.beq k t with
  |true=>some x
  |false=>fH r t
def am(F:FT)(f:Nat):Code:=match fH F f with
 |some fn=>fn.body.getD .skip
 |none=>.skip
structure NI where
 keep:List Nat
 own:List (Nat×Nat×Ty):=[]
 pure_:List (Nat×Ty):=[]
 bx:List (Nat×Nat×Nat×Ty):=[]
 hl:Nat
abbrev NT:=List ((Nat×Nat)×NI)
def NF:NT→Nat→Nat→Option NI
 |[],_,_=>none
 |((f,i),x)::r,g,j=>match Nat.beq f g&&Nat.beq i j with
  |true=>some x
  |false=>NF r g j
def dm(n:Nat)(L:SL):Option Nat→SV→Option SL
 |none,_=>some L
 |some d,s=>match Nat.ble (d+1) n with
  |true=>some ((d,s)::kN L d)
  |false=>none
def wh(N:NT)(f i:Nat)(L:SL):SL:=match NF N f i with
 |some x=>eM L x.keep
 |none=>L
def A0(L:SL):List Nat→Option SL
 |[]=>some []
 |t::ts=>match aV L t,A0 L ts with
  |some s,some r=>some ((t,s)::r)
  |_,_=>none
def Item.refs(hl:Nat):Item→Bool
 |.box _ cs=>cs.all (SV.refs hl)
 |_=>true
def mK:List (Nat×Nat×Ty)→SL→List Item→Option (SL×List Item)
 |[],L,H=>some (L,H)
 |(t,et,e)::r,L,H=>match aV L t with
  |some .nil=>match Nat.ble 1 e.n with
   |true=>mK r ((t,.own H.length)::kN L t) (H++[.row et e []])
   |false=>none
  |_=>mK r L H
def iA(fl:Nat):List (Nat×Ty)→SL→List Item→Option (SL×List Item)
 |[],L,H=>some (L,H)
 |(t,e)::r,L,H=>match aV L t with
  |some .nil=>iA fl r ((t,.d (.sl e) [])::kN L t) H
  |some (.own j)=>match rj fl j L H with
   |some (L',H')=>iA fl r L' H'
   |none=>none
  |_=>iA fl r L H
def kr:List (Nat×Nat×Nat×Ty)→List Item→List Item
 |[],H=>H
 |(j,q,et,e)::r,H=>match H[j]? with
  |some (.box t cs)=>match cs[q]?,Nat.ble 1 e.n with
   |some .nil,true=>kr r ((H.set j (.box t (cs.set q (.own H.length))))++[.row et e []])
   |_,_=>kr r H
  |_=>kr r H
def ag1(x:NI)(c:Cfg):Option Cfg:=match mK x.own c.L (kr x.bx c.H)with
 |some (L1,H1)=>match iA c.fl x.pure_ L1 H1 with
  |some (L2,H2)=>match A0 L2 x.keep with
   |some L3=>match L3.all (fun p=>p.2.refs x.hl)&&(H2.take x.hl).all (Item.refs x.hl)&&Nat.ble c.fl x.hl&&Nat.ble x.hl H2.length with
    |true=>some {c with L:=L3,H:=H2.take x.hl}
    |false=>none
   |none=>none
  |none=>none
 |none=>none
def zm(id:Nat):List KJ→Option (List KJ)
 |[]=>none
 |.blk j::K=>match Nat.beq j id with
  |true=>some K
  |false=>zm id K
 |_::K=>zm id K
def yi(ops:Array Oper)(eff:Bool)(D:List Nat):List Nat→Option Nat
 |[]=>none
 |j::r=>match ops[j]? with
  |some o=>match isQ o.op&&!(kM o.op&&(eff||!rX ops j))&&o.dst.isSome&&Region.free .any ops (mkL ops.size D) j with
   |true=>some j
   |false=>yi ops eff D r
  |none=>none
def zJ(T:TT)(H:List Item)(L:SL):List ResultVar→Option (List SV)
 |[]=>some []
 |.tmp t::r=>match aV L t,zJ T H L r with
  |some s,some l=>some (s::l)
  |_,_=>none
 |.cell ad t::r=>match aV L ad,c8 T t,zJ T H L r with
  |some (.box j off),some i,some l=>match H[j]? with
   |some (.box _ cells)=>match HP i.ty (cells.drop off)with
    |some s=>some (s::l)
    |none=>none
   |_=>none
  |_,_,_=>none
def wv(T:TT)(H:List Item)(ss:List SV)(tys:List Nat):Option (List RV):=match ss with
 |[.own j]=>match H[j]? with
  |some (.row et e xs)=>some [.new et e xs]
  |_=>none
 |[.nil]=>match tys with
  |[t]=>match c8 T t with
   |some i=>match i.ty with
    |.sl e=>match Nat.ble 1 e.n with
     |true=>some [.new i.el e []]
     |false=>none
    |_=>none
   |none=>none
  |_=>none
 |ss=>match jP T H ss tys with
  |some l=>outL l
  |none=>none
where outL:List SV→Option (List RV)
 |[]=>some []
 |.d t x::r=>match outL r with
  |some l=>some (.d t x::l)
  |none=>none
 |_=>none
def OE{α:Type}(f:α→α→Bool):List α→List α→Bool
 |[],[]=>true
 |x::l,y::m=>match f x y with
  |true=>OE f l m
  |false=>false
 |_,_=>false
theorem yp{α:Type}{f:α→α→Bool}(hf:∀x y,f x y=true→x=y):∀{l m:List α},OE f l m=true→l=m
 |[],[],_=>rfl
 |x::l,y::m,h=>by
  simp only[OE]at h
  split at h
  ·rename_i h1;rw[hf x y h1,yp hf h]
  ·cases h
 |[],_::_,h=>by cases h
 |_::_,[],h=>by cases h
def Ty.beq:(t:Ty)→t.D→t.D→Bool
 |.int _,x,y=>decide ((x:Int)=y)
 |.bool,x,y=>match x,y with
  |true,true=>true
  |false,false=>true
  |_,_=>false
 |.str,_,_=>false
 |.sl e,x,y=>OE e.beq x y
 |.pair a b,x,y=>match a.beq x.1 y.1 with
  |true=>b.beq x.2 y.2
  |false=>false
 |.st a,x,y=>a.beq x y
theorem Ty.beq_ok:∀(t:Ty) (x y:t.D),t.beq x y=true→x=y
 |.int _,x,y,h=>aqr (p:=(x:Int)=y) h
 |.bool,x,y,h=>by cases x<;>cases y<;>first|rfl|cases h
 |.str,_,_,h=>by cases h
 |.sl e,x,y,h=>yp e.beq_ok h
 |.pair a b,(x1,x2),(y1,y2),h=>by
  simp only[Ty.beq]at h
  split at h
  ·rename_i h1
   rw[a.beq_ok _ _ h1,b.beq_ok _ _ h]
  ·cases h
 |.st a,x,y,h=>a.beq_ok x y h
def RV.beq:RV→RV→Bool
 |.d t x,.d t' y=>match eG t t' x with
  |some z=>t'.beq z y
  |none=>false
 |.new n e xs,.new m e' ys=>match Nat.beq n m,eG (.sl e) (.sl e') xs with
  |true,some z=>Ty.beq (.sl e') z ys
  |_,_=>false
 |_,_=>false
theorem RV.beq_ok:∀(x y:RV),x.beq y=true→x=y
 |.d t x,.d t' y,h=>by
  simp only[RV.beq]at h
  split at h
  ·rename_i z hz
   obtain⟨rfl,rfl⟩:=dh hz
   rw[←Ty.beq_ok _ _ _ h]
  ·cases h
 |.new n e xs,.new m e' ys,h=>by
  simp only[RV.beq]at h
  split at h
  ·rename_i z h1 hz
   obtain⟨he,rfl⟩:=dh hz
   cases he
   rw[←Ty.beq_ok _ _ _ h,aqA h1]
  ·cases h
 |.d _ _,.new _ _ _,h=>by cases h
 |.new _ _ _,.d _ _,h=>by cases h
def apP:Option (List RV)→Option (List RV)→Bool
 |some x,some y=>OE RV.beq x y
 |_,_=>false
def cg(x y:Option (List RV)):Option (List RV):=match apP x y with
 |true=>x
 |false=>Kh x y
theorem ao(x:Option (List RV)):cg x x=x:=by
 unfold cg
 split
 ·rfl
 ·exact au x
theorem FG{x y:Option (List RV)}{r:List RV}(h:cg x y=some r):x=some r∧y=some r:=by
 unfold cg at h
 split at h
 ·rename_i he
  subst h
  cases y with
  |none=>cases he
  |some y=>exact⟨rfl,by rw[yp RV.beq_ok he]⟩
 ·exact wB h
inductive Sh where
 |l
 |b (x y:Sh)
def dup:Sh→Option (List RV)→Option (List RV)
 |.l,x=>x
 |.b s t,x=>cg (dup s x) (dup t x)
theorem aK:∀(s:Sh) (x:Option (List RV)),dup s x=x
 |.l,_=>rfl
 |.b s t,x=>by rw[dup,aK s,aK t,ao]
def Ju(f:Nat→Option (List RV)):List Nat→Option (List RV)
 |[]=>none
 |j::rs=>match rs with
  |[]=>f j
  |_::_=>cg (f j) (Ju f rs)
theorem wX{f:Nat→Option (List RV)}{r:List RV}:∀{rs:List Nat},Ju f rs=some r→∀j∈rs,f j=some r
 |[],h=>by simp[Ju]at h
 |[q],h=>by intro j hj;simp at hj;subst hj;exact h
 |q::q'::rs,h=>by
  have h:cg (f q) (Ju f (q'::rs))=some r:=h
  have⟨h1,h2⟩:=FG h
  intro j hj
  rcases arc.1 hj with rfl|hj
  ·exact h1
  ·exact wX h2 j hj
def agB:List SV→SV
 |[s]=>s
 |l=>.tup l
section
variable (P:Program) (F:FT) (T:TT) (E:Env) (N:NT) (Fin:Nat→Cfg→Option (List RV))
def head(i:Nat)(c:Cfg):Option (List RV):=match NF N c.f i with
 |some x=>match ag1 x c with
  |some c'=>Fin i c'
  |none=>none
 |none=>Fin i c
def ntm(f:Nat):Nat:=match fH F f with
 |some fn=>fn.ntmps
 |none=>0
def pO:Nat→List SV→SL
 |_,[]=>[]
 |k,s::r=>(k,s)::pO (k+1) r
def amO(E:Env)(g:Nat):Bool:=match kY E g with
 |some sp=>match sp.mut_ with
  |some m=>m.bx.isSome
  |none=>false
 |none=>true
def Ck(L:SL)(o:Op):Option (Nat×List SV):=match o with
 |.call ⟨.value f,args,_⟩=>match opS L f with
  |some (.clo g caps)=>match amO E g with
   |false=>none
   |true=>match fH F g,AM L args.toList with
    | some fn, some ss => match Nat.ble (ss.length + caps.length) fn.ntmps && (!(fn.name == "runtime.NumGoroutine") && fn.body.isSome) with
     |true=>some (g,ss++caps.map fun j=>.box j 0)
     |false=>none
    |_,_=>none
  |_=>none
 |_=>none
def Pv(L:SL)(ops:Array Oper)(D:List Nat):Option Nat:=match b9 E ops&&!(ops.toList.any bz),Region.ready .any ops (mkL ops.size D)with
 |true,[j]=>match ops[j]? with
  |some o=>match isQ o.op,Ck F E L o.op,Nat.ble (D.length+1) ops.size with
   |false,some _,true=>some j
   |_,_,_=>none
  |none=>none
 |_,_=>none
def go:Nat→Cfg→Pos→Option (List RV)
 |0,_,_=>none
 |m+1,c,p=>match p with
  |.nrm=>match c.K with
   |[]=>go m c .ret
   |.seq j::K=>go m {c with K:=K} (.node j)
   |.blk _::K=>go m {c with K:=K} .nrm
   |.lp i::K=>head N Fin i {c with K:=K}
  |.node i=>match nth (am F c.f) i with
   |.skip=>go m c .nrm
   |.seq a _=>go m {c with K:=.seq (i+1+Code.size a)::c.K} (.node (i+1))
   |.block id _=>go m {c with K:=.blk id::c.K} (.node (i+1))
   |.exit id=>match zm id c.K with
    |some K=>go m {c with K:=K} .nrm
    |none=>none
   |.ret=>go m c .ret
   |.cond x a _=>match opS c.L x with
    |some (.d .bool b)=>match b with
     |true=>go m c (.node (i+1))
     |false=>go m c (.node (i+1+Code.size a))
    |_=>none
   |.loop _=>head N Fin i c
   |.region _ _ false=>go m c (.ops i 0)
   |.region _ ops true=>match Region.noSelect ops with
    |true=>match abN E ops with
     |true=>match ops.toList.any (aod E)with
      |true=>go m c (.tbx i [])
      |false=>go m c (.tam i [])
     |false=>go m c (.drw i (!(ops.any fun o=>kX o.op)) false [])
    |false=>none
   |_=>none
  |.ops i k=>match(aq (nth (am F c.f) i))[k]? with
   |none=>go m c .nrm
   |some o=>ck (aq (nth (am F c.f) i)) c.L o
     (fun L=>match isQ o.op with
      |true=>match fzB (Cd c.fs) o L c.H with
       |some (L1,H1)=>qop P T true L1 H1 o fun s=>match dm (ntm F c.f) L1 o.dst s with
        |some L'=>go m {c with L:=L',H:=H1} (.ops i (k+1))
        |none=>none
       |none=>none
      |false=>match Ck F E L o.op with
       |some (g,ss)=>go m {f:=g,K:=[],L:=pO 0 ss,H:=c.H,fl:=c.H.length,fs:={f:=c.f,K:=c.K,i:=i,k:=k,L:=wh N c.f i L,fl:=c.fl}::c.fs} (.node 0)
       |none=>eop T E (Cd c.fs) L c.H o fun s H' L1=>match dm (ntm F c.f) L1 o.dst s with
        |some L'=>go m {c with L:=L',H:=H'} (.ops i (k+1))
        |none=>none)
     (fun L=>match dm (ntm F c.f) L o.dst .undef with
      |some L'=>go m {c with L:=L'} (.ops i (k+1))
      |none=>none)
  |.drw i rw eff D=>match adf E (aq (nth (am F c.f) i)) (mkL (aq (nth (am F c.f) i)).size D)with
   |true=>go m c (.tal i D)
   |false=>match Region.ready .any (aq (nth (am F c.f) i)) (mkL (aq (nth (am F c.f) i)).size D)with
   |[]=>go m c .nrm
   |rs=>match Nat.ble (D.length+1) (aq (nth (am F c.f) i)).size with
    |false=>none
    |true=>match yi (aq (nth (am F c.f) i)) eff D rs with
     |some j=>match(aq (nth (am F c.f) i))[j]? with
      |none=>none
      |some o=>ck (aq (nth (am F c.f) i)) c.L o
       (fun L=>qop P T rw L c.H o fun s=>match dm (ntm F c.f) L o.dst s with
        |some L'=>go m {c with L:=L'} (.drw i rw eff (j::D))
        |none=>none)
       (fun L=>match dm (ntm F c.f) L o.dst .undef with
        |some L'=>go m {c with L:=L'} (.drw i rw eff (j::D))
        |none=>none)
     |none=>Ju (fun j=>match(aq (nth (am F c.f) i))[j]? with
       |none=>none
       |some o=>ck (aq (nth (am F c.f) i)) c.L o
        (fun L=>match isQ o.op with
         |true=>qop P T true L c.H o fun s=>match dm (ntm F c.f) L o.dst s with
          |some L'=>go m {c with L:=L'} (.drw i rw eff (j::D))
          |none=>none
         |false=>match vn E L o.op||(kX o.op&&rw)with
          |true=>none
          |false=>eop T E (Cd c.fs) L c.H o fun s H' L1=>match dm (ntm F c.f) L1 o.dst s with
           |some L'=>go m {c with L:=L',H:=H'} (.drw i rw true (j::D))
           |none=>none)
        (fun L=>match dm (ntm F c.f) L o.dst .undef with
         |some L'=>go m {c with L:=L'} (.drw i rw (eff||db o.op) (j::D))
         |none=>none)) rs
  |.tam i D=>match ed E (aq (nth (am F c.f) i)) (mkL (aq (nth (am F c.f) i)).size D)with
   |true=>match Pv F E c.L (aq (nth (am F c.f) i)) D with
    |some j=>match(aq (nth (am F c.f) i))[j]? with
     |some o=>ck (aq (nth (am F c.f) i)) c.L o
      (fun L=>match Ck F E L o.op with
       |some (g,ss)=>go m {f:=g,K:=[],L:=pO 0 ss,H:=c.H,fl:=c.H.length,fs:={f:=c.f,K:=c.K,i:=i,k:=j,L:=wh N c.f i L,fl:=c.fl,d:=some (j::D)}::c.fs} (.node 0)
       |none=>none)
      (fun L=>match dm (ntm F c.f) L o.dst .undef with
       |some L'=>go m {c with L:=L'} (.tal i (j::D))
       |none=>none)
     |none=>none
    |none=>match r8 E (aq (nth (am F c.f) i))with
    |true=>match VD T E (ntm F c.f) (aq (nth (am F c.f) i)) (mkL (aq (nth (am F c.f) i)).size D) c.L c.H with
     |some (L',H',C)=>match Nat.ble (C++D).length (aq (nth (am F c.f) i)).size with
      |true=>go m {c with L:=L',H:=H'} (.drw i true true (C++D))
      |false=>none
     |none=>match(aq (nth (am F c.f) i)).toList.any bz||!(b9 E (aq (nth (am F c.f) i)))with
      |true=>none
      |false=>go m c (.drw i (!((aq (nth (am F c.f) i)).any fun o=>kX o.op)) false D)
    |false=>match(aq (nth (am F c.f) i)).toList.any bz||!(b9 E (aq (nth (am F c.f) i)))with
     |true=>none
     |false=>go m c (.drw i (!((aq (nth (am F c.f) i)).any fun o=>kX o.op)) false D)
   |false=>match Nat.ble (D.length+1) (aq (nth (am F c.f) i)).size,xB E (aq (nth (am F c.f) i)) D (Region.ready .any (aq (nth (am F c.f) i)) (mkL (aq (nth (am F c.f) i)).size D))with
    |true,some j=>match(aq (nth (am F c.f) i))[j]? with
     |some o=>ck (aq (nth (am F c.f) i)) c.L o
      (fun L=>tq P T E (eM L (o.looksAt (aq (nth (am F c.f) i)))) c.H o fun s=>match dm (ntm F c.f) L o.dst s,s.refsT c.H.length with
       |some L',true=>go m {c with L:=L'} (.tam i (j::D))
       |_,_=>none)
      (fun L=>match dm (ntm F c.f) L o.dst .undef with
       |some L'=>go m {c with L:=L'} (.tam i (j::D))
       |none=>none)
     |none=>none
    |_,_=>none
  |.tbx i D=>match ed E (aq (nth (am F c.f) i)) (mkL (aq (nth (am F c.f) i)).size D)with
   |true=>match b9 E (aq (nth (am F c.f) i))with
    |true=>go m c (.tam i D)
    |false=>none
   |false=>match Nat.ble (D.length+1) (aq (nth (am F c.f) i)).size,xq E (aq (nth (am F c.f) i)) D (Region.ready .any (aq (nth (am F c.f) i)) (mkL (aq (nth (am F c.f) i)).size D))with
    |true,some j=>match(aq (nth (am F c.f) i))[j]? with
     |some o=>ck (aq (nth (am F c.f) i)) c.L o
      (fun L=>match bxC E (eM L (o.looksAt (aq (nth (am F c.f) i)))) c.H o with
       |some (q,s,b)=>match dm (ntm F c.f) L o.dst s,s.refsT c.H.length with
        |some L',true=>go m {c with L:=L',H:=iT q b c.H} (.tbx i (j::D))
        |_,_=>none
       |none=>tq P T E (eM L (o.looksAt (aq (nth (am F c.f) i)))) (c.H.map ddI) o fun s=>match dm (ntm F c.f) L o.dst s,s.refsT c.H.length with
        |some L',true=>go m {c with L:=L'} (.tbx i (j::D))
        |_,_=>none)
      (fun L=>match dm (ntm F c.f) L o.dst .undef with
       |some L'=>go m {c with L:=L'} (.tbx i (j::D))
       |none=>none)
     |none=>none
    |_,_=>none
  |.tal i D=>match Region.ready .any (aq (nth (am F c.f) i)) (mkL (aq (nth (am F c.f) i)).size D)with
   |[]=>go m c .nrm
   |rs=>match Nat.ble (D.length+1) (aq (nth (am F c.f) i)).size,wG E (aq (nth (am F c.f) i)) D rs with
    |true,some j=>match(aq (nth (am F c.f) i))[j]? with
     |some o=>ck (aq (nth (am F c.f) i)) c.L o
      (fun L=>tq P T E (eM L (o.looksAt (aq (nth (am F c.f) i)))) c.H o fun s=>match dm (ntm F c.f) L o.dst s,s.refsT c.H.length with
       |some L',true=>go m {c with L:=L'} (.tal i (j::D))
       |_,_=>none)
      (fun L=>match dm (ntm F c.f) L o.dst .undef with
       |some L'=>go m {c with L:=L'} (.tal i (j::D))
       |none=>none)
     |none=>none
    |_,_=>none
  |.ret=>match fH F c.f with
   |some fn=>match zJ T c.H c.L fn.results.toList with
    |some ss=>match c.fs with
     |[]=>wv T c.H ss fn.resultTypes.toList
     |fm::fs=>match(aq (nth (am F fm.f) fm.i))[fm.k]? with
      |some o=>match dm (ntm F fm.f) fm.L o.dst (agB ss),ss.all SV.good with
       |some L',true=>match fm.d with
        |none=>go m {f:=fm.f,K:=fm.K,L:=L',H:=c.H,fl:=fm.fl,fs:=fs} (.ops fm.i (fm.k+1))
        |some D=>go m {f:=fm.f,K:=fm.K,L:=L',H:=c.H,fl:=fm.fl,fs:=fs} (.tal fm.i D)
       |_,_=>none
      |none=>none
    |none=>none
   |none=>none
end
def frc{R:Type}(n:Nat)(k:Nat→R):R:=match n with
 |0=>k 0
 |n+1=>k (n+1)
theorem nJ{R:Type}(n:Nat)(k:Nat→R):frc n k=k n:=by cases n<;>rfl
def akn(_P:Program)(_F:FT)(_T:TT)(_E:Env)(N:NT)(Fin:Nat→Cfg→Option (List RV))(rec:Cfg→Pos→Option (List RV))(f:Nat)(K:List KJ)(L:SL)(H:List Item)(fl:Nat)(fs:List Fm):Option (List RV):=match K with
 |[]=>rec ⟨f,[],L,H,fl,fs⟩ .ret
 |.seq j::K=>rec ⟨f,K,L,H,fl,fs⟩ (.node j)
 |.blk _::K=>rec ⟨f,K,L,H,fl,fs⟩ .nrm
 |.lp i::K=>head N Fin i ⟨f,K,L,H,fl,fs⟩
def U9(_P:Program)(F:FT)(_T:TT)(E:Env)(N:NT)(Fin:Nat→Cfg→Option (List RV))(rec:Cfg→Pos→Option (List RV))(f:Nat)(K:List KJ)(L:SL)(H:List Item)(fl:Nat)(fs:List Fm)(i:Nat):Option (List RV):=match nth (am F f) i with
 |.skip=>rec ⟨f,K,L,H,fl,fs⟩ .nrm
 |.seq a _=>frc (i+1+Code.size a) fun j=>frc (i+1) fun i'=>rec ⟨f,.seq j::K,L,H,fl,fs⟩ (.node i')
 |.block id _=>frc (i+1) fun i'=>rec ⟨f,.blk id::K,L,H,fl,fs⟩ (.node i')
 |.exit id=>match zm id K with
  |some K=>rec ⟨f,K,L,H,fl,fs⟩ .nrm
  |none=>none
 |.ret=>rec ⟨f,K,L,H,fl,fs⟩ .ret
 |.cond x a _=>match opS L x with
  |some (.d .bool b)=>match b with
   |true=>frc (i+1) fun i'=>rec ⟨f,K,L,H,fl,fs⟩ (.node i')
   |false=>frc (i+1+Code.size a) fun j=>rec ⟨f,K,L,H,fl,fs⟩ (.node j)
  |_=>none
 |.loop _=>head N Fin i ⟨f,K,L,H,fl,fs⟩
 |.region _ _ false=>rec ⟨f,K,L,H,fl,fs⟩ (.ops i 0)
 |.region _ ops true=>match Region.noSelect ops with
  |true=>match abN E ops with
   |true=>match ops.toList.any (aod E)with
    |true=>rec ⟨f,K,L,H,fl,fs⟩ (.tbx i [])
    |false=>rec ⟨f,K,L,H,fl,fs⟩ (.tam i [])
   |false=>rec ⟨f,K,L,H,fl,fs⟩ (.drw i (!(ops.any fun o=>kX o.op)) false [])
  |false=>none
 |_=>none
def ac0(P:Program)(F:FT)(T:TT)(E:Env)(N:NT)(_Fin:Nat→Cfg→Option (List RV))(rec:Cfg→Pos→Option (List RV))(f:Nat)(K:List KJ)(L:SL)(H:List Item)(fl:Nat)(fs:List Fm)(i k:Nat):Option (List RV):=match(aq (nth (am F f) i))[k]? with
   |none=>rec ⟨f,K,L,H,fl,fs⟩ .nrm
   |some o=>ck (aq (nth (am F f) i)) L o
     (fun L=>match isQ o.op with
      |true=>match fzB (Cd fs) o L H with
       |some (L1,H1)=>qop P T true L1 H1 o fun s=>match dm (ntm F f) L1 o.dst s with
        |some L'=>frc (k+1) fun k'=>rec ⟨f,K,L',H1,fl,fs⟩ (.ops i k')
        |none=>none
       |none=>none
      |false=>match Ck F E L o.op with
       |some (g,ss)=>rec ⟨g,[],pO 0 ss,H,H.length,⟨f,K,i,k,wh N f i L,fl,none⟩::fs⟩ (.node 0)
       |none=>eop T E (Cd fs) L H o fun s H' L1=>match dm (ntm F f) L1 o.dst s with
        |some L'=>frc (k+1) fun k'=>rec ⟨f,K,L',H',fl,fs⟩ (.ops i k')
        |none=>none)
     (fun L=>match dm (ntm F f) L o.dst .undef with
      |some L'=>frc (k+1) fun k'=>rec ⟨f,K,L',H,fl,fs⟩ (.ops i k')
      |none=>none)
def abc(P:Program)(F:FT)(T:TT)(E:Env)(_N:NT)(_Fin:Nat→Cfg→Option (List RV))(rec:Cfg→Pos→Option (List RV))(f:Nat)(K:List KJ)(L:SL)(H:List Item)(fl:Nat)(fs:List Fm)(i:Nat)(rw eff:Bool)(D:List Nat):Option (List RV):=match adf E (aq (nth (am F f) i)) (mkL (aq (nth (am F f) i)).size D)with
   |true=>rec ⟨f,K,L,H,fl,fs⟩ (.tal i D)
   |false=>match Region.ready .any (aq (nth (am F f) i)) (mkL (aq (nth (am F f) i)).size D)with
   |[]=>rec ⟨f,K,L,H,fl,fs⟩ .nrm
   |rs=>match Nat.ble (D.length+1) (aq (nth (am F f) i)).size with
    |false=>none
    |true=>match yi (aq (nth (am F f) i)) eff D rs with
     |some j=>match(aq (nth (am F f) i))[j]? with
      |none=>none
      |some o=>ck (aq (nth (am F f) i)) L o
       (fun L=>qop P T rw L H o fun s=>match dm (ntm F f) L o.dst s with
        |some L'=>frc j fun j'=>rec ⟨f,K,L',H,fl,fs⟩ (.drw i rw eff (j'::D))
        |none=>none)
       (fun L=>match dm (ntm F f) L o.dst .undef with
        |some L'=>frc j fun j'=>rec ⟨f,K,L',H,fl,fs⟩ (.drw i rw eff (j'::D))
        |none=>none)
     |none=>Ju (fun j=>match(aq (nth (am F f) i))[j]? with
       |none=>none
       |some o=>ck (aq (nth (am F f) i)) L o
        (fun L=>match isQ o.op with
         |true=>qop P T true L H o fun s=>match dm (ntm F f) L o.dst s with
          |some L'=>frc j fun j'=>rec ⟨f,K,L',H,fl,fs⟩ (.drw i rw eff (j'::D))
          |none=>none
         |false=>match vn E L o.op||(kX o.op&&rw)with
          |true=>none
          |false=>eop T E (Cd fs) L H o fun s H' L1=>match dm (ntm F f) L1 o.dst s with
           |some L'=>frc j fun j'=>rec ⟨f,K,L',H',fl,fs⟩ (.drw i rw true (j'::D))
           |none=>none)
        (fun L=>match dm (ntm F f) L o.dst .undef with
         |some L'=>frc j fun j'=>rec ⟨f,K,L',H,fl,fs⟩ (.drw i rw (eff||db o.op) (j'::D))
         |none=>none)) rs
def acx(P:Program)(F:FT)(T:TT)(E:Env)(N:NT)(_Fin:Nat→Cfg→Option (List RV))(rec:Cfg→Pos→Option (List RV))(f:Nat)(K:List KJ)(L:SL)(H:List Item)(fl:Nat)(fs:List Fm)(i:Nat)(D:List Nat):Option (List RV):=match ed E (aq (nth (am F f) i)) (mkL (aq (nth (am F f) i)).size D)with
   |true=>match Pv F E L (aq (nth (am F f) i)) D with
    |some j=>match(aq (nth (am F f) i))[j]? with
     |some o=>ck (aq (nth (am F f) i)) L o
      (fun L=>match Ck F E L o.op with
       |some (g,ss)=>frc j fun j'=>rec ⟨g,[],pO 0 ss,H,H.length,⟨f,K,i,j',wh N f i L,fl,some (j'::D)⟩::fs⟩ (.node 0)
       |none=>none)
      (fun L=>match dm (ntm F f) L o.dst .undef with
       |some L'=>frc j fun j'=>rec ⟨f,K,L',H,fl,fs⟩ (.tal i (j'::D))
       |none=>none)
     |none=>none
    |none=>match r8 E (aq (nth (am F f) i))with
    |true=>match VD T E (ntm F f) (aq (nth (am F f) i)) (mkL (aq (nth (am F f) i)).size D) L H with
     |some (L',H',C)=>match Nat.ble (C++D).length (aq (nth (am F f) i)).size with
      |true=>rec ⟨f,K,L',H',fl,fs⟩ (.drw i true true (C++D))
      |false=>none
     |none=>match(aq (nth (am F f) i)).toList.any bz||!(b9 E (aq (nth (am F f) i)))with
      |true=>none
      |false=>rec ⟨f,K,L,H,fl,fs⟩ (.drw i (!((aq (nth (am F f) i)).any fun o=>kX o.op)) false D)
    |false=>match(aq (nth (am F f) i)).toList.any bz||!(b9 E (aq (nth (am F f) i)))with
     |true=>none
     |false=>rec ⟨f,K,L,H,fl,fs⟩ (.drw i (!((aq (nth (am F f) i)).any fun o=>kX o.op)) false D)
   |false=>match Nat.ble (D.length+1) (aq (nth (am F f) i)).size,xB E (aq (nth (am F f) i)) D (Region.ready .any (aq (nth (am F f) i)) (mkL (aq (nth (am F f) i)).size D))with
    |true,some j=>match(aq (nth (am F f) i))[j]? with
     |some o=>ck (aq (nth (am F f) i)) L o
      (fun L=>tq P T E (eM L (o.looksAt (aq (nth (am F f) i)))) H o fun s=>match dm (ntm F f) L o.dst s,s.refsT H.length with
       |some L',true=>frc j fun j'=>rec ⟨f,K,L',H,fl,fs⟩ (.tam i (j'::D))
       |_,_=>none)
      (fun L=>match dm (ntm F f) L o.dst .undef with
       |some L'=>frc j fun j'=>rec ⟨f,K,L',H,fl,fs⟩ (.tam i (j'::D))
       |none=>none)
     |none=>none
    |_,_=>none
def aaG(P:Program)(F:FT)(T:TT)(E:Env)(_N:NT)(_Fin:Nat→Cfg→Option (List RV))(rec:Cfg→Pos→Option (List RV))(f:Nat)(K:List KJ)(L:SL)(H:List Item)(fl:Nat)(fs:List Fm)(i:Nat)(D:List Nat):Option (List RV):=match Region.ready .any (aq (nth (am F f) i)) (mkL (aq (nth (am F f) i)).size D)with
   |[]=>rec ⟨f,K,L,H,fl,fs⟩ .nrm
   |rs=>match Nat.ble (D.length+1) (aq (nth (am F f) i)).size,wG E (aq (nth (am F f) i)) D rs with
    |true,some j=>match(aq (nth (am F f) i))[j]? with
     |some o=>ck (aq (nth (am F f) i)) L o
      (fun L=>tq P T E (eM L (o.looksAt (aq (nth (am F f) i)))) H o fun s=>match dm (ntm F f) L o.dst s,s.refsT H.length with
       |some L',true=>frc j fun j'=>rec ⟨f,K,L',H,fl,fs⟩ (.tal i (j'::D))
       |_,_=>none)
      (fun L=>match dm (ntm F f) L o.dst .undef with
       |some L'=>frc j fun j'=>rec ⟨f,K,L',H,fl,fs⟩ (.tal i (j'::D))
       |none=>none)
     |none=>none
    |_,_=>none
def aaT(P:Program)(F:FT)(T:TT)(E:Env)(_N:NT)(_Fin:Nat→Cfg→Option (List RV))(rec:Cfg→Pos→Option (List RV))(f:Nat)(K:List KJ)(L:SL)(H:List Item)(fl:Nat)(fs:List Fm)(i:Nat)(D:List Nat):Option (List RV):=match ed E (aq (nth (am F f) i)) (mkL (aq (nth (am F f) i)).size D)with
   |true=>match b9 E (aq (nth (am F f) i))with
    |true=>rec ⟨f,K,L,H,fl,fs⟩ (.tam i D)
    |false=>none
   |false=>match Nat.ble (D.length+1) (aq (nth (am F f) i)).size,xq E (aq (nth (am F f) i)) D (Region.ready .any (aq (nth (am F f) i)) (mkL (aq (nth (am F f) i)).size D))with
    |true,some j=>match(aq (nth (am F f) i))[j]? with
     |some o=>ck (aq (nth (am F f) i)) L o
      (fun L=>match bxC E (eM L (o.looksAt (aq (nth (am F f) i)))) H o with
       |some (q,s,b)=>match dm (ntm F f) L o.dst s,s.refsT H.length with
        |some L',true=>frc j fun j'=>rec ⟨f,K,L',iT q b H,fl,fs⟩ (.tbx i (j'::D))
        |_,_=>none
       |none=>tq P T E (eM L (o.looksAt (aq (nth (am F f) i)))) (H.map ddI) o fun s=>match dm (ntm F f) L o.dst s,s.refsT H.length with
        |some L',true=>frc j fun j'=>rec ⟨f,K,L',H,fl,fs⟩ (.tbx i (j'::D))
        |_,_=>none)
      (fun L=>match dm (ntm F f) L o.dst .undef with
       |some L'=>frc j fun j'=>rec ⟨f,K,L',H,fl,fs⟩ (.tbx i (j'::D))
       |none=>none)
     |none=>none
    |_,_=>none
def acs(_P:Program)(F:FT)(T:TT)(_E:Env)(_N:NT)(_Fin:Nat→Cfg→Option (List RV))(rec:Cfg→Pos→Option (List RV))(f:Nat)(_K:List KJ)(L:SL)(H:List Item)(_fl:Nat)(fs:List Fm):Option (List RV):=match fH F f with
   |some fn=>match zJ T H L fn.results.toList with
    |some ss=>match fs with
     |[]=>wv T H ss fn.resultTypes.toList
     |⟨g,K2,i,k,L2,fl2,d⟩::fs=>match(aq (nth (am F g) i))[k]? with
      |some o=>match dm (ntm F g) L2 o.dst (agB ss),ss.all SV.good with
       |some L',true=>match d with
        |none=>frc (k+1) fun k'=>rec ⟨g,K2,L',H,fl2,fs⟩ (.ops i k')
        |some D=>rec ⟨g,K2,L',H,fl2,fs⟩ (.tal i D)
       |_,_=>none
      |none=>none
    |none=>none
   |none=>none
def stC(P:Program)(F:FT)(T:TT)(E:Env)(N:NT)(Fin:Nat→Cfg→Option (List RV))(rec:Cfg→Pos→Option (List RV))(f:Nat)(K:List KJ)(L:SL)(H:List Item)(fl:Nat)(fs:List Fm)(p:Pos):Option (List RV):=match p with
 |.nrm=>akn P F T E N Fin rec f K L H fl fs
 |.node i=>U9 P F T E N Fin rec f K L H fl fs i
 |.ops i k=>ac0 P F T E N Fin rec f K L H fl fs i k
 |.drw i rw eff D=>abc P F T E N Fin rec f K L H fl fs i rw eff D
 |.tam i D=>acx P F T E N Fin rec f K L H fl fs i D
 |.tal i D=>aaG P F T E N Fin rec f K L H fl fs i D
 |.tbx i D=>aaT P F T E N Fin rec f K L H fl fs i D
 |.ret=>acs P F T E N Fin rec f K L H fl fs
theorem aht(P:Program)(F:FT)(T:TT)(E:Env)(N:NT)(Fin:Nat→Cfg→Option (List RV))(m f:Nat)(K:List KJ)(L:SL)(H:List Item)(fl:Nat)(fs:List Fm)(p:Pos):go P F T E N Fin (m+1) ⟨f,K,L,H,fl,fs⟩ p=stC P F T E N Fin (go P F T E N Fin m) f K L H fl fs p:=by
 cases p with
 |nrm=>cases K with
  |nil=>rfl
  |cons x K=>cases x<;>rfl
 |node i=>rw[go,stC,U9];simp only[nJ]
 |ops i k=>rw[go,stC,ac0];simp only[nJ]
 |drw i rw' eff D=>rw[go,stC,abc];simp only[nJ]
 |tam i D=>rw[go,stC,acx];simp only[nJ]
 |tal i D=>rw[go,stC,aaG];simp only[nJ]
 |tbx i D=>rw[go,stC,aaT];simp only[nJ]
 |ret=>rw[go,stC,acs];simp only[nJ];cases fs<;>rfl
def go2(P:Program)(F:FT)(T:TT)(E:Env)(N:NT)(Fin:Nat→Cfg→Option (List RV)):Nat→Cfg→Pos→Option (List RV)
 |0,_,_=>none
 |m+1,⟨f,K,L,H,fl,fs⟩,p=>stC P F T E N Fin (go2 P F T E N Fin m) f K L H fl fs p
theorem zy(P:Program)(F:FT)(T:TT)(E:Env)(N:NT)(Fin:Nat→Cfg→Option (List RV)):∀(m:Nat) (c:Cfg) (p:Pos),go2 P F T E N Fin m c p=go P F T E N Fin m c p
 |0,_,_=>rfl
 |m+1,⟨f,K,L,H,fl,fs⟩,p=>by
  have h:go2 P F T E N Fin m=go P F T E N Fin m:=funext fun c=>funext fun p=>zy P F T E N Fin m c p
  rw[go2,aht,h]
def run(P:Program)(F:FT)(T:TT)(E:Env)(N:NT):Nat→Nat→Cfg→Option (List RV)
 |0,_,_=>none
 |n+1,i,c=>go P F T E N (run P F T E N n) 4000 {c with K:=.lp i::c.K} (.node (i+1))
def BY(f:Nat)(args:List SV):Cfg:={f:=f,K:=[],L:=pO 0 args,H:=[],fl:=0,fs:=[]}
def Runs(P:Program)(F:FT)(T:TT)(E:Env)(N:NT)(i:Nat)(c:Cfg)(r:List RV):Prop:=∃n,run P F T E N n i c=some r
end
section
def InLoop(P:Program)(c:Code)(Q:Exit→Act→World→Prop)(a:Act)(w:World):Prop:=
 ∀(b:Frame) (k:List Go.Item) (cs:List Frame),∃e a' w',Q e a' w'∧Arrives P (lone (b.at a (.code c:: .inLoop c::k)) cs w) b k cs e a' w'
section
variable {P:Program} {c:Code} {Q:Exit→Act→World→Prop} {a:Act} {w:World}
theorem InLoop.wp(h:InLoop P c Q a w):(Code.loop c).wp P Q a w:=by
 intro b k cs
 obtain⟨e,a',w',hq,harr⟩:=h b k cs
 exact⟨e,a',w',hq,.of_steps (.one step_loop) harr⟩
theorem InLoop.step(h:c.wp P (Exit.then (InLoop P c Q) Q) a w):InLoop P c Q a w:=by
 intro b k cs
 obtain⟨e,a₁,w₁,hq,harr⟩:=h b (.inLoop c::k) cs
 cases e with
 |normal=>
  obtain⟨e₂,a₂,w₂,hq₂,harr₂⟩:=hq b k cs
  exact⟨e₂,a₂,w₂,hq₂,.of_steps (Steps.trans harr (.one step_inLoop)) harr₂⟩
 |exit id=>exact⟨_,a₁,w₁,hq,.pass (x:=.inLoop c) rfl (fun _ _=>.inl (by simp)) harr⟩
 |goto l=>exact⟨_,a₁,w₁,hq,.pass (x:=.inLoop c) rfl (fun _ _=>.inl (by simp)) harr⟩
 |ret=>exact⟨_,a₁,w₁,hq,.pass (x:=.inLoop c) rfl (fun _ _=>.inl (by simp)) harr⟩
 |panic ch=>exact⟨_,a₁,w₁,hq,.pass (x:=.inLoop c) rfl (fun _ _=>.inl (by simp)) harr⟩
 |outgrown=>exact⟨_,a₁,w₁,hq,.pass (x:=.inLoop c) rfl (fun _ _=>.inl (by simp)) harr⟩
end
theorem ka:∀c:Code,0<Code.size c:=by intro c;cases c<;>simp[Code.size]
theorem Ph:∀(B:Code) (i:Nat),Code.size B≤i→nth B i=.skip:=by
 intro B
 induction B with
 |seq a b iha ihb=>
  intro i h
  simp only[Code.size]at h
  cases i with
  |zero=>omega
  |succ i=>
   simp only[nth]
   split
   ·rename_i hb;have:=aqD hb;omega
   ·exact ihb _ (by omega)
 |cond x a b iha ihb=>
  intro i h
  simp only[Code.size]at h
  cases i with
  |zero=>omega
  |succ i=>
   simp only[nth]
   split
   ·rename_i hb;have:=aqD hb;omega
   ·exact ihb _ (by omega)
 |block id c ih=>intro i h;simp only[Code.size]at h;cases i with|zero=>omega|succ i=>exact ih _ (by omega)
 |loop c ih=>intro i h;simp only[Code.size]at h;cases i with|zero=>omega|succ i=>exact ih _ (by omega)
 |scope c ih=>intro i h;simp only[Code.size]at h;cases i with|zero=>omega|succ i=>exact ih _ (by omega)
 |_=>intro i h;simp only[Code.size]at h;cases i with|zero=>omega|succ i=>rfl
theorem Ii(a b:Code)(i:Nat):(match Nat.ble (i+1) (Code.size a)with|true=>nth a i|false=>nth b (i-Code.size a))=if i<Code.size a then nth a i else nth b (i-Code.size a):=by
 by_cases h:i<Code.size a
 ·rw[aqW h,aqU h]
 ·rw[aqQ h]
  cases hb:Nat.ble (i+1) (Code.size a)with
  |true=>exact absurd (aqD hb) (by omega)
  |false=>rfl
theorem cT(c:Code):nth c 0=c:=by cases c<;>rfl
theorem oO(a b:Code)(i:Nat):nth (.seq a b) (i+1)=if i<Code.size a then nth a i else nth b (i-Code.size a):=Ii a b i
theorem lQ(x:Operand)(a b:Code)(i:Nat):nth (.cond x a b) (i+1)=if i<Code.size a then nth a i else nth b (i-Code.size a):=Ii a b i
theorem xF:∀(B:Code) (i:Nat),i<Code.size B→i+Code.size (nth B i)≤Code.size B:=by
 intro B
 induction B with
 |seq a b iha ihb=>
  intro i h
  cases i with
  |zero=>rw[cT];omega
  |succ i=>
   rw[oO]
   simp only[Code.size]at h ⊢
   split
   ·rename_i hi;have:=iha i hi;omega
   ·have:=ihb (i-Code.size a) (by omega);omega
 |cond x a b iha ihb=>
  intro i h
  cases i with
  |zero=>rw[cT];omega
  |succ i=>
   rw[lQ]
   simp only[Code.size]at h ⊢
   split
   ·rename_i hi;have:=iha i hi;omega
   ·have:=ihb (i-Code.size a) (by omega);omega
 |block id c ih=>intro i h;cases i with|zero=>rw[cT];omega|succ i=>simp only[Code.size]at h ⊢;have:=ih i (by omega);simp only[nth];omega
 |loop c ih=>intro i h;cases i with|zero=>rw[cT];omega|succ i=>simp only[Code.size]at h ⊢;have:=ih i (by omega);simp only[nth];omega
 |scope c ih=>intro i h;cases i with|zero=>rw[cT];omega|succ i=>simp only[Code.size]at h ⊢;have:=ih i (by omega);simp only[nth];omega
 |_=>intro i h;cases i with|zero=>rw[cT];omega|succ i=>simp only[Code.size]at h;omega
theorem rC:∀(B:Code) (i:Nat),i<Code.size B→∀j,j<Code.size (nth B i)→nth B (i+j)=nth (nth B i) j:=by
 intro B
 induction B with
 |seq a b iha ihb=>
  intro i h j hj
  cases i with
  |zero=>rw[cT,aq9]
  |succ i=>
   rw[oO]at hj ⊢
   rw[show i+1+j=(i+j)+1 by omega,oO]
   simp only[Code.size]at h
   split at hj
   ·rename_i hi
    have:=xF a i hi
    rw[aqW hi,aqW (by omega)]
    exact iha i hi j hj
   ·rename_i hi
    rw[aqQ hi,aqQ (by omega),show i+j-Code.size a=(i-Code.size a)+j by omega]
    exact ihb (i-Code.size a) (by omega) j hj
 |cond x a b iha ihb=>
  intro i h j hj
  cases i with
  |zero=>rw[cT,aq9]
  |succ i=>
   rw[lQ]at hj ⊢
   rw[show i+1+j=(i+j)+1 by omega,lQ]
   simp only[Code.size]at h
   split at hj
   ·rename_i hi
    have:=xF a i hi
    rw[aqW hi,aqW (by omega)]
    exact iha i hi j hj
   ·rename_i hi
    rw[aqQ hi,aqQ (by omega),show i+j-Code.size a=(i-Code.size a)+j by omega]
    exact ihb (i-Code.size a) (by omega) j hj
 |block id c ih=>intro i h j hj;cases i with|zero=>rw[cT,aq9]|succ i=>simp only[Code.size]at h;rw[show i+1+j=(i+j)+1 by omega];exact ih i (by omega) j hj
 |loop c ih=>intro i h j hj;cases i with|zero=>rw[cT,aq9]|succ i=>simp only[Code.size]at h;rw[show i+1+j=(i+j)+1 by omega];exact ih i (by omega) j hj
 |scope c ih=>intro i h j hj;cases i with|zero=>rw[cT,aq9]|succ i=>simp only[Code.size]at h;rw[show i+1+j=(i+j)+1 by omega];exact ih i (by omega) j hj
 |_=>intro i h j hj;cases i with|zero=>rw[cT,aq9]|succ i=>simp only[Code.size]at h;omega
theorem zr{B:Code}{i:Nat}(h:nth B i≠.skip):i<Code.size B:=by
 rcases aqT i (Code.size B)with hlt|hge
 ·exact hlt
 ·exact absurd (Ph B i hge) h
theorem YJ{B:Code}{i:Nat}{a b:Code}(h:nth B i=.seq a b):nth B i=.seq (nth B (i+1)) (nth B (i+1+Code.size a)):=by
 have hlt:=zr (B:=B) (i:=i) (by rw[h];simp)
 have ha:=ka a
 have hb:=ka b
 have h1:=rC B i hlt 1 (by rw[h];simp only[Code.size];omega)
 have h2:=rC B i hlt (1+Code.size a) (by rw[h];simp only[Code.size];omega)
 rw[h,show(1:Nat)=0+1 from rfl,oO,aqW ha,cT]at h1
 rw[h,show 1+Code.size a=Code.size a+1 by omega,oO,aqQ (by omega),arY,cT]at h2
 rw[h,h1,show i+1+Code.size a=i+(Code.size a+1) by omega,h2]
theorem LI{B:Code}{i:Nat}{x:Operand}{a b:Code}(h:nth B i=.cond x a b):nth B i=.cond x (nth B (i+1)) (nth B (i+1+Code.size a)):=by
 have hlt:=zr (B:=B) (i:=i) (by rw[h];simp)
 have ha:=ka a
 have hb:=ka b
 have h1:=rC B i hlt 1 (by rw[h];simp only[Code.size];omega)
 have h2:=rC B i hlt (1+Code.size a) (by rw[h];simp only[Code.size];omega)
 rw[h,show(1:Nat)=0+1 from rfl,lQ,aqW ha,cT]at h1
 rw[h,show 1+Code.size a=Code.size a+1 by omega,lQ,aqQ (by omega),arY,cT]at h2
 rw[h,h1,show i+1+Code.size a=i+(Code.size a+1) by omega,h2]
theorem JJ{B:Code}{i id:Nat}{c:Code}(h:nth B i=.block id c):nth B i=.block id (nth B (i+1)):=by
 have hlt:=zr (B:=B) (i:=i) (by rw[h];simp)
 have hc:=ka c
 have h1:=rC B i hlt 1 (by rw[h];simp only[Code.size];omega)
 rw[h]at h1
 rw[h,h1]
 show _=Code.block id (nth c 0)
 rw[cT]
theorem LD{B:Code}{i:Nat}{c:Code}(h:nth B i=.loop c):nth B i=.loop (nth B (i+1)):=by
 have hlt:=zr (B:=B) (i:=i) (by rw[h];simp)
 have hc:=ka c
 have h1:=rC B i hlt 1 (by rw[h];simp only[Code.size];omega)
 rw[h]at h1
 rw[h,h1]
 show _=Code.loop (nth c 0)
 rw[cT]
end
section
theorem yc{d:Nat}{L:SL}{t:Nat}{s:SV}(h:aV (kN L d) t=some s):aV L t=some s:=h
theorem fx{d:Nat}{x:SV}{L:SL}{t:Nat}{s:SV}(h:aV ((d,x)::L) t=some s):(t=d∧s=x)∨(t≠d∧aV L t=some s):=by
 simp only[aV]at h
 split at h
 ·rename_i hb
  injection h with h
  exact .inl ⟨(aqA hb).symm,h.symm⟩
 ·rename_i hb
  refine .inr ⟨fun e=>?_,h⟩
  subst e
  simp at hb
theorem fD{L:SL}:∀{ts:List Nat} {t:Nat} {s:SV},aV (eM L ts) t=some s→aV L t=some s
 |[],_,_,h=>by simp[eM,aV]at h
 |u::ts,t,s,h=>by
  simp only[eM]at h
  split at h
  ·rename_i x hx
   rcases fx h with⟨rfl,rfl⟩|⟨_,h1⟩
   ·exact hx
   ·exact fD h1
  ·exact fD h
theorem il{N:NT}{f i:Nat}{L:SL}{t:Nat}{s:SV}(h:aV (wh N f i L) t=some s):aV L t=some s:=by
 unfold wh at h
 split at h
 ·exact fD h
 ·exact h
theorem tH{L:SL}:∀{ts:List Nat} {L':SL},A0 L ts=some L'→∀t s,aV L' t=some s→aV L t=some s
 |[],L',h,t,s,hs=>by simp only[A0,aqF]at h;subst h;simp[aV]at hs
 |u::ts,L',h,t,s,hs=>by
  simp only[A0]at h
  split at h<;>try (cases h;done)
  rename_i x r h1 h2
  injection h with h
  subst h
  rcases fx hs with⟨rfl,rfl⟩|⟨_,h3⟩
  ·exact h1
  ·exact tH h2 t s h3
theorem w8:∀{L:SL} {t:Nat} {s:SV},aV L t=some s→(t,s)∈L
 |[],_,_,h=>by simp[aV]at h
 |(k,x)::r,t,s,h=>by
  rcases fx h with⟨rfl,rfl⟩|⟨_,h3⟩
  ·simp
  ·simp[w8 h3]
theorem oh{k:Nat}{s:SV}(h:∀l,s≠.tup l):s.refsT k=s.refs k:=by cases s<;>first|rfl|exact(h _ rfl).elim
theorem vG{fl j:Nat}{s:SV}(h:s.refs fl=true)(ho:s.of1 j=true):j<fl:=by
 cases s<;>simp only[SV.of1,asK]at ho
 ·have:=aqA ho;subst this;exact aqD h
 ·have:=aqA ho;subst this;exact aqD h
 ·have:=aqA ho;subst this;exact aqD h
section
variable {Z:Nat→Prop} {w0:World} {n:Nat} {L L':SL} {H H':List Item} {G G':List Value} {w w':World} {a:Act} {F:FT}
theorem FR.put{d:Option Nat}{s:SV}{v:Value}(h:FR Z n L H G w a)(hp:dm n L d s=some L')(hv:Rel G (Av Z H G) w s v):FR Z n L' H G w (a.put d v):=by
 cases d with
 |none=>simp only[dm,aqF]at hp;subst hp;exact h
 |some d=>
  simp only[dm]at hp
  split at hp<;>try (cases hp;done)
  rename_i hd
  have hd:=aqD hd
  injection hp with hp
  subst hp
  refine⟨h.defers,by simp[Act.put,h.size],fun t s' hs=>?_⟩
  simp only[Act.put,Array.getElem?_setIfInBounds,h.size]
  rcases fx hs with⟨rfl,rfl⟩|⟨hne,h3⟩
  ·exact⟨v,by simp;omega,hv⟩
  ·have h4:=yc h3
   obtain⟨u,h5,h6⟩:=h.slot t s' h4
   exact⟨u,by rw[aqQ (arU hne)];exact h5,h6⟩
theorem FR.say{d:Nat}{s:SV}{v:Value}(h:FR Z n L H G w a)(hd:a.tmps[d]?=some v)(hv:Rel G (Av Z H G) w s v):FR Z n ((d,s)::kN L d) H G w a:=
 ⟨h.defers,h.size,fun t s' hs=>by
  rcases fx hs with⟨rfl,rfl⟩|⟨hne,h3⟩
  ·exact⟨v,hd,hv⟩
  ·exact h.slot t s' (yc h3)⟩
theorem pH(hr:SR Z w0 H G w){s:SV}{v:Value}(h:Rel1 G (Av Z H G) w s v):s.refs H.length=true:=by
 have lt:∀(j:Nat) g,G[j]?=some g→Nat.ble (j+1) H.length=true:=fun j g hg=>aqU (by rw[←hr.len];exact(aqG.1 hg).1)
 cases s with
 |box j off=>obtain⟨b,h1,_⟩:=h;exact lt j _ h1
 |own j=>exact lt j _ h
 |oelt j sz i off=>obtain⟨b,m,c,h1,_⟩:=h;exact lt j _ h1
 |osl j sz lo n=>obtain⟨g,q,c,h1,_⟩:=h;exact lt j _ h1
 |clo f caps=>
  obtain⟨bs,h1,_⟩:=h
  refine aqO.2 fun j hj=>?_
  obtain⟨k,hk,rfl⟩:=asB hj
  obtain⟨b,_,hb⟩:=fX h1 k _ (aqt hk)
  exact lt _ _ hb
 |tup l=>exact h.elim
 |_=>rfl
theorem ia(hr:SR Z w0 H G w){s:SV}{v:Value}(h:Rel G (Av Z H G) w s v):s.refsT H.length=true:=by
 cases s with
 |tup l=>
  obtain⟨vs,_,h2⟩:=h
  refine aqO.2 fun s hs=>?_
  obtain⟨k,hk,rfl⟩:=asB hs
  obtain⟨b,_,hb⟩:=fX h2 k _ (aqt hk)
  exact pH hr hb
 |_=>rw[oh (fun l e=>by cases e)];exact pH hr (kn h (fun l e=>by cases e))
def Ev(Z:Nat→Prop)(fl:Nat)(H:List Item)(G:List Value)(w:World)(H':List Item)(G':List Value)(w':World):Prop:=∀s v,Rel1 G (Av Z H G) w s v→s.refs fl=true→Rel1 G' (Av Z H' G') w' s v
theorem Chg.ev{fl:Nat}{st ap:Bool}(h:Chg Z fl st ap H G w H' G' w'):Ev Z fl H G w H' G' w':=fun s v hs hr=>h.pres s v hs fun _j hj=>vG hr hj
def DOk(F:FT)(fm:Fm):Prop:=∀D,fm.d=some D→Clo (aq (nth (am F fm.f) fm.i)) (mkL (aq (nth (am F fm.f) fm.i)).size D)∧Region.noSelect (aq (nth (am F fm.f) fm.i))=true∧D.length≤(aq (nth (am F fm.f) fm.i)).size
def FrsOk(Z:Nat→Prop)(F:FT)(H:List Item)(G:List Value)(w:World):Nat→List Fm→List Act→Prop
 |_,[],[]=>True
 |fl,fm::fs,a::ats=>FR Z (ntm F fm.f) fm.L H G w a∧(∀t s,aV fm.L t=some s→s.refsT fl=true)∧(fm.fl≤fl∧(∃fn,fH F fm.f=some fn)∧DOk F fm)∧FrsOk Z F H G w fm.fl fs ats
 |_,_,_=>False
theorem ml{k l:Nat}(h:k≤l){s:SV}(hs:s.refs k=true):s.refs l=true:=by
 have b:∀j,Nat.ble (j+1) k=true→Nat.ble (j+1) l=true:=fun j hj=>aqU (aqM (aqD hj) h)
 cases s with
 |box j off=>exact b j hs
 |own j=>exact b j hs
 |oelt j sz i off=>exact b j hs
 |osl j sz i off=>exact b j hs
 |clo f caps=>exact aqO.2 fun j hj=>b j (aqO.1 hs j hj)
 |tup l=>cases hs
 |_=>rfl
theorem FU{k l:Nat}(h:k≤l){s:SV}(hs:s.refsT k=true):s.refsT l=true:=by
 cases s with
 |tup l=>exact aqO.2 fun s hm=>ml h (aqO.1 hs s hm)
 |_=>rw[oh (fun l e=>by cases e)]at hs ⊢;exact ml h hs
theorem Rel.ev{fl:Nat}(he:Ev Z fl H G w H' G' w'){s:SV}{v:Value}(h:Rel G (Av Z H G) w s v)(hr:s.refsT fl=true):Rel G' (Av Z H' G') w' s v:=by
 cases s with
 |tup l=>
  obtain⟨vs,h1,h2⟩:=h
  refine⟨vs,h1,?_⟩
  clear h1
  induction l generalizing vs with
  |nil=>cases vs<;>exact h2
  |cons s l ih=>
   simp only[SV.refsT,asY,aqB]at hr
   match vs,h2 with
   |v::vs,⟨g1,g2⟩=>exact⟨he s v g1 hr.1,ih hr.2 vs g2⟩
 |_=>rw[oh (fun l e=>by cases e)]at hr;exact dK (he _ _ (kn h (fun l e=>by cases e)) hr)
theorem FrsOk.ev{fl:Nat}(he:Ev Z fl H G w H' G' w'):∀{fl':Nat} {fs:List Fm} {ats:List Act},fl'≤fl→FrsOk Z F H G w fl' fs ats→FrsOk Z F H' G' w' fl' fs ats
 |_,[],[],_,_=>trivial
 |fl',fm::fs,a::ats,hle,⟨h1,h2,h3,h4⟩=>⟨⟨h1.defers,h1.size,fun t s hs=>by
   obtain⟨v,g1,g2⟩:=h1.slot t s hs
   exact⟨v,g1,g2.ev he (FU hle (h2 t s hs))⟩⟩,h2,h3,FrsOk.ev he (aqM h3.1 hle) h4⟩
 |_,[],_::_,_,h=>h.elim
 |_,_::_,[],_,h=>h.elim
theorem sV{a b k:Nat}:TB a b≤k↔a≤k∧b≤k:=by
 unfold TB
 cases h:Nat.ble a b with
 |true=>have:=aqD h;simp only[cond_true];omega
 |false=>have:¬a≤b:=fun hh=>by rw[aqU hh]at h;cases h
         simp only[cond_false];omega
theorem Im{k j:Nat}{s:SV}(h:s.ofm≤k)(ho:s.of1 j=true):j<k:=by
 cases s<;>simp only[SV.of1,asK]at ho
 all_goals (have:=aqA ho;subst this;exact h)
theorem VS{s:SV}(h:∀l,s≠.tup l):s.ofmT=s.ofm:=by cases s<;>first|rfl|exact(h _ rfl).elim
theorem A7{k:Nat}:∀{L:SL} {t:Nat} {s:SV},slM L≤k→aV L t=some s→s.ofmT≤k
 |[],_,_,_,h=>by simp[aV]at h
 |(q,x)::r,t,s,hk,h=>by
  obtain⟨h1,h2⟩:=sV.1 hk
  rcases fx h with⟨rfl,rfl⟩|⟨_,h3⟩
  ·exact h1
  ·exact A7 h2 h3
theorem Rel.evF{k:Nat}(he:∀s v,Rel1 G (Av Z H G) w s v→(∀j,s.of1 j=true→j<k)→Rel1 G' (Av Z H' G') w' s v){s:SV}{v:Value}(h:Rel G (Av Z H G) w s v)(hr:s.ofmT≤k):Rel G' (Av Z H' G') w' s v:=by
 cases s with
 |tup l=>
  obtain⟨vs,h1,h2⟩:=h
  refine⟨vs,h1,?_⟩
  clear h1
  induction l generalizing vs with
  |nil=>cases vs<;>exact h2
  |cons s l ih=>
   obtain⟨r1,r2⟩:=sV.1 hr
   match vs,h2 with
   |v::vs,⟨g1,g2⟩=>exact⟨he s v g1 fun j hj=>Im r1 hj,ih r2 vs g2⟩
 |_=>rw[VS (fun l e=>by cases e)]at hr;exact dK (he _ _ (kn h (fun l e=>by cases e)) fun j hj=>Im hr hj)
theorem FrsOk.evF{k:Nat}(he:∀s v,Rel1 G (Av Z H G) w s v→(∀j,s.of1 j=true→j<k)→Rel1 G' (Av Z H' G') w' s v):∀{fl':Nat} {fs:List Fm} {ats:List Act},Cd fs≤k→FrsOk Z F H G w fl' fs ats→FrsOk Z F H' G' w' fl' fs ats
 |_,[],[],_,_=>trivial
 |fl',fm::fs,a::ats,hle,⟨h1,h2,h3,h4⟩=>⟨⟨h1.defers,h1.size,fun t s hs=>by
   obtain⟨v,g1,g2⟩:=h1.slot t s hs
   exact⟨v,g1,g2.evF he (A7 (sV.1 hle).1 hs)⟩⟩,h2,h3,FrsOk.evF he (sV.1 hle).2 h4⟩
 |_,[],_::_,_,h=>h.elim
 |_,_::_,[],_,h=>h.elim
theorem nM{fl:Nat}:∀{l:List (Nat×Nat×Ty)} {L:SL} {H:List Item} {G:List Value},SR Z w0 H G w→FR Z n L H G w a→fl≤H.length→mK l L H=some (L',H')→∃G',SR Z w0 H' G' w∧FR Z n L' H' G' w a∧Ev Z fl H G w H' G' w∧fl≤H'.length
 |[],L,H,G,hr,hf,hfl,h=>by
  simp only[mK,aqF,aqV]at h
  obtain⟨rfl,rfl⟩:=h
  exact⟨G,hr,hf,fun s v h _=>h,hfl⟩
 |(t,et,e)::l,L,H,G,hr,hf,hfl,h=>by
  simp only[mK]at h
  split at h
  ·rename_i hs
   split at h<;>try (cases h;done)
   rename_i hn
   have hn:=aqD hn
   obtain⟨v,h1,h2⟩:=hf.slot t _ hs
   have h2:v=.slice none 0 0:=h2
   subst h2
   obtain⟨G1,k1,k2,k3,k4⟩:=jc (et:=et) (e:=e) (xs:=[]) (css:=[]) hr hf (atm _ _) (World.ownsRow_nil w _ _ _) hn trivial fl false false
   obtain⟨G2,g1,g2,g3,g4⟩:=nM (fl:=fl) k1 (k2.say h1 k3) (by simp;omega) h
   exact⟨G2,g1,g2,fun s v hs hrf=>g3 s v (k4.ev s v hs hrf) hrf,g4⟩
  ·exact nM hr hf hfl h
theorem jf{fl:Nat}:∀{l:List (Nat×Ty)} {L:SL} {H:List Item},SR Z w0 H G w→FR Z n L H G w a→fl≤H.length→iA fl l L H=some (L',H')→SR Z w0 H' G w∧FR Z n L' H' G w a∧Ev Z fl H G w H' G w∧fl≤H'.length
 |[],L,H,hr,hf,hfl,h=>by
  simp only[iA,aqF,aqV]at h
  obtain⟨rfl,rfl⟩:=h
  exact⟨hr,hf,fun s v h _=>h,hfl⟩
 |(t,e)::l,L,H,hr,hf,hfl,h=>by
  simp only[iA]at h
  split at h
  ·rename_i hs
   obtain⟨v,h1,h2⟩:=hf.slot t _ hs
   have h2:v=.slice none 0 0:=h2
   subst h2
   exact jf hr (hf.say (s:=.d (.sl e) []) h1 ⟨[_],uh,rfl⟩) hfl h
  ·rename_i j hs
   split at h<;>try (cases h;done)
   rename_i L1 H1 hg
   have hfz:l9 fl [.tmp t] L H=some (L1,H1):=by simp only[l9,opS,hs,hg]
   obtain⟨g1,g2,g3,_,_⟩:=iy hr hf hfz
   have hlen:H1.length=H.length:=by
    unfold rj at hg
    split at hg<;>try (cases hg;done)
    simp only[aqF,aqV]at hg
    rw[←hg.2];simp
   obtain⟨k1,k2,k3,k4⟩:=jf g1 g2 (by omega) h
   exact⟨k1,k2,fun s v hs hrf=>k3 s v (g3 s v hs fun j hj=>vG hrf hj) hrf,k4⟩
  ·exact jf hr hf hfl h
theorem gH{α:Type}{l:List α}{k j:Nat}{x:α}(h:(l.take k)[j]?=some x):j<k∧l[j]?=some x:=by
 rw[arM]at h
 split at h
 ·exact⟨by assumption,h⟩
 ·cases h
theorem Ai(hl:Nat){b:Nat}(h:Av Z H G b):Av Z (H.take hl) (G.take hl) b:=⟨h.1,fun j it g h1 h2 h3=>h.2 j it g (gH h1).2 h2 (gH h3).2⟩
theorem tt{hl:Nat}{s:SV}{v:Value}(h:Rel1 G (Av Z H G) w s v)(hs:s.refs hl=true):Rel1 (G.take hl) (Av Z (H.take hl) (G.take hl)) w s v:=by
 have hk:Keeps (Av Z H G) (Av Z (H.take hl) (G.take hl)) w w:=⟨aqE _,fun b _ h=>Ai hl h,fun _ _ _=>rfl⟩
 have g:∀(j:Nat) x,Nat.ble (j+1) hl=true→G[j]?=some x→(G.take hl)[j]?=some x:=fun j x hj hx=>by
  rw[arM,aqW (show j<hl from aqD hj)];exact hx
 cases s with
 |d t x=>obtain⟨cs,h1,h2⟩:=h;exact⟨cs,Ty.rd_keep hk h1,h2⟩
 |nil=>exact h
 |box j off=>obtain⟨b,h1,h2⟩:=h;exact⟨b,g j _ hs h1,h2⟩
 |elt e x off=>obtain⟨b,o,cs,h1,h2,h3,h4,h5⟩:=h;exact⟨b,o,cs,h1,Ai hl h2,h3,Ty.rd_keep hk h4,h5⟩
 |own j=>exact g j _ hs h
 |oelt j sz i off=>obtain⟨b,m,c,h1,h2⟩:=h;exact⟨b,m,c,g j _ hs h1,h2⟩
 |cut e xs=>obtain⟨p,h1,h2⟩:=h;exact⟨p,Ty.rd_keep hk h1,h2⟩
 |osl j sz lo n=>obtain⟨x,q,c,h1,h2⟩:=h;exact⟨x,q,c,g j _ hs h1,h2⟩
 |clo f caps=>
  obtain⟨bs,h1,h2⟩:=h
  refine⟨bs,?_,h2⟩
  clear h2
  induction caps generalizing bs with
  |nil=>cases bs<;>exact h1
  |cons c caps ih=>
   simp only[SV.refs,asY,aqB]at hs
   match bs,h1 with
   |b::bs,⟨q1,q2⟩=>exact⟨g c _ hs.1 q1,ih hs.2 bs q2⟩
 |tup l=>exact h
 |undef=>exact h
 |dead=>trivial
theorem Y0{hl:Nat}(hr:SR Z w0 H G w)(hrf:(H.take hl).all (Item.refs hl)=true):SR Z w0 (H.take hl) (G.take hl) w:=by
 have hk:Keeps (Av Z H G) (Av Z (H.take hl) (G.take hl)) w w:=⟨aqE _,fun b _ h=>Ai hl h,fun _ _ _=>rfl⟩
 refine⟨by simp[hr.len],hr.below,fun j it g h1 h2=>?_,fun i j it jt g h b hij h1 h2 h3 h4 h5 h6 h7=>hr.disj i j it jt g h b hij (gH h1).2 (gH h2).2 h3 h4 (gH h5).2 (gH h6).2 h7,hr.zf⟩
 have hi:=hr.items j it g (gH h1).2 (gH h2).2
 have hir:it.refs hl=true:=aqO.1 hrf it (arp h1)
 cases it with
 |gone=>trivial
 |row et e xs=>obtain⟨css,k1,k2,k3⟩:=hi;exact⟨css,k1,bQ (fun _ _ h=>Ty.rd_keep hk h) k2,k3⟩
 |box t cs=>
  obtain⟨b,vs,rfl,k1,k2,k3⟩:=hi
  refine⟨b,vs,rfl,k1,k2,?_⟩
  clear k2 h1
  induction cs generalizing vs with
  |nil=>cases vs<;>exact k3
  |cons s l ih=>
   simp only[Item.refs,asY,aqB]at hir
   match vs,k3 with
   |v::vs,⟨q1,q2⟩=>exact⟨tt q1 hir.1,ih hir.2 vs q2⟩
structure CR (Z:Nat→Prop) (F:FT) (w0:World) (c:Cfg) (G:List Value) (w:World) (a:Act) (ats:List Act):Prop where
 sr:SR Z w0 c.H G w
 fr:FR Z (ntm F c.f) c.L c.H G w a
 fl:c.fl≤c.H.length
 frs:FrsOk Z F c.H G w c.fl c.fs ats
theorem CK{R:SV→Value→Prop}{s:SV}(hs:∀v,R .nil v→R s v):∀{cs:List SV} {vs:List Value} {q:Nat},cf R cs vs→cs[q]?=some .nil→cf R (cs.set q s) vs
 |[],_,_,_,h=>by simp at h
 |c::cs,[],_,h,_=>h.elim
 |c::cs,v::vs,0,⟨h1,h2⟩,h=>by
  simp only[ard,aqF]at h
  subst h
  exact⟨hs v h1,h2⟩
 |c::cs,v::vs,q+1,⟨h1,h2⟩,h=>by
  rw[aqY]at h
  exact⟨h1,CK hs h2 h⟩
theorem mn{fl:Nat}:∀{l:List (Nat×Nat×Nat×Ty)} {H:List Item} {G:List Value},SR Z w0 H G w→FR Z n L H G w a→fl≤H.length→∃G',SR Z w0 (kr l H) G' w∧FR Z n L (kr l H) G' w a∧Ev Z fl H G w (kr l H) G' w∧fl≤(kr l H).length
 |[],H,G,hr,hf,hfl=>⟨G,hr,hf,fun s v h _=>h,hfl⟩
 |(j,q,et,e)::l,H,G,hr,hf,hfl=>by
  simp only[kr]
  split
  ·rename_i t cs hj
   split
   ·rename_i hq hn
    have hn:=aqD hn
    obtain⟨G1,k1,k2,k3,k4⟩:=jc (et:=et) (e:=e) (xs:=[]) (css:=[]) hr hf (atm _ _) (World.ownsRow_nil w _ _ _) hn trivial fl false false
    have hlt:=(aqG.1 hj).1
    have hj1:(H++[.row et e []])[j]?=some (.box t cs):=by rw[aqJ hlt];exact hj
    have hst:=lO (it':=.box t (cs.set q (.own H.length))) k1 hj1 rfl k1.below (aqE _) (fun _ _ _=>rfl)
    have hsr:=z6 (it':=.box t (cs.set q (.own H.length))) k1 hj1 rfl k1.below (aqE _) (fun _ _ _=>rfl) (fun g hg=>by
     obtain⟨b,vs,e1,e2,e3,e4⟩:=k1.items j _ g hj1 hg
     refine⟨b,vs,e1,e2,e3,CK (fun v hv=>?_) (bQ (fun s v h=>cZ k1 hst h) e4) hq⟩
     have hv:v=.slice none 0 0:=hv
     subst hv
     exact k3)
    rw[atg,aqW hlt]at hsr hst
    obtain⟨G2,g1,g2,g3,g4⟩:=mn (fl:=fl) (l:=l) hsr (k2.keep fun s v h=>cZ k1 hst h) (by simp;omega)
    exact⟨G2,g1,g2,fun s v hs hrf=>g3 s v (cZ k1 hst (k4.ev s v hs hrf)) hrf,g4⟩
   ·exact mn hr hf hfl
  ·exact mn hr hf hfl
theorem ZY{x:NI}{c c':Cfg}{ats:List Act}(h:ag1 x c=some c')(hc:CR Z F w0 c G w a ats):∃G',CR Z F w0 c' G' w a ats∧c'.f=c.f∧c'.K=c.K∧c'.fs=c.fs:=by
 unfold ag1 at h
 split at h<;>try (cases h;done)
 rename_i L1 H1 h1
 split at h<;>try (cases h;done)
 rename_i L2 H2 h2
 split at h<;>try (cases h;done)
 rename_i L3 h3
 split at h<;>try (cases h;done)
 rename_i hb
 injection h with h
 subst h
 simp only[aqB]at hb
 obtain⟨⟨⟨b1,b2⟩,b3⟩,b4⟩:=hb
 obtain⟨G0,f1,f2,f3,f4⟩:=mn (l:=x.bx) hc.sr hc.fr hc.fl
 obtain⟨G1,g1,g2,g3',g4⟩:=nM f1 f2 f4 h1
 have g3:Ev Z c.fl c.H G w H1 G1 w:=fun s v hs hr=>g3' s v (f3 s v hs hr) hr
 obtain⟨k1,k2,k3,k4⟩:=jf g1 g2 g4 h2
 have b3':=aqD b3
 have hev:Ev Z c.fl c.H G w (H2.take x.hl) (G1.take x.hl) w:=fun s v hs hrf=>tt (k3 s v (g3 s v hs hrf) hrf) (ml b3' hrf)
 refine⟨G1.take x.hl,⟨Y0 k1 b2,⟨k2.defers,k2.size,fun t s hs=>?_⟩,by simp;omega,hc.frs.ev hev (aqE _)⟩,rfl,rfl,rfl⟩
 obtain⟨v,q1,q2⟩:=k2.slot t s (tH h3 t s hs)
 have hrf:s.refs x.hl=true:=aqO.1 b1 (t,s) (w8 hs)
 exact⟨v,q1,dK (tt (kn q2 fun l e=>by subst e;cases hrf) hrf)⟩
end
end
section
def fU(P:Program)(fn:Func)(R:Ending→World→Prop)(B:Code):List KJ→List KI
 |[]=>[]
 |.seq i::K=>.seq i::fU P fn R B K
 |.blk id::K=>.blk id::fU P fn R B K
 |.lp i::K=>.lp (InLoop P (nth B (i+1)) (gi P fn R B (fU P fn R B K)))::fU P fn R B K
def eU(P:Program)(F:FT)(Rt:Ending→World→Prop):List Fm→List Act→Ending→World→Prop
 |fm::fs,a::ats=>fun e w'=>∃v,e=.returned v∧∃fn o,fH F fm.f=some fn∧(aq (nth (am F fm.f) fm.i))[fm.k]?=some o∧
   (fm.d=none→AtR P fn (eU P F Rt fs ats) (am F fm.f) (fU P fn (eU P F Rt fs ats) (am F fm.f) fm.K) fm.i (fm.k+1) (a.put o.dst v) w')∧
   (∀D,fm.d=some D→wpG P (aq (nth (am F fm.f) fm.i)) (gi P fn (eU P F Rt fs ats) (am F fm.f) (fU P fn (eU P F Rt fs ats) (am F fm.f) fm.K)) (fun _=>True) ((aq (nth (am F fm.f) fm.i)).size-D.length) (mkL (aq (nth (am F fm.f) fm.i)).size D) (a.put o.dst v) w')
 |_,_=>Rt
section
variable {Z:Nat→Prop} {w0:World} {n:Nat} {L L':SL} {H H':List Item} {G G':List Value} {w w':World} {a:Act} {F:FT} {P:Program} {T:TT}
theorem d8{R:Type}{ops:Array Oper}{o:Oper}{yes no:SL→Option R}{r:R}(hf:FR Z n L H G w a)(h:ck ops L o yes no=some r):
  (∃L',yes L'=some r∧FR Z n L' H G w a∧Region.wanted o (yielded ops a.tmps)=true)∨(∃L',no L'=some r∧FR Z n L' H G w a∧Region.wanted o (yielded ops a.tmps)=false):=by
 unfold ck at h
 split at h
 ·rename_i hg
  exact .inl ⟨L,h,hf,by simp[Region.wanted,hg]⟩
 ·rename_i j want hg
  split at h<;>try (cases h;done)
  rename_i d hd
  split at h<;>try (cases h;done)
  ·rename_i b hb
   obtain⟨v,h1,h2⟩:=hf.slot d _ hb
   have hv:=oU h2
   subst hv
   have hy:∀b':Bool,b=b'→FR Z n ((d,.d .bool b')::kN L d) H G w a:=fun b' e=>by subst e;exact hf.say h1 h2
   have hw:Region.wanted o (yielded ops a.tmps)=(b==want):=by
    simp only[Region.wanted,hg,yielded,hd,Option.bind_some,h1]
    cases b<;>cases want<;>rfl
   split at h
   ·split at h
    ·exact .inl ⟨_,h,hy true rfl,hw⟩
    ·exact .inr ⟨_,h,hy true rfl,hw⟩
   ·split at h
    ·exact .inr ⟨_,h,hy false rfl,hw⟩
    ·exact .inl ⟨_,h,hy false rfl,hw⟩
  ·rename_i hb
   obtain⟨v,h1,h2⟩:=hf.slot d _ hb
   have h2:v=undef:=h2
   subst h2
   refine .inr ⟨L,h,hf,?_⟩
   simp only[Region.wanted,hg,yielded,hd,Option.bind_some,h1]
   rfl
theorem Zx{fn:Func}{R:Ending→World→Prop}{B:Code}{K:List KI}{i k:Nat}(hk:(aq (nth B i))[k]?=none)(h:gi P fn R B K .normal a w):AtR P fn R B K i k a w:=by
 refine m5 ?_ h
 rw[as1]
 simpa using hk
theorem YO{fn:Func}{R:Ending→World→Prop}{B:Code}{K:List KI}{i k:Nat}{o:Oper}(hk:(aq (nth B i))[k]?=some o)(hw:Region.wanted o (yielded (aq (nth B i)) a.tmps)=true)
  (h:o.upon P a (fun a' w'=>AtR P fn R B K i (k+1) a' w') (gi P fn R B K) ((execOp a.eval o).run P w)):AtR P fn R B K i k a w:=by
 have hlt:k<(aq (nth B i)).toList.length:=by simpa using(aqI.1 hk).1
 unfold AtR
 have:(aq (nth B i)).toList.drop k=o::(aq (nth B i)).toList.drop (k+1):=by
  rw[aqP hlt]
  congr 1
  have:=(aqI.1 hk).2
  simpa using this
 rw[this]
 unfold wpList
 rw[aqW hw]
 exact .inl h
theorem afT{fn:Func}{R:Ending→World→Prop}{B:Code}{K:List KI}{i k:Nat}{o:Oper}(hk:(aq (nth B i))[k]?=some o)(hw:Region.wanted o (yielded (aq (nth B i)) a.tmps)=false)
  (h:AtR P fn R B K i (k+1) (a.put o.dst undef) w):AtR P fn R B K i k a w:=by
 have hlt:k<(aq (nth B i)).toList.length:=by simpa using(aqI.1 hk).1
 unfold AtR
 have:(aq (nth B i)).toList.drop k=o::(aq (nth B i)).toList.drop (k+1):=by
  rw[aqP hlt]
  congr 1
  have:=(aqI.1 hk).2
  simpa using this
 rw[this]
 unfold wpList
 rw[aqQ (by rw[hw];simp)]
 exact h
theorem Nb(hT:dU P T=true)(hr:SR Z w0 H G w)(hf:FR Z n L H G w a):∀{rs:List ResultVar} {ss:List SV},zJ T H L rs=some ss→∃vs,cf (Rel G (Av Z H G) w) ss vs∧
  ((rs.mapM (m:=Sem) fun
   |.tmp t=>pure (a.tmps.getD t undef)
   |.cell ad t=>do loadVar t (←asAddr (a.tmps.getD ad undef))).run P w)=.ok vs w:=by
 intro rs
 induction rs with
 |nil=>intro ss h;simp only[zJ,aqF]at h;subst h;exact⟨[],trivial,rfl⟩
 |cons q rs ih=>
  intro ss h
  rw[List.mapM_cons]
  cases q with
  |tmp t=>
   simp only[zJ]at h
   split at h<;>try (cases h;done)
   rename_i s l h1 h2
   injection h with h
   subst h
   obtain⟨vs,g1,g2⟩:=ih h2
   obtain⟨v,k1,k2⟩:=hf.slot t s h1
   refine⟨v::vs,⟨k2,g1⟩,?_⟩
   simp only[arv,arW,aqR,arf,k1,Option.getD_some]at g2 ⊢
   rw[g2]
   rfl
  |cell ad t=>
   simp only[zJ]at h
   split at h<;>try (cases h;done)
   rename_i j off i l h1 hi h2
   split at h<;>try (cases h;done)
   rename_i bt cells hj
   split at h<;>try (cases h;done)
   rename_i s hl
   injection h with h
   subst h
   obtain⟨vs,g1,g2⟩:=ih h2
   obtain⟨p,k1,k2⟩:=hf.slot ad _ h1
   obtain⟨v,e1,e2⟩:=BZ (rw:=true) hr (aZ hT hi) k2 hj hl
   obtain⟨b,hb,rfl⟩:=k2
   refine⟨v::vs,⟨dK e1,g1⟩,?_⟩
   have e3:=e2 w Agr.refl
   simp only[Instr.loadAt,Instr.sureAddr,arv,arW,aqR]at e3
   simp only[arv,arW,aqR,arf,k1,Option.getD_some,asAddr,e3]at g2 ⊢
   rw[g2]
   rfl
theorem TF{fn:Func}{R:Ending→World→Prop}(hT:dU P T=true)(hr:SR Z w0 H G w)(hf:FR Z n L H G w a){ss:List SV}(h:zJ T H L fn.results.toList=some ss)(hR:∀vs,cf (Rel G (Av Z H G) w) ss vs→R (.returned (jp vs)) w):bodyPost P fn R .ret a w:=by
 obtain⟨vs,g1,g2⟩:=Nb (P:=P) hT hr hf h
 refine⟨hf.defers,jp vs,?_,hR vs g1⟩
 unfold Go.results
 generalize hrs:fn.results=rs at*
 obtain⟨l⟩:=rs
 simp only[List.mapM_toArray,bind_map_left]
 simp only[arv]
 refine(congrArg (fun r:Result (List Value)=>r.andThen fun(a:List Value) w'=>Sem.run P (pure (if h:a.toArray.size=1 then a.toArray[0]else Value.tuple a.toArray)) w') g2).trans ?_
 match vs with
 |[]=>rfl
 |[x]=>rfl
 |x::y::r=>simp[jp]
theorem PA{ss:List SV}{vs:List Value}(hn:∀s∈ss,∀l,s≠.tup l)(h:cf (Rel G (Av Z H G) w) ss vs):Rel G (Av Z H G) w (agB ss) (jp vs):=by
 have h1:cf (Rel1 G (Av Z H G) w) ss vs:=by
  induction ss generalizing vs with
  |nil=>cases vs<;>exact h
  |cons s ss ih=>
   match vs,h with
   |v::vs,⟨q1,q2⟩=>exact⟨kn q1 (hn s (by simp)),ih (fun s hs=>hn s (by simp[hs])) q2⟩
 match ss,vs,h,h1 with
 |[],[],_,_=>exact⟨[],rfl,trivial⟩
 |[s],[v],⟨q1,_⟩,_=>exact q1
 |s::s'::ss,v::v'::vs,_,h1=>exact⟨v::v'::vs,rfl,h1⟩
theorem BT{A:Nat→Prop}:∀{l:List SV} {r:List RV} {vs:List Value},wv.outL l=some r→cf (Rel1 [] A w) l vs→rvS r=some l∧(∀q∈r,∃t x,q=.d t x)
 |[],r,vs,h,_=>by simp only[wv.outL,aqF]at h;subst h;exact⟨rfl,by simp⟩
 |s::l,r,vs,h,ha=>by
  unfold wv.outL at h
  split at h
  ·rename_i e;cases e
  ·rename_i t x l' e
   injection e with e1 e2
   subst e1 e2
   split at h<;>try (cases h;done)
   rename_i r' hr'
   injection h with h
   subst h
   match vs,ha with
   |v::vs,⟨_,h2⟩=>
    obtain⟨g1,g2⟩:=BT hr' h2
    exact⟨by simp[rvS,g1],fun q hq=>by rcases arc.1 hq with rfl|hq;exact⟨t,x,rfl⟩;exact g2 q hq⟩
  ·cases h
theorem af1(_hT:dU P T=true)(hr:SR Z w0 H G w){ss:List SV}{tys:List Nat}{r:List RV}{vs:List Value}(h:wv T H ss tys=some r)(ha:cf (Rel G (Av Z H G) w) ss vs):tu Z w0.heap.size w r (jp vs):=by
 unfold wv at h
 split at h
 ·rename_i j
  split at h<;>try (cases h;done)
  rename_i et e xs hj
  injection h with h
  subst h
  match vs,ha with
  |[v],⟨hv,_⟩=>
   obtain⟨css,k1,k2,k3⟩:=hr.items j _ _ hj hv
   refine⟨css,k1,bQ (fun l y h=>Ty.rd_keep ⟨aqE _,fun b _ hA=>⟨hA.1,hA.2 j _ _ hj rfl hv⟩,fun _ _ _=>rfl⟩ h) k2,k3⟩
 ·split at h<;>try (cases h;done)
  split at h<;>try (cases h;done)
  split at h<;>try (cases h;done)
  split at h<;>try (cases h;done)
  rename_i hb
  injection h with h
  subst h
  match vs,ha with
  |[v],⟨hv,_⟩=>
   have hv:v=.slice none 0 0:=hv
   subst hv
   exact⟨[],World.ownsRow_nil _ _ _ _,trivial,aqD hb⟩
 ·split at h<;>try (cases h;done)
  rename_i l hl
  have h1:cf (Rel1 [] Z w) l vs:=lN (ss0:=ss) hr (fun _ _ h=>h.1) (.inl fun j g b hg hb ⟨_,_,_,hj⟩=>hr.zf b ((hr.items j _ g hj hg).blk rfl hb).1) (fun s hs=>hs) hl ha
  obtain⟨g1,g2⟩:=BT h h1
  match r,g1,g2 with
  |[],g1,_=>
   simp only[rvS,aqF]at g1
   subst g1
   match vs,h1 with
   |[],_=>exact⟨[],rfl,[],rfl,trivial⟩
  |[.d t x],g1,_=>
   simp only[rvS,aqF]at g1
   subst g1
   match vs,h1 with
   |[v],⟨q,_⟩=>exact q
  |[.new et e xs],_,g2=>obtain⟨t,x,he⟩:=g2 (.new et e xs) (by simp);cases he
  |q::q'::r,g1,_=>
   have hlen:vs.length=(q::q'::r).length:=by
    rw[←dG h1]
    have:∀(r:List RV) (l:List SV),rvS r=some l→l.length=r.length:=by
     intro r
     induction r with
     |nil=>intro l h;simp only[rvS,aqF]at h;subst h;rfl
     |cons q r ih=>
      intro l h
      cases q<;>simp only[rvS]at h<;>split at h<;>first|(cases h;done)|(injection h with h;subst h;simp[ih _ (by assumption)])
    exact this _ _ g1
   match vs,hlen,h1 with
   |v::v'::vs,_,h1=>cases q<;>exact⟨v::v'::vs,rfl,l,g1,h1⟩
end
end
section
theorem j9{Z:Nat→Prop}{H:List Item}{G:List Value}{w:World}{a:Act}:∀{ss:List SV} {vs:List Value} {k:Nat},cf (Rel G (Av Z H G) w) ss vs→(∀t v,look (A4 k vs) t=some v→a.tmps[t]?=some v)→∀t s,aV (pO k ss) t=some s→∃v,a.tmps[t]?=some v∧Rel G (Av Z H G) w s v
 |[],[],k,_,_,t,s,h=>by simp[pO,aV]at h
 |s0::ss,v0::vs,k,⟨h1,h2⟩,ha,t,s,h=>by
  rcases fx h with⟨rfl,rfl⟩|⟨hne,h3⟩
  ·exact⟨v0,ha t v0 (by simp[A4,look]),h1⟩
  ·refine j9 h2 (fun u x hx=>ha u x ?_) t s h3
   simp only[A4,look]
   split
   ·rename_i hb
    have e:k=u:=aqA hb
    have:=(xS vs (k+1) u x hx).1
    omega
   ·exact hx
def AtG(P:Program)(fn:Func)(R:Ending→World→Prop)(B:Code)(K:List KI)(i:Nat)(S0:World→Prop)(m:Nat)(D:List Nat)(a:Act)(w:World):Prop:=
 wpG P (aq (nth B i)) (gi P fn R B K) S0 m (mkL (aq (nth B i)).size D) a w
def gV(P:Program)(F:FT)(Rt:Ending→World→Prop)(c:Cfg)(fn:Func)(G:List Value)(w:World)(a:Act)(ats:List Act):Pos→Prop
 |.nrm=>gi P fn (eU P F Rt c.fs ats) (am F c.f) (fU P fn (eU P F Rt c.fs ats) (am F c.f) c.K) .normal a w
 |.node i=>At P fn (eU P F Rt c.fs ats) (am F c.f) (fU P fn (eU P F Rt c.fs ats) (am F c.f) c.K) i a w
 |.ops i k=>AtR P fn (eU P F Rt c.fs ats) (am F c.f) (fU P fn (eU P F Rt c.fs ats) (am F c.f) c.K) i k a w
 |.ret=>bodyPost P fn (eU P F Rt c.fs ats) .ret a w
 |.tam i D=>D=[]→Region.noSelect (aq (nth (am F c.f) i))=true→AtG P fn (eU P F Rt c.fs ats) (am F c.f) (fU P fn (eU P F Rt c.fs ats) (am F c.f) c.K) i (fun _=>True) (aq (nth (am F c.f) i)).size [] a w
 |.tbx i D=>D=[]→Region.noSelect (aq (nth (am F c.f) i))=true→AtG P fn (eU P F Rt c.fs ats) (am F c.f) (fU P fn (eU P F Rt c.fs ats) (am F c.f) c.K) i (fun _=>True) (aq (nth (am F c.f) i)).size [] a w
 |.tal i D=>∀S0:World→Prop,(∀w w',S0 w→(w.heap.size≤w'.heap.size∧∀b,b<w.heap.size→w'.heap[b]?=w.heap[b]?)→S0 w')→(storeDone (aq (nth (am F c.f) i)) (mkL (aq (nth (am F c.f) i)).size D)∨S0 w)→Clo (aq (nth (am F c.f) i)) (mkL (aq (nth (am F c.f) i)).size D)→Region.noSelect (aq (nth (am F c.f) i))=true→∀m',m'+D.length=(aq (nth (am F c.f) i)).size→AtG P fn (eU P F Rt c.fs ats) (am F c.f) (fU P fn (eU P F Rt c.fs ats) (am F c.f) c.K) i S0 m' D a w
 |.drw i rw eff D=>∀Hs Gs ws,((storeDone (aq (nth (am F c.f) i)) (mkL (aq (nth (am F c.f) i)).size D)∧eff=true)∨(Agr rw Hs Gs ws w∧(∀b,b<ws.heap.size→gM c.H G b→gM Hs Gs b)∧(eff=false→c.H=Hs∧G=Gs∧w=ws)∧¬storeDone (aq (nth (am F c.f) i)) (mkL (aq (nth (am F c.f) i)).size D)))→Clo (aq (nth (am F c.f) i)) (mkL (aq (nth (am F c.f) i)).size D)→Region.noSelect (aq (nth (am F c.f) i))=true→
   ∀m',m'+D.length=(aq (nth (am F c.f) i)).size→AtG P fn (eU P F Rt c.fs ats) (am F c.f) (fU P fn (eU P F Rt c.fs ats) (am F c.f) c.K) i (Agr rw Hs Gs ws) m' D a w
section
variable {Z:Nat→Prop} {w0:World} {F:FT} {P:Program} {T:TT} {E:Env} {N:NT} {Fin:Nat→Cfg→Option (List RV)} {Rt:Ending→World→Prop} {r:List RV}
theorem rW{fn:Func}{R:Ending→World→Prop}{B:Code}{id:Nat}:∀{K K':List KJ},zm id K=some K'→vD id (fU P fn R B K)=some (fU P fn R B K')
 |[],K',h=>by simp[zm]at h
 |.blk j::K,K',h=>by
  simp only[zm]at h
  simp only[fU,vD]
  split at h
  ·rename_i hb;rw[hb];injection h with h;rw[h]
  ·rename_i hb;rw[hb];exact rW h
 |.seq _::K,K',h=>by simp only[zm]at h;simp only[fU,vD];exact rW h
 |.lp _::K,K',h=>by simp only[zm]at h;simp only[fU,vD];exact rW h
theorem yU {L : SL} {H : List Item} {G : List Value} {w : World} {a : Act} {n g : Nat} {ss : List SV} {o : Op} (hf : FR Z n L H G w a) (h : Ck F E L o = some (g, ss)) : ∃ f args tys fn caps, o = .call ⟨.value f, args, tys⟩ ∧ fH F g = some fn ∧ a.eval f = .func (.func g) #[] caps ∧ cf (Rel G (Av Z H G) w) ss (args.map a.eval ++ caps).toList ∧ ss.length ≤ fn.ntmps ∧ (!(fn.name == "runtime.NumGoroutine")) = true ∧ fn.body.isSome = true := by
 unfold Ck at h
 split at h<;>try (cases h;done)
 rename_i f args tys
 split at h<;>try (cases h;done)
 rename_i g' caps hs
 split at h<;>try (cases h;done)
 split at h<;>try (cases h;done)
 rename_i fn ss' hfn hss
 split at h<;>try (cases h;done)
 rename_i hb
 simp only[aqF,aqV]at h
 obtain⟨rfl,rfl⟩:=h
 simp only[aqB]at hb
 obtain⟨bs,hbs,hfv⟩:=aW hf hs
 refine⟨f,args,tys,fn,_,rfl,hfn,hfv,?_,by simp;exact aqD hb.1,hb.2.1,hb.2.2⟩
 have h1:=jQ hf hss
 have h2:cf (Rel G (Av Z H G) w) (caps.map fun j=>.box j 0) (bs.map fun b=>Value.pointer (some ⟨b,0,none⟩)):=by
  clear hs hfv
  induction caps generalizing bs with
  |nil=>cases bs<;>exact hbs
  |cons c caps ih=>
   match bs,hbs with
   |b::bs,⟨q1,q2⟩=>exact⟨⟨b,q1,rfl⟩,ih (by
     simp only[aq1]at hb
     exact⟨aqU (by have:=aqD hb.1;omega),hb.2⟩) bs q2⟩
 have:=dE h1 h2
 simpa using this
theorem Dc{ops:Array Oper}{eff:Bool}{D:List Nat}:∀{rs:List Nat} {j:Nat},yi ops eff D rs=some j→j∈rs∧∃o,ops[j]?=some o∧isQ o.op=true∧(kM o.op=true→eff=false∧rX ops j=true)∧o.dst.isSome=true∧Region.free .any ops (mkL ops.size D) j=true
 |[],j,h=>by simp[yi]at h
 |q::rs,j,h=>by
  simp only[yi]at h
  split at h<;>try (cases h;done)
  rename_i o ho
  split at h
  ·rename_i hb
   injection h with h
   subst h
   simp only[aqB,arC,Bool.and_eq_false_iff,as2,Bool.not_eq_false']at hb
   obtain⟨⟨⟨b1,b2⟩,b3⟩,b4⟩:=hb
   exact⟨by simp,o,ho,b1,fun hl=>by rcases b2 with b2|b2;rw[hl]at b2;cases b2;exact b2,b3,b4⟩
  ·obtain⟨h1,h2⟩:=Dc h
   exact⟨by simp[h1],h2⟩
end
end
abbrev dn(l:Array Bool):Nat→Bool:=fun k=>l.getD k true
theorem gF(l:Array Bool)(j k:Nat):dn (l.setIfInBounds j true) k=if k=j then true else dn l k:=by
 by_cases h:k=j
 ·subst h;rw[aqW rfl];exact gj l k
 ·rw[aqQ h];exact ar7 true (arU h)
theorem dz{d:Nat}{s:SV}{L:SL}{t:Nat}:aV ((d,s)::kN L d) t=if t=d then some s else aV L t:=by
 by_cases h:t=d
 ·subst h
  rw[aqW rfl]
  simp[aV]
 ·rw[aqQ h]
  have hb:Nat.beq d t=false:=by
   cases hq:Nat.beq d t with
   |false=>rfl
   |true=>exact absurd (aqA hq).symm h
  simp only[aV,hb]
theorem u9:∀{l cs:List SV} {off:Nat},(lc cs off l).length=cs.length
 |[],_,_=>rfl
 |_::r,_,_=>by simp[lc,u9 (l:=r)]
theorem CL:∀(l cs:List SV) (off i:Nat),(lc cs off l)[i]?=if off≤i∧i<off+l.length∧i<cs.length then l[i-off]? else cs[i]?
 |[],cs,off,i=>by rw[aqQ (by simp;omega)];rfl
 |s::r,cs,off,i=>by
  rw[lc,CL r (cs.set off s) (off+1) i,asQ,aq1]
  by_cases h1:i=off
  ·subst h1
   rw[aqQ (by omega)]
   by_cases h2:i<cs.length
   ·rw[aqW (by omega),arY,ar5 h2];rfl
   ·rw[aqQ (by omega),arx (by simp;omega),arx (by omega)]
  ·by_cases h2:off+1≤i∧i<off+1+r.length∧i<cs.length
   ·rw[aqW h2,aqW (by omega),show i-off=(i-(off+1))+1 by omega,aqY]
   ·rw[aqQ h2,aqQ (by omega),arJ (arU h1)]
theorem Ks{l l' cs:List SV}{off off':Nat}(h:off+l.length≤off'∨off'+l'.length≤off):lc (lc cs off l) off' l'=lc (lc cs off' l') off l:=by
 refine ar6 fun i=>?_
 simp only[CL,u9]
 by_cases h1:off≤i∧i<off+l.length∧i<cs.length
 ·by_cases h2:off'≤i∧i<off'+l'.length∧i<cs.length
  ·omega
  ·simp only[aqW h1,aqQ h2]
 ·by_cases h2:off'≤i∧i<off'+l'.length∧i<cs.length
  ·simp only[aqQ h1,aqW h2]
  ·simp only[aqQ h1,aqQ h2]
theorem B0{x:SV}:∀{l cs:List SV} {off:Nat},x∈lc cs off l→x∈cs∨x∈l
 |[],_,_,h=>.inl h
 |s::r,cs,off,h=>by
  rcases B0 (l:=r) h with h1|h1
  ·rcases List.mem_or_eq_of_mem_set h1 with h2|h2
   ·exact .inl h2
   ·subst h2;exact .inr (by simp)
  ·exact .inr (by simp[h1])
def ovI(s:AlS):Item→Item
 |.box bt cells=>.box bt (lc cells s.off s.l)
 |it=>it
theorem ja(s:AlS)(H:List Item)(k:Nat):(stP s H)[k]?=if k=s.j then H[k]?.map (ovI s)else H[k]?:=by
 unfold stP
 split
 ·rename_i bt cells hb
  by_cases h:k=s.j
  ·subst h
   rw[aqW rfl,hb,ar5 (aqG.1 hb).1]
   rfl
  ·rw[aqQ h,arJ (arU h)]
 ·rename_i hb
  by_cases h:k=s.j
  ·subst h
   rw[aqW rfl]
   cases hh:H[s.j]? with
   |none=>rfl
   |some it=>
    cases it with
    |box bt cells=>exact absurd hh (hb bt cells)
    |row=>rfl
    |gone=>rfl
  ·rw[aqQ h]
theorem Iq(s:AlS)(H:List Item):(stP s H).length=H.length:=by
 unfold stP
 split
 ·rw[asQ]
 ·rfl
theorem YZ{s:AlS}{H:List Item}{k:Nat}{it:Item}(h:s.j≠k):stP s (H.set k it)=(stP s H).set k it:=by
 refine ar6 fun i=>?_
 rw[ja,aqS,aqS,ja,Iq]
 by_cases h1:k=i
 ·subst h1;rw[aqQ (arU h),aqW rfl,aqW rfl]
 ·rw[aqQ h1,aqQ h1]
theorem p6{s p:AlS}(h:EE s p=true):s.i≠p.i∧(s.j≠p.j∨s.off+s.l.length≤p.off∨p.off+p.l.length≤s.off):=by
 simp only[EE,aqB,asa,arC]at h
 obtain⟨h1,h2⟩:=h
 refine⟨fun e=>(by rw[e,asR]at h1;cases h1),?_⟩
 rcases h2 with(h2|h2)|h2
 ·exact .inl fun e=>by rw[e,asR]at h2;cases h2
 ·exact .inr (.inl (aqD h2))
 ·exact .inr (.inr (aqD h2))
theorem Oo{s p:AlS}(h:EE s p=true)(H:List Item):stP s (stP p H)=stP p (stP s H):=by
 obtain⟨_,h⟩:=p6 h
 refine ar6 fun k=>?_
 rw[ja,ja,ja,ja]
 by_cases h1:k=s.j
 ·subst h1
  rw[aqW rfl]
  by_cases h2:s.j=p.j
  ·rw[aqW h2,aqW h2,aqW rfl]
   cases hh:H[s.j]? with
   |none=>rfl
   |some it=>
    cases it with
    |box bt cells=>
     simp only[arl,ovI]
     rw[Ks (by rcases h with h|h|h;exact absurd h2 h;exact .inr h;exact .inl h)]
    |row=>rfl
    |gone=>rfl
  ·rw[aqQ h2,aqQ h2,aqW rfl]
 ·rw[aqQ h1]
  by_cases h2:k=p.j
  ·rw[aqW h2,aqW h2,aqQ h1]
  ·rw[aqQ h2,aqQ h2,aqQ h1]
theorem l6{f:Nat→Bool}{H:List Item}:∀{ss:List AlS},(cq f ss H).length=H.length
 |[]=>rfl
 |s::r=>by
  simp only[cq]
  split
  ·rw[Iq];exact l6
  ·exact l6
theorem vf{f:Nat→Bool}{H:List Item}{k:Nat}{it:Item}:∀{ss:List AlS},(∀s∈ss,f s.i=true→s.j≠k)→cq f ss (H.set k it)=(cq f ss H).set k it
 |[],_=>rfl
 |s::r,h=>by
  have ih:=vf (f:=f) (H:=H) (k:=k) (it:=it) (ss:=r) fun s hs=>h s (by simp[hs])
  simp only[cq]
  split
  ·rename_i h1
   rw[ih,YZ (h s (by simp) h1)]
  ·exact ih
theorem iG{f g:Nat→Bool}{H:List Item}:∀{ss:List AlS},(∀s∈ss,f s.i=g s.i)→cq f ss H=cq g ss H
 |[],_=>rfl
 |s::r,h=>by
  simp only[cq]
  rw[h s (by simp),iG (ss:=r) fun s hs=>h s (by simp[hs])]
theorem jL{f:Nat→Bool}{H:List Item}:∀{ss:List AlS},(∀s∈ss,f s.i=false)→cq f ss H=H
 |[],_=>rfl
 |s::r,h=>by
  simp only[cq]
  rw[h s (by simp)]
  exact jL (ss:=r) fun s hs=>h s (by simp[hs])
theorem H3{f g:Nat→Bool}{H:List Item}{s:AlS}(hg:∀k,g k=if k=s.i then true else f k)(hf:f s.i=false):∀{ss:List AlS},ss.Pairwise (fun s p=>EE s p=true)→s∈ss→cq g ss H=stP s (cq f ss H)
 |[],_,hs=>by cases hs
 |p::r,hp,hs=>by
  obtain⟨h1,h2⟩:=arS.1 hp
  simp only[cq]
  rcases arc.1 hs with e|hs
  ·subst e
   rw[hg s.i,aqW rfl,hf]
   dsimp only
   rw[iG (f:=g) (g:=f) (ss:=r) fun q hq=>by rw[hg,aqQ (arU (p6 (h1 q hq)).1)]]
  ·have hne:=(p6 (h1 s hs)).1
   have ih:=H3 (H:=H) hg hf h2 hs
   rw[hg p.i,aqQ hne,ih]
   split
   ·exact Oo (h1 s hs) _
   ·rfl
theorem BN{f:Nat→Bool}{H:List Item}{k bt:Nat}{cells:List SV}(h:H[k]?=some (.box bt cells)):∀{ss:List AlS},∃cells',(cq f ss H)[k]?=some (.box bt cells')∧cells'.length=cells.length
 |[]=>⟨cells,h,rfl⟩
 |s::r=>by
  obtain⟨c',h1,h2⟩:=BN (f:=f) h (ss:=r)
  simp only[cq]
  split
  ·rw[ja,h1]
   split
   ·exact⟨_,rfl,by rw[u9,h2]⟩
   ·exact⟨c',rfl,h2⟩
  ·exact⟨c',h1,h2⟩
def kG(h0:Nat)(H:List Item):Prop:=∀(k:Nat) (t:TypeId) (cs:List SV),H[k]?=some (.box t cs)→∀s∈cs,s.refs h0=true
theorem CY{h0:Nat}{f:Nat→Bool}{H:List Item}(hH:kG h0 H):∀{ss:List AlS},(∀s∈ss,∀x∈s.l,x.refs h0=true)→kG h0 (cq f ss H)
 |[],_=>hH
 |s::r,h=>by
  have ih:=CY (f:=f) hH (ss:=r) fun s hs=>h s (by simp[hs])
  simp only[cq]
  split
  ·intro k t cs hk x hx
   rw[ja]at hk
   split at hk
   ·cases hh:(cq f r H)[k]? with
    |none=>rw[hh]at hk;cases hk
    |some it=>
     rw[hh]at hk
     cases it with
     |box bt cells=>
      simp only[arl,ovI,aqF,Item.box.injEq]at hk
      obtain⟨rfl,rfl⟩:=hk
      rcases B0 hx with h1|h1
      ·exact ih k _ _ hh x h1
      ·exact h s (by simp) x h1
     |row=>simp[ovI]at hk
     |gone=>simp[ovI]at hk
   ·exact ih k t cs hk x hx
  ·exact ih
theorem oG(f:Nat→Bool)(la:List AlA)(r:Nat):(alX f la)[r]?=la[r]?.map fun a=>match f a.i with
  |true=>.box a.t a.cs
  |false=>.gone:=by
 unfold alX
 rw[arr]
 rfl
abbrev Dis(la:List AlA):Prop:=la.Pairwise fun a b=>a.i≠b.i∧a.d≠b.d
theorem K7{la:List AlA}(h:Dis la){r k:Nat}{a b:AlA}(ha:la[r]?=some a)(hb:la[k]?=some b)(hne:k≠r):b.i≠a.i∧b.d≠a.d:=by
 obtain⟨h1,rfl⟩:=aqG.1 ha
 obtain⟨h2,rfl⟩:=aqG.1 hb
 have hp:=List.pairwise_iff_getElem.1 h
 rcases Nat.lt_or_gt_of_ne hne with h3|h3
 ·exact hp k r h2 h1 h3
 ·have:=hp r k h1 h2 h3
  exact⟨arU this.1,arU this.2⟩
theorem aih{f g:Nat→Bool}{la:List AlA}{r:Nat}{a:AlA}(hd:Dis la)(ha:la[r]?=some a)(hg:∀k,g k=if k=a.i then true else f k):alX g la=(alX f la).set r (.box a.t a.cs):=by
 refine ar6 fun k=>?_
 rw[aqS,oG]
 by_cases h:r=k
 ·subst h
  rw[aqW rfl,ha,aqW (by unfold alX;rw[ask];exact(aqG.1 ha).1)]
  simp only[arl]
  rw[hg,aqW rfl]
 ·rw[aqQ h,oG]
  cases hk:la[k]? with
  |none=>rfl
  |some b=>
   simp only[arl]
   rw[hg,aqQ (K7 hd ha hk (arU h)).1]
theorem DC{f g:Nat→Bool}{la:List AlA}{r:Nat}{a:AlA}{H0:List Item}(hd:Dis la)(ha:la[r]?=some a)(hg:∀k,g k=if k=a.i then true else f k):H0++alX g la=(H0++alX f la).set (H0.length+r) (.box a.t a.cs):=by
 rw[aih hd ha hg,atg,aqQ (by omega),show H0.length+r-H0.length=r by omega]
theorem Ye{h0:Nat}{f:Nat→Bool}{la:List AlA}{H0:List Item}(hH:kG h0 H0)(hla:∀a∈la,∀x∈a.cs,x.refs h0=true):kG h0 (H0++alX f la):=by
 intro k t cs hk x hx
 rcases aqT k H0.length with h|h
 ·rw[aqJ h]at hk
  exact hH k t cs hk x hx
 ·rw[aqK h,oG]at hk
  cases hh:la[k-H0.length]? with
  |none=>rw[hh]at hk;cases hk
  |some a=>
   rw[hh]at hk
   simp only[arl,aqF]at hk
   split at hk
   ·simp only[Item.box.injEq]at hk
    obtain⟨rfl,rfl⟩:=hk
    exact hla a (arp hh) x hx
   ·cases hk
theorem f0{f g:Nat→Bool}{t:Nat}:∀{la:List AlA} {k:Nat} {L M:SL},(∀a∈la,a.d=t→f a.i=g a.i)→aV L t=aV M t→aV (fc f la k L) t=aV (fc g la k M) t
 |[],_,_,_,_,h=>h
 |b::l,k,L,M,hl,h=>by
  simp only[fc]
  refine f0 (fun a ha=>hl a (by simp[ha])) ?_
  by_cases e:b.d=t
  ·rw[←hl b (by simp) e]
   split
   ·rw[dz,dz,aqW e.symm,aqW e.symm]
   ·exact h
  ·have e':t≠b.d:=fun h=>e h.symm
   split<;>split<;>(try rw[dz,aqQ e'])<;>(try rw[dz,aqQ e'])<;>exact h
theorem CP{f:Nat→Bool}{t:Nat}:∀{la:List AlA} {k:Nat} {L:SL},(∀a∈la,a.d≠t)→aV (fc f la k L) t=aV L t
 |[],_,_,_=>rfl
 |b::l,k,L,h=>by
  simp only[fc]
  rw[CP fun a ha=>h a (by simp[ha])]
  split
  ·rw[dz,aqQ (fun e=>h b (by simp) e.symm)]
  ·rfl
theorem zO{f g:Nat→Bool}{a:AlA}(hg:∀k,g k=if k=a.i then true else f k):∀{la:List AlA} {r k:Nat} {L:SL},Dis la→la[r]?=some a→∀t,aV (fc g la k L) t=if t=a.d then some (.box (k+r) 0)else aV (fc f la k L) t
 |[],r,_,_,_,h,_=>by simp at h
 |b::l,0,k,L,hd,h,t=>by
  simp only[ard,aqF]at h
  subst h
  obtain⟨h1,h2⟩:=arS.1 hd
  simp only[fc]
  rw[hg b.i,aqW rfl]
  dsimp only
  by_cases e:t=b.d
  ·subst e
   rw[aqW rfl,CP fun a ha=>arU (h1 a ha).2,dz,aqW rfl,as8]
  ·rw[aqQ e]
   refine f0 (fun a ha _=>by rw[hg,aqQ (arU (h1 a ha).1)]) ?_
   rw[dz,aqQ e]
   split
   ·rw[dz,aqQ e]
   ·rfl
 |b::l,r+1,k,L,hd,h,t=>by
  obtain⟨h1,h2⟩:=arS.1 hd
  rw[aqY]at h
  simp only[fc]
  rw[hg b.i,aqQ (h1 a (arp h)).1,zO hg h2 h t,show k+1+r=k+(r+1) by omega]
theorem Cy{f:Nat→Bool}{t:Nat}{s:SV}:∀{la:List AlA} {k:Nat} {L:SL},aV (fc f la k L) t=some s→(∃r a,la[r]?=some a∧t=a.d∧f a.i=true∧s=.box (k+r) 0)∨aV L t=some s
 |[],_,_,h=>.inr h
 |b::l,k,L,h=>by
  simp only[fc]at h
  rcases Cy h with⟨r,a,h1,h2,h3,h4⟩|h1
  ·exact .inl ⟨r+1,a,by rw[aqY];exact h1,h2,h3,by rw[h4,show k+1+r=k+(r+1) by omega]⟩
  ·split at h1
   ·rename_i hb
    rw[dz]at h1
    split at h1
    ·rename_i e
     injection h1 with h1
     exact .inl ⟨0,b,rfl,e,hb,by rw[←h1,as8]⟩
    ·exact .inr h1
   ·exact .inr h1
theorem lw{T:TT}{N:Nat}:∀{lo:List Oper} {i0:Nat} {la:List AlA},alA T N lo i0=some la→
  (∀q o,lo[q]?=some o→bz o=true→∃(r:Nat) (a:AlA),la[r]?=some a∧a.i=i0+q∧o.dst=some a.d∧a.d<N∧∃x,o.op=.alloc a.t∧c8 T a.t=some x∧x.z=true∧(∀p q,x.ty≠.pair p q)∧a.cs=x.ty.zsplit)∧
  (∀a∈la,i0≤a.i∧∃o,lo[a.i-i0]?=some o∧bz o=true∧∃x,a.cs=Ty.zsplit x)∧Dis la
 |[],_,_,h=>by
  simp only[alA,aqF]at h
  subst h
  exact⟨fun q o h=>(by simp at h),fun a h=>(by cases h),List.Pairwise.nil⟩
 |o::r,i,la,h=>by
  simp only[alA]at h
  have sub:∀{la:List AlA},(∀a∈la,i+1≤a.i∧∃o,r[a.i-(i+1)]?=some o∧bz o=true∧∃x,a.cs=Ty.zsplit x)→∀a∈la,i≤a.i∧∃o',(o::r)[a.i-i]?=some o'∧bz o'=true∧∃x,a.cs=Ty.zsplit x:=fun h a ha=>by
   obtain⟨h1,o',h2,h3⟩:=h a ha
   exact⟨by omega,o',by rw[show a.i-i=(a.i-(i+1))+1 by omega,aqY];exact h2,h3⟩
  split at h
  ·rename_i hal
   obtain⟨h1,h2,h3⟩:=lw h
   refine⟨fun q o' hq ho=>?_,sub h2,h3⟩
   cases q with
   |zero=>simp only[ard,aqF]at hq;subst hq;rw[hal]at ho;cases ho
   |succ q=>
    rw[aqY]at hq
    obtain⟨r',a,k1,k2,k3⟩:=h1 q o' hq ho
    exact⟨r',a,k1,by omega,k3⟩
  ·rename_i hal
   split at h<;>try (cases h;done)
   rename_i t d hop hdst
   split at h<;>try (cases h;done)
   rename_i x l hx hd hl
   split at h<;>try (cases h;done)
   rename_i hz hne
   split at h<;>try (cases h;done)
   rename_i hall
   injection h with h
   subst h
   obtain⟨h1,h2,h3⟩:=lw hl
   refine⟨fun q o' hq ho=>?_,fun a ha=>?_,arS.2 ⟨fun b hb=>?_,h3⟩⟩
   ·cases q with
    |zero=>
     simp only[ard,aqF]at hq
     subst hq
     exact⟨0,_,rfl,rfl,hdst,aqD hd,x,hop,hx,hz,fun p q e=>hne _ _ e,rfl⟩
    |succ q=>
     rw[aqY]at hq
     obtain⟨r',a,k1,k2,k3⟩:=h1 q o' hq ho
     exact⟨r'+1,a,by rw[aqY];exact k1,by omega,k3⟩
   ·rcases arc.1 ha with e|ha
    ·subst e
     exact⟨aqE _,o,by simp,hal,x.ty,rfl⟩
    ·exact sub h2 a ha
   ·have:=aqO.1 hall b hb
    simp only[aqB,arC]at this
    exact⟨fun e=>(by have:=this.1;simp only at e;rw[e,asR]at this;cases this),fun e=>(by have:=this.2;simp only at e;rw[e,asR]at this;cases this)⟩
def Vy(T:TT)(ops:Array Oper)(la:List AlA)(h0:Nat)(La:SL)(Ha:List Item)(s:AlS)(o:Oper):Prop:=
 ∃t x v sv y bt cells,o.op=.store t x v∧o.guard=none∧o.dst=none∧opS La x=some (.box s.j s.off)∧opS La v=some sv∧c8 T t=some y∧fb [] sv=some s.l∧Ha[s.j]?=some (.box bt cells)∧s.l.length=y.ty.n∧s.off+s.l.length≤cells.length∧
  (∀z∈s.l,z.refs h0=true)∧(∀a∈la,(IV x a.d||IV v a.d)=true→fv ops 4 s.i a.i=true)∧FL ops s.i s.j la h0=true
theorem jR{T:TT}{E:Env}{ops:Array Oper}{l:Array Bool}{la:List AlA}{h0:Nat}{La:SL}{Ha:List Item}:∀{lo:List Oper} {i0:Nat} {ss:List AlS},alS T E ops l la h0 La Ha lo i0=some ss→
  (∀q o,lo[q]?=some o→l.getD (i0+q) true=false→bz o=false→ez E o=false→∃s∈ss,s.i=i0+q)∧
  (∀s∈ss,i0≤s.i∧l.getD s.i true=false∧∃o,lo[s.i-i0]?=some o∧bz o=false∧Vy T ops la h0 La Ha s o)∧ss.Pairwise (fun s p=>EE s p=true)
 |[],_,_,h=>by
  simp only[alS,aqF]at h
  subst h
  exact⟨fun q o h=>(by simp at h),fun a h=>(by cases h),List.Pairwise.nil⟩
 |o::r,i,ss,h=>by
  simp only[alS]at h
  have sub:∀{ss:List AlS},(∀s∈ss,i+1≤s.i∧l.getD s.i true=false∧∃o,r[s.i-(i+1)]?=some o∧bz o=false∧Vy T ops la h0 La Ha s o)→∀s∈ss,i≤s.i∧l.getD s.i true=false∧∃o',(o::r)[s.i-i]?=some o'∧bz o'=false∧Vy T ops la h0 La Ha s o':=fun h a ha=>by
   obtain⟨h1,h1',o',h2,h3⟩:=h a ha
   exact⟨by omega,h1',o',by rw[show a.i-i=(a.i-(i+1))+1 by omega,aqY];exact h2,h3⟩
  split at h
  ·rename_i hal
   obtain⟨h1,h2,h3⟩:=jR h
   refine⟨fun q o' hq hu ho ht=>?_,sub h2,h3⟩
   cases q with
   |zero=>
    simp only[ard,aqF]at hq
    subst hq
    rw[show i+0=i from rfl]at hu
    rw[hu,ho,ht]at hal
    cases hal
   |succ q=>
    rw[aqY]at hq
    obtain⟨s,k1,k2⟩:=h1 q o' hq (by rw[show i+1+q=i+(q+1) by omega];exact hu) ho ht
    exact⟨s,k1,by omega⟩
  ·rename_i hal
   simp only[as2]at hal
   split at h<;>try (cases h;done)
   rename_i t x v hop
   split at h<;>try (cases h;done)
   rename_i j off sv y hg hdst hx hv hy
   split at h<;>try (cases h;done)
   rename_i cs bt cells ss' hcs hH hss
   split at h<;>try (cases h;done)
   rename_i hall
   injection h with h
   subst h
   simp only[aqB]at hall
   obtain⟨⟨⟨⟨⟨c1,c2⟩,c3⟩,c4⟩,c5⟩,c6⟩:=hall
   obtain⟨h1,h2,h3⟩:=jR hss
   refine⟨fun q o' hq hu ho ht=>?_,fun s hs=>?_,arS.2 ⟨fun p hp=>aqO.1 c6 p hp,h3⟩⟩
   ·cases q with
    |zero=>exact⟨_,List.mem_cons_self ..,rfl⟩
    |succ q=>
     rw[aqY]at hq
     obtain⟨s,k1,k2⟩:=h1 q o' hq (by rw[show i+1+q=i+(q+1) by omega];exact hu) ho ht
     exact⟨s,by simp[k1],by omega⟩
   ·rcases arc.1 hs with e|hs
    ·subst e
     exact⟨aqE _,hal.1.1,o,by simp,hal.1.2,t,x,v,sv,y,bt,cells,hop,hg,hdst,hx,hv,hy,hcs,hH,aqA c1,aqD c2,aqO.1 c3,fun a ha hw=>by
      have:=aqO.1 c4 a ha
      rw[hw]at this
      simpa using this,c5⟩
    ·exact sub h2 s hs
theorem Am{ops:Array Oper}{i j:Nat}:∀{la:List AlA} {k r:Nat} {a:AlA},FL ops i j la k=true→la[r]?=some a→j=k+r→fv ops 4 i a.i=true
 |[],_,_,_,_,h,_=>by simp at h
 |b::l,k,0,a,h,ha,hj=>by
  simp only[ard,aqF]at ha
  subst ha
  simp only[FL,aqB,asa,arC]at h
  rcases h.1 with h1|h1
  ·rw[hj,as8,asR]at h1;cases h1
  ·exact h1
 |b::l,k,r+1,a,h,ha,hj=>by
  rw[aqY]at ha
  simp only[FL,aqB]at h
  exact Am h.2 ha (by omega)
theorem fp{l:Array Bool}{k:Nat}(h:k<l.size):l.getD k false=l.getD k true:=by simp[h]
theorem vu{ops:Array Oper}{l':Array Bool}(hs:l'.size=ops.size):∀{C:List Nat} {l:Array Bool},FP ops l C=true→(∀k,l.getD k false=true→l'.getD k false=true)→(∃i∈C,l'.getD i true=false)→Region.ready .any ops l'≠[]
 |[],_,_,_,⟨_,h,_⟩=>by cases h
 |i::r,l,h,hsub,⟨k,hk,hu⟩=>by
  simp only[FP,aqB]at h
  obtain⟨h1,h2⟩:=h
  split at h1<;>try (cases h1;done)
  rename_i o ho
  have hlt:i<l'.size:=by rw[hs];exact(aqI.1 ho).1
  cases hi:l'.getD i true with
  |false=>
   intro hr
   have:i∈Region.ready .any ops l':=arE.2 ⟨hi,o,ho,fun e he hb=>by
    have:=aqO.1 h1 e (as0.2 he)
    rw[hb]at this
    exact hsub _ (by simpa using this)⟩
   rw[hr]at this
   cases this
  |true=>
   refine vu hs h2 (fun q hq=>?_) ⟨k,(arc.1 hk).resolve_left fun e=>(by subst e;rw[hi]at hu;cases hu),hu⟩
   by_cases e:i=q
   ·subst e;rw[fp hlt];exact hi
   ·rw[ar7 false e]at hq
    exact hsub q hq
def cu(l:Array Bool):Nat:=l.toList.countP fun b=>!b
theorem xN:∀(l:List Bool) (j:Nat),l[j]?=some false→(l.set j true).countP (fun b=>!b)+1=l.countP (fun b=>!b)
 |[],_,h=>by simp at h
 |b::l,0,h=>by
  simp only[ard,aqF]at h
  subst h
  simp
 |b::l,j+1,h=>by
  rw[aqY]at h
  have:=xN l j h
  rw[List.set_cons_succ]
  cases b<;>simp<;>omega
theorem wz{l:Array Bool}{j:Nat}(h:l.getD j true=false):cu (l.setIfInBounds j true)+1=cu l:=by
 unfold cu
 rw[Array.toList_setIfInBounds]
 refine xN _ _ ?_
 rcases aqT j l.size with hlt|hge
 ·simp[hlt]at h ⊢;exact h
 ·simp[aq8 hge]at h
theorem WO{l:Array Bool}(h:cu l=0)(k:Nat):l.getD k true=true:=by
 rcases aqT k l.size with hlt|hge
 ·have:=List.countP_eq_zero.1 h l[k] (by simp)
  simp[hlt]at this ⊢
  exact this
 ·simp[aq8 hge]
theorem D2(n:Nat):cu (mkL n [])=n:=by
 unfold cu mkL
 rw[Array.toList_replicate,List.countP_replicate]
 simp
end Go.Proofs.YtlahabkjhgkkjaaGreat
end
