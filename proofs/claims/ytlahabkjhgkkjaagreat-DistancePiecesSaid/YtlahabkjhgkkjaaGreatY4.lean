/- The pure machine. -/
import Derived.Test.YtlahabkjhgkkjaaGreatY3
noncomputable section
namespace Go.Proofs.YtlahabkjhgkkjaaGreat
open Go.RowKit Go.IntKind
theorem avE:type_of% @List.getElem?_cons_succ:=@List.getElem?_cons_succ
theorem awg:type_of% @List.pairwise_cons:=@List.pairwise_cons
theorem awm:type_of% @List.getElem?_set_ne:=@List.getElem?_set_ne
theorem awG:type_of% @List.getElem?_set_self:=@List.getElem?_set_self
theorem awW:type_of% @List.length_map:=@List.length_map
theorem axd:type_of% @List.getElem_of_mem:=@List.getElem_of_mem
theorem axt:type_of% @Nat.beq_refl:=@Nat.beq_refl
theorem axB:type_of% @List.all_cons:=@List.all_cons
theorem axD:type_of% @List.drop_eq_nil_iff:=@List.drop_eq_nil_iff
theorem axE:type_of% @Bool.or_eq_false_iff:=@Bool.or_eq_false_iff
theorem axQ:type_of% @List.set_append:=@List.set_append
section
inductive KJ where
 |seq (i:Nat)
 |blk (id:Nat)
 |lp (i:Nat)
structure Fm where
 f:Nat
 K:List KJ
 i:Nat
 k:Nat
 L:SL
 fl:Nat
 d:Option (List Nat):=none
structure Cfg where
 f:Nat
 K:List KJ
 L:SL
 H:List Item
 fl:Nat
 fs:List Fm
def Uv(a b:Nat):Nat:=bif Nat.ble a b then b else a
def SV.ofm:SV→Nat
 |.own j=>j+1
 |.oelt j _ _ _=>j+1
 |.osl j _ _ _=>j+1
 |_=>0
def SV.ofmT:SV→Nat
 |.tup l=>l.foldr (fun s m=>Uv s.ofm m) 0
 |s=>s.ofm
def slM:SL→Nat
 |[]=>0
 |(_,s)::r=>Uv s.ofmT (slM r)
def Fh:List Fm→Nat
 |[]=>0
 |fm::r=>Uv (slM fm.L) (Fh r)
inductive Pos where
 |nrm
 |node (i:Nat)
 |ops (i k:Nat)
 |drw (i:Nat) (rw eff:Bool) (D:List Nat)
 |tam (i:Nat) (D:List Nat)
 |tal (i:Nat) (D:List Nat)
 |tbx (i:Nat) (D:List Nat)
 |ret
abbrev FT:=List (Nat×Func)
def gg:FT→Nat→Option Func
 |[],_=>none
 |(k,x)::r,t=>match Nat.beq k t with
  |true=>some x
  |false=>gg r t
def ao(F:FT)(f:Nat):Code:=match gg F f with
 |some fn=>fn.body.getD .skip
 |none=>.skip
structure NI where
 keep:List Nat
 own:List (Nat×Nat×Ty):=[]
 pure_:List (Nat×Ty):=[]
 bx:List (Nat×Nat×Nat×Ty):=[]
 hl:Nat
abbrev NT:=List ((Nat×Nat)×NI)
def Qu:NT→Nat→Nat→Option NI
 |[],_,_=>none
 |((f,i),x)::r,g,j=>match Nat.beq f g&&Nat.beq i j with
  |true=>some x
  |false=>Qu r g j
def dL(n:Nat)(L:SL):Option Nat→SV→Option SL
 |none,_=>some L
 |some d,s=>match Nat.ble (d+1) n with
  |true=>some ((d,s)::l7 L d)
  |false=>none
def yA(N:NT)(f i:Nat)(L:SL):SL:=match Qu N f i with
 |some x=>fC L x.keep
 |none=>L
def EY(L:SL):List Nat→Option SL
 |[]=>some []
 |t::ts=>match aW L t,EY L ts with
  |some s,some r=>some ((t,s)::r)
  |_,_=>none
def Item.refs(hl:Nat):Item→Bool
 |.box _ cs=>cs.all (SV.refs hl)
 |_=>true
def ob:List (Nat×Nat×Ty)→SL→List Item→Option (SL×List Item)
 |[],L,H=>some (L,H)
 |(t,et,e)::r,L,H=>match aW L t with
  |some .nil=>match Nat.ble 1 e.n with
   |true=>ob r ((t,.own H.length)::l7 L t) (H++[.row et e []])
   |false=>none
  |_=>ob r L H
def jz(fl:Nat):List (Nat×Ty)→SL→List Item→Option (SL×List Item)
 |[],L,H=>some (L,H)
 |(t,e)::r,L,H=>match aW L t with
  |some .nil=>jz fl r ((t,.d (.sl e) [])::l7 L t) H
  |some (.own j)=>match te fl j L H with
   |some (L',H')=>jz fl r L' H'
   |none=>none
  |_=>jz fl r L H
def l6:List (Nat×Nat×Nat×Ty)→List Item→List Item
 |[],H=>H
 |(j,q,et,e)::r,H=>match H[j]? with
  |some (.box t cs)=>match cs[q]?,Nat.ble 1 e.n with
   |some .nil,true=>l6 r ((H.set j (.box t (cs.set q (.own H.length))))++[.row et e []])
   |_,_=>l6 r H
  |_=>l6 r H
def aiQ(x:NI)(c:Cfg):Option Cfg:=match ob x.own c.L (l6 x.bx c.H)with
 |some (L1,H1)=>match jz c.fl x.pure_ L1 H1 with
  |some (L2,H2)=>match EY L2 x.keep with
   |some L3=>match L3.all (fun p=>p.2.refs x.hl)&&(H2.take x.hl).all (Item.refs x.hl)&&Nat.ble c.fl x.hl&&Nat.ble x.hl H2.length with
    |true=>some {c with L:=L3,H:=H2.take x.hl}
    |false=>none
   |none=>none
  |none=>none
 |none=>none
def AI(id:Nat):List KJ→Option (List KJ)
 |[]=>none
 |.blk j::K=>match Nat.beq j id with
  |true=>some K
  |false=>AI id K
 |_::K=>AI id K
def zJ(ops:Array Oper)(eff:Bool)(D:List Nat):List Nat→Option Nat
 |[]=>none
 |j::r=>match ops[j]? with
  |some o=>match isQ o.op&&!(lG o.op&&(eff||!uU ops j))&&o.dst.isSome&&Region.free .any ops (mkL ops.size D) j with
   |true=>some j
   |false=>zJ ops eff D r
  |none=>none
def Da(T:TT)(H:List Item)(L:SL):List ResultVar→Option (List SV)
 |[]=>some []
 |.tmp t::r=>match aW L t,Da T H L r with
  |some s,some l=>some (s::l)
  |_,_=>none
 |.cell ad t::r=>match aW L ad,dH T t,Da T H L r with
  |some (.box j off),some i,some l=>match H[j]? with
   |some (.box _ cells)=>match Kl i.ty (cells.drop off)with
    |some s=>some (s::l)
    |none=>none
   |_=>none
  |_,_,_=>none
def yq(T:TT)(H:List Item)(ss:List SV)(tys:List Nat):Option (List RV):=match ss with
 |[.own j]=>match H[j]? with
  |some (.row et e xs)=>some [.new et e xs]
  |_=>none
 |[.nil]=>match tys with
  |[t]=>match dH T t with
   |some i=>match i.ty with
    |.sl e=>match Nat.ble 1 e.n with
     |true=>some [.new i.el e []]
     |false=>none
    |_=>none
   |none=>none
  |_=>none
 |ss=>match k9 T H ss tys with
  |some l=>outL l
  |none=>none
where outL:List SV→Option (List RV)
 |[]=>some []
 |.d t x::r=>match outL r with
  |some l=>some (.d t x::l)
  |none=>none
 |_=>none
def QO{α:Type}(f:α→α→Bool):List α→List α→Bool
 |[],[]=>true
 |x::l,y::m=>match f x y with
  |true=>QO f l m
  |false=>false
 |_,_=>false
theorem AX{α:Type}{f:α→α→Bool}(hf:∀x y,f x y=true→x=y):∀{l m:List α},QO f l m=true→l=m
 |[],[],_=>rfl
 |x::l,y::m,h=>by
  simp only[QO]at h
  split at h
  ·rename_i h1;rw[hf x y h1,AX hf h]
  ·cases h
 |[],_::_,h=>by cases h
 |_::_,[],h=>by cases h
def Ty.beq:(t:Ty)→t.D→t.D→Bool
 |.int _,x,y=>decide ((x:Int)=y)
 |.bool,x,y=>match x,y with
  |true,true=>true
  |false,false=>true
  |_,_=>false
 |.str,_,_=>false
 |.sl e,x,y=>QO e.beq x y
 |.pair a b,x,y=>match a.beq x.1 y.1 with
  |true=>b.beq x.2 y.2
  |false=>false
 |.st a,x,y=>a.beq x y
theorem Ty.beq_ok:∀(t:Ty) (x y:t.D),t.beq x y=true→x=y
 |.int _,x,y,h=>au0 (p:=(x:Int)=y) h
 |.bool,x,y,h=>by cases x<;>cases y<;>first|rfl|cases h
 |.str,_,_,h=>by cases h
 |.sl e,x,y,h=>AX e.beq_ok h
 |.pair a b,(x1,x2),(y1,y2),h=>by
  simp only[Ty.beq]at h
  split at h
  ·rename_i h1
   rw[a.beq_ok _ _ h1,b.beq_ok _ _ h]
  ·cases h
 |.st a,x,y,h=>a.beq_ok x y h
def RV.beq:RV→RV→Bool
 |.d t x,.d t' y=>match fF t t' x with
  |some z=>t'.beq z y
  |none=>false
 |.new n e xs,.new m e' ys=>match Nat.beq n m,fF (.sl e) (.sl e') xs with
  |true,some z=>Ty.beq (.sl e') z ys
  |_,_=>false
 |_,_=>false
theorem RV.beq_ok:∀(x y:RV),x.beq y=true→x=y
 |.d t x,.d t' y,h=>by
  simp only[RV.beq]at h
  split at h
  ·rename_i z hz
   obtain⟨rfl,rfl⟩:=dV hz
   rw[←Ty.beq_ok _ _ _ h]
  ·cases h
 |.new n e xs,.new m e' ys,h=>by
  simp only[RV.beq]at h
  split at h
  ·rename_i z h1 hz
   obtain⟨he,rfl⟩:=dV hz
   cases he
   rw[←Ty.beq_ok _ _ _ h,au9 h1]
  ·cases h
 |.d _ _,.new _ _ _,h=>by cases h
 |.new _ _ _,.d _ _,h=>by cases h
def atB:Option (List RV)→Option (List RV)→Bool
 |some x,some y=>QO RV.beq x y
 |_,_=>false
def cQ(x y:Option (List RV)):Option (List RV):=match atB x y with
 |true=>x
 |false=>IW x y
theorem au(x:Option (List RV)):cQ x x=x:=by
 unfold cQ
 split
 ·rfl
 ·exact av x
theorem IV{x y:Option (List RV)}{r:List RV}(h:cQ x y=some r):x=some r∧y=some r:=by
 unfold cQ at h
 split at h
 ·rename_i he
  subst h
  cases y with
  |none=>cases he
  |some y=>exact⟨rfl,by rw[AX RV.beq_ok he]⟩
 ·exact As h
inductive Sh where
 |l
 |b (x y:Sh)
def dup:Sh→Option (List RV)→Option (List RV)
 |.l,x=>x
 |.b s t,x=>cQ (dup s x) (dup t x)
theorem aP:∀(s:Sh) (x:Option (List RV)),dup s x=x
 |.l,_=>rfl
 |.b s t,x=>by rw[dup,aP s,aP t,au]
def Oa(f:Nat→Option (List RV)):List Nat→Option (List RV)
 |[]=>none
 |j::rs=>match rs with
  |[]=>f j
  |_::_=>cQ (f j) (Oa f rs)
theorem Au{f:Nat→Option (List RV)}{r:List RV}:∀{rs:List Nat},Oa f rs=some r→∀j∈rs,f j=some r
 |[],h=>by simp[Oa]at h
 |[q],h=>by intro j hj;simp at hj;subst hj;exact h
 |q::q'::rs,h=>by
  have h:cQ (f q) (Oa f (q'::rs))=some r:=h
  have⟨h1,h2⟩:=IV h
  intro j hj
  rcases avz.1 hj with rfl|hj
  ·exact h1
  ·exact Au h2 j hj
def amQ:List SV→SV
 |[s]=>s
 |l=>.tup l
section
variable (P:Program) (F:FT) (T:TT) (E:Env) (N:NT) (Fin:Nat→Cfg→Option (List RV))
def head(i:Nat)(c:Cfg):Option (List RV):=match Qu N c.f i with
 |some x=>match aiQ x c with
  |some c'=>Fin i c'
  |none=>none
 |none=>Fin i c
def ntm(f:Nat):Nat:=match gg F f with
 |some fn=>fn.ntmps
 |none=>0
def rR:Nat→List SV→SL
 |_,[]=>[]
 |k,s::r=>(k,s)::rR (k+1) r
def arn(E:Env)(g:Nat):Bool:=match mi E g with
 |some sp=>match sp.mut_ with
  |some m=>m.bx.isSome
  |none=>false
 |none=>true
def Dy(L:SL)(o:Op):Option (Nat×List SV):=match o with
 |.call ⟨.value f,args,_⟩=>match opS L f with
  |some (.clo g caps)=>match arn E g with
   |false=>none
   |true=>match gg F g,A4 L args.toList with
    | some fn, some ss => match Nat.ble (ss.length + caps.length) fn.ntmps && (!(fn.name == "runtime.NumGoroutine") && fn.body.isSome) with
     |true=>some (g,ss++caps.map fun j=>.box j 0)
     |false=>none
    |_,_=>none
  |_=>none
 |_=>none
def Td(L:SL)(ops:Array Oper)(D:List Nat):Option Nat:=match cq E ops&&!(ops.toList.any bJ),Region.ready .any ops (mkL ops.size D)with
 |true,[j]=>match ops[j]? with
  |some o=>match isQ o.op,Dy F E L o.op,Nat.ble (D.length+1) ops.size with
   |false,some _,true=>some j
   |_,_,_=>none
  |none=>none
 |_,_=>none
def go:Nat→Cfg→Pos→Option (List RV)
 |0,_,_=>none
 |m+1,c,p=>match p with
  |.nrm=>match c.K with
   |[]=>go m c .ret
   |.seq j::K=>go m {c with K:=K} (.node j)
   |.blk _::K=>go m {c with K:=K} .nrm
   |.lp i::K=>head N Fin i {c with K:=K}
  |.node i=>match nth (ao F c.f) i with
   |.skip=>go m c .nrm
   |.seq a _=>go m {c with K:=.seq (i+1+Code.size a)::c.K} (.node (i+1))
   |.block id _=>go m {c with K:=.blk id::c.K} (.node (i+1))
   |.exit id=>match AI id c.K with
    |some K=>go m {c with K:=K} .nrm
    |none=>none
   |.ret=>go m c .ret
   |.cond x a _=>match opS c.L x with
    |some (.d .bool b)=>match b with
     |true=>go m c (.node (i+1))
     |false=>go m c (.node (i+1+Code.size a))
    |_=>none
   |.loop _=>head N Fin i c
   |.region _ _ false=>go m c (.ops i 0)
   |.region _ ops true=>match Region.noSelect ops with
    |true=>match agJ E ops with
     |true=>match ops.toList.any (aoc E)with
      |true=>go m c (.tbx i [])
      |false=>go m c (.tam i [])
     |false=>go m c (.drw i (!(ops.any fun o=>mq o.op)) false [])
    |false=>none
   |_=>none
  |.ops i k=>match(aq (nth (ao F c.f) i))[k]? with
   |none=>go m c .nrm
   |some o=>cH (aq (nth (ao F c.f) i)) c.L o
     (fun L=>match isQ o.op with
      |true=>match fzB (Fh c.fs) o L c.H with
       |some (L1,H1)=>qop P T true L1 H1 o fun s=>match dL (ntm F c.f) L1 o.dst s with
        |some L'=>go m {c with L:=L',H:=H1} (.ops i (k+1))
        |none=>none
       |none=>none
      |false=>match Dy F E L o.op with
       |some (g,ss)=>go m {f:=g,K:=[],L:=rR 0 ss,H:=c.H,fl:=c.H.length,fs:={f:=c.f,K:=c.K,i:=i,k:=k,L:=yA N c.f i L,fl:=c.fl}::c.fs} (.node 0)
       |none=>eop T E (Fh c.fs) L c.H o fun s H' L1=>match dL (ntm F c.f) L1 o.dst s with
        |some L'=>go m {c with L:=L',H:=H'} (.ops i (k+1))
        |none=>none)
     (fun L=>match dL (ntm F c.f) L o.dst .undef with
      |some L'=>go m {c with L:=L'} (.ops i (k+1))
      |none=>none)
  |.drw i rw eff D=>match agv E (aq (nth (ao F c.f) i)) (mkL (aq (nth (ao F c.f) i)).size D)with
   |true=>go m c (.tal i D)
   |false=>match Region.ready .any (aq (nth (ao F c.f) i)) (mkL (aq (nth (ao F c.f) i)).size D)with
   |[]=>go m c .nrm
   |rs=>match Nat.ble (D.length+1) (aq (nth (ao F c.f) i)).size with
    |false=>none
    |true=>match zJ (aq (nth (ao F c.f) i)) eff D rs with
     |some j=>match(aq (nth (ao F c.f) i))[j]? with
      |none=>none
      |some o=>cH (aq (nth (ao F c.f) i)) c.L o
       (fun L=>qop P T rw L c.H o fun s=>match dL (ntm F c.f) L o.dst s with
        |some L'=>go m {c with L:=L'} (.drw i rw eff (j::D))
        |none=>none)
       (fun L=>match dL (ntm F c.f) L o.dst .undef with
        |some L'=>go m {c with L:=L'} (.drw i rw eff (j::D))
        |none=>none)
     |none=>Oa (fun j=>match(aq (nth (ao F c.f) i))[j]? with
       |none=>none
       |some o=>cH (aq (nth (ao F c.f) i)) c.L o
        (fun L=>match isQ o.op with
         |true=>qop P T true L c.H o fun s=>match dL (ntm F c.f) L o.dst s with
          |some L'=>go m {c with L:=L'} (.drw i rw eff (j::D))
          |none=>none
         |false=>match wV E L o.op||(mq o.op&&rw)with
          |true=>none
          |false=>eop T E (Fh c.fs) L c.H o fun s H' L1=>match dL (ntm F c.f) L1 o.dst s with
           |some L'=>go m {c with L:=L',H:=H'} (.drw i rw true (j::D))
           |none=>none)
        (fun L=>match dL (ntm F c.f) L o.dst .undef with
         |some L'=>go m {c with L:=L'} (.drw i rw (eff||dB o.op) (j::D))
         |none=>none)) rs
  |.tam i D=>match eW E (aq (nth (ao F c.f) i)) (mkL (aq (nth (ao F c.f) i)).size D)with
   |true=>match Td F E c.L (aq (nth (ao F c.f) i)) D with
    |some j=>match(aq (nth (ao F c.f) i))[j]? with
     |some o=>cH (aq (nth (ao F c.f) i)) c.L o
      (fun L=>match Dy F E L o.op with
       |some (g,ss)=>go m {f:=g,K:=[],L:=rR 0 ss,H:=c.H,fl:=c.H.length,fs:={f:=c.f,K:=c.K,i:=i,k:=j,L:=yA N c.f i L,fl:=c.fl,d:=some (j::D)}::c.fs} (.node 0)
       |none=>none)
      (fun L=>match dL (ntm F c.f) L o.dst .undef with
       |some L'=>go m {c with L:=L'} (.tal i (j::D))
       |none=>none)
     |none=>none
    |none=>match u9 E (aq (nth (ao F c.f) i))with
    |true=>match acs T E (ntm F c.f) (aq (nth (ao F c.f) i)) (mkL (aq (nth (ao F c.f) i)).size D) c.L c.H with
     |some (L',H',C)=>match Nat.ble (C++D).length (aq (nth (ao F c.f) i)).size with
      |true=>go m {c with L:=L',H:=H'} (.drw i true true (C++D))
      |false=>none
     |none=>match(aq (nth (ao F c.f) i)).toList.any bJ||!(cq E (aq (nth (ao F c.f) i)))with
      |true=>none
      |false=>go m c (.drw i (!((aq (nth (ao F c.f) i)).any fun o=>mq o.op)) false D)
    |false=>match(aq (nth (ao F c.f) i)).toList.any bJ||!(cq E (aq (nth (ao F c.f) i)))with
     |true=>none
     |false=>go m c (.drw i (!((aq (nth (ao F c.f) i)).any fun o=>mq o.op)) false D)
   |false=>match Nat.ble (D.length+1) (aq (nth (ao F c.f) i)).size,zK E (aq (nth (ao F c.f) i)) D (Region.ready .any (aq (nth (ao F c.f) i)) (mkL (aq (nth (ao F c.f) i)).size D))with
    |true,some j=>match(aq (nth (ao F c.f) i))[j]? with
     |some o=>cH (aq (nth (ao F c.f) i)) c.L o
      (fun L=>tq P T E (fC L (o.looksAt (aq (nth (ao F c.f) i)))) c.H o fun s=>match dL (ntm F c.f) L o.dst s,s.refsT c.H.length with
       |some L',true=>go m {c with L:=L'} (.tam i (j::D))
       |_,_=>none)
      (fun L=>match dL (ntm F c.f) L o.dst .undef with
       |some L'=>go m {c with L:=L'} (.tam i (j::D))
       |none=>none)
     |none=>none
    |_,_=>none
  |.tbx i D=>match eW E (aq (nth (ao F c.f) i)) (mkL (aq (nth (ao F c.f) i)).size D)with
   |true=>match cq E (aq (nth (ao F c.f) i))with
    |true=>go m c (.tam i D)
    |false=>none
   |false=>match Nat.ble (D.length+1) (aq (nth (ao F c.f) i)).size,zu E (aq (nth (ao F c.f) i)) D (Region.ready .any (aq (nth (ao F c.f) i)) (mkL (aq (nth (ao F c.f) i)).size D))with
    |true,some j=>match(aq (nth (ao F c.f) i))[j]? with
     |some o=>cH (aq (nth (ao F c.f) i)) c.L o
      (fun L=>match bxC E (fC L (o.looksAt (aq (nth (ao F c.f) i)))) c.H o with
       |some (q,s,b)=>match dL (ntm F c.f) L o.dst s,s.refsT c.H.length with
        |some L',true=>go m {c with L:=L',H:=jJ q b c.H} (.tbx i (j::D))
        |_,_=>none
       |none=>tq P T E (fC L (o.looksAt (aq (nth (ao F c.f) i)))) (c.H.map ddI) o fun s=>match dL (ntm F c.f) L o.dst s,s.refsT c.H.length with
        |some L',true=>go m {c with L:=L'} (.tbx i (j::D))
        |_,_=>none)
      (fun L=>match dL (ntm F c.f) L o.dst .undef with
       |some L'=>go m {c with L:=L'} (.tbx i (j::D))
       |none=>none)
     |none=>none
    |_,_=>none
  |.tal i D=>match Region.ready .any (aq (nth (ao F c.f) i)) (mkL (aq (nth (ao F c.f) i)).size D)with
   |[]=>go m c .nrm
   |rs=>match Nat.ble (D.length+1) (aq (nth (ao F c.f) i)).size,yK E (aq (nth (ao F c.f) i)) D rs with
    |true,some j=>match(aq (nth (ao F c.f) i))[j]? with
     |some o=>cH (aq (nth (ao F c.f) i)) c.L o
      (fun L=>tq P T E (fC L (o.looksAt (aq (nth (ao F c.f) i)))) c.H o fun s=>match dL (ntm F c.f) L o.dst s,s.refsT c.H.length with
       |some L',true=>go m {c with L:=L'} (.tal i (j::D))
       |_,_=>none)
      (fun L=>match dL (ntm F c.f) L o.dst .undef with
       |some L'=>go m {c with L:=L'} (.tal i (j::D))
       |none=>none)
     |none=>none
    |_,_=>none
  |.ret=>match gg F c.f with
   |some fn=>match Da T c.H c.L fn.results.toList with
    |some ss=>match c.fs with
     |[]=>yq T c.H ss fn.resultTypes.toList
     |fm::fs=>match(aq (nth (ao F fm.f) fm.i))[fm.k]? with
      |some o=>match dL (ntm F fm.f) fm.L o.dst (amQ ss),ss.all SV.good with
       |some L',true=>match fm.d with
        |none=>go m {f:=fm.f,K:=fm.K,L:=L',H:=c.H,fl:=fm.fl,fs:=fs} (.ops fm.i (fm.k+1))
        |some D=>go m {f:=fm.f,K:=fm.K,L:=L',H:=c.H,fl:=fm.fl,fs:=fs} (.tal fm.i D)
       |_,_=>none
      |none=>none
    |none=>none
   |none=>none
end
def frc{R:Type}(n:Nat)(k:Nat→R):R:=match n with
 |0=>k 0
 |n+1=>k (n+1)
theorem pS{R:Type}(n:Nat)(k:Nat→R):frc n k=k n:=by cases n<;>rfl
def anx(_P:Program)(_F:FT)(_T:TT)(_E:Env)(N:NT)(Fin:Nat→Cfg→Option (List RV))(rec:Cfg→Pos→Option (List RV))(f:Nat)(K:List KJ)(L:SL)(H:List Item)(fl:Nat)(fs:List Fm):Option (List RV):=match K with
 |[]=>rec ⟨f,[],L,H,fl,fs⟩ .ret
 |.seq j::K=>rec ⟨f,K,L,H,fl,fs⟩ (.node j)
 |.blk _::K=>rec ⟨f,K,L,H,fl,fs⟩ .nrm
 |.lp i::K=>head N Fin i ⟨f,K,L,H,fl,fs⟩
def RJ(_P:Program)(F:FT)(_T:TT)(E:Env)(N:NT)(Fin:Nat→Cfg→Option (List RV))(rec:Cfg→Pos→Option (List RV))(f:Nat)(K:List KJ)(L:SL)(H:List Item)(fl:Nat)(fs:List Fm)(i:Nat):Option (List RV):=match nth (ao F f) i with
 |.skip=>rec ⟨f,K,L,H,fl,fs⟩ .nrm
 |.seq a _=>frc (i+1+Code.size a) fun j=>frc (i+1) fun i'=>rec ⟨f,.seq j::K,L,H,fl,fs⟩ (.node i')
 |.block id _=>frc (i+1) fun i'=>rec ⟨f,.blk id::K,L,H,fl,fs⟩ (.node i')
 |.exit id=>match AI id K with
  |some K=>rec ⟨f,K,L,H,fl,fs⟩ .nrm
  |none=>none
 |.ret=>rec ⟨f,K,L,H,fl,fs⟩ .ret
 |.cond x a _=>match opS L x with
  |some (.d .bool b)=>match b with
   |true=>frc (i+1) fun i'=>rec ⟨f,K,L,H,fl,fs⟩ (.node i')
   |false=>frc (i+1+Code.size a) fun j=>rec ⟨f,K,L,H,fl,fs⟩ (.node j)
  |_=>none
 |.loop _=>head N Fin i ⟨f,K,L,H,fl,fs⟩
 |.region _ _ false=>rec ⟨f,K,L,H,fl,fs⟩ (.ops i 0)
 |.region _ ops true=>match Region.noSelect ops with
  |true=>match agJ E ops with
   |true=>match ops.toList.any (aoc E)with
    |true=>rec ⟨f,K,L,H,fl,fs⟩ (.tbx i [])
    |false=>rec ⟨f,K,L,H,fl,fs⟩ (.tam i [])
   |false=>rec ⟨f,K,L,H,fl,fs⟩ (.drw i (!(ops.any fun o=>mq o.op)) false [])
  |false=>none
 |_=>none
def ahQ(P:Program)(F:FT)(T:TT)(E:Env)(N:NT)(_Fin:Nat→Cfg→Option (List RV))(rec:Cfg→Pos→Option (List RV))(f:Nat)(K:List KJ)(L:SL)(H:List Item)(fl:Nat)(fs:List Fm)(i k:Nat):Option (List RV):=match(aq (nth (ao F f) i))[k]? with
   |none=>rec ⟨f,K,L,H,fl,fs⟩ .nrm
   |some o=>cH (aq (nth (ao F f) i)) L o
     (fun L=>match isQ o.op with
      |true=>match fzB (Fh fs) o L H with
       |some (L1,H1)=>qop P T true L1 H1 o fun s=>match dL (ntm F f) L1 o.dst s with
        |some L'=>frc (k+1) fun k'=>rec ⟨f,K,L',H1,fl,fs⟩ (.ops i k')
        |none=>none
       |none=>none
      |false=>match Dy F E L o.op with
       |some (g,ss)=>rec ⟨g,[],rR 0 ss,H,H.length,⟨f,K,i,k,yA N f i L,fl,none⟩::fs⟩ (.node 0)
       |none=>eop T E (Fh fs) L H o fun s H' L1=>match dL (ntm F f) L1 o.dst s with
        |some L'=>frc (k+1) fun k'=>rec ⟨f,K,L',H',fl,fs⟩ (.ops i k')
        |none=>none)
     (fun L=>match dL (ntm F f) L o.dst .undef with
      |some L'=>frc (k+1) fun k'=>rec ⟨f,K,L',H,fl,fs⟩ (.ops i k')
      |none=>none)
def ahP(P:Program)(F:FT)(T:TT)(E:Env)(_N:NT)(_Fin:Nat→Cfg→Option (List RV))(rec:Cfg→Pos→Option (List RV))(f:Nat)(K:List KJ)(L:SL)(H:List Item)(fl:Nat)(fs:List Fm)(i:Nat)(rw eff:Bool)(D:List Nat):Option (List RV):=match agv E (aq (nth (ao F f) i)) (mkL (aq (nth (ao F f) i)).size D)with
   |true=>rec ⟨f,K,L,H,fl,fs⟩ (.tal i D)
   |false=>match Region.ready .any (aq (nth (ao F f) i)) (mkL (aq (nth (ao F f) i)).size D)with
   |[]=>rec ⟨f,K,L,H,fl,fs⟩ .nrm
   |rs=>match Nat.ble (D.length+1) (aq (nth (ao F f) i)).size with
    |false=>none
    |true=>match zJ (aq (nth (ao F f) i)) eff D rs with
     |some j=>match(aq (nth (ao F f) i))[j]? with
      |none=>none
      |some o=>cH (aq (nth (ao F f) i)) L o
       (fun L=>qop P T rw L H o fun s=>match dL (ntm F f) L o.dst s with
        |some L'=>frc j fun j'=>rec ⟨f,K,L',H,fl,fs⟩ (.drw i rw eff (j'::D))
        |none=>none)
       (fun L=>match dL (ntm F f) L o.dst .undef with
        |some L'=>frc j fun j'=>rec ⟨f,K,L',H,fl,fs⟩ (.drw i rw eff (j'::D))
        |none=>none)
     |none=>Oa (fun j=>match(aq (nth (ao F f) i))[j]? with
       |none=>none
       |some o=>cH (aq (nth (ao F f) i)) L o
        (fun L=>match isQ o.op with
         |true=>qop P T true L H o fun s=>match dL (ntm F f) L o.dst s with
          |some L'=>frc j fun j'=>rec ⟨f,K,L',H,fl,fs⟩ (.drw i rw eff (j'::D))
          |none=>none
         |false=>match wV E L o.op||(mq o.op&&rw)with
          |true=>none
          |false=>eop T E (Fh fs) L H o fun s H' L1=>match dL (ntm F f) L1 o.dst s with
           |some L'=>frc j fun j'=>rec ⟨f,K,L',H',fl,fs⟩ (.drw i rw true (j'::D))
           |none=>none)
        (fun L=>match dL (ntm F f) L o.dst .undef with
         |some L'=>frc j fun j'=>rec ⟨f,K,L',H,fl,fs⟩ (.drw i rw (eff||dB o.op) (j'::D))
         |none=>none)) rs
def agy(P:Program)(F:FT)(T:TT)(E:Env)(N:NT)(_Fin:Nat→Cfg→Option (List RV))(rec:Cfg→Pos→Option (List RV))(f:Nat)(K:List KJ)(L:SL)(H:List Item)(fl:Nat)(fs:List Fm)(i:Nat)(D:List Nat):Option (List RV):=match eW E (aq (nth (ao F f) i)) (mkL (aq (nth (ao F f) i)).size D)with
   |true=>match Td F E L (aq (nth (ao F f) i)) D with
    |some j=>match(aq (nth (ao F f) i))[j]? with
     |some o=>cH (aq (nth (ao F f) i)) L o
      (fun L=>match Dy F E L o.op with
       |some (g,ss)=>frc j fun j'=>rec ⟨g,[],rR 0 ss,H,H.length,⟨f,K,i,j',yA N f i L,fl,some (j'::D)⟩::fs⟩ (.node 0)
       |none=>none)
      (fun L=>match dL (ntm F f) L o.dst .undef with
       |some L'=>frc j fun j'=>rec ⟨f,K,L',H,fl,fs⟩ (.tal i (j'::D))
       |none=>none)
     |none=>none
    |none=>match u9 E (aq (nth (ao F f) i))with
    |true=>match acs T E (ntm F f) (aq (nth (ao F f) i)) (mkL (aq (nth (ao F f) i)).size D) L H with
     |some (L',H',C)=>match Nat.ble (C++D).length (aq (nth (ao F f) i)).size with
      |true=>rec ⟨f,K,L',H',fl,fs⟩ (.drw i true true (C++D))
      |false=>none
     |none=>match(aq (nth (ao F f) i)).toList.any bJ||!(cq E (aq (nth (ao F f) i)))with
      |true=>none
      |false=>rec ⟨f,K,L,H,fl,fs⟩ (.drw i (!((aq (nth (ao F f) i)).any fun o=>mq o.op)) false D)
    |false=>match(aq (nth (ao F f) i)).toList.any bJ||!(cq E (aq (nth (ao F f) i)))with
     |true=>none
     |false=>rec ⟨f,K,L,H,fl,fs⟩ (.drw i (!((aq (nth (ao F f) i)).any fun o=>mq o.op)) false D)
   |false=>match Nat.ble (D.length+1) (aq (nth (ao F f) i)).size,zK E (aq (nth (ao F f) i)) D (Region.ready .any (aq (nth (ao F f) i)) (mkL (aq (nth (ao F f) i)).size D))with
    |true,some j=>match(aq (nth (ao F f) i))[j]? with
     |some o=>cH (aq (nth (ao F f) i)) L o
      (fun L=>tq P T E (fC L (o.looksAt (aq (nth (ao F f) i)))) H o fun s=>match dL (ntm F f) L o.dst s,s.refsT H.length with
       |some L',true=>frc j fun j'=>rec ⟨f,K,L',H,fl,fs⟩ (.tam i (j'::D))
       |_,_=>none)
      (fun L=>match dL (ntm F f) L o.dst .undef with
       |some L'=>frc j fun j'=>rec ⟨f,K,L',H,fl,fs⟩ (.tam i (j'::D))
       |none=>none)
     |none=>none
    |_,_=>none
def ahW(P:Program)(F:FT)(T:TT)(E:Env)(_N:NT)(_Fin:Nat→Cfg→Option (List RV))(rec:Cfg→Pos→Option (List RV))(f:Nat)(K:List KJ)(L:SL)(H:List Item)(fl:Nat)(fs:List Fm)(i:Nat)(D:List Nat):Option (List RV):=match Region.ready .any (aq (nth (ao F f) i)) (mkL (aq (nth (ao F f) i)).size D)with
   |[]=>rec ⟨f,K,L,H,fl,fs⟩ .nrm
   |rs=>match Nat.ble (D.length+1) (aq (nth (ao F f) i)).size,yK E (aq (nth (ao F f) i)) D rs with
    |true,some j=>match(aq (nth (ao F f) i))[j]? with
     |some o=>cH (aq (nth (ao F f) i)) L o
      (fun L=>tq P T E (fC L (o.looksAt (aq (nth (ao F f) i)))) H o fun s=>match dL (ntm F f) L o.dst s,s.refsT H.length with
       |some L',true=>frc j fun j'=>rec ⟨f,K,L',H,fl,fs⟩ (.tal i (j'::D))
       |_,_=>none)
      (fun L=>match dL (ntm F f) L o.dst .undef with
       |some L'=>frc j fun j'=>rec ⟨f,K,L',H,fl,fs⟩ (.tal i (j'::D))
       |none=>none)
     |none=>none
    |_,_=>none
def ahg(P:Program)(F:FT)(T:TT)(E:Env)(_N:NT)(_Fin:Nat→Cfg→Option (List RV))(rec:Cfg→Pos→Option (List RV))(f:Nat)(K:List KJ)(L:SL)(H:List Item)(fl:Nat)(fs:List Fm)(i:Nat)(D:List Nat):Option (List RV):=match eW E (aq (nth (ao F f) i)) (mkL (aq (nth (ao F f) i)).size D)with
   |true=>match cq E (aq (nth (ao F f) i))with
    |true=>rec ⟨f,K,L,H,fl,fs⟩ (.tam i D)
    |false=>none
   |false=>match Nat.ble (D.length+1) (aq (nth (ao F f) i)).size,zu E (aq (nth (ao F f) i)) D (Region.ready .any (aq (nth (ao F f) i)) (mkL (aq (nth (ao F f) i)).size D))with
    |true,some j=>match(aq (nth (ao F f) i))[j]? with
     |some o=>cH (aq (nth (ao F f) i)) L o
      (fun L=>match bxC E (fC L (o.looksAt (aq (nth (ao F f) i)))) H o with
       |some (q,s,b)=>match dL (ntm F f) L o.dst s,s.refsT H.length with
        |some L',true=>frc j fun j'=>rec ⟨f,K,L',jJ q b H,fl,fs⟩ (.tbx i (j'::D))
        |_,_=>none
       |none=>tq P T E (fC L (o.looksAt (aq (nth (ao F f) i)))) (H.map ddI) o fun s=>match dL (ntm F f) L o.dst s,s.refsT H.length with
        |some L',true=>frc j fun j'=>rec ⟨f,K,L',H,fl,fs⟩ (.tbx i (j'::D))
        |_,_=>none)
      (fun L=>match dL (ntm F f) L o.dst .undef with
       |some L'=>frc j fun j'=>rec ⟨f,K,L',H,fl,fs⟩ (.tbx i (j'::D))
       |none=>none)
     |none=>none
    |_,_=>none
def afW(_P:Program)(F:FT)(T:TT)(_E:Env)(_N:NT)(_Fin:Nat→Cfg→Option (List RV))(rec:Cfg→Pos→Option (List RV))(f:Nat)(_K:List KJ)(L:SL)(H:List Item)(_fl:Nat)(fs:List Fm):Option (List RV):=match gg F f with
   |some fn=>match Da T H L fn.results.toList with
    |some ss=>match fs with
     |[]=>yq T H ss fn.resultTypes.toList
     |⟨g,K2,i,k,L2,fl2,d⟩::fs=>match(aq (nth (ao F g) i))[k]? with
      |some o=>match dL (ntm F g) L2 o.dst (amQ ss),ss.all SV.good with
       |some L',true=>match d with
        |none=>frc (k+1) fun k'=>rec ⟨g,K2,L',H,fl2,fs⟩ (.ops i k')
        |some D=>rec ⟨g,K2,L',H,fl2,fs⟩ (.tal i D)
       |_,_=>none
      |none=>none
    |none=>none
   |none=>none
def stC(P:Program)(F:FT)(T:TT)(E:Env)(N:NT)(Fin:Nat→Cfg→Option (List RV))(rec:Cfg→Pos→Option (List RV))(f:Nat)(K:List KJ)(L:SL)(H:List Item)(fl:Nat)(fs:List Fm)(p:Pos):Option (List RV):=match p with
 |.nrm=>anx P F T E N Fin rec f K L H fl fs
 |.node i=>RJ P F T E N Fin rec f K L H fl fs i
 |.ops i k=>ahQ P F T E N Fin rec f K L H fl fs i k
 |.drw i rw eff D=>ahP P F T E N Fin rec f K L H fl fs i rw eff D
 |.tam i D=>agy P F T E N Fin rec f K L H fl fs i D
 |.tal i D=>ahW P F T E N Fin rec f K L H fl fs i D
 |.tbx i D=>ahg P F T E N Fin rec f K L H fl fs i D
 |.ret=>afW P F T E N Fin rec f K L H fl fs
theorem amd(P:Program)(F:FT)(T:TT)(E:Env)(N:NT)(Fin:Nat→Cfg→Option (List RV))(m f:Nat)(K:List KJ)(L:SL)(H:List Item)(fl:Nat)(fs:List Fm)(p:Pos):go P F T E N Fin (m+1) ⟨f,K,L,H,fl,fs⟩ p=stC P F T E N Fin (go P F T E N Fin m) f K L H fl fs p:=by
 cases p with
 |nrm=>cases K with
  |nil=>rfl
  |cons x K=>cases x<;>rfl
 |node i=>rw[go,stC,RJ];simp only[pS]
 |ops i k=>rw[go,stC,ahQ];simp only[pS]
 |drw i rw' eff D=>rw[go,stC,ahP];simp only[pS]
 |tam i D=>rw[go,stC,agy];simp only[pS]
 |tal i D=>rw[go,stC,ahW];simp only[pS]
 |tbx i D=>rw[go,stC,ahg];simp only[pS]
 |ret=>rw[go,stC,afW];simp only[pS];cases fs<;>rfl
def go2(P:Program)(F:FT)(T:TT)(E:Env)(N:NT)(Fin:Nat→Cfg→Option (List RV)):Nat→Cfg→Pos→Option (List RV)
 |0,_,_=>none
 |m+1,⟨f,K,L,H,fl,fs⟩,p=>stC P F T E N Fin (go2 P F T E N Fin m) f K L H fl fs p
theorem Bs(P:Program)(F:FT)(T:TT)(E:Env)(N:NT)(Fin:Nat→Cfg→Option (List RV)):∀(m:Nat) (c:Cfg) (p:Pos),go2 P F T E N Fin m c p=go P F T E N Fin m c p
 |0,_,_=>rfl
 |m+1,⟨f,K,L,H,fl,fs⟩,p=>by
  have h:go2 P F T E N Fin m=go P F T E N Fin m:=funext fun c=>funext fun p=>Bs P F T E N Fin m c p
  rw[go2,amd,h]
def run(P:Program)(F:FT)(T:TT)(E:Env)(N:NT):Nat→Nat→Cfg→Option (List RV)
 |0,_,_=>none
 |n+1,i,c=>go P F T E N (run P F T E N n) 4000 {c with K:=.lp i::c.K} (.node (i+1))
def Eb(f:Nat)(args:List SV):Cfg:={f:=f,K:=[],L:=rR 0 args,H:=[],fl:=0,fs:=[]}
def Runs(P:Program)(F:FT)(T:TT)(E:Env)(N:NT)(i:Nat)(c:Cfg)(r:List RV):Prop:=∃n,run P F T E N n i c=some r
end
section
def InLoop(P:Program)(c:Code)(Q:Exit→Act→World→Prop)(a:Act)(w:World):Prop:=
 ∀(b:Frame) (k:List Go.Item) (cs:List Frame),∃e a' w',Q e a' w'∧Arrives P (lone (b.at a (.code c:: .inLoop c::k)) cs w) b k cs e a' w'
section
variable {P:Program} {c:Code} {Q:Exit→Act→World→Prop} {a:Act} {w:World}
theorem InLoop.wp(h:InLoop P c Q a w):(Code.loop c).wp P Q a w:=by
 intro b k cs
 obtain⟨e,a',w',hq,harr⟩:=h b k cs
 exact⟨e,a',w',hq,.of_steps (.one step_loop) harr⟩
theorem InLoop.step(h:c.wp P (Exit.then (InLoop P c Q) Q) a w):InLoop P c Q a w:=by
 intro b k cs
 obtain⟨e,a₁,w₁,hq,harr⟩:=h b (.inLoop c::k) cs
 cases e with
 |normal=>
  obtain⟨e₂,a₂,w₂,hq₂,harr₂⟩:=hq b k cs
  exact⟨e₂,a₂,w₂,hq₂,.of_steps (Steps.trans harr (.one step_inLoop)) harr₂⟩
 |exit id=>exact⟨_,a₁,w₁,hq,.pass (x:=.inLoop c) rfl (fun _ _=>.inl (by simp)) harr⟩
 |goto l=>exact⟨_,a₁,w₁,hq,.pass (x:=.inLoop c) rfl (fun _ _=>.inl (by simp)) harr⟩
 |ret=>exact⟨_,a₁,w₁,hq,.pass (x:=.inLoop c) rfl (fun _ _=>.inl (by simp)) harr⟩
 |panic ch=>exact⟨_,a₁,w₁,hq,.pass (x:=.inLoop c) rfl (fun _ _=>.inl (by simp)) harr⟩
 |outgrown=>exact⟨_,a₁,w₁,hq,.pass (x:=.inLoop c) rfl (fun _ _=>.inl (by simp)) harr⟩
end
theorem kX:∀c:Code,0<Code.size c:=by intro c;cases c<;>simp[Code.size]
theorem Wt:∀(B:Code) (i:Nat),Code.size B≤i→nth B i=.skip:=by
 intro B
 induction B with
 |seq a b iha ihb=>
  intro i h
  simp only[Code.size]at h
  cases i with
  |zero=>omega
  |succ i=>
   simp only[nth]
   split
   ·rename_i hb;have:=avc hb;omega
   ·exact ihb _ (by omega)
 |cond x a b iha ihb=>
  intro i h
  simp only[Code.size]at h
  cases i with
  |zero=>omega
  |succ i=>
   simp only[nth]
   split
   ·rename_i hb;have:=avc hb;omega
   ·exact ihb _ (by omega)
 |block id c ih=>intro i h;simp only[Code.size]at h;cases i with|zero=>omega|succ i=>exact ih _ (by omega)
 |loop c ih=>intro i h;simp only[Code.size]at h;cases i with|zero=>omega|succ i=>exact ih _ (by omega)
 |scope c ih=>intro i h;simp only[Code.size]at h;cases i with|zero=>omega|succ i=>exact ih _ (by omega)
 |_=>intro i h;simp only[Code.size]at h;cases i with|zero=>omega|succ i=>rfl
theorem Jl(a b:Code)(i:Nat):(match Nat.ble (i+1) (Code.size a)with|true=>nth a i|false=>nth b (i-Code.size a))=if i<Code.size a then nth a i else nth b (i-Code.size a):=by
 by_cases h:i<Code.size a
 ·rw[avr h,avx h]
 ·rw[avn h]
  cases hb:Nat.ble (i+1) (Code.size a)with
  |true=>exact absurd (avc hb) (by omega)
  |false=>rfl
theorem dl(c:Code):nth c 0=c:=by cases c<;>rfl
theorem qy(a b:Code)(i:Nat):nth (.seq a b) (i+1)=if i<Code.size a then nth a i else nth b (i-Code.size a):=Jl a b i
theorem nv(x:Operand)(a b:Code)(i:Nat):nth (.cond x a b) (i+1)=if i<Code.size a then nth a i else nth b (i-Code.size a):=Jl a b i
theorem zR:∀(B:Code) (i:Nat),i<Code.size B→i+Code.size (nth B i)≤Code.size B:=by
 intro B
 induction B with
 |seq a b iha ihb=>
  intro i h
  cases i with
  |zero=>rw[dl];omega
  |succ i=>
   rw[qy]
   simp only[Code.size]at h ⊢
   split
   ·rename_i hi;have:=iha i hi;omega
   ·have:=ihb (i-Code.size a) (by omega);omega
 |cond x a b iha ihb=>
  intro i h
  cases i with
  |zero=>rw[dl];omega
  |succ i=>
   rw[nv]
   simp only[Code.size]at h ⊢
   split
   ·rename_i hi;have:=iha i hi;omega
   ·have:=ihb (i-Code.size a) (by omega);omega
 |block id c ih=>intro i h;cases i with|zero=>rw[dl];omega|succ i=>simp only[Code.size]at h ⊢;have:=ih i (by omega);simp only[nth];omega
 |loop c ih=>intro i h;cases i with|zero=>rw[dl];omega|succ i=>simp only[Code.size]at h ⊢;have:=ih i (by omega);simp only[nth];omega
 |scope c ih=>intro i h;cases i with|zero=>rw[dl];omega|succ i=>simp only[Code.size]at h ⊢;have:=ih i (by omega);simp only[nth];omega
 |_=>intro i h;cases i with|zero=>rw[dl];omega|succ i=>simp only[Code.size]at h;omega
theorem tC:∀(B:Code) (i:Nat),i<Code.size B→∀j,j<Code.size (nth B i)→nth B (i+j)=nth (nth B i) j:=by
 intro B
 induction B with
 |seq a b iha ihb=>
  intro i h j hj
  cases i with
  |zero=>rw[dl,avD]
  |succ i=>
   rw[qy]at hj ⊢
   rw[show i+1+j=(i+j)+1 by omega,qy]
   simp only[Code.size]at h
   split at hj
   ·rename_i hi
    have:=zR a i hi
    rw[avr hi,avr (by omega)]
    exact iha i hi j hj
   ·rename_i hi
    rw[avn hi,avn (by omega),show i+j-Code.size a=(i-Code.size a)+j by omega]
    exact ihb (i-Code.size a) (by omega) j hj
 |cond x a b iha ihb=>
  intro i h j hj
  cases i with
  |zero=>rw[dl,avD]
  |succ i=>
   rw[nv]at hj ⊢
   rw[show i+1+j=(i+j)+1 by omega,nv]
   simp only[Code.size]at h
   split at hj
   ·rename_i hi
    have:=zR a i hi
    rw[avr hi,avr (by omega)]
    exact iha i hi j hj
   ·rename_i hi
    rw[avn hi,avn (by omega),show i+j-Code.size a=(i-Code.size a)+j by omega]
    exact ihb (i-Code.size a) (by omega) j hj
 |block id c ih=>intro i h j hj;cases i with|zero=>rw[dl,avD]|succ i=>simp only[Code.size]at h;rw[show i+1+j=(i+j)+1 by omega];exact ih i (by omega) j hj
 |loop c ih=>intro i h j hj;cases i with|zero=>rw[dl,avD]|succ i=>simp only[Code.size]at h;rw[show i+1+j=(i+j)+1 by omega];exact ih i (by omega) j hj
 |scope c ih=>intro i h j hj;cases i with|zero=>rw[dl,avD]|succ i=>simp only[Code.size]at h;rw[show i+1+j=(i+j)+1 by omega];exact ih i (by omega) j hj
 |_=>intro i h j hj;cases i with|zero=>rw[dl,avD]|succ i=>simp only[Code.size]at h;omega
theorem Dj{B:Code}{i:Nat}(h:nth B i≠.skip):i<Code.size B:=by
 rcases avt i (Code.size B)with hlt|hge
 ·exact hlt
 ·exact absurd (Wt B i hge) h
theorem aaO{B:Code}{i:Nat}{a b:Code}(h:nth B i=.seq a b):nth B i=.seq (nth B (i+1)) (nth B (i+1+Code.size a)):=by
 have hlt:=Dj (B:=B) (i:=i) (by rw[h];simp)
 have ha:=kX a
 have hb:=kX b
 have h1:=tC B i hlt 1 (by rw[h];simp only[Code.size];omega)
 have h2:=tC B i hlt (1+Code.size a) (by rw[h];simp only[Code.size];omega)
 rw[h,show(1:Nat)=0+1 from rfl,qy,avr ha,dl]at h1
 rw[h,show 1+Code.size a=Code.size a+1 by omega,qy,avn (by omega),awy,dl]at h2
 rw[h,h1,show i+1+Code.size a=i+(Code.size a+1) by omega,h2]
theorem So{B:Code}{i:Nat}{x:Operand}{a b:Code}(h:nth B i=.cond x a b):nth B i=.cond x (nth B (i+1)) (nth B (i+1+Code.size a)):=by
 have hlt:=Dj (B:=B) (i:=i) (by rw[h];simp)
 have ha:=kX a
 have hb:=kX b
 have h1:=tC B i hlt 1 (by rw[h];simp only[Code.size];omega)
 have h2:=tC B i hlt (1+Code.size a) (by rw[h];simp only[Code.size];omega)
 rw[h,show(1:Nat)=0+1 from rfl,nv,avr ha,dl]at h1
 rw[h,show 1+Code.size a=Code.size a+1 by omega,nv,avn (by omega),awy,dl]at h2
 rw[h,h1,show i+1+Code.size a=i+(Code.size a+1) by omega,h2]
theorem M6{B:Code}{i id:Nat}{c:Code}(h:nth B i=.block id c):nth B i=.block id (nth B (i+1)):=by
 have hlt:=Dj (B:=B) (i:=i) (by rw[h];simp)
 have hc:=kX c
 have h1:=tC B i hlt 1 (by rw[h];simp only[Code.size];omega)
 rw[h]at h1
 rw[h,h1]
 show _=Code.block id (nth c 0)
 rw[dl]
theorem Ts{B:Code}{i:Nat}{c:Code}(h:nth B i=.loop c):nth B i=.loop (nth B (i+1)):=by
 have hlt:=Dj (B:=B) (i:=i) (by rw[h];simp)
 have hc:=kX c
 have h1:=tC B i hlt 1 (by rw[h];simp only[Code.size];omega)
 rw[h]at h1
 rw[h,h1]
 show _=Code.loop (nth c 0)
 rw[dl]
end
section
theorem AA{d:Nat}{L:SL}{t:Nat}{s:SV}(h:aW (l7 L d) t=some s):aW L t=some s:=h
theorem fY{d:Nat}{x:SV}{L:SL}{t:Nat}{s:SV}(h:aW ((d,x)::L) t=some s):(t=d∧s=x)∨(t≠d∧aW L t=some s):=by
 simp only[aW]at h
 split at h
 ·rename_i hb
  injection h with h
  exact .inl ⟨(au9 hb).symm,h.symm⟩
 ·rename_i hb
  refine .inr ⟨fun e=>?_,h⟩
  subst e
  simp at hb
theorem gj{L:SL}:∀{ts:List Nat} {t:Nat} {s:SV},aW (fC L ts) t=some s→aW L t=some s
 |[],_,_,h=>by simp[fC,aW]at h
 |u::ts,t,s,h=>by
  simp only[fC]at h
  split at h
  ·rename_i x hx
   rcases fY h with⟨rfl,rfl⟩|⟨_,h1⟩
   ·exact hx
   ·exact gj h1
  ·exact gj h
theorem iZ{N:NT}{f i:Nat}{L:SL}{t:Nat}{s:SV}(h:aW (yA N f i L) t=some s):aW L t=some s:=by
 unfold yA at h
 split at h
 ·exact gj h
 ·exact h
theorem vI{L:SL}:∀{ts:List Nat} {L':SL},EY L ts=some L'→∀t s,aW L' t=some s→aW L t=some s
 |[],L',h,t,s,hs=>by simp only[EY,avd]at h;subst h;simp[aW]at hs
 |u::ts,L',h,t,s,hs=>by
  simp only[EY]at h
  split at h<;>try (cases h;done)
  rename_i x r h1 h2
  injection h with h
  subst h
  rcases fY hs with⟨rfl,rfl⟩|⟨_,h3⟩
  ·exact h1
  ·exact vI h2 t s h3
theorem zN:∀{L:SL} {t:Nat} {s:SV},aW L t=some s→(t,s)∈L
 |[],_,_,h=>by simp[aW]at h
 |(k,x)::r,t,s,h=>by
  rcases fY h with⟨rfl,rfl⟩|⟨_,h3⟩
  ·simp
  ·simp[zN h3]
theorem qA{k:Nat}{s:SV}(h:∀l,s≠.tup l):s.refsT k=s.refs k:=by cases s<;>first|rfl|exact(h _ rfl).elim
theorem v8{fl j:Nat}{s:SV}(h:s.refs fl=true)(ho:s.of1 j=true):j<fl:=by
 cases s<;>simp only[SV.of1,axm]at ho
 ·have:=au9 ho;subst this;exact avc h
 ·have:=au9 ho;subst this;exact avc h
 ·have:=au9 ho;subst this;exact avc h
section
variable {Z:Nat→Prop} {w0:World} {n:Nat} {L L':SL} {H H':List Item} {G G':List Value} {w w':World} {a:Act} {F:FT}
theorem FR.put{d:Option Nat}{s:SV}{v:Value}(h:FR Z n L H G w a)(hp:dL n L d s=some L')(hv:Rel G (Av Z H G) w s v):FR Z n L' H G w (a.put d v):=by
 cases d with
 |none=>simp only[dL,avd]at hp;subst hp;exact h
 |some d=>
  simp only[dL]at hp
  split at hp<;>try (cases hp;done)
  rename_i hd
  have hd:=avc hd
  injection hp with hp
  subst hp
  refine⟨h.defers,by simp[Act.put,h.size],fun t s' hs=>?_⟩
  simp only[Act.put,Array.getElem?_setIfInBounds,h.size]
  rcases fY hs with⟨rfl,rfl⟩|⟨hne,h3⟩
  ·exact⟨v,by simp;omega,hv⟩
  ·have h4:=AA h3
   obtain⟨u,h5,h6⟩:=h.slot t s' h4
   exact⟨u,by rw[avn (awt hne)];exact h5,h6⟩
theorem FR.say{d:Nat}{s:SV}{v:Value}(h:FR Z n L H G w a)(hd:a.tmps[d]?=some v)(hv:Rel G (Av Z H G) w s v):FR Z n ((d,s)::l7 L d) H G w a:=
 ⟨h.defers,h.size,fun t s' hs=>by
  rcases fY hs with⟨rfl,rfl⟩|⟨hne,h3⟩
  ·exact⟨v,hd,hv⟩
  ·exact h.slot t s' (AA h3)⟩
theorem rC(hr:SR Z w0 H G w){s:SV}{v:Value}(h:Rel1 G (Av Z H G) w s v):s.refs H.length=true:=by
 have lt:∀(j:Nat) g,G[j]?=some g→Nat.ble (j+1) H.length=true:=fun j g hg=>avx (by rw[←hr.len];exact(avf.1 hg).1)
 cases s with
 |box j off=>obtain⟨b,h1,_⟩:=h;exact lt j _ h1
 |own j=>exact lt j _ h
 |oelt j sz i off=>obtain⟨b,m,c,h1,_⟩:=h;exact lt j _ h1
 |osl j sz lo n=>obtain⟨g,q,c,h1,_⟩:=h;exact lt j _ h1
 |clo f caps=>
  obtain⟨bs,h1,_⟩:=h
  refine avq.2 fun j hj=>?_
  obtain⟨k,hk,rfl⟩:=axd hj
  obtain⟨b,_,hb⟩:=gO h1 k _ (au2 hk)
  exact lt _ _ hb
 |tup l=>exact h.elim
 |_=>rfl
theorem iY(hr:SR Z w0 H G w){s:SV}{v:Value}(h:Rel G (Av Z H G) w s v):s.refsT H.length=true:=by
 cases s with
 |tup l=>
  obtain⟨vs,_,h2⟩:=h
  refine avq.2 fun s hs=>?_
  obtain⟨k,hk,rfl⟩:=axd hs
  obtain⟨b,_,hb⟩:=gO h2 k _ (au2 hk)
  exact rC hr hb
 |_=>rw[qA (fun l e=>by cases e)];exact rC hr (lI h (fun l e=>by cases e))
def Ev(Z:Nat→Prop)(fl:Nat)(H:List Item)(G:List Value)(w:World)(H':List Item)(G':List Value)(w':World):Prop:=∀s v,Rel1 G (Av Z H G) w s v→s.refs fl=true→Rel1 G' (Av Z H' G') w' s v
theorem Chg.ev{fl:Nat}{st ap:Bool}(h:Chg Z fl st ap H G w H' G' w'):Ev Z fl H G w H' G' w':=fun s v hs hr=>h.pres s v hs fun _j hj=>v8 hr hj
def DOk(F:FT)(fm:Fm):Prop:=∀D,fm.d=some D→Clo (aq (nth (ao F fm.f) fm.i)) (mkL (aq (nth (ao F fm.f) fm.i)).size D)∧Region.noSelect (aq (nth (ao F fm.f) fm.i))=true∧D.length≤(aq (nth (ao F fm.f) fm.i)).size
def FrsOk(Z:Nat→Prop)(F:FT)(H:List Item)(G:List Value)(w:World):Nat→List Fm→List Act→Prop
 |_,[],[]=>True
 |fl,fm::fs,a::ats=>FR Z (ntm F fm.f) fm.L H G w a∧(∀t s,aW fm.L t=some s→s.refsT fl=true)∧(fm.fl≤fl∧(∃fn,gg F fm.f=some fn)∧DOk F fm)∧FrsOk Z F H G w fm.fl fs ats
 |_,_,_=>False
theorem n8{k l:Nat}(h:k≤l){s:SV}(hs:s.refs k=true):s.refs l=true:=by
 have b:∀j,Nat.ble (j+1) k=true→Nat.ble (j+1) l=true:=fun j hj=>avx (avm (avc hj) h)
 cases s with
 |box j off=>exact b j hs
 |own j=>exact b j hs
 |oelt j sz i off=>exact b j hs
 |osl j sz i off=>exact b j hs
 |clo f caps=>exact avq.2 fun j hj=>b j (avq.1 hs j hj)
 |tup l=>cases hs
 |_=>rfl
theorem I8{k l:Nat}(h:k≤l){s:SV}(hs:s.refsT k=true):s.refsT l=true:=by
 cases s with
 |tup l=>exact avq.2 fun s hm=>n8 h (avq.1 hs s hm)
 |_=>rw[qA (fun l e=>by cases e)]at hs ⊢;exact n8 h hs
theorem Rel.ev{fl:Nat}(he:Ev Z fl H G w H' G' w'){s:SV}{v:Value}(h:Rel G (Av Z H G) w s v)(hr:s.refsT fl=true):Rel G' (Av Z H' G') w' s v:=by
 cases s with
 |tup l=>
  obtain⟨vs,h1,h2⟩:=h
  refine⟨vs,h1,?_⟩
  clear h1
  induction l generalizing vs with
  |nil=>cases vs<;>exact h2
  |cons s l ih=>
   simp only[SV.refsT,axB,au8]at hr
   match vs,h2 with
   |v::vs,⟨g1,g2⟩=>exact⟨he s v g1 hr.1,ih hr.2 vs g2⟩
 |_=>rw[qA (fun l e=>by cases e)]at hr;exact dw (he _ _ (lI h (fun l e=>by cases e)) hr)
theorem FrsOk.ev{fl:Nat}(he:Ev Z fl H G w H' G' w'):∀{fl':Nat} {fs:List Fm} {ats:List Act},fl'≤fl→FrsOk Z F H G w fl' fs ats→FrsOk Z F H' G' w' fl' fs ats
 |_,[],[],_,_=>trivial
 |fl',fm::fs,a::ats,hle,⟨h1,h2,h3,h4⟩=>⟨⟨h1.defers,h1.size,fun t s hs=>by
   obtain⟨v,g1,g2⟩:=h1.slot t s hs
   exact⟨v,g1,g2.ev he (I8 hle (h2 t s hs))⟩⟩,h2,h3,FrsOk.ev he (avm h3.1 hle) h4⟩
 |_,[],_::_,_,h=>h.elim
 |_,_::_,[],_,h=>h.elim
theorem vc{a b k:Nat}:Uv a b≤k↔a≤k∧b≤k:=by
 unfold Uv
 cases h:Nat.ble a b with
 |true=>have:=avc h;simp only[cond_true];omega
 |false=>have:¬a≤b:=fun hh=>by rw[avx hh]at h;cases h
         simp only[cond_false];omega
theorem Lw{k j:Nat}{s:SV}(h:s.ofm≤k)(ho:s.of1 j=true):j<k:=by
 cases s<;>simp only[SV.of1,axm]at ho
 all_goals (have:=au9 ho;subst this;exact h)
theorem ad0{s:SV}(h:∀l,s≠.tup l):s.ofmT=s.ofm:=by cases s<;>first|rfl|exact(h _ rfl).elim
theorem F1{k:Nat}:∀{L:SL} {t:Nat} {s:SV},slM L≤k→aW L t=some s→s.ofmT≤k
 |[],_,_,_,h=>by simp[aW]at h
 |(q,x)::r,t,s,hk,h=>by
  obtain⟨h1,h2⟩:=vc.1 hk
  rcases fY h with⟨rfl,rfl⟩|⟨_,h3⟩
  ·exact h1
  ·exact F1 h2 h3
theorem Rel.evF{k:Nat}(he:∀s v,Rel1 G (Av Z H G) w s v→(∀j,s.of1 j=true→j<k)→Rel1 G' (Av Z H' G') w' s v){s:SV}{v:Value}(h:Rel G (Av Z H G) w s v)(hr:s.ofmT≤k):Rel G' (Av Z H' G') w' s v:=by
 cases s with
 |tup l=>
  obtain⟨vs,h1,h2⟩:=h
  refine⟨vs,h1,?_⟩
  clear h1
  induction l generalizing vs with
  |nil=>cases vs<;>exact h2
  |cons s l ih=>
   obtain⟨r1,r2⟩:=vc.1 hr
   match vs,h2 with
   |v::vs,⟨g1,g2⟩=>exact⟨he s v g1 fun j hj=>Lw r1 hj,ih r2 vs g2⟩
 |_=>rw[ad0 (fun l e=>by cases e)]at hr;exact dw (he _ _ (lI h (fun l e=>by cases e)) fun j hj=>Lw hr hj)
theorem FrsOk.evF{k:Nat}(he:∀s v,Rel1 G (Av Z H G) w s v→(∀j,s.of1 j=true→j<k)→Rel1 G' (Av Z H' G') w' s v):∀{fl':Nat} {fs:List Fm} {ats:List Act},Fh fs≤k→FrsOk Z F H G w fl' fs ats→FrsOk Z F H' G' w' fl' fs ats
 |_,[],[],_,_=>trivial
 |fl',fm::fs,a::ats,hle,⟨h1,h2,h3,h4⟩=>⟨⟨h1.defers,h1.size,fun t s hs=>by
   obtain⟨v,g1,g2⟩:=h1.slot t s hs
   exact⟨v,g1,g2.evF he (F1 (vc.1 hle).1 hs)⟩⟩,h2,h3,FrsOk.evF he (vc.1 hle).2 h4⟩
 |_,[],_::_,_,h=>h.elim
 |_,_::_,[],_,h=>h.elim
theorem pD{fl:Nat}:∀{l:List (Nat×Nat×Ty)} {L:SL} {H:List Item} {G:List Value},SR Z w0 H G w→FR Z n L H G w a→fl≤H.length→ob l L H=some (L',H')→∃G',SR Z w0 H' G' w∧FR Z n L' H' G' w a∧Ev Z fl H G w H' G' w∧fl≤H'.length
 |[],L,H,G,hr,hf,hfl,h=>by
  simp only[ob,avd,avy]at h
  obtain⟨rfl,rfl⟩:=h
  exact⟨G,hr,hf,fun s v h _=>h,hfl⟩
 |(t,et,e)::l,L,H,G,hr,hf,hfl,h=>by
  simp only[ob]at h
  split at h
  ·rename_i hs
   split at h<;>try (cases h;done)
   rename_i hn
   have hn:=avc hn
   obtain⟨v,h1,h2⟩:=hf.slot t _ hs
   have h2:v=.slice none 0 0:=h2
   subst h2
   obtain⟨G1,k1,k2,k3,k4⟩:=jV (et:=et) (e:=e) (xs:=[]) (css:=[]) hr hf (axV _ _) (World.ownsRow_nil w _ _ _) hn trivial fl false false
   obtain⟨G2,g1,g2,g3,g4⟩:=pD (fl:=fl) k1 (k2.say h1 k3) (by simp;omega) h
   exact⟨G2,g1,g2,fun s v hs hrf=>g3 s v (k4.ev s v hs hrf) hrf,g4⟩
  ·exact pD hr hf hfl h
theorem jT{fl:Nat}:∀{l:List (Nat×Ty)} {L:SL} {H:List Item},SR Z w0 H G w→FR Z n L H G w a→fl≤H.length→jz fl l L H=some (L',H')→SR Z w0 H' G w∧FR Z n L' H' G w a∧Ev Z fl H G w H' G w∧fl≤H'.length
 |[],L,H,hr,hf,hfl,h=>by
  simp only[jz,avd,avy]at h
  obtain⟨rfl,rfl⟩:=h
  exact⟨hr,hf,fun s v h _=>h,hfl⟩
 |(t,e)::l,L,H,hr,hf,hfl,h=>by
  simp only[jz]at h
  split at h
  ·rename_i hs
   obtain⟨v,h1,h2⟩:=hf.slot t _ hs
   have h2:v=.slice none 0 0:=h2
   subst h2
   exact jT hr (hf.say (s:=.d (.sl e) []) h1 ⟨[_],xE,rfl⟩) hfl h
  ·rename_i j hs
   split at h<;>try (cases h;done)
   rename_i L1 H1 hg
   have hfz:m9 fl [.tmp t] L H=some (L1,H1):=by simp only[m9,opS,hs,hg]
   obtain⟨g1,g2,g3,_,_⟩:=jp hr hf hfz
   have hlen:H1.length=H.length:=by
    unfold te at hg
    split at hg<;>try (cases hg;done)
    simp only[avd,avy]at hg
    rw[←hg.2];simp
   obtain⟨k1,k2,k3,k4⟩:=jT g1 g2 (by omega) h
   exact⟨k1,k2,fun s v hs hrf=>k3 s v (g3 s v hs fun j hj=>v8 hrf hj) hrf,k4⟩
  ·exact jT hr hf hfl h
theorem iy{α:Type}{l:List α}{k j:Nat}{x:α}(h:(l.take k)[j]?=some x):j<k∧l[j]?=some x:=by
 rw[awo]at h
 split at h
 ·exact⟨by assumption,h⟩
 ·cases h
theorem B8(hl:Nat){b:Nat}(h:Av Z H G b):Av Z (H.take hl) (G.take hl) b:=⟨h.1,fun j it g h1 h2 h3=>h.2 j it g (iy h1).2 h2 (iy h3).2⟩
theorem vu{hl:Nat}{s:SV}{v:Value}(h:Rel1 G (Av Z H G) w s v)(hs:s.refs hl=true):Rel1 (G.take hl) (Av Z (H.take hl) (G.take hl)) w s v:=by
 have hk:Keeps (Av Z H G) (Av Z (H.take hl) (G.take hl)) w w:=⟨avb _,fun b _ h=>B8 hl h,fun _ _ _=>rfl⟩
 have g:∀(j:Nat) x,Nat.ble (j+1) hl=true→G[j]?=some x→(G.take hl)[j]?=some x:=fun j x hj hx=>by
  rw[awo,avr (show j<hl from avc hj)];exact hx
 cases s with
 |d t x=>obtain⟨cs,h1,h2⟩:=h;exact⟨cs,Ty.rd_keep hk h1,h2⟩
 |nil=>exact h
 |box j off=>obtain⟨b,h1,h2⟩:=h;exact⟨b,g j _ hs h1,h2⟩
 |elt e x off=>obtain⟨b,o,cs,h1,h2,h3,h4,h5⟩:=h;exact⟨b,o,cs,h1,B8 hl h2,h3,Ty.rd_keep hk h4,h5⟩
 |own j=>exact g j _ hs h
 |oelt j sz i off=>obtain⟨b,m,c,h1,h2⟩:=h;exact⟨b,m,c,g j _ hs h1,h2⟩
 |cut e xs=>obtain⟨p,h1,h2⟩:=h;exact⟨p,Ty.rd_keep hk h1,h2⟩
 |osl j sz lo n=>obtain⟨x,q,c,h1,h2⟩:=h;exact⟨x,q,c,g j _ hs h1,h2⟩
 |clo f caps=>
  obtain⟨bs,h1,h2⟩:=h
  refine⟨bs,?_,h2⟩
  clear h2
  induction caps generalizing bs with
  |nil=>cases bs<;>exact h1
  |cons c caps ih=>
   simp only[SV.refs,axB,au8]at hs
   match bs,h1 with
   |b::bs,⟨q1,q2⟩=>exact⟨g c _ hs.1 q1,ih hs.2 bs q2⟩
 |tup l=>exact h
 |undef=>exact h
 |dead=>trivial
theorem acz{hl:Nat}(hr:SR Z w0 H G w)(hrf:(H.take hl).all (Item.refs hl)=true):SR Z w0 (H.take hl) (G.take hl) w:=by
 have hk:Keeps (Av Z H G) (Av Z (H.take hl) (G.take hl)) w w:=⟨avb _,fun b _ h=>B8 hl h,fun _ _ _=>rfl⟩
 refine⟨by simp[hr.len],hr.below,fun j it g h1 h2=>?_,fun i j it jt g h b hij h1 h2 h3 h4 h5 h6 h7=>hr.disj i j it jt g h b hij (iy h1).2 (iy h2).2 h3 h4 (iy h5).2 (iy h6).2 h7,hr.zf⟩
 have hi:=hr.items j it g (iy h1).2 (iy h2).2
 have hir:it.refs hl=true:=avq.1 hrf it (av1 h1)
 cases it with
 |gone=>trivial
 |row et e xs=>obtain⟨css,k1,k2,k3⟩:=hi;exact⟨css,k1,ce (fun _ _ h=>Ty.rd_keep hk h) k2,k3⟩
 |box t cs=>
  obtain⟨b,vs,rfl,k1,k2,k3⟩:=hi
  refine⟨b,vs,rfl,k1,k2,?_⟩
  clear k2 h1
  induction cs generalizing vs with
  |nil=>cases vs<;>exact k3
  |cons s l ih=>
   simp only[Item.refs,axB,au8]at hir
   match vs,k3 with
   |v::vs,⟨q1,q2⟩=>exact⟨vu q1 hir.1,ih hir.2 vs q2⟩
structure CR (Z:Nat→Prop) (F:FT) (w0:World) (c:Cfg) (G:List Value) (w:World) (a:Act) (ats:List Act):Prop where
 sr:SR Z w0 c.H G w
 fr:FR Z (ntm F c.f) c.L c.H G w a
 fl:c.fl≤c.H.length
 frs:FrsOk Z F c.H G w c.fl c.fs ats
theorem Fj{R:SV→Value→Prop}{s:SV}(hs:∀v,R .nil v→R s v):∀{cs:List SV} {vs:List Value} {q:Nat},cz R cs vs→cs[q]?=some .nil→cz R (cs.set q s) vs
 |[],_,_,_,h=>by simp at h
 |c::cs,[],_,h,_=>h.elim
 |c::cs,v::vs,0,⟨h1,h2⟩,h=>by
  simp only[avP,avd]at h
  subst h
  exact⟨hs v h1,h2⟩
 |c::cs,v::vs,q+1,⟨h1,h2⟩,h=>by
  rw[avE]at h
  exact⟨h1,Fj hs h2 h⟩
theorem oA{fl:Nat}:∀{l:List (Nat×Nat×Nat×Ty)} {H:List Item} {G:List Value},SR Z w0 H G w→FR Z n L H G w a→fl≤H.length→∃G',SR Z w0 (l6 l H) G' w∧FR Z n L (l6 l H) G' w a∧Ev Z fl H G w (l6 l H) G' w∧fl≤(l6 l H).length
 |[],H,G,hr,hf,hfl=>⟨G,hr,hf,fun s v h _=>h,hfl⟩
 |(j,q,et,e)::l,H,G,hr,hf,hfl=>by
  simp only[l6]
  split
  ·rename_i t cs hj
   split
   ·rename_i hq hn
    have hn:=avc hn
    obtain⟨G1,k1,k2,k3,k4⟩:=jV (et:=et) (e:=e) (xs:=[]) (css:=[]) hr hf (axV _ _) (World.ownsRow_nil w _ _ _) hn trivial fl false false
    have hlt:=(avf.1 hj).1
    have hj1:(H++[.row et e []])[j]?=some (.box t cs):=by rw[avi hlt];exact hj
    have hst:=nE (it':=.box t (cs.set q (.own H.length))) k1 hj1 rfl k1.below (avb _) (fun _ _ _=>rfl)
    have hsr:=Ch (it':=.box t (cs.set q (.own H.length))) k1 hj1 rfl k1.below (avb _) (fun _ _ _=>rfl) (fun g hg=>by
     obtain⟨b,vs,e1,e2,e3,e4⟩:=k1.items j _ g hj1 hg
     refine⟨b,vs,e1,e2,e3,Fj (fun v hv=>?_) (ce (fun s v h=>du k1 hst h) e4) hq⟩
     have hv:v=.slice none 0 0:=hv
     subst hv
     exact k3)
    rw[axQ,avr hlt]at hsr hst
    obtain⟨G2,g1,g2,g3,g4⟩:=oA (fl:=fl) (l:=l) hsr (k2.keep fun s v h=>du k1 hst h) (by simp;omega)
    exact⟨G2,g1,g2,fun s v hs hrf=>g3 s v (du k1 hst (k4.ev s v hs hrf)) hrf,g4⟩
   ·exact oA hr hf hfl
  ·exact oA hr hf hfl
theorem adt{x:NI}{c c':Cfg}{ats:List Act}(h:aiQ x c=some c')(hc:CR Z F w0 c G w a ats):∃G',CR Z F w0 c' G' w a ats∧c'.f=c.f∧c'.K=c.K∧c'.fs=c.fs:=by
 unfold aiQ at h
 split at h<;>try (cases h;done)
 rename_i L1 H1 h1
 split at h<;>try (cases h;done)
 rename_i L2 H2 h2
 split at h<;>try (cases h;done)
 rename_i L3 h3
 split at h<;>try (cases h;done)
 rename_i hb
 injection h with h
 subst h
 simp only[au8]at hb
 obtain⟨⟨⟨b1,b2⟩,b3⟩,b4⟩:=hb
 obtain⟨G0,f1,f2,f3,f4⟩:=oA (l:=x.bx) hc.sr hc.fr hc.fl
 obtain⟨G1,g1,g2,g3',g4⟩:=pD f1 f2 f4 h1
 have g3:Ev Z c.fl c.H G w H1 G1 w:=fun s v hs hr=>g3' s v (f3 s v hs hr) hr
 obtain⟨k1,k2,k3,k4⟩:=jT g1 g2 g4 h2
 have b3':=avc b3
 have hev:Ev Z c.fl c.H G w (H2.take x.hl) (G1.take x.hl) w:=fun s v hs hrf=>vu (k3 s v (g3 s v hs hrf) hrf) (n8 b3' hrf)
 refine⟨G1.take x.hl,⟨acz k1 b2,⟨k2.defers,k2.size,fun t s hs=>?_⟩,by simp;omega,hc.frs.ev hev (avb _)⟩,rfl,rfl,rfl⟩
 obtain⟨v,q1,q2⟩:=k2.slot t s (vI h3 t s hs)
 have hrf:s.refs x.hl=true:=avq.1 b1 (t,s) (zN hs)
 exact⟨v,q1,dw (vu (lI q2 fun l e=>by subst e;cases hrf) hrf)⟩
end
end
section
def gL(P:Program)(fn:Func)(R:Ending→World→Prop)(B:Code):List KJ→List KI
 |[]=>[]
 |.seq i::K=>.seq i::gL P fn R B K
 |.blk id::K=>.blk id::gL P fn R B K
 |.lp i::K=>.lp (InLoop P (nth B (i+1)) (gP P fn R B (gL P fn R B K)))::gL P fn R B K
def fB(P:Program)(F:FT)(Rt:Ending→World→Prop):List Fm→List Act→Ending→World→Prop
 |fm::fs,a::ats=>fun e w'=>∃v,e=.returned v∧∃fn o,gg F fm.f=some fn∧(aq (nth (ao F fm.f) fm.i))[fm.k]?=some o∧
   (fm.d=none→AtR P fn (fB P F Rt fs ats) (ao F fm.f) (gL P fn (fB P F Rt fs ats) (ao F fm.f) fm.K) fm.i (fm.k+1) (a.put o.dst v) w')∧
   (∀D,fm.d=some D→wpG P (aq (nth (ao F fm.f) fm.i)) (gP P fn (fB P F Rt fs ats) (ao F fm.f) (gL P fn (fB P F Rt fs ats) (ao F fm.f) fm.K)) (fun _=>True) ((aq (nth (ao F fm.f) fm.i)).size-D.length) (mkL (aq (nth (ao F fm.f) fm.i)).size D) (a.put o.dst v) w')
 |_,_=>Rt
section
variable {Z:Nat→Prop} {w0:World} {n:Nat} {L L':SL} {H H':List Item} {G G':List Value} {w w':World} {a:Act} {F:FT} {P:Program} {T:TT}
theorem eO{R:Type}{ops:Array Oper}{o:Oper}{yes no:SL→Option R}{r:R}(hf:FR Z n L H G w a)(h:cH ops L o yes no=some r):
  (∃L',yes L'=some r∧FR Z n L' H G w a∧Region.wanted o (yielded ops a.tmps)=true)∨(∃L',no L'=some r∧FR Z n L' H G w a∧Region.wanted o (yielded ops a.tmps)=false):=by
 unfold cH at h
 split at h
 ·rename_i hg
  exact .inl ⟨L,h,hf,by simp[Region.wanted,hg]⟩
 ·rename_i j want hg
  split at h<;>try (cases h;done)
  rename_i d hd
  split at h<;>try (cases h;done)
  ·rename_i b hb
   obtain⟨v,h1,h2⟩:=hf.slot d _ hb
   have hv:=iv h2
   subst hv
   have hy:∀b':Bool,b=b'→FR Z n ((d,.d .bool b')::l7 L d) H G w a:=fun b' e=>by subst e;exact hf.say h1 h2
   have hw:Region.wanted o (yielded ops a.tmps)=(b==want):=by
    simp only[Region.wanted,hg,yielded,hd,Option.bind_some,h1]
    cases b<;>cases want<;>rfl
   split at h
   ·split at h
    ·exact .inl ⟨_,h,hy true rfl,hw⟩
    ·exact .inr ⟨_,h,hy true rfl,hw⟩
   ·split at h
    ·exact .inr ⟨_,h,hy false rfl,hw⟩
    ·exact .inl ⟨_,h,hy false rfl,hw⟩
  ·rename_i hb
   obtain⟨v,h1,h2⟩:=hf.slot d _ hb
   have h2:v=undef:=h2
   subst h2
   refine .inr ⟨L,h,hf,?_⟩
   simp only[Region.wanted,hg,yielded,hd,Option.bind_some,h1]
   rfl
theorem ac3{fn:Func}{R:Ending→World→Prop}{B:Code}{K:List KI}{i k:Nat}(hk:(aq (nth B i))[k]?=none)(h:gP P fn R B K .normal a w):AtR P fn R B K i k a w:=by
 refine n9 ?_ h
 rw[axD]
 simpa using hk
theorem acq{fn:Func}{R:Ending→World→Prop}{B:Code}{K:List KI}{i k:Nat}{o:Oper}(hk:(aq (nth B i))[k]?=some o)(hw:Region.wanted o (yielded (aq (nth B i)) a.tmps)=true)
  (h:o.upon P a (fun a' w'=>AtR P fn R B K i (k+1) a' w') (gP P fn R B K) ((execOp a.eval o).run P w)):AtR P fn R B K i k a w:=by
 have hlt:k<(aq (nth B i)).toList.length:=by simpa using(avh.1 hk).1
 unfold AtR
 have:(aq (nth B i)).toList.drop k=o::(aq (nth B i)).toList.drop (k+1):=by
  rw[avk hlt]
  congr 1
  have:=(avh.1 hk).2
  simpa using this
 rw[this]
 unfold wpList
 rw[avr hw]
 exact .inl h
theorem ajO{fn:Func}{R:Ending→World→Prop}{B:Code}{K:List KI}{i k:Nat}{o:Oper}(hk:(aq (nth B i))[k]?=some o)(hw:Region.wanted o (yielded (aq (nth B i)) a.tmps)=false)
  (h:AtR P fn R B K i (k+1) (a.put o.dst undef) w):AtR P fn R B K i k a w:=by
 have hlt:k<(aq (nth B i)).toList.length:=by simpa using(avh.1 hk).1
 unfold AtR
 have:(aq (nth B i)).toList.drop k=o::(aq (nth B i)).toList.drop (k+1):=by
  rw[avk hlt]
  congr 1
  have:=(avh.1 hk).2
  simpa using this
 rw[this]
 unfold wpList
 rw[avn (by rw[hw];simp)]
 exact h
theorem Ra(hT:eF P T=true)(hr:SR Z w0 H G w)(hf:FR Z n L H G w a):∀{rs:List ResultVar} {ss:List SV},Da T H L rs=some ss→∃vs,cz (Rel G (Av Z H G) w) ss vs∧
  ((rs.mapM (m:=Sem) fun
   |.tmp t=>pure (a.tmps.getD t undef)
   |.cell ad t=>do loadVar t (←asAddr (a.tmps.getD ad undef))).run P w)=.ok vs w:=by
 intro rs
 induction rs with
 |nil=>intro ss h;simp only[Da,avd]at h;subst h;exact⟨[],trivial,rfl⟩
 |cons q rs ih=>
  intro ss h
  rw[List.mapM_cons]
  cases q with
  |tmp t=>
   simp only[Da]at h
   split at h<;>try (cases h;done)
   rename_i s l h1 h2
   injection h with h
   subst h
   obtain⟨vs,g1,g2⟩:=ih h2
   obtain⟨v,k1,k2⟩:=hf.slot t s h1
   refine⟨v::vs,⟨k2,g1⟩,?_⟩
   simp only[av7,aww,avs,avQ,k1,Option.getD_some]at g2 ⊢
   rw[g2]
   rfl
  |cell ad t=>
   simp only[Da]at h
   split at h<;>try (cases h;done)
   rename_i j off i l h1 hi h2
   split at h<;>try (cases h;done)
   rename_i bt cells hj
   split at h<;>try (cases h;done)
   rename_i s hl
   injection h with h
   subst h
   obtain⟨vs,g1,g2⟩:=ih h2
   obtain⟨p,k1,k2⟩:=hf.slot ad _ h1
   obtain⟨v,e1,e2⟩:=Gp (rw:=true) hr (a8 hT hi) k2 hj hl
   obtain⟨b,hb,rfl⟩:=k2
   refine⟨v::vs,⟨dw e1,g1⟩,?_⟩
   have e3:=e2 w Agr.refl
   simp only[Instr.loadAt,Instr.sureAddr,av7,aww,avs]at e3
   simp only[av7,aww,avs,avQ,k1,Option.getD_some,asAddr,e3]at g2 ⊢
   rw[g2]
   rfl
theorem Yx{fn:Func}{R:Ending→World→Prop}(hT:eF P T=true)(hr:SR Z w0 H G w)(hf:FR Z n L H G w a){ss:List SV}(h:Da T H L fn.results.toList=some ss)(hR:∀vs,cz (Rel G (Av Z H G) w) ss vs→R (.returned (kv vs)) w):bodyPost P fn R .ret a w:=by
 obtain⟨vs,g1,g2⟩:=Ra (P:=P) hT hr hf h
 refine⟨hf.defers,kv vs,?_,hR vs g1⟩
 unfold Go.results
 generalize hrs:fn.results=rs at*
 obtain⟨l⟩:=rs
 simp only[List.mapM_toArray,bind_map_left]
 simp only[av7]
 refine(congrArg (fun r:Result (List Value)=>r.andThen fun(a:List Value) w'=>Sem.run P (pure (if h:a.toArray.size=1 then a.toArray[0]else Value.tuple a.toArray)) w') g2).trans ?_
 match vs with
 |[]=>rfl
 |[x]=>rfl
 |x::y::r=>simp[kv]
theorem OY{ss:List SV}{vs:List Value}(hn:∀s∈ss,∀l,s≠.tup l)(h:cz (Rel G (Av Z H G) w) ss vs):Rel G (Av Z H G) w (amQ ss) (kv vs):=by
 have h1:cz (Rel1 G (Av Z H G) w) ss vs:=by
  induction ss generalizing vs with
  |nil=>cases vs<;>exact h
  |cons s ss ih=>
   match vs,h with
   |v::vs,⟨q1,q2⟩=>exact⟨lI q1 (hn s (by simp)),ih (fun s hs=>hn s (by simp[hs])) q2⟩
 match ss,vs,h,h1 with
 |[],[],_,_=>exact⟨[],rfl,trivial⟩
 |[s],[v],⟨q1,_⟩,_=>exact q1
 |s::s'::ss,v::v'::vs,_,h1=>exact⟨v::v'::vs,rfl,h1⟩
theorem DL{A:Nat→Prop}:∀{l:List SV} {r:List RV} {vs:List Value},yq.outL l=some r→cz (Rel1 [] A w) l vs→rvS r=some l∧(∀q∈r,∃t x,q=.d t x)
 |[],r,vs,h,_=>by simp only[yq.outL,avd]at h;subst h;exact⟨rfl,by simp⟩
 |s::l,r,vs,h,ha=>by
  unfold yq.outL at h
  split at h
  ·rename_i e;cases e
  ·rename_i t x l' e
   injection e with e1 e2
   subst e1 e2
   split at h<;>try (cases h;done)
   rename_i r' hr'
   injection h with h
   subst h
   match vs,ha with
   |v::vs,⟨_,h2⟩=>
    obtain⟨g1,g2⟩:=DL hr' h2
    exact⟨by simp[rvS,g1],fun q hq=>by rcases avz.1 hq with rfl|hq;exact⟨t,x,rfl⟩;exact g2 q hq⟩
  ·cases h
theorem alL(_hT:eF P T=true)(hr:SR Z w0 H G w){ss:List SV}{tys:List Nat}{r:List RV}{vs:List Value}(h:yq T H ss tys=some r)(ha:cz (Rel G (Av Z H G) w) ss vs):v7 Z w0.heap.size w r (kv vs):=by
 unfold yq at h
 split at h
 ·rename_i j
  split at h<;>try (cases h;done)
  rename_i et e xs hj
  injection h with h
  subst h
  match vs,ha with
  |[v],⟨hv,_⟩=>
   obtain⟨css,k1,k2,k3⟩:=hr.items j _ _ hj hv
   refine⟨css,k1,ce (fun l y h=>Ty.rd_keep ⟨avb _,fun b _ hA=>⟨hA.1,hA.2 j _ _ hj rfl hv⟩,fun _ _ _=>rfl⟩ h) k2,k3⟩
 ·split at h<;>try (cases h;done)
  split at h<;>try (cases h;done)
  split at h<;>try (cases h;done)
  split at h<;>try (cases h;done)
  rename_i hb
  injection h with h
  subst h
  match vs,ha with
  |[v],⟨hv,_⟩=>
   have hv:v=.slice none 0 0:=hv
   subst hv
   exact⟨[],World.ownsRow_nil _ _ _ _,trivial,avc hb⟩
 ·split at h<;>try (cases h;done)
  rename_i l hl
  have h1:cz (Rel1 [] Z w) l vs:=nK (ss0:=ss) hr (fun _ _ h=>h.1) (.inl fun j g b hg hb ⟨_,_,_,hj⟩=>hr.zf b ((hr.items j _ g hj hg).blk rfl hb).1) (fun s hs=>hs) hl ha
  obtain⟨g1,g2⟩:=DL h h1
  match r,g1,g2 with
  |[],g1,_=>
   simp only[rvS,avd]at g1
   subst g1
   match vs,h1 with
   |[],_=>exact⟨[],rfl,[],rfl,trivial⟩
  |[.d t x],g1,_=>
   simp only[rvS,avd]at g1
   subst g1
   match vs,h1 with
   |[v],⟨q,_⟩=>exact q
  |[.new et e xs],_,g2=>obtain⟨t,x,he⟩:=g2 (.new et e xs) (by simp);cases he
  |q::q'::r,g1,_=>
   have hlen:vs.length=(q::q'::r).length:=by
    rw[←eE h1]
    have:∀(r:List RV) (l:List SV),rvS r=some l→l.length=r.length:=by
     intro r
     induction r with
     |nil=>intro l h;simp only[rvS,avd]at h;subst h;rfl
     |cons q r ih=>
      intro l h
      cases q<;>simp only[rvS]at h<;>split at h<;>first|(cases h;done)|(injection h with h;subst h;simp[ih _ (by assumption)])
    exact this _ _ g1
   match vs,hlen,h1 with
   |v::v'::vs,_,h1=>cases q<;>exact⟨v::v'::vs,rfl,l,g1,h1⟩
end
end
section
theorem lz{Z:Nat→Prop}{H:List Item}{G:List Value}{w:World}{a:Act}:∀{ss:List SV} {vs:List Value} {k:Nat},cz (Rel G (Av Z H G) w) ss vs→(∀t v,look (Gm k vs) t=some v→a.tmps[t]?=some v)→∀t s,aW (rR k ss) t=some s→∃v,a.tmps[t]?=some v∧Rel G (Av Z H G) w s v
 |[],[],k,_,_,t,s,h=>by simp[rR,aW]at h
 |s0::ss,v0::vs,k,⟨h1,h2⟩,ha,t,s,h=>by
  rcases fY h with⟨rfl,rfl⟩|⟨hne,h3⟩
  ·exact⟨v0,ha t v0 (by simp[Gm,look]),h1⟩
  ·refine lz h2 (fun u x hx=>ha u x ?_) t s h3
   simp only[Gm,look]
   split
   ·rename_i hb
    have e:k=u:=au9 hb
    have:=(zC vs (k+1) u x hx).1
    omega
   ·exact hx
def AtG(P:Program)(fn:Func)(R:Ending→World→Prop)(B:Code)(K:List KI)(i:Nat)(S0:World→Prop)(m:Nat)(D:List Nat)(a:Act)(w:World):Prop:=
 wpG P (aq (nth B i)) (gP P fn R B K) S0 m (mkL (aq (nth B i)).size D) a w
def iH(P:Program)(F:FT)(Rt:Ending→World→Prop)(c:Cfg)(fn:Func)(G:List Value)(w:World)(a:Act)(ats:List Act):Pos→Prop
 |.nrm=>gP P fn (fB P F Rt c.fs ats) (ao F c.f) (gL P fn (fB P F Rt c.fs ats) (ao F c.f) c.K) .normal a w
 |.node i=>At P fn (fB P F Rt c.fs ats) (ao F c.f) (gL P fn (fB P F Rt c.fs ats) (ao F c.f) c.K) i a w
 |.ops i k=>AtR P fn (fB P F Rt c.fs ats) (ao F c.f) (gL P fn (fB P F Rt c.fs ats) (ao F c.f) c.K) i k a w
 |.ret=>bodyPost P fn (fB P F Rt c.fs ats) .ret a w
 |.tam i D=>D=[]→Region.noSelect (aq (nth (ao F c.f) i))=true→AtG P fn (fB P F Rt c.fs ats) (ao F c.f) (gL P fn (fB P F Rt c.fs ats) (ao F c.f) c.K) i (fun _=>True) (aq (nth (ao F c.f) i)).size [] a w
 |.tbx i D=>D=[]→Region.noSelect (aq (nth (ao F c.f) i))=true→AtG P fn (fB P F Rt c.fs ats) (ao F c.f) (gL P fn (fB P F Rt c.fs ats) (ao F c.f) c.K) i (fun _=>True) (aq (nth (ao F c.f) i)).size [] a w
 |.tal i D=>∀S0:World→Prop,(∀w w',S0 w→(w.heap.size≤w'.heap.size∧∀b,b<w.heap.size→w'.heap[b]?=w.heap[b]?)→S0 w')→(storeDone (aq (nth (ao F c.f) i)) (mkL (aq (nth (ao F c.f) i)).size D)∨S0 w)→Clo (aq (nth (ao F c.f) i)) (mkL (aq (nth (ao F c.f) i)).size D)→Region.noSelect (aq (nth (ao F c.f) i))=true→∀m',m'+D.length=(aq (nth (ao F c.f) i)).size→AtG P fn (fB P F Rt c.fs ats) (ao F c.f) (gL P fn (fB P F Rt c.fs ats) (ao F c.f) c.K) i S0 m' D a w
 |.drw i rw eff D=>∀Hs Gs ws,((storeDone (aq (nth (ao F c.f) i)) (mkL (aq (nth (ao F c.f) i)).size D)∧eff=true)∨(Agr rw Hs Gs ws w∧(∀b,b<ws.heap.size→il c.H G b→il Hs Gs b)∧(eff=false→c.H=Hs∧G=Gs∧w=ws)∧¬storeDone (aq (nth (ao F c.f) i)) (mkL (aq (nth (ao F c.f) i)).size D)))→Clo (aq (nth (ao F c.f) i)) (mkL (aq (nth (ao F c.f) i)).size D)→Region.noSelect (aq (nth (ao F c.f) i))=true→
   ∀m',m'+D.length=(aq (nth (ao F c.f) i)).size→AtG P fn (fB P F Rt c.fs ats) (ao F c.f) (gL P fn (fB P F Rt c.fs ats) (ao F c.f) c.K) i (Agr rw Hs Gs ws) m' D a w
section
variable {Z:Nat→Prop} {w0:World} {F:FT} {P:Program} {T:TT} {E:Env} {N:NT} {Fin:Nat→Cfg→Option (List RV)} {Rt:Ending→World→Prop} {r:List RV}
theorem uD{fn:Func}{R:Ending→World→Prop}{B:Code}{id:Nat}:∀{K K':List KJ},AI id K=some K'→xW id (gL P fn R B K)=some (gL P fn R B K')
 |[],K',h=>by simp[AI]at h
 |.blk j::K,K',h=>by
  simp only[AI]at h
  simp only[gL,xW]
  split at h
  ·rename_i hb;rw[hb];injection h with h;rw[h]
  ·rename_i hb;rw[hb];exact uD h
 |.seq _::K,K',h=>by simp only[AI]at h;simp only[gL,xW];exact uD h
 |.lp _::K,K',h=>by simp only[AI]at h;simp only[gL,xW];exact uD h
theorem C9 {L : SL} {H : List Item} {G : List Value} {w : World} {a : Act} {n g : Nat} {ss : List SV} {o : Op} (hf : FR Z n L H G w a) (h : Dy F E L o = some (g, ss)) : ∃ f args tys fn caps, o = .call ⟨.value f, args, tys⟩ ∧ gg F g = some fn ∧ a.eval f = .func (.func g) #[] caps ∧ cz (Rel G (Av Z H G) w) ss (args.map a.eval ++ caps).toList ∧ ss.length ≤ fn.ntmps ∧ (!(fn.name == "runtime.NumGoroutine")) = true ∧ fn.body.isSome = true := by
 unfold Dy at h
 split at h<;>try (cases h;done)
 rename_i f args tys
 split at h<;>try (cases h;done)
 rename_i g' caps hs
 split at h<;>try (cases h;done)
 split at h<;>try (cases h;done)
 rename_i fn ss' hfn hss
 split at h<;>try (cases h;done)
 rename_i hb
 simp only[avd,avy]at h
 obtain⟨rfl,rfl⟩:=h
 simp only[au8]at hb
 obtain⟨bs,hbs,hfv⟩:=aY hf hs
 refine⟨f,args,tys,fn,_,rfl,hfn,hfv,?_,by simp;exact avc hb.1,hb.2.1,hb.2.2⟩
 have h1:=kL hf hss
 have h2:cz (Rel G (Av Z H G) w) (caps.map fun j=>.box j 0) (bs.map fun b=>Value.pointer (some ⟨b,0,none⟩)):=by
  clear hs hfv
  induction caps generalizing bs with
  |nil=>cases bs<;>exact hbs
  |cons c caps ih=>
   match bs,hbs with
   |b::bs,⟨q1,q2⟩=>exact⟨⟨b,q1,rfl⟩,ih (by
     simp only[avw]at hb
     exact⟨avx (by have:=avc hb.1;omega),hb.2⟩) bs q2⟩
 have:=fu h1 h2
 simpa using this
theorem Er{ops:Array Oper}{eff:Bool}{D:List Nat}:∀{rs:List Nat} {j:Nat},zJ ops eff D rs=some j→j∈rs∧∃o,ops[j]?=some o∧isQ o.op=true∧(lG o.op=true→eff=false∧uU ops j=true)∧o.dst.isSome=true∧Region.free .any ops (mkL ops.size D) j=true
 |[],j,h=>by simp[zJ]at h
 |q::rs,j,h=>by
  simp only[zJ]at h
  split at h<;>try (cases h;done)
  rename_i o ho
  split at h
  ·rename_i hb
   injection h with h
   subst h
   simp only[au8,av3,Bool.and_eq_false_iff,axE,Bool.not_eq_false']at hb
   obtain⟨⟨⟨b1,b2⟩,b3⟩,b4⟩:=hb
   exact⟨by simp,o,ho,b1,fun hl=>by rcases b2 with b2|b2;rw[hl]at b2;cases b2;exact b2,b3,b4⟩
  ·obtain⟨h1,h2⟩:=Er h
   exact⟨by simp[h1],h2⟩
end
end
abbrev dn(l:Array Bool):Nat→Bool:=fun k=>l.getD k true
theorem iC(l:Array Bool)(j k:Nat):dn (l.setIfInBounds j true) k=if k=j then true else dn l k:=by
 by_cases h:k=j
 ·subst h;rw[avr rfl];exact ib l k
 ·rw[avn h];exact awI true (awt h)
theorem dY{d:Nat}{s:SV}{L:SL}{t:Nat}:aW ((d,s)::l7 L d) t=if t=d then some s else aW L t:=by
 by_cases h:t=d
 ·subst h
  rw[avr rfl]
  simp[aW]
 ·rw[avn h]
  have hb:Nat.beq d t=false:=by
   cases hq:Nat.beq d t with
   |false=>rfl
   |true=>exact absurd (au9 hq).symm h
  simp only[aW,hb]
theorem wr:∀{l cs:List SV} {off:Nat},(mt cs off l).length=cs.length
 |[],_,_=>rfl
 |_::r,_,_=>by simp[mt,wr (l:=r)]
theorem E6:∀(l cs:List SV) (off i:Nat),(mt cs off l)[i]?=if off≤i∧i<off+l.length∧i<cs.length then l[i-off]? else cs[i]?
 |[],cs,off,i=>by rw[avn (by simp;omega)];rfl
 |s::r,cs,off,i=>by
  rw[mt,E6 r (cs.set off s) (off+1) i,axs,avw]
  by_cases h1:i=off
  ·subst h1
   rw[avn (by omega)]
   by_cases h2:i<cs.length
   ·rw[avr (by omega),awy,awG h2];rfl
   ·rw[avn (by omega),av8 (by simp;omega),av8 (by omega)]
  ·by_cases h2:off+1≤i∧i<off+1+r.length∧i<cs.length
   ·rw[avr h2,avr (by omega),show i-off=(i-(off+1))+1 by omega,avE]
   ·rw[avn h2,avn (by omega),awm (awt h1)]
theorem Og{l l' cs:List SV}{off off':Nat}(h:off+l.length≤off'∨off'+l'.length≤off):mt (mt cs off l) off' l'=mt (mt cs off' l') off l:=by
 refine awH fun i=>?_
 simp only[E6,wr]
 by_cases h1:off≤i∧i<off+l.length∧i<cs.length
 ·by_cases h2:off'≤i∧i<off'+l'.length∧i<cs.length
  ·omega
  ·simp only[avr h1,avn h2]
 ·by_cases h2:off'≤i∧i<off'+l'.length∧i<cs.length
  ·simp only[avn h1,avr h2]
  ·simp only[avn h1,avn h2]
theorem E3{x:SV}:∀{l cs:List SV} {off:Nat},x∈mt cs off l→x∈cs∨x∈l
 |[],_,_,h=>.inl h
 |s::r,cs,off,h=>by
  rcases E3 (l:=r) h with h1|h1
  ·rcases List.mem_or_eq_of_mem_set h1 with h2|h2
   ·exact .inl h2
   ·subst h2;exact .inr (by simp)
  ·exact .inr (by simp[h1])
def ovI(s:AlS):Item→Item
 |.box bt cells=>.box bt (mt cells s.off s.l)
 |it=>it
theorem jZ(s:AlS)(H:List Item)(k:Nat):(stP s H)[k]?=if k=s.j then H[k]?.map (ovI s)else H[k]?:=by
 unfold stP
 split
 ·rename_i bt cells hb
  by_cases h:k=s.j
  ·subst h
   rw[avr rfl,hb,awG (avf.1 hb).1]
   rfl
  ·rw[avn h,awm (awt h)]
 ·rename_i hb
  by_cases h:k=s.j
  ·subst h
   rw[avr rfl]
   cases hh:H[s.j]? with
   |none=>rfl
   |some it=>
    cases it with
    |box bt cells=>exact absurd hh (hb bt cells)
    |row=>rfl
    |gone=>rfl
  ·rw[avn h]
theorem JJ(s:AlS)(H:List Item):(stP s H).length=H.length:=by
 unfold stP
 split
 ·rw[axs]
 ·rfl
theorem aaW{s:AlS}{H:List Item}{k:Nat}{it:Item}(h:s.j≠k):stP s (H.set k it)=(stP s H).set k it:=by
 refine awH fun i=>?_
 rw[jZ,avv,avv,jZ,JJ]
 by_cases h1:k=i
 ·subst h1;rw[avn (awt h),avr rfl,avr rfl]
 ·rw[avn h1,avn h1]
theorem tT{s p:AlS}(h:HU s p=true):s.i≠p.i∧(s.j≠p.j∨s.off+s.l.length≤p.off∨p.off+p.l.length≤s.off):=by
 simp only[HU,au8,awM,av3]at h
 obtain⟨h1,h2⟩:=h
 refine⟨fun e=>(by rw[e,axt]at h1;cases h1),?_⟩
 rcases h2 with(h2|h2)|h2
 ·exact .inl fun e=>by rw[e,axt]at h2;cases h2
 ·exact .inr (.inl (avc h2))
 ·exact .inr (.inr (avc h2))
theorem VH{s p:AlS}(h:HU s p=true)(H:List Item):stP s (stP p H)=stP p (stP s H):=by
 obtain⟨_,h⟩:=tT h
 refine awH fun k=>?_
 rw[jZ,jZ,jZ,jZ]
 by_cases h1:k=s.j
 ·subst h1
  rw[avr rfl]
  by_cases h2:s.j=p.j
  ·rw[avr h2,avr h2,avr rfl]
   cases hh:H[s.j]? with
   |none=>rfl
   |some it=>
    cases it with
    |box bt cells=>
     simp only[avX,ovI]
     rw[Og (by rcases h with h|h|h;exact absurd h2 h;exact .inr h;exact .inl h)]
    |row=>rfl
    |gone=>rfl
  ·rw[avn h2,avn h2,avr rfl]
 ·rw[avn h1]
  by_cases h2:k=p.j
  ·rw[avr h2,avr h2,avn h1]
  ·rw[avn h2,avn h2,avn h1]
theorem m5{f:Nat→Bool}{H:List Item}:∀{ss:List AlS},(cL f ss H).length=H.length
 |[]=>rfl
 |s::r=>by
  simp only[cL]
  split
  ·rw[JJ];exact m5
  ·exact m5
theorem xe{f:Nat→Bool}{H:List Item}{k:Nat}{it:Item}:∀{ss:List AlS},(∀s∈ss,f s.i=true→s.j≠k)→cL f ss (H.set k it)=(cL f ss H).set k it
 |[],_=>rfl
 |s::r,h=>by
  have ih:=xe (f:=f) (H:=H) (k:=k) (it:=it) (ss:=r) fun s hs=>h s (by simp[hs])
  simp only[cL]
  split
  ·rename_i h1
   rw[ih,aaW (h s (by simp) h1)]
  ·exact ih
theorem jm{f g:Nat→Bool}{H:List Item}:∀{ss:List AlS},(∀s∈ss,f s.i=g s.i)→cL f ss H=cL g ss H
 |[],_=>rfl
 |s::r,h=>by
  simp only[cL]
  rw[h s (by simp),jm (ss:=r) fun s hs=>h s (by simp[hs])]
theorem kM{f:Nat→Bool}{H:List Item}:∀{ss:List AlS},(∀s∈ss,f s.i=false)→cL f ss H=H
 |[],_=>rfl
 |s::r,h=>by
  simp only[cL]
  rw[h s (by simp)]
  exact kM (ss:=r) fun s hs=>h s (by simp[hs])
theorem Le{f g:Nat→Bool}{H:List Item}{s:AlS}(hg:∀k,g k=if k=s.i then true else f k)(hf:f s.i=false):∀{ss:List AlS},ss.Pairwise (fun s p=>HU s p=true)→s∈ss→cL g ss H=stP s (cL f ss H)
 |[],_,hs=>by cases hs
 |p::r,hp,hs=>by
  obtain⟨h1,h2⟩:=awg.1 hp
  simp only[cL]
  rcases avz.1 hs with e|hs
  ·subst e
   rw[hg s.i,avr rfl,hf]
   dsimp only
   rw[jm (f:=g) (g:=f) (ss:=r) fun q hq=>by rw[hg,avn (awt (tT (h1 q hq)).1)]]
  ·have hne:=(tT (h1 s hs)).1
   have ih:=Le (H:=H) hg hf h2 hs
   rw[hg p.i,avn hne,ih]
   split
   ·exact VH (h1 s hs) _
   ·rfl
theorem EC{f:Nat→Bool}{H:List Item}{k bt:Nat}{cells:List SV}(h:H[k]?=some (.box bt cells)):∀{ss:List AlS},∃cells',(cL f ss H)[k]?=some (.box bt cells')∧cells'.length=cells.length
 |[]=>⟨cells,h,rfl⟩
 |s::r=>by
  obtain⟨c',h1,h2⟩:=EC (f:=f) h (ss:=r)
  simp only[cL]
  split
  ·rw[jZ,h1]
   split
   ·exact⟨_,rfl,by rw[wr,h2]⟩
   ·exact⟨c',rfl,h2⟩
  ·exact⟨c',h1,h2⟩
def mg(h0:Nat)(H:List Item):Prop:=∀(k:Nat) (t:TypeId) (cs:List SV),H[k]?=some (.box t cs)→∀s∈cs,s.refs h0=true
theorem Gg{h0:Nat}{f:Nat→Bool}{H:List Item}(hH:mg h0 H):∀{ss:List AlS},(∀s∈ss,∀x∈s.l,x.refs h0=true)→mg h0 (cL f ss H)
 |[],_=>hH
 |s::r,h=>by
  have ih:=Gg (f:=f) hH (ss:=r) fun s hs=>h s (by simp[hs])
  simp only[cL]
  split
  ·intro k t cs hk x hx
   rw[jZ]at hk
   split at hk
   ·cases hh:(cL f r H)[k]? with
    |none=>rw[hh]at hk;cases hk
    |some it=>
     rw[hh]at hk
     cases it with
     |box bt cells=>
      simp only[avX,ovI,avd,Item.box.injEq]at hk
      obtain⟨rfl,rfl⟩:=hk
      rcases E3 hx with h1|h1
      ·exact ih k _ _ hh x h1
      ·exact h s (by simp) x h1
     |row=>simp[ovI]at hk
     |gone=>simp[ovI]at hk
   ·exact ih k t cs hk x hx
  ·exact ih
theorem rg(f:Nat→Bool)(la:List AlA)(r:Nat):(alX f la)[r]?=la[r]?.map fun a=>match f a.i with
  |true=>.box a.t a.cs
  |false=>.gone:=by
 unfold alX
 rw[av4]
 rfl
abbrev Dis(la:List AlA):Prop:=la.Pairwise fun a b=>a.i≠b.i∧a.d≠b.d
theorem Vj{la:List AlA}(h:Dis la){r k:Nat}{a b:AlA}(ha:la[r]?=some a)(hb:la[k]?=some b)(hne:k≠r):b.i≠a.i∧b.d≠a.d:=by
 obtain⟨h1,rfl⟩:=avf.1 ha
 obtain⟨h2,rfl⟩:=avf.1 hb
 have hp:=List.pairwise_iff_getElem.1 h
 rcases Nat.lt_or_gt_of_ne hne with h3|h3
 ·exact hp k r h2 h1 h3
 ·have:=hp r k h1 h2 h3
  exact⟨awt this.1,awt this.2⟩
theorem akH{f g:Nat→Bool}{la:List AlA}{r:Nat}{a:AlA}(hd:Dis la)(ha:la[r]?=some a)(hg:∀k,g k=if k=a.i then true else f k):alX g la=(alX f la).set r (.box a.t a.cs):=by
 refine awH fun k=>?_
 rw[avv,rg]
 by_cases h:r=k
 ·subst h
  rw[avr rfl,ha,avr (by unfold alX;rw[awW];exact(avf.1 ha).1)]
  simp only[avX]
  rw[hg,avr rfl]
 ·rw[avn h,rg]
  cases hk:la[k]? with
  |none=>rfl
  |some b=>
   simp only[avX]
   rw[hg,avn (Vj hd ha hk (awt h)).1]
theorem HR{f g:Nat→Bool}{la:List AlA}{r:Nat}{a:AlA}{H0:List Item}(hd:Dis la)(ha:la[r]?=some a)(hg:∀k,g k=if k=a.i then true else f k):H0++alX g la=(H0++alX f la).set (H0.length+r) (.box a.t a.cs):=by
 rw[akH hd ha hg,axQ,avn (by omega),show H0.length+r-H0.length=r by omega]
theorem aee{h0:Nat}{f:Nat→Bool}{la:List AlA}{H0:List Item}(hH:mg h0 H0)(hla:∀a∈la,∀x∈a.cs,x.refs h0=true):mg h0 (H0++alX f la):=by
 intro k t cs hk x hx
 rcases avt k H0.length with h|h
 ·rw[avi h]at hk
  exact hH k t cs hk x hx
 ·rw[avj h,rg]at hk
  cases hh:la[k-H0.length]? with
  |none=>rw[hh]at hk;cases hk
  |some a=>
   rw[hh]at hk
   simp only[avX,avd]at hk
   split at hk
   ·simp only[Item.box.injEq]at hk
    obtain⟨rfl,rfl⟩:=hk
    exact hla a (av1 hh) x hx
   ·cases hk
theorem gU{f g:Nat→Bool}{t:Nat}:∀{la:List AlA} {k:Nat} {L M:SL},(∀a∈la,a.d=t→f a.i=g a.i)→aW L t=aW M t→aW (fJ f la k L) t=aW (fJ g la k M) t
 |[],_,_,_,_,h=>h
 |b::l,k,L,M,hl,h=>by
  simp only[fJ]
  refine gU (fun a ha=>hl a (by simp[ha])) ?_
  by_cases e:b.d=t
  ·rw[←hl b (by simp) e]
   split
   ·rw[dY,dY,avr e.symm,avr e.symm]
   ·exact h
  ·have e':t≠b.d:=fun h=>e h.symm
   split<;>split<;>(try rw[dY,avn e'])<;>(try rw[dY,avn e'])<;>exact h
theorem Ey{f:Nat→Bool}{t:Nat}:∀{la:List AlA} {k:Nat} {L:SL},(∀a∈la,a.d≠t)→aW (fJ f la k L) t=aW L t
 |[],_,_,_=>rfl
 |b::l,k,L,h=>by
  simp only[fJ]
  rw[Ey fun a ha=>h a (by simp[ha])]
  split
  ·rw[dY,avn (fun e=>h b (by simp) e.symm)]
  ·rfl
theorem Cl{f g:Nat→Bool}{a:AlA}(hg:∀k,g k=if k=a.i then true else f k):∀{la:List AlA} {r k:Nat} {L:SL},Dis la→la[r]?=some a→∀t,aW (fJ g la k L) t=if t=a.d then some (.box (k+r) 0)else aW (fJ f la k L) t
 |[],r,_,_,_,h,_=>by simp at h
 |b::l,0,k,L,hd,h,t=>by
  simp only[avP,avd]at h
  subst h
  obtain⟨h1,h2⟩:=awg.1 hd
  simp only[fJ]
  rw[hg b.i,avr rfl]
  dsimp only
  by_cases e:t=b.d
  ·subst e
   rw[avr rfl,Ey fun a ha=>awt (h1 a ha).2,dY,avr rfl,axZ]
  ·rw[avn e]
   refine gU (fun a ha _=>by rw[hg,avn (awt (h1 a ha).1)]) ?_
   rw[dY,avn e]
   split
   ·rw[dY,avn e]
   ·rfl
 |b::l,r+1,k,L,hd,h,t=>by
  obtain⟨h1,h2⟩:=awg.1 hd
  rw[avE]at h
  simp only[fJ]
  rw[hg b.i,avn (h1 a (av1 h)).1,Cl hg h2 h t,show k+1+r=k+(r+1) by omega]
theorem Ef{f:Nat→Bool}{t:Nat}{s:SV}:∀{la:List AlA} {k:Nat} {L:SL},aW (fJ f la k L) t=some s→(∃r a,la[r]?=some a∧t=a.d∧f a.i=true∧s=.box (k+r) 0)∨aW L t=some s
 |[],_,_,h=>.inr h
 |b::l,k,L,h=>by
  simp only[fJ]at h
  rcases Ef h with⟨r,a,h1,h2,h3,h4⟩|h1
  ·exact .inl ⟨r+1,a,by rw[avE];exact h1,h2,h3,by rw[h4,show k+1+r=k+(r+1) by omega]⟩
  ·split at h1
   ·rename_i hb
    rw[dY]at h1
    split at h1
    ·rename_i e
     injection h1 with h1
     exact .inl ⟨0,b,rfl,e,hb,by rw[←h1,axZ]⟩
    ·exact .inr h1
   ·exact .inr h1
theorem m6{T:TT}{N:Nat}:∀{lo:List Oper} {i0:Nat} {la:List AlA},alA T N lo i0=some la→
  (∀q o,lo[q]?=some o→bJ o=true→∃(r:Nat) (a:AlA),la[r]?=some a∧a.i=i0+q∧o.dst=some a.d∧a.d<N∧∃x,o.op=.alloc a.t∧dH T a.t=some x∧x.z=true∧(∀p q,x.ty≠.pair p q)∧a.cs=x.ty.zsplit)∧
  (∀a∈la,i0≤a.i∧∃o,lo[a.i-i0]?=some o∧bJ o=true∧∃x,a.cs=Ty.zsplit x)∧Dis la
 |[],_,_,h=>by
  simp only[alA,avd]at h
  subst h
  exact⟨fun q o h=>(by simp at h),fun a h=>(by cases h),List.Pairwise.nil⟩
 |o::r,i,la,h=>by
  simp only[alA]at h
  have sub:∀{la:List AlA},(∀a∈la,i+1≤a.i∧∃o,r[a.i-(i+1)]?=some o∧bJ o=true∧∃x,a.cs=Ty.zsplit x)→∀a∈la,i≤a.i∧∃o',(o::r)[a.i-i]?=some o'∧bJ o'=true∧∃x,a.cs=Ty.zsplit x:=fun h a ha=>by
   obtain⟨h1,o',h2,h3⟩:=h a ha
   exact⟨by omega,o',by rw[show a.i-i=(a.i-(i+1))+1 by omega,avE];exact h2,h3⟩
  split at h
  ·rename_i hal
   obtain⟨h1,h2,h3⟩:=m6 h
   refine⟨fun q o' hq ho=>?_,sub h2,h3⟩
   cases q with
   |zero=>simp only[avP,avd]at hq;subst hq;rw[hal]at ho;cases ho
   |succ q=>
    rw[avE]at hq
    obtain⟨r',a,k1,k2,k3⟩:=h1 q o' hq ho
    exact⟨r',a,k1,by omega,k3⟩
  ·rename_i hal
   split at h<;>try (cases h;done)
   rename_i t d hop hdst
   split at h<;>try (cases h;done)
   rename_i x l hx hd hl
   split at h<;>try (cases h;done)
   rename_i hz hne
   split at h<;>try (cases h;done)
   rename_i hall
   injection h with h
   subst h
   obtain⟨h1,h2,h3⟩:=m6 hl
   refine⟨fun q o' hq ho=>?_,fun a ha=>?_,awg.2 ⟨fun b hb=>?_,h3⟩⟩
   ·cases q with
    |zero=>
     simp only[avP,avd]at hq
     subst hq
     exact⟨0,_,rfl,rfl,hdst,avc hd,x,hop,hx,hz,fun p q e=>hne _ _ e,rfl⟩
    |succ q=>
     rw[avE]at hq
     obtain⟨r',a,k1,k2,k3⟩:=h1 q o' hq ho
     exact⟨r'+1,a,by rw[avE];exact k1,by omega,k3⟩
   ·rcases avz.1 ha with e|ha
    ·subst e
     exact⟨avb _,o,by simp,hal,x.ty,rfl⟩
    ·exact sub h2 a ha
   ·have:=avq.1 hall b hb
    simp only[au8,av3]at this
    exact⟨fun e=>(by have:=this.1;simp only at e;rw[e,axt]at this;cases this),fun e=>(by have:=this.2;simp only at e;rw[e,axt]at this;cases this)⟩
def abb(T:TT)(ops:Array Oper)(la:List AlA)(h0:Nat)(La:SL)(Ha:List Item)(s:AlS)(o:Oper):Prop:=
 ∃t x v sv y bt cells,o.op=.store t x v∧o.guard=none∧o.dst=none∧opS La x=some (.box s.j s.off)∧opS La v=some sv∧dH T t=some y∧fI [] sv=some s.l∧Ha[s.j]?=some (.box bt cells)∧s.l.length=y.ty.n∧s.off+s.l.length≤cells.length∧
  (∀z∈s.l,z.refs h0=true)∧(∀a∈la,(Ny x a.d||Ny v a.d)=true→fZ ops 4 s.i a.i=true)∧Ia ops s.i s.j la h0=true
theorem lh{T:TT}{E:Env}{ops:Array Oper}{l:Array Bool}{la:List AlA}{h0:Nat}{La:SL}{Ha:List Item}:∀{lo:List Oper} {i0:Nat} {ss:List AlS},alS T E ops l la h0 La Ha lo i0=some ss→
  (∀q o,lo[q]?=some o→l.getD (i0+q) true=false→bJ o=false→fp E o=false→∃s∈ss,s.i=i0+q)∧
  (∀s∈ss,i0≤s.i∧l.getD s.i true=false∧∃o,lo[s.i-i0]?=some o∧bJ o=false∧abb T ops la h0 La Ha s o)∧ss.Pairwise (fun s p=>HU s p=true)
 |[],_,_,h=>by
  simp only[alS,avd]at h
  subst h
  exact⟨fun q o h=>(by simp at h),fun a h=>(by cases h),List.Pairwise.nil⟩
 |o::r,i,ss,h=>by
  simp only[alS]at h
  have sub:∀{ss:List AlS},(∀s∈ss,i+1≤s.i∧l.getD s.i true=false∧∃o,r[s.i-(i+1)]?=some o∧bJ o=false∧abb T ops la h0 La Ha s o)→∀s∈ss,i≤s.i∧l.getD s.i true=false∧∃o',(o::r)[s.i-i]?=some o'∧bJ o'=false∧abb T ops la h0 La Ha s o':=fun h a ha=>by
   obtain⟨h1,h1',o',h2,h3⟩:=h a ha
   exact⟨by omega,h1',o',by rw[show a.i-i=(a.i-(i+1))+1 by omega,avE];exact h2,h3⟩
  split at h
  ·rename_i hal
   obtain⟨h1,h2,h3⟩:=lh h
   refine⟨fun q o' hq hu ho ht=>?_,sub h2,h3⟩
   cases q with
   |zero=>
    simp only[avP,avd]at hq
    subst hq
    rw[show i+0=i from rfl]at hu
    rw[hu,ho,ht]at hal
    cases hal
   |succ q=>
    rw[avE]at hq
    obtain⟨s,k1,k2⟩:=h1 q o' hq (by rw[show i+1+q=i+(q+1) by omega];exact hu) ho ht
    exact⟨s,k1,by omega⟩
  ·rename_i hal
   simp only[axE]at hal
   split at h<;>try (cases h;done)
   rename_i t x v hop
   split at h<;>try (cases h;done)
   rename_i j off sv y hg hdst hx hv hy
   split at h<;>try (cases h;done)
   rename_i cs bt cells ss' hcs hH hss
   split at h<;>try (cases h;done)
   rename_i hall
   injection h with h
   subst h
   simp only[au8]at hall
   obtain⟨⟨⟨⟨⟨c1,c2⟩,c3⟩,c4⟩,c5⟩,c6⟩:=hall
   obtain⟨h1,h2,h3⟩:=lh hss
   refine⟨fun q o' hq hu ho ht=>?_,fun s hs=>?_,awg.2 ⟨fun p hp=>avq.1 c6 p hp,h3⟩⟩
   ·cases q with
    |zero=>exact⟨_,List.mem_cons_self ..,rfl⟩
    |succ q=>
     rw[avE]at hq
     obtain⟨s,k1,k2⟩:=h1 q o' hq (by rw[show i+1+q=i+(q+1) by omega];exact hu) ho ht
     exact⟨s,by simp[k1],by omega⟩
   ·rcases avz.1 hs with e|hs
    ·subst e
     exact⟨avb _,hal.1.1,o,by simp,hal.1.2,t,x,v,sv,y,bt,cells,hop,hg,hdst,hx,hv,hy,hcs,hH,au9 c1,avc c2,avq.1 c3,fun a ha hw=>by
      have:=avq.1 c4 a ha
      rw[hw]at this
      simpa using this,c5⟩
    ·exact sub h2 s hs
theorem Bi{ops:Array Oper}{i j:Nat}:∀{la:List AlA} {k r:Nat} {a:AlA},Ia ops i j la k=true→la[r]?=some a→j=k+r→fZ ops 4 i a.i=true
 |[],_,_,_,_,h,_=>by simp at h
 |b::l,k,0,a,h,ha,hj=>by
  simp only[avP,avd]at ha
  subst ha
  simp only[Ia,au8,awM,av3]at h
  rcases h.1 with h1|h1
  ·rw[hj,axZ,axt]at h1;cases h1
  ·exact h1
 |b::l,k,r+1,a,h,ha,hj=>by
  rw[avE]at ha
  simp only[Ia,au8]at h
  exact Bi h.2 ha (by omega)
theorem fU{l:Array Bool}{k:Nat}(h:k<l.size):l.getD k false=l.getD k true:=by simp[h]
theorem wm{ops:Array Oper}{l':Array Bool}(hs:l'.size=ops.size):∀{C:List Nat} {l:Array Bool},II ops l C=true→(∀k,l.getD k false=true→l'.getD k false=true)→(∃i∈C,l'.getD i true=false)→Region.ready .any ops l'≠[]
 |[],_,_,_,⟨_,h,_⟩=>by cases h
 |i::r,l,h,hsub,⟨k,hk,hu⟩=>by
  simp only[II,au8]at h
  obtain⟨h1,h2⟩:=h
  split at h1<;>try (cases h1;done)
  rename_i o ho
  have hlt:i<l'.size:=by rw[hs];exact(avh.1 ho).1
  cases hi:l'.getD i true with
  |false=>
   intro hr
   have:i∈Region.ready .any ops l':=awh.2 ⟨hi,o,ho,fun e he hb=>by
    have:=avq.1 h1 e (axC.2 he)
    rw[hb]at this
    exact hsub _ (by simpa using this)⟩
   rw[hr]at this
   cases this
  |true=>
   refine wm hs h2 (fun q hq=>?_) ⟨k,(avz.1 hk).resolve_left fun e=>(by subst e;rw[hi]at hu;cases hu),hu⟩
   by_cases e:i=q
   ·subst e;rw[fU hlt];exact hi
   ·rw[awI false e]at hq
    exact hsub q hq
def cu(l:Array Bool):Nat:=l.toList.countP fun b=>!b
theorem Ar:∀(l:List Bool) (j:Nat),l[j]?=some false→(l.set j true).countP (fun b=>!b)+1=l.countP (fun b=>!b)
 |[],_,h=>by simp at h
 |b::l,0,h=>by
  simp only[avP,avd]at h
  subst h
  simp
 |b::l,j+1,h=>by
  rw[avE]at h
  have:=Ar l j h
  rw[List.set_cons_succ]
  cases b<;>simp<;>omega
theorem zt{l:Array Bool}{j:Nat}(h:l.getD j true=false):cu (l.setIfInBounds j true)+1=cu l:=by
 unfold cu
 rw[Array.toList_setIfInBounds]
 refine Ar _ _ ?_
 rcases avt j l.size with hlt|hge
 ·simp[hlt]at h ⊢;exact h
 ·simp[avM hge]at h
theorem acK{l:Array Bool}(h:cu l=0)(k:Nat):l.getD k true=true:=by
 rcases avt k l.size with hlt|hge
 ·have:=List.countP_eq_zero.1 h l[k] (by simp)
  simp[hlt]at this ⊢
  exact this
 ·simp[avM hge]
theorem Jc(n:Nat):cu (mkL n [])=n:=by
 unfold cu mkL
 rw[Array.toList_replicate,List.countP_replicate]
 simp
end Go.Proofs.YtlahabkjhgkkjaaGreat
end
