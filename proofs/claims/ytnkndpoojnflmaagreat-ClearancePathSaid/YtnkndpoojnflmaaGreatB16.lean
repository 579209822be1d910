/- Pieces of a curve, common pieces: the program's contracts. -/
import Derived.Test.YtnkndpoojnflmaaGreatB15
import Derived.Test.YtnkndpoojnflmaaGreatB14
import Derived.Test.YtnkndpoojnflmaaGreatB6
import Derived.ProofKit
import Derived.OpenShut
import Derived.ChangeSame
import Derived.Deep.Slices
import Derived.Test.YtnkndpoojnflmaaGreatB13
noncomputable section
namespace Go.Proofs.YtnkndpoojnflmaaGreat
open Go.RowKit Go.IntKind
theorem aig:type_of% @List.filter_cons:=@List.filter_cons
theorem aim:type_of% @decide_eq_true_iff:=@decide_eq_true_iff
section
def u6(c d:BCU)(l:List BP):Prop:=jV c l∧okC 4000 d
instance (c d:BCU) (l:List BP):Decidable (u6 c d l):=by unfold u6;infer_instance
theorem Yp(d:BCU):(dv d).1=d.1:=by
 unfold dv
 cases d.2.2.2.1<;>rfl
theorem F0{k:Nat}{d:BCU}(h:okC k d):okC k (dv d):=by
 unfold dv
 cases d.2.2.2.1
 ·exact h
 ·exact YK k h
theorem zn{c:BCU}(hc:okC 4000 c):∀{L:List BP} {f:BP},okP 4000 f→(∀x∈L,okP 4000 x)→∀p∈v5 c f L,okC 4000 p
 |[],f,hf,_,p,hp=>by
  rw[List.mem_singleton.1 hp]
  exact⟨hc.1,hc.2.1,hf,hc.2.2.2⟩
 |x::r,f,hf,hL,p,hp=>by
  have hx:=hL x (by simp)
  have hr:∀y∈r,okP 4000 y:=fun y hy=>hL y (agO _ hy)
  unfold v5 at hp
  cases h:gN x c.2.2.2.2.1||gN x c.2.2.2.2.2<;>rw[h]at hp
  ·rcases agl.1 hp with e|e
   ·rw[e];exact⟨hc.1,hc.2.1,hf,hx⟩
   ·exact zn hc hx hr p e
  ·exact zn hc hf hr p hp
theorem Pm{c:BCU}{l:List BP}(h:jV c l):(pp c l).length≤20∧∀p∈pp c l,okC 4000 p:=by
 obtain⟨hc,hl,ho⟩:=h
 have hs:∀x∈cY (dC c) l,okP 4000 x:=fun x hx=>ho x (qe hx)
 have hn:(cY (dC c) l).length≤l.length:=m5
 have len:∀(L:List BP) (f:BP),(v5 c f L).length≤L.length+1:=by
  intro L
  induction L with
  |nil=>intro f;simp[v5]
  |cons x r ih=>
   intro f
   unfold v5
   cases gN x c.2.2.2.2.1||gN x c.2.2.2.2.2
   ·have:=ih x;simp only[cond_false,agi];omega
   ·have:=ih f;simp only[agd,agi];omega
 unfold pp
 cases V1 c l
 ·refine⟨?_,zn hc hc.2.2.1 hs⟩
  have:=len (cY (dC c) l) c.2.2.2.2.1
  simp only[cond_false]
  unfold Xf
  omega
 ·exact⟨by simp,fun p hp=>by cases hp⟩
def Kb:List En:=[enT Ek,enT MN,enK K6]
def WC:NT:=[((188,6),{keep:=[0,1,7,8],hl:=1}),((197,18),{keep:=[2,6,7,17,18,19],own:=[(6,39,tCU)],hl:=3}),((197,4),{keep:=[1,2,13],hl:=0}),((289,3),{keep:=[7],hl:=0}),((188,18),{keep:=[0,1,5,7,8,16],hl:=0})]
def Bp:Ctx:=CX (ens Kb) WC
def lX(c:BCU)(l:List BP)(s188_8:Int):Cfg:=⟨188,[.blk 0,.seq 25],[(0,.d (.sl tP) l),(1,.clo 290 [0]),(7,SI (l.length:Int)),(8,SI s188_8)],[.box 39 (Ty.split tCU c)],1,[⟨289,[.seq 4],3,2,[],1,none⟩,⟨197,[.seq 5,.seq 10],4,2,[(1,.d (.sl tP) l),(2,.box 0 0)],0,none⟩]⟩
def nS(c:BCU)(l:List BP)(s19:Int)(B1:BCU)(r2:List BCU):Cfg:=⟨197,[.blk 0,.seq 41],[(2,.box 0 0),(6,.own 2),(7,.box 1 0),(17,.d (.sl tP) (cY (dC c) l)),(18,SI ((cY (dC c) l).length:Int)),(19,SI s19)],[.box 39 (Ty.split tCU c),.box 39 (Ty.split tCU B1),.row 39 tCU r2],0,[]⟩
def adV(c:BCU)(l:List BP)(k:KT):Option (List RV):=k 6 (lX c l 0)
theorem aae(c:BCU)(l:List BP):RS Bp 197 [.d tCU c,.d (.sl tP) l] (adV c l):=rsX
def l6(c:BCU)(l:List BP)(s188_8:Int)(k:KT):Option (List RV):=match decide (s188_8<(l.length:Int))with|true=>(match aN l s188_8 with|some x1=>(match decide (okC 4000 c∧okP 4000 x1)with|true=>(match !(onP (dC c) (dec x1))with|true=>(match decide (s188_8≥0)with|true=>some [RV.d (.sl tCU) ([]),RV.d ai2 1]|false=>(match decide (jV c l)with|true=>none|false=>none))|false=>k 6 (lX c l (i64.wrap (s188_8+1))))|false=>none)|none=>none)|false=>(match decide ((-1)≥0)with|true=>some [RV.d (.sl tCU) ([]),RV.d ai2 1]|false=>(match decide (jV c l)with|true=>k 18 (nS c l 0 c ([]))|false=>none))
theorem pM(c:BCU)(l:List BP)(s188_8:Int):RN Bp 6 (lX c l s188_8) (l6 c l s188_8):=rnX
def rj(c:BCU)(l:List BP)(s19:Int)(B1:BCU)(r2:List BCU)(k:KT):Option (List RV):=match decide (s19<((cY (dC c) l).length:Int))with|true=>(match aN (cY (dC c) l) s19 with|some x1=>(match decide (okP 4000 x1∧okP 4000 c.2.2.2.2.1)with|true=>(match bZ (dec x1) (dec c.2.2.2.2.1)==0 with|true=>k 18 (nS c l (i64.wrap (s19+1)) B1 r2)|false=>(match decide (okP 4000 x1∧okP 4000 c.2.2.2.2.2)with|true=>(match bZ (dec x1) (dec c.2.2.2.2.2)==0 with|true=>k 18 (nS c l (i64.wrap (s19+1)) B1 r2)|false=>dup (.b .l .l) (match decide ((r2.length+([(B1.1,(B1.2.1,(B1.2.2.1,(B1.2.2.2.1,(B1.2.2.2.2.1,x1)))))]).length)*1040≤140737488355328∧r2.length+([(B1.1,(B1.2.1,(B1.2.2.1,(B1.2.2.2.1,(B1.2.2.2.2.1,x1)))))]).length≤140737488355328)with|true=>k 18 (nS c l (i64.wrap (s19+1)) (B1.1,(B1.2.1,(B1.2.2.1,(B1.2.2.2.1,(x1,B1.2.2.2.2.2))))) (r2++([(B1.1,(B1.2.1,(B1.2.2.1,(B1.2.2.2.1,(B1.2.2.2.2.1,x1)))))])))|false=>none))|false=>none))|false=>none)|none=>none)|false=>(match decide ((r2.length+([B1]).length)*1040≤140737488355328∧r2.length+([B1]).length≤140737488355328)with|true=>some [RV.d (.sl tCU) (r2++([B1])),RV.d ai2 0]|false=>none)
theorem wJ(c:BCU)(l:List BP)(s19:Int)(B1:BCU)(r2:List BCU):RN Bp 18 (nS c l s19 B1 r2) (rj c l s19 B1 r2):=rnX
section
variable (c:BCU) (l:List BP) (h:jV c l)
include h
theorem FH:∀(L:List BP) (i:Nat),(cY (dC c) l).drop i=L→i≤(cY (dC c) l).length→∀(f:BP) (r2:List BCU),r2.length≤i→Bp.Runs 18 (nS c l (i:Int) (ON c f c.2.2.2.2.2) r2) [.d (.sl tCU) (r2++v5 c f L),.d ai2 (0:Int)]
 |[],i,hd,hi,f,r2,hr=>by
  have hn:(cY (dC c) l).length≤l.length:=m5
  have hl:=h.2.1
  have hlen:=congrArg List.length hd
  rw[aif,List.length_nil]at hlen
  refine wJ _ _ _ _ _ ⟨0,?_⟩
  unfold rj
  rw[bV (by omega),agb,yi (by omega) (by omega)]
  rfl
 |x::r,i,hd,hi,f,r2,hr=>by
  have hn:(cY (dC c) l).length≤l.length:=m5
  have hl:=h.2.1
  have hlen:=congrArg List.length hd
  rw[aif,agi]at hlen
  have hil:i<(cY (dC c) l).length:=by omega
  have hd2:=agq hil
  rw[hd2]at hd
  injection hd with e1 e2
  have hx:okP 4000 x:=by rw[←e1];exact h.2.2 _ (qe (agz hil))
  have g1:aN (cY (dC c) l) (i:Int)=some x:=by rw[ao,af0 hil,e1]
  have ih:=FH r (i+1) e2 (by omega)
  refine wJ _ _ _ _ _ ?_
  unfold rj v5
  rw[bh hil,g1,bK (by omega)]
  dsimp only
  rw[dT (show okP 4000 x∧okP 4000 c.2.2.2.2.1 from⟨hx,h.1.2.2.1⟩),dT (show okP 4000 x∧okP 4000 c.2.2.2.2.2 from⟨hx,h.1.2.2.2⟩)]
  unfold gN
  cases q1:bZ (dec x) (dec c.2.2.2.2.1)==0
  ·cases q2:bZ (dec x) (dec c.2.2.2.2.2)==0
   ·obtain⟨n,hn⟩:=ih x (r2++[ON c f x]) (by simp;omega)
    refine⟨n,?_⟩
    rw[ago]at hn
    simp only[eH]
    rw[agb,yi (by omega) (by omega)]
    exact hn
   ·exact ih f r2 (by omega)
  ·exact ih f r2 (by omega)
theorem WJ:∀(j i:Nat),i+j=l.length→Bp.Runs 6 (lX c l (i:Int)) [.d (.sl tCU) (bif (l.drop i).any (fun p=>!onP (dC c) (dec p))then []else Xf c l),.d ai2 (bif (l.drop i).any (fun p=>!onP (dC c) (dec p))then(1:Int)else 0)]:=by
 intro j
 have hl:=h.2.1
 induction j with
 |zero=>
  intro i hi
  obtain⟨n,hn⟩:=FH c l h (cY (dC c) l) 0 rfl (ain _) c.2.2.2.2.1 [] (af6 _)
  refine pM _ _ _ ⟨n,?_⟩
  unfold l6
  rw[bV (by omega),jA (by omega)]
  dsimp only
  rw[dF (show ¬(-1:Int)≥0 by decide),dT h]
  exact hn
 |succ j ih=>
  intro i hi
  have hil:i<l.length:=by omega
  obtain⟨n,hn⟩:=ih (i+1) (by omega)
  refine pM _ _ _ ⟨n,?_⟩
  unfold l6
  rw[bh hil,ao,af0 hil,dO hil,List.any_cons,bK (by omega)]
  dsimp only
  rw[dT (show okC 4000 c∧okP 4000 l[i] from⟨h.1,h.2.2 _ (agz _)⟩)]
  cases onP (dC c) (dec l[i])
  ·dsimp only[Bool.not_false]
   rw[dT (show(i:Int)≥0 by omega)]
   rfl
  ·exact hn
end
def Zj:Cn 197 [tCU,(.sl tP)]:=cn fun(c:BCU) (l:List BP)=>lf (jV c l) [.d (.sl tCU) (pp c l),.d ai2 (aej c l)] fun h=>by
 have q:=WJ c l h l.length 0 (agE _)
 exact cJ Kb (aae _ _ q)
def WG:List En:=[enT Ek,enT MN,enL Sj,enT Mh]
def UD(d p:BCU)(_k:KT):Option (List RV):=og (decide (okC 4000 d∧okP 4000 p.2.2.2.2.1)) (match !(onP (dC d) (dec p.2.2.2.2.1))with|true=>some [RV.d .bool false]|false=>(og (decide (okC 4000 d∧okP 4000 p.2.2.2.2.2)) (match !(onP (dC d) (dec p.2.2.2.2.2))with|true=>some [RV.d .bool false]|false=>(match !d.1 with|true=>some [RV.d .bool true]|false=>(og (decide (okP 4000 ((((((hid (dv p)).2).2).2).2).1)∧okP 4000 ((((((hid (dv d)).2).2).2).2).2))) (match bZ (dec ((((((hid (dv p)).2).2).2).2).1)) (dec ((((((hid (dv d)).2).2).2).2).2))==0 with|true=>some [RV.d .bool false]|false=>(og (decide (ok Ln 300 ((((hid (dv d)).2).2).1)∧okP 4000 ((((((hid (dv p)).2).2).2).2).1)∧okP 4000 ((((((hid (dv p)).2).2).2).2).2)∧okP 4000 ((((((hid (dv d)).2).2).2).2).2))) (some [RV.d .bool (decide ((kL bI (ptd (dec ((((hid (dv d)).2).2).1)) (dec ((((((hid (dv p)).2).2).2).2).1))) (ptd (dec ((((hid (dv d)).2).2).1)) (dec ((((((hid (dv p)).2).2).2).2).2))) (ptd (dec ((((hid (dv d)).2).2).1)) (dec ((((((hid (dv d)).2).2).2).2).2))))≤0))]))))))))
def aaw:Cn 199 [tCU,tCU]:=cn fun(d p:BCU)=>lf (okC 4000 d∧okC 4000 p) [.d .bool (Gw d p)] fun h=>by
 refine az WG (UD d p) ⟨0,?_⟩
 obtain⟨hd,hp⟩:=h
 have hd':=F0 hd
 have hp':=F0 hp
 unfold UD Gw frB toB gN
 simp only[aX]
 rw[dT (show okC 4000 d∧okP 4000 p.2.2.2.2.1 from⟨hd,hp.2.2.1⟩),dT (show okC 4000 d∧okP 4000 p.2.2.2.2.2 from⟨hd,hp.2.2.2⟩)]
 cases onP (dC d) (dec p.2.2.2.2.1)
 ·rfl
 ·cases onP (dC d) (dec p.2.2.2.2.2)
  ·rfl
  ·cases ha:d.1
   ·rfl
   ·rw[dT (show okP 4000 (dv p).2.2.2.2.1∧okP 4000 (dv d).2.2.2.2.2 from⟨hp'.2.2.1,hd'.2.2.2⟩),dT (show ok Ln 300 (dv d).2.2.1∧okP 4000 (dv p).2.2.2.2.1∧okP 4000 (dv p).2.2.2.2.2∧okP 4000 (dv d).2.2.2.2.2 from⟨(hd'.1 ((Yp d).trans ha)).1,hp'.2.2.1,hp'.2.2.2,hd'.2.2.2⟩)]
    cases bZ (dec (dv p).2.2.2.2.1) (dec (dv d).2.2.2.2.2)==0<;>rfl
def Mq:List En:=[enK Zj,enT aaw]
def YR:NT:=[((69,6),{keep:=[0,1,7,8],hl:=2}),((91,5),{keep:=[17],hl:=0}),((71,3),{keep:=[7],hl:=0}),((69,18),{keep:=[0,1,5,7,8,16],hl:=0})]
def Jt:Ctx:=CX (ens Mq) YR
def n7(c d:BCU)(l:List BP)(s69_8:Int):Cfg:=⟨69,[.blk 0,.seq 25],[(0,.d (.sl tCU) (pp c l)),(1,.clo 198 [1]),(7,SI ((pp c l).length:Int)),(8,SI s69_8)],[.box 39 (Ty.split tCU c),.box 39 (Ty.split tCU d)],2,[⟨71,[.seq 4],3,2,[],2,none⟩,⟨91,[.seq 6],5,2,[],0,none⟩]⟩
def T1(c d:BCU)(l:List BP)(k:KT):Option (List RV):=og (decide (jV c l)) (k 6 (n7 c d l 0))
theorem ab1(c d:BCU)(l:List BP):RS Jt 91 [.d tCU c,.d tCU d,.d (.sl tP) l] (T1 c d l):=rsX
def mK(c d:BCU)(l:List BP)(s69_8:Int)(k:KT):Option (List RV):=match decide (s69_8<((pp c l).length:Int))with|true=>(match aN (pp c l) s69_8 with|some x1=>(og (decide (okC 4000 d∧okC 4000 x1)) (match Gw d x1 with|true=>some [RV.d .bool (decide (s69_8≥0))]|false=>k 6 (n7 c d l (i64.wrap (s69_8+1)))))|none=>none)|false=>some [RV.d .bool (decide ((-1)≥0))]
theorem sO(c d:BCU)(l:List BP)(s69_8:Int):RN Jt 6 (n7 c d l s69_8) (mK c d l s69_8):=rnX
theorem Wb(c d:BCU)(l:List BP)(h:u6 c d l):∀(j i:Nat),i+j=(pp c l).length→Jt.Runs 6 (n7 c d l (i:Int)) [.d .bool (((pp c l).drop i).any (Gw d))]:=by
 obtain⟨hn,ho⟩:=Pm h.1
 intro j
 induction j with
 |zero=>
  intro i hi
  refine sO _ _ _ _ ⟨0,?_⟩
  unfold mK
  rw[bV (by omega),jA (by omega)]
  rfl
 |succ j ih=>
  intro i hi
  have hil:i<(pp c l).length:=by omega
  obtain⟨n,hn⟩:=ih (i+1) (by omega)
  refine sO _ _ _ _ ⟨n,?_⟩
  unfold mK
  rw[bh hil,ao,af0 hil,dO hil,List.any_cons,bK (by omega)]
  dsimp only
  rw[dT (show okC 4000 d∧okC 4000 (pp c l)[i] from⟨h.2,ho _ (agz _)⟩)]
  cases Gw d (pp c l)[i]
  ·exact hn
  ·dsimp only
   rw[dT (show(i:Int)≥0 by omega)]
   rfl
def U8:Cn 91 [tCU,tCU,(.sl tP)]:=cn fun(c d:BCU) (l:List BP)=>lf (u6 c d l) [.d .bool (vV c d l)] fun h=>by
 obtain⟨n,hn⟩:=Wb c d l h (pp c l).length 0 (agE _)
 refine cJ Mq (ab1 _ _ _ ⟨n,?_⟩)
 unfold T1
 rw[dT h.1]
 exact hn
end
section
theorem Bw{c d:BCU}(h:jU c d):(v9 c d).length≤4∧∀x∈v9 c d,okP 4000 x:=by
 obtain⟨⟨h1,h2⟩,h3,h4⟩:=h
 have up:∀{k x},okP k x→k≤4000→okP 4000 x:=fun h hk=>kJ h hk (by decide)
 unfold v9
 cases hs:eG (dC c) (dC d)
 ·refine⟨?_,fun x hx=>?_⟩
  ·simp only[cond_false,ah5]
   have:∀l c,[BdL l]→[BdC c]→(kI l c).length≤4:=fun l c _ _=>agj tH.1 (by decide)
   obtain⟨c1,c2⟩:=rV h2
   obtain⟨d1,d2⟩:=rV h4
   have ec:(dC c).1=c.1:=rfl
   have ed:(dC d).1=d.1:=rfl
   unfold iN
   rw[ec,ed]
   cases ha:c.1<;>cases hb:d.1
   ·have i1:=(c2 ha).1
    have i2:=(d2 hb).1
    exact agj Fc.1 (by decide)
   ·have i1:=(c2 ha).1
    have i2:=(d1 hb).1
    exact this _ _
   ·have i1:=(c1 ha).1
    have i2:=(d2 hb).1
    exact this _ _
   ·have i1:=(c1 ha).1
    have i2:=(d1 hb).1
    show(BC _ _).length≤4
    unfold BC
    cases hq:ja (ciC (dC c)) (ciC (dC d))
    ·have i3:BdL (oe (ciC (dC c)) (ciC (dC d))):=Dx
     exact this _ _
    ·exact ain _
  ·obtain⟨p,hp,rfl⟩:=aiK.1 hx
   obtain⟨b,r,_,_⟩:=RE.supM_on h2 h4 hp
   exact af2 (aI (j:=1200) (by decide) (by decide))
 ·refine⟨by simp,fun x hx=>?_⟩
  have:x=c.2.2.2.2.1∨x=c.2.2.2.2.2∨x=d.2.2.2.2.1∨x=d.2.2.2.2.2:=by simpa using hx
  rcases this with e|e|e|e<;>rw[e]
  ·exact up h1.2.2.1 (by decide)
  ·exact up h1.2.2.2 (by decide)
  ·exact up h3.2.2.1 (by decide)
  ·exact up h3.2.2.2 (by decide)
theorem FS{α:Type}(z:α)(L T:List α):((iH z ((L.length:Int).toNat) ((((L++T).length:Int)).toNat-(L.length:Int).toNat) (L++T)).drop ((0:Int).toNat)).take ((L.length:Int).toNat-(0:Int).toNat)=L∧
  L.length≤(iH z ((L.length:Int).toNat) ((((L++T).length:Int)).toNat-(L.length:Int).toNat) (L++T)).length:=by
 have hcl:(iH z ((L.length:Int).toNat) ((((L++T).length:Int)).toNat-(L.length:Int).toNat) (L++T)).take L.length=L:=by
  unfold iH
  rw[show((L.length:Int)).toNat=L.length by omega,ago,List.take_append_of_le_length (by simp),aiU,Nat.min_self,List.take_left' rfl]
 refine⟨?_,?_⟩
 ·rw[show((0:Int)).toNat=0 from rfl,ahy,show((L.length:Int)).toNat-0=L.length by omega,hcl]
 ·have:=congrArg List.length hcl
  rw[agG]at this
  omega
def W3:Cn 84 [tCU,tCU]:=cn fun(a b:BCU)=>lf (gY a b∧eG (dC a) (dC b)=true) [.d .bool true] fun h=>by
 have e:Con Tryz.prog 84 [.d tCU a,.d tCU b] [.d .bool (eG (dC a) (dC b))]:=(Ua.g a b).h h.1
 rw[h.2]at e
 exact e
def J5:List En:=[enT W3,enT K3,enL TZ,enK K6,enF U8,enK Ds]
def QP:NT:=[((188,6),{keep:=[0,1,7,8],hl:=4}),((86,16),{keep:=[0,1,5,6],hl:=4}),((42,11),{keep:=[2,3,26,28],hl:=0}),((86,3),{keep:=[0,1,10],hl:=0}),((188,18),{keep:=[0,1,5,7,8,16],hl:=0}),((86,28),{keep:=[0,1,5,6,7,28],hl:=0})]
def jK:Ctx:=CX (ens J5) QP
def iE(c d:BCU)(s188_8:Int):Cfg:=⟨188,[.blk 0,.seq 25],[(0,.own 3),(1,.clo 88 [0,1]),(7,SI (([c.2.2.2.2.1,c.2.2.2.2.2,d.2.2.2.2.1,d.2.2.2.2.2]).length:Int)),(8,SI s188_8)],[.box 39 (Ty.split tCU c),.box 39 (Ty.split tCU d),.gone,.row 37 tP ([c.2.2.2.2.1,c.2.2.2.2.2,d.2.2.2.2.1,d.2.2.2.2.2])],4,[⟨86,[.seq 4],3,2,[(0,.own 3),(1,.clo 88 [0,1])],4,none⟩,⟨42,[.seq 12],11,3,[(2,.box 0 0),(3,.box 1 0),(26,.own 3)],0,none⟩]⟩
def dm(c d:BCU)(s86_5 s86_6:Int)(r86_3:List BP):Cfg:=⟨86,[.blk 0,.seq 35],[(0,.own 3),(1,.clo 88 [0,1]),(5,SI s86_5),(6,SI s86_6)],[.box 39 (Ty.split tCU c),.box 39 (Ty.split tCU d),.gone,.row 37 tP r86_3],4,[⟨42,[.seq 12],11,3,[(2,.box 0 0),(3,.box 1 0),(26,.own 3)],0,none⟩]⟩
def If(c d:BCU)(k:KT):Option (List RV):=match decide (gY c d∧eG (dC c) (dC d)=true)with|true=>(match decide (([c.2.2.2.2.1,c.2.2.2.2.2,d.2.2.2.2.1,d.2.2.2.2.2]).length≤100000)with|true=>k 6 (iE c d 0)|false=>none)|false=>none
theorem XN(c d:BCU):RS jK 42 [.d tCU c,.d tCU d] (If c d):=rsX
def ij(c d:BCU)(s188_8:Int)(k:KT):Option (List RV):=match decide (s188_8<(([c.2.2.2.2.1,c.2.2.2.2.2,d.2.2.2.2.1,d.2.2.2.2.2]).length:Int))with|true=>(match aN ([c.2.2.2.2.1,c.2.2.2.2.2,d.2.2.2.2.1,d.2.2.2.2.2]) s188_8 with|some _=>(match true,([c.2.2.2.2.1,c.2.2.2.2.2,d.2.2.2.2.1,d.2.2.2.2.2])[(s188_8).toNat]? with|true,some x1=>(match decide (okC 4000 c∧okP 4000 x1)with|true=>(match !(gM (dC c) (dec x1))with|true=>(match s188_8==(-1)with|true=>(match decide (jV c ([c.2.2.2.2.1,c.2.2.2.2.2,d.2.2.2.2.1,d.2.2.2.2.2]))with|true=>(match decide (gY c d∧eG (dC c) (dC d)=true)with|true=>(match decide (u6 c d (cY (dC c) ([c.2.2.2.2.1,c.2.2.2.2.2,d.2.2.2.2.1,d.2.2.2.2.2])))with|true=>some [RV.d (.sl tP) (cY (dC c) ([c.2.2.2.2.1,c.2.2.2.2.2,d.2.2.2.2.1,d.2.2.2.2.2])),RV.d .bool (vV c d (cY (dC c) ([c.2.2.2.2.1,c.2.2.2.2.2,d.2.2.2.2.1,d.2.2.2.2.2])))]|false=>none)|false=>none)|false=>none)|false=>k 16 (dm c d s188_8 (i64.wrap (s188_8+1)) ([c.2.2.2.2.1,c.2.2.2.2.2,d.2.2.2.2.1,d.2.2.2.2.2])))|false=>(match decide (okC 4000 d∧okP 4000 x1)with|true=>(match !(gM (dC d) (dec x1))with|true=>(match s188_8==(-1)with|true=>(match decide (jV c ([c.2.2.2.2.1,c.2.2.2.2.2,d.2.2.2.2.1,d.2.2.2.2.2]))with|true=>(match decide (gY c d∧eG (dC c) (dC d)=true)with|true=>(match decide (u6 c d (cY (dC c) ([c.2.2.2.2.1,c.2.2.2.2.2,d.2.2.2.2.1,d.2.2.2.2.2])))with|true=>some [RV.d (.sl tP) (cY (dC c) ([c.2.2.2.2.1,c.2.2.2.2.2,d.2.2.2.2.1,d.2.2.2.2.2])),RV.d .bool (vV c d (cY (dC c) ([c.2.2.2.2.1,c.2.2.2.2.2,d.2.2.2.2.1,d.2.2.2.2.2])))]|false=>none)|false=>none)|false=>none)|false=>k 16 (dm c d s188_8 (i64.wrap (s188_8+1)) ([c.2.2.2.2.1,c.2.2.2.2.2,d.2.2.2.2.1,d.2.2.2.2.2])))|false=>k 6 (iE c d (i64.wrap (s188_8+1))))|false=>none))|false=>none)|_,_=>none)|none=>none)|false=>(match(-1)==(-1)with|true=>(match decide (jV c ([c.2.2.2.2.1,c.2.2.2.2.2,d.2.2.2.2.1,d.2.2.2.2.2]))with|true=>(match decide (gY c d∧eG (dC c) (dC d)=true)with|true=>(match decide (u6 c d (cY (dC c) ([c.2.2.2.2.1,c.2.2.2.2.2,d.2.2.2.2.1,d.2.2.2.2.2])))with|true=>some [RV.d (.sl tP) (cY (dC c) ([c.2.2.2.2.1,c.2.2.2.2.2,d.2.2.2.2.1,d.2.2.2.2.2])),RV.d .bool (vV c d (cY (dC c) ([c.2.2.2.2.1,c.2.2.2.2.2,d.2.2.2.2.1,d.2.2.2.2.2])))]|false=>none)|false=>none)|false=>none)|false=>k 16 (dm c d (-1) (i64.wrap ((-1)+1)) ([c.2.2.2.2.1,c.2.2.2.2.2,d.2.2.2.2.1,d.2.2.2.2.2])))
theorem kD(c d:BCU)(s188_8:Int):RN jK 6 (iE c d s188_8) (ij c d s188_8):=rnX
def iw(c d:BCU)(s86_5 s86_6:Int)(r86_3:List BP)(k:KT):Option (List RV):=match decide (s86_6<(r86_3.length:Int))with|true=>(match aN r86_3 s86_6 with|some _=>(match true,r86_3[(s86_6).toNat]? with|true,some x1=>(match decide (okC 4000 c∧okP 4000 x1)with|true=>(match !(gM (dC c) (dec x1))with|true=>k 16 (dm c d s86_5 (i64.wrap (s86_6+1)) r86_3)|false=>(match decide (okC 4000 d∧okP 4000 x1)with|true=>(match !(!(gM (dC d) (dec x1)))with|true=>(match aN r86_3 s86_5 with|some _=>(match true,r86_3[(s86_5).toNat]? with|true,some _=>k 16 (dm c d (i64.wrap (s86_5+1)) (i64.wrap (s86_6+1)) (r86_3.set ((s86_5).toNat) x1))|_,_=>none)|none=>none)|false=>k 16 (dm c d s86_5 (i64.wrap (s86_6+1)) r86_3))|false=>none))|false=>none)|_,_=>none)|none=>none)|false=>(match decide ((0:Int)≤s86_5∧s86_5≤(r86_3.length:Int)∧(r86_3.length:Int)≤(r86_3.length:Int))with|true=>(match decide ((0:Int)≤0∧0≤s86_5∧s86_5≤((iH (Ty.zero tP) ((s86_5:Int).toNat) (((r86_3.length:Int):Int).toNat-(s86_5:Int).toNat) r86_3).length:Int))with|true=>(match decide (jV c (((iH (Ty.zero tP) ((s86_5:Int).toNat) (((r86_3.length:Int):Int).toNat-(s86_5:Int).toNat) r86_3).drop ((0:Int).toNat)).take ((s86_5:Int).toNat-(0:Int).toNat)))with|true=>(match decide (gY c d∧eG (dC c) (dC d)=true)with|true=>(match decide (u6 c d (cY (dC c) (((iH (Ty.zero tP) ((s86_5:Int).toNat) (((r86_3.length:Int):Int).toNat-(s86_5:Int).toNat) r86_3).drop ((0:Int).toNat)).take ((s86_5:Int).toNat-(0:Int).toNat))))with|true=>some [RV.d (.sl tP) (cY (dC c) (((iH (Ty.zero tP) ((s86_5:Int).toNat) (((r86_3.length:Int):Int).toNat-(s86_5:Int).toNat) r86_3).drop ((0:Int).toNat)).take ((s86_5:Int).toNat-(0:Int).toNat))),RV.d .bool (vV c d (cY (dC c) (((iH (Ty.zero tP) ((s86_5:Int).toNat) (((r86_3.length:Int):Int).toNat-(s86_5:Int).toNat) r86_3).drop ((0:Int).toNat)).take ((s86_5:Int).toNat-(0:Int).toNat))))]|false=>none)|false=>none)|false=>none)|false=>none)|false=>none)
theorem kE(c d:BCU)(s86_5 s86_6:Int)(r86_3:List BP):RN jK 16 (dm c d s86_5 s86_6 r86_3) (iw c d s86_5 s86_6 r86_3):=rnX
section
variable (c d:BCU) (h:jU c d) (hs:eG (dC c) (dC d)=true)
include h hs
theorem Ah(L:List BP)(hl:L.length≤4)(ho:∀x∈L,okP 4000 x):(match decide (jV c L)with
  |true=>(match decide (gY c d∧eG (dC c) (dC d)=true)with
   |true=>(match decide (u6 c d (cY (dC c) L))with|true=>some [RV.d (.sl tP) (cY (dC c) L),RV.d .bool (vV c d (cY (dC c) L))]|false=>none)
   |false=>none)
  |false=>none)=some [RV.d (.sl tP) (cY (dC c) L),RV.d .bool (vV c d (cY (dC c) L))]:=by
 have hc:okC 4000 c:=cG h.1.1 (by decide) (by decide)
 have hd:okC 4000 d:=cG h.2.1 (by decide) (by decide)
 have q:jV c L:=⟨hc,by omega,ho⟩
 have hn:(cY (dC c) L).length≤L.length:=m5
 have _q2:u6 c d (cY (dC c) L):=⟨⟨hc,by omega,fun x hx=>ho x (qe hx)⟩,hd⟩
 rw[dT q,dT (show gY c d∧eG (dC c) (dC d)=true from⟨⟨h.1.2,h.2.2⟩,hs⟩)]
 dsimp only
 rw[dT _q2]
theorem ul:∀(S:List BP) (L J:List BP),J≠[]→(∀x∈L++(J++S),okP 4000 x)→(L++(J++S)).length≤4→
  jK.Runs 16 (dm c d (L.length:Int) ((L.length+J.length:Nat):Int) (L++(J++S))) [RV.d (.sl tP) (cY (dC c) (L++S.filter (gD c d))),RV.d .bool (vV c d (cY (dC c) (L++S.filter (gD c d))))]
 |[],L,J,hJ,hok,h4=>by
  have h4':L.length+J.length≤4:=by simpa using h4
  obtain⟨c1,c2⟩:=FS (Ty.zero tP) L J
  refine kE _ _ _ _ _ ⟨0,?_⟩
  unfold iw
  rw[agt,bV (by simp)]
  dsimp only
  rw[dT (show(0:Int)≤(L.length:Int)∧(L.length:Int)≤((L++J).length:Int)∧((L++J).length:Int)≤((L++J).length:Int) by simp only[agv];omega)]
  rw[dT (show(0:Int)≤0∧0≤(L.length:Int)∧(L.length:Int)≤((iH (Ty.zero tP) ((L.length:Int).toNat) ((((L++J).length:Int)).toNat-(L.length:Int).toNat) (L++J)).length:Int) by omega)]
  rw[c1,List.filter_nil,agt]
  exact Ah c d h hs L (by omega) fun x hx=>hok x (aht _ hx)
 |q::S,L,J,hJ,hok,h4=>by
  have h4':L.length+(J.length+(S.length+1))≤4:=by simpa using h4
  have hc:okC 4000 c:=cG h.1.1 (by decide) (by decide)
  have hd:okC 4000 d:=cG h.2.1 (by decide) (by decide)
  have hq:okP 4000 q:=hok q (by simp)
  have g1:(L++(J++q::S))[L.length+J.length]?=some q:=by
   have:=lU (L++J) q S
   rw[agv,ago]at this
   exact this
  obtain⟨y,T,rfl⟩:=List.exists_cons_of_ne_nil hJ
  have g2:(L++(y::T++q::S))[L.length]?=some y:=lU L y (T++q::S)
  have hset:(L++(y::T++q::S)).set L.length q=(L++[q])++((T++[q])++S):=by
   have:=zq y q (T++q::S) L
   rw[show y::T++q::S=y::(T++q::S) from rfl,this]
   simp
  have e2:L++(y::T++q::S)=L++((y::T++[q])++S):=by simp
  have key:∀r n,(match gD c d q with
    |true=>jK.k n 16 (dm c d ((L.length+1:Nat):Int) ((L.length+(y::T).length+1:Nat):Int) ((L++[q])++((T++[q])++S)))
    |false=>jK.k n 16 (dm c d (L.length:Int) ((L.length+(y::T).length+1:Nat):Int) (L++(y::T++q::S))))=some r→
    iw c d (L.length:Int) ((L.length+(y::T).length:Nat):Int) (L++(y::T++q::S)) (jK.k n)=some r:=fun r n hk=>by
   unfold iw
   rw[bh (by simp only[agv,agi];omega),ao,g1,show((L.length+(y::T).length:Nat):Int).toNat=L.length+(y::T).length by omega,g1]
   dsimp only
   rw[dT (show okC 4000 c∧okP 4000 q from⟨hc,hq⟩),dT (show okC 4000 d∧okP 4000 q from⟨hd,hq⟩),bK (k:=L.length+(y::T).length) (by simp only[agi]at*;omega),bK (k:=L.length) (by omega),ao,g2,show((L.length:Nat):Int).toNat=L.length by omega,g2,hset]
   unfold gD at hk
   cases r1:gM (dC c) (dec q)<;>cases r2:gM (dC d) (dec q)<;>rw[r1,r2]at hk<;>exact hk
  rw[aig]
  cases hk:gD c d q
  ·obtain⟨n,hn⟩:=ul S L (y::T++[q]) (by simp) (e2▸hok) (e2▸h4)
   refine kE _ _ _ _ _ ⟨n,key _ n ?_⟩
   rw[hk,e2]
   rw[agv,agb,←ahU]at hn
   exact hn
  ·obtain⟨n,hn⟩:=ul S (L++[q]) (T++[q]) (by simp) (fun x hx=>by
    simp only[ag7,agl,ahS,or_false]at hx
    rcases hx with(hx|hx)|(hx|hx)|hx
    ·exact hok x (by simp[hx])
    ·rw[hx];exact hq
    ·exact hok x (by simp[hx])
    ·rw[hx];exact hq
    ·exact hok x (by simp[hx])) (by simp at h4 ⊢;omega)
   refine kE _ _ _ _ _ ⟨n,key _ n ?_⟩
   rw[hk]
   have n1:(L++[q]).length=L.length+1:=by simp
   have n2:L.length+1+(T++[q]).length=L.length+(y::T).length+1:=by simp;omega
   rw[n1,n2,ago L [q] (S.filter (gD c d))]at hn
   exact hn
theorem Fl(X:List BP)(hX:[c.2.2.2.2.1,c.2.2.2.2.2,d.2.2.2.2.1,d.2.2.2.2.2]=X)(h4:X.length≤4)(hok:∀x∈X,okP 4000 x):∀(S A:List BP),A++S=X→A.filter (gD c d)=A→
  jK.Runs 6 (iE c d (A.length:Int)) [RV.d (.sl tP) (cY (dC c) (A++S.filter (gD c d))),RV.d .bool (vV c d (cY (dC c) (A++S.filter (gD c d))))]
 |[],A,hA,hf=>by
  rw[agt]at hA
  refine kD _ _ _ ⟨0,?_⟩
  unfold ij
  rw[hX,←hA,bV (by omega),List.filter_nil,agt]
  exact Ah c d h hs A (hA▸h4) (hA▸hok)
 |q::S,A,hA,hf=>by
  have hc:okC 4000 c:=cG h.1.1 (by decide) (by decide)
  have hd:okC 4000 d:=cG h.2.1 (by decide) (by decide)
  have hq:okP 4000 q:=hok q (by rw[←hA];simp)
  have g1:X[A.length]?=some q:=by rw[←hA];exact lU A q S
  have hlen:A.length<X.length:=by rw[←hA];simp
  have key:∀r n,(match gD c d q with
    |true=>jK.k n 6 (iE c d ((A.length+1:Nat):Int))
    |false=>jK.k n 16 (dm c d (A.length:Int) ((A.length+1:Nat):Int) X))=some r→
    ij c d (A.length:Int) (jK.k n)=some r:=fun r n hk=>by
   unfold ij
   rw[hX,bh hlen,ao,g1,show((A.length:Nat):Int).toNat=A.length by omega,g1]
   dsimp only
   rw[dT (show okC 4000 c∧okP 4000 q from⟨hc,hq⟩),dT (show okC 4000 d∧okP 4000 q from⟨hd,hq⟩),bK (k:=A.length) (by omega),show((A.length:Int)== -1)=false by rw[aiH];omega]
   unfold gD at hk
   cases r1:gM (dC c) (dec q)<;>cases r2:gM (dC d) (dec q)<;>rw[r1,r2]at hk<;>exact hk
  rw[aig]
  cases hk:gD c d q
  ·obtain⟨n,hn⟩:=ul c d h hs S A [q] (by simp) (by rw[ahk,hA];exact hok) (by rw[ahk,hA];exact h4)
   refine kD _ _ _ ⟨n,key _ n ?_⟩
   rw[hk]
   rw[ahk,hA]at hn
   exact hn
  ·obtain⟨n,hn⟩:=Fl X hX h4 hok S (A++[q]) (by rw[ago];exact hA) (by rw[List.filter_append,hf,aig,hk];rfl)
   refine kD _ _ _ ⟨n,key _ n ?_⟩
   rw[hk]
   have n1:(A++[q]).length=A.length+1:=by simp
   rw[n1,ago A [q] (S.filter (gD c d))]at hn
   exact hn
end
theorem HM(c d:BCU)(h:jU c d)(hs:eG (dC c) (dC d)=true):Con Tryz.prog 42 [.d tCU c,.d tCU d] [.d (.sl tP) (qg c d),.d .bool (sW c d)]:=by
 obtain⟨h4,ho⟩:=Bw h
 have e:v9 c d=[c.2.2.2.2.1,c.2.2.2.2.2,d.2.2.2.2.1,d.2.2.2.2.2]:=by unfold v9;rw[hs];rfl
 rw[e]at h4 ho
 obtain⟨n,hn⟩:=Fl c d h hs _ rfl h4 ho _ [] rfl rfl
 have e2:qg c d=cY (dC c) (List.filter (gD c d) [c.2.2.2.2.1,c.2.2.2.2.2,d.2.2.2.2.1,d.2.2.2.2.2]):=by unfold qg;rw[e]
 have e3:sW c d=vV c d (cY (dC c) (List.filter (gD c d) [c.2.2.2.2.1,c.2.2.2.2.2,d.2.2.2.2.1,d.2.2.2.2.2])):=by unfold sW;rw[hs,e2];rfl
 rw[e2,e3]
 refine cJ J5 (XN _ _ ⟨n,?_⟩)
 unfold If
 rw[dT (show gY c d∧eG (dC c) (dC d)=true from⟨⟨h.1.2,h.2.2⟩,hs⟩)]
 dsimp only
 rw[dT (agj h4 (by decide))]
 exact hn
def V0:Cn 84 [tCU,tCU]:=cn fun(a b:BCU)=>lf (gY a b∧eG (dC a) (dC b)=false) [.d .bool false] fun h=>by
 have e:Con Tryz.prog 84 [.d tCU a,.d tCU b] [.d .bool (eG (dC a) (dC b))]:=(Ua.g a b).h h.1
 rw[h.2]at e
 exact e
def MG:List En:=[enT V0,enT K3,enL TZ,enK K6,enF U8,enK Ds]
def Pp:NT:=[((188,6),{keep:=[0,1,7,8],hl:=3}),((86,16),{keep:=[0,1,5,6],hl:=3}),((42,11),{keep:=[2,3,26,28],hl:=0}),((86,3),{keep:=[0,1,10],hl:=0}),((188,18),{keep:=[0,1,5,7,8,16],hl:=0}),((86,28),{keep:=[0,1,5,6,7,28],hl:=0})]
def jG:Ctx:=CX (ens MG) Pp
def iO(c d:BCU)(s188_8:Int):Cfg:=⟨188,[.blk 0,.seq 25],[(0,.own 2),(1,.clo 88 [0,1]),(7,SI (((iN (dC c) (dC d)).map enc).length:Int)),(8,SI s188_8)],[.box 39 (Ty.split tCU c),.box 39 (Ty.split tCU d),.row 37 tP ((iN (dC c) (dC d)).map enc)],3,[⟨86,[.seq 4],3,2,[(0,.own 2),(1,.clo 88 [0,1])],3,none⟩,⟨42,[.seq 12],11,3,[(2,.box 0 0),(3,.box 1 0),(26,.own 2)],0,none⟩]⟩
def dh(c d:BCU)(s86_5 s86_6:Int)(r86_2:List BP):Cfg:=⟨86,[.blk 0,.seq 35],[(0,.own 2),(1,.clo 88 [0,1]),(5,SI s86_5),(6,SI s86_6)],[.box 39 (Ty.split tCU c),.box 39 (Ty.split tCU d),.row 37 tP r86_2],3,[⟨42,[.seq 12],11,3,[(2,.box 0 0),(3,.box 1 0),(26,.own 2)],0,none⟩]⟩
def I6(c d:BCU)(k:KT):Option (List RV):=match decide (gY c d∧eG (dC c) (dC d)=false)with|true=>(match decide (gY c d)with|true=>(match decide (((iN (dC c) (dC d)).map enc).length≤100000)with|true=>k 6 (iO c d 0)|false=>none)|false=>none)|false=>none
theorem WX(c d:BCU):RS jG 42 [.d tCU c,.d tCU d] (I6 c d):=rsX
def ii(c d:BCU)(s188_8:Int)(k:KT):Option (List RV):=match decide (s188_8<(((iN (dC c) (dC d)).map enc).length:Int))with|true=>(match aN ((iN (dC c) (dC d)).map enc) s188_8 with|some _=>(match true,((iN (dC c) (dC d)).map enc)[(s188_8).toNat]? with|true,some x1=>(match decide (okC 4000 c∧okP 4000 x1)with|true=>(match !(gM (dC c) (dec x1))with|true=>(match s188_8==(-1)with|true=>(match decide (jV c ((iN (dC c) (dC d)).map enc))with|true=>(match decide (gY c d∧eG (dC c) (dC d)=false)with|true=>some [RV.d (.sl tP) (cY (dC c) ((iN (dC c) (dC d)).map enc)),RV.d .bool false]|false=>none)|false=>none)|false=>k 16 (dh c d s188_8 (i64.wrap (s188_8+1)) ((iN (dC c) (dC d)).map enc)))|false=>(match decide (okC 4000 d∧okP 4000 x1)with|true=>(match !(gM (dC d) (dec x1))with|true=>(match s188_8==(-1)with|true=>(match decide (jV c ((iN (dC c) (dC d)).map enc))with|true=>(match decide (gY c d∧eG (dC c) (dC d)=false)with|true=>some [RV.d (.sl tP) (cY (dC c) ((iN (dC c) (dC d)).map enc)),RV.d .bool false]|false=>none)|false=>none)|false=>k 16 (dh c d s188_8 (i64.wrap (s188_8+1)) ((iN (dC c) (dC d)).map enc)))|false=>k 6 (iO c d (i64.wrap (s188_8+1))))|false=>none))|false=>none)|_,_=>none)|none=>none)|false=>(match(-1)==(-1)with|true=>(match decide (jV c ((iN (dC c) (dC d)).map enc))with|true=>(match decide (gY c d∧eG (dC c) (dC d)=false)with|true=>some [RV.d (.sl tP) (cY (dC c) ((iN (dC c) (dC d)).map enc)),RV.d .bool false]|false=>none)|false=>none)|false=>k 16 (dh c d (-1) (i64.wrap ((-1)+1)) ((iN (dC c) (dC d)).map enc)))
theorem kB(c d:BCU)(s188_8:Int):RN jG 6 (iO c d s188_8) (ii c d s188_8):=rnX
def ie(c d:BCU)(s86_5 s86_6:Int)(r86_2:List BP)(k:KT):Option (List RV):=match decide (s86_6<(r86_2.length:Int))with|true=>(match aN r86_2 s86_6 with|some _=>(match true,r86_2[(s86_6).toNat]? with|true,some x1=>(match decide (okC 4000 c∧okP 4000 x1)with|true=>(match !(gM (dC c) (dec x1))with|true=>k 16 (dh c d s86_5 (i64.wrap (s86_6+1)) r86_2)|false=>(match decide (okC 4000 d∧okP 4000 x1)with|true=>(match !(!(gM (dC d) (dec x1)))with|true=>(match aN r86_2 s86_5 with|some _=>(match true,r86_2[(s86_5).toNat]? with|true,some _=>k 16 (dh c d (i64.wrap (s86_5+1)) (i64.wrap (s86_6+1)) (r86_2.set ((s86_5).toNat) x1))|_,_=>none)|none=>none)|false=>k 16 (dh c d s86_5 (i64.wrap (s86_6+1)) r86_2))|false=>none))|false=>none)|_,_=>none)|none=>none)|false=>(match decide ((0:Int)≤s86_5∧s86_5≤(r86_2.length:Int)∧(r86_2.length:Int)≤(r86_2.length:Int))with|true=>(match decide ((0:Int)≤0∧0≤s86_5∧s86_5≤((iH (Ty.zero tP) ((s86_5:Int).toNat) (((r86_2.length:Int):Int).toNat-(s86_5:Int).toNat) r86_2).length:Int))with|true=>(match decide (jV c (((iH (Ty.zero tP) ((s86_5:Int).toNat) (((r86_2.length:Int):Int).toNat-(s86_5:Int).toNat) r86_2).drop ((0:Int).toNat)).take ((s86_5:Int).toNat-(0:Int).toNat)))with|true=>(match decide (gY c d∧eG (dC c) (dC d)=false)with|true=>some [RV.d (.sl tP) (cY (dC c) (((iH (Ty.zero tP) ((s86_5:Int).toNat) (((r86_2.length:Int):Int).toNat-(s86_5:Int).toNat) r86_2).drop ((0:Int).toNat)).take ((s86_5:Int).toNat-(0:Int).toNat))),RV.d .bool false]|false=>none)|false=>none)|false=>none)|false=>none)
theorem kC(c d:BCU)(s86_5 s86_6:Int)(r86_2:List BP):RN jG 16 (dh c d s86_5 s86_6 r86_2) (ie c d s86_5 s86_6 r86_2):=rnX
section
variable (c d:BCU) (h:jU c d) (hs:eG (dC c) (dC d)=false)
include h hs
theorem BK(L:List BP)(hl:L.length≤4)(ho:∀x∈L,okP 4000 x):(match decide (jV c L)with
  |true=>(match decide (gY c d∧eG (dC c) (dC d)=false)with
   |true=>some [RV.d (.sl tP) (cY (dC c) L),RV.d .bool false]
   |false=>none)
  |false=>none)=some [RV.d (.sl tP) (cY (dC c) L),RV.d .bool (false)]:=by
 have hc:okC 4000 c:=cG h.1.1 (by decide) (by decide)
 have hd:okC 4000 d:=cG h.2.1 (by decide) (by decide)
 have q:jV c L:=⟨hc,by omega,ho⟩
 have hn:(cY (dC c) L).length≤L.length:=m5
 have _q2:u6 c d (cY (dC c) L):=⟨⟨hc,by omega,fun x hx=>ho x (qe hx)⟩,hd⟩
 rw[dT q,dT (show gY c d∧eG (dC c) (dC d)=false from⟨⟨h.1.2,h.2.2⟩,hs⟩)]
theorem uJ:∀(S:List BP) (L J:List BP),J≠[]→(∀x∈L++(J++S),okP 4000 x)→(L++(J++S)).length≤4→
  jG.Runs 16 (dh c d (L.length:Int) ((L.length+J.length:Nat):Int) (L++(J++S))) [RV.d (.sl tP) (cY (dC c) (L++S.filter (gD c d))),RV.d .bool (false)]
 |[],L,J,hJ,hok,h4=>by
  have h4':L.length+J.length≤4:=by simpa using h4
  obtain⟨c1,c2⟩:=FS (Ty.zero tP) L J
  refine kC _ _ _ _ _ ⟨0,?_⟩
  unfold ie
  rw[agt,bV (by simp)]
  dsimp only
  rw[dT (show(0:Int)≤(L.length:Int)∧(L.length:Int)≤((L++J).length:Int)∧((L++J).length:Int)≤((L++J).length:Int) by simp only[agv];omega)]
  rw[dT (show(0:Int)≤0∧0≤(L.length:Int)∧(L.length:Int)≤((iH (Ty.zero tP) ((L.length:Int).toNat) ((((L++J).length:Int)).toNat-(L.length:Int).toNat) (L++J)).length:Int) by omega)]
  rw[c1,List.filter_nil,agt]
  exact BK c d h hs L (by omega) fun x hx=>hok x (aht _ hx)
 |q::S,L,J,hJ,hok,h4=>by
  have h4':L.length+(J.length+(S.length+1))≤4:=by simpa using h4
  have hc:okC 4000 c:=cG h.1.1 (by decide) (by decide)
  have hd:okC 4000 d:=cG h.2.1 (by decide) (by decide)
  have hq:okP 4000 q:=hok q (by simp)
  have g1:(L++(J++q::S))[L.length+J.length]?=some q:=by
   have:=lU (L++J) q S
   rw[agv,ago]at this
   exact this
  obtain⟨y,T,rfl⟩:=List.exists_cons_of_ne_nil hJ
  have g2:(L++(y::T++q::S))[L.length]?=some y:=lU L y (T++q::S)
  have hset:(L++(y::T++q::S)).set L.length q=(L++[q])++((T++[q])++S):=by
   have:=zq y q (T++q::S) L
   rw[show y::T++q::S=y::(T++q::S) from rfl,this]
   simp
  have e2:L++(y::T++q::S)=L++((y::T++[q])++S):=by simp
  have key:∀r n,(match gD c d q with
    |true=>jG.k n 16 (dh c d ((L.length+1:Nat):Int) ((L.length+(y::T).length+1:Nat):Int) ((L++[q])++((T++[q])++S)))
    |false=>jG.k n 16 (dh c d (L.length:Int) ((L.length+(y::T).length+1:Nat):Int) (L++(y::T++q::S))))=some r→
    ie c d (L.length:Int) ((L.length+(y::T).length:Nat):Int) (L++(y::T++q::S)) (jG.k n)=some r:=fun r n hk=>by
   unfold ie
   rw[bh (by simp only[agv,agi];omega),ao,g1,show((L.length+(y::T).length:Nat):Int).toNat=L.length+(y::T).length by omega,g1]
   dsimp only
   rw[dT (show okC 4000 c∧okP 4000 q from⟨hc,hq⟩),dT (show okC 4000 d∧okP 4000 q from⟨hd,hq⟩),bK (k:=L.length+(y::T).length) (by simp only[agi]at*;omega),bK (k:=L.length) (by omega),ao,g2,show((L.length:Nat):Int).toNat=L.length by omega,g2,hset]
   unfold gD at hk
   cases r1:gM (dC c) (dec q)<;>cases r2:gM (dC d) (dec q)<;>rw[r1,r2]at hk<;>exact hk
  rw[aig]
  cases hk:gD c d q
  ·obtain⟨n,hn⟩:=uJ S L (y::T++[q]) (by simp) (e2▸hok) (e2▸h4)
   refine kC _ _ _ _ _ ⟨n,key _ n ?_⟩
   rw[hk,e2]
   rw[agv,agb,←ahU]at hn
   exact hn
  ·obtain⟨n,hn⟩:=uJ S (L++[q]) (T++[q]) (by simp) (fun x hx=>by
    simp only[ag7,agl,ahS,or_false]at hx
    rcases hx with(hx|hx)|(hx|hx)|hx
    ·exact hok x (by simp[hx])
    ·rw[hx];exact hq
    ·exact hok x (by simp[hx])
    ·rw[hx];exact hq
    ·exact hok x (by simp[hx])) (by simp at h4 ⊢;omega)
   refine kC _ _ _ _ _ ⟨n,key _ n ?_⟩
   rw[hk]
   have n1:(L++[q]).length=L.length+1:=by simp
   have n2:L.length+1+(T++[q]).length=L.length+(y::T).length+1:=by simp;omega
   rw[n1,n2,ago L [q] (S.filter (gD c d))]at hn
   exact hn
theorem FW(X:List BP)(hX:((iN (dC c) (dC d)).map enc)=X)(h4:X.length≤4)(hok:∀x∈X,okP 4000 x):∀(S A:List BP),A++S=X→A.filter (gD c d)=A→
  jG.Runs 6 (iO c d (A.length:Int)) [RV.d (.sl tP) (cY (dC c) (A++S.filter (gD c d))),RV.d .bool (false)]
 |[],A,hA,hf=>by
  rw[agt]at hA
  refine kB _ _ _ ⟨0,?_⟩
  unfold ii
  rw[hX,←hA,bV (by omega),List.filter_nil,agt]
  exact BK c d h hs A (hA▸h4) (hA▸hok)
 |q::S,A,hA,hf=>by
  have hc:okC 4000 c:=cG h.1.1 (by decide) (by decide)
  have hd:okC 4000 d:=cG h.2.1 (by decide) (by decide)
  have hq:okP 4000 q:=hok q (by rw[←hA];simp)
  have g1:X[A.length]?=some q:=by rw[←hA];exact lU A q S
  have hlen:A.length<X.length:=by rw[←hA];simp
  have key:∀r n,(match gD c d q with
    |true=>jG.k n 6 (iO c d ((A.length+1:Nat):Int))
    |false=>jG.k n 16 (dh c d (A.length:Int) ((A.length+1:Nat):Int) X))=some r→
    ii c d (A.length:Int) (jG.k n)=some r:=fun r n hk=>by
   unfold ii
   rw[hX,bh hlen,ao,g1,show((A.length:Nat):Int).toNat=A.length by omega,g1]
   dsimp only
   rw[dT (show okC 4000 c∧okP 4000 q from⟨hc,hq⟩),dT (show okC 4000 d∧okP 4000 q from⟨hd,hq⟩),bK (k:=A.length) (by omega),show((A.length:Int)== -1)=false by rw[aiH];omega]
   unfold gD at hk
   cases r1:gM (dC c) (dec q)<;>cases r2:gM (dC d) (dec q)<;>rw[r1,r2]at hk<;>exact hk
  rw[aig]
  cases hk:gD c d q
  ·obtain⟨n,hn⟩:=uJ c d h hs S A [q] (by simp) (by rw[ahk,hA];exact hok) (by rw[ahk,hA];exact h4)
   refine kB _ _ _ ⟨n,key _ n ?_⟩
   rw[hk]
   rw[ahk,hA]at hn
   exact hn
  ·obtain⟨n,hn⟩:=FW X hX h4 hok S (A++[q]) (by rw[ago];exact hA) (by rw[List.filter_append,hf,aig,hk];rfl)
   refine kB _ _ _ ⟨n,key _ n ?_⟩
   rw[hk]
   have n1:(A++[q]).length=A.length+1:=by simp
   rw[n1,ago A [q] (S.filter (gD c d))]at hn
   exact hn
end
theorem Ny(c d:BCU)(h:jU c d)(hs:eG (dC c) (dC d)=false):Con Tryz.prog 42 [.d tCU c,.d tCU d] [.d (.sl tP) (qg c d),.d .bool (sW c d)]:=by
 obtain⟨h4,ho⟩:=Bw h
 have e:v9 c d=((iN (dC c) (dC d)).map enc):=by unfold v9;rw[hs];rfl
 rw[e]at h4 ho
 obtain⟨n,hn⟩:=FW c d h hs _ rfl h4 ho _ [] rfl rfl
 have e2:qg c d=cY (dC c) (List.filter (gD c d) ((iN (dC c) (dC d)).map enc)):=by unfold qg;rw[e]
 have e3:sW c d=false:=by unfold sW;rw[hs,e2];rfl
 rw[e2,e3]
 refine cJ MG (WX _ _ ⟨n,?_⟩)
 unfold I6
 rw[dT (show gY c d∧eG (dC c) (dC d)=false from⟨⟨h.1.2,h.2.2⟩,hs⟩)]
 dsimp only
 rw[dT (show gY c d from⟨h.1.2,h.2.2⟩)]
 dsimp only
 rw[dT (agj h4 (by decide))]
 exact hn
def ZX:Cn 42 [tCU,tCU]:=cn fun(c d:BCU)=>lf (jU c d) [.d (.sl tP) (qg c d),.d .bool (sW c d)] fun h=>by
 cases hs:eG (dC c) (dC d)
 ·exact Ny c d h hs
 ·exact HM c d h hs
end
section
open RE
end
def wa(c:Cv):Bool:=(c.1||!cwC c)&&(fi c (frC c)&&(fi c (toC c)&&!(bZ (frC c) (toC c)==0)))
def v7(c d:Cv):Bool:=eG c d&&(cwC c==cwC d&&(bZ (frC c) (frC d)==0&&bZ (toC c) (toC d)==0))
def Dz:List En:=[enT JJ,enT lS,enL Dr]
def KA(p:BP)(_k:KT):Option (List RV):=og (o1 p.1) (og (o1 p.2.2.1) (og (o1 p.2.1) (og (o1 p.2.2.2.1) (og (o1 p.2.2.2.2) (og (o1 p.2.1) (match(aC (ah p.2.1) 0)==0 with|true=>(og (o1 p.2.2.2.1) (match(aC (ah p.2.2.2.1) 0)==0 with|true=>(og (o1 p.2.2.2.2) (some [RV.d .bool ((aC (ah p.2.2.2.2) 0)==0)]))|false=>(og (o1 p.2.2.2.2) (og (o1 p.2.2.2.2) (match decide ((aC (ah p.2.2.2.2) 0)>0)with|true=>some [RV.d .bool (!(eZ (ah p.2.2.2.2)))]|false=>some [RV.d .bool false])))))|false=>(og (o1 p.2.2.2.2) (og (o1 p.2.2.2.2) (match decide ((aC (ah p.2.2.2.2) 0)>0)with|true=>some [RV.d .bool (!(eZ (ah p.2.2.2.2)))]|false=>some [RV.d .bool false])))))))))
def XS:Cn 177 [tP]:=cn fun(p:BP)=>lf (okP 4000 p) [.d .bool true] fun h=>by
 refine az Dz (KA p) ⟨0,?_⟩
 have hp:=h
 obtain⟨p,rfl,bp,rp⟩:=bG hp
 unfold KA
 simp only[aO,Nat.reduceLeDiff,am,av]
 rcases rp.rd with⟨h1,h2,h3⟩|⟨h1,h2,h3⟩
 ·rw[dT h1,dT h2,dT h3]
 ·rw[dT h2,h3]
  cases hb:decide (p.2.1=0)
  ·rfl
  ·cases hb2:decide (p.2.2.2.1=0)
   ·rfl
   ·exact absurd ⟨af2 hb,af2 hb2⟩ h1
def Iz(c:BO3)(_k:KT):Option (List RV):=og (o1 c.1) (og (o1 c.2.1) (og (o1 c.2.2) (og (o1 c.2.2) (some [RV.d .bool (decide ((aC (ah c.2.2) 0)>0))]))))
def X6:Cn 178 [tO]:=cn fun(c:BO3)=>lf (oR c) [.d .bool true] fun h=>by
 refine az Dz (Iz c) ⟨0,?_⟩
 obtain⟨hk,h0⟩:=h
 obtain⟨c,rfl,bc⟩:=aB hk
 rw[aA]at h0
 unfold Iz
 simp only[aO,Nat.reduceLeDiff,av,dT h0]
def HH(l:BO3)(_k:KT):Option (List RV):=og (o1 l.1) (og (o1 l.2.1) (og (o1 l.2.2) (og (o1 l.1) (match(aC (ah l.1) 0) !=0 with|true=>some [RV.d .bool true]|false=>(og (o1 l.2.1) (some [RV.d .bool ((aC (ah l.2.1) 0) !=0)]))))))
def WM:Cn 179 [tO]:=cn fun(l:BO3)=>lf (Dv l) [.d .bool true] fun h=>by
 refine az Dz (HH l) ⟨0,?_⟩
 obtain⟨hk,h0⟩:=h
 obtain⟨l,rfl,bl⟩:=aB hk
 rw[aA]at h0
 unfold HH
 simp only[aO,Nat.reduceLeDiff,aU]
 by_cases h1:l.1=0
 ·rw[dT h1,dF (h0.resolve_left (fun h=>h h1))]
  rfl
 ·rw[dF h1]
  rfl
def XV:List En:=[enT XS,enT X6,enT WM,enT RH,enT D0]
def UX(c:BCU)(_k:KT):Option (List RV):=let y1:Option (List RV):=match decide (okC 3500 c∧okP 3500 c.2.2.2.2.1)with|true=>(match fi (dC c) (dec c.2.2.2.2.1)with|true=>(og (decide (okC 3500 c∧okP 3500 c.2.2.2.2.2)) (match fi (dC c) (dec c.2.2.2.2.2)with|true=>(og (decide (okP 4000 c.2.2.2.2.1∧okP 4000 c.2.2.2.2.2)) (some [RV.d .bool (!(bZ (dec c.2.2.2.2.1) (dec c.2.2.2.2.2)==0))]))|false=>some [RV.d .bool false]))|false=>some [RV.d .bool false])|false=>none;let y2:Option (List RV):=match !c.1 with|true=>(match c.2.2.2.1 with|true=>some [RV.d .bool false]|false=>(og (decide (Dv c.2.1)) y1))|false=>y1;og (decide (okP 4000 c.2.2.2.2.1)) (og (decide (okP 4000 c.2.2.2.2.2)) (match c.1 with|true=>(og (decide (oR c.2.2.1)) y2)|false=>y2))
def Z4:Cn 77 [tCU]:=cn fun(c:BCU)=>lf (okC 3500 c) [.d .bool (wa (dC c))] fun h=>by
 refine az XV (UX c) ⟨0,?_⟩
 have h4:=cG (k:=4000) h (by decide) (by decide)
 unfold UX wa
 rw[dT (show okC 3500 c∧okP 3500 c.2.2.2.2.1 from⟨h,h.2.2.1⟩),dT (show okC 3500 c∧okP 3500 c.2.2.2.2.2 from⟨h,h.2.2.2⟩),dT (show okP 4000 c.2.2.2.2.1∧okP 4000 c.2.2.2.2.2 from⟨h4.2.2.1,h4.2.2.2⟩),dT h4.2.2.1,dT h4.2.2.2]
 have e1:(dC c).1=c.1:=rfl
 have e2:cwC (dC c)=c.2.2.2.1:=rfl
 have e3:frC (dC c)=dec c.2.2.2.2.1:=rfl
 have e4:toC (dC c)=dec c.2.2.2.2.2:=rfl
 rw[e1,e2,e3,e4]
 cases ha:c.1
 ·have h2:=dT (p:=Dv c.2.1) (i:=inferInstance) (h.2.1 ha)
  rw[h2]
  cases c.2.2.2.1<;>cases fi (dC c) (dec c.2.2.2.2.1)<;>cases fi (dC c) (dec c.2.2.2.2.2)<;>rfl
 ·have h2:=dT (p:=oR c.2.2.1) (i:=inferInstance) (h.1 ha)
  rw[h2]
  cases fi (dC c) (dec c.2.2.2.2.1)<;>cases fi (dC c) (dec c.2.2.2.2.2)<;>rfl
def VG:List En:=[enT Zi,enT D0]
def Vn(a b:BCU)(_k:KT):Option (List RV):=og (decide (gY a b)) (match eG (dC a) (dC b)with|true=>(match a.2.2.2.1==b.2.2.2.1 with|true=>(og (decide (okP 4000 a.2.2.2.2.1∧okP 4000 b.2.2.2.2.1)) (match bZ (dec a.2.2.2.2.1) (dec b.2.2.2.2.1)==0 with|true=>(og (decide (okP 4000 a.2.2.2.2.2∧okP 4000 b.2.2.2.2.2)) (some [RV.d .bool (bZ (dec a.2.2.2.2.2) (dec b.2.2.2.2.2)==0)]))|false=>some [RV.d .bool false]))|false=>some [RV.d .bool false])|false=>some [RV.d .bool false])
def acS:Cn 78 [tCU,tCU]:=cn fun(a b:BCU)=>lf (jU a b) [.d .bool (v7 (dC a) (dC b))] fun h=>by
 refine az VG (Vn a b) ⟨0,?_⟩
 obtain⟨⟨a1,a2⟩,b1,b2⟩:=h
 have a4:=cG (k:=4000) a1 (by decide) (by decide)
 have b4:=cG (k:=4000) b1 (by decide) (by decide)
 unfold Vn v7
 rw[dT (show gY a b from⟨a2,b2⟩),dT (show okP 4000 a.2.2.2.2.1∧okP 4000 b.2.2.2.2.1 from⟨a4.2.2.1,b4.2.2.1⟩),dT (show okP 4000 a.2.2.2.2.2∧okP 4000 b.2.2.2.2.2 from⟨a4.2.2.2,b4.2.2.2⟩)]
 have e2:∀c,cwC (dC c)=c.2.2.2.1:=fun _=>rfl
 have e3:∀c,frC (dC c)=dec c.2.2.2.2.1:=fun _=>rfl
 have e4:∀c,toC (dC c)=dec c.2.2.2.2.2:=fun _=>rfl
 rw[e2,e2,e3,e3,e4,e4]
 cases eG (dC a) (dC b)<;>cases(a.2.2.2.1==b.2.2.2.1)<;>cases(bZ (dec a.2.2.2.2.1) (dec b.2.2.2.2.1)==0)<;>rfl
section
open RE
section
variable {α β:Type} (f:α→β)
theorem Bz{lt:α→α→Bool}{lt':β→β→Bool}(h:∀a b,lt' (f a) (f b)=lt a b)(a:α):∀r:List α,mq lt' (r.map f) (f a)=(mq lt r a).map f
 |[]=>rfl
 |b::r=>by
  have ih:=Bz h a r
  simp only[aia,mq,h]
  cases lt a b
  ·rfl
  ·simp only[agd,aia,ih]
theorem Ap{lt:α→α→Bool}{lt':β→β→Bool}(h:∀a b,lt' (f a) (f b)=lt a b):∀(l r:List α),(l.map f).foldl (mq lt') (r.map f)=(l.foldl (mq lt) r).map f
 |[],_=>rfl
 |a::l,r=>by
  rw[aia,aip,aip,Bz f h,Ap h]
theorem Jd{lt:α→α→Bool}{lt':β→β→Bool}(h:∀a b,lt' (f a) (f b)=lt a b)(l:List α):uq lt' (l.map f)=(uq lt l).map f:=by
 unfold uq
 have:=Ap f h l []
 rw[List.map_nil]at this
 rw[this,List.map_reverse]
theorem AZ{g:α→α→Bool}{g':β→β→Bool}(h:∀a b,g' (f a) (f b)=g a b):∀(l:List α) (p:α),l7 g' (f p) (l.map f)=(l7 g p l).map f
 |[],_=>rfl
 |q::r,p=>by
  have ih:=AZ h r q
  simp only[aia,l7,h]
  cases g q p
  ·simp only[cond_false,aia,ih]
  ·exact ih
theorem Jw{g:α→α→Bool}{g':β→β→Bool}(h:∀a b,g' (f a) (f b)=g a b)(l:List α):yV g' (l.map f)=(yV g l).map f:=by
 cases l with
 |nil=>rfl
 |cons x r=>
  simp only[aia,yV]
  rw[AZ f h]
end
def VP(c d:Cv):List Pt:=yV (fun a b=>bZ a b==0) (uq (fun a b=>decide (CB c a b<0)) ((bif eG c d then [frC c,toC c,frC d,toC d]else iN c d).filter fun p=>gM c p&&gM d p))
theorem LH{c d:BCU}(h1:c.2.2.2.2.1=enc (frC (dC c)))(h2:c.2.2.2.2.2=enc (toC (dC c)))(h3:d.2.2.2.2.1=enc (frC (dC d)))(h4:d.2.2.2.2.2=enc (toC (dC d))):qg c d=(VP (dC c) (dC d)).map enc:=by
 have e:v9 c d=(bif eG (dC c) (dC d)then [frC (dC c),toC (dC c),frC (dC d),toC (dC d)]else iN (dC c) (dC d)).map enc:=by
  unfold v9
  cases eG (dC c) (dC d)
  ·rfl
  ·simp only[agd,aia,List.map_nil,←h1,←h2,←h3,←h4]
 unfold qg VP cY
 rw[e,List.filter_map]
 have e2:(gD c d∘enc)=fun p:Pt=>gM (dC c) p&&gM (dC d) p:=by
  funext p
  show(gM (dC c) (dec (enc p))&&gM (dC d) (dec (enc p)))=_
  rw[aA]
 rw[e2,Jd (f:=(enc:Pt→BP)) (lt:=fun a b=>decide (CB (dC c) a b<0)) (fun a b=>by unfold ltP;rw[aA,aA]),Jw (f:=(enc:Pt→BP)) (g:=fun a b=>bZ a b==0) (fun a b=>by unfold gN;rw[aA,aA])]
abbrev uS1:Rat×Rat:=(Rat.divInt (-4) 2,Rat.divInt 1 2)
abbrev uS2:Rat×Rat:=(Rat.divInt 4 2,Rat.divInt 1 2)
def qS:Cv:=(false,(0,4,2),(0,0,0),false,atP uS1,atP uS2)
section
theorem bQ(n d:Int)(h:v8 n d):Bd (Rat.divInt n d) 3:=Pv h.1 h.2.1 h.2.2
end
end
section
open Go.ChangeShapes Go.WideShapes Go.ChangeAt Go.WideMaps Go.WideElems Go.RowKit
theorem HD:ownKnob Tryz.prog.godebug=none:=by kernel_rfl
def Ty.ok:(t:Ty)→t.D→Prop
 |.int k,x=>(Lit.int k x).wf=true
 |.bool,_=>True
 |.str,_=>True
 |.sl e,xs=>xs.length≤9223372036854775807∧∀x∈xs,e.ok x
 |.pair a b,x=>a.ok x.1∧b.ok x.2
 |.st a,x=>a.ok x
def uY(rp:TypeId→Ty→Bool)(cells:TypeId→Nat):List Field→Ty→Nat→Bool
 |[],_,_=>false
 |[f],a,off=>rp f.type a&&Nat.beq f.offset off&&Nat.beq (cells f.type) a.n
 |f::g::fs,.pair a b,off=>rp f.type a&&Nat.beq f.offset off&&Nat.beq (cells f.type) a.n&&uY rp cells (g::fs) b (off+a.n)
 |_,_,_=>false
def DW(rp:Ty→Bool)(n:Nat):Nat→Ty→Bool
 |0,_=>false
 |1,a=>rp a&&Nat.beq a.n n
 |k+2,.pair a b=>rp a&&Nat.beq a.n n&&DW rp n (k+1) b
 |_,_=>false
def rep(P:Program):Nat→TypeId→Ty→Bool
 |0,_,_=>false
 |n+1,t,ty=>match P.underlying t,ty with
  |some (.int k),.int k'=>decide (k=k')
  |some .bool,.bool=>true
  |some .string,.str=>true
  |some (.slice e),.sl ety=>rep P n e ety&&Nat.beq (P.cellsOf e) ety.n&&Nat.ble 1 ety.n
  |some (.struct fs),.st a=>uY (rep P n) P.cellsOf fs.toList a 0&&Nat.beq (P.cellsOf t) a.n
  |some (.array k e),.st a=>DW (rep P n e) (P.cellsOf e) k a&&Nat.beq (P.cellsOf t) a.n
  |_,_=>false
theorem Pb{w:World}{a:Addr}{v:Value}(h:w.cell? a=some v):a.block<w.heap.size∧a.spot=none:=by
 unfold World.cell? at h
 split at h
 ·rename_i hb
  refine⟨(agc.1 hb).1,?_⟩
  simp_all
 grind
theorem Am{α β:Type}{f:α→Option β}:∀{l:List α} {r:List β},l.mapM f=some r→r.length=l.length∧∀(j:Nat) (y:β),r[j]?=some y→∃x,l[j]?=some x∧f x=some y
 |[],r,h=>by simp at h;subst h;simp
 |x::l,r,h=>by
  rw[List.mapM_cons]at h
  cases hx:f x with
  |none=>rw[hx]at h;simp at h
  |some y=>
   rw[hx]at h
   cases hl:l.mapM f with
   |none=>rw[hl]at h;simp at h
   |some r'=>
    rw[hl]at h
    obtain rfl:y::r'=r:=by simpa using h
    obtain⟨h1,h2⟩:=Am hl
    refine⟨by simp[h1],fun j z hz=>?_⟩
    cases j with
    |zero=>exact⟨x,rfl,by simpa [hx]using hz⟩
    |succ j=>obtain⟨u,h3,h4⟩:=h2 j z (by simpa using hz);exact⟨u,by simpa using h3,h4⟩
theorem G3{w:World}{base n:Nat}{a:Addr}{l:List Value}(h:w.cells? base a n=some l):l.length=n∧∀(j:Nat) (v:Value),l[j]?=some v→w.cell? (a.add j)=some v:=by
 unfold World.cells? at h
 split at h
 ·obtain⟨h1,h2⟩:=Am h
  grind
 grind
theorem HT{α β:Type}{n:Nat}{p:Nat→α→β→Prop}(h:∀i,i<n→∃s t,p i s t):∃(l:List α) (m:List β),l.length=n∧m.length=n∧∀i s t,l[i]?=some s→m[i]?=some t→p i s t:=by
 induction n with
 |zero=>exact⟨[],[],rfl,rfl,fun i s t h=>by simp at h⟩
 |succ n ih=>
  obtain⟨l,m,h1,h2,h3⟩:=ih fun i hi=>h i (by omega)
  obtain⟨s,t,hst⟩:=h n (by omega)
  refine⟨l++[s],m++[t],by simp[h1],by simp[h2],fun i s' t' hs ht=>?_⟩
  grind
section
variable {H:Type} {enc:TypeId×Value→H} {P:Program} {w:World} {base:Nat} {spare:Nat→Bool} {held:Bool}
def R1(enc:TypeId×Value→H)(P:Program)(w:World)(base:Nat)(spare:Nat→Bool)(held:Bool)(ty:Ty):Prop:=∀(n:Nat) (t:TypeId),rep P n t ty=true→∀(fuel:Nat) (cs:List Value) (x:DataW H×List MemPlace),cs.length=ty.n→DataW.trod enc P w base spare held fuel t cs=some x→∃y:ty.D,ty.rd (fun _=>True) w cs y∧ty.ok y
def R2(enc:TypeId×Value→H)(P:Program)(w:World)(base:Nat)(spare:Nat→Bool)(held:Bool)(ty:Ty):Prop:=∀(n:Nat) (fs:List Field) (off:Nat) (cs:List Value),uY (rep P n) P.cellsOf fs ty off=true→cs.length=ty.n→(∀f∈fs,off≤f.offset→∃fuel x,DataW.trod enc P w base spare held fuel f.type ((cs.drop (f.offset-off)).take (P.cellsOf f.type))=some x)→∃y:ty.D,ty.rd (fun _=>True) w cs y∧ty.ok y
def R3(enc:TypeId×Value→H)(P:Program)(w:World)(base:Nat)(spare:Nat→Bool)(held:Bool)(ty:Ty):Prop:=∀(n k:Nat) (e:TypeId) (cs:List Value),DW (rep P n e) (P.cellsOf e) k ty=true→cs.length=ty.n→(∀i,i<k→∃fuel x,DataW.trod enc P w base spare held fuel e ((cs.drop (i*P.cellsOf e)).take (P.cellsOf e))=some x)→∃y:ty.D,ty.rd (fun _=>True) w cs y∧ty.ok y
theorem acG{ty:Ty}(h1:R1 enc P w base spare held ty)(hp:∀(n:Nat) (f g:Field) (fs:List Field) (off:Nat) (cs:List Value),uY (rep P n) P.cellsOf (f::g::fs) ty off=true→cs.length=ty.n→(∀q∈f::g::fs,off≤q.offset→∃fuel x,DataW.trod enc P w base spare held fuel q.type ((cs.drop (q.offset-off)).take (P.cellsOf q.type))=some x)→∃y:ty.D,ty.rd (fun _=>True) w cs y∧ty.ok y):R2 enc P w base spare held ty:=by
 intro n fs off cs hr hl hf
 match fs,hr,hf with
 |[f],hr,hf=>
  simp only[uY,af3]at hr
  have ho:=af4 hr.1.2
  have hc:=af4 hr.2
  obtain⟨fuel,x,hx⟩:=hf f (by simp) (by omega)
  rw[ho,air,hc,rg _ _ hl]at hx
  exact h1 n f.type hr.1.1 fuel cs x hl hx
 |f::g::fs,hr,hf=>exact hp n f g fs off cs hr hl hf
theorem acF{ty:Ty}(h1:R1 enc P w base spare held ty)(hp:∀(n k:Nat) (e:TypeId) (cs:List Value),DW (rep P n e) (P.cellsOf e) (k+2) ty=true→cs.length=ty.n→(∀i,i<k+2→∃fuel x,DataW.trod enc P w base spare held fuel e ((cs.drop (i*P.cellsOf e)).take (P.cellsOf e))=some x)→∃y:ty.D,ty.rd (fun _=>True) w cs y∧ty.ok y):R3 enc P w base spare held ty:=by
 intro n k e cs hr hl hf
 match k,hr,hf with
 |1,hr,hf=>
  simp only[DW,af3]at hr
  have hc:=af4 hr.2
  obtain⟨fuel,x,hx⟩:=hf 0 (by omega)
  rw[Nat.zero_mul,←hc,rg _ _ hl]at hx
  exact h1 n e hr.1 fuel cs x hl hx
 |k+2,hr,hf=>exact hp n k e cs hr hl hf
theorem Rh:∀(ty:Ty),R1 enc P w base spare held ty∧R2 enc P w base spare held ty∧R3 enc P w base spare held ty:=by
 intro ty
 have mD:∀{ty:Ty},(∀a b,ty≠.pair a b)→R1 enc P w base spare held ty→R1 enc P w base spare held ty∧R2 enc P w base spare held ty∧R3 enc P w base spare held ty:=by
  intro ty hne h1
  refine⟨h1,acG h1 fun n f g fs off cs hr=>?_,acF h1 fun n k e cs hr=>?_⟩
  ·cases ty<;>first|exact absurd rfl (hne _ _)|simp[uY]at hr
  ·cases ty<;>first|exact absurd rfl (hne _ _)|simp[DW]at hr
 induction ty with
 |int k=>
  refine mD (fun a b e=>by cases e) fun n t hr fuel cs x hl hx=>?_
  cases n with
  |zero=>simp[rep]at hr
  |succ n=>
   unfold rep at hr
   split at hr<;>try (cases hr;done)
   all_goals rename_i hu he<;>cases he
   have:=af2 hr
   subst this
   obtain⟨m,rfl,_,hw⟩:=DataW.trod_int hu hx
   exact⟨m,rfl,hw⟩
 |bool=>
  refine mD (fun a b e=>by cases e) fun n t hr fuel cs x hl hx=>?_
  cases n with
  |zero=>simp[rep]at hr
  |succ n=>
   unfold rep at hr
   split at hr<;>try (cases hr;done)
   all_goals rename_i hu he<;>cases he
   obtain⟨m,rfl,_⟩:=DataW.trod_bool hu hx
   exact⟨m,rfl,trivial⟩
 |str=>
  refine mD (fun a b e=>by cases e) fun n t hr fuel cs x hl hx=>?_
  cases n with
  |zero=>simp[rep]at hr
  |succ n=>
   unfold rep at hr
   split at hr<;>try (cases hr;done)
   all_goals rename_i hu he<;>cases he
   cases fuel with
   |zero=>simp[DataW.trod]at hx
   |succ fuel=>
    unfold DataW.trod at hx
    rw[hu]at hx
    split at hx<;>simp_all
    exact⟨_,rfl,trivial⟩
 |sl e ih=>
  refine mD (fun a b e=>by cases e) fun n t hr fuel cs x hl hx=>?_
  cases n with
  |zero=>simp[rep]at hr
  |succ n=>
   unfold rep at hr
   split at hr<;>try (cases hr;done)
   all_goals rename_i hu he<;>cases he
   simp only[af3]at hr
   obtain⟨⟨r1,r2⟩,r3⟩:=hr
   have hc:=af4 r2
   have hn0:=af5 r3
   rcases Deep.open_slice hu hx with⟨rfl,_⟩|⟨a,len,cap,m,nn,D,Pl,rfl,hb,hle,hcap,hm,_,hel⟩
   ·exact⟨[],u5,by simp,fun x hx=>by simp at hx⟩
   ·have hlm:len≤m:=by rw[hm];split<;>omega
    have key:∀i,i<len→∃(l:List Value) (y:e.D),(e.rd (fun _=>True) w l y∧e.ok y)∧∀j v,l[j]?=some v→w.cell? ((a.add (i*e.n)).add j)=some v:=by
     intro i hi
     obtain⟨cs',h1,h2⟩:=hel i (by omega)
     rw[hc]at h1
     obtain⟨h3,h4⟩:=G3 h1
     obtain⟨y,h5⟩:=ih.1 n _ r1 nn cs' _ h3 h2
     exact⟨cs',y,h5,h4⟩
    obtain⟨css,ys,l1,l2,hk⟩:=HT key
    have hall:bW (fun l y=>e.rd (fun _=>True) w l y) css ys:=Fv (by omega) fun i l y h1 h2=>(hk i l y h1 h2).1.1
    refine⟨ys,⟨some a,len,cap,css,rfl,l2,hle,hcap,hall,fun h0=>?_⟩,by unfold maxLen at hcap;omega,fun y hy=>?_⟩
    ·obtain⟨l0,hl0⟩:∃l,css[0]?=some l:=⟨_,af0 (by omega)⟩
     obtain⟨y0,hy0,hrd0⟩:=gW hall 0 l0 hl0
     have hlen0:=Ty.rd_len hrd0
     obtain⟨v0,hv0⟩:∃v,l0[0]?=some v:=⟨_,af0 (by omega)⟩
     have hc0:=(hk 0 l0 y0 hl0 hy0).2 0 v0 hv0
     have e0:(a.add (0*e.n)).add 0=a:=by simp[Addr.add]
     rw[e0]at hc0
     obtain⟨h1,h2⟩:=Pb hc0
     obtain⟨b,off,sp⟩:=a
     dsimp only at h1 h2
     subst h2
     refine⟨b,off,rfl,trivial,h1,fun i v hv=>?_⟩
     have hls:=fy hall
     have hi:i<css.flatten.length:=(af9.1 hv).1
     rw[gr hls,l1]at hi
     have hq:i/e.n<len:=Nat.div_lt_of_lt_mul (by rw[Nat.mul_comm];exact hi)
     obtain⟨l,hl⟩:∃l,css[i/e.n]?=some l:=⟨_,af0 (by omega)⟩
     obtain⟨y,hy,hrd⟩:=gW hall _ l hl
     have hmod:i%e.n<e.n:=aiJ _ hn0
     obtain⟨u,hu'⟩:∃u,l[i%e.n]?=some u:=⟨_,af0 (by rw[Ty.rd_len hrd];exact hmod)⟩
     have hfl:=jW hls hl hu'
     have hdm:i/e.n*e.n+i%e.n=i:=by rw[Nat.mul_comm];exact Nat.div_add_mod i e.n
     rw[hdm,hv]at hfl
     injection hfl with hfl
     subst hfl
     have:=(hk _ l y hl hy).2 _ _ hu'
     rw[dp,dp]at this
     rwa [ahU,hdm]at this
    ·obtain⟨i,hi,rfl⟩:=aib hy
     obtain⟨l,hl,_⟩:=m8 hall i _ (af0 hi)
     exact(hk i l _ hl (af0 hi)).1.2
 |st a ih=>
  refine mD (fun a b e=>by cases e) fun n t hr fuel cs x hl hx=>?_
  cases n with
  |zero=>simp[rep]at hr
  |succ n=>
   unfold rep at hr
   split at hr<;>try (cases hr;done)
   all_goals rename_i hu he<;>cases he
   ·simp only[af3]at hr
    obtain⟨xs,k,rfl,_,_,hlen,hg⟩:=DataW.trod_struct hu hx
    refine ih.2.1 n _ 0 cs hr.1 hl fun f hf _=>?_
    obtain⟨i,hi,rfl⟩:=aib hf
    rename_i fs
    have h1:=hg i _ (by rw[←ahC];exact af0 hi)
    obtain⟨y,hy⟩:∃y,xs[i]?=some y:=⟨_,af0 (by rw[hlen];simpa using hi)⟩
    rw[hy]at h1
    exact⟨k,y,by rw[Nat.sub_zero];exact h1⟩
   ·simp only[af3]at hr
    obtain⟨xs,k,rfl,_,_,hlen,hg⟩:=DataW.trod_array hu hx
    refine ih.2.2 n _ _ cs hr.1 hl fun i hi=>?_
    have h1:=hg i hi
    obtain⟨y,hy⟩:∃y,xs[i]?=some y:=⟨_,af0 (by rw[hlen];exact hi)⟩
    rw[hy]at h1
    exact⟨k,y,h1⟩
 |pair a b iha ihb=>
  have h1:R1 enc P w base spare held (.pair a b):=by
   intro n t hr
   cases n with
   |zero=>simp[rep]at hr
   |succ n=>
    unfold rep at hr
    split at hr<;>first|(cases hr;done)|(rename_i he;cases he)
  have cut:∀{cs:List Value} {k m:Nat},cs.length=a.n+b.n→((cs.drop a.n).drop k).take m=(cs.drop (a.n+k)).take m:=fun _=>by rw[aiT]
  refine⟨h1,acG h1 fun n f g fs off cs hr hl hf=>?_,acF h1 fun n k e cs hr hl hf=>?_⟩
  ·simp only[uY,af3]at hr
   obtain⟨⟨⟨r1,r2⟩,r3⟩,r4⟩:=hr
   have ho:=af4 r2
   have hc:=af4 r3
   simp only[Ty.n]at hl
   obtain⟨fuel,x,hx⟩:=hf f (by simp) (by omega)
   rw[ho,air,hc,ahy]at hx
   obtain⟨y1,k1,k2⟩:=iha.1 n f.type r1 fuel (cs.take a.n) x (by simp;omega) hx
   obtain⟨y2,k3,k4⟩:=ihb.2.1 n (g::fs) (off+a.n) (cs.drop a.n) r4 (by simp;omega) fun q hq hle=>by
    obtain⟨fuel,x,hx⟩:=hf q (by simp only[agl]at hq ⊢;exact .inr hq) (by omega)
    refine⟨fuel,x,?_⟩
    rw[aiT,show a.n+(q.offset-(off+a.n))=q.offset-off by omega]
    exact hx
   exact⟨(y1,y2),⟨_,_,(ahh a.n cs).symm,k1,k3⟩,k2,k4⟩
  ·simp only[DW,af3]at hr
   obtain⟨⟨r1,r2⟩,r3⟩:=hr
   have hc:=af4 r2
   simp only[Ty.n]at hl
   obtain⟨fuel,x,hx⟩:=hf 0 (by omega)
   rw[Nat.zero_mul,ahy,←hc]at hx
   obtain⟨y1,k1,k2⟩:=iha.1 n e r1 fuel (cs.take a.n) x (by simp;omega) hx
   obtain⟨y2,k3,k4⟩:=ihb.2.2 n (k+1) e (cs.drop a.n) r3 (by simp;omega) fun i hi=>by
    obtain⟨fuel,x,hx⟩:=hf (i+1) (by omega)
    refine⟨fuel,x,?_⟩
    rw[aiT,hc,show P.cellsOf e+i*P.cellsOf e=(i+1)*P.cellsOf e by rw[ahA];omega]
    exact hx
   exact⟨(y1,y2),⟨_,_,(ahh a.n cs).symm,k1,k3⟩,k2,k4⟩
end
end
theorem TR{s:Int×Int×Int}(h:Ty.ok y3Y s):uH s:=by
 have h1:=bounds_i16 h.1
 have h2:=bounds_i16 h.2.1
 have h3:=bounds_u8 h.2.2
 exact⟨h1.1,h1.2,h2.1,h2.2,h3.1,h3.2⟩
section
namespace RE
section
variable {l c:Ln}
end
end RE
end
section
open RE
theorem M1(c:Cv):eG c c=true:=by
 unfold eG
 rw[beq_self_eq_true,agd]
 cases c.1
 ·unfold t4
  rw[cond_false,dT (ahM _ _),dT (ahM _ _),dT (ahM _ _)]
  rfl
 ·unfold sY
  rw[agd,dT rfl,dT rfl,dT rfl]
  rfl
end
theorem Yn{c:BCU}(h:gdN c)(hw:c.1=false→c.2.2.2.1=false):wa (dC c)=true:=by
 unfold wa
 have e1:fi (dC c) (frC (dC c))=true:=h.2.1
 have e2:fi (dC c) (toC (dC c))=true:=h.2.2.1
 have e3:(bZ (frC (dC c)) (toC (dC c))==0)=false:=aiH.2 h.ne
 rw[e1,e2,e3]
 show((c.1||!c.2.2.2.1)&&_)=true
 cases ha:c.1
 ·rw[hw ha];rfl
 ·rfl
theorem JM{c:BCU}(h:gdN c):v7 (dC c) (dC c)=true:=by
 unfold v7
 have e1:(bZ (frC (dC c)) (frC (dC c))==0)=true:=aha.2 (Tk h.crp.f.1)
 have e2:(bZ (toC (dC c)) (toC (dC c))==0)=true:=aha.2 (Tk h.crp.t.1)
 rw[M1,beq_self_eq_true,e1,e2]
 rfl
section
def rcX(p:Pt)(v:Rat×Rat):Rat×Rat:=(p.1-v.1,p.2.1)
def rcY(p:Pt)(v:Rat×Rat):Rat×Rat:=(p.2.2.1-v.2,p.2.2.2.1)
def prQ(q:Qd)(x y:Rat×Rat)(s:Rat):Qd:=(q.1+s*(x.1*y.1),q.2.1+s*(x.2*y.1),q.2.2.1+s*(x.1*y.2),q.2.2.2.1+s*(x.2*y.2),q.2.2.2.2.1,q.2.2.2.2.2)
def noQ(p q:Pt):Qd:=(0,0,0,0,p.2.2.2.2,q.2.2.2.2)
def crQ(v:Rat×Rat)(p q:Pt):Qd:=prQ (prQ (noQ p q) (rcX p v) (rcY q v) 1) (rcY p v) (rcX q v) (-1)
def doQ(v:Rat×Rat)(p q:Pt):Qd:=prQ (prQ (noQ p q) (rcX p v) (rcX q v) (-2)) (rcY p v) (rcY q v) (-2)
def z2:Rat×Rat:=(0,0)
def apQ(p q:Pt)(r:Rat):Qd:=((doQ z2 p q).1+(sqA p z2+sqA q z2)-r*r,(doQ z2 p q).2.1+sqB p z2,(doQ z2 p q).2.2.1+sqB q z2,(doQ z2 p q).2.2.2.1,p.2.2.2.2,q.2.2.2.2)
section
variable {p:Pt} {v:Rat×Rat} {j k:Nat}
instance (priority:=2000) bd_sqA' [h:Bd p j] [h':Bd v k]:Bd (sqA p v) (10*(j+k+1)):=by
 have a1:Bd (p.1-v.1) _:=inferInstance
 have a2:Bd (p.2.2.1-v.2) _:=inferInstance
 have a3:Bd (p.2.1*p.2.1+p.2.2.2.1*p.2.2.2.1) _:=inferInstance
 have i:Bd ((p.1-v.1)*(p.1-v.1)+(p.2.2.1-v.2)*(p.2.2.1-v.2)+(p.2.1*p.2.1+p.2.2.2.1*p.2.2.2.1)*p.2.2.2.2) _:=inferInstance
 exact i.mono (by omega)
instance (priority:=2000) bd_sqB' [h:Bd p j] [h':Bd v k]:Bd (sqB p v) (10*(j+k+1)):=by
 have a1:Bd (p.1-v.1) _:=inferInstance
 have a2:Bd (p.2.2.1-v.2) _:=inferInstance
 have i:Bd ((p.1-v.1)*p.2.1+(p.2.2.1-v.2)*p.2.2.2.1+((p.1-v.1)*p.2.1+(p.2.2.1-v.2)*p.2.2.2.1)) _:=inferInstance
 exact i.mono (by omega)
instance (priority:=2000) bd_sqP' [h:Bd p j] [h':Bd v k]:Bd (sqP p v) (10*(j+k+1)):=by
 have a:Bd (sqA p v) (10*(j+k+1)):=bd_sqA'
 have b:Bd (sqB p v) (10*(j+k+1)):=bd_sqB'
 have i:Bd (coR (sqA p v) (sqB p v) p.2.2.2.2) (mx (10*(j+k+1)) (mx (10*(j+k+1)) j)):=inferInstance
 exact i.mono (eI (by omega) (eI (by omega) (by omega)))
end
namespace RE
theorem PS(A B C D m n s a b c d:RE):A+s*(a*c)+(B+s*(b*c))*m+(C+s*(a*d))*n+(D+s*(b*d))*(m*n)=A+B*m+C*n+D*(m*n)+s*((a+b*m)*(c+d*n)):=by grind
theorem Q0(A B C D m n a b c d r:RE):A+(a+c)-r+(B+b)*m+(C+d)*n+D*(m*n)=A+B*m+C*n+D*(m*n)+(a+b*m)+(c+d*n)-r:=by grind
theorem aaL(x y u w:RE):0+ -2*((x-0)*(u-0))+ -2*((y-0)*(w-0))+((x-0)*(x-0)+(y-0)*(y-0))+((u-0)*(u-0)+(w-0)*(w-0))=(x-u)*(x-u)+(y-w)*(y-w):=by grind
theorem aeu(a b:RE):0+1*a+ -1*b=a-b:=by grind
theorem KG(a v b:RE):a-v+b=a+b-v:=by grind
theorem JV(u t:RE):u*u-t*t=(u-t)*(u+t):=by grind
theorem abo(Q r t:RE):Q+r*r+(r+r)*t=(t+r)*(t+r)+(Q-t*t):=by grind
theorem Wh(Q r t:RE):Q+r*r+ -(r+r)*t=(t-r)*(t-r)+(Q-t*t):=by grind
theorem VB(u t r:RE):u*u+t*t-(u*t+u*t)-r*r=(u-(t+r))*(u-(t-r)):=by grind
theorem adR(u t r:RE)(h1:0<u)(h2:0<t)(h3:0≤r):0<u+(t+r):=by grind
theorem aen(u t r:RE)(h1:0<u)(h2:r<t):0<u+(t-r):=by grind
theorem aeH(u t r:RE)(h1:0<u-(t+r))(h2:0≤r):0<u-(t-r):=by grind
theorem afm(u t r:RE)(h1:0<u)(h2:t≤r):0<u-(t-r):=by grind
theorem By(x y t:RE)(h1:x≤y):x-t≤y-t:=by grind
theorem CA(x y:RE):((y*y-(x*x)))+((x-(y))*(x-(y)))+2*((x-(y))*(y-(0)))=0:=by grind
theorem H7(x y:RE)(h1:y≤x)(h2:0≤y):y*y≤x*x:=fun hg=>far (a8 (a8 (bH hg) (cB (aQ h1) (aQ h1))) (pU (by decide+kernel:(0:Rat)<2) (cB (aQ h1) (aQ h2)))) (CA x y)
theorem PW(a b:RE):a*b*(a*b)=a*a*(b*b):=by grind
theorem WP(n e k r:RE):n*(e*k-r)=e*(n*k)-r*n:=by grind
def vq(q:Qd):RE:=vQ q.1 q.2.1 q.2.2.1 q.2.2.2.1 q.2.2.2.2.1 q.2.2.2.2.2
theorem MP{q:Qd}(h:0≤q.2.2.2.2.1)(h':0≤q.2.2.2.2.2):sgQ q=sg (vq q):=sgnQ_re h h'
theorem ED(q:Qd)(x y:Rat×Rat)(s:Rat):vq (prQ q x y s)=vq q+of s*(v2 x.1 x.2 q.2.2.2.2.1*v2 y.1 y.2 q.2.2.2.2.2):=by
 unfold vq vQ prQ v2
 simp only[of_add,aS]
 exact PS _ _ _ _ _ _ _ _ _ _ _
theorem of0:of 0=0:=rfl
theorem Tz(p q:Pt):vq (noQ p q)=0:=by
 unfold vq vQ noQ
 dsimp only
 rw[of0,zero_mul,zero_mul,zero_mul,add_zero,add_zero,add_zero]
def sbE(v:Rat×Rat)(p:PE):PE:=(p.1-of v.1,p.2-of v.2)
theorem yH(p:Pt)(v:Rat×Rat):v2 (rcX p v).1 (rcX p v).2 p.2.2.2.2=(sbE v (pR p)).1:=by
 unfold rcX sbE pR pX v2
 dsimp only
 rw[of_sub,KG]
theorem zs(p:Pt)(v:Rat×Rat):v2 (rcY p v).1 (rcY p v).2 p.2.2.2.2=(sbE v (pR p)).2:=by
 unfold rcY sbE pR pY v2
 dsimp only
 rw[of_sub,KG]
def turS(v:Rat×Rat)(p q:PE):Int:=sg (crs (sbE v p) (sbE v q))
theorem crQ_re(v:Rat×Rat){p q:Pt}[hp:Rpd p][hq:Rpd q]:sgQ (crQ v p q)=turS v (pR p) (pR q):=by
 rw[MP (q:=crQ v p q) (show 0≤p.2.2.2.2 from hp.nn) (show 0≤q.2.2.2.2 from hq.nn)]
 unfold crQ
 rw[ED,ED,Tz]
 show sg (0+of 1*(v2 (rcX p v).1 (rcX p v).2 p.2.2.2.2*v2 (rcY q v).1 (rcY q v).2 q.2.2.2.2)+of (-1)*(v2 (rcY p v).1 (rcY p v).2 p.2.2.2.2*v2 (rcX q v).1 (rcX q v).2 q.2.2.2.2))=_
 rw[yH,yH,zs,zs]
 exact congrArg sg (aeu _ _)
def apaS(p q:PE)(r:Rat):Int:=sg (dsE p q-of (r*r))
theorem apQ_re{p q:Pt}[hp:Rpd p][hq:Rpd q](r:Rat):sgQ (apQ p q r)=apaS (pR p) (pR q) r:=by
 rw[MP (q:=apQ p q r) (show 0≤p.2.2.2.2 from hp.nn) (show 0≤q.2.2.2.2 from hq.nn)]
 have e1:vq (doQ z2 p q)=0+ -2*((pX p-0)*(pX q-0))+ -2*((pY p-0)*(pY q-0)):=by
  unfold doQ
  rw[ED,ED,Tz]
  show 0+of (-2)*(v2 (rcX p z2).1 (rcX p z2).2 p.2.2.2.2*v2 (rcX q z2).1 (rcX q z2).2 q.2.2.2.2)+of (-2)*(v2 (rcY p z2).1 (rcY p z2).2 p.2.2.2.2*v2 (rcY q z2).1 (rcY q z2).2 q.2.2.2.2)=_
  rw[yH,yH,zs,zs]
  rfl
 have e2:∀{p:Pt},Rpd p→v2 (sqA p z2) (sqB p z2) p.2.2.2.2=(pX p-0)*(pX p-0)+(pY p-0)*(pY p-0):=fun{p} h=>by
  have:=Dg (p:=p) (v:=z2)
  unfold sqP at this
  rw[vR_co]at this
  exact this
 have e3:vq (apQ p q r)=vq (doQ z2 p q)+v2 (sqA p z2) (sqB p z2) p.2.2.2.2+v2 (sqA q z2) (sqB q z2) q.2.2.2.2-of (r*r):=by
  unfold vq vQ apQ v2
  dsimp only
  rw[of_sub,of_add,of_add,of_add,of_add]
  exact Q0 _ _ _ _ _ _ _ _ _ _ _
 rw[e3,e1,e2 hp,e2 hq,aaL]
 rfl
def V3(c:Cv)(p:PE)(r:Rat):Int:=min (apaS (pR (frC c)) p r) (apaS (pR (toC c)) p r)
def rngS(d:RE)(q r:Rat):Int:=bif decide (0≤sg (d-v2 (q+r*r) (r+r) q))then sg (d-v2 (q+r*r) (r+r) q)else bif decide (aC q (r*r)≤0)then-1 else-(sg (d-v2 (q+r*r) (-(r+r)) q))
def witE(c:Cv)(p:PE):Bool:=wg (frm (ciC c) (pR (ccF c))) (frm (ciC c) (pR (ccT c))) (frm (ciC c) p)
open Classical in
def besE(c:Cv)(p:PE):Bool:=decide (btE (tE (lnC c) (pR (frC c))) (tE (lnC c) (pR (toC c))) (tE (lnC c) p))
open Classical in
def poiE(c:Cv)(p:PE)(r:Rat):Int:=
 bif decide (r<0)then 1 else
 bif c.1 then(bif decide (p=vE (ctr (ciC c)))then aC (ciC c).2.2 (r*r)else bif witE c p then rngS (dsE p (vE (ctr (ciC c)))) (ciC c).2.2 r else V3 c p r)
 else bif besE c p then sg (exE (lnC c) p*exE (lnC c) p-of (r*r*((lnC c).1*(lnC c).1+(lnC c).2.1*(lnC c).2.1)))else V3 c p r
theorem EL{x y:RE}(h:x≤y):sg x≤sg y:=by
 rcases bj x with⟨a,e⟩|⟨a,e⟩|⟨a,e⟩<;>rcases bj y with⟨b,f⟩|⟨b,f⟩|⟨b,f⟩<;>rw[e,f]<;>try decide
 ·exfalso;rw[b]at h;exact h a
 ·exact absurd (dK b a) h
 ·exfalso;rw[a]at h;exact h b
theorem acL(a b t:RE):min (sg (a-t)) (sg (b-t))=sg (mnE a b-t):=by
 unfold mnE
 by_cases e:b<a
 ·rw[agu e]
  exact Int.min_eq_right (EL (By _ _ _ (le_of_lt e)))
 ·rw[agk e]
  exact Int.min_eq_left (EL (By _ _ _ ((lt_or_ge b a).resolve_left e)))
theorem Ms{c:Cv}(hf:Rpd (frC c))(ht:Rpd (toC c))(v:Rat×Rat)(r:Rat):V3 c (vE v) r=sg (vR (zA c v)-of (r*r)):=by
 rw[XL hf ht]
 exact acL _ _ _
theorem rn{n:RE}(h:0<n)(x:RE):sg (n*x)=sg x:=by rw[dN,dE h,ahc]
theorem XT{a b:Rat}(ha:0≤a)(hb:0≤b):rq (a*b)=rq a*rq b:=Ed _ _ (pQ _) (cB (pQ _) (pQ _)) (by rw[fX (agm ha hb),aS,PW,fX ha,fX hb])
theorem Py{u t:RE}{q r:Rat}(hu:0<u)(hq:0<q)(ht:t=rq q)(hr:0≤r):rngS (u*u) q r=sg (u*u+of q-(u*t+u*t)-of (r*r)):=by
 have hr':0≤of r:=iZ.2 hr
 have tt:t*t=of q:=by rw[ht];exact fX (by grind)
 have tp:0<t:=by rw[ht];exact NQ hq
 have e1:v2 (q+r*r) (r+r) q=(t+of r)*(t+of r):=by
  unfold v2
  rw[←ht,of_add,aS,of_add,abo,tt,sub_self,add_zero]
 have e2:v2 (q+r*r) (-(r+r)) q=(t-of r)*(t-of r):=by
  unfold v2
  rw[←ht,of_add,aS,of_neg,of_add,Wh,tt,sub_self,add_zero]
 have f1:sg (u*u-v2 (q+r*r) (r+r) q)=sg (u-(t+of r)):=by
  rw[e1,JV,mul_comm,rn (adR _ _ _ hu tp hr')]
 have f2:of r<t→sg (u*u-v2 (q+r*r) (-(r+r)) q)=sg (u-(t-of r)):=fun g=>by
  rw[e2,JV,mul_comm,rn (aen _ _ _ hu g)]
 have fin:sg (u*u+of q-(u*t+u*t)-of (r*r))=sg (u-(t+of r))*sg (u-(t-of r)):=by
  rw[←tt,aS,VB,dN]
 unfold rngS
 rw[f1,fin]
 rcases bj (u-(t+of r))with⟨a,e⟩|⟨a,e⟩|⟨a,e⟩
 ·rw[e,dE (aeH _ _ _ a hr')]
  rfl
 ·rw[e]
  show(0:Int)=0*_
  rw[aiM]
 ·rw[e]
  show(bif decide (aC q (r*r)≤0)then-1 else _)=_
  have cq:decide (aC q (r*r)≤0)=decide (q≤r*r):=by
   rw[MK]
  rw[cq]
  by_cases g:q≤r*r
  ·have tr:t≤of r:=EI _ _ (le_of_lt tp) hr' (by rw[tt,←aS];exact iZ.2 g)
   rw[afZ g,dE (afm _ _ _ hu tr)]
   rfl
  ·have tr:of r<t:=by
    rcases lt_or_ge (of r) t with k|k
    ·exact k
    ·exfalso
     have:=H7 _ _ k (le_of_lt tp)
     rw[tt,←aS]at this
     exact g (iZ.1 this)
   rw[af1 g,f2 tr]
   show-(sg _)= -1*sg _
   omega
open Classical in
theorem P1{c:Cv}(h:GdE c){v:Rat×Rat}(hd:Rdd (ro c v))(r:Rat):poiE c (vE v) r=u7 c v r:=by
 have hf:=h.f
 have ht:=h.t
 unfold poiE u7
 by_cases hr:r<0
 ·rw[afZ hr];rfl
 ·rw[af1 hr,cond_false,cond_false,cmpTR_re hd.nn]
  have hr0:0≤r:=by grind
  cases ha:c.1
  ·rw[cond_false]
   have hl:=(h.l ha).1
   have hn:0<nrE (lnC c):=Jj hl
   have hb:besE c (vE v)=qM c (atP v):=by
    have:=Bq (c:=c) (p:=atP v)
    rw[p7]at this
    unfold besE
    rw[ahF,aim]
    exact this.symm
   unfold ro
   rw[hb,ha,cond_false]
   cases qM c (atP v)
   ·exact Ms hf ht v r
   ·rw[agd,agd]
    have h1:1/((lnC c).1*(lnC c).1+(lnC c).2.1*(lnC c).2.1)*((lnC c).1*(lnC c).1+(lnC c).2.1*(lnC c).2.1)=1:=agC (lZ hl)
    have en:nrE (lnC c)=of ((lnC c).1*(lnC c).1+(lnC c).2.1*(lnC c).2.1):=by
     rw[of_add,aS,aS];rfl
    have ek:nrE (lnC c)*of (1/((lnC c).1*(lnC c).1+(lnC c).2.1*(lnC c).2.1))=1:=by
     rw[en,mul_comm,←aS,h1]
     rfl
    have e2:vR (bT (cU v (eT (lnC c) v)) (cU v (eT (lnC c) v)),0,0)=of (bT (cU v (eT (lnC c) v)) (cU v (eT (lnC c) v))):=dA _ _
    rw[e2,Lz hl,aS (r*r) ((lnC c).1*(lnC c).1+(lnC c).2.1*(lnC c).2.1),←en,aS _ (1/((lnC c).1*(lnC c).1+(lnC c).2.1*(lnC c).2.1)),aS ((lnC c).1*v.1+(lnC c).2.1*v.2-(lnC c).2.2),←Xc,←rn hn (_-of (r*r)),WP,ek]
    refine congrArg sg ?_
    rw[mul_one]
  ·rw[agd]
   have hq:=(h.q ha).1
   have cz:vE v=vE (ctr (ciC c))↔zeV (bO c v)=true:=by
    unfold zeV bO cU vE
    rw[ah3,aim,aim]
    constructor
    ·intro e
     have e1:=ub (congrArg Prod.fst e)
     have e2:=ub (congrArg Prod.snd e)
     dsimp only
     rw[e1,e2]
     exact⟨by grind,by grind⟩
    ·intro ⟨e1,e2⟩
     dsimp only at e1 e2
     rw[show v.1=(ctr (ciC c)).1 by grind,show v.2=(ctr (ciC c)).2 by grind]
   unfold ro
   rw[ha,agd]
   cases hz:zeV (bO c v)
   ·rw[af1 (fun e=>by rw[cz.1 e]at hz;cases hz),cond_false]
    have hw:witE c (vE v)=fB c (bO c v):=by
     rw[(Q8 h ha hz).2]
     show _=wg _ _ (vE (cU (ctr (ciC c)) v))
     rw[←Ue]
     rfl
    rw[hw]
    cases fB c (bO c v)
    ·exact Ms hf ht v r
    ·rw[agd,agd,vR_mk]
     have dps:0<bT (bO c v) (bO c v):=by
      have:=ud hz
      have:=oO (bO c v)
      grind
     have es:dsE (vE v) (vE (ctr (ciC c)))=of (bT (bO c v) (bO c v)):=by
      unfold dsE vE bT bO cU
      rw[of_add,aS,aS,of_sub,of_sub]
     have su:=fX (show 0≤bT (bO c v) (bO c v) by grind)
     rw[es,←su,Py (NQ dps) hq rfl hr0]
     unfold v2
     have two:of (-2)= -2:=rfl
     rw[two,ZB,of_add,←su,XT (by grind) (by grind)]
   ·rw[afZ (cz.2 hz),agd]
    have tw:fB c (bO c v)=true:=by
     unfold fB
     rw[ha,hz]
     rfl
    have dz:bT (bO c v) (bO c v)=0:=by
     unfold zeV at hz
     obtain⟨a,b⟩:=ah3.1 hz
     unfold bT
     rw[af2 a,af2 b]
     decide+kernel
    rw[tw,agd,vR_mk,dz,Rat.zero_mul,Rat.zero_add]
    unfold v2
    rw[On,mul_zero,add_zero,←of_sub,sg_of,qf]
end RE
end
namespace RE
structure afU (c:Cv):Prop where
 q:0<(ciC c).2.2
 u:lK (ciC c) (pR (ccF c))
 w:lK (ciC c) (pR (ccT c))
 ne:frm (ciC c) (pR (ccF c))≠frm (ciC c) (pR (ccT c))
end RE
def uc(d p q r:Rat):Int:=sgQ (d-p-q-r*r,-2*r,-2*r,-2,p,q)
def Bi(x y z r:Rat):Int:=sgQ (x+y-z-r*r,2,-(2*r),0,x*y,z)
def mx2(a b:Int):Int:=if b>a then b else a
theorem CF(a b:Int):mn2 a b=min a b:=by unfold mn2;omega
theorem VV(a b:Int):mx2 a b=max a b:=by unfold mx2;omega
theorem QI(a b c d:Int):Gj a b c d=min (min (min a b) c) d:=by unfold Gj;simp only[CF]
def Gx(b:Bool)(x:Int):Int:=bif b then x else 1
def ftv(s a:Cv):Rat×Rat:=eT (lnC s) (ctr (ciC a))
def wyv(c d:Cv):Rat×Rat:=cU (ctr (ciC c)) (ctr (ciC d))
def Gr(s a:Cv)(r:Rat):Int:=Gx (onP s (atP (ftv s a))) (u7 a (ftv s a) r)
def nT(c d:Cv):Bool:=fB c (wyv c d)
def fT(c d:Cv):Bool:=fB c (bkV (wyv c d))
def nD(c d:Cv):Rat:=bT (wyv c d) (wyv c d)
def Pa(c d:Cv)(r:Rat):Int:=bif decide (nD c d=0)then 1 else
 min (min (Gx (nT c d&&fB d (bkV (wyv c d))) (max (uc (nD c d) (ciC c).2.2 (ciC d).2.2 r) (Bi (ciC c).2.2 (ciC d).2.2 (nD c d) r)))
  (Gx (nT c d&&fB d (wyv c d)) (max (Bi (nD c d) (ciC d).2.2 (ciC c).2.2 r) (uc (ciC c).2.2 (nD c d) (ciC d).2.2 r))))
  (Gx (fT c d&&fB d (bkV (wyv c d))) (max (Bi (nD c d) (ciC c).2.2 (ciC d).2.2 r) (uc (ciC d).2.2 (nD c d) (ciC c).2.2 r)))
theorem NW(q:Qd):sgQ q≤1:=(Fg _ _ _ _ _ _).2
def Ci(c d:Cv)(r:Rat):Int:=min (min (min (RE.poiE d (RE.pR (frC c)) r) (RE.poiE d (RE.pR (toC c)) r)) (RE.poiE c (RE.pR (frC d)) r)) (RE.poiE c (RE.pR (toC d)) r)
def uT(c d:Cv)(r:Rat):Int:=bif c.1 then(bif d.1 then min (Ci c d r) (Pa c d r)else min (Ci c d r) (Gr d c r))else bif d.1 then min (Ci c d r) (Gr c d r)else Ci c d r
def YH(m:Bool)(o:Int)(r:Rat):Int:=bif decide (r<0)then 1 else bif m then-aC r 0 else o
def n3P(x y z:BR):Prop:=ok Rat 2000 x∧ok Rat 2000 y∧ok Rat 2000 z∧0≤ah x∧0≤ah y∧0≤ah z
instance (x y z:BR):Decidable (n3P x y z):=by unfold n3P;infer_instance
def n4P(x y z r:BR):Prop:=n3P x y z∧ok Rat 2000 r∧0≤ah r
instance (x y z r:BR):Decidable (n4P x y z r):=by unfold n4P;infer_instance
theorem aaX{x y z:BR}(h:n3P x y z):∃a b c:Rat,x=enc a∧y=enc b∧z=enc c∧Bd a 2000∧Bd b 2000∧Bd c 2000∧0≤a∧0≤b∧0≤c:=by
 obtain⟨h1,h2,h3,h4,h5,h6⟩:=h
 obtain⟨a,rfl,ba⟩:=aB h1
 obtain⟨b,rfl,bb⟩:=aB h2
 obtain⟨c,rfl,bc⟩:=aB h3
 rw[d7,cj]at h4 h5 h6
 exact⟨a,b,c,rfl,rfl,rfl,ba,bb,bc,h4,h5,h6⟩
theorem Ve{x y z r:BR}(h:n4P x y z r):∃a b c e:Rat,(x=enc a∧y=enc b∧z=enc c∧r=enc e)∧Bd a 2000∧Bd b 2000∧Bd c 2000∧Bd e 2000∧0≤a∧0≤b∧0≤c∧0≤e:=by
 obtain⟨h,h1,h2⟩:=h
 obtain⟨a,b,c,e1,e2,e3,ba,bb,bc,na,nb,nc⟩:=aaX h
 obtain⟨e,rfl,be⟩:=aB h1
 rw[d7,cj]at h2
 exact⟨a,b,c,e,⟨e1,e2,e3,rfl⟩,ba,bb,bc,be,na,nb,nc,h2⟩
theorem ado{a b c:Rat}{i j k:Nat}[ba:Bd a i][bb:Bd b j][bc:Bd c k](hi:i≤2000)(hj:j≤2000)(hk:k≤2000)(na:0≤a)(nb:0≤b)(nc:0≤c):n3P (aq a) (aq b) (aq c):=
 ⟨af2 (okd hi (by decide)),af2 (okd hj (by decide)),af2 (okd hk (by decide)),by rwa [cj],by rwa [cj],by rwa [cj]⟩
theorem adA{a b c e:Rat}{i j k l:Nat}[ba:Bd a i][bb:Bd b j][bc:Bd c k][be:Bd e l](hi:i≤2000)(hj:j≤2000)(hk:k≤2000)(hl:l≤2000)(na:0≤a)(nb:0≤b)(nc:0≤c)(ne:0≤e):n4P (aq a) (aq b) (aq c) (aq e):=
 ⟨ado hi hj hk na nb nc,af2 (okd hl (by decide)),by rwa [cj]⟩
theorem Nf{a b c e:Rat}{i j k l:Nat}[ba:Bd a i][bb:Bd b j][bc:Bd c k][be:Bd e l](hi:i≤2000)(hj:j≤2000)(hk:k≤2000)(hl:l≤2000)(na:0≤a)(nb:0≤b)(nc:0≤c)(ne:0≤e):decide (n4P (aq a) (aq b) (aq c) (aq e))=true:=afZ (adA hi hj hk hl na nb nc ne)
def Dl(s a:BCU):Prop:=mG s∧mG a∧s.1=false∧a.1=true
instance (s a:BCU):Decidable (Dl s a):=by unfold Dl;infer_instance
def IC(c d:BCU):Prop:=mG c∧mG d∧c.1=true∧d.1=true
instance (c d:BCU):Decidable (IC c d):=by unfold IC;infer_instance
def qk(c d:BCU)(r:Rat):Int:=YH (decide (((qg c d).length:Int)>0)||sW c d) (uT (dC c) (dC d) r) r
namespace RE
end RE
section
open RE
theorem Xe{s a:BCU}(hs:wh s)(ha:wh a)(e:s.1=false)(e':a.1=true):Bd (ftv (dC s) (dC a)) 200:=by
 obtain⟨bl,_⟩:=(rV hs).2 e
 obtain⟨bc,_⟩:=(rV ha).1 e'
 have x1:Bd (mp (lnC (dC s)) (ctr (ciC (dC a)))) _:=(inferInstance:Bd (((lnC (dC s)).1*(ciC (dC a)).1+(lnC (dC s)).2.1*(ciC (dC a)).2.1-(lnC (dC s)).2.2)/((lnC (dC s)).1*(lnC (dC s)).1+(lnC (dC s)).2.1*(lnC (dC s)).2.1)) _)
 exact(inferInstance:Bd (((ciC (dC a)).1-mp (lnC (dC s)) (ctr (ciC (dC a)))*(lnC (dC s)).1,(ciC (dC a)).2.1-mp (lnC (dC s)) (ctr (ciC (dC a)))*(lnC (dC s)).2.1):Rat×Rat) _).mono (by decide)
end
end Go.Proofs.YtnkndpoojnflmaaGreat
end
