/- Pieces of a curve, common pieces: the program's contracts. -/
import Derived.Test.YtagbmoohboleaaaGreatJ18
import Derived.Test.YtagbmoohboleaaaGreatJ16
import Derived.Test.YtagbmoohboleaaaGreatJ17
import Derived.Test.YtagbmoohboleaaaGreatJ15
import Derived.Test.YtagbmoohboleaaaGreatJ6
import Derived.ProofKit
import Derived.OpenShut
import Derived.ChangeSame
import Derived.Deep.Slices
import Derived.Test.YtagbmoohboleaaaGreatJ14
noncomputable section
namespace Go.Proofs.YtagbmoohboleaaaGreat
open Go.RowKit Go.IntKind
section
def zm(c d:BCU)(l:List BP):Prop:=mg c l/\okC 4000 d
instance (c d:BCU) (l:List BP):Decidable (zm c d l):=by unfold zm;infer_instance
theorem acg(d:BCU):(d9 d).1=d.1:=by
 unfold d9;cases d.2.2.2.1<;>rfl
theorem H7{k:Nat}{d:BCU}(h:okC k d):okC k (d9 d):=by
 unfold d9;cases d.2.2.2.1
 ·exact h
 ·exact LQ k h
theorem Cq{c:BCU}(hc:okC 4000 c):∀{L:List BP} {f:BP},okP 4000 f->(∀x∈L,okP 4000 x)->∀p∈z7 c f L,okC 4000 p
 |[],f,hf,_,p,hp=>by
  rw[apo.1 hp];exact⟨hc.1,hc.2.1,hf,hc.2.2.2⟩
 |x::r,f,hf,hL,p,hp=>by
  have hx:=hL x (by simp);have hr:∀y∈r,okP 4000 y:=λy hy=>hL y (ana _ hy);unfold z7 at hp;cases h:iU x c.2.2.2.2.1||iU x c.2.2.2.2.2<;>rw[h]at hp
  ·rcases ane.1 hp with e|e
   ·rw[e];exact⟨hc.1,hc.2.1,hf,hx⟩
   ·exact Cq hc hx hr p e
  ·exact Cq hc hf hr p hp
theorem Up{c:BCU}{l:List BP}(h:mg c l):(sw c l).length<=20/\∀p∈sw c l,okC 4000 p:=by
 obtain⟨hc,hl,ho⟩:=h;have hs:∀x∈du (dC c) l,okP 4000 x:=λx hx=>ho x (kb hx);have hn:(du (dC c) l).length<=l.length:=qF
 have len:∀(L:List BP) (f:BP),(z7 c f L).length<=L.length+1:=by
  intro L;induction L with
  |nil=>intro f;simp[z7]
  |cons x r ih=>
   intro f;unfold z7;cases iU x c.2.2.2.2.1||iU x c.2.2.2.2.2
   ·have:=ih x;simp only[cond_false,anb];omega
   ·have:=ih f;simp only[cond_true,anb];omega
 unfold sw;cases ac4 c l
 ·refine⟨?_,Cq hc hc.2.2.1 hs⟩;have:=len (du (dC c) l) c.2.2.2.2.1;simp only[cond_false];unfold ac1;omega
 ·exact⟨by simp,λp hp=>by cases hp⟩
def Tl:List En:=[enT Jx,enT PW,enK O9]
def aev:NT:=[((98,6),{keep:=[0,1,7,8],hl:=1}),((9,18),{keep:=[2,6,7,17,18,19],own:=[(6,39,tCU)],hl:=3}),((9,4),{keep:=[1,2,13],hl:=0}),((38,3),{keep:=[7],hl:=0}),((98,18),{keep:=[0,1,5,7,8,16],hl:=0})]
def Em:Ctx:=CX (ens Tl) aev
def rn(c:BCU)(l:List BP)(s98_8:Int):Cfg:=⟨98,[.blk 0,.seq 25],[(0,.d (.sl tP) l),(1,.clo 39 [0]),(7,SI (l.length:Int)),(8,SI s98_8)],[.box 39 (Ty.split tCU c)],1,[⟨38,[.seq 4],3,2,[],1,none⟩,⟨9,[.seq 5,.seq 10],4,2,[(1,.d (.sl tP) l),(2,.box 0 0)],0,none⟩]⟩
def qV(c:BCU)(l:List BP)(s19:Int)(B1:BCU)(r2:List BCU):Cfg:=⟨9,[.blk 0,.seq 41],[(2,.box 0 0),(6,.own 2),(7,.box 1 0),(17,.d (.sl tP) (du (dC c) l)),(18,SI ((du (dC c) l).length:Int)),(19,SI s19)],[.box 39 (Ty.split tCU c),.box 39 (Ty.split tCU B1),.row 39 tCU r2],0,[]⟩
def ahS(c:BCU)(l:List BP)(k:KT):OLR:=k 6 (rn c l 0)
theorem af4(c:BCU)(l:List BP):RS Em 9 [.d tCU c,.d (.sl tP) l] (ahS c l):=rsX
def qf(c:BCU)(l:List BP)(s98_8:Int)(k:KT):OLR:=match decide (s98_8<(l.length:Int))with|true=>(match aT l s98_8 with|some x1=>(match decide (okC 4000 c/\okP 4000 x1)with|true=>(match !(onP (dC c) (dec x1))with|true=>(match decide (s98_8>=0)with|true=>some [RV.d (.sl tCU) ([]),RV.d aqh 1]|false=>(match decide (mg c l)with|true=>none|false=>none))|false=>k 6 (rn c l (i64.wrap (s98_8+1))))|false=>none)|none=>none)|false=>(match decide ((-1)>=0)with|true=>some [RV.d (.sl tCU) ([]),RV.d aqh 1]|false=>(match decide (mg c l)with|true=>k 18 (qV c l 0 c ([]))|false=>none))
theorem wx(c:BCU)(l:List BP)(s98_8:Int):RN Em 6 (rn c l s98_8) (qf c l s98_8):=rnX
def wh(c:BCU)(l:List BP)(s19:Int)(B1:BCU)(r2:List BCU)(k:KT):OLR:=match decide (s19<((du (dC c) l).length:Int))with|true=>(match aT (du (dC c) l) s19 with|some x1=>(match decide (okP 4000 x1/\okP 4000 c.2.2.2.2.1)with|true=>(match a8 (dec x1) (dec c.2.2.2.2.1)==0 with|true=>k 18 (qV c l (i64.wrap (s19+1)) B1 r2)|false=>(match decide (okP 4000 x1/\okP 4000 c.2.2.2.2.2)with|true=>(match a8 (dec x1) (dec c.2.2.2.2.2)==0 with|true=>k 18 (qV c l (i64.wrap (s19+1)) B1 r2)|false=>dup (.b .l .l) (match decide ((r2.length+([(B1.1,(B1.2.1,(B1.2.2.1,(B1.2.2.2.1,(B1.2.2.2.2.1,x1)))))]).length)*1040<=140737488355328/\r2.length+([(B1.1,(B1.2.1,(B1.2.2.1,(B1.2.2.2.1,(B1.2.2.2.2.1,x1)))))]).length<=140737488355328)with|true=>k 18 (qV c l (i64.wrap (s19+1)) (B1.1,(B1.2.1,(B1.2.2.1,(B1.2.2.2.1,(x1,B1.2.2.2.2.2))))) (r2++([(B1.1,(B1.2.1,(B1.2.2.1,(B1.2.2.2.1,(B1.2.2.2.2.1,x1)))))])))|false=>none))|false=>none))|false=>none)|none=>none)|false=>(match decide ((r2.length+([B1]).length)*1040<=140737488355328/\r2.length+([B1]).length<=140737488355328)with|true=>some [RV.d (.sl tCU) (r2++([B1])),RV.d aqh 0]|false=>none)
theorem Bh(c:BCU)(l:List BP)(s19:Int)(B1:BCU)(r2:List BCU):RN Em 18 (qV c l s19 B1 r2) (wh c l s19 B1 r2):=rnX
section
variable (c:BCU) (l:List BP) (h:mg c l)
include h
theorem It:∀(L:List BP) (i:Nat),(du (dC c) l).drop i=L->i<=(du (dC c) l).length->∀(f:BP) (r2:List BCU),r2.length<=i->Em.Runs 18 (qV c l (i:Int) (Bx c f c.2.2.2.2.2) r2) [.d (.sl tCU) (r2++z7 c f L),.d aqh (0:Int)]
 |[],i,hd,hi,f,r2,hr=>by
  have hn:(du (dC c) l).length<=l.length:=qF;have hl:=h.2.1;have hlen:=congrArg List.length hd;rw[apj,List.length_nil]at hlen;refine Bh _ _ _ _ _ ⟨0,?_⟩;unfold wh;rw[cd (by omega),anm,BN (by omega) (by omega)];rfl
 |x::r,i,hd,hi,f,r2,hr=>by
  have hn:(du (dC c) l).length<=l.length:=qF;have hl:=h.2.1;have hlen:=congrArg List.length hd;rw[apj,anb]at hlen;have hil:i<(du (dC c) l).length:=by omega
  have hd2:=anf hil;rw[hd2]at hd;injection hd with e1 e2;have hx:okP 4000 x:=by rw[<-e1];exact h.2.2 _ (kb (anw hil))
  have g1:aT (du (dC c) l) (i:Int)=some x:=by rw[av,amX hil,e1]
  have ih:=It r (i+1) e2 (by omega);refine Bh _ _ _ _ _ ?_;unfold wh z7;rw[bI hil,g1,bW (by omega)];dsimp only;rw[dT (show okP 4000 x/\okP 4000 c.2.2.2.2.1 from⟨hx,h.1.2.2.1⟩),dT (show okP 4000 x/\okP 4000 c.2.2.2.2.2 from⟨hx,h.1.2.2.2⟩)];unfold iU;cases q1:a8 (dec x) (dec c.2.2.2.2.1)==0
  ·cases q2:a8 (dec x) (dec c.2.2.2.2.2)==0
   ·obtain⟨n,hn⟩:=ih x (r2++[Bx c f x]) (by simp;omega);refine⟨n,?_⟩;rw[ann]at hn;simp only[fy];rw[anm,BN (by omega) (by omega)];exact hn
   ·exact ih f r2 (by omega)
  ·exact ih f r2 (by omega)
theorem acz:∀(j i:Nat),i+j=l.length->Em.Runs 6 (rn c l (i:Int)) [.d (.sl tCU) (bif (l.drop i).any (λp=>!onP (dC c) (dec p))then []else ac1 c l),.d aqh (bif (l.drop i).any (λp=>!onP (dC c) (dec p))then(1:Int)else 0)]:=by
 intro j;have hl:=h.2.1;induction j with
 |zero=>
  intro i hi;obtain⟨n,hn⟩:=It c l h (du (dC c) l) 0 rfl (apr _) c.2.2.2.2.1 [] (am2 _);refine wx _ _ _ ⟨n,?_⟩;unfold qf;rw[cd (by omega),qn (by omega)];dsimp only;rw[dF (show ¬(-1:Int)>=0 by decide),dT h];exact hn
 |succ j ih=>
  intro i hi;have hil:i<l.length:=by omega
  obtain⟨n,hn⟩:=ih (i+1) (by omega);refine wx _ _ _ ⟨n,?_⟩;unfold qf;rw[bI hil,av,amX hil,ij hil,ap4,bW (by omega)];dsimp only;rw[dT (show okC 4000 c/\okP 4000 l[i] from⟨h.1,h.2.2 _ (anw _)⟩)];cases onP (dC c) (dec l[i])
  ·dsimp only[Bool.not_false];rw[dT (show(i:Int)>=0 by omega)];rfl
  ·exact hn
end
def aij:Cn 9 [tCU,(.sl tP)]:=cn λ(c:BCU) (l:List BP)=>lf (mg c l) [.d (.sl tCU) (sw c l),.d aqh (alB c l)] λh=>by
 have q:=acz c l h l.length 0 (anB _);exact da Tl (af4 _ _ q)
def acC:List En:=[enT Jx,enT PW,enL abk,enT Nt]
def Zj(d p:BCU)(_k:KT):OLR:=og (decide (okC 4000 d/\okP 4000 p.2.2.2.2.1)) (match !(onP (dC d) (dec p.2.2.2.2.1))with|true=>some [RV.d .bool false]|false=>(og (decide (okC 4000 d/\okP 4000 p.2.2.2.2.2)) (match !(onP (dC d) (dec p.2.2.2.2.2))with|true=>some [RV.d .bool false]|false=>(match !d.1 with|true=>some [RV.d .bool true]|false=>(og (decide (okP 4000 ((((((hid (d9 p)).2).2).2).2).1)/\okP 4000 ((((((hid (d9 d)).2).2).2).2).2))) (match a8 (dec ((((((hid (d9 p)).2).2).2).2).1)) (dec ((((((hid (d9 d)).2).2).2).2).2))==0 with|true=>some [RV.d .bool false]|false=>(og (decide (ok Ln 300 ((((hid (d9 d)).2).2).1)/\okP 4000 ((((((hid (d9 p)).2).2).2).2).1)/\okP 4000 ((((((hid (d9 p)).2).2).2).2).2)/\okP 4000 ((((((hid (d9 d)).2).2).2).2).2))) (some [RV.d .bool (decide ((ic bh (ptd (dec ((((hid (d9 d)).2).2).1)) (dec ((((((hid (d9 p)).2).2).2).2).1))) (ptd (dec ((((hid (d9 d)).2).2).1)) (dec ((((((hid (d9 p)).2).2).2).2).2))) (ptd (dec ((((hid (d9 d)).2).2).1)) (dec ((((((hid (d9 d)).2).2).2).2).2))))<=0))]))))))))
def ahx:Cn 176 [tCU,tCU]:=cn λ(d p:BCU)=>lf (okC 4000 d/\okC 4000 p) [.d .bool (E5 d p)] λh=>by
 refine aB acC (Zj d p) ⟨0,?_⟩;obtain⟨hd,hp⟩:=h;have hd':=H7 hd;have hp':=H7 hp;unfold Zj E5 frB toB iU;simp only[bL];rw[dT (show okC 4000 d/\okP 4000 p.2.2.2.2.1 from⟨hd,hp.2.2.1⟩),dT (show okC 4000 d/\okP 4000 p.2.2.2.2.2 from⟨hd,hp.2.2.2⟩)];cases onP (dC d) (dec p.2.2.2.2.1)
 ·rfl
 ·cases onP (dC d) (dec p.2.2.2.2.2)
  ·rfl
  ·cases ha:d.1
   ·rfl
   ·rw[dT (show okP 4000 (d9 p).2.2.2.2.1/\okP 4000 (d9 d).2.2.2.2.2 from⟨hp'.2.2.1,hd'.2.2.2⟩),dT (show ok Ln 300 (d9 d).2.2.1/\okP 4000 (d9 p).2.2.2.2.1/\okP 4000 (d9 p).2.2.2.2.2/\okP 4000 (d9 d).2.2.2.2.2 from⟨(hd'.1 ((acg d).trans ha)).1,hp'.2.2.1,hp'.2.2.2,hd'.2.2.2⟩)];cases a8 (dec (d9 p).2.2.2.2.1) (dec (d9 d).2.2.2.2.2)==0<;>rfl
def Me:List En:=[enK aij,enT ahx]
def aex:NT:=[((211,6),{keep:=[0,1,7,8],hl:=2}),((77,5),{keep:=[17],hl:=0}),((174,3),{keep:=[7],hl:=0}),((211,18),{keep:=[0,1,5,7,8,16],hl:=0})]
def NH:Ctx:=CX (ens Me) aex
def oH(c d:BCU)(l:List BP)(s211_8:Int):Cfg:=⟨211,[.blk 0,.seq 25],[(0,.d (.sl tCU) (sw c l)),(1,.clo 175 [1]),(7,SI ((sw c l).length:Int)),(8,SI s211_8)],[.box 39 (Ty.split tCU c),.box 39 (Ty.split tCU d)],2,[⟨174,[.seq 4],3,2,[],2,none⟩,⟨77,[.seq 6],5,2,[],0,none⟩]⟩
def XE(c d:BCU)(l:List BP)(k:KT):OLR:=og (decide (mg c l)) (k 6 (oH c d l 0))
theorem aj7(c d:BCU)(l:List BP):RS NH 77 [.d tCU c,.d tCU d,.d (.sl tP) l] (XE c d l):=rsX
def oY(c d:BCU)(l:List BP)(s211_8:Int)(k:KT):OLR:=match decide (s211_8<((sw c l).length:Int))with|true=>(match aT (sw c l) s211_8 with|some x1=>(og (decide (okC 4000 d/\okC 4000 x1)) (match E5 d x1 with|true=>some [RV.d .bool (decide (s211_8>=0))]|false=>k 6 (oH c d l (i64.wrap (s211_8+1)))))|none=>none)|false=>some [RV.d .bool (decide ((-1)>=0))]
theorem uL(c d:BCU)(l:List BP)(s211_8:Int):RN NH 6 (oH c d l s211_8) (oY c d l s211_8):=rnX
theorem acP(c d:BCU)(l:List BP)(h:zm c d l):∀(j i:Nat),i+j=(sw c l).length->NH.Runs 6 (oH c d l (i:Int)) [.d .bool (((sw c l).drop i).any (E5 d))]:=by
 obtain⟨hn,ho⟩:=Up h.1;intro j;induction j with
 |zero=>
  intro i hi;refine uL _ _ _ _ ⟨0,?_⟩;unfold oY;rw[cd (by omega),qn (by omega)];rfl
 |succ j ih=>
  intro i hi;have hil:i<(sw c l).length:=by omega
  obtain⟨n,hn⟩:=ih (i+1) (by omega);refine uL _ _ _ _ ⟨n,?_⟩;unfold oY;rw[bI hil,av,amX hil,ij hil,ap4,bW (by omega)];dsimp only;rw[dT (show okC 4000 d/\okC 4000 (sw c l)[i] from⟨h.2,ho _ (anw _)⟩)];cases E5 d (sw c l)[i]
  ·exact hn
  ·dsimp only;rw[dT (show(i:Int)>=0 by omega)];rfl
def abg:Cn 77 [tCU,tCU,(.sl tP)]:=cn λ(c d:BCU) (l:List BP)=>lf (zm c d l) [.d .bool (yO c d l)] λh=>by
 obtain⟨n,hn⟩:=acP c d l h (sw c l).length 0 (anB _);refine da Me (aj7 _ _ _ ⟨n,?_⟩);unfold XE;rw[dT h.1];exact hn
end
section
theorem DW{c d:BCU}(h:iO c d):(lX c d).length<=4/\∀x∈lX c d,okP 4000 x:=by
 obtain⟨⟨h1,h2⟩,h3,h4⟩:=h;have up:∀{k x},okP k x->k<=4000->okP 4000 x:=λh hk=>cM h hk (by decide);unfold lX;cases hs:cC (dC c) (dC d)
 ·refine⟨?_,λx hx=>?_⟩
  ·simp only[cond_false,aoF];have:∀l c,[BdL l]->[BdC c]->(lR l c).length<=4:=λl c _ _=>am9 u4.1 (by decide);obtain⟨c1,c2⟩:=kA h2;obtain⟨d1,d2⟩:=kA h4;have ec:(dC c).1=c.1:=rfl;have ed:(dC d).1=d.1:=rfl;unfold gY;rw[ec,ed];cases ha:c.1<;>cases hb:d.1
   ·have i1:=(c2 ha).1;have i2:=(d2 hb).1;exact am9 xD.1 (by decide)
   ·have i1:=(c2 ha).1;have i2:=(d1 hb).1;exact this _ _
   ·have i1:=(c1 ha).1;have i2:=(d2 hb).1;exact this _ _
   ·have i1:=(c1 ha).1;have i2:=(d1 hb).1;show(ta _ _).length<=4;unfold ta;cases hq:iz (ciC (dC c)) (ciC (dC d))
    ·have i3:BdL (nI (ciC (dC c)) (ciC (dC d))):=yf;exact this _ _
    ·exact apr _
  ·obtain⟨p,hp,rfl⟩:=aoP.1 hx;obtain⟨b,r,_,_⟩:=RE.supM_on h2 h4 hp;exact amZ (aL (j:=1200) (by decide) (by decide))
 ·refine⟨by simp,λx hx=>?_⟩;have:x=c.2.2.2.2.1\/x=c.2.2.2.2.2\/x=d.2.2.2.2.1\/x=d.2.2.2.2.2:=by simpa using hx
  rcases this with e|e|e|e<;>rw[e]
  ·exact up h1.2.2.1 (by decide)
  ·exact up h1.2.2.2 (by decide)
  ·exact up h3.2.2.1 (by decide)
  ·exact up h3.2.2.2 (by decide)
theorem Ij{α:Type}(z:α)(L T:List α):((j7 z ((L.length:Int).toNat) ((((L++T).length:Int)).toNat-(L.length:Int).toNat) (L++T)).drop ((0:Int).toNat)).take ((L.length:Int).toNat-(0:Int).toNat)=L/\
  L.length<=(j7 z ((L.length:Int).toNat) ((((L++T).length:Int)).toNat-(L.length:Int).toNat) (L++T)).length:=by
 have hcl:(j7 z ((L.length:Int).toNat) ((((L++T).length:Int)).toNat-(L.length:Int).toNat) (L++T)).take L.length=L:=by
  unfold j7;rw[show((L.length:Int)).toNat=L.length by omega,ann,List.take_append_of_le_length (by simp),ap9,Nat.min_self,List.take_left' rfl]
 refine⟨?_,?_⟩
 ·rw[show((0:Int)).toNat=0 from rfl,aoD,show((L.length:Int)).toNat-0=L.length by omega,hcl]
 ·have:=congrArg List.length hcl;rw[anJ]at this;omega
def abO:Cn 71 [tCU,tCU]:=cn λ(a b:BCU)=>lf (iw a b/\cC (dC a) (dC b)=true) [.d .bool true] λh=>by
 have e:CQq7 71 [.d tCU a,.d tCU b] [.d .bool (cC (dC a) (dC b))]:=(aaI.g a b).h h.1;rw[h.2]at e;exact e
def NR:List En:=[enT abO,enT Tj,enL ZR,enK O9,enF abg,enK F9]
def Ux:NT:=[((98,6),{keep:=[0,1,7,8],hl:=4}),((73,16),{keep:=[0,1,5,6],hl:=4}),((23,11),{keep:=[2,3,26,28],hl:=0}),((73,3),{keep:=[0,1,10],hl:=0}),((98,18),{keep:=[0,1,5,7,8,16],hl:=0}),((73,28),{keep:=[0,1,5,6,7,28],hl:=0})]
def lZ:Ctx:=CX (ens NR) Ux
def lw(c d:BCU)(s98_8:Int):Cfg:=⟨98,[.blk 0,.seq 25],[(0,.own 3),(1,.clo 75 [0,1]),(7,SI (([c.2.2.2.2.1,c.2.2.2.2.2,d.2.2.2.2.1,d.2.2.2.2.2]).length:Int)),(8,SI s98_8)],[.box 39 (Ty.split tCU c),.box 39 (Ty.split tCU d),.gone,.row 37 tP ([c.2.2.2.2.1,c.2.2.2.2.2,d.2.2.2.2.1,d.2.2.2.2.2])],4,[⟨73,[.seq 4],3,2,[(0,.own 3),(1,.clo 75 [0,1])],4,none⟩,⟨23,[.seq 12],11,3,[(2,.box 0 0),(3,.box 1 0),(26,.own 3)],0,none⟩]⟩
def dU(c d:BCU)(s73_5 s73_6:Int)(r73_3:List BP):Cfg:=⟨73,[.blk 0,.seq 35],[(0,.own 3),(1,.clo 75 [0,1]),(5,SI s73_5),(6,SI s73_6)],[.box 39 (Ty.split tCU c),.box 39 (Ty.split tCU d),.gone,.row 37 tP r73_3],4,[⟨23,[.seq 12],11,3,[(2,.box 0 0),(3,.box 1 0),(26,.own 3)],0,none⟩]⟩
def Tw(c d:BCU)(k:KT):OLR:=match decide (iw c d/\cC (dC c) (dC d)=true)with|true=>(match decide (([c.2.2.2.2.1,c.2.2.2.2.2,d.2.2.2.2.1,d.2.2.2.2.2]).length<=100000)with|true=>k 6 (lw c d 0)|false=>none)|false=>none
theorem ac6(c d:BCU):RS lZ 23 [.d tCU c,.d tCU d] (Tw c d):=rsX
def kE(c d:BCU)(s98_8:Int)(k:KT):OLR:=match decide (s98_8<(([c.2.2.2.2.1,c.2.2.2.2.2,d.2.2.2.2.1,d.2.2.2.2.2]).length:Int))with|true=>(match aT ([c.2.2.2.2.1,c.2.2.2.2.2,d.2.2.2.2.1,d.2.2.2.2.2]) s98_8 with|some _=>(match true,([c.2.2.2.2.1,c.2.2.2.2.2,d.2.2.2.2.1,d.2.2.2.2.2])[(s98_8).toNat]? with|true,some x1=>(match decide (okC 4000 c/\okP 4000 x1)with|true=>(match !(iN (dC c) (dec x1))with|true=>(match s98_8==(-1)with|true=>(match decide (mg c ([c.2.2.2.2.1,c.2.2.2.2.2,d.2.2.2.2.1,d.2.2.2.2.2]))with|true=>(match decide (iw c d/\cC (dC c) (dC d)=true)with|true=>(match decide (zm c d (du (dC c) ([c.2.2.2.2.1,c.2.2.2.2.2,d.2.2.2.2.1,d.2.2.2.2.2])))with|true=>some [RV.d (.sl tP) (du (dC c) ([c.2.2.2.2.1,c.2.2.2.2.2,d.2.2.2.2.1,d.2.2.2.2.2])),RV.d .bool (yO c d (du (dC c) ([c.2.2.2.2.1,c.2.2.2.2.2,d.2.2.2.2.1,d.2.2.2.2.2])))]|false=>none)|false=>none)|false=>none)|false=>k 16 (dU c d s98_8 (i64.wrap (s98_8+1)) ([c.2.2.2.2.1,c.2.2.2.2.2,d.2.2.2.2.1,d.2.2.2.2.2])))|false=>(match decide (okC 4000 d/\okP 4000 x1)with|true=>(match !(iN (dC d) (dec x1))with|true=>(match s98_8==(-1)with|true=>(match decide (mg c ([c.2.2.2.2.1,c.2.2.2.2.2,d.2.2.2.2.1,d.2.2.2.2.2]))with|true=>(match decide (iw c d/\cC (dC c) (dC d)=true)with|true=>(match decide (zm c d (du (dC c) ([c.2.2.2.2.1,c.2.2.2.2.2,d.2.2.2.2.1,d.2.2.2.2.2])))with|true=>some [RV.d (.sl tP) (du (dC c) ([c.2.2.2.2.1,c.2.2.2.2.2,d.2.2.2.2.1,d.2.2.2.2.2])),RV.d .bool (yO c d (du (dC c) ([c.2.2.2.2.1,c.2.2.2.2.2,d.2.2.2.2.1,d.2.2.2.2.2])))]|false=>none)|false=>none)|false=>none)|false=>k 16 (dU c d s98_8 (i64.wrap (s98_8+1)) ([c.2.2.2.2.1,c.2.2.2.2.2,d.2.2.2.2.1,d.2.2.2.2.2])))|false=>k 6 (lw c d (i64.wrap (s98_8+1))))|false=>none))|false=>none)|_,_=>none)|none=>none)|false=>(match(-1)==(-1)with|true=>(match decide (mg c ([c.2.2.2.2.1,c.2.2.2.2.2,d.2.2.2.2.1,d.2.2.2.2.2]))with|true=>(match decide (iw c d/\cC (dC c) (dC d)=true)with|true=>(match decide (zm c d (du (dC c) ([c.2.2.2.2.1,c.2.2.2.2.2,d.2.2.2.2.1,d.2.2.2.2.2])))with|true=>some [RV.d (.sl tP) (du (dC c) ([c.2.2.2.2.1,c.2.2.2.2.2,d.2.2.2.2.1,d.2.2.2.2.2])),RV.d .bool (yO c d (du (dC c) ([c.2.2.2.2.1,c.2.2.2.2.2,d.2.2.2.2.1,d.2.2.2.2.2])))]|false=>none)|false=>none)|false=>none)|false=>k 16 (dU c d (-1) (i64.wrap ((-1)+1)) ([c.2.2.2.2.1,c.2.2.2.2.2,d.2.2.2.2.1,d.2.2.2.2.2])))
theorem oC(c d:BCU)(s98_8:Int):RN lZ 6 (lw c d s98_8) (kE c d s98_8):=rnX
def jN(c d:BCU)(s73_5 s73_6:Int)(r73_3:List BP)(k:KT):OLR:=match decide (s73_6<(r73_3.length:Int))with|true=>(match aT r73_3 s73_6 with|some _=>(match true,r73_3[(s73_6).toNat]? with|true,some x1=>(match decide (okC 4000 c/\okP 4000 x1)with|true=>(match !(iN (dC c) (dec x1))with|true=>k 16 (dU c d s73_5 (i64.wrap (s73_6+1)) r73_3)|false=>(match decide (okC 4000 d/\okP 4000 x1)with|true=>(match !(!(iN (dC d) (dec x1)))with|true=>(match aT r73_3 s73_5 with|some _=>(match true,r73_3[(s73_5).toNat]? with|true,some _=>k 16 (dU c d (i64.wrap (s73_5+1)) (i64.wrap (s73_6+1)) (r73_3.set ((s73_5).toNat) x1))|_,_=>none)|none=>none)|false=>k 16 (dU c d s73_5 (i64.wrap (s73_6+1)) r73_3))|false=>none))|false=>none)|_,_=>none)|none=>none)|false=>(match decide ((0:Int)<=s73_5/\s73_5<=(r73_3.length:Int)/\(r73_3.length:Int)<=(r73_3.length:Int))with|true=>(match decide ((0:Int)<=0/\0<=s73_5/\s73_5<=((j7 (Ty.zero tP) ((s73_5:Int).toNat) (((r73_3.length:Int):Int).toNat-(s73_5:Int).toNat) r73_3).length:Int))with|true=>(match decide (mg c (((j7 (Ty.zero tP) ((s73_5:Int).toNat) (((r73_3.length:Int):Int).toNat-(s73_5:Int).toNat) r73_3).drop ((0:Int).toNat)).take ((s73_5:Int).toNat-(0:Int).toNat)))with|true=>(match decide (iw c d/\cC (dC c) (dC d)=true)with|true=>(match decide (zm c d (du (dC c) (((j7 (Ty.zero tP) ((s73_5:Int).toNat) (((r73_3.length:Int):Int).toNat-(s73_5:Int).toNat) r73_3).drop ((0:Int).toNat)).take ((s73_5:Int).toNat-(0:Int).toNat))))with|true=>some [RV.d (.sl tP) (du (dC c) (((j7 (Ty.zero tP) ((s73_5:Int).toNat) (((r73_3.length:Int):Int).toNat-(s73_5:Int).toNat) r73_3).drop ((0:Int).toNat)).take ((s73_5:Int).toNat-(0:Int).toNat))),RV.d .bool (yO c d (du (dC c) (((j7 (Ty.zero tP) ((s73_5:Int).toNat) (((r73_3.length:Int):Int).toNat-(s73_5:Int).toNat) r73_3).drop ((0:Int).toNat)).take ((s73_5:Int).toNat-(0:Int).toNat))))]|false=>none)|false=>none)|false=>none)|false=>none)|false=>none)
theorem m5(c d:BCU)(s73_5 s73_6:Int)(r73_3:List BP):RN lZ 16 (dU c d s73_5 s73_6 r73_3) (jN c d s73_5 s73_6 r73_3):=rnX
section
variable (c d:BCU) (h:iO c d) (hs:cC (dC c) (dC d)=true)
include h hs
theorem EP(L:List BP)(hl:L.length<=4)(ho:∀x∈L,okP 4000 x):(match decide (mg c L)with
  |true=>(match decide (iw c d/\cC (dC c) (dC d)=true)with
   |true=>(match decide (zm c d (du (dC c) L))with|true=>some [RV.d (.sl tP) (du (dC c) L),RV.d .bool (yO c d (du (dC c) L))]|false=>none)
   |false=>none)
  |false=>none)=some [RV.d (.sl tP) (du (dC c) L),RV.d .bool (yO c d (du (dC c) L))]:=by
 have hc:okC 4000 c:=bZ h.1.1 (by decide) (by decide);have hd:okC 4000 d:=bZ h.2.1 (by decide) (by decide);have q:mg c L:=⟨hc,by omega,ho⟩
 have hn:(du (dC c) L).length<=L.length:=qF;have _q2:zm c d (du (dC c) L):=⟨⟨hc,by omega,λx hx=>ho x (kb hx)⟩,hd⟩
 rw[dT q,dT (show iw c d/\cC (dC c) (dC d)=true from⟨⟨h.1.2,h.2.2⟩,hs⟩)];dsimp only;rw[dT _q2]
theorem zH:∀(S:List BP) (L J:List BP),J≠[]->(∀x∈L++(J++S),okP 4000 x)->(L++(J++S)).length<=4->
  lZ.Runs 16 (dU c d (L.length:Int) ((L.length+J.length:Nat):Int) (L++(J++S))) [RV.d (.sl tP) (du (dC c) (L++S.filter (iu c d))),RV.d .bool (yO c d (du (dC c) (L++S.filter (iu c d))))]
 |[],L,J,hJ,hok,h4=>by
  have h4':L.length+J.length<=4:=by simpa using h4
  obtain⟨c1,c2⟩:=Ij (Ty.zero tP) L J;refine m5 _ _ _ _ _ ⟨0,?_⟩;unfold jN;rw[ant,cd (by simp)];dsimp only;rw[dT (show(0:Int)<=(L.length:Int)/\(L.length:Int)<=((L++J).length:Int)/\((L++J).length:Int)<=((L++J).length:Int) by simp only[anu];omega)];rw[dT (show(0:Int)<=0/\0<=(L.length:Int)/\(L.length:Int)<=((j7 (Ty.zero tP) ((L.length:Int).toNat) ((((L++J).length:Int)).toNat-(L.length:Int).toNat) (L++J)).length:Int) by omega)];rw[c1,apH,ant];exact EP c d h hs L (by omega) λx hx=>hok x (aov _ hx)
 |q::S,L,J,hJ,hok,h4=>by
  have h4':L.length+(J.length+(S.length+1))<=4:=by simpa using h4
  have hc:okC 4000 c:=bZ h.1.1 (by decide) (by decide);have hd:okC 4000 d:=bZ h.2.1 (by decide) (by decide);have hq:okP 4000 q:=hok q (by simp)
  have g1:(L++(J++q::S))[L.length+J.length]?=some q:=by
   have:=oD (L++J) q S;rw[anu,ann]at this;exact this
  obtain⟨y,T,rfl⟩:=List.exists_cons_of_ne_nil hJ;have g2:(L++(y::T++q::S))[L.length]?=some y:=oD L y (T++q::S)
  have hset:(L++(y::T++q::S)).set L.length q=(L++[q])++((T++[q])++S):=by
   have:=Ce y q (T++q::S) L;rw[show y::T++q::S=y::(T++q::S) from rfl,this];simp
  have e2:L++(y::T++q::S)=L++((y::T++[q])++S):=by simp
  have key:∀r n,(match iu c d q with
    |true=>lZ.k n 16 (dU c d ((L.length+1:Nat):Int) ((L.length+(y::T).length+1:Nat):Int) ((L++[q])++((T++[q])++S)))
    |false=>lZ.k n 16 (dU c d (L.length:Int) ((L.length+(y::T).length+1:Nat):Int) (L++(y::T++q::S))))=some r->
    jN c d (L.length:Int) ((L.length+(y::T).length:Nat):Int) (L++(y::T++q::S)) (lZ.k n)=some r:=λr n hk=>by
   unfold jN;rw[bI (by simp only[anu,anb];omega),av,g1,show((L.length+(y::T).length:Nat):Int).toNat=L.length+(y::T).length by omega,g1];dsimp only;rw[dT (show okC 4000 c/\okP 4000 q from⟨hc,hq⟩),dT (show okC 4000 d/\okP 4000 q from⟨hd,hq⟩),bW (k:=L.length+(y::T).length) (by simp only[anb]at*;omega),bW (k:=L.length) (by omega),av,g2,show((L.length:Nat):Int).toNat=L.length by omega,g2,hset];unfold iu at hk;cases r1:iN (dC c) (dec q)<;>cases r2:iN (dC d) (dec q)<;>rw[r1,r2]at hk<;>exact hk
  rw[aoO];cases hk:iu c d q
  ·obtain⟨n,hn⟩:=zH S L (y::T++[q]) (by simp) (e2▸hok) (e2▸h4);refine m5 _ _ _ _ _ ⟨n,key _ n ?_⟩;rw[hk,e2];rw[anu,anm,<-aoY]at hn;exact hn
  ·obtain⟨n,hn⟩:=zH S (L++[q]) (T++[q]) (by simp) (λx hx=>by
    simp only[anI,ane,aoi,apJ]at hx;rcases hx with(hx|hx)|(hx|hx)|hx
    ·exact hok x (by simp[hx])
    ·rw[hx];exact hq
    ·exact hok x (by simp[hx])
    ·rw[hx];exact hq
    ·exact hok x (by simp[hx])) (by simp at h4 ⊢;omega)
   refine m5 _ _ _ _ _ ⟨n,key _ n ?_⟩;rw[hk];have n1:(L++[q]).length=L.length+1:=by simp
   have n2:L.length+1+(T++[q]).length=L.length+(y::T).length+1:=by simp;omega
   rw[n1,n2,ann L [q] (S.filter (iu c d))]at hn;exact hn
theorem JD(X:List BP)(hX:[c.2.2.2.2.1,c.2.2.2.2.2,d.2.2.2.2.1,d.2.2.2.2.2]=X)(h4:X.length<=4)(hok:∀x∈X,okP 4000 x):∀(S A:List BP),A++S=X->A.filter (iu c d)=A->
  lZ.Runs 6 (lw c d (A.length:Int)) [RV.d (.sl tP) (du (dC c) (A++S.filter (iu c d))),RV.d .bool (yO c d (du (dC c) (A++S.filter (iu c d))))]
 |[],A,hA,hf=>by
  rw[ant]at hA;refine oC _ _ _ ⟨0,?_⟩;unfold kE;rw[hX,<-hA,cd (by omega),apH,ant];exact EP c d h hs A (hA▸h4) (hA▸hok)
 |q::S,A,hA,hf=>by
  have hc:okC 4000 c:=bZ h.1.1 (by decide) (by decide);have hd:okC 4000 d:=bZ h.2.1 (by decide) (by decide);have hq:okP 4000 q:=hok q (by rw[<-hA];simp);have g1:X[A.length]?=some q:=by rw[<-hA];exact oD A q S
  have hlen:A.length<X.length:=by rw[<-hA];simp
  have key:∀r n,(match iu c d q with
    |true=>lZ.k n 6 (lw c d ((A.length+1:Nat):Int))
    |false=>lZ.k n 16 (dU c d (A.length:Int) ((A.length+1:Nat):Int) X))=some r->
    kE c d (A.length:Int) (lZ.k n)=some r:=λr n hk=>by
   unfold kE;rw[hX,bI hlen,av,g1,show((A.length:Nat):Int).toNat=A.length by omega,g1];dsimp only;rw[dT (show okC 4000 c/\okP 4000 q from⟨hc,hq⟩),dT (show okC 4000 d/\okP 4000 q from⟨hd,hq⟩),bW (k:=A.length) (by omega),show((A.length:Int)== -1)=false by rw[aph];omega];unfold iu at hk;cases r1:iN (dC c) (dec q)<;>cases r2:iN (dC d) (dec q)<;>rw[r1,r2]at hk<;>exact hk
  rw[aoO];cases hk:iu c d q
  ·obtain⟨n,hn⟩:=zH c d h hs S A [q] (by simp) (by rw[aoo,hA];exact hok) (by rw[aoo,hA];exact h4);refine oC _ _ _ ⟨n,key _ n ?_⟩;rw[hk];rw[aoo,hA]at hn;exact hn
  ·obtain⟨n,hn⟩:=JD X hX h4 hok S (A++[q]) (by rw[ann];exact hA) (by rw[List.filter_append,hf,aoO,hk];rfl);refine oC _ _ _ ⟨n,key _ n ?_⟩;rw[hk];have n1:(A++[q]).length=A.length+1:=by simp
   rw[n1,ann A [q] (S.filter (iu c d))]at hn;exact hn
end
theorem NE(c d:BCU)(h:iO c d)(hs:cC (dC c) (dC d)=true):CQq7 23 [.d tCU c,.d tCU d] [.d (.sl tP) (iM c d),.d .bool (sN c d)]:=by
 obtain⟨h4,ho⟩:=DW h;have e:lX c d=[c.2.2.2.2.1,c.2.2.2.2.2,d.2.2.2.2.1,d.2.2.2.2.2]:=by unfold lX;rw[hs];rfl
 rw[e]at h4 ho;obtain⟨n,hn⟩:=JD c d h hs _ rfl h4 ho _ [] rfl rfl;have e2:iM c d=du (dC c) (List.filter (iu c d) [c.2.2.2.2.1,c.2.2.2.2.2,d.2.2.2.2.1,d.2.2.2.2.2]):=by unfold iM;rw[e]
 have e3:sN c d=yO c d (du (dC c) (List.filter (iu c d) [c.2.2.2.2.1,c.2.2.2.2.2,d.2.2.2.2.1,d.2.2.2.2.2])):=by unfold sN;rw[hs,e2];rfl
 rw[e2,e3];refine da NR (ac6 _ _ ⟨n,?_⟩);unfold Tw;rw[dT (show iw c d/\cC (dC c) (dC d)=true from⟨⟨h.1.2,h.2.2⟩,hs⟩)];dsimp only;rw[dT (am9 h4 (by decide))];exact hn
def acp:Cn 71 [tCU,tCU]:=cn λ(a b:BCU)=>lf (iw a b/\cC (dC a) (dC b)=false) [.d .bool false] λh=>by
 have e:CQq7 71 [.d tCU a,.d tCU b] [.d .bool (cC (dC a) (dC b))]:=(aaI.g a b).h h.1;rw[h.2]at e;exact e
def Qj:List En:=[enT acp,enT Tj,enL ZR,enK O9,enF abg,enK F9]
def VZ:NT:=[((98,6),{keep:=[0,1,7,8],hl:=3}),((73,16),{keep:=[0,1,5,6],hl:=3}),((23,11),{keep:=[2,3,26,28],hl:=0}),((73,3),{keep:=[0,1,10],hl:=0}),((98,18),{keep:=[0,1,5,7,8,16],hl:=0}),((73,28),{keep:=[0,1,5,6,7,28],hl:=0})]
def lO:Ctx:=CX (ens Qj) VZ
def ll(c d:BCU)(s98_8:Int):Cfg:=⟨98,[.blk 0,.seq 25],[(0,.own 2),(1,.clo 75 [0,1]),(7,SI (((gY (dC c) (dC d)).map enc).length:Int)),(8,SI s98_8)],[.box 39 (Ty.split tCU c),.box 39 (Ty.split tCU d),.row 37 tP ((gY (dC c) (dC d)).map enc)],3,[⟨73,[.seq 4],3,2,[(0,.own 2),(1,.clo 75 [0,1])],3,none⟩,⟨23,[.seq 12],11,3,[(2,.box 0 0),(3,.box 1 0),(26,.own 2)],0,none⟩]⟩
def dV(c d:BCU)(s73_5 s73_6:Int)(r73_2:List BP):Cfg:=⟨73,[.blk 0,.seq 35],[(0,.own 2),(1,.clo 75 [0,1]),(5,SI s73_5),(6,SI s73_6)],[.box 39 (Ty.split tCU c),.box 39 (Ty.split tCU d),.row 37 tP r73_2],3,[⟨23,[.seq 12],11,3,[(2,.box 0 0),(3,.box 1 0),(26,.own 2)],0,none⟩]⟩
def OF(c d:BCU)(k:KT):OLR:=match decide (iw c d/\cC (dC c) (dC d)=false)with|true=>(match decide (iw c d)with|true=>(match decide (((gY (dC c) (dC d)).map enc).length<=100000)with|true=>k 6 (ll c d 0)|false=>none)|false=>none)|false=>none
theorem acK(c d:BCU):RS lO 23 [.d tCU c,.d tCU d] (OF c d):=rsX
def kJ(c d:BCU)(s98_8:Int)(k:KT):OLR:=match decide (s98_8<(((gY (dC c) (dC d)).map enc).length:Int))with|true=>(match aT ((gY (dC c) (dC d)).map enc) s98_8 with|some _=>(match true,((gY (dC c) (dC d)).map enc)[(s98_8).toNat]? with|true,some x1=>(match decide (okC 4000 c/\okP 4000 x1)with|true=>(match !(iN (dC c) (dec x1))with|true=>(match s98_8==(-1)with|true=>(match decide (mg c ((gY (dC c) (dC d)).map enc))with|true=>(match decide (iw c d/\cC (dC c) (dC d)=false)with|true=>some [RV.d (.sl tP) (du (dC c) ((gY (dC c) (dC d)).map enc)),RV.d .bool false]|false=>none)|false=>none)|false=>k 16 (dV c d s98_8 (i64.wrap (s98_8+1)) ((gY (dC c) (dC d)).map enc)))|false=>(match decide (okC 4000 d/\okP 4000 x1)with|true=>(match !(iN (dC d) (dec x1))with|true=>(match s98_8==(-1)with|true=>(match decide (mg c ((gY (dC c) (dC d)).map enc))with|true=>(match decide (iw c d/\cC (dC c) (dC d)=false)with|true=>some [RV.d (.sl tP) (du (dC c) ((gY (dC c) (dC d)).map enc)),RV.d .bool false]|false=>none)|false=>none)|false=>k 16 (dV c d s98_8 (i64.wrap (s98_8+1)) ((gY (dC c) (dC d)).map enc)))|false=>k 6 (ll c d (i64.wrap (s98_8+1))))|false=>none))|false=>none)|_,_=>none)|none=>none)|false=>(match(-1)==(-1)with|true=>(match decide (mg c ((gY (dC c) (dC d)).map enc))with|true=>(match decide (iw c d/\cC (dC c) (dC d)=false)with|true=>some [RV.d (.sl tP) (du (dC c) ((gY (dC c) (dC d)).map enc)),RV.d .bool false]|false=>none)|false=>none)|false=>k 16 (dV c d (-1) (i64.wrap ((-1)+1)) ((gY (dC c) (dC d)).map enc)))
theorem pD(c d:BCU)(s98_8:Int):RN lO 6 (ll c d s98_8) (kJ c d s98_8):=rnX
def jL(c d:BCU)(s73_5 s73_6:Int)(r73_2:List BP)(k:KT):OLR:=match decide (s73_6<(r73_2.length:Int))with|true=>(match aT r73_2 s73_6 with|some _=>(match true,r73_2[(s73_6).toNat]? with|true,some x1=>(match decide (okC 4000 c/\okP 4000 x1)with|true=>(match !(iN (dC c) (dec x1))with|true=>k 16 (dV c d s73_5 (i64.wrap (s73_6+1)) r73_2)|false=>(match decide (okC 4000 d/\okP 4000 x1)with|true=>(match !(!(iN (dC d) (dec x1)))with|true=>(match aT r73_2 s73_5 with|some _=>(match true,r73_2[(s73_5).toNat]? with|true,some _=>k 16 (dV c d (i64.wrap (s73_5+1)) (i64.wrap (s73_6+1)) (r73_2.set ((s73_5).toNat) x1))|_,_=>none)|none=>none)|false=>k 16 (dV c d s73_5 (i64.wrap (s73_6+1)) r73_2))|false=>none))|false=>none)|_,_=>none)|none=>none)|false=>(match decide ((0:Int)<=s73_5/\s73_5<=(r73_2.length:Int)/\(r73_2.length:Int)<=(r73_2.length:Int))with|true=>(match decide ((0:Int)<=0/\0<=s73_5/\s73_5<=((j7 (Ty.zero tP) ((s73_5:Int).toNat) (((r73_2.length:Int):Int).toNat-(s73_5:Int).toNat) r73_2).length:Int))with|true=>(match decide (mg c (((j7 (Ty.zero tP) ((s73_5:Int).toNat) (((r73_2.length:Int):Int).toNat-(s73_5:Int).toNat) r73_2).drop ((0:Int).toNat)).take ((s73_5:Int).toNat-(0:Int).toNat)))with|true=>(match decide (iw c d/\cC (dC c) (dC d)=false)with|true=>some [RV.d (.sl tP) (du (dC c) (((j7 (Ty.zero tP) ((s73_5:Int).toNat) (((r73_2.length:Int):Int).toNat-(s73_5:Int).toNat) r73_2).drop ((0:Int).toNat)).take ((s73_5:Int).toNat-(0:Int).toNat))),RV.d .bool false]|false=>none)|false=>none)|false=>none)|false=>none)
theorem m8(c d:BCU)(s73_5 s73_6:Int)(r73_2:List BP):RN lO 16 (dV c d s73_5 s73_6 r73_2) (jL c d s73_5 s73_6 r73_2):=rnX
section
variable (c d:BCU) (h:iO c d) (hs:cC (dC c) (dC d)=false)
include h hs
theorem Eb(L:List BP)(hl:L.length<=4)(ho:∀x∈L,okP 4000 x):(match decide (mg c L)with
  |true=>(match decide (iw c d/\cC (dC c) (dC d)=false)with
   |true=>some [RV.d (.sl tP) (du (dC c) L),RV.d .bool false]
   |false=>none)
  |false=>none)=some [RV.d (.sl tP) (du (dC c) L),RV.d .bool (false)]:=by
 have hc:okC 4000 c:=bZ h.1.1 (by decide) (by decide);have hd:okC 4000 d:=bZ h.2.1 (by decide) (by decide);have q:mg c L:=⟨hc,by omega,ho⟩
 have hn:(du (dC c) L).length<=L.length:=qF;have _q2:zm c d (du (dC c) L):=⟨⟨hc,by omega,λx hx=>ho x (kb hx)⟩,hd⟩
 rw[dT q,dT (show iw c d/\cC (dC c) (dC d)=false from⟨⟨h.1.2,h.2.2⟩,hs⟩)]
theorem yN:∀(S:List BP) (L J:List BP),J≠[]->(∀x∈L++(J++S),okP 4000 x)->(L++(J++S)).length<=4->
  lO.Runs 16 (dV c d (L.length:Int) ((L.length+J.length:Nat):Int) (L++(J++S))) [RV.d (.sl tP) (du (dC c) (L++S.filter (iu c d))),RV.d .bool (false)]
 |[],L,J,hJ,hok,h4=>by
  have h4':L.length+J.length<=4:=by simpa using h4
  obtain⟨c1,c2⟩:=Ij (Ty.zero tP) L J;refine m8 _ _ _ _ _ ⟨0,?_⟩;unfold jL;rw[ant,cd (by simp)];dsimp only;rw[dT (show(0:Int)<=(L.length:Int)/\(L.length:Int)<=((L++J).length:Int)/\((L++J).length:Int)<=((L++J).length:Int) by simp only[anu];omega)];rw[dT (show(0:Int)<=0/\0<=(L.length:Int)/\(L.length:Int)<=((j7 (Ty.zero tP) ((L.length:Int).toNat) ((((L++J).length:Int)).toNat-(L.length:Int).toNat) (L++J)).length:Int) by omega)];rw[c1,apH,ant];exact Eb c d h hs L (by omega) λx hx=>hok x (aov _ hx)
 |q::S,L,J,hJ,hok,h4=>by
  have h4':L.length+(J.length+(S.length+1))<=4:=by simpa using h4
  have hc:okC 4000 c:=bZ h.1.1 (by decide) (by decide);have hd:okC 4000 d:=bZ h.2.1 (by decide) (by decide);have hq:okP 4000 q:=hok q (by simp)
  have g1:(L++(J++q::S))[L.length+J.length]?=some q:=by
   have:=oD (L++J) q S;rw[anu,ann]at this;exact this
  obtain⟨y,T,rfl⟩:=List.exists_cons_of_ne_nil hJ;have g2:(L++(y::T++q::S))[L.length]?=some y:=oD L y (T++q::S)
  have hset:(L++(y::T++q::S)).set L.length q=(L++[q])++((T++[q])++S):=by
   have:=Ce y q (T++q::S) L;rw[show y::T++q::S=y::(T++q::S) from rfl,this];simp
  have e2:L++(y::T++q::S)=L++((y::T++[q])++S):=by simp
  have key:∀r n,(match iu c d q with
    |true=>lO.k n 16 (dV c d ((L.length+1:Nat):Int) ((L.length+(y::T).length+1:Nat):Int) ((L++[q])++((T++[q])++S)))
    |false=>lO.k n 16 (dV c d (L.length:Int) ((L.length+(y::T).length+1:Nat):Int) (L++(y::T++q::S))))=some r->
    jL c d (L.length:Int) ((L.length+(y::T).length:Nat):Int) (L++(y::T++q::S)) (lO.k n)=some r:=λr n hk=>by
   unfold jL;rw[bI (by simp only[anu,anb];omega),av,g1,show((L.length+(y::T).length:Nat):Int).toNat=L.length+(y::T).length by omega,g1];dsimp only;rw[dT (show okC 4000 c/\okP 4000 q from⟨hc,hq⟩),dT (show okC 4000 d/\okP 4000 q from⟨hd,hq⟩),bW (k:=L.length+(y::T).length) (by simp only[anb]at*;omega),bW (k:=L.length) (by omega),av,g2,show((L.length:Nat):Int).toNat=L.length by omega,g2,hset];unfold iu at hk;cases r1:iN (dC c) (dec q)<;>cases r2:iN (dC d) (dec q)<;>rw[r1,r2]at hk<;>exact hk
  rw[aoO];cases hk:iu c d q
  ·obtain⟨n,hn⟩:=yN S L (y::T++[q]) (by simp) (e2▸hok) (e2▸h4);refine m8 _ _ _ _ _ ⟨n,key _ n ?_⟩;rw[hk,e2];rw[anu,anm,<-aoY]at hn;exact hn
  ·obtain⟨n,hn⟩:=yN S (L++[q]) (T++[q]) (by simp) (λx hx=>by
    simp only[anI,ane,aoi,apJ]at hx;rcases hx with(hx|hx)|(hx|hx)|hx
    ·exact hok x (by simp[hx])
    ·rw[hx];exact hq
    ·exact hok x (by simp[hx])
    ·rw[hx];exact hq
    ·exact hok x (by simp[hx])) (by simp at h4 ⊢;omega)
   refine m8 _ _ _ _ _ ⟨n,key _ n ?_⟩;rw[hk];have n1:(L++[q]).length=L.length+1:=by simp
   have n2:L.length+1+(T++[q]).length=L.length+(y::T).length+1:=by simp;omega
   rw[n1,n2,ann L [q] (S.filter (iu c d))]at hn;exact hn
theorem Im(X:List BP)(hX:((gY (dC c) (dC d)).map enc)=X)(h4:X.length<=4)(hok:∀x∈X,okP 4000 x):∀(S A:List BP),A++S=X->A.filter (iu c d)=A->
  lO.Runs 6 (ll c d (A.length:Int)) [RV.d (.sl tP) (du (dC c) (A++S.filter (iu c d))),RV.d .bool (false)]
 |[],A,hA,hf=>by
  rw[ant]at hA;refine pD _ _ _ ⟨0,?_⟩;unfold kJ;rw[hX,<-hA,cd (by omega),apH,ant];exact Eb c d h hs A (hA▸h4) (hA▸hok)
 |q::S,A,hA,hf=>by
  have hc:okC 4000 c:=bZ h.1.1 (by decide) (by decide);have hd:okC 4000 d:=bZ h.2.1 (by decide) (by decide);have hq:okP 4000 q:=hok q (by rw[<-hA];simp);have g1:X[A.length]?=some q:=by rw[<-hA];exact oD A q S
  have hlen:A.length<X.length:=by rw[<-hA];simp
  have key:∀r n,(match iu c d q with
    |true=>lO.k n 6 (ll c d ((A.length+1:Nat):Int))
    |false=>lO.k n 16 (dV c d (A.length:Int) ((A.length+1:Nat):Int) X))=some r->
    kJ c d (A.length:Int) (lO.k n)=some r:=λr n hk=>by
   unfold kJ;rw[hX,bI hlen,av,g1,show((A.length:Nat):Int).toNat=A.length by omega,g1];dsimp only;rw[dT (show okC 4000 c/\okP 4000 q from⟨hc,hq⟩),dT (show okC 4000 d/\okP 4000 q from⟨hd,hq⟩),bW (k:=A.length) (by omega),show((A.length:Int)== -1)=false by rw[aph];omega];unfold iu at hk;cases r1:iN (dC c) (dec q)<;>cases r2:iN (dC d) (dec q)<;>rw[r1,r2]at hk<;>exact hk
  rw[aoO];cases hk:iu c d q
  ·obtain⟨n,hn⟩:=yN c d h hs S A [q] (by simp) (by rw[aoo,hA];exact hok) (by rw[aoo,hA];exact h4);refine pD _ _ _ ⟨n,key _ n ?_⟩;rw[hk];rw[aoo,hA]at hn;exact hn
  ·obtain⟨n,hn⟩:=Im X hX h4 hok S (A++[q]) (by rw[ann];exact hA) (by rw[List.filter_append,hf,aoO,hk];rfl);refine pD _ _ _ ⟨n,key _ n ?_⟩;rw[hk];have n1:(A++[q]).length=A.length+1:=by simp
   rw[n1,ann A [q] (S.filter (iu c d))]at hn;exact hn
end
theorem P2(c d:BCU)(h:iO c d)(hs:cC (dC c) (dC d)=false):CQq7 23 [.d tCU c,.d tCU d] [.d (.sl tP) (iM c d),.d .bool (sN c d)]:=by
 obtain⟨h4,ho⟩:=DW h;have e:lX c d=((gY (dC c) (dC d)).map enc):=by unfold lX;rw[hs];rfl
 rw[e]at h4 ho;obtain⟨n,hn⟩:=Im c d h hs _ rfl h4 ho _ [] rfl rfl;have e2:iM c d=du (dC c) (List.filter (iu c d) ((gY (dC c) (dC d)).map enc)):=by unfold iM;rw[e]
 have e3:sN c d=false:=by unfold sN;rw[hs,e2];rfl
 rw[e2,e3];refine da Qj (acK _ _ ⟨n,?_⟩);unfold OF;rw[dT (show iw c d/\cC (dC c) (dC d)=false from⟨⟨h.1.2,h.2.2⟩,hs⟩)];dsimp only;rw[dT (show iw c d from⟨h.1.2,h.2.2⟩)];dsimp only;rw[dT (am9 h4 (by decide))];exact hn
def ajg:Cn 23 [tCU,tCU]:=cn λ(c d:BCU)=>lf (iO c d) [.d (.sl tP) (iM c d),.d .bool (sN c d)] λh=>by
 cases hs:cC (dC c) (dC d)
 ·exact P2 c d h hs
 ·exact NE c d h hs
end
section
open RE
section
variable {α β:Type} (f:α->β)
theorem Ep{lt:α->α->Bool}{lt':β->β->Bool}(h:∀a b,lt' (f a) (f b)=lt a b)(a:α):∀r:List α,me lt' (r.map f) (f a)=(me lt r a).map f
 |[]=>rfl
 |b::r=>by
  have ih:=Ep h a r;simp only[apd,me,h];cases lt a b
  ·rfl
  ·simp only[cond_true,apd,ih]
theorem Fp{lt:α->α->Bool}{lt':β->β->Bool}(h:∀a b,lt' (f a) (f b)=lt a b):∀(l r:List α),(l.map f).foldl (me lt') (r.map f)=(l.foldl (me lt) r).map f
 |[],_=>rfl
 |a::l,r=>by
  rw[apd,aoS,aoS,Ep f h,Fp h]
theorem N5{lt:α->α->Bool}{lt':β->β->Bool}(h:∀a b,lt' (f a) (f b)=lt a b)(l:List α):uU lt' (l.map f)=(uU lt l).map f:=by
 unfold uU;have:=Fp f h l [];rw[List.map_nil]at this;rw[this,List.map_reverse]
theorem Et{g:α->α->Bool}{g':β->β->Bool}(h:∀a b,g' (f a) (f b)=g a b):∀(l:List α) (p:α),ks g' (f p) (l.map f)=(ks g p l).map f
 |[],_=>rfl
 |q::r,p=>by
  have ih:=Et h r q;simp only[apd,ks,h];cases g q p
  ·simp only[cond_false,apd,ih]
  ·exact ih
theorem Mu{g:α->α->Bool}{g':β->β->Bool}(h:∀a b,g' (f a) (f b)=g a b)(l:List α):wE g' (l.map f)=(wE g l).map f:=by
 cases l with
 |nil=>rfl
 |cons x r=>
  simp only[apd,wE];rw[Et f h]
end
def aeM(c d:Cv):List Pt:=wE (λa b=>a8 a b==0) (uU (λa b=>decide (Dc c a b<0)) ((bif cC c d then [frC c,toC c,frC d,toC d]else gY c d).filter λp=>iN c p&&iN d p))
theorem QY{c d:BCU}(h1:c.2.2.2.2.1=enc (frC (dC c)))(h2:c.2.2.2.2.2=enc (toC (dC c)))(h3:d.2.2.2.2.1=enc (frC (dC d)))(h4:d.2.2.2.2.2=enc (toC (dC d))):iM c d=(aeM (dC c) (dC d)).map enc:=by
 have e:lX c d=(bif cC (dC c) (dC d)then [frC (dC c),toC (dC c),frC (dC d),toC (dC d)]else gY (dC c) (dC d)).map enc:=by
  unfold lX;cases cC (dC c) (dC d)
  ·rfl
  ·simp only[cond_true,apd,List.map_nil,<-h1,<-h2,<-h3,<-h4]
 unfold iM aeM du;rw[e,List.filter_map]
 have e2:(iu c d∘enc)=λp:Pt=>iN (dC c) p&&iN (dC d) p:=by
  funext p;show(iN (dC c) (dec (enc p))&&iN (dC d) (dec (enc p)))=_;rw[aA]
 rw[e2,N5 (f:=(enc:Pt->BP)) (lt:=λa b=>decide (Dc (dC c) a b<0)) (λa b=>by unfold ltP;rw[aA,aA]),Mu (f:=(enc:Pt->BP)) (g:=λa b=>a8 a b==0) (λa b=>by unfold iU;rw[aA,aA])]
abbrev uS1:Rat×Rat:=(Rat.divInt (-4) 2,Rat.divInt 1 2)
abbrev uS2:Rat×Rat:=(Rat.divInt 4 2,Rat.divInt 1 2)
def qS:Cv:=(false,(0,4,2),(0,0,0),false,atP uS1,atP uS2)
section
theorem bQ(n d:Int)(h:zX n d):Bd (Rat.divInt n d) 3:=Kb h.1 h.2.1 h.2.2
end
end
section
open Go.ChangeShapes Go.WideShapes Go.ChangeAt Go.WideMaps Go.WideElems Go.RowKit
theorem M2:ownKnob Tryz.prog.godebug=none:=by kernel_rfl
def Ty.ok:(t:Ty)->t.D->Prop
 |.int k,x=>(Lit.int k x).wf=true
 |.bool,_=>True
 |.str,_=>True
 |.sl e,xs=>xs.length<=9223372036854775807/\∀x∈xs,e.ok x
 |.pair a b,x=>a.ok x.1/\b.ok x.2
 |.st a,x=>a.ok x
def zs(rp:TypeId->Ty->Bool)(cells:TypeId->Nat):List Field->Ty->Nat->Bool
 |[],_,_=>false
 |[f],a,off=>rp f.type a&&Nat.beq f.offset off&&Nat.beq (cells f.type) a.n
 |f::g::fs,.pair a b,off=>rp f.type a&&Nat.beq f.offset off&&Nat.beq (cells f.type) a.n&&zs rp cells (g::fs) b (off+a.n)
 |_,_,_=>false
def Hx(rp:Ty->Bool)(n:Nat):Nat->Ty->Bool
 |0,_=>false
 |1,a=>rp a&&Nat.beq a.n n
 |k+2,.pair a b=>rp a&&Nat.beq a.n n&&Hx rp n (k+1) b
 |_,_=>false
def rep(P:Program):Nat->TypeId->Ty->Bool
 |0,_,_=>false
 |n+1,t,ty=>match P.underlying t,ty with
  |some (.int k),.int k'=>decide (k=k')
  |some .bool,.bool=>true
  |some .string,.str=>true
  |some (.slice e),.sl ety=>rep P n e ety&&Nat.beq (P.cellsOf e) ety.n&&Nat.ble 1 ety.n
  |some (.struct fs),.st a=>zs (rep P n) P.cellsOf fs.toList a 0&&Nat.beq (P.cellsOf t) a.n
  |some (.array k e),.st a=>Hx (rep P n e) (P.cellsOf e) k a&&Nat.beq (P.cellsOf t) a.n
  |_,_=>false
theorem VU{w:World}{a:Addr}{v:Value}(h:w.cell? a=some v):a.block<w.heap.size/\a.spot=none:=by
 unfold World.cell? at h;split at h
 ·rename_i hb;refine⟨(anc.1 hb).1,?_⟩;simp_all
 grind
theorem E8{α β:Type}{f:α->Option β}:∀{l:List α} {r:List β},l.mapM f=some r->r.length=l.length/\∀(j:Nat) (y:β),r[j]?=some y->∃x,l[j]?=some x/\f x=some y
 |[],r,h=>by simp at h;subst h;simp
 |x::l,r,h=>by
  rw[List.mapM_cons]at h;cases hx:f x with
  |none=>rw[hx]at h;simp at h
  |some y=>
   rw[hx]at h;cases hl:l.mapM f with
   |none=>rw[hl]at h;simp at h
   |some r'=>
    rw[hl]at h;obtain rfl:y::r'=r:=by simpa using h
    obtain⟨h1,h2⟩:=E8 hl;refine⟨by simp[h1],λj z hz=>?_⟩;cases j with
    |zero=>exact⟨x,rfl,by simpa [hx]using hz⟩
    |succ j=>obtain⟨u,h3,h4⟩:=h2 j z (by simpa using hz);exact⟨u,by simpa using h3,h4⟩
theorem Lb{w:World}{base n:Nat}{a:Addr}{l:List Value}(h:w.cells? base a n=some l):l.length=n/\∀(j:Nat) (v:Value),l[j]?=some v->w.cell? (a.add j)=some v:=by
 unfold World.cells? at h;split at h
 ·obtain⟨h1,h2⟩:=E8 h;grind
 grind
theorem PP{α β:Type}{n:Nat}{p:Nat->α->β->Prop}(h:∀i,i<n->∃s t,p i s t):∃(l:List α) (m:List β),l.length=n/\m.length=n/\∀i s t,l[i]?=some s->m[i]?=some t->p i s t:=by
 induction n with
 |zero=>exact⟨[],[],rfl,rfl,λi s t h=>by simp at h⟩
 |succ n ih=>
  obtain⟨l,m,h1,h2,h3⟩:=ih λi hi=>h i (by omega);obtain⟨s,t,hst⟩:=h n (by omega);refine⟨l++[s],m++[t],by simp[h1],by simp[h2],λi s' t' hs ht=>?_⟩;grind
section
variable {H:Type} {enc:TypeId×Value->H} {P:Program} {w:World} {base:Nat} {spare:Nat->Bool} {held:Bool}
def R1(enc:TypeId×Value->H)(P:Program)(w:World)(base:Nat)(spare:Nat->Bool)(held:Bool)(ty:Ty):Prop:=∀(n:Nat) (t:TypeId),rep P n t ty=true->∀(fuel:Nat) (cs:List Value) (x:DataW H×List MemPlace),cs.length=ty.n->DataW.trod enc P w base spare held fuel t cs=some x->∃y:ty.D,ty.rd (λ_=>True) w cs y/\ty.ok y
def R2(enc:TypeId×Value->H)(P:Program)(w:World)(base:Nat)(spare:Nat->Bool)(held:Bool)(ty:Ty):Prop:=∀(n:Nat) (fs:List Field) (off:Nat) (cs:List Value),zs (rep P n) P.cellsOf fs ty off=true->cs.length=ty.n->(∀f∈fs,off<=f.offset->∃fuel x,DataW.trod enc P w base spare held fuel f.type ((cs.drop (f.offset-off)).take (P.cellsOf f.type))=some x)->∃y:ty.D,ty.rd (λ_=>True) w cs y/\ty.ok y
def R3(enc:TypeId×Value->H)(P:Program)(w:World)(base:Nat)(spare:Nat->Bool)(held:Bool)(ty:Ty):Prop:=∀(n k:Nat) (e:TypeId) (cs:List Value),Hx (rep P n e) (P.cellsOf e) k ty=true->cs.length=ty.n->(∀i,i<k->∃fuel x,DataW.trod enc P w base spare held fuel e ((cs.drop (i*P.cellsOf e)).take (P.cellsOf e))=some x)->∃y:ty.D,ty.rd (λ_=>True) w cs y/\ty.ok y
theorem aj6{ty:Ty}(h1:R1 enc P w base spare held ty)(hp:∀(n:Nat) (f g:Field) (fs:List Field) (off:Nat) (cs:List Value),zs (rep P n) P.cellsOf (f::g::fs) ty off=true->cs.length=ty.n->(∀q∈f::g::fs,off<=q.offset->∃fuel x,DataW.trod enc P w base spare held fuel q.type ((cs.drop (q.offset-off)).take (P.cellsOf q.type))=some x)->∃y:ty.D,ty.rd (λ_=>True) w cs y/\ty.ok y):R2 enc P w base spare held ty:=by
 intro n fs off cs hr hl hf;match fs,hr,hf with
 |[f],hr,hf=>
  simp only[zs,am0]at hr;have ho:=am1 hr.1.2;have hc:=am1 hr.2;obtain⟨fuel,x,hx⟩:=hf f (by simp) (by omega);rw[ho,apt,hc,v9 _ _ hl]at hx;exact h1 n f.type hr.1.1 fuel cs x hl hx
 |f::g::fs,hr,hf=>exact hp n f g fs off cs hr hl hf
theorem akv{ty:Ty}(h1:R1 enc P w base spare held ty)(hp:∀(n k:Nat) (e:TypeId) (cs:List Value),Hx (rep P n e) (P.cellsOf e) (k+2) ty=true->cs.length=ty.n->(∀i,i<k+2->∃fuel x,DataW.trod enc P w base spare held fuel e ((cs.drop (i*P.cellsOf e)).take (P.cellsOf e))=some x)->∃y:ty.D,ty.rd (λ_=>True) w cs y/\ty.ok y):R3 enc P w base spare held ty:=by
 intro n k e cs hr hl hf;match k,hr,hf with
 |1,hr,hf=>
  simp only[Hx,am0]at hr;have hc:=am1 hr.2;obtain⟨fuel,x,hx⟩:=hf 0 (by omega);rw[Nat.zero_mul,<-hc,v9 _ _ hl]at hx;exact h1 n e hr.1 fuel cs x hl hx
 |k+2,hr,hf=>exact hp n k e cs hr hl hf
theorem TL:∀(ty:Ty),R1 enc P w base spare held ty/\R2 enc P w base spare held ty/\R3 enc P w base spare held ty:=by
 intro ty
 have qp:∀{ty:Ty},(∀a b,ty≠.pair a b)->R1 enc P w base spare held ty->R1 enc P w base spare held ty/\R2 enc P w base spare held ty/\R3 enc P w base spare held ty:=by
  intro ty hne h1;refine⟨h1,aj6 h1 λn f g fs off cs hr=>?_,akv h1 λn k e cs hr=>?_⟩
  ·cases ty<;>first|exact absurd rfl (hne _ _)|simp[zs]at hr
  ·cases ty<;>first|exact absurd rfl (hne _ _)|simp[Hx]at hr
 induction ty with
 |int k=>
  refine qp (λa b e=>by cases e) λn t hr fuel cs x hl hx=>?_;cases n with
  |zero=>simp[rep]at hr
  |succ n=>
   unfold rep at hr;split at hr<;>try (cases hr;done)
   all_goals rename_i hu he<;>cases he
   have:=amZ hr;subst this;obtain⟨m,rfl,_,hw⟩:=DataW.trod_int hu hx;exact⟨m,rfl,hw⟩
 |bool=>
  refine qp (λa b e=>by cases e) λn t hr fuel cs x hl hx=>?_;cases n with
  |zero=>simp[rep]at hr
  |succ n=>
   unfold rep at hr;split at hr<;>try (cases hr;done)
   all_goals rename_i hu he<;>cases he
   obtain⟨m,rfl,_⟩:=DataW.trod_bool hu hx;exact⟨m,rfl,trivial⟩
 |str=>
  refine qp (λa b e=>by cases e) λn t hr fuel cs x hl hx=>?_;cases n with
  |zero=>simp[rep]at hr
  |succ n=>
   unfold rep at hr;split at hr<;>try (cases hr;done)
   all_goals rename_i hu he<;>cases he
   cases fuel with
   |zero=>simp[DataW.trod]at hx
   |succ fuel=>
    unfold DataW.trod at hx;rw[hu]at hx;split at hx<;>simp_all;exact⟨_,rfl,trivial⟩
 |sl e ih=>
  refine qp (λa b e=>by cases e) λn t hr fuel cs x hl hx=>?_;cases n with
  |zero=>simp[rep]at hr
  |succ n=>
   unfold rep at hr;split at hr<;>try (cases hr;done)
   all_goals rename_i hu he<;>cases he
   simp only[am0]at hr;obtain⟨⟨r1,r2⟩,r3⟩:=hr;have hc:=am1 r2;have hn0:=am3 r3;rcases Deep.open_slice hu hx with⟨rfl,_⟩|⟨a,len,cap,m,nn,D,Pl,rfl,hb,hle,hcap,hm,_,hel⟩
   ·exact⟨[],zF,by simp,λx hx=>by simp at hx⟩
   ·have hlm:len<=m:=by rw[hm];split<;>omega
    have key:∀i,i<len->∃(l:List Value) (y:e.D),(e.rd (λ_=>True) w l y/\e.ok y)/\∀j v,l[j]?=some v->w.cell? ((a.add (i*e.n)).add j)=some v:=by
     intro i hi;obtain⟨cs',h1,h2⟩:=hel i (by omega);rw[hc]at h1;obtain⟨h3,h4⟩:=Lb h1;obtain⟨y,h5⟩:=ih.1 n _ r1 nn cs' _ h3 h2;exact⟨cs',y,h5,h4⟩
    obtain⟨css,ys,l1,l2,hk⟩:=PP key;have hall:cj (λl y=>e.rd (λ_=>True) w l y) css ys:=JU (by omega) λi l y h1 h2=>(hk i l y h1 h2).1.1;refine⟨ys,⟨some a,len,cap,css,rfl,l2,hle,hcap,hall,λh0=>?_⟩,by unfold maxLen at hcap;omega,λy hy=>?_⟩
    ·obtain⟨l0,hl0⟩:∃l,css[0]?=some l:=⟨_,amX (by omega)⟩
     obtain⟨y0,hy0,hrd0⟩:=jx hall 0 l0 hl0;have hlen0:=Ty.rd_len hrd0;obtain⟨v0,hv0⟩:∃v,l0[0]?=some v:=⟨_,amX (by omega)⟩
     have hc0:=(hk 0 l0 y0 hl0 hy0).2 0 v0 hv0;have e0:(a.add (0*e.n)).add 0=a:=by simp[Addr.add]
     rw[e0]at hc0;obtain⟨h1,h2⟩:=VU hc0;obtain⟨b,off,sp⟩:=a;dsimp only at h1 h2;subst h2;refine⟨b,off,rfl,trivial,h1,λi v hv=>?_⟩;have hls:=gL hall;have hi:i<css.flatten.length:=(am7.1 hv).1;rw[iL hls,l1]at hi;have hq:i/e.n<len:=Nat.div_lt_of_lt_mul (by rw[Nat.mul_comm];exact hi);obtain⟨l,hl⟩:∃l,css[i/e.n]?=some l:=⟨_,amX (by omega)⟩
     obtain⟨y,hy,hrd⟩:=jx hall _ l hl;have hmod:i%e.n<e.n:=apS _ hn0;obtain⟨u,hu'⟩:∃u,l[i%e.n]?=some u:=⟨_,amX (by rw[Ty.rd_len hrd];exact hmod)⟩
     have hfl:=mz hls hl hu';have hdm:i/e.n*e.n+i%e.n=i:=by rw[Nat.mul_comm];exact Nat.div_add_mod i e.n
     rw[hdm,hv]at hfl;injection hfl with hfl;subst hfl;have:=(hk _ l y hl hy).2 _ _ hu';rw[dX,dX]at this;rwa [aoY,hdm]at this
    ·obtain⟨i,hi,rfl⟩:=ape hy;obtain⟨l,hl,_⟩:=qD hall i _ (amX hi);exact(hk i l _ hl (amX hi)).1.2
 |st a ih=>
  refine qp (λa b e=>by cases e) λn t hr fuel cs x hl hx=>?_;cases n with
  |zero=>simp[rep]at hr
  |succ n=>
   unfold rep at hr;split at hr<;>try (cases hr;done)
   all_goals rename_i hu he<;>cases he
   ·simp only[am0]at hr;obtain⟨xs,k,rfl,_,_,hlen,hg⟩:=DataW.trod_struct hu hx;refine ih.2.1 n _ 0 cs hr.1 hl λf hf _=>?_;obtain⟨i,hi,rfl⟩:=ape hf;rename_i fs;have h1:=hg i _ (by rw[<-aoG];exact amX hi);obtain⟨y,hy⟩:∃y,xs[i]?=some y:=⟨_,amX (by rw[hlen];simpa using hi)⟩
    rw[hy]at h1;exact⟨k,y,by rw[Nat.sub_zero];exact h1⟩
   ·simp only[am0]at hr;obtain⟨xs,k,rfl,_,_,hlen,hg⟩:=DataW.trod_array hu hx;refine ih.2.2 n _ _ cs hr.1 hl λi hi=>?_;have h1:=hg i hi;obtain⟨y,hy⟩:∃y,xs[i]?=some y:=⟨_,amX (by rw[hlen];exact hi)⟩
    rw[hy]at h1;exact⟨k,y,h1⟩
 |pair a b iha ihb=>
  have h1:R1 enc P w base spare held (.pair a b):=by
   intro n t hr;cases n with
   |zero=>simp[rep]at hr
   |succ n=>
    unfold rep at hr;split at hr<;>first|(cases hr;done)|(rename_i he;cases he)
  have cut:∀{cs:List Value} {k m:Nat},cs.length=a.n+b.n->((cs.drop a.n).drop k).take m=(cs.drop (a.n+k)).take m:=λ_=>by rw[ap8]
  refine⟨h1,aj6 h1 λn f g fs off cs hr hl hf=>?_,akv h1 λn k e cs hr hl hf=>?_⟩
  ·simp only[zs,am0]at hr;obtain⟨⟨⟨r1,r2⟩,r3⟩,r4⟩:=hr;have ho:=am1 r2;have hc:=am1 r3;simp only[Ty.n]at hl;obtain⟨fuel,x,hx⟩:=hf f (by simp) (by omega);rw[ho,apt,hc,aoD]at hx;obtain⟨y1,k1,k2⟩:=iha.1 n f.type r1 fuel (cs.take a.n) x (by simp;omega) hx
   obtain⟨y2,k3,k4⟩:=ihb.2.1 n (g::fs) (off+a.n) (cs.drop a.n) r4 (by simp;omega) λq hq hle=>by
    obtain⟨fuel,x,hx⟩:=hf q (by simp only[ane]at hq ⊢;exact .inr hq) (by omega);refine⟨fuel,x,?_⟩;rw[ap8,show a.n+(q.offset-(off+a.n))=q.offset-off by omega];exact hx
   exact⟨(y1,y2),⟨_,_,(aol a.n cs).symm,k1,k3⟩,k2,k4⟩
  ·simp only[Hx,am0]at hr;obtain⟨⟨r1,r2⟩,r3⟩:=hr;have hc:=am1 r2;simp only[Ty.n]at hl;obtain⟨fuel,x,hx⟩:=hf 0 (by omega);rw[Nat.zero_mul,aoD,<-hc]at hx;obtain⟨y1,k1,k2⟩:=iha.1 n e r1 fuel (cs.take a.n) x (by simp;omega) hx
   obtain⟨y2,k3,k4⟩:=ihb.2.2 n (k+1) e (cs.drop a.n) r3 (by simp;omega) λi hi=>by
    obtain⟨fuel,x,hx⟩:=hf (i+1) (by omega);refine⟨fuel,x,?_⟩;rw[ap8,hc,show P.cellsOf e+i*P.cellsOf e=(i+1)*P.cellsOf e by rw[aoE];omega];exact hx
   exact⟨(y1,y2),⟨_,_,(aol a.n cs).symm,k1,k3⟩,k2,k4⟩
end
end
def ake:List En:=[enL F8]
def Yx(n:Int)(_k:KT):OLR:=og (decide (zX (i64.wrap n) (4:Int))) (some [RV.d tR (hid (ao (Rat.divInt (i64.wrap n) (4:Int))))])
def ajc:Cn 16 [(.int .i8)]:=cn λ(n:Int)=>lf (i8P n) [.d tR (ao (Rat.divInt n 4))] λh=>by
 refine aB ake (Yx n) ⟨0,?_⟩;obtain⟨h1,h2⟩:=h;unfold Yx;rw[aV (x:=n) (by omega) (by omega),dT (show zX n 4 from⟨⟨by omega,by omega⟩,⟨by omega,by omega⟩,by omega⟩)];simp only[bL]
theorem yd{n:Int}(h:i8P n):Bd (Rat.divInt n 4) 3:=Kb (n:=n) (d:=4) (by obtain⟨h1,h2⟩:=h;exact⟨by omega,by omega⟩) (by decide) (by decide)
theorem sh{n:Int}(h:Ty.ok (.int .i8) n):i8P n:=bounds_i8 h
theorem SO{n:Int}(h:Ty.ok (.int .u8) n):u8P n:=bounds_u8 h
theorem aaP{x:Dr}(h:Ty.ok tDr x):Bq x:=⟨SO h.1,SO h.2.1,sh h.2.2.1,sh h.2.2.2.1,sh h.2.2.2.2.1,sh h.2.2.2.2.2.1,sh h.2.2.2.2.2.2.1,sh h.2.2.2.2.2.2.2⟩
theorem PV{x:Pce}(h:Ty.ok yn x):zV x:=⟨aaP h.1,aaP h.2.1,SO h.2.2⟩
theorem TA{n:Int}(h:i8P n){k:Nat}(hk:3<=k)(hk':k<=480000):ok Rat k (ao (Rat.divInt n 4)):=by
 have:=yd h;exact amZ (okd (x:=Rat.divInt n 4) hk hk')
def B0:List En:=[⟨54,gi,eg⟩,⟨125,jh,fE⟩,⟨67,iA,fi⟩,⟨132,jw,fO⟩,⟨65,je,fH⟩,⟨133,lU,ib⟩,enT PJ]
def aec:NT:=[((233,6),{keep:=[4,5,6,7,18,19,20],hl:=5})]
def Tr:Ctx:=CX (ens B0) aec
def B8(d p q r:BR)(s20:Int):Cfg:=⟨233,[.blk 0,.seq 25],[(4,.box 0 0),(5,.box 1 0),(6,.box 2 0),(7,.box 3 0),(18,.own 4),(19,SI (([d,p,q,r]).length:Int)),(20,SI s20)],[.box 31 [SB d.1.1,.d aqg d.1.2,SB d.2.1,.d aqg d.2.2],.box 31 [SB p.1.1,.d aqg p.1.2,SB p.2.1,.d aqg p.2.2],.box 31 [SB q.1.1,.d aqg q.1.2,SB q.2.1,.d aqg q.2.2],.box 31 [SB r.1.1,.d aqg r.1.2,SB r.2.1,.d aqg r.2.2],.row 31 tR ([d,p,q,r])],0,[]⟩
def ajG(d p q r:BR)(k:KT):OLR:=k 6 (B8 d p q r 0)
theorem afP(d p q r:BR):RS Tr 233 [.d tR d,.d tR p,.d tR q,.d tR r] (ajG d p q r):=rsX
def yZ(d p q r:BR)(s20:Int)(k:KT):OLR:=match decide (s20<(([d,p,q,r]).length:Int))with|true=>(match aT ([d,p,q,r]) s20 with|some _=>(match true,([d,p,q,r])[(s20).toNat]? with|true,some x1=>(og (o1 x1) (match decide ((aE (ah x1) 0)<0)with|true=>some [RV.d aqh 0,RV.d aqh 7]|false=>k 6 (B8 d p q r (i64.wrap (s20+1)))))|_,_=>none)|none=>none)|false=>(og (o2 d p) (og (o2 (hSu d p) q) (og (o2 r r) (og (o2 (hSu (hSu d p) q) (hMu r r)) (og (decide (aI ((-2):Int))) (og (o2 (hid (ao (((-2):Int):Rat))) r) (og (decide (aI ((-2):Int))) (og (decide (okQ (hSu (hSu (hSu d p) q) (hMu r r),(hMu (hid (ao (((-2):Int):Rat))) r,(hMu (hid (ao (((-2):Int):Rat))) r,(hid (ao (((-2):Int):Rat)),(p,q))))))) (some [RV.d aqh (sgQ (dec (hSu (hSu (hSu d p) q) (hMu r r),(hMu (hid (ao (((-2):Int):Rat))) r,(hMu (hid (ao (((-2):Int):Rat))) r,(hid (ao (((-2):Int):Rat)),(p,q))))))),RV.d aqh 0])))))))))
theorem DZ(d p q r:BR)(s20:Int):RN Tr 6 (B8 d p q r s20) (yZ d p q r s20):=rnX
theorem aid{d p q r:Rat}[bd:Bd d 2000][bp:Bd p 2000][bq:Bd q 2000][br:Bd r 2000](nd:0<=d)(np:0<=p)(nq:0<=q)(nr_:0<=r):∀(j i:Nat),i+j=4->Tr.Runs 6 (B8 (enc d) (enc p) (enc q) (enc r) (i:Int)) [.d aqh (oA d p q r),.d aqh (0:Int)]:=by
 have k2:decide (aI (-2))=true:=by decide
 have b2:Bd ((-2:Int):Rat) 3:=cN (n:= -2) (by decide);have b2':Bd (-2:Rat) 3:=b2;have e2:((-2:Int):Rat)= -2:=rfl;have n1:Nn p:=⟨np⟩
 have n2:Nn q:=⟨nq⟩
 have o1:decide (okQ (enc ((d-p-q-r*r,-2*r,-2*r,-2,p,q):Qd)))=true:=AA (by decide) (by decide) (by decide) (by decide) (by decide) (by decide)
 have hall:∀x∈[d,p,q,r],Bd x 2000/\0<=x:=by
  intro x hx;simp only[ane,aoi,apJ]at hx;rcases hx with e|e|e|e<;>subst e<;>constructor<;>assumption
 intro j;induction j with
 |zero=>
  intro i hi;refine DZ _ _ _ _ _ ⟨0,?_⟩;unfold yZ;rw[dF (show ¬(i:Int)<(([enc d,enc p,enc q,enc r]:List BR).length:Int) by simp;omega)];simp only[aU,Nat.reduceAdd,Nat.reduceLeDiff,k2,e2];show og (decide (okQ (enc ((d-p-q-r*r,-2*r,-2*r,-2,p,q):Qd)))) (some [RV.d aqh (sgQ (dec (enc ((d-p-q-r*r,-2*r,-2*r,-2,p,q):Qd)))),_])=_;rw[o1,aA];rfl
 |succ j ih=>
  intro i hi;have hil:i<[d,p,q,r].length:=by simp;omega
  obtain⟨n,hn⟩:=ih (i+1) (by omega);refine DZ _ _ _ _ _ ⟨n,?_⟩
  have g:([enc d,enc p,enc q,enc r]:List BR)[i]?=some (enc [d,p,q,r][i]):=by
   show(([d,p,q,r]:List Rat).map enc)[i]?=_;rw[an9,amX hil];rfl
  obtain⟨hb,hx⟩:=hall _ (anw hil);generalize [d,p,q,r][i]=x at*
  unfold yZ;rw[dT (show(i:Int)<(([enc d,enc p,enc q,enc r]:List BR).length:Int) by simp;omega),av,aoC,g,bW (by omega)];dsimp only;simp only[aU,Nat.reduceLeDiff,au,dF (show ¬x<0 by grind)];exact hn
def ajH:Cn 233 [tR,tR,tR,tR]:=cn λ(d p q r:BR)=>lf (n4P d p q r) [.d aqh (oA (ah d) (ah p) (ah q) (ah r)),.d aqh 0] λh=>by
 obtain⟨d,p,q,r,⟨rfl,rfl,rfl,rfl⟩,bd,bp,bq,br,nd,np,nq,nr_⟩:=XM h;have:=aid nd np nq nr_ 4 0 rfl;simp only[fd,ct];exact da B0 (afP _ _ _ _ this)
def abf(x y z r:BR)(_k:KT):OLR:=og (decide (aI (2:Int))) (og (o2 x y) (og (o2 (hAd x y) z) (og (o2 r r) (og (o2 (hSu (hAd x y) z) (hMu r r)) (og (o2 (hid (ao ((2:Int):Rat))) r) (og (o1 (hMu (hid (ao ((2:Int):Rat))) r)) (og (decide (aI (0:Int))) (og (o2 x y) (og (decide (okQ (hSu (hSu (hAd x y) z) (hMu r r),(hid (ao ((2:Int):Rat)),(hNe (hMu (hid (ao ((2:Int):Rat))) r),(hid (ao ((0:Int):Rat)),(hMu x y,z))))))) (some [RV.d aqh (sgQ (dec (hSu (hSu (hAd x y) z) (hMu r r),(hid (ao ((2:Int):Rat)),(hNe (hMu (hid (ao ((2:Int):Rat))) r),(hid (ao ((0:Int):Rat)),(hMu x y,z)))))))]))))))))))
def ajZ:Cn 136 [tR,tR,tR,tR]:=cn λ(x y z r:BR)=>lf (n4P x y z r) [.d aqh (sO (ah x) (ah y) (ah z) (ah r))] λh=>by
 refine aB B0 (abf x y z r) ⟨0,?_⟩;obtain⟨x,y,z,r,⟨rfl,rfl,rfl,rfl⟩,bx,b_,bz,br,nx,ny,nz,nr_⟩:=XM h;have i2:decide (aI 2)=true:=by decide
 have i0:decide (aI 0)=true:=by decide
 have b2:Bd ((2:Int):Rat) 3:=cN (n:=2) (by decide);have b0:Bd ((0:Int):Rat) 3:=cN (n:=0) (by decide);have b2':Bd (2:Rat) 3:=b2;have b0':Bd (0:Rat) 3:=b0;have e2:((2:Int):Rat)=2:=rfl;have e0:((0:Int):Rat)=0:=rfl;have n1:Nn (x*y):=⟨anh nx ny⟩
 have n2:Nn z:=⟨nz⟩
 have o1:decide (okQ (enc ((x+y-z-r*r,2,-(2*r),0,x*y,z):Qd)))=true:=AA (by decide) (by decide) (by decide) (by decide) (by decide) (by decide);unfold abf;simp only[aU,Nat.reduceAdd,Nat.reduceLeDiff,i2,i0,e2,e0];show og (decide (okQ (enc ((x+y-z-r*r,2,-(2*r),0,x*y,z):Qd)))) (some [RV.d aqh (sgQ (dec (enc ((x+y-z-r*r,2,-(2*r),0,x*y,z):Qd))))])=_;rw[o1,aA];rfl
def aej:List En:=enT ajH::B0
def ahP:Cn 135 [tR,tR,tR,tR]:=cn λ(x y z r:BR)=>lf (n4P x y z r) [.d aqh (oA (ah x) (ah y) (ah z) (ah r))] λh=>kB [RV.d aqh (oA (ah x) (ah y) (ah z) (ah r))] (dL aej) h
def aeK:List En:=[enL Rh,enT Jx,enL Jz,enT ahd]
def Z8(s a:BCU)(r:BR)(_k:KT):OLR:=og (decide (ok Ln 300 s.2.1/\ok (Rat×Rat) 200 (a.2.2.1.1,a.2.2.1.2.1)/\((dec s.2.1:Ln).1≠0\/(dec s.2.1:Ln).2.1≠0))) (og (decide (ok (Rat×Rat) 100000 (hid (enc (cQ (dec s.2.1) (dec (a.2.2.1.1,a.2.2.1.2.1))))))) (og (decide (okC 4000 s/\okP 4000 (hid (enc (atP (dec (hid (enc (cQ (dec s.2.1) (dec (a.2.2.1.1,a.2.2.1.2.1))))))))))) (match !(onP (dC s) (dec (hid (enc (atP (dec (hid (enc (cQ (dec s.2.1) (dec (a.2.2.1.1,a.2.2.1.2.1)))))))))))with|true=>some [RV.d aqh 1]|false=>(og (decide (okC 580 a/\ok (Rat×Rat) 200 (hid (enc (cQ (dec s.2.1) (dec (a.2.2.1.1,a.2.2.1.2.1)))))/\ok Rat 1000 r)) (some [RV.d aqh (kS (dC a) (dec (hid (enc (cQ (dec s.2.1) (dec (a.2.2.1.1,a.2.2.1.2.1)))))) (ah r))])))))
def ai0:Cn 57 [tCU,tCU,tR]:=cn λ(s a:BCU) (r:BR)=>lf (FU s a/\ok Rat 1000 r) [.d aqh (wC (dC s) (dC a) (ah r))] λh=>by
 refine aB aeK (Z8 s a r) ⟨0,?_⟩;obtain⟨⟨hs,ha,es,ea⟩,hr⟩:=h;have hF:=GS hs.2 ha.2 es ea;obtain⟨ar,li,ci,cw,fr,to⟩:=s;obtain⟨ar',li',ci',cw',fr',to'⟩:=a;simp only at es ea;subst es ea;obtain⟨l1,l2⟩:=hs.1.2.1 rfl;obtain⟨c1,c2⟩:=ha.1.1 rfl;simp only at l1 l2 c1 c2;obtain⟨li,rfl,bl⟩:=aD l1;obtain⟨ci',rfl,bc,qc⟩:=cL (ha.2.1 rfl);have bc':Bd (ctr ci') 200:=(inferInstance:Bd ((ci'.1,ci'.2.1):Rat×Rat) _).mono (by decide);have e0:((ao ci'.1,ao ci'.2.1):BV)=enc (ctr ci'):=rfl;rw[aA]at l2;simp only[ftv,dC,lnC,ciC,aA]at hF;unfold Z8 wC ftv u9;simp only[dC,lnC,ciC,aA];simp only[aU,Nat.reduceLeDiff,aL,e0,dT l2,dT (bZ (k:=4000) hs.1 (by decide) (by decide)),dT ha.1,dT hr];cases onP (false,li,dec ci,cw,dec fr,dec to) (atP (cQ li (ctr ci')))<;>rfl
def afd:List En:=[⟨65,je,fH⟩,⟨132,jw,fO⟩,⟨67,iA,fi⟩,⟨133,lU,ib⟩,⟨54,gi,eg⟩,enT ZU,enT ahP,enT ajZ]
def ZO(c d:BCU)(r:BR)(_k:KT):OLR:=let y1:=hSu d.2.2.1.1 c.2.2.1.1;let y2:=hSu d.2.2.1.2.1 c.2.2.1.2.1;let y3:=hAd (hMu y1 y1) (hMu y2 y2);let y4:=dec (hSu d.2.2.1.1 c.2.2.1.1,hSu d.2.2.1.2.1 c.2.2.1.2.1);let y5:=dec (hNe y1,hNe y2);let y6:=n4P y3 c.2.2.1.2.2 d.2.2.1.2.2 r;let y7:=n4P y3 d.2.2.1.2.2 c.2.2.1.2.2 r;let y8:=n4P c.2.2.1.2.2 y3 d.2.2.1.2.2 r;let y9:=n4P d.2.2.1.2.2 y3 c.2.2.1.2.2 r;let y10:=ah c.2.2.1.2.2;let y11:=ah d.2.2.1.2.2;let y12:=mn2 1 (mx2 (oA (ah y3) y10 y11 (ah r)) (sO y10 y11 (ah y3) (ah r)));let y13:=mx2 (sO (ah y3) y11 y10 (ah r)) (oA y10 (ah y3) y11 (ah r));let y14:=mx2 (sO (ah y3) y10 y11 (ah r)) (oA y11 (ah y3) y10 (ah r));let y15:OLR:=match decide (okC 580 c/\ok (Rat×Rat) 510 (hNe y1,hNe y2))with|true=>(match df (dC c) y5 with|true=>(og (decide (okC 580 d/\ok (Rat×Rat) 510 (hNe y1,hNe y2))) (match df (dC d) y5 with|true=>(og (decide y6) (og (decide y9) (some [RV.d aqh (mn2 1 y14)])))|false=>some [RV.d aqh 1]))|false=>some [RV.d aqh 1])|false=>none;og (o2 d.2.2.1.1 c.2.2.1.1) (og (o2 d.2.2.1.2.1 c.2.2.1.2.1) (og (o2 y1 y1) (og (o2 y2 y2) (og (o2 (hMu y1 y1) (hMu y2 y2)) (og (o1 y3) (match(aE (ah y3) 0)==0 with|true=>some [RV.d aqh 1]|false=>(og (o1 y1) (og (o1 y2) (og (decide (okC 580 c/\ok (Rat×Rat) 510 (hSu d.2.2.1.1 c.2.2.1.1,hSu d.2.2.1.2.1 c.2.2.1.2.1))) (match df (dC c) y4 with|true=>(og (decide (okC 580 d/\ok (Rat×Rat) 510 (hNe y1,hNe y2))) (match df (dC d) y5 with|true=>(og (decide y6) (og (decide (n4P c.2.2.1.2.2 d.2.2.1.2.2 y3 r)) (og (decide (okC 580 d/\ok (Rat×Rat) 510 (hSu d.2.2.1.1 c.2.2.1.1,hSu d.2.2.1.2.1 c.2.2.1.2.1))) (match df (dC d) y4 with|true=>(og (decide y7) (og (decide y8) (og (decide (okC 580 c/\ok (Rat×Rat) 510 (hNe y1,hNe y2))) (match df (dC c) y5 with|true=>(og (decide (okC 580 d/\ok (Rat×Rat) 510 (hNe y1,hNe y2))) (match df (dC d) y5 with|true=>(og (decide y6) (og (decide y9) (some [RV.d aqh (mn2 (mn2 y12 y13) y14)])))|false=>some [RV.d aqh (mn2 y12 y13)]))|false=>some [RV.d aqh (mn2 y12 y13)]))))|false=>(og (decide (okC 580 c/\ok (Rat×Rat) 510 (hNe y1,hNe y2))) (match df (dC c) y5 with|true=>(og (decide (okC 580 d/\ok (Rat×Rat) 510 (hNe y1,hNe y2))) (match df (dC d) y5 with|true=>(og (decide y6) (og (decide y9) (some [RV.d aqh (mn2 y12 y14)])))|false=>some [RV.d aqh y12]))|false=>some [RV.d aqh y12]))))))|false=>(og (decide (okC 580 d/\ok (Rat×Rat) 510 (hSu d.2.2.1.1 c.2.2.1.1,hSu d.2.2.1.2.1 c.2.2.1.2.1))) (match df (dC d) y4 with|true=>(og (decide y7) (og (decide y8) (og (decide (okC 580 c/\ok (Rat×Rat) 510 (hNe y1,hNe y2))) (match df (dC c) y5 with|true=>(og (decide (okC 580 d/\ok (Rat×Rat) 510 (hNe y1,hNe y2))) (match df (dC d) y5 with|true=>(og (decide y6) (og (decide y9) (some [RV.d aqh (mn2 (mn2 1 y13) y14)])))|false=>some [RV.d aqh (mn2 1 y13)]))|false=>some [RV.d aqh (mn2 1 y13)]))))|false=>y15))))|false=>y15))))))))))
def ahF:Cn 56 [tCU,tCU,tR]:=cn λ(c d:BCU) (r:BR)=>lf (Tt c d/\ok Rat 1000 r/\0<=ah r) [.d aqh (te (dC c) (dC d) (ah r))] λh=>by
 refine aB afd (ZO c d r) ⟨0,?_⟩;obtain⟨⟨hc,hd,ec,ed⟩,hr,nr_⟩:=h;obtain⟨ar,li,ci,cw,fr,to⟩:=c;obtain⟨ar',li',di,cw',fr',to'⟩:=d;simp only at ec ed;subst ec ed;have oc:decide (okC 580 _)=true:=dT hc.1;have od:decide (okC 580 _)=true:=dT hd.1;obtain⟨ci,rfl,bc,qc⟩:=cL (hc.2.1 rfl);obtain⟨di,rfl,bd,qd⟩:=cL (hd.2.1 rfl);obtain⟨r,rfl,br⟩:=aD hr;rw[fd,ct]at nr_;have n0:0<=aW (cD (ctr ci) (ctr di)) (cD (ctr ci) (ctr di)):=ju _;have bN:Bd (aW (cD (ctr ci) (ctr di)) (cD (ctr ci) (ctr di))) 100:=(inferInstance:Bd ((di.1-ci.1)*(di.1-ci.1)+(di.2.1-ci.2.1)*(di.2.1-ci.2.1)) _).mono (by decide);have e0:((ao (di.1-ci.1),ao (di.2.1-ci.2.1)):BV)=enc (cD (ctr ci) (ctr di)):=rfl;have e1:((ao (-(di.1-ci.1)),ao (-(di.2.1-ci.2.1))):BV)=enc (bkV (cD (ctr ci) (ctr di))):=rfl;have eN:(di.1-ci.1)*(di.1-ci.1)+(di.2.1-ci.2.1)*(di.2.1-ci.2.1)=aW (cD (ctr ci) (ctr di)) (cD (ctr ci) (ctr di)):=rfl;have bw:Bd (cD (ctr ci) (ctr di)) 20:=(inferInstance:Bd ((di.1-ci.1,di.2.1-ci.2.1):Rat×Rat) _).mono (by decide);have bb:Bd (bkV (cD (ctr ci) (ctr di))) 20:=(inferInstance:Bd ((-(di.1-ci.1),-(di.2.1-ci.2.1)):Rat×Rat) _).mono (by decide);have b0:Bd (di.1-ci.1) 10:=(inferInstance:Bd (di.1-ci.1) _).mono (by decide);have b1:Bd (di.2.1-ci.2.1) 10:=(inferInstance:Bd (di.2.1-ci.2.1) _).mono (by decide);have pc:0<=ci.2.2:=by grind
 have pd:0<=di.2.2:=by grind
 have k1:=(RM (i:=100) (j:=13) (k:=13) (l:=1000) (by decide) (by decide) (by decide) (by decide) n0 pc pd nr_)
 have k2:=(RM (i:=100) (j:=13) (k:=13) (l:=1000) (by decide) (by decide) (by decide) (by decide) n0 pd pc nr_)
 have k3:=(RM (i:=13) (j:=100) (k:=13) (l:=1000) (by decide) (by decide) (by decide) (by decide) pc n0 pd nr_)
 have k4:=(RM (i:=13) (j:=100) (k:=13) (l:=1000) (by decide) (by decide) (by decide) (by decide) pd n0 pc nr_)
 have k5:=(RM (i:=13) (j:=13) (k:=100) (l:=1000) (by decide) (by decide) (by decide) (by decide) pc pd n0 nr_)
 have sl:∀a b c d,oA a b c d<=1:=λa b c d=>Rs _;have bl:∀a b c d,sO a b c d<=1:=λa b c d=>Rs _;unfold ZO te nT fT nD wyv;simp only[aU,Nat.reduceAdd,Nat.reduceLeDiff,aq,e0,e1,eN,oc,od,k1,k2,k3,k4,k5,dC,ciC,Hn,aeq];have s1:=sl (aW (cD (ctr ci) (ctr di)) (cD (ctr ci) (ctr di))) ci.2.2 di.2.2 r;have s2:=sl ci.2.2 (aW (cD (ctr ci) (ctr di)) (cD (ctr ci) (ctr di))) di.2.2 r;have s3:=sl di.2.2 (aW (cD (ctr ci) (ctr di)) (cD (ctr ci) (ctr di))) ci.2.2 r;have s4:=bl ci.2.2 di.2.2 (aW (cD (ctr ci) (ctr di)) (cD (ctr ci) (ctr di))) r;have s5:=bl (aW (cD (ctr ci) (ctr di)) (cD (ctr ci) (ctr di))) di.2.2 ci.2.2 r;have s6:=bl (aW (cD (ctr ci) (ctr di)) (cD (ctr ci) (ctr di))) ci.2.2 di.2.2 r;cases decide (aW (cD (ctr ci) (ctr di)) (cD (ctr ci) (ctr di))=0)
 ·cases df (true,dec li,ci,cw,dec fr,dec to) (cD (ctr ci) (ctr di))<;>cases df (true,dec li,ci,cw,dec fr,dec to) (bkV (cD (ctr ci) (ctr di)))<;>cases df (true,dec li',di,cw',dec fr',dec to') (cD (ctr ci) (ctr di))<;>cases df (true,dec li',di,cw',dec fr',dec to') (bkV (cD (ctr ci) (ctr di)))<;>simp only[u9,cond_true,cond_false,Bool.and_true,Bool.and_false]<;>refine congrArg (λx:Int=>some [RV.d aqh x]) ?_<;>omega
 ·rfl
def aes:List En:=[⟨54,gi,eg⟩,enL ajg,enT akj,enT ahF,enT ai0]
def Zk(c d:BCU)(r:BR)(_k:KT):OLR:=let y1:OLR:=match decide (okR r)with|true=>some [RV.d aqh (i64.wrap (0-(aE (ah r) 0)))]|false=>none;let y2:=K3 (RE.poiE (dC d) (RE.pR (dec c.2.2.2.2.1)) (ah r)) (RE.poiE (dC d) (RE.pR (dec c.2.2.2.2.2)) (ah r)) (RE.poiE (dC c) (RE.pR (dec d.2.2.2.2.1)) (ah r)) (RE.poiE (dC c) (RE.pR (dec d.2.2.2.2.2)) (ah r));let y3:OLR:=match c.1 with|true=>(og (decide (FU d c/\ok Rat 1000 r)) (some [RV.d aqh (mn2 y2 (wC (dC d) (dC c) (ah r)))]))|false=>(match d.1 with|true=>(og (decide (FU c d/\ok Rat 1000 r)) (some [RV.d aqh (mn2 y2 (wC (dC c) (dC d) (ah r)))]))|false=>some [RV.d aqh y2]);og (o1 r) (match decide ((aE (ah r) 0)<0)with|true=>some [RV.d aqh 1]|false=>(og (decide (iO c d)) (match decide (((iM c d).length:Int)>0)with|true=>y1|false=>(match sN c d with|true=>y1|false=>(og (decide (okC 580 d/\okP 580 c.2.2.2.2.1/\ok Rat 1000 r)) (og (decide (okC 580 d/\okP 580 c.2.2.2.2.2/\ok Rat 1000 r)) (og (decide (okC 580 c/\okP 580 d.2.2.2.2.1/\ok Rat 1000 r)) (og (decide (okC 580 c/\okP 580 d.2.2.2.2.2/\ok Rat 1000 r)) (match c.1 with|true=>(match d.1 with|true=>(og (decide (Tt c d/\ok Rat 1000 r/\0<=ah r)) (some [RV.d aqh (mn2 y2 (te (dC c) (dC d) (ah r)))]))|false=>y3)|false=>y3)))))))))
def Si:Cn 17 [tCU,tCU,tR]:=cn λ(c d:BCU) (r:BR)=>lf (iO c d/\ok Rat 1000 r) [.d aqh (o0 c d (ah r))] λh=>by
 refine aB aes (Zk c d r) ⟨0,?_⟩;obtain⟨⟨mc,md⟩,hr⟩:=h;have c5:=bZ (k:=580) mc.1 (by decide) (by decide);have d5:=bZ (k:=580) md.1 (by decide) (by decide);obtain⟨r,rfl,br⟩:=aD hr
 have w:i64.wrap (0-aE r 0)= -aE r 0:=by
  have:=kI r 0;rw[aV (by omega) (by omega)];omega
 unfold Zk o0 SJ jg uM;simp only[aU,Nat.reduceLeDiff,au,Hn,Xa,dT (show iO c d from⟨mc,md⟩),dT c5,dT d5,dT c5.2.2.1,dT c5.2.2.2,dT d5.2.2.1,dT d5.2.2.2,w];by_cases h0:r<0
 ·rw[dT h0];rfl
 ·rw[dF h0];have hn:0<=r:=by grind
  cases decide (((iM c d).length:Int)>0)
  ·cases sN c d
   ·cases ea:c.1<;>cases eb:d.1
    ·simp only[dC,ea,eb];rfl
    ·simp only[dC,ea,eb,dT (show FU c d from⟨mc,md,ea,eb⟩)];rfl
    ·simp only[dC,ea,eb,dT (show FU d c from⟨md,mc,eb,ea⟩)];rfl
    ·simp only[dC,ea,eb,dT (show Tt c d from⟨mc,md,ea,eb⟩),dT hn];rfl
   ·rfl
  ·rfl
def KB(c:BCU)(l:List BCU)(r:BR):Prop:=mG c/\(∀x∈l,mG x)/\l.length<=1000000/\ok Rat 1000 r
instance (c:BCU) (l:List BCU) (r:BR):Decidable (KB c l r):=by unfold KB;infer_instance
def Dh(a b:List BCU)(r:BR):Prop:=(∀x∈a,mG x)/\(∀x∈b,mG x)/\a.length<=1000000/\b.length<=1000000/\ok Rat 1000 r
instance (a b:List BCU) (r:BR):Decidable (Dh a b r):=by unfold Dh;infer_instance
def nrZ(c:BCU)(r:Rat)(d:BCU):Bool:=decide (o0 c d r<0)
def GQ(c:BCU)(l:List BCU)(r:Rat):Bool:=!(l.any (nrZ c r))
def D6(f:BCU->Bool):List BCU->Int->Int
 |[],_=> -1
 |c::l,i=>bif f c then i else D6 f l (i+1)
def Cy(a b:List BCU)(r:Rat):Int:=D6 (λc=>!(GQ c b r)) a 0
def BU:List En:=[enT Si]
def acF:NT:=[((211,6),{keep:=[0,1,7,8],hl:=2}),((213,3),{keep:=[9],hl:=0}),((174,3),{keep:=[7],hl:=0}),((211,18),{keep:=[0,1,5,7,8,16],hl:=0})]
def Ts:Ctx:=CX (ens BU) acF
def oB(c:BCU)(l:List BCU)(r:BR)(s211_8:Int):Cfg:=⟨211,[.blk 0,.seq 25],[(0,.d (.sl tCU) l),(1,.clo 281 [0,1]),(7,SI (l.length:Int)),(8,SI s211_8)],[.box 39 [SB c.1,SB c.2.1.1.1.1,.d aqg c.2.1.1.1.2,SB c.2.1.1.2.1,.d aqg c.2.1.1.2.2,SB c.2.1.2.1.1.1,.d aqg c.2.1.2.1.1.2,SB c.2.1.2.1.2.1,.d aqg c.2.1.2.1.2.2,SB c.2.1.2.2.1.1,.d aqg c.2.1.2.2.1.2,SB c.2.1.2.2.2.1,.d aqg c.2.1.2.2.2.2,SB c.2.2.1.1.1.1,.d aqg c.2.2.1.1.1.2,SB c.2.2.1.1.2.1,.d aqg c.2.2.1.1.2.2,SB c.2.2.1.2.1.1.1,.d aqg c.2.2.1.2.1.1.2,SB c.2.2.1.2.1.2.1,.d aqg c.2.2.1.2.1.2.2,SB c.2.2.1.2.2.1.1,.d aqg c.2.2.1.2.2.1.2,SB c.2.2.1.2.2.2.1,.d aqg c.2.2.1.2.2.2.2,SB c.2.2.2.1,SB c.2.2.2.2.1.1.1.1,.d aqg c.2.2.2.2.1.1.1.2,SB c.2.2.2.2.1.1.2.1,.d aqg c.2.2.2.2.1.1.2.2,SB c.2.2.2.2.1.2.1.1.1,.d aqg c.2.2.2.2.1.2.1.1.2,SB c.2.2.2.2.1.2.1.2.1,.d aqg c.2.2.2.2.1.2.1.2.2,SB c.2.2.2.2.1.2.2.1.1.1,.d aqg c.2.2.2.2.1.2.2.1.1.2,SB c.2.2.2.2.1.2.2.1.2.1,.d aqg c.2.2.2.2.1.2.2.1.2.2,SB c.2.2.2.2.1.2.2.2.1.1.1,.d aqg c.2.2.2.2.1.2.2.2.1.1.2,SB c.2.2.2.2.1.2.2.2.1.2.1,.d aqg c.2.2.2.2.1.2.2.2.1.2.2,SB c.2.2.2.2.1.2.2.2.2.1.1,.d aqg c.2.2.2.2.1.2.2.2.2.1.2,SB c.2.2.2.2.1.2.2.2.2.2.1,.d aqg c.2.2.2.2.1.2.2.2.2.2.2,SB c.2.2.2.2.2.1.1.1,.d aqg c.2.2.2.2.2.1.1.2,SB c.2.2.2.2.2.1.2.1,.d aqg c.2.2.2.2.2.1.2.2,SB c.2.2.2.2.2.2.1.1.1,.d aqg c.2.2.2.2.2.2.1.1.2,SB c.2.2.2.2.2.2.1.2.1,.d aqg c.2.2.2.2.2.2.1.2.2,SB c.2.2.2.2.2.2.2.1.1.1,.d aqg c.2.2.2.2.2.2.2.1.1.2,SB c.2.2.2.2.2.2.2.1.2.1,.d aqg c.2.2.2.2.2.2.2.1.2.2,SB c.2.2.2.2.2.2.2.2.1.1.1,.d aqg c.2.2.2.2.2.2.2.2.1.1.2,SB c.2.2.2.2.2.2.2.2.1.2.1,.d aqg c.2.2.2.2.2.2.2.2.1.2.2,SB c.2.2.2.2.2.2.2.2.2.1.1,.d aqg c.2.2.2.2.2.2.2.2.2.1.2,SB c.2.2.2.2.2.2.2.2.2.2.1,.d aqg c.2.2.2.2.2.2.2.2.2.2.2],.box 31 [SB r.1.1,.d aqg r.1.2,SB r.2.1,.d aqg r.2.2]],2,[⟨174,[.seq 4],3,2,[],2,none⟩,⟨213,[.seq 4],3,2,[],0,none⟩]⟩
def afK(c:BCU)(l:List BCU)(r:BR)(k:KT):OLR:=k 6 (oB c l r 0)
theorem ahL(c:BCU)(l:List BCU)(r:BR):RS Ts 213 [.d tCU c,.d (.sl tCU) l,.d tR r] (afK c l r):=rsX
def oV(c:BCU)(l:List BCU)(r:BR)(s211_8:Int)(k:KT):OLR:=match decide (s211_8<(l.length:Int))with|true=>(match aT l s211_8 with|some x1=>(og (decide (iO c x1/\ok Rat 1000 r)) (match decide ((o0 c x1 (ah r))<0)with|true=>some [RV.d .bool (!(decide (s211_8>=0)))]|false=>k 6 (oB c l r (i64.wrap (s211_8+1)))))|none=>none)|false=>some [RV.d .bool (!(decide ((-1)>=0)))]
theorem um(c:BCU)(l:List BCU)(r:BR)(s211_8:Int):RN Ts 6 (oB c l r s211_8) (oV c l r s211_8):=rnX
theorem aiP(c:BCU)(l:List BCU)(r:BR)(h:KB c l r):∀(j i:Nat),i+j=l.length->Ts.Runs 6 (oB c l r (i:Int)) [.d .bool (!((l.drop i).any (nrZ c (ah r))))]:=by
 intro j;have hl:=h.2.2.1;induction j with
 |zero=>
  intro i hi;refine um _ _ _ _ ⟨0,?_⟩;unfold oV;rw[cd (by omega),qn (by omega)];rfl
 |succ j ih=>
  intro i hi;have hil:i<l.length:=by omega
  obtain⟨n,hn⟩:=ih (i+1) (by omega);refine um _ _ _ _ ⟨n,?_⟩;unfold oV;rw[bI hil,av,amX hil,ij hil,ap4,bW (by omega)];dsimp only;rw[dT (show iO c l[i]/\ok Rat 1000 r from⟨⟨h.1,h.2.1 _ (anw _)⟩,h.2.2.2⟩)];have e:nrZ c (ah r) l[i]=decide (o0 c l[i] (ah r)<0):=rfl;rw[e];cases decide (o0 c l[i] (ah r)<0)
  ·exact hn
  ·show some [RV.d .bool (!(decide ((i:Int)>=0)))]=_;rw[dT (show(i:Int)>=0 by omega)];rfl
def agf:Cn 213 [tCU,(.sl tCU),tR]:=cn λ(c:BCU) (l:List BCU) (r:BR)=>lf (KB c l r) [.d .bool (GQ c l (ah r))] λh=>by
 exact da BU (ahL _ _ _ (aiP c l r h l.length 0 (anB _)))
def B3:List En:=enF agf::BU
def adh:NT:=[((211,6),{keep:=[0,1,7,8],hl:=2}),((116,3),{keep:=[9],hl:=0}),((211,18),{keep:=[0,1,5,7,8,16],hl:=0})]
def NX:Ctx:=CX (ens B3) adh
def oM(a b:List BCU)(r:BR)(s211_8:Int):Cfg:=⟨211,[.blk 0,.seq 25],[(0,.d (.sl tCU) a),(1,.clo 212 [0,1]),(7,SI (a.length:Int)),(8,SI s211_8)],[.box 46 [.d (.sl tCU) b],.box 31 [SB r.1.1,.d aqg r.1.2,SB r.2.1,.d aqg r.2.2]],2,[⟨116,[.seq 4],3,2,[],0,none⟩]⟩
def ajw(a b:List BCU)(r:BR)(k:KT):OLR:=k 6 (oM a b r 0)
theorem ai4(a b:List BCU)(r:BR):RS NX 116 [.d (.sl tCU) a,.d (.sl tCU) b,.d tR r] (ajw a b r):=rsX
def pi(a b:List BCU)(r:BR)(s211_8:Int)(k:KT):OLR:=match decide (s211_8<(a.length:Int))with|true=>(match aT a s211_8 with|some x1=>(og (decide (KB x1 b r)) (match !(GQ x1 b (ah r))with|true=>some [RV.d aqh s211_8]|false=>k 6 (oM a b r (i64.wrap (s211_8+1)))))|none=>none)|false=>some [RV.d aqh (-1)]
theorem uw(a b:List BCU)(r:BR)(s211_8:Int):RN NX 6 (oM a b r s211_8) (pi a b r s211_8):=rnX
theorem afw(a b:List BCU)(r:BR)(h:Dh a b r):∀(j i:Nat),i+j=a.length->NX.Runs 6 (oM a b r (i:Int)) [.d aqh (D6 (λc=>!(GQ c b (ah r))) (a.drop i) (i:Int))]:=by
 intro j;have hl:=h.2.2.1;induction j with
 |zero=>
  intro i hi;refine uw _ _ _ _ ⟨0,?_⟩;unfold pi;rw[cd (by omega),qn (by omega)];rfl
 |succ j ih=>
  intro i hi;have hil:i<a.length:=by omega
  obtain⟨n,hn⟩:=ih (i+1) (by omega);refine uw _ _ _ _ ⟨n,?_⟩;unfold pi;rw[bI hil,av,amX hil,ij hil,bW (by omega)];dsimp only;rw[dT (show KB a[i] b r from⟨h.1 _ (anw _),h.2.1,h.2.2.2.1,h.2.2.2.2⟩)];unfold D6;cases GQ a[i] b (ah r)
  ·rfl
  ·exact hn
def ajW:Cn 116 [(.sl tCU),(.sl tCU),tR]:=cn λ(a b:List BCU) (r:BR)=>lf (Dh a b r) [.d aqh (Cy a b (ah r))] λh=>by
 exact da B3 (ai4 _ _ _ (afw a b r h a.length 0 (anB _)))
def U6:List En:=enF ajW::B3
def aiN:Cn 53 [(.sl tCU),(.sl tCU),tR]:=cn λ(a b:List BCU) (r:BR)=>lf (Dh a b r) [.d .bool (decide (Cy a b (ah r)<0))] λh=>kB [RV.d .bool (decide ((Cy a b (ah r))<0))] (dL U6) h
end Go.Proofs.YtagbmoohboleaaaGreat
end
