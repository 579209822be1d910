/- Common points of curves: the program's contract of Meet. -/
import Derived.Test.YtnkndpoojnflmaaGreatF17
import Derived.Test.YtnkndpoojnflmaaGreatF16
import Derived.Test.YtnkndpoojnflmaaGreatF15
import Derived.Test.YtnkndpoojnflmaaGreatF6
import Derived.ProofKit
import Derived.OpenShut
import Derived.ChangeSame
import Derived.Deep.Slices
import Derived.Test.YtnkndpoojnflmaaGreatF14
import Derived.Test.YtnkndpoojnflmaaGreatF13
noncomputable section
namespace Go.Proofs.YtnkndpoojnflmaaGreat
open Go.RowKit Go.IntKind
section
theorem CP{c d:BCU}(h:gU c d):(iO c d).length≤4∧∀x∈iO c d,okP 4000 x:=by
 obtain⟨⟨h1,h2⟩,h3,h4⟩:=h;have up:∀{k x},okP k x→k≤4000→okP 4000 x:=fun h hk=>cN h hk (by decide);unfold iO;cases hs:cX (dC c) (dC d)
 ·refine⟨?_,fun x hx=>?_⟩
  ·simp only[cond_false,aoO];have:∀l c,[BdL l]→[BdC c]→(kX l c).length≤4:=fun l c _ _=>ank tu.1 (by decide);obtain⟨c1,c2⟩:=jU h2;obtain⟨d1,d2⟩:=jU h4;have ec:(dC c).1=c.1:=rfl;have ed:(dC d).1=d.1:=rfl;unfold gr;rw[ec,ed];cases ha:c.1<;>cases hb:d.1
   ·have i1:=(c2 ha).1;have i2:=(d2 hb).1;exact ank wD.1 (by decide)
   ·have i1:=(c2 ha).1;have i2:=(d1 hb).1;exact this _ _
   ·have i1:=(c1 ha).1;have i2:=(d2 hb).1;exact this _ _
   ·have i1:=(c1 ha).1;have i2:=(d1 hb).1;show(rR _ _).length≤4;unfold rR;cases hq:gY (ciC (dC c)) (ciC (dC d))
    ·have i3:BdL (ng (ciC (dC c)) (ciC (dC d))):=yu;exact this _ _
    ·exact apz _
  ·obtain⟨p,hp,rfl⟩:=an8.1 hx;obtain⟨b,r,_,_⟩:=RE.supM_on h2 h4 hp;exact am8 (aJ (j:=1200) (by decide) (by decide))
 ·refine⟨by simp,fun x hx=>?_⟩;have:x=c.2.2.2.2.1∨x=c.2.2.2.2.2∨x=d.2.2.2.2.1∨x=d.2.2.2.2.2:=by simpa using hx
  rcases this with e|e|e|e<;>rw[e]
  ·exact up h1.2.2.1 (by decide)
  ·exact up h1.2.2.2 (by decide)
  ·exact up h3.2.2.1 (by decide)
  ·exact up h3.2.2.2 (by decide)
theorem Iw{α:Type}(z:α)(L T:List α):((jC z ((L.length:Int).toNat) ((((L++T).length:Int)).toNat-(L.length:Int).toNat) (L++T)).drop ((0:Int).toNat)).take ((L.length:Int).toNat-(0:Int).toNat)=L∧
  L.length≤(jC z ((L.length:Int).toNat) ((((L++T).length:Int)).toNat-(L.length:Int).toNat) (L++T)).length:=by
 have hcl:(jC z ((L.length:Int).toNat) ((((L++T).length:Int)).toNat-(L.length:Int).toNat) (L++T)).take L.length=L:=by
  unfold jC;rw[show((L.length:Int)).toNat=L.length by omega,anx,List.take_append_of_le_length (by simp),aqg,Nat.min_self,List.take_left' rfl]
 refine⟨?_,?_⟩
 ·rw[show((0:Int)).toNat=0 from rfl,aoK,show((L.length:Int)).toNat-0=L.length by omega,hcl]
 ·have:=congrArg List.length hcl;rw[anR]at this;omega
def acS:Cn 84 [tCU,tCU]:=cn fun(a b:BCU)=>lf (gX a b∧cX (dC a) (dC b)=true) [.d .bool true] fun h=>by
 have e:CQq7 84 [.d tCU a,.d tCU b] [.d .bool (cX (dC a) (dC b))]:=(YT.g a b).h h.1;rw[h.2]at e;exact e
def O5:List En:=[enT acS,enT Sq,enL aa6,enK LU,enF Zy,enK Fr]
def Vc:NT:=[((188,6),{keep:=[0,1,7,8],hl:=4}),((86,16),{keep:=[0,1,5,6],hl:=4}),((42,11),{keep:=[2,3,26,28],hl:=0}),((86,3),{keep:=[0,1,10],hl:=0}),((188,18),{keep:=[0,1,5,7,8,16],hl:=0}),((86,28),{keep:=[0,1,5,6,7,28],hl:=0})]
def k9:Ctx:=CX (ens O5) Vc
def jL(c d:BCU)(s188_8:Int):Cfg:=⟨188,[.blk 0,.seq 25],[(0,.own 3),(1,.clo 88 [0,1]),(7,SI (([c.2.2.2.2.1,c.2.2.2.2.2,d.2.2.2.2.1,d.2.2.2.2.2]).length:Int)),(8,SI s188_8)],[.box 39 (Ty.split tCU c),.box 39 (Ty.split tCU d),.gone,.row 37 tP ([c.2.2.2.2.1,c.2.2.2.2.2,d.2.2.2.2.1,d.2.2.2.2.2])],4,[⟨86,[.seq 4],3,2,[(0,.own 3),(1,.clo 88 [0,1])],4,none⟩,⟨42,[.seq 12],11,3,[(2,.box 0 0),(3,.box 1 0),(26,.own 3)],0,none⟩]⟩
def dN(c d:BCU)(s86_5 s86_6:Int)(r86_3:List BP):Cfg:=⟨86,[.blk 0,.seq 35],[(0,.own 3),(1,.clo 88 [0,1]),(5,SI s86_5),(6,SI s86_6)],[.box 39 (Ty.split tCU c),.box 39 (Ty.split tCU d),.gone,.row 37 tP r86_3],4,[⟨42,[.seq 12],11,3,[(2,.box 0 0),(3,.box 1 0),(26,.own 3)],0,none⟩]⟩
def L4(c d:BCU)(k:KT):OLR:=match decide (gX c d∧cX (dC c) (dC d)=true)with|true=>(match decide (([c.2.2.2.2.1,c.2.2.2.2.2,d.2.2.2.2.1,d.2.2.2.2.2]).length≤100000)with|true=>k 6 (jL c d 0)|false=>none)|false=>none
theorem act(c d:BCU):RS k9 42 [.d tCU c,.d tCU d] (L4 c d):=rsX
def jv(c d:BCU)(s188_8:Int)(k:KT):OLR:=match decide (s188_8<(([c.2.2.2.2.1,c.2.2.2.2.2,d.2.2.2.2.1,d.2.2.2.2.2]).length:Int))with|true=>(match aU ([c.2.2.2.2.1,c.2.2.2.2.2,d.2.2.2.2.1,d.2.2.2.2.2]) s188_8 with|some _=>(match true,([c.2.2.2.2.1,c.2.2.2.2.2,d.2.2.2.2.1,d.2.2.2.2.2])[(s188_8).toNat]? with|true,some x1=>(match decide (okC 4000 c∧okP 4000 x1)with|true=>(match !(ii (dC c) (dec x1))with|true=>(match s188_8==(-1)with|true=>(match decide (lA c ([c.2.2.2.2.1,c.2.2.2.2.2,d.2.2.2.2.1,d.2.2.2.2.2]))with|true=>(match decide (gX c d∧cX (dC c) (dC d)=true)with|true=>(match decide (wL c d (dh (dC c) ([c.2.2.2.2.1,c.2.2.2.2.2,d.2.2.2.2.1,d.2.2.2.2.2])))with|true=>some [RV.d (.sl tP) (dh (dC c) ([c.2.2.2.2.1,c.2.2.2.2.2,d.2.2.2.2.1,d.2.2.2.2.2])),RV.d .bool (yA c d (dh (dC c) ([c.2.2.2.2.1,c.2.2.2.2.2,d.2.2.2.2.1,d.2.2.2.2.2])))]|false=>none)|false=>none)|false=>none)|false=>k 16 (dN c d s188_8 (i64.wrap (s188_8+1)) ([c.2.2.2.2.1,c.2.2.2.2.2,d.2.2.2.2.1,d.2.2.2.2.2])))|false=>(match decide (okC 4000 d∧okP 4000 x1)with|true=>(match !(ii (dC d) (dec x1))with|true=>(match s188_8==(-1)with|true=>(match decide (lA c ([c.2.2.2.2.1,c.2.2.2.2.2,d.2.2.2.2.1,d.2.2.2.2.2]))with|true=>(match decide (gX c d∧cX (dC c) (dC d)=true)with|true=>(match decide (wL c d (dh (dC c) ([c.2.2.2.2.1,c.2.2.2.2.2,d.2.2.2.2.1,d.2.2.2.2.2])))with|true=>some [RV.d (.sl tP) (dh (dC c) ([c.2.2.2.2.1,c.2.2.2.2.2,d.2.2.2.2.1,d.2.2.2.2.2])),RV.d .bool (yA c d (dh (dC c) ([c.2.2.2.2.1,c.2.2.2.2.2,d.2.2.2.2.1,d.2.2.2.2.2])))]|false=>none)|false=>none)|false=>none)|false=>k 16 (dN c d s188_8 (i64.wrap (s188_8+1)) ([c.2.2.2.2.1,c.2.2.2.2.2,d.2.2.2.2.1,d.2.2.2.2.2])))|false=>k 6 (jL c d (i64.wrap (s188_8+1))))|false=>none))|false=>none)|_,_=>none)|none=>none)|false=>(match(-1)==(-1)with|true=>(match decide (lA c ([c.2.2.2.2.1,c.2.2.2.2.2,d.2.2.2.2.1,d.2.2.2.2.2]))with|true=>(match decide (gX c d∧cX (dC c) (dC d)=true)with|true=>(match decide (wL c d (dh (dC c) ([c.2.2.2.2.1,c.2.2.2.2.2,d.2.2.2.2.1,d.2.2.2.2.2])))with|true=>some [RV.d (.sl tP) (dh (dC c) ([c.2.2.2.2.1,c.2.2.2.2.2,d.2.2.2.2.1,d.2.2.2.2.2])),RV.d .bool (yA c d (dh (dC c) ([c.2.2.2.2.1,c.2.2.2.2.2,d.2.2.2.2.1,d.2.2.2.2.2])))]|false=>none)|false=>none)|false=>none)|false=>k 16 (dN c d (-1) (i64.wrap ((-1)+1)) ([c.2.2.2.2.1,c.2.2.2.2.2,d.2.2.2.2.1,d.2.2.2.2.2])))
theorem ma(c d:BCU)(s188_8:Int):RN k9 6 (jL c d s188_8) (jv c d s188_8):=rnX
def jq(c d:BCU)(s86_5 s86_6:Int)(r86_3:List BP)(k:KT):OLR:=match decide (s86_6<(r86_3.length:Int))with|true=>(match aU r86_3 s86_6 with|some _=>(match true,r86_3[(s86_6).toNat]? with|true,some x1=>(match decide (okC 4000 c∧okP 4000 x1)with|true=>(match !(ii (dC c) (dec x1))with|true=>k 16 (dN c d s86_5 (i64.wrap (s86_6+1)) r86_3)|false=>(match decide (okC 4000 d∧okP 4000 x1)with|true=>(match !(!(ii (dC d) (dec x1)))with|true=>(match aU r86_3 s86_5 with|some _=>(match true,r86_3[(s86_5).toNat]? with|true,some _=>k 16 (dN c d (i64.wrap (s86_5+1)) (i64.wrap (s86_6+1)) (r86_3.set ((s86_5).toNat) x1))|_,_=>none)|none=>none)|false=>k 16 (dN c d s86_5 (i64.wrap (s86_6+1)) r86_3))|false=>none))|false=>none)|_,_=>none)|none=>none)|false=>(match decide ((0:Int)≤s86_5∧s86_5≤(r86_3.length:Int)∧(r86_3.length:Int)≤(r86_3.length:Int))with|true=>(match decide ((0:Int)≤0∧0≤s86_5∧s86_5≤((jC (Ty.zero tP) ((s86_5:Int).toNat) (((r86_3.length:Int):Int).toNat-(s86_5:Int).toNat) r86_3).length:Int))with|true=>(match decide (lA c (((jC (Ty.zero tP) ((s86_5:Int).toNat) (((r86_3.length:Int):Int).toNat-(s86_5:Int).toNat) r86_3).drop ((0:Int).toNat)).take ((s86_5:Int).toNat-(0:Int).toNat)))with|true=>(match decide (gX c d∧cX (dC c) (dC d)=true)with|true=>(match decide (wL c d (dh (dC c) (((jC (Ty.zero tP) ((s86_5:Int).toNat) (((r86_3.length:Int):Int).toNat-(s86_5:Int).toNat) r86_3).drop ((0:Int).toNat)).take ((s86_5:Int).toNat-(0:Int).toNat))))with|true=>some [RV.d (.sl tP) (dh (dC c) (((jC (Ty.zero tP) ((s86_5:Int).toNat) (((r86_3.length:Int):Int).toNat-(s86_5:Int).toNat) r86_3).drop ((0:Int).toNat)).take ((s86_5:Int).toNat-(0:Int).toNat))),RV.d .bool (yA c d (dh (dC c) (((jC (Ty.zero tP) ((s86_5:Int).toNat) (((r86_3.length:Int):Int).toNat-(s86_5:Int).toNat) r86_3).drop ((0:Int).toNat)).take ((s86_5:Int).toNat-(0:Int).toNat))))]|false=>none)|false=>none)|false=>none)|false=>none)|false=>none)
theorem mg(c d:BCU)(s86_5 s86_6:Int)(r86_3:List BP):RN k9 16 (dN c d s86_5 s86_6 r86_3) (jq c d s86_5 s86_6 r86_3):=rnX
section
variable (c d:BCU) (h:gU c d) (hs:cX (dC c) (dC d)=true)
include h hs
theorem EO(L:List BP)(hl:L.length≤4)(ho:∀x∈L,okP 4000 x):(match decide (lA c L)with
  |true=>(match decide (gX c d∧cX (dC c) (dC d)=true)with
   |true=>(match decide (wL c d (dh (dC c) L))with|true=>some [RV.d (.sl tP) (dh (dC c) L),RV.d .bool (yA c d (dh (dC c) L))]|false=>none)
   |false=>none)
  |false=>none)=some [RV.d (.sl tP) (dh (dC c) L),RV.d .bool (yA c d (dh (dC c) L))]:=by
 have hc:okC 4000 c:=b8 h.1.1 (by decide) (by decide);have hd:okC 4000 d:=b8 h.2.1 (by decide) (by decide);have q:lA c L:=⟨hc,by omega,ho⟩
 have hn:(dh (dC c) L).length≤L.length:=o0;have _q2:wL c d (dh (dC c) L):=⟨⟨hc,by omega,fun x hx=>ho x (jO hx)⟩,hd⟩
 rw[dT q,dT (show gX c d∧cX (dC c) (dC d)=true from⟨⟨h.1.2,h.2.2⟩,hs⟩)];dsimp only;rw[dT _q2]
theorem xk:∀(S:List BP) (L J:List BP),J≠[]→(∀x∈L++(J++S),okP 4000 x)→(L++(J++S)).length≤4→
  k9.Runs 16 (dN c d (L.length:Int) ((L.length+J.length:Nat):Int) (L++(J++S))) [RV.d (.sl tP) (dh (dC c) (L++S.filter (gG c d))),RV.d .bool (yA c d (dh (dC c) (L++S.filter (gG c d))))]
 |[],L,J,hJ,hok,h4=>by
  have h4':L.length+J.length≤4:=by simpa using h4
  obtain⟨c1,c2⟩:=Iw (Ty.zero tP) L J;refine mg _ _ _ _ _ ⟨0,?_⟩;unfold jq;rw[anM,cd (by simp)];dsimp only;rw[dT (show(0:Int)≤(L.length:Int)∧(L.length:Int)≤((L++J).length:Int)∧((L++J).length:Int)≤((L++J).length:Int) by simp only[anJ];omega)];rw[dT (show(0:Int)≤0∧0≤(L.length:Int)∧(L.length:Int)≤((jC (Ty.zero tP) ((L.length:Int).toNat) ((((L++J).length:Int)).toNat-(L.length:Int).toNat) (L++J)).length:Int) by omega)];rw[c1,apO,anM];exact EO c d h hs L (by omega) fun x hx=>hok x (aoE _ hx)
 |q::S,L,J,hJ,hok,h4=>by
  have h4':L.length+(J.length+(S.length+1))≤4:=by simpa using h4
  have hc:okC 4000 c:=b8 h.1.1 (by decide) (by decide);have hd:okC 4000 d:=b8 h.2.1 (by decide) (by decide);have hq:okP 4000 q:=hok q (by simp)
  have g1:(L++(J++q::S))[L.length+J.length]?=some q:=by
   have:=nV (L++J) q S;rw[anJ,anx]at this;exact this
  obtain⟨y,T,rfl⟩:=List.exists_cons_of_ne_nil hJ;have g2:(L++(y::T++q::S))[L.length]?=some y:=nV L y (T++q::S)
  have hset:(L++(y::T++q::S)).set L.length q=(L++[q])++((T++[q])++S):=by
   have:=AJ y q (T++q::S) L;rw[show y::T++q::S=y::(T++q::S) from rfl,this];simp
  have e2:L++(y::T++q::S)=L++((y::T++[q])++S):=by simp
  have key:∀r n,(match gG c d q with
    |true=>k9.k n 16 (dN c d ((L.length+1:Nat):Int) ((L.length+(y::T).length+1:Nat):Int) ((L++[q])++((T++[q])++S)))
    |false=>k9.k n 16 (dN c d (L.length:Int) ((L.length+(y::T).length+1:Nat):Int) (L++(y::T++q::S))))=some r→
    jq c d (L.length:Int) ((L.length+(y::T).length:Nat):Int) (L++(y::T++q::S)) (k9.k n)=some r:=fun r n hk=>by
   unfold jq;rw[bG (by simp only[anJ,anp];omega),av,g1,show((L.length+(y::T).length:Nat):Int).toNat=L.length+(y::T).length by omega,g1];dsimp only;rw[dT (show okC 4000 c∧okP 4000 q from⟨hc,hq⟩),dT (show okC 4000 d∧okP 4000 q from⟨hd,hq⟩),bW (k:=L.length+(y::T).length) (by simp only[anp]at*;omega),bW (k:=L.length) (by omega),av,g2,show((L.length:Nat):Int).toNat=L.length by omega,g2,hset];unfold gG at hk;cases r1:ii (dC c) (dec q)<;>cases r2:ii (dC d) (dec q)<;>rw[r1,r2]at hk<;>exact hk
  rw[aoX];cases hk:gG c d q
  ·obtain⟨n,hn⟩:=xk S L (y::T++[q]) (by simp) (e2▸hok) (e2▸h4);refine mg _ _ _ _ _ ⟨n,key _ n ?_⟩;rw[hk,e2];rw[anJ,anu,←apb]at hn;exact hn
  ·obtain⟨n,hn⟩:=xk S (L++[q]) (T++[q]) (by simp) (fun x hx=>by
    simp only[aoe,ann,ao9,aqi]at hx;rcases hx with(hx|hx)|(hx|hx)|hx
    ·exact hok x (by simp[hx])
    ·rw[hx];exact hq
    ·exact hok x (by simp[hx])
    ·rw[hx];exact hq
    ·exact hok x (by simp[hx])) (by simp at h4 ⊢;omega)
   refine mg _ _ _ _ _ ⟨n,key _ n ?_⟩;rw[hk];have n1:(L++[q]).length=L.length+1:=by simp
   have n2:L.length+1+(T++[q]).length=L.length+(y::T).length+1:=by simp;omega
   rw[n1,n2,anx L [q] (S.filter (gG c d))]at hn;exact hn
theorem Iy(X:List BP)(hX:[c.2.2.2.2.1,c.2.2.2.2.2,d.2.2.2.2.1,d.2.2.2.2.2]=X)(h4:X.length≤4)(hok:∀x∈X,okP 4000 x):∀(S A:List BP),A++S=X→A.filter (gG c d)=A→
  k9.Runs 6 (jL c d (A.length:Int)) [RV.d (.sl tP) (dh (dC c) (A++S.filter (gG c d))),RV.d .bool (yA c d (dh (dC c) (A++S.filter (gG c d))))]
 |[],A,hA,hf=>by
  rw[anM]at hA;refine ma _ _ _ ⟨0,?_⟩;unfold jv;rw[hX,←hA,cd (by omega),apO,anM];exact EO c d h hs A (hA▸h4) (hA▸hok)
 |q::S,A,hA,hf=>by
  have hc:okC 4000 c:=b8 h.1.1 (by decide) (by decide);have hd:okC 4000 d:=b8 h.2.1 (by decide) (by decide);have hq:okP 4000 q:=hok q (by rw[←hA];simp);have g1:X[A.length]?=some q:=by rw[←hA];exact nV A q S
  have hlen:A.length<X.length:=by rw[←hA];simp
  have key:∀r n,(match gG c d q with
    |true=>k9.k n 6 (jL c d ((A.length+1:Nat):Int))
    |false=>k9.k n 16 (dN c d (A.length:Int) ((A.length+1:Nat):Int) X))=some r→
    jv c d (A.length:Int) (k9.k n)=some r:=fun r n hk=>by
   unfold jv;rw[hX,bG hlen,av,g1,show((A.length:Nat):Int).toNat=A.length by omega,g1];dsimp only;rw[dT (show okC 4000 c∧okP 4000 q from⟨hc,hq⟩),dT (show okC 4000 d∧okP 4000 q from⟨hd,hq⟩),bW (k:=A.length) (by omega),show((A.length:Int)== -1)=false by rw[apr];omega];unfold gG at hk;cases r1:ii (dC c) (dec q)<;>cases r2:ii (dC d) (dec q)<;>rw[r1,r2]at hk<;>exact hk
  rw[aoX];cases hk:gG c d q
  ·obtain⟨n,hn⟩:=xk c d h hs S A [q] (by simp) (by rw[aow,hA];exact hok) (by rw[aow,hA];exact h4);refine ma _ _ _ ⟨n,key _ n ?_⟩;rw[hk];rw[aow,hA]at hn;exact hn
  ·obtain⟨n,hn⟩:=Iy X hX h4 hok S (A++[q]) (by rw[anx];exact hA) (by rw[List.filter_append,hf,aoX,hk];rfl);refine ma _ _ _ ⟨n,key _ n ?_⟩;rw[hk];have n1:(A++[q]).length=A.length+1:=by simp
   rw[n1,anx A [q] (S.filter (gG c d))]at hn;exact hn
end
theorem Ms(c d:BCU)(h:gU c d)(hs:cX (dC c) (dC d)=true):CQq7 42 [.d tCU c,.d tCU d] [.d (.sl tP) (fq c d),.d .bool (oO c d)]:=by
 obtain⟨h4,ho⟩:=CP h;have e:iO c d=[c.2.2.2.2.1,c.2.2.2.2.2,d.2.2.2.2.1,d.2.2.2.2.2]:=by unfold iO;rw[hs];rfl
 rw[e]at h4 ho;obtain⟨n,hn⟩:=Iy c d h hs _ rfl h4 ho _ [] rfl rfl;have e2:fq c d=dh (dC c) (List.filter (gG c d) [c.2.2.2.2.1,c.2.2.2.2.2,d.2.2.2.2.1,d.2.2.2.2.2]):=by unfold fq;rw[e]
 have e3:oO c d=yA c d (dh (dC c) (List.filter (gG c d) [c.2.2.2.2.1,c.2.2.2.2.2,d.2.2.2.2.1,d.2.2.2.2.2])):=by unfold oO;rw[hs,e2];rfl
 rw[e2,e3];refine cY O5 (act _ _ ⟨n,?_⟩);unfold L4;rw[dT (show gX c d∧cX (dC c) (dC d)=true from⟨⟨h.1.2,h.2.2⟩,hs⟩)];dsimp only;rw[dT (ank h4 (by decide))];exact hn
def adt:Cn 84 [tCU,tCU]:=cn fun(a b:BCU)=>lf (gX a b∧cX (dC a) (dC b)=false) [.d .bool false] fun h=>by
 have e:CQq7 84 [.d tCU a,.d tCU b] [.d .bool (cX (dC a) (dC b))]:=(YT.g a b).h h.1;rw[h.2]at e;exact e
def NC:List En:=[enT adt,enT Sq,enL aa6,enK LU,enF Zy,enK Fr]
def Ta:NT:=[((188,6),{keep:=[0,1,7,8],hl:=3}),((86,16),{keep:=[0,1,5,6],hl:=3}),((42,11),{keep:=[2,3,26,28],hl:=0}),((86,3),{keep:=[0,1,10],hl:=0}),((188,18),{keep:=[0,1,5,7,8,16],hl:=0}),((86,28),{keep:=[0,1,5,6,7,28],hl:=0})]
def kU:Ctx:=CX (ens NC) Ta
def jw(c d:BCU)(s188_8:Int):Cfg:=⟨188,[.blk 0,.seq 25],[(0,.own 2),(1,.clo 88 [0,1]),(7,SI (((gr (dC c) (dC d)).map enc).length:Int)),(8,SI s188_8)],[.box 39 (Ty.split tCU c),.box 39 (Ty.split tCU d),.row 37 tP ((gr (dC c) (dC d)).map enc)],3,[⟨86,[.seq 4],3,2,[(0,.own 2),(1,.clo 88 [0,1])],3,none⟩,⟨42,[.seq 12],11,3,[(2,.box 0 0),(3,.box 1 0),(26,.own 2)],0,none⟩]⟩
def dP(c d:BCU)(s86_5 s86_6:Int)(r86_2:List BP):Cfg:=⟨86,[.blk 0,.seq 35],[(0,.own 2),(1,.clo 88 [0,1]),(5,SI s86_5),(6,SI s86_6)],[.box 39 (Ty.split tCU c),.box 39 (Ty.split tCU d),.row 37 tP r86_2],3,[⟨42,[.seq 12],11,3,[(2,.box 0 0),(3,.box 1 0),(26,.own 2)],0,none⟩]⟩
def PH(c d:BCU)(k:KT):OLR:=match decide (gX c d∧cX (dC c) (dC d)=false)with|true=>(match decide (gX c d)with|true=>(match decide (((gr (dC c) (dC d)).map enc).length≤100000)with|true=>k 6 (jw c d 0)|false=>none)|false=>none)|false=>none
theorem abl(c d:BCU):RS kU 42 [.d tCU c,.d tCU d] (PH c d):=rsX
def jd(c d:BCU)(s188_8:Int)(k:KT):OLR:=match decide (s188_8<(((gr (dC c) (dC d)).map enc).length:Int))with|true=>(match aU ((gr (dC c) (dC d)).map enc) s188_8 with|some _=>(match true,((gr (dC c) (dC d)).map enc)[(s188_8).toNat]? with|true,some x1=>(match decide (okC 4000 c∧okP 4000 x1)with|true=>(match !(ii (dC c) (dec x1))with|true=>(match s188_8==(-1)with|true=>(match decide (lA c ((gr (dC c) (dC d)).map enc))with|true=>(match decide (gX c d∧cX (dC c) (dC d)=false)with|true=>some [RV.d (.sl tP) (dh (dC c) ((gr (dC c) (dC d)).map enc)),RV.d .bool false]|false=>none)|false=>none)|false=>k 16 (dP c d s188_8 (i64.wrap (s188_8+1)) ((gr (dC c) (dC d)).map enc)))|false=>(match decide (okC 4000 d∧okP 4000 x1)with|true=>(match !(ii (dC d) (dec x1))with|true=>(match s188_8==(-1)with|true=>(match decide (lA c ((gr (dC c) (dC d)).map enc))with|true=>(match decide (gX c d∧cX (dC c) (dC d)=false)with|true=>some [RV.d (.sl tP) (dh (dC c) ((gr (dC c) (dC d)).map enc)),RV.d .bool false]|false=>none)|false=>none)|false=>k 16 (dP c d s188_8 (i64.wrap (s188_8+1)) ((gr (dC c) (dC d)).map enc)))|false=>k 6 (jw c d (i64.wrap (s188_8+1))))|false=>none))|false=>none)|_,_=>none)|none=>none)|false=>(match(-1)==(-1)with|true=>(match decide (lA c ((gr (dC c) (dC d)).map enc))with|true=>(match decide (gX c d∧cX (dC c) (dC d)=false)with|true=>some [RV.d (.sl tP) (dh (dC c) ((gr (dC c) (dC d)).map enc)),RV.d .bool false]|false=>none)|false=>none)|false=>k 16 (dP c d (-1) (i64.wrap ((-1)+1)) ((gr (dC c) (dC d)).map enc)))
theorem mi(c d:BCU)(s188_8:Int):RN kU 6 (jw c d s188_8) (jd c d s188_8):=rnX
def jg(c d:BCU)(s86_5 s86_6:Int)(r86_2:List BP)(k:KT):OLR:=match decide (s86_6<(r86_2.length:Int))with|true=>(match aU r86_2 s86_6 with|some _=>(match true,r86_2[(s86_6).toNat]? with|true,some x1=>(match decide (okC 4000 c∧okP 4000 x1)with|true=>(match !(ii (dC c) (dec x1))with|true=>k 16 (dP c d s86_5 (i64.wrap (s86_6+1)) r86_2)|false=>(match decide (okC 4000 d∧okP 4000 x1)with|true=>(match !(!(ii (dC d) (dec x1)))with|true=>(match aU r86_2 s86_5 with|some _=>(match true,r86_2[(s86_5).toNat]? with|true,some _=>k 16 (dP c d (i64.wrap (s86_5+1)) (i64.wrap (s86_6+1)) (r86_2.set ((s86_5).toNat) x1))|_,_=>none)|none=>none)|false=>k 16 (dP c d s86_5 (i64.wrap (s86_6+1)) r86_2))|false=>none))|false=>none)|_,_=>none)|none=>none)|false=>(match decide ((0:Int)≤s86_5∧s86_5≤(r86_2.length:Int)∧(r86_2.length:Int)≤(r86_2.length:Int))with|true=>(match decide ((0:Int)≤0∧0≤s86_5∧s86_5≤((jC (Ty.zero tP) ((s86_5:Int).toNat) (((r86_2.length:Int):Int).toNat-(s86_5:Int).toNat) r86_2).length:Int))with|true=>(match decide (lA c (((jC (Ty.zero tP) ((s86_5:Int).toNat) (((r86_2.length:Int):Int).toNat-(s86_5:Int).toNat) r86_2).drop ((0:Int).toNat)).take ((s86_5:Int).toNat-(0:Int).toNat)))with|true=>(match decide (gX c d∧cX (dC c) (dC d)=false)with|true=>some [RV.d (.sl tP) (dh (dC c) (((jC (Ty.zero tP) ((s86_5:Int).toNat) (((r86_2.length:Int):Int).toNat-(s86_5:Int).toNat) r86_2).drop ((0:Int).toNat)).take ((s86_5:Int).toNat-(0:Int).toNat))),RV.d .bool false]|false=>none)|false=>none)|false=>none)|false=>none)
theorem l4(c d:BCU)(s86_5 s86_6:Int)(r86_2:List BP):RN kU 16 (dP c d s86_5 s86_6 r86_2) (jg c d s86_5 s86_6 r86_2):=rnX
section
variable (c d:BCU) (h:gU c d) (hs:cX (dC c) (dC d)=false)
include h hs
theorem EI(L:List BP)(hl:L.length≤4)(ho:∀x∈L,okP 4000 x):(match decide (lA c L)with
  |true=>(match decide (gX c d∧cX (dC c) (dC d)=false)with
   |true=>some [RV.d (.sl tP) (dh (dC c) L),RV.d .bool false]
   |false=>none)
  |false=>none)=some [RV.d (.sl tP) (dh (dC c) L),RV.d .bool (false)]:=by
 have hc:okC 4000 c:=b8 h.1.1 (by decide) (by decide);have hd:okC 4000 d:=b8 h.2.1 (by decide) (by decide);have q:lA c L:=⟨hc,by omega,ho⟩
 have hn:(dh (dC c) L).length≤L.length:=o0;have _q2:wL c d (dh (dC c) L):=⟨⟨hc,by omega,fun x hx=>ho x (jO hx)⟩,hd⟩
 rw[dT q,dT (show gX c d∧cX (dC c) (dC d)=false from⟨⟨h.1.2,h.2.2⟩,hs⟩)]
theorem xI:∀(S:List BP) (L J:List BP),J≠[]→(∀x∈L++(J++S),okP 4000 x)→(L++(J++S)).length≤4→
  kU.Runs 16 (dP c d (L.length:Int) ((L.length+J.length:Nat):Int) (L++(J++S))) [RV.d (.sl tP) (dh (dC c) (L++S.filter (gG c d))),RV.d .bool (false)]
 |[],L,J,hJ,hok,h4=>by
  have h4':L.length+J.length≤4:=by simpa using h4
  obtain⟨c1,c2⟩:=Iw (Ty.zero tP) L J;refine l4 _ _ _ _ _ ⟨0,?_⟩;unfold jg;rw[anM,cd (by simp)];dsimp only;rw[dT (show(0:Int)≤(L.length:Int)∧(L.length:Int)≤((L++J).length:Int)∧((L++J).length:Int)≤((L++J).length:Int) by simp only[anJ];omega)];rw[dT (show(0:Int)≤0∧0≤(L.length:Int)∧(L.length:Int)≤((jC (Ty.zero tP) ((L.length:Int).toNat) ((((L++J).length:Int)).toNat-(L.length:Int).toNat) (L++J)).length:Int) by omega)];rw[c1,apO,anM];exact EI c d h hs L (by omega) fun x hx=>hok x (aoE _ hx)
 |q::S,L,J,hJ,hok,h4=>by
  have h4':L.length+(J.length+(S.length+1))≤4:=by simpa using h4
  have hc:okC 4000 c:=b8 h.1.1 (by decide) (by decide);have hd:okC 4000 d:=b8 h.2.1 (by decide) (by decide);have hq:okP 4000 q:=hok q (by simp)
  have g1:(L++(J++q::S))[L.length+J.length]?=some q:=by
   have:=nV (L++J) q S;rw[anJ,anx]at this;exact this
  obtain⟨y,T,rfl⟩:=List.exists_cons_of_ne_nil hJ;have g2:(L++(y::T++q::S))[L.length]?=some y:=nV L y (T++q::S)
  have hset:(L++(y::T++q::S)).set L.length q=(L++[q])++((T++[q])++S):=by
   have:=AJ y q (T++q::S) L;rw[show y::T++q::S=y::(T++q::S) from rfl,this];simp
  have e2:L++(y::T++q::S)=L++((y::T++[q])++S):=by simp
  have key:∀r n,(match gG c d q with
    |true=>kU.k n 16 (dP c d ((L.length+1:Nat):Int) ((L.length+(y::T).length+1:Nat):Int) ((L++[q])++((T++[q])++S)))
    |false=>kU.k n 16 (dP c d (L.length:Int) ((L.length+(y::T).length+1:Nat):Int) (L++(y::T++q::S))))=some r→
    jg c d (L.length:Int) ((L.length+(y::T).length:Nat):Int) (L++(y::T++q::S)) (kU.k n)=some r:=fun r n hk=>by
   unfold jg;rw[bG (by simp only[anJ,anp];omega),av,g1,show((L.length+(y::T).length:Nat):Int).toNat=L.length+(y::T).length by omega,g1];dsimp only;rw[dT (show okC 4000 c∧okP 4000 q from⟨hc,hq⟩),dT (show okC 4000 d∧okP 4000 q from⟨hd,hq⟩),bW (k:=L.length+(y::T).length) (by simp only[anp]at*;omega),bW (k:=L.length) (by omega),av,g2,show((L.length:Nat):Int).toNat=L.length by omega,g2,hset];unfold gG at hk;cases r1:ii (dC c) (dec q)<;>cases r2:ii (dC d) (dec q)<;>rw[r1,r2]at hk<;>exact hk
  rw[aoX];cases hk:gG c d q
  ·obtain⟨n,hn⟩:=xI S L (y::T++[q]) (by simp) (e2▸hok) (e2▸h4);refine l4 _ _ _ _ _ ⟨n,key _ n ?_⟩;rw[hk,e2];rw[anJ,anu,←apb]at hn;exact hn
  ·obtain⟨n,hn⟩:=xI S (L++[q]) (T++[q]) (by simp) (fun x hx=>by
    simp only[aoe,ann,ao9,aqi]at hx;rcases hx with(hx|hx)|(hx|hx)|hx
    ·exact hok x (by simp[hx])
    ·rw[hx];exact hq
    ·exact hok x (by simp[hx])
    ·rw[hx];exact hq
    ·exact hok x (by simp[hx])) (by simp at h4 ⊢;omega)
   refine l4 _ _ _ _ _ ⟨n,key _ n ?_⟩;rw[hk];have n1:(L++[q]).length=L.length+1:=by simp
   have n2:L.length+1+(T++[q]).length=L.length+(y::T).length+1:=by simp;omega
   rw[n1,n2,anx L [q] (S.filter (gG c d))]at hn;exact hn
theorem HL(X:List BP)(hX:((gr (dC c) (dC d)).map enc)=X)(h4:X.length≤4)(hok:∀x∈X,okP 4000 x):∀(S A:List BP),A++S=X→A.filter (gG c d)=A→
  kU.Runs 6 (jw c d (A.length:Int)) [RV.d (.sl tP) (dh (dC c) (A++S.filter (gG c d))),RV.d .bool (false)]
 |[],A,hA,hf=>by
  rw[anM]at hA;refine mi _ _ _ ⟨0,?_⟩;unfold jd;rw[hX,←hA,cd (by omega),apO,anM];exact EI c d h hs A (hA▸h4) (hA▸hok)
 |q::S,A,hA,hf=>by
  have hc:okC 4000 c:=b8 h.1.1 (by decide) (by decide);have hd:okC 4000 d:=b8 h.2.1 (by decide) (by decide);have hq:okP 4000 q:=hok q (by rw[←hA];simp);have g1:X[A.length]?=some q:=by rw[←hA];exact nV A q S
  have hlen:A.length<X.length:=by rw[←hA];simp
  have key:∀r n,(match gG c d q with
    |true=>kU.k n 6 (jw c d ((A.length+1:Nat):Int))
    |false=>kU.k n 16 (dP c d (A.length:Int) ((A.length+1:Nat):Int) X))=some r→
    jd c d (A.length:Int) (kU.k n)=some r:=fun r n hk=>by
   unfold jd;rw[hX,bG hlen,av,g1,show((A.length:Nat):Int).toNat=A.length by omega,g1];dsimp only;rw[dT (show okC 4000 c∧okP 4000 q from⟨hc,hq⟩),dT (show okC 4000 d∧okP 4000 q from⟨hd,hq⟩),bW (k:=A.length) (by omega),show((A.length:Int)== -1)=false by rw[apr];omega];unfold gG at hk;cases r1:ii (dC c) (dec q)<;>cases r2:ii (dC d) (dec q)<;>rw[r1,r2]at hk<;>exact hk
  rw[aoX];cases hk:gG c d q
  ·obtain⟨n,hn⟩:=xI c d h hs S A [q] (by simp) (by rw[aow,hA];exact hok) (by rw[aow,hA];exact h4);refine mi _ _ _ ⟨n,key _ n ?_⟩;rw[hk];rw[aow,hA]at hn;exact hn
  ·obtain⟨n,hn⟩:=HL X hX h4 hok S (A++[q]) (by rw[anx];exact hA) (by rw[List.filter_append,hf,aoX,hk];rfl);refine mi _ _ _ ⟨n,key _ n ?_⟩;rw[hk];have n1:(A++[q]).length=A.length+1:=by simp
   rw[n1,anx A [q] (S.filter (gG c d))]at hn;exact hn
end
theorem PB(c d:BCU)(h:gU c d)(hs:cX (dC c) (dC d)=false):CQq7 42 [.d tCU c,.d tCU d] [.d (.sl tP) (fq c d),.d .bool (oO c d)]:=by
 obtain⟨h4,ho⟩:=CP h;have e:iO c d=((gr (dC c) (dC d)).map enc):=by unfold iO;rw[hs];rfl
 rw[e]at h4 ho;obtain⟨n,hn⟩:=HL c d h hs _ rfl h4 ho _ [] rfl rfl;have e2:fq c d=dh (dC c) (List.filter (gG c d) ((gr (dC c) (dC d)).map enc)):=by unfold fq;rw[e]
 have e3:oO c d=false:=by unfold oO;rw[hs,e2];rfl
 rw[e2,e3];refine cY NC (abl _ _ ⟨n,?_⟩);unfold PH;rw[dT (show gX c d∧cX (dC c) (dC d)=false from⟨⟨h.1.2,h.2.2⟩,hs⟩)];dsimp only;rw[dT (show gX c d from⟨h.1.2,h.2.2⟩)];dsimp only;rw[dT (ank h4 (by decide))];exact hn
def afe:Cn 42 [tCU,tCU]:=cn fun(c d:BCU)=>lf (gU c d) [.d (.sl tP) (fq c d),.d .bool (oO c d)] fun h=>by
 cases hs:cX (dC c) (dC d)
 ·exact PB c d h hs
 ·exact Ms c d h hs
end
section
open RE
theorem Uv{c d:BCU}(hc:gdN c)(hd:gdN d){x:BP}(hx:x∈fq c d):Spb (dC c) x∧Spb (dC d) x:=by
 obtain⟨_,_,s1,s2,_⟩:=pg hc hd hx;exact⟨s1,s2⟩
end
section
open RE
section
variable {α β:Type} (f:α→β)
theorem CU{lt:α→α→Bool}{lt':β→β→Bool}(h:∀a b,lt' (f a) (f b)=lt a b)(a:α):∀r:List α,lw lt' (r.map f) (f a)=(lw lt r a).map f
 |[]=>rfl
 |b::r=>by
  have ih:=CU h a r;simp only[apm,lw,h];cases lt a b
  ·rfl
  ·simp only[cond_true,apm,ih]
theorem Dl{lt:α→α→Bool}{lt':β→β→Bool}(h:∀a b,lt' (f a) (f b)=lt a b):∀(l r:List α),(l.map f).foldl (lw lt') (r.map f)=(l.foldl (lw lt) r).map f
 |[],_=>rfl
 |a::l,r=>by
  rw[apm,aoN,aoN,CU f h,Dl h]
theorem Rg{lt:α→α→Bool}{lt':β→β→Bool}(h:∀a b,lt' (f a) (f b)=lt a b)(l:List α):tc lt' (l.map f)=(tc lt l).map f:=by
 unfold tc;have:=Dl f h l [];rw[List.map_nil]at this;rw[this,List.map_reverse]
theorem Ez{g:α→α→Bool}{g':β→β→Bool}(h:∀a b,g' (f a) (f b)=g a b):∀(l:List α) (p:α),jZ g' (f p) (l.map f)=(jZ g p l).map f
 |[],_=>rfl
 |q::r,p=>by
  have ih:=Ez h r q;simp only[apm,jZ,h];cases g q p
  ·simp only[cond_false,apm,ih]
  ·exact ih
theorem M6{g:α→α→Bool}{g':β→β→Bool}(h:∀a b,g' (f a) (f b)=g a b)(l:List α):vP g' (l.map f)=(vP g l).map f:=by
 cases l with
 |nil=>rfl
 |cons x r=>
  simp only[apm,vP];rw[Ez f h]
end
def acU(c d:Cv):List Pt:=vP (fun a b=>aX a b==0) (tc (fun a b=>decide (BD c a b<0)) ((bif cX c d then [frC c,toC c,frC d,toC d]else gr c d).filter fun p=>ii c p&&ii d p))
theorem Qa{c d:BCU}(h1:c.2.2.2.2.1=enc (frC (dC c)))(h2:c.2.2.2.2.2=enc (toC (dC c)))(h3:d.2.2.2.2.1=enc (frC (dC d)))(h4:d.2.2.2.2.2=enc (toC (dC d))):fq c d=(acU (dC c) (dC d)).map enc:=by
 have e:iO c d=(bif cX (dC c) (dC d)then [frC (dC c),toC (dC c),frC (dC d),toC (dC d)]else gr (dC c) (dC d)).map enc:=by
  unfold iO;cases cX (dC c) (dC d)
  ·rfl
  ·simp only[cond_true,apm,List.map_nil,←h1,←h2,←h3,←h4]
 unfold fq acU dh;rw[e,List.filter_map]
 have e2:(gG c d∘enc)=fun p:Pt=>ii (dC c) p&&ii (dC d) p:=by
  funext p;show(ii (dC c) (dec (enc p))&&ii (dC d) (dec (enc p)))=_;rw[az]
 rw[e2,Rg (f:=(enc:Pt→BP)) (lt:=fun a b=>decide (BD (dC c) a b<0)) (fun a b=>by unfold ltP;rw[az,az]),M6 (f:=(enc:Pt→BP)) (g:=fun a b=>aX a b==0) (fun a b=>by unfold il;rw[az,az])]
abbrev uS1:Rat×Rat:=(Rat.divInt (-4) 2,Rat.divInt 1 2)
abbrev uS2:Rat×Rat:=(Rat.divInt 4 2,Rat.divInt 1 2)
def qS:Cv:=(false,(0,4,2),(0,0,0),false,atP uS1,atP uS2)
section
theorem bQ(n d:Int)(h:za n d):Bd (Rat.divInt n d) 3:=IQ h.1 h.2.1 h.2.2
end
end
section
open Go.ChangeShapes Go.WideShapes Go.ChangeAt Go.WideMaps Go.WideElems Go.RowKit
theorem Pz:ownKnob Tryz.prog.godebug=none:=by kernel_rfl
def Ty.ok:(t:Ty)→t.D→Prop
 |.int k,x=>(Lit.int k x).wf=true
 |.bool,_=>True
 |.str,_=>True
 |.sl e,xs=>xs.length≤9223372036854775807∧∀x∈xs,e.ok x
 |.pair a b,x=>a.ok x.1∧b.ok x.2
 |.st a,x=>a.ok x
def yF(rp:TypeId→Ty→Bool)(cells:TypeId→Nat):List Field→Ty→Nat→Bool
 |[],_,_=>false
 |[f],a,off=>rp f.type a&&Nat.beq f.offset off&&Nat.beq (cells f.type) a.n
 |f::g::fs,.pair a b,off=>rp f.type a&&Nat.beq f.offset off&&Nat.beq (cells f.type) a.n&&yF rp cells (g::fs) b (off+a.n)
 |_,_,_=>false
def Gt(rp:Ty→Bool)(n:Nat):Nat→Ty→Bool
 |0,_=>false
 |1,a=>rp a&&Nat.beq a.n n
 |k+2,.pair a b=>rp a&&Nat.beq a.n n&&Gt rp n (k+1) b
 |_,_=>false
def rep(P:Program):Nat→TypeId→Ty→Bool
 |0,_,_=>false
 |n+1,t,ty=>match P.underlying t,ty with
  |some (.int k),.int k'=>decide (k=k')
  |some .bool,.bool=>true
  |some .string,.str=>true
  |some (.slice e),.sl ety=>rep P n e ety&&Nat.beq (P.cellsOf e) ety.n&&Nat.ble 1 ety.n
  |some (.struct fs),.st a=>yF (rep P n) P.cellsOf fs.toList a 0&&Nat.beq (P.cellsOf t) a.n
  |some (.array k e),.st a=>Gt (rep P n e) (P.cellsOf e) k a&&Nat.beq (P.cellsOf t) a.n
  |_,_=>false
theorem Ul{w:World}{a:Addr}{v:Value}(h:w.cell? a=some v):a.block<w.heap.size∧a.spot=none:=by
 unfold World.cell? at h;split at h
 ·rename_i hb;refine⟨(anm.1 hb).1,?_⟩;simp_all
 grind
theorem Ew{α β:Type}{f:α→Option β}:∀{l:List α} {r:List β},l.mapM f=some r→r.length=l.length∧∀(j:Nat) (y:β),r[j]?=some y→∃x,l[j]?=some x∧f x=some y
 |[],r,h=>by simp at h;subst h;simp
 |x::l,r,h=>by
  rw[List.mapM_cons]at h;cases hx:f x with
  |none=>rw[hx]at h;simp at h
  |some y=>
   rw[hx]at h;cases hl:l.mapM f with
   |none=>rw[hl]at h;simp at h
   |some r'=>
    rw[hl]at h;obtain rfl:y::r'=r:=by simpa using h
    obtain⟨h1,h2⟩:=Ew hl;refine⟨by simp[h1],fun j z hz=>?_⟩;cases j with
    |zero=>exact⟨x,rfl,by simpa [hx]using hz⟩
    |succ j=>obtain⟨u,h3,h4⟩:=h2 j z (by simpa using hz);exact⟨u,by simpa using h3,h4⟩
theorem KV{w:World}{base n:Nat}{a:Addr}{l:List Value}(h:w.cells? base a n=some l):l.length=n∧∀(j:Nat) (v:Value),l[j]?=some v→w.cell? (a.add j)=some v:=by
 unfold World.cells? at h;split at h
 ·obtain⟨h1,h2⟩:=Ew h;grind
 grind
theorem PD{α β:Type}{n:Nat}{p:Nat→α→β→Prop}(h:∀i,i<n→∃s t,p i s t):∃(l:List α) (m:List β),l.length=n∧m.length=n∧∀i s t,l[i]?=some s→m[i]?=some t→p i s t:=by
 induction n with
 |zero=>exact⟨[],[],rfl,rfl,fun i s t h=>by simp at h⟩
 |succ n ih=>
  obtain⟨l,m,h1,h2,h3⟩:=ih fun i hi=>h i (by omega);obtain⟨s,t,hst⟩:=h n (by omega);refine⟨l++[s],m++[t],by simp[h1],by simp[h2],fun i s' t' hs ht=>?_⟩;grind
section
variable {H:Type} {enc:TypeId×Value→H} {P:Program} {w:World} {base:Nat} {spare:Nat→Bool} {held:Bool}
def R1(enc:TypeId×Value→H)(P:Program)(w:World)(base:Nat)(spare:Nat→Bool)(held:Bool)(ty:Ty):Prop:=∀(n:Nat) (t:TypeId),rep P n t ty=true→∀(fuel:Nat) (cs:List Value) (x:DataW H×List MemPlace),cs.length=ty.n→DataW.trod enc P w base spare held fuel t cs=some x→∃y:ty.D,ty.rd (fun _=>True) w cs y∧ty.ok y
def R2(enc:TypeId×Value→H)(P:Program)(w:World)(base:Nat)(spare:Nat→Bool)(held:Bool)(ty:Ty):Prop:=∀(n:Nat) (fs:List Field) (off:Nat) (cs:List Value),yF (rep P n) P.cellsOf fs ty off=true→cs.length=ty.n→(∀f∈fs,off≤f.offset→∃fuel x,DataW.trod enc P w base spare held fuel f.type ((cs.drop (f.offset-off)).take (P.cellsOf f.type))=some x)→∃y:ty.D,ty.rd (fun _=>True) w cs y∧ty.ok y
def R3(enc:TypeId×Value→H)(P:Program)(w:World)(base:Nat)(spare:Nat→Bool)(held:Bool)(ty:Ty):Prop:=∀(n k:Nat) (e:TypeId) (cs:List Value),Gt (rep P n e) (P.cellsOf e) k ty=true→cs.length=ty.n→(∀i,i<k→∃fuel x,DataW.trod enc P w base spare held fuel e ((cs.drop (i*P.cellsOf e)).take (P.cellsOf e))=some x)→∃y:ty.D,ty.rd (fun _=>True) w cs y∧ty.ok y
theorem ahd{ty:Ty}(h1:R1 enc P w base spare held ty)(hp:∀(n:Nat) (f g:Field) (fs:List Field) (off:Nat) (cs:List Value),yF (rep P n) P.cellsOf (f::g::fs) ty off=true→cs.length=ty.n→(∀q∈f::g::fs,off≤q.offset→∃fuel x,DataW.trod enc P w base spare held fuel q.type ((cs.drop (q.offset-off)).take (P.cellsOf q.type))=some x)→∃y:ty.D,ty.rd (fun _=>True) w cs y∧ty.ok y):R2 enc P w base spare held ty:=by
 intro n fs off cs hr hl hf;match fs,hr,hf with
 |[f],hr,hf=>
  simp only[yF,am9]at hr;have ho:=ana hr.1.2;have hc:=ana hr.2;obtain⟨fuel,x,hx⟩:=hf f (by simp) (by omega);rw[ho,apB,hc,vg _ _ hl]at hx;exact h1 n f.type hr.1.1 fuel cs x hl hx
 |f::g::fs,hr,hf=>exact hp n f g fs off cs hr hl hf
theorem ae8{ty:Ty}(h1:R1 enc P w base spare held ty)(hp:∀(n k:Nat) (e:TypeId) (cs:List Value),Gt (rep P n e) (P.cellsOf e) (k+2) ty=true→cs.length=ty.n→(∀i,i<k+2→∃fuel x,DataW.trod enc P w base spare held fuel e ((cs.drop (i*P.cellsOf e)).take (P.cellsOf e))=some x)→∃y:ty.D,ty.rd (fun _=>True) w cs y∧ty.ok y):R3 enc P w base spare held ty:=by
 intro n k e cs hr hl hf;match k,hr,hf with
 |1,hr,hf=>
  simp only[Gt,am9]at hr;have hc:=ana hr.2;obtain⟨fuel,x,hx⟩:=hf 0 (by omega);rw[Nat.zero_mul,←hc,vg _ _ hl]at hx;exact h1 n e hr.1 fuel cs x hl hx
 |k+2,hr,hf=>exact hp n k e cs hr hl hf
theorem VL:∀(ty:Ty),R1 enc P w base spare held ty∧R2 enc P w base spare held ty∧R3 enc P w base spare held ty:=by
 intro ty
 have pz:∀{ty:Ty},(∀a b,ty≠.pair a b)→R1 enc P w base spare held ty→R1 enc P w base spare held ty∧R2 enc P w base spare held ty∧R3 enc P w base spare held ty:=by
  intro ty hne h1;refine⟨h1,ahd h1 fun n f g fs off cs hr=>?_,ae8 h1 fun n k e cs hr=>?_⟩
  ·cases ty<;>first|exact absurd rfl (hne _ _)|simp[yF]at hr
  ·cases ty<;>first|exact absurd rfl (hne _ _)|simp[Gt]at hr
 induction ty with
 |int k=>
  refine pz (fun a b e=>by cases e) fun n t hr fuel cs x hl hx=>?_;cases n with
  |zero=>simp[rep]at hr
  |succ n=>
   unfold rep at hr;split at hr<;>try (cases hr;done)
   all_goals rename_i hu he<;>cases he
   have:=am8 hr;subst this;obtain⟨m,rfl,_,hw⟩:=DataW.trod_int hu hx;exact⟨m,rfl,hw⟩
 |bool=>
  refine pz (fun a b e=>by cases e) fun n t hr fuel cs x hl hx=>?_;cases n with
  |zero=>simp[rep]at hr
  |succ n=>
   unfold rep at hr;split at hr<;>try (cases hr;done)
   all_goals rename_i hu he<;>cases he
   obtain⟨m,rfl,_⟩:=DataW.trod_bool hu hx;exact⟨m,rfl,trivial⟩
 |str=>
  refine pz (fun a b e=>by cases e) fun n t hr fuel cs x hl hx=>?_;cases n with
  |zero=>simp[rep]at hr
  |succ n=>
   unfold rep at hr;split at hr<;>try (cases hr;done)
   all_goals rename_i hu he<;>cases he
   cases fuel with
   |zero=>simp[DataW.trod]at hx
   |succ fuel=>
    unfold DataW.trod at hx;rw[hu]at hx;split at hx<;>simp_all;exact⟨_,rfl,trivial⟩
 |sl e ih=>
  refine pz (fun a b e=>by cases e) fun n t hr fuel cs x hl hx=>?_;cases n with
  |zero=>simp[rep]at hr
  |succ n=>
   unfold rep at hr;split at hr<;>try (cases hr;done)
   all_goals rename_i hu he<;>cases he
   simp only[am9]at hr;obtain⟨⟨r1,r2⟩,r3⟩:=hr;have hc:=ana r2;have hn0:=anc r3;rcases Deep.open_slice hu hx with⟨rfl,_⟩|⟨a,len,cap,m,nn,D,Pl,rfl,hb,hle,hcap,hm,_,hel⟩
   ·exact⟨[],yk,by simp,fun x hx=>by simp at hx⟩
   ·have hlm:len≤m:=by rw[hm];split<;>omega
    have key:∀i,i<len→∃(l:List Value) (y:e.D),(e.rd (fun _=>True) w l y∧e.ok y)∧∀j v,l[j]?=some v→w.cell? ((a.add (i*e.n)).add j)=some v:=by
     intro i hi;obtain⟨cs',h1,h2⟩:=hel i (by omega);rw[hc]at h1;obtain⟨h3,h4⟩:=KV h1;obtain⟨y,h5⟩:=ih.1 n _ r1 nn cs' _ h3 h2;exact⟨cs',y,h5,h4⟩
    obtain⟨css,ys,l1,l2,hk⟩:=PD key;have hall:ct (fun l y=>e.rd (fun _=>True) w l y) css ys:=Ii (by omega) fun i l y h1 h2=>(hk i l y h1 h2).1.1;refine⟨ys,⟨some a,len,cap,css,rfl,l2,hle,hcap,hall,fun h0=>?_⟩,by unfold maxLen at hcap;omega,fun y hy=>?_⟩
    ·obtain⟨l0,hl0⟩:∃l,css[0]?=some l:=⟨_,am6 (by omega)⟩
     obtain⟨y0,hy0,hrd0⟩:=iV hall 0 l0 hl0;have hlen0:=Ty.rd_len hrd0;obtain⟨v0,hv0⟩:∃v,l0[0]?=some v:=⟨_,am6 (by omega)⟩
     have hc0:=(hk 0 l0 y0 hl0 hy0).2 0 v0 hv0;have e0:(a.add (0*e.n)).add 0=a:=by simp[Addr.add]
     rw[e0]at hc0;obtain⟨h1,h2⟩:=Ul hc0;obtain⟨b,off,sp⟩:=a;dsimp only at h1 h2;subst h2;refine⟨b,off,rfl,trivial,h1,fun i v hv=>?_⟩;have hls:=gb hall;have hi:i<css.flatten.length:=(ang.1 hv).1;rw[hZ hls,l1]at hi;have hq:i/e.n<len:=Nat.div_lt_of_lt_mul (by rw[Nat.mul_comm];exact hi);obtain⟨l,hl⟩:∃l,css[i/e.n]?=some l:=⟨_,am6 (by omega)⟩
     obtain⟨y,hy,hrd⟩:=iV hall _ l hl;have hmod:i%e.n<e.n:=ap2 _ hn0;obtain⟨u,hu'⟩:∃u,l[i%e.n]?=some u:=⟨_,am6 (by rw[Ty.rd_len hrd];exact hmod)⟩
     have hfl:=lB hls hl hu';have hdm:i/e.n*e.n+i%e.n=i:=by rw[Nat.mul_comm];exact Nat.div_add_mod i e.n
     rw[hdm,hv]at hfl;injection hfl with hfl;subst hfl;have:=(hk _ l y hl hy).2 _ _ hu';rw[dS,dS]at this;rwa [apb,hdm]at this
    ·obtain⟨i,hi,rfl⟩:=apo hy;obtain⟨l,hl,_⟩:=pj hall i _ (am6 hi);exact(hk i l _ hl (am6 hi)).1.2
 |st a ih=>
  refine pz (fun a b e=>by cases e) fun n t hr fuel cs x hl hx=>?_;cases n with
  |zero=>simp[rep]at hr
  |succ n=>
   unfold rep at hr;split at hr<;>try (cases hr;done)
   all_goals rename_i hu he<;>cases he
   ·simp only[am9]at hr;obtain⟨xs,k,rfl,_,_,hlen,hg⟩:=DataW.trod_struct hu hx;refine ih.2.1 n _ 0 cs hr.1 hl fun f hf _=>?_;obtain⟨i,hi,rfl⟩:=apo hf;rename_i fs;have h1:=hg i _ (by rw[←aoP];exact am6 hi);obtain⟨y,hy⟩:∃y,xs[i]?=some y:=⟨_,am6 (by rw[hlen];simpa using hi)⟩
    rw[hy]at h1;exact⟨k,y,by rw[Nat.sub_zero];exact h1⟩
   ·simp only[am9]at hr;obtain⟨xs,k,rfl,_,_,hlen,hg⟩:=DataW.trod_array hu hx;refine ih.2.2 n _ _ cs hr.1 hl fun i hi=>?_;have h1:=hg i hi;obtain⟨y,hy⟩:∃y,xs[i]?=some y:=⟨_,am6 (by rw[hlen];exact hi)⟩
    rw[hy]at h1;exact⟨k,y,h1⟩
 |pair a b iha ihb=>
  have h1:R1 enc P w base spare held (.pair a b):=by
   intro n t hr;cases n with
   |zero=>simp[rep]at hr
   |succ n=>
    unfold rep at hr;split at hr<;>first|(cases hr;done)|(rename_i he;cases he)
  have cut:∀{cs:List Value} {k m:Nat},cs.length=a.n+b.n→((cs.drop a.n).drop k).take m=(cs.drop (a.n+k)).take m:=fun _=>by rw[aqe]
  refine⟨h1,ahd h1 fun n f g fs off cs hr hl hf=>?_,ae8 h1 fun n k e cs hr hl hf=>?_⟩
  ·simp only[yF,am9]at hr;obtain⟨⟨⟨r1,r2⟩,r3⟩,r4⟩:=hr;have ho:=ana r2;have hc:=ana r3;simp only[Ty.n]at hl;obtain⟨fuel,x,hx⟩:=hf f (by simp) (by omega);rw[ho,apB,hc,aoK]at hx;obtain⟨y1,k1,k2⟩:=iha.1 n f.type r1 fuel (cs.take a.n) x (by simp;omega) hx
   obtain⟨y2,k3,k4⟩:=ihb.2.1 n (g::fs) (off+a.n) (cs.drop a.n) r4 (by simp;omega) fun q hq hle=>by
    obtain⟨fuel,x,hx⟩:=hf q (by simp only[ann]at hq ⊢;exact .inr hq) (by omega);refine⟨fuel,x,?_⟩;rw[aqe,show a.n+(q.offset-(off+a.n))=q.offset-off by omega];exact hx
   exact⟨(y1,y2),⟨_,_,(aot a.n cs).symm,k1,k3⟩,k2,k4⟩
  ·simp only[Gt,am9]at hr;obtain⟨⟨r1,r2⟩,r3⟩:=hr;have hc:=ana r2;simp only[Ty.n]at hl;obtain⟨fuel,x,hx⟩:=hf 0 (by omega);rw[Nat.zero_mul,aoK,←hc]at hx;obtain⟨y1,k1,k2⟩:=iha.1 n e r1 fuel (cs.take a.n) x (by simp;omega) hx
   obtain⟨y2,k3,k4⟩:=ihb.2.2 n (k+1) e (cs.drop a.n) r3 (by simp;omega) fun i hi=>by
    obtain⟨fuel,x,hx⟩:=hf (i+1) (by omega);refine⟨fuel,x,?_⟩;rw[aqe,hc,show P.cellsOf e+i*P.cellsOf e=(i+1)*P.cellsOf e by rw[aoM];omega];exact hx
   exact⟨(y1,y2),⟨_,_,(aot a.n cs).symm,k1,k3⟩,k2,k4⟩
end
end
def afc:List En:=[enL Cg]
def YJ(n:Int)(_k:KT):OLR:=og (decide (za (i64.wrap n) (4:Int))) (some [RV.d tR (hid (aj (Rat.divInt (i64.wrap n) (4:Int))))])
def ajo:Cn 13 [(.int .i8)]:=cn fun(n:Int)=>lf (i8P n) [.d tR (aj (Rat.divInt n 4))] fun h=>by
 refine aA afc (YJ n) ⟨0,?_⟩;obtain⟨h1,h2⟩:=h;unfold YJ;rw[aT (x:=n) (by omega) (by omega),dT (show za n 4 from⟨⟨by omega,by omega⟩,⟨by omega,by omega⟩,by omega⟩)];simp only[bJ]
theorem adW{n:Int}(h:i8P n):Bd (Rat.divInt n 4) 3:=IQ (n:=n) (d:=4) (by obtain⟨h1,h2⟩:=h;exact⟨by omega,by omega⟩) (by decide) (by decide)
theorem ya{n:Int}(h:Ty.ok (.int .i8) n):i8P n:=bounds_i8 h
theorem W6{n:Int}(h:Ty.ok (.int .u8) n):u8P n:=bounds_u8 h
theorem Za{x:Dr}(h:Ty.ok tDr x):yh x:=⟨W6 h.1,W6 h.2.1,ya h.2.2.1,ya h.2.2.2.1,ya h.2.2.2.2.1,ya h.2.2.2.2.2.1,ya h.2.2.2.2.2.2.1,ya h.2.2.2.2.2.2.2⟩
theorem LP{n:Int}(h:i8P n){k:Nat}(hk:3≤k)(hk':k≤480000):ok Rat k (aj (Rat.divInt n 4)):=by
 have:=adW h;exact am8 (okd (x:=Rat.divInt n 4) hk hk')
def Bz:List En:=[⟨41,fM,dW⟩,⟨99,iy,fi⟩,⟨108,gV,eU⟩,⟨107,iS,fB⟩,⟨106,iE,ff⟩,⟨109,kH,gH⟩,enT Lo]
def abI:NT:=[((221,6),{keep:=[4,5,6,7,18,19,20],hl:=5})]
def Oo:Ctx:=CX (ens Bz) abI
def AB(d p q r:BR)(s20:Int):Cfg:=⟨221,[.blk 0,.seq 25],[(4,.box 0 0),(5,.box 1 0),(6,.box 2 0),(7,.box 3 0),(18,.own 4),(19,SI (([d,p,q,r]).length:Int)),(20,SI s20)],[.box 31 [SB d.1.1,.d aqs d.1.2,SB d.2.1,.d aqs d.2.2],.box 31 [SB p.1.1,.d aqs p.1.2,SB p.2.1,.d aqs p.2.2],.box 31 [SB q.1.1,.d aqs q.1.2,SB q.2.1,.d aqs q.2.2],.box 31 [SB r.1.1,.d aqs r.1.2,SB r.2.1,.d aqs r.2.2],.row 31 tR ([d,p,q,r])],0,[]⟩
def afz(d p q r:BR)(k:KT):OLR:=k 6 (AB d p q r 0)
theorem aiT(d p q r:BR):RS Oo 221 [.d tR d,.d tR p,.d tR q,.d tR r] (afz d p q r):=rsX
def yz(d p q r:BR)(s20:Int)(k:KT):OLR:=match decide (s20<(([d,p,q,r]).length:Int))with|true=>(match aU ([d,p,q,r]) s20 with|some _=>(match true,([d,p,q,r])[(s20).toNat]? with|true,some x1=>(og (o1 x1) (match decide ((aD (ae x1) 0)<0)with|true=>some [RV.d aqt 0,RV.d aqt 7]|false=>k 6 (AB d p q r (i64.wrap (s20+1)))))|_,_=>none)|none=>none)|false=>(og (o2 d p) (og (o2 (hSu d p) q) (og (o2 r r) (og (o2 (hSu (hSu d p) q) (hMu r r)) (og (decide (aH ((-2):Int))) (og (o2 (hid (aj (((-2):Int):Rat))) r) (og (decide (aH ((-2):Int))) (og (decide (okQ (hSu (hSu (hSu d p) q) (hMu r r),(hMu (hid (aj (((-2):Int):Rat))) r,(hMu (hid (aj (((-2):Int):Rat))) r,(hid (aj (((-2):Int):Rat)),(p,q))))))) (some [RV.d aqt (sgQ (dec (hSu (hSu (hSu d p) q) (hMu r r),(hMu (hid (aj (((-2):Int):Rat))) r,(hMu (hid (aj (((-2):Int):Rat))) r,(hid (aj (((-2):Int):Rat)),(p,q))))))),RV.d aqt 0])))))))))
theorem EE(d p q r:BR)(s20:Int):RN Oo 6 (AB d p q r s20) (yz d p q r s20):=rnX
theorem aiJ{d p q r:Rat}[bd:Bd d 2000][bp:Bd p 2000][bq:Bd q 2000][br:Bd r 2000](nd:0≤d)(np:0≤p)(nq:0≤q)(nr_:0≤r):∀(j i:Nat),i+j=4→Oo.Runs 6 (AB (enc d) (enc p) (enc q) (enc r) (i:Int)) [.d aqt (io d p q r),.d aqt (0:Int)]:=by
 have k2:decide (aH (-2))=true:=by decide
 have b2:Bd ((-2:Int):Rat) 3:=bS (n:= -2) (by decide);have b2':Bd (-2:Rat) 3:=b2;have e2:((-2:Int):Rat)= -2:=rfl;have n1:Nn p:=⟨np⟩
 have n2:Nn q:=⟨nq⟩
 have o1:decide (okQ (enc ((d-p-q-r*r,-2*r,-2*r,-2,p,q):Qd)))=true:=rn (by decide) (by decide) (by decide) (by decide) (by decide) (by decide)
 have hall:∀x∈[d,p,q,r],Bd x 2000∧0≤x:=by
  intro x hx;simp only[ann,ao9,aqi]at hx;rcases hx with e|e|e|e<;>subst e<;>constructor<;>assumption
 intro j;induction j with
 |zero=>
  intro i hi;refine EE _ _ _ _ _ ⟨0,?_⟩;unfold yz;rw[dF (show ¬(i:Int)<(([enc d,enc p,enc q,enc r]:List BR).length:Int) by simp;omega)];simp only[aO,Nat.reduceAdd,Nat.reduceLeDiff,k2,e2];show og (decide (okQ (enc ((d-p-q-r*r,-2*r,-2*r,-2,p,q):Qd)))) (some [RV.d aqt (sgQ (dec (enc ((d-p-q-r*r,-2*r,-2*r,-2,p,q):Qd)))),_])=_;rw[o1,az];rfl
 |succ j ih=>
  intro i hi;have hil:i<[d,p,q,r].length:=by simp;omega
  obtain⟨n,hn⟩:=ih (i+1) (by omega);refine EE _ _ _ _ _ ⟨n,?_⟩
  have g:([enc d,enc p,enc q,enc r]:List BR)[i]?=some (enc [d,p,q,r][i]):=by
   show(([d,p,q,r]:List Rat).map enc)[i]?=_;rw[an6,am6 hil];rfl
  obtain⟨hb,hx⟩:=hall _ (anD hil);generalize [d,p,q,r][i]=x at*
  unfold yz;rw[dT (show(i:Int)<(([enc d,enc p,enc q,enc r]:List BR).length:Int) by simp;omega),av,ao2,g,bW (by omega)];dsimp only;simp only[aO,Nat.reduceLeDiff,aq,dF (show ¬x<0 by grind)];exact hn
def aho:Cn 221 [tR,tR,tR,tR]:=cn fun(d p q r:BR)=>lf (n4P d p q r) [.d aqt (io (ae d) (ae p) (ae q) (ae r)),.d aqt 0] fun h=>by
 obtain⟨d,p,q,r,⟨rfl,rfl,rfl,rfl⟩,bd,bp,bq,br,nd,np,nq,nr_⟩:=EY h;have:=aiJ nd np nq nr_ 4 0 rfl;simp only[dQ,co];exact cY Bz (aiT _ _ _ _ this)
def Zx(x y z r:BR)(_k:KT):OLR:=og (decide (aH (2:Int))) (og (o2 x y) (og (o2 (hAd x y) z) (og (o2 r r) (og (o2 (hSu (hAd x y) z) (hMu r r)) (og (o2 (hid (aj ((2:Int):Rat))) r) (og (o1 (hMu (hid (aj ((2:Int):Rat))) r)) (og (decide (aH (0:Int))) (og (o2 x y) (og (decide (okQ (hSu (hSu (hAd x y) z) (hMu r r),(hid (aj ((2:Int):Rat)),(hNe (hMu (hid (aj ((2:Int):Rat))) r),(hid (aj ((0:Int):Rat)),(hMu x y,z))))))) (some [RV.d aqt (sgQ (dec (hSu (hSu (hAd x y) z) (hMu r r),(hid (aj ((2:Int):Rat)),(hNe (hMu (hid (aj ((2:Int):Rat))) r),(hid (aj ((0:Int):Rat)),(hMu x y,z)))))))]))))))))))
def ahk:Cn 112 [tR,tR,tR,tR]:=cn fun(x y z r:BR)=>lf (n4P x y z r) [.d aqt (rE (ae x) (ae y) (ae z) (ae r))] fun h=>by
 refine aA Bz (Zx x y z r) ⟨0,?_⟩;obtain⟨x,y,z,r,⟨rfl,rfl,rfl,rfl⟩,bx,b_,bz,br,nx,ny,nz,nr_⟩:=EY h;have i2:decide (aH 2)=true:=by decide
 have i0:decide (aH 0)=true:=by decide
 have b2:Bd ((2:Int):Rat) 3:=bS (n:=2) (by decide);have b0:Bd ((0:Int):Rat) 3:=bS (n:=0) (by decide);have b2':Bd (2:Rat) 3:=b2;have b0':Bd (0:Rat) 3:=b0;have e2:((2:Int):Rat)=2:=rfl;have e0:((0:Int):Rat)=0:=rfl;have n1:Nn (x*y):=⟨anl nx ny⟩
 have n2:Nn z:=⟨nz⟩
 have o1:decide (okQ (enc ((x+y-z-r*r,2,-(2*r),0,x*y,z):Qd)))=true:=rn (by decide) (by decide) (by decide) (by decide) (by decide) (by decide);unfold Zx;simp only[aO,Nat.reduceAdd,Nat.reduceLeDiff,i2,i0,e2,e0];show og (decide (okQ (enc ((x+y-z-r*r,2,-(2*r),0,x*y,z):Qd)))) (some [RV.d aqt (sgQ (dec (enc ((x+y-z-r*r,2,-(2*r),0,x*y,z):Qd))))])=_;rw[o1,az];rfl
def aeX:List En:=enT aho::Bz
def ajh:Cn 111 [tR,tR,tR,tR]:=cn fun(x y z r:BR)=>lf (n4P x y z r) [.d aqt (io (ae x) (ae y) (ae z) (ae r))] fun h=>jx [RV.d aqt (io (ae x) (ae y) (ae z) (ae r))] (du aeX) h
def acr:List En:=[enL Pk,enT IF,enL HY,enT ag6]
def YV(s a:BCU)(r:BR)(_k:KT):OLR:=og (decide (ok Ln 300 s.2.1∧ok (Rat×Rat) 200 (a.2.2.1.1,a.2.2.1.2.1)∧((dec s.2.1:Ln).1≠0∨(dec s.2.1:Ln).2.1≠0))) (og (decide (ok (Rat×Rat) 100000 (hid (enc (dt (dec s.2.1) (dec (a.2.2.1.1,a.2.2.1.2.1))))))) (og (decide (okC 4000 s∧okP 4000 (hid (enc (atP (dec (hid (enc (dt (dec s.2.1) (dec (a.2.2.1.1,a.2.2.1.2.1))))))))))) (match !(onP (dC s) (dec (hid (enc (atP (dec (hid (enc (dt (dec s.2.1) (dec (a.2.2.1.1,a.2.2.1.2.1)))))))))))with|true=>some [RV.d aqt 1]|false=>(og (decide (okC 500 a∧ok (Rat×Rat) 200 (hid (enc (dt (dec s.2.1) (dec (a.2.2.1.1,a.2.2.1.2.1)))))∧ok Rat 1000 r)) (some [RV.d aqt (so (dC a) (dec (hid (enc (dt (dec s.2.1) (dec (a.2.2.1.1,a.2.2.1.2.1)))))) (ae r))])))))
def ahl:Cn 45 [tCU,tCU,tR]:=cn fun(s a:BCU) (r:BR)=>lf (vW s a∧ok Rat 1000 r) [.d aqt (Ej (dC s) (dC a) (ae r))] fun h=>by
 refine aA acr (YV s a r) ⟨0,?_⟩;obtain⟨⟨hs,ha,es,ea⟩,hr⟩:=h;have hF:=Gx hs.2 ha.2 es ea;obtain⟨ar,li,ci,cw,fr,to⟩:=s;obtain⟨ar',li',ci',cw',fr',to'⟩:=a;simp only at es ea;subst es ea;obtain⟨l1,l2⟩:=hs.1.2.1 rfl;obtain⟨c1,c2⟩:=ha.1.1 rfl;simp only at l1 l2 c1 c2;obtain⟨li,rfl,bl⟩:=aB l1;obtain⟨ci',rfl,bc,qc⟩:=cE (ha.2.1 rfl);have bc':Bd (ctr ci') 200:=(inferInstance:Bd ((ci'.1,ci'.2.1):Rat×Rat) _).mono (by decide);have e0:((aj ci'.1,aj ci'.2.1):BV)=enc (ctr ci'):=rfl;rw[az]at l2;simp only[ftv,dC,lnC,ciC,az]at hF;unfold YV Ej ftv qV;simp only[dC,lnC,ciC,az];simp only[aO,Nat.reduceLeDiff,aJ,e0,dT l2,dT (b8 (k:=4000) hs.1 (by decide) (by decide)),dT ha.1,dT hr];cases onP (false,li,dec ci,cw,dec fr,dec to) (atP (dt li (ctr ci')))<;>rfl
def acQ:List En:=[⟨106,iE,ff⟩,⟨107,iS,fB⟩,⟨108,gV,eU⟩,⟨109,kH,gH⟩,⟨41,fM,dW⟩,enT Z0,enT ajh,enT ahk]
def aad(c d:BCU)(r:BR)(_k:KT):OLR:=let y1:=hSu d.2.2.1.1 c.2.2.1.1;let y2:=hSu d.2.2.1.2.1 c.2.2.1.2.1;let y3:=hAd (hMu y1 y1) (hMu y2 y2);let y4:=dec (hSu d.2.2.1.1 c.2.2.1.1,hSu d.2.2.1.2.1 c.2.2.1.2.1);let y5:=dec (hNe y1,hNe y2);let y6:=n4P y3 c.2.2.1.2.2 d.2.2.1.2.2 r;let y7:=n4P y3 d.2.2.1.2.2 c.2.2.1.2.2 r;let y8:=n4P c.2.2.1.2.2 y3 d.2.2.1.2.2 r;let y9:=n4P d.2.2.1.2.2 y3 c.2.2.1.2.2 r;let y10:=ae c.2.2.1.2.2;let y11:=ae d.2.2.1.2.2;let y12:=mn2 1 (mx2 (io (ae y3) y10 y11 (ae r)) (rE y10 y11 (ae y3) (ae r)));let y13:=mx2 (rE (ae y3) y11 y10 (ae r)) (io y10 (ae y3) y11 (ae r));let y14:=mx2 (rE (ae y3) y10 y11 (ae r)) (io y11 (ae y3) y10 (ae r));let y15:OLR:=match decide (okC 500 c∧ok (Rat×Rat) 510 (hNe y1,hNe y2))with|true=>(match cf (dC c) y5 with|true=>(og (decide (okC 500 d∧ok (Rat×Rat) 510 (hNe y1,hNe y2))) (match cf (dC d) y5 with|true=>(og (decide y6) (og (decide y9) (some [RV.d aqt (mn2 1 y14)])))|false=>some [RV.d aqt 1]))|false=>some [RV.d aqt 1])|false=>none;og (o2 d.2.2.1.1 c.2.2.1.1) (og (o2 d.2.2.1.2.1 c.2.2.1.2.1) (og (o2 y1 y1) (og (o2 y2 y2) (og (o2 (hMu y1 y1) (hMu y2 y2)) (og (o1 y3) (match(aD (ae y3) 0)==0 with|true=>some [RV.d aqt 1]|false=>(og (o1 y1) (og (o1 y2) (og (decide (okC 500 c∧ok (Rat×Rat) 510 (hSu d.2.2.1.1 c.2.2.1.1,hSu d.2.2.1.2.1 c.2.2.1.2.1))) (match cf (dC c) y4 with|true=>(og (decide (okC 500 d∧ok (Rat×Rat) 510 (hNe y1,hNe y2))) (match cf (dC d) y5 with|true=>(og (decide y6) (og (decide (n4P c.2.2.1.2.2 d.2.2.1.2.2 y3 r)) (og (decide (okC 500 d∧ok (Rat×Rat) 510 (hSu d.2.2.1.1 c.2.2.1.1,hSu d.2.2.1.2.1 c.2.2.1.2.1))) (match cf (dC d) y4 with|true=>(og (decide y7) (og (decide y8) (og (decide (okC 500 c∧ok (Rat×Rat) 510 (hNe y1,hNe y2))) (match cf (dC c) y5 with|true=>(og (decide (okC 500 d∧ok (Rat×Rat) 510 (hNe y1,hNe y2))) (match cf (dC d) y5 with|true=>(og (decide y6) (og (decide y9) (some [RV.d aqt (mn2 (mn2 y12 y13) y14)])))|false=>some [RV.d aqt (mn2 y12 y13)]))|false=>some [RV.d aqt (mn2 y12 y13)]))))|false=>(og (decide (okC 500 c∧ok (Rat×Rat) 510 (hNe y1,hNe y2))) (match cf (dC c) y5 with|true=>(og (decide (okC 500 d∧ok (Rat×Rat) 510 (hNe y1,hNe y2))) (match cf (dC d) y5 with|true=>(og (decide y6) (og (decide y9) (some [RV.d aqt (mn2 y12 y14)])))|false=>some [RV.d aqt y12]))|false=>some [RV.d aqt y12]))))))|false=>(og (decide (okC 500 d∧ok (Rat×Rat) 510 (hSu d.2.2.1.1 c.2.2.1.1,hSu d.2.2.1.2.1 c.2.2.1.2.1))) (match cf (dC d) y4 with|true=>(og (decide y7) (og (decide y8) (og (decide (okC 500 c∧ok (Rat×Rat) 510 (hNe y1,hNe y2))) (match cf (dC c) y5 with|true=>(og (decide (okC 500 d∧ok (Rat×Rat) 510 (hNe y1,hNe y2))) (match cf (dC d) y5 with|true=>(og (decide y6) (og (decide y9) (some [RV.d aqt (mn2 (mn2 1 y13) y14)])))|false=>some [RV.d aqt (mn2 1 y13)]))|false=>some [RV.d aqt (mn2 1 y13)]))))|false=>y15))))|false=>y15))))))))))
def akb:Cn 44 [tCU,tCU,tR]:=cn fun(c d:BCU) (r:BR)=>lf (CM c d∧ok Rat 1000 r∧0≤ae r) [.d aqt (yG (dC c) (dC d) (ae r))] fun h=>by
 refine aA acQ (aad c d r) ⟨0,?_⟩;obtain⟨⟨hc,hd,ec,ed⟩,hr,nr_⟩:=h;obtain⟨ar,li,ci,cw,fr,to⟩:=c;obtain⟨ar',li',di,cw',fr',to'⟩:=d;simp only at ec ed;subst ec ed;have oc:decide (okC 500 _)=true:=dT hc.1;have od:decide (okC 500 _)=true:=dT hd.1;obtain⟨ci,rfl,bc,qc⟩:=cE (hc.2.1 rfl);obtain⟨di,rfl,bd,qd⟩:=cE (hd.2.1 rfl);obtain⟨r,rfl,br⟩:=aB hr;rw[dQ,co]at nr_;have n0:0≤aY (bh (ctr ci) (ctr di)) (bh (ctr ci) (ctr di)):=jc _;have bN:Bd (aY (bh (ctr ci) (ctr di)) (bh (ctr ci) (ctr di))) 100:=(inferInstance:Bd ((di.1-ci.1)*(di.1-ci.1)+(di.2.1-ci.2.1)*(di.2.1-ci.2.1)) _).mono (by decide);have e0:((aj (di.1-ci.1),aj (di.2.1-ci.2.1)):BV)=enc (bh (ctr ci) (ctr di)):=rfl;have e1:((aj (-(di.1-ci.1)),aj (-(di.2.1-ci.2.1))):BV)=enc (bkV (bh (ctr ci) (ctr di))):=rfl;have eN:(di.1-ci.1)*(di.1-ci.1)+(di.2.1-ci.2.1)*(di.2.1-ci.2.1)=aY (bh (ctr ci) (ctr di)) (bh (ctr ci) (ctr di)):=rfl;have bw:Bd (bh (ctr ci) (ctr di)) 20:=(inferInstance:Bd ((di.1-ci.1,di.2.1-ci.2.1):Rat×Rat) _).mono (by decide);have bb:Bd (bkV (bh (ctr ci) (ctr di))) 20:=(inferInstance:Bd ((-(di.1-ci.1),-(di.2.1-ci.2.1)):Rat×Rat) _).mono (by decide);have b0:Bd (di.1-ci.1) 10:=(inferInstance:Bd (di.1-ci.1) _).mono (by decide);have b1:Bd (di.2.1-ci.2.1) 10:=(inferInstance:Bd (di.2.1-ci.2.1) _).mono (by decide);have pc:0≤ci.2.2:=by grind
 have pd:0≤di.2.2:=by grind
 have k1:=(xq (i:=100) (j:=13) (k:=13) (l:=1000) (by decide) (by decide) (by decide) (by decide) n0 pc pd nr_)
 have k2:=(xq (i:=100) (j:=13) (k:=13) (l:=1000) (by decide) (by decide) (by decide) (by decide) n0 pd pc nr_)
 have k3:=(xq (i:=13) (j:=100) (k:=13) (l:=1000) (by decide) (by decide) (by decide) (by decide) pc n0 pd nr_)
 have k4:=(xq (i:=13) (j:=100) (k:=13) (l:=1000) (by decide) (by decide) (by decide) (by decide) pd n0 pc nr_)
 have k5:=(xq (i:=13) (j:=13) (k:=100) (l:=1000) (by decide) (by decide) (by decide) (by decide) pc pd n0 nr_)
 have sl:∀a b c d,io a b c d≤1:=fun a b c d=>w9 _;have bl:∀a b c d,rE a b c d≤1:=fun a b c d=>w9 _;unfold aad yG nT fT nD wyv;simp only[aO,Nat.reduceAdd,Nat.reduceLeDiff,ao,e0,e1,eN,oc,od,k1,k2,k3,k4,k5,dC,ciC,yd,abJ];have s1:=sl (aY (bh (ctr ci) (ctr di)) (bh (ctr ci) (ctr di))) ci.2.2 di.2.2 r;have s2:=sl ci.2.2 (aY (bh (ctr ci) (ctr di)) (bh (ctr ci) (ctr di))) di.2.2 r;have s3:=sl di.2.2 (aY (bh (ctr ci) (ctr di)) (bh (ctr ci) (ctr di))) ci.2.2 r;have s4:=bl ci.2.2 di.2.2 (aY (bh (ctr ci) (ctr di)) (bh (ctr ci) (ctr di))) r;have s5:=bl (aY (bh (ctr ci) (ctr di)) (bh (ctr ci) (ctr di))) di.2.2 ci.2.2 r;have s6:=bl (aY (bh (ctr ci) (ctr di)) (bh (ctr ci) (ctr di))) ci.2.2 di.2.2 r;cases decide (aY (bh (ctr ci) (ctr di)) (bh (ctr ci) (ctr di))=0)
 ·cases cf (true,dec li,ci,cw,dec fr,dec to) (bh (ctr ci) (ctr di))<;>cases cf (true,dec li,ci,cw,dec fr,dec to) (bkV (bh (ctr ci) (ctr di)))<;>cases cf (true,dec li',di,cw',dec fr',dec to') (bh (ctr ci) (ctr di))<;>cases cf (true,dec li',di,cw',dec fr',dec to') (bkV (bh (ctr ci) (ctr di)))<;>simp only[qV,cond_true,cond_false,Bool.and_true,aqf]<;>refine congrArg (fun x:Int=>some [RV.d aqt x]) ?_<;>omega
 ·rfl
def abw:List En:=[⟨41,fM,dW⟩,enL afe,enT afT,enT akb,enT ahl]
def aae(c d:BCU)(r:BR)(_k:KT):OLR:=let y1:OLR:=match decide (okR r)with|true=>some [RV.d aqt (i64.wrap (0-(aD (ae r) 0)))]|false=>none;let y2:=G3 (RE.poiE (dC d) (RE.pR (dec c.2.2.2.2.1)) (ae r)) (RE.poiE (dC d) (RE.pR (dec c.2.2.2.2.2)) (ae r)) (RE.poiE (dC c) (RE.pR (dec d.2.2.2.2.1)) (ae r)) (RE.poiE (dC c) (RE.pR (dec d.2.2.2.2.2)) (ae r));let y3:OLR:=match c.1 with|true=>(og (decide (vW d c∧ok Rat 1000 r)) (some [RV.d aqt (mn2 y2 (Ej (dC d) (dC c) (ae r)))]))|false=>(match d.1 with|true=>(og (decide (vW c d∧ok Rat 1000 r)) (some [RV.d aqt (mn2 y2 (Ej (dC c) (dC d) (ae r)))]))|false=>some [RV.d aqt y2]);og (o1 r) (match decide ((aD (ae r) 0)<0)with|true=>some [RV.d aqt 1]|false=>(og (decide (gU c d)) (match decide (((fq c d).length:Int)>0)with|true=>y1|false=>(match oO c d with|true=>y1|false=>(og (decide (okC 580 d∧okP 580 c.2.2.2.2.1∧ok Rat 1000 r)) (og (decide (okC 580 d∧okP 580 c.2.2.2.2.2∧ok Rat 1000 r)) (og (decide (okC 580 c∧okP 580 d.2.2.2.2.1∧ok Rat 1000 r)) (og (decide (okC 580 c∧okP 580 d.2.2.2.2.2∧ok Rat 1000 r)) (match c.1 with|true=>(match d.1 with|true=>(og (decide (CM c d∧ok Rat 1000 r∧0≤ae r)) (some [RV.d aqt (mn2 y2 (yG (dC c) (dC d) (ae r)))]))|false=>y3)|false=>y3)))))))))
def aaR:Cn 14 [tCU,tCU,tR]:=cn fun(c d:BCU) (r:BR)=>lf (gU c d∧ok Rat 1000 r) [.d aqt (kg c d (ae r))] fun h=>by
 refine aA abw (aae c d r) ⟨0,?_⟩;obtain⟨⟨mc,md⟩,hr⟩:=h;have c5:=b8 (k:=580) mc.1 (by decide) (by decide);have d5:=b8 (k:=580) md.1 (by decide) (by decide);obtain⟨r,rfl,br⟩:=aB hr
 have w:i64.wrap (0-aD r 0)= -aD r 0:=by
  have:=je r 0;rw[aT (by omega) (by omega)];omega
 unfold aae kg Hz oH lz;simp only[aO,Nat.reduceLeDiff,aq,yd,JM,dT (show gU c d from⟨mc,md⟩),dT c5,dT d5,dT c5.2.2.1,dT c5.2.2.2,dT d5.2.2.1,dT d5.2.2.2,w];by_cases h0:r<0
 ·rw[dT h0];rfl
 ·rw[dF h0];have hn:0≤r:=by grind
  cases decide (((fq c d).length:Int)>0)
  ·cases oO c d
   ·cases ea:c.1<;>cases eb:d.1
    ·simp only[dC,ea,eb];rfl
    ·simp only[dC,ea,eb,dT (show vW c d from⟨mc,md,ea,eb⟩)];rfl
    ·simp only[dC,ea,eb,dT (show vW d c from⟨md,mc,eb,ea⟩)];rfl
    ·simp only[dC,ea,eb,dT (show CM c d from⟨mc,md,ea,eb⟩),dT hn];rfl
   ·rfl
  ·rfl
end Go.Proofs.YtnkndpoojnflmaaGreat
end
