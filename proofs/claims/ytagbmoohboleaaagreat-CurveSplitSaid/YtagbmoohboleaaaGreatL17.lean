/- Common points of curves: the program's contract of Meet. -/
import Derived.Test.YtagbmoohboleaaaGreatL16
import Derived.Test.YtagbmoohboleaaaGreatL14
import Derived.Test.YtagbmoohboleaaaGreatL15
import Derived.Test.YtagbmoohboleaaaGreatL6
import Derived.ProofKit
import Derived.OpenShut
import Derived.ChangeSame
import Derived.Deep.Slices
noncomputable section
namespace Go.Proofs.YtagbmoohboleaaaGreat
open Go.RowKit Go.IntKind
section
theorem xw{c d:BCU}(h:gi c d):(nF c d).length<=4/\∀x∈nF c d,okP 4000 x:=by
 obtain⟨⟨h1,h2⟩,h3,h4⟩:=h;have up:∀{k x},okP k x->k<=4000->okP 4000 x:=λh hk=>cp h hk (by decide);unfold nF;cases hs:cG (dC c) (dC d)
 ·refine⟨?_,λx hx=>?_⟩
  ·simp only[cond_false,agS];have:∀l c,[BdL l]->[BdC c]->(lH l c).length<=4:=λl c _ _=>afA rV.1 (by decide);obtain⟨c1,c2⟩:=uj h2;obtain⟨d1,d2⟩:=uj h4;have ec:(dC c).1=c.1:=rfl;have ed:(dC d).1=d.1:=rfl;unfold iu;rw[ec,ed];cases ha:c.1<;>cases hb:d.1
   ·have i1:=(c2 ha).1;have i2:=(d2 hb).1;exact afA vO.1 (by decide)
   ·have i1:=(c2 ha).1;have i2:=(d1 hb).1;exact this _ _
   ·have i1:=(c1 ha).1;have i2:=(d2 hb).1;exact this _ _
   ·have i1:=(c1 ha).1;have i2:=(d1 hb).1;show(yk _ _).length<=4;unfold yk;cases hq:jb (ciC (dC c)) (ciC (dC d))
    ·have i3:BdL (nz (ciC (dC c)) (ciC (dC d))):=v9;exact this _ _
    ·exact ahn _
  ·obtain⟨p,hp,rfl⟩:=agE.1 hx;obtain⟨b,r,_,_⟩:=RE.supM_on h2 h4 hp;exact afp (aQ (j:=1200) (by decide) (by decide))
 ·refine⟨by simp,λx hx=>?_⟩;have:x=c.2.2.2.2.1\/x=c.2.2.2.2.2\/x=d.2.2.2.2.1\/x=d.2.2.2.2.2:=by simpa using hx
  rcases this with e|e|e|e<;>rw[e]
  ·exact up h1.2.2.1 (by decide)
  ·exact up h1.2.2.2 (by decide)
  ·exact up h3.2.2.1 (by decide)
  ·exact up h3.2.2.2 (by decide)
theorem Gv{α:Type}(z:α)(L T:List α):((gv z ((L.length:Int).toNat) ((((L++T).length:Int)).toNat-(L.length:Int).toNat) (L++T)).drop ((0:Int).toNat)).take ((L.length:Int).toNat-(0:Int).toNat)=L/\
  L.length<=(gv z ((L.length:Int).toNat) ((((L++T).length:Int)).toNat-(L.length:Int).toNat) (L++T)).length:=by
 have hcl:(gv z ((L.length:Int).toNat) ((((L++T).length:Int)).toNat-(L.length:Int).toNat) (L++T)).take L.length=L:=by
  unfold gv;rw[show((L.length:Int)).toNat=L.length by omega,afG,ahh (by simp),ah9,Nat.min_self,List.take_left' rfl]
 refine⟨?_,?_⟩
 ·rw[show((0:Int)).toNat=0 from rfl,agQ,show((L.length:Int)).toNat-0=L.length by omega,hcl]
 ·have:=congrArg List.length hcl;rw[af3]at this;omega
def Zb:Cn 71 [tCU,tCU]:=cn λ(a b:BCU)=>lf (fX a b/\cG (dC a) (dC b)=true) [.d .bool true] λh=>by
 have e:CQq7 71 [.d tCU a,.d tCU b] [.d .bool (cG (dC a) (dC b))]:=(Va.g a b).h h.1;rw[h.2]at e;exact e
def MO:List En:=[enT Zb,enT K7,enL SS,enK Nv,enF U2,enK Ei]
def PL:NT:=[((98,6),{keep:=[0,1,7,8],hl:=4}),((73,16),{keep:=[0,1,5,6],hl:=4}),((23,11),{keep:=[2,3,26,28],hl:=0}),((73,3),{keep:=[0,1,10],hl:=0}),((98,18),{keep:=[0,1,5,7,8,16],hl:=0}),((73,28),{keep:=[0,1,5,6,7,28],hl:=0})]
def ku:Ctx:=CX (ens MO) PL
def kf(c d:BCU)(s98_8:Int):Cfg:=⟨98,[.blk 0,.seq 25],[(0,.own 3),(1,.clo 75 [0,1]),(7,SI (([c.2.2.2.2.1,c.2.2.2.2.2,d.2.2.2.2.1,d.2.2.2.2.2]).length:Int)),(8,SI s98_8)],[.box 39 (Ty.split tCU c),.box 39 (Ty.split tCU d),.gone,.row 37 tP ([c.2.2.2.2.1,c.2.2.2.2.2,d.2.2.2.2.1,d.2.2.2.2.2])],4,[⟨73,[.seq 4],3,2,[(0,.own 3),(1,.clo 75 [0,1])],4,none⟩,⟨23,[.seq 12],11,3,[(2,.box 0 0),(3,.box 1 0),(26,.own 3)],0,none⟩]⟩
def dw(c d:BCU)(s73_5 s73_6:Int)(r73_3:List BP):Cfg:=⟨73,[.blk 0,.seq 35],[(0,.own 3),(1,.clo 75 [0,1]),(5,SI s73_5),(6,SI s73_6)],[.box 39 (Ty.split tCU c),.box 39 (Ty.split tCU d),.gone,.row 37 tP r73_3],4,[⟨23,[.seq 12],11,3,[(2,.box 0 0),(3,.box 1 0),(26,.own 3)],0,none⟩]⟩
def Lz(c d:BCU)(k:KT):OLR:=match decide (fX c d/\cG (dC c) (dC d)=true)with|true=>(match decide (([c.2.2.2.2.1,c.2.2.2.2.2,d.2.2.2.2.1,d.2.2.2.2.2]).length<=100000)with|true=>k 6 (kf c d 0)|false=>none)|false=>none
theorem Yr(c d:BCU):RS ku 23 [.d tCU c,.d tCU d] (Lz c d):=rsX
def jO(c d:BCU)(s98_8:Int)(k:KT):OLR:=match decide (s98_8<(([c.2.2.2.2.1,c.2.2.2.2.2,d.2.2.2.2.1,d.2.2.2.2.2]).length:Int))with|true=>(match aG ([c.2.2.2.2.1,c.2.2.2.2.2,d.2.2.2.2.1,d.2.2.2.2.2]) s98_8 with|some _=>(match true,([c.2.2.2.2.1,c.2.2.2.2.2,d.2.2.2.2.1,d.2.2.2.2.2])[(s98_8).toNat]? with|true,some x1=>(match decide (okC 4000 c/\okP 4000 x1)with|true=>(match !(gT (dC c) (dec x1))with|true=>(match s98_8==(-1)with|true=>(match decide (gI c ([c.2.2.2.2.1,c.2.2.2.2.2,d.2.2.2.2.1,d.2.2.2.2.2]))with|true=>(match decide (fX c d/\cG (dC c) (dC d)=true)with|true=>(match decide (wI c d (bR (dC c) ([c.2.2.2.2.1,c.2.2.2.2.2,d.2.2.2.2.1,d.2.2.2.2.2])))with|true=>some [RV.d (.sl tP) (bR (dC c) ([c.2.2.2.2.1,c.2.2.2.2.2,d.2.2.2.2.1,d.2.2.2.2.2])),RV.d .bool (uv c d (bR (dC c) ([c.2.2.2.2.1,c.2.2.2.2.2,d.2.2.2.2.1,d.2.2.2.2.2])))]|false=>none)|false=>none)|false=>none)|false=>k 16 (dw c d s98_8 (i64.wrap (s98_8+1)) ([c.2.2.2.2.1,c.2.2.2.2.2,d.2.2.2.2.1,d.2.2.2.2.2])))|false=>(match decide (okC 4000 d/\okP 4000 x1)with|true=>(match !(gT (dC d) (dec x1))with|true=>(match s98_8==(-1)with|true=>(match decide (gI c ([c.2.2.2.2.1,c.2.2.2.2.2,d.2.2.2.2.1,d.2.2.2.2.2]))with|true=>(match decide (fX c d/\cG (dC c) (dC d)=true)with|true=>(match decide (wI c d (bR (dC c) ([c.2.2.2.2.1,c.2.2.2.2.2,d.2.2.2.2.1,d.2.2.2.2.2])))with|true=>some [RV.d (.sl tP) (bR (dC c) ([c.2.2.2.2.1,c.2.2.2.2.2,d.2.2.2.2.1,d.2.2.2.2.2])),RV.d .bool (uv c d (bR (dC c) ([c.2.2.2.2.1,c.2.2.2.2.2,d.2.2.2.2.1,d.2.2.2.2.2])))]|false=>none)|false=>none)|false=>none)|false=>k 16 (dw c d s98_8 (i64.wrap (s98_8+1)) ([c.2.2.2.2.1,c.2.2.2.2.2,d.2.2.2.2.1,d.2.2.2.2.2])))|false=>k 6 (kf c d (i64.wrap (s98_8+1))))|false=>none))|false=>none)|_,_=>none)|none=>none)|false=>(match(-1)==(-1)with|true=>(match decide (gI c ([c.2.2.2.2.1,c.2.2.2.2.2,d.2.2.2.2.1,d.2.2.2.2.2]))with|true=>(match decide (fX c d/\cG (dC c) (dC d)=true)with|true=>(match decide (wI c d (bR (dC c) ([c.2.2.2.2.1,c.2.2.2.2.2,d.2.2.2.2.1,d.2.2.2.2.2])))with|true=>some [RV.d (.sl tP) (bR (dC c) ([c.2.2.2.2.1,c.2.2.2.2.2,d.2.2.2.2.1,d.2.2.2.2.2])),RV.d .bool (uv c d (bR (dC c) ([c.2.2.2.2.1,c.2.2.2.2.2,d.2.2.2.2.1,d.2.2.2.2.2])))]|false=>none)|false=>none)|false=>none)|false=>k 16 (dw c d (-1) (i64.wrap ((-1)+1)) ([c.2.2.2.2.1,c.2.2.2.2.2,d.2.2.2.2.1,d.2.2.2.2.2])))
theorem mV(c d:BCU)(s98_8:Int):RN ku 6 (kf c d s98_8) (jO c d s98_8):=rnX
def iV(c d:BCU)(s73_5 s73_6:Int)(r73_3:List BP)(k:KT):OLR:=match decide (s73_6<(r73_3.length:Int))with|true=>(match aG r73_3 s73_6 with|some _=>(match true,r73_3[(s73_6).toNat]? with|true,some x1=>(match decide (okC 4000 c/\okP 4000 x1)with|true=>(match !(gT (dC c) (dec x1))with|true=>k 16 (dw c d s73_5 (i64.wrap (s73_6+1)) r73_3)|false=>(match decide (okC 4000 d/\okP 4000 x1)with|true=>(match !(!(gT (dC d) (dec x1)))with|true=>(match aG r73_3 s73_5 with|some _=>(match true,r73_3[(s73_5).toNat]? with|true,some _=>k 16 (dw c d (i64.wrap (s73_5+1)) (i64.wrap (s73_6+1)) (r73_3.set ((s73_5).toNat) x1))|_,_=>none)|none=>none)|false=>k 16 (dw c d s73_5 (i64.wrap (s73_6+1)) r73_3))|false=>none))|false=>none)|_,_=>none)|none=>none)|false=>(match decide ((0:Int)<=s73_5/\s73_5<=(r73_3.length:Int)/\(r73_3.length:Int)<=(r73_3.length:Int))with|true=>(match decide ((0:Int)<=0/\0<=s73_5/\s73_5<=((gv (Ty.zero tP) ((s73_5:Int).toNat) (((r73_3.length:Int):Int).toNat-(s73_5:Int).toNat) r73_3).length:Int))with|true=>(match decide (gI c (((gv (Ty.zero tP) ((s73_5:Int).toNat) (((r73_3.length:Int):Int).toNat-(s73_5:Int).toNat) r73_3).drop ((0:Int).toNat)).take ((s73_5:Int).toNat-(0:Int).toNat)))with|true=>(match decide (fX c d/\cG (dC c) (dC d)=true)with|true=>(match decide (wI c d (bR (dC c) (((gv (Ty.zero tP) ((s73_5:Int).toNat) (((r73_3.length:Int):Int).toNat-(s73_5:Int).toNat) r73_3).drop ((0:Int).toNat)).take ((s73_5:Int).toNat-(0:Int).toNat))))with|true=>some [RV.d (.sl tP) (bR (dC c) (((gv (Ty.zero tP) ((s73_5:Int).toNat) (((r73_3.length:Int):Int).toNat-(s73_5:Int).toNat) r73_3).drop ((0:Int).toNat)).take ((s73_5:Int).toNat-(0:Int).toNat))),RV.d .bool (uv c d (bR (dC c) (((gv (Ty.zero tP) ((s73_5:Int).toNat) (((r73_3.length:Int):Int).toNat-(s73_5:Int).toNat) r73_3).drop ((0:Int).toNat)).take ((s73_5:Int).toNat-(0:Int).toNat))))]|false=>none)|false=>none)|false=>none)|false=>none)|false=>none)
theorem lF(c d:BCU)(s73_5 s73_6:Int)(r73_3:List BP):RN ku 16 (dw c d s73_5 s73_6 r73_3) (iV c d s73_5 s73_6 r73_3):=rnX
section
variable (c d:BCU) (h:gi c d) (hs:cG (dC c) (dC d)=true)
include h hs
theorem Df(L:List BP)(hl:L.length<=4)(ho:∀x∈L,okP 4000 x):(match decide (gI c L)with
  |true=>(match decide (fX c d/\cG (dC c) (dC d)=true)with
   |true=>(match decide (wI c d (bR (dC c) L))with|true=>some [RV.d (.sl tP) (bR (dC c) L),RV.d .bool (uv c d (bR (dC c) L))]|false=>none)
   |false=>none)
  |false=>none)=some [RV.d (.sl tP) (bR (dC c) L),RV.d .bool (uv c d (bR (dC c) L))]:=by
 have hc:okC 4000 c:=bZ h.1.1 (by decide) (by decide);have hd:okC 4000 d:=bZ h.2.1 (by decide) (by decide);have q:gI c L:=⟨hc,by omega,ho⟩
 have hn:(bR (dC c) L).length<=L.length:=jo;have _q2:wI c d (bR (dC c) L):=⟨⟨hc,by omega,λx hx=>ho x (dv hx)⟩,hd⟩
 rw[dT q,dT (show fX c d/\cG (dC c) (dC d)=true from⟨⟨h.1.2,h.2.2⟩,hs⟩)];dsimp only;rw[dT _q2]
theorem vV:∀(S:List BP) (L J:List BP),J≠[]->(∀x∈L++(J++S),okP 4000 x)->(L++(J++S)).length<=4->
  ku.Runs 16 (dw c d (L.length:Int) ((L.length+J.length:Nat):Int) (L++(J++S))) [RV.d (.sl tP) (bR (dC c) (L++S.filter (gN c d))),RV.d .bool (uv c d (bR (dC c) (L++S.filter (gN c d))))]
 |[],L,J,hJ,hok,h4=>by
  have h4':L.length+J.length<=4:=by simpa using h4
  obtain⟨c1,c2⟩:=Gv (Ty.zero tP) L J;refine lF _ _ _ _ _ ⟨0,?_⟩;unfold iV;rw[afO,bO (by simp)];dsimp only;rw[dT (show(0:Int)<=(L.length:Int)/\(L.length:Int)<=((L++J).length:Int)/\((L++J).length:Int)<=((L++J).length:Int) by simp only[afN];omega)];rw[dT (show(0:Int)<=0/\0<=(L.length:Int)/\(L.length:Int)<=((gv (Ty.zero tP) ((L.length:Int).toNat) ((((L++J).length:Int)).toNat-(L.length:Int).toNat) (L++J)).length:Int) by omega)];rw[c1,ah5,afO];exact Df c d h hs L (by omega) λx hx=>hok x (ags _ hx)
 |q::S,L,J,hJ,hok,h4=>by
  have h4':L.length+(J.length+(S.length+1))<=4:=by simpa using h4
  have hc:okC 4000 c:=bZ h.1.1 (by decide) (by decide);have hd:okC 4000 d:=bZ h.2.1 (by decide) (by decide);have hq:okP 4000 q:=hok q (by simp)
  have g1:(L++(J++q::S))[L.length+J.length]?=some q:=by
   have:=lj (L++J) q S;rw[afN,afG]at this;exact this
  obtain⟨y,T,rfl⟩:=List.exists_cons_of_ne_nil hJ;have g2:(L++(y::T++q::S))[L.length]?=some y:=lj L y (T++q::S)
  have hset:(L++(y::T++q::S)).set L.length q=(L++[q])++((T++[q])++S):=by
   have:=z5 y q (T++q::S) L;rw[show y::T++q::S=y::(T++q::S) from rfl,this];simp
  have e2:L++(y::T++q::S)=L++((y::T++[q])++S):=by simp
  have key:∀r n,(match gN c d q with
    |true=>ku.k n 16 (dw c d ((L.length+1:Nat):Int) ((L.length+(y::T).length+1:Nat):Int) ((L++[q])++((T++[q])++S)))
    |false=>ku.k n 16 (dw c d (L.length:Int) ((L.length+(y::T).length+1:Nat):Int) (L++(y::T++q::S))))=some r->
    iV c d (L.length:Int) ((L.length+(y::T).length:Nat):Int) (L++(y::T++q::S)) (ku.k n)=some r:=λr n hk=>by
   unfold iV;rw[aY (by simp only[afN,afD];omega),am,g1,show((L.length+(y::T).length:Nat):Int).toNat=L.length+(y::T).length by omega,g1];dsimp only;rw[dT (show okC 4000 c/\okP 4000 q from⟨hc,hq⟩),dT (show okC 4000 d/\okP 4000 q from⟨hd,hq⟩),bH (k:=L.length+(y::T).length) (by simp only[afD]at*;omega),bH (k:=L.length) (by omega),am,g2,show((L.length:Nat):Int).toNat=L.length by omega,g2,hset];unfold gN at hk;cases r1:gT (dC c) (dec q)<;>cases r2:gT (dC d) (dec q)<;>rw[r1,r2]at hk<;>exact hk
  rw[ag0];cases hk:gN c d q
  ·obtain⟨n,hn⟩:=vV S L (y::T++[q]) (by simp) (e2▸hok) (e2▸h4);refine lF _ _ _ _ _ ⟨n,key _ n ?_⟩;rw[hk,e2];rw[afN,afH,<-aht]at hn;exact hn
  ·obtain⟨n,hn⟩:=vV S (L++[q]) (T++[q]) (by simp) (λx hx=>by
    simp only[afL,afy,agF,ah6]at hx;rcases hx with(hx|hx)|(hx|hx)|hx
    ·exact hok x (by simp[hx])
    ·rw[hx];exact hq
    ·exact hok x (by simp[hx])
    ·rw[hx];exact hq
    ·exact hok x (by simp[hx])) (by simp at h4 ⊢;omega)
   refine lF _ _ _ _ _ ⟨n,key _ n ?_⟩;rw[hk];have n1:(L++[q]).length=L.length+1:=by simp
   have n2:L.length+1+(T++[q]).length=L.length+(y::T).length+1:=by simp;omega
   rw[n1,n2,afG L [q] (S.filter (gN c d))]at hn;exact hn
theorem Gc(X:List BP)(hX:[c.2.2.2.2.1,c.2.2.2.2.2,d.2.2.2.2.1,d.2.2.2.2.2]=X)(h4:X.length<=4)(hok:∀x∈X,okP 4000 x):∀(S A:List BP),A++S=X->A.filter (gN c d)=A->
  ku.Runs 6 (kf c d (A.length:Int)) [RV.d (.sl tP) (bR (dC c) (A++S.filter (gN c d))),RV.d .bool (uv c d (bR (dC c) (A++S.filter (gN c d))))]
 |[],A,hA,hf=>by
  rw[afO]at hA;refine mV _ _ _ ⟨0,?_⟩;unfold jO;rw[hX,<-hA,bO (by omega),ah5,afO];exact Df c d h hs A (hA▸h4) (hA▸hok)
 |q::S,A,hA,hf=>by
  have hc:okC 4000 c:=bZ h.1.1 (by decide) (by decide);have hd:okC 4000 d:=bZ h.2.1 (by decide) (by decide);have hq:okP 4000 q:=hok q (by rw[<-hA];simp);have g1:X[A.length]?=some q:=by rw[<-hA];exact lj A q S
  have hlen:A.length<X.length:=by rw[<-hA];simp
  have key:∀r n,(match gN c d q with
    |true=>ku.k n 6 (kf c d ((A.length+1:Nat):Int))
    |false=>ku.k n 16 (dw c d (A.length:Int) ((A.length+1:Nat):Int) X))=some r->
    jO c d (A.length:Int) (ku.k n)=some r:=λr n hk=>by
   unfold jO;rw[hX,aY hlen,am,g1,show((A.length:Nat):Int).toNat=A.length by omega,g1];dsimp only;rw[dT (show okC 4000 c/\okP 4000 q from⟨hc,hq⟩),dT (show okC 4000 d/\okP 4000 q from⟨hd,hq⟩),bH (k:=A.length) (by omega),show((A.length:Int)== -1)=false by rw[ag5];omega];unfold gN at hk;cases r1:gT (dC c) (dec q)<;>cases r2:gT (dC d) (dec q)<;>rw[r1,r2]at hk<;>exact hk
  rw[ag0];cases hk:gN c d q
  ·obtain⟨n,hn⟩:=vV c d h hs S A [q] (by simp) (by rw[agL,hA];exact hok) (by rw[agL,hA];exact h4);refine mV _ _ _ ⟨n,key _ n ?_⟩;rw[hk];rw[agL,hA]at hn;exact hn
  ·obtain⟨n,hn⟩:=Gc X hX h4 hok S (A++[q]) (by rw[afG];exact hA) (by rw[List.filter_append,hf,ag0,hk];rfl);refine mV _ _ _ ⟨n,key _ n ?_⟩;rw[hk];have n1:(A++[q]).length=A.length+1:=by simp
   rw[n1,afG A [q] (S.filter (gN c d))]at hn;exact hn
end
theorem MW(c d:BCU)(h:gi c d)(hs:cG (dC c) (dC d)=true):CQq7 23 [.d tCU c,.d tCU d] [.d (.sl tP) (dY c d),.d .bool (qV c d)]:=by
 obtain⟨h4,ho⟩:=xw h;have e:nF c d=[c.2.2.2.2.1,c.2.2.2.2.2,d.2.2.2.2.1,d.2.2.2.2.2]:=by unfold nF;rw[hs];rfl
 rw[e]at h4 ho;obtain⟨n,hn⟩:=Gc c d h hs _ rfl h4 ho _ [] rfl rfl;have e2:dY c d=bR (dC c) (List.filter (gN c d) [c.2.2.2.2.1,c.2.2.2.2.2,d.2.2.2.2.1,d.2.2.2.2.2]):=by unfold dY;rw[e]
 have e3:qV c d=uv c d (bR (dC c) (List.filter (gN c d) [c.2.2.2.2.1,c.2.2.2.2.2,d.2.2.2.2.1,d.2.2.2.2.2])):=by unfold qV;rw[hs,e2];rfl
 rw[e2,e3];refine dm MO (Yr _ _ ⟨n,?_⟩);unfold Lz;rw[dT (show fX c d/\cG (dC c) (dC d)=true from⟨⟨h.1.2,h.2.2⟩,hs⟩)];dsimp only;rw[dT (afA h4 (by decide))];exact hn
def Xf:Cn 71 [tCU,tCU]:=cn λ(a b:BCU)=>lf (fX a b/\cG (dC a) (dC b)=false) [.d .bool false] λh=>by
 have e:CQq7 71 [.d tCU a,.d tCU b] [.d .bool (cG (dC a) (dC b))]:=(Va.g a b).h h.1;rw[h.2]at e;exact e
def Pg:List En:=[enT Xf,enT K7,enL SS,enK Nv,enF U2,enK Ei]
def PH:NT:=[((98,6),{keep:=[0,1,7,8],hl:=3}),((73,16),{keep:=[0,1,5,6],hl:=3}),((23,11),{keep:=[2,3,26,28],hl:=0}),((73,3),{keep:=[0,1,10],hl:=0}),((98,18),{keep:=[0,1,5,7,8,16],hl:=0}),((73,28),{keep:=[0,1,5,6,7,28],hl:=0})]
def ko:Ctx:=CX (ens Pg) PH
def kb(c d:BCU)(s98_8:Int):Cfg:=⟨98,[.blk 0,.seq 25],[(0,.own 2),(1,.clo 75 [0,1]),(7,SI (((iu (dC c) (dC d)).map enc).length:Int)),(8,SI s98_8)],[.box 39 (Ty.split tCU c),.box 39 (Ty.split tCU d),.row 37 tP ((iu (dC c) (dC d)).map enc)],3,[⟨73,[.seq 4],3,2,[(0,.own 2),(1,.clo 75 [0,1])],3,none⟩,⟨23,[.seq 12],11,3,[(2,.box 0 0),(3,.box 1 0),(26,.own 2)],0,none⟩]⟩
def dz(c d:BCU)(s73_5 s73_6:Int)(r73_2:List BP):Cfg:=⟨73,[.blk 0,.seq 35],[(0,.own 2),(1,.clo 75 [0,1]),(5,SI s73_5),(6,SI s73_6)],[.box 39 (Ty.split tCU c),.box 39 (Ty.split tCU d),.row 37 tP r73_2],3,[⟨23,[.seq 12],11,3,[(2,.box 0 0),(3,.box 1 0),(26,.own 2)],0,none⟩]⟩
def KH(c d:BCU)(k:KT):OLR:=match decide (fX c d/\cG (dC c) (dC d)=false)with|true=>(match decide (fX c d)with|true=>(match decide (((iu (dC c) (dC d)).map enc).length<=100000)with|true=>k 6 (kb c d 0)|false=>none)|false=>none)|false=>none
theorem XA(c d:BCU):RS ko 23 [.d tCU c,.d tCU d] (KH c d):=rsX
def jH(c d:BCU)(s98_8:Int)(k:KT):OLR:=match decide (s98_8<(((iu (dC c) (dC d)).map enc).length:Int))with|true=>(match aG ((iu (dC c) (dC d)).map enc) s98_8 with|some _=>(match true,((iu (dC c) (dC d)).map enc)[(s98_8).toNat]? with|true,some x1=>(match decide (okC 4000 c/\okP 4000 x1)with|true=>(match !(gT (dC c) (dec x1))with|true=>(match s98_8==(-1)with|true=>(match decide (gI c ((iu (dC c) (dC d)).map enc))with|true=>(match decide (fX c d/\cG (dC c) (dC d)=false)with|true=>some [RV.d (.sl tP) (bR (dC c) ((iu (dC c) (dC d)).map enc)),RV.d .bool false]|false=>none)|false=>none)|false=>k 16 (dz c d s98_8 (i64.wrap (s98_8+1)) ((iu (dC c) (dC d)).map enc)))|false=>(match decide (okC 4000 d/\okP 4000 x1)with|true=>(match !(gT (dC d) (dec x1))with|true=>(match s98_8==(-1)with|true=>(match decide (gI c ((iu (dC c) (dC d)).map enc))with|true=>(match decide (fX c d/\cG (dC c) (dC d)=false)with|true=>some [RV.d (.sl tP) (bR (dC c) ((iu (dC c) (dC d)).map enc)),RV.d .bool false]|false=>none)|false=>none)|false=>k 16 (dz c d s98_8 (i64.wrap (s98_8+1)) ((iu (dC c) (dC d)).map enc)))|false=>k 6 (kb c d (i64.wrap (s98_8+1))))|false=>none))|false=>none)|_,_=>none)|none=>none)|false=>(match(-1)==(-1)with|true=>(match decide (gI c ((iu (dC c) (dC d)).map enc))with|true=>(match decide (fX c d/\cG (dC c) (dC d)=false)with|true=>some [RV.d (.sl tP) (bR (dC c) ((iu (dC c) (dC d)).map enc)),RV.d .bool false]|false=>none)|false=>none)|false=>k 16 (dz c d (-1) (i64.wrap ((-1)+1)) ((iu (dC c) (dC d)).map enc)))
theorem ni(c d:BCU)(s98_8:Int):RN ko 6 (kb c d s98_8) (jH c d s98_8):=rnX
def iM(c d:BCU)(s73_5 s73_6:Int)(r73_2:List BP)(k:KT):OLR:=match decide (s73_6<(r73_2.length:Int))with|true=>(match aG r73_2 s73_6 with|some _=>(match true,r73_2[(s73_6).toNat]? with|true,some x1=>(match decide (okC 4000 c/\okP 4000 x1)with|true=>(match !(gT (dC c) (dec x1))with|true=>k 16 (dz c d s73_5 (i64.wrap (s73_6+1)) r73_2)|false=>(match decide (okC 4000 d/\okP 4000 x1)with|true=>(match !(!(gT (dC d) (dec x1)))with|true=>(match aG r73_2 s73_5 with|some _=>(match true,r73_2[(s73_5).toNat]? with|true,some _=>k 16 (dz c d (i64.wrap (s73_5+1)) (i64.wrap (s73_6+1)) (r73_2.set ((s73_5).toNat) x1))|_,_=>none)|none=>none)|false=>k 16 (dz c d s73_5 (i64.wrap (s73_6+1)) r73_2))|false=>none))|false=>none)|_,_=>none)|none=>none)|false=>(match decide ((0:Int)<=s73_5/\s73_5<=(r73_2.length:Int)/\(r73_2.length:Int)<=(r73_2.length:Int))with|true=>(match decide ((0:Int)<=0/\0<=s73_5/\s73_5<=((gv (Ty.zero tP) ((s73_5:Int).toNat) (((r73_2.length:Int):Int).toNat-(s73_5:Int).toNat) r73_2).length:Int))with|true=>(match decide (gI c (((gv (Ty.zero tP) ((s73_5:Int).toNat) (((r73_2.length:Int):Int).toNat-(s73_5:Int).toNat) r73_2).drop ((0:Int).toNat)).take ((s73_5:Int).toNat-(0:Int).toNat)))with|true=>(match decide (fX c d/\cG (dC c) (dC d)=false)with|true=>some [RV.d (.sl tP) (bR (dC c) (((gv (Ty.zero tP) ((s73_5:Int).toNat) (((r73_2.length:Int):Int).toNat-(s73_5:Int).toNat) r73_2).drop ((0:Int).toNat)).take ((s73_5:Int).toNat-(0:Int).toNat))),RV.d .bool false]|false=>none)|false=>none)|false=>none)|false=>none)
theorem lE(c d:BCU)(s73_5 s73_6:Int)(r73_2:List BP):RN ko 16 (dz c d s73_5 s73_6 r73_2) (iM c d s73_5 s73_6 r73_2):=rnX
section
variable (c d:BCU) (h:gi c d) (hs:cG (dC c) (dC d)=false)
include h hs
theorem BK(L:List BP)(hl:L.length<=4)(ho:∀x∈L,okP 4000 x):(match decide (gI c L)with
  |true=>(match decide (fX c d/\cG (dC c) (dC d)=false)with
   |true=>some [RV.d (.sl tP) (bR (dC c) L),RV.d .bool false]
   |false=>none)
  |false=>none)=some [RV.d (.sl tP) (bR (dC c) L),RV.d .bool (false)]:=by
 have hc:okC 4000 c:=bZ h.1.1 (by decide) (by decide);have hd:okC 4000 d:=bZ h.2.1 (by decide) (by decide);have q:gI c L:=⟨hc,by omega,ho⟩
 have hn:(bR (dC c) L).length<=L.length:=jo;have _q2:wI c d (bR (dC c) L):=⟨⟨hc,by omega,λx hx=>ho x (dv hx)⟩,hd⟩
 rw[dT q,dT (show fX c d/\cG (dC c) (dC d)=false from⟨⟨h.1.2,h.2.2⟩,hs⟩)]
theorem xT:∀(S:List BP) (L J:List BP),J≠[]->(∀x∈L++(J++S),okP 4000 x)->(L++(J++S)).length<=4->
  ko.Runs 16 (dz c d (L.length:Int) ((L.length+J.length:Nat):Int) (L++(J++S))) [RV.d (.sl tP) (bR (dC c) (L++S.filter (gN c d))),RV.d .bool (false)]
 |[],L,J,hJ,hok,h4=>by
  have h4':L.length+J.length<=4:=by simpa using h4
  obtain⟨c1,c2⟩:=Gv (Ty.zero tP) L J;refine lE _ _ _ _ _ ⟨0,?_⟩;unfold iM;rw[afO,bO (by simp)];dsimp only;rw[dT (show(0:Int)<=(L.length:Int)/\(L.length:Int)<=((L++J).length:Int)/\((L++J).length:Int)<=((L++J).length:Int) by simp only[afN];omega)];rw[dT (show(0:Int)<=0/\0<=(L.length:Int)/\(L.length:Int)<=((gv (Ty.zero tP) ((L.length:Int).toNat) ((((L++J).length:Int)).toNat-(L.length:Int).toNat) (L++J)).length:Int) by omega)];rw[c1,ah5,afO];exact BK c d h hs L (by omega) λx hx=>hok x (ags _ hx)
 |q::S,L,J,hJ,hok,h4=>by
  have h4':L.length+(J.length+(S.length+1))<=4:=by simpa using h4
  have hc:okC 4000 c:=bZ h.1.1 (by decide) (by decide);have hd:okC 4000 d:=bZ h.2.1 (by decide) (by decide);have hq:okP 4000 q:=hok q (by simp)
  have g1:(L++(J++q::S))[L.length+J.length]?=some q:=by
   have:=lj (L++J) q S;rw[afN,afG]at this;exact this
  obtain⟨y,T,rfl⟩:=List.exists_cons_of_ne_nil hJ;have g2:(L++(y::T++q::S))[L.length]?=some y:=lj L y (T++q::S)
  have hset:(L++(y::T++q::S)).set L.length q=(L++[q])++((T++[q])++S):=by
   have:=z5 y q (T++q::S) L;rw[show y::T++q::S=y::(T++q::S) from rfl,this];simp
  have e2:L++(y::T++q::S)=L++((y::T++[q])++S):=by simp
  have key:∀r n,(match gN c d q with
    |true=>ko.k n 16 (dz c d ((L.length+1:Nat):Int) ((L.length+(y::T).length+1:Nat):Int) ((L++[q])++((T++[q])++S)))
    |false=>ko.k n 16 (dz c d (L.length:Int) ((L.length+(y::T).length+1:Nat):Int) (L++(y::T++q::S))))=some r->
    iM c d (L.length:Int) ((L.length+(y::T).length:Nat):Int) (L++(y::T++q::S)) (ko.k n)=some r:=λr n hk=>by
   unfold iM;rw[aY (by simp only[afN,afD];omega),am,g1,show((L.length+(y::T).length:Nat):Int).toNat=L.length+(y::T).length by omega,g1];dsimp only;rw[dT (show okC 4000 c/\okP 4000 q from⟨hc,hq⟩),dT (show okC 4000 d/\okP 4000 q from⟨hd,hq⟩),bH (k:=L.length+(y::T).length) (by simp only[afD]at*;omega),bH (k:=L.length) (by omega),am,g2,show((L.length:Nat):Int).toNat=L.length by omega,g2,hset];unfold gN at hk;cases r1:gT (dC c) (dec q)<;>cases r2:gT (dC d) (dec q)<;>rw[r1,r2]at hk<;>exact hk
  rw[ag0];cases hk:gN c d q
  ·obtain⟨n,hn⟩:=xT S L (y::T++[q]) (by simp) (e2▸hok) (e2▸h4);refine lE _ _ _ _ _ ⟨n,key _ n ?_⟩;rw[hk,e2];rw[afN,afH,<-aht]at hn;exact hn
  ·obtain⟨n,hn⟩:=xT S (L++[q]) (T++[q]) (by simp) (λx hx=>by
    simp only[afL,afy,agF,ah6]at hx;rcases hx with(hx|hx)|(hx|hx)|hx
    ·exact hok x (by simp[hx])
    ·rw[hx];exact hq
    ·exact hok x (by simp[hx])
    ·rw[hx];exact hq
    ·exact hok x (by simp[hx])) (by simp at h4 ⊢;omega)
   refine lE _ _ _ _ _ ⟨n,key _ n ?_⟩;rw[hk];have n1:(L++[q]).length=L.length+1:=by simp
   have n2:L.length+1+(T++[q]).length=L.length+(y::T).length+1:=by simp;omega
   rw[n1,n2,afG L [q] (S.filter (gN c d))]at hn;exact hn
theorem Im(X:List BP)(hX:((iu (dC c) (dC d)).map enc)=X)(h4:X.length<=4)(hok:∀x∈X,okP 4000 x):∀(S A:List BP),A++S=X->A.filter (gN c d)=A->
  ko.Runs 6 (kb c d (A.length:Int)) [RV.d (.sl tP) (bR (dC c) (A++S.filter (gN c d))),RV.d .bool (false)]
 |[],A,hA,hf=>by
  rw[afO]at hA;refine ni _ _ _ ⟨0,?_⟩;unfold jH;rw[hX,<-hA,bO (by omega),ah5,afO];exact BK c d h hs A (hA▸h4) (hA▸hok)
 |q::S,A,hA,hf=>by
  have hc:okC 4000 c:=bZ h.1.1 (by decide) (by decide);have hd:okC 4000 d:=bZ h.2.1 (by decide) (by decide);have hq:okP 4000 q:=hok q (by rw[<-hA];simp);have g1:X[A.length]?=some q:=by rw[<-hA];exact lj A q S
  have hlen:A.length<X.length:=by rw[<-hA];simp
  have key:∀r n,(match gN c d q with
    |true=>ko.k n 6 (kb c d ((A.length+1:Nat):Int))
    |false=>ko.k n 16 (dz c d (A.length:Int) ((A.length+1:Nat):Int) X))=some r->
    jH c d (A.length:Int) (ko.k n)=some r:=λr n hk=>by
   unfold jH;rw[hX,aY hlen,am,g1,show((A.length:Nat):Int).toNat=A.length by omega,g1];dsimp only;rw[dT (show okC 4000 c/\okP 4000 q from⟨hc,hq⟩),dT (show okC 4000 d/\okP 4000 q from⟨hd,hq⟩),bH (k:=A.length) (by omega),show((A.length:Int)== -1)=false by rw[ag5];omega];unfold gN at hk;cases r1:gT (dC c) (dec q)<;>cases r2:gT (dC d) (dec q)<;>rw[r1,r2]at hk<;>exact hk
  rw[ag0];cases hk:gN c d q
  ·obtain⟨n,hn⟩:=xT c d h hs S A [q] (by simp) (by rw[agL,hA];exact hok) (by rw[agL,hA];exact h4);refine ni _ _ _ ⟨n,key _ n ?_⟩;rw[hk];rw[agL,hA]at hn;exact hn
  ·obtain⟨n,hn⟩:=Im X hX h4 hok S (A++[q]) (by rw[afG];exact hA) (by rw[List.filter_append,hf,ag0,hk];rfl);refine ni _ _ _ ⟨n,key _ n ?_⟩;rw[hk];have n1:(A++[q]).length=A.length+1:=by simp
   rw[n1,afG A [q] (S.filter (gN c d))]at hn;exact hn
end
theorem Km(c d:BCU)(h:gi c d)(hs:cG (dC c) (dC d)=false):CQq7 23 [.d tCU c,.d tCU d] [.d (.sl tP) (dY c d),.d .bool (qV c d)]:=by
 obtain⟨h4,ho⟩:=xw h;have e:nF c d=((iu (dC c) (dC d)).map enc):=by unfold nF;rw[hs];rfl
 rw[e]at h4 ho;obtain⟨n,hn⟩:=Im c d h hs _ rfl h4 ho _ [] rfl rfl;have e2:dY c d=bR (dC c) (List.filter (gN c d) ((iu (dC c) (dC d)).map enc)):=by unfold dY;rw[e]
 have e3:qV c d=false:=by unfold qV;rw[hs,e2];rfl
 rw[e2,e3];refine dm Pg (XA _ _ ⟨n,?_⟩);unfold KH;rw[dT (show fX c d/\cG (dC c) (dC d)=false from⟨⟨h.1.2,h.2.2⟩,hs⟩)];dsimp only;rw[dT (show fX c d from⟨h.1.2,h.2.2⟩)];dsimp only;rw[dT (afA h4 (by decide))];exact hn
def ZS:Cn 23 [tCU,tCU]:=cn λ(c d:BCU)=>lf (gi c d) [.d (.sl tP) (dY c d),.d .bool (qV c d)] λh=>by
 cases hs:cG (dC c) (dC d)
 ·exact Km c d h hs
 ·exact MW c d h hs
end
section
open RE
theorem B5{α:Type}{R:α->α->Prop}:∀{l:List α},l.Pairwise R->∀{a b},a∈l->b∈l->a=b\/R a b\/R b a
 |[],_,_,_,ha,_=>by cases ha
 |x::r,h,a,b,ha,hb=>by
  obtain⟨h1,h2⟩:=afK.1 h;rcases afy.1 ha with e|e<;>rcases afy.1 hb with g|g
  ·exact .inl (by rw[e,g])
  ·rw[e];exact .inr (.inl (h1 b g))
  ·rw[g];exact .inr (.inr (h1 a e))
  ·exact B5 h2 e g
theorem G9{c:Cv}(o:Qu c):∀{L:List BP},(∀x∈L,Spb c x)->oB c L=false->L.Pairwise λa b=>¬bz c (dec a) (dec b)<0
 |[],_,_=>by simp
 |[_],_,_=>by simp
 |x::y::r,hs,h=>by
  have h:(decide (bz c (dec x) (dec y)<0)||oB c (y::r))=false:=h;obtain⟨h1,h2⟩:=ahz.1 h;have h1:=agn h1;have hy:=hs y (by simp);have hx:=hs x (by simp);have ih:=G9 o (λz hz=>hs z (afw _ hz)) h2;refine afK.2 ⟨λz hz=>?_,ih⟩;rcases afy.1 hz with e|e
  ·rw[e];exact h1
  ·exact o.lt (hs z (by simp[e])) hy hx ((afK.1 ih).1 z e) h1
theorem Gf{c e:Cv}:∀{L:List BP},oL e L->oB c L=true->∃a b,a∈L/\b∈L/\bz e (dec a) (dec b)<0/\bz c (dec a) (dec b)<0
 |[],_,h=>by cases h
 |[_],_,h=>by cases h
 |x::y::r,hp,h=>by
  have h:(decide (bz c (dec x) (dec y)<0)||oB c (y::r))=true:=h;obtain⟨h1,h2⟩:=afK.1 hp;rcases Bool.or_eq_true_iff.1 h with g|g
  ·exact⟨x,y,by simp,by simp,h1 y (by simp),afp g⟩
  ·obtain⟨a,b,q1,q2,q3,q4⟩:=Gf h2 g;exact⟨a,b,afw _ q1,afw _ q2,q3,q4⟩
theorem M9{c e:Cv}(o:Qu c)(oe:Qu e){L:List BP}(hs:∀x∈L,Spb c x)(hse:∀x∈L,Spb e x)(hp:oL e L):
  oB c L=true↔∃a b,a∈L/\b∈L/\bz e (dec a) (dec b)<0/\bz c (dec a) (dec b)<0:=by
 refine⟨Gf hp,λ⟨a,b,ha,hb,h1,h2⟩=>?_⟩;cases h:oB c L with
 |true=>rfl
 |false=>
  have pw:=G9 o hs h;rcases B5 (List.Pairwise.and hp pw) ha hb with g|g|g
  ·rw[g]at h1;have:=oe.asy (hse b hb) (hse b hb) h1;omega
  ·exact absurd h2 g.2
  ·have:=oe.asy (hse a ha) (hse b hb) h1;omega
theorem xu{c p:BCU}{t:BP}:∀{N:List BP},p∈fj c N->p∈fj c (N++[t])
 |[],h=>by cases h
 |[_],h=>by cases h
 |x::y::r,h=>by
  have h:p∈fc c x y::fj c (y::r):=h;show p∈fc c x y::fj c (y::r++[t]);rcases afy.1 h with e|e
  ·rw[e];simp
  ·exact afw _ (xu e)
theorem wE{c p:BCU}{f:BP}:∀{N:List BP},p∈fj c N->p∈fj c (f::N)
 |[],h=>by cases h
 |[_],h=>by cases h
 |x::y::r,h=>by
  show p∈fc c f x::fj c (x::y::r);exact afw _ h
def aeA(c d:BCU)(S:List BP):Prop:=∃a b,a∈S/\b∈S/\bz (dC c) (dec a) (dec b)<0/\bz (dC (jE c d)) (dec a) (dec b)<0
theorem Be{c d:BCU}(hd:gdN d):gdN (jE c d):=by
 unfold jE;cases Cd c d
 ·exact hd
 ·exact hd.rev
theorem fQ{c d:BCU}{x:BP}(h:Spb (dC d) x):Spb (dC (jE c d)) x:=by
 unfold jE;cases Cd c d
 ·exact h
 ·exact⟨h.1,h.2⟩
theorem On{c d:BCU}(hc:gdN c)(hd:gdN d):qV c d=true↔cG (dC c) (dC d)=true/\aeA c d (dY c d):=by
 have kc:=hc.crp;have kd:=hd.crp;unfold qV;rw[afz];refine and_congr_right λhs=>?_;have hs':=vF hs
 have ho:∀x∈dY c d,Rpd (dec x:Pt)/\onR (dC c) (dec x)=true:=λx hx=>by
  obtain⟨_,_,s1,_,o1,_⟩:=lX hc hd hx;exact⟨s1.1,o1⟩
 have oD:=pe (Be (c:=c) hd).crp;have oc:=pe kc;have spM:=sP hc ho
 have spD:∀x∈eH c (dY c d),Spb (dC d) x:=λx hx=>by
  have:=(spM x hx).1.1;exact⟨this,m6 kc hs (spM x hx).1.2⟩
 have rep:∀x,Spb (dC c) x->Spb (dC d) x->onR (dC d) (dec x)=true->x∈eH c (dY c d)->∃y∈dY c d,aF (dec y) (dec x)=0:=λx s1 s2 o2 hx=>by
  have r:=s1.1;obtain⟨_,p2⟩:=If kc hc.ne (YX hc hd)
  have cas:x∈nF c d\/x∈dY c d:=by
   unfold nF;rw[hs];rcases sJ hx with e|e|⟨e,_⟩
   ·left;rw[e];simp
   ·left;rw[e];simp
   ·right;exact dv e
  rcases cas with g|g
  ·exact p2 x (agV.2 ⟨g,Rr hc hd r (spM x hx).2 o2⟩)
  ·exact⟨x,g,D0 r⟩
 have e0:uv c d (dY c d)=(fj c (eH c (dY c d))).any (uO d):=by
  unfold uv gK;rw[xl hc ho,cond_false,so]
 rw[e0];constructor
 ·intro h;obtain⟨p,hp,hcv⟩:=List.any_eq_true.1 h;obtain⟨x,y,hx,hy,hxy,rfl⟩:=FG (vp hc ho) hp;rw[He hc hd hs (spD x hx) (spD y hy) hxy]at hcv;obtain⟨h12,h3⟩:=afz.1 hcv;obtain⟨h1,h2⟩:=afz.1 h12;have h3:=afp h3;obtain⟨a,ha,ea⟩:=rep x (spM x hx).1 (spD x hx) h1 hx;obtain⟨b,hb,eb⟩:=rep y (spM y hy).1 (spD y hy) h2 hy;obtain⟨_,_,sa,sa',_,_⟩:=lX hc hd ha;obtain⟨_,_,sb,sb',_,_⟩:=lX hc hd hb;refine⟨a,b,ha,hb,?_,?_⟩
  ·rw[(ga kc sa (spM x hx).1 sb ea).1,(ga kc sb (spM y hy).1 (spM x hx).1 eb).2];exact hxy
  ·have kD:=(Be (c:=c) hd).crp;rw[(ga kD (fQ sa') (fQ (spD x hx)) (fQ sb') ea).1,(ga kD (fQ sb') (fQ (spD y hy)) (fQ (spD x hx)) eb).2];exact h3
 ·rintro ⟨a,b,ha,hb,h1,h2⟩
  cases hany:(fj c (eH c (dY c d))).any (uO d)with
  |true=>rfl
  |false=>
   have nocov:=List.any_eq_false.1 hany;have pw:=vp hc ho
   have part:∀N:List BP,(∀x∈N,x∈eH c (dY c d)/\onR (dC d) (dec x)=true)->oL (dC c) N->(∀p∈fj c N,¬uO d p=true)->oB (dC (jE c d)) N=false:=by
    intro N;induction N with
    |nil=>intro _ _ _;rfl
    |cons x r ih=>
     intro hN hpw hnc;cases r with
     |nil=>rfl
     |cons y r=>
      obtain⟨q1,q2⟩:=afK.1 hpw;have hx:=hN x (by simp);have hy:=hN y (by simp);have h0:=hnc (fc c x y) (by show _∈fc c x y::fj c (y::r);simp);rw[He hc hd hs (spD x hx.1) (spD y hy.1) (q1 y (by simp)),hx.2,hy.2,agc,agc]at h0;show(decide _||oB (dC (jE c d)) (y::r))=false;rw[Bool.eq_false_iff.2 h0,Bool.false_or];exact ih (λz hz=>hN z (afw _ hz)) q2 λp hp=>hnc p (wE hp)
   have onmid:∀x∈nL c (bR (dC c) (dY c d)),onR (dC d) (dec x)=true:=λx hx=>(lX hc hd (dv (agV.1 hx).1)).2.2.2.2.2
   have hpwD:∀x y,x∈eH c (dY c d)->y∈eH c (dY c d)->onR (dC d) (dec x)=true->onR (dC d) (dec y)=true->bz (dC c) (dec x) (dec y)<0->¬bz (dC (jE c d)) (dec x) (dec y)<0:=by
    have fin:∀N:List BP,(∀x∈N,x∈eH c (dY c d)/\onR (dC d) (dec x)=true)->oL (dC c) N->(∀p∈fj c N,¬uO d p=true)->∀x y,x∈N->y∈N->bz (dC c) (dec x) (dec y)<0->¬bz (dC (jE c d)) (dec x) (dec y)<0:=λN hN hpw hnc x y hx hy hxy h=>by
     have:=part N hN hpw hnc;rw[(M9 oD oc (λz hz=>fQ (spD z (hN z hz).1)) (λz hz=>(spM z (hN z hz).1).1) hpw).2 ⟨x,y,hx,hy,hxy,h⟩]at this;cases this
    intro x y hx hy ox oy;have ex:eH c (dY c d)=c.2.2.2.2.1::(nL c (bR (dC c) (dY c d))++[c.2.2.2.2.2]):=rfl;have sub1:(nL c (bR (dC c) (dY c d))++[c.2.2.2.2.2]).Sublist (eH c (dY c d)):=List.sublist_cons_self _ _;have sub2:(c.2.2.2.2.1::nL c (bR (dC c) (dY c d))).Sublist (eH c (dY c d)):=(List.sublist_append_left _ _).cons_cons _;have sub3:(nL c (bR (dC c) (dY c d))).Sublist (eH c (dY c d)):=(List.sublist_append_left _ _).trans sub1;cases of_:onR (dC d) (dec c.2.2.2.2.1)<;>cases ot:onR (dC d) (dec c.2.2.2.2.2)
    ·have inm:∀z,z∈eH c (dY c d)->onR (dC d) (dec z)=true->z∈nL c (bR (dC c) (dY c d)):=λz hz oz=>by
      rw[ex]at hz;rcases afy.1 hz with e|e
      ·rw[e,of_]at oz;cases oz
      ·rcases afL.1 e with e|e
       ·exact e
       ·rw[ago.1 e,ot]at oz;cases oz
     exact fin _ (λz hz=>⟨sub3.subset hz,onmid z hz⟩) (pw.sublist sub3) (λp hp=>nocov p (by rw[ex];exact wE (xu hp))) x y (inm x hx ox) (inm y hy oy)
    ·have inm:∀z,z∈eH c (dY c d)->onR (dC d) (dec z)=true->z∈nL c (bR (dC c) (dY c d))++[c.2.2.2.2.2]:=λz hz oz=>by
      rw[ex]at hz;rcases afy.1 hz with e|e
      ·rw[e,of_]at oz;cases oz
      ·exact e
     exact fin _ (λz hz=>⟨sub1.subset hz,by
      rcases afL.1 hz with e|e
      ·exact onmid z e
      ·rw[ago.1 e];exact ot⟩) (pw.sublist sub1) (λp hp=>nocov p (by rw[ex];exact wE hp)) x y (inm x hx ox) (inm y hy oy)
    ·have inm:∀z,z∈eH c (dY c d)->onR (dC d) (dec z)=true->z∈c.2.2.2.2.1::nL c (bR (dC c) (dY c d)):=λz hz oz=>by
      rw[ex]at hz;rcases afy.1 hz with e|e
      ·rw[e];simp
      ·rcases afL.1 e with e|e
       ·exact afw _ e
       ·rw[ago.1 e,ot]at oz;cases oz
     exact fin _ (λz hz=>⟨sub2.subset hz,by
      rcases afy.1 hz with e|e
      ·rw[e];exact of_
      ·exact onmid z e⟩) (pw.sublist sub2) (λp hp=>nocov p (by rw[ex,<-List.cons_append];exact xu hp)) x y (inm x hx ox) (inm y hy oy)
    ·exact fin _ (λz hz=>⟨hz,by
      rw[ex]at hz;rcases afy.1 hz with e|e
      ·rw[e];exact of_
      ·rcases afL.1 e with e|e
       ·exact onmid z e
       ·rw[ago.1 e];exact ot⟩) pw nocov x y hx hy
   have inc:∀z,z∈dY c d->∃y∈eH c (dY c d),aF (dec z) (dec y)=0:=λz hz=>by
    have rz:=(ho z hz).1;obtain⟨y,hy,ey⟩:=(E9 hc ho).2 z hz;have ry:=(ho y (dv hy)).1;cases h1:cZ y c.2.2.2.2.1
    ·cases h2:cZ y c.2.2.2.2.2
     ·refine⟨y,?_,mt ey⟩;unfold eH;refine afw _ (ags _ (agV.2 ⟨hy,?_⟩));rw[h1,h2];rfl
     ·have g:=agl.1 h2;have rt:=hc.crp.t.1;exact⟨c.2.2.2.2.2,by unfold eH;simp,H5 (r:=toC (dC c)) (mt ey) g⟩
    ·have g:=agl.1 h1;have rf:=hc.crp.f.1;exact⟨c.2.2.2.2.1,by unfold eH;simp,H5 (r:=frC (dC c)) (mt ey) g⟩
   obtain⟨x,hx,ex⟩:=inc a ha;obtain⟨y,hy,ey⟩:=inc b hb;obtain⟨_,_,sa,sa',_,oa⟩:=lX hc hd ha;obtain⟨_,_,sb,sb',_,ob⟩:=lX hc hd hb;have kD:=(Be (c:=c) hd).crp;have f1:onR (dC d) (dec x)=true:=by rw[<-Hk kd sa.1 (spM x hx).1.1 ex];exact oa
   have f2:onR (dC d) (dec y)=true:=by rw[<-Hk kd sb.1 (spM y hy).1.1 ey];exact ob
   rw[(ga kc sa (spM x hx).1 sb ex).1,(ga kc sb (spM y hy).1 (spM x hx).1 ey).2]at h1;rw[(ga kD (fQ sa') (fQ (spD x hx)) (fQ sb') ex).1,(ga kD (fQ sb') (fQ (spD y hy)) (fQ (spD x hx)) ey).2]at h2;exact absurd h2 (hpwD x y hx hy f1 f2 h1)
end
def CM(c:Cv):Bool:=(c.1||!cwC c)&&(em c (frC c)&&(em c (toC c)&&!(aF (frC c) (toC c)==0)))
def Ep(c d:Cv):Bool:=cG c d&&(cwC c==cwC d&&(aF (frC c) (frC d)==0&&aF (toC c) (toC d)==0))
def FW:List En:=[enT JC,enT nh,enL F3]
def K0(p:BP)(_k:KT):OLR:=og (o1 p.1) (og (o1 p.2.2.1) (og (o1 p.2.1) (og (o1 p.2.2.2.1) (og (o1 p.2.2.2.2) (og (o1 p.2.1) (match(aE (ah p.2.1) 0)==0 with|true=>(og (o1 p.2.2.2.1) (match(aE (ah p.2.2.2.1) 0)==0 with|true=>(og (o1 p.2.2.2.2) (some [RV.d .bool ((aE (ah p.2.2.2.2) 0)==0)]))|false=>(og (o1 p.2.2.2.2) (og (o1 p.2.2.2.2) (match decide ((aE (ah p.2.2.2.2) 0)>0)with|true=>some [RV.d .bool (!(fi (ah p.2.2.2.2)))]|false=>some [RV.d .bool false])))))|false=>(og (o1 p.2.2.2.2) (og (o1 p.2.2.2.2) (match decide ((aE (ah p.2.2.2.2) 0)>0)with|true=>some [RV.d .bool (!(fi (ah p.2.2.2.2)))]|false=>some [RV.d .bool false])))))))))
def X5:Cn 104 [tP]:=cn λ(p:BP)=>lf (okP 4000 p) [.d .bool true] λh=>by
 refine az FW (K0 p) ⟨0,?_⟩;have hp:=h;obtain⟨p,rfl,bp,rp⟩:=db hp;unfold K0;simp only[aW,Nat.reduceLeDiff,aq,av];rcases rp.rd with⟨h1,h2,h3⟩|⟨h1,h2,h3⟩
 ·rw[dT h1,dT h2,dT h3]
 ·rw[dT h2,h3];cases hb:decide (p.2.1=0)
  ·rfl
  ·cases hb2:decide (p.2.2.2.1=0)
   ·rfl
   ·exact absurd ⟨afp hb,afp hb2⟩ h1
def O7(c:BO3)(_k:KT):OLR:=og (o1 c.1) (og (o1 c.2.1) (og (o1 c.2.2) (og (o1 c.2.2) (some [RV.d .bool (decide ((aE (ah c.2.2) 0)>0))]))))
def XK:Cn 105 [tO]:=cn λ(c:BO3)=>lf (uV c) [.d .bool true] λh=>by
 refine az FW (O7 c) ⟨0,?_⟩;obtain⟨hk,h0⟩:=h;obtain⟨c,rfl,bc⟩:=aH hk;rw[aB]at h0;unfold O7;simp only[aW,Nat.reduceLeDiff,av,dT h0]
def NC(l:BO3)(_k:KT):OLR:=og (o1 l.1) (og (o1 l.2.1) (og (o1 l.2.2) (og (o1 l.1) (match(aE (ah l.1) 0) !=0 with|true=>some [RV.d .bool true]|false=>(og (o1 l.2.1) (some [RV.d .bool ((aE (ah l.2.1) 0) !=0)]))))))
def V9:Cn 106 [tO]:=cn λ(l:BO3)=>lf (Fg l) [.d .bool true] λh=>by
 refine az FW (NC l) ⟨0,?_⟩;obtain⟨hk,h0⟩:=h;obtain⟨l,rfl,bl⟩:=aH hk;rw[aB]at h0;unfold NC;simp only[aW,Nat.reduceLeDiff,bg];by_cases h1:l.1=0
 ·rw[dT h1,dF (h0.resolve_left (λh=>h h1))];rfl
 ·rw[dF h1];rfl
def Zk:List En:=[enT X5,enT XK,enT V9,enT TX,enT ue]
def Vn(c:BCU)(_k:KT):OLR:=let y1:OLR:=match decide (okC 3500 c/\okP 3500 c.2.2.2.2.1)with|true=>(match em (dC c) (dec c.2.2.2.2.1)with|true=>(og (decide (okC 3500 c/\okP 3500 c.2.2.2.2.2)) (match em (dC c) (dec c.2.2.2.2.2)with|true=>(og (decide (okP 4000 c.2.2.2.2.1/\okP 4000 c.2.2.2.2.2)) (some [RV.d .bool (!(aF (dec c.2.2.2.2.1) (dec c.2.2.2.2.2)==0))]))|false=>some [RV.d .bool false]))|false=>some [RV.d .bool false])|false=>none;let y2:OLR:=match !c.1 with|true=>(match c.2.2.2.1 with|true=>some [RV.d .bool false]|false=>(og (decide (Fg c.2.1)) y1))|false=>y1;og (decide (okP 4000 c.2.2.2.2.1)) (og (decide (okP 4000 c.2.2.2.2.2)) (match c.1 with|true=>(og (decide (uV c.2.2.1)) y2)|false=>y2))
def acN:Cn 42 [tCU]:=cn λ(c:BCU)=>lf (okC 3500 c) [.d .bool (CM (dC c))] λh=>by
 refine az Zk (Vn c) ⟨0,?_⟩;have h4:=bZ (k:=4000) h (by decide) (by decide);unfold Vn CM;rw[dT (show okC 3500 c/\okP 3500 c.2.2.2.2.1 from⟨h,h.2.2.1⟩),dT (show okC 3500 c/\okP 3500 c.2.2.2.2.2 from⟨h,h.2.2.2⟩),dT (show okP 4000 c.2.2.2.2.1/\okP 4000 c.2.2.2.2.2 from⟨h4.2.2.1,h4.2.2.2⟩),dT h4.2.2.1,dT h4.2.2.2];have e1:(dC c).1=c.1:=rfl;have e2:cwC (dC c)=c.2.2.2.1:=rfl;have e3:frC (dC c)=dec c.2.2.2.2.1:=rfl;have e4:toC (dC c)=dec c.2.2.2.2.2:=rfl;rw[e1,e2,e3,e4];cases ha:c.1
 ·have h2:=dT (p:=Fg c.2.1) (i:=inferInstance) (h.2.1 ha);rw[h2];cases c.2.2.2.1<;>cases em (dC c) (dec c.2.2.2.2.1)<;>cases em (dC c) (dec c.2.2.2.2.2)<;>rfl
 ·have h2:=dT (p:=uV c.2.2.1) (i:=inferInstance) (h.1 ha);rw[h2];cases em (dC c) (dec c.2.2.2.2.1)<;>cases em (dC c) (dec c.2.2.2.2.2)<;>rfl
def Yt:List En:=[enT VC,enT ue]
def U4(a b:BCU)(_k:KT):OLR:=og (decide (fX a b)) (match cG (dC a) (dC b)with|true=>(match a.2.2.2.1==b.2.2.2.1 with|true=>(og (decide (okP 4000 a.2.2.2.2.1/\okP 4000 b.2.2.2.2.1)) (match aF (dec a.2.2.2.2.1) (dec b.2.2.2.2.1)==0 with|true=>(og (decide (okP 4000 a.2.2.2.2.2/\okP 4000 b.2.2.2.2.2)) (some [RV.d .bool (aF (dec a.2.2.2.2.2) (dec b.2.2.2.2.2)==0)]))|false=>some [RV.d .bool false]))|false=>some [RV.d .bool false])|false=>some [RV.d .bool false])
def ac0:Cn 43 [tCU,tCU]:=cn λ(a b:BCU)=>lf (gi a b) [.d .bool (Ep (dC a) (dC b))] λh=>by
 refine az Yt (U4 a b) ⟨0,?_⟩;obtain⟨⟨a1,a2⟩,b1,b2⟩:=h;have a4:=bZ (k:=4000) a1 (by decide) (by decide);have b4:=bZ (k:=4000) b1 (by decide) (by decide);unfold U4 Ep;rw[dT (show fX a b from⟨a2,b2⟩),dT (show okP 4000 a.2.2.2.2.1/\okP 4000 b.2.2.2.2.1 from⟨a4.2.2.1,b4.2.2.1⟩),dT (show okP 4000 a.2.2.2.2.2/\okP 4000 b.2.2.2.2.2 from⟨a4.2.2.2,b4.2.2.2⟩)];have e2:∀c,cwC (dC c)=c.2.2.2.1:=λ_=>rfl;have e3:∀c,frC (dC c)=dec c.2.2.2.2.1:=λ_=>rfl;have e4:∀c,toC (dC c)=dec c.2.2.2.2.2:=λ_=>rfl;rw[e2,e2,e3,e3,e4,e4];cases cG (dC a) (dC b)<;>cases(a.2.2.2.1==b.2.2.2.1)<;>cases(aF (dec a.2.2.2.2.1) (dec b.2.2.2.2.1)==0)<;>rfl
def Xz:List En:=[enT acN,enT ac0]
def No(c d:BCU)(_k:KT):OLR:=og (decide (okC 3500 c)) (match CM (dC c)with|true=>(og (decide (gi c d)) (some [RV.d .bool (Ep (dC c) (dC d))]))|false=>some [RV.d .bool false])
def W8:Cn 11 [tCU,tCU]:=cn λ(c d:BCU)=>lf (gi c d) [.d .bool (CM (dC c)&&Ep (dC c) (dC d))] λh=>by
 refine az Xz (No c d) ⟨0,?_⟩;unfold No;rw[dT (bZ (k:=3500) h.1.1 (by decide) (by decide)),dT h];cases CM (dC c)<;>rfl
section
open RE
section
variable {α β:Type} (f:α->β)
theorem D2{lt:α->α->Bool}{lt':β->β->Bool}(h:∀a b,lt' (f a) (f b)=lt a b)(a:α):∀r:List α,jd lt' (r.map f) (f a)=(jd lt r a).map f
 |[]=>rfl
 |b::r=>by
  have ih:=D2 h a r;simp only[ahD,jd,h];cases lt a b
  ·rfl
  ·simp only[cond_true,ahD,ih]
theorem C6{lt:α->α->Bool}{lt':β->β->Bool}(h:∀a b,lt' (f a) (f b)=lt a b):∀(l r:List α),(l.map f).foldl (jd lt') (r.map f)=(l.foldl (jd lt) r).map f
 |[],_=>rfl
 |a::l,r=>by
  rw[ahD,ag7,ag7,D2 f h,C6 h]
theorem Ma{lt:α->α->Bool}{lt':β->β->Bool}(h:∀a b,lt' (f a) (f b)=lt a b)(l:List α):qJ lt' (l.map f)=(qJ lt l).map f:=by
 unfold qJ;have:=C6 f h l [];rw[List.map_nil]at this;rw[this,List.map_reverse]
theorem Ct{g:α->α->Bool}{g':β->β->Bool}(h:∀a b,g' (f a) (f b)=g a b):∀(l:List α) (p:α),fO g' (f p) (l.map f)=(fO g p l).map f
 |[],_=>rfl
 |q::r,p=>by
  have ih:=Ct h r q;simp only[ahD,fO,h];cases g q p
  ·simp only[cond_false,ahD,ih]
  ·exact ih
theorem KS{g:α->α->Bool}{g':β->β->Bool}(h:∀a b,g' (f a) (f b)=g a b)(l:List α):tT g' (l.map f)=(tT g l).map f:=by
 cases l with
 |nil=>rfl
 |cons x r=>
  simp only[ahD,tT];rw[Ct f h]
end
def DA(c d:Cv):List Pt:=tT (λa b=>aF a b==0) (qJ (λa b=>decide (uS c a b<0)) ((bif cG c d then [frC c,toC c,frC d,toC d]else iu c d).filter λp=>gT c p&&gT d p))
theorem Cp{c d:BCU}(h1:c.2.2.2.2.1=enc (frC (dC c)))(h2:c.2.2.2.2.2=enc (toC (dC c)))(h3:d.2.2.2.2.1=enc (frC (dC d)))(h4:d.2.2.2.2.2=enc (toC (dC d))):dY c d=(DA (dC c) (dC d)).map enc:=by
 have e:nF c d=(bif cG (dC c) (dC d)then [frC (dC c),toC (dC c),frC (dC d),toC (dC d)]else iu (dC c) (dC d)).map enc:=by
  unfold nF;cases cG (dC c) (dC d)
  ·rfl
  ·simp only[cond_true,ahD,List.map_nil,<-h1,<-h2,<-h3,<-h4]
 unfold dY DA bR;rw[e,List.filter_map]
 have e2:(gN c d∘enc)=λp:Pt=>gT (dC c) p&&gT (dC d) p:=by
  funext p;show(gT (dC c) (dec (enc p))&&gT (dC d) (dec (enc p)))=_;rw[aB]
 rw[e2,Ma (f:=(enc:Pt->BP)) (lt:=λa b=>decide (uS (dC c) a b<0)) (λa b=>by unfold ltP;rw[aB,aB]),KS (f:=(enc:Pt->BP)) (g:=λa b=>aF a b==0) (λa b=>by unfold cZ;rw[aB,aB])]
abbrev uA1:Rat×Rat:=(Rat.divInt 0 1,Rat.divInt 1 1)
abbrev uA2:Rat×Rat:=(Rat.divInt (-1) 1,Rat.divInt 0 1)
abbrev uA3:Rat×Rat:=(Rat.divInt 0 1,Rat.divInt (-1) 1)
abbrev uS1:Rat×Rat:=(Rat.divInt (-4) 2,Rat.divInt 1 2)
abbrev uS2:Rat×Rat:=(Rat.divInt 4 2,Rat.divInt 1 2)
abbrev uO1:Rat×Rat:=(Rat.divInt (-3) 5,Rat.divInt 4 5)
abbrev uO2:Rat×Rat:=(Rat.divInt 1 1,Rat.divInt 0 1)
abbrev lC2:Ln:=(((0:Int):Rat),((0:Int):Rat),((2:Int):Rat))
def xA:BCU:=(true,l0B,enc ((0,0,1):Ln),false,enc (atP uA1),enc (atP uA3))
def xS:BCU:=(false,enc ((0,4,2):Ln),l0B,false,enc (atP uS1),enc (atP uS2))
def xF:BCU:=(true,l0B,enc lC2,false,enc (uq lC2),enc (tF lC2))
def xG:BCU:=(true,l0B,enc lC2,false,enc (tF lC2),enc (uq lC2))
def qA:Cv:=(true,(0,0,0),(0,0,1),false,atP uA1,atP uA3)
def qS:Cv:=(false,(0,4,2),(0,0,0),false,atP uS1,atP uS2)
def qF:Cv:=(true,(0,0,0),lC2,false,uq lC2,tF lC2)
def qG:Cv:=(true,(0,0,0),lC2,false,tF lC2,uq lC2)
def pX0:Pt:=(0,-4,1/2,0,3/64)
theorem Cs:dC xA=qA:=by unfold dC xA qA l0B;simp only[aB]
theorem HI:dC xS=qS:=by unfold dC xS qS l0B;simp only[aB]
theorem CW:dC xF=qF:=by unfold dC xF qF l0B;simp only[aB]
theorem Dj:dC xG=qG:=by unfold dC xG qG l0B;simp only[aB]
theorem aaP:J5 uA1 uA2 uA3=xA:=by
 have h1:decide (da uA1 uA2 uA3=0)=false:=by decide+kernel
 have h2:oH uA1 uA2 uA3=(0,0,1):=by decide+kernel
 have h3:decide (rv uA1 uA2 uA3>0)=true:=by decide+kernel
 unfold J5 xA;rw[h1,h2,h3];rfl
theorem aaS:Nf uS1 uS2=xS:=by
 have h1:rY uS1 uS2=false:=by decide+kernel
 have h2:qs uS1 uS2=(0,4,2):=by decide+kernel
 unfold Nf xS;rw[h1,h2];rfl
theorem ZA:RB (enc lC2)=[xF,xG]:=by
 unfold RB xF xG;rw[aB]
theorem aaZ:dY xS xA=[enc pX0]:=by
 have:DA qS qA=[pX0]:=by decide+kernel
 rw[Cp (by rw[HI];rfl) (by rw[HI];rfl) (by rw[Cs];rfl) (by rw[Cs];rfl),HI,Cs,this];rfl
theorem ad6:qV xS xA=false:=by
 unfold qV;rw[HI,Cs,show cG qS qA=false by decide+kernel];rfl
theorem aaA:dY xF xG=(DA qF qG).map enc:=by
 rw[Cp (by rw[CW];rfl) (by rw[CW];rfl) (by rw[Dj];rfl) (by rw[Dj];rfl),CW,Dj]
theorem aeT:(DA qF qG).length=2:=by decide+kernel
section
theorem bI(n:Int)(h:a9 n):Bd (n:Rat) 3:=fx h
theorem bQ(n d:Int)(h:fh n d):Bd (Rat.divInt n d) 3:=P9 h.1 h.2.1 h.2.2
theorem bV(n d m e:Int)(h:fh n d)(h':fh m e):Bd ((Rat.divInt n d,Rat.divInt m e):Rat×Rat) 3:=by
 have:=bQ n d h;have:=bQ m e h';exact(inferInstance:Bd ((Rat.divInt n d,Rat.divInt m e):Rat×Rat) _).mono (by decide)
theorem oAt{v:Rat×Rat}{k:Nat}(h:Bd v 3)(hk:10<=k)(hk':k<=480000):okP k (enc (atP v)):=afp (aQ (x:=atP v) (afA (by decide) hk) hk')
end
theorem Ky:mG xA:=by
 have b0:=bI 0 (by decide);have b1:=bI 1 (by decide);have z0:Bd (0:Rat) 3:=b0;have z1:Bd (1:Rat) 3:=b1;refine⟨⟨λ_=>⟨afp (okd (x:=((0,0,1):Ln)) (by decide) (by decide)),?_⟩,λh=>(by cases h),oAt (bV _ _ _ _ (by decide) (by decide)) (by decide) (by decide),oAt (bV _ _ _ _ (by decide) (by decide)) (by decide) (by decide)⟩,λ_=>?_,λh=>(by cases h)⟩
 ·show(0:Rat)<(dec (enc ((0,0,1):Ln)):Ln).2.2;rw[aB];decide+kernel
 ·exact gJ (c:=((0,0,1):Ln)) (h:=⟨z0.mono (by decide),z0.mono (by decide),z1.mono (by decide)⟩) (by decide+kernel)
theorem Vz:mG xS:=by
 have b0:=bI 0 (by decide);have b2:=bI 2 (by decide);have b4:=bI 4 (by decide);have z0:Bd (0:Rat) 3:=b0;have z2:Bd (2:Rat) 3:=b2;have z4:Bd (4:Rat) 3:=b4;refine⟨⟨λh=>(by cases h),λ_=>⟨afp (okd (x:=((0,4,2):Ln)) (by decide) (by decide)),?_⟩,oAt (bV _ _ _ _ (by decide) (by decide)) (by decide) (by decide),oAt (bV _ _ _ _ (by decide) (by decide)) (by decide) (by decide)⟩,λh=>(by cases h),λ_=>?_⟩
 ·show(dec (enc ((0,4,2):Ln)):Ln).1≠0\/(dec (enc ((0,4,2):Ln)):Ln).2.1≠0;rw[aB];exact .inr (by decide+kernel)
 ·exact kL (l:=((0,4,2):Ln)) (h:=⟨z0.mono (by decide),z4.mono (by decide),z2.mono (by decide)⟩) (.inr (by decide+kernel))
theorem bC2:BdC lC2:=⟨(bI 0 (by decide)).mono (by decide),(bI 0 (by decide)).mono (by decide),(bI 2 (by decide)).mono (by decide)⟩
theorem Xe:cg (enc lC2):=gJ (h:=bC2) (by decide+kernel)
theorem okE:okP 580 (enc (uq lC2))/\okP 580 (enc (tF lC2)):=by
 have b0:=bI 0 (by decide);have b1:=bI 1 (by decide);have b2:=bI 2 (by decide);have bm:Bd (-1:Rat) 3:=bI (-1) (by decide);have z0:Bd (0:Rat) 3:=b0;have z1:Bd (1:Rat) 3:=b1;have nn:Nn lC2.2.2:=⟨by decide+kernel⟩
 have f1:Bd (uq lC2) 580:=zX (a:=3) (b:=3) (c:=3) b0 bm b0 z0 b2 (by decide);have f2:Bd (tF lC2) 580:=zX (a:=3) (b:=3) (c:=3) b0 z1 b0 z0 b2 (by decide);have r1:Rpd (uq lC2):=Br;have r2:Rpd (tF lC2):=Br;exact⟨afp (aQ (afs _) (by decide)),afp (aQ (afs _) (by decide))⟩
theorem aco:uV (enc lC2):=by
 have:=bC2;have bl:Bd lC2 13:=EZ;exact⟨afp (okd (by decide) (by decide)),by rw[aB];decide+kernel⟩
theorem Tk:gdN xF:=by
 refine⟨⟨⟨λ_=>aco,λh=>(by cases h),okE.1,okE.2⟩,λ_=>Xe,λh=>(by cases h)⟩,?_,?_,?_⟩<;>rw[CW]<;>decide+kernel
theorem Up:gdN xG:=by
 refine⟨⟨⟨λ_=>aco,λh=>(by cases h),okE.2,okE.1⟩,λ_=>Xe,λh=>(by cases h)⟩,?_,?_,?_⟩<;>rw[Dj]<;>decide+kernel
theorem aep:qV xF xG=false:=by
 cases h:qV xF xG with
 |false=>rfl
 |true=>
  obtain⟨_,a,b,ha,hb,h1,h2⟩:=(On Tk Up).1 h;rw[aaA]at ha hb;obtain⟨p,hp,rfl⟩:=agE.1 ha;obtain⟨q,hq,rfl⟩:=agE.1 hb;have hr:jE xF xG=xG:=rfl;rw[hr,Dj,aB,aB]at h2;rw[CW,aB,aB]at h1;have key:∀p∈DA qF qG,∀q∈DA qF qG,¬(bz qF p q<0/\bz qG p q<0):=by decide+kernel
  exact absurd ⟨h1,h2⟩ (key p hp q hq)
theorem Z0:okP 4000 (enc pX0):=by
 have h:enc pX0∈nF xS xA:=by
  have:enc pX0∈dY xS xA:=by rw[aaZ];simp
  exact(agV.1 (dv this)).1
 exact(xw ⟨Vz,Ky⟩).2 _ h
def Xg:List En:=[enL FI]
def Ia(x y d:Int)(_k:KT):OLR:=og (decide (fh x d)) (og (decide (fh y d)) (some [RV.d tV (hid (ao (Rat.divInt x d)),hid (ao (Rat.divInt y d)))]))
def PU:Cn 21 [aiy,aiy,aiy]:=cn λ(x y d:Int)=>lf (fh x d/\fh y d) [.d tV (enc ((Rat.divInt x d,Rat.divInt y d):Rat×Rat))] λh=>by
 refine az Xg (Ia x y d) ⟨0,?_⟩;unfold Ia;rw[dT h.1,dT h.2];simp only[bL];rfl
def KC:List En:=[enL PU,enL XL,enL XM,enL ZS,enL abu,enT Ik,enL qx,enL FI,enL N8,enL zR,enL L8,enT Wm]
def ZZ:Ctx:=CX (ens KC) []
def Vi(_k:KT):OLR:=let y1:=hid (enc ((Rat.divInt (0:Int) (1:Int),Rat.divInt (1:Int) (1:Int)):Rat×Rat));let y2:=hid (enc ((Rat.divInt ((-1):Int) (1:Int),Rat.divInt (0:Int) (1:Int)):Rat×Rat));let y3:=hid (enc ((Rat.divInt (0:Int) (1:Int),Rat.divInt ((-1):Int) (1:Int)):Rat×Rat));let y4:=hid (enc ((Rat.divInt ((-4):Int) (2:Int),Rat.divInt (1:Int) (2:Int)):Rat×Rat));let y5:=hid (enc ((Rat.divInt (4:Int) (2:Int),Rat.divInt (1:Int) (2:Int)):Rat×Rat));let y6:=hid (Nf (dec y4) (dec y5));let y7:=hid (J5 (dec y1) (dec y2) (dec y3));let y8:=ao ((0:Int):Rat);let y9:=RB (hid y8,(hid y8,hid (ao ((2:Int):Rat))));let y10:=hid (ao (Rat.divInt ((-1):Int) (2:Int)));let y11:=hid (ao ((3:Int):Rat));let y12:=hid (enc ((Rat.divInt ((-3):Int) (5:Int),Rat.divInt (4:Int) (5:Int)):Rat×Rat));let y13:=hid (enc (atP (dec y12)));let y14:=hid (enc ((Rat.divInt (1:Int) (1:Int),Rat.divInt (0:Int) (1:Int)):Rat×Rat));let y15:=hid (enc (atP (dec y14)));let y16:=hid (enc (mkR (ah (hid y8)) (ah y10) (ah y11)));og (decide (fh (0:Int) (1:Int)/\fh (1:Int) (1:Int))) (og (decide (fh ((-1):Int) (1:Int)/\fh (0:Int) (1:Int))) (og (decide (fh (0:Int) (1:Int)/\fh ((-1):Int) (1:Int))) (og (decide (ok (Rat×Rat) 100 y1/\ok (Rat×Rat) 100 y2/\ok (Rat×Rat) 100 y3)) (og (decide (fh ((-4):Int) (2:Int)/\fh (1:Int) (2:Int))) (og (decide (fh (4:Int) (2:Int)/\fh (1:Int) (2:Int))) (og (decide (ok (Rat×Rat) 100 y4/\ok (Rat×Rat) 100 y5)) (og (decide (gi y6 y7)) (og (decide (a9 (0:Int))) (og (decide (a9 (0:Int))) (og (decide (a9 (2:Int))) (og (decide (cg (hid y8,(hid y8,hid (ao ((2:Int):Rat)))))) (match(pP (dec y1) (dec y2) (dec y3)) !=0 with|true=>some [RV.d .bool false]|false=>(match(pS (dec y4) (dec y5)) !=0 with|true=>some [RV.d .bool false]|false=>(match((dY y6 y7).length:Int) !=1 with|true=>some [RV.d .bool false]|false=>(match qV y6 y7 with|true=>some [RV.d .bool false]|false=>(match(y9.length:Int) !=2 with|true=>some [RV.d .bool false]|false=>(og (decide (a9 (0:Int))) (og (decide (fh ((-1):Int) (2:Int))) (og (decide (a9 (3:Int))) (og (decide (ok Rat 100000 (hid y8)/\ok Rat 100000 y10/\ok Rat 100000 y11/\0<=ah y11)) (match aG y9 0 with|some x1=>(match aG y9 1 with|some x2=>(og (decide (gi x1 x2)) (match !((((y7.2).2).2).1)with|true=>(og (decide (fh ((-3):Int) (5:Int)/\fh (4:Int) (5:Int))) (og (decide (ok (Rat×Rat) 100000 y12)) (og (decide (okC 4000 y7/\okP 4000 y13)) (match onP (dC y7) (dec y13)with|true=>(og (decide (fh (1:Int) (1:Int)/\fh (0:Int) (1:Int))) (og (decide (ok (Rat×Rat) 100000 y14)) (og (decide (okC 4000 y7/\okP 4000 y15)) (match !(onP (dC y7) (dec y15))with|true=>(match aG (dY y6 y7) 0 with|some x3=>(og (decide (okP 4000 x3)) (og (decide (okT 15000 (hid (enc (xP (dec x3))))/\okT 15000 y16)) (match bj (dec (hid (enc (xP (dec x3))))) (dec y16)==0 with|true=>(match((dY x1 x2).length:Int)==2 with|true=>some [RV.d .bool (!(qV x1 x2))]|false=>some [RV.d .bool false])|false=>some [RV.d .bool false])))|none=>none)|false=>some [RV.d .bool false]))))|false=>some [RV.d .bool false]))))|false=>some [RV.d .bool false]))|none=>none)|none=>none)))))))))))))))))))))
theorem adO:RS ZZ 7 [] (Vi):=rsX
def aav:Cn 7 []:=cn<|lf True [.d .bool true] λ_=>by
 have rX:Rpd pX0:=by have:=fd Z0;rwa [aB]at this
 obtain⟨v0,e0,bX,_⟩:=db Z0;have e0:v0=pX0:=by have:=congrArg (dec:BP->Pt) e0;rwa [aB,aB,eq_comm]at this
 rw[e0]at bX;have b0:=bI 0 (by decide);have b3:=bI 3 (by decide);have bh:=bQ (-1) 2 (by decide);have nn3:Nn ((3:Int):Rat):=⟨by decide+kernel⟩
 have v1:=bV 0 1 1 1 (by decide) (by decide);have v2:=bV (-1) 1 0 1 (by decide) (by decide);have v3:=bV 0 1 (-1) 1 (by decide) (by decide);have v4:=bV (-4) 2 1 2 (by decide) (by decide);have v5:=bV 4 2 1 2 (by decide) (by decide);have v6:=bV (-3) 5 4 5 (by decide) (by decide);have v7:=bV 1 1 0 1 (by decide) (by decide);have k01:decide (fh 0 1)=true:=by decide
 have k11:decide (fh 1 1)=true:=by decide
 have km1:decide (fh (-1) 1)=true:=by decide
 have km4:decide (fh (-4) 2)=true:=by decide
 have k12:decide (fh 1 2)=true:=by decide
 have k42:decide (fh 4 2)=true:=by decide
 have kmh:decide (fh (-1) 2)=true:=by decide
 have k35:decide (fh (-3) 5)=true:=by decide
 have k45:decide (fh 4 5)=true:=by decide
 have i0:decide (a9 0)=true:=by decide
 have i2:decide (a9 2)=true:=by decide
 have i3:decide (a9 3)=true:=by decide
 have ea:=aaP;have es:=aaS;have ef:=ZA;have sa:pP uA1 uA2 uA3=0:=by decide+kernel
 have ss:pS uS1 uS2=0:=by decide+kernel
 have el:((ao ((0:Int):Rat),(ao ((0:Int):Rat),ao ((2:Int):Rat))):BO3)=enc lC2:=rfl;have kcs:decide (cg (enc lC2))=true:=dT Xe;have kSA:decide (gi xS xA)=true:=dT ⟨Vz,Ky⟩;have kFG:decide (gi xF xG)=true:=dT ⟨Tk.1,Up.1⟩;have kA:decide (okC 4000 xA)=true:=dT (bZ Ky.1 (by decide) (by decide));have o1:onP qA (atP uO1)=true:=by decide+kernel
 have o2:onP qA (atP uO2)=false:=by decide+kernel
 have h3:decide (0<=((3:Int):Rat))=true:=by decide+kernel
 have cX:bj (xP pX0) (mkR ((0:Int):Rat) (Rat.divInt (-1) 2) ((3:Int):Rat))=0:=by decide+kernel
 have g0:aG [xF,xG] 0=some xF:=rfl;have g1:aG [xF,xG] 1=some xG:=rfl;have g2:aG [enc pX0] 0=some (enc pX0):=rfl;have hcw:xA.2.2.2.1=false:=rfl;have lFG:(((DA qF qG).map (enc:Pt->BP)).length:Int)=2:=by rw[agS,aeT];rfl
 refine dm KC (adO ⟨0,?_⟩);unfold Vi;simp only[aW,Nat.reduceAdd,Nat.reduceLeDiff,aP,aQ,k01,k11,km1,km4,k12,k42,kmh,k35,k45,i0,i2,i3,ea,es,el,ef,sa,ss,kcs,kSA,kFG,kA,aaZ,ad6,aaA,aep,g0,g1,g2,hcw,Cs,o1,o2,h3,cX,lFG,afD,ahC];rfl
end
section
open Go.ChangeShapes Go.WideShapes Go.ChangeAt Go.WideMaps Go.WideElems Go.RowKit
theorem Lw:ownKnob Tryz.prog.godebug=none:=by kernel_rfl
def Ty.ok:(t:Ty)->t.D->Prop
 |.int k,x=>(Lit.int k x).wf=true
 |.bool,_=>True
 |.str,_=>True
 |.sl e,xs=>xs.length<=9223372036854775807/\∀x∈xs,e.ok x
 |.pair a b,x=>a.ok x.1/\b.ok x.2
 |.st a,x=>a.ok x
def vX(rp:TypeId->Ty->Bool)(cells:TypeId->Nat):List Field->Ty->Nat->Bool
 |[],_,_=>false
 |[f],a,off=>rp f.type a&&Nat.beq f.offset off&&Nat.beq (cells f.type) a.n
 |f::g::fs,.pair a b,off=>rp f.type a&&Nat.beq f.offset off&&Nat.beq (cells f.type) a.n&&vX rp cells (g::fs) b (off+a.n)
 |_,_,_=>false
def Ex(rp:Ty->Bool)(n:Nat):Nat->Ty->Bool
 |0,_=>false
 |1,a=>rp a&&Nat.beq a.n n
 |k+2,.pair a b=>rp a&&Nat.beq a.n n&&Ex rp n (k+1) b
 |_,_=>false
def rep(P:Program):Nat->TypeId->Ty->Bool
 |0,_,_=>false
 |n+1,t,ty=>match P.underlying t,ty with
  |some (.int k),.int k'=>decide (k=k')
  |some .bool,.bool=>true
  |some .string,.str=>true
  |some (.slice e),.sl ety=>rep P n e ety&&Nat.beq (P.cellsOf e) ety.n&&Nat.ble 1 ety.n
  |some (.struct fs),.st a=>vX (rep P n) P.cellsOf fs.toList a 0&&Nat.beq (P.cellsOf t) a.n
  |some (.array k e),.st a=>Ex (rep P n e) (P.cellsOf e) k a&&Nat.beq (P.cellsOf t) a.n
  |_,_=>false
theorem Sj{w:World}{a:Addr}{v:Value}(h:w.cell? a=some v):a.block<w.heap.size/\a.spot=none:=by
 unfold World.cell? at h;split at h
 ·rename_i hb;refine⟨(afE.1 hb).1,?_⟩;simp_all
 grind
theorem BZ{α β:Type}{f:α->Option β}:∀{l:List α} {r:List β},l.mapM f=some r->r.length=l.length/\∀(j:Nat) (y:β),r[j]?=some y->∃x,l[j]?=some x/\f x=some y
 |[],r,h=>by simp at h;subst h;simp
 |x::l,r,h=>by
  rw[List.mapM_cons]at h;cases hx:f x with
  |none=>rw[hx]at h;simp at h
  |some y=>
   rw[hx]at h;cases hl:l.mapM f with
   |none=>rw[hl]at h;simp at h
   |some r'=>
    rw[hl]at h;obtain rfl:y::r'=r:=by simpa using h
    obtain⟨h1,h2⟩:=BZ hl;refine⟨by simp[h1],λj z hz=>?_⟩;cases j with
    |zero=>exact⟨x,rfl,by simpa [hx]using hz⟩
    |succ j=>obtain⟨u,h3,h4⟩:=h2 j z (by simpa using hz);exact⟨u,by simpa using h3,h4⟩
theorem Jg{w:World}{base n:Nat}{a:Addr}{l:List Value}(h:w.cells? base a n=some l):l.length=n/\∀(j:Nat) (v:Value),l[j]?=some v->w.cell? (a.add j)=some v:=by
 unfold World.cells? at h;split at h
 ·obtain⟨h1,h2⟩:=BZ h;grind
 grind
theorem MN{α β:Type}{n:Nat}{p:Nat->α->β->Prop}(h:∀i,i<n->∃s t,p i s t):∃(l:List α) (m:List β),l.length=n/\m.length=n/\∀i s t,l[i]?=some s->m[i]?=some t->p i s t:=by
 induction n with
 |zero=>exact⟨[],[],rfl,rfl,λi s t h=>by simp at h⟩
 |succ n ih=>
  obtain⟨l,m,h1,h2,h3⟩:=ih λi hi=>h i (by omega);obtain⟨s,t,hst⟩:=h n (by omega);refine⟨l++[s],m++[t],by simp[h1],by simp[h2],λi s' t' hs ht=>?_⟩;grind
section
variable {H:Type} {enc:TypeId×Value->H} {P:Program} {w:World} {base:Nat} {spare:Nat->Bool} {held:Bool}
def R1(enc:TypeId×Value->H)(P:Program)(w:World)(base:Nat)(spare:Nat->Bool)(held:Bool)(ty:Ty):Prop:=∀(n:Nat) (t:TypeId),rep P n t ty=true->∀(fuel:Nat) (cs:List Value) (x:DataW H×List MemPlace),cs.length=ty.n->DataW.trod enc P w base spare held fuel t cs=some x->∃y:ty.D,ty.rd (λ_=>True) w cs y/\ty.ok y
def R2(enc:TypeId×Value->H)(P:Program)(w:World)(base:Nat)(spare:Nat->Bool)(held:Bool)(ty:Ty):Prop:=∀(n:Nat) (fs:List Field) (off:Nat) (cs:List Value),vX (rep P n) P.cellsOf fs ty off=true->cs.length=ty.n->(∀f∈fs,off<=f.offset->∃fuel x,DataW.trod enc P w base spare held fuel f.type ((cs.drop (f.offset-off)).take (P.cellsOf f.type))=some x)->∃y:ty.D,ty.rd (λ_=>True) w cs y/\ty.ok y
def R3(enc:TypeId×Value->H)(P:Program)(w:World)(base:Nat)(spare:Nat->Bool)(held:Bool)(ty:Ty):Prop:=∀(n k:Nat) (e:TypeId) (cs:List Value),Ex (rep P n e) (P.cellsOf e) k ty=true->cs.length=ty.n->(∀i,i<k->∃fuel x,DataW.trod enc P w base spare held fuel e ((cs.drop (i*P.cellsOf e)).take (P.cellsOf e))=some x)->∃y:ty.D,ty.rd (λ_=>True) w cs y/\ty.ok y
theorem aa9{ty:Ty}(h1:R1 enc P w base spare held ty)(hp:∀(n:Nat) (f g:Field) (fs:List Field) (off:Nat) (cs:List Value),vX (rep P n) P.cellsOf (f::g::fs) ty off=true->cs.length=ty.n->(∀q∈f::g::fs,off<=q.offset->∃fuel x,DataW.trod enc P w base spare held fuel q.type ((cs.drop (q.offset-off)).take (P.cellsOf q.type))=some x)->∃y:ty.D,ty.rd (λ_=>True) w cs y/\ty.ok y):R2 enc P w base spare held ty:=by
 intro n fs off cs hr hl hf;match fs,hr,hf with
 |[f],hr,hf=>
  simp only[vX,afr]at hr;have ho:=afq hr.1.2;have hc:=afq hr.2;obtain⟨fuel,x,hx⟩:=hf f (by simp) (by omega);rw[ho,ahR,hc,tu _ _ hl]at hx;exact h1 n f.type hr.1.1 fuel cs x hl hx
 |f::g::fs,hr,hf=>exact hp n f g fs off cs hr hl hf
theorem aaV{ty:Ty}(h1:R1 enc P w base spare held ty)(hp:∀(n k:Nat) (e:TypeId) (cs:List Value),Ex (rep P n e) (P.cellsOf e) (k+2) ty=true->cs.length=ty.n->(∀i,i<k+2->∃fuel x,DataW.trod enc P w base spare held fuel e ((cs.drop (i*P.cellsOf e)).take (P.cellsOf e))=some x)->∃y:ty.D,ty.rd (λ_=>True) w cs y/\ty.ok y):R3 enc P w base spare held ty:=by
 intro n k e cs hr hl hf;match k,hr,hf with
 |1,hr,hf=>
  simp only[Ex,afr]at hr;have hc:=afq hr.2;obtain⟨fuel,x,hx⟩:=hf 0 (by omega);rw[Nat.zero_mul,<-hc,tu _ _ hl]at hx;exact h1 n e hr.1 fuel cs x hl hx
 |k+2,hr,hf=>exact hp n k e cs hr hl hf
theorem Q5:∀(ty:Ty),R1 enc P w base spare held ty/\R2 enc P w base spare held ty/\R3 enc P w base spare held ty:=by
 intro ty
 have n9:∀{ty:Ty},(∀a b,ty≠.pair a b)->R1 enc P w base spare held ty->R1 enc P w base spare held ty/\R2 enc P w base spare held ty/\R3 enc P w base spare held ty:=by
  intro ty hne h1;refine⟨h1,aa9 h1 λn f g fs off cs hr=>?_,aaV h1 λn k e cs hr=>?_⟩
  ·cases ty<;>first|exact absurd rfl (hne _ _)|simp[vX]at hr
  ·cases ty<;>first|exact absurd rfl (hne _ _)|simp[Ex]at hr
 induction ty with
 |int k=>
  refine n9 (λa b e=>by cases e) λn t hr fuel cs x hl hx=>?_;cases n with
  |zero=>simp[rep]at hr
  |succ n=>
   unfold rep at hr;split at hr<;>try (cases hr;done)
   all_goals rename_i hu he<;>cases he
   have:=afp hr;subst this;obtain⟨m,rfl,_,hw⟩:=DataW.trod_int hu hx;exact⟨m,rfl,hw⟩
 |bool=>
  refine n9 (λa b e=>by cases e) λn t hr fuel cs x hl hx=>?_;cases n with
  |zero=>simp[rep]at hr
  |succ n=>
   unfold rep at hr;split at hr<;>try (cases hr;done)
   all_goals rename_i hu he<;>cases he
   obtain⟨m,rfl,_⟩:=DataW.trod_bool hu hx;exact⟨m,rfl,trivial⟩
 |str=>
  refine n9 (λa b e=>by cases e) λn t hr fuel cs x hl hx=>?_;cases n with
  |zero=>simp[rep]at hr
  |succ n=>
   unfold rep at hr;split at hr<;>try (cases hr;done)
   all_goals rename_i hu he<;>cases he
   cases fuel with
   |zero=>simp[DataW.trod]at hx
   |succ fuel=>
    unfold DataW.trod at hx;rw[hu]at hx;split at hx<;>simp_all;exact⟨_,rfl,trivial⟩
 |sl e ih=>
  refine n9 (λa b e=>by cases e) λn t hr fuel cs x hl hx=>?_;cases n with
  |zero=>simp[rep]at hr
  |succ n=>
   unfold rep at hr;split at hr<;>try (cases hr;done)
   all_goals rename_i hu he<;>cases he
   simp only[afr]at hr;obtain⟨⟨r1,r2⟩,r3⟩:=hr;have hc:=afq r2;have hn0:=aft r3;rcases Deep.open_slice hu hx with⟨rfl,_⟩|⟨a,len,cap,m,nn,D,Pl,rfl,hb,hle,hcap,hm,_,hel⟩
   ·exact⟨[],wT,by simp,λx hx=>by simp at hx⟩
   ·have hlm:len<=m:=by rw[hm];split<;>omega
    have key:∀i,i<len->∃(l:List Value) (y:e.D),(e.rd (λ_=>True) w l y/\e.ok y)/\∀j v,l[j]?=some v->w.cell? ((a.add (i*e.n)).add j)=some v:=by
     intro i hi;obtain⟨cs',h1,h2⟩:=hel i (by omega);rw[hc]at h1;obtain⟨h3,h4⟩:=Jg h1;obtain⟨y,h5⟩:=ih.1 n _ r1 nn cs' _ h3 h2;exact⟨cs',y,h5,h4⟩
    obtain⟨css,ys,l1,l2,hk⟩:=MN key;have hall:b9 (λl y=>e.rd (λ_=>True) w l y) css ys:=HB (by omega) λi l y h1 h2=>(hk i l y h1 h2).1.1;refine⟨ys,⟨some a,len,cap,css,rfl,l2,hle,hcap,hall,λh0=>?_⟩,by unfold maxLen at hcap;omega,λy hy=>?_⟩
    ·obtain⟨l0,hl0⟩:∃l,css[0]?=some l:=⟨_,afn (by omega)⟩
     obtain⟨y0,hy0,hrd0⟩:=iz hall 0 l0 hl0;have hlen0:=Ty.rd_len hrd0;obtain⟨v0,hv0⟩:∃v,l0[0]?=some v:=⟨_,afn (by omega)⟩
     have hc0:=(hk 0 l0 y0 hl0 hy0).2 0 v0 hv0;have e0:(a.add (0*e.n)).add 0=a:=by simp[Addr.add]
     rw[e0]at hc0;obtain⟨h1,h2⟩:=Sj hc0;obtain⟨b,off,sp⟩:=a;dsimp only at h1 h2;subst h2;refine⟨b,off,rfl,trivial,h1,λi v hv=>?_⟩;have hls:=fN hall;have hi:i<css.flatten.length:=(afx.1 hv).1;rw[gQ hls,l1]at hi;have hq:i/e.n<len:=Nat.div_lt_of_lt_mul (by rw[Nat.mul_comm];exact hi);obtain⟨l,hl⟩:∃l,css[i/e.n]?=some l:=⟨_,afn (by omega)⟩
     obtain⟨y,hy,hrd⟩:=iz hall _ l hl;have hmod:i%e.n<e.n:=aif _ hn0;obtain⟨u,hu'⟩:∃u,l[i%e.n]?=some u:=⟨_,afn (by rw[Ty.rd_len hrd];exact hmod)⟩
     have hfl:=kW hls hl hu';have hdm:i/e.n*e.n+i%e.n=i:=by rw[Nat.mul_comm];exact Nat.div_add_mod i e.n
     rw[hdm,hv]at hfl;injection hfl with hfl;subst hfl;have:=(hk _ l y hl hy).2 _ _ hu';rw[dE,dE]at this;rwa [aht,hdm]at this
    ·obtain⟨i,hi,rfl⟩:=ahF hy;obtain⟨l,hl,_⟩:=oA hall i _ (afn hi);exact(hk i l _ hl (afn hi)).1.2
 |st a ih=>
  refine n9 (λa b e=>by cases e) λn t hr fuel cs x hl hx=>?_;cases n with
  |zero=>simp[rep]at hr
  |succ n=>
   unfold rep at hr;split at hr<;>try (cases hr;done)
   all_goals rename_i hu he<;>cases he
   ·simp only[afr]at hr;obtain⟨xs,k,rfl,_,_,hlen,hg⟩:=DataW.trod_struct hu hx;refine ih.2.1 n _ 0 cs hr.1 hl λf hf _=>?_;obtain⟨i,hi,rfl⟩:=ahF hf;rename_i fs;have h1:=hg i _ (by rw[<-ag8];exact afn hi);obtain⟨y,hy⟩:∃y,xs[i]?=some y:=⟨_,afn (by rw[hlen];simpa using hi)⟩
    rw[hy]at h1;exact⟨k,y,by rw[Nat.sub_zero];exact h1⟩
   ·simp only[afr]at hr;obtain⟨xs,k,rfl,_,_,hlen,hg⟩:=DataW.trod_array hu hx;refine ih.2.2 n _ _ cs hr.1 hl λi hi=>?_;have h1:=hg i hi;obtain⟨y,hy⟩:∃y,xs[i]?=some y:=⟨_,afn (by rw[hlen];exact hi)⟩
    rw[hy]at h1;exact⟨k,y,h1⟩
 |pair a b iha ihb=>
  have h1:R1 enc P w base spare held (.pair a b):=by
   intro n t hr;cases n with
   |zero=>simp[rep]at hr
   |succ n=>
    unfold rep at hr;split at hr<;>first|(cases hr;done)|(rename_i he;cases he)
  have cut:∀{cs:List Value} {k m:Nat},cs.length=a.n+b.n->((cs.drop a.n).drop k).take m=(cs.drop (a.n+k)).take m:=λ_=>by rw[aio]
  refine⟨h1,aa9 h1 λn f g fs off cs hr hl hf=>?_,aaV h1 λn k e cs hr hl hf=>?_⟩
  ·simp only[vX,afr]at hr;obtain⟨⟨⟨r1,r2⟩,r3⟩,r4⟩:=hr;have ho:=afq r2;have hc:=afq r3;simp only[Ty.n]at hl;obtain⟨fuel,x,hx⟩:=hf f (by simp) (by omega);rw[ho,ahR,hc,agQ]at hx;obtain⟨y1,k1,k2⟩:=iha.1 n f.type r1 fuel (cs.take a.n) x (by simp;omega) hx
   obtain⟨y2,k3,k4⟩:=ihb.2.1 n (g::fs) (off+a.n) (cs.drop a.n) r4 (by simp;omega) λq hq hle=>by
    obtain⟨fuel,x,hx⟩:=hf q (by simp only[afy]at hq ⊢;exact .inr hq) (by omega);refine⟨fuel,x,?_⟩;rw[aio,show a.n+(q.offset-(off+a.n))=q.offset-off by omega];exact hx
   exact⟨(y1,y2),⟨_,_,(agI a.n cs).symm,k1,k3⟩,k2,k4⟩
  ·simp only[Ex,afr]at hr;obtain⟨⟨r1,r2⟩,r3⟩:=hr;have hc:=afq r2;simp only[Ty.n]at hl;obtain⟨fuel,x,hx⟩:=hf 0 (by omega);rw[Nat.zero_mul,agQ,<-hc]at hx;obtain⟨y1,k1,k2⟩:=iha.1 n e r1 fuel (cs.take a.n) x (by simp;omega) hx
   obtain⟨y2,k3,k4⟩:=ihb.2.2 n (k+1) e (cs.drop a.n) r3 (by simp;omega) λi hi=>by
    obtain⟨fuel,x,hx⟩:=hf (i+1) (by omega);refine⟨fuel,x,?_⟩;rw[aio,hc,show P.cellsOf e+i*P.cellsOf e=(i+1)*P.cellsOf e by rw[ag6];omega];exact hx
   exact⟨(y1,y2),⟨_,_,(agI a.n cs).symm,k1,k3⟩,k2,k4⟩
end
end
theorem yW{n:Int}(h:Ty.ok (.int .i8) n):i8P n:=bounds_i8 h
theorem KV{n:Int}(h:Ty.ok (.int .u8) n):u8P n:=bounds_u8 h
theorem Vs{x:Dr}(h:Ty.ok tDr x):AC x:=⟨KV h.1,KV h.2.1,yW h.2.2.1,yW h.2.2.2.1,yW h.2.2.2.2.1,yW h.2.2.2.2.2.1,yW h.2.2.2.2.2.2.1,yW h.2.2.2.2.2.2.2⟩
theorem Er{x:Pce}(h:Ty.ok nE x):uT x:=⟨Vs h.1,Vs h.2.1,KV h.2.2⟩
section
namespace RE
section
variable {l c:Ln}
end
end RE
end
section
open RE
theorem MX(c:Cv):cG c c=true:=by
 unfold cG;rw[beq_self_eq_true,cond_true];cases c.1
 ·unfold oK;rw[cond_false,dT (ahk _ _),dT (ahk _ _),dT (ahk _ _)];rfl
 ·unfold qy;rw[cond_true,dT rfl,dT rfl,dT rfl];rfl
end
theorem aaG{x:Dr}:∀c∈ofL x,c.1=false->c.2.2.2.1=false:=by
 intro c hc ha;unfold ofL at hc;cases h2:x.1%3==2<;>rw[h2]at hc
 ·cases h1:x.1%3==1<;>rw[h1]at hc
  ·cases hs:pS (drA x) (drB x) !=0<;>rw[hs]at hc
   ·have:c=By (drA x) (drB x):=by simpa using hc
    rw[this];unfold By;cases rY (drA x) (drB x)<;>rfl
   ·cases hc
  ·cases hs:pP (drA x) (drB x) (drC x) !=0<;>rw[hs]at hc
   ·have:c=Ak (drA x) (drB x) (drC x):=by simpa using hc
    rw[this]at ha ⊢;revert ha;unfold Ak;cases decide (da (drA x) (drB x) (drC x)=0)
    ·intro ha;cases ha
    ·intro _;rfl
   ·cases hc
 ·cases hs:decide ((drB x).1<=0)<;>rw[hs]at hc
  ·have:c∈DG (enc (drQ x)):=hc;unfold DG at this;simp only[afy,agF,ah6]at this;rcases this with e|e<;>(rw[e]at ha;cases ha)
  ·cases hc
theorem XB{x:Pce}(h:uT x)(ho:t5 x=true):(aC x).1=false->(aC x).2.2.2.1=false:=by
 have hp:=HY h ho;intro ha;unfold B8 at hp;cases hl:ofL x.1 with
 |nil=>rw[hl]at hp;cases hp
 |cons c r=>
  rw[hl]at hp;obtain⟨u,v,_,_,e⟩:=AX (show aC x∈fj c (mz c (kI c (ofL x.2.1))) from hp);rw[e]at ha ⊢;exact aaG (x:=x.1) c (by rw[hl];simp) ha
theorem Zr{c:BCU}(h:gdN c)(hw:c.1=false->c.2.2.2.1=false):CM (dC c)=true:=by
 unfold CM;have e1:em (dC c) (frC (dC c))=true:=h.2.1;have e2:em (dC c) (toC (dC c))=true:=h.2.2.1;have e3:(aF (frC (dC c)) (toC (dC c))==0)=false:=ag5.2 h.ne;rw[e1,e2,e3];show((c.1||!c.2.2.2.1)&&_)=true;cases ha:c.1
 ·rw[hw ha];rfl
 ·rfl
end Go.Proofs.YtagbmoohboleaaaGreat
end
