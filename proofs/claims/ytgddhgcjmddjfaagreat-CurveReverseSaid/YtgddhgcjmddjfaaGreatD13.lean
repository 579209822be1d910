/- Signs and comparisons: the program's contracts. -/
import Derived.Test.YtgddhgcjmddjfaaGreatD12
import Derived.Test.YtgddhgcjmddjfaaGreatD11
noncomputable section
namespace Go.Proofs.YtgddhgcjmddjfaaGreat
open Go.RowKit Go.IntKind
theorem aw9:type_of% @Rat.mul_eq_zero:=@Rat.mul_eq_zero
namespace RE
theorem same_rad(a b c d r:RE):a-c+(b-d)*r=a+b*r-(c+d*r):=by
 induction a using auM
 induction b using auM
 induction c using auM
 induction d using auM
 induction r using auM
 exact snd fun n=>by
  simp only[RL.add,RL.mul,RL.neg]
  grind
theorem alP(a b c:RE):a-b+c=a+c-b:=by
 induction a using auM
 induction b using auM
 induction c using auM
 exact snd fun n=>by
  simp only[RL.add,RL.neg]
  grind
theorem vR_rat(q:Rat):vR (q,0,0)=of q:=eH q 0
theorem cmpTR_re{x:Rt}{q:Rat}(h:0≤x.2.2):gE x q=sg (vR x-of q):=by
 unfold gE vR
 rw[sgn2_re h]
 unfold v2
 rw[of_sub,alP]
end RE
theorem Rdd.rat{x:Rt}(h:Rdd x)(hb:x.2.1=0):x=(x.1,0,0):=by
 obtain⟨a,b,c⟩:=x
 rcases h.rd with h|h
 ·obtain⟨h1,h2⟩:=h
  simp only at h1 h2
  rw[h1,h2]
 ·exact absurd hb h.1
theorem U2{x:Rt}{q:Rat}(h:Rdd x):bS x (q,0,0)=gE x q:=by
 rw[RE.cmpT_re h.nn (by show(0:Rat)≤0;grind),RE.cmpTR_re h.nn,RE.vR_rat]
theorem abp{x y:Rt}(hx:Rdd x)(hy:Rdd y)(bx:x.2.1=0)(b_:y.2.1=0):bS x y=aR x.1 y.1:=by
 rw[hx.rat bx,hy.rat b_,RE.cmpT_re (by show(0:Rat)≤0;grind) (by show(0:Rat)≤0;grind),RE.vR_rat,RE.vR_rat,←RE.of_sub,RE.sg_of,xX]
theorem ac8{x y:Rt}(hx:Rdd x)(hy:Rdd y)(h:(apF x y).2=true):(apF x y).1=bS x y:=by
 rw[RE.apF_ok h,RE.cmpT_re hx.nn hy.nn]
theorem OQ{x y:Rt}(hx:Rdd x)(hy:Rdd y)(h:x.2.2=y.2.2):fZ (x.1-y.1) (x.2.1-y.2.1) x.2.2=bS x y:=by
 rw[RE.cmpT_re hx.nn hy.nn,RE.sgn2_re hx.nn]
 unfold RE.vR RE.v2
 rw[RE.of_sub,RE.of_sub,RE.same_rad,h]
theorem akB{A B C D M N:Rat}(hM:0≤M)(hN:0≤N)(h:(quF (A,B,C,D,M,N)).2=true):(quF (A,B,C,D,M,N)).1=sgQ (A,B,C,D,M,N):=by
 rw[RE.quF_ok (q:=(A,B,C,D,M,N)) hM hN h]
 exact(RE.sgnQ_re hM hN).symm
def Nl:Env:=[(144,qb),(76,kC),(75,n6),(74,l4),(147,kX),(151,lg),(250,xH),(229,uX),(231,DM),(226,zS)]
theorem zZ:EnvAll Tryz.prog Nl:=⟨lj,gk,jE,il,gG,gj,sS,oR,zD,ti,trivial⟩
def aix:Ctx:=CX Nl []
def Yq(a b:BR)(_k:KT):OLR:=match decide (okR a∧okR b)with|true=>some [RV.d tR (hid (ai (ae a+ae b)))]|false=>none
theorem akU(a b:BR):RS aix 260 [.d tR a,.d tR b] (Yq a b):=rsX
theorem YE(a b:BR)(h:okR a∧okR b):Con Tryz.prog 260 [.d tR a,.d tR b] [.d tR (ai (ae a+ae b))]:=by
 refine aO zZ (akU _ _ ⟨0,?_⟩)
 unfold Yq
 rw[dT h,am]
def anr:Ctx:=CX Nl []
def ahj(a b:BO3)(_k:KT):OLR:=match decide (ok Rt 100000 a)with|true=>(match decide (ok Rt 100000 b)with|true=>(match !((b9 (dec a)).2)with|true=>some [RV.d ayb 0,RV.d .bool false]|false=>(match !((b9 (dec b)).2)with|true=>some [RV.d ayb 0,RV.d .bool false]|false=>(match decide (((hid ((b9 (dec a)).1)).2)<((hid ((b9 (dec b)).1)).1))with|true=>some [RV.d ayb (-1),RV.d .bool true]|false=>(match decide (((hid ((b9 (dec a)).1)).1)>((hid ((b9 (dec b)).1)).2))with|true=>some [RV.d ayb 1,RV.d .bool true]|false=>some [RV.d ayb 0,RV.d .bool false]))))|false=>none)|false=>none
theorem asg(a b:BO3):RS anr 228 [.d tO a,.d tO b] (ahj a b):=rsX
theorem aen(a b:BO3)(h:ok Rt 100000 a∧ok Rt 100000 b):Con Tryz.prog 228 [.d tO a,.d tO b] [.d ayb ((apF (dec a) (dec b)).1),.d .bool ((apF (dec a) (dec b)).2)]:=by
 refine aO zZ (asg _ _ ⟨0,?_⟩)
 obtain⟨ha,hb⟩:=h
 obtain⟨a,rfl,ba⟩:=aY ha
 obtain⟨b,rfl,bb⟩:=aY hb
 unfold ahj
 simp only[am,aq,okd,Nat.reduceLeDiff]
 unfold apF
 generalize b9 a=A
 generalize b9 b=B
 obtain⟨⟨a1,a2⟩,p⟩:=A
 obtain⟨⟨b1,b2⟩,q⟩:=B
 cases p<;>cases q<;>try rfl
 dsimp only
 cases decide (a2<b1)<;>try rfl
 cases decide (a1>b2)<;>rfl
def Mz:aM:=spN false true [tR,tR] (fun x=>decide (okR x.1∧okR x.2.1)) (fun x=>[RV.d tR (hid (ai (ae x.1+ae x.2.1)))])
theorem P6:SpK 260 Mz:=spX fun x h=>by simp only[am];exact YE x.1 x.2.1 (auN h)
def J0:aM:=spN true true [tO,tO] (fun x=>decide (ok Rt 100000 x.1∧ok Rt 100000 x.2.1)) (fun x=>[RV.d ayb ((apF (dec x.1) (dec x.2.1)).1),RV.d .bool ((apF (dec x.1) (dec x.2.1)).2)])
theorem GL:SpK 228 J0:=spX fun x h=>aen x.1 x.2.1 (auN h)
def Rx:aM:=spN true true [tQ] (fun x=>decide (okQ x.1)) (fun x=>[RV.d ayb ((quF (dec x.1)).1),RV.d .bool ((quF (dec x.1)).2)])
theorem Wu:SpK 259 Rx:=spX fun x h=>abf x.1 (auN h)
def ahc:Env:=(260,Mz)::(228,J0)::(259,Rx)::Nl
theorem S2:EnvAll Tryz.prog ahc:=⟨P6,GL,Wu,zZ⟩
def apy:Ctx:=CX ahc []
def agx(q:BQ)(_k:KT):OLR:=let y1:=ae q.2.2.2.2.1;let y2:=aR (ae q.2.2.2.2.2) 0;let y3:=i64.wrap ((fZ (ae q.2.2.1) (ae q.2.2.2.1) y1)*y2);let y4:=fZ (ae q.1) (ae q.2.1) y1;let y5:=hid (ai (ae q.2.1*ae q.2.1));let y6:=hid (ai (ae q.1*ae q.1));let y7:=hid (ai (ae q.2.2.2.2.1*ae y5));let y8:=hid (ai (ae q.2.2.2.1*ae q.2.2.2.1));let y9:=hid (ai (ae q.2.2.1*ae q.2.2.1));let y10:=hid (ai (ae q.2.2.2.2.1*ae y8));let y11:=hid (ai (ae y9+ae y10));let y12:=hid (ai (ae y6+ae y7));let y13:=hid (ai (ae q.2.2.2.2.2*ae y11));let y14:=hid (ai (ae q.2.2.1*ae q.2.2.2.1));let y15:=hid (ai (ae q.1*ae q.2.1));let y16:=hid (ai (ae q.2.2.2.2.2*ae y14));let y17:=hid (ai (ae y15-ae y16));let y18:=hid (ai (ae y12-ae y13));let y19:=hid (ai (ae y17+ae y17));let y20:OLR:=match decide (okR y15∧okR y16)with|true=>(match decide (okR y17∧okR y17)with|true=>(match decide (ok Rat 240000 y18∧ok Rat 170000 y19∧ok Rat 30000 q.2.2.2.2.1)with|true=>some [RV.d ayb (i64.wrap (y4*(fZ (ae y18) (ae y19) y1)))]|false=>none)|false=>none)|false=>none;let y21:OLR:=match decide (okR q.2.2.2.2.2∧okR y14)with|true=>y20|false=>none;let y22:OLR:=match decide (okR q.2.2.1∧okR q.2.2.2.1)with|true=>y21|false=>none;let y23:OLR:=match decide (okR y12∧okR y13)with|true=>dl (match decide (okR q.1∧okR q.2.1)with|true=>dl (match decide (okR q.2.2.1∧okR q.2.2.2.1)with|true=>dl (match decide (okR q.2.2.2.2.2∧okR y14)with|true=>dup (.b .l .l) y20|false=>none) y21|false=>none) y22|false=>none) (match decide (okR q.1∧okR q.2.1)with|true=>y22|false=>none)|false=>none;let y24:OLR:=match decide (okR q.2.2.2.2.2∧okR y11)with|true=>y23|false=>none;let y25:OLR:=match decide (okR y9∧okR y10)with|true=>y24|false=>none;let y26:OLR:=match decide (okR q.2.2.2.2.1∧okR y8)with|true=>y25|false=>none;let y27:OLR:=match decide (okR q.2.2.2.1∧okR q.2.2.2.1)with|true=>y26|false=>none;let y28:OLR:=match decide (okR q.2.2.1∧okR q.2.2.1)with|true=>y27|false=>none;let y29:OLR:=match decide (okR y6∧okR y7)with|true=>y28|false=>none;let y30:OLR:=match decide (okR q.2.2.2.2.1∧okR y5)with|true=>y29|false=>none;let y31:OLR:=match decide (okR q.2.1∧okR q.2.1)with|true=>y30|false=>none;match decide (okR q.2.2.2.2.1)with|true=>(match decide ((aR y1 0)<0)with|true=>some [RV.d ayb 0]|false=>(match decide (okR q.2.2.2.2.2)with|true=>(match decide (y2<0)with|true=>some [RV.d ayb 0]|false=>(match decide (okQ q)with|true=>(match(quF (dec q)).2 with|true=>some [RV.d ayb ((quF (dec q)).1)]|false=>(match decide (ok Rat 240000 q.1∧ok Rat 170000 q.2.1∧ok Rat 30000 q.2.2.2.2.1)with|true=>(match decide (ok Rat 240000 q.2.2.1∧ok Rat 170000 q.2.2.2.1∧ok Rat 30000 q.2.2.2.2.1)with|true=>(match decide (okR q.2.2.2.2.2)with|true=>(match y3==0 with|true=>some [RV.d ayb y4]|false=>(match y4==y3 with|true=>some [RV.d ayb y4]|false=>(match y4==0 with|true=>some [RV.d ayb y3]|false=>dl (match decide (okR q.1∧okR q.1)with|true=>dl (match decide (okR q.2.1∧okR q.2.1)with|true=>dl (match decide (okR q.2.2.2.2.1∧okR y5)with|true=>dl (match decide (okR y6∧okR y7)with|true=>dl (match decide (okR q.2.2.1∧okR q.2.2.1)with|true=>dl (match decide (okR q.2.2.2.1∧okR q.2.2.2.1)with|true=>dl (match decide (okR q.2.2.2.2.1∧okR y8)with|true=>dl (match decide (okR y9∧okR y10)with|true=>dl (match decide (okR q.2.2.2.2.2∧okR y11)with|true=>dup (.b .l .l) y23|false=>none) y24|false=>none) y25|false=>none) y26|false=>none) y27|false=>none) y28|false=>none) y29|false=>none) y30|false=>none) y31|false=>none) (match decide (okR q.1∧okR q.1)with|true=>y31|false=>none))))|false=>none)|false=>none)|false=>none))|false=>none))|false=>none))|false=>none
theorem aqU(q:BQ):RS apy 230 [.d tQ q] (agx q):=rsX
theorem acl(q:BQ)(h:okQ q):Con Tryz.prog 230 [.d tQ q] [.d ayb (sgQ (dec q))]:=by
 refine aO S2 (aqU _ ⟨0,?_⟩)
 obtain⟨A,B,C,D,M,N,rfl,bA,bB,bC,bD,bM,bN,hM,hN⟩:=Jm h
 have hh:decide (okQ (ai A,ai B,ai C,ai D,ai M,ai N))=true:=auO h
 have hd:(dec ((ai A,ai B,ai C,ai D,ai M,ai N):BQ):Qd)=(A,B,C,D,M,N):=aq ((A,B,C,D,M,N):Qd)
 rw[aq]
 unfold agx
 simp only[au,aN,am,aS,aF,az,aD,aZ,auR,auT,Nat.reduceAdd,Nat.reduceLeDiff,ue,tc,aG,hh,hd,auQ (show ¬M<0 by grind),auQ (show ¬N<0 by grind)]
 cases hq:(quF (A,B,C,D,M,N)).2
 ·try dsimp only
  refine(CJ _ _ _).trans ?_
  unfold sgQ EE
  rw[auQ (show ¬M<0 by grind),auQ (show ¬N<0 by grind)]
  dsimp only[Bool.or_false,cond_false]
  rw[show A*B-N*(C*D)+(A*B-N*(C*D))=2*(A*B-N*(C*D)) by grind,show A*A+M*(B*B)-N*(C*C+M*(D*D))=A*A+B*B*M-N*(C*C+D*D*M) by grind]
  rfl
 ·try dsimp only
  rw[akB hM hN hq]
def WJ:aM:=spN true true [tQ] (fun x=>decide (okQ x.1)) (fun x=>[RV.d ayb (sgQ (dec x.1))])
theorem Qz:SpK 230 WJ:=spX fun x h=>acl x.1 (auN h)
def Qt:Env:=[(147,kX),(75,n6),(74,l4),(229,uX),(231,DM),(228,J0),(230,WJ),(250,xH)]
theorem Gz:EnvAll Tryz.prog Qt:=⟨gG,jE,il,oR,zD,GL,Qz,sS,trivial⟩
def aoG:Ctx:=CX Qt []
def agp(a b:BO3)(_k:KT):OLR:=let y1:=apF (dec a) (dec b);let y2:=hid (ai (ae a.1-ae b.1));let y3:=hid (ai (ae a.2.1-ae b.2.1));let y4:=hid (enc (suT (dec a) (dec b)));let y5:OLR:=match decide (ok Rt 100000 a∧ok Rt 100000 b)with|true=>(match y1.2 with|true=>some [RV.d ayb (y1.1)]|false=>(match decide (okR a.2.2∧okR b.2.2)with|true=>(match(aR (ae a.2.2) (ae b.2.2))==0 with|true=>(match decide (okR a.1∧okR b.1)with|true=>(match decide (okR a.2.1∧okR b.2.1)with|true=>(match decide (ok Rat 240000 y2∧ok Rat 170000 y3∧ok Rat 30000 a.2.2)with|true=>some [RV.d ayb (fZ (ae y2) (ae y3) (ae a.2.2))]|false=>none)|false=>none)|false=>none)|false=>(match decide (ok Rt 15000 a∧ok Rt 15000 b)with|true=>(match decide (okQ y4)with|true=>some [RV.d ayb (sgQ (dec y4))]|false=>none)|false=>none))|false=>none))|false=>none;match decide (okR a.2.1)with|true=>(match(aR (ae a.2.1) 0)==0 with|true=>(match decide (okR b.2.1)with|true=>(match(aR (ae b.2.1) 0)==0 with|true=>(match decide (okR a.1∧okR b.1)with|true=>some [RV.d ayb (aR (ae a.1) (ae b.1))]|false=>none)|false=>y5)|false=>none)|false=>y5)|false=>none
theorem apc(a b:BO3):RS aoG 173 [.d tO a,.d tO b] (agp a b):=rsX
theorem aeG(a b:BO3)(h:okT 15000 a∧okT 15000 b):Con Tryz.prog 173 [.d tO a,.d tO b] [.d ayb (bS (dec a) (dec b))]:=by
 refine aO Gz (apc _ _ ⟨0,?_⟩)
 obtain⟨ha,hb⟩:=h
 obtain⟨a,rfl,ba,ra⟩:=kx ha
 obtain⟨b,rfl,bb,rb⟩:=kx hb
 have na:Nn a.2.2:=inferInstance
 have nb:Nn b.2.2:=inferInstance
 have e:decide (okQ (enc (suT a b)))=true:=agR (by decide) (by decide) (by decide) (by decide) (by decide) (by decide)
 have e1:=fun h1 h2=>abp ra rb h1 h2
 have e2:=fun h=>ac8 ra rb h
 have e3:=fun h=>OQ ra rb h
 unfold agp
 simp only[am,aq,aH,aI,aF,az,okd,aD,aZ,auR,auT,Nat.reduceAdd,Nat.reduceLeDiff,aE,e]
 by_cases ha:a.2.1=0
 ·by_cases hb:b.2.1=0
  ·rw[auO ha,auO hb,e1 ha hb]
  ·rw[auO ha,auQ hb]
   dsimp only
   cases hq:(apF a b).2
   ·dsimp only
    by_cases hc:a.2.2=b.2.2
    ·rw[auO hc,←e3 hc]
    ·rw[auQ hc];rfl
   ·dsimp only
    rw[e2 hq]
 ·rw[auQ ha]
  dsimp only
  cases hq:(apF a b).2
  ·dsimp only
   by_cases hc:a.2.2=b.2.2
   ·rw[auO hc,←e3 hc]
   ·rw[auQ hc];rfl
  ·dsimp only
   rw[e2 hq]
def CE:aM:=spN true true [tO,tO] (fun x=>decide (okT 15000 x.1∧okT 15000 x.2.1)) (fun x=>[RV.d ayb (bS (dec x.1) (dec x.2.1))])
theorem xK:SpK 173 CE:=spX fun x h=>aeG x.1 x.2.1 (auN h)
def af4:Env:=(173,CE)::Qt
theorem Tx:EnvAll Tryz.prog af4:=⟨xK,Gz⟩
def aom:Ctx:=CX af4 []
def ae3(a:BO3)(b:BR)(_k:KT):OLR:=match decide (okR b)with|true=>(match decide (okT 15000 a∧okT 15000 (hid (enc ((ae b,0,0):Rt))))with|true=>some [RV.d ayb (bS (dec a) (dec (hid (enc ((ae b,0,0):Rt)))))]|false=>none)|false=>none
theorem apY(a:BO3)(b:BR):RS aom 262 [.d tO a,.d tR b] (ae3 a b):=rsX
theorem abw(a:BO3)(b:BR)(h:okT 15000 a∧ok Rat 15000 b):Con Tryz.prog 262 [.d tO a,.d tR b] [.d ayb (gE (dec a) (ae b))]:=by
 refine aO Tx (apY _ _ ⟨0,?_⟩)
 obtain⟨ha,hb⟩:=h
 obtain⟨a,rfl,ba,ra⟩:=kx ha
 obtain⟨b,rfl,bb⟩:=aY hb
 unfold ae3
 simp only[am,aq,aF,az,aZ,auR,auT,mx,Nat.reduceLeDiff,au2,auX,cond_true,cond_false,bH]
 rw[U2 ra]
section
section
variable {α:Type}
open Classical in
def rk(lt:α→α→Prop):List α→α→Nat
 |[],_=>0
 |e::r,x=>(if lt e x then 1 else 0)+rk lt r x
structure l6 (lt:α→α→Prop):Prop where
 irr:∀x,¬lt x x
 tr:∀x y z,lt x y→lt y z→lt x z
 tri:∀x y,lt x y∨x=y∨lt y x
variable {lt:α→α→Prop}
theorem ahg(h:l6 lt){x y:α}(hxy:lt x y):∀L,rk lt L x≤rk lt L y
 |[]=>auY _
 |e::r=>by
  have:=ahg h hxy r
  unfold rk
  by_cases h1:lt e x
  ·rw[avn h1,avn (h.tr _ _ _ h1 hxy)];omega
  ·rw[avf h1];omega
theorem tM(h:l6 lt){x y:α}(hxy:lt x y):∀{L},x∈L→rk lt L x<rk lt L y
 |e::r,hm=>by
  have h0:=ahg h hxy r
  unfold rk
  rcases au5.1 hm with rfl|hm
  ·rw[avf (h.irr _),avn hxy];omega
  ·have:=tM h hxy hm
   by_cases h1:lt e x
   ·rw[avn h1,avn (h.tr _ _ _ h1 hxy)];omega
   ·rw[avf h1];omega
theorem akJ(L:List α)(x:α):rk lt L x≤L.length:=by
 induction L with
 |nil=>exact auY _
 |cons e r ih=>
  unfold rk
  rw[avc]
  split<;>omega
theorem lJ(h:l6 lt){x:α}:∀{L},x∈L→rk lt L x<L.length
 |e::r,hm=>by
  unfold rk
  rw[avc]
  rcases au5.1 hm with rfl|hm
  ·rw[avf (h.irr _)];have:=akJ (lt:=lt) r x;omega
  ·have:=lJ h hm
   split<;>omega
def uY(lt:α→α→Prop)(c:α→α→Int):Prop:=∀x y,(lt x y→c x y= -1)∧(x=y→c x y=0)∧(lt y x→c x y=1)
def cI(i j:Nat):Int:=if i<j then-1 else if i=j then 0 else 1
theorem yI(h:l6 lt){c:α→α→Int}(hc:uY lt c){L:List α}{x y:α}(hx:x∈L)(hy:y∈L):c x y=cI (rk lt L x) (rk lt L y):=by
 unfold cI
 rcases h.tri x y with e|e|e
 ·rw[(hc x y).1 e,avn (tM h e hx)]
 ·subst e;rw[(hc x x).2.1 rfl,avf (Nat.lt_irrefl _),avn rfl]
 ·have:=tM h e hy
  rw[(hc x y).2.2 e,avf (by omega),avf (by omega)]
end
section
variable {α:Type} (cmp:α→α→Int)
def ru(p q:Bool×α):Int:=bif p.1==q.1 then(bif p.1 then-cmp p.2 q.2 else cmp p.2 q.2)else(bif p.1 then-1 else 1)
def ni(f p:Bool×α):Int:=bif ru cmp p f==0 then 0 else bif decide (ru cmp p f>0)then 1 else 2
def zq(n:Int):Int:=if n<0 then-1 else if n=0 then 0 else 1
def eZ(f p q:Bool×α):Int:=bif ni cmp f p==ni cmp f q then zq (ru cmp p q)else zq (ni cmp f p-ni cmp f q)
def jx(p q:Bool×α):Int:=bif p.1==q.1 then(bif p.1 then-cmp p.2 q.2 else cmp p.2 q.2)else(bif q.1 then-1 else 1)
def jJ(f p q:Bool×α):Int:=bif decide (jx cmp p f<0)==decide (jx cmp q f<0)then jx cmp p q else(bif decide (jx cmp q f<0)then-1 else 1)
variable {cmp} {β:Type} {cmq:β→β→Int}
theorem sw{u v:Bool}{a b:α}{c d:β}(h:cmp a b=cmq c d):ru cmp (u,a) (v,b)=ru cmq (u,c) (v,d):=by unfold ru;rw[h]
theorem sh{u v:Bool}{a b:α}{c d:β}(h:cmp a b=cmq c d):jx cmp (u,a) (v,b)=jx cmq (u,c) (v,d):=by unfold jx;rw[h]
theorem iV{u v w:Bool}{f p q:α}{f' p' q':β}(h1:cmp p f=cmq p' f')(h2:cmp q f=cmq q' f')(h3:cmp p q=cmq p' q'):eZ cmp (u,f) (v,p) (w,q)=eZ cmq (u,f') (v,p') (w,q'):=by
 unfold eZ ni
 rw[sw h1,sw h2,sw h3]
theorem fN{u v w:Bool}{f p q:α}{f' p' q':β}(h1:cmp p f=cmq p' f')(h2:cmp q f=cmq q' f')(h3:cmp p q=cmq p' q'):jJ cmp (u,f) (v,p) (w,q)=jJ cmq (u,f') (v,p') (w,q'):=by
 unfold jJ
 rw[sh h1,sh h2,sh h3]
end
def mD(k i l j:Nat):Bool:=(k !=0||(bif l==0 then i==j else decide (j<i)))&&(k !=2||(bif l==2 then i==j else decide (i<j)))
def upA(k:Nat):Bool:=k==0||k==1
def ufA(k:Nat):Bool:=k==1||k==2
def dI(i j:Nat):Int:=cI j i
def Jc(k i l j m n:Nat):Bool:=mD k i l j&&mD l j k i&&mD k i m n&&mD m n k i&&mD l j m n&&mD m n l j
theorem ada:∀kF kP kT:Fin 4,∀iF iP iT:Fin 3,Jc kF.1 iF.1 kP.1 iP.1 kT.1 iT.1=true→
  decide (eZ cI (upA kF.1,iF.1) (upA kP.1,iP.1) (upA kT.1,iT.1)≤0)=(decide (jJ cI (upA kF.1,iF.1) (upA kF.1,iF.1) (upA kP.1,iP.1)≤0)&&decide (jJ cI (upA kF.1,iF.1) (upA kP.1,iP.1) (upA kT.1,iT.1)≤0)):=by decide+kernel
theorem ake:∀kF kP kT:Fin 4,∀iF iP iT:Fin 3,Jc kF.1 iF.1 kP.1 iP.1 kT.1 iT.1=true→
  decide (eZ cI (upA kT.1,iT.1) (upA kP.1,iP.1) (upA kF.1,iF.1)≤0)=(decide (jJ dI (ufA kF.1,iF.1) (ufA kF.1,iF.1) (ufA kP.1,iP.1)≤0)&&decide (jJ dI (ufA kF.1,iF.1) (ufA kP.1,iP.1) (ufA kT.1,iT.1)≤0)):=by decide+kernel
def AF(a b:Int):Bool:=a==0||b==0||a==b
def aqC(d a b:Int):Bool:=decide ((bif decide (d>0)then-a else a)≤0)&&decide ((bif decide (d>0)then-b else b)≤0)
theorem aeL:∀f p t:Fin 3,AF (cI f.1 p.1) (cI p.1 t.1)=aqC (cI f.1 t.1) (cI f.1 p.1) (cI p.1 t.1):=by decide+kernel
namespace RE
theorem lt_lin:l6 (fun x y:RE=>x<y):=⟨lt_irrefl,fun _ _ _=>fP,qi⟩
theorem P4(x y:RE):((y-(x)))+((x-y-(0)))=0:=by
 induction x using auM
 induction y using auM
 exact snd fun n=>by
  simp only[RL.add,RL.neg,RL.const]
  grind
theorem CI(x y:RE)(h1:x<y):x-y<0:=iS.1 fun hg=>far (aT (aX h1) (aQ hg)) (P4 x y)
theorem NM(x y:RE):((x-(y)))+((0-(x-y)))=0:=by
 induction x using auM
 induction y using auM
 exact snd fun n=>by
  simp only[RL.add,RL.neg,RL.const]
  grind
theorem DX(x y:RE)(h1:y<x):0<x-y:=iS.1 fun hg=>far (aT (aX h1) (aQ hg)) (NM x y)
theorem sg_cmpO:uY (fun x y:RE=>x<y) (fun x y=>sg (x-y)):=fun x y=>⟨fun h=>jN (CI _ _ h),fun h=>by subst h;show sg (x-x)=0;rw[sub_self,eP],fun h=>gv (DX _ _ h)⟩
def alH(p q:RE×RE):Prop:=p.1<q.1∨(p.1=q.1∧p.2<q.2)
theorem jM:l6 alH:=by
 refine⟨fun x h=>?_,fun x y z h1 h2=>?_,fun x y=>?_⟩
 ·rcases h with h|h
  ·exact lt_irrefl _ h
  ·exact lt_irrefl _ h.2
 ·rcases h1 with h1|⟨h1,h1'⟩
  ·rcases h2 with h2|⟨h2,h2'⟩
   ·exact .inl (fP h1 h2)
   ·exact .inl (h2▸h1)
  ·rcases h2 with h2|⟨h2,h2'⟩
   ·exact .inl (h1▸h2)
   ·exact .inr ⟨h1.trans h2,fP h1' h2'⟩
 ·rcases qi x.1 y.1 with h|h|h
  ·exact .inl (.inl h)
  ·rcases qi x.2 y.2 with h'|h'|h'
   ·exact .inl (.inr ⟨h,h'⟩)
   ·exact .inr (.inl (axg h h'))
   ·exact .inr (.inr (.inr ⟨h.symm,h'⟩))
  ·exact .inr (.inr (.inl h))
def lxc(p q:RE×RE):Int:=bif sg (p.1-q.1)==0 then sg (p.2-q.2)else sg (p.1-q.1)
theorem ij:uY alH lxc:=fun p q=>by
 unfold lxc
 refine⟨fun h=>?_,fun h=>?_,fun h=>?_⟩
 ·rcases h with h|⟨h,h'⟩
  ·rw[jN (CI _ _ h)];rfl
  ·rw[h,sub_self,eP,jN (CI _ _ h')];rfl
 ·subst h
  rw[sub_self,sub_self,eP];rfl
 ·rcases h with h|⟨h,h'⟩
  ·rw[gv (DX _ _ h)];rfl
  ·rw[←h,sub_self,eP,gv (DX _ _ h')];rfl
def cls(u v:RE):Nat:=bif sg v==1 then 1 else bif sg v== -1 then 3 else bif sg u==1 then 0 else 2
theorem lW(u v:RE):cls u v<4:=by
 unfold cls
 cases sg v==1<;>cases sg v== -1<;>cases sg u==1<;>simp
theorem amJ(u v:RE):(decide (sg v>0)||(sg v==0&&decide (sg u>0)))=upA (cls u v):=by
 unfold cls
 rcases dE v with⟨_,h⟩|⟨_,h⟩|⟨_,h⟩<;>rcases dE u with⟨_,h'⟩|⟨_,h'⟩|⟨_,h'⟩<;>rw[h,h']<;>rfl
theorem alU{u v Q:RE}(hQ:0<Q)(h:u*u+v*v=Q):(decide (sg v>0)||(sg v==0&&decide (-sg u>0)))=ufA (cls u v):=by
 unfold cls
 rcases dE v with⟨_,h1⟩|⟨h0,h1⟩|⟨_,h1⟩<;>rcases dE u with⟨_,h'⟩|⟨h2,h'⟩|⟨_,h'⟩<;>rw[h1,h']<;>try rfl
 rw[h0,h2,mul_zero,add_zero]at h
 rw[←h]at hQ
 exact absurd hQ (lt_irrefl _)
theorem UY(u v w z Q:RE):of 2*((u-(0))*(w-(u)))+((w-(u))*(w-(u)))+((u*u+v*v-(Q)))+((Q-(w*w+z*z)))+((z*z-(0)))+((0-(v))*(v-(0)))=0:=by
 induction u using auM
 induction v using auM
 induction w using auM
 induction z using auM
 induction Q using auM
 exact snd fun n=>by
  simp only[RL.add,RL.mul,RL.neg,RL.const]
  grind
theorem ajY(u v w z Q:RE)(h1:u*u+v*v=Q)(h2:w*w+z*z=Q)(h3:v=0)(h4:0<u)(h5:0≤z*z):w≤u:=fun hg=>far (aT (aT (aT (aT (aT (w7 (by decide+kernel:(0:Rat)<2) (mul_pos (aX h4) (aX hg))) (le_of_lt (mul_pos (aX hg) (aX hg)))) (aQ (iy h1))) (aQ (jw h2))) (aQ h5)) (cZ (aQ (jw h3)) (aQ (iy h3)))) (UY u v w z Q)
theorem X9(u v w z Q:RE):of 2*((0-(u))*(u-(w)))+((u-(w))*(u-(w)))+((u*u+v*v-(Q)))+((Q-(w*w+z*z)))+((z*z-(0)))+((0-(v))*(v-(0)))=0:=by
 induction u using auM
 induction v using auM
 induction w using auM
 induction z using auM
 induction Q using auM
 exact snd fun n=>by
  simp only[RL.add,RL.mul,RL.neg,RL.const]
  grind
theorem alE(u v w z Q:RE)(h1:u*u+v*v=Q)(h2:w*w+z*z=Q)(h3:v=0)(h4:u<0)(h5:0≤z*z):u≤w:=fun hg=>far (aT (aT (aT (aT (aT (w7 (by decide+kernel:(0:Rat)<2) (mul_pos (aX h4) (aX hg))) (le_of_lt (mul_pos (aX hg) (aX hg)))) (aQ (iy h1))) (aQ (jw h2))) (aQ h5)) (cZ (aQ (jw h3)) (aQ (iy h3)))) (X9 u v w z Q)
theorem Uy(u w z Q:RE):((z*z-(0)))+((u*u-(Q)))+((Q-(w*w+z*z)))+((w*w-(u*u)))=0:=by
 induction u using auM
 induction w using auM
 induction z using auM
 induction Q using auM
 exact snd fun n=>by
  simp only[RL.add,RL.mul,RL.neg,RL.const]
  grind
theorem Ur(u w z Q:RE)(h1:u*u=Q)(h2:w*w+z*z=Q)(h3:w*w=u*u):z*z≤0:=fun hg=>far (aT (aT (aT (aX hg) (aQ (iy h1))) (aQ (jw h2))) (aQ (iy h3))) (Uy u w z Q)
theorem Nu{z:RE}(h:z*z≤0):z=0:=by
 rcases qi z 0 with e|e|e
 ·have:=mul_pos (vM e) (vM e)
  rw[neg_mul,mul_neg,neg_neg]at this
  exact absurd this (fun h'=>lt_irrefl _ (fP h' (by
   rcases pW (Dp z)with h2|h2
   ·exact absurd h2 ((EL _ _).1 h)
   ·rw[h2]at h';exact absurd h' (lt_irrefl _))))
 ·exact e
 ·exact absurd (mul_pos e e) ((EL _ _).1 h)
theorem WI{u v:RE}:cls u v=0↔v=0∧0<u:=by
 unfold cls
 rcases dE v with⟨a,h1⟩|⟨a,h1⟩|⟨a,h1⟩<;>rcases dE u with⟨b,h'⟩|⟨b,h'⟩|⟨b,h'⟩<;>rw[h1,h']<;>simp[a,b]<;>first|exact lt_irrefl _|exact fun h=>absurd (fP h b) (lt_irrefl _)|(intro h;rw[h]at a;exact absurd a (lt_irrefl _))|skip
end RE
end
section
def xP(p:Pt):Rt:=coR p.1 p.2.1 p.2.2.2.2
def yP(p:Pt):Rt:=coR p.2.2.1 p.2.2.2.1 p.2.2.2.2
def atP(v:Rat×Rat):Pt:=(v.1,0,v.2,0,0)
def rdP(p:Pt):Pt:=(p.1,p.2.1,p.2.2.1,p.2.2.2.1,bif decide (p.2.1=0)&&decide (p.2.2.2.1=0)then 0 else p.2.2.2.2)
def mkP(x y:Rt):Pt:=rdP (x.1,x.2.1,y.1,y.2.1,bif decide (x.2.1=0)then y.2.2 else x.2.2)
def wC(x y:Rt):Prop:=x.2.1=0∨y.2.1=0∨x.2.2=y.2.2
instance (x y:Rt):Decidable (wC x y):=by unfold wC;infer_instance
def aV(p q:Pt):Int:=bif bS (xP p) (xP q)==0 then bS (yP p) (yP q)else bS (xP p) (xP q)
def trP(p:Pt)(v:Rat×Rat):Pt:=(p.1+v.1,p.2.1,p.2.2.1+v.2,p.2.2.2.1,p.2.2.2.2)
def bkV(v:Rat×Rat):Rat×Rat:=(-v.1,-v.2)
def sqA(p:Pt)(v:Rat×Rat):Rat:=(p.1-v.1)*(p.1-v.1)+(p.2.2.1-v.2)*(p.2.2.1-v.2)+(p.2.1*p.2.1+p.2.2.2.1*p.2.2.2.1)*p.2.2.2.2
def sqB(p:Pt)(v:Rat×Rat):Rat:=(p.1-v.1)*p.2.1+(p.2.2.1-v.2)*p.2.2.2.1+((p.1-v.1)*p.2.1+(p.2.2.1-v.2)*p.2.2.2.1)
def sqP(p:Pt)(v:Rat×Rat):Rt:=coR (sqA p v) (sqB p v) p.2.2.2.2
def Je(p:Pt):Prop:=(p.2.1=0∧p.2.2.2.1=0∧p.2.2.2.2=0)∨(¬(p.2.1=0∧p.2.2.2.1=0)∧0<p.2.2.2.2∧fF p.2.2.2.2=false)
instance (p:Pt):Decidable (Je p):=by unfold Je;infer_instance
class Rpd (p:Pt):Prop where
 rd:Je p
def okP(k:Nat)(x:BP):Prop:=ok Pt k x∧Je (dec x)
instance (k:Nat) (x:BP):Decidable (okP k x):=by unfold okP;infer_instance
theorem dz{k:Nat}{x:BP}(h:okP k x):∃v:Pt,x=enc v∧Bd v k∧Rpd v:=by
 obtain⟨h1,h2⟩:=h
 obtain⟨v,rfl,bv⟩:=aY h1
 rw[aq]at h2
 exact⟨v,rfl,bv,⟨h2⟩⟩
theorem bG{x:Pt}{j k:Nat}[h:Bd x j][r:Rpd x](hj:j≤k)(hk:k≤480000):decide (okP k (enc x))=true:=auO ⟨auN (okd hj hk),by rw[aq];exact r.rd⟩
theorem Rpd.ns{p:Pt}(h:Rpd p):Ns p.2.2.2.2:=⟨by rcases h.rd with h|h;exact .inl h.2.2;exact .inr h.2⟩
instance auz {p:Pt} [h:Rpd p]:Ns p.2.2.2.2:=h.ns
theorem Rpd.nn{p:Pt}(h:Rpd p):0≤p.2.2.2.2:=h.ns.nn
theorem S8{a b c:Rat}(h:Ns c)(hb:b=0∨c≠0):Rdd (coR a b c):=by
 refine⟨?_⟩
 unfold coR
 by_cases e:b=0
 ·rw[auO e];exact .inl ⟨rfl,rfl⟩
 ·rw[auQ e]
  rcases h.ns with h|h
  ·rcases hb with hb|hb
   ·exact absurd hb e
   ·exact absurd h hb
  ·exact .inr ⟨e,h⟩
theorem Rpd.b0{p:Pt}(h:Rpd p):(p.2.1=0∧p.2.2.2.1=0)∨p.2.2.2.2≠0:=by
 rcases h.rd with h|h
 ·exact .inl ⟨h.1,h.2.1⟩
 ·exact .inr (by have:=h.2.1;grind)
instance auk {p:Pt} [h:Rpd p]:Rdd (xP p):=S8 h.ns (by rcases h.b0 with h|h;exact .inl h.1;exact .inr h)
instance atp {p:Pt} [h:Rpd p]:Rdd (yP p):=S8 h.ns (by rcases h.b0 with h|h;exact .inl h.2;exact .inr h)
instance auE {p:Pt} {v:Rat×Rat} [h:Rpd p]:Rdd (sqP p v):=S8 h.ns (by
 rcases h.b0 with h|h
 ·refine .inl ?_
  unfold sqB
  rw[h.1,h.2]
  grind
 ·exact .inr h)
instance auF {v:Rat×Rat}:Rpd (atP v):=⟨.inl ⟨rfl,rfl,rfl⟩⟩
instance auw {p:Pt} {v:Rat×Rat} [h:Rpd p]:Rpd (trP p v):=⟨h.rd⟩
theorem aoE{x y:Rt}(hx:Rdd x)(hy:Rdd y)(_h:wC x y):Rpd (mkP x y):=by
 refine⟨?_⟩
 unfold mkP rdP Je
 dsimp only
 rcases hx.rd with⟨a1,a2⟩|⟨a1,a2,a3⟩<;>rcases hy.rd with⟨b1,b2⟩|⟨b1,b2,b3⟩
 ·simp[a1,b1]
 ·simp[a1,b1,b2,b3]
 ·simp[a1,b1,a2,a3]
 ·simp[a1,b1,a2,a3]
section
variable {p:Pt} {j:Nat}
instance auv [h:Bd p j]:Bd (xP p) (mx j (mx j j)):=inferInstanceAs (Bd (coR p.1 p.2.1 p.2.2.2.2) _)
instance auy [h:Bd p j]:Bd (yP p) (mx j (mx j j)):=inferInstanceAs (Bd (coR p.2.2.1 p.2.2.2.1 p.2.2.2.2) _)
instance atB {v:Rat×Rat} [h:Bd v j]:Bd (atP v) (mx j (mx 1 (mx j (mx 1 1)))):=inferInstanceAs (Bd ((v.1,0,v.2,0,0):Pt) _)
instance atx {v:Rat×Rat} {k:Nat} [h:Bd p j] [h':Bd v k]:Bd (trP p v) (mx (j+k+1) (mx j (mx (j+k+1) (mx j j)))):=inferInstanceAs (Bd ((p.1+v.1,p.2.1,p.2.2.1+v.2,p.2.2.2.1,p.2.2.2.2):Pt) _)
instance aut {v:Rat×Rat} [h:Bd v j]:Bd (bkV v) (mx j j):=inferInstanceAs (Bd ((-v.1,-v.2):Rat×Rat) _)
end
theorem kN{j k n:Nat}(h1:j≤n)(h2:k≤n):mx j k≤n:=by
 unfold mx
 cases decide (j≤k)
 ·exact h1
 ·exact h2
section
variable {p:Pt} {v:Rat×Rat} {j k:Nat}
instance auq [h:Bd p j] [h':Bd v k]:Bd (sqA p v) (20*(j+k+1)):=by
 have a1:Bd (p.1-v.1) _:=inferInstance
 have a2:Bd (p.2.2.1-v.2) _:=inferInstance
 have a3:Bd (p.2.1*p.2.1+p.2.2.2.1*p.2.2.2.1) _:=inferInstance
 have i:Bd ((p.1-v.1)*(p.1-v.1)+(p.2.2.1-v.2)*(p.2.2.1-v.2)+(p.2.1*p.2.1+p.2.2.2.1*p.2.2.2.1)*p.2.2.2.2) _:=inferInstance
 exact i.mono (by omega)
instance ato [h:Bd p j] [h':Bd v k]:Bd (sqB p v) (20*(j+k+1)):=by
 have a1:Bd (p.1-v.1) _:=inferInstance
 have a2:Bd (p.2.2.1-v.2) _:=inferInstance
 have i:Bd ((p.1-v.1)*p.2.1+(p.2.2.1-v.2)*p.2.2.2.1+((p.1-v.1)*p.2.1+(p.2.2.1-v.2)*p.2.2.2.1)) _:=inferInstance
 exact i.mono (by omega)
instance aur [h:Bd p j] [h':Bd v k]:Bd (sqP p v) (20*(j+k+1)):=by
 have i:Bd (coR (sqA p v) (sqB p v) p.2.2.2.2) _:=inferInstance
 exact i.mono (kN (by omega) (kN (by omega) (by omega)))
end
namespace RE
def pX(p:Pt):RE:=v2 p.1 p.2.1 p.2.2.2.2
def pY(p:Pt):RE:=v2 p.2.2.1 p.2.2.2.1 p.2.2.2.2
def pR(p:Pt):RE×RE:=(pX p,pY p)
theorem wD(p:Pt):vR (xP p)=pX p:=vR_co _ _ _
theorem abR(p:Pt):vR (yP p)=pY p:=vR_co _ _ _
theorem oE{p:Pt}[h:Rpd p]:0≤(xP p).2.2:=(auk (p:=p)).nn
theorem Me{p:Pt}[h:Rpd p]:0≤(yP p).2.2:=(atp (p:=p)).nn
theorem lQ{p q:Pt}[Rpd p][Rpd q]:aV p q=lxc (pR p) (pR q):=by
 unfold aV lxc
 rw[cmpT_re oE oE,cmpT_re Me Me,wD,wD,abR,abR]
 rfl
theorem aig(x y s t c u w:RE):(x+s*c-u)*(x+s*c-u)+(y+t*c-w)*(y+t*c-w)=(x-u)*(x-u)+(y-w)*(y-w)+(s*s+t*t)*(c*c)+((x-u)*s+(y-w)*t+((x-u)*s+(y-w)*t))*c:=by
 induction x using auM
 induction y using auM
 induction s using auM
 induction t using auM
 induction c using auM
 induction u using auM
 induction w using auM
 exact snd fun n=>by
  simp only[RL.add,RL.mul,RL.neg]
  grind
theorem akP{p:Pt}{v:Rat×Rat}[h:Rpd p]:vR (sqP p v)=(pX p-of v.1)*(pX p-of v.1)+(pY p-of v.2)*(pY p-of v.2):=by
 unfold sqP pX pY
 rw[vR_co]
 unfold v2
 rw[aig,pV h.nn]
 unfold sqA sqB
 simp only[of_add,of_sub,bR]
theorem aru(v:Rat×Rat):pX (atP v)=of v.1:=eH _ _
theorem ar0(v:Rat×Rat):pY (atP v)=of v.2:=eH _ _
end RE
end
theorem wG(a b:Rat):(aR a b !=0)=!decide (a=b):=by
 unfold bne
 rw[aE]
def QM:Env:=[(151,lg),(76,kC),(144,qb),(74,l4),(147,kX),(75,n6),(173,CE)]
theorem Hq:EnvAll Tryz.prog QM:=⟨gj,gk,lj,il,gG,jE,xK,trivial⟩
def ao8:Ctx:=CX QM []
def afg(_k:KT):OLR:=match decide (bU (0:Int))with|true=>some [RV.d tR (hid (ai ((0:Int):Rat)))]|false=>none
theorem apk:RS ao8 152 [] (afg):=rsX
theorem aaB:Con Tryz.prog 152 [] [.d tR (ai 0)]:=by
 refine aO Hq (apk ⟨0,?_⟩)
 unfold afg
 rw[dT (show bU 0 by decide)]
 simp only[am]
 rfl
def Tl:aM:=spN false true [] (fun _=>true) (fun _=>[RV.d tR (hid (ai 0))])
theorem QV:SpK 152 Tl:=spX fun _ _=>by simp only[am];exact aaB
def Ff:Env:=(152,Tl)::QM
theorem tC:EnvAll Tryz.prog Ff:=⟨QV,Hq⟩
def apV:Ctx:=CX Ff []
def ahA(v:BV)(_k:KT):OLR:=some [RV.d tP (v.1,(hid (ai 0),(v.2,(hid (ai 0),hid (ai 0)))))]
theorem aoU(v:BV):RS apV 78 [.d tV v] (ahA v):=rsX
theorem aeR(v:BV)(h:ok (Rat×Rat) 100000 v):Con Tryz.prog 78 [.d tV v] [.d tP (enc (atP (dec v)))]:=by
 refine aO tC (aoU _ ⟨0,?_⟩)
 have hv:=h
 obtain⟨v,rfl,bv⟩:=aY hv
 unfold ahA
 simp only[am,aq,aH,aI,aF]
 try rfl
def anv:Ctx:=CX Ff []
def agA(p:BP)(_k:KT):OLR:=match decide (okR p.2.1)with|true=>(match(aR (ae p.2.1) 0)==0 with|true=>(match decide (okR p.2.2.2.1)with|true=>(match(aR (ae p.2.2.2.1) 0)==0 with|true=>some [RV.d tP (p.1,(p.2.1,(p.2.2.1,(p.2.2.2.1,hid (ai 0)))))]|false=>some [RV.d tP p])|false=>none)|false=>some [RV.d tP p])|false=>none
theorem an8(p:BP):RS anv 252 [.d tP p] (agA p):=rsX
theorem abT(p:BP)(h:ok Pt 21000 p):Con Tryz.prog 252 [.d tP p] [.d tP (enc (rdP (dec p)))]:=by
 refine aO tC (an8 _ ⟨0,?_⟩)
 have hp:=h
 obtain⟨p,rfl,bp⟩:=aY hp
 unfold agA
 simp only[am,aq,aH,aI,aF,az,aZ,Nat.reduceLeDiff,aE]
 unfold rdP
 by_cases h1:p.2.1=0
 ·by_cases h2:p.2.2.2.1=0
  ·rw[auO h1,auO h2];rfl
  ·rw[auO h1,auQ h2];rfl
 ·rw[auQ h1];rfl
def asc:Ctx:=CX Ff []
def agS(a b c:BR)(_k:KT):OLR:=match decide (okR b)with|true=>(match(aR (ae b) 0)==0 with|true=>some [RV.d tO (a,(b,hid (ai 0)))]|false=>some [RV.d tO (a,(b,c))])|false=>none
theorem ao9(a b c:BR):RS asc 232 [.d tR a,.d tR b,.d tR c] (agS a b c):=rsX
theorem aeB(a b c:BR)(h:okR a∧okR b∧okR c):Con Tryz.prog 232 [.d tR a,.d tR b,.d tR c] [.d tO (enc (coR (ae a) (ae b) (ae c)))]:=by
 refine aO tC (ao9 _ _ _ ⟨0,?_⟩)
 obtain⟨ha,hb,hc⟩:=h
 obtain⟨a,rfl,ba⟩:=fk ha
 obtain⟨b,rfl,bb⟩:=fk hb
 obtain⟨c,rfl,bc⟩:=fk hc
 unfold agS
 simp only[am,az,aZ,Nat.reduceLeDiff,aE]
 unfold coR
 by_cases e:b=0
 ·subst e;rw[auO rfl];rfl
 ·rw[auQ e];rfl
def CK:aM:=spN false true [tV] (fun x=>decide (ok (Rat×Rat) 100000 x.1)) (fun x=>[RV.d tP (hid (enc (atP (dec x.1))))])
theorem yL:SpK 78 CK:=spX fun x h=>by simp only[am];exact aeR x.1 (auN h)
def W7:aM:=spN false true [tP] (fun x=>decide (ok Pt 21000 x.1)) (fun x=>[RV.d tP (hid (enc (rdP (dec x.1))))])
theorem YZ:SpK 252 W7:=spX fun x h=>by simp only[am];exact abT x.1 (auN h)
def Wq:aM:=spN false true [tR,tR,tR] (fun x=>decide (okR x.1∧okR x.2.1∧okR x.2.2.1)) (fun x=>[RV.d tO (hid (enc (coR (ae x.1) (ae x.2.1) (ae x.2.2.1))))])
theorem Zp:SpK 232 Wq:=spX fun x h=>by simp only[am];exact aeB x.1 x.2.1 x.2.2.1 (auN h)
def Fs:Env:=(78,CK)::(252,W7)::(232,Wq)::Ff
theorem un:EnvAll Tryz.prog Fs:=⟨yL,YZ,Zp,tC⟩
def aoF:Ctx:=CX Fs []
def ahk(x y:BO3)(_k:KT):OLR:=match decide (okR x.2.1)with|true=>(match(aR (ae x.2.1) 0)==0 with|true=>(match decide (ok Pt 21000 (x.1,(x.2.1,y)))with|true=>some [RV.d tP (hid (enc (rdP (dec (x.1,(x.2.1,y)))))),RV.d ayb 0]|false=>none)|false=>(match decide (okR y.2.1)with|true=>(match(aR (ae y.2.1) 0) !=0 with|true=>(match decide (okR x.2.2∧okR y.2.2)with|true=>(match(aR (ae x.2.2) (ae y.2.2)) !=0 with|true=>some [RV.d tP (((false,[]),(false,[])),(((false,[]),(false,[])),(((false,[]),(false,[])),(((false,[]),(false,[])),((false,[]),(false,[])))))),RV.d ayb 1]|false=>(match decide (ok Pt 21000 (x.1,(x.2.1,(y.1,(y.2.1,x.2.2)))))with|true=>some [RV.d tP (hid (enc (rdP (dec (x.1,(x.2.1,(y.1,(y.2.1,x.2.2)))))))),RV.d ayb 0]|false=>none))|false=>none)|false=>(match decide (ok Pt 21000 (x.1,(x.2.1,(y.1,(y.2.1,x.2.2)))))with|true=>some [RV.d tP (hid (enc (rdP (dec (x.1,(x.2.1,(y.1,(y.2.1,x.2.2)))))))),RV.d ayb 0]|false=>none))|false=>none))|false=>none
theorem aoz(x y:BO3):RS aoF 208 [.d tO x,.d tO y] (ahk x y):=rsX
theorem aeU(x y:BO3)(h:okT 15000 x∧okT 15000 y∧wC (dec x) (dec y)):Con Tryz.prog 208 [.d tO x,.d tO y] [.d tP (enc (mkP (dec x) (dec y))),.d ayb 0]:=by
 refine aO un (aoz _ _ ⟨0,?_⟩)
 obtain⟨hx,hy,hy_2⟩:=h
 obtain⟨x,rfl,bx,rx⟩:=kx hx
 obtain⟨y,rfl,b_y,ry⟩:=kx hy
 have i1:decide (ok Pt 21000 (enc ((x.1,x.2.1,y):Pt)))=true:=okd (by decide) (by decide)
 have i2:decide (ok Pt 21000 (enc ((x.1,x.2.1,y.1,y.2.1,x.2.2):Pt)))=true:=okd (by decide) (by decide)
 have j1:(dec ((ai x.1,ai x.2.1,enc y):BP):Pt)=(x.1,x.2.1,y):=aq ((x.1,x.2.1,y):Pt)
 have j2:(dec ((ai x.1,ai x.2.1,ai y.1,ai y.2.1,ai x.2.2):BP):Pt)=(x.1,x.2.1,y.1,y.2.1,x.2.2):=aq ((x.1,x.2.1,y.1,y.2.1,x.2.2):Pt)
 have i1:decide (ok Pt 21000 ((ai x.1,ai x.2.1,enc y):BP))=true:=i1
 have i2:decide (ok Pt 21000 ((ai x.1,ai x.2.1,ai y.1,ai y.2.1,ai x.2.2):BP))=true:=i2
 have hm:=hy_2
 rw[aq,aq]at hm
 unfold ahk
 simp only[am,aq,aH,aI,aF,az,aZ,auR,auT,Nat.reduceLeDiff,aE,wG,i1,i2,j1,j2]
 unfold mkP
 by_cases e1:x.2.1=0
 ·rw[auO e1];rfl
 ·rw[auQ e1]
  by_cases e2:y.2.1=0
  ·rw[auO e2];rfl
  ·rw[auQ e2,auO ((hm.resolve_left e1).resolve_left e2)];rfl
def at8:Ctx:=CX Fs []
def aqu(p:BP)(_k:KT):OLR:=match decide (okR p.1∧okR p.2.1∧okR p.2.2.2.2)with|true=>some [RV.d tO (hid (enc (coR (ae p.1) (ae p.2.1) (ae p.2.2.2.2))))]|false=>none
theorem atI(p:BP):RS at8 174 [.d tP p] (aqu p):=rsX
theorem alz(p:BP)(h:okP 4000 p):Con Tryz.prog 174 [.d tP p] [.d tO (enc (xP (dec p)))]:=by
 refine aO un (atI _ ⟨0,?_⟩)
 have hp:=h
 obtain⟨p,rfl,bp,rp⟩:=dz hp
 unfold aqu
 simp only[am,aq,aH,aI,aF,az,aZ,auR,auT,Nat.reduceLeDiff]
 try rfl
def auo:Ctx:=CX Fs []
def aov(p:BP)(_k:KT):OLR:=match decide (okR p.2.2.1∧okR p.2.2.2.1∧okR p.2.2.2.2)with|true=>some [RV.d tO (hid (enc (coR (ae p.2.2.1) (ae p.2.2.2.1) (ae p.2.2.2.2))))]|false=>none
theorem at0(p:BP):RS auo 175 [.d tP p] (aov p):=rsX
theorem aiM(p:BP)(h:okP 4000 p):Con Tryz.prog 175 [.d tP p] [.d tO (enc (yP (dec p)))]:=by
 refine aO un (at0 _ ⟨0,?_⟩)
 have hp:=h
 obtain⟨p,rfl,bp,rp⟩:=dz hp
 unfold aov
 simp only[am,aq,aH,aI,aF,az,aZ,auR,auT,Nat.reduceLeDiff]
 try rfl
def TD:aM:=spN false true [tP] (fun x=>decide (okP 4000 x.1)) (fun x=>[RV.d tO (hid (enc (xP (dec x.1))))])
theorem Nc:SpK 174 TD:=spX fun x h=>by simp only[am];exact alz x.1 (auN h)
def Sj:aM:=spN false true [tP] (fun x=>decide (okP 4000 x.1)) (fun x=>[RV.d tO (hid (enc (yP (dec x.1))))])
theorem Ly:SpK 175 Sj:=spX fun x h=>by simp only[am];exact aiM x.1 (auN h)
def agT:Env:=(174,TD)::(175,Sj)::Fs
theorem Se:EnvAll Tryz.prog agT:=⟨Nc,Ly,un⟩
def aoO:Ctx:=CX agT []
def agO(p q:BP)(_k:KT):OLR:=match decide (okP 4000 p)with|true=>(match decide (okP 4000 q)with|true=>(match decide (okT 15000 (hid (enc (xP (dec p))))∧okT 15000 (hid (enc (xP (dec q)))))with|true=>(match(bS (dec (hid (enc (xP (dec p))))) (dec (hid (enc (xP (dec q)))))) !=0 with|true=>some [RV.d ayb (bS (dec (hid (enc (xP (dec p))))) (dec (hid (enc (xP (dec q))))))]|false=>(match decide (okP 4000 p)with|true=>(match decide (okP 4000 q)with|true=>(match decide (okT 15000 (hid (enc (yP (dec p))))∧okT 15000 (hid (enc (yP (dec q)))))with|true=>some [RV.d ayb (bS (dec (hid (enc (yP (dec p))))) (dec (hid (enc (yP (dec q))))))]|false=>none)|false=>none)|false=>none))|false=>none)|false=>none)|false=>none
theorem asK(p q:BP):RS aoO 108 [.d tP p,.d tP q] (agO p q):=rsX
theorem abP(p q:BP)(h:okP 4000 p∧okP 4000 q):Con Tryz.prog 108 [.d tP p,.d tP q] [.d ayb (aV (dec p) (dec q))]:=by
 refine aO Se (asK _ _ ⟨0,?_⟩)
 obtain⟨hp,hq⟩:=h
 obtain⟨p,rfl,bp,rp⟩:=dz hp
 obtain⟨q,rfl,bq,rq⟩:=dz hq
 unfold agO
 simp only[am,aq,auR,auT,mx,Nat.reduceLeDiff,au2,cond_true,bH,bG]
 unfold aV bne
 cases bS (xP p) (xP q)==0<;>rfl
def WM:aM:=spN false true [tO,tO] (fun x=>decide (okT 15000 x.1∧okT 15000 x.2.1∧wC (dec x.1) (dec x.2.1))) (fun x=>[RV.d tP (hid (enc (mkP (dec x.1) (dec x.2.1)))),RV.d ayb 0])
theorem Ys:SpK 208 WM:=spX fun x h=>by simp only[am];exact aeU x.1 x.2.1 (auN h)
def Ew:aM:=spN true true [tP,tP] (fun x=>decide (okP 4000 x.1∧okP 4000 x.2.1)) (fun x=>[RV.d ayb (aV (dec x.1) (dec x.2.1))])
theorem zh:SpK 108 Ew:=spX fun x h=>abP x.1 x.2.1 (auN h)
section
def OT(l:Ln)(p:Pt):Rat:=l.1*p.1+l.2.1*p.2.2.1-l.2.2
def Qe(l:Ln)(p:Pt):Rat:=l.1*p.2.1+l.2.1*p.2.2.2.1
def pN(l:Ln)(p:Pt):Int:=fZ (OT l p) (Qe l p) p.2.2.2.2
def ctr(c:Ln):Rat×Rat:=(c.1,c.2.1)
def nS(c:Ln)(p:Pt):Int:= -fZ (sqA p (ctr c)-c.2.2) (sqB p (ctr c)) p.2.2.2.2
def asp(l:Ln)(v:Rat×Rat):Rat:=(l.1*v.1+l.2.1*v.2-l.2.2)/(l.1*l.1+l.2.1*l.2.1)
def Np(l:Ln)(v:Rat×Rat):Rat×Rat:=(v.1-asp l v*l.1,v.2-asp l v*l.2.1)
section
variable {l:Ln} {p:Pt} {v:Rat×Rat} {i j k:Nat}
instance aty [h:Bd l i]:Bd (ctr l) (mx i i):=inferInstanceAs (Bd ((l.1,l.2.1):Rat×Rat) _)
instance ata [h:Bd l i] [h':Bd p j]:Bd (OT l p) ((i+j)+(i+j)+1+i+1):=inferInstanceAs (Bd (l.1*p.1+l.2.1*p.2.2.1-l.2.2) _)
instance atc [h:Bd l i] [h':Bd p j]:Bd (Qe l p) ((i+j)+(i+j)+1):=inferInstanceAs (Bd (l.1*p.2.1+l.2.1*p.2.2.2.1) _)
end
theorem KB{a b:Rat}(h:a≠0∨b≠0):a*a+b*b≠0:=by
 have ha:0≤a*a:=by
  rcases(by grind:0≤a∨0≤ -a)with h|h
  ·exact avI h h
  ·have:=avI h h;grind
 have hb:0≤b*b:=by
  rcases(by grind:0≤b∨0≤ -b)with h|h
  ·exact avI h h
  ·have:=avI h h;grind
 intro e
 have e1:a*a=0:=by grind
 have e2:b*b=0:=by grind
 rcases h with h|h
 ·exact h (by rcases aw9.1 e1 with h|h<;>exact h)
 ·exact h (by rcases aw9.1 e2 with h|h<;>exact h)
namespace RE
theorem akV(a b x s y t c r:RE):a*(x+s*r)+b*(y+t*r)+ -c=a*x+b*y-c+(a*s+b*t)*r:=by
 induction a using auM
 induction b using auM
 induction x using auM
 induction s using auM
 induction y using auM
 induction t using auM
 induction c using auM
 induction r using auM
 exact snd fun n=>by
  simp only[RL.add,RL.mul,RL.neg]
  grind
theorem ant(a b q r:RE):a+b*r+ -q=a-q+b*r:=by
 induction a using auM
 induction b using auM
 induction q using auM
 induction r using auM
 exact snd fun n=>by
  simp only[RL.add,RL.mul,RL.neg]
  grind
theorem Xn(a b:RE):a+ -b=a-b:=rfl
theorem DU(l:Ln){p:Pt}[h:Rpd p]:pN l p=sg (of l.1*pX p+of l.2.1*pY p+ -of l.2.2):=by
 unfold pN pX pY
 rw[sgn2_re h.nn]
 unfold v2
 rw[akV]
 unfold OT Qe
 simp only[of_add,of_sub,bR]
theorem Ei(c:Ln){p:Pt}[h:Rpd p]:nS c p= -sg ((pX p-of c.1)*(pX p-of c.1)+(pY p-of c.2.1)*(pY p-of c.2.1)+ -of c.2.2):=by
 unfold nS
 have e:=akP (p:=p) (v:=ctr c)
 unfold sqP at e
 rw[vR_co]at e
 rw[sgn2_re h.nn]
 unfold v2 at e ⊢
 rw[of_sub,←ant,e]
 rfl
theorem sidL_ok(l:Ln){p:Pt}[Rpd p](h:(ve l p).2=true):(ve l p).1=pN l p:=by
 rw[adH h,DU]
 try rfl
theorem insC_ok(c:Ln){p:Pt}[Rpd p](h:(tb c p).2=true): -(tb c p).1=nS c p:=by
 rw[aax h,Ei]
 simp only[Xn]
 try rfl
end RE
end
def iz(r s:Rt):Rat:=bif decide (r.2.1=0)then s.2.2 else r.2.2
def oH(r s:Rt):Bool:=decide (r.2.1=0)||(decide (s.2.1=0)||decide (r.2.2=s.2.2))
def mY(r s:Rt):Rt:=mb (r.1*s.1+r.2.1*s.2.1*iz r s) (r.1*s.2.1+r.2.1*s.1) (iz r s)
def zu(r s:Rt):Rt:=mb (r.1+s.1) (r.2.1+s.2.1) (iz r s)
def arT(r:Rt)(a:Rat):Rt:=(r.1+a,r.2.1,r.2.2)
theorem cf(a b:Rat):(aR a b !=0)=!decide (a=b):=by
 unfold bne
 rw[aE]
instance atO {r s:Rt} {i j:Nat} [h:Bd r i] [h':Bd s j]:Bd (iz r s) (mx j i):=inferInstanceAs (Bd (bif decide (r.2.1=0)then s.2.2 else r.2.2) _)
instance atf {a b c:Rat} {i j k:Nat} [ha:Bd a i] [hb:Bd b j] [hc:Bd c k]:Bd (mb a b c) (mx i (mx j k)):=by
 have h1:=IY i (mx j k)
 have h2:=Iw i (mx j k)
 have h3:=IY j k
 have h4:=Iw j k
 have h5:=sD ha.le
 have z:bdR (mx i (mx j k)) 0:=cN uA.le (by omega)
 refine⟨?_⟩
 unfold mb
 cases decide (b=0)
 ·cases decide (c=0)
  ·exact⟨cN ha.le (by omega),cN hb.le (by omega),cN hc.le (by omega)⟩
  ·exact⟨cN ha.le (by omega),z,z⟩
 ·exact⟨cN ha.le (by omega),z,z⟩
theorem Pn(r:Rt):oH r r=true:=by
 unfold oH
 rw[auO (rfl:r.2.2=r.2.2)]
 simp
theorem LI{p:Pt}{v:Rat×Rat}(h:Rpd p):oH (mY (xP (trP p (bkV v))) (xP (trP p (bkV v)))) (mY (yP (trP p (bkV v))) (yP (trP p (bkV v))))=true∧zu (mY (xP (trP p (bkV v))) (xP (trP p (bkV v)))) (mY (yP (trP p (bkV v))) (yP (trP p (bkV v))))=sqP p v:=by
 obtain⟨ax,bx,ay,b_,c⟩:=p
 have hr:=h.rd
 unfold Je at hr
 simp only at hr
 unfold sqP sqA sqB xP yP trP bkV
 simp only
 rw[show ax+ -v.1=ax-v.1 by grind,show ay+ -v.2=ay-v.2 by grind]
 generalize ax-v.1=x
 generalize ay-v.2=y
 rcases hr with⟨rfl,rfl,rfl⟩|⟨h1,h2,h3⟩
 ·have e0:∀a:Rat,coR a 0 0=(a,0,0):=fun a=>rfl
  have e1:∀a:Rat,mY (a,0,0) (a,0,0)=(a*a,0,0):=fun a=>by
   unfold mY iz mb
   simp
   grind
  rw[e0,e0,e1,e1]
  refine⟨rfl,?_⟩
  rw[show x*0+y*0+(x*0+y*0)=(0:Rat) by grind]
  unfold zu iz mb coR
  simp
  grind
 ·have hc:c≠0:=by grind
  have dc:decide (c=0)=false:=auQ hc
  have sq0:∀a:Rat,mY (coR a 0 c) (coR a 0 c)=(a*a,0,0):=fun a=>by
   unfold coR
   rw[auO rfl]
   unfold mY iz mb
   simp
   grind
  have sq1:∀a b:Rat,b≠0→mY (coR a b c) (coR a b c)=coR (a*a+b*b*c) (a*b+b*a) c:=fun a b hb=>by
   have e:coR a b c=(a,b,c):=by unfold coR;rw[auQ hb];rfl
   rw[e]
   unfold mY iz mb coR
   simp only[auQ hb,cond_false,dc]
  have cR:∀a b:Rat,mb a b c=coR a b c:=fun a b=>by unfold mb coR;rw[dc];rfl
  have ad:∀a b d e:Rat,oH (coR a b c) (coR d e c)=true∧(b≠0∨e≠0→zu (coR a b c) (coR d e c)=coR (a+d) (b+e) c)∧(b=0→e=0→zu (coR a b c) (coR d e c)=(a+d,0,0)):=fun a b d e=>by
   by_cases hb:b=0
   ·subst hb
    by_cases he:e=0
    ·subst he
     refine⟨rfl,fun h=>by simp at h,fun _ _=>?_⟩
     unfold coR zu iz mb
     simp
    ·refine⟨rfl,fun _=>?_,fun _ h=>absurd h he⟩
     have e1:coR a 0 c=(a,0,0):=rfl
     have e2:coR d e c=(d,e,c):=by unfold coR;rw[auQ he];rfl
     rw[e1,e2]
     show mb (a+d) (0+e) c=_
     rw[cR]
   ·have e1:coR a b c=(a,b,c):=by unfold coR;rw[auQ hb];rfl
    by_cases he:e=0
    ·subst he
     have e2:coR d 0 c=(d,0,0):=rfl
     refine⟨by rw[e1,e2];simp[oH],fun _=>?_,fun h=>absurd h hb⟩
     rw[e1,e2]
     unfold zu iz
     simp only[auQ hb,cond_false]
     rw[cR]
    ·have e2:coR d e c=(d,e,c):=by unfold coR;rw[auQ he];rfl
     refine⟨by rw[e1,e2];simp[oH],fun _=>?_,fun h=>absurd h hb⟩
     rw[e1,e2]
     unfold zu iz
     simp only[auQ hb,cond_false]
     rw[cR]
  have c0:∀a:Rat,((a,0,0):Rt)=coR a 0 c:=fun a=>rfl
  by_cases hx:bx=0
  ·subst hx
   have hy:b_≠0:=fun e=>h1 ⟨rfl,e⟩
   rw[sq0,sq1 _ _ hy,c0]
   obtain⟨g1,g2,g3⟩:=ad (x*x) 0 (y*y+b_*b_*c) (y*b_+b_*y)
   refine⟨g1,?_⟩
   by_cases he:y*b_+b_*y=0
   ·rw[g3 rfl he,show x*0+y*b_+(x*0+y*b_)=0 by grind]
    show _=coR _ 0 c
    rw[←c0]
    congr 1
    grind
   ·rw[g2 (.inr he)]
    congr 1<;>grind
  ·by_cases hy:b_=0
   ·subst hy
    rw[sq0,sq1 _ _ hx,c0]
    obtain⟨g1,g2,g3⟩:=ad (x*x+bx*bx*c) (x*bx+bx*x) (y*y) 0
    refine⟨g1,?_⟩
    by_cases he:x*bx+bx*x=0
    ·rw[g3 he rfl,show x*bx+y*0+(x*bx+y*0)=0 by grind]
     show _=coR _ 0 c
     rw[←c0]
     congr 1
     grind
    ·rw[g2 (.inl he)]
     congr 1<;>grind
   ·rw[sq1 _ _ hx,sq1 _ _ hy]
    obtain⟨g1,g2,g3⟩:=ad (x*x+bx*bx*c) (x*bx+bx*x) (y*y+b_*b_*c) (y*b_+b_*y)
    refine⟨g1,?_⟩
    by_cases h0:x*bx+bx*x=0∧y*b_+b_*y=0
    ·rw[g3 h0.1 h0.2,show x*bx+y*b_+(x*bx+y*b_)=0 by grind]
     show _=coR _ 0 c
     rw[←c0]
     congr 1
     grind
    ·rw[g2 (by by_cases e:x*bx+bx*x=0;exact .inr (fun e'=>h0 ⟨e,e'⟩);exact .inl e)]
     congr 1<;>grind
theorem Rpd.com{p:Pt}{v:Rat×Rat}(h:Rpd p):oH (mY (xP (trP p (bkV v))) (xP (trP p (bkV v)))) (mY (yP (trP p (bkV v))) (yP (trP p (bkV v))))=true:=(LI h).1
instance as9 {r s:Rt} {i j:Nat} [h:Bd r i] [h':Bd s j]:Bd (mY r s) (2*(i+j)+(mx j i)+1):=by
 have m:Bd (iz r s) (mx j i):=inferInstance
 have a1:Bd (r.1*s.1+r.2.1*s.2.1*iz r s) _:=inferInstance
 have a2:Bd (r.1*s.2.1+r.2.1*s.1) _:=inferInstance
 have i1:Bd (mb (r.1*s.1+r.2.1*s.2.1*iz r s) (r.1*s.2.1+r.2.1*s.1) (iz r s)) _:=inferInstance
 exact i1.mono (kN (by omega) (kN (by omega) (by omega)))
instance ati {r s:Rt} {i j:Nat} [h:Bd r i] [h':Bd s j]:Bd (zu r s) (i+j+1):=by
 have i1:Bd (mb (r.1+s.1) (r.2.1+s.2.1) (iz r s)) _:=inferInstance
 exact i1.mono (kN (by omega) (kN (by omega) (kN (by omega) (by omega))))
instance atR {r:Rt} {a:Rat} {i j:Nat} [h:Bd r i] [h':Bd a j]:Bd (arT r a) (i+j+1):=by
 have i1:Bd ((r.1+a,r.2.1,r.2.2):Rt) _:=inferInstance
 exact i1.mono (kN (by omega) (kN (by omega) (by omega)))
def CN:aM:=spN true true [tO,tR] (fun x=>decide (okT 15000 x.1∧ok Rat 15000 x.2.1)) (fun x=>[RV.d ayb (gE (dec x.1) (ae x.2.1))])
theorem Bj:SpK 267 CN:=spX fun x h=>Q5 x.1 x.2.1 (auN h)
def yp:Env:=[(69,jS),(35,nv),(85,qU),(86,ng),(92,rg),(169,ri),(157,D2),(84,Ee),(87,Dz),(90,wY),(267,CN)]
theorem mw:EnvAll Tryz.prog yp:=⟨gU,kq,mg,j8,mX,mp,AY,AX,B4,u7,Bj,trivial⟩
def ai3:Ctx:=CX yp []
def S7(r s:BO3)(_k:KT):OLR:=match decide (okR r.2.1)with|true=>(match(aR (ae r.2.1) 0)==0 with|true=>some [RV.d tR s.2.2,RV.d .bool true]|false=>(match decide (okR s.2.1)with|true=>(match(aR (ae s.2.1) 0)==0 with|true=>some [RV.d tR r.2.2,RV.d .bool true]|false=>(match decide (okR r.2.2∧okR s.2.2)with|true=>some [RV.d tR r.2.2,RV.d .bool ((aR (ae r.2.2) (ae s.2.2))==0)]|false=>none))|false=>none))|false=>none
theorem akM(r s:BO3):RS ai3 279 [.d tO r,.d tO s] (S7 r s):=rsX
theorem Xc(r s:BO3)(h:ok Rt 100000 r∧ok Rt 100000 s):Con Tryz.prog 279 [.d tO r,.d tO s] [.d tR (ai (iz (dec r) (dec s))),.d .bool (oH (dec r) (dec s))]:=by
 refine aO mw (akM _ _ ⟨0,?_⟩)
 obtain⟨hr,hs⟩:=h
 obtain⟨r,rfl,br⟩:=aY hr
 obtain⟨s,rfl,bs⟩:=aY hs
 unfold S7
 simp only[aq,aH,aI,aF,az,aZ,auR,auT,Nat.reduceLeDiff,aE]
 unfold iz oH
 cases decide (r.2.1=0)<;>cases decide (s.2.1=0)<;>rfl
def aj3:Ctx:=CX yp []
def XY(r:BO3)(a:BR)(_k:KT):OLR:=match decide (okR r.1∧okR a)with|true=>some [RV.d tO (hid (ai (ae r.1+ae a)),r.2)]|false=>none
theorem ajW(r:BO3)(a:BR):RS aj3 234 [.d tO r,.d tR a] (XY r a):=rsX
theorem Vp(r:BO3)(a:BR)(h:ok Rt 100000 r∧ok Rat 100000 a):Con Tryz.prog 234 [.d tO r,.d tR a] [.d tO (enc (arT (dec r) (ae a)))]:=by
 refine aO mw (ajW _ _ ⟨0,?_⟩)
 obtain⟨hr,ha⟩:=h
 obtain⟨r,rfl,br⟩:=aY hr
 obtain⟨a,rfl,ba⟩:=aY ha
 unfold XY
 simp only[am,aq,aH,aI,aF,az,aZ,auR,auT,Nat.reduceLeDiff]
 rfl
def aiT:Ctx:=CX yp []
def VG(_k:KT):OLR:=match decide (bU (0:Int))with|true=>some [RV.d tR (hid (ai ((0:Int):Rat)))]|false=>none
theorem amC:RS aiT 89 [] (VG):=rsX
theorem Y3:Con Tryz.prog 89 [] [.d tR (ai 0)]:=by
 refine aO mw (amC ⟨0,?_⟩)
 unfold VG
 rw[dT (show bU 0 by decide)]
 simp only[am]
 rfl
def aju:Ctx:=CX yp []
def Sk(p:BP)(v:BV)(_k:KT):OLR:=match decide (okR p.1∧okR v.1)with|true=>(match decide (okR p.2.2.1∧okR v.2)with|true=>some [RV.d tP (hid (ai (ae p.1+ae v.1)),(p.2.1,(hid (ai (ae p.2.2.1+ae v.2)),p.2.2.2)))]|false=>none)|false=>none
theorem ald(p:BP)(v:BV):RS aju 263 [.d tP p,.d tV v] (Sk p v):=rsX
theorem Xx(p:BP)(v:BV)(h:ok Pt 21000 p∧ok (Rat×Rat) 1000 v):Con Tryz.prog 263 [.d tP p,.d tV v] [.d tP (enc (trP (dec p) (dec v)))]:=by
 refine aO mw (ald _ _ ⟨0,?_⟩)
 obtain⟨hp,hv⟩:=h
 obtain⟨p,rfl,bp⟩:=aY hp
 obtain⟨v,rfl,bv⟩:=aY hv
 unfold Sk
 simp only[am,aq,aH,aI,aF,az,aZ,auR,auT,Nat.reduceLeDiff]
 rfl
def ajh:Ctx:=CX yp []
def Sc(v:BV)(_k:KT):OLR:=match decide (okR v.1)with|true=>(match decide (okR v.2)with|true=>some [RV.d tV (hid (ai (-ae v.1)),hid (ai (-ae v.2)))]|false=>none)|false=>none
theorem amc(v:BV):RS ajh 264 [.d tV v] (Sc v):=rsX
theorem WQ(v:BV)(h:ok (Rat×Rat) 21000 v):Con Tryz.prog 264 [.d tV v] [.d tV (enc (bkV (dec v)))]:=by
 refine aO mw (amc _ ⟨0,?_⟩)
 have hv:=h
 obtain⟨v,rfl,bv⟩:=aY hv
 unfold Sc
 simp only[am,aq,aH,aI,aF,az,aZ,Nat.reduceLeDiff]
 rfl
def K3:aM:=spN false true [tO,tO] (fun x=>decide (ok Rt 100000 x.1∧ok Rt 100000 x.2.1)) (fun x=>[RV.d tR (hid (ai (iz (dec x.1) (dec x.2.1)))),RV.d .bool (oH (dec x.1) (dec x.2.1))])
theorem Oa:SpK 279 K3:=spX fun x h=>by simp only[am];exact Xc x.1 x.2.1 (auN h)
def CL:aM:=spN false true [tO,tR] (fun x=>decide (ok Rt 100000 x.1∧ok Rat 100000 x.2.1)) (fun x=>[RV.d tO (hid (enc (arT (dec x.1) (ae x.2.1))))])
theorem A9:SpK 234 CL:=spX fun x h=>by simp only[am];exact Vp x.1 x.2.1 (auN h)
def M3:aM:=spN false true [] (fun _=>true) (fun _=>[RV.d tR (hid (ai 0))])
theorem OK:SpK 89 M3:=spX fun _ _=>by simp only[am];exact Y3
def ND:aM:=spN false true [tP,tV] (fun x=>decide (ok Pt 21000 x.1∧ok (Rat×Rat) 1000 x.2.1)) (fun x=>[RV.d tP (hid (enc (trP (dec x.1) (dec x.2.1))))])
theorem Oy:SpK 263 ND:=spX fun x h=>by simp only[am];exact Xx x.1 x.2.1 (auN h)
def Ms:aM:=spN false true [tV] (fun x=>decide (ok (Rat×Rat) 21000 x.1)) (fun x=>[RV.d tV (hid (enc (bkV (dec x.1))))])
theorem Qc:SpK 264 Ms:=spX fun x h=>by simp only[am];exact WQ x.1 (auN h)
def Ll:Env:=(279,K3)::(234,CL)::(89,M3)::(263,ND)::(264,Ms)::yp
theorem Ae:EnvAll Tryz.prog Ll:=⟨Oa,A9,OK,Oy,Qc,mw⟩
def aiA:Ctx:=CX Ll []
def TM(r s:BO3)(_k:KT):OLR:=match decide (ok Rt 100000 r∧ok Rt 100000 s)with|true=>(match !(oH (dec r) (dec s))with|true=>some [RV.d tO (((false,[]),(false,[])),(((false,[]),(false,[])),((false,[]),(false,[])))),RV.d ayb 1]|false=>(match decide (okR r.1∧okR s.1)with|true=>(match decide (okR r.2.1∧okR s.2.1)with|true=>(match decide (okR (hid (ai (ae r.2.1*ae s.2.1)))∧okR (hid (ai (iz (dec r) (dec s)))))with|true=>(match decide (okR (hid (ai (ae r.1*ae s.1)))∧okR (hid (ai (ae (hid (ai (ae r.2.1*ae s.2.1)))*ae (hid (ai (iz (dec r) (dec s))))))))with|true=>(match decide (okR r.1∧okR s.2.1)with|true=>(match decide (okR r.2.1∧okR s.1)with|true=>(match decide (okR (hid (ai (ae r.1*ae s.2.1)))∧okR (hid (ai (ae r.2.1*ae s.1))))with|true=>(match decide (okR (hid (ai (ae (hid (ai (ae r.1*ae s.1)))+ae (hid (ai (ae (hid (ai (ae r.2.1*ae s.2.1)))*ae (hid (ai (iz (dec r) (dec s))))))))))∧okR (hid (ai (ae (hid (ai (ae r.1*ae s.2.1)))+ae (hid (ai (ae r.2.1*ae s.1))))))∧okR (hid (ai (iz (dec r) (dec s)))))with|true=>some [RV.d tO (hid (enc (mb (ae (hid (ai (ae (hid (ai (ae r.1*ae s.1)))+ae (hid (ai (ae (hid (ai (ae r.2.1*ae s.2.1)))*ae (hid (ai (iz (dec r) (dec s))))))))))) (ae (hid (ai (ae (hid (ai (ae r.1*ae s.2.1)))+ae (hid (ai (ae r.2.1*ae s.1))))))) (ae (hid (ai (iz (dec r) (dec s)))))))),RV.d ayb 0]|false=>none)|false=>none)|false=>none)|false=>none)|false=>none)|false=>none)|false=>none)|false=>none))|false=>none
theorem amM(r s:BO3):RS aiA 280 [.d tO r,.d tO s] (TM r s):=rsX
theorem UJ(r s:BO3)(h:ok Rt 50000 r∧ok Rt 50000 s∧oH (dec r) (dec s)=true):Con Tryz.prog 280 [.d tO r,.d tO s] [.d tO (enc (mY (dec r) (dec s))),.d ayb 0]:=by
 refine aO Ae (amM _ _ ⟨0,?_⟩)
 obtain⟨hr,hs,htrue⟩:=h
 obtain⟨r,rfl,br⟩:=aY hr
 obtain⟨s,rfl,bs⟩:=aY hs
 have hm:=htrue
 rw[aq,aq]at hm
 unfold TM
 simp only[am,aq,aH,aI,aF,az,okd,aZ,auR,auT,mx,Nat.reduceAdd,Nat.reduceLeDiff,au2,cond_true,hm,Bool.not_true]
 rfl
def akW:Ctx:=CX Ll []
def YB(r s:BO3)(_k:KT):OLR:=match decide (ok Rt 100000 r∧ok Rt 100000 s)with|true=>(match !(oH (dec r) (dec s))with|true=>some [RV.d tO (((false,[]),(false,[])),(((false,[]),(false,[])),((false,[]),(false,[])))),RV.d ayb 1]|false=>(match decide (okR r.1∧okR s.1)with|true=>(match decide (okR r.2.1∧okR s.2.1)with|true=>(match decide (okR (hid (ai (ae r.1+ae s.1)))∧okR (hid (ai (ae r.2.1+ae s.2.1)))∧okR (hid (ai (iz (dec r) (dec s)))))with|true=>some [RV.d tO (hid (enc (mb (ae (hid (ai (ae r.1+ae s.1)))) (ae (hid (ai (ae r.2.1+ae s.2.1)))) (ae (hid (ai (iz (dec r) (dec s)))))))),RV.d ayb 0]|false=>none)|false=>none)|false=>none))|false=>none
theorem amu(r s:BO3):RS akW 265 [.d tO r,.d tO s] (YB r s):=rsX
theorem T6(r s:BO3)(h:ok Rt 100000 r∧ok Rt 100000 s∧oH (dec r) (dec s)=true):Con Tryz.prog 265 [.d tO r,.d tO s] [.d tO (enc (zu (dec r) (dec s))),.d ayb 0]:=by
 refine aO Ae (amu _ _ ⟨0,?_⟩)
 obtain⟨hr,hs,htrue⟩:=h
 obtain⟨r,rfl,br⟩:=aY hr
 obtain⟨s,rfl,bs⟩:=aY hs
 have hm:=htrue
 rw[aq,aq]at hm
 unfold YB
 simp only[am,aq,aH,aI,aF,az,okd,aZ,auR,auT,mx,Nat.reduceAdd,Nat.reduceLeDiff,au2,cond_true,hm,Bool.not_true]
 rfl
def K7:aM:=spN false true [tO,tO] (fun x=>decide (ok Rt 50000 x.1∧ok Rt 50000 x.2.1∧oH (dec x.1) (dec x.2.1)=true)) (fun x=>[RV.d tO (hid (enc (mY (dec x.1) (dec x.2.1)))),RV.d ayb 0])
theorem Og:SpK 280 K7:=spX fun x h=>by simp only[am];exact UJ x.1 x.2.1 (auN h)
def M7:aM:=spN false true [tO,tO] (fun x=>decide (ok Rt 100000 x.1∧ok Rt 100000 x.2.1∧oH (dec x.1) (dec x.2.1)=true)) (fun x=>[RV.d tO (hid (enc (zu (dec x.1) (dec x.2.1)))),RV.d ayb 0])
theorem O6:SpK 265 M7:=spX fun x h=>by simp only[am];exact T6 x.1 x.2.1 (auN h)
def BC:Env:=(280,K7)::(265,M7)::Ll
theorem o0:EnvAll Tryz.prog BC:=⟨Og,O6,Ae⟩
def amL:Ctx:=CX BC []
def TA(r:BO3)(_k:KT):OLR:=match decide (ok Rt 50000 r∧ok Rt 50000 r∧oH (dec r) (dec r)=true)with|true=>some [RV.d tO (hid (enc (mY (dec r) (dec r))))]|false=>none
theorem ajv(r:BO3):RS amL 266 [.d tO r] (TA r):=rsX
theorem QC(r:BO3)(h:ok Rt 50000 r):Con Tryz.prog 266 [.d tO r] [.d tO (enc (mY (dec r) (dec r)))]:=by
 refine aO o0 (ajv _ ⟨0,?_⟩)
 have hr:=h
 obtain⟨r,rfl,br⟩:=aY hr
 unfold TA
 simp only[am,aq,okd,auR,auT,Nat.reduceLeDiff,au2,Pn]
def al5:Ctx:=CX BC []
def Un(v:BV)(_k:KT):OLR:=some [RV.d tP (v.1,(hid (ai 0),(v.2,(hid (ai 0),hid (ai 0)))))]
theorem amv(v:BV):RS al5 38 [.d tV v] (Un v):=rsX
theorem Y1(v:BV)(h:ok (Rat×Rat) 100000 v):Con Tryz.prog 38 [.d tV v] [.d tP (enc (atP (dec v)))]:=by
 refine aO o0 (amv _ ⟨0,?_⟩)
 have hv:=h
 obtain⟨v,rfl,bv⟩:=aY hv
 unfold Un
 simp only[am,aq,aH,aI,aF]
 try rfl
def aka:Ctx:=CX BC []
def UV(a b c d e:BR)(_k:KT):OLR:=match decide (okR b)with|true=>(match(aR (ae b) 0)==0 with|true=>(match decide (okR d)with|true=>(match(aR (ae d) 0)==0 with|true=>some [RV.d tP (a,(b,(c,(d,hid (ai 0)))))]|false=>some [RV.d tP (a,(b,(c,(d,e))))])|false=>none)|false=>some [RV.d tP (a,(b,(c,(d,e))))])|false=>none
theorem am0(a b c d e:BR):RS aka 93 [.d tR a,.d tR b,.d tR c,.d tR d,.d tR e] (UV a b c d e):=rsX
theorem WZ(a b c d e:BR)(h:okR a∧okR b∧okR c∧okR d∧okR e):Con Tryz.prog 93 [.d tR a,.d tR b,.d tR c,.d tR d,.d tR e] [.d tP (enc (rdP (ae a,ae b,ae c,ae d,ae e)))]:=by
 refine aO o0 (am0 _ _ _ _ _ ⟨0,?_⟩)
 obtain⟨ha,hb,hc,hd,he⟩:=h
 obtain⟨a,rfl,ba⟩:=fk ha
 obtain⟨b,rfl,bb⟩:=fk hb
 obtain⟨c,rfl,bc⟩:=fk hc
 obtain⟨d,rfl,bd⟩:=fk hd
 obtain⟨e,rfl,be⟩:=fk he
 unfold UV
 simp only[am,az,aZ,Nat.reduceLeDiff,aE]
 unfold rdP
 by_cases h1:b=0
 ·by_cases h2:d=0
  ·rw[auO h1,auO h2];rfl
  ·rw[auO h1,auQ h2];rfl
 ·rw[auQ h1];rfl
def aiY:Ctx:=CX BC []
def Rq(a b c:BR)(_k:KT):OLR:=match decide (okR b)with|true=>(match(aR (ae b) 0)==0 with|true=>(match decide (okR a)with|true=>some [RV.d tO (hid (enc ((ae a,0,0):Rt)))]|false=>none)|false=>some [RV.d tO (a,(b,c))])|false=>none
theorem ajK(a b c:BR):RS aiY 91 [.d tR a,.d tR b,.d tR c] (Rq a b c):=rsX
theorem WX(a b c:BR)(h:okR a∧okR b∧okR c):Con Tryz.prog 91 [.d tR a,.d tR b,.d tR c] [.d tO (enc (coR (ae a) (ae b) (ae c)))]:=by
 refine aO o0 (ajK _ _ _ ⟨0,?_⟩)
 obtain⟨ha,hb,hc⟩:=h
 obtain⟨a,rfl,ba⟩:=fk ha
 obtain⟨b,rfl,bb⟩:=fk hb
 obtain⟨c,rfl,bc⟩:=fk hc
 unfold Rq
 simp only[am,aS,aF,az,aZ,Nat.reduceLeDiff,aE]
 unfold coR
 by_cases e:b=0
 ·subst e;rw[auO rfl];rfl
 ·rw[auQ e];rfl
def LW:aM:=spN false true [tO] (fun x=>decide (ok Rt 50000 x.1)) (fun x=>[RV.d tO (hid (enc (mY (dec x.1) (dec x.1))))])
theorem NG:SpK 266 LW:=spX fun x h=>by simp only[am];exact QC x.1 (auN h)
def uj:aM:=spN false true [tV] (fun x=>decide (ok (Rat×Rat) 100000 x.1)) (fun x=>[RV.d tP (hid (enc (atP (dec x.1))))])
theorem qr:SpK 38 uj:=spX fun x h=>by simp only[am];exact Y1 x.1 (auN h)
def K8:aM:=spN false true [tR,tR,tR,tR,tR] (fun x=>decide (okR x.1∧okR x.2.1∧okR x.2.2.1∧okR x.2.2.2.1∧okR x.2.2.2.2.1)) (fun x=>[RV.d tP (hid (enc (rdP (ae x.1,ae x.2.1,ae x.2.2.1,ae x.2.2.2.1,ae x.2.2.2.2.1))))])
theorem P0:SpK 93 K8:=spX fun x h=>by simp only[am];exact WZ x.1 x.2.1 x.2.2.1 x.2.2.2.1 x.2.2.2.2.1 (auN h)
def Kt:aM:=spN false true [tR,tR,tR] (fun x=>decide (okR x.1∧okR x.2.1∧okR x.2.2.1)) (fun x=>[RV.d tO (hid (enc (coR (ae x.1) (ae x.2.1) (ae x.2.2.1))))])
theorem OZ:SpK 91 Kt:=spX fun x h=>by simp only[am];exact WX x.1 x.2.1 x.2.2.1 (auN h)
def F1:Env:=(266,LW)::(38,uj)::(93,K8)::(91,Kt)::BC
theorem tu:EnvAll Tryz.prog F1:=⟨NG,qr,P0,OZ,o0⟩
def amw:Ctx:=CX F1 []
def Rz(x y:BO3)(_k:KT):OLR:=let y1:=aR (ae x.2.1) 0;let y2:OLR:=match decide (okR x.2.1)with|true=>(match y1==0 with|true=>(match decide (okR x.1∧okR x.2.1∧okR y.1∧okR y.2.1∧okR y.2.2)with|true=>some [RV.d tP (hid (enc (rdP (ae x.1,ae x.2.1,ae y.1,ae y.2.1,ae y.2.2)))),RV.d ayb 0]|false=>none)|false=>(match decide (okR x.1∧okR x.2.1∧okR y.1∧okR y.2.1∧okR x.2.2)with|true=>some [RV.d tP (hid (enc (rdP (ae x.1,ae x.2.1,ae y.1,ae y.2.1,ae x.2.2)))),RV.d ayb 0]|false=>none))|false=>none;match decide (okR x.2.1)with|true=>(match y1 !=0 with|true=>(match decide (okR y.2.1)with|true=>(match(aR (ae y.2.1) 0) !=0 with|true=>(match decide (okR x.2.2∧okR y.2.2)with|true=>(match(aR (ae x.2.2) (ae y.2.2)) !=0 with|true=>some [RV.d tP (((false,[]),(false,[])),(((false,[]),(false,[])),(((false,[]),(false,[])),(((false,[]),(false,[])),((false,[]),(false,[])))))),RV.d ayb 1]|false=>y2)|false=>none)|false=>y2)|false=>none)|false=>y2)|false=>none
theorem aiO(x y:BO3):RS amw 41 [.d tO x,.d tO y] (Rz x y):=rsX
theorem SC(x y:BO3)(h:okT 15000 x∧okT 15000 y∧wC (dec x) (dec y)):Con Tryz.prog 41 [.d tO x,.d tO y] [.d tP (enc (mkP (dec x) (dec y))),.d ayb 0]:=by
 refine aO tu (aiO _ _ ⟨0,?_⟩)
 obtain⟨hx,hy,hy_2⟩:=h
 obtain⟨x,rfl,bx,rx⟩:=kx hx
 obtain⟨y,rfl,b_y,ry⟩:=kx hy
 have hm:=hy_2
 rw[aq,aq]at hm
 unfold Rz
 simp only[am,aq,aH,aI,aF,az,aZ,auR,auT,Nat.reduceLeDiff,aE,cf]
 unfold mkP
 by_cases e1:x.2.1=0
 ·rw[auO e1];rfl
 ·rw[auQ e1]
  by_cases e2:y.2.1=0
  ·rw[auO e2];rfl
  ·rw[auQ e2,auO ((hm.resolve_left e1).resolve_left e2)];rfl
def asb:Ctx:=CX F1 []
def ahD(p:BP)(_k:KT):OLR:=match decide (okR p.1∧okR p.2.1∧okR p.2.2.2.2)with|true=>some [RV.d tO (hid (enc (coR (ae p.1) (ae p.2.1) (ae p.2.2.2.2))))]|false=>none
theorem asX(p:BP):RS asb 40 [.d tP p] (ahD p):=rsX
theorem aa3(p:BP)(h:okP 4000 p):Con Tryz.prog 40 [.d tP p] [.d tO (enc (xP (dec p)))]:=by
 refine aO tu (asX _ ⟨0,?_⟩)
 have hp:=h
 obtain⟨p,rfl,bp,rp⟩:=dz hp
 unfold ahD
 simp only[am,aq,aH,aI,aF,az,aZ,auR,auT,Nat.reduceLeDiff]
 try rfl
def aoy:Ctx:=CX F1 []
def agj(p:BP)(_k:KT):OLR:=match decide (okR p.2.2.1∧okR p.2.2.2.1∧okR p.2.2.2.2)with|true=>some [RV.d tO (hid (enc (coR (ae p.2.2.1) (ae p.2.2.2.1) (ae p.2.2.2.2))))]|false=>none
theorem aoo(p:BP):RS aoy 115 [.d tP p] (agj p):=rsX
theorem abb(p:BP)(h:okP 4000 p):Con Tryz.prog 115 [.d tP p] [.d tO (enc (yP (dec p)))]:=by
 refine aO tu (aoo _ ⟨0,?_⟩)
 have hp:=h
 obtain⟨p,rfl,bp,rp⟩:=dz hp
 unfold agj
 simp only[am,aq,aH,aI,aF,az,aZ,auR,auT,Nat.reduceLeDiff]
 try rfl
def DQ:aM:=spN false true [tP] (fun x=>decide (okP 4000 x.1)) (fun x=>[RV.d tO (hid (enc (xP (dec x.1))))])
theorem zX:SpK 40 DQ:=spX fun x h=>by simp only[am];exact aa3 x.1 (auN h)
def Kh:aM:=spN false true [tP] (fun x=>decide (okP 4000 x.1)) (fun x=>[RV.d tO (hid (enc (yP (dec x.1))))])
theorem FX:SpK 115 Kh:=spX fun x h=>by simp only[am];exact abb x.1 (auN h)
def X2:Env:=(40,DQ)::(115,Kh)::F1
theorem Fq:EnvAll Tryz.prog X2:=⟨zX,FX,tu⟩
def amg:Ctx:=CX X2 []
def Wp(p q:BP)(_k:KT):OLR:=match decide (okP 4000 p)with|true=>(match decide (okP 4000 q)with|true=>(match decide (okT 15000 (hid (enc (xP (dec p))))∧okT 15000 (hid (enc (xP (dec q)))))with|true=>(match(bS (dec (hid (enc (xP (dec p))))) (dec (hid (enc (xP (dec q)))))) !=0 with|true=>some [RV.d ayb (bS (dec (hid (enc (xP (dec p))))) (dec (hid (enc (xP (dec q))))))]|false=>(match decide (okP 4000 p)with|true=>(match decide (okP 4000 q)with|true=>(match decide (okT 15000 (hid (enc (yP (dec p))))∧okT 15000 (hid (enc (yP (dec q)))))with|true=>some [RV.d ayb (bS (dec (hid (enc (yP (dec p))))) (dec (hid (enc (yP (dec q))))))]|false=>none)|false=>none)|false=>none))|false=>none)|false=>none)|false=>none
theorem ajk(p q:BP):RS amg 51 [.d tP p,.d tP q] (Wp p q):=rsX
theorem Uv(p q:BP)(h:okP 4000 p∧okP 4000 q):Con Tryz.prog 51 [.d tP p,.d tP q] [.d ayb (aV (dec p) (dec q))]:=by
 refine aO Fq (ajk _ _ ⟨0,?_⟩)
 obtain⟨hp,hq⟩:=h
 obtain⟨p,rfl,bp,rp⟩:=dz hp
 obtain⟨q,rfl,bq,rq⟩:=dz hq
 unfold Wp
 simp only[am,aq,auR,auT,mx,Nat.reduceLeDiff,au2,cond_true,bH,bG]
 unfold aV bne
 cases bS (xP p) (xP q)==0<;>rfl
def LC:aM:=spN false true [tO,tO] (fun x=>decide (okT 15000 x.1∧okT 15000 x.2.1∧wC (dec x.1) (dec x.2.1))) (fun x=>[RV.d tP (hid (enc (mkP (dec x.1) (dec x.2.1)))),RV.d ayb 0])
theorem PI:SpK 41 LC:=spX fun x h=>by simp only[am];exact SC x.1 x.2.1 (auN h)
def qT:aM:=spN true true [tP,tP] (fun x=>decide (okP 4000 x.1∧okP 4000 x.2.1)) (fun x=>[RV.d ayb (aV (dec x.1) (dec x.2.1))])
theorem mL:SpK 51 qT:=spX fun x h=>Uv x.1 x.2.1 (auN h)
def VW:Env:=(41,LC)::(51,qT)::X2
theorem FE:EnvAll Tryz.prog VW:=⟨PI,mL,Fq⟩
def aiU:Ctx:=CX VW []
def XN(p q:BP)(_k:KT):OLR:=match decide (okP 4000 p∧okP 4000 q)with|true=>some [RV.d .bool ((aV (dec p) (dec q))==0)]|false=>none
theorem akv(p q:BP):RS aiU 20 [.d tP p,.d tP q] (XN p q):=rsX
theorem Ut(p q:BP)(h:okP 4000 p∧okP 4000 q):Con Tryz.prog 20 [.d tP p,.d tP q] [.d .bool (aV (dec p) (dec q)==0)]:=by
 refine aO FE (akv _ _ ⟨0,?_⟩)
 unfold XN
 rw[dT h]
def amH:Ctx:=CX VW []
def WD(p:BP)(v:BV)(_k:KT):OLR:=let y1:=hid (enc (bkV (dec v)));let y2:=hid (enc (trP (dec p) (dec y1)));let y3:=hid (enc (xP (dec y2)));let y4:=hid (enc (yP (dec y2)));let y5:=hid (enc (mY (dec y3) (dec y3)));let y6:=hid (enc (mY (dec y4) (dec y4)));match decide (ok (Rat×Rat) 21000 v)with|true=>(match decide (ok Pt 21000 p∧ok (Rat×Rat) 1000 y1)with|true=>(match decide (okP 4000 y2)with|true=>(match decide (ok Rt 50000 y3)with|true=>(match decide (okP 4000 y2)with|true=>(match decide (ok Rt 50000 y4)with|true=>(match decide (ok Rt 100000 y5∧ok Rt 100000 y6∧oH (dec y5) (dec y6)=true)with|true=>some [RV.d tO (hid (enc (zu (dec y5) (dec y6))))]|false=>none)|false=>none)|false=>none)|false=>none)|false=>none)|false=>none)|false=>none
theorem amx(p:BP)(v:BV):RS amH 235 [.d tP p,.d tV v] (WD p v):=rsX
theorem YX(p:BP)(v:BV)(h:okP 3500 p∧ok (Rat×Rat) 300 v):Con Tryz.prog 235 [.d tP p,.d tV v] [.d tO (enc (sqP (dec p) (dec v)))]:=by
 refine aO FE (amx _ _ ⟨0,?_⟩)
 obtain⟨hp,hv⟩:=h
 obtain⟨p,rfl,bp,rp⟩:=dz hp
 obtain⟨v,rfl,bv⟩:=aY hv
 obtain⟨e1,e2⟩:=LI (v:=v) rp
 unfold WD
 simp only[am,aq,okd,auR,auT,mx,Nat.reduceAdd,Nat.reduceMul,Nat.reduceLeDiff,au2,auX,cond_true,cond_false,bG,e1]
 rw[e2]
def n5:aM:=spN true true [tP,tP] (fun x=>decide (okP 4000 x.1∧okP 4000 x.2.1)) (fun x=>[RV.d .bool (aV (dec x.1) (dec x.2.1)==0)])
theorem ko:SpK 20 n5:=spX fun x h=>Ut x.1 x.2.1 (auN h)
def Mi:aM:=spN false true [tP,tV] (fun x=>decide (okP 3500 x.1∧ok (Rat×Rat) 300 x.2.1)) (fun x=>[RV.d tO (hid (enc (sqP (dec x.1) (dec x.2.1))))])
theorem Pz:SpK 235 Mi:=spX fun x h=>by simp only[am];exact YX x.1 x.2.1 (auN h)
end Go.Proofs.YtgddhgcjmddjfaaGreat
end
