/- Signs and comparisons: the program's contracts. -/
import Derived.Test.YtlahabkjhgkkjaaGreatY13
import Derived.Test.YtlahabkjhgkkjaaGreatY12
noncomputable section
namespace Go.Proofs.YtlahabkjhgkkjaaGreat
open Go.RowKit Go.IntKind
theorem axT:type_of% @Rat.mul_eq_zero:=@Rat.mul_eq_zero
namespace RE
theorem same_rad(a b c d r:RE):a-c+(b-d)*r=a+b*r-(c+d*r):=by
 induction a using auZ
 induction b using auZ
 induction c using auZ
 induction d using auZ
 induction r using auZ
 exact snd fun n=>by
  simp only[RL.add,RL.mul,RL.neg]
  grind
theorem aiU(a b c:RE):a-b+c=a+c-b:=by
 induction a using auZ
 induction b using auZ
 induction c using auZ
 exact snd fun n=>by
  simp only[RL.add,RL.neg]
  grind
theorem vR_rat(q:Rat):vR (q,0,0)=of q:=dZ q 0
theorem cmpTR_re{x:Rt}{q:Rat}(h:0≤x.2.2):fh x q=sg (vR x-of q):=by
 unfold fh vR
 rw[sgn2_re h]
 unfold v2
 rw[of_sub,aiU]
end RE
theorem Rdd.rat{x:Rt}(h:Rdd x)(hb:x.2.1=0):x=(x.1,0,0):=by
 obtain⟨a,b,c⟩:=x
 rcases h.rd with h|h
 ·obtain⟨h1,h2⟩:=h
  simp only at h1 h2
  rw[h1,h2]
 ·exact absurd hb h.1
theorem Tk{x:Rt}{q:Rat}(h:Rdd x):bI x (q,0,0)=fh x q:=by
 rw[RE.cmpT_re h.nn (by show(0:Rat)≤0;grind),RE.cmpTR_re h.nn,RE.vR_rat]
theorem adp{x y:Rt}(hx:Rdd x)(hy:Rdd y)(bx:x.2.1=0)(b_:y.2.1=0):bI x y=aV x.1 y.1:=by
 rw[hx.rat bx,hy.rat b_,RE.cmpT_re (by show(0:Rat)≤0;grind) (by show(0:Rat)≤0;grind),RE.vR_rat,RE.vR_rat,←RE.of_sub,RE.sg_of,vp]
theorem ZI{x y:Rt}(hx:Rdd x)(hy:Rdd y)(h:(apF x y).2=true):(apF x y).1=bI x y:=by
 rw[RE.apF_ok h,RE.cmpT_re hx.nn hy.nn]
theorem cmpT_same{x y:Rt}(hx:Rdd x)(hy:Rdd y)(h:x.2.2=y.2.2):fy (x.1-y.1) (x.2.1-y.2.1) x.2.2=bI x y:=by
 rw[RE.cmpT_re hx.nn hy.nn,RE.sgn2_re hx.nn]
 unfold RE.vR RE.v2
 rw[RE.of_sub,RE.of_sub,RE.same_rad,h]
theorem ajJ{A B C D M N:Rat}(hM:0≤M)(hN:0≤N)(h:(quF (A,B,C,D,M,N)).2=true):(quF (A,B,C,D,M,N)).1=sgQ (A,B,C,D,M,N):=by
 rw[RE.quF_ok (q:=(A,B,C,D,M,N)) hM hN h]
 exact(RE.sgnQ_re hM hN).symm
def J0:Env:=[(149,lE),(148,ju),(99,nQ),(147,kr),(83,jr),(76,jw),(71,tY),(219,ta),(220,De),(259,w8)]
theorem vJ:EnvAll Tryz.prog J0:=⟨io,fO,jD,gD,fL,fM,nq,nM,wc,qU,trivial⟩
def ai3:Ctx:=CX J0 []
def TL(a b:BR)(_k:KT):Option (List RV):=match decide (okR a∧okR b)with|true=>some [RV.d tR (hid (ai (ae a+ae b)))]|false=>none
theorem ajx(a b:BR):RS ai3 253 [.d tR a,.d tR b] (TL a b):=rsX
theorem Q4(a b:BR)(h:okR a∧okR b):Con Tryz.prog 253 [.d tR a,.d tR b] [.d tR (ai (ae a+ae b))]:=by
 refine aR vJ (ajx _ _ ⟨0,?_⟩)
 unfold TL
 rw[dT h,ak]
def anQ:Ctx:=CX J0 []
def afQ(a b:BO3)(_k:KT):Option (List RV):=match decide (ok Rt 100000 a)with|true=>(match decide (ok Rt 100000 b)with|true=>(match !((bQ (dec a)).2)with|true=>some [RV.d ax8 0,RV.d .bool false]|false=>(match !((bQ (dec b)).2)with|true=>some [RV.d ax8 0,RV.d .bool false]|false=>(match decide (((hid ((bQ (dec a)).1)).2)<((hid ((bQ (dec b)).1)).1))with|true=>some [RV.d ax8 (-1),RV.d .bool true]|false=>(match decide (((hid ((bQ (dec a)).1)).1)>((hid ((bQ (dec b)).1)).2))with|true=>some [RV.d ax8 1,RV.d .bool true]|false=>some [RV.d ax8 0,RV.d .bool false]))))|false=>none)|false=>none
theorem aqp(a b:BO3):RS anQ 218 [.d tO a,.d tO b] (afQ a b):=rsX
theorem acl(a b:BO3)(h:ok Rt 100000 a∧ok Rt 100000 b):Con Tryz.prog 218 [.d tO a,.d tO b] [.d ax8 ((apF (dec a) (dec b)).1),.d .bool ((apF (dec a) (dec b)).2)]:=by
 refine aR vJ (aqp _ _ ⟨0,?_⟩)
 obtain⟨ha,hb⟩:=h
 obtain⟨a,rfl,ba⟩:=aU ha
 obtain⟨b,rfl,bb⟩:=aU hb
 unfold afQ
 simp only[ak,am,okd,Nat.reduceLeDiff]
 unfold apF
 generalize bQ a=A
 generalize bQ b=B
 obtain⟨⟨a1,a2⟩,p⟩:=A
 obtain⟨⟨b1,b2⟩,q⟩:=B
 cases p<;>cases q<;>try rfl
 dsimp only
 cases decide (a2<b1)<;>try rfl
 cases decide (a1>b2)<;>rfl
def JB:aO:=spN false true [tR,tR] (fun x=>decide (okR x.1∧okR x.2.1)) (fun x=>[RV.d tR (hid (ai (ae x.1+ae x.2.1)))])
theorem MG:SpK 253 JB:=spX fun x h=>by simp only[ak];exact Q4 x.1 x.2.1 (au0 h)
def In:aO:=spN true true [tO,tO] (fun x=>decide (ok Rt 100000 x.1∧ok Rt 100000 x.2.1)) (fun x=>[RV.d ax8 ((apF (dec x.1) (dec x.2.1)).1),RV.d .bool ((apF (dec x.1) (dec x.2.1)).2)])
theorem DJ:SpK 218 In:=spX fun x h=>acl x.1 x.2.1 (au0 h)
def UJ:aO:=spN true true [tQ] (fun x=>decide (okQ x.1)) (fun x=>[RV.d ax8 ((quF (dec x.1)).1),RV.d .bool ((quF (dec x.1)).2)])
theorem PU:SpK 252 UJ:=spX fun x h=>aed x.1 (au0 h)
def afs:Env:=(253,JB)::(218,In)::(252,UJ)::J0
theorem Qv:EnvAll Tryz.prog afs:=⟨MG,DJ,PU,vJ⟩
def anw:Ctx:=CX afs []
def ahZ(q:BQ)(_k:KT):Option (List RV):=let y1:=ae q.2.2.2.2.1;let y2:=aV (ae q.2.2.2.2.2) 0;let y3:=i64.wrap ((fy (ae q.2.2.1) (ae q.2.2.2.1) y1)*y2);let y4:=fy (ae q.1) (ae q.2.1) y1;let y5:=hid (ai (ae q.2.1*ae q.2.1));let y6:=hid (ai (ae q.1*ae q.1));let y7:=hid (ai (ae q.2.2.2.2.1*ae y5));let y8:=hid (ai (ae q.2.2.2.1*ae q.2.2.2.1));let y9:=hid (ai (ae q.2.2.1*ae q.2.2.1));let y10:=hid (ai (ae q.2.2.2.2.1*ae y8));let y11:=hid (ai (ae y9+ae y10));let y12:=hid (ai (ae y6+ae y7));let y13:=hid (ai (ae q.2.2.2.2.2*ae y11));let y14:=hid (ai (ae q.2.2.1*ae q.2.2.2.1));let y15:=hid (ai (ae q.1*ae q.2.1));let y16:=hid (ai (ae q.2.2.2.2.2*ae y14));let y17:=hid (ai (ae y15-ae y16));let y18:=hid (ai (ae y12-ae y13));let y19:=hid (ai (ae y17+ae y17));let y20:Option (List RV):=match decide (okR y15∧okR y16)with|true=>(match decide (okR y17∧okR y17)with|true=>(match decide (ok Rat 240000 y18∧ok Rat 170000 y19∧ok Rat 30000 q.2.2.2.2.1)with|true=>some [RV.d ax8 (i64.wrap (y4*(fy (ae y18) (ae y19) y1)))]|false=>none)|false=>none)|false=>none;let y21:Option (List RV):=match decide (okR q.2.2.2.2.2∧okR y14)with|true=>y20|false=>none;let y22:Option (List RV):=match decide (okR q.2.2.1∧okR q.2.2.2.1)with|true=>y21|false=>none;let y23:Option (List RV):=match decide (okR y12∧okR y13)with|true=>cQ (match decide (okR q.1∧okR q.2.1)with|true=>cQ (match decide (okR q.2.2.1∧okR q.2.2.2.1)with|true=>cQ (match decide (okR q.2.2.2.2.2∧okR y14)with|true=>dup (.b .l .l) y20|false=>none) y21|false=>none) y22|false=>none) (match decide (okR q.1∧okR q.2.1)with|true=>y22|false=>none)|false=>none;let y24:Option (List RV):=match decide (okR q.2.2.2.2.2∧okR y11)with|true=>y23|false=>none;let y25:Option (List RV):=match decide (okR y9∧okR y10)with|true=>y24|false=>none;let y26:Option (List RV):=match decide (okR q.2.2.2.2.1∧okR y8)with|true=>y25|false=>none;let y27:Option (List RV):=match decide (okR q.2.2.2.1∧okR q.2.2.2.1)with|true=>y26|false=>none;let y28:Option (List RV):=match decide (okR q.2.2.1∧okR q.2.2.1)with|true=>y27|false=>none;let y29:Option (List RV):=match decide (okR y6∧okR y7)with|true=>y28|false=>none;let y30:Option (List RV):=match decide (okR q.2.2.2.2.1∧okR y5)with|true=>y29|false=>none;let y31:Option (List RV):=match decide (okR q.2.1∧okR q.2.1)with|true=>y30|false=>none;match decide (okR q.2.2.2.2.1)with|true=>(match decide ((aV y1 0)<0)with|true=>some [RV.d ax8 0]|false=>(match decide (okR q.2.2.2.2.2)with|true=>(match decide (y2<0)with|true=>some [RV.d ax8 0]|false=>(match decide (okQ q)with|true=>(match(quF (dec q)).2 with|true=>some [RV.d ax8 ((quF (dec q)).1)]|false=>(match decide (ok Rat 240000 q.1∧ok Rat 170000 q.2.1∧ok Rat 30000 q.2.2.2.2.1)with|true=>(match decide (ok Rat 240000 q.2.2.1∧ok Rat 170000 q.2.2.2.1∧ok Rat 30000 q.2.2.2.2.1)with|true=>(match decide (okR q.2.2.2.2.2)with|true=>(match y3==0 with|true=>some [RV.d ax8 y4]|false=>(match y4==y3 with|true=>some [RV.d ax8 y4]|false=>(match y4==0 with|true=>some [RV.d ax8 y3]|false=>cQ (match decide (okR q.1∧okR q.1)with|true=>cQ (match decide (okR q.2.1∧okR q.2.1)with|true=>cQ (match decide (okR q.2.2.2.2.1∧okR y5)with|true=>cQ (match decide (okR y6∧okR y7)with|true=>cQ (match decide (okR q.2.2.1∧okR q.2.2.1)with|true=>cQ (match decide (okR q.2.2.2.1∧okR q.2.2.2.1)with|true=>cQ (match decide (okR q.2.2.2.2.1∧okR y8)with|true=>cQ (match decide (okR y9∧okR y10)with|true=>cQ (match decide (okR q.2.2.2.2.2∧okR y11)with|true=>dup (.b .l .l) y23|false=>none) y24|false=>none) y25|false=>none) y26|false=>none) y27|false=>none) y28|false=>none) y29|false=>none) y30|false=>none) y31|false=>none) (match decide (okR q.1∧okR q.1)with|true=>y31|false=>none))))|false=>none)|false=>none)|false=>none))|false=>none))|false=>none))|false=>none
theorem asL(q:BQ):RS anw 199 [.d tQ q] (ahZ q):=rsX
theorem ac5(q:BQ)(h:okQ q):Con Tryz.prog 199 [.d tQ q] [.d ax8 (sgQ (dec q))]:=by
 refine aR Qv (asL _ ⟨0,?_⟩)
 obtain⟨A,B,C,D,M,N,rfl,bA,bB,bC,bD,bM,bN,hM,hN⟩:=HO h
 have hh:decide (okQ (ai A,ai B,ai C,ai D,ai M,ai N))=true:=au1 h
 have hd:(dec ((ai A,ai B,ai C,ai D,ai M,ai N):BQ):Qd)=(A,B,C,D,M,N):=am ((A,B,C,D,M,N):Qd)
 rw[am]
 unfold ahZ
 simp only[au,aP,ak,aT,aG,az,aH,aX,au4,au6,Nat.reduceAdd,Nat.reduceLeDiff,rm,qD,aN,hh,hd,au3 (show ¬M<0 by grind),au3 (show ¬N<0 by grind)]
 cases hq:(quF (A,B,C,D,M,N)).2
 ·try dsimp only
  refine(BX _ _ _).trans ?_
  unfold sgQ CQ
  rw[au3 (show ¬M<0 by grind),au3 (show ¬N<0 by grind)]
  dsimp only[Bool.or_false,cond_false]
  rw[show A*B-N*(C*D)+(A*B-N*(C*D))=2*(A*B-N*(C*D)) by grind,show A*A+M*(B*B)-N*(C*C+M*(D*D))=A*A+B*B*M-N*(C*C+D*D*M) by grind]
  rfl
 ·try dsimp only
  rw[ajJ hM hN hq]
def Xn:aO:=spN true true [tQ] (fun x=>decide (okQ x.1)) (fun x=>[RV.d ax8 (sgQ (dec x.1))])
theorem WT:SpK 199 Xn:=spX fun x h=>ac5 x.1 (au0 h)
def UL:Env:=[(83,jr),(99,nQ),(147,kr),(219,ta),(220,De),(218,In),(199,Xn),(71,tY)]
theorem EO:EnvAll Tryz.prog UL:=⟨fL,jD,gD,nM,wc,DJ,WT,nq,trivial⟩
def apf:Ctx:=CX UL []
def ahJ(a b:BO3)(_k:KT):Option (List RV):=let y1:=apF (dec a) (dec b);let y2:=hid (ai (ae a.1-ae b.1));let y3:=hid (ai (ae a.2.1-ae b.2.1));let y4:=hid (enc (suT (dec a) (dec b)));let y5:Option (List RV):=match decide (ok Rt 100000 a∧ok Rt 100000 b)with|true=>(match y1.2 with|true=>some [RV.d ax8 (y1.1)]|false=>(match decide (okR a.2.2∧okR b.2.2)with|true=>(match(aV (ae a.2.2) (ae b.2.2))==0 with|true=>(match decide (okR a.1∧okR b.1)with|true=>(match decide (okR a.2.1∧okR b.2.1)with|true=>(match decide (ok Rat 240000 y2∧ok Rat 170000 y3∧ok Rat 30000 a.2.2)with|true=>some [RV.d ax8 (fy (ae y2) (ae y3) (ae a.2.2))]|false=>none)|false=>none)|false=>none)|false=>(match decide (ok Rt 15000 a∧ok Rt 15000 b)with|true=>(match decide (okQ y4)with|true=>some [RV.d ax8 (sgQ (dec y4))]|false=>none)|false=>none))|false=>none))|false=>none;match decide (okR a.2.1)with|true=>(match(aV (ae a.2.1) 0)==0 with|true=>(match decide (okR b.2.1)with|true=>(match(aV (ae b.2.1) 0)==0 with|true=>(match decide (okR a.1∧okR b.1)with|true=>some [RV.d ax8 (aV (ae a.1) (ae b.1))]|false=>none)|false=>y5)|false=>none)|false=>y5)|false=>none
theorem asl(a b:BO3):RS apf 146 [.d tO a,.d tO b] (ahJ a b):=rsX
theorem adM(a b:BO3)(h:okT 15000 a∧okT 15000 b):Con Tryz.prog 146 [.d tO a,.d tO b] [.d ax8 (bI (dec a) (dec b))]:=by
 refine aR EO (asl _ _ ⟨0,?_⟩)
 obtain⟨ha,hb⟩:=h
 obtain⟨a,rfl,ba,ra⟩:=fK ha
 obtain⟨b,rfl,bb,rb⟩:=fK hb
 have na:Nn a.2.2:=inferInstance
 have nb:Nn b.2.2:=inferInstance
 have e:decide (okQ (enc (suT a b)))=true:=agQ (by decide) (by decide) (by decide) (by decide) (by decide) (by decide)
 have e1:=fun h1 h2=>adp ra rb h1 h2
 have e2:=fun h=>ZI ra rb h
 have e3:=fun h=>cmpT_same ra rb h
 unfold ahJ
 simp only[ak,am,aI,aJ,aG,az,okd,aH,aX,au4,au6,Nat.reduceAdd,Nat.reduceLeDiff,aM,e]
 by_cases ha:a.2.1=0
 ·by_cases hb:b.2.1=0
  ·rw[au1 ha,au1 hb,e1 ha hb]
  ·rw[au1 ha,au3 hb]
   dsimp only
   cases hq:(apF a b).2
   ·dsimp only
    by_cases hc:a.2.2=b.2.2
    ·rw[au1 hc,←e3 hc]
    ·rw[au3 hc];rfl
   ·dsimp only
    rw[e2 hq]
 ·rw[au3 ha]
  dsimp only
  cases hq:(apF a b).2
  ·dsimp only
   by_cases hc:a.2.2=b.2.2
   ·rw[au1 hc,←e3 hc]
   ·rw[au3 hc];rfl
  ·dsimp only
   rw[e2 hq]
def xR:aO:=spN true true [tO,tO] (fun x=>decide (okT 15000 x.1∧okT 15000 x.2.1)) (fun x=>[RV.d ax8 (bI (dec x.1) (dec x.2.1))])
theorem rB:SpK 146 xR:=spX fun x h=>adM x.1 x.2.1 (au0 h)
def XN:Env:=(146,xR)::UL
theorem El:EnvAll Tryz.prog XN:=⟨rB,EO⟩
def aqe:Ctx:=CX XN []
def ahS(a b:BO3)(_k:KT):Option (List RV):=match decide (okT 15000 a∧okT 15000 b)with|true=>some [RV.d .bool ((bI (dec a) (dec b))==0)]|false=>none
theorem ao5(a b:BO3):RS aqe 108 [.d tO a,.d tO b] (ahS a b):=rsX
theorem acX(a b:BO3)(h:okT 15000 a∧okT 15000 b):Con Tryz.prog 108 [.d tO a,.d tO b] [.d .bool (bI (dec a) (dec b)==0)]:=by
 refine aR El (ao5 _ _ ⟨0,?_⟩)
 unfold ahS
 rw[dT h]
def ash:Ctx:=CX XN []
def ae1(a:BO3)(b:BR)(_k:KT):Option (List RV):=match decide (okR b)with|true=>(match decide (okT 15000 a∧okT 15000 (hid (enc ((ae b,0,0):Rt))))with|true=>some [RV.d ax8 (bI (dec a) (dec (hid (enc ((ae b,0,0):Rt)))))]|false=>none)|false=>none
theorem ao6(a:BO3)(b:BR):RS ash 84 [.d tO a,.d tR b] (ae1 a b):=rsX
theorem aaK(a:BO3)(b:BR)(h:okT 15000 a∧ok Rat 15000 b):Con Tryz.prog 84 [.d tO a,.d tR b] [.d ax8 (fh (dec a) (ae b))]:=by
 refine aR El (ao6 _ _ ⟨0,?_⟩)
 obtain⟨ha,hb⟩:=h
 obtain⟨a,rfl,ba,ra⟩:=fK ha
 obtain⟨b,rfl,bb⟩:=aU hb
 unfold ae1
 simp only[ak,am,aG,az,aX,au4,au6,mx,Nat.reduceLeDiff,ave,ava,cond_true,cond_false,bh]
 rw[Tk ra]
section
section
variable {α:Type}
open Classical in
def rk(lt:α→α→Prop):List α→α→Nat
 |[],_=>0
 |e::r,x=>(if lt e x then 1 else 0)+rk lt r x
structure lR (lt:α→α→Prop):Prop where
 irr:∀x,¬lt x x
 tr:∀x y z,lt x y→lt y z→lt x z
 tri:∀x y,lt x y∨x=y∨lt y x
variable {lt:α→α→Prop}
theorem ag2(h:lR lt){x y:α}(hxy:lt x y):∀L,rk lt L x≤rk lt L y
 |[]=>avb _
 |e::r=>by
  have:=ag2 h hxy r
  unfold rk
  by_cases h1:lt e x
  ·rw[avr h1,avr (h.tr _ _ _ h1 hxy)];omega
  ·rw[avn h1];omega
theorem w9(h:lR lt){x y:α}(hxy:lt x y):∀{L},x∈L→rk lt L x<rk lt L y
 |e::r,hm=>by
  have h0:=ag2 h hxy r
  unfold rk
  rcases avz.1 hm with rfl|hm
  ·rw[avn (h.irr _),avr hxy];omega
  ·have:=w9 h hxy hm
   by_cases h1:lt e x
   ·rw[avr h1,avr (h.tr _ _ _ h1 hxy)];omega
   ·rw[avn h1];omega
theorem amJ(L:List α)(x:α):rk lt L x≤L.length:=by
 induction L with
 |nil=>exact avb _
 |cons e r ih=>
  unfold rk
  rw[avw]
  split<;>omega
theorem ng(h:lR lt){x:α}:∀{L},x∈L→rk lt L x<L.length
 |e::r,hm=>by
  unfold rk
  rw[avw]
  rcases avz.1 hm with rfl|hm
  ·rw[avn (h.irr _)];have:=amJ (lt:=lt) r x;omega
  ·have:=ng h hm
   split<;>omega
def ua(lt:α→α→Prop)(c:α→α→Int):Prop:=∀x y,(lt x y→c x y= -1)∧(x=y→c x y=0)∧(lt y x→c x y=1)
def cI(i j:Nat):Int:=if i<j then-1 else if i=j then 0 else 1
theorem pU(h:lR lt){c:α→α→Int}(hc:ua lt c){L:List α}{x y:α}(hx:x∈L)(hy:y∈L):c x y=cI (rk lt L x) (rk lt L y):=by
 unfold cI
 rcases h.tri x y with e|e|e
 ·rw[(hc x y).1 e,avr (w9 h e hx)]
 ·subst e;rw[(hc x x).2.1 rfl,avn (Nat.lt_irrefl _),avr rfl]
 ·have:=w9 h e hy
  rw[(hc x y).2.2 e,avn (by omega),avn (by omega)]
end
section
variable {α:Type} (cmp:α→α→Int)
def pj(p q:Bool×α):Int:=bif p.1==q.1 then(bif p.1 then-cmp p.2 q.2 else cmp p.2 q.2)else(bif p.1 then-1 else 1)
def mD(f p:Bool×α):Int:=bif pj cmp p f==0 then 0 else bif decide (pj cmp p f>0)then 1 else 2
def jK(n:Int):Int:=if n<0 then-1 else if n=0 then 0 else 1
def pq(f p q:Bool×α):Int:=bif mD cmp f p==mD cmp f q then jK (pj cmp p q)else jK (mD cmp f p-mD cmp f q)
def iz(p q:Bool×α):Int:=bif p.1==q.1 then(bif p.1 then-cmp p.2 q.2 else cmp p.2 q.2)else(bif q.1 then-1 else 1)
def ku(f p q:Bool×α):Int:=bif decide (iz cmp p f<0)==decide (iz cmp q f<0)then iz cmp p q else(bif decide (iz cmp q f<0)then-1 else 1)
variable {cmp} {β:Type} {cmq:β→β→Int}
theorem pz{u v:Bool}{a b:α}{c d:β}(h:cmp a b=cmq c d):pj cmp (u,a) (v,b)=pj cmq (u,c) (v,d):=by unfold pj;rw[h]
theorem qe{u v:Bool}{a b:α}{c d:β}(h:cmp a b=cmq c d):iz cmp (u,a) (v,b)=iz cmq (u,c) (v,d):=by unfold iz;rw[h]
theorem pL{u v w:Bool}{f p q:α}{f' p' q':β}(h1:cmp p f=cmq p' f')(h2:cmp q f=cmq q' f')(h3:cmp p q=cmq p' q'):pq cmp (u,f) (v,p) (w,q)=pq cmq (u,f') (v,p') (w,q'):=by
 unfold pq mD
 rw[pz h1,pz h2,pz h3]
theorem gT{u v w:Bool}{f p q:α}{f' p' q':β}(h1:cmp p f=cmq p' f')(h2:cmp q f=cmq q' f')(h3:cmp p q=cmq p' q'):ku cmp (u,f) (v,p) (w,q)=ku cmq (u,f') (v,p') (w,q'):=by
 unfold ku
 rw[qe h1,qe h2,qe h3]
end
def Es(k i l j:Nat):Bool:=(k !=0||(bif l==0 then i==j else decide (j<i)))&&(k !=2||(bif l==2 then i==j else decide (i<j)))
def upA(k:Nat):Bool:=k==0||k==1
def ufA(k:Nat):Bool:=k==1||k==2
def dI(i j:Nat):Int:=cI j i
def ZV(k i l j m n:Nat):Bool:=Es k i l j&&Es l j k i&&Es k i m n&&Es m n k i&&Es l j m n&&Es m n l j
theorem acb:∀kF kP kT:Fin 4,∀iF iP iT:Fin 3,ZV kF.1 iF.1 kP.1 iP.1 kT.1 iT.1=true→
  decide (pq cI (upA kF.1,iF.1) (upA kP.1,iP.1) (upA kT.1,iT.1)≤0)=(decide (ku cI (upA kF.1,iF.1) (upA kF.1,iF.1) (upA kP.1,iP.1)≤0)&&decide (ku cI (upA kF.1,iF.1) (upA kP.1,iP.1) (upA kT.1,iT.1)≤0)):=by decide+kernel
theorem ah9:∀kF kP kT:Fin 4,∀iF iP iT:Fin 3,ZV kF.1 iF.1 kP.1 iP.1 kT.1 iT.1=true→
  decide (pq cI (upA kT.1,iT.1) (upA kP.1,iP.1) (upA kF.1,iF.1)≤0)=(decide (ku dI (ufA kF.1,iF.1) (ufA kF.1,iF.1) (ufA kP.1,iP.1)≤0)&&decide (ku dI (ufA kF.1,iF.1) (ufA kP.1,iP.1) (ufA kT.1,iT.1)≤0)):=by decide+kernel
def qs(a b:Int):Bool:=a==0||b==0||a==b
def aod(d a b:Int):Bool:=decide ((bif decide (d>0)then-a else a)≤0)&&decide ((bif decide (d>0)then-b else b)≤0)
theorem CN:∀f p t:Fin 3,qs (cI f.1 p.1) (cI p.1 t.1)=aod (cI f.1 t.1) (cI f.1 p.1) (cI p.1 t.1):=by decide+kernel
namespace RE
theorem lt_lin:lR (fun x y:RE=>x<y):=⟨lt_irrefl,fun _ _ _=>c7,kV⟩
theorem Nb(x y:RE):((y-(x)))+((x-y-(0)))=0:=by
 induction x using auZ
 induction y using auZ
 exact snd fun n=>by
  simp only[RL.add,RL.neg,RL.const]
  grind
theorem qM(x y:RE)(h1:x<y):x-y<0:=d9.1 fun hg=>far (aB (aE h1) (aA hg)) (Nb x y)
theorem OK(x y:RE):((x-(y)))+((0-(x-y)))=0:=by
 induction x using auZ
 induction y using auZ
 exact snd fun n=>by
  simp only[RL.add,RL.neg,RL.const]
  grind
theorem Cx(x y:RE)(h1:y<x):0<x-y:=d9.1 fun hg=>far (aB (aE h1) (aA hg)) (OK x y)
theorem sg_cmpO:ua (fun x y:RE=>x<y) (fun x y=>sg (x-y)):=fun x y=>⟨fun h=>im (qM _ _ h),fun h=>by subst h;show sg (x-x)=0;rw[sub_self,dE],fun h=>dR (Cx _ _ h)⟩
def ale(p q:RE×RE):Prop:=p.1<q.1∨(p.1=q.1∧p.2<q.2)
theorem jg:lR ale:=by
 refine⟨fun x h=>?_,fun x y z h1 h2=>?_,fun x y=>?_⟩
 ·rcases h with h|h
  ·exact lt_irrefl _ h
  ·exact lt_irrefl _ h.2
 ·rcases h1 with h1|⟨h1,h1'⟩
  ·rcases h2 with h2|⟨h2,h2'⟩
   ·exact .inl (c7 h1 h2)
   ·exact .inl (h2▸h1)
  ·rcases h2 with h2|⟨h2,h2'⟩
   ·exact .inl (h1▸h2)
   ·exact .inr ⟨h1.trans h2,c7 h1' h2'⟩
 ·rcases kV x.1 y.1 with h|h|h
  ·exact .inl (.inl h)
  ·rcases kV x.2 y.2 with h'|h'|h'
   ·exact .inl (.inr ⟨h,h'⟩)
   ·exact .inr (.inl (axe h h'))
   ·exact .inr (.inr (.inr ⟨h.symm,h'⟩))
  ·exact .inr (.inr (.inl h))
def lxc(p q:RE×RE):Int:=bif sg (p.1-q.1)==0 then sg (p.2-q.2)else sg (p.1-q.1)
theorem oB:ua ale lxc:=fun p q=>by
 unfold lxc
 refine⟨fun h=>?_,fun h=>?_,fun h=>?_⟩
 ·rcases h with h|⟨h,h'⟩
  ·rw[im (qM _ _ h)];rfl
  ·rw[h,sub_self,dE,im (qM _ _ h')];rfl
 ·subst h
  rw[sub_self,sub_self,dE];rfl
 ·rcases h with h|⟨h,h'⟩
  ·rw[dR (Cx _ _ h)];rfl
  ·rw[←h,sub_self,dE,dR (Cx _ _ h')];rfl
def cls(u v:RE):Nat:=bif sg v==1 then 1 else bif sg v== -1 then 3 else bif sg u==1 then 0 else 2
theorem nL(u v:RE):cls u v<4:=by
 unfold cls
 cases sg v==1<;>cases sg v== -1<;>cases sg u==1<;>simp
theorem amY(u v:RE):(decide (sg v>0)||(sg v==0&&decide (sg u>0)))=upA (cls u v):=by
 unfold cls
 rcases bZ v with⟨_,h⟩|⟨_,h⟩|⟨_,h⟩<;>rcases bZ u with⟨_,h'⟩|⟨_,h'⟩|⟨_,h'⟩<;>rw[h,h']<;>rfl
theorem ali{u v Q:RE}(hQ:0<Q)(h:u*u+v*v=Q):(decide (sg v>0)||(sg v==0&&decide (-sg u>0)))=ufA (cls u v):=by
 unfold cls
 rcases bZ v with⟨_,h1⟩|⟨h0,h1⟩|⟨_,h1⟩<;>rcases bZ u with⟨_,h'⟩|⟨h2,h'⟩|⟨_,h'⟩<;>rw[h1,h']<;>try rfl
 rw[h0,h2,mul_zero,add_zero]at h
 rw[←h]at hQ
 exact absurd hQ (lt_irrefl _)
theorem RB(u v w z Q:RE):of 2*((u-(0))*(w-(u)))+((w-(u))*(w-(u)))+((u*u+v*v-(Q)))+((Q-(w*w+z*z)))+((z*z-(0)))+((0-(v))*(v-(0)))=0:=by
 induction u using auZ
 induction v using auZ
 induction w using auZ
 induction z using auZ
 induction Q using auZ
 exact snd fun n=>by
  simp only[RL.add,RL.mul,RL.neg,RL.const]
  grind
theorem amC(u v w z Q:RE)(h1:u*u+v*v=Q)(h2:w*w+z*z=Q)(h3:v=0)(h4:0<u)(h5:0≤z*z):w≤u:=fun hg=>far (aB (aB (aB (aB (aB (qR (by decide+kernel:(0:Rat)<2) (mul_pos (aE h4) (aE hg))) (le_of_lt (mul_pos (aE hg) (aE hg)))) (aA (d7 h1))) (aA (dP h2))) (aA h5)) (bV (aA (dP h3)) (aA (d7 h3)))) (RB u v w z Q)
theorem Xl(u v w z Q:RE):of 2*((0-(u))*(u-(w)))+((u-(w))*(u-(w)))+((u*u+v*v-(Q)))+((Q-(w*w+z*z)))+((z*z-(0)))+((0-(v))*(v-(0)))=0:=by
 induction u using auZ
 induction v using auZ
 induction w using auZ
 induction z using auZ
 induction Q using auZ
 exact snd fun n=>by
  simp only[RL.add,RL.mul,RL.neg,RL.const]
  grind
theorem akc(u v w z Q:RE)(h1:u*u+v*v=Q)(h2:w*w+z*z=Q)(h3:v=0)(h4:u<0)(h5:0≤z*z):u≤w:=fun hg=>far (aB (aB (aB (aB (aB (qR (by decide+kernel:(0:Rat)<2) (mul_pos (aE h4) (aE hg))) (le_of_lt (mul_pos (aE hg) (aE hg)))) (aA (d7 h1))) (aA (dP h2))) (aA h5)) (bV (aA (dP h3)) (aA (d7 h3)))) (Xl u v w z Q)
theorem Pw(u w z Q:RE):((z*z-(0)))+((u*u-(Q)))+((Q-(w*w+z*z)))+((w*w-(u*u)))=0:=by
 induction u using auZ
 induction w using auZ
 induction z using auZ
 induction Q using auZ
 exact snd fun n=>by
  simp only[RL.add,RL.mul,RL.neg,RL.const]
  grind
theorem Ze(u w z Q:RE)(h1:u*u=Q)(h2:w*w+z*z=Q)(h3:w*w=u*u):z*z≤0:=fun hg=>far (aB (aB (aB (aE hg) (aA (d7 h1))) (aA (dP h2))) (aA (d7 h3))) (Pw u w z Q)
theorem uS{z:RE}(h:z*z≤0):z=0:=by
 rcases kV z 0 with e|e|e
 ·have:=mul_pos (iD e) (iD e)
  rw[neg_mul,mul_neg,neg_neg]at this
  exact absurd this (fun h'=>lt_irrefl _ (c7 h' (by
   rcases gF (gY z)with h2|h2
   ·exact absurd h2 ((Bp _ _).1 h)
   ·rw[h2]at h';exact absurd h' (lt_irrefl _))))
 ·exact e
 ·exact absurd (mul_pos e e) ((Bp _ _).1 h)
theorem KE{u v:RE}:cls u v=0↔v=0∧0<u:=by
 unfold cls
 rcases bZ v with⟨a,h1⟩|⟨a,h1⟩|⟨a,h1⟩<;>rcases bZ u with⟨b,h'⟩|⟨b,h'⟩|⟨b,h'⟩<;>rw[h1,h']<;>simp[a,b]<;>first|exact lt_irrefl _|exact fun h=>absurd (c7 h b) (lt_irrefl _)|(intro h;rw[h]at a;exact absurd a (lt_irrefl _))|skip
end RE
end
section
def xP(p:Pt):Rt:=coR p.1 p.2.1 p.2.2.2.2
def yP(p:Pt):Rt:=coR p.2.2.1 p.2.2.2.1 p.2.2.2.2
def atP(v:Rat×Rat):Pt:=(v.1,0,v.2,0,0)
def rdP(p:Pt):Pt:=(p.1,p.2.1,p.2.2.1,p.2.2.2.1,bif decide (p.2.1=0)&&decide (p.2.2.2.1=0)then 0 else p.2.2.2.2)
def mkP(x y:Rt):Pt:=rdP (x.1,x.2.1,y.1,y.2.1,bif decide (x.2.1=0)then y.2.2 else x.2.2)
def qm(x y:Rt):Prop:=x.2.1=0∨y.2.1=0∨x.2.2=y.2.2
instance (x y:Rt):Decidable (qm x y):=by unfold qm;infer_instance
def b9(p q:Pt):Int:=bif bI (xP p) (xP q)==0 then bI (yP p) (yP q)else bI (xP p) (xP q)
def trP(p:Pt)(v:Rat×Rat):Pt:=(p.1+v.1,p.2.1,p.2.2.1+v.2,p.2.2.2.1,p.2.2.2.2)
def bkV(v:Rat×Rat):Rat×Rat:=(-v.1,-v.2)
def sqA(p:Pt)(v:Rat×Rat):Rat:=(p.1-v.1)*(p.1-v.1)+(p.2.2.1-v.2)*(p.2.2.1-v.2)+(p.2.1*p.2.1+p.2.2.2.1*p.2.2.2.1)*p.2.2.2.2
def sqB(p:Pt)(v:Rat×Rat):Rat:=(p.1-v.1)*p.2.1+(p.2.2.1-v.2)*p.2.2.2.1+((p.1-v.1)*p.2.1+(p.2.2.1-v.2)*p.2.2.2.1)
def sqP(p:Pt)(v:Rat×Rat):Rt:=coR (sqA p v) (sqB p v) p.2.2.2.2
def Hl(p:Pt):Prop:=(p.2.1=0∧p.2.2.2.1=0∧p.2.2.2.2=0)∨(¬(p.2.1=0∧p.2.2.2.1=0)∧0<p.2.2.2.2∧eZ p.2.2.2.2=false)
instance (p:Pt):Decidable (Hl p):=by unfold Hl;infer_instance
class Rpd (p:Pt):Prop where
 rd:Hl p
def okP(k:Nat)(x:BP):Prop:=ok Pt k x∧Hl (dec x)
instance (k:Nat) (x:BP):Decidable (okP k x):=by unfold okP;infer_instance
theorem cO{k:Nat}{x:BP}(h:okP k x):∃v:Pt,x=enc v∧Bd v k∧Rpd v:=by
 obtain⟨h1,h2⟩:=h
 obtain⟨v,rfl,bv⟩:=aU h1
 rw[am]at h2
 exact⟨v,rfl,bv,⟨h2⟩⟩
theorem bH{x:Pt}{j k:Nat}[h:Bd x j][r:Rpd x](hj:j≤k)(hk:k≤480000):decide (okP k (enc x))=true:=au1 ⟨au0 (okd hj hk),by rw[am];exact r.rd⟩
theorem Rpd.ns{p:Pt}(h:Rpd p):Ns p.2.2.2.2:=⟨by rcases h.rd with h|h;exact .inl h.2.2;exact .inr h.2⟩
instance auN {p:Pt} [h:Rpd p]:Ns p.2.2.2.2:=h.ns
theorem Rpd.nn{p:Pt}(h:Rpd p):0≤p.2.2.2.2:=h.ns.nn
theorem Vk{a b c:Rat}(h:Ns c)(hb:b=0∨c≠0):Rdd (coR a b c):=by
 refine⟨?_⟩
 unfold coR
 by_cases e:b=0
 ·rw[au1 e];exact .inl ⟨rfl,rfl⟩
 ·rw[au3 e]
  rcases h.ns with h|h
  ·rcases hb with hb|hb
   ·exact absurd hb e
   ·exact absurd h hb
  ·exact .inr ⟨e,h⟩
theorem Rpd.b0{p:Pt}(h:Rpd p):(p.2.1=0∧p.2.2.2.1=0)∨p.2.2.2.2≠0:=by
 rcases h.rd with h|h
 ·exact .inl ⟨h.1,h.2.1⟩
 ·exact .inr (by have:=h.2.1;grind)
instance auz {p:Pt} [h:Rpd p]:Rdd (xP p):=Vk h.ns (by rcases h.b0 with h|h;exact .inl h.1;exact .inr h)
instance aux {p:Pt} [h:Rpd p]:Rdd (yP p):=Vk h.ns (by rcases h.b0 with h|h;exact .inl h.2;exact .inr h)
instance auS {p:Pt} {v:Rat×Rat} [h:Rpd p]:Rdd (sqP p v):=Vk h.ns (by
 rcases h.b0 with h|h
 ·refine .inl ?_
  unfold sqB
  rw[h.1,h.2]
  grind
 ·exact .inr h)
instance anz {v:Rat×Rat}:Rpd (atP v):=⟨.inl ⟨rfl,rfl,rfl⟩⟩
instance auK {p:Pt} {v:Rat×Rat} [h:Rpd p]:Rpd (trP p v):=⟨h.rd⟩
theorem apm{x y:Rt}(hx:Rdd x)(hy:Rdd y)(_h:qm x y):Rpd (mkP x y):=by
 refine⟨?_⟩
 unfold mkP rdP Hl
 dsimp only
 rcases hx.rd with⟨a1,a2⟩|⟨a1,a2,a3⟩<;>rcases hy.rd with⟨b1,b2⟩|⟨b1,b2,b3⟩
 ·simp[a1,b1]
 ·simp[a1,b1,b2,b3]
 ·simp[a1,b1,a2,a3]
 ·simp[a1,b1,a2,a3]
section
variable {p:Pt} {j:Nat}
instance auQ [h:Bd p j]:Bd (xP p) (mx j (mx j j)):=inferInstanceAs (Bd (coR p.1 p.2.1 p.2.2.2.2) _)
instance auP [h:Bd p j]:Bd (yP p) (mx j (mx j j)):=inferInstanceAs (Bd (coR p.2.2.1 p.2.2.2.1 p.2.2.2.2) _)
instance atT {v:Rat×Rat} [h:Bd v j]:Bd (atP v) (mx j (mx 1 (mx j (mx 1 1)))):=inferInstanceAs (Bd ((v.1,0,v.2,0,0):Pt) _)
instance at0 {v:Rat×Rat} {k:Nat} [h:Bd p j] [h':Bd v k]:Bd (trP p v) (mx (j+k+1) (mx j (mx (j+k+1) (mx j j)))):=inferInstanceAs (Bd ((p.1+v.1,p.2.1,p.2.2.1+v.2,p.2.2.2.1,p.2.2.2.2):Pt) _)
instance auI {v:Rat×Rat} [h:Bd v j]:Bd (bkV v) (mx j j):=inferInstanceAs (Bd ((-v.1,-v.2):Rat×Rat) _)
end
instance aul {p:Pt} {j:Nat} [h:Bd p j]:Bd (rdP p) (mx j (mx j (mx j (mx j (mx 1 j))))):=inferInstanceAs (Bd ((p.1,p.2.1,p.2.2.1,p.2.2.2.1,bif decide (p.2.1=0)&&decide (p.2.2.2.1=0)then 0 else p.2.2.2.2):Pt) _)
instance aku {x y:Rt} {j k:Nat} [h:Bd x j] [h':Bd y k]:Bd (mkP x y) (mx (mx j (mx j (mx k (mx k (mx k j))))) (mx (mx j (mx j (mx k (mx k (mx k j))))) (mx (mx j (mx j (mx k (mx k (mx k j))))) (mx (mx j (mx j (mx k (mx k (mx k j))))) (mx 1 (mx j (mx j (mx k (mx k (mx k j)))))))))):=inferInstanceAs (Bd (rdP (x.1,x.2.1,y.1,y.2.1,bif decide (x.2.1=0)then y.2.2 else x.2.2)) _)
theorem fG{j k n:Nat}(h1:j≤n)(h2:k≤n):mx j k≤n:=by
 unfold mx
 cases decide (j≤k)
 ·exact h1
 ·exact h2
section
variable {p:Pt} {v:Rat×Rat} {j k:Nat}
instance auA [h:Bd p j] [h':Bd v k]:Bd (sqA p v) (20*(j+k+1)):=by
 have a1:Bd (p.1-v.1) _:=inferInstance
 have a2:Bd (p.2.2.1-v.2) _:=inferInstance
 have a3:Bd (p.2.1*p.2.1+p.2.2.2.1*p.2.2.2.1) _:=inferInstance
 have i:Bd ((p.1-v.1)*(p.1-v.1)+(p.2.2.1-v.2)*(p.2.2.1-v.2)+(p.2.1*p.2.1+p.2.2.2.1*p.2.2.2.1)*p.2.2.2.2) _:=inferInstance
 exact i.mono (by omega)
instance auf [h:Bd p j] [h':Bd v k]:Bd (sqB p v) (20*(j+k+1)):=by
 have a1:Bd (p.1-v.1) _:=inferInstance
 have a2:Bd (p.2.2.1-v.2) _:=inferInstance
 have i:Bd ((p.1-v.1)*p.2.1+(p.2.2.1-v.2)*p.2.2.2.1+((p.1-v.1)*p.2.1+(p.2.2.1-v.2)*p.2.2.2.1)) _:=inferInstance
 exact i.mono (by omega)
instance auc [h:Bd p j] [h':Bd v k]:Bd (sqP p v) (20*(j+k+1)):=by
 have i:Bd (coR (sqA p v) (sqB p v) p.2.2.2.2) _:=inferInstance
 exact i.mono (fG (by omega) (fG (by omega) (by omega)))
end
namespace RE
def pX(p:Pt):RE:=v2 p.1 p.2.1 p.2.2.2.2
def pY(p:Pt):RE:=v2 p.2.2.1 p.2.2.2.1 p.2.2.2.2
def pR(p:Pt):RE×RE:=(pX p,pY p)
theorem qO(p:Pt):vR (xP p)=pX p:=vR_co _ _ _
theorem aaL(p:Pt):vR (yP p)=pY p:=vR_co _ _ _
theorem jY{p:Pt}[h:Rpd p]:0≤(xP p).2.2:=(auz (p:=p)).nn
theorem Lm{p:Pt}[h:Rpd p]:0≤(yP p).2.2:=(aux (p:=p)).nn
theorem jW{p q:Pt}[Rpd p][Rpd q]:b9 p q=lxc (pR p) (pR q):=by
 unfold b9 lxc
 rw[cmpT_re jY jY,cmpT_re Lm Lm,qO,qO,aaL,aaL]
 rfl
theorem aky(x y s t c u w:RE):(x+s*c-u)*(x+s*c-u)+(y+t*c-w)*(y+t*c-w)=(x-u)*(x-u)+(y-w)*(y-w)+(s*s+t*t)*(c*c)+((x-u)*s+(y-w)*t+((x-u)*s+(y-w)*t))*c:=by
 induction x using auZ
 induction y using auZ
 induction s using auZ
 induction t using auZ
 induction c using auZ
 induction u using auZ
 induction w using auZ
 exact snd fun n=>by
  simp only[RL.add,RL.mul,RL.neg]
  grind
theorem X4{p:Pt}{v:Rat×Rat}[h:Rpd p]:vR (sqP p v)=(pX p-of v.1)*(pX p-of v.1)+(pY p-of v.2)*(pY p-of v.2):=by
 unfold sqP pX pY
 rw[vR_co]
 unfold v2
 rw[aky,kz h.nn]
 unfold sqA sqB
 simp only[of_add,of_sub,of_mul]
theorem pX_at(v:Rat×Rat):pX (atP v)=of v.1:=dZ _ _
theorem pY_at(v:Rat×Rat):pY (atP v)=of v.2:=dZ _ _
end RE
end
theorem jI(a b:Rat):(aV a b !=0)=!decide (a=b):=by
 unfold bne
 rw[aM]
def Wa:Env:=[(76,jw),(148,ju),(149,lE),(147,kr),(83,jr),(99,nQ),(146,xR)]
theorem DM:EnvAll Tryz.prog Wa:=⟨fM,fO,io,gD,fL,jD,rB,trivial⟩
def aqv:Ctx:=CX Wa []
def ahi(_k:KT):Option (List RV):=match decide (bg (0:Int))with|true=>some [RV.d tR (hid (ai ((0:Int):Rat)))]|false=>none
theorem aqb:RS aqv 152 [] (ahi):=rsX
theorem aep:Con Tryz.prog 152 [] [.d tR (ai 0)]:=by
 refine aR DM (aqb ⟨0,?_⟩)
 unfold ahi
 rw[dT (show bg 0 by decide)]
 simp only[ak]
 rfl
def PP:aO:=spN false true [] (fun _=>true) (fun _=>[RV.d tR (hid (ai 0))])
theorem Vf:SpK 152 PP:=spX fun _ _=>by simp only[ak];exact aep
def Gk:Env:=(152,PP)::Wa
theorem rv:EnvAll Tryz.prog Gk:=⟨Vf,DM⟩
def apr:Ctx:=CX Gk []
def afO(v:BV)(_k:KT):Option (List RV):=some [RV.d tP (v.1,(hid (ai 0),(v.2,(hid (ai 0),hid (ai 0)))))]
theorem arS(v:BV):RS apr 68 [.d tV v] (afO v):=rsX
theorem ab8(v:BV)(h:ok (Rat×Rat) 100000 v):Con Tryz.prog 68 [.d tV v] [.d tP (enc (atP (dec v)))]:=by
 refine aR rv (arS _ ⟨0,?_⟩)
 have hv:=h
 obtain⟨v,rfl,bv⟩:=aU hv
 unfold afO
 simp only[ak,am,aI,aJ,aG]
 try rfl
def apo:Ctx:=CX Gk []
def ahD(p:BP)(_k:KT):Option (List RV):=match decide (okR p.2.1)with|true=>(match(aV (ae p.2.1) 0)==0 with|true=>(match decide (okR p.2.2.2.1)with|true=>(match(aV (ae p.2.2.2.1) 0)==0 with|true=>some [RV.d tP (p.1,(p.2.1,(p.2.2.1,(p.2.2.2.1,hid (ai 0)))))]|false=>some [RV.d tP p])|false=>none)|false=>some [RV.d tP p])|false=>none
theorem an9(p:BP):RS apo 171 [.d tP p] (ahD p):=rsX
theorem aab(p:BP)(h:ok Pt 21000 p):Con Tryz.prog 171 [.d tP p] [.d tP (enc (rdP (dec p)))]:=by
 refine aR rv (an9 _ ⟨0,?_⟩)
 have hp:=h
 obtain⟨p,rfl,bp⟩:=aU hp
 unfold ahD
 simp only[ak,am,aI,aJ,aG,az,aX,Nat.reduceLeDiff,aM]
 unfold rdP
 by_cases h1:p.2.1=0
 ·by_cases h2:p.2.2.2.1=0
  ·rw[au1 h1,au1 h2];rfl
  ·rw[au1 h1,au3 h2];rfl
 ·rw[au3 h1];rfl
def ar8:Ctx:=CX Gk []
def aeH(a b c:BR)(_k:KT):Option (List RV):=match decide (okR b)with|true=>(match(aV (ae b) 0)==0 with|true=>some [RV.d tO (a,(b,hid (ai 0)))]|false=>some [RV.d tO (a,(b,c))])|false=>none
theorem aqi(a b c:BR):RS ar8 150 [.d tR a,.d tR b,.d tR c] (aeH a b c):=rsX
theorem acd(a b c:BR)(h:okR a∧okR b∧okR c):Con Tryz.prog 150 [.d tR a,.d tR b,.d tR c] [.d tO (enc (coR (ae a) (ae b) (ae c)))]:=by
 refine aR rv (aqi _ _ _ ⟨0,?_⟩)
 obtain⟨ha,hb,hc⟩:=h
 obtain⟨a,rfl,ba⟩:=eH ha
 obtain⟨b,rfl,bb⟩:=eH hb
 obtain⟨c,rfl,bc⟩:=eH hc
 unfold aeH
 simp only[ak,az,aX,Nat.reduceLeDiff,aM]
 unfold coR
 by_cases e:b=0
 ·subst e;rw[au1 rfl];rfl
 ·rw[au3 e];rfl
def Hz:aO:=spN false true [tV] (fun x=>decide (ok (Rat×Rat) 100000 x.1)) (fun x=>[RV.d tP (hid (enc (atP (dec x.1))))])
theorem Ff:SpK 68 Hz:=spX fun x h=>by simp only[ak];exact ab8 x.1 (au0 h)
def Rm:aO:=spN false true [tP] (fun x=>decide (ok Pt 21000 x.1)) (fun x=>[RV.d tP (hid (enc (rdP (dec x.1))))])
theorem QZ:SpK 171 Rm:=spX fun x h=>by simp only[ak];exact aab x.1 (au0 h)
def U5:aO:=spN false true [tR,tR,tR] (fun x=>decide (okR x.1∧okR x.2.1∧okR x.2.2.1)) (fun x=>[RV.d tO (hid (enc (coR (ae x.1) (ae x.2.1) (ae x.2.2.1))))])
theorem TX:SpK 150 U5:=spX fun x h=>by simp only[ak];exact acd x.1 x.2.1 x.2.2.1 (au0 h)
def yV:Env:=(68,Hz)::(171,Rm)::(150,U5)::Gk
theorem nI:EnvAll Tryz.prog yV:=⟨Ff,QZ,TX,rv⟩
def apx:Ctx:=CX yV []
def afi(x y:BO3)(_k:KT):Option (List RV):=match decide (okR x.2.1)with|true=>(match(aV (ae x.2.1) 0)==0 with|true=>(match decide (ok Pt 21000 (x.1,(x.2.1,y)))with|true=>some [RV.d tP (hid (enc (rdP (dec (x.1,(x.2.1,y)))))),RV.d ax8 0]|false=>none)|false=>(match decide (okR y.2.1)with|true=>(match(aV (ae y.2.1) 0) !=0 with|true=>(match decide (okR x.2.2∧okR y.2.2)with|true=>(match(aV (ae x.2.2) (ae y.2.2)) !=0 with|true=>some [RV.d tP (((false,[]),(false,[])),(((false,[]),(false,[])),(((false,[]),(false,[])),(((false,[]),(false,[])),((false,[]),(false,[])))))),RV.d ax8 1]|false=>(match decide (ok Pt 21000 (x.1,(x.2.1,(y.1,(y.2.1,x.2.2)))))with|true=>some [RV.d tP (hid (enc (rdP (dec (x.1,(x.2.1,(y.1,(y.2.1,x.2.2)))))))),RV.d ax8 0]|false=>none))|false=>none)|false=>(match decide (ok Pt 21000 (x.1,(x.2.1,(y.1,(y.2.1,x.2.2)))))with|true=>some [RV.d tP (hid (enc (rdP (dec (x.1,(x.2.1,(y.1,(y.2.1,x.2.2)))))))),RV.d ax8 0]|false=>none))|false=>none))|false=>none
theorem ast(x y:BO3):RS apx 88 [.d tO x,.d tO y] (afi x y):=rsX
theorem aaG(x y:BO3)(h:okT 15000 x∧okT 15000 y∧qm (dec x) (dec y)):Con Tryz.prog 88 [.d tO x,.d tO y] [.d tP (enc (mkP (dec x) (dec y))),.d ax8 0]:=by
 refine aR nI (ast _ _ ⟨0,?_⟩)
 obtain⟨hx,hy,hy_2⟩:=h
 obtain⟨x,rfl,bx,rx⟩:=fK hx
 obtain⟨y,rfl,b_y,ry⟩:=fK hy
 have i1:decide (ok Pt 21000 (enc ((x.1,x.2.1,y):Pt)))=true:=okd (by decide) (by decide)
 have i2:decide (ok Pt 21000 (enc ((x.1,x.2.1,y.1,y.2.1,x.2.2):Pt)))=true:=okd (by decide) (by decide)
 have j1:(dec ((ai x.1,ai x.2.1,enc y):BP):Pt)=(x.1,x.2.1,y):=am ((x.1,x.2.1,y):Pt)
 have j2:(dec ((ai x.1,ai x.2.1,ai y.1,ai y.2.1,ai x.2.2):BP):Pt)=(x.1,x.2.1,y.1,y.2.1,x.2.2):=am ((x.1,x.2.1,y.1,y.2.1,x.2.2):Pt)
 have i1:decide (ok Pt 21000 ((ai x.1,ai x.2.1,enc y):BP))=true:=i1
 have i2:decide (ok Pt 21000 ((ai x.1,ai x.2.1,ai y.1,ai y.2.1,ai x.2.2):BP))=true:=i2
 have hm:=hy_2
 rw[am,am]at hm
 unfold afi
 simp only[ak,am,aI,aJ,aG,az,aX,au4,au6,Nat.reduceLeDiff,aM,jI,i1,i2,j1,j2]
 unfold mkP
 by_cases e1:x.2.1=0
 ·rw[au1 e1];rfl
 ·rw[au3 e1]
  by_cases e2:y.2.1=0
  ·rw[au1 e2];rfl
  ·rw[au3 e2,au1 ((hm.resolve_left e1).resolve_left e2)];rfl
def atJ:Ctx:=CX yV []
def apc(p:BP)(_k:KT):Option (List RV):=match decide (okR p.1∧okR p.2.1∧okR p.2.2.2.2)with|true=>some [RV.d tO (hid (enc (coR (ae p.1) (ae p.2.1) (ae p.2.2.2.2))))]|false=>none
theorem auk(p:BP):RS atJ 271 [.d tP p] (apc p):=rsX
theorem ake(p:BP)(h:okP 4000 p):Con Tryz.prog 271 [.d tP p] [.d tO (enc (xP (dec p)))]:=by
 refine aR nI (auk _ ⟨0,?_⟩)
 have hp:=h
 obtain⟨p,rfl,bp,rp⟩:=cO hp
 unfold apc
 simp only[ak,am,aI,aJ,aG,az,aX,au4,au6,Nat.reduceLeDiff]
 try rfl
def auC:Ctx:=CX yV []
def apt(p:BP)(_k:KT):Option (List RV):=match decide (okR p.2.2.1∧okR p.2.2.2.1∧okR p.2.2.2.2)with|true=>some [RV.d tO (hid (enc (coR (ae p.2.2.1) (ae p.2.2.2.1) (ae p.2.2.2.2))))]|false=>none
theorem aut(p:BP):RS auC 272 [.d tP p] (apt p):=rsX
theorem akQ(p:BP)(h:okP 4000 p):Con Tryz.prog 272 [.d tP p] [.d tO (enc (yP (dec p)))]:=by
 refine aR nI (aut _ ⟨0,?_⟩)
 have hp:=h
 obtain⟨p,rfl,bp,rp⟩:=cO hp
 unfold apt
 simp only[ak,am,aI,aJ,aG,az,aX,au4,au6,Nat.reduceLeDiff]
 try rfl
def asV:Ctx:=CX yV []
def agk(p:BP)(v:BV)(_k:KT):Option (List RV):=let y1:=hid (ai (ae p.1-ae v.1));let y2:=hid (ai (ae p.2.2.1-ae v.2));let y3:=hid (ai (ae y1*ae y1));let y4:=hid (ai (ae y2*ae y2));let y5:=hid (ai (ae p.2.1*ae p.2.1));let y6:=hid (ai (ae p.2.2.2.1*ae p.2.2.2.1));let y7:=hid (ai (ae y5+ae y6));let y8:=hid (ai (ae y3+ae y4));let y9:=hid (ai (ae y7*ae p.2.2.2.2));let y10:=hid (ai (ae y1*ae p.2.1));let y11:=hid (ai (ae y2*ae p.2.2.2.1));let y12:=hid (ai (ae y10+ae y11));let y13:=hid (ai (ae y8+ae y9));let y14:=hid (ai (ae y12+ae y12));let y15:Option (List RV):=match decide (okR y10∧okR y11)with|true=>(match decide (okR y12∧okR y12)with|true=>(match decide (okR y13∧okR y14∧okR p.2.2.2.2)with|true=>some [RV.d tO (hid (enc (coR (ae y13) (ae y14) (ae p.2.2.2.2))))]|false=>none)|false=>none)|false=>none;let y16:Option (List RV):=match decide (okR y2∧okR p.2.2.2.1)with|true=>y15|false=>none;let y17:Option (List RV):=match decide (okR y8∧okR y9)with|true=>cQ (match decide (okR y1∧okR p.2.1)with|true=>cQ (match decide (okR y2∧okR p.2.2.2.1)with|true=>dup (.b .l .l) y15|false=>none) y16|false=>none) (match decide (okR y1∧okR p.2.1)with|true=>y16|false=>none)|false=>none;let y18:Option (List RV):=match decide (okR y7∧okR p.2.2.2.2)with|true=>y17|false=>none;let y19:Option (List RV):=match decide (okR y5∧okR y6)with|true=>y18|false=>none;let y20:Option (List RV):=match decide (okR p.2.2.2.1∧okR p.2.2.2.1)with|true=>y19|false=>none;let y21:Option (List RV):=match decide (okR p.2.1∧okR p.2.1)with|true=>y20|false=>none;let y22:Option (List RV):=match decide (okR y3∧okR y4)with|true=>y21|false=>none;let y23:Option (List RV):=match decide (okR y2∧okR y2)with|true=>y22|false=>none;match decide (okR p.1∧okR v.1)with|true=>(match decide (okR p.2.2.1∧okR v.2)with|true=>cQ (match decide (okR y1∧okR y1)with|true=>cQ (match decide (okR y2∧okR y2)with|true=>cQ (match decide (okR y3∧okR y4)with|true=>cQ (match decide (okR p.2.1∧okR p.2.1)with|true=>cQ (match decide (okR p.2.2.2.1∧okR p.2.2.2.1)with|true=>cQ (match decide (okR y5∧okR y6)with|true=>cQ (match decide (okR y7∧okR p.2.2.2.2)with|true=>dup (.b .l .l) y17|false=>none) y18|false=>none) y19|false=>none) y20|false=>none) y21|false=>none) y22|false=>none) y23|false=>none) (match decide (okR y1∧okR y1)with|true=>y23|false=>none)|false=>none)|false=>none
theorem anq(p:BP)(v:BV):RS asV 66 [.d tP p,.d tV v] (agk p v):=rsX
theorem ab3(p:BP)(v:BV)(h:okP 3500 p∧ok (Rat×Rat) 300 v):Con Tryz.prog 66 [.d tP p,.d tV v] [.d tO (enc (sqP (dec p) (dec v)))]:=by
 refine aR nI (anq _ _ ⟨0,?_⟩)
 obtain⟨hp,hv⟩:=h
 obtain⟨p,rfl,bp,rp⟩:=cO hp
 obtain⟨v,rfl,bv⟩:=aU hv
 unfold agk
 simp only[au,aP,ak,am,aI,aJ,aG,az,aX,au4,au6,Nat.reduceAdd,Nat.reduceLeDiff]
 rfl
def UF:aO:=spN false true [tP] (fun x=>decide (okP 4000 x.1)) (fun x=>[RV.d tO (hid (enc (xP (dec x.1))))])
theorem JP:SpK 271 UF:=spX fun x h=>by simp only[ak];exact ake x.1 (au0 h)
def R9:aO:=spN false true [tP] (fun x=>decide (okP 4000 x.1)) (fun x=>[RV.d tO (hid (enc (yP (dec x.1))))])
theorem K9:SpK 272 R9:=spX fun x h=>by simp only[ak];exact akQ x.1 (au0 h)
def agG:Env:=(271,UF)::(272,R9)::yV
theorem TG:EnvAll Tryz.prog agG:=⟨JP,K9,nI⟩
def aoI:Ctx:=CX agG []
def afj(p q:BP)(_k:KT):Option (List RV):=match decide (okP 4000 p)with|true=>(match decide (okP 4000 q)with|true=>(match decide (okT 15000 (hid (enc (xP (dec p))))∧okT 15000 (hid (enc (xP (dec q)))))with|true=>(match(bI (dec (hid (enc (xP (dec p))))) (dec (hid (enc (xP (dec q)))))) !=0 with|true=>some [RV.d ax8 (bI (dec (hid (enc (xP (dec p))))) (dec (hid (enc (xP (dec q))))))]|false=>(match decide (okP 4000 p)with|true=>(match decide (okP 4000 q)with|true=>(match decide (okT 15000 (hid (enc (yP (dec p))))∧okT 15000 (hid (enc (yP (dec q)))))with|true=>some [RV.d ax8 (bI (dec (hid (enc (yP (dec p))))) (dec (hid (enc (yP (dec q))))))]|false=>none)|false=>none)|false=>none))|false=>none)|false=>none)|false=>none
theorem aru(p q:BP):RS aoI 232 [.d tP p,.d tP q] (afj p q):=rsX
theorem acy(p q:BP)(h:okP 4000 p∧okP 4000 q):Con Tryz.prog 232 [.d tP p,.d tP q] [.d ax8 (b9 (dec p) (dec q))]:=by
 refine aR TG (aru _ _ ⟨0,?_⟩)
 obtain⟨hp,hq⟩:=h
 obtain⟨p,rfl,bp,rp⟩:=cO hp
 obtain⟨q,rfl,bq,rq⟩:=cO hq
 unfold afj
 simp only[ak,am,au4,au6,mx,Nat.reduceLeDiff,ave,cond_true,bh,bH]
 unfold b9 bne
 cases bI (xP p) (xP q)==0<;>rfl
def OW:aO:=spN false true [tP,tV] (fun x=>decide (okP 3500 x.1∧ok (Rat×Rat) 300 x.2.1)) (fun x=>[RV.d tO (hid (enc (sqP (dec x.1) (dec x.2.1))))])
theorem RQ:SpK 66 OW:=spX fun x h=>by simp only[ak];exact ab3 x.1 x.2.1 (au0 h)
def Ph:aO:=spN false true [tO,tO] (fun x=>decide (okT 15000 x.1∧okT 15000 x.2.1∧qm (dec x.1) (dec x.2.1))) (fun x=>[RV.d tP (hid (enc (mkP (dec x.1) (dec x.2.1)))),RV.d ax8 0])
theorem SU:SpK 88 Ph:=spX fun x h=>by simp only[ak];exact aaG x.1 x.2.1 (au0 h)
def WH:aO:=spN true true [tP,tP] (fun x=>decide (okP 4000 x.1∧okP 4000 x.2.1)) (fun x=>[RV.d ax8 (b9 (dec x.1) (dec x.2.1))])
theorem Y0:SpK 232 WH:=spX fun x h=>acy x.1 x.2.1 (au0 h)
section
def HH(l:Ln)(p:Pt):Rat:=l.1*p.1+l.2.1*p.2.2.1-l.2.2
def G6(l:Ln)(p:Pt):Rat:=l.1*p.2.1+l.2.1*p.2.2.2.1
def mh(l:Ln)(p:Pt):Int:=fy (HH l p) (G6 l p) p.2.2.2.2
def ctr(c:Ln):Rat×Rat:=(c.1,c.2.1)
def lm(c:Ln)(p:Pt):Int:= -fy (sqA p (ctr c)-c.2.2) (sqB p (ctr c)) p.2.2.2.2
def nj(l:Ln)(v:Rat×Rat):Rat:=(l.1*v.1+l.2.1*v.2-l.2.2)/(l.1*l.1+l.2.1*l.2.1)
def c8(l:Ln)(v:Rat×Rat):Rat×Rat:=(v.1-nj l v*l.1,v.2-nj l v*l.2.1)
section
variable {l:Ln} {p:Pt} {v:Rat×Rat} {i j k:Nat}
instance aum [h:Bd l i]:Bd (ctr l) (mx i i):=inferInstanceAs (Bd ((l.1,l.2.1):Rat×Rat) _)
instance atA [h:Bd l i] [h':Bd p j]:Bd (HH l p) ((i+j)+(i+j)+1+i+1):=inferInstanceAs (Bd (l.1*p.1+l.2.1*p.2.2.1-l.2.2) _)
instance atu [h:Bd l i] [h':Bd p j]:Bd (G6 l p) ((i+j)+(i+j)+1):=inferInstanceAs (Bd (l.1*p.2.1+l.2.1*p.2.2.2.1) _)
instance atx [h:Bd l i] [h':Bd v k]:Bd (nj l v) (((i+k)+(i+k)+1+i+1)+((i+i)+(i+i)+1)):=inferInstanceAs (Bd ((l.1*v.1+l.2.1*v.2-l.2.2)/(l.1*l.1+l.2.1*l.2.1)) _)
instance ary [h:Bd l i] [h':Bd v k]:Bd (c8 l v) (8*i+3*k+4):=by
 have i1:Bd (v.1-nj l v*l.1) _:=inferInstance
 have i2:Bd (v.2-nj l v*l.2.1) _:=inferInstance
 have i3:Bd ((v.1-nj l v*l.1,v.2-nj l v*l.2.1):Rat×Rat) _:=inferInstance
 exact i3.mono (fG (by omega) (by omega))
end
theorem jX{a b:Rat}(h:a≠0∨b≠0):a*a+b*b≠0:=by
 have ha:0≤a*a:=by
  rcases(by grind:0≤a∨0≤ -a)with h|h
  ·exact avC h h
  ·have:=avC h h;grind
 have hb:0≤b*b:=by
  rcases(by grind:0≤b∨0≤ -b)with h|h
  ·exact avC h h
  ·have:=avC h h;grind
 intro e
 have e1:a*a=0:=by grind
 have e2:b*b=0:=by grind
 rcases h with h|h
 ·exact h (by rcases axT.1 e1 with h|h<;>exact h)
 ·exact h (by rcases axT.1 e2 with h|h<;>exact h)
namespace RE
theorem alM(a b x s y t c r:RE):a*(x+s*r)+b*(y+t*r)+ -c=a*x+b*y-c+(a*s+b*t)*r:=by
 induction a using auZ
 induction b using auZ
 induction x using auZ
 induction s using auZ
 induction y using auZ
 induction t using auZ
 induction c using auZ
 induction r using auZ
 exact snd fun n=>by
  simp only[RL.add,RL.mul,RL.neg]
  grind
theorem as4(a b q r:RE):a+b*r+ -q=a-q+b*r:=by
 induction a using auZ
 induction b using auZ
 induction q using auZ
 induction r using auZ
 exact snd fun n=>by
  simp only[RL.add,RL.mul,RL.neg]
  grind
theorem SS(a b:RE):a+ -b=a-b:=rfl
theorem Cs(l:Ln){p:Pt}[h:Rpd p]:mh l p=sg (of l.1*pX p+of l.2.1*pY p+ -of l.2.2):=by
 unfold mh pX pY
 rw[sgn2_re h.nn]
 unfold v2
 rw[alM]
 unfold HH G6
 simp only[of_add,of_sub,of_mul]
theorem B4(c:Ln){p:Pt}[h:Rpd p]:lm c p= -sg ((pX p-of c.1)*(pX p-of c.1)+(pY p-of c.2.1)*(pY p-of c.2.1)+ -of c.2.2):=by
 unfold lm
 have e:=X4 (p:=p) (v:=ctr c)
 unfold sqP at e
 rw[vR_co]at e
 rw[sgn2_re h.nn]
 unfold v2 at e ⊢
 rw[of_sub,←as4,e]
 rfl
theorem sidL_ok(l:Ln){p:Pt}[Rpd p](h:(se l p).2=true):(se l p).1=mh l p:=by
 rw[ZK h,Cs]
 try rfl
theorem insC_ok(c:Ln){p:Pt}[Rpd p](h:(qJ c p).2=true): -(qJ c p).1=lm c p:=by
 rw[aaZ h,B4]
 simp only[SS]
 try rfl
end RE
end
def gR(r s:Rt):Rat:=bif decide (r.2.1=0)then s.2.2 else r.2.2
def mv(r s:Rt):Bool:=decide (r.2.1=0)||(decide (s.2.1=0)||decide (r.2.2=s.2.2))
def lg(r s:Rt):Rt:=ki (r.1*s.1+r.2.1*s.2.1*gR r s) (r.1*s.2.1+r.2.1*s.1) (gR r s)
def yd(r s:Rt):Rt:=ki (r.1+s.1) (r.2.1+s.2.1) (gR r s)
def arT(r:Rt)(a:Rat):Rt:=(r.1+a,r.2.1,r.2.2)
theorem cA(a b:Rat):(aV a b !=0)=!decide (a=b):=by
 unfold bne
 rw[aM]
instance atK {r s:Rt} {i j:Nat} [h:Bd r i] [h':Bd s j]:Bd (gR r s) (mx j i):=inferInstanceAs (Bd (bif decide (r.2.1=0)then s.2.2 else r.2.2) _)
instance atz {a b c:Rat} {i j k:Nat} [ha:Bd a i] [hb:Bd b j] [hc:Bd c k]:Bd (ki a b c) (mx i (mx j k)):=by
 have h1:=Ct i (mx j k)
 have h2:=A9 i (mx j k)
 have h3:=Ct j k
 have h4:=A9 j k
 have h5:=pG ha.le
 have z:bdR (mx i (mx j k)) 0:=bW n4.le (by omega)
 refine⟨?_⟩
 unfold ki
 cases decide (b=0)
 ·cases decide (c=0)
  ·exact⟨bW ha.le (by omega),bW hb.le (by omega),bW hc.le (by omega)⟩
  ·exact⟨bW ha.le (by omega),z,z⟩
 ·exact⟨bW ha.le (by omega),z,z⟩
theorem MT(r:Rt):mv r r=true:=by
 unfold mv
 rw[au1 (rfl:r.2.2=r.2.2)]
 simp
theorem Ku{p:Pt}{v:Rat×Rat}(h:Rpd p):mv (lg (xP (trP p (bkV v))) (xP (trP p (bkV v)))) (lg (yP (trP p (bkV v))) (yP (trP p (bkV v))))=true∧yd (lg (xP (trP p (bkV v))) (xP (trP p (bkV v)))) (lg (yP (trP p (bkV v))) (yP (trP p (bkV v))))=sqP p v:=by
 obtain⟨ax,bx,ay,b_,c⟩:=p
 have hr:=h.rd
 unfold Hl at hr
 simp only at hr
 unfold sqP sqA sqB xP yP trP bkV
 simp only
 rw[show ax+ -v.1=ax-v.1 by grind,show ay+ -v.2=ay-v.2 by grind]
 generalize ax-v.1=x
 generalize ay-v.2=y
 rcases hr with⟨rfl,rfl,rfl⟩|⟨h1,h2,h3⟩
 ·have e0:∀a:Rat,coR a 0 0=(a,0,0):=fun a=>rfl
  have e1:∀a:Rat,lg (a,0,0) (a,0,0)=(a*a,0,0):=fun a=>by
   unfold lg gR ki
   simp
   grind
  rw[e0,e0,e1,e1]
  refine⟨rfl,?_⟩
  rw[show x*0+y*0+(x*0+y*0)=(0:Rat) by grind]
  unfold yd gR ki coR
  simp
  grind
 ·have hc:c≠0:=by grind
  have dc:decide (c=0)=false:=au3 hc
  have sq0:∀a:Rat,lg (coR a 0 c) (coR a 0 c)=(a*a,0,0):=fun a=>by
   unfold coR
   rw[au1 rfl]
   unfold lg gR ki
   simp
   grind
  have sq1:∀a b:Rat,b≠0→lg (coR a b c) (coR a b c)=coR (a*a+b*b*c) (a*b+b*a) c:=fun a b hb=>by
   have e:coR a b c=(a,b,c):=by unfold coR;rw[au3 hb];rfl
   rw[e]
   unfold lg gR ki coR
   simp only[au3 hb,cond_false,dc]
  have cR:∀a b:Rat,ki a b c=coR a b c:=fun a b=>by unfold ki coR;rw[dc];rfl
  have ad:∀a b d e:Rat,mv (coR a b c) (coR d e c)=true∧(b≠0∨e≠0→yd (coR a b c) (coR d e c)=coR (a+d) (b+e) c)∧(b=0→e=0→yd (coR a b c) (coR d e c)=(a+d,0,0)):=fun a b d e=>by
   by_cases hb:b=0
   ·subst hb
    by_cases he:e=0
    ·subst he
     refine⟨rfl,fun h=>by simp at h,fun _ _=>?_⟩
     unfold coR yd gR ki
     simp
    ·refine⟨rfl,fun _=>?_,fun _ h=>absurd h he⟩
     have e1:coR a 0 c=(a,0,0):=rfl
     have e2:coR d e c=(d,e,c):=by unfold coR;rw[au3 he];rfl
     rw[e1,e2]
     show ki (a+d) (0+e) c=_
     rw[cR]
   ·have e1:coR a b c=(a,b,c):=by unfold coR;rw[au3 hb];rfl
    by_cases he:e=0
    ·subst he
     have e2:coR d 0 c=(d,0,0):=rfl
     refine⟨by rw[e1,e2];simp[mv],fun _=>?_,fun h=>absurd h hb⟩
     rw[e1,e2]
     unfold yd gR
     simp only[au3 hb,cond_false]
     rw[cR]
    ·have e2:coR d e c=(d,e,c):=by unfold coR;rw[au3 he];rfl
     refine⟨by rw[e1,e2];simp[mv],fun _=>?_,fun h=>absurd h hb⟩
     rw[e1,e2]
     unfold yd gR
     simp only[au3 hb,cond_false]
     rw[cR]
  have c0:∀a:Rat,((a,0,0):Rt)=coR a 0 c:=fun a=>rfl
  by_cases hx:bx=0
  ·subst hx
   have hy:b_≠0:=fun e=>h1 ⟨rfl,e⟩
   rw[sq0,sq1 _ _ hy,c0]
   obtain⟨g1,g2,g3⟩:=ad (x*x) 0 (y*y+b_*b_*c) (y*b_+b_*y)
   refine⟨g1,?_⟩
   by_cases he:y*b_+b_*y=0
   ·rw[g3 rfl he,show x*0+y*b_+(x*0+y*b_)=0 by grind]
    show _=coR _ 0 c
    rw[←c0]
    congr 1
    grind
   ·rw[g2 (.inr he)]
    congr 1<;>grind
  ·by_cases hy:b_=0
   ·subst hy
    rw[sq0,sq1 _ _ hx,c0]
    obtain⟨g1,g2,g3⟩:=ad (x*x+bx*bx*c) (x*bx+bx*x) (y*y) 0
    refine⟨g1,?_⟩
    by_cases he:x*bx+bx*x=0
    ·rw[g3 he rfl,show x*bx+y*0+(x*bx+y*0)=0 by grind]
     show _=coR _ 0 c
     rw[←c0]
     congr 1
     grind
    ·rw[g2 (.inl he)]
     congr 1<;>grind
   ·rw[sq1 _ _ hx,sq1 _ _ hy]
    obtain⟨g1,g2,g3⟩:=ad (x*x+bx*bx*c) (x*bx+bx*x) (y*y+b_*b_*c) (y*b_+b_*y)
    refine⟨g1,?_⟩
    by_cases h0:x*bx+bx*x=0∧y*b_+b_*y=0
    ·rw[g3 h0.1 h0.2,show x*bx+y*b_+(x*bx+y*b_)=0 by grind]
     show _=coR _ 0 c
     rw[←c0]
     congr 1
     grind
    ·rw[g2 (by by_cases e:x*bx+bx*x=0;exact .inr (fun e'=>h0 ⟨e,e'⟩);exact .inl e)]
     congr 1<;>grind
theorem Rpd.com{p:Pt}{v:Rat×Rat}(h:Rpd p):mv (lg (xP (trP p (bkV v))) (xP (trP p (bkV v)))) (lg (yP (trP p (bkV v))) (yP (trP p (bkV v))))=true:=(Ku h).1
instance atp {r s:Rt} {i j:Nat} [h:Bd r i] [h':Bd s j]:Bd (lg r s) (2*(i+j)+(mx j i)+1):=by
 have m:Bd (gR r s) (mx j i):=inferInstance
 have a1:Bd (r.1*s.1+r.2.1*s.2.1*gR r s) _:=inferInstance
 have a2:Bd (r.1*s.2.1+r.2.1*s.1) _:=inferInstance
 have i1:Bd (ki (r.1*s.1+r.2.1*s.2.1*gR r s) (r.1*s.2.1+r.2.1*s.1) (gR r s)) _:=inferInstance
 exact i1.mono (fG (by omega) (fG (by omega) (by omega)))
instance aty {r s:Rt} {i j:Nat} [h:Bd r i] [h':Bd s j]:Bd (yd r s) (i+j+1):=by
 have i1:Bd (ki (r.1+s.1) (r.2.1+s.2.1) (gR r s)) _:=inferInstance
 exact i1.mono (fG (by omega) (fG (by omega) (fG (by omega) (by omega))))
instance atL {r:Rt} {a:Rat} {i j:Nat} [h:Bd r i] [h':Bd a j]:Bd (arT r a) (i+j+1):=by
 have i1:Bd ((r.1+a,r.2.1,r.2.2):Rt) _:=inferInstance
 exact i1.mono (fG (by omega) (fG (by omega) (by omega)))
def uI:aO:=spN true true [tO,tR] (fun x=>decide (okT 15000 x.1∧ok Rat 15000 x.2.1)) (fun x=>[RV.d ax8 (fh (dec x.1) (ae x.2.1))])
theorem ue:SpK 85 uI:=spX fun x h=>RY x.1 x.2.1 (au0 h)
def wN:Env:=[(78,gv),(50,iN),(127,jR),(132,iL),(107,lY),(124,lP),(145,AY),(57,uE),(133,Dn),(119,ri),(85,uI)]
theorem kE:EnvAll Tryz.prog wN:=⟨fc,gi,gV,ga,iS,jc,zk,uj,zF,n7,ue,trivial⟩
def aj9:Ctx:=CX wN []
def VP(r s:BO3)(_k:KT):Option (List RV):=match decide (okR r.2.1)with|true=>(match(aV (ae r.2.1) 0)==0 with|true=>some [RV.d tR s.2.2,RV.d .bool true]|false=>(match decide (okR s.2.1)with|true=>(match(aV (ae s.2.1) 0)==0 with|true=>some [RV.d tR r.2.2,RV.d .bool true]|false=>(match decide (okR r.2.2∧okR s.2.2)with|true=>some [RV.d tR r.2.2,RV.d .bool ((aV (ae r.2.2) (ae s.2.2))==0)]|false=>none))|false=>none))|false=>none
theorem aiZ(r s:BO3):RS aj9 215 [.d tO r,.d tO s] (VP r s):=rsX
theorem Q0(r s:BO3)(h:ok Rt 100000 r∧ok Rt 100000 s):Con Tryz.prog 215 [.d tO r,.d tO s] [.d tR (ai (gR (dec r) (dec s))),.d .bool (mv (dec r) (dec s))]:=by
 refine aR kE (aiZ _ _ ⟨0,?_⟩)
 obtain⟨hr,hs⟩:=h
 obtain⟨r,rfl,br⟩:=aU hr
 obtain⟨s,rfl,bs⟩:=aU hs
 unfold VP
 simp only[am,aI,aJ,aG,az,aX,au4,au6,Nat.reduceLeDiff,aM]
 unfold gR mv
 cases decide (r.2.1=0)<;>cases decide (s.2.1=0)<;>rfl
def alZ:Ctx:=CX wN []
def Xs(r:BO3)(a:BR)(_k:KT):Option (List RV):=match decide (okR r.1∧okR a)with|true=>some [RV.d tO (hid (ai (ae r.1+ae a)),r.2)]|false=>none
theorem ajc(r:BO3)(a:BR):RS alZ 266 [.d tO r,.d tR a] (Xs r a):=rsX
theorem VE(r:BO3)(a:BR)(h:ok Rt 100000 r∧ok Rat 100000 a):Con Tryz.prog 266 [.d tO r,.d tR a] [.d tO (enc (arT (dec r) (ae a)))]:=by
 refine aR kE (ajc _ _ ⟨0,?_⟩)
 obtain⟨hr,ha⟩:=h
 obtain⟨r,rfl,br⟩:=aU hr
 obtain⟨a,rfl,ba⟩:=aU ha
 unfold Xs
 simp only[ak,am,aI,aJ,aG,az,aX,au4,au6,Nat.reduceLeDiff]
 rfl
def alq:Ctx:=CX wN []
def Q8(_k:KT):Option (List RV):=match decide (bg (0:Int))with|true=>some [RV.d tR (hid (ai ((0:Int):Rat)))]|false=>none
theorem alx:RS alq 82 [] (Q8):=rsX
theorem RO:Con Tryz.prog 82 [] [.d tR (ai 0)]:=by
 refine aR kE (alx ⟨0,?_⟩)
 unfold Q8
 rw[dT (show bg 0 by decide)]
 simp only[ak]
 rfl
def alk:Ctx:=CX wN []
def Rq(p:BP)(v:BV)(_k:KT):Option (List RV):=match decide (okR p.1∧okR v.1)with|true=>(match decide (okR p.2.2.1∧okR v.2)with|true=>some [RV.d tP (hid (ai (ae p.1+ae v.1)),(p.2.1,(hid (ai (ae p.2.2.1+ae v.2)),p.2.2.2)))]|false=>none)|false=>none
theorem alI(p:BP)(v:BV):RS alk 45 [.d tP p,.d tV v] (Rq p v):=rsX
theorem Ui(p:BP)(v:BV)(h:ok Pt 21000 p∧ok (Rat×Rat) 1000 v):Con Tryz.prog 45 [.d tP p,.d tV v] [.d tP (enc (trP (dec p) (dec v)))]:=by
 refine aR kE (alI _ _ ⟨0,?_⟩)
 obtain⟨hp,hv⟩:=h
 obtain⟨p,rfl,bp⟩:=aU hp
 obtain⟨v,rfl,bv⟩:=aU hv
 unfold Rq
 simp only[ak,am,aI,aJ,aG,az,aX,au4,au6,Nat.reduceLeDiff]
 rfl
def akS:Ctx:=CX wN []
def YM(v:BV)(_k:KT):Option (List RV):=match decide (okR v.1)with|true=>(match decide (okR v.2)with|true=>some [RV.d tV (hid (ai (-ae v.1)),hid (ai (-ae v.2)))]|false=>none)|false=>none
theorem amO(v:BV):RS akS 136 [.d tV v] (YM v):=rsX
theorem PX(v:BV)(h:ok (Rat×Rat) 21000 v):Con Tryz.prog 136 [.d tV v] [.d tV (enc (bkV (dec v)))]:=by
 refine aR kE (amO _ ⟨0,?_⟩)
 have hv:=h
 obtain⟨v,rfl,bv⟩:=aU hv
 unfold YM
 simp only[ak,am,aI,aJ,aG,az,aX,Nat.reduceLeDiff]
 rfl
def LS:aO:=spN false true [tO,tO] (fun x=>decide (ok Rt 100000 x.1∧ok Rt 100000 x.2.1)) (fun x=>[RV.d tR (hid (ai (gR (dec x.1) (dec x.2.1)))),RV.d .bool (mv (dec x.1) (dec x.2.1))])
theorem OG:SpK 215 LS:=spX fun x h=>by simp only[ak];exact Q0 x.1 x.2.1 (au0 h)
def Br:aO:=spN false true [tO,tR] (fun x=>decide (ok Rt 100000 x.1∧ok Rat 100000 x.2.1)) (fun x=>[RV.d tO (hid (enc (arT (dec x.1) (ae x.2.1))))])
theorem Ac:SpK 266 Br:=spX fun x h=>by simp only[ak];exact VE x.1 x.2.1 (au0 h)
def Jw:aO:=spN false true [] (fun _=>true) (fun _=>[RV.d tR (hid (ai 0))])
theorem NO:SpK 82 Jw:=spX fun _ _=>by simp only[ak];exact RO
def CH:aO:=spN false true [tP,tV] (fun x=>decide (ok Pt 21000 x.1∧ok (Rat×Rat) 1000 x.2.1)) (fun x=>[RV.d tP (hid (enc (trP (dec x.1) (dec x.2.1))))])
theorem zw:SpK 45 CH:=spX fun x h=>by simp only[ak];exact Ui x.1 x.2.1 (au0 h)
def Kk:aO:=spN false true [tV] (fun x=>decide (ok (Rat×Rat) 21000 x.1)) (fun x=>[RV.d tV (hid (enc (bkV (dec x.1))))])
theorem ML:SpK 136 Kk:=spX fun x h=>by simp only[ak];exact PX x.1 (au0 h)
def JW:Env:=(215,LS)::(266,Br)::(82,Jw)::(45,CH)::(136,Kk)::wN
theorem xD:EnvAll Tryz.prog JW:=⟨OG,Ac,NO,zw,ML,kE⟩
def aj6:Ctx:=CX JW []
def S5(r s:BO3)(_k:KT):Option (List RV):=match decide (ok Rt 100000 r∧ok Rt 100000 s)with|true=>(match !(mv (dec r) (dec s))with|true=>some [RV.d tO (((false,[]),(false,[])),(((false,[]),(false,[])),((false,[]),(false,[])))),RV.d ax8 1]|false=>(match decide (okR r.1∧okR s.1)with|true=>(match decide (okR r.2.1∧okR s.2.1)with|true=>(match decide (okR (hid (ai (ae r.2.1*ae s.2.1)))∧okR (hid (ai (gR (dec r) (dec s)))))with|true=>(match decide (okR (hid (ai (ae r.1*ae s.1)))∧okR (hid (ai (ae (hid (ai (ae r.2.1*ae s.2.1)))*ae (hid (ai (gR (dec r) (dec s))))))))with|true=>(match decide (okR r.1∧okR s.2.1)with|true=>(match decide (okR r.2.1∧okR s.1)with|true=>(match decide (okR (hid (ai (ae r.1*ae s.2.1)))∧okR (hid (ai (ae r.2.1*ae s.1))))with|true=>(match decide (okR (hid (ai (ae (hid (ai (ae r.1*ae s.1)))+ae (hid (ai (ae (hid (ai (ae r.2.1*ae s.2.1)))*ae (hid (ai (gR (dec r) (dec s))))))))))∧okR (hid (ai (ae (hid (ai (ae r.1*ae s.2.1)))+ae (hid (ai (ae r.2.1*ae s.1))))))∧okR (hid (ai (gR (dec r) (dec s)))))with|true=>some [RV.d tO (hid (enc (ki (ae (hid (ai (ae (hid (ai (ae r.1*ae s.1)))+ae (hid (ai (ae (hid (ai (ae r.2.1*ae s.2.1)))*ae (hid (ai (gR (dec r) (dec s))))))))))) (ae (hid (ai (ae (hid (ai (ae r.1*ae s.2.1)))+ae (hid (ai (ae r.2.1*ae s.1))))))) (ae (hid (ai (gR (dec r) (dec s)))))))),RV.d ax8 0]|false=>none)|false=>none)|false=>none)|false=>none)|false=>none)|false=>none)|false=>none)|false=>none))|false=>none
theorem ai0(r s:BO3):RS aj6 209 [.d tO r,.d tO s] (S5 r s):=rsX
theorem Tm(r s:BO3)(h:ok Rt 50000 r∧ok Rt 50000 s∧mv (dec r) (dec s)=true):Con Tryz.prog 209 [.d tO r,.d tO s] [.d tO (enc (lg (dec r) (dec s))),.d ax8 0]:=by
 refine aR xD (ai0 _ _ ⟨0,?_⟩)
 obtain⟨hr,hs,htrue⟩:=h
 obtain⟨r,rfl,br⟩:=aU hr
 obtain⟨s,rfl,bs⟩:=aU hs
 have hm:=htrue
 rw[am,am]at hm
 unfold S5
 simp only[ak,am,aI,aJ,aG,az,okd,aX,au4,au6,mx,Nat.reduceAdd,Nat.reduceLeDiff,ave,cond_true,hm,Bool.not_true]
 rfl
def aiz:Ctx:=CX JW []
def P2(r s:BO3)(_k:KT):Option (List RV):=match decide (ok Rt 100000 r∧ok Rt 100000 s)with|true=>(match !(mv (dec r) (dec s))with|true=>some [RV.d tO (((false,[]),(false,[])),(((false,[]),(false,[])),((false,[]),(false,[])))),RV.d ax8 1]|false=>(match decide (okR r.1∧okR s.1)with|true=>(match decide (okR r.2.1∧okR s.2.1)with|true=>(match decide (okR (hid (ai (ae r.1+ae s.1)))∧okR (hid (ai (ae r.2.1+ae s.2.1)))∧okR (hid (ai (gR (dec r) (dec s)))))with|true=>some [RV.d tO (hid (enc (ki (ae (hid (ai (ae r.1+ae s.1)))) (ae (hid (ai (ae r.2.1+ae s.2.1)))) (ae (hid (ai (gR (dec r) (dec s)))))))),RV.d ax8 0]|false=>none)|false=>none)|false=>none))|false=>none
theorem ajP(r s:BO3):RS aiz 137 [.d tO r,.d tO s] (P2 r s):=rsX
theorem Yt(r s:BO3)(h:ok Rt 100000 r∧ok Rt 100000 s∧mv (dec r) (dec s)=true):Con Tryz.prog 137 [.d tO r,.d tO s] [.d tO (enc (yd (dec r) (dec s))),.d ax8 0]:=by
 refine aR xD (ajP _ _ ⟨0,?_⟩)
 obtain⟨hr,hs,htrue⟩:=h
 obtain⟨r,rfl,br⟩:=aU hr
 obtain⟨s,rfl,bs⟩:=aU hs
 have hm:=htrue
 rw[am,am]at hm
 unfold P2
 simp only[ak,am,aI,aJ,aG,az,okd,aX,au4,au6,mx,Nat.reduceAdd,Nat.reduceLeDiff,ave,cond_true,hm,Bool.not_true]
 rfl
def JE:aO:=spN false true [tO,tO] (fun x=>decide (ok Rt 50000 x.1∧ok Rt 50000 x.2.1∧mv (dec x.1) (dec x.2.1)=true)) (fun x=>[RV.d tO (hid (enc (lg (dec x.1) (dec x.2.1)))),RV.d ax8 0])
theorem NJ:SpK 209 JE:=spX fun x h=>by simp only[ak];exact Tm x.1 x.2.1 (au0 h)
def LX:aO:=spN false true [tO,tO] (fun x=>decide (ok Rt 100000 x.1∧ok Rt 100000 x.2.1∧mv (dec x.1) (dec x.2.1)=true)) (fun x=>[RV.d tO (hid (enc (yd (dec x.1) (dec x.2.1)))),RV.d ax8 0])
theorem Nc:SpK 137 LX:=spX fun x h=>by simp only[ak];exact Yt x.1 x.2.1 (au0 h)
def zX:Env:=(209,JE)::(137,LX)::JW
theorem mN:EnvAll Tryz.prog zX:=⟨NJ,Nc,xD⟩
def alE:Ctx:=CX zX []
def TC(r:BO3)(_k:KT):Option (List RV):=match decide (ok Rt 50000 r∧ok Rt 50000 r∧mv (dec r) (dec r)=true)with|true=>some [RV.d tO (hid (enc (lg (dec r) (dec r))))]|false=>none
theorem ai8(r:BO3):RS alE 120 [.d tO r] (TC r):=rsX
theorem Qr(r:BO3)(h:ok Rt 50000 r):Con Tryz.prog 120 [.d tO r] [.d tO (enc (lg (dec r) (dec r)))]:=by
 refine aR mN (ai8 _ ⟨0,?_⟩)
 have hr:=h
 obtain⟨r,rfl,br⟩:=aU hr
 unfold TC
 simp only[ak,am,okd,au4,au6,Nat.reduceLeDiff,ave,MT]
def ajC:Ctx:=CX zX []
def Rr(v:BV)(_k:KT):Option (List RV):=some [RV.d tP (v.1,(hid (ai 0),(v.2,(hid (ai 0),hid (ai 0)))))]
theorem ajW(v:BV):RS ajC 20 [.d tV v] (Rr v):=rsX
theorem Uh(v:BV)(h:ok (Rat×Rat) 100000 v):Con Tryz.prog 20 [.d tV v] [.d tP (enc (atP (dec v)))]:=by
 refine aR mN (ajW _ ⟨0,?_⟩)
 have hv:=h
 obtain⟨v,rfl,bv⟩:=aU hv
 unfold Rr
 simp only[ak,am,aI,aJ,aG]
 try rfl
def ak2:Ctx:=CX zX []
def Um(a b c d e:BR)(_k:KT):Option (List RV):=match decide (okR b)with|true=>(match(aV (ae b) 0)==0 with|true=>(match decide (okR d)with|true=>(match(aV (ae d) 0)==0 with|true=>some [RV.d tP (a,(b,(c,(d,hid (ai 0)))))]|false=>some [RV.d tP (a,(b,(c,(d,e))))])|false=>none)|false=>some [RV.d tP (a,(b,(c,(d,e))))])|false=>none
theorem akz(a b c d e:BR):RS ak2 194 [.d tR a,.d tR b,.d tR c,.d tR d,.d tR e] (Um a b c d e):=rsX
theorem Q6(a b c d e:BR)(h:okR a∧okR b∧okR c∧okR d∧okR e):Con Tryz.prog 194 [.d tR a,.d tR b,.d tR c,.d tR d,.d tR e] [.d tP (enc (rdP (ae a,ae b,ae c,ae d,ae e)))]:=by
 refine aR mN (akz _ _ _ _ _ ⟨0,?_⟩)
 obtain⟨ha,hb,hc,hd,he⟩:=h
 obtain⟨a,rfl,ba⟩:=eH ha
 obtain⟨b,rfl,bb⟩:=eH hb
 obtain⟨c,rfl,bc⟩:=eH hc
 obtain⟨d,rfl,bd⟩:=eH hd
 obtain⟨e,rfl,be⟩:=eH he
 unfold Um
 simp only[ak,az,aX,Nat.reduceLeDiff,aM]
 unfold rdP
 by_cases h1:b=0
 ·by_cases h2:d=0
  ·rw[au1 h1,au1 h2];rfl
  ·rw[au1 h1,au3 h2];rfl
 ·rw[au3 h1];rfl
def akk:Ctx:=CX zX []
def YH(a b c:BR)(_k:KT):Option (List RV):=match decide (okR b)with|true=>(match(aV (ae b) 0)==0 with|true=>(match decide (okR a)with|true=>some [RV.d tO (hid (enc ((ae a,0,0):Rt)))]|false=>none)|false=>some [RV.d tO (a,(b,c))])|false=>none
theorem ajK(a b c:BR):RS akk 216 [.d tR a,.d tR b,.d tR c] (YH a b c):=rsX
theorem RM(a b c:BR)(h:okR a∧okR b∧okR c):Con Tryz.prog 216 [.d tR a,.d tR b,.d tR c] [.d tO (enc (coR (ae a) (ae b) (ae c)))]:=by
 refine aR mN (ajK _ _ _ ⟨0,?_⟩)
 obtain⟨ha,hb,hc⟩:=h
 obtain⟨a,rfl,ba⟩:=eH ha
 obtain⟨b,rfl,bb⟩:=eH hb
 obtain⟨c,rfl,bc⟩:=eH hc
 unfold YH
 simp only[ak,aT,aG,az,aX,Nat.reduceLeDiff,aM]
 unfold coR
 by_cases e:b=0
 ·subst e;rw[au1 rfl];rfl
 ·rw[au3 e];rfl
def LJ:aO:=spN false true [tO] (fun x=>decide (ok Rt 50000 x.1)) (fun x=>[RV.d tO (hid (enc (lg (dec x.1) (dec x.1))))])
theorem Mk:SpK 120 LJ:=spX fun x h=>by simp only[ak];exact Qr x.1 (au0 h)
def lK:aO:=spN false true [tV] (fun x=>decide (ok (Rat×Rat) 100000 x.1)) (fun x=>[RV.d tP (hid (enc (atP (dec x.1))))])
theorem i7:SpK 20 lK:=spX fun x h=>by simp only[ak];exact Uh x.1 (au0 h)
def JX:aO:=spN false true [tR,tR,tR,tR,tR] (fun x=>decide (okR x.1∧okR x.2.1∧okR x.2.2.1∧okR x.2.2.2.1∧okR x.2.2.2.2.1)) (fun x=>[RV.d tP (hid (enc (rdP (ae x.1,ae x.2.1,ae x.2.2.1,ae x.2.2.2.1,ae x.2.2.2.2.1))))])
theorem NA:SpK 194 JX:=spX fun x h=>by simp only[ak];exact Q6 x.1 x.2.1 x.2.2.1 x.2.2.2.1 x.2.2.2.2.1 (au0 h)
def KF:aO:=spN false true [tR,tR,tR] (fun x=>decide (okR x.1∧okR x.2.1∧okR x.2.2.1)) (fun x=>[RV.d tO (hid (enc (coR (ae x.1) (ae x.2.1) (ae x.2.2.1))))])
theorem OH:SpK 216 KF:=spX fun x h=>by simp only[ak];exact RM x.1 x.2.1 x.2.2.1 (au0 h)
def DF:Env:=(120,LJ)::(20,lK)::(194,JX)::(216,KF)::zX
theorem rI:EnvAll Tryz.prog DF:=⟨Mk,i7,NA,OH,mN⟩
def aiw:Ctx:=CX DF []
def Qb(x y:BO3)(_k:KT):Option (List RV):=let y1:=aV (ae x.2.1) 0;let y2:Option (List RV):=match decide (okR x.2.1)with|true=>(match y1==0 with|true=>(match decide (okR x.1∧okR x.2.1∧okR y.1∧okR y.2.1∧okR y.2.2)with|true=>some [RV.d tP (hid (enc (rdP (ae x.1,ae x.2.1,ae y.1,ae y.2.1,ae y.2.2)))),RV.d ax8 0]|false=>none)|false=>(match decide (okR x.1∧okR x.2.1∧okR y.1∧okR y.2.1∧okR x.2.2)with|true=>some [RV.d tP (hid (enc (rdP (ae x.1,ae x.2.1,ae y.1,ae y.2.1,ae x.2.2)))),RV.d ax8 0]|false=>none))|false=>none;match decide (okR x.2.1)with|true=>(match y1 !=0 with|true=>(match decide (okR y.2.1)with|true=>(match(aV (ae y.2.1) 0) !=0 with|true=>(match decide (okR x.2.2∧okR y.2.2)with|true=>(match(aV (ae x.2.2) (ae y.2.2)) !=0 with|true=>some [RV.d tP (((false,[]),(false,[])),(((false,[]),(false,[])),(((false,[]),(false,[])),(((false,[]),(false,[])),((false,[]),(false,[])))))),RV.d ax8 1]|false=>y2)|false=>none)|false=>y2)|false=>none)|false=>y2)|false=>none
theorem amV(x y:BO3):RS aiw 109 [.d tO x,.d tO y] (Qb x y):=rsX
theorem YI(x y:BO3)(h:okT 15000 x∧okT 15000 y∧qm (dec x) (dec y)):Con Tryz.prog 109 [.d tO x,.d tO y] [.d tP (enc (mkP (dec x) (dec y))),.d ax8 0]:=by
 refine aR rI (amV _ _ ⟨0,?_⟩)
 obtain⟨hx,hy,hy_2⟩:=h
 obtain⟨x,rfl,bx,rx⟩:=fK hx
 obtain⟨y,rfl,b_y,ry⟩:=fK hy
 have hm:=hy_2
 rw[am,am]at hm
 unfold Qb
 simp only[ak,am,aI,aJ,aG,az,aX,au4,au6,Nat.reduceLeDiff,aM,cA]
 unfold mkP
 by_cases e1:x.2.1=0
 ·rw[au1 e1];rfl
 ·rw[au3 e1]
  by_cases e2:y.2.1=0
  ·rw[au1 e2];rfl
  ·rw[au3 e2,au1 ((hm.resolve_left e1).resolve_left e2)];rfl
def arQ:Ctx:=CX DF []
def ahw(p:BP)(_k:KT):Option (List RV):=match decide (okR p.1∧okR p.2.1∧okR p.2.2.2.2)with|true=>some [RV.d tO (hid (enc (coR (ae p.1) (ae p.2.1) (ae p.2.2.2.2))))]|false=>none
theorem ane(p:BP):RS arQ 138 [.d tP p] (ahw p):=rsX
theorem acL(p:BP)(h:okP 4000 p):Con Tryz.prog 138 [.d tP p] [.d tO (enc (xP (dec p)))]:=by
 refine aR rI (ane _ ⟨0,?_⟩)
 have hp:=h
 obtain⟨p,rfl,bp,rp⟩:=cO hp
 unfold ahw
 simp only[ak,am,aI,aJ,aG,az,aX,au4,au6,Nat.reduceLeDiff]
 try rfl
def apM:Ctx:=CX DF []
def aeY(p:BP)(_k:KT):Option (List RV):=match decide (okR p.2.2.1∧okR p.2.2.2.1∧okR p.2.2.2.2)with|true=>some [RV.d tO (hid (enc (coR (ae p.2.2.1) (ae p.2.2.2.1) (ae p.2.2.2.2))))]|false=>none
theorem ark(p:BP):RS apM 139 [.d tP p] (aeY p):=rsX
theorem adT(p:BP)(h:okP 4000 p):Con Tryz.prog 139 [.d tP p] [.d tO (enc (yP (dec p)))]:=by
 refine aR rI (ark _ ⟨0,?_⟩)
 have hp:=h
 obtain⟨p,rfl,bp,rp⟩:=cO hp
 unfold aeY
 simp only[ak,am,aI,aJ,aG,az,aX,au4,au6,Nat.reduceLeDiff]
 try rfl
def ID:aO:=spN false true [tP] (fun x=>decide (okP 4000 x.1)) (fun x=>[RV.d tO (hid (enc (xP (dec x.1))))])
theorem FQ:SpK 138 ID:=spX fun x h=>by simp only[ak];exact acL x.1 (au0 h)
def GO:aO:=spN false true [tP] (fun x=>decide (okP 4000 x.1)) (fun x=>[RV.d tO (hid (enc (yP (dec x.1))))])
theorem EH:SpK 139 GO:=spX fun x h=>by simp only[ak];exact adT x.1 (au0 h)
def Ws:Env:=(138,ID)::(139,GO)::DF
theorem FY:EnvAll Tryz.prog Ws:=⟨FQ,EH,rI⟩
def alm:Ctx:=CX Ws []
def XW(p q:BP)(_k:KT):Option (List RV):=match decide (okP 4000 p)with|true=>(match decide (okP 4000 q)with|true=>(match decide (okT 15000 (hid (enc (xP (dec p))))∧okT 15000 (hid (enc (xP (dec q)))))with|true=>(match(bI (dec (hid (enc (xP (dec p))))) (dec (hid (enc (xP (dec q)))))) !=0 with|true=>some [RV.d ax8 (bI (dec (hid (enc (xP (dec p))))) (dec (hid (enc (xP (dec q))))))]|false=>(match decide (okP 4000 p)with|true=>(match decide (okP 4000 q)with|true=>(match decide (okT 15000 (hid (enc (yP (dec p))))∧okT 15000 (hid (enc (yP (dec q)))))with|true=>some [RV.d ax8 (bI (dec (hid (enc (yP (dec p))))) (dec (hid (enc (yP (dec q))))))]|false=>none)|false=>none)|false=>none))|false=>none)|false=>none)|false=>none
theorem ajT(p q:BP):RS alm 96 [.d tP p,.d tP q] (XW p q):=rsX
theorem Ut(p q:BP)(h:okP 4000 p∧okP 4000 q):Con Tryz.prog 96 [.d tP p,.d tP q] [.d ax8 (b9 (dec p) (dec q))]:=by
 refine aR FY (ajT _ _ ⟨0,?_⟩)
 obtain⟨hp,hq⟩:=h
 obtain⟨p,rfl,bp,rp⟩:=cO hp
 obtain⟨q,rfl,bq,rq⟩:=cO hq
 unfold XW
 simp only[ak,am,au4,au6,mx,Nat.reduceLeDiff,ave,cond_true,bh,bH]
 unfold b9 bne
 cases bI (xP p) (xP q)==0<;>rfl
def AP:aO:=spN false true [tO,tO] (fun x=>decide (okT 15000 x.1∧okT 15000 x.2.1∧qm (dec x.1) (dec x.2.1))) (fun x=>[RV.d tP (hid (enc (mkP (dec x.1) (dec x.2.1)))),RV.d ax8 0])
theorem zL:SpK 109 AP:=spX fun x h=>by simp only[ak];exact YI x.1 x.2.1 (au0 h)
def oK:aO:=spN true true [tP,tP] (fun x=>decide (okP 4000 x.1∧okP 4000 x.2.1)) (fun x=>[RV.d ax8 (b9 (dec x.1) (dec x.2.1))])
theorem ld:SpK 96 oK:=spX fun x h=>Ut x.1 x.2.1 (au0 h)
def Vy:Env:=(109,AP)::(96,oK)::Ws
theorem DN:EnvAll Tryz.prog Vy:=⟨zL,ld,FY⟩
def aij:Ctx:=CX Vy []
def YW(p q:BP)(_k:KT):Option (List RV):=match decide (okP 4000 p∧okP 4000 q)with|true=>some [RV.d .bool ((b9 (dec p) (dec q))==0)]|false=>none
theorem al1(p q:BP):RS aij 122 [.d tP p,.d tP q] (YW p q):=rsX
theorem Zq(p q:BP)(h:okP 4000 p∧okP 4000 q):Con Tryz.prog 122 [.d tP p,.d tP q] [.d .bool (b9 (dec p) (dec q)==0)]:=by
 refine aR DN (al1 _ _ ⟨0,?_⟩)
 unfold YW
 rw[dT h]
def ait:Ctx:=CX Vy []
def Qt(p:BP)(v:BV)(_k:KT):Option (List RV):=let y1:=hid (enc (bkV (dec v)));let y2:=hid (enc (trP (dec p) (dec y1)));let y3:=hid (enc (xP (dec y2)));let y4:=hid (enc (yP (dec y2)));let y5:=hid (enc (lg (dec y3) (dec y3)));let y6:=hid (enc (lg (dec y4) (dec y4)));match decide (ok (Rat×Rat) 21000 v)with|true=>(match decide (ok Pt 21000 p∧ok (Rat×Rat) 1000 y1)with|true=>(match decide (okP 4000 y2)with|true=>(match decide (ok Rt 50000 y3)with|true=>(match decide (okP 4000 y2)with|true=>(match decide (ok Rt 50000 y4)with|true=>(match decide (ok Rt 100000 y5∧ok Rt 100000 y6∧mv (dec y5) (dec y6)=true)with|true=>some [RV.d tO (hid (enc (yd (dec y5) (dec y6))))]|false=>none)|false=>none)|false=>none)|false=>none)|false=>none)|false=>none)|false=>none
theorem aj1(p:BP)(v:BV):RS ait 54 [.d tP p,.d tV v] (Qt p v):=rsX
theorem UK(p:BP)(v:BV)(h:okP 3500 p∧ok (Rat×Rat) 300 v):Con Tryz.prog 54 [.d tP p,.d tV v] [.d tO (enc (sqP (dec p) (dec v)))]:=by
 refine aR DN (aj1 _ _ ⟨0,?_⟩)
 obtain⟨hp,hv⟩:=h
 obtain⟨p,rfl,bp,rp⟩:=cO hp
 obtain⟨v,rfl,bv⟩:=aU hv
 obtain⟨e1,e2⟩:=Ku (v:=v) rp
 unfold Qt
 simp only[ak,am,okd,au4,au6,mx,Nat.reduceAdd,Nat.reduceMul,Nat.reduceLeDiff,ave,ava,cond_true,cond_false,bH,e1]
 rw[e2]
def Cc:aO:=spN true true [tP,tP] (fun x=>decide (okP 4000 x.1∧okP 4000 x.2.1)) (fun x=>[RV.d .bool (b9 (dec x.1) (dec x.2.1)==0)])
theorem zj:SpK 122 Cc:=spX fun x h=>Zq x.1 x.2.1 (au0 h)
def A8:aO:=spN false true [tP,tV] (fun x=>decide (okP 3500 x.1∧ok (Rat×Rat) 300 x.2.1)) (fun x=>[RV.d tO (hid (enc (sqP (dec x.1) (dec x.2.1))))])
theorem Ak:SpK 54 A8:=spX fun x h=>by simp only[ak];exact UK x.1 x.2.1 (au0 h)
end Go.Proofs.YtlahabkjhgkkjaaGreat
end
