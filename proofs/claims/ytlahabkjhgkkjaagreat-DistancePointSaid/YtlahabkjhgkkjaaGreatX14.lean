/- Signs and comparisons: the program's contracts. -/
import Derived.Test.YtlahabkjhgkkjaaGreatX13
import Derived.Test.YtlahabkjhgkkjaaGreatX12
noncomputable section
namespace Go.Proofs.YtlahabkjhgkkjaaGreat
open Go.RowKit Go.IntKind
theorem aw0:type_of% @Rat.mul_eq_zero:=@Rat.mul_eq_zero
namespace RE
theorem same_rad(a b c d r:RE):a-c+(b-d)*r=a+b*r-(c+d*r):=by
 induction a using at5
 induction b using at5
 induction c using at5
 induction d using at5
 induction r using at5
 exact snd fun n=>by
  simp only[RL.add,RL.mul,RL.neg]
  grind
theorem akk(a b c:RE):a-b+c=a+c-b:=by
 induction a using at5
 induction b using at5
 induction c using at5
 exact snd fun n=>by
  simp only[RL.add,RL.neg]
  grind
theorem vR_rat(q:Rat):vR (q,0,0)=of q:=da q 0
theorem cmpTR_re{x:Rt}{q:Rat}(h:0≤x.2.2):eu x q=sg (vR x-of q):=by
 unfold eu vR
 rw[sgn2_re h]
 unfold v2
 rw[of_sub,akk]
end RE
theorem Rdd.rat{x:Rt}(h:Rdd x)(hb:x.2.1=0):x=(x.1,0,0):=by
 obtain⟨a,b,c⟩:=x
 rcases h.rd with h|h
 ·obtain⟨h1,h2⟩:=h
  simp only at h1 h2
  rw[h1,h2]
 ·exact absurd hb h.1
theorem O8{x:Rt}{q:Rat}(h:Rdd x):bG x (q,0,0)=eu x q:=by
 rw[RE.cmpT_re h.nn (by show(0:Rat)≤0;grind),RE.cmpTR_re h.nn,RE.vR_rat]
theorem acN{x y:Rt}(hx:Rdd x)(hy:Rdd y)(bx:x.2.1=0)(b_:y.2.1=0):bG x y=aU x.1 y.1:=by
 rw[hx.rat bx,hy.rat b_,RE.cmpT_re (by show(0:Rat)≤0;grind) (by show(0:Rat)≤0;grind),RE.vR_rat,RE.vR_rat,←RE.of_sub,RE.sg_of,pC]
theorem aat{x y:Rt}(hx:Rdd x)(hy:Rdd y)(h:(apF x y).2=true):(apF x y).1=bG x y:=by
 rw[RE.apF_ok h,RE.cmpT_re hx.nn hy.nn]
theorem yV{x y:Rt}(hx:Rdd x)(hy:Rdd y)(h:x.2.2=y.2.2):ff (x.1-y.1) (x.2.1-y.2.1) x.2.2=bG x y:=by
 rw[RE.cmpT_re hx.nn hy.nn,RE.sgn2_re hx.nn]
 unfold RE.vR RE.v2
 rw[RE.of_sub,RE.of_sub,RE.same_rad,h]
theorem akR{A B C D M N:Rat}(hM:0≤M)(hN:0≤N)(h:(quF (A,B,C,D,M,N)).2=true):(quF (A,B,C,D,M,N)).1=sgQ (A,B,C,D,M,N):=by
 rw[RE.quF_ok (q:=(A,B,C,D,M,N)) hM hN h]
 exact(RE.sgnQ_re hM hN).symm
def Id:Env:=[(149,jQ),(148,ip),(99,k9),(147,jq),(83,gr),(76,io),(71,pe),(219,rN),(220,AF),(259,vg)]
theorem vX:EnvAll Tryz.prog Id:=⟨fY,eW,ie,fC,eM,fc,kI,mO,wb,qb,trivial⟩
def aiD:Ctx:=CX Id []
def Ws(a b:BR)(_k:KT):Option (List RV):=match decide (okR a∧okR b)with|true=>some [RV.d tR (hid (ag (ae a+ae b)))]|false=>none
theorem aj3(a b:BR):RS aiD 253 [.d tR a,.d tR b] (Ws a b):=rsX
theorem S5(a b:BR)(h:okR a∧okR b):Con Tryz.prog 253 [.d tR a,.d tR b] [.d tR (ag (ae a+ae b))]:=by
 refine aP vX (aj3 _ _ ⟨0,?_⟩)
 unfold Ws
 rw[dT h,aj]
def amX:Ctx:=CX Id []
def af3(a b:BO3)(_k:KT):Option (List RV):=match decide (ok Rt 100000 a)with|true=>(match decide (ok Rt 100000 b)with|true=>(match !((bO (dec a)).2)with|true=>some [RV.d axf 0,RV.d .bool false]|false=>(match !((bO (dec b)).2)with|true=>some [RV.d axf 0,RV.d .bool false]|false=>(match decide (((hid ((bO (dec a)).1)).2)<((hid ((bO (dec b)).1)).1))with|true=>some [RV.d axf (-1),RV.d .bool true]|false=>(match decide (((hid ((bO (dec a)).1)).1)>((hid ((bO (dec b)).1)).2))with|true=>some [RV.d axf 1,RV.d .bool true]|false=>some [RV.d axf 0,RV.d .bool false]))))|false=>none)|false=>none
theorem aqB(a b:BO3):RS amX 218 [.d tO a,.d tO b] (af3 a b):=rsX
theorem abV(a b:BO3)(h:ok Rt 100000 a∧ok Rt 100000 b):Con Tryz.prog 218 [.d tO a,.d tO b] [.d axf ((apF (dec a) (dec b)).1),.d .bool ((apF (dec a) (dec b)).2)]:=by
 refine aP vX (aqB _ _ ⟨0,?_⟩)
 obtain⟨ha,hb⟩:=h
 obtain⟨a,rfl,ba⟩:=aS ha
 obtain⟨b,rfl,bb⟩:=aS hb
 unfold af3
 simp only[aj,am,okd,Nat.reduceLeDiff]
 unfold apF
 generalize bO a=A
 generalize bO b=B
 obtain⟨⟨a1,a2⟩,p⟩:=A
 obtain⟨⟨b1,b2⟩,q⟩:=B
 cases p<;>cases q<;>try rfl
 dsimp only
 cases decide (a2<b1)<;>try rfl
 cases decide (a1>b2)<;>rfl
def IA:aN:=spN false true [tR,tR] (fun x=>decide (okR x.1∧okR x.2.1)) (fun x=>[RV.d tR (hid (ag (ae x.1+ae x.2.1)))])
theorem KE:SpK 253 IA:=spX fun x h=>by simp only[aj];exact S5 x.1 x.2.1 (at6 h)
def Ft:aN:=spN true true [tO,tO] (fun x=>decide (ok Rt 100000 x.1∧ok Rt 100000 x.2.1)) (fun x=>[RV.d axf ((apF (dec x.1) (dec x.2.1)).1),RV.d .bool ((apF (dec x.1) (dec x.2.1)).2)])
theorem Eg:SpK 218 Ft:=spX fun x h=>abV x.1 x.2.1 (at6 h)
def PM:aN:=spN true true [tQ] (fun x=>decide (okQ x.1)) (fun x=>[RV.d axf ((quF (dec x.1)).1),RV.d .bool ((quF (dec x.1)).2)])
theorem P6:SpK 252 PM:=spX fun x h=>YT x.1 (at6 h)
def adX:Env:=(253,IA)::(218,Ft)::(252,PM)::Id
theorem QY:EnvAll Tryz.prog adX:=⟨KE,Eg,P6,vX⟩
def ano:Ctx:=CX adX []
def afK(q:BQ)(_k:KT):Option (List RV):=let y1:=ae q.2.2.2.2.1;let y2:=aU (ae q.2.2.2.2.2) 0;let y3:=i64.wrap ((ff (ae q.2.2.1) (ae q.2.2.2.1) y1)*y2);let y4:=ff (ae q.1) (ae q.2.1) y1;let y5:=hid (ag (ae q.2.1*ae q.2.1));let y6:=hid (ag (ae q.1*ae q.1));let y7:=hid (ag (ae q.2.2.2.2.1*ae y5));let y8:=hid (ag (ae q.2.2.2.1*ae q.2.2.2.1));let y9:=hid (ag (ae q.2.2.1*ae q.2.2.1));let y10:=hid (ag (ae q.2.2.2.2.1*ae y8));let y11:=hid (ag (ae y9+ae y10));let y12:=hid (ag (ae y6+ae y7));let y13:=hid (ag (ae q.2.2.2.2.2*ae y11));let y14:=hid (ag (ae q.2.2.1*ae q.2.2.2.1));let y15:=hid (ag (ae q.1*ae q.2.1));let y16:=hid (ag (ae q.2.2.2.2.2*ae y14));let y17:=hid (ag (ae y15-ae y16));let y18:=hid (ag (ae y12-ae y13));let y19:=hid (ag (ae y17+ae y17));let y20:Option (List RV):=match decide (okR y15∧okR y16)with|true=>(match decide (okR y17∧okR y17)with|true=>(match decide (ok Rat 240000 y18∧ok Rat 170000 y19∧ok Rat 30000 q.2.2.2.2.1)with|true=>some [RV.d axf (i64.wrap (y4*(ff (ae y18) (ae y19) y1)))]|false=>none)|false=>none)|false=>none;let y21:Option (List RV):=match decide (okR q.2.2.2.2.2∧okR y14)with|true=>y20|false=>none;let y22:Option (List RV):=match decide (okR q.2.2.1∧okR q.2.2.2.1)with|true=>y21|false=>none;let y23:Option (List RV):=match decide (okR y12∧okR y13)with|true=>cp (match decide (okR q.1∧okR q.2.1)with|true=>cp (match decide (okR q.2.2.1∧okR q.2.2.2.1)with|true=>cp (match decide (okR q.2.2.2.2.2∧okR y14)with|true=>dup (.b .l .l) y20|false=>none) y21|false=>none) y22|false=>none) (match decide (okR q.1∧okR q.2.1)with|true=>y22|false=>none)|false=>none;let y24:Option (List RV):=match decide (okR q.2.2.2.2.2∧okR y11)with|true=>y23|false=>none;let y25:Option (List RV):=match decide (okR y9∧okR y10)with|true=>y24|false=>none;let y26:Option (List RV):=match decide (okR q.2.2.2.2.1∧okR y8)with|true=>y25|false=>none;let y27:Option (List RV):=match decide (okR q.2.2.2.1∧okR q.2.2.2.1)with|true=>y26|false=>none;let y28:Option (List RV):=match decide (okR q.2.2.1∧okR q.2.2.1)with|true=>y27|false=>none;let y29:Option (List RV):=match decide (okR y6∧okR y7)with|true=>y28|false=>none;let y30:Option (List RV):=match decide (okR q.2.2.2.2.1∧okR y5)with|true=>y29|false=>none;let y31:Option (List RV):=match decide (okR q.2.1∧okR q.2.1)with|true=>y30|false=>none;match decide (okR q.2.2.2.2.1)with|true=>(match decide ((aU y1 0)<0)with|true=>some [RV.d axf 0]|false=>(match decide (okR q.2.2.2.2.2)with|true=>(match decide (y2<0)with|true=>some [RV.d axf 0]|false=>(match decide (okQ q)with|true=>(match(quF (dec q)).2 with|true=>some [RV.d axf ((quF (dec q)).1)]|false=>(match decide (ok Rat 240000 q.1∧ok Rat 170000 q.2.1∧ok Rat 30000 q.2.2.2.2.1)with|true=>(match decide (ok Rat 240000 q.2.2.1∧ok Rat 170000 q.2.2.2.1∧ok Rat 30000 q.2.2.2.2.1)with|true=>(match decide (okR q.2.2.2.2.2)with|true=>(match y3==0 with|true=>some [RV.d axf y4]|false=>(match y4==y3 with|true=>some [RV.d axf y4]|false=>(match y4==0 with|true=>some [RV.d axf y3]|false=>cp (match decide (okR q.1∧okR q.1)with|true=>cp (match decide (okR q.2.1∧okR q.2.1)with|true=>cp (match decide (okR q.2.2.2.2.1∧okR y5)with|true=>cp (match decide (okR y6∧okR y7)with|true=>cp (match decide (okR q.2.2.1∧okR q.2.2.1)with|true=>cp (match decide (okR q.2.2.2.1∧okR q.2.2.2.1)with|true=>cp (match decide (okR q.2.2.2.2.1∧okR y8)with|true=>cp (match decide (okR y9∧okR y10)with|true=>cp (match decide (okR q.2.2.2.2.2∧okR y11)with|true=>dup (.b .l .l) y23|false=>none) y24|false=>none) y25|false=>none) y26|false=>none) y27|false=>none) y28|false=>none) y29|false=>none) y30|false=>none) y31|false=>none) (match decide (okR q.1∧okR q.1)with|true=>y31|false=>none))))|false=>none)|false=>none)|false=>none))|false=>none))|false=>none))|false=>none
theorem aq1(q:BQ):RS ano 199 [.d tQ q] (afK q):=rsX
theorem XV(q:BQ)(h:okQ q):Con Tryz.prog 199 [.d tQ q] [.d axf (sgQ (dec q))]:=by
 refine aP QY (aq1 _ ⟨0,?_⟩)
 obtain⟨A,B,C,D,M,N,rfl,bA,bB,bC,bD,bM,bN,hM,hN⟩:=GG h
 have hh:decide (okQ (ag A,ag B,ag C,ag D,ag M,ag N))=true:=at7 h
 have hd:(dec ((ag A,ag B,ag C,ag D,ag M,ag N):BQ):Qd)=(A,B,C,D,M,N):=am ((A,B,C,D,M,N):Qd)
 rw[am]
 unfold afK
 simp only[ao,aK,aj,aT,aB,az,aC,aW,aua,aub,Nat.reduceAdd,Nat.reduceLeDiff,pS,qJ,aJ,hh,hd,at9 (show ¬M<0 by grind),at9 (show ¬N<0 by grind)]
 cases hq:(quF (A,B,C,D,M,N)).2
 ·try dsimp only
  refine(BM _ _ _).trans ?_
  unfold sgQ BA
  rw[at9 (show ¬M<0 by grind),at9 (show ¬N<0 by grind)]
  dsimp only[Bool.or_false,cond_false]
  rw[show A*B-N*(C*D)+(A*B-N*(C*D))=2*(A*B-N*(C*D)) by grind,show A*A+M*(B*B)-N*(C*C+M*(D*D))=A*A+B*B*M-N*(C*C+D*D*M) by grind]
  rfl
 ·try dsimp only
  rw[akR hM hN hq]
def Hh:aN:=spN true true [tQ] (fun x=>decide (okQ x.1)) (fun x=>[RV.d axf (sgQ (dec x.1))])
theorem EU:SpK 199 Hh:=spX fun x h=>XV x.1 (at6 h)
def S6:Env:=[(83,gr),(99,k9),(147,jq),(219,rN),(220,AF),(218,Ft),(199,Hh),(71,pe)]
theorem DD:EnvAll Tryz.prog S6:=⟨eM,ie,fC,mO,wb,Eg,EU,kI,trivial⟩
def ank:Ctx:=CX S6 []
def afl(a b:BO3)(_k:KT):Option (List RV):=let y1:=apF (dec a) (dec b);let y2:=hid (ag (ae a.1-ae b.1));let y3:=hid (ag (ae a.2.1-ae b.2.1));let y4:=hid (enc (suT (dec a) (dec b)));let y5:Option (List RV):=match decide (ok Rt 100000 a∧ok Rt 100000 b)with|true=>(match y1.2 with|true=>some [RV.d axf (y1.1)]|false=>(match decide (okR a.2.2∧okR b.2.2)with|true=>(match(aU (ae a.2.2) (ae b.2.2))==0 with|true=>(match decide (okR a.1∧okR b.1)with|true=>(match decide (okR a.2.1∧okR b.2.1)with|true=>(match decide (ok Rat 240000 y2∧ok Rat 170000 y3∧ok Rat 30000 a.2.2)with|true=>some [RV.d axf (ff (ae y2) (ae y3) (ae a.2.2))]|false=>none)|false=>none)|false=>none)|false=>(match decide (ok Rt 15000 a∧ok Rt 15000 b)with|true=>(match decide (okQ y4)with|true=>some [RV.d axf (sgQ (dec y4))]|false=>none)|false=>none))|false=>none))|false=>none;match decide (okR a.2.1)with|true=>(match(aU (ae a.2.1) 0)==0 with|true=>(match decide (okR b.2.1)with|true=>(match(aU (ae b.2.1) 0)==0 with|true=>(match decide (okR a.1∧okR b.1)with|true=>some [RV.d axf (aU (ae a.1) (ae b.1))]|false=>none)|false=>y5)|false=>none)|false=>y5)|false=>none
theorem am7(a b:BO3):RS ank 146 [.d tO a,.d tO b] (afl a b):=rsX
theorem aad(a b:BO3)(h:okT 15000 a∧okT 15000 b):Con Tryz.prog 146 [.d tO a,.d tO b] [.d axf (bG (dec a) (dec b))]:=by
 refine aP DD (am7 _ _ ⟨0,?_⟩)
 obtain⟨ha,hb⟩:=h
 obtain⟨a,rfl,ba,ra⟩:=fa ha
 obtain⟨b,rfl,bb,rb⟩:=fa hb
 have na:Nn a.2.2:=inferInstance
 have nb:Nn b.2.2:=inferInstance
 have e:decide (okQ (enc (suT a b)))=true:=EI (by decide) (by decide) (by decide) (by decide) (by decide) (by decide)
 have e1:=fun h1 h2=>acN ra rb h1 h2
 have e2:=fun h=>aat ra rb h
 have e3:=fun h=>yV ra rb h
 unfold afl
 simp only[aj,am,aE,aF,aB,az,okd,aC,aW,aua,aub,Nat.reduceAdd,Nat.reduceLeDiff,aI,e]
 by_cases ha:a.2.1=0
 ·by_cases hb:b.2.1=0
  ·rw[at7 ha,at7 hb,e1 ha hb]
  ·rw[at7 ha,at9 hb]
   dsimp only
   cases hq:(apF a b).2
   ·dsimp only
    by_cases hc:a.2.2=b.2.2
    ·rw[at7 hc,←e3 hc]
    ·rw[at9 hc];rfl
   ·dsimp only
    rw[e2 hq]
 ·rw[at9 ha]
  dsimp only
  cases hq:(apF a b).2
  ·dsimp only
   by_cases hc:a.2.2=b.2.2
   ·rw[at7 hc,←e3 hc]
   ·rw[at9 hc];rfl
  ·dsimp only
   rw[e2 hq]
def se:aN:=spN true true [tO,tO] (fun x=>decide (okT 15000 x.1∧okT 15000 x.2.1)) (fun x=>[RV.d axf (bG (dec x.1) (dec x.2.1))])
theorem mC:SpK 146 se:=spX fun x h=>aad x.1 x.2.1 (at6 h)
def ac2:Env:=(146,se)::S6
theorem Si:EnvAll Tryz.prog ac2:=⟨mC,DD⟩
def amm:Ctx:=CX ac2 []
def aeT(a:BO3)(b:BR)(_k:KT):Option (List RV):=match decide (okR b)with|true=>(match decide (okT 15000 a∧okT 15000 (hid (enc ((ae b,0,0):Rt))))with|true=>some [RV.d axf (bG (dec a) (dec (hid (enc ((ae b,0,0):Rt)))))]|false=>none)|false=>none
theorem amg(a:BO3)(b:BR):RS amm 84 [.d tO a,.d tR b] (aeT a b):=rsX
theorem YM(a:BO3)(b:BR)(h:okT 15000 a∧ok Rat 15000 b):Con Tryz.prog 84 [.d tO a,.d tR b] [.d axf (eu (dec a) (ae b))]:=by
 refine aP Si (amg _ _ ⟨0,?_⟩)
 obtain⟨ha,hb⟩:=h
 obtain⟨a,rfl,ba,ra⟩:=fa ha
 obtain⟨b,rfl,bb⟩:=aS hb
 unfold aeT
 simp only[aj,am,aB,az,aW,aua,aub,mx,Nat.reduceLeDiff,auf,aue,cond_true,cond_false,a9]
 rw[O8 ra]
section
section
variable {α:Type}
open Classical in
def rk(lt:α→α→Prop):List α→α→Nat
 |[],_=>0
 |e::r,x=>(if lt e x then 1 else 0)+rk lt r x
structure oK (lt:α→α→Prop):Prop where
 irr:∀x,¬lt x x
 tr:∀x y z,lt x y→lt y z→lt x z
 tri:∀x y,lt x y∨x=y∨lt y x
variable {lt:α→α→Prop}
theorem afd(h:oK lt){x y:α}(hxy:lt x y):∀L,rk lt L x≤rk lt L y
 |[]=>auj _
 |e::r=>by
  have:=afd h hxy r
  unfold rk
  by_cases h1:lt e x
  ·rw[auw h1,auw (h.tr _ _ _ h1 hxy)];omega
  ·rw[aus h1];omega
theorem Pu(h:oK lt){x y:α}(hxy:lt x y):∀{L},x∈L→rk lt L x<rk lt L y
 |e::r,hm=>by
  have h0:=afd h hxy r
  unfold rk
  rcases auK.1 hm with rfl|hm
  ·rw[aus (h.irr _),auw hxy];omega
  ·have:=Pu h hxy hm
   by_cases h1:lt e x
   ·rw[auw h1,auw (h.tr _ _ _ h1 hxy)];omega
   ·rw[aus h1];omega
theorem ajD(L:List α)(x:α):rk lt L x≤L.length:=by
 induction L with
 |nil=>exact auj _
 |cons e r ih=>
  unfold rk
  rw[auD]
  split<;>omega
theorem Ew(h:oK lt){x:α}:∀{L},x∈L→rk lt L x<L.length
 |e::r,hm=>by
  unfold rk
  rw[auD]
  rcases auK.1 hm with rfl|hm
  ·rw[aus (h.irr _)];have:=ajD (lt:=lt) r x;omega
  ·have:=Ew h hm
   split<;>omega
def xf(lt:α→α→Prop)(c:α→α→Int):Prop:=∀x y,(lt x y→c x y= -1)∧(x=y→c x y=0)∧(lt y x→c x y=1)
def cI(i j:Nat):Int:=if i<j then-1 else if i=j then 0 else 1
theorem UQ(h:oK lt){c:α→α→Int}(hc:xf lt c){L:List α}{x y:α}(hx:x∈L)(hy:y∈L):c x y=cI (rk lt L x) (rk lt L y):=by
 unfold cI
 rcases h.tri x y with e|e|e
 ·rw[(hc x y).1 e,auw (Pu h e hx)]
 ·subst e;rw[(hc x x).2.1 rfl,aus (Nat.lt_irrefl _),auw rfl]
 ·have:=Pu h e hy
  rw[(hc x y).2.2 e,aus (by omega),aus (by omega)]
end
section
variable {α:Type} (cmp:α→α→Int)
def n8(p q:Bool×α):Int:=bif p.1==q.1 then(bif p.1 then-cmp p.2 q.2 else cmp p.2 q.2)else(bif p.1 then-1 else 1)
def mS(f p:Bool×α):Int:=bif n8 cmp p f==0 then 0 else bif decide (n8 cmp p f>0)then 1 else 2
def ju(n:Int):Int:=if n<0 then-1 else if n=0 then 0 else 1
def wB(f p q:Bool×α):Int:=bif mS cmp f p==mS cmp f q then ju (n8 cmp p q)else ju (mS cmp f p-mS cmp f q)
def ii(p q:Bool×α):Int:=bif p.1==q.1 then(bif p.1 then-cmp p.2 q.2 else cmp p.2 q.2)else(bif q.1 then-1 else 1)
def sL(f p q:Bool×α):Int:=bif decide (ii cmp p f<0)==decide (ii cmp q f<0)then ii cmp p q else(bif decide (ii cmp q f<0)then-1 else 1)
variable {cmp} {β:Type} {cmq:β→β→Int}
theorem oN{u v:Bool}{a b:α}{c d:β}(h:cmp a b=cmq c d):n8 cmp (u,a) (v,b)=n8 cmq (u,c) (v,d):=by unfold n8;rw[h]
theorem oV{u v:Bool}{a b:α}{c d:β}(h:cmp a b=cmq c d):ii cmp (u,a) (v,b)=ii cmq (u,c) (v,d):=by unfold ii;rw[h]
theorem Fa{u v w:Bool}{f p q:α}{f' p' q':β}(h1:cmp p f=cmq p' f')(h2:cmp q f=cmq q' f')(h3:cmp p q=cmq p' q'):wB cmp (u,f) (v,p) (w,q)=wB cmq (u,f') (v,p') (w,q'):=by
 unfold wB mS
 rw[oN h1,oN h2,oN h3]
theorem wD{u v w:Bool}{f p q:α}{f' p' q':β}(h1:cmp p f=cmq p' f')(h2:cmp q f=cmq q' f')(h3:cmp p q=cmq p' q'):sL cmp (u,f) (v,p) (w,q)=sL cmq (u,f') (v,p') (w,q'):=by
 unfold sL
 rw[oV h1,oV h2,oV h3]
end
def upA(k:Nat):Bool:=k==0||k==1
def ufA(k:Nat):Bool:=k==1||k==2
def wy(a b:Int):Bool:=a==0||b==0||a==b
namespace RE
theorem mh:oK (fun x y:RE=>x<y):=⟨lt_irrefl,fun _ _ _=>dq,ou⟩
theorem KF(x y:RE):((y-(x)))+((x-y-(0)))=0:=by
 induction x using at5
 induction y using at5
 exact snd fun n=>by
  simp only[RL.add,RL.neg,RL.const]
  grind
theorem qN(x y:RE)(h1:x<y):x-y<0:=ec.1 fun hg=>far (aQ (aV h1) (aO hg)) (KF x y)
theorem Mu(x y:RE):((x-(y)))+((0-(x-y)))=0:=by
 induction x using at5
 induction y using at5
 exact snd fun n=>by
  simp only[RL.add,RL.neg,RL.const]
  grind
theorem BT(x y:RE)(h1:y<x):0<x-y:=ec.1 fun hg=>far (aQ (aV h1) (aO hg)) (Mu x y)
theorem zI:xf (fun x y:RE=>x<y) (fun x y=>sg (x-y)):=fun x y=>⟨fun h=>ij (qN _ _ h),fun h=>by subst h;show sg (x-x)=0;rw[sub_self,dG],fun h=>dJ (BT _ _ h)⟩
def ai2(p q:RE×RE):Prop:=p.1<q.1∨(p.1=q.1∧p.2<q.2)
theorem wW:oK ai2:=by
 refine⟨fun x h=>?_,fun x y z h1 h2=>?_,fun x y=>?_⟩
 ·rcases h with h|h
  ·exact lt_irrefl _ h
  ·exact lt_irrefl _ h.2
 ·rcases h1 with h1|⟨h1,h1'⟩
  ·rcases h2 with h2|⟨h2,h2'⟩
   ·exact .inl (dq h1 h2)
   ·exact .inl (h2▸h1)
  ·rcases h2 with h2|⟨h2,h2'⟩
   ·exact .inl (h1▸h2)
   ·exact .inr ⟨h1.trans h2,dq h1' h2'⟩
 ·rcases ou x.1 y.1 with h|h|h
  ·exact .inl (.inl h)
  ·rcases ou x.2 y.2 with h'|h'|h'
   ·exact .inl (.inr ⟨h,h'⟩)
   ·exact .inr (.inl (awt h h'))
   ·exact .inr (.inr (.inr ⟨h.symm,h'⟩))
  ·exact .inr (.inr (.inl h))
def lxc(p q:RE×RE):Int:=bif sg (p.1-q.1)==0 then sg (p.2-q.2)else sg (p.1-q.1)
theorem A5:xf ai2 lxc:=fun p q=>by
 unfold lxc
 refine⟨fun h=>?_,fun h=>?_,fun h=>?_⟩
 ·rcases h with h|⟨h,h'⟩
  ·rw[ij (qN _ _ h)];rfl
  ·rw[h,sub_self,dG,ij (qN _ _ h')];rfl
 ·subst h
  rw[sub_self,sub_self,dG];rfl
 ·rcases h with h|⟨h,h'⟩
  ·rw[dJ (BT _ _ h)];rfl
  ·rw[←h,sub_self,dG,dJ (BT _ _ h')];rfl
def cls(u v:RE):Nat:=bif sg v==1 then 1 else bif sg v== -1 then 3 else bif sg u==1 then 0 else 2
theorem uB(u v:RE):cls u v<4:=by
 unfold cls
 cases sg v==1<;>cases sg v== -1<;>cases sg u==1<;>simp
theorem ai3(u v:RE):(decide (sg v>0)||(sg v==0&&decide (sg u>0)))=upA (cls u v):=by
 unfold cls
 rcases bP v with⟨_,h⟩|⟨_,h⟩|⟨_,h⟩<;>rcases bP u with⟨_,h'⟩|⟨_,h'⟩|⟨_,h'⟩<;>rw[h,h']<;>rfl
theorem aiA{u v Q:RE}(hQ:0<Q)(h:u*u+v*v=Q):(decide (sg v>0)||(sg v==0&&decide (-sg u>0)))=ufA (cls u v):=by
 unfold cls
 rcases bP v with⟨_,h1⟩|⟨h0,h1⟩|⟨_,h1⟩<;>rcases bP u with⟨_,h'⟩|⟨h2,h'⟩|⟨_,h'⟩<;>rw[h1,h']<;>try rfl
 rw[h0,h2,mul_zero,add_zero]at h
 rw[←h]at hQ
 exact absurd hQ (lt_irrefl _)
theorem JA{z:RE}(h:z*z≤0):z=0:=by
 rcases ou z 0 with e|e|e
 ·have:=mul_pos (lF e) (lF e)
  rw[neg_mul,mul_neg,neg_neg]at this
  exact absurd this (fun h'=>lt_irrefl _ (dq h' (by
   rcases ku (pn z)with h2|h2
   ·exact absurd h2 ((Od _ _).1 h)
   ·rw[h2]at h';exact absurd h' (lt_irrefl _))))
 ·exact e
 ·exact absurd (mul_pos e e) ((Od _ _).1 h)
theorem ara{u v:RE}:cls u v=0↔v=0∧0<u:=by
 unfold cls
 rcases bP v with⟨a,h1⟩|⟨a,h1⟩|⟨a,h1⟩<;>rcases bP u with⟨b,h'⟩|⟨b,h'⟩|⟨b,h'⟩<;>rw[h1,h']<;>simp[a,b]<;>first|exact lt_irrefl _|exact fun h=>absurd (dq h b) (lt_irrefl _)|(intro h;rw[h]at a;exact absurd a (lt_irrefl _))|skip
end RE
end
section
def xP(p:Pt):Rt:=coR p.1 p.2.1 p.2.2.2.2
def yP(p:Pt):Rt:=coR p.2.2.1 p.2.2.2.1 p.2.2.2.2
def atP(v:Rat×Rat):Pt:=(v.1,0,v.2,0,0)
def rdP(p:Pt):Pt:=(p.1,p.2.1,p.2.2.1,p.2.2.2.1,bif decide (p.2.1=0)&&decide (p.2.2.2.1=0)then 0 else p.2.2.2.2)
def mkP(x y:Rt):Pt:=rdP (x.1,x.2.1,y.1,y.2.1,bif decide (x.2.1=0)then y.2.2 else x.2.2)
def ri(x y:Rt):Prop:=x.2.1=0∨y.2.1=0∨x.2.2=y.2.2
instance (x y:Rt):Decidable (ri x y):=by unfold ri;infer_instance
def cj(p q:Pt):Int:=bif bG (xP p) (xP q)==0 then bG (yP p) (yP q)else bG (xP p) (xP q)
def trP(p:Pt)(v:Rat×Rat):Pt:=(p.1+v.1,p.2.1,p.2.2.1+v.2,p.2.2.2.1,p.2.2.2.2)
def bkV(v:Rat×Rat):Rat×Rat:=(-v.1,-v.2)
def sqA(p:Pt)(v:Rat×Rat):Rat:=(p.1-v.1)*(p.1-v.1)+(p.2.2.1-v.2)*(p.2.2.1-v.2)+(p.2.1*p.2.1+p.2.2.2.1*p.2.2.2.1)*p.2.2.2.2
def sqB(p:Pt)(v:Rat×Rat):Rat:=(p.1-v.1)*p.2.1+(p.2.2.1-v.2)*p.2.2.2.1+((p.1-v.1)*p.2.1+(p.2.2.1-v.2)*p.2.2.2.1)
def sqP(p:Pt)(v:Rat×Rat):Rt:=coR (sqA p v) (sqB p v) p.2.2.2.2
def Hr(p:Pt):Prop:=(p.2.1=0∧p.2.2.2.1=0∧p.2.2.2.2=0)∨(¬(p.2.1=0∧p.2.2.2.1=0)∧0<p.2.2.2.2∧eK p.2.2.2.2=false)
instance (p:Pt):Decidable (Hr p):=by unfold Hr;infer_instance
class Rpd (p:Pt):Prop where
 rd:Hr p
def okP(k:Nat)(x:BP):Prop:=ok Pt k x∧Hr (dec x)
instance (k:Nat) (x:BP):Decidable (okP k x):=by unfold okP;infer_instance
theorem bz{k:Nat}{x:BP}(h:okP k x):∃v:Pt,x=enc v∧Bd v k∧Rpd v:=by
 obtain⟨h1,h2⟩:=h
 obtain⟨v,rfl,bv⟩:=aS h1
 rw[am]at h2
 exact⟨v,rfl,bv,⟨h2⟩⟩
theorem aZ{x:Pt}{j k:Nat}[h:Bd x j][r:Rpd x](hj:j≤k)(hk:k≤480000):decide (okP k (enc x))=true:=at7 ⟨at6 (okd hj hk),by rw[am];exact r.rd⟩
theorem Rpd.ns{p:Pt}(h:Rpd p):Ns p.2.2.2.2:=⟨by rcases h.rd with h|h;exact .inl h.2.2;exact .inr h.2⟩
instance atR {p:Pt} [h:Rpd p]:Ns p.2.2.2.2:=h.ns
theorem Rpd.nn{p:Pt}(h:Rpd p):0≤p.2.2.2.2:=h.ns.nn
theorem Vc{a b c:Rat}(h:Ns c)(hb:b=0∨c≠0):Rdd (coR a b c):=by
 refine⟨?_⟩
 unfold coR
 by_cases e:b=0
 ·rw[at7 e];exact .inl ⟨rfl,rfl⟩
 ·rw[at9 e]
  rcases h.ns with h|h
  ·rcases hb with hb|hb
   ·exact absurd hb e
   ·exact absurd h hb
  ·exact .inr ⟨e,h⟩
theorem Rpd.b0{p:Pt}(h:Rpd p):(p.2.1=0∧p.2.2.2.1=0)∨p.2.2.2.2≠0:=by
 rcases h.rd with h|h
 ·exact .inl ⟨h.1,h.2.1⟩
 ·exact .inr (by have:=h.2.1;grind)
instance asF {p:Pt} [h:Rpd p]:Rdd (xP p):=Vc h.ns (by rcases h.b0 with h|h;exact .inl h.1;exact .inr h)
instance asJ {p:Pt} [h:Rpd p]:Rdd (yP p):=Vc h.ns (by rcases h.b0 with h|h;exact .inl h.2;exact .inr h)
instance atB {p:Pt} {v:Rat×Rat} [h:Rpd p]:Rdd (sqP p v):=Vc h.ns (by
 rcases h.b0 with h|h
 ·refine .inl ?_
  unfold sqB
  rw[h.1,h.2]
  grind
 ·exact .inr h)
instance atF {v:Rat×Rat}:Rpd (atP v):=⟨.inl ⟨rfl,rfl,rfl⟩⟩
instance atV {p:Pt} {v:Rat×Rat} [h:Rpd p]:Rpd (trP p v):=⟨h.rd⟩
theorem aem{x y:Rt}(hx:Rdd x)(hy:Rdd y)(_h:ri x y):Rpd (mkP x y):=by
 refine⟨?_⟩
 unfold mkP rdP Hr
 dsimp only
 rcases hx.rd with⟨a1,a2⟩|⟨a1,a2,a3⟩<;>rcases hy.rd with⟨b1,b2⟩|⟨b1,b2,b3⟩
 ·simp[a1,b1]
 ·simp[a1,b1,b2,b3]
 ·simp[a1,b1,a2,a3]
 ·simp[a1,b1,a2,a3]
section
variable {p:Pt} {j:Nat}
instance atE [h:Bd p j]:Bd (xP p) (mx j (mx j j)):=inferInstanceAs (Bd (coR p.1 p.2.1 p.2.2.2.2) _)
instance atC [h:Bd p j]:Bd (yP p) (mx j (mx j j)):=inferInstanceAs (Bd (coR p.2.2.1 p.2.2.2.1 p.2.2.2.2) _)
instance aty {v:Rat×Rat} [h:Bd v j]:Bd (atP v) (mx j (mx 1 (mx j (mx 1 1)))):=inferInstanceAs (Bd ((v.1,0,v.2,0,0):Pt) _)
instance atf {v:Rat×Rat} {k:Nat} [h:Bd p j] [h':Bd v k]:Bd (trP p v) (mx (j+k+1) (mx j (mx (j+k+1) (mx j j)))):=inferInstanceAs (Bd ((p.1+v.1,p.2.1,p.2.2.1+v.2,p.2.2.2.1,p.2.2.2.2):Pt) _)
instance atI {v:Rat×Rat} [h:Bd v j]:Bd (bkV v) (mx j j):=inferInstanceAs (Bd ((-v.1,-v.2):Rat×Rat) _)
end
instance asR {p:Pt} {j:Nat} [h:Bd p j]:Bd (rdP p) (mx j (mx j (mx j (mx j (mx 1 j))))):=inferInstanceAs (Bd ((p.1,p.2.1,p.2.2.1,p.2.2.2.1,bif decide (p.2.1=0)&&decide (p.2.2.2.1=0)then 0 else p.2.2.2.2):Pt) _)
instance Nq {x y:Rt} {j k:Nat} [h:Bd x j] [h':Bd y k]:Bd (mkP x y) (mx (mx j (mx j (mx k (mx k (mx k j))))) (mx (mx j (mx j (mx k (mx k (mx k j))))) (mx (mx j (mx j (mx k (mx k (mx k j))))) (mx (mx j (mx j (mx k (mx k (mx k j))))) (mx 1 (mx j (mx j (mx k (mx k (mx k j)))))))))):=inferInstanceAs (Bd (rdP (x.1,x.2.1,y.1,y.2.1,bif decide (x.2.1=0)then y.2.2 else x.2.2)) _)
theorem cM{j k n:Nat}(h1:j≤n)(h2:k≤n):mx j k≤n:=by
 unfold mx
 cases decide (j≤k)
 ·exact h1
 ·exact h2
section
variable {p:Pt} {v:Rat×Rat} {j k:Nat}
instance ato [h:Bd p j] [h':Bd v k]:Bd (sqA p v) (20*(j+k+1)):=by
 have a1:Bd (p.1-v.1) _:=inferInstance
 have a2:Bd (p.2.2.1-v.2) _:=inferInstance
 have a3:Bd (p.2.1*p.2.1+p.2.2.2.1*p.2.2.2.1) _:=inferInstance
 have i:Bd ((p.1-v.1)*(p.1-v.1)+(p.2.2.1-v.2)*(p.2.2.1-v.2)+(p.2.1*p.2.1+p.2.2.2.1*p.2.2.2.1)*p.2.2.2.2) _:=inferInstance
 exact i.mono (by omega)
instance as9 [h:Bd p j] [h':Bd v k]:Bd (sqB p v) (20*(j+k+1)):=by
 have a1:Bd (p.1-v.1) _:=inferInstance
 have a2:Bd (p.2.2.1-v.2) _:=inferInstance
 have i:Bd ((p.1-v.1)*p.2.1+(p.2.2.1-v.2)*p.2.2.2.1+((p.1-v.1)*p.2.1+(p.2.2.1-v.2)*p.2.2.2.1)) _:=inferInstance
 exact i.mono (by omega)
instance atj [h:Bd p j] [h':Bd v k]:Bd (sqP p v) (20*(j+k+1)):=by
 have i:Bd (coR (sqA p v) (sqB p v) p.2.2.2.2) _:=inferInstance
 exact i.mono (cM (by omega) (cM (by omega) (by omega)))
end
namespace RE
def pX(p:Pt):RE:=v2 p.1 p.2.1 p.2.2.2.2
def pY(p:Pt):RE:=v2 p.2.2.1 p.2.2.2.1 p.2.2.2.2
def pR(p:Pt):RE×RE:=(pX p,pY p)
theorem xA(p:Pt):vR (xP p)=pX p:=vR_co _ _ _
theorem Y1(p:Pt):vR (yP p)=pY p:=vR_co _ _ _
theorem oz{p:Pt}[h:Rpd p]:0≤(xP p).2.2:=(asF (p:=p)).nn
theorem Ke{p:Pt}[h:Rpd p]:0≤(yP p).2.2:=(asJ (p:=p)).nn
theorem qr{p q:Pt}[Rpd p][Rpd q]:cj p q=lxc (pR p) (pR q):=by
 unfold cj lxc
 rw[cmpT_re oz oz,cmpT_re Ke Ke,xA,xA,Y1,Y1]
 rfl
theorem ah6(x y s t c u w:RE):(x+s*c-u)*(x+s*c-u)+(y+t*c-w)*(y+t*c-w)=(x-u)*(x-u)+(y-w)*(y-w)+(s*s+t*t)*(c*c)+((x-u)*s+(y-w)*t+((x-u)*s+(y-w)*t))*c:=by
 induction x using at5
 induction y using at5
 induction s using at5
 induction t using at5
 induction c using at5
 induction u using at5
 induction w using at5
 exact snd fun n=>by
  simp only[RL.add,RL.mul,RL.neg]
  grind
theorem B5{p:Pt}{v:Rat×Rat}[h:Rpd p]:vR (sqP p v)=(pX p-of v.1)*(pX p-of v.1)+(pY p-of v.2)*(pY p-of v.2):=by
 unfold sqP pX pY
 rw[vR_co]
 unfold v2
 rw[ah6,ia h.nn]
 unfold sqA sqB
 simp only[of_add,of_sub,bJ]
theorem apO(v:Rat×Rat):pX (atP v)=of v.1:=da _ _
theorem aqP(v:Rat×Rat):pY (atP v)=of v.2:=da _ _
end RE
end
theorem jn(a b:Rat):(aU a b !=0)=!decide (a=b):=by
 unfold bne
 rw[aI]
def QQ:Env:=[(76,io),(148,ip),(149,jQ),(147,jq),(83,gr),(99,k9),(146,se)]
theorem Ck:EnvAll Tryz.prog QQ:=⟨fc,eW,fY,fC,eM,ie,mC,trivial⟩
def ar6:Ctx:=CX QQ []
def agz(_k:KT):Option (List RV):=match decide (aY (0:Int))with|true=>some [RV.d tR (hid (ag ((0:Int):Rat)))]|false=>none
theorem arG:RS ar6 152 [] (agz):=rsX
theorem Yq:Con Tryz.prog 152 [] [.d tR (ag 0)]:=by
 refine aP Ck (arG ⟨0,?_⟩)
 unfold agz
 rw[dT (show aY 0 by decide)]
 simp only[aj]
 rfl
def XH:aN:=spN false true [] (fun _=>true) (fun _=>[RV.d tR (hid (ag 0))])
theorem Rk:SpK 152 XH:=spX fun _ _=>by simp only[aj];exact Yq
def DZ:Env:=(152,XH)::QQ
theorem qA:EnvAll Tryz.prog DZ:=⟨Rk,Ck⟩
def alv:Ctx:=CX DZ []
def adk(v:BV)(_k:KT):Option (List RV):=some [RV.d tP (v.1,(hid (ag 0),(v.2,(hid (ag 0),hid (ag 0)))))]
theorem apD(v:BV):RS alv 68 [.d tV v] (adk v):=rsX
theorem ZF(v:BV)(h:ok (Rat×Rat) 100000 v):Con Tryz.prog 68 [.d tV v] [.d tP (enc (atP (dec v)))]:=by
 refine aP qA (apD _ ⟨0,?_⟩)
 have hv:=h
 obtain⟨v,rfl,bv⟩:=aS hv
 unfold adk
 simp only[aj,am,aE,aF,aB]
 try rfl
def am2:Ctx:=CX DZ []
def afi(p:BP)(_k:KT):Option (List RV):=match decide (okR p.2.1)with|true=>(match(aU (ae p.2.1) 0)==0 with|true=>(match decide (okR p.2.2.2.1)with|true=>(match(aU (ae p.2.2.2.1) 0)==0 with|true=>some [RV.d tP (p.1,(p.2.1,(p.2.2.1,(p.2.2.2.1,hid (ag 0)))))]|false=>some [RV.d tP p])|false=>none)|false=>some [RV.d tP p])|false=>none
theorem aoQ(p:BP):RS am2 171 [.d tP p] (afi p):=rsX
theorem aaM(p:BP)(h:ok Pt 21000 p):Con Tryz.prog 171 [.d tP p] [.d tP (enc (rdP (dec p)))]:=by
 refine aP qA (aoQ _ ⟨0,?_⟩)
 have hp:=h
 obtain⟨p,rfl,bp⟩:=aS hp
 unfold afi
 simp only[aj,am,aE,aF,aB,az,aW,Nat.reduceLeDiff,aI]
 unfold rdP
 by_cases h1:p.2.1=0
 ·by_cases h2:p.2.2.2.1=0
  ·rw[at7 h1,at7 h2];rfl
  ·rw[at7 h1,at9 h2];rfl
 ·rw[at9 h1];rfl
def aod:Ctx:=CX DZ []
def ago(a b c:BR)(_k:KT):Option (List RV):=match decide (okR b)with|true=>(match(aU (ae b) 0)==0 with|true=>some [RV.d tO (a,(b,hid (ag 0)))]|false=>some [RV.d tO (a,(b,c))])|false=>none
theorem apL(a b c:BR):RS aod 150 [.d tR a,.d tR b,.d tR c] (ago a b c):=rsX
theorem aa2(a b c:BR)(h:okR a∧okR b∧okR c):Con Tryz.prog 150 [.d tR a,.d tR b,.d tR c] [.d tO (enc (coR (ae a) (ae b) (ae c)))]:=by
 refine aP qA (apL _ _ _ ⟨0,?_⟩)
 obtain⟨ha,hb,hc⟩:=h
 obtain⟨a,rfl,ba⟩:=eo ha
 obtain⟨b,rfl,bb⟩:=eo hb
 obtain⟨c,rfl,bc⟩:=eo hc
 unfold ago
 simp only[aj,az,aW,Nat.reduceLeDiff,aI]
 unfold coR
 by_cases e:b=0
 ·subst e;rw[at7 rfl];rfl
 ·rw[at9 e];rfl
def Gc:aN:=spN false true [tV] (fun x=>decide (ok (Rat×Rat) 100000 x.1)) (fun x=>[RV.d tP (hid (enc (atP (dec x.1))))])
theorem E2:SpK 68 Gc:=spX fun x h=>by simp only[aj];exact ZF x.1 (at6 h)
def Uz:aN:=spN false true [tP] (fun x=>decide (ok Pt 21000 x.1)) (fun x=>[RV.d tP (hid (enc (rdP (dec x.1))))])
theorem TS:SpK 171 Uz:=spX fun x h=>by simp only[aj];exact aaM x.1 (at6 h)
def Wv:aN:=spN false true [tR,tR,tR] (fun x=>decide (okR x.1∧okR x.2.1∧okR x.2.2.1)) (fun x=>[RV.d tO (hid (enc (coR (ae x.1) (ae x.2.1) (ae x.2.2.1))))])
theorem XL:SpK 150 Wv:=spX fun x h=>by simp only[aj];exact aa2 x.1 x.2.1 x.2.2.1 (at6 h)
def yy:Env:=(68,Gc)::(171,Uz)::(150,Wv)::DZ
theorem mK:EnvAll Tryz.prog yy:=⟨E2,TS,XL,qA⟩
def ao8:Ctx:=CX yy []
def afR(x y:BO3)(_k:KT):Option (List RV):=match decide (okR x.2.1)with|true=>(match(aU (ae x.2.1) 0)==0 with|true=>(match decide (ok Pt 21000 (x.1,(x.2.1,y)))with|true=>some [RV.d tP (hid (enc (rdP (dec (x.1,(x.2.1,y)))))),RV.d axf 0]|false=>none)|false=>(match decide (okR y.2.1)with|true=>(match(aU (ae y.2.1) 0) !=0 with|true=>(match decide (okR x.2.2∧okR y.2.2)with|true=>(match(aU (ae x.2.2) (ae y.2.2)) !=0 with|true=>some [RV.d tP (((false,[]),(false,[])),(((false,[]),(false,[])),(((false,[]),(false,[])),(((false,[]),(false,[])),((false,[]),(false,[])))))),RV.d axf 1]|false=>(match decide (ok Pt 21000 (x.1,(x.2.1,(y.1,(y.2.1,x.2.2)))))with|true=>some [RV.d tP (hid (enc (rdP (dec (x.1,(x.2.1,(y.1,(y.2.1,x.2.2)))))))),RV.d axf 0]|false=>none))|false=>none)|false=>(match decide (ok Pt 21000 (x.1,(x.2.1,(y.1,(y.2.1,x.2.2)))))with|true=>some [RV.d tP (hid (enc (rdP (dec (x.1,(x.2.1,(y.1,(y.2.1,x.2.2)))))))),RV.d axf 0]|false=>none))|false=>none))|false=>none
theorem apl(x y:BO3):RS ao8 88 [.d tO x,.d tO y] (afR x y):=rsX
theorem aaK(x y:BO3)(h:okT 15000 x∧okT 15000 y∧ri (dec x) (dec y)):Con Tryz.prog 88 [.d tO x,.d tO y] [.d tP (enc (mkP (dec x) (dec y))),.d axf 0]:=by
 refine aP mK (apl _ _ ⟨0,?_⟩)
 obtain⟨hx,hy,hy_2⟩:=h
 obtain⟨x,rfl,bx,rx⟩:=fa hx
 obtain⟨y,rfl,b_y,ry⟩:=fa hy
 have i1:decide (ok Pt 21000 (enc ((x.1,x.2.1,y):Pt)))=true:=okd (by decide) (by decide)
 have i2:decide (ok Pt 21000 (enc ((x.1,x.2.1,y.1,y.2.1,x.2.2):Pt)))=true:=okd (by decide) (by decide)
 have j1:(dec ((ag x.1,ag x.2.1,enc y):BP):Pt)=(x.1,x.2.1,y):=am ((x.1,x.2.1,y):Pt)
 have j2:(dec ((ag x.1,ag x.2.1,ag y.1,ag y.2.1,ag x.2.2):BP):Pt)=(x.1,x.2.1,y.1,y.2.1,x.2.2):=am ((x.1,x.2.1,y.1,y.2.1,x.2.2):Pt)
 have i1:decide (ok Pt 21000 ((ag x.1,ag x.2.1,enc y):BP))=true:=i1
 have i2:decide (ok Pt 21000 ((ag x.1,ag x.2.1,ag y.1,ag y.2.1,ag x.2.2):BP))=true:=i2
 have hm:=hy_2
 rw[am,am]at hm
 unfold afR
 simp only[aj,am,aE,aF,aB,az,aW,aua,aub,Nat.reduceLeDiff,aI,jn,i1,i2,j1,j2]
 unfold mkP
 by_cases e1:x.2.1=0
 ·rw[at7 e1];rfl
 ·rw[at9 e1]
  by_cases e2:y.2.1=0
  ·rw[at7 e2];rfl
  ·rw[at9 e2,at7 ((hm.resolve_left e1).resolve_left e2)];rfl
def asD:Ctx:=CX yy []
def alw(p:BP)(_k:KT):Option (List RV):=match decide (okR p.1∧okR p.2.1∧okR p.2.2.2.2)with|true=>some [RV.d tO (hid (enc (coR (ae p.1) (ae p.2.1) (ae p.2.2.2.2))))]|false=>none
theorem as4(p:BP):RS asD 271 [.d tP p] (alw p):=rsX
theorem akP(p:BP)(h:okP 4000 p):Con Tryz.prog 271 [.d tP p] [.d tO (enc (xP (dec p)))]:=by
 refine aP mK (as4 _ ⟨0,?_⟩)
 have hp:=h
 obtain⟨p,rfl,bp,rp⟩:=bz hp
 unfold alw
 simp only[aj,am,aE,aF,aB,az,aW,aua,aub,Nat.reduceLeDiff]
 try rfl
def atm:Ctx:=CX yy []
def aqt(p:BP)(_k:KT):Option (List RV):=match decide (okR p.2.2.1∧okR p.2.2.2.1∧okR p.2.2.2.2)with|true=>some [RV.d tO (hid (enc (coR (ae p.2.2.1) (ae p.2.2.2.1) (ae p.2.2.2.2))))]|false=>none
theorem ate(p:BP):RS atm 272 [.d tP p] (aqt p):=rsX
theorem ahd(p:BP)(h:okP 4000 p):Con Tryz.prog 272 [.d tP p] [.d tO (enc (yP (dec p)))]:=by
 refine aP mK (ate _ ⟨0,?_⟩)
 have hp:=h
 obtain⟨p,rfl,bp,rp⟩:=bz hp
 unfold aqt
 simp only[aj,am,aE,aF,aB,az,aW,aua,aub,Nat.reduceLeDiff]
 try rfl
def alW:Ctx:=CX yy []
def afz(p:BP)(v:BV)(_k:KT):Option (List RV):=let y1:=hid (ag (ae p.1-ae v.1));let y2:=hid (ag (ae p.2.2.1-ae v.2));let y3:=hid (ag (ae y1*ae y1));let y4:=hid (ag (ae y2*ae y2));let y5:=hid (ag (ae p.2.1*ae p.2.1));let y6:=hid (ag (ae p.2.2.2.1*ae p.2.2.2.1));let y7:=hid (ag (ae y5+ae y6));let y8:=hid (ag (ae y3+ae y4));let y9:=hid (ag (ae y7*ae p.2.2.2.2));let y10:=hid (ag (ae y1*ae p.2.1));let y11:=hid (ag (ae y2*ae p.2.2.2.1));let y12:=hid (ag (ae y10+ae y11));let y13:=hid (ag (ae y8+ae y9));let y14:=hid (ag (ae y12+ae y12));let y15:Option (List RV):=match decide (okR y10∧okR y11)with|true=>(match decide (okR y12∧okR y12)with|true=>(match decide (okR y13∧okR y14∧okR p.2.2.2.2)with|true=>some [RV.d tO (hid (enc (coR (ae y13) (ae y14) (ae p.2.2.2.2))))]|false=>none)|false=>none)|false=>none;let y16:Option (List RV):=match decide (okR y2∧okR p.2.2.2.1)with|true=>y15|false=>none;let y17:Option (List RV):=match decide (okR y8∧okR y9)with|true=>cp (match decide (okR y1∧okR p.2.1)with|true=>cp (match decide (okR y2∧okR p.2.2.2.1)with|true=>dup (.b .l .l) y15|false=>none) y16|false=>none) (match decide (okR y1∧okR p.2.1)with|true=>y16|false=>none)|false=>none;let y18:Option (List RV):=match decide (okR y7∧okR p.2.2.2.2)with|true=>y17|false=>none;let y19:Option (List RV):=match decide (okR y5∧okR y6)with|true=>y18|false=>none;let y20:Option (List RV):=match decide (okR p.2.2.2.1∧okR p.2.2.2.1)with|true=>y19|false=>none;let y21:Option (List RV):=match decide (okR p.2.1∧okR p.2.1)with|true=>y20|false=>none;let y22:Option (List RV):=match decide (okR y3∧okR y4)with|true=>y21|false=>none;let y23:Option (List RV):=match decide (okR y2∧okR y2)with|true=>y22|false=>none;match decide (okR p.1∧okR v.1)with|true=>(match decide (okR p.2.2.1∧okR v.2)with|true=>cp (match decide (okR y1∧okR y1)with|true=>cp (match decide (okR y2∧okR y2)with|true=>cp (match decide (okR y3∧okR y4)with|true=>cp (match decide (okR p.2.1∧okR p.2.1)with|true=>cp (match decide (okR p.2.2.2.1∧okR p.2.2.2.1)with|true=>cp (match decide (okR y5∧okR y6)with|true=>cp (match decide (okR y7∧okR p.2.2.2.2)with|true=>dup (.b .l .l) y17|false=>none) y18|false=>none) y19|false=>none) y20|false=>none) y21|false=>none) y22|false=>none) y23|false=>none) (match decide (okR y1∧okR y1)with|true=>y23|false=>none)|false=>none)|false=>none
theorem anp(p:BP)(v:BV):RS alW 66 [.d tP p,.d tV v] (afz p v):=rsX
theorem ZW(p:BP)(v:BV)(h:okP 3500 p∧ok (Rat×Rat) 300 v):Con Tryz.prog 66 [.d tP p,.d tV v] [.d tO (enc (sqP (dec p) (dec v)))]:=by
 refine aP mK (anp _ _ ⟨0,?_⟩)
 obtain⟨hp,hv⟩:=h
 obtain⟨p,rfl,bp,rp⟩:=bz hp
 obtain⟨v,rfl,bv⟩:=aS hv
 unfold afz
 simp only[ao,aK,aj,am,aE,aF,aB,az,aW,aua,aub,Nat.reduceAdd,Nat.reduceLeDiff]
 rfl
def Vn:aN:=spN false true [tP] (fun x=>decide (okP 4000 x.1)) (fun x=>[RV.d tO (hid (enc (xP (dec x.1))))])
theorem I1:SpK 271 Vn:=spX fun x h=>by simp only[aj];exact akP x.1 (at6 h)
def TW:aN:=spN false true [tP] (fun x=>decide (okP 4000 x.1)) (fun x=>[RV.d tO (hid (enc (yP (dec x.1))))])
theorem IK:SpK 272 TW:=spX fun x h=>by simp only[aj];exact ahd x.1 (at6 h)
def afp:Env:=(271,Vn)::(272,TW)::yy
theorem Td:EnvAll Tryz.prog afp:=⟨I1,IK,mK⟩
def aqX:Ctx:=CX afp []
def afC(p q:BP)(_k:KT):Option (List RV):=match decide (okP 4000 p)with|true=>(match decide (okP 4000 q)with|true=>(match decide (okT 15000 (hid (enc (xP (dec p))))∧okT 15000 (hid (enc (xP (dec q)))))with|true=>(match(bG (dec (hid (enc (xP (dec p))))) (dec (hid (enc (xP (dec q)))))) !=0 with|true=>some [RV.d axf (bG (dec (hid (enc (xP (dec p))))) (dec (hid (enc (xP (dec q))))))]|false=>(match decide (okP 4000 p)with|true=>(match decide (okP 4000 q)with|true=>(match decide (okT 15000 (hid (enc (yP (dec p))))∧okT 15000 (hid (enc (yP (dec q)))))with|true=>some [RV.d axf (bG (dec (hid (enc (yP (dec p))))) (dec (hid (enc (yP (dec q))))))]|false=>none)|false=>none)|false=>none))|false=>none)|false=>none)|false=>none
theorem arL(p q:BP):RS aqX 232 [.d tP p,.d tP q] (afC p q):=rsX
theorem YU(p q:BP)(h:okP 4000 p∧okP 4000 q):Con Tryz.prog 232 [.d tP p,.d tP q] [.d axf (cj (dec p) (dec q))]:=by
 refine aP Td (arL _ _ ⟨0,?_⟩)
 obtain⟨hp,hq⟩:=h
 obtain⟨p,rfl,bp,rp⟩:=bz hp
 obtain⟨q,rfl,bq,rq⟩:=bz hq
 unfold afC
 simp only[aj,am,aua,aub,mx,Nat.reduceLeDiff,auf,cond_true,a9,aZ]
 unfold cj bne
 cases bG (xP p) (xP q)==0<;>rfl
def Fh:aN:=spN false true [tP,tV] (fun x=>decide (okP 3500 x.1∧ok (Rat×Rat) 300 x.2.1)) (fun x=>[RV.d tO (hid (enc (sqP (dec x.1) (dec x.2.1))))])
theorem Cq:SpK 66 Fh:=spX fun x h=>by simp only[aj];exact ZW x.1 x.2.1 (at6 h)
def Ou:aN:=spN false true [tO,tO] (fun x=>decide (okT 15000 x.1∧okT 15000 x.2.1∧ri (dec x.1) (dec x.2.1))) (fun x=>[RV.d tP (hid (enc (mkP (dec x.1) (dec x.2.1)))),RV.d axf 0])
theorem Xa:SpK 88 Ou:=spX fun x h=>by simp only[aj];exact aaK x.1 x.2.1 (at6 h)
def UF:aN:=spN true true [tP,tP] (fun x=>decide (okP 4000 x.1∧okP 4000 x.2.1)) (fun x=>[RV.d axf (cj (dec x.1) (dec x.2.1))])
theorem Qa:SpK 232 UF:=spX fun x h=>YU x.1 x.2.1 (at6 h)
section
def mN(l:Ln)(p:Pt):Rat:=l.1*p.1+l.2.1*p.2.2.1-l.2.2
def mz(l:Ln)(p:Pt):Rat:=l.1*p.2.1+l.2.1*p.2.2.2.1
def oe(l:Ln)(p:Pt):Int:=ff (mN l p) (mz l p) p.2.2.2.2
def ctr(c:Ln):Rat×Rat:=(c.1,c.2.1)
def lT(c:Ln)(p:Pt):Int:= -ff (sqA p (ctr c)-c.2.2) (sqB p (ctr c)) p.2.2.2.2
def pj(l:Ln)(v:Rat×Rat):Rat:=(l.1*v.1+l.2.1*v.2-l.2.2)/(l.1*l.1+l.2.1*l.2.1)
def gn(l:Ln)(v:Rat×Rat):Rat×Rat:=(v.1-pj l v*l.1,v.2-pj l v*l.2.1)
section
variable {l:Ln} {p:Pt} {v:Rat×Rat} {i j k:Nat}
instance asN [h:Bd l i]:Bd (ctr l) (mx i i):=inferInstanceAs (Bd ((l.1,l.2.1):Rat×Rat) _)
instance aso [h:Bd l i] [h':Bd p j]:Bd (mN l p) ((i+j)+(i+j)+1+i+1):=inferInstanceAs (Bd (l.1*p.1+l.2.1*p.2.2.1-l.2.2) _)
instance asn [h:Bd l i] [h':Bd p j]:Bd (mz l p) ((i+j)+(i+j)+1):=inferInstanceAs (Bd (l.1*p.2.1+l.2.1*p.2.2.2.1) _)
instance asj [h:Bd l i] [h':Bd v k]:Bd (pj l v) (((i+k)+(i+k)+1+i+1)+((i+i)+(i+i)+1)):=inferInstanceAs (Bd ((l.1*v.1+l.2.1*v.2-l.2.2)/(l.1*l.1+l.2.1*l.2.1)) _)
instance arJ [h:Bd l i] [h':Bd v k]:Bd (gn l v) (8*i+3*k+4):=by
 have i1:Bd (v.1-pj l v*l.1) _:=inferInstance
 have i2:Bd (v.2-pj l v*l.2.1) _:=inferInstance
 have i3:Bd ((v.1-pj l v*l.1,v.2-pj l v*l.2.1):Rat×Rat) _:=inferInstance
 exact i3.mono (cM (by omega) (by omega))
end
theorem kX{a b:Rat}(h:a≠0∨b≠0):a*a+b*b≠0:=by
 have ha:0≤a*a:=by
  rcases(by grind:0≤a∨0≤ -a)with h|h
  ·exact auF h h
  ·have:=auF h h;grind
 have hb:0≤b*b:=by
  rcases(by grind:0≤b∨0≤ -b)with h|h
  ·exact auF h h
  ·have:=auF h h;grind
 intro e
 have e1:a*a=0:=by grind
 have e2:b*b=0:=by grind
 rcases h with h|h
 ·exact h (by rcases aw0.1 e1 with h|h<;>exact h)
 ·exact h (by rcases aw0.1 e2 with h|h<;>exact h)
namespace RE
theorem aki(a b x s y t c r:RE):a*(x+s*r)+b*(y+t*r)+ -c=a*x+b*y-c+(a*s+b*t)*r:=by
 induction a using at5
 induction b using at5
 induction x using at5
 induction s using at5
 induction y using at5
 induction t using at5
 induction c using at5
 induction r using at5
 exact snd fun n=>by
  simp only[RL.add,RL.mul,RL.neg]
  grind
theorem anS(a b q r:RE):a+b*r+ -q=a-q+b*r:=by
 induction a using at5
 induction b using at5
 induction q using at5
 induction r using at5
 exact snd fun n=>by
  simp only[RL.add,RL.mul,RL.neg]
  grind
theorem WS(a b:RE):a+ -b=a-b:=rfl
theorem A8(l:Ln){p:Pt}[h:Rpd p]:oe l p=sg (of l.1*pX p+of l.2.1*pY p+ -of l.2.2):=by
 unfold oe pX pY
 rw[sgn2_re h.nn]
 unfold v2
 rw[aki]
 unfold mN mz
 simp only[of_add,of_sub,bJ]
theorem AS(c:Ln){p:Pt}[h:Rpd p]:lT c p= -sg ((pX p-of c.1)*(pX p-of c.1)+(pY p-of c.2.1)*(pY p-of c.2.1)+ -of c.2.2):=by
 unfold lT
 have e:=B5 (p:=p) (v:=ctr c)
 unfold sqP at e
 rw[vR_co]at e
 rw[sgn2_re h.nn]
 unfold v2 at e ⊢
 rw[of_sub,←anS,e]
 rfl
theorem sidL_ok(l:Ln){p:Pt}[Rpd p](h:(rE l p).2=true):(rE l p).1=oe l p:=by
 rw[Yc h,A8]
 try rfl
theorem insC_ok(c:Ln){p:Pt}[Rpd p](h:(qq c p).2=true): -(qq c p).1=lT c p:=by
 rw[abE h,AS]
 simp only[WS]
 try rfl
end RE
end
def fZ(r s:Rt):Rat:=bif decide (r.2.1=0)then s.2.2 else r.2.2
def lV(r s:Rt):Bool:=decide (r.2.1=0)||(decide (s.2.1=0)||decide (r.2.2=s.2.2))
def gC(r s:Rt):Rt:=jh (r.1*s.1+r.2.1*s.2.1*fZ r s) (r.1*s.2.1+r.2.1*s.1) (fZ r s)
def vm(r s:Rt):Rt:=jh (r.1+s.1) (r.2.1+s.2.1) (fZ r s)
def arT(r:Rt)(a:Rat):Rt:=(r.1+a,r.2.1,r.2.2)
theorem bR(a b:Rat):(aU a b !=0)=!decide (a=b):=by
 unfold bne
 rw[aI]
instance atu {r s:Rt} {i j:Nat} [h:Bd r i] [h':Bd s j]:Bd (fZ r s) (mx j i):=inferInstanceAs (Bd (bif decide (r.2.1=0)then s.2.2 else r.2.2) _)
instance asi {a b c:Rat} {i j k:Nat} [ha:Bd a i] [hb:Bd b j] [hc:Bd c k]:Bd (jh a b c) (mx i (mx j k)):=by
 have h1:=BX i (mx j k)
 have h2:=BF i (mx j k)
 have h3:=BX j k
 have h4:=BF j k
 have h5:=lE ha.le
 have z:bdR (mx i (mx j k)) 0:=bT lN.le (by omega)
 refine⟨?_⟩
 unfold jh
 cases decide (b=0)
 ·cases decide (c=0)
  ·exact⟨bT ha.le (by omega),bT hb.le (by omega),bT hc.le (by omega)⟩
  ·exact⟨bT ha.le (by omega),z,z⟩
 ·exact⟨bT ha.le (by omega),z,z⟩
theorem ML(r:Rt):lV r r=true:=by
 unfold lV
 rw[at7 (rfl:r.2.2=r.2.2)]
 simp
theorem HS{p:Pt}{v:Rat×Rat}(h:Rpd p):lV (gC (xP (trP p (bkV v))) (xP (trP p (bkV v)))) (gC (yP (trP p (bkV v))) (yP (trP p (bkV v))))=true∧vm (gC (xP (trP p (bkV v))) (xP (trP p (bkV v)))) (gC (yP (trP p (bkV v))) (yP (trP p (bkV v))))=sqP p v:=by
 obtain⟨ax,bx,ay,b_,c⟩:=p
 have hr:=h.rd
 unfold Hr at hr
 simp only at hr
 unfold sqP sqA sqB xP yP trP bkV
 simp only
 rw[show ax+ -v.1=ax-v.1 by grind,show ay+ -v.2=ay-v.2 by grind]
 generalize ax-v.1=x
 generalize ay-v.2=y
 rcases hr with⟨rfl,rfl,rfl⟩|⟨h1,h2,h3⟩
 ·have e0:∀a:Rat,coR a 0 0=(a,0,0):=fun a=>rfl
  have e1:∀a:Rat,gC (a,0,0) (a,0,0)=(a*a,0,0):=fun a=>by
   unfold gC fZ jh
   simp
   grind
  rw[e0,e0,e1,e1]
  refine⟨rfl,?_⟩
  rw[show x*0+y*0+(x*0+y*0)=(0:Rat) by grind]
  unfold vm fZ jh coR
  simp
  grind
 ·have hc:c≠0:=by grind
  have dc:decide (c=0)=false:=at9 hc
  have sq0:∀a:Rat,gC (coR a 0 c) (coR a 0 c)=(a*a,0,0):=fun a=>by
   unfold coR
   rw[at7 rfl]
   unfold gC fZ jh
   simp
   grind
  have sq1:∀a b:Rat,b≠0→gC (coR a b c) (coR a b c)=coR (a*a+b*b*c) (a*b+b*a) c:=fun a b hb=>by
   have e:coR a b c=(a,b,c):=by unfold coR;rw[at9 hb];rfl
   rw[e]
   unfold gC fZ jh coR
   simp only[at9 hb,cond_false,dc]
  have cR:∀a b:Rat,jh a b c=coR a b c:=fun a b=>by unfold jh coR;rw[dc];rfl
  have ad:∀a b d e:Rat,lV (coR a b c) (coR d e c)=true∧(b≠0∨e≠0→vm (coR a b c) (coR d e c)=coR (a+d) (b+e) c)∧(b=0→e=0→vm (coR a b c) (coR d e c)=(a+d,0,0)):=fun a b d e=>by
   by_cases hb:b=0
   ·subst hb
    by_cases he:e=0
    ·subst he
     refine⟨rfl,fun h=>by simp at h,fun _ _=>?_⟩
     unfold coR vm fZ jh
     simp
    ·refine⟨rfl,fun _=>?_,fun _ h=>absurd h he⟩
     have e1:coR a 0 c=(a,0,0):=rfl
     have e2:coR d e c=(d,e,c):=by unfold coR;rw[at9 he];rfl
     rw[e1,e2]
     show jh (a+d) (0+e) c=_
     rw[cR]
   ·have e1:coR a b c=(a,b,c):=by unfold coR;rw[at9 hb];rfl
    by_cases he:e=0
    ·subst he
     have e2:coR d 0 c=(d,0,0):=rfl
     refine⟨by rw[e1,e2];simp[lV],fun _=>?_,fun h=>absurd h hb⟩
     rw[e1,e2]
     unfold vm fZ
     simp only[at9 hb,cond_false]
     rw[cR]
    ·have e2:coR d e c=(d,e,c):=by unfold coR;rw[at9 he];rfl
     refine⟨by rw[e1,e2];simp[lV],fun _=>?_,fun h=>absurd h hb⟩
     rw[e1,e2]
     unfold vm fZ
     simp only[at9 hb,cond_false]
     rw[cR]
  have c0:∀a:Rat,((a,0,0):Rt)=coR a 0 c:=fun a=>rfl
  by_cases hx:bx=0
  ·subst hx
   have hy:b_≠0:=fun e=>h1 ⟨rfl,e⟩
   rw[sq0,sq1 _ _ hy,c0]
   obtain⟨g1,g2,g3⟩:=ad (x*x) 0 (y*y+b_*b_*c) (y*b_+b_*y)
   refine⟨g1,?_⟩
   by_cases he:y*b_+b_*y=0
   ·rw[g3 rfl he,show x*0+y*b_+(x*0+y*b_)=0 by grind]
    show _=coR _ 0 c
    rw[←c0]
    congr 1
    grind
   ·rw[g2 (.inr he)]
    congr 1<;>grind
  ·by_cases hy:b_=0
   ·subst hy
    rw[sq0,sq1 _ _ hx,c0]
    obtain⟨g1,g2,g3⟩:=ad (x*x+bx*bx*c) (x*bx+bx*x) (y*y) 0
    refine⟨g1,?_⟩
    by_cases he:x*bx+bx*x=0
    ·rw[g3 he rfl,show x*bx+y*0+(x*bx+y*0)=0 by grind]
     show _=coR _ 0 c
     rw[←c0]
     congr 1
     grind
    ·rw[g2 (.inl he)]
     congr 1<;>grind
   ·rw[sq1 _ _ hx,sq1 _ _ hy]
    obtain⟨g1,g2,g3⟩:=ad (x*x+bx*bx*c) (x*bx+bx*x) (y*y+b_*b_*c) (y*b_+b_*y)
    refine⟨g1,?_⟩
    by_cases h0:x*bx+bx*x=0∧y*b_+b_*y=0
    ·rw[g3 h0.1 h0.2,show x*bx+y*b_+(x*bx+y*b_)=0 by grind]
     show _=coR _ 0 c
     rw[←c0]
     congr 1
     grind
    ·rw[g2 (by by_cases e:x*bx+bx*x=0;exact .inr (fun e'=>h0 ⟨e,e'⟩);exact .inl e)]
     congr 1<;>grind
theorem Rpd.com{p:Pt}{v:Rat×Rat}(h:Rpd p):lV (gC (xP (trP p (bkV v))) (xP (trP p (bkV v)))) (gC (yP (trP p (bkV v))) (yP (trP p (bkV v))))=true:=(HS h).1
instance asr {r s:Rt} {i j:Nat} [h:Bd r i] [h':Bd s j]:Bd (gC r s) (2*(i+j)+(mx j i)+1):=by
 have m:Bd (fZ r s) (mx j i):=inferInstance
 have a1:Bd (r.1*s.1+r.2.1*s.2.1*fZ r s) _:=inferInstance
 have a2:Bd (r.1*s.2.1+r.2.1*s.1) _:=inferInstance
 have i1:Bd (jh (r.1*s.1+r.2.1*s.2.1*fZ r s) (r.1*s.2.1+r.2.1*s.1) (fZ r s)) _:=inferInstance
 exact i1.mono (cM (by omega) (cM (by omega) (by omega)))
instance asm {r s:Rt} {i j:Nat} [h:Bd r i] [h':Bd s j]:Bd (vm r s) (i+j+1):=by
 have i1:Bd (jh (r.1+s.1) (r.2.1+s.2.1) (fZ r s)) _:=inferInstance
 exact i1.mono (cM (by omega) (cM (by omega) (cM (by omega) (by omega))))
instance as6 {r:Rt} {a:Rat} {i j:Nat} [h:Bd r i] [h':Bd a j]:Bd (arT r a) (i+j+1):=by
 have i1:Bd ((r.1+a,r.2.1,r.2.2):Rt) _:=inferInstance
 exact i1.mono (cM (by omega) (cM (by omega) (by omega)))
def qK:aN:=spN true true [tO,tR] (fun x=>decide (okT 15000 x.1∧ok Rat 15000 x.2.1)) (fun x=>[RV.d axf (eu (dec x.1) (ae x.2.1))])
theorem nK:SpK 85 qK:=spX fun x h=>QW x.1 x.2.1 (at6 h)
def vN:Env:=[(78,fu),(50,gQ),(127,iw),(132,gL),(107,jw),(124,jD),(145,Ac),(57,tC),(133,Ca),(119,nI),(85,qK)]
theorem ko:EnvAll Tryz.prog vN:=⟨dW,fq,fT,fk,gG,gH,xK,rz,yo,kH,nK,trivial⟩
def akA:Ctx:=CX vN []
def Rx(r s:BO3)(_k:KT):Option (List RV):=match decide (okR r.2.1)with|true=>(match(aU (ae r.2.1) 0)==0 with|true=>some [RV.d tR s.2.2,RV.d .bool true]|false=>(match decide (okR s.2.1)with|true=>(match(aU (ae s.2.1) 0)==0 with|true=>some [RV.d tR r.2.2,RV.d .bool true]|false=>(match decide (okR r.2.2∧okR s.2.2)with|true=>some [RV.d tR r.2.2,RV.d .bool ((aU (ae r.2.2) (ae s.2.2))==0)]|false=>none))|false=>none))|false=>none
theorem ak9(r s:BO3):RS akA 215 [.d tO r,.d tO s] (Rx r s):=rsX
theorem Xm(r s:BO3)(h:ok Rt 100000 r∧ok Rt 100000 s):Con Tryz.prog 215 [.d tO r,.d tO s] [.d tR (ag (fZ (dec r) (dec s))),.d .bool (lV (dec r) (dec s))]:=by
 refine aP ko (ak9 _ _ ⟨0,?_⟩)
 obtain⟨hr,hs⟩:=h
 obtain⟨r,rfl,br⟩:=aS hr
 obtain⟨s,rfl,bs⟩:=aS hs
 unfold Rx
 simp only[am,aE,aF,aB,az,aW,aua,aub,Nat.reduceLeDiff,aI]
 unfold fZ lV
 cases decide (r.2.1=0)<;>cases decide (s.2.1=0)<;>rfl
def aif:Ctx:=CX vN []
def Sb(r:BO3)(a:BR)(_k:KT):Option (List RV):=match decide (okR r.1∧okR a)with|true=>some [RV.d tO (hid (ag (ae r.1+ae a)),r.2)]|false=>none
theorem ali(r:BO3)(a:BR):RS aif 266 [.d tO r,.d tR a] (Sb r a):=rsX
theorem Q3(r:BO3)(a:BR)(h:ok Rt 100000 r∧ok Rat 100000 a):Con Tryz.prog 266 [.d tO r,.d tR a] [.d tO (enc (arT (dec r) (ae a)))]:=by
 refine aP ko (ali _ _ ⟨0,?_⟩)
 obtain⟨hr,ha⟩:=h
 obtain⟨r,rfl,br⟩:=aS hr
 obtain⟨a,rfl,ba⟩:=aS ha
 unfold Sb
 simp only[aj,am,aE,aF,aB,az,aW,aua,aub,Nat.reduceLeDiff]
 rfl
def ako:Ctx:=CX vN []
def RD(_k:KT):Option (List RV):=match decide (aY (0:Int))with|true=>some [RV.d tR (hid (ag ((0:Int):Rat)))]|false=>none
theorem ajO:RS ako 82 [] (RD):=rsX
theorem N9:Con Tryz.prog 82 [] [.d tR (ag 0)]:=by
 refine aP ko (ajO ⟨0,?_⟩)
 unfold RD
 rw[dT (show aY 0 by decide)]
 simp only[aj]
 rfl
def akT:Ctx:=CX vN []
def Ol(p:BP)(v:BV)(_k:KT):Option (List RV):=match decide (okR p.1∧okR v.1)with|true=>(match decide (okR p.2.2.1∧okR v.2)with|true=>some [RV.d tP (hid (ag (ae p.1+ae v.1)),(p.2.1,(hid (ag (ae p.2.2.1+ae v.2)),p.2.2.2)))]|false=>none)|false=>none
theorem aii(p:BP)(v:BV):RS akT 45 [.d tP p,.d tV v] (Ol p v):=rsX
theorem RG(p:BP)(v:BV)(h:ok Pt 21000 p∧ok (Rat×Rat) 1000 v):Con Tryz.prog 45 [.d tP p,.d tV v] [.d tP (enc (trP (dec p) (dec v)))]:=by
 refine aP ko (aii _ _ ⟨0,?_⟩)
 obtain⟨hp,hv⟩:=h
 obtain⟨p,rfl,bp⟩:=aS hp
 obtain⟨v,rfl,bv⟩:=aS hv
 unfold Ol
 simp only[aj,am,aE,aF,aB,az,aW,aua,aub,Nat.reduceLeDiff]
 rfl
def ajy:Ctx:=CX vN []
def R5(v:BV)(_k:KT):Option (List RV):=match decide (okR v.1)with|true=>(match decide (okR v.2)with|true=>some [RV.d tV (hid (ag (-ae v.1)),hid (ag (-ae v.2)))]|false=>none)|false=>none
theorem agV(v:BV):RS ajy 136 [.d tV v] (R5 v):=rsX
theorem P2(v:BV)(h:ok (Rat×Rat) 21000 v):Con Tryz.prog 136 [.d tV v] [.d tV (enc (bkV (dec v)))]:=by
 refine aP ko (agV _ ⟨0,?_⟩)
 have hv:=h
 obtain⟨v,rfl,bv⟩:=aS hv
 unfold R5
 simp only[aj,am,aE,aF,aB,az,aW,Nat.reduceLeDiff]
 rfl
def Il:aN:=spN false true [tO,tO] (fun x=>decide (ok Rt 100000 x.1∧ok Rt 100000 x.2.1)) (fun x=>[RV.d tR (hid (ag (fZ (dec x.1) (dec x.2.1)))),RV.d .bool (lV (dec x.1) (dec x.2.1))])
theorem Mf:SpK 215 Il:=spX fun x h=>by simp only[aj];exact Xm x.1 x.2.1 (at6 h)
def An:aN:=spN false true [tO,tR] (fun x=>decide (ok Rt 100000 x.1∧ok Rat 100000 x.2.1)) (fun x=>[RV.d tO (hid (enc (arT (dec x.1) (ae x.2.1))))])
theorem xU:SpK 266 An:=spX fun x h=>by simp only[aj];exact Q3 x.1 x.2.1 (at6 h)
def H6:aN:=spN false true [] (fun _=>true) (fun _=>[RV.d tR (hid (ag 0))])
theorem Md:SpK 82 H6:=spX fun _ _=>by simp only[aj];exact N9
def pJ:aN:=spN false true [tP,tV] (fun x=>decide (ok Pt 21000 x.1∧ok (Rat×Rat) 1000 x.2.1)) (fun x=>[RV.d tP (hid (enc (trP (dec x.1) (dec x.2.1))))])
theorem nH:SpK 45 pJ:=spX fun x h=>by simp only[aj];exact RG x.1 x.2.1 (at6 h)
def zC:aN:=spN false true [tV] (fun x=>decide (ok (Rat×Rat) 21000 x.1)) (fun x=>[RV.d tV (hid (enc (bkV (dec x.1))))])
theorem xM:SpK 136 zC:=spX fun x h=>by simp only[aj];exact P2 x.1 (at6 h)
def J5:Env:=(215,Il)::(266,An)::(82,H6)::(45,pJ)::(136,zC)::vN
theorem ut:EnvAll Tryz.prog J5:=⟨Mf,xU,Md,nH,xM,ko⟩
def ale:Ctx:=CX J5 []
def SG(r s:BO3)(_k:KT):Option (List RV):=match decide (ok Rt 100000 r∧ok Rt 100000 s)with|true=>(match !(lV (dec r) (dec s))with|true=>some [RV.d tO (((false,[]),(false,[])),(((false,[]),(false,[])),((false,[]),(false,[])))),RV.d axf 1]|false=>(match decide (okR r.1∧okR s.1)with|true=>(match decide (okR r.2.1∧okR s.2.1)with|true=>(match decide (okR (hid (ag (ae r.2.1*ae s.2.1)))∧okR (hid (ag (fZ (dec r) (dec s)))))with|true=>(match decide (okR (hid (ag (ae r.1*ae s.1)))∧okR (hid (ag (ae (hid (ag (ae r.2.1*ae s.2.1)))*ae (hid (ag (fZ (dec r) (dec s))))))))with|true=>(match decide (okR r.1∧okR s.2.1)with|true=>(match decide (okR r.2.1∧okR s.1)with|true=>(match decide (okR (hid (ag (ae r.1*ae s.2.1)))∧okR (hid (ag (ae r.2.1*ae s.1))))with|true=>(match decide (okR (hid (ag (ae (hid (ag (ae r.1*ae s.1)))+ae (hid (ag (ae (hid (ag (ae r.2.1*ae s.2.1)))*ae (hid (ag (fZ (dec r) (dec s))))))))))∧okR (hid (ag (ae (hid (ag (ae r.1*ae s.2.1)))+ae (hid (ag (ae r.2.1*ae s.1))))))∧okR (hid (ag (fZ (dec r) (dec s)))))with|true=>some [RV.d tO (hid (enc (jh (ae (hid (ag (ae (hid (ag (ae r.1*ae s.1)))+ae (hid (ag (ae (hid (ag (ae r.2.1*ae s.2.1)))*ae (hid (ag (fZ (dec r) (dec s))))))))))) (ae (hid (ag (ae (hid (ag (ae r.1*ae s.2.1)))+ae (hid (ag (ae r.2.1*ae s.1))))))) (ae (hid (ag (fZ (dec r) (dec s)))))))),RV.d axf 0]|false=>none)|false=>none)|false=>none)|false=>none)|false=>none)|false=>none)|false=>none)|false=>none))|false=>none
theorem ajj(r s:BO3):RS ale 209 [.d tO r,.d tO s] (SG r s):=rsX
theorem NQ(r s:BO3)(h:ok Rt 50000 r∧ok Rt 50000 s∧lV (dec r) (dec s)=true):Con Tryz.prog 209 [.d tO r,.d tO s] [.d tO (enc (gC (dec r) (dec s))),.d axf 0]:=by
 refine aP ut (ajj _ _ ⟨0,?_⟩)
 obtain⟨hr,hs,htrue⟩:=h
 obtain⟨r,rfl,br⟩:=aS hr
 obtain⟨s,rfl,bs⟩:=aS hs
 have hm:=htrue
 rw[am,am]at hm
 unfold SG
 simp only[aj,am,aE,aF,aB,az,okd,aW,aua,aub,mx,Nat.reduceAdd,Nat.reduceLeDiff,auf,cond_true,hm,Bool.not_true]
 rfl
def agF:Ctx:=CX J5 []
def WU(r s:BO3)(_k:KT):Option (List RV):=match decide (ok Rt 100000 r∧ok Rt 100000 s)with|true=>(match !(lV (dec r) (dec s))with|true=>some [RV.d tO (((false,[]),(false,[])),(((false,[]),(false,[])),((false,[]),(false,[])))),RV.d axf 1]|false=>(match decide (okR r.1∧okR s.1)with|true=>(match decide (okR r.2.1∧okR s.2.1)with|true=>(match decide (okR (hid (ag (ae r.1+ae s.1)))∧okR (hid (ag (ae r.2.1+ae s.2.1)))∧okR (hid (ag (fZ (dec r) (dec s)))))with|true=>some [RV.d tO (hid (enc (jh (ae (hid (ag (ae r.1+ae s.1)))) (ae (hid (ag (ae r.2.1+ae s.2.1)))) (ae (hid (ag (fZ (dec r) (dec s)))))))),RV.d axf 0]|false=>none)|false=>none)|false=>none))|false=>none
theorem aiu(r s:BO3):RS agF 137 [.d tO r,.d tO s] (WU r s):=rsX
theorem Tk(r s:BO3)(h:ok Rt 100000 r∧ok Rt 100000 s∧lV (dec r) (dec s)=true):Con Tryz.prog 137 [.d tO r,.d tO s] [.d tO (enc (vm (dec r) (dec s))),.d axf 0]:=by
 refine aP ut (aiu _ _ ⟨0,?_⟩)
 obtain⟨hr,hs,htrue⟩:=h
 obtain⟨r,rfl,br⟩:=aS hr
 obtain⟨s,rfl,bs⟩:=aS hs
 have hm:=htrue
 rw[am,am]at hm
 unfold WU
 simp only[aj,am,aE,aF,aB,az,okd,aW,aua,aub,mx,Nat.reduceAdd,Nat.reduceLeDiff,auf,cond_true,hm,Bool.not_true]
 rfl
def AL:aN:=spN false true [tO,tO] (fun x=>decide (ok Rt 50000 x.1∧ok Rt 50000 x.2.1∧lV (dec x.1) (dec x.2.1)=true)) (fun x=>[RV.d tO (hid (enc (gC (dec x.1) (dec x.2.1)))),RV.d axf 0])
theorem yx:SpK 209 AL:=spX fun x h=>by simp only[aj];exact NQ x.1 x.2.1 (at6 h)
def Jn:aN:=spN false true [tO,tO] (fun x=>decide (ok Rt 100000 x.1∧ok Rt 100000 x.2.1∧lV (dec x.1) (dec x.2.1)=true)) (fun x=>[RV.d tO (hid (enc (vm (dec x.1) (dec x.2.1)))),RV.d axf 0])
theorem Me:SpK 137 Jn:=spX fun x h=>by simp only[aj];exact Tk x.1 x.2.1 (at6 h)
def xV:Env:=(209,AL)::(137,Jn)::J5
theorem lW:EnvAll Tryz.prog xV:=⟨yx,Me,ut⟩
def ahE:Ctx:=CX xV []
def TB(r:BO3)(_k:KT):Option (List RV):=match decide (ok Rt 50000 r∧ok Rt 50000 r∧lV (dec r) (dec r)=true)with|true=>some [RV.d tO (hid (enc (gC (dec r) (dec r))))]|false=>none
theorem ahH(r:BO3):RS ahE 120 [.d tO r] (TB r):=rsX
theorem Vs(r:BO3)(h:ok Rt 50000 r):Con Tryz.prog 120 [.d tO r] [.d tO (enc (gC (dec r) (dec r)))]:=by
 refine aP lW (ahH _ ⟨0,?_⟩)
 have hr:=h
 obtain⟨r,rfl,br⟩:=aS hr
 unfold TB
 simp only[aj,am,okd,aua,aub,Nat.reduceLeDiff,auf,ML]
def ahs:Ctx:=CX xV []
def W2(v:BV)(_k:KT):Option (List RV):=some [RV.d tP (v.1,(hid (ag 0),(v.2,(hid (ag 0),hid (ag 0)))))]
theorem akW(v:BV):RS ahs 20 [.d tV v] (W2 v):=rsX
theorem Ug(v:BV)(h:ok (Rat×Rat) 100000 v):Con Tryz.prog 20 [.d tV v] [.d tP (enc (atP (dec v)))]:=by
 refine aP lW (akW _ ⟨0,?_⟩)
 have hv:=h
 obtain⟨v,rfl,bv⟩:=aS hv
 unfold W2
 simp only[aj,am,aE,aF,aB]
 try rfl
def ajC:Ctx:=CX xV []
def M6(a b c d e:BR)(_k:KT):Option (List RV):=match decide (okR b)with|true=>(match(aU (ae b) 0)==0 with|true=>(match decide (okR d)with|true=>(match(aU (ae d) 0)==0 with|true=>some [RV.d tP (a,(b,(c,(d,hid (ag 0)))))]|false=>some [RV.d tP (a,(b,(c,(d,e))))])|false=>none)|false=>some [RV.d tP (a,(b,(c,(d,e))))])|false=>none
theorem akO(a b c d e:BR):RS ajC 194 [.d tR a,.d tR b,.d tR c,.d tR d,.d tR e] (M6 a b c d e):=rsX
theorem XC(a b c d e:BR)(h:okR a∧okR b∧okR c∧okR d∧okR e):Con Tryz.prog 194 [.d tR a,.d tR b,.d tR c,.d tR d,.d tR e] [.d tP (enc (rdP (ae a,ae b,ae c,ae d,ae e)))]:=by
 refine aP lW (akO _ _ _ _ _ ⟨0,?_⟩)
 obtain⟨ha,hb,hc,hd,he⟩:=h
 obtain⟨a,rfl,ba⟩:=eo ha
 obtain⟨b,rfl,bb⟩:=eo hb
 obtain⟨c,rfl,bc⟩:=eo hc
 obtain⟨d,rfl,bd⟩:=eo hd
 obtain⟨e,rfl,be⟩:=eo he
 unfold M6
 simp only[aj,az,aW,Nat.reduceLeDiff,aI]
 unfold rdP
 by_cases h1:b=0
 ·by_cases h2:d=0
  ·rw[at7 h1,at7 h2];rfl
  ·rw[at7 h1,at9 h2];rfl
 ·rw[at9 h1];rfl
def aiW:Ctx:=CX xV []
def QE(a b c:BR)(_k:KT):Option (List RV):=match decide (okR b)with|true=>(match(aU (ae b) 0)==0 with|true=>(match decide (okR a)with|true=>some [RV.d tO (hid (enc ((ae a,0,0):Rt)))]|false=>none)|false=>some [RV.d tO (a,(b,c))])|false=>none
theorem akg(a b c:BR):RS aiW 216 [.d tR a,.d tR b,.d tR c] (QE a b c):=rsX
theorem WJ(a b c:BR)(h:okR a∧okR b∧okR c):Con Tryz.prog 216 [.d tR a,.d tR b,.d tR c] [.d tO (enc (coR (ae a) (ae b) (ae c)))]:=by
 refine aP lW (akg _ _ _ ⟨0,?_⟩)
 obtain⟨ha,hb,hc⟩:=h
 obtain⟨a,rfl,ba⟩:=eo ha
 obtain⟨b,rfl,bb⟩:=eo hb
 obtain⟨c,rfl,bc⟩:=eo hc
 unfold QE
 simp only[aj,aT,aB,az,aW,Nat.reduceLeDiff,aI]
 unfold coR
 by_cases e:b=0
 ·subst e;rw[at7 rfl];rfl
 ·rw[at9 e];rfl
def By:aN:=spN false true [tO] (fun x=>decide (ok Rt 50000 x.1)) (fun x=>[RV.d tO (hid (enc (gC (dec x.1) (dec x.1))))])
theorem yX:SpK 120 By:=spX fun x h=>by simp only[aj];exact Vs x.1 (at6 h)
def ls:aN:=spN false true [tV] (fun x=>decide (ok (Rat×Rat) 100000 x.1)) (fun x=>[RV.d tP (hid (enc (atP (dec x.1))))])
theorem iH:SpK 20 ls:=spX fun x h=>by simp only[aj];exact Ug x.1 (at6 h)
def Jw:aN:=spN false true [tR,tR,tR,tR,tR] (fun x=>decide (okR x.1∧okR x.2.1∧okR x.2.2.1∧okR x.2.2.2.1∧okR x.2.2.2.2.1)) (fun x=>[RV.d tP (hid (enc (rdP (ae x.1,ae x.2.1,ae x.2.2.1,ae x.2.2.2.1,ae x.2.2.2.2.1))))])
theorem LL:SpK 194 Jw:=spX fun x h=>by simp only[aj];exact XC x.1 x.2.1 x.2.2.1 x.2.2.2.1 x.2.2.2.2.1 (at6 h)
def Jq:aN:=spN false true [tR,tR,tR] (fun x=>decide (okR x.1∧okR x.2.1∧okR x.2.2.1)) (fun x=>[RV.d tO (hid (enc (coR (ae x.1) (ae x.2.1) (ae x.2.2.1))))])
theorem KG:SpK 216 Jq:=spX fun x h=>by simp only[aj];exact WJ x.1 x.2.1 x.2.2.1 (at6 h)
def DE:Env:=(120,By)::(20,ls)::(194,Jw)::(216,Jq)::xV
theorem qd:EnvAll Tryz.prog DE:=⟨yX,iH,LL,KG,lW⟩
def alk:Ctx:=CX DE []
def V0(x y:BO3)(_k:KT):Option (List RV):=let y1:=aU (ae x.2.1) 0;let y2:Option (List RV):=match decide (okR x.2.1)with|true=>(match y1==0 with|true=>(match decide (okR x.1∧okR x.2.1∧okR y.1∧okR y.2.1∧okR y.2.2)with|true=>some [RV.d tP (hid (enc (rdP (ae x.1,ae x.2.1,ae y.1,ae y.2.1,ae y.2.2)))),RV.d axf 0]|false=>none)|false=>(match decide (okR x.1∧okR x.2.1∧okR y.1∧okR y.2.1∧okR x.2.2)with|true=>some [RV.d tP (hid (enc (rdP (ae x.1,ae x.2.1,ae y.1,ae y.2.1,ae x.2.2)))),RV.d axf 0]|false=>none))|false=>none;match decide (okR x.2.1)with|true=>(match y1 !=0 with|true=>(match decide (okR y.2.1)with|true=>(match(aU (ae y.2.1) 0) !=0 with|true=>(match decide (okR x.2.2∧okR y.2.2)with|true=>(match(aU (ae x.2.2) (ae y.2.2)) !=0 with|true=>some [RV.d tP (((false,[]),(false,[])),(((false,[]),(false,[])),(((false,[]),(false,[])),(((false,[]),(false,[])),((false,[]),(false,[])))))),RV.d axf 1]|false=>y2)|false=>none)|false=>y2)|false=>none)|false=>y2)|false=>none
theorem aha(x y:BO3):RS alk 109 [.d tO x,.d tO y] (V0 x y):=rsX
theorem Wl(x y:BO3)(h:okT 15000 x∧okT 15000 y∧ri (dec x) (dec y)):Con Tryz.prog 109 [.d tO x,.d tO y] [.d tP (enc (mkP (dec x) (dec y))),.d axf 0]:=by
 refine aP qd (aha _ _ ⟨0,?_⟩)
 obtain⟨hx,hy,hy_2⟩:=h
 obtain⟨x,rfl,bx,rx⟩:=fa hx
 obtain⟨y,rfl,b_y,ry⟩:=fa hy
 have hm:=hy_2
 rw[am,am]at hm
 unfold V0
 simp only[aj,am,aE,aF,aB,az,aW,aua,aub,Nat.reduceLeDiff,aI,bR]
 unfold mkP
 by_cases e1:x.2.1=0
 ·rw[at7 e1];rfl
 ·rw[at9 e1]
  by_cases e2:y.2.1=0
  ·rw[at7 e2];rfl
  ·rw[at9 e2,at7 ((hm.resolve_left e1).resolve_left e2)];rfl
def aoA:Ctx:=CX DE []
def adp(p:BP)(_k:KT):Option (List RV):=match decide (okR p.1∧okR p.2.1∧okR p.2.2.2.2)with|true=>some [RV.d tO (hid (enc (coR (ae p.1) (ae p.2.1) (ae p.2.2.2.2))))]|false=>none
theorem apP(p:BP):RS aoA 138 [.d tP p] (adp p):=rsX
theorem aao(p:BP)(h:okP 4000 p):Con Tryz.prog 138 [.d tP p] [.d tO (enc (xP (dec p)))]:=by
 refine aP qd (apP _ ⟨0,?_⟩)
 have hp:=h
 obtain⟨p,rfl,bp,rp⟩:=bz hp
 unfold adp
 simp only[aj,am,aE,aF,aB,az,aW,aua,aub,Nat.reduceLeDiff]
 try rfl
def ang:Ctx:=CX DE []
def ae3(p:BP)(_k:KT):Option (List RV):=match decide (okR p.2.2.1∧okR p.2.2.2.1∧okR p.2.2.2.2)with|true=>some [RV.d tO (hid (enc (coR (ae p.2.2.1) (ae p.2.2.2.1) (ae p.2.2.2.2))))]|false=>none
theorem ao0(p:BP):RS ang 139 [.d tP p] (ae3 p):=rsX
theorem Zg(p:BP)(h:okP 4000 p):Con Tryz.prog 139 [.d tP p] [.d tO (enc (yP (dec p)))]:=by
 refine aP qd (ao0 _ ⟨0,?_⟩)
 have hp:=h
 obtain⟨p,rfl,bp,rp⟩:=bz hp
 unfold ae3
 simp only[aj,am,aE,aF,aB,az,aW,aua,aub,Nat.reduceLeDiff]
 try rfl
def GM:aN:=spN false true [tP] (fun x=>decide (okP 4000 x.1)) (fun x=>[RV.d tO (hid (enc (xP (dec x.1))))])
theorem E5:SpK 138 GM:=spX fun x h=>by simp only[aj];exact aao x.1 (at6 h)
def GQ:aN:=spN false true [tP] (fun x=>decide (okP 4000 x.1)) (fun x=>[RV.d tO (hid (enc (yP (dec x.1))))])
theorem Dk:SpK 139 GQ:=spX fun x h=>by simp only[aj];exact Zg x.1 (at6 h)
def S9:Env:=(138,GM)::(139,GQ)::DE
theorem DY:EnvAll Tryz.prog S9:=⟨E5,Dk,qd⟩
def ajP:Ctx:=CX S9 []
def Qh(p q:BP)(_k:KT):Option (List RV):=match decide (okP 4000 p)with|true=>(match decide (okP 4000 q)with|true=>(match decide (okT 15000 (hid (enc (xP (dec p))))∧okT 15000 (hid (enc (xP (dec q)))))with|true=>(match(bG (dec (hid (enc (xP (dec p))))) (dec (hid (enc (xP (dec q)))))) !=0 with|true=>some [RV.d axf (bG (dec (hid (enc (xP (dec p))))) (dec (hid (enc (xP (dec q))))))]|false=>(match decide (okP 4000 p)with|true=>(match decide (okP 4000 q)with|true=>(match decide (okT 15000 (hid (enc (yP (dec p))))∧okT 15000 (hid (enc (yP (dec q)))))with|true=>some [RV.d axf (bG (dec (hid (enc (yP (dec p))))) (dec (hid (enc (yP (dec q))))))]|false=>none)|false=>none)|false=>none))|false=>none)|false=>none)|false=>none
theorem aiR(p q:BP):RS ajP 96 [.d tP p,.d tP q] (Qh p q):=rsX
theorem TK(p q:BP)(h:okP 4000 p∧okP 4000 q):Con Tryz.prog 96 [.d tP p,.d tP q] [.d axf (cj (dec p) (dec q))]:=by
 refine aP DY (aiR _ _ ⟨0,?_⟩)
 obtain⟨hp,hq⟩:=h
 obtain⟨p,rfl,bp,rp⟩:=bz hp
 obtain⟨q,rfl,bq,rq⟩:=bz hq
 unfold Qh
 simp only[aj,am,aua,aub,mx,Nat.reduceLeDiff,auf,cond_true,a9,aZ]
 unfold cj bne
 cases bG (xP p) (xP q)==0<;>rfl
def tD:aN:=spN false true [tO,tO] (fun x=>decide (okT 15000 x.1∧okT 15000 x.2.1∧ri (dec x.1) (dec x.2.1))) (fun x=>[RV.d tP (hid (enc (mkP (dec x.1) (dec x.2.1)))),RV.d axf 0])
theorem rR:SpK 109 tD:=spX fun x h=>by simp only[aj];exact Wl x.1 x.2.1 (at6 h)
def nX:aN:=spN true true [tP,tP] (fun x=>decide (okP 4000 x.1∧okP 4000 x.2.1)) (fun x=>[RV.d axf (cj (dec x.1) (dec x.2.1))])
theorem kr:SpK 96 nX:=spX fun x h=>TK x.1 x.2.1 (at6 h)
def U6:Env:=(109,tD)::(96,nX)::S9
theorem CA:EnvAll Tryz.prog U6:=⟨rR,kr,DY⟩
def ajh:Ctx:=CX U6 []
def Oi(p q:BP)(_k:KT):Option (List RV):=match decide (okP 4000 p∧okP 4000 q)with|true=>some [RV.d .bool ((cj (dec p) (dec q))==0)]|false=>none
theorem ahi(p q:BP):RS ajh 122 [.d tP p,.d tP q] (Oi p q):=rsX
theorem Pg(p q:BP)(h:okP 4000 p∧okP 4000 q):Con Tryz.prog 122 [.d tP p,.d tP q] [.d .bool (cj (dec p) (dec q)==0)]:=by
 refine aP CA (ahi _ _ ⟨0,?_⟩)
 unfold Oi
 rw[dT h]
def ajJ:Ctx:=CX U6 []
def OZ(p:BP)(v:BV)(_k:KT):Option (List RV):=let y1:=hid (enc (bkV (dec v)));let y2:=hid (enc (trP (dec p) (dec y1)));let y3:=hid (enc (xP (dec y2)));let y4:=hid (enc (yP (dec y2)));let y5:=hid (enc (gC (dec y3) (dec y3)));let y6:=hid (enc (gC (dec y4) (dec y4)));match decide (ok (Rat×Rat) 21000 v)with|true=>(match decide (ok Pt 21000 p∧ok (Rat×Rat) 1000 y1)with|true=>(match decide (okP 4000 y2)with|true=>(match decide (ok Rt 50000 y3)with|true=>(match decide (okP 4000 y2)with|true=>(match decide (ok Rt 50000 y4)with|true=>(match decide (ok Rt 100000 y5∧ok Rt 100000 y6∧lV (dec y5) (dec y6)=true)with|true=>some [RV.d tO (hid (enc (vm (dec y5) (dec y6))))]|false=>none)|false=>none)|false=>none)|false=>none)|false=>none)|false=>none)|false=>none
theorem akX(p:BP)(v:BV):RS ajJ 54 [.d tP p,.d tV v] (OZ p v):=rsX
theorem RW(p:BP)(v:BV)(h:okP 3500 p∧ok (Rat×Rat) 300 v):Con Tryz.prog 54 [.d tP p,.d tV v] [.d tO (enc (sqP (dec p) (dec v)))]:=by
 refine aP CA (akX _ _ ⟨0,?_⟩)
 obtain⟨hp,hv⟩:=h
 obtain⟨p,rfl,bp,rp⟩:=bz hp
 obtain⟨v,rfl,bv⟩:=aS hv
 obtain⟨e1,e2⟩:=HS (v:=v) rp
 unfold OZ
 simp only[aj,am,okd,aua,aub,mx,Nat.reduceAdd,Nat.reduceMul,Nat.reduceLeDiff,auf,aue,cond_true,cond_false,aZ,e1]
 rw[e2]
def tz:aN:=spN true true [tP,tP] (fun x=>decide (okP 4000 x.1∧okP 4000 x.2.1)) (fun x=>[RV.d .bool (cj (dec x.1) (dec x.2.1)==0)])
theorem rG:SpK 122 tz:=spX fun x h=>Pg x.1 x.2.1 (at6 h)
def ui:aN:=spN false true [tP,tV] (fun x=>decide (okP 3500 x.1∧ok (Rat×Rat) 300 x.2.1)) (fun x=>[RV.d tO (hid (enc (sqP (dec x.1) (dec x.2.1))))])
theorem sP:SpK 54 ui:=spX fun x h=>by simp only[aj];exact RW x.1 x.2.1 (at6 h)
end Go.Proofs.YtlahabkjhgkkjaaGreat
end
