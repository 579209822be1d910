/- Signs and comparisons: the reference, and the program without its intervals. -/
import Derived.Test.YtlahabkjhgkkjaaGreatW12
import Derived.Test.YtlahabkjhgkkjaaGreatW1
import Derived.Lib.LazyBuf
import Derived.Test.YtlahabkjhgkkjaaGreatW6
noncomputable section
namespace Go.Proofs.YtlahabkjhgkkjaaGreat
open Go.RowKit Go.IntKind
theorem asp:type_of% @Int.zero_sub:=@Int.zero_sub
abbrev Qd:=Rat×Rat×Rat×Rat×Rat×Rat
def sgQ(q:Qd):Int:=zK q.1 q.2.1 q.2.2.1 q.2.2.2.1 q.2.2.2.2.1 q.2.2.2.2.2
def suT(x y:Rt):Qd:=(x.1-y.1,x.2.1,-y.2.1,0,x.2.2,y.2.2)
def d9(x:Rt)(q:Rat):Int:=eK (x.1-q) x.2.1 x.2.2
def okQ(q:BQ):Prop:=ok Rat 30001 q.1∧ok Rat 15000 q.2.1∧ok Rat 15000 q.2.2.1∧ok Rat 6000 q.2.2.2.1∧ok Rat 15000 q.2.2.2.2.1∧ok Rat 15000 q.2.2.2.2.2∧0≤ab q.2.2.2.2.1∧0≤ab q.2.2.2.2.2
instance (q:BQ):Decidable (okQ q):=by unfold okQ;infer_instance
theorem EO{q:BQ}(h:okQ q):∃A B C D M N:Rat,q=enc ((A,B,C,D,M,N):Qd)∧Bd A 30001∧Bd B 15000∧Bd C 15000∧Bd D 6000∧Bd M 15000∧Bd N 15000∧0≤M∧0≤N:=by
 obtain⟨A,B,C,D,M,N⟩:=q
 obtain⟨h1,h2,h3,h4,h5,h6,h7,h8⟩:=h
 obtain⟨a,ha,b1⟩:=aQ h1
 obtain⟨b,hb,b2⟩:=aQ h2
 obtain⟨c,hc,b3⟩:=aQ h3
 obtain⟨d,hd,b4⟩:=aQ h4
 obtain⟨m,hm,b5⟩:=aQ h5
 obtain⟨n,hn,b6⟩:=aQ h6
 dsimp only at ha hb hc hd hm hn h7 h8
 subst ha hb hc hd hm hn
 rw[aA,av]at h7 h8
 exact⟨a,b,c,d,m,n,rfl,b1,b2,b3,b4,b5,b6,h7,h8⟩
theorem HJ{A B C D M N:Rat}{a b c d m n:Nat}[h1:Bd A a][h2:Bd B b][h3:Bd C c][h4:Bd D d][h5:Bd M m][h6:Bd N n][h7:Nn M][h8:Nn N](ha:a≤30001)(hb:b≤15000)(hc:c≤15000)(hd:d≤6000)(hm:m≤15000)(hn:n≤15000):decide (okQ (enc ((A,B,C,D,M,N):Qd)))=true:=
 aqs ⟨aqr (aC ha (by decide)),aqr (aC hb (by decide)),aqr (aC hc (by decide)),aqr (aC hd (by decide)),aqr (aC hm (by decide)),aqr (aC hn (by decide)),by show 0≤ab (ag M);rw[av];exact h7.le,by show 0≤ab (ag N);rw[av];exact h8.le⟩
theorem Fw{s t:Int}(hs: -1≤s∧s≤1)(ht: -1≤t∧t≤1):i64.wrap (s*t)=s*t:=by
 have:=AI hs ht
 exact bi (by omega) (by omega)
theorem oT{a b m x y:Rat}:i64.wrap (eK a b m*aS x y)=eK a b m*aS x y:=Fw (jd _ _ _) (iV _ _)
theorem pG{a b m x y z:Rat}:i64.wrap (eK a b m*eK x y z)=eK a b m*eK x y z:=Fw (jd _ _ _) (jd _ _ _)
theorem CM(s t u:Int):(match s==0 with|true=>(match s==0 with|true=>some [RV.d atB t]|false=>some [RV.d atB s])|false=>(match t==0 with|true=>(match s==0 with|true=>some [RV.d atB t]|false=>some [RV.d atB s])|false=>(match s==t with|true=>(match s==0 with|true=>some [RV.d atB t]|false=>some [RV.d atB s])|false=>some [RV.d atB (s*u)])))=some [RV.d atB (RE.addS s t u)]:=by
 unfold RE.addS
 cases h1:s==0
 ·cases h2:t==0
  ·cases h3:s==t<;>rfl
  ·rfl
 ·have e:=asi.1 h1
  subst e
  cases h2:t==0
  ·cases h3:(0:Int)==t
   ·rfl
   ·rw[←asi.1 h3];rfl
  ·rw[asi.1 h2];rfl
theorem AP(s t u:Int):(match t==0 with|true=>some [RV.d atB s]|false=>(match s==t with|true=>some [RV.d atB s]|false=>(match s==0 with|true=>some [RV.d atB t]|false=>some [RV.d atB (s*u)])))=some [RV.d atB (RE.addS s t u)]:=by
 unfold RE.addS
 cases h2:t==0
 ·cases h3:s==t
  ·cases h1:s==0<;>rfl
  ·rfl
 ·rfl
def i7:aM:=spN false true [tR] (fun x=>decide (okR x.1)) (fun x=>[RV.d tR (hid (ag (-ab x.1)))])
theorem fZ:SpK 124 i7:=spX fun x h=>by simp only[aj];exact Cp x.1 (aqr h)
def Ap:Env:=[(50,gA),(127,gW),(161,gY),(132,gn),(78,fo),(107,jb),(124,i7)]
theorem qI:EnvAll Tryz.prog Ap:=⟨eP,fG,fA,eJ,dR,fY,fZ,trivial⟩
def ag9:Ctx:=CX Ap []
def OT(a b c:BR)(_k:KT):Option (List RV):=match decide (okR a)with|true=>(match decide (okR b)with|true=>(match decide (okR c)with|true=>(match(aS (ab a) 0)==0 with|true=>(match(aS (ab a) 0)==0 with|true=>some [RV.d atB (i64.wrap ((aS (ab b) 0)*(aS (ab c) 0)))]|false=>some [RV.d atB (aS (ab a) 0)])|false=>(match(i64.wrap ((aS (ab b) 0)*(aS (ab c) 0)))==0 with|true=>(match(aS (ab a) 0)==0 with|true=>some [RV.d atB (i64.wrap ((aS (ab b) 0)*(aS (ab c) 0)))]|false=>some [RV.d atB (aS (ab a) 0)])|false=>(match(aS (ab a) 0)==(i64.wrap ((aS (ab b) 0)*(aS (ab c) 0)))with|true=>(match(aS (ab a) 0)==0 with|true=>some [RV.d atB (i64.wrap ((aS (ab b) 0)*(aS (ab c) 0)))]|false=>some [RV.d atB (aS (ab a) 0)])|false=>(match decide (okR a∧okR a)with|true=>(match decide (okR b∧okR b)with|true=>(match decide (okR (hid (ag (ab b*ab b)))∧okR c)with|true=>(match decide (okR (hid (ag (ab a*ab a)))∧okR (hid (ag (ab (hid (ag (ab b*ab b)))*ab c))))with|true=>some [RV.d atB (i64.wrap ((aS (ab a) 0)*(aS (ab (hid (ag (ab a*ab a)))) (ab (hid (ag (ab (hid (ag (ab b*ab b)))*ab c)))))))]|false=>none)|false=>none)|false=>none)|false=>none))))|false=>none)|false=>none)|false=>none
theorem afr(a b c:BR):RS ag9 169 [.d tR a,.d tR b,.d tR c] (OT a b c):=rsX
theorem TR(a b c:BR)(h:ok Rat 240000 a∧ok Rat 170000 b∧ok Rat 30000 c):Con Tryz.prog 169 [.d tR a,.d tR b,.d tR c] [.d atB (eK (ab a) (ab b) (ab c))]:=by
 refine aN qI (afr _ _ _ ⟨0,?_⟩)
 obtain⟨ha,hb,hc⟩:=h
 obtain⟨a,rfl,ba⟩:=aQ ha
 obtain⟨b,rfl,bb⟩:=aQ hb
 obtain⟨c,rfl,bc⟩:=aQ hc
 unfold OT
 simp only[aj,aA,av,aT,aqv,aqw,Nat.reduceAdd,Nat.reduceLeDiff,m4]
 exact CM _ _ _
def afp:Ctx:=CX Ap []
def MA(a b:BO3)(_k:KT):Option (List RV):=match decide (okR a.1∧okR b.1)with|true=>(match decide (okR b.2.1)with|true=>(match decide (aX (0:Int))with|true=>some [RV.d tQ (hid (ag (ab a.1-ab b.1)),(a.2.1,(hid (ag (-ab b.2.1)),(hid (ag ((0:Int):Rat)),(a.2.2,b.2.2)))))]|false=>none)|false=>none)|false=>none
theorem afS(a b:BO3):RS afp 208 [.d tO a,.d tO b] (MA a b):=rsX
theorem P7(a b:BO3)(h:ok Rt 15000 a∧ok Rt 15000 b):Con Tryz.prog 208 [.d tO a,.d tO b] [.d tQ (enc (suT (dec a) (dec b)))]:=by
 refine aN qI (afS _ _ ⟨0,?_⟩)
 obtain⟨ha,hb⟩:=h
 obtain⟨a,rfl,ba⟩:=aQ ha
 obtain⟨b,rfl,bb⟩:=aQ hb
 unfold MA
 simp only[aj,ak,aD,aE,aA,av,aT,aqv,aqw,Nat.reduceLeDiff]
 try rfl
def Ih:aM:=spN true true [tR,tR,tR] (fun x=>decide (ok Rat 240000 x.1∧ok Rat 170000 x.2.1∧ok Rat 30000 x.2.2.1)) (fun x=>[RV.d atB (eK (ab x.1) (ab x.2.1) (ab x.2.2.1))])
theorem JW:SpK 169 Ih:=spX fun x h=>TR x.1 x.2.1 x.2.2.1 (aqr h)
def It:aM:=spN false true [tO,tO] (fun x=>decide (ok Rt 15000 x.1∧ok Rt 15000 x.2.1)) (fun x=>[RV.d tQ (hid (enc (suT (dec x.1) (dec x.2.1))))])
theorem I2:SpK 208 It:=spX fun x h=>by simp only[aj];exact P7 x.1 x.2.1 (aqr h)
def Fb:Env:=(169,Ih)::(208,It)::Ap
theorem xM:EnvAll Tryz.prog Fb:=⟨JW,I2,qI⟩
def aeb:Ctx:=CX Fb []
def NL(q:BQ)(_k:KT):Option (List RV):=let y1:=ab q.2.2.2.2.1;let y2:=aS (ab q.2.2.2.2.2) 0;let y3:=eK (ab q.1) (ab q.2.1) y1;let y4:=i64.wrap ((eK (ab q.2.2.1) (ab q.2.2.2.1) y1)*y2);let y5:Option (List RV):=match y3==0 with|true=>some [RV.d atB y4]|false=>some [RV.d atB y3];let y6:=hid (ag (ab q.2.2.2.1*ab q.2.2.2.1));let y7:=hid (ag (ab q.2.2.1*ab q.2.2.1));let y8:=hid (ag (ab y6*ab q.2.2.2.2.1));let y9:=hid (ag (ab y7+ab y8));let y10:=hid (ag (ab q.2.1*ab q.2.1));let y11:=hid (ag (ab q.1*ab q.1));let y12:=hid (ag (ab y10*ab q.2.2.2.2.1));let y13:=hid (ag (ab y11+ab y12));let y14:=hid (ag (ab q.2.2.2.2.2*ab y9));let y15:=hid (ag (ab q.2.2.1*ab q.2.2.2.1));let y16:=hid (ag (ab q.1*ab q.2.1));let y17:=hid (ag (ab q.2.2.2.2.2*ab y15));let y18:=hid (ag (ab y16-ab y17));let y19:=hid (ag (ab y13-ab y14));let y20:=hid (ag (ab y18+ab y18));match decide (okR q.2.2.2.2.1)with|true=>(match decide ((aS y1 0)<0)with|true=>some [RV.d atB 0]|false=>(match decide (okR q.2.2.2.2.2)with|true=>(match decide (y2<0)with|true=>some [RV.d atB 0]|false=>(match decide (ok Rat 240000 q.1∧ok Rat 170000 q.2.1∧ok Rat 30000 q.2.2.2.2.1)with|true=>(match decide (ok Rat 240000 q.2.2.1∧ok Rat 170000 q.2.2.2.1∧ok Rat 30000 q.2.2.2.2.1)with|true=>(match decide (okR q.2.2.2.2.2)with|true=>(match y3==0 with|true=>y5|false=>(match y4==0 with|true=>y5|false=>(match y3==y4 with|true=>y5|false=>(match decide (okR q.2.2.1∧okR q.2.2.1)with|true=>(match decide (okR q.2.2.2.1∧okR q.2.2.2.1)with|true=>(match decide (okR y6∧okR q.2.2.2.2.1)with|true=>(match decide (okR y7∧okR y8)with|true=>(match decide (okR q.2.2.2.2.2∧okR y9)with|true=>(match decide (okR q.1∧okR q.1)with|true=>(match decide (okR q.2.1∧okR q.2.1)with|true=>(match decide (okR y10∧okR q.2.2.2.2.1)with|true=>(match decide (okR y11∧okR y12)with|true=>(match decide (okR y13∧okR y14)with|true=>(match decide (okR q.1∧okR q.2.1)with|true=>(match decide (okR q.2.2.1∧okR q.2.2.2.1)with|true=>(match decide (okR q.2.2.2.2.2∧okR y15)with|true=>(match decide (okR y16∧okR y17)with|true=>(match decide (okR y18∧okR y18)with|true=>(match decide (ok Rat 240000 y19∧ok Rat 170000 y20∧ok Rat 30000 q.2.2.2.2.1)with|true=>some [RV.d atB (i64.wrap (y3*(eK (ab y19) (ab y20) y1)))]|false=>none)|false=>none)|false=>none)|false=>none)|false=>none)|false=>none)|false=>none)|false=>none)|false=>none)|false=>none)|false=>none)|false=>none)|false=>none)|false=>none)|false=>none)|false=>none))))|false=>none)|false=>none)|false=>none))|false=>none))|false=>none
theorem adU(q:BQ):RS aeb 207 [.d tQ q] (NL q):=rsX
theorem Li(q:BQ)(h:okQ q):Con Tryz.prog 207 [.d tQ q] [.d atB (sgQ (dec q))]:=by
 refine aN xM (adU _ ⟨0,?_⟩)
 obtain⟨A,B,C,D,M,N,rfl,bA,bB,bC,bD,bM,bN,hM,hN⟩:=EO h
 rw[ak]
 unfold NL
 simp only[aj,aP,aA,av,aC,aT,aqv,aqw,Nat.reduceAdd,Nat.reduceLeDiff,oT,pG,aJ,aqu (show ¬M<0 by grind),aqu (show ¬N<0 by grind)]
 refine(CM _ _ _).trans ?_
 unfold sgQ zK
 rw[aqu (show ¬M<0 by grind),aqu (show ¬N<0 by grind)]
 dsimp only[Bool.or_false,cond_false]
 rw[show A*B-N*(C*D)+(A*B-N*(C*D))=2*(A*B-N*(C*D)) by grind]
 rfl
def zj:aM:=spN true true [tQ] (fun x=>decide (okQ x.1)) (fun x=>[RV.d atB (sgQ (dec x.1))])
theorem xm:SpK 207 zj:=spX fun x h=>Li x.1 (aqr h)
def AH:Env:=(207,zj)::Fb
theorem rm:EnvAll Tryz.prog AH:=⟨xm,xM⟩
def ahZ:Ctx:=CX AH []
def OG(a b:BO3)(_k:KT):Option (List RV):=match decide (ok Rt 15000 a∧ok Rt 15000 b)with|true=>(match decide (okQ (hid (enc (suT (dec a) (dec b)))))with|true=>some [RV.d atB (sgQ (dec (hid (enc (suT (dec a) (dec b))))))]|false=>none)|false=>none
theorem aeU(a b:BO3):RS ahZ 119 [.d tO a,.d tO b] (OG a b):=rsX
theorem MK(a b:BO3)(h:okT 15000 a∧okT 15000 b):Con Tryz.prog 119 [.d tO a,.d tO b] [.d atB (bL (dec a) (dec b))]:=by
 refine aN rm (aeU _ _ ⟨0,?_⟩)
 obtain⟨ha,hb⟩:=h
 obtain⟨a,rfl,ba,ra⟩:=ew ha
 obtain⟨b,rfl,bb,rb⟩:=ew hb
 have na:Nn a.2.2:=inferInstance
 have nb:Nn b.2.2:=inferInstance
 have e:decide (okQ (enc (suT a b)))=true:=HJ (by decide) (by decide) (by decide) (by decide) (by decide) (by decide)
 unfold OG
 simp only[aj,ak,okd,aqv,aqw,Nat.reduceLeDiff,e]
 rfl
def aed:Ctx:=CX AH []
def QU(a:BO3)(b:BR)(_k:KT):Option (List RV):=match decide (okR a.1∧okR b)with|true=>(match decide (ok Rat 240000 (hid (ag (ab a.1-ab b)))∧ok Rat 170000 a.2.1∧ok Rat 30000 a.2.2)with|true=>some [RV.d atB (eK (ab (hid (ag (ab a.1-ab b)))) (ab a.2.1) (ab a.2.2))]|false=>none)|false=>none
theorem agX(a:BO3)(b:BR):RS aed 85 [.d tO a,.d tR b] (QU a b):=rsX
theorem T9(a:BO3)(b:BR)(h:okT 15000 a∧ok Rat 15000 b):Con Tryz.prog 85 [.d tO a,.d tR b] [.d atB (d9 (dec a) (ab b))]:=by
 refine aN rm (agX _ _ ⟨0,?_⟩)
 obtain⟨ha,hb⟩:=h
 obtain⟨a,rfl,ba,ra⟩:=ew ha
 obtain⟨b,rfl,bb⟩:=aQ hb
 unfold QU
 simp only[aj,ak,aD,aE,aA,av,aC,aT,aqv,aqw,Nat.reduceAdd,Nat.reduceLeDiff]
 try rfl
def mo:aM:=spN true true [tO,tO] (fun x=>decide (okT 15000 x.1∧okT 15000 x.2.1)) (fun x=>[RV.d atB (bL (dec x.1) (dec x.2.1))])
theorem jF:SpK 119 mo:=spX fun x h=>MK x.1 x.2.1 (aqr h)
def TY:Env:=(119,mo)::AH
theorem J1:EnvAll Tryz.prog TY:=⟨jF,rm⟩
def agJ:Ctx:=CX TY []
def OA(a b:BO3)(_k:KT):Option (List RV):=match decide (okT 15000 a∧okT 15000 b)with|true=>some [RV.d .bool ((bL (dec a) (dec b))==0)]|false=>none
theorem aig(a b:BO3):RS agJ 63 [.d tO a,.d tO b] (OA a b):=rsX
theorem TS(a b:BO3)(h:okT 15000 a∧okT 15000 b):Con Tryz.prog 63 [.d tO a,.d tO b] [.d .bool (bL (dec a) (dec b)==0)]:=by
 refine aN J1 (aig _ _ ⟨0,?_⟩)
 unfold OA
 rw[dT h]
def lS:aM:=spN false true [tR] (fun x=>decide (okR x.1)) (fun x=>[RV.d tR (hid (ag (-ab x.1)))])
theorem iO:SpK 202 lS:=spX fun x h=>by simp only[aj];exact HO x.1 (aqr h)
def HY:Env:=[(76,gT),(149,jr),(147,iC),(148,gU),(83,fW),(99,kx),(202,lS)]
theorem ua:EnvAll Tryz.prog HY:=⟨eI,fN,fi,eH,eg,gE,iO,trivial⟩
def anq:Ctx:=CX HY []
def aaL(a b c:BR)(_k:KT):Option (List RV):=match decide (okR a)with|true=>(match decide (okR b)with|true=>(match decide (okR c)with|true=>(match(i64.wrap ((aS (ab b) 0)*(aS (ab c) 0)))==0 with|true=>some [RV.d atB (aS (ab a) 0)]|false=>(match(aS (ab a) 0)==(i64.wrap ((aS (ab b) 0)*(aS (ab c) 0)))with|true=>some [RV.d atB (aS (ab a) 0)]|false=>(match(aS (ab a) 0)==0 with|true=>some [RV.d atB (i64.wrap ((aS (ab b) 0)*(aS (ab c) 0)))]|false=>(match decide (okR a∧okR a)with|true=>(match decide (okR b∧okR b)with|true=>(match decide (okR (hid (ag (ab b*ab b)))∧okR c)with|true=>(match decide (okR (hid (ag (ab a*ab a)))∧okR (hid (ag (ab (hid (ag (ab b*ab b)))*ab c))))with|true=>some [RV.d atB (i64.wrap ((aS (ab a) 0)*(aS (ab (hid (ag (ab a*ab a)))) (ab (hid (ag (ab (hid (ag (ab b*ab b)))*ab c)))))))]|false=>none)|false=>none)|false=>none)|false=>none))))|false=>none)|false=>none)|false=>none
theorem akg(a b c:BR):RS anq 219 [.d tR a,.d tR b,.d tR c] (aaL a b c):=rsX
theorem Wj(a b c:BR)(h:ok Rat 240000 a∧ok Rat 170000 b∧ok Rat 30000 c):Con Tryz.prog 219 [.d tR a,.d tR b,.d tR c] [.d atB (eK (ab a) (ab b) (ab c))]:=by
 refine aN ua (akg _ _ _ ⟨0,?_⟩)
 obtain⟨ha,hb,hc⟩:=h
 obtain⟨a,rfl,ba⟩:=aQ ha
 obtain⟨b,rfl,bb⟩:=aQ hb
 obtain⟨c,rfl,bc⟩:=aQ hc
 unfold aaL
 simp only[aj,aA,av,aT,aqv,aqw,Nat.reduceAdd,Nat.reduceLeDiff,m4]
 exact AP _ _ _
def aoe:Ctx:=CX HY []
def ads(a:BR)(_k:KT):Option (List RV):=match decide (okR a)with|true=>(match decide (okR (hid (ag (-ab a))))with|true=>some [RV.d tR (hid (ag (-ab (hid (ag (-ab a))))))]|false=>none)|false=>none
theorem aol(a:BR):RS aoe 260 [.d tR a] (ads a):=rsX
theorem Y1(a:BR)(h:okR a):Con Tryz.prog 260 [.d tR a] [.d tR (ag (ab a))]:=by
 refine aN ua (aol _ ⟨0,?_⟩)
 have ha:=h
 obtain⟨a,rfl,ba⟩:=dQ ha
 unfold ads
 simp only[aj,av,aT,Nat.reduceLeDiff,Rat.neg_neg]
def pZ:aM:=spN true true [tR,tR,tR] (fun x=>decide (ok Rat 240000 x.1∧ok Rat 170000 x.2.1∧ok Rat 30000 x.2.2.1)) (fun x=>[RV.d atB (eK (ab x.1) (ab x.2.1) (ab x.2.2.1))])
theorem lR:SpK 219 pZ:=spX fun x h=>Wj x.1 x.2.1 x.2.2.1 (aqr h)
def E7:aM:=spN false true [tR] (fun x=>decide (okR x.1)) (fun x=>[RV.d tR (hid (ag (ab x.1)))])
theorem Ct:SpK 260 E7:=spX fun x h=>by simp only[aj];exact Y1 x.1 (aqr h)
def acy:Env:=(219,pZ)::(260,E7)::HY
theorem Oj:EnvAll Tryz.prog acy:=⟨lR,Ct,ua⟩
def ajr:Ctx:=CX acy []
def acN(a b:BO3)(_k:KT):Option (List RV):=match decide (okR a.1∧okR b.1)with|true=>(match decide (okR a.2.1)with|true=>(match decide (okR b.2.1)with|true=>(match decide (aX (0:Int))with|true=>(match decide (okR a.2.2)with|true=>(match decide (okR b.2.2)with|true=>some [RV.d tQ (hid (ag (ab a.1-ab b.1)),(hid (ag (ab a.2.1)),(hid (ag (-ab b.2.1)),(hid (ag ((0:Int):Rat)),(hid (ag (ab a.2.2)),hid (ag (ab b.2.2)))))))]|false=>none)|false=>none)|false=>none)|false=>none)|false=>none)|false=>none
theorem akK(a b:BO3):RS ajr 220 [.d tO a,.d tO b] (acN a b):=rsX
theorem XG(a b:BO3)(h:ok Rt 15000 a∧ok Rt 15000 b):Con Tryz.prog 220 [.d tO a,.d tO b] [.d tQ (enc (suT (dec a) (dec b)))]:=by
 refine aN Oj (akK _ _ ⟨0,?_⟩)
 obtain⟨ha,hb⟩:=h
 obtain⟨a,rfl,ba⟩:=aQ ha
 obtain⟨b,rfl,bb⟩:=aQ hb
 unfold acN
 simp only[aj,ak,aD,aE,aA,av,aT,aqv,aqw,Nat.reduceLeDiff]
 try rfl
theorem gX{n:Int}(h:aX n):szI n≤3:=by
 have:pw 3=1000000000000000000000000000:=by decide
 exact d7 (by have:=h.1;omega) (by have:=h.2;omega)
theorem P4{q:Rat}{k:Nat}(h:Bd q k)(hk:k≤480000):okI (ai q.floor)∧okI (ai (-q.floor)):=by
 have e:szI q.floor≤k:=by
  refine aqM (cU ?_) h.le.1
  rw[Rat.floor_def]
  exact Int.natAbs_ediv_le_natAbs _ _
 exact⟨bk (by omega),bk (by rw[gv];omega)⟩
theorem ap2:Bd (65536:Rat) 1:=⟨⟨by decide+kernel,by decide+kernel⟩⟩
theorem aeN:((65536:Int):Rat)=65536:=rfl
theorem p48:(2:Int)^(min (48:Int).toNat 64)=281474976710656:=by decide
theorem p32:(2:Int)^(min (32:Int).toNat 64)=4294967296:=by decide
theorem p16:(2:Int)^(min (16:Int).toNat 64)=65536:=by decide
theorem fdv{a b:Int}(h:0≤b):Int.fdiv a b=a/b:=Int.fdiv_eq_ediv_of_nonneg a h
theorem abF(n k:Nat)(hn:n<18446744073709551616)(hk:2^k-1<18446744073709551616):BitVec.toNat (BitVec.ofInt 64 (n:Int)&&&BitVec.ofInt 64 ((2^k-1:Nat):Int))=n%2^k:=by
 rw[BitVec.toNat_and,BitVec.toNat_ofInt,BitVec.toNat_ofInt]
 have e1:((n:Int)%((2^64:Nat):Int)).toNat=n:=by omega
 have e2:(((2^k-1:Nat):Int)%((2^64:Nat):Int)).toNat=2^k-1:=by omega
 rw[e1,e2,Nat.and_two_pow_sub_one_eq_mod]
theorem al1(n:Nat)(hn:n<18446744073709551616):u64.wrap (BitVec.toNat (BitVec.ofInt 64 (n:Int)&&&BitVec.ofInt 64 65535))=((n%65536:Nat):Int):=by
 rw[show(65535:Int)=((2^16-1:Nat):Int) from rfl,abF n 16 hn (by decide),arj]
 omega
theorem OD(n:Nat)(hn:n<18446744073709551616):u64.wrap (BitVec.toNat (BitVec.ofInt 64 (n:Int)&&&BitVec.ofInt 64 4294967295))=((n%4294967296:Nat):Int):=by
 rw[show(4294967295:Int)=((2^32-1:Nat):Int) from rfl,abF n 32 hn (by decide),arj]
 omega
theorem apI{h l:Nat}(hh:h<65536)(hl:l<281474976710656):u64.wrap (BitVec.toNat (BitVec.ofInt 64 (u64.wrap ((h:Int)*281474976710656)) ||| BitVec.ofInt 64 (l:Int)))=((h*281474976710656+l:Nat):Int):=by
 rw[BitVec.toNat_or,BitVec.toNat_ofInt,BitVec.toNat_ofInt,arj,arj]
 have e1:((h:Int)*281474976710656%18446744073709551616%((2^64:Nat):Int)).toNat=h <<< 48:=by
  rw[Nat.shiftLeft_eq]
  omega
 have e2:((l:Int)%((2^64:Nat):Int)).toNat=l:=by omega
 rw[e1,e2,←Nat.shiftLeft_add_eq_or_of_lt (by omega),Nat.shiftLeft_eq]
 omega
def scP(x y:Int):Prop:=x.natAbs≤2305843009213693952∧y.natAbs≤2305843009213693952
instance (x y:Int):Decidable (scP x y):=by unfold scP;infer_instance
def Aq(n:Int):Prop:=0≤n∧n≤2305843009213693952
instance (n:Int):Decidable (Aq n):=by unfold Aq;infer_instance
def ais:Ctx:=CX [] []
def acS(x y:Int)(_k:KT):Option (List RV):=match decide (x<(-2305843009213693952))with|true=>some [RV.d tG (0,0),RV.d .bool false]|false=>(match decide (y>2305843009213693952)with|true=>some [RV.d tG (0,0),RV.d .bool false]|false=>some [RV.d tG (x,y),RV.d .bool true])
theorem akp(x y:Int):RS ais 294 [SI x,SI y] (acS x y):=rsX
theorem YT(x y:Int):Con Tryz.prog 294 [.d atB x,.d atB y] [.d tG ((kg x y).1),.d .bool ((kg x y).2)]:=by
 refine aN (E:=[]) trivial (akp _ _ ⟨0,?_⟩)
 unfold acS kg
 cases decide (x< -2305843009213693952)
 ·cases decide (y>2305843009213693952)<;>rfl
 ·rfl
def zs:aM:=spN false true [tR] (fun x=>decide (okR x.1)) (fun x=>[RV.d tI (hid (ai (ab x.1).floor))])
theorem tC:SpK 296 zs:=spX fun x h=>by simp only[aj];exact Wn x.1 (aqr h)
def EN:aM:=spN true true [tI] (fun x=>decide (okI x.1)) (fun x=>[RV.d atB (bif decide (aX (ae x.1))then ae x.1 else 0),RV.d .bool (decide (aX (ae x.1)))])
theorem AX:SpK 295 EN:=spX fun x h=>Yc x.1 (aqr h)
def EG:aM:=spN false true [tI] (fun x=>decide (okI x.1)) (fun x=>[RV.d tI (hid (ai (-ae x.1)))])
theorem Cz:SpK 254 EG:=spX fun x h=>by simp only[aj];exact Ig x.1 (aqr h)
def An:aM:=spN false true [atB,atB] (fun _=>true) (fun x=>[RV.d tG (hid ((kg x.1 x.2.1).1)),RV.d .bool ((kg x.1 x.2.1).2)])
theorem vX:SpK 294 An:=spX fun x _=>by simp only[aj];exact YT x.1 x.2.1
def tB:Env:=[(76,gT),(148,gU),(202,lS),(296,zs),(295,EN),(254,EG),(294,An)]
theorem jY:EnvAll Tryz.prog tB:=⟨eI,eH,iO,tC,AX,Cz,vX,trivial⟩
def aln:Ctx:=CX tB []
def abx(a:BR)(_k:KT):Option (List RV):=let y1:=hid (ag ((65536:Int):Rat));let y2:=hid (ag (ab a*ab y1));let y3:=hid (ai (ab y2).floor);let y4:=hid (ag (-ab y2));let y5:=hid (ai (ab y4).floor);let y6:=hid (ai (-ae y5));let y7:=kg (bif decide (aX (ae y3))then ae y3 else 0) (bif decide (aX (ae y6))then ae y6 else 0);match decide (aX (65536:Int))with|true=>(match decide (okR a∧okR y1)with|true=>(match decide (okR y2)with|true=>(match decide (okI y3)with|true=>(match decide (okR y2)with|true=>(match decide (okR y4)with|true=>(match decide (okI y5)with|true=>(match decide (okI y6)with|true=>(match !(decide (aX (ae y3)))with|true=>some [RV.d tG (0,0),RV.d .bool false]|false=>(match !(decide (aX (ae y6)))with|true=>some [RV.d tG (0,0),RV.d .bool false]|false=>some [RV.d tG (hid (y7.1)),RV.d .bool (y7.2)]))|false=>none)|false=>none)|false=>none)|false=>none)|false=>none)|false=>none)|false=>none)|false=>none
theorem aiF(a:BR):RS aln 281 [.d tR a] (abx a):=rsX
theorem X1(a:BR)(h:ok Rat 200000 a):Con Tryz.prog 281 [.d tR a] [.d tG ((frF (ab a)).1),.d .bool ((frF (ab a)).2)]:=by
 refine aN jY (aiF _ ⟨0,?_⟩)
 have ha:=h
 obtain⟨a,rfl,ba⟩:=aQ ha
 have hk:=ap2
 have h6:aX 65536:=by decide
 have f1:=P4 (inferInstance:Bd (a*65536) _) (by decide)
 have f2:=P4 (inferInstance:Bd (-(a*65536)) _) (by decide)
 unfold abx
 simp only[aeN,aj,aA,av,aT,aqv,aqw,Nat.reduceAdd,Nat.reduceLeDiff,dec_enc,dT h6,dT f1.1,dT f2.1,dT f2.2]
 unfold frF
 cases e1:decide (aX (a*65536).floor)
 ·rfl
 ·cases e2:decide (aX (-(-(a*65536)).floor))
  ·rfl
  ·rfl
def amt:Ctx:=CX tB []
def aa2(a b:(Int×Int))(_k:KT):Option (List RV):=some [RV.d tG (hid ((kg (i64.wrap (a.1+b.1)) (i64.wrap (a.2+b.2))).1)),RV.d .bool ((kg (i64.wrap (a.1+b.1)) (i64.wrap (a.2+b.2))).2)]
theorem alb(a b:(Int×Int)):RS amt 283 [.d tG a,.d tG b] (aa2 a b):=rsX
theorem Yu(a b:(Int×Int))(h:prI a∧prI b):Con Tryz.prog 283 [.d tG a,.d tG b] [.d tG ((cV a b).1),.d .bool ((cV a b).2)]:=by
 refine aN jY (alb _ _ ⟨0,?_⟩)
 obtain⟨⟨a1,a2,a3⟩,⟨b1,b2,b3⟩⟩:=h
 unfold aa2 cV
 rw[bi (by omega) (by omega),bi (by omega) (by omega)]
 simp only[aj]
def anA:Ctx:=CX tB []
def abo(a:(Int×Int))(_k:KT):Option (List RV):=some [RV.d tG (i64.wrap (0-a.2),i64.wrap (0-a.1))]
theorem aoB(a:(Int×Int)):RS anA 290 [.d tG a] (abo a):=rsX
theorem Xe(a:(Int×Int))(h:prI a):Con Tryz.prog 290 [.d tG a] [.d tG (jn a)]:=by
 refine aN jY (aoB _ ⟨0,?_⟩)
 obtain⟨a1,a2,a3⟩:=h
 unfold abo jn
 rw[bi (by omega) (by omega),bi (by omega) (by omega),asp,asp]
def anN:Ctx:=CX tB []
def acl(n:Int)(_k:KT):Option (List RV):=match decide (n<0)with|true=>some [RV.d (.int .u64) (u64.wrap (0-(u64.wrap n)))]|false=>some [RV.d (.int .u64) (u64.wrap n)]
theorem amc(n:Int):RS anN 303 [SI n] (acl n):=rsX
theorem Wz(n:Int)(h:aX n):Con Tryz.prog 303 [.d atB n] [.d (.int .u64) (n.natAbs:Int)]:=by
 refine aN jY (amc _ ⟨0,?_⟩)
 obtain⟨h1,h2⟩:=h
 unfold acl
 rw[arj,arj]
 by_cases hn:n<0
 ·rw[aqs hn,show(0-n%18446744073709551616)%18446744073709551616=(n.natAbs:Int) by omega]
 ·rw[aqu hn,show n%18446744073709551616=(n.natAbs:Int) by omega]
def aoJ:Ctx:=CX tB []
def adC(x y:Int)(_k:KT):Option (List RV):=match decide (32<(0:Int))with|true=>none|false=>(match decide (32<(0:Int))with|true=>none|false=>(match decide (32<(0:Int))with|true=>none|false=>(match decide (32<(0:Int))with|true=>none|false=>(match decide (32<(0:Int))with|true=>none|false=>some [RV.d (.int .u64) (u64.wrap ((u64.wrap ((u64.wrap ((Int.fdiv x (2^(min (32:Int).toNat 64)))*(Int.fdiv y (2^(min (32:Int).toNat 64)))))+(Int.fdiv (u64.wrap ((u64.wrap ((Int.fdiv x (2^(min (32:Int).toNat 64)))*(u64.wrap (BitVec.toNat (BitVec.ofInt 64 y&&&BitVec.ofInt 64 4294967295)))))+(Int.fdiv (u64.wrap ((u64.wrap (BitVec.toNat (BitVec.ofInt 64 x&&&BitVec.ofInt 64 4294967295)))*(u64.wrap (BitVec.toNat (BitVec.ofInt 64 y&&&BitVec.ofInt 64 4294967295))))) (2^(min (32:Int).toNat 64))))) (2^(min (32:Int).toNat 64)))))+(Int.fdiv (u64.wrap ((u64.wrap (BitVec.toNat (BitVec.ofInt 64 (u64.wrap ((u64.wrap ((Int.fdiv x (2^(min (32:Int).toNat 64)))*(u64.wrap (BitVec.toNat (BitVec.ofInt 64 y&&&BitVec.ofInt 64 4294967295)))))+(Int.fdiv (u64.wrap ((u64.wrap (BitVec.toNat (BitVec.ofInt 64 x&&&BitVec.ofInt 64 4294967295)))*(u64.wrap (BitVec.toNat (BitVec.ofInt 64 y&&&BitVec.ofInt 64 4294967295))))) (2^(min (32:Int).toNat 64)))))&&&BitVec.ofInt 64 4294967295)))+(u64.wrap ((u64.wrap (BitVec.toNat (BitVec.ofInt 64 x&&&BitVec.ofInt 64 4294967295)))*(Int.fdiv y (2^(min (32:Int).toNat 64))))))) (2^(min (32:Int).toNat 64))))),RV.d (.int .u64) (u64.wrap (x*y))]))))
theorem anH(x y:Int):RS aoJ 302 [.d (.int .u64) x,.d (.int .u64) y] (adC x y):=rsX
theorem W5(x y:Int)(h:fw x∧fw y):Con Tryz.prog 302 [.d (.int .u64) x,.d (.int .u64) y] [.d (.int .u64) (x*y/18446744073709551616),.d (.int .u64) (x*y%18446744073709551616)]:=by
 refine aN jY (anH _ _ ⟨0,?_⟩)
 obtain⟨h1,h2⟩:=h
 obtain⟨X,rfl⟩:=arG h1.1
 obtain⟨Y,rfl⟩:=arG h2.1
 have hX:X<18446744073709551616:=by have:=h1.2;omega
 have hY:Y<18446744073709551616:=by have:=h2.2;omega
 have wn:∀n:Nat,n<18446744073709551616→u64.wrap (n:Int)=(n:Int):=fun n hn=>by rw[arj];omega
 have eX:(X:Int)/4294967296=((X/4294967296:Nat):Int):=by omega
 have eY:(Y:Int)/4294967296=((Y/4294967296:Nat):Int):=by omega
 unfold adC
 simp only[p32,fdv (show(0:Int)≤4294967296 by decide),OD X hX,OD Y hY,eX,eY]
 have hXY:X*Y=X/4294967296*(Y/4294967296)*18446744073709551616+(X/4294967296*(Y%4294967296)+X%4294967296*(Y/4294967296))*4294967296+X%4294967296*(Y%4294967296):=by
  have a:=Nat.div_add_mod X 4294967296
  have b:=Nat.div_add_mod Y 4294967296
  generalize X/4294967296=x1 at*
  generalize X%4294967296=x0 at*
  generalize Y/4294967296=y1 at*
  generalize Y%4294967296=y0 at*
  subst a b
  grind
 have x0:X%4294967296≤4294967295:=by omega
 have y0:Y%4294967296≤4294967295:=by omega
 have x1:X/4294967296≤4294967295:=by omega
 have y1:Y/4294967296≤4294967295:=by omega
 have q00:=asH x0 y0
 have q10:=asH x1 y0
 have q01:=asH x0 y1
 have q11:=asH x1 y1
 simp only[←arQ]
 rw[hXY]
 generalize X%4294967296*(Y%4294967296)=p00 at*
 generalize X/4294967296*(Y%4294967296)=p10 at*
 generalize X%4294967296*(Y/4294967296)=p01 at*
 generalize X/4294967296*(Y/4294967296)=p11 at*
 have t0:u64.wrap (u64.wrap (p10:Int)+u64.wrap (p00:Int)/4294967296)=((p10+p00/4294967296:Nat):Int):=by
  rw[wn p10 (by omega),wn p00 (by omega),show(p10:Int)+(p00:Int)/4294967296=((p10+p00/4294967296:Nat):Int) by omega,wn _ (by omega)]
 rw[t0,OD _ (by omega)]
 have t1:u64.wrap (((p10+p00/4294967296)%4294967296:Nat)+u64.wrap (p01:Int))=(((p10+p00/4294967296)%4294967296+p01:Nat):Int):=by
  rw[wn p01 (by omega),←Int.natCast_add,wn _ (by omega)]
 rw[t1,wn p11 (by omega)]
 rw[aqu (show ¬(32:Int)<0 by decide)]
 dsimp only
 have hi:u64.wrap (u64.wrap ((p11:Int)+((p10+p00/4294967296:Nat):Int)/4294967296)+(((p10+p00/4294967296)%4294967296+p01:Nat):Int)/4294967296)=((p11*18446744073709551616+(p10+p01)*4294967296+p00:Nat):Int)/18446744073709551616:=by
  rw[arj,arj]
  omega
 rw[hi,arj]
def Az:aM:=spN false true [atB] (fun x=>decide (aX x.1)) (fun x=>[RV.d (.int .u64) (hid ((x.1.natAbs:Int)))])
theorem uF:SpK 303 Az:=spX fun x h=>by simp only[aj];exact Wz x.1 (aqr h)
def Aj:aM:=spN false true [(.int .u64),(.int .u64)] (fun x=>decide (fw x.1∧fw x.2.1)) (fun x=>[RV.d (.int .u64) (hid (x.1*x.2.1/18446744073709551616)),RV.d (.int .u64) (hid (x.1*x.2.1%18446744073709551616))])
theorem uU:SpK 302 Aj:=spX fun x h=>by simp only[aj];exact W5 x.1 x.2.1 (aqr h)
def aaK:Env:=(303,Az)::(302,Aj)::tB
theorem Qv:EnvAll Tryz.prog aaK:=⟨uF,uU,jY⟩
def ajS:Ctx:=CX aaK []
def abT(x y:Int)(_k:KT):Option (List RV):=let y1:=hid ((x.natAbs:Int));let y2:=hid ((y.natAbs:Int));let y3:=hid (y1*y2/18446744073709551616);let y4:=hid (y1*y2%18446744073709551616);let y5:=u64.wrap (BitVec.toNat (BitVec.ofInt 64 (u64.wrap (y3*2^(min (48:Int).toNat 64))) ||| BitVec.ofInt 64 (Int.fdiv y4 (2^(min (16:Int).toNat 64)))));let y6:=i64.wrap y5;let y7:=i64.wrap (y6+1);let y8:=i64.wrap (0-y7);let y9:=i64.wrap (0-y6);let y10:=decide (y9≤2305843009213693952);match decide (aX x)with|true=>(match decide (aX y)with|true=>(match decide (fw y1∧fw y2)with|true=>(match decide (16<(0:Int))with|true=>none|false=>(match(Int.fdiv y3 (2^(min (16:Int).toNat 64))) !=0 with|true=>some [RV.d atB 0,RV.d atB 0,RV.d .bool false]|false=>(match decide (48<(0:Int))with|true=>none|false=>(match decide (16<(0:Int))with|true=>none|false=>(match decide (y5>2305843009213693952)with|true=>some [RV.d atB 0,RV.d atB 0,RV.d .bool false]|false=>(match(u64.wrap (BitVec.toNat (BitVec.ofInt 64 y4&&&BitVec.ofInt 64 65535))) !=0 with|true=>(match !((decide (x<0))==(decide (y<0)))with|true=>(match decide (y8≥(-2305843009213693952))with|true=>some [RV.d atB y8,RV.d atB y9,RV.d .bool y10]|false=>some [RV.d atB y8,RV.d atB y9,RV.d .bool false])|false=>(match decide (y6≥(-2305843009213693952))with|true=>some [RV.d atB y6,RV.d atB y7,RV.d .bool (decide (y7≤2305843009213693952))]|false=>some [RV.d atB y6,RV.d atB y7,RV.d .bool false]))|false=>(match !((decide (x<0))==(decide (y<0)))with|true=>(match decide (y9≥(-2305843009213693952))with|true=>some [RV.d atB y9,RV.d atB y9,RV.d .bool y10]|false=>some [RV.d atB y9,RV.d atB y9,RV.d .bool false])|false=>(match decide (y6≥(-2305843009213693952))with|true=>some [RV.d atB y6,RV.d atB y6,RV.d .bool (decide (y6≤2305843009213693952))]|false=>some [RV.d atB y6,RV.d atB y6,RV.d .bool false]))))))))|false=>none)|false=>none)|false=>none
theorem ajz(x y:Int):RS ajS 297 [SI x,SI y] (abT x y):=rsX
theorem YR(x y:Int)(h:scP x y):Con Tryz.prog 297 [.d atB x,.d atB y] [.d atB ((scF x y).1.1),.d atB ((scF x y).1.2),.d .bool ((scF x y).2)]:=by
 refine aN Qv (ajz _ _ ⟨0,?_⟩)
 obtain⟨hx,hy⟩:=h
 have h1:aX x:=⟨by omega,by omega⟩
 have h2:aX y:=⟨by omega,by omega⟩
 have h3:fw (x.natAbs:Int)∧fw (y.natAbs:Int):=⟨⟨by omega,by omega⟩,⟨by omega,by omega⟩⟩
 unfold abT scF
 simp only[aj]
 rw[dT h1,dT h2,dT h3]
 have hp:=asH hx hy
 simp only[←arQ,p16,p48,fdv (show(0:Int)≤65536 by decide)]
 generalize x.natAbs*y.natAbs=p at*
 rw[aqu (show ¬(16:Int)<0 by decide),aqu (show ¬(48:Int)<0 by decide),show(p:Int)/18446744073709551616=((p/18446744073709551616:Nat):Int) by omega,show(p:Int)%18446744073709551616=((p%18446744073709551616:Nat):Int) by omega,show((p%18446744073709551616:Nat):Int)/65536=((p%18446744073709551616/65536:Nat):Int) by omega,al1 _ (by omega),show p%18446744073709551616%65536=p%65536 by omega]
 by_cases hc:p≥1208925819614629174706176
 ·rw[aqs hc,show(((p/18446744073709551616:Nat):Int)/65536 !=0)=true by simp;omega]
  rfl
 ·rw[aqu hc,show(((p/18446744073709551616:Nat):Int)/65536 !=0)=false by simp;omega,apI (by omega) (by omega),show p/18446744073709551616*281474976710656+p%18446744073709551616/65536=p/65536 by omega]
  have hdm:=Nat.div_add_mod p 65536
  have hml:=as9 p (show 65536>0 by decide)
  have hru:(p+65535)/65536=if p%65536=0 then p/65536 else p/65536+1:=by split<;>omega
  rw[hru]
  clear hru
  generalize p/65536=q at*
  generalize p%65536=m at*
  have e1:decide ((q:Int)>2305843009213693952)=decide (q>2305843009213693952):=aq6.2 (by omega)
  rw[e1]
  by_cases hd:q>2305843009213693952
  ·rw[aqs hd]
   rfl
  rw[aqu hd,bi (x:=(q:Int)) (by omega) (by omega),bi (x:=(q:Int)+1) (by omega) (by omega),bi (x:=0-(q:Int)) (by omega) (by omega),bi (x:=0-((q:Int)+1)) (by omega) (by omega)]
  have e2:((m:Int) !=0)=!decide (m=0):=by by_cases h:m=0<;>simp[h]
  have e3:decide (0-(q:Int)≥ -2305843009213693952)=true:=aqs (by omega)
  have e4:decide (0-(q:Int)≤2305843009213693952)=true:=aqs (by omega)
  have e5:decide ((q:Int)≥ -2305843009213693952)=true:=aqs (by omega)
  have e6:decide ((q:Int)≤2305843009213693952)=true:=aqs (by omega)
  have e7:decide (0-((q:Int)+1)≥ -2305843009213693952)=decide (q+1≤2305843009213693952):=aq6.2 (by omega)
  have e8:decide ((q:Int)+1≤2305843009213693952)=decide (q+1≤2305843009213693952):=aq6.2 (by omega)
  have e9:decide (q≤2305843009213693952)=true:=aqs (by omega)
  rw[e2,e3,e4,e5,e6,e7,e8]
  have f2:((q+1:Nat):Int)=(q:Int)+1:=by omega
  have f3:decide (m=0)=true→m=0:=aqr
  have f4:decide (m=0)=false→m≠0:=arw
  generalize decide (m=0)=d2 at*
  generalize (decide (x<0)==decide (y<0))=d3 at*
  cases d2
  ·rw[aqQ (f4 rfl),f2]
   generalize decide (q+1≤2305843009213693952)=d4 at*
   cases d3<;>cases d4<;>simp
  ·rw[aqW (f3 rfl),e9]
   cases d3<;>simp
def bJ(r:Rt):Iv×Bool:=
 bif !(frF r.1).2||decide (r.2.1=0)then frF r.1
 else bif !(frF r.2.1).2||!(frF r.2.2).2||decide (r.2.2<0)then(iv0,false)
 else bif !(sqF (frF r.2.2).1).2 then(iv0,false)
 else bif !(cr (frF r.2.1).1 (sqF (frF r.2.2).1).1).2 then(iv0,false)
 else cV (frF r.1).1 (cr (frF r.2.1).1 (sqF (frF r.2.2).1).1).1
def gb(n:Rat)(a:Iv)(k:Bool):Iv×Bool:=bif !k||!(frF n).2 then(iv0,false)else cr (frF n).1 a
def apF(a b:Rt):Int×Bool:=
 bif !(bJ a).2||!(bJ b).2 then(0,false)else bif decide ((bJ a).1.2<(bJ b).1.1)then(-1,true)else bif decide ((bJ a).1.1>(bJ b).1.2)then(1,true)else(0,false)
abbrev Pt:=Rat×Rat×Rat×Rat×Rat
abbrev Ln:=Rat×Rat×Rat
def pxR(p:Pt):Rt:=(p.1,p.2.1,p.2.2.2.2)
def pyR(p:Pt):Rt:=(p.2.2.1,p.2.2.2.1,p.2.2.2.2)
def qs(l:Ln)(p:Pt):Int×Bool:=
 bif !(gb l.1 (bJ (pxR p)).1 (bJ (pxR p)).2).2||!(gb l.2.1 (bJ (pyR p)).1 (bJ (pyR p)).2).2||!(frF l.2.2).2 then(0,false)
 else bif !(cV (gb l.1 (bJ (pxR p)).1 (bJ (pxR p)).2).1 (gb l.2.1 (bJ (pyR p)).1 (bJ (pyR p)).2).1).2 then(0,false)
 else bif !(cV (cV (gb l.1 (bJ (pxR p)).1 (bJ (pxR p)).2).1 (gb l.2.1 (bJ (pyR p)).1 (bJ (pyR p)).2).1).1 (jn (frF l.2.2).1)).2 then(0,false)
 else sgF (cV (cV (gb l.1 (bJ (pxR p)).1 (bJ (pxR p)).2).1 (gb l.2.1 (bJ (pyR p)).1 (bJ (pyR p)).2).1).1 (jn (frF l.2.2).1)).1
def dV(r:Rt)(q:Rat):Iv×Bool:=bif !(bJ r).2||!(frF q).2 then(iv0,false)else cV (bJ r).1 (jn (frF q).1)
def oB(c:Ln)(p:Pt):Int×Bool:=
 bif !(dV (pxR p) c.1).2||!(dV (pyR p) c.2.1).2||!(frF c.2.2).2 then(0,false)
 else bif !(cr (dV (pxR p) c.1).1 (dV (pxR p) c.1).1).2||!(cr (dV (pyR p) c.2.1).1 (dV (pyR p) c.2.1).1).2 then(0,false)
 else bif !(cV (cr (dV (pxR p) c.1).1 (dV (pxR p) c.1).1).1 (cr (dV (pyR p) c.2.1).1 (dV (pyR p) c.2.1).1).1).2 then(0,false)
 else bif !(cV (cV (cr (dV (pxR p) c.1).1 (dV (pxR p) c.1).1).1 (cr (dV (pyR p) c.2.1).1 (dV (pyR p) c.2.1).1).1).1 (jn (frF c.2.2).1)).2 then(0,false)
 else sgF (cV (cV (cr (dV (pxR p) c.1).1 (dV (pxR p) c.1).1).1 (cr (dV (pyR p) c.2.1).1 (dV (pyR p) c.2.1).1).1).1 (jn (frF c.2.2).1)).1
def sfF(m:Rat):Iv:=(sqF (frF m).1).1
def mfF(b:Rat)(i:Iv):Iv:=(cr (frF b).1 i).1
def qu1(q:Qd):Bool:=(frF q.2.2.2.2.1).2&&(sqF (frF q.2.2.2.2.1).1).2&&(frF q.2.2.2.2.2).2&&(sqF (frF q.2.2.2.2.2).1).2
def qu2(q:Qd):Bool:=(frF q.2.1).2&&(cr (frF q.2.1).1 (sfF q.2.2.2.2.1)).2&&(frF q.2.2.1).2&&(cr (frF q.2.2.1).1 (sfF q.2.2.2.2.2)).2&&(frF q.2.2.2.1).2&&(cr (sfF q.2.2.2.2.1) (sfF q.2.2.2.2.2)).2&&(cr (frF q.2.2.2.1).1 (cr (sfF q.2.2.2.2.1) (sfF q.2.2.2.2.2)).1).2
def quA(q:Qd):Iv×Bool:=cV (frF q.1).1 (mfF q.2.1 (sfF q.2.2.2.2.1))
def quB(q:Qd):Iv×Bool:=cV (mfF q.2.2.1 (sfF q.2.2.2.2.2)) (mfF q.2.2.2.1 (cr (sfF q.2.2.2.2.1) (sfF q.2.2.2.2.2)).1)
def qu3(q:Qd):Bool:=(frF q.1).2&&(quA q).2&&(quB q).2&&(cV (quA q).1 (quB q).1).2
def quF(q:Qd):Int×Bool:=bif !(qu1 q)then(0,false)else bif !(qu2 q)then(0,false)else bif !(qu3 q)then(0,false)else sgF (cV (quA q).1 (quB q).1).1
theorem tJ(r:Rt):prI (bJ r).1:=by
 unfold bJ
 cases !(frF r.1).2||decide (r.2.1=0)
 ·cases !(frF r.2.1).2||!(frF r.2.2).2||decide (r.2.2<0)
  ·cases !(sqF (frF r.2.2).1).2
   ·cases !(cr (frF r.2.1).1 (sqF (frF r.2.2).1).1).2
    ·exact RE.addF_pr (RE.frF_pr _) (oq _ _)
    ·exact eD
   ·exact eD
  ·exact eD
 ·exact RE.frF_pr _
theorem Za(n:Rat)(a:Iv)(k:Bool):prI (gb n a k).1:=by
 unfold gb
 cases !k||!(frF n).2
 ·exact oq _ _
 ·exact eD
theorem YV(r:Rt)(q:Rat):prI (dV r q).1:=by
 unfold dV
 cases !(bJ r).2||!(frF q).2
 ·exact RE.addF_pr (tJ _) (RE.negF_pr (RE.frF_pr _))
 ·exact eD
namespace RE
theorem lK{r:Rt}(h:(bJ r).2=true):inI (bJ r).1 (v2 r.1 r.2.1 r.2.2):=by
 unfold bJ at h ⊢
 cases e1:(frF r.1).2
 ·rw[e1]at h
  simp only[Bool.not_false,Bool.true_or,cond_true]at h
  rw[e1]at h
  cases h
 ·rw[e1]at h
  by_cases hb:r.2.1=0
  ·rw[aqs hb]at h ⊢
   simp only[Bool.not_true,Bool.false_or,cond_true]
   unfold v2
   rw[hb,Gn,zero_mul,add_zero]
   exact fO e1
  ·rw[aqu hb]at h ⊢
   cases e2:(frF r.2.1).2<;>cases e3:(frF r.2.2).2<;>cases e4:decide (r.2.2<0)<;>rw[e2,e3,e4]at h<;>try (cases h;done)
   cases e5:(sqF (frF r.2.2).1).2<;>rw[e5]at h<;>try (cases h;done)
   cases e6:(cr (frF r.2.1).1 (sqF (frF r.2.2).1).1).2<;>rw[e6]at h<;>try (cases h;done)
   have hn:(0:RE)≤of r.2.2:=lT.2 (by have:=arw e4;grind)
   exact hZ (fO e1) (jg (fO e2) (ve (fO e3) hn e5) e6) h
theorem HB{n:Rat}{a:Iv}{k:Bool}{x:RE}(ha:k=true→inI a x)(h:(gb n a k).2=true):inI (gb n a k).1 (of n*x):=by
 unfold gb at h ⊢
 cases k
 ·cases h
 ·cases e:(frF n).2<;>rw[e]at h
  ·cases h
  ·exact jg (fO e) (ha rfl) h
theorem Is{r:Rt}{q:Rat}(h:(dV r q).2=true):inI (dV r q).1 (v2 r.1 r.2.1 r.2.2+ -of q):=by
 unfold dV at h ⊢
 cases e1:(bJ r).2<;>cases e2:(frF q).2<;>rw[e1,e2]at h<;>try (cases h;done)
 exact hZ (lK e1) (Ag (fO e2)) h
theorem KC(x y:RE):((y-(x)))+((x-y-(0)))=0:=by
 induction x using aqq
 induction y using aqq
 exact snd fun n=>by
  simp only[RL.add,RL.neg,RL.const]
  grind
theorem WY(x y:RE)(h1:x<y):x-y<0:=gS.1 fun hg=>far (aU (a8 h1) (aR hg)) (KC x y)
theorem akO(u x y a b:RE):((b-(a)))+((a-(u*x)))+((u*y-(b)))+((u-(0))*(x-(y)))=0:=by
 induction u using aqq
 induction x using aqq
 induction y using aqq
 induction a using aqq
 induction b using aqq
 exact snd fun n=>by
  simp only[RL.add,RL.mul,RL.neg,RL.const]
  grind
theorem ap1(u x y a b:RE)(h1:0<u)(h2:u*x≤a)(h3:a<b)(h4:b≤u*y):x<y:=gS.1 fun hg=>far (aU (aU (aU (a8 h3) (aR h2)) (aR h4)) (cD (le_of_lt (a8 h1)) (aR hg))) (akO u x y a b)
theorem apF_ok{a b:Rt}(h:(apF a b).2=true):(apF a b).1=sg (vR a-vR b):=by
 unfold apF at h ⊢
 cases e1:(bJ a).2<;>cases e2:(bJ b).2<;>rw[e1,e2]at h<;>try (cases h;done)
 obtain⟨a1,a2⟩:=lK e1
 obtain⟨b1,b2⟩:=lK e2
 cases e3:decide ((bJ a).1.2<(bJ b).1.1)<;>rw[e3]at h
 ·cases e4:decide ((bJ a).1.1>(bJ b).1.2)<;>rw[e4]at h
  ·cases h
  ·have h4:of ((bJ b).1.2:Rat)<of ((bJ a).1.1:Rat):=jM (asJ.2 (aqr e4))
   exact(gN (a8 (ap1 _ _ _ _ _ kW b2 h4 a1))).symm
 ·have h4:of ((bJ a).1.2:Rat)<of ((bJ b).1.1:Rat):=jM (asJ.2 (aqr e3))
  exact(jO (WY _ _ (ap1 _ _ _ _ _ kW a2 h4 b1))).symm
theorem WJ{l:Ln}{p:Pt}(h:(qs l p).2=true):(qs l p).1=sg (of l.1*v2 p.1 p.2.1 p.2.2.2.2+of l.2.1*v2 p.2.2.1 p.2.2.2.1 p.2.2.2.2+ -of l.2.2):=by
 unfold qs at h ⊢
 cases e1:(gb l.1 (bJ (pxR p)).1 (bJ (pxR p)).2).2<;>cases e2:(gb l.2.1 (bJ (pyR p)).1 (bJ (pyR p)).2).2<;>cases e3:(frF l.2.2).2<;>rw[e1,e2,e3]at h<;>try (cases h;done)
 have i1:=HB (x:=v2 p.1 p.2.1 p.2.2.2.2) (fun e=>lK (r:=pxR p) e) e1
 have i2:=HB (x:=v2 p.2.2.1 p.2.2.2.1 p.2.2.2.2) (fun e=>lK (r:=pyR p) e) e2
 revert h i1 i2
 generalize gb l.1 (bJ (pxR p)).1 (bJ (pxR p)).2=X
 generalize gb l.2.1 (bJ (pyR p)).1 (bJ (pyR p)).2=Y
 intro h i1 i2
 cases e4:(cV X.1 Y.1).2<;>rw[e4]at h<;>try (cases h;done)
 cases e5:(cV (cV X.1 Y.1).1 (jn (frF l.2.2).1)).2<;>rw[e5]at h<;>try (cases h;done)
 exact DF (hZ (hZ i1 i2 e4) (Ag (fO e3)) e5) h
theorem Xh{c:Ln}{p:Pt}(h:(oB c p).2=true):(oB c p).1=sg ((v2 p.1 p.2.1 p.2.2.2.2+ -of c.1)*(v2 p.1 p.2.1 p.2.2.2.2+ -of c.1)+(v2 p.2.2.1 p.2.2.2.1 p.2.2.2.2+ -of c.2.1)*(v2 p.2.2.1 p.2.2.2.1 p.2.2.2.2+ -of c.2.1)+ -of c.2.2):=by
 unfold oB at h ⊢
 cases e1:(dV (pxR p) c.1).2<;>cases e2:(dV (pyR p) c.2.1).2<;>cases e3:(frF c.2.2).2<;>rw[e1,e2,e3]at h<;>try (cases h;done)
 have i1:=Is e1
 have i2:=Is e2
 revert h
 generalize dV (pxR p) c.1=X at*
 generalize dV (pyR p) c.2.1=Y at*
 intro h
 cases e4:(cr X.1 X.1).2<;>cases e5:(cr Y.1 Y.1).2<;>rw[e4,e5]at h<;>try (cases h;done)
 cases e6:(cV (cr X.1 X.1).1 (cr Y.1 Y.1).1).2<;>rw[e6]at h<;>try (cases h;done)
 cases e7:(cV (cV (cr X.1 X.1).1 (cr Y.1 Y.1).1).1 (jn (frF c.2.2).1)).2<;>rw[e7]at h<;>try (cases h;done)
 exact DF (hZ (hZ (jg i1 i1 e4) (jg i2 i2 e5) e6) (Ag (fO e3)) e7) h
theorem aob(a b c d:RE):a+b+(c+d)=a+b+c+d:=by
 induction a using aqq
 induction b using aqq
 induction c using aqq
 induction d using aqq
 exact snd fun n=>by
  simp only[RL.add]
  grind
theorem quF_ok{q:Qd}(hM:0≤q.2.2.2.2.1)(hN:0≤q.2.2.2.2.2)(h:(quF q).2=true):(quF q).1=sg (vQ q.1 q.2.1 q.2.2.1 q.2.2.2.1 q.2.2.2.2.1 q.2.2.2.2.2):=by
 unfold quF at h ⊢
 cases e1:qu1 q<;>rw[e1]at h<;>try (cases h;done)
 cases e2:qu2 q<;>rw[e2]at h<;>try (cases h;done)
 cases e3:qu3 q<;>rw[e3]at h<;>try (cases h;done)
 unfold qu1 at e1
 unfold qu2 at e2
 unfold qu3 at e3
 simp only[aqB]at e1 e2 e3
 obtain⟨⟨⟨a1,a2⟩,a3⟩,a4⟩:=e1
 obtain⟨⟨⟨⟨⟨⟨b1,b2⟩,b3⟩,b4⟩,b5⟩,b6⟩,b7⟩:=e2
 obtain⟨⟨⟨c1,c2⟩,c3⟩,c4⟩:=e3
 have i1:inI (sfF q.2.2.2.2.1) (rq q.2.2.2.2.1):=ve (fO a1) (lT.2 hM) a2
 have i2:inI (sfF q.2.2.2.2.2) (rq q.2.2.2.2.2):=ve (fO a3) (lT.2 hN) a4
 have hq:inI (cV (quA q).1 (quB q).1).1 (vQ q.1 q.2.1 q.2.2.1 q.2.2.2.1 q.2.2.2.2.1 q.2.2.2.2.2):=by
  have:=hZ (hZ (fO c1) (jg (fO b1) i1 b2) c2) (hZ (jg (fO b3) i2 b4) (jg (fO b5) (jg i1 i2 b6) b7) c3) c4
  rw[aob]at this
  exact this
 exact DF hq h
end RE
theorem MW{z:Int}(h:aX z):okI (ai z):=bk (by have:=gX h;omega)
theorem F0{n:Int}(h:Aq n):0≤dl n∧dl n≤2305843009213693952:=by
 obtain⟨h0,h1⟩:=h
 unfold dl
 obtain⟨g0,g1,g2⟩:=fa (z:=n*65536) (by omega)
 refine⟨g0,?_⟩
 rcases aqX 2305843009213693952 (bK (n*65536))with h|h
 ·have:2305843009213693952*2305843009213693952≤bK (n*65536)*bK (n*65536):=asr (by omega) (by omega) (by omega) (by omega)
  omega
 ·exact h
theorem M6{a b:Iv}(ha:prI a)(hb:prI b){x y:Int}(hx:x=a.1∨x=a.2)(hy:y=b.1∨y=b.2):scP x y:=by
 obtain⟨a1,a2,a3⟩:=ha
 obtain⟨b1,b2,b3⟩:=hb
 constructor
 ·rcases hx with rfl|rfl<;>omega
 ·rcases hy with rfl|rfl<;>omega
theorem aoS{α:Type}(b:Bool)(x y:α):(match b with|true=>x|false=>y)=bif b then x else y:=by cases b<;>rfl
def Lo:aM:=spN false true [atB] (fun x=>decide (aX x.1)) (fun x=>[RV.d tI (hid (ai x.1))])
theorem Qm:SpK 160 Lo:=spX fun x h=>by simp only[aj];exact GS x.1 (aqr h)
def zT:aM:=spN false true [tR] (fun x=>decide (ok Rat 200000 x.1)) (fun x=>[RV.d tG (hid ((frF (ab x.1)).1)),RV.d .bool ((frF (ab x.1)).2)])
theorem sY:SpK 281 zT:=spX fun x h=>by simp only[aj];exact X1 x.1 (aqr h)
def zb:aM:=spN false true [tG,tG] (fun x=>decide (prI x.1∧prI x.2.1)) (fun x=>[RV.d tG (hid ((cV x.1 x.2.1).1)),RV.d .bool ((cV x.1 x.2.1).2)])
theorem uy:SpK 283 zb:=spX fun x h=>by simp only[aj];exact Yu x.1 x.2.1 (aqr h)
def zi:aM:=spN false true [tG] (fun x=>decide (prI x.1)) (fun x=>[RV.d tG (hid (jn x.1))])
theorem vt:SpK 290 zi:=spX fun x h=>by simp only[aj];exact Xe x.1 (aqr h)
def FI:aM:=spN false true [atB,atB] (fun x=>decide (scP x.1 x.2.1)) (fun x=>[RV.d atB ((scF x.1 x.2.1).1.1),RV.d atB ((scF x.1 x.2.1).1.2),RV.d .bool ((scF x.1 x.2.1).2)])
theorem Cf:SpK 297 FI:=spX fun x h=>YR x.1 x.2.1 (aqr h)
def Ik:Env:=[(76,gT),(148,gU),(202,lS),(296,zs),(295,EN),(254,EG),(83,fW),(184,EI),(288,Fz),(183,DQ),(160,Lo),(294,An),(281,zT),(283,zb),(290,zi),(303,Az),(302,Aj),(297,FI)]
theorem t7:EnvAll Tryz.prog Ik:=⟨eI,eH,iO,tC,AX,Cz,eg,CT,Bt,By,Qm,vX,sY,uy,vt,uF,uU,Cf,trivial⟩
def ad2:NT:=[((282,8),{keep:=[3,4,6,7,19,20,21],hl:=4}),((282,22),{keep:=[3,4,6,7,9,19,20,21,29,30,31],hl:=5})]
def l4:Ctx:=CX Ik ad2
def n9(a b:(Int×Int))(s21 s6 s7:Int):Cfg:=⟨282,[.blk 0,.seq 46],[(3,.box 1 0),(4,.box 2 0),(6,SI s6),(7,SI s7),(19,.own 3),(20,SI (([a.1,a.2]).length:Int)),(21,SI s21)],[.box 232 [SI a.1,SI a.2],.box 232 [SI b.1,SI b.2],.box 232 [SI 0,SI 0],.row 2 atB ([a.1,a.2])],0,[]⟩
def mB(a b:(Int×Int))(s21 x1 s6 s7 s31:Int):Cfg:=⟨282,[.blk 2,.blk 1,.seq 45,.lp 8,.blk 0,.seq 46],[(3,.box 1 0),(4,.box 2 0),(6,SI s6),(7,SI s7),(9,SI x1),(19,.own 3),(20,SI (([a.1,a.2]).length:Int)),(21,SI s21),(29,.own 4),(30,SI (([b.1,b.2]).length:Int)),(31,SI s31)],[.box 232 [SI a.1,SI a.2],.box 232 [SI b.1,SI b.2],.box 232 [SI 0,SI 0],.row 2 atB ([a.1,a.2]),.row 2 atB ([b.1,b.2])],0,[]⟩
def ai5(a b:(Int×Int))(k:KT):Option (List RV):=k 8 (n9 a b 0 2305843009213693952 (-2305843009213693952))
theorem ajw(a b:(Int×Int)):RS l4 282 [.d tG a,.d tG b] (ai5 a b):=rsX
def tZ(a b:(Int×Int))(s21 s6 s7:Int)(k:KT):Option (List RV):=match decide (s21<(([a.1,a.2]).length:Int))with|true=>(match bu ([a.1,a.2]) s21 with|some _=>(match true,([a.1,a.2])[(s21).toNat]? with|true,some x1=>k 22 (mB a b s21 x1 s6 s7 0)|_,_=>none)|none=>none)|false=>some [RV.d tG (s6,s7),RV.d .bool true]
theorem Do(a b:(Int×Int))(s21 s6 s7:Int):RN l4 8 (n9 a b s21 s6 s7) (tZ a b s21 s6 s7):=rnX
def mV(a b:(Int×Int))(s21 x1 s6 s7 s31:Int)(k:KT):Option (List RV):=match decide (s31<(([b.1,b.2]).length:Int))with|true=>(match bu ([b.1,b.2]) s31 with|some _=>(match true,([b.1,b.2])[(s31).toNat]? with|true,some x2=>(match decide (scP x1 x2)with|true=>(match !((scF x1 x2).2)with|true=>some [RV.d tG (0,0),RV.d .bool false]|false=>k 22 (mB a b s21 x1 (if(scF x1 x2).1.1<s6 then(scF x1 x2).1.1 else s6) (if(scF x1 x2).1.2>s7 then(scF x1 x2).1.2 else s7) (i64.wrap (s31+1))))|false=>none)|_,_=>none)|none=>none)|false=>k 8 (n9 a b (i64.wrap (s21+1)) s6 s7)
theorem qr(a b:(Int×Int))(s21 x1 s6 s7 s31:Int):RN l4 22 (mB a b s21 x1 s6 s7 s31) (mV a b s21 x1 s6 s7 s31):=rnX
theorem US(a b:Iv)(ha:prI a)(hb:prI b)(s21 x:Int)(hx:x=a.1∨x=a.2)(s:Iv)(r:List RV)(h:∀s2:Iv×Bool,s2=fM (fM (s,true) x b.1) x b.2→bif s2.2 then l4.Runs 8 (n9 a b (i64.wrap (s21+1)) s2.1.1 s2.1.2) r else r=[RV.d tG (0,0),RV.d .bool false]):
  l4.Runs 22 (mB a b s21 x s.1 s.2 0) r:=by
 have h:=h _ rfl
 refine qr _ _ _ _ _ _ _ ?_
 unfold mV
 have g1:decide ((0:Int)<(([b.1,b.2]).length:Int))=true:=by simp
 have g2:decide ((1:Int)<(([b.1,b.2]).length:Int))=true:=by simp
 have g3:decide ((2:Int)<(([b.1,b.2]).length:Int))=false:=by simp
 rw[g1]
 simp only[show bu [b.1,b.2] 0=some b.1 from rfl,show [b.1,b.2][(0:Int).toNat]?=some b.1 from rfl,dT (M6 ha hb hx (.inl rfl))]
 cases e1:(scF x b.1).2
 ·rw[show fM (fM (s,true) x b.1) x b.2=(iv0,false) by unfold fM;rw[e1];rfl]at h
  exact⟨0,by rw[h];rfl⟩
 ·try dsimp only[Bool.not_true]
  have e0:fM (s,true) x b.1=((if(scF x b.1).1.1<s.1 then(scF x b.1).1.1 else s.1,if(scF x b.1).1.2>s.2 then(scF x b.1).1.2 else s.2),true):=by unfold fM;rw[e1];rfl
  rw[e0]at h
  suffices hh:l4.Runs 22 (mB a b s21 x (if(scF x b.1).1.1<s.1 then(scF x b.1).1.1 else s.1) (if(scF x b.1).1.2>s.2 then(scF x b.1).1.2 else s.2) (i64.wrap (0+1))) r by
   obtain⟨n,hn⟩:=hh
   exact⟨n,hn⟩
  rw[show i64.wrap (0+1)=1 by decide]
  refine qr _ _ _ _ _ _ _ ?_
  unfold mV
  rw[g2]
  simp only[show bu [b.1,b.2] 1=some b.2 from rfl,show [b.1,b.2][(1:Int).toNat]?=some b.2 from rfl,dT (M6 ha hb hx (.inr rfl))]
  cases e2:(scF x b.2).2
  ·unfold fM at h
   rw[e2]at h
   exact⟨0,by rw[show r=[RV.d tG (0,0),RV.d .bool false] from h];rfl⟩
  ·try dsimp only[Bool.not_true]
   unfold fM at h
   rw[e2]at h
   simp only[aqw,cond_true]at h
   suffices hh:l4.Runs 22 (mB a b s21 x _ _ (i64.wrap (1+1))) r by
    obtain⟨n,hn⟩:=hh
    exact⟨n,hn⟩
   rw[show i64.wrap (1+1)=2 by decide]
   refine qr _ _ _ _ _ _ _ ?_
   unfold mV
   rw[g3]
   obtain⟨n,hn⟩:=h
   exact⟨n,hn⟩
theorem GR(a b:Iv)(ha:prI a)(hb:prI b)(x i:Int)(hi:(i=0∧x=a.1)∨(i=1∧x=a.2))(s:Iv)(r:List RV)(h:∀s2:Iv×Bool,s2=fM (fM (s,true) x b.1) x b.2→bif s2.2 then l4.Runs 8 (n9 a b (i+1) s2.1.1 s2.1.2) r else r=[RV.d tG (0,0),RV.d .bool false]):
  l4.Runs 8 (n9 a b i s.1 s.2) r:=by
 refine Do _ _ _ _ _ ?_
 unfold tZ
 rcases hi with⟨rfl,rfl⟩|⟨rfl,rfl⟩
 ·obtain⟨n,hn⟩:=US a b ha hb 0 a.1 (.inl rfl) s r (by rw[show i64.wrap (0+1)=0+1 by decide];exact h)
  exact⟨n,hn⟩
 ·obtain⟨n,hn⟩:=US a b ha hb 1 a.2 (.inr rfl) s r (by rw[show i64.wrap (1+1)=1+1 by decide];exact h)
  exact⟨n,hn⟩
theorem RF{s:Iv×Bool}{x y:Int}(h:s.2=false):fM s x y=(iv0,false):=by unfold fM;rw[h];rfl
theorem aiz{s:Iv×Bool}(h:s.2=true):s=(s.1,true):=by rw[←h]
theorem V9(a b:(Int×Int))(h:prI a∧prI b):Con Tryz.prog 282 [.d tG a,.d tG b] [.d tG ((cr a b).1),.d .bool ((cr a b).2)]:=by
 obtain⟨ha,hb⟩:=h
 refine aN t7 (show l4.Res _ _ _ from ?_)
 refine ajw _ _ ?_
 suffices hh:l4.Runs 8 (n9 a b 0 2305843009213693952 (-2305843009213693952)) [.d tG (cr a b).1,.d .bool (cr a b).2] by
  obtain⟨n,hn⟩:=hh
  exact⟨n,hn⟩
 refine GR a b ha hb a.1 0 (.inl ⟨rfl,rfl⟩) (2305843009213693952,-2305843009213693952) _ fun s1 e1=>?_
 have hm:cr a b=fM (fM s1 a.2 b.1) a.2 b.2:=by rw[e1];rfl
 cases c1:s1.2
 ·rw[hm,RF (RF c1▸rfl)]
  rfl
 ·rw[cond_true]
  refine GR a b ha hb a.2 1 (.inr ⟨rfl,rfl⟩) s1.1 _ fun s2 e2=>?_
  rw[←aiz c1,←hm]at e2
  cases c2:s2.2
  ·rw[←e2]
   rw[show s2=(iv0,false) by
    rw[e2,hm]
    rw[e2,hm]at c2
    unfold fM at c2 ⊢
    revert c2
    cases(_:Bool)&&(scF a.2 b.2).2
    ·intro _;rfl
    ·intro h;cases h]
   rfl
  ·rw[cond_true,←e2]
   refine Do _ _ _ _ _ ⟨0,?_⟩
   unfold tZ
   rw[show decide ((1+1:Int)<(([a.1,a.2]).length:Int))=false from by simp,c2]
def zg:aM:=spN false true [tG,tG] (fun x=>decide (prI x.1∧prI x.2.1)) (fun x=>[RV.d tG (hid ((cr x.1 x.2.1).1)),RV.d .bool ((cr x.1 x.2.1).2)])
theorem v8:SpK 282 zg:=spX fun x h=>by simp only[aj];exact V9 x.1 x.2.1 (aqr h)
def aj8:Ctx:=CX Ik []
def acH(n:Int)(_k:KT):Option (List RV):=match decide (aX n)with|true=>(match decide (aX (65536:Int))with|true=>(match decide (okI (hid (ai n))∧okI (hid (ai (65536:Int))))with|true=>(match decide (okI (hid (ai (ae (hid (ai n))*ae (hid (ai (65536:Int)))))))with|true=>(match decide (okI (hid (em (hid (ai (ae (hid (ai n))*ae (hid (ai (65536:Int)))))))))with|true=>(match decide (okI (hid (em (hid (ai (ae (hid (ai n))*ae (hid (ai (65536:Int))))))))∧okI (hid (em (hid (ai (ae (hid (ai n))*ae (hid (ai (65536:Int)))))))))with|true=>(match decide (okI (hid (ai (ae (hid (em (hid (ai (ae (hid (ai n))*ae (hid (ai (65536:Int))))))))*ae (hid (em (hid (ai (ae (hid (ai n))*ae (hid (ai (65536:Int)))))))))))∧okI (hid (ai (ae (hid (ai n))*ae (hid (ai (65536:Int)))))))with|true=>some [RV.d atB (bif decide (aX (ae (hid (em (hid (ai (ae (hid (ai n))*ae (hid (ai (65536:Int))))))))))then ae (hid (em (hid (ai (ae (hid (ai n))*ae (hid (ai (65536:Int))))))))else 0),RV.d .bool ((ce (ae (hid (ai (ae (hid (em (hid (ai (ae (hid (ai n))*ae (hid (ai (65536:Int))))))))*ae (hid (em (hid (ai (ae (hid (ai n))*ae (hid (ai (65536:Int)))))))))))) (ae (hid (ai (ae (hid (ai n))*ae (hid (ai (65536:Int))))))))==0)]|false=>none)|false=>none)|false=>none)|false=>none)|false=>none)|false=>none)|false=>none
theorem alT(n:Int):RS aj8 293 [SI n] (acH n):=rsX
theorem Zr(n:Int)(h:Aq n):Con Tryz.prog 293 [.d atB n] [.d atB (dl n),.d .bool (decide (dl n*dl n=n*65536))]:=by
 refine aN t7 (alT _ ⟨0,?_⟩)
 have hr:=F0 h
 obtain⟨h0,h1⟩:=h
 have i1:aX n:=⟨by omega,by omega⟩
 have i2:aX 65536:=by decide
 have o1:okI (ai (n*65536)):=bk (by have:=cB (gX i1) (gX i2);omega)
 have o2:okI (ai (dl n)):=MW ⟨by omega,by omega⟩
 have o3:okI (ai (dl n*dl n)):=bk (by have:=cB (gX (n:=dl n) ⟨by omega,by omega⟩) (gX (n:=dl n) ⟨by omega,by omega⟩);omega)
 have o4:okI (ai n)∧okI (ai 65536):=⟨MW i1,MW i2⟩
 have o5:okI (ai (dl n))∧okI (ai (dl n)):=⟨o2,o2⟩
 have o6:okI (ai (dl n*dl n))∧okI (ai (n*65536)):=⟨o3,o1⟩
 have o7:aX (dl n):=⟨by omega,by omega⟩
 unfold acH
 simp only[aj,dec_enc,dT i1,dT i2,dT o4,dT o1,zq o1]
 have e:bK (n*65536)=dl n:=rfl
 simp only[e,dT o2,dT o5,dT o6,dT o7,cond_true,jV]
def M3:aM:=spN false true [atB] (fun x=>decide (Aq x.1)) (fun x=>[RV.d atB (dl x.1),RV.d .bool (decide (dl x.1*dl x.1=x.1*65536))])
theorem Lg:SpK 293 M3:=spX fun x h=>Zr x.1 (aqr h)
def UG:Env:=(282,zg)::(293,M3)::Ik
theorem Bg:EnvAll Tryz.prog UG:=⟨v8,Lg,t7⟩
def alO:Ctx:=CX UG []
def abp(a:(Int×Int))(_k:KT):Option (List RV):=match decide (a.2<0)with|true=>some [RV.d tG (0,0),RV.d .bool false]|false=>(match decide (Aq (if 0>a.1 then 0 else a.1))with|true=>(match decide (Aq a.2)with|true=>(match !(decide (dl a.2*dl a.2=a.2*65536))with|true=>some [RV.d tG (hid ((kg (dl (if 0>a.1 then 0 else a.1)) (i64.wrap ((dl a.2)+1))).1)),RV.d .bool ((kg (dl (if 0>a.1 then 0 else a.1)) (i64.wrap ((dl a.2)+1))).2)]|false=>some [RV.d tG (hid ((kg (dl (if 0>a.1 then 0 else a.1)) (dl a.2)).1)),RV.d .bool ((kg (dl (if 0>a.1 then 0 else a.1)) (dl a.2)).2)])|false=>none)|false=>none)
theorem an3(a:(Int×Int)):RS alO 280 [.d tG a] (abp a):=rsX
theorem aae(a:(Int×Int))(h:prI a):Con Tryz.prog 280 [.d tG a] [.d tG ((sqF a).1),.d .bool ((sqF a).2)]:=by
 refine aN Bg (an3 _ ⟨0,?_⟩)
 obtain⟨a1,a2,a3⟩:=h
 unfold abp sqF
 cases hn:decide (a.2<0)
 ·have hn:=arw hn
  have r2:Aq a.2:=⟨by omega,by omega⟩
  have r1:Aq (if 0>a.1 then 0 else a.1):=⟨by split<;>omega,by split<;>omega⟩
  have b2:=F0 r2
  simp only[dT r1,dT r2,aj,bi (x:=dl a.2+1) (by omega) (by omega)]
  cases decide (dl a.2*dl a.2=a.2*65536)<;>rfl
 ·rfl
def Em:aM:=spN false true [tG] (fun x=>decide (prI x.1)) (fun x=>[RV.d tG (hid ((sqF x.1).1)),RV.d .bool ((sqF x.1).2)])
theorem C8:SpK 280 Em:=spX fun x h=>by simp only[aj];exact aae x.1 (aqr h)
def H7:Env:=(280,Em)::UG
theorem uB:EnvAll Tryz.prog H7:=⟨C8,Bg⟩
def alN:Ctx:=CX H7 []
def aap(r:BO3)(_k:KT):Option (List RV):=match decide (ok Rat 200000 r.1)with|true=>(match !((frF (ab r.1)).2)with|true=>some [RV.d tG (hid ((frF (ab r.1)).1)),RV.d .bool ((frF (ab r.1)).2)]|false=>(match decide (okR r.2.1)with|true=>(match(aS (ab r.2.1) 0)==0 with|true=>some [RV.d tG (hid ((frF (ab r.1)).1)),RV.d .bool ((frF (ab r.1)).2)]|false=>(match decide (ok Rat 200000 r.2.1)with|true=>(match decide (ok Rat 200000 r.2.2)with|true=>(match !((frF (ab r.2.1)).2)with|true=>some [RV.d tG (0,0),RV.d .bool false]|false=>(match !((frF (ab r.2.2)).2)with|true=>some [RV.d tG (0,0),RV.d .bool false]|false=>(match decide (okR r.2.2)with|true=>(match decide ((aS (ab r.2.2) 0)<0)with|true=>some [RV.d tG (0,0),RV.d .bool false]|false=>(match decide (prI (hid ((frF (ab r.2.2)).1)))with|true=>(match !((sqF (hid ((frF (ab r.2.2)).1))).2)with|true=>some [RV.d tG (0,0),RV.d .bool false]|false=>(match decide (prI (hid ((frF (ab r.2.1)).1))∧prI (hid ((sqF (hid ((frF (ab r.2.2)).1))).1)))with|true=>(match !((cr (hid ((frF (ab r.2.1)).1)) (hid ((sqF (hid ((frF (ab r.2.2)).1))).1))).2)with|true=>some [RV.d tG (0,0),RV.d .bool false]|false=>(match decide (prI (hid ((frF (ab r.1)).1))∧prI (hid ((cr (hid ((frF (ab r.2.1)).1)) (hid ((sqF (hid ((frF (ab r.2.2)).1))).1))).1)))with|true=>some [RV.d tG (hid ((cV (hid ((frF (ab r.1)).1)) (hid ((cr (hid ((frF (ab r.2.1)).1)) (hid ((sqF (hid ((frF (ab r.2.2)).1))).1))).1))).1)),RV.d .bool ((cV (hid ((frF (ab r.1)).1)) (hid ((cr (hid ((frF (ab r.2.1)).1)) (hid ((sqF (hid ((frF (ab r.2.2)).1))).1))).1))).2)]|false=>none))|false=>none))|false=>none))|false=>none)))|false=>none)|false=>none))|false=>none))|false=>none
theorem ajo(r:BO3):RS alN 259 [.d tO r] (aap r):=rsX
theorem ZF(r:BO3)(h:ok Rt 100000 r):Con Tryz.prog 259 [.d tO r] [.d tG ((bJ (dec r)).1),.d .bool ((bJ (dec r)).2)]:=by
 refine aN uB (ajo _ ⟨0,?_⟩)
 have hr:=h
 obtain⟨r,rfl,br⟩:=aQ hr
 have p1:prI (frF r.1).1:=RE.frF_pr _
 have p2:prI (frF r.2.1).1:=RE.frF_pr _
 have p3:prI (frF r.2.2).1:=RE.frF_pr _
 have p4:prI (sqF (frF r.2.2).1).1:=RE.sqF_pr p3
 have p5:prI (cr (frF r.2.1).1 (sqF (frF r.2.2).1).1).1:=oq _ _
 unfold aap
 simp only[aj,ak,aD,aE,aA,av,aC,aT,Nat.reduceLeDiff,aH,aJ,dT p3,dT (show prI (frF r.2.1).1∧prI (sqF (frF r.2.2).1).1 from⟨p2,p4⟩),dT (show prI (frF r.1).1∧prI (cr (frF r.2.1).1 (sqF (frF r.2.2).1).1).1 from⟨p1,p5⟩)]
 unfold bJ
 clear p1 p2 p3 p4 p5
 generalize frF r.1=A
 generalize frF r.2.1=B
 generalize frF r.2.2=C
 generalize sqF C.1=S
 generalize cr B.1 S.1=M
 generalize cV A.1 M.1=U
 obtain⟨_,a⟩:=A
 obtain⟨_,b⟩:=B
 obtain⟨_,c⟩:=C
 obtain⟨_,s⟩:=S
 obtain⟨_,m⟩:=M
 cases a<;>cases decide (r.2.1=0)<;>cases b<;>cases c<;>cases decide (r.2.2<0)<;>cases s<;>cases m<;>rfl
def akC:Ctx:=CX H7 []
def ab2(a:(Int×Int))(_k:KT):Option (List RV):=match decide (a.1>0)with|true=>some [RV.d atB 1,RV.d .bool true]|false=>(match decide (a.2<0)with|true=>some [RV.d atB (-1),RV.d .bool true]|false=>(match a.1==0 with|true=>some [RV.d atB 0,RV.d .bool (a.2==0)]|false=>some [RV.d atB 0,RV.d .bool false]))
theorem aoo(a:(Int×Int)):RS akC 284 [.d tG a] (ab2 a):=rsX
theorem Zh(a:(Int×Int)):Con Tryz.prog 284 [.d tG a] [.d atB ((sgF a).1),.d .bool ((sgF a).2)]:=by
 refine aN uB (aoo _ ⟨0,?_⟩)
 unfold ab2 sgF
 cases decide (a.1>0)<;>cases decide (a.2<0)<;>try rfl
 by_cases e1:a.1=0
 ·rw[aqs e1,show(a.1==0)=true by simp[e1]]
  by_cases e2:a.2=0
  ·rw[aqs e2,show(a.2==0)=true by simp[e2]];rfl
  ·rw[aqu e2,show(a.2==0)=false by simp[e2]];rfl
 ·rw[aqu e1,show(a.1==0)=false by simp[e1]];rfl
def ul:aM:=spN false true [tO] (fun x=>decide (ok Rt 100000 x.1)) (fun x=>[RV.d tG (hid ((bJ (dec x.1)).1)),RV.d .bool ((bJ (dec x.1)).2)])
theorem oV:SpK 259 ul:=spX fun x h=>by simp only[aj];exact ZF x.1 (aqr h)
def yW:aM:=spN false true [tG] (fun _=>true) (fun x=>[RV.d atB ((sgF x.1).1),RV.d .bool ((sgF x.1).2)])
theorem uk:SpK 284 yW:=spX fun x _=>Zh x.1
def aau:Env:=(259,ul)::(284,yW)::H7
theorem Mq:EnvAll Tryz.prog aau:=⟨oV,uk,uB⟩
def ajx:Ctx:=CX aau []
def acF(n:BR)(a:(Int×Int))(g:Bool)(_k:KT):Option (List RV):=match decide (ok Rat 200000 n)with|true=>(match !g with|true=>some [RV.d tG (0,0),RV.d .bool false]|false=>(match !((frF (ab n)).2)with|true=>some [RV.d tG (0,0),RV.d .bool false]|false=>(match decide (prI (hid ((frF (ab n)).1))∧prI a)with|true=>some [RV.d tG (hid ((cr (hid ((frF (ab n)).1)) a).1)),RV.d .bool ((cr (hid ((frF (ab n)).1)) a).2)]|false=>none)))|false=>none
theorem aop(n:BR)(a:(Int×Int))(g:Bool):RS ajx 291 [.d tR n,.d tG a,SB g] (acF n a g):=rsX
theorem WR(n:BR)(a:(Int×Int))(g:Bool)(h:ok Rat 100000 n∧prI a):Con Tryz.prog 291 [.d tR n,.d tG a,.d .bool g] [.d tG ((gb (ab n) a g).1),.d .bool ((gb (ab n) a g).2)]:=by
 refine aN Mq (aop _ _ _ ⟨0,?_⟩)
 obtain⟨hn,ha⟩:=h
 obtain⟨n,rfl,bn⟩:=aQ hn
 unfold acF
 simp only[aj,aA,av,aC,Nat.reduceLeDiff,dT (show prI (frF n).1∧prI a from⟨RE.frF_pr _,ha⟩)]
 unfold gb
 generalize frF n=A
 obtain⟨_,q⟩:=A
 cases g<;>cases q<;>rfl
section
structure Ce (u:Nat) (w:World) (b off:Nat) (cs:List Value):Prop where
 le:u≤w.heap.size
 lt:b<u
 cell:∀j v,cs[j]?=some v→w.cell? ⟨b,off+j,none⟩=some v
theorem Ce.at_{u:Nat}{w:World}{b off:Nat}{cs:List Value}(h:Ce u w b off cs)(j:Nat){v:Value}(hv:cs[j]?=some v):w.cell? ⟨b,off+j,none⟩=some v:=h.cell j v hv
theorem Ce.keep{u:Nat}{w w':World}{b off:Nat}{cs:List Value}(h:Ce u w b off cs)(hz:w.heap.size≤w'.heap.size)(hk:∀k,k<u→w'.heap[k]?=w.heap[k]?):Ce u w' b off cs:=
 ⟨aqM h.le hz,h.lt,fun j v hv=>(World.cell?_of_block (hk b h.lt)).trans (h.cell j v hv)⟩
theorem Ce.below{u:Nat}{w w':World}{b off:Nat}{cs:List Value}(h:Ce u w b off cs)(hb:Below w.heap.size w w'):Ce u w' b off cs:=h.keep hb.size fun k hk=>hb.block k (art hk h.le)
theorem Ce.upd{u:Nat}{w w':World}{b off g:Nat}{cs:List Value}(h:Ce u w b off cs)(hu:Upd w w' g)(hg:u≤g):Ce u w' b off cs:=h.keep (by rw[hu.size];exact aqE _) fun k hk=>hu.block k (by omega)
structure RdU (u:Nat) (w:World) (size:Nat) (v:Value) (n:Nat) (xs:List Value):Prop where
 le:u≤w.heap.size
 rd:∃A c,v=.slice A n c∧n≤c∧c≤maxLen∧xs.length=n*size∧(0<n→∃b off,A=some ⟨b,off,none⟩∧Ce u w b off xs)
section
variable {u:Nat} {w w':World} {size n:Nat} {v:Value} {xs:List Value}
theorem RdU.keep(h:RdU u w size v n xs)(hz:w.heap.size≤w'.heap.size)(hk:∀k,k<u→w'.heap[k]?=w.heap[k]?):RdU u w' size v n xs:=by
 obtain⟨hl,A,c,h1,h2,h3,h4,h5⟩:=h
 exact⟨aqM hl hz,A,c,h1,h2,h3,h4,fun hn=>by obtain⟨b,off,h6,h7⟩:=h5 hn;exact⟨b,off,h6,h7.keep hz hk⟩⟩
theorem RdU.below(h:RdU u w size v n xs)(hb:Below w.heap.size w w'):RdU u w' size v n xs:=h.keep hb.size fun k hk=>hb.block k (art hk h.le)
theorem RdU.upd{g:Nat}(h:RdU u w size v n xs)(hu:Upd w w' g)(hg:u≤g):RdU u w' size v n xs:=h.keep (by rw[hu.size];exact aqE _) fun k hk=>hu.block k (by omega)
theorem RdU.grown{row:Option Nat}(h:RdU u w size v n xs)(hg:w.grownBy w' row)(hr:∀k,row=some k→u≤k):RdU u w' size v n xs:=h.keep hg.size fun k hk=>hg.block k (art hk h.le) (fun e=>by have:=hr k e.symm;omega)
theorem RdU.elem{A:Option Addr}{c k:Nat}{α:Type}{f:α→List Value}{ms:List α}(hf:∀m,(f m).length=size)(h:RdU u w size (.slice A n c) n (ms.flatMap f))(hn:ms.length=n)(hk:k<n):
  ∃b off m,A=some ⟨b,off,none⟩∧ms[k]?=some m∧Ce u w b (off+k*size) (f m):=by
 obtain⟨hle,A',c',h1,h2,h3,h4,h5⟩:=h
 injection h1 with hA _ hc
 subst hA
 obtain⟨b,off,h6,h7⟩:=h5 (by omega)
 subst hn
 refine⟨b,off,ms[k],h6,aqt hk,⟨h7.le,h7.lt,fun j v hv=>?_⟩⟩
 have hj:j<size:=by rw[←hf ms[k]];exact(aqG.1 hv).1
 have:(ms.flatMap f)[k*size+j]?=some v:=by
  clear h7 h5 h4 h6 h2 hc
  induction ms generalizing k with
  |nil=>simp at hk
  |cons m ms ih=>
   rw[List.flatMap_cons]
   cases k with
   |zero=>
    simp only[Nat.zero_mul,aq9]
    rw[aqJ (by rw[hf];exact hj)]
    simpa using hv
   |succ k=>
    rw[aqK (by rw[hf,arX];omega),hf,show(k+1)*size+j-size=k*size+j by rw[arX];omega]
    exact ih (by simpa using hk) rfl (by simpa using hv)
 have h8:=h7.cell _ _ this
 rwa [←ar9]at h8
end
section
variable {P:Program} {fn:Func} {R:Ending→World→Prop} {B:Code} {K:List KI} {i:Nat} {a:Act} {w:World}
end
end
section
theorem Ce.grown{u:Nat}{w w':World}{b off:Nat}{cs:List Value}{row:Option Nat}(h:Ce u w b off cs)(hg:w.grownBy w' row)(hr:∀k,row=some k→u≤k):Ce u w' b off cs:=h.keep hg.size fun k hk=>hg.block k (art hk h.le) (fun e=>by have:=hr k e.symm;omega)
section
variable {P:Program} {a:Act} {w:World}
end
end
theorem uX{w w1 w2:World}{o:Option Nat}(h:w.grownBy w1 o)(hb:Below w1.heap.size w1 w2):w.grownBy w2 o:=
 ⟨hb.os.trans h.os,hb.tape.trans h.tape,hb.output.trans h.output,aqM h.size hb.size,fun i hi hn=>(hb.block i (art hi h.size)).trans (h.block i hi hn)⟩
theorem o0{w w1 w2:World}{c b:Nat}(h:w.grownBy w1 (some c))(hu:Upd w1 w2 b)(hb:b=c∨w.heap.size≤b):w.grownBy w2 (some c):=
 ⟨hu.os.trans h.os,hu.tape.trans h.tape,hu.output.trans h.output,by rw[hu.size];exact h.size,fun i hi hn=>(hu.block i (fun e=>by
  subst e
  rcases hb with hb|hb
  ·subst hb;exact hn rfl
  ·omega)).trans (h.block i hi hn)⟩
def Xg:Code:=Tryz.f279.body.getD .skip
set_option maxRecDepth 100000 in
theorem I7:am5 Tryz.prog 279 242:=by
 intro w c b ok x y _ hc
 have hB:w.grownBy w (some c):=World.grownBy.refl _ _
 have hlt:=hc.lt
 refine enter (B:=Xg) (args:=[.pointer (some ⟨c,0,none⟩),.agg #[.int .i64 x,.int .i64 y],.bool ok]) Tryz.func279 (by kernel_rfl) (by kernel_rfl) ?_
 rw[show Tryz.f279.ntmps=18 from by kernel_rfl]
 intro a hs
 replace hs:=hs.pick (ts:=[0,1,2]) (L':=[(0,.pointer (some ⟨c,0,none⟩)),(1,.agg #[.int .i64 x,.int .i64 y]),(2,.bool ok)]) (by kernel_rfl)
 refine uW (j:=2) (by kernel_rfl) ?_
 refine j8 (id:=0) (by kernel_rfl) ?_
 refine qf hs (by kernel_rfl) (anf (t:=232) (cs:= #[.int .i64 x,.int .i64 y]) (fun rb_=>.pointer (some ⟨rb_,0,none⟩)) [0,2,4] (fun rb_=>[(0,.pointer (some ⟨c,0,none⟩)),(2,.bool ok),(4,.pointer (some ⟨rb_,0,none⟩))]) hs (fun _=>by kernel_rfl) (fun _=>by kernel_rfl) ?_)
 clear hs a;intro a w1 b1 hn hs
 have B1:=hn.blk
 have l1:w.heap.size≤b1:=by rw[hn.at_];exact hB.size
 replace hc:=hc.below hn.below hc.lt
 replace hB:=uX hB hn.below
 clear hn
 refine qf hs (by kernel_rfl) (anf (t:=232) (cs:= #[.int .i64 0,.int .i64 0]) (fun rb_=>.pointer (some ⟨rb_,0,none⟩)) [0,2,4,6] (fun rb_=>[(0,.pointer (some ⟨c,0,none⟩)),(2,.bool ok),(4,.pointer (some ⟨b1,0,none⟩)),(6,.pointer (some ⟨rb_,0,none⟩))]) hs (fun _=>by kernel_rfl) (fun _=>by kernel_rfl) ?_)
 clear hs a;intro a w2 b2 hn hs
 have B2:=hn.blk
 have l2:w.heap.size≤b2:=by rw[hn.at_];exact hB.size
 have l2':b1<b2:=by rw[hn.at_];exact B1.lt
 replace hc:=hc.below hn.below hc.lt
 replace B1:=B1.below hn.below B1.lt
 replace hB:=uX hB hn.below
 clear hn
 refine m5 (by kernel_rfl) ?_
 refine jJ rfl ?_
 refine uW (j:=4) (by kernel_rfl) ?_
 refine j8 (id:=1) (by kernel_rfl) ?_
 refine ou (m:=6) (H:=[(4,none,[.bool b])]) (ts:=[2,4,6,7,12]) (L':=[(2,.bool ok),(4,.pointer (some ⟨b1,0,none⟩)),(6,.pointer (some ⟨b2,0,none⟩)),(7,.pointer (some ⟨c,0,none⟩)),(12,.bool b)]) (O:=fun w=>(w.cell? ⟨c,0,none⟩=some (.bool b))∧True) hs (by kernel_rfl) ⟨hc.cell 0 rfl,trivial⟩ ?_
 clear hs a;intro a hs
 rcases Bool.eq_false_or_eq_true (b)with hb|hb
 ·replace hs:=hs.know (t:=12) rfl hb
  have cd1:=hb;have cd1b:=hb;clear hb
  replace hs:=hs.pick (ts:=[2,4,6,7,12]) (L':=[(2,.bool ok),(4,.pointer (some ⟨b1,0,none⟩)),(6,.pointer (some ⟨b2,0,none⟩)),(7,.pointer (some ⟨c,0,none⟩)),(12,.bool true)]) (by kernel_rfl)
  refine ou (m:=4) (H:=[]) (ts:=[4,6,14,16]) (L':=[(4,.pointer (some ⟨b1,0,none⟩)),(6,.pointer (some ⟨b2,0,none⟩)),(14,.bool ok),(16,.pointer (some ⟨c,0,none⟩))]) (O:=fun w=>True) hs (by kernel_rfl) trivial ?_
  clear hs a;intro a hs
  refine qf hs (by kernel_rfl) (zB (b:=c) (cs:= #[.bool b]) #[.bool ok] [(0,.bool ok)] [4,6] [(4,.pointer (some ⟨b1,0,none⟩)),(6,.pointer (some ⟨b2,0,none⟩))] hs hc (by kernel_rfl) ⟨aqD rfl,trivial,trivial⟩ rfl (by kernel_rfl) ?_)
  clear hs a;intro a w3 hc' hu hs
  replace hc:=hc';clear hc'
  replace B1:=hu.blk B1 (by omega)
  replace B2:=hu.blk B2 (by omega)
  replace hB:=o0 hB hu (by omega)
  clear hu
  refine m5 (by kernel_rfl) ?_
  refine jJ rfl ?_
  refine uW (j:=6) (by kernel_rfl) ?_
  refine j8 (id:=2) (by kernel_rfl) ?_
  refine ou (m:=1) (H:=[(0,none,[.int .i64 x,.int .i64 y])]) (ts:=[6,17]) (L':=[(6,.pointer (some ⟨b2,0,none⟩)),(17,.agg #[.int .i64 x,.int .i64 y])]) (O:=fun w=>(w.cell? ⟨b1,0,none⟩=some (.int .i64 x))∧(w.cell? ⟨b1,1,none⟩=some (.int .i64 y))∧True) hs (by kernel_rfl) ⟨B1.cell 0 rfl,B1.cell 1 rfl,trivial⟩ ?_
  clear hs a;intro a hs
  refine qf hs (by kernel_rfl) (zB (b:=b2) (cs:= #[.int .i64 0,.int .i64 0]) #[.int .i64 x,.int .i64 y] [(0,.int .i64 x),(1,.int .i64 y)] [6] [(6,.pointer (some ⟨b2,0,none⟩))] hs B2 (by kernel_rfl) ⟨aqD rfl,trivial,⟨aqD rfl,trivial,trivial⟩⟩ rfl (by kernel_rfl) ?_)
  clear hs a;intro a w4 B2' hu hs
  replace B2:=B2';clear B2'
  replace hc:=hu.blk hc (by omega)
  replace B1:=hu.blk B1 (by omega)
  replace hB:=o0 hB hu (by omega)
  clear hu
  refine m5 (by kernel_rfl) ?_
  refine jJ rfl ?_
  refine DH (by kernel_rfl) ?_
  refine Te (vs:=[.agg #[.int .i64 x,.int .i64 y]]) (H:=[.int .i64 x,.int .i64 y]) (v:=.agg #[.int .i64 x,.int .i64 y]) (O:=fun w=>(w.cell? ⟨b2,0,none⟩=some (.int .i64 x))∧(w.cell? ⟨b2,1,none⟩=some (.int .i64 y))∧True) hs (by kernel_rfl) rfl ⟨B2.cell 0 rfl,B2.cell 1 rfl,trivial⟩ ?_
  exact⟨rfl,by rw[cd1];exact hc,hB⟩
 ·replace hs:=hs.know (t:=12) rfl hb
  have cd1:=hb;have cd1b:=hb;clear hb
  replace hs:=hs.pick (ts:=[2,4,6,7,12]) (L':=[(2,.bool ok),(4,.pointer (some ⟨b1,0,none⟩)),(6,.pointer (some ⟨b2,0,none⟩)),(7,.pointer (some ⟨c,0,none⟩)),(12,.bool false)]) (by kernel_rfl)
  refine ou (m:=4) (H:=[]) (ts:=[4,6,14,16]) (L':=[(4,.pointer (some ⟨b1,0,none⟩)),(6,.pointer (some ⟨b2,0,none⟩)),(14,.bool false),(16,.pointer (some ⟨c,0,none⟩))]) (O:=fun w=>True) hs (by kernel_rfl) trivial ?_
  clear hs a;intro a hs
  refine qf hs (by kernel_rfl) (zB (b:=c) (cs:= #[.bool b]) #[.bool false] [(0,.bool false)] [4,6] [(4,.pointer (some ⟨b1,0,none⟩)),(6,.pointer (some ⟨b2,0,none⟩))] hs hc (by kernel_rfl) ⟨aqD rfl,trivial,trivial⟩ rfl (by kernel_rfl) ?_)
  clear hs a;intro a w5 hc' hu hs
  replace hc:=hc';clear hc'
  replace B1:=hu.blk B1 (by omega)
  replace B2:=hu.blk B2 (by omega)
  replace hB:=o0 hB hu (by omega)
  clear hu
  refine m5 (by kernel_rfl) ?_
  refine jJ rfl ?_
  refine uW (j:=6) (by kernel_rfl) ?_
  refine j8 (id:=2) (by kernel_rfl) ?_
  refine ou (m:=1) (H:=[(0,none,[.int .i64 x,.int .i64 y])]) (ts:=[6,17]) (L':=[(6,.pointer (some ⟨b2,0,none⟩)),(17,.agg #[.int .i64 x,.int .i64 y])]) (O:=fun w=>(w.cell? ⟨b1,0,none⟩=some (.int .i64 x))∧(w.cell? ⟨b1,1,none⟩=some (.int .i64 y))∧True) hs (by kernel_rfl) ⟨B1.cell 0 rfl,B1.cell 1 rfl,trivial⟩ ?_
  clear hs a;intro a hs
  refine qf hs (by kernel_rfl) (zB (b:=b2) (cs:= #[.int .i64 0,.int .i64 0]) #[.int .i64 x,.int .i64 y] [(0,.int .i64 x),(1,.int .i64 y)] [6] [(6,.pointer (some ⟨b2,0,none⟩))] hs B2 (by kernel_rfl) ⟨aqD rfl,trivial,⟨aqD rfl,trivial,trivial⟩⟩ rfl (by kernel_rfl) ?_)
  clear hs a;intro a w6 B2' hu hs
  replace B2:=B2';clear B2'
  replace hc:=hu.blk hc (by omega)
  replace B1:=hu.blk B1 (by omega)
  replace hB:=o0 hB hu (by omega)
  clear hu
  refine m5 (by kernel_rfl) ?_
  refine jJ rfl ?_
  refine DH (by kernel_rfl) ?_
  refine Te (vs:=[.agg #[.int .i64 x,.int .i64 y]]) (H:=[.int .i64 x,.int .i64 y]) (v:=.agg #[.int .i64 x,.int .i64 y]) (O:=fun w=>(w.cell? ⟨b2,0,none⟩=some (.int .i64 x))∧(w.cell? ⟨b2,1,none⟩=some (.int .i64 y))∧True) hs (by kernel_rfl) rfl ⟨B2.cell 0 rfl,B2.cell 1 rfl,trivial⟩ ?_
  exact⟨rfl,by rw[cd1];exact hc,hB⟩
def yM:aM:=spN false true [tO,tO] (fun x=>decide (ok Rt 15000 x.1∧ok Rt 15000 x.2.1)) (fun x=>[RV.d tQ (hid (enc (suT (dec x.1) (dec x.2.1))))])
theorem th:SpK 220 yM:=spX fun x h=>by simp only[aj];exact XG x.1 x.2.1 (aqr h)
def Ea:aM:=spN false true [tR,tG,.bool] (fun x=>decide (ok Rat 100000 x.1∧prI x.2.1)) (fun x=>[RV.d tG (hid ((gb (ab x.1) x.2.1 x.2.2.1).1)),RV.d .bool ((gb (ab x.1) x.2.1 x.2.2.1).2)])
theorem Cw:SpK 291 Ea:=spX fun x h=>by simp only[aj];exact WR x.1 x.2.1 x.2.2.1 (aqr h)
def UP:aM:={keep:=true,tame:=true,run:=fun _ _ _=>none,mut_:=some ⟨true,fun l=>l,some 242⟩}
theorem M2:SpK 279 UP:=by
 refine⟨by kernel_rfl,fun R args k r h=>(by cases h),fun g h=>?_⟩
 injection h with h
 subst h
 exact I7
def ab6:Env:=[(76,gT),(148,gU),(149,jr),(147,iC),(202,lS),(296,zs),(99,kx),(83,fW),(71,nH),(219,pZ),(220,yM),(260,E7),(294,An),(281,zT),(283,zb),(290,zi),(303,Az),(302,Aj),(297,FI),(282,zg),(280,Em),(259,ul),(284,yW),(291,Ea),(279,UP)]
theorem Na:EnvAll Tryz.prog ab6:=⟨eI,eH,fN,fi,iO,tC,gE,eg,jU,lR,th,Ct,vX,sY,uy,vt,uF,uU,Cf,v8,C8,oV,uk,Cw,M2,trivial⟩
def agN:NT:=[((252,5),{keep:=[1,4,13,14,17,20,21,24],hl:=0}),((252,7),{keep:=[1,4,5,25,26,29,32,33,36],hl:=0})]
def ajP:Ctx:=CX ab6 agN
def abH(q:BQ)(_k:KT):Option (List RV):=let y1:=frF (ab q.2.2.2.2.1);let y2:=ok Rat 200000 q.2.2.2.2.2;let y3:=frF (ab q.2.2.2.2.2);let y4:=sqF (hid (y3.1));let y5:=hid ((frF (ab q.2.1)).1);let y6:=hid ((sqF (hid (y1.1))).1);let y7:=frF (ab q.2.2.1);let y8:=frF (ab q.2.2.2.1);let y9:=cr y6 (hid (y4.1));let y10:=cr (hid (y7.1)) (hid (y4.1));let y11:=cr (hid (y8.1)) (hid (y9.1));let y12:=hid ((frF (ab q.1)).1);let y13:=hid ((cr y5 y6).1);let y14:=hid ((cV y12 y13).1);let y15:=cV (hid (y10.1)) (hid (y11.1));let y16:=cV y14 (hid (y15.1));let y17:Option (List RV):=match decide (prI (hid (y3.1)))with|true=>some [RV.d atB 0,RV.d .bool false]|false=>none;match decide (ok Rat 200000 q.2.2.2.2.1)with|true=>(match decide (prI (hid (y1.1)))with|true=>(match y1.2 with|true=>(match decide y2 with|true=>(match(sqF (hid (y1.1))).2 with|true=>(match decide (prI (hid (y3.1)))with|true=>(match y3.2 with|true=>(match !(y4.2)with|true=>some [RV.d atB 0,RV.d .bool false]|false=>(match decide (ok Rat 200000 q.2.1)with|true=>(match decide (prI y5∧prI y6)with|true=>(match decide (ok Rat 200000 q.2.2.1)with|true=>(match decide (prI (hid (y7.1))∧prI (hid (y4.1)))with|true=>(match decide (ok Rat 200000 q.2.2.2.1)with|true=>(match decide (prI y6∧prI (hid (y4.1)))with|true=>(match decide (prI (hid (y8.1))∧prI (hid (y9.1)))with|true=>(match !(((((((y4.2&&(frF (ab q.2.1)).2)&&(cr y5 y6).2)&&y7.2)&&y10.2)&&y8.2)&&y9.2)&&y11.2)with|true=>some [RV.d atB 0,RV.d .bool false]|false=>(match decide (ok Rat 200000 q.1)with|true=>(match decide (prI y12∧prI y13)with|true=>(match decide (prI (hid (y10.1))∧prI (hid (y11.1)))with|true=>(match decide (prI y14∧prI (hid (y15.1)))with|true=>(match !(((((((((((y4.2&&(frF (ab q.2.1)).2)&&(cr y5 y6).2)&&y7.2)&&y10.2)&&y8.2)&&y9.2)&&y11.2)&&(frF (ab q.1)).2)&&(cV y12 y13).2)&&y15.2)&&y16.2)with|true=>some [RV.d atB 0,RV.d .bool false]|false=>some [RV.d atB ((sgF (hid (y16.1))).1),RV.d .bool ((sgF (hid (y16.1))).2)])|false=>none)|false=>none)|false=>none)|false=>none))|false=>none)|false=>none)|false=>none)|false=>none)|false=>none)|false=>none)|false=>none))|false=>some [RV.d atB 0,RV.d .bool false])|false=>none)|false=>y17)|false=>none)|false=>(match decide y2 with|true=>y17|false=>none))|false=>none)|false=>none
theorem akF(q:BQ):RS ajP 252 [.d tQ q] (abH q):=rsX
theorem Xx(q:BQ)(h:okQ q):Con Tryz.prog 252 [.d tQ q] [.d atB ((quF (dec q)).1),.d .bool ((quF (dec q)).2)]:=by
 refine aN Na (akF _ ⟨0,?_⟩)
 obtain⟨A,B,C,D,M,N,rfl,bA,bB,bC,bD,bM,bN,hM,hN⟩:=EO h
 rw[ak]
 have pf:∀q,prI (frF q).1:=RE.frF_pr
 have pm:∀a b,prI (cr a b).1:=oq
 have ps:∀q,prI (sqF (frF q).1).1:=fun q=>RE.sqF_pr (pf q)
 have pa:∀{a b},prI a→prI b→prI (cV a b).1:=fun ha hb=>RE.addF_pr ha hb
 have d1:∀q,decide (prI (frF q).1)=true:=fun q=>dT (pf q)
 have d2:∀q m,decide (prI (frF q).1∧prI (sqF (frF m).1).1)=true:=fun q m=>dT ⟨pf q,ps m⟩
 have d3:∀q m,decide (prI (sqF (frF q).1).1∧prI (sqF (frF m).1).1)=true:=fun q m=>dT ⟨ps q,ps m⟩
 have d4:∀q a b,decide (prI (frF q).1∧prI (cr a b).1)=true:=fun q a b=>dT ⟨pf q,pm a b⟩
 have d5:∀a b c d,decide (prI (cr a b).1∧prI (cr c d).1)=true:=fun a b c d=>dT ⟨pm a b,pm c d⟩
 have d6:∀q a b c d e f,decide (prI (cV (frF q).1 (cr a b).1).1∧prI (cV (cr c d).1 (cr e f).1).1)=true:=fun q a b c d e f=>dT ⟨pa (pf q) (pm a b),pa (pm c d) (pm e f)⟩
 unfold abH
 simp only[aj,aP,aA,av,aC,aqv,aqw,Nat.reduceLeDiff,aqv,dT (pf _),dT (pm _ _),dT (ps _),dT (pa (pf _) (pm _ _)),dT (pa (pm _ _) (pm _ _))]
 unfold quF qu1 qu2 qu3 quA quB sfF mfF
 generalize frF M=FM
 generalize frF N=FN
 generalize sqF FM.1=SM
 generalize sqF FN.1=SN
 generalize frF A=FA
 generalize frF B=FB
 generalize frF C=FC
 generalize frF D=FD
 generalize cr FB.1 SM.1=MB
 generalize cr FC.1 SN.1=MC
 generalize cr SM.1 SN.1=MM
 generalize cr FD.1 MM.1=MD
 generalize cV FA.1 MB.1=A1
 generalize cV MC.1 MD.1=A2
 generalize cV A1.1 A2.1=A3
 generalize sgF A3.1=S
 obtain⟨_,fm⟩:=FM
 obtain⟨_,fn⟩:=FN
 obtain⟨_,sm⟩:=SM
 obtain⟨_,sn⟩:=SN
 cases fm<;>cases sm<;>cases fn<;>cases sn<;>try rfl
 dsimp only
 simp only[aqx,aqw]
 generalize (FB.2&&MB.2&&FC.2&&MC.2&&FD.2&&MM.2&&MD.2)=c2
 cases c2
 ·rfl
 ·simp only[aqx]
  generalize (FA.2&&A1.2&&A2.2&&A3.2)=c3
  cases c3<;>rfl
end Go.Proofs.YtlahabkjhgkkjaaGreat
end
