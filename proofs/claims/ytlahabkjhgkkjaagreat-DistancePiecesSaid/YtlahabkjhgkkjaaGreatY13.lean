/- Signs and comparisons: the reference, and the program without its intervals. -/
import Derived.Test.YtlahabkjhgkkjaaGreatY12
import Derived.Test.YtlahabkjhgkkjaaGreatY1
import Derived.Lib.LazyBuf
import Derived.Test.YtlahabkjhgkkjaaGreatY6
noncomputable section
namespace Go.Proofs.YtlahabkjhgkkjaaGreat
open Go.RowKit Go.IntKind
theorem aw3:type_of% @Int.zero_sub:=@Int.zero_sub
abbrev Qd:=Rat×Rat×Rat×Rat×Rat×Rat
def sgQ(q:Qd):Int:=CQ q.1 q.2.1 q.2.2.1 q.2.2.2.1 q.2.2.2.2.1 q.2.2.2.2.2
def suT(x y:Rt):Qd:=(x.1-y.1,x.2.1,-y.2.1,0,x.2.2,y.2.2)
def fh(x:Rt)(q:Rat):Int:=fy (x.1-q) x.2.1 x.2.2
def okQ(q:BQ):Prop:=ok Rat 30001 q.1∧ok Rat 15000 q.2.1∧ok Rat 15000 q.2.2.1∧ok Rat 6000 q.2.2.2.1∧ok Rat 15000 q.2.2.2.2.1∧ok Rat 15000 q.2.2.2.2.2∧0≤ae q.2.2.2.2.1∧0≤ae q.2.2.2.2.2
instance (q:BQ):Decidable (okQ q):=by unfold okQ;infer_instance
theorem HO{q:BQ}(h:okQ q):∃A B C D M N:Rat,q=enc ((A,B,C,D,M,N):Qd)∧Bd A 30001∧Bd B 15000∧Bd C 15000∧Bd D 6000∧Bd M 15000∧Bd N 15000∧0≤M∧0≤N:=by
 obtain⟨A,B,C,D,M,N⟩:=q
 obtain⟨h1,h2,h3,h4,h5,h6,h7,h8⟩:=h
 obtain⟨a,ha,b1⟩:=aU h1
 obtain⟨b,hb,b2⟩:=aU h2
 obtain⟨c,hc,b3⟩:=aU h3
 obtain⟨d,hd,b4⟩:=aU h4
 obtain⟨m,hm,b5⟩:=aU h5
 obtain⟨n,hn,b6⟩:=aU h6
 dsimp only at ha hb hc hd hm hn h7 h8
 subst ha hb hc hd hm hn
 rw[aG,az]at h7 h8
 exact⟨a,b,c,d,m,n,rfl,b1,b2,b3,b4,b5,b6,h7,h8⟩
theorem agQ{A B C D M N:Rat}{a b c d m n:Nat}[h1:Bd A a][h2:Bd B b][h3:Bd C c][h4:Bd D d][h5:Bd M m][h6:Bd N n][h7:Nn M][h8:Nn N](ha:a≤30001)(hb:b≤15000)(hc:c≤15000)(hd:d≤6000)(hm:m≤15000)(hn:n≤15000):decide (okQ (enc ((A,B,C,D,M,N):Qd)))=true:=
 au1 ⟨au0 (aH ha (by decide)),au0 (aH hb (by decide)),au0 (aH hc (by decide)),au0 (aH hd (by decide)),au0 (aH hm (by decide)),au0 (aH hn (by decide)),by show 0≤ae (ai M);rw[az];exact h7.le,by show 0≤ae (ai N);rw[az];exact h8.le⟩
theorem Sg{s t:Int}(hs: -1≤s∧s≤1)(ht: -1≤t∧t≤1):i64.wrap (s*t)=s*t:=by
 have:=Cf hs ht
 exact bi (by omega) (by omega)
theorem rm{a b m x y:Rat}:i64.wrap (fy a b m*aV x y)=fy a b m*aV x y:=Sg (jO _ _ _) (n6 _ _)
theorem qD{a b m x y z:Rat}:i64.wrap (fy a b m*fy x y z)=fy a b m*fy x y z:=Sg (jO _ _ _) (jO _ _ _)
theorem Du(s t u:Int):(match s==0 with|true=>(match s==0 with|true=>some [RV.d ax8 t]|false=>some [RV.d ax8 s])|false=>(match t==0 with|true=>(match s==0 with|true=>some [RV.d ax8 t]|false=>some [RV.d ax8 s])|false=>(match s==t with|true=>(match s==0 with|true=>some [RV.d ax8 t]|false=>some [RV.d ax8 s])|false=>some [RV.d ax8 (s*u)])))=some [RV.d ax8 (RE.addS s t u)]:=by
 unfold RE.addS
 cases h1:s==0
 ·cases h2:t==0
  ·cases h3:s==t<;>rfl
  ·rfl
 ·have e:=awf.1 h1
  subst e
  cases h2:t==0
  ·cases h3:(0:Int)==t
   ·rfl
   ·rw[←awf.1 h3];rfl
  ·rw[awf.1 h2];rfl
theorem BX(s t u:Int):(match t==0 with|true=>some [RV.d ax8 s]|false=>(match s==t with|true=>some [RV.d ax8 s]|false=>(match s==0 with|true=>some [RV.d ax8 t]|false=>some [RV.d ax8 (s*u)])))=some [RV.d ax8 (RE.addS s t u)]:=by
 unfold RE.addS
 cases h2:t==0
 ·cases h3:s==t
  ·cases h1:s==0<;>rfl
  ·rfl
 ·rfl
def lP:aO:=spN false true [tR] (fun x=>decide (okR x.1)) (fun x=>[RV.d tR (hid (ai (-ae x.1)))])
theorem jc:SpK 124 lP:=spX fun x h=>by simp only[ak];exact Fa x.1 (au0 h)
def Cb:Env:=[(50,iN),(127,jR),(161,jS),(132,iL),(78,gv),(107,lY),(124,lP)]
theorem ub:EnvAll Tryz.prog Cb:=⟨gi,gV,gQ,ga,fc,iS,jc,trivial⟩
def alf:Ctx:=CX Cb []
def Vl(a b c:BR)(_k:KT):Option (List RV):=match decide (okR a)with|true=>(match decide (okR b)with|true=>(match decide (okR c)with|true=>(match(aV (ae a) 0)==0 with|true=>(match(aV (ae a) 0)==0 with|true=>some [RV.d ax8 (i64.wrap ((aV (ae b) 0)*(aV (ae c) 0)))]|false=>some [RV.d ax8 (aV (ae a) 0)])|false=>(match(i64.wrap ((aV (ae b) 0)*(aV (ae c) 0)))==0 with|true=>(match(aV (ae a) 0)==0 with|true=>some [RV.d ax8 (i64.wrap ((aV (ae b) 0)*(aV (ae c) 0)))]|false=>some [RV.d ax8 (aV (ae a) 0)])|false=>(match(aV (ae a) 0)==(i64.wrap ((aV (ae b) 0)*(aV (ae c) 0)))with|true=>(match(aV (ae a) 0)==0 with|true=>some [RV.d ax8 (i64.wrap ((aV (ae b) 0)*(aV (ae c) 0)))]|false=>some [RV.d ax8 (aV (ae a) 0)])|false=>(match decide (okR a∧okR a)with|true=>(match decide (okR b∧okR b)with|true=>(match decide (okR (hid (ai (ae b*ae b)))∧okR c)with|true=>(match decide (okR (hid (ai (ae a*ae a)))∧okR (hid (ai (ae (hid (ai (ae b*ae b)))*ae c))))with|true=>some [RV.d ax8 (i64.wrap ((aV (ae a) 0)*(aV (ae (hid (ai (ae a*ae a)))) (ae (hid (ai (ae (hid (ai (ae b*ae b)))*ae c)))))))]|false=>none)|false=>none)|false=>none)|false=>none))))|false=>none)|false=>none)|false=>none
theorem aiP(a b c:BR):RS alf 169 [.d tR a,.d tR b,.d tR c] (Vl a b c):=rsX
theorem Zh(a b c:BR)(h:ok Rat 240000 a∧ok Rat 170000 b∧ok Rat 30000 c):Con Tryz.prog 169 [.d tR a,.d tR b,.d tR c] [.d ax8 (fy (ae a) (ae b) (ae c))]:=by
 refine aR ub (aiP _ _ _ ⟨0,?_⟩)
 obtain⟨ha,hb,hc⟩:=h
 obtain⟨a,rfl,ba⟩:=aU ha
 obtain⟨b,rfl,bb⟩:=aU hb
 obtain⟨c,rfl,bc⟩:=aU hc
 unfold Vl
 simp only[ak,aG,az,aX,au4,au6,Nat.reduceAdd,Nat.reduceLeDiff,oM]
 exact Du _ _ _
def ame:Ctx:=CX Cb []
def YK(a b:BO3)(_k:KT):Option (List RV):=match decide (okR a.1∧okR b.1)with|true=>(match decide (okR b.2.1)with|true=>(match decide (bg (0:Int))with|true=>some [RV.d tQ (hid (ai (ae a.1-ae b.1)),(a.2.1,(hid (ai (-ae b.2.1)),(hid (ai ((0:Int):Rat)),(a.2.2,b.2.2)))))]|false=>none)|false=>none)|false=>none
theorem akZ(a b:BO3):RS ame 208 [.d tO a,.d tO b] (YK a b):=rsX
theorem Wd(a b:BO3)(h:ok Rt 15000 a∧ok Rt 15000 b):Con Tryz.prog 208 [.d tO a,.d tO b] [.d tQ (enc (suT (dec a) (dec b)))]:=by
 refine aR ub (akZ _ _ ⟨0,?_⟩)
 obtain⟨ha,hb⟩:=h
 obtain⟨a,rfl,ba⟩:=aU ha
 obtain⟨b,rfl,bb⟩:=aU hb
 unfold YK
 simp only[ak,am,aI,aJ,aG,az,aX,au4,au6,Nat.reduceLeDiff]
 try rfl
def J5:aO:=spN true true [tR,tR,tR] (fun x=>decide (ok Rat 240000 x.1∧ok Rat 170000 x.2.1∧ok Rat 30000 x.2.2.1)) (fun x=>[RV.d ax8 (fy (ae x.1) (ae x.2.1) (ae x.2.2.1))])
theorem Na:SpK 169 J5:=spX fun x h=>Zh x.1 x.2.1 x.2.2.1 (au0 h)
def Lp:aO:=spN false true [tO,tO] (fun x=>decide (ok Rt 15000 x.1∧ok Rt 15000 x.2.1)) (fun x=>[RV.d tQ (hid (enc (suT (dec x.1) (dec x.2.1))))])
theorem N6:SpK 208 Lp:=spX fun x h=>by simp only[ak];exact Wd x.1 x.2.1 (au0 h)
def IB:Env:=(169,J5)::(208,Lp)::Cb
theorem zp:EnvAll Tryz.prog IB:=⟨Na,N6,ub⟩
def ajU:Ctx:=CX IB []
def Zo(q:BQ)(_k:KT):Option (List RV):=let y1:=ae q.2.2.2.2.1;let y2:=aV (ae q.2.2.2.2.2) 0;let y3:=fy (ae q.1) (ae q.2.1) y1;let y4:=i64.wrap ((fy (ae q.2.2.1) (ae q.2.2.2.1) y1)*y2);let y5:Option (List RV):=match y3==0 with|true=>some [RV.d ax8 y4]|false=>some [RV.d ax8 y3];let y6:=hid (ai (ae q.2.2.2.1*ae q.2.2.2.1));let y7:=hid (ai (ae q.2.2.1*ae q.2.2.1));let y8:=hid (ai (ae y6*ae q.2.2.2.2.1));let y9:=hid (ai (ae y7+ae y8));let y10:=hid (ai (ae q.2.1*ae q.2.1));let y11:=hid (ai (ae q.1*ae q.1));let y12:=hid (ai (ae y10*ae q.2.2.2.2.1));let y13:=hid (ai (ae y11+ae y12));let y14:=hid (ai (ae q.2.2.2.2.2*ae y9));let y15:=hid (ai (ae q.2.2.1*ae q.2.2.2.1));let y16:=hid (ai (ae q.1*ae q.2.1));let y17:=hid (ai (ae q.2.2.2.2.2*ae y15));let y18:=hid (ai (ae y16-ae y17));let y19:=hid (ai (ae y13-ae y14));let y20:=hid (ai (ae y18+ae y18));match decide (okR q.2.2.2.2.1)with|true=>(match decide ((aV y1 0)<0)with|true=>some [RV.d ax8 0]|false=>(match decide (okR q.2.2.2.2.2)with|true=>(match decide (y2<0)with|true=>some [RV.d ax8 0]|false=>(match decide (ok Rat 240000 q.1∧ok Rat 170000 q.2.1∧ok Rat 30000 q.2.2.2.2.1)with|true=>(match decide (ok Rat 240000 q.2.2.1∧ok Rat 170000 q.2.2.2.1∧ok Rat 30000 q.2.2.2.2.1)with|true=>(match decide (okR q.2.2.2.2.2)with|true=>(match y3==0 with|true=>y5|false=>(match y4==0 with|true=>y5|false=>(match y3==y4 with|true=>y5|false=>(match decide (okR q.2.2.1∧okR q.2.2.1)with|true=>(match decide (okR q.2.2.2.1∧okR q.2.2.2.1)with|true=>(match decide (okR y6∧okR q.2.2.2.2.1)with|true=>(match decide (okR y7∧okR y8)with|true=>(match decide (okR q.2.2.2.2.2∧okR y9)with|true=>(match decide (okR q.1∧okR q.1)with|true=>(match decide (okR q.2.1∧okR q.2.1)with|true=>(match decide (okR y10∧okR q.2.2.2.2.1)with|true=>(match decide (okR y11∧okR y12)with|true=>(match decide (okR y13∧okR y14)with|true=>(match decide (okR q.1∧okR q.2.1)with|true=>(match decide (okR q.2.2.1∧okR q.2.2.2.1)with|true=>(match decide (okR q.2.2.2.2.2∧okR y15)with|true=>(match decide (okR y16∧okR y17)with|true=>(match decide (okR y18∧okR y18)with|true=>(match decide (ok Rat 240000 y19∧ok Rat 170000 y20∧ok Rat 30000 q.2.2.2.2.1)with|true=>some [RV.d ax8 (i64.wrap (y3*(fy (ae y19) (ae y20) y1)))]|false=>none)|false=>none)|false=>none)|false=>none)|false=>none)|false=>none)|false=>none)|false=>none)|false=>none)|false=>none)|false=>none)|false=>none)|false=>none)|false=>none)|false=>none)|false=>none))))|false=>none)|false=>none)|false=>none))|false=>none))|false=>none
theorem amp(q:BQ):RS ajU 207 [.d tQ q] (Zo q):=rsX
theorem PM(q:BQ)(h:okQ q):Con Tryz.prog 207 [.d tQ q] [.d ax8 (sgQ (dec q))]:=by
 refine aR zp (amp _ ⟨0,?_⟩)
 obtain⟨A,B,C,D,M,N,rfl,bA,bB,bC,bD,bM,bN,hM,hN⟩:=HO h
 rw[am]
 unfold Zo
 simp only[ak,aT,aG,az,aH,aX,au4,au6,Nat.reduceAdd,Nat.reduceLeDiff,rm,qD,aN,au3 (show ¬M<0 by grind),au3 (show ¬N<0 by grind)]
 refine(Du _ _ _).trans ?_
 unfold sgQ CQ
 rw[au3 (show ¬M<0 by grind),au3 (show ¬N<0 by grind)]
 dsimp only[Bool.or_false,cond_false]
 rw[show A*B-N*(C*D)+(A*B-N*(C*D))=2*(A*B-N*(C*D)) by grind]
 rfl
def LU:aO:=spN true true [tQ] (fun x=>decide (okQ x.1)) (fun x=>[RV.d ax8 (sgQ (dec x.1))])
theorem Mr:SpK 207 LU:=spX fun x h=>PM x.1 (au0 h)
def BM:Env:=(207,LU)::IB
theorem ug:EnvAll Tryz.prog BM:=⟨Mr,zp⟩
def ah5:Ctx:=CX BM []
def Ss(a b:BO3)(_k:KT):Option (List RV):=match decide (ok Rt 15000 a∧ok Rt 15000 b)with|true=>(match decide (okQ (hid (enc (suT (dec a) (dec b)))))with|true=>some [RV.d ax8 (sgQ (dec (hid (enc (suT (dec a) (dec b))))))]|false=>none)|false=>none
theorem aic(a b:BO3):RS ah5 119 [.d tO a,.d tO b] (Ss a b):=rsX
theorem Xk(a b:BO3)(h:okT 15000 a∧okT 15000 b):Con Tryz.prog 119 [.d tO a,.d tO b] [.d ax8 (bI (dec a) (dec b))]:=by
 refine aR ug (aic _ _ ⟨0,?_⟩)
 obtain⟨ha,hb⟩:=h
 obtain⟨a,rfl,ba,ra⟩:=fK ha
 obtain⟨b,rfl,bb,rb⟩:=fK hb
 have na:Nn a.2.2:=inferInstance
 have nb:Nn b.2.2:=inferInstance
 have e:decide (okQ (enc (suT a b)))=true:=agQ (by decide) (by decide) (by decide) (by decide) (by decide) (by decide)
 unfold Ss
 simp only[ak,am,okd,au4,au6,Nat.reduceLeDiff,e]
 rfl
def al6:Ctx:=CX BM []
def PF(a:BO3)(b:BR)(_k:KT):Option (List RV):=match decide (okR a.1∧okR b)with|true=>(match decide (ok Rat 240000 (hid (ai (ae a.1-ae b)))∧ok Rat 170000 a.2.1∧ok Rat 30000 a.2.2)with|true=>some [RV.d ax8 (fy (ae (hid (ai (ae a.1-ae b)))) (ae a.2.1) (ae a.2.2))]|false=>none)|false=>none
theorem al8(a:BO3)(b:BR):RS al6 85 [.d tO a,.d tR b] (PF a b):=rsX
theorem RY(a:BO3)(b:BR)(h:okT 15000 a∧ok Rat 15000 b):Con Tryz.prog 85 [.d tO a,.d tR b] [.d ax8 (fh (dec a) (ae b))]:=by
 refine aR ug (al8 _ _ ⟨0,?_⟩)
 obtain⟨ha,hb⟩:=h
 obtain⟨a,rfl,ba,ra⟩:=fK ha
 obtain⟨b,rfl,bb⟩:=aU hb
 unfold PF
 simp only[ak,am,aI,aJ,aG,az,aH,aX,au4,au6,Nat.reduceAdd,Nat.reduceLeDiff]
 try rfl
def ri:aO:=spN true true [tO,tO] (fun x=>decide (okT 15000 x.1∧okT 15000 x.2.1)) (fun x=>[RV.d ax8 (bI (dec x.1) (dec x.2.1))])
theorem n7:SpK 119 ri:=spX fun x h=>Xk x.1 x.2.1 (au0 h)
def W9:Env:=(119,ri)::BM
theorem M4:EnvAll Tryz.prog W9:=⟨n7,ug⟩
def akU:Ctx:=CX W9 []
def T0(a b:BO3)(_k:KT):Option (List RV):=match decide (okT 15000 a∧okT 15000 b)with|true=>some [RV.d .bool ((bI (dec a) (dec b))==0)]|false=>none
theorem ajE(a b:BO3):RS akU 63 [.d tO a,.d tO b] (T0 a b):=rsX
theorem Xe(a b:BO3)(h:okT 15000 a∧okT 15000 b):Con Tryz.prog 63 [.d tO a,.d tO b] [.d .bool (bI (dec a) (dec b)==0)]:=by
 refine aR M4 (ajE _ _ ⟨0,?_⟩)
 unfold T0
 rw[dT h]
def p7:aO:=spN false true [tR] (fun x=>decide (okR x.1)) (fun x=>[RV.d tR (hid (ai (-ae x.1)))])
theorem kZ:SpK 202 p7:=spX fun x h=>by simp only[ak];exact Mh x.1 (au0 h)
def KN:Env:=[(76,jw),(149,lE),(147,kr),(148,ju),(83,jr),(99,nQ),(202,p7)]
theorem vH:EnvAll Tryz.prog KN:=⟨fM,io,gD,fO,fL,jD,kZ,trivial⟩
def anO:Ctx:=CX KN []
def agR(a b c:BR)(_k:KT):Option (List RV):=match decide (okR a)with|true=>(match decide (okR b)with|true=>(match decide (okR c)with|true=>(match(i64.wrap ((aV (ae b) 0)*(aV (ae c) 0)))==0 with|true=>some [RV.d ax8 (aV (ae a) 0)]|false=>(match(aV (ae a) 0)==(i64.wrap ((aV (ae b) 0)*(aV (ae c) 0)))with|true=>some [RV.d ax8 (aV (ae a) 0)]|false=>(match(aV (ae a) 0)==0 with|true=>some [RV.d ax8 (i64.wrap ((aV (ae b) 0)*(aV (ae c) 0)))]|false=>(match decide (okR a∧okR a)with|true=>(match decide (okR b∧okR b)with|true=>(match decide (okR (hid (ai (ae b*ae b)))∧okR c)with|true=>(match decide (okR (hid (ai (ae a*ae a)))∧okR (hid (ai (ae (hid (ai (ae b*ae b)))*ae c))))with|true=>some [RV.d ax8 (i64.wrap ((aV (ae a) 0)*(aV (ae (hid (ai (ae a*ae a)))) (ae (hid (ai (ae (hid (ai (ae b*ae b)))*ae c)))))))]|false=>none)|false=>none)|false=>none)|false=>none))))|false=>none)|false=>none)|false=>none
theorem apT(a b c:BR):RS anO 219 [.d tR a,.d tR b,.d tR c] (agR a b c):=rsX
theorem ado(a b c:BR)(h:ok Rat 240000 a∧ok Rat 170000 b∧ok Rat 30000 c):Con Tryz.prog 219 [.d tR a,.d tR b,.d tR c] [.d ax8 (fy (ae a) (ae b) (ae c))]:=by
 refine aR vH (apT _ _ _ ⟨0,?_⟩)
 obtain⟨ha,hb,hc⟩:=h
 obtain⟨a,rfl,ba⟩:=aU ha
 obtain⟨b,rfl,bb⟩:=aU hb
 obtain⟨c,rfl,bc⟩:=aU hc
 unfold agR
 simp only[ak,aG,az,aX,au4,au6,Nat.reduceAdd,Nat.reduceLeDiff,oM]
 exact BX _ _ _
def apV:Ctx:=CX KN []
def af0(a:BR)(_k:KT):Option (List RV):=match decide (okR a)with|true=>(match decide (okR (hid (ai (-ae a))))with|true=>some [RV.d tR (hid (ai (-ae (hid (ai (-ae a))))))]|false=>none)|false=>none
theorem anh(a:BR):RS apV 260 [.d tR a] (af0 a):=rsX
theorem abx(a:BR)(h:okR a):Con Tryz.prog 260 [.d tR a] [.d tR (ai (ae a))]:=by
 refine aR vH (anh _ ⟨0,?_⟩)
 have ha:=h
 obtain⟨a,rfl,ba⟩:=eH ha
 unfold af0
 simp only[ak,az,aX,Nat.reduceLeDiff,Rat.neg_neg]
def ta:aO:=spN true true [tR,tR,tR] (fun x=>decide (ok Rat 240000 x.1∧ok Rat 170000 x.2.1∧ok Rat 30000 x.2.2.1)) (fun x=>[RV.d ax8 (fy (ae x.1) (ae x.2.1) (ae x.2.2.1))])
theorem nM:SpK 219 ta:=spX fun x h=>ado x.1 x.2.1 x.2.2.1 (au0 h)
def I2:aO:=spN false true [tR] (fun x=>decide (okR x.1)) (fun x=>[RV.d tR (hid (ai (ae x.1)))])
theorem Gb:SpK 260 I2:=spX fun x h=>by simp only[ak];exact abx x.1 (au0 h)
def ahY:Env:=(219,ta)::(260,I2)::KN
theorem Tu:EnvAll Tryz.prog ahY:=⟨nM,Gb,vH⟩
def anD:Ctx:=CX ahY []
def ahn(a b:BO3)(_k:KT):Option (List RV):=match decide (okR a.1∧okR b.1)with|true=>(match decide (okR a.2.1)with|true=>(match decide (okR b.2.1)with|true=>(match decide (bg (0:Int))with|true=>(match decide (okR a.2.2)with|true=>(match decide (okR b.2.2)with|true=>some [RV.d tQ (hid (ai (ae a.1-ae b.1)),(hid (ai (ae a.2.1)),(hid (ai (-ae b.2.1)),(hid (ai ((0:Int):Rat)),(hid (ai (ae a.2.2)),hid (ai (ae b.2.2)))))))]|false=>none)|false=>none)|false=>none)|false=>none)|false=>none)|false=>none
theorem atl(a b:BO3):RS anD 220 [.d tO a,.d tO b] (ahn a b):=rsX
theorem aaN(a b:BO3)(h:ok Rt 15000 a∧ok Rt 15000 b):Con Tryz.prog 220 [.d tO a,.d tO b] [.d tQ (enc (suT (dec a) (dec b)))]:=by
 refine aR Tu (atl _ _ ⟨0,?_⟩)
 obtain⟨ha,hb⟩:=h
 obtain⟨a,rfl,ba⟩:=aU ha
 obtain⟨b,rfl,bb⟩:=aU hb
 unfold ahn
 simp only[ak,am,aI,aJ,aG,az,aX,au4,au6,Nat.reduceLeDiff]
 try rfl
theorem iO{n:Int}(h:bg n):szI n≤3:=by
 have:pw 3=1000000000000000000000000000:=by decide
 exact eL (by have:=h.1;omega) (by have:=h.2;omega)
theorem Vb{q:Rat}{k:Nat}(h:Bd q k)(hk:k≤480000):okI (aj q.floor)∧okI (aj (-q.floor)):=by
 have e:szI q.floor≤k:=by
  refine avm (dq ?_) h.le.1
  rw[Rat.floor_def]
  exact Int.natAbs_ediv_le_natAbs _ _
 exact⟨bk (by omega),bk (by rw[ik];omega)⟩
theorem auF:Bd (65536:Rat) 1:=⟨⟨by decide+kernel,by decide+kernel⟩⟩
theorem alc:((65536:Int):Rat)=65536:=rfl
theorem p48:(2:Int)^(min (48:Int).toNat 64)=281474976710656:=by decide
theorem p32:(2:Int)^(min (32:Int).toNat 64)=4294967296:=by decide
theorem p16:(2:Int)^(min (16:Int).toNat 64)=65536:=by decide
theorem fdv{a b:Int}(h:0≤b):Int.fdiv a b=a/b:=Int.fdiv_eq_ediv_of_nonneg a h
theorem afZ(n k:Nat)(hn:n<18446744073709551616)(hk:2^k-1<18446744073709551616):BitVec.toNat (BitVec.ofInt 64 (n:Int)&&&BitVec.ofInt 64 ((2^k-1:Nat):Int))=n%2^k:=by
 rw[BitVec.toNat_and,BitVec.toNat_ofInt,BitVec.toNat_ofInt]
 have e1:((n:Int)%((2^64:Nat):Int)).toNat=n:=by omega
 have e2:(((2^k-1:Nat):Int)%((2^64:Nat):Int)).toNat=2^k-1:=by omega
 rw[e1,e2,Nat.and_two_pow_sub_one_eq_mod]
theorem as5(n:Nat)(hn:n<18446744073709551616):u64.wrap (BitVec.toNat (BitVec.ofInt 64 (n:Int)&&&BitVec.ofInt 64 65535))=((n%65536:Nat):Int):=by
 rw[show(65535:Int)=((2^16-1:Nat):Int) from rfl,afZ n 16 hn (by decide),avV]
 omega
theorem SG(n:Nat)(hn:n<18446744073709551616):u64.wrap (BitVec.toNat (BitVec.ofInt 64 (n:Int)&&&BitVec.ofInt 64 4294967295))=((n%4294967296:Nat):Int):=by
 rw[show(4294967295:Int)=((2^32-1:Nat):Int) from rfl,afZ n 32 hn (by decide),avV]
 omega
theorem auh{h l:Nat}(hh:h<65536)(hl:l<281474976710656):u64.wrap (BitVec.toNat (BitVec.ofInt 64 (u64.wrap ((h:Int)*281474976710656)) ||| BitVec.ofInt 64 (l:Int)))=((h*281474976710656+l:Nat):Int):=by
 rw[BitVec.toNat_or,BitVec.toNat_ofInt,BitVec.toNat_ofInt,avV,avV]
 have e1:((h:Int)*281474976710656%18446744073709551616%((2^64:Nat):Int)).toNat=h <<< 48:=by
  rw[Nat.shiftLeft_eq]
  omega
 have e2:((l:Int)%((2^64:Nat):Int)).toNat=l:=by omega
 rw[e1,e2,←Nat.shiftLeft_add_eq_or_of_lt (by omega),Nat.shiftLeft_eq]
 omega
def scP(x y:Int):Prop:=x.natAbs≤2305843009213693952∧y.natAbs≤2305843009213693952
instance (x y:Int):Decidable (scP x y):=by unfold scP;infer_instance
def C6(n:Int):Prop:=0≤n∧n≤2305843009213693952
instance (n:Int):Decidable (C6 n):=by unfold C6;infer_instance
def arK:Ctx:=CX [] []
def agw(x y:Int)(_k:KT):Option (List RV):=match decide (x<(-2305843009213693952))with|true=>some [RV.d tG (0,0),RV.d .bool false]|false=>(match decide (y>2305843009213693952)with|true=>some [RV.d tG (0,0),RV.d .bool false]|false=>some [RV.d tG (x,y),RV.d .bool true])
theorem asP(x y:Int):RS arK 294 [SI x,SI y] (agw x y):=rsX
theorem ZP(x y:Int):Con Tryz.prog 294 [.d ax8 x,.d ax8 y] [.d tG ((lw x y).1),.d .bool ((lw x y).2)]:=by
 refine aR (E:=[]) trivial (asP _ _ ⟨0,?_⟩)
 unfold agw lw
 cases decide (x< -2305843009213693952)
 ·cases decide (y>2305843009213693952)<;>rfl
 ·rfl
def B9:aO:=spN false true [tR] (fun x=>decide (okR x.1)) (fun x=>[RV.d tI (hid (aj (ae x.1).floor))])
theorem xc:SpK 296 B9:=spX fun x h=>by simp only[ak];exact adz x.1 (au0 h)
def IM:aO:=spN true true [tI] (fun x=>decide (okI x.1)) (fun x=>[RV.d ax8 (bif decide (bg (ag x.1))then ag x.1 else 0),RV.d .bool (decide (bg (ag x.1)))])
theorem EL:SpK 295 IM:=spX fun x h=>adG x.1 (au0 h)
def Gz:aO:=spN false true [tI] (fun x=>decide (okI x.1)) (fun x=>[RV.d tI (hid (aj (-ag x.1)))])
theorem Ei:SpK 254 Gz:=spX fun x h=>by simp only[ak];exact KK x.1 (au0 h)
def CF:aO:=spN false true [ax8,ax8] (fun _=>true) (fun x=>[RV.d tG (hid ((lw x.1 x.2.1).1)),RV.d .bool ((lw x.1 x.2.1).2)])
theorem wK:SpK 294 CF:=spX fun x _=>by simp only[ak];exact ZP x.1 x.2.1
def wB:Env:=[(76,jw),(148,ju),(202,p7),(296,B9),(295,IM),(254,Gz),(294,CF)]
theorem kA:EnvAll Tryz.prog wB:=⟨fM,fO,kZ,xc,EL,Ei,wK,trivial⟩
def apU:Ctx:=CX wB []
def afP(a:BR)(_k:KT):Option (List RV):=let y1:=hid (ai ((65536:Int):Rat));let y2:=hid (ai (ae a*ae y1));let y3:=hid (aj (ae y2).floor);let y4:=hid (ai (-ae y2));let y5:=hid (aj (ae y4).floor);let y6:=hid (aj (-ag y5));let y7:=lw (bif decide (bg (ag y3))then ag y3 else 0) (bif decide (bg (ag y6))then ag y6 else 0);match decide (bg (65536:Int))with|true=>(match decide (okR a∧okR y1)with|true=>(match decide (okR y2)with|true=>(match decide (okI y3)with|true=>(match decide (okR y2)with|true=>(match decide (okR y4)with|true=>(match decide (okI y5)with|true=>(match decide (okI y6)with|true=>(match !(decide (bg (ag y3)))with|true=>some [RV.d tG (0,0),RV.d .bool false]|false=>(match !(decide (bg (ag y6)))with|true=>some [RV.d tG (0,0),RV.d .bool false]|false=>some [RV.d tG (hid (y7.1)),RV.d .bool (y7.2)]))|false=>none)|false=>none)|false=>none)|false=>none)|false=>none)|false=>none)|false=>none)|false=>none
theorem asW(a:BR):RS apU 281 [.d tR a] (afP a):=rsX
theorem ack(a:BR)(h:ok Rat 200000 a):Con Tryz.prog 281 [.d tR a] [.d tG ((frF (ae a)).1),.d .bool ((frF (ae a)).2)]:=by
 refine aR kA (asW _ ⟨0,?_⟩)
 have ha:=h
 obtain⟨a,rfl,ba⟩:=aU ha
 have hk:=auF
 have h6:bg 65536:=by decide
 have f1:=Vb (inferInstance:Bd (a*65536) _) (by decide)
 have f2:=Vb (inferInstance:Bd (-(a*65536)) _) (by decide)
 unfold afP
 simp only[alc,ak,aG,az,aX,au4,au6,Nat.reduceAdd,Nat.reduceLeDiff,dec_enc,dT h6,dT f1.1,dT f2.1,dT f2.2]
 unfold frF
 cases e1:decide (bg (a*65536).floor)
 ·rfl
 ·cases e2:decide (bg (-(-(a*65536)).floor))
  ·rfl
  ·rfl
def atb:Ctx:=CX wB []
def ag1(a b:(Int×Int))(_k:KT):Option (List RV):=some [RV.d tG (hid ((lw (i64.wrap (a.1+b.1)) (i64.wrap (a.2+b.2))).1)),RV.d .bool ((lw (i64.wrap (a.1+b.1)) (i64.wrap (a.2+b.2))).2)]
theorem arx(a b:(Int×Int)):RS atb 283 [.d tG a,.d tG b] (ag1 a b):=rsX
theorem abt(a b:(Int×Int))(h:prI a∧prI b):Con Tryz.prog 283 [.d tG a,.d tG b] [.d tG ((dm a b).1),.d .bool ((dm a b).2)]:=by
 refine aR kA (arx _ _ ⟨0,?_⟩)
 obtain⟨⟨a1,a2,a3⟩,⟨b1,b2,b3⟩⟩:=h
 unfold ag1 dm
 rw[bi (by omega) (by omega),bi (by omega) (by omega)]
 simp only[ak]
def anZ:Ctx:=CX wB []
def ahs(a:(Int×Int))(_k:KT):Option (List RV):=some [RV.d tG (i64.wrap (0-a.2),i64.wrap (0-a.1))]
theorem aor(a:(Int×Int)):RS anZ 290 [.d tG a] (ahs a):=rsX
theorem acT(a:(Int×Int))(h:prI a):Con Tryz.prog 290 [.d tG a] [.d tG (kn a)]:=by
 refine aR kA (aor _ ⟨0,?_⟩)
 obtain⟨a1,a2,a3⟩:=h
 unfold ahs kn
 rw[bi (by omega) (by omega),bi (by omega) (by omega),aw3,aw3]
def anL:Ctx:=CX wB []
def agV(n:Int)(_k:KT):Option (List RV):=match decide (n<0)with|true=>some [RV.d (.int .u64) (u64.wrap (0-(u64.wrap n)))]|false=>some [RV.d (.int .u64) (u64.wrap n)]
theorem anN(n:Int):RS anL 303 [SI n] (agV n):=rsX
theorem acE(n:Int)(h:bg n):Con Tryz.prog 303 [.d ax8 n] [.d (.int .u64) (n.natAbs:Int)]:=by
 refine aR kA (anN _ ⟨0,?_⟩)
 obtain⟨h1,h2⟩:=h
 unfold agV
 rw[avV,avV]
 by_cases hn:n<0
 ·rw[au1 hn,show(0-n%18446744073709551616)%18446744073709551616=(n.natAbs:Int) by omega]
 ·rw[au3 hn,show n%18446744073709551616=(n.natAbs:Int) by omega]
def arU:Ctx:=CX wB []
def agD(x y:Int)(_k:KT):Option (List RV):=match decide (32<(0:Int))with|true=>none|false=>(match decide (32<(0:Int))with|true=>none|false=>(match decide (32<(0:Int))with|true=>none|false=>(match decide (32<(0:Int))with|true=>none|false=>(match decide (32<(0:Int))with|true=>none|false=>some [RV.d (.int .u64) (u64.wrap ((u64.wrap ((u64.wrap ((Int.fdiv x (2^(min (32:Int).toNat 64)))*(Int.fdiv y (2^(min (32:Int).toNat 64)))))+(Int.fdiv (u64.wrap ((u64.wrap ((Int.fdiv x (2^(min (32:Int).toNat 64)))*(u64.wrap (BitVec.toNat (BitVec.ofInt 64 y&&&BitVec.ofInt 64 4294967295)))))+(Int.fdiv (u64.wrap ((u64.wrap (BitVec.toNat (BitVec.ofInt 64 x&&&BitVec.ofInt 64 4294967295)))*(u64.wrap (BitVec.toNat (BitVec.ofInt 64 y&&&BitVec.ofInt 64 4294967295))))) (2^(min (32:Int).toNat 64))))) (2^(min (32:Int).toNat 64)))))+(Int.fdiv (u64.wrap ((u64.wrap (BitVec.toNat (BitVec.ofInt 64 (u64.wrap ((u64.wrap ((Int.fdiv x (2^(min (32:Int).toNat 64)))*(u64.wrap (BitVec.toNat (BitVec.ofInt 64 y&&&BitVec.ofInt 64 4294967295)))))+(Int.fdiv (u64.wrap ((u64.wrap (BitVec.toNat (BitVec.ofInt 64 x&&&BitVec.ofInt 64 4294967295)))*(u64.wrap (BitVec.toNat (BitVec.ofInt 64 y&&&BitVec.ofInt 64 4294967295))))) (2^(min (32:Int).toNat 64)))))&&&BitVec.ofInt 64 4294967295)))+(u64.wrap ((u64.wrap (BitVec.toNat (BitVec.ofInt 64 x&&&BitVec.ofInt 64 4294967295)))*(Int.fdiv y (2^(min (32:Int).toNat 64))))))) (2^(min (32:Int).toNat 64))))),RV.d (.int .u64) (u64.wrap (x*y))]))))
theorem arE(x y:Int):RS arU 302 [.d (.int .u64) x,.d (.int .u64) y] (agD x y):=rsX
theorem adL(x y:Int)(h:fX x∧fX y):Con Tryz.prog 302 [.d (.int .u64) x,.d (.int .u64) y] [.d (.int .u64) (x*y/18446744073709551616),.d (.int .u64) (x*y%18446744073709551616)]:=by
 refine aR kA (arE _ _ ⟨0,?_⟩)
 obtain⟨h1,h2⟩:=h
 obtain⟨X,rfl⟩:=awj h1.1
 obtain⟨Y,rfl⟩:=awj h2.1
 have hX:X<18446744073709551616:=by have:=h1.2;omega
 have hY:Y<18446744073709551616:=by have:=h2.2;omega
 have wn:∀n:Nat,n<18446744073709551616→u64.wrap (n:Int)=(n:Int):=fun n hn=>by rw[avV];omega
 have eX:(X:Int)/4294967296=((X/4294967296:Nat):Int):=by omega
 have eY:(Y:Int)/4294967296=((Y/4294967296:Nat):Int):=by omega
 unfold agD
 simp only[p32,fdv (show(0:Int)≤4294967296 by decide),SG X hX,SG Y hY,eX,eY]
 have hXY:X*Y=X/4294967296*(Y/4294967296)*18446744073709551616+(X/4294967296*(Y%4294967296)+X%4294967296*(Y/4294967296))*4294967296+X%4294967296*(Y%4294967296):=by
  have a:=Nat.div_add_mod X 4294967296
  have b:=Nat.div_add_mod Y 4294967296
  generalize X/4294967296=x1 at*
  generalize X%4294967296=x0 at*
  generalize Y/4294967296=y1 at*
  generalize Y%4294967296=y0 at*
  subst a b
  grind
 have x0:X%4294967296≤4294967295:=by omega
 have y0:Y%4294967296≤4294967295:=by omega
 have x1:X/4294967296≤4294967295:=by omega
 have y1:Y/4294967296≤4294967295:=by omega
 have q00:=aw5 x0 y0
 have q10:=aw5 x1 y0
 have q01:=aw5 x0 y1
 have q11:=aw5 x1 y1
 simp only[←aws]
 rw[hXY]
 generalize X%4294967296*(Y%4294967296)=p00 at*
 generalize X/4294967296*(Y%4294967296)=p10 at*
 generalize X%4294967296*(Y/4294967296)=p01 at*
 generalize X/4294967296*(Y/4294967296)=p11 at*
 have t0:u64.wrap (u64.wrap (p10:Int)+u64.wrap (p00:Int)/4294967296)=((p10+p00/4294967296:Nat):Int):=by
  rw[wn p10 (by omega),wn p00 (by omega),show(p10:Int)+(p00:Int)/4294967296=((p10+p00/4294967296:Nat):Int) by omega,wn _ (by omega)]
 rw[t0,SG _ (by omega)]
 have t1:u64.wrap (((p10+p00/4294967296)%4294967296:Nat)+u64.wrap (p01:Int))=(((p10+p00/4294967296)%4294967296+p01:Nat):Int):=by
  rw[wn p01 (by omega),←Int.natCast_add,wn _ (by omega)]
 rw[t1,wn p11 (by omega)]
 rw[au3 (show ¬(32:Int)<0 by decide)]
 dsimp only
 have hi:u64.wrap (u64.wrap ((p11:Int)+((p10+p00/4294967296:Nat):Int)/4294967296)+(((p10+p00/4294967296)%4294967296+p01:Nat):Int)/4294967296)=((p11*18446744073709551616+(p10+p01)*4294967296+p00:Nat):Int)/18446744073709551616:=by
  rw[avV,avV]
  omega
 rw[hi,avV]
def Cd:aO:=spN false true [ax8] (fun x=>decide (bg x.1)) (fun x=>[RV.d (.int .u64) (hid ((x.1.natAbs:Int)))])
theorem xZ:SpK 303 Cd:=spX fun x h=>by simp only[ak];exact acE x.1 (au0 h)
def Dk:aO:=spN false true [(.int .u64),(.int .u64)] (fun x=>decide (fX x.1∧fX x.2.1)) (fun x=>[RV.d (.int .u64) (hid (x.1*x.2.1/18446744073709551616)),RV.d (.int .u64) (hid (x.1*x.2.1%18446744073709551616))])
theorem vS:SpK 302 Dk:=spX fun x h=>by simp only[ak];exact adL x.1 x.2.1 (au0 h)
def agB:Env:=(303,Cd)::(302,Dk)::wB
theorem R5:EnvAll Tryz.prog agB:=⟨xZ,vS,kA⟩
def asY:Ctx:=CX agB []
def afU(x y:Int)(_k:KT):Option (List RV):=let y1:=hid ((x.natAbs:Int));let y2:=hid ((y.natAbs:Int));let y3:=hid (y1*y2/18446744073709551616);let y4:=hid (y1*y2%18446744073709551616);let y5:=u64.wrap (BitVec.toNat (BitVec.ofInt 64 (u64.wrap (y3*2^(min (48:Int).toNat 64))) ||| BitVec.ofInt 64 (Int.fdiv y4 (2^(min (16:Int).toNat 64)))));let y6:=i64.wrap y5;let y7:=i64.wrap (y6+1);let y8:=i64.wrap (0-y7);let y9:=i64.wrap (0-y6);let y10:=decide (y9≤2305843009213693952);match decide (bg x)with|true=>(match decide (bg y)with|true=>(match decide (fX y1∧fX y2)with|true=>(match decide (16<(0:Int))with|true=>none|false=>(match(Int.fdiv y3 (2^(min (16:Int).toNat 64))) !=0 with|true=>some [RV.d ax8 0,RV.d ax8 0,RV.d .bool false]|false=>(match decide (48<(0:Int))with|true=>none|false=>(match decide (16<(0:Int))with|true=>none|false=>(match decide (y5>2305843009213693952)with|true=>some [RV.d ax8 0,RV.d ax8 0,RV.d .bool false]|false=>(match(u64.wrap (BitVec.toNat (BitVec.ofInt 64 y4&&&BitVec.ofInt 64 65535))) !=0 with|true=>(match !((decide (x<0))==(decide (y<0)))with|true=>(match decide (y8≥(-2305843009213693952))with|true=>some [RV.d ax8 y8,RV.d ax8 y9,RV.d .bool y10]|false=>some [RV.d ax8 y8,RV.d ax8 y9,RV.d .bool false])|false=>(match decide (y6≥(-2305843009213693952))with|true=>some [RV.d ax8 y6,RV.d ax8 y7,RV.d .bool (decide (y7≤2305843009213693952))]|false=>some [RV.d ax8 y6,RV.d ax8 y7,RV.d .bool false]))|false=>(match !((decide (x<0))==(decide (y<0)))with|true=>(match decide (y9≥(-2305843009213693952))with|true=>some [RV.d ax8 y9,RV.d ax8 y9,RV.d .bool y10]|false=>some [RV.d ax8 y9,RV.d ax8 y9,RV.d .bool false])|false=>(match decide (y6≥(-2305843009213693952))with|true=>some [RV.d ax8 y6,RV.d ax8 y6,RV.d .bool (decide (y6≤2305843009213693952))]|false=>some [RV.d ax8 y6,RV.d ax8 y6,RV.d .bool false]))))))))|false=>none)|false=>none)|false=>none
theorem ar7(x y:Int):RS asY 297 [SI x,SI y] (afU x y):=rsX
theorem ads(x y:Int)(h:scP x y):Con Tryz.prog 297 [.d ax8 x,.d ax8 y] [.d ax8 ((scF x y).1.1),.d ax8 ((scF x y).1.2),.d .bool ((scF x y).2)]:=by
 refine aR R5 (ar7 _ _ ⟨0,?_⟩)
 obtain⟨hx,hy⟩:=h
 have h1:bg x:=⟨by omega,by omega⟩
 have h2:bg y:=⟨by omega,by omega⟩
 have h3:fX (x.natAbs:Int)∧fX (y.natAbs:Int):=⟨⟨by omega,by omega⟩,⟨by omega,by omega⟩⟩
 unfold afU scF
 simp only[ak]
 rw[dT h1,dT h2,dT h3]
 have hp:=aw5 hx hy
 simp only[←aws,p16,p48,fdv (show(0:Int)≤65536 by decide)]
 generalize x.natAbs*y.natAbs=p at*
 rw[au3 (show ¬(16:Int)<0 by decide),au3 (show ¬(48:Int)<0 by decide),show(p:Int)/18446744073709551616=((p/18446744073709551616:Nat):Int) by omega,show(p:Int)%18446744073709551616=((p%18446744073709551616:Nat):Int) by omega,show((p%18446744073709551616:Nat):Int)/65536=((p%18446744073709551616/65536:Nat):Int) by omega,as5 _ (by omega),show p%18446744073709551616%65536=p%65536 by omega]
 by_cases hc:p≥1208925819614629174706176
 ·rw[au1 hc,show(((p/18446744073709551616:Nat):Int)/65536 !=0)=true by simp;omega]
  rfl
 ·rw[au3 hc,show(((p/18446744073709551616:Nat):Int)/65536 !=0)=false by simp;omega,auh (by omega) (by omega),show p/18446744073709551616*281474976710656+p%18446744073709551616/65536=p/65536 by omega]
  have hdm:=Nat.div_add_mod p 65536
  have hml:=axK p (show 65536>0 by decide)
  have hru:(p+65535)/65536=if p%65536=0 then p/65536 else p/65536+1:=by split<;>omega
  rw[hru]
  clear hru
  generalize p/65536=q at*
  generalize p%65536=m at*
  have e1:decide ((q:Int)>2305843009213693952)=decide (q>2305843009213693952):=awF.2 (by omega)
  rw[e1]
  by_cases hd:q>2305843009213693952
  ·rw[au1 hd]
   rfl
  rw[au3 hd,bi (x:=(q:Int)) (by omega) (by omega),bi (x:=(q:Int)+1) (by omega) (by omega),bi (x:=0-(q:Int)) (by omega) (by omega),bi (x:=0-((q:Int)+1)) (by omega) (by omega)]
  have e2:((m:Int) !=0)=!decide (m=0):=by by_cases h:m=0<;>simp[h]
  have e3:decide (0-(q:Int)≥ -2305843009213693952)=true:=au1 (by omega)
  have e4:decide (0-(q:Int)≤2305843009213693952)=true:=au1 (by omega)
  have e5:decide ((q:Int)≥ -2305843009213693952)=true:=au1 (by omega)
  have e6:decide ((q:Int)≤2305843009213693952)=true:=au1 (by omega)
  have e7:decide (0-((q:Int)+1)≥ -2305843009213693952)=decide (q+1≤2305843009213693952):=awF.2 (by omega)
  have e8:decide ((q:Int)+1≤2305843009213693952)=decide (q+1≤2305843009213693952):=awF.2 (by omega)
  have e9:decide (q≤2305843009213693952)=true:=au1 (by omega)
  rw[e2,e3,e4,e5,e6,e7,e8]
  have f2:((q+1:Nat):Int)=(q:Int)+1:=by omega
  have f3:decide (m=0)=true→m=0:=au0
  have f4:decide (m=0)=false→m≠0:=avW
  generalize decide (m=0)=d2 at*
  generalize (decide (x<0)==decide (y<0))=d3 at*
  cases d2
  ·rw[avn (f4 rfl),f2]
   generalize decide (q+1≤2305843009213693952)=d4 at*
   cases d3<;>cases d4<;>simp
  ·rw[avr (f3 rfl),e9]
   cases d3<;>simp
def bQ(r:Rt):Iv×Bool:=
 bif !(frF r.1).2||decide (r.2.1=0)then frF r.1
 else bif !(frF r.2.1).2||!(frF r.2.2).2||decide (r.2.2<0)then(iv0,false)
 else bif !(sqF (frF r.2.2).1).2 then(iv0,false)
 else bif !(cN (frF r.2.1).1 (sqF (frF r.2.2).1).1).2 then(iv0,false)
 else dm (frF r.1).1 (cN (frF r.2.1).1 (sqF (frF r.2.2).1).1).1
def gS(n:Rat)(a:Iv)(k:Bool):Iv×Bool:=bif !k||!(frF n).2 then(iv0,false)else cN (frF n).1 a
def apF(a b:Rt):Int×Bool:=
 bif !(bQ a).2||!(bQ b).2 then(0,false)else bif decide ((bQ a).1.2<(bQ b).1.1)then(-1,true)else bif decide ((bQ a).1.1>(bQ b).1.2)then(1,true)else(0,false)
abbrev Pt:=Rat×Rat×Rat×Rat×Rat
abbrev Ln:=Rat×Rat×Rat
def pxR(p:Pt):Rt:=(p.1,p.2.1,p.2.2.2.2)
def pyR(p:Pt):Rt:=(p.2.2.1,p.2.2.2.1,p.2.2.2.2)
def se(l:Ln)(p:Pt):Int×Bool:=
 bif !(gS l.1 (bQ (pxR p)).1 (bQ (pxR p)).2).2||!(gS l.2.1 (bQ (pyR p)).1 (bQ (pyR p)).2).2||!(frF l.2.2).2 then(0,false)
 else bif !(dm (gS l.1 (bQ (pxR p)).1 (bQ (pxR p)).2).1 (gS l.2.1 (bQ (pyR p)).1 (bQ (pyR p)).2).1).2 then(0,false)
 else bif !(dm (dm (gS l.1 (bQ (pxR p)).1 (bQ (pxR p)).2).1 (gS l.2.1 (bQ (pyR p)).1 (bQ (pyR p)).2).1).1 (kn (frF l.2.2).1)).2 then(0,false)
 else sgF (dm (dm (gS l.1 (bQ (pxR p)).1 (bQ (pxR p)).2).1 (gS l.2.1 (bQ (pyR p)).1 (bQ (pyR p)).2).1).1 (kn (frF l.2.2).1)).1
def eI(r:Rt)(q:Rat):Iv×Bool:=bif !(bQ r).2||!(frF q).2 then(iv0,false)else dm (bQ r).1 (kn (frF q).1)
def qJ(c:Ln)(p:Pt):Int×Bool:=
 bif !(eI (pxR p) c.1).2||!(eI (pyR p) c.2.1).2||!(frF c.2.2).2 then(0,false)
 else bif !(cN (eI (pxR p) c.1).1 (eI (pxR p) c.1).1).2||!(cN (eI (pyR p) c.2.1).1 (eI (pyR p) c.2.1).1).2 then(0,false)
 else bif !(dm (cN (eI (pxR p) c.1).1 (eI (pxR p) c.1).1).1 (cN (eI (pyR p) c.2.1).1 (eI (pyR p) c.2.1).1).1).2 then(0,false)
 else bif !(dm (dm (cN (eI (pxR p) c.1).1 (eI (pxR p) c.1).1).1 (cN (eI (pyR p) c.2.1).1 (eI (pyR p) c.2.1).1).1).1 (kn (frF c.2.2).1)).2 then(0,false)
 else sgF (dm (dm (cN (eI (pxR p) c.1).1 (eI (pxR p) c.1).1).1 (cN (eI (pyR p) c.2.1).1 (eI (pyR p) c.2.1).1).1).1 (kn (frF c.2.2).1)).1
def sfF(m:Rat):Iv:=(sqF (frF m).1).1
def mfF(b:Rat)(i:Iv):Iv:=(cN (frF b).1 i).1
def qu1(q:Qd):Bool:=(frF q.2.2.2.2.1).2&&(sqF (frF q.2.2.2.2.1).1).2&&(frF q.2.2.2.2.2).2&&(sqF (frF q.2.2.2.2.2).1).2
def qu2(q:Qd):Bool:=(frF q.2.1).2&&(cN (frF q.2.1).1 (sfF q.2.2.2.2.1)).2&&(frF q.2.2.1).2&&(cN (frF q.2.2.1).1 (sfF q.2.2.2.2.2)).2&&(frF q.2.2.2.1).2&&(cN (sfF q.2.2.2.2.1) (sfF q.2.2.2.2.2)).2&&(cN (frF q.2.2.2.1).1 (cN (sfF q.2.2.2.2.1) (sfF q.2.2.2.2.2)).1).2
def quA(q:Qd):Iv×Bool:=dm (frF q.1).1 (mfF q.2.1 (sfF q.2.2.2.2.1))
def quB(q:Qd):Iv×Bool:=dm (mfF q.2.2.1 (sfF q.2.2.2.2.2)) (mfF q.2.2.2.1 (cN (sfF q.2.2.2.2.1) (sfF q.2.2.2.2.2)).1)
def qu3(q:Qd):Bool:=(frF q.1).2&&(quA q).2&&(quB q).2&&(dm (quA q).1 (quB q).1).2
def quF(q:Qd):Int×Bool:=bif !(qu1 q)then(0,false)else bif !(qu2 q)then(0,false)else bif !(qu3 q)then(0,false)else sgF (dm (quA q).1 (quB q).1).1
theorem yh(r:Rt):prI (bQ r).1:=by
 unfold bQ
 cases !(frF r.1).2||decide (r.2.1=0)
 ·cases !(frF r.2.1).2||!(frF r.2.2).2||decide (r.2.2<0)
  ·cases !(sqF (frF r.2.2).1).2
   ·cases !(cN (frF r.2.1).1 (sqF (frF r.2.2).1).1).2
    ·exact RE.addF_pr (RE.frF_pr _) (rE _ _)
    ·exact fo
   ·exact fo
  ·exact fo
 ·exact RE.frF_pr _
theorem abs(n:Rat)(a:Iv)(k:Bool):prI (gS n a k).1:=by
 unfold gS
 cases !k||!(frF n).2
 ·exact rE _ _
 ·exact fo
theorem adD(r:Rt)(q:Rat):prI (eI r q).1:=by
 unfold eI
 cases !(bQ r).2||!(frF q).2
 ·exact RE.addF_pr (yh _) (RE.negF_pr (RE.frF_pr _))
 ·exact fo
namespace RE
theorem mM{r:Rt}(h:(bQ r).2=true):inI (bQ r).1 (v2 r.1 r.2.1 r.2.2):=by
 unfold bQ at h ⊢
 cases e1:(frF r.1).2
 ·rw[e1]at h
  simp only[Bool.not_false,Bool.true_or,cond_true]at h
  rw[e1]at h
  cases h
 ·rw[e1]at h
  by_cases hb:r.2.1=0
  ·rw[au1 hb]at h ⊢
   simp only[Bool.not_true,Bool.false_or,cond_true]
   unfold v2
   rw[hb,AW,zero_mul,add_zero]
   exact gA e1
  ·rw[au3 hb]at h ⊢
   cases e2:(frF r.2.1).2<;>cases e3:(frF r.2.2).2<;>cases e4:decide (r.2.2<0)<;>rw[e2,e3,e4]at h<;>try (cases h;done)
   cases e5:(sqF (frF r.2.2).1).2<;>rw[e5]at h<;>try (cases h;done)
   cases e6:(cN (frF r.2.1).1 (sqF (frF r.2.2).1).1).2<;>rw[e6]at h<;>try (cases h;done)
   have hn:(0:RE)≤of r.2.2:=mj.2 (by have:=avW e4;grind)
   exact iJ (gA e1) (jN (gA e2) (wa (gA e3) hn e5) e6) h
theorem K1{n:Rat}{a:Iv}{k:Bool}{x:RE}(ha:k=true→inI a x)(h:(gS n a k).2=true):inI (gS n a k).1 (of n*x):=by
 unfold gS at h ⊢
 cases k
 ·cases h
 ·cases e:(frF n).2<;>rw[e]at h
  ·cases h
  ·exact jN (gA e) (ha rfl) h
theorem LZ{r:Rt}{q:Rat}(h:(eI r q).2=true):inI (eI r q).1 (v2 r.1 r.2.1 r.2.2+ -of q):=by
 unfold eI at h ⊢
 cases e1:(bQ r).2<;>cases e2:(frF q).2<;>rw[e1,e2]at h<;>try (cases h;done)
 exact iJ (mM e1) (C4 (gA e2)) h
theorem Ml(x y:RE):((y-(x)))+((x-y-(0)))=0:=by
 induction x using auZ
 induction y using auZ
 exact snd fun n=>by
  simp only[RL.add,RL.neg,RL.const]
  grind
theorem abK(x y:RE)(h1:x<y):x-y<0:=d9.1 fun hg=>far (aB (aE h1) (aA hg)) (Ml x y)
theorem apu(u x y a b:RE):((b-(a)))+((a-(u*x)))+((u*y-(b)))+((u-(0))*(x-(y)))=0:=by
 induction u using auZ
 induction x using auZ
 induction y using auZ
 induction a using auZ
 induction b using auZ
 exact snd fun n=>by
  simp only[RL.add,RL.mul,RL.neg,RL.const]
  grind
theorem ap1(u x y a b:RE)(h1:0<u)(h2:u*x≤a)(h3:a<b)(h4:b≤u*y):x<y:=d9.1 fun hg=>far (aB (aB (aB (aE h3) (aA h2)) (aA h4)) (bV (le_of_lt (aE h1)) (aA hg))) (apu u x y a b)
theorem apF_ok{a b:Rt}(h:(apF a b).2=true):(apF a b).1=sg (vR a-vR b):=by
 unfold apF at h ⊢
 cases e1:(bQ a).2<;>cases e2:(bQ b).2<;>rw[e1,e2]at h<;>try (cases h;done)
 obtain⟨a1,a2⟩:=mM e1
 obtain⟨b1,b2⟩:=mM e2
 cases e3:decide ((bQ a).1.2<(bQ b).1.1)<;>rw[e3]at h
 ·cases e4:decide ((bQ a).1.1>(bQ b).1.2)<;>rw[e4]at h
  ·cases h
  ·have h4:of ((bQ b).1.2:Rat)<of ((bQ a).1.1:Rat):=iI (axl.2 (au0 e4))
   exact(dR (aE (ap1 _ _ _ _ _ mp b2 h4 a1))).symm
 ·have h4:of ((bQ a).1.2:Rat)<of ((bQ b).1.1:Rat):=iI (axl.2 (au0 e3))
  exact(im (abK _ _ (ap1 _ _ _ _ _ mp a2 h4 b1))).symm
theorem ZK{l:Ln}{p:Pt}(h:(se l p).2=true):(se l p).1=sg (of l.1*v2 p.1 p.2.1 p.2.2.2.2+of l.2.1*v2 p.2.2.1 p.2.2.2.1 p.2.2.2.2+ -of l.2.2):=by
 unfold se at h ⊢
 cases e1:(gS l.1 (bQ (pxR p)).1 (bQ (pxR p)).2).2<;>cases e2:(gS l.2.1 (bQ (pyR p)).1 (bQ (pyR p)).2).2<;>cases e3:(frF l.2.2).2<;>rw[e1,e2,e3]at h<;>try (cases h;done)
 have i1:=K1 (x:=v2 p.1 p.2.1 p.2.2.2.2) (fun e=>mM (r:=pxR p) e) e1
 have i2:=K1 (x:=v2 p.2.2.1 p.2.2.2.1 p.2.2.2.2) (fun e=>mM (r:=pyR p) e) e2
 revert h i1 i2
 generalize gS l.1 (bQ (pxR p)).1 (bQ (pxR p)).2=X
 generalize gS l.2.1 (bQ (pyR p)).1 (bQ (pyR p)).2=Y
 intro h i1 i2
 cases e4:(dm X.1 Y.1).2<;>rw[e4]at h<;>try (cases h;done)
 cases e5:(dm (dm X.1 Y.1).1 (kn (frF l.2.2).1)).2<;>rw[e5]at h<;>try (cases h;done)
 exact IZ (iJ (iJ i1 i2 e4) (C4 (gA e3)) e5) h
theorem aaZ{c:Ln}{p:Pt}(h:(qJ c p).2=true):(qJ c p).1=sg ((v2 p.1 p.2.1 p.2.2.2.2+ -of c.1)*(v2 p.1 p.2.1 p.2.2.2.2+ -of c.1)+(v2 p.2.2.1 p.2.2.2.1 p.2.2.2.2+ -of c.2.1)*(v2 p.2.2.1 p.2.2.2.1 p.2.2.2.2+ -of c.2.1)+ -of c.2.2):=by
 unfold qJ at h ⊢
 cases e1:(eI (pxR p) c.1).2<;>cases e2:(eI (pyR p) c.2.1).2<;>cases e3:(frF c.2.2).2<;>rw[e1,e2,e3]at h<;>try (cases h;done)
 have i1:=LZ e1
 have i2:=LZ e2
 revert h
 generalize eI (pxR p) c.1=X at*
 generalize eI (pyR p) c.2.1=Y at*
 intro h
 cases e4:(cN X.1 X.1).2<;>cases e5:(cN Y.1 Y.1).2<;>rw[e4,e5]at h<;>try (cases h;done)
 cases e6:(dm (cN X.1 X.1).1 (cN Y.1 Y.1).1).2<;>rw[e6]at h<;>try (cases h;done)
 cases e7:(dm (dm (cN X.1 X.1).1 (cN Y.1 Y.1).1).1 (kn (frF c.2.2).1)).2<;>rw[e7]at h<;>try (cases h;done)
 exact IZ (iJ (iJ (jN i1 i1 e4) (jN i2 i2 e5) e6) (C4 (gA e3)) e7) h
theorem aqA(a b c d:RE):a+b+(c+d)=a+b+c+d:=by
 induction a using auZ
 induction b using auZ
 induction c using auZ
 induction d using auZ
 exact snd fun n=>by
  simp only[RL.add]
  grind
theorem quF_ok{q:Qd}(hM:0≤q.2.2.2.2.1)(hN:0≤q.2.2.2.2.2)(h:(quF q).2=true):(quF q).1=sg (vQ q.1 q.2.1 q.2.2.1 q.2.2.2.1 q.2.2.2.2.1 q.2.2.2.2.2):=by
 unfold quF at h ⊢
 cases e1:qu1 q<;>rw[e1]at h<;>try (cases h;done)
 cases e2:qu2 q<;>rw[e2]at h<;>try (cases h;done)
 cases e3:qu3 q<;>rw[e3]at h<;>try (cases h;done)
 unfold qu1 at e1
 unfold qu2 at e2
 unfold qu3 at e3
 simp only[au8]at e1 e2 e3
 obtain⟨⟨⟨a1,a2⟩,a3⟩,a4⟩:=e1
 obtain⟨⟨⟨⟨⟨⟨b1,b2⟩,b3⟩,b4⟩,b5⟩,b6⟩,b7⟩:=e2
 obtain⟨⟨⟨c1,c2⟩,c3⟩,c4⟩:=e3
 have i1:inI (sfF q.2.2.2.2.1) (rq q.2.2.2.2.1):=wa (gA a1) (mj.2 hM) a2
 have i2:inI (sfF q.2.2.2.2.2) (rq q.2.2.2.2.2):=wa (gA a3) (mj.2 hN) a4
 have hq:inI (dm (quA q).1 (quB q).1).1 (vQ q.1 q.2.1 q.2.2.1 q.2.2.2.1 q.2.2.2.2.1 q.2.2.2.2.2):=by
  have:=iJ (iJ (gA c1) (jN (gA b1) i1 b2) c2) (iJ (jN (gA b3) i2 b4) (jN (gA b5) (jN i1 i2 b6) b7) c3) c4
  rw[aqA]at this
  exact this
 exact IZ hq h
end RE
theorem Uq{z:Int}(h:bg z):okI (aj z):=bk (by have:=iO h;omega)
theorem LO{n:Int}(h:C6 n):0≤dM n∧dM n≤2305843009213693952:=by
 obtain⟨h0,h1⟩:=h
 unfold dM
 obtain⟨g0,g1,g2⟩:=fw (z:=n*65536) (by omega)
 refine⟨g0,?_⟩
 rcases avA 2305843009213693952 (bR (n*65536))with h|h
 ·have:2305843009213693952*2305843009213693952≤bR (n*65536)*bR (n*65536):=aw7 (by omega) (by omega) (by omega) (by omega)
  omega
 ·exact h
theorem Yw{a b:Iv}(ha:prI a)(hb:prI b){x y:Int}(hx:x=a.1∨x=a.2)(hy:y=b.1∨y=b.2):scP x y:=by
 obtain⟨a1,a2,a3⟩:=ha
 obtain⟨b1,b2,b3⟩:=hb
 constructor
 ·rcases hx with rfl|rfl<;>omega
 ·rcases hy with rfl|rfl<;>omega
theorem atv{α:Type}(b:Bool)(x y:α):(match b with|true=>x|false=>y)=bif b then x else y:=by cases b<;>rfl
def P7:aO:=spN false true [ax8] (fun x=>decide (bg x.1)) (fun x=>[RV.d tI (hid (aj x.1))])
theorem WN:SpK 160 P7:=spX fun x h=>by simp only[ak];exact Kt x.1 (au0 h)
def Dc:aO:=spN false true [tR] (fun x=>decide (ok Rat 200000 x.1)) (fun x=>[RV.d tG (hid ((frF (ae x.1)).1)),RV.d .bool ((frF (ae x.1)).2)])
theorem xd:SpK 281 Dc:=spX fun x h=>by simp only[ak];exact ack x.1 (au0 h)
def AM:aO:=spN false true [tG,tG] (fun x=>decide (prI x.1∧prI x.2.1)) (fun x=>[RV.d tG (hid ((dm x.1 x.2.1).1)),RV.d .bool ((dm x.1 x.2.1).2)])
theorem xF:SpK 283 AM:=spX fun x h=>by simp only[ak];exact abt x.1 x.2.1 (au0 h)
def BS:aO:=spN false true [tG] (fun x=>decide (prI x.1)) (fun x=>[RV.d tG (hid (kn x.1))])
theorem v6:SpK 290 BS:=spX fun x h=>by simp only[ak];exact acT x.1 (au0 h)
def I6:aO:=spN false true [ax8,ax8] (fun x=>decide (scP x.1 x.2.1)) (fun x=>[RV.d ax8 ((scF x.1 x.2.1).1.1),RV.d ax8 ((scF x.1 x.2.1).1.2),RV.d .bool ((scF x.1 x.2.1).2)])
theorem F3:SpK 297 I6:=spX fun x h=>ads x.1 x.2.1 (au0 h)
def LM:Env:=[(76,jw),(148,ju),(202,p7),(296,B9),(295,IM),(254,Gz),(83,jr),(184,IS),(288,IO),(183,Ig),(160,P7),(294,CF),(281,Dc),(283,AM),(290,BS),(303,Cd),(302,Dk),(297,I6)]
theorem vW:EnvAll Tryz.prog LM:=⟨fM,fO,kZ,xc,EL,Ei,fL,Fq,Gt,Gq,WN,wK,xd,xF,v6,xZ,vS,F3,trivial⟩
def ai6:NT:=[((282,8),{keep:=[3,4,6,7,19,20,21],hl:=4}),((282,22),{keep:=[3,4,6,7,9,19,20,21,29,30,31],hl:=5})]
def nB:Ctx:=CX LM ai6
def pV(a b:(Int×Int))(s21 s6 s7:Int):Cfg:=⟨282,[.blk 0,.seq 46],[(3,.box 1 0),(4,.box 2 0),(6,SI s6),(7,SI s7),(19,.own 3),(20,SI (([a.1,a.2]).length:Int)),(21,SI s21)],[.box 232 [SI a.1,SI a.2],.box 232 [SI b.1,SI b.2],.box 232 [SI 0,SI 0],.row 2 ax8 ([a.1,a.2])],0,[]⟩
def oR(a b:(Int×Int))(s21 x1 s6 s7 s31:Int):Cfg:=⟨282,[.blk 2,.blk 1,.seq 45,.lp 8,.blk 0,.seq 46],[(3,.box 1 0),(4,.box 2 0),(6,SI s6),(7,SI s7),(9,SI x1),(19,.own 3),(20,SI (([a.1,a.2]).length:Int)),(21,SI s21),(29,.own 4),(30,SI (([b.1,b.2]).length:Int)),(31,SI s31)],[.box 232 [SI a.1,SI a.2],.box 232 [SI b.1,SI b.2],.box 232 [SI 0,SI 0],.row 2 ax8 ([a.1,a.2]),.row 2 ax8 ([b.1,b.2])],0,[]⟩
def ase(a b:(Int×Int))(k:KT):Option (List RV):=k 8 (pV a b 0 2305843009213693952 (-2305843009213693952))
theorem an4(a b:(Int×Int)):RS nB 282 [.d tG a,.d tG b] (ase a b):=rsX
def ww(a b:(Int×Int))(s21 s6 s7:Int)(k:KT):Option (List RV):=match decide (s21<(([a.1,a.2]).length:Int))with|true=>(match bG ([a.1,a.2]) s21 with|some _=>(match true,([a.1,a.2])[(s21).toNat]? with|true,some x1=>k 22 (oR a b s21 x1 s6 s7 0)|_,_=>none)|none=>none)|false=>some [RV.d tG (s6,s7),RV.d .bool true]
theorem Ed(a b:(Int×Int))(s21 s6 s7:Int):RN nB 8 (pV a b s21 s6 s7) (ww a b s21 s6 s7):=rnX
def oa(a b:(Int×Int))(s21 x1 s6 s7 s31:Int)(k:KT):Option (List RV):=match decide (s31<(([b.1,b.2]).length:Int))with|true=>(match bG ([b.1,b.2]) s31 with|some _=>(match true,([b.1,b.2])[(s31).toNat]? with|true,some x2=>(match decide (scP x1 x2)with|true=>(match !((scF x1 x2).2)with|true=>some [RV.d tG (0,0),RV.d .bool false]|false=>k 22 (oR a b s21 x1 (if(scF x1 x2).1.1<s6 then(scF x1 x2).1.1 else s6) (if(scF x1 x2).1.2>s7 then(scF x1 x2).1.2 else s7) (i64.wrap (s31+1))))|false=>none)|_,_=>none)|none=>none)|false=>k 8 (pV a b (i64.wrap (s21+1)) s6 s7)
theorem r7(a b:(Int×Int))(s21 x1 s6 s7 s31:Int):RN nB 22 (oR a b s21 x1 s6 s7 s31) (oa a b s21 x1 s6 s7 s31):=rnX
theorem UW(a b:Iv)(ha:prI a)(hb:prI b)(s21 x:Int)(hx:x=a.1∨x=a.2)(s:Iv)(r:List RV)(h:∀s2:Iv×Bool,s2=gC (gC (s,true) x b.1) x b.2→bif s2.2 then nB.Runs 8 (pV a b (i64.wrap (s21+1)) s2.1.1 s2.1.2) r else r=[RV.d tG (0,0),RV.d .bool false]):
  nB.Runs 22 (oR a b s21 x s.1 s.2 0) r:=by
 have h:=h _ rfl
 refine r7 _ _ _ _ _ _ _ ?_
 unfold oa
 have g1:decide ((0:Int)<(([b.1,b.2]).length:Int))=true:=by simp
 have g2:decide ((1:Int)<(([b.1,b.2]).length:Int))=true:=by simp
 have g3:decide ((2:Int)<(([b.1,b.2]).length:Int))=false:=by simp
 rw[g1]
 simp only[show bG [b.1,b.2] 0=some b.1 from rfl,show [b.1,b.2][(0:Int).toNat]?=some b.1 from rfl,dT (Yw ha hb hx (.inl rfl))]
 cases e1:(scF x b.1).2
 ·rw[show gC (gC (s,true) x b.1) x b.2=(iv0,false) by unfold gC;rw[e1];rfl]at h
  exact⟨0,by rw[h];rfl⟩
 ·try dsimp only[Bool.not_true]
  have e0:gC (s,true) x b.1=((if(scF x b.1).1.1<s.1 then(scF x b.1).1.1 else s.1,if(scF x b.1).1.2>s.2 then(scF x b.1).1.2 else s.2),true):=by unfold gC;rw[e1];rfl
  rw[e0]at h
  suffices hh:nB.Runs 22 (oR a b s21 x (if(scF x b.1).1.1<s.1 then(scF x b.1).1.1 else s.1) (if(scF x b.1).1.2>s.2 then(scF x b.1).1.2 else s.2) (i64.wrap (0+1))) r by
   obtain⟨n,hn⟩:=hh
   exact⟨n,hn⟩
  rw[show i64.wrap (0+1)=1 by decide]
  refine r7 _ _ _ _ _ _ _ ?_
  unfold oa
  rw[g2]
  simp only[show bG [b.1,b.2] 1=some b.2 from rfl,show [b.1,b.2][(1:Int).toNat]?=some b.2 from rfl,dT (Yw ha hb hx (.inr rfl))]
  cases e2:(scF x b.2).2
  ·unfold gC at h
   rw[e2]at h
   exact⟨0,by rw[show r=[RV.d tG (0,0),RV.d .bool false] from h];rfl⟩
  ·try dsimp only[Bool.not_true]
   unfold gC at h
   rw[e2]at h
   simp only[au6,cond_true]at h
   suffices hh:nB.Runs 22 (oR a b s21 x _ _ (i64.wrap (1+1))) r by
    obtain⟨n,hn⟩:=hh
    exact⟨n,hn⟩
   rw[show i64.wrap (1+1)=2 by decide]
   refine r7 _ _ _ _ _ _ _ ?_
   unfold oa
   rw[g3]
   obtain⟨n,hn⟩:=h
   exact⟨n,hn⟩
theorem Kd(a b:Iv)(ha:prI a)(hb:prI b)(x i:Int)(hi:(i=0∧x=a.1)∨(i=1∧x=a.2))(s:Iv)(r:List RV)(h:∀s2:Iv×Bool,s2=gC (gC (s,true) x b.1) x b.2→bif s2.2 then nB.Runs 8 (pV a b (i+1) s2.1.1 s2.1.2) r else r=[RV.d tG (0,0),RV.d .bool false]):
  nB.Runs 8 (pV a b i s.1 s.2) r:=by
 refine Ed _ _ _ _ _ ?_
 unfold ww
 rcases hi with⟨rfl,rfl⟩|⟨rfl,rfl⟩
 ·obtain⟨n,hn⟩:=UW a b ha hb 0 a.1 (.inl rfl) s r (by rw[show i64.wrap (0+1)=0+1 by decide];exact h)
  exact⟨n,hn⟩
 ·obtain⟨n,hn⟩:=UW a b ha hb 1 a.2 (.inr rfl) s r (by rw[show i64.wrap (1+1)=1+1 by decide];exact h)
  exact⟨n,hn⟩
theorem Tg{s:Iv×Bool}{x y:Int}(h:s.2=false):gC s x y=(iv0,false):=by unfold gC;rw[h];rfl
theorem ano{s:Iv×Bool}(h:s.2=true):s=(s.1,true):=by rw[←h]
theorem abk(a b:(Int×Int))(h:prI a∧prI b):Con Tryz.prog 282 [.d tG a,.d tG b] [.d tG ((cN a b).1),.d .bool ((cN a b).2)]:=by
 obtain⟨ha,hb⟩:=h
 refine aR vW (show nB.Res _ _ _ from ?_)
 refine an4 _ _ ?_
 suffices hh:nB.Runs 8 (pV a b 0 2305843009213693952 (-2305843009213693952)) [.d tG (cN a b).1,.d .bool (cN a b).2] by
  obtain⟨n,hn⟩:=hh
  exact⟨n,hn⟩
 refine Kd a b ha hb a.1 0 (.inl ⟨rfl,rfl⟩) (2305843009213693952,-2305843009213693952) _ fun s1 e1=>?_
 have hm:cN a b=gC (gC s1 a.2 b.1) a.2 b.2:=by rw[e1];rfl
 cases c1:s1.2
 ·rw[hm,Tg (Tg c1▸rfl)]
  rfl
 ·rw[cond_true]
  refine Kd a b ha hb a.2 1 (.inr ⟨rfl,rfl⟩) s1.1 _ fun s2 e2=>?_
  rw[←ano c1,←hm]at e2
  cases c2:s2.2
  ·rw[←e2]
   rw[show s2=(iv0,false) by
    rw[e2,hm]
    rw[e2,hm]at c2
    unfold gC at c2 ⊢
    revert c2
    cases(_:Bool)&&(scF a.2 b.2).2
    ·intro _;rfl
    ·intro h;cases h]
   rfl
  ·rw[cond_true,←e2]
   refine Ed _ _ _ _ _ ⟨0,?_⟩
   unfold ww
   rw[show decide ((1+1:Int)<(([a.1,a.2]).length:Int))=false from by simp,c2]
def Be:aO:=spN false true [tG,tG] (fun x=>decide (prI x.1∧prI x.2.1)) (fun x=>[RV.d tG (hid ((cN x.1 x.2.1).1)),RV.d .bool ((cN x.1 x.2.1).2)])
theorem yb:SpK 282 Be:=spX fun x h=>by simp only[ak];exact abk x.1 x.2.1 (au0 h)
def ani:Ctx:=CX LM []
def aeZ(n:Int)(_k:KT):Option (List RV):=match decide (bg n)with|true=>(match decide (bg (65536:Int))with|true=>(match decide (okI (hid (aj n))∧okI (hid (aj (65536:Int))))with|true=>(match decide (okI (hid (aj (ag (hid (aj n))*ag (hid (aj (65536:Int)))))))with|true=>(match decide (okI (hid (fe (hid (aj (ag (hid (aj n))*ag (hid (aj (65536:Int)))))))))with|true=>(match decide (okI (hid (fe (hid (aj (ag (hid (aj n))*ag (hid (aj (65536:Int))))))))∧okI (hid (fe (hid (aj (ag (hid (aj n))*ag (hid (aj (65536:Int)))))))))with|true=>(match decide (okI (hid (aj (ag (hid (fe (hid (aj (ag (hid (aj n))*ag (hid (aj (65536:Int))))))))*ag (hid (fe (hid (aj (ag (hid (aj n))*ag (hid (aj (65536:Int)))))))))))∧okI (hid (aj (ag (hid (aj n))*ag (hid (aj (65536:Int)))))))with|true=>some [RV.d ax8 (bif decide (bg (ag (hid (fe (hid (aj (ag (hid (aj n))*ag (hid (aj (65536:Int))))))))))then ag (hid (fe (hid (aj (ag (hid (aj n))*ag (hid (aj (65536:Int))))))))else 0),RV.d .bool ((ct (ag (hid (aj (ag (hid (fe (hid (aj (ag (hid (aj n))*ag (hid (aj (65536:Int))))))))*ag (hid (fe (hid (aj (ag (hid (aj n))*ag (hid (aj (65536:Int)))))))))))) (ag (hid (aj (ag (hid (aj n))*ag (hid (aj (65536:Int))))))))==0)]|false=>none)|false=>none)|false=>none)|false=>none)|false=>none)|false=>none)|false=>none
theorem apE(n:Int):RS ani 293 [SI n] (aeZ n):=rsX
theorem abB(n:Int)(h:C6 n):Con Tryz.prog 293 [.d ax8 n] [.d ax8 (dM n),.d .bool (decide (dM n*dM n=n*65536))]:=by
 refine aR vW (apE _ ⟨0,?_⟩)
 have hr:=LO h
 obtain⟨h0,h1⟩:=h
 have i1:bg n:=⟨by omega,by omega⟩
 have i2:bg 65536:=by decide
 have o1:okI (aj (n*65536)):=bk (by have:=cU (iO i1) (iO i2);omega)
 have o2:okI (aj (dM n)):=Uq ⟨by omega,by omega⟩
 have o3:okI (aj (dM n*dM n)):=bk (by have:=cU (iO (n:=dM n) ⟨by omega,by omega⟩) (iO (n:=dM n) ⟨by omega,by omega⟩);omega)
 have o4:okI (aj n)∧okI (aj 65536):=⟨Uq i1,Uq i2⟩
 have o5:okI (aj (dM n))∧okI (aj (dM n)):=⟨o2,o2⟩
 have o6:okI (aj (dM n*dM n))∧okI (aj (n*65536)):=⟨o3,o1⟩
 have o7:bg (dM n):=⟨by omega,by omega⟩
 unfold aeZ
 simp only[ak,dec_enc,dT i1,dT i2,dT o4,dT o1,Bl o1]
 have e:bR (n*65536)=dM n:=rfl
 simp only[e,dT o2,dT o5,dT o6,dT o7,cond_true,ll]
def Xc:aO:=spN false true [ax8] (fun x=>decide (C6 x.1)) (fun x=>[RV.d ax8 (dM x.1),RV.d .bool (decide (dM x.1*dM x.1=x.1*65536))])
theorem TR:SpK 293 Xc:=spX fun x h=>abB x.1 (au0 h)
def W4:Env:=(282,Be)::(293,Xc)::LM
theorem Gd:EnvAll Tryz.prog W4:=⟨yb,TR,vW⟩
def art:Ctx:=CX W4 []
def ahv(a:(Int×Int))(_k:KT):Option (List RV):=match decide (a.2<0)with|true=>some [RV.d tG (0,0),RV.d .bool false]|false=>(match decide (C6 (if 0>a.1 then 0 else a.1))with|true=>(match decide (C6 a.2)with|true=>(match !(decide (dM a.2*dM a.2=a.2*65536))with|true=>some [RV.d tG (hid ((lw (dM (if 0>a.1 then 0 else a.1)) (i64.wrap ((dM a.2)+1))).1)),RV.d .bool ((lw (dM (if 0>a.1 then 0 else a.1)) (i64.wrap ((dM a.2)+1))).2)]|false=>some [RV.d tG (hid ((lw (dM (if 0>a.1 then 0 else a.1)) (dM a.2)).1)),RV.d .bool ((lw (dM (if 0>a.1 then 0 else a.1)) (dM a.2)).2)])|false=>none)|false=>none)
theorem arX(a:(Int×Int)):RS art 280 [.d tG a] (ahv a):=rsX
theorem abe(a:(Int×Int))(h:prI a):Con Tryz.prog 280 [.d tG a] [.d tG ((sqF a).1),.d .bool ((sqF a).2)]:=by
 refine aR Gd (arX _ ⟨0,?_⟩)
 obtain⟨a1,a2,a3⟩:=h
 unfold ahv sqF
 cases hn:decide (a.2<0)
 ·have hn:=avW hn
  have r2:C6 a.2:=⟨by omega,by omega⟩
  have r1:C6 (if 0>a.1 then 0 else a.1):=⟨by split<;>omega,by split<;>omega⟩
  have b2:=LO r2
  simp only[dT r1,dT r2,ak,bi (x:=dM a.2+1) (by omega) (by omega)]
  cases decide (dM a.2*dM a.2=a.2*65536)<;>rfl
 ·rfl
def GA:aO:=spN false true [tG] (fun x=>decide (prI x.1)) (fun x=>[RV.d tG (hid ((sqF x.1).1)),RV.d .bool ((sqF x.1).2)])
theorem ED:SpK 280 GA:=spX fun x h=>by simp only[ak];exact abe x.1 (au0 h)
def L6:Env:=(280,GA)::W4
theorem xM:EnvAll Tryz.prog L6:=⟨ED,Gd⟩
def aqO:Ctx:=CX L6 []
def ahm(r:BO3)(_k:KT):Option (List RV):=match decide (ok Rat 200000 r.1)with|true=>(match !((frF (ae r.1)).2)with|true=>some [RV.d tG (hid ((frF (ae r.1)).1)),RV.d .bool ((frF (ae r.1)).2)]|false=>(match decide (okR r.2.1)with|true=>(match(aV (ae r.2.1) 0)==0 with|true=>some [RV.d tG (hid ((frF (ae r.1)).1)),RV.d .bool ((frF (ae r.1)).2)]|false=>(match decide (ok Rat 200000 r.2.1)with|true=>(match decide (ok Rat 200000 r.2.2)with|true=>(match !((frF (ae r.2.1)).2)with|true=>some [RV.d tG (0,0),RV.d .bool false]|false=>(match !((frF (ae r.2.2)).2)with|true=>some [RV.d tG (0,0),RV.d .bool false]|false=>(match decide (okR r.2.2)with|true=>(match decide ((aV (ae r.2.2) 0)<0)with|true=>some [RV.d tG (0,0),RV.d .bool false]|false=>(match decide (prI (hid ((frF (ae r.2.2)).1)))with|true=>(match !((sqF (hid ((frF (ae r.2.2)).1))).2)with|true=>some [RV.d tG (0,0),RV.d .bool false]|false=>(match decide (prI (hid ((frF (ae r.2.1)).1))∧prI (hid ((sqF (hid ((frF (ae r.2.2)).1))).1)))with|true=>(match !((cN (hid ((frF (ae r.2.1)).1)) (hid ((sqF (hid ((frF (ae r.2.2)).1))).1))).2)with|true=>some [RV.d tG (0,0),RV.d .bool false]|false=>(match decide (prI (hid ((frF (ae r.1)).1))∧prI (hid ((cN (hid ((frF (ae r.2.1)).1)) (hid ((sqF (hid ((frF (ae r.2.2)).1))).1))).1)))with|true=>some [RV.d tG (hid ((dm (hid ((frF (ae r.1)).1)) (hid ((cN (hid ((frF (ae r.2.1)).1)) (hid ((sqF (hid ((frF (ae r.2.2)).1))).1))).1))).1)),RV.d .bool ((dm (hid ((frF (ae r.1)).1)) (hid ((cN (hid ((frF (ae r.2.1)).1)) (hid ((sqF (hid ((frF (ae r.2.2)).1))).1))).1))).2)]|false=>none))|false=>none))|false=>none))|false=>none)))|false=>none)|false=>none))|false=>none))|false=>none
theorem aso(r:BO3):RS aqO 259 [.d tO r] (ahm r):=rsX
theorem aec(r:BO3)(h:ok Rt 100000 r):Con Tryz.prog 259 [.d tO r] [.d tG ((bQ (dec r)).1),.d .bool ((bQ (dec r)).2)]:=by
 refine aR xM (aso _ ⟨0,?_⟩)
 have hr:=h
 obtain⟨r,rfl,br⟩:=aU hr
 have p1:prI (frF r.1).1:=RE.frF_pr _
 have p2:prI (frF r.2.1).1:=RE.frF_pr _
 have p3:prI (frF r.2.2).1:=RE.frF_pr _
 have p4:prI (sqF (frF r.2.2).1).1:=RE.sqF_pr p3
 have p5:prI (cN (frF r.2.1).1 (sqF (frF r.2.2).1).1).1:=rE _ _
 unfold ahm
 simp only[ak,am,aI,aJ,aG,az,aH,aX,Nat.reduceLeDiff,aM,aN,dT p3,dT (show prI (frF r.2.1).1∧prI (sqF (frF r.2.2).1).1 from⟨p2,p4⟩),dT (show prI (frF r.1).1∧prI (cN (frF r.2.1).1 (sqF (frF r.2.2).1).1).1 from⟨p1,p5⟩)]
 unfold bQ
 clear p1 p2 p3 p4 p5
 generalize frF r.1=A
 generalize frF r.2.1=B
 generalize frF r.2.2=C
 generalize sqF C.1=S
 generalize cN B.1 S.1=M
 generalize dm A.1 M.1=U
 obtain⟨_,a⟩:=A
 obtain⟨_,b⟩:=B
 obtain⟨_,c⟩:=C
 obtain⟨_,s⟩:=S
 obtain⟨_,m⟩:=M
 cases a<;>cases decide (r.2.1=0)<;>cases b<;>cases c<;>cases decide (r.2.2<0)<;>cases s<;>cases m<;>rfl
def aqx:Ctx:=CX L6 []
def afx(a:(Int×Int))(_k:KT):Option (List RV):=match decide (a.1>0)with|true=>some [RV.d ax8 1,RV.d .bool true]|false=>(match decide (a.2<0)with|true=>some [RV.d ax8 (-1),RV.d .bool true]|false=>(match a.1==0 with|true=>some [RV.d ax8 0,RV.d .bool (a.2==0)]|false=>some [RV.d ax8 0,RV.d .bool false]))
theorem ape(a:(Int×Int)):RS aqx 284 [.d tG a] (afx a):=rsX
theorem abV(a:(Int×Int)):Con Tryz.prog 284 [.d tG a] [.d ax8 ((sgF a).1),.d .bool ((sgF a).2)]:=by
 refine aR xM (ape _ ⟨0,?_⟩)
 unfold afx sgF
 cases decide (a.1>0)<;>cases decide (a.2<0)<;>try rfl
 by_cases e1:a.1=0
 ·rw[au1 e1,show(a.1==0)=true by simp[e1]]
  by_cases e2:a.2=0
  ·rw[au1 e2,show(a.2==0)=true by simp[e2]];rfl
  ·rw[au3 e2,show(a.2==0)=false by simp[e2]];rfl
 ·rw[au3 e1,show(a.1==0)=false by simp[e1]];rfl
def w8:aO:=spN false true [tO] (fun x=>decide (ok Rt 100000 x.1)) (fun x=>[RV.d tG (hid ((bQ (dec x.1)).1)),RV.d .bool ((bQ (dec x.1)).2)])
theorem qU:SpK 259 w8:=spX fun x h=>by simp only[ak];exact aec x.1 (au0 h)
def Bg:aO:=spN false true [tG] (fun _=>true) (fun x=>[RV.d ax8 ((sgF x.1).1),RV.d .bool ((sgF x.1).2)])
theorem xu:SpK 284 Bg:=spX fun x _=>abV x.1
def af3:Env:=(259,w8)::(284,Bg)::L6
theorem TJ:EnvAll Tryz.prog af3:=⟨qU,xu,xM⟩
def apC:Ctx:=CX af3 []
def afT(n:BR)(a:(Int×Int))(g:Bool)(_k:KT):Option (List RV):=match decide (ok Rat 200000 n)with|true=>(match !g with|true=>some [RV.d tG (0,0),RV.d .bool false]|false=>(match !((frF (ae n)).2)with|true=>some [RV.d tG (0,0),RV.d .bool false]|false=>(match decide (prI (hid ((frF (ae n)).1))∧prI a)with|true=>some [RV.d tG (hid ((cN (hid ((frF (ae n)).1)) a).1)),RV.d .bool ((cN (hid ((frF (ae n)).1)) a).2)]|false=>none)))|false=>none
theorem aot(n:BR)(a:(Int×Int))(g:Bool):RS apC 291 [.d tR n,.d tG a,SB g] (afT n a g):=rsX
theorem Z9(n:BR)(a:(Int×Int))(g:Bool)(h:ok Rat 100000 n∧prI a):Con Tryz.prog 291 [.d tR n,.d tG a,.d .bool g] [.d tG ((gS (ae n) a g).1),.d .bool ((gS (ae n) a g).2)]:=by
 refine aR TJ (aot _ _ _ ⟨0,?_⟩)
 obtain⟨hn,ha⟩:=h
 obtain⟨n,rfl,bn⟩:=aU hn
 unfold afT
 simp only[ak,aG,az,aH,Nat.reduceLeDiff,dT (show prI (frF n).1∧prI a from⟨RE.frF_pr _,ha⟩)]
 unfold gS
 generalize frF n=A
 obtain⟨_,q⟩:=A
 cases g<;>cases q<;>rfl
section
structure Ce (u:Nat) (w:World) (b off:Nat) (cs:List Value):Prop where
 le:u≤w.heap.size
 lt:b<u
 cell:∀j v,cs[j]?=some v→w.cell? ⟨b,off+j,none⟩=some v
theorem Ce.at_{u:Nat}{w:World}{b off:Nat}{cs:List Value}(h:Ce u w b off cs)(j:Nat){v:Value}(hv:cs[j]?=some v):w.cell? ⟨b,off+j,none⟩=some v:=h.cell j v hv
theorem Ce.keep{u:Nat}{w w':World}{b off:Nat}{cs:List Value}(h:Ce u w b off cs)(hz:w.heap.size≤w'.heap.size)(hk:∀k,k<u→w'.heap[k]?=w.heap[k]?):Ce u w' b off cs:=
 ⟨avm h.le hz,h.lt,fun j v hv=>(World.cell?_of_block (hk b h.lt)).trans (h.cell j v hv)⟩
theorem Ce.below{u:Nat}{w w':World}{b off:Nat}{cs:List Value}(h:Ce u w b off cs)(hb:Below w.heap.size w w'):Ce u w' b off cs:=h.keep hb.size fun k hk=>hb.block k (av5 hk h.le)
theorem Ce.upd{u:Nat}{w w':World}{b off g:Nat}{cs:List Value}(h:Ce u w b off cs)(hu:Upd w w' g)(hg:u≤g):Ce u w' b off cs:=h.keep (by rw[hu.size];exact avb _) fun k hk=>hu.block k (by omega)
structure RdU (u:Nat) (w:World) (size:Nat) (v:Value) (n:Nat) (xs:List Value):Prop where
 le:u≤w.heap.size
 rd:∃A c,v=.slice A n c∧n≤c∧c≤maxLen∧xs.length=n*size∧(0<n→∃b off,A=some ⟨b,off,none⟩∧Ce u w b off xs)
section
variable {u:Nat} {w w':World} {size n:Nat} {v:Value} {xs:List Value}
theorem RdU.keep(h:RdU u w size v n xs)(hz:w.heap.size≤w'.heap.size)(hk:∀k,k<u→w'.heap[k]?=w.heap[k]?):RdU u w' size v n xs:=by
 obtain⟨hl,A,c,h1,h2,h3,h4,h5⟩:=h
 exact⟨avm hl hz,A,c,h1,h2,h3,h4,fun hn=>by obtain⟨b,off,h6,h7⟩:=h5 hn;exact⟨b,off,h6,h7.keep hz hk⟩⟩
theorem RdU.below(h:RdU u w size v n xs)(hb:Below w.heap.size w w'):RdU u w' size v n xs:=h.keep hb.size fun k hk=>hb.block k (av5 hk h.le)
theorem RdU.upd{g:Nat}(h:RdU u w size v n xs)(hu:Upd w w' g)(hg:u≤g):RdU u w' size v n xs:=h.keep (by rw[hu.size];exact avb _) fun k hk=>hu.block k (by omega)
theorem RdU.grown{row:Option Nat}(h:RdU u w size v n xs)(hg:w.grownBy w' row)(hr:∀k,row=some k→u≤k):RdU u w' size v n xs:=h.keep hg.size fun k hk=>hg.block k (av5 hk h.le) (fun e=>by have:=hr k e.symm;omega)
theorem RdU.elem{A:Option Addr}{c k:Nat}{α:Type}{f:α→List Value}{ms:List α}(hf:∀m,(f m).length=size)(h:RdU u w size (.slice A n c) n (ms.flatMap f))(hn:ms.length=n)(hk:k<n):
  ∃b off m,A=some ⟨b,off,none⟩∧ms[k]?=some m∧Ce u w b (off+k*size) (f m):=by
 obtain⟨hle,A',c',h1,h2,h3,h4,h5⟩:=h
 injection h1 with hA _ hc
 subst hA
 obtain⟨b,off,h6,h7⟩:=h5 (by omega)
 subst hn
 refine⟨b,off,ms[k],h6,au2 hk,⟨h7.le,h7.lt,fun j v hv=>?_⟩⟩
 have hj:j<size:=by rw[←hf ms[k]];exact(avf.1 hv).1
 have:(ms.flatMap f)[k*size+j]?=some v:=by
  clear h7 h5 h4 h6 h2 hc
  induction ms generalizing k with
  |nil=>simp at hk
  |cons m ms ih=>
   rw[List.flatMap_cons]
   cases k with
   |zero=>
    simp only[Nat.zero_mul,avD]
    rw[avi (by rw[hf];exact hj)]
    simpa using hv
   |succ k=>
    rw[avj (by rw[hf,awx];omega),hf,show(k+1)*size+j-size=k*size+j by rw[awx];omega]
    exact ih (by simpa using hk) rfl (by simpa using hv)
 have h8:=h7.cell _ _ this
 rwa [←awL]at h8
end
section
variable {P:Program} {fn:Func} {R:Ending→World→Prop} {B:Code} {K:List KI} {i:Nat} {a:Act} {w:World}
end
end
section
theorem Ce.grown{u:Nat}{w w':World}{b off:Nat}{cs:List Value}{row:Option Nat}(h:Ce u w b off cs)(hg:w.grownBy w' row)(hr:∀k,row=some k→u≤k):Ce u w' b off cs:=h.keep hg.size fun k hk=>hg.block k (av5 hk h.le) (fun e=>by have:=hr k e.symm;omega)
section
variable {P:Program} {a:Act} {w:World}
end
end
theorem xI{w w1 w2:World}{o:Option Nat}(h:w.grownBy w1 o)(hb:Below w1.heap.size w1 w2):w.grownBy w2 o:=
 ⟨hb.os.trans h.os,hb.tape.trans h.tape,hb.output.trans h.output,avm h.size hb.size,fun i hi hn=>(hb.block i (av5 hi h.size)).trans (h.block i hi hn)⟩
theorem rK{w w1 w2:World}{c b:Nat}(h:w.grownBy w1 (some c))(hu:Upd w1 w2 b)(hb:b=c∨w.heap.size≤b):w.grownBy w2 (some c):=
 ⟨hu.os.trans h.os,hu.tape.trans h.tape,hu.output.trans h.output,by rw[hu.size];exact h.size,fun i hi hn=>(hu.block i (fun e=>by
  subst e
  rcases hb with hb|hb
  ·subst hb;exact hn rfl
  ·omega)).trans (h.block i hi hn)⟩
def ad5:Code:=Tryz.f279.body.getD .skip
set_option maxRecDepth 100000 in
theorem Nu:ap5 Tryz.prog 279 242:=by
 intro w c b ok x y _ hc
 have hB:w.grownBy w (some c):=World.grownBy.refl _ _
 have hlt:=hc.lt
 refine enter (B:=ad5) (args:=[.pointer (some ⟨c,0,none⟩),.agg #[.int .i64 x,.int .i64 y],.bool ok]) Tryz.func279 (by kernel_rfl) (by kernel_rfl) ?_
 rw[show Tryz.f279.ntmps=18 from by kernel_rfl]
 intro a hs
 replace hs:=hs.pick (ts:=[0,1,2]) (L':=[(0,.pointer (some ⟨c,0,none⟩)),(1,.agg #[.int .i64 x,.int .i64 y]),(2,.bool ok)]) (by kernel_rfl)
 refine wv (j:=2) (by kernel_rfl) ?_
 refine lA (id:=0) (by kernel_rfl) ?_
 refine sD hs (by kernel_rfl) (anB (t:=232) (cs:= #[.int .i64 x,.int .i64 y]) (fun rb_=>.pointer (some ⟨rb_,0,none⟩)) [0,2,4] (fun rb_=>[(0,.pointer (some ⟨c,0,none⟩)),(2,.bool ok),(4,.pointer (some ⟨rb_,0,none⟩))]) hs (fun _=>by kernel_rfl) (fun _=>by kernel_rfl) ?_)
 clear hs a;intro a w1 b1 hn hs
 have B1:=hn.blk
 have l1:w.heap.size≤b1:=by rw[hn.at_];exact hB.size
 replace hc:=hc.below hn.below hc.lt
 replace hB:=xI hB hn.below
 clear hn
 refine sD hs (by kernel_rfl) (anB (t:=232) (cs:= #[.int .i64 0,.int .i64 0]) (fun rb_=>.pointer (some ⟨rb_,0,none⟩)) [0,2,4,6] (fun rb_=>[(0,.pointer (some ⟨c,0,none⟩)),(2,.bool ok),(4,.pointer (some ⟨b1,0,none⟩)),(6,.pointer (some ⟨rb_,0,none⟩))]) hs (fun _=>by kernel_rfl) (fun _=>by kernel_rfl) ?_)
 clear hs a;intro a w2 b2 hn hs
 have B2:=hn.blk
 have l2:w.heap.size≤b2:=by rw[hn.at_];exact hB.size
 have l2':b1<b2:=by rw[hn.at_];exact B1.lt
 replace hc:=hc.below hn.below hc.lt
 replace B1:=B1.below hn.below B1.lt
 replace hB:=xI hB hn.below
 clear hn
 refine n9 (by kernel_rfl) ?_
 refine kG rfl ?_
 refine wv (j:=4) (by kernel_rfl) ?_
 refine lA (id:=1) (by kernel_rfl) ?_
 refine rJ (m:=6) (H:=[(4,none,[.bool b])]) (ts:=[2,4,6,7,12]) (L':=[(2,.bool ok),(4,.pointer (some ⟨b1,0,none⟩)),(6,.pointer (some ⟨b2,0,none⟩)),(7,.pointer (some ⟨c,0,none⟩)),(12,.bool b)]) (O:=fun w=>(w.cell? ⟨c,0,none⟩=some (.bool b))∧True) hs (by kernel_rfl) ⟨hc.cell 0 rfl,trivial⟩ ?_
 clear hs a;intro a hs
 rcases Bool.eq_false_or_eq_true (b)with hb|hb
 ·replace hs:=hs.know (t:=12) rfl hb
  have cd1:=hb;have cd1b:=hb;clear hb
  replace hs:=hs.pick (ts:=[2,4,6,7,12]) (L':=[(2,.bool ok),(4,.pointer (some ⟨b1,0,none⟩)),(6,.pointer (some ⟨b2,0,none⟩)),(7,.pointer (some ⟨c,0,none⟩)),(12,.bool true)]) (by kernel_rfl)
  refine rJ (m:=4) (H:=[]) (ts:=[4,6,14,16]) (L':=[(4,.pointer (some ⟨b1,0,none⟩)),(6,.pointer (some ⟨b2,0,none⟩)),(14,.bool ok),(16,.pointer (some ⟨c,0,none⟩))]) (O:=fun w=>True) hs (by kernel_rfl) trivial ?_
  clear hs a;intro a hs
  refine sD hs (by kernel_rfl) (B0 (b:=c) (cs:= #[.bool b]) #[.bool ok] [(0,.bool ok)] [4,6] [(4,.pointer (some ⟨b1,0,none⟩)),(6,.pointer (some ⟨b2,0,none⟩))] hs hc (by kernel_rfl) ⟨avc rfl,trivial,trivial⟩ rfl (by kernel_rfl) ?_)
  clear hs a;intro a w3 hc' hu hs
  replace hc:=hc';clear hc'
  replace B1:=hu.blk B1 (by omega)
  replace B2:=hu.blk B2 (by omega)
  replace hB:=rK hB hu (by omega)
  clear hu
  refine n9 (by kernel_rfl) ?_
  refine kG rfl ?_
  refine wv (j:=6) (by kernel_rfl) ?_
  refine lA (id:=2) (by kernel_rfl) ?_
  refine rJ (m:=1) (H:=[(0,none,[.int .i64 x,.int .i64 y])]) (ts:=[6,17]) (L':=[(6,.pointer (some ⟨b2,0,none⟩)),(17,.agg #[.int .i64 x,.int .i64 y])]) (O:=fun w=>(w.cell? ⟨b1,0,none⟩=some (.int .i64 x))∧(w.cell? ⟨b1,1,none⟩=some (.int .i64 y))∧True) hs (by kernel_rfl) ⟨B1.cell 0 rfl,B1.cell 1 rfl,trivial⟩ ?_
  clear hs a;intro a hs
  refine sD hs (by kernel_rfl) (B0 (b:=b2) (cs:= #[.int .i64 0,.int .i64 0]) #[.int .i64 x,.int .i64 y] [(0,.int .i64 x),(1,.int .i64 y)] [6] [(6,.pointer (some ⟨b2,0,none⟩))] hs B2 (by kernel_rfl) ⟨avc rfl,trivial,⟨avc rfl,trivial,trivial⟩⟩ rfl (by kernel_rfl) ?_)
  clear hs a;intro a w4 B2' hu hs
  replace B2:=B2';clear B2'
  replace hc:=hu.blk hc (by omega)
  replace B1:=hu.blk B1 (by omega)
  replace hB:=rK hB hu (by omega)
  clear hu
  refine n9 (by kernel_rfl) ?_
  refine kG rfl ?_
  refine Is (by kernel_rfl) ?_
  refine Uy (vs:=[.agg #[.int .i64 x,.int .i64 y]]) (H:=[.int .i64 x,.int .i64 y]) (v:=.agg #[.int .i64 x,.int .i64 y]) (O:=fun w=>(w.cell? ⟨b2,0,none⟩=some (.int .i64 x))∧(w.cell? ⟨b2,1,none⟩=some (.int .i64 y))∧True) hs (by kernel_rfl) rfl ⟨B2.cell 0 rfl,B2.cell 1 rfl,trivial⟩ ?_
  exact⟨rfl,by rw[cd1];exact hc,hB⟩
 ·replace hs:=hs.know (t:=12) rfl hb
  have cd1:=hb;have cd1b:=hb;clear hb
  replace hs:=hs.pick (ts:=[2,4,6,7,12]) (L':=[(2,.bool ok),(4,.pointer (some ⟨b1,0,none⟩)),(6,.pointer (some ⟨b2,0,none⟩)),(7,.pointer (some ⟨c,0,none⟩)),(12,.bool false)]) (by kernel_rfl)
  refine rJ (m:=4) (H:=[]) (ts:=[4,6,14,16]) (L':=[(4,.pointer (some ⟨b1,0,none⟩)),(6,.pointer (some ⟨b2,0,none⟩)),(14,.bool false),(16,.pointer (some ⟨c,0,none⟩))]) (O:=fun w=>True) hs (by kernel_rfl) trivial ?_
  clear hs a;intro a hs
  refine sD hs (by kernel_rfl) (B0 (b:=c) (cs:= #[.bool b]) #[.bool false] [(0,.bool false)] [4,6] [(4,.pointer (some ⟨b1,0,none⟩)),(6,.pointer (some ⟨b2,0,none⟩))] hs hc (by kernel_rfl) ⟨avc rfl,trivial,trivial⟩ rfl (by kernel_rfl) ?_)
  clear hs a;intro a w5 hc' hu hs
  replace hc:=hc';clear hc'
  replace B1:=hu.blk B1 (by omega)
  replace B2:=hu.blk B2 (by omega)
  replace hB:=rK hB hu (by omega)
  clear hu
  refine n9 (by kernel_rfl) ?_
  refine kG rfl ?_
  refine wv (j:=6) (by kernel_rfl) ?_
  refine lA (id:=2) (by kernel_rfl) ?_
  refine rJ (m:=1) (H:=[(0,none,[.int .i64 x,.int .i64 y])]) (ts:=[6,17]) (L':=[(6,.pointer (some ⟨b2,0,none⟩)),(17,.agg #[.int .i64 x,.int .i64 y])]) (O:=fun w=>(w.cell? ⟨b1,0,none⟩=some (.int .i64 x))∧(w.cell? ⟨b1,1,none⟩=some (.int .i64 y))∧True) hs (by kernel_rfl) ⟨B1.cell 0 rfl,B1.cell 1 rfl,trivial⟩ ?_
  clear hs a;intro a hs
  refine sD hs (by kernel_rfl) (B0 (b:=b2) (cs:= #[.int .i64 0,.int .i64 0]) #[.int .i64 x,.int .i64 y] [(0,.int .i64 x),(1,.int .i64 y)] [6] [(6,.pointer (some ⟨b2,0,none⟩))] hs B2 (by kernel_rfl) ⟨avc rfl,trivial,⟨avc rfl,trivial,trivial⟩⟩ rfl (by kernel_rfl) ?_)
  clear hs a;intro a w6 B2' hu hs
  replace B2:=B2';clear B2'
  replace hc:=hu.blk hc (by omega)
  replace B1:=hu.blk B1 (by omega)
  replace hB:=rK hB hu (by omega)
  clear hu
  refine n9 (by kernel_rfl) ?_
  refine kG rfl ?_
  refine Is (by kernel_rfl) ?_
  refine Uy (vs:=[.agg #[.int .i64 x,.int .i64 y]]) (H:=[.int .i64 x,.int .i64 y]) (v:=.agg #[.int .i64 x,.int .i64 y]) (O:=fun w=>(w.cell? ⟨b2,0,none⟩=some (.int .i64 x))∧(w.cell? ⟨b2,1,none⟩=some (.int .i64 y))∧True) hs (by kernel_rfl) rfl ⟨B2.cell 0 rfl,B2.cell 1 rfl,trivial⟩ ?_
  exact⟨rfl,by rw[cd1];exact hc,hB⟩
def De:aO:=spN false true [tO,tO] (fun x=>decide (ok Rt 15000 x.1∧ok Rt 15000 x.2.1)) (fun x=>[RV.d tQ (hid (enc (suT (dec x.1) (dec x.2.1))))])
theorem wc:SpK 220 De:=spX fun x h=>by simp only[ak];exact aaN x.1 x.2.1 (au0 h)
def GT:aO:=spN false true [tR,tG,.bool] (fun x=>decide (ok Rat 100000 x.1∧prI x.2.1)) (fun x=>[RV.d tG (hid ((gS (ae x.1) x.2.1 x.2.2.1).1)),RV.d .bool ((gS (ae x.1) x.2.1 x.2.2.1).2)])
theorem Ej:SpK 291 GT:=spX fun x h=>by simp only[ak];exact Z9 x.1 x.2.1 x.2.2.1 (au0 h)
def VN:aO:={keep:=true,tame:=true,run:=fun _ _ _=>none,mut_:=some ⟨true,fun l=>l,some 242⟩}
theorem WF:SpK 279 VN:=by
 refine⟨by kernel_rfl,fun R args k r h=>(by cases h),fun g h=>?_⟩
 injection h with h
 subst h
 exact Nu
def agd:Env:=[(76,jw),(148,ju),(149,lE),(147,kr),(202,p7),(296,B9),(99,nQ),(83,jr),(71,tY),(219,ta),(220,De),(260,I2),(294,CF),(281,Dc),(283,AM),(290,BS),(303,Cd),(302,Dk),(297,I6),(282,Be),(280,GA),(259,w8),(284,Bg),(291,GT),(279,VN)]
theorem Pu:EnvAll Tryz.prog agd:=⟨fM,fO,io,gD,kZ,xc,jD,fL,nq,nM,wc,Gb,wK,xd,xF,v6,xZ,vS,F3,yb,ED,qU,xu,Ej,WF,trivial⟩
def al5:NT:=[((252,5),{keep:=[1,4,13,14,17,20,21,24],hl:=0}),((252,7),{keep:=[1,4,5,25,26,29,32,33,36],hl:=0})]
def aql:Ctx:=CX agd al5
def af1(q:BQ)(_k:KT):Option (List RV):=let y1:=frF (ae q.2.2.2.2.1);let y2:=ok Rat 200000 q.2.2.2.2.2;let y3:=frF (ae q.2.2.2.2.2);let y4:=sqF (hid (y3.1));let y5:=hid ((frF (ae q.2.1)).1);let y6:=hid ((sqF (hid (y1.1))).1);let y7:=frF (ae q.2.2.1);let y8:=frF (ae q.2.2.2.1);let y9:=cN y6 (hid (y4.1));let y10:=cN (hid (y7.1)) (hid (y4.1));let y11:=cN (hid (y8.1)) (hid (y9.1));let y12:=hid ((frF (ae q.1)).1);let y13:=hid ((cN y5 y6).1);let y14:=hid ((dm y12 y13).1);let y15:=dm (hid (y10.1)) (hid (y11.1));let y16:=dm y14 (hid (y15.1));let y17:Option (List RV):=match decide (prI (hid (y3.1)))with|true=>some [RV.d ax8 0,RV.d .bool false]|false=>none;match decide (ok Rat 200000 q.2.2.2.2.1)with|true=>(match decide (prI (hid (y1.1)))with|true=>(match y1.2 with|true=>(match decide y2 with|true=>(match(sqF (hid (y1.1))).2 with|true=>(match decide (prI (hid (y3.1)))with|true=>(match y3.2 with|true=>(match !(y4.2)with|true=>some [RV.d ax8 0,RV.d .bool false]|false=>(match decide (ok Rat 200000 q.2.1)with|true=>(match decide (prI y5∧prI y6)with|true=>(match decide (ok Rat 200000 q.2.2.1)with|true=>(match decide (prI (hid (y7.1))∧prI (hid (y4.1)))with|true=>(match decide (ok Rat 200000 q.2.2.2.1)with|true=>(match decide (prI y6∧prI (hid (y4.1)))with|true=>(match decide (prI (hid (y8.1))∧prI (hid (y9.1)))with|true=>(match !(((((((y4.2&&(frF (ae q.2.1)).2)&&(cN y5 y6).2)&&y7.2)&&y10.2)&&y8.2)&&y9.2)&&y11.2)with|true=>some [RV.d ax8 0,RV.d .bool false]|false=>(match decide (ok Rat 200000 q.1)with|true=>(match decide (prI y12∧prI y13)with|true=>(match decide (prI (hid (y10.1))∧prI (hid (y11.1)))with|true=>(match decide (prI y14∧prI (hid (y15.1)))with|true=>(match !(((((((((((y4.2&&(frF (ae q.2.1)).2)&&(cN y5 y6).2)&&y7.2)&&y10.2)&&y8.2)&&y9.2)&&y11.2)&&(frF (ae q.1)).2)&&(dm y12 y13).2)&&y15.2)&&y16.2)with|true=>some [RV.d ax8 0,RV.d .bool false]|false=>some [RV.d ax8 ((sgF (hid (y16.1))).1),RV.d .bool ((sgF (hid (y16.1))).2)])|false=>none)|false=>none)|false=>none)|false=>none))|false=>none)|false=>none)|false=>none)|false=>none)|false=>none)|false=>none)|false=>none))|false=>some [RV.d ax8 0,RV.d .bool false])|false=>none)|false=>y17)|false=>none)|false=>(match decide y2 with|true=>y17|false=>none))|false=>none)|false=>none
theorem anH(q:BQ):RS aql 252 [.d tQ q] (af1 q):=rsX
theorem aed(q:BQ)(h:okQ q):Con Tryz.prog 252 [.d tQ q] [.d ax8 ((quF (dec q)).1),.d .bool ((quF (dec q)).2)]:=by
 refine aR Pu (anH _ ⟨0,?_⟩)
 obtain⟨A,B,C,D,M,N,rfl,bA,bB,bC,bD,bM,bN,hM,hN⟩:=HO h
 rw[am]
 have pf:∀q,prI (frF q).1:=RE.frF_pr
 have pm:∀a b,prI (cN a b).1:=rE
 have ps:∀q,prI (sqF (frF q).1).1:=fun q=>RE.sqF_pr (pf q)
 have pa:∀{a b},prI a→prI b→prI (dm a b).1:=fun ha hb=>RE.addF_pr ha hb
 have d1:∀q,decide (prI (frF q).1)=true:=fun q=>dT (pf q)
 have d2:∀q m,decide (prI (frF q).1∧prI (sqF (frF m).1).1)=true:=fun q m=>dT ⟨pf q,ps m⟩
 have d3:∀q m,decide (prI (sqF (frF q).1).1∧prI (sqF (frF m).1).1)=true:=fun q m=>dT ⟨ps q,ps m⟩
 have d4:∀q a b,decide (prI (frF q).1∧prI (cN a b).1)=true:=fun q a b=>dT ⟨pf q,pm a b⟩
 have d5:∀a b c d,decide (prI (cN a b).1∧prI (cN c d).1)=true:=fun a b c d=>dT ⟨pm a b,pm c d⟩
 have d6:∀q a b c d e f,decide (prI (dm (frF q).1 (cN a b).1).1∧prI (dm (cN c d).1 (cN e f).1).1)=true:=fun q a b c d e f=>dT ⟨pa (pf q) (pm a b),pa (pm c d) (pm e f)⟩
 unfold af1
 simp only[ak,aT,aG,az,aH,au4,au6,Nat.reduceLeDiff,au4,dT (pf _),dT (pm _ _),dT (ps _),dT (pa (pf _) (pm _ _)),dT (pa (pm _ _) (pm _ _))]
 unfold quF qu1 qu2 qu3 quA quB sfF mfF
 generalize frF M=FM
 generalize frF N=FN
 generalize sqF FM.1=SM
 generalize sqF FN.1=SN
 generalize frF A=FA
 generalize frF B=FB
 generalize frF C=FC
 generalize frF D=FD
 generalize cN FB.1 SM.1=MB
 generalize cN FC.1 SN.1=MC
 generalize cN SM.1 SN.1=MM
 generalize cN FD.1 MM.1=MD
 generalize dm FA.1 MB.1=A1
 generalize dm MC.1 MD.1=A2
 generalize dm A1.1 A2.1=A3
 generalize sgF A3.1=S
 obtain⟨_,fm⟩:=FM
 obtain⟨_,fn⟩:=FN
 obtain⟨_,sm⟩:=SM
 obtain⟨_,sn⟩:=SN
 cases fm<;>cases sm<;>cases fn<;>cases sn<;>try rfl
 dsimp only
 simp only[au5,au6]
 generalize (FB.2&&MB.2&&FC.2&&MC.2&&FD.2&&MM.2&&MD.2)=c2
 cases c2
 ·rfl
 ·simp only[au5]
  generalize (FA.2&&A1.2&&A2.2&&A3.2)=c3
  cases c3<;>rfl
end Go.Proofs.YtlahabkjhgkkjaaGreat
end
