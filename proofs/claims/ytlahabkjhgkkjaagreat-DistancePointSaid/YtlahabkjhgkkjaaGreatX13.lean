/- Signs and comparisons: the reference, and the program without its intervals. -/
import Derived.Test.YtlahabkjhgkkjaaGreatX12
import Derived.Test.YtlahabkjhgkkjaaGreatX1
import Derived.Lib.LazyBuf
import Derived.Test.YtlahabkjhgkkjaaGreatX6
noncomputable section
namespace Go.Proofs.YtlahabkjhgkkjaaGreat
open Go.RowKit Go.IntKind
theorem av7:type_of% @Int.zero_sub:=@Int.zero_sub
abbrev Qd:=Rat×Rat×Rat×Rat×Rat×Rat
def sgQ(q:Qd):Int:=BA q.1 q.2.1 q.2.2.1 q.2.2.2.1 q.2.2.2.2.1 q.2.2.2.2.2
def suT(x y:Rt):Qd:=(x.1-y.1,x.2.1,-y.2.1,0,x.2.2,y.2.2)
def eu(x:Rt)(q:Rat):Int:=ff (x.1-q) x.2.1 x.2.2
def okQ(q:BQ):Prop:=ok Rat 30001 q.1∧ok Rat 15000 q.2.1∧ok Rat 15000 q.2.2.1∧ok Rat 6000 q.2.2.2.1∧ok Rat 15000 q.2.2.2.2.1∧ok Rat 15000 q.2.2.2.2.2∧0≤ae q.2.2.2.2.1∧0≤ae q.2.2.2.2.2
instance (q:BQ):Decidable (okQ q):=by unfold okQ;infer_instance
theorem GG{q:BQ}(h:okQ q):∃A B C D M N:Rat,q=enc ((A,B,C,D,M,N):Qd)∧Bd A 30001∧Bd B 15000∧Bd C 15000∧Bd D 6000∧Bd M 15000∧Bd N 15000∧0≤M∧0≤N:=by
 obtain⟨A,B,C,D,M,N⟩:=q
 obtain⟨h1,h2,h3,h4,h5,h6,h7,h8⟩:=h
 obtain⟨a,ha,b1⟩:=aS h1
 obtain⟨b,hb,b2⟩:=aS h2
 obtain⟨c,hc,b3⟩:=aS h3
 obtain⟨d,hd,b4⟩:=aS h4
 obtain⟨m,hm,b5⟩:=aS h5
 obtain⟨n,hn,b6⟩:=aS h6
 dsimp only at ha hb hc hd hm hn h7 h8
 subst ha hb hc hd hm hn
 rw[aB,az]at h7 h8
 exact⟨a,b,c,d,m,n,rfl,b1,b2,b3,b4,b5,b6,h7,h8⟩
theorem EI{A B C D M N:Rat}{a b c d m n:Nat}[h1:Bd A a][h2:Bd B b][h3:Bd C c][h4:Bd D d][h5:Bd M m][h6:Bd N n][h7:Nn M][h8:Nn N](ha:a≤30001)(hb:b≤15000)(hc:c≤15000)(hd:d≤6000)(hm:m≤15000)(hn:n≤15000):decide (okQ (enc ((A,B,C,D,M,N):Qd)))=true:=
 at7 ⟨at6 (aC ha (by decide)),at6 (aC hb (by decide)),at6 (aC hc (by decide)),at6 (aC hd (by decide)),at6 (aC hm (by decide)),at6 (aC hn (by decide)),by show 0≤ae (ag M);rw[az];exact h7.le,by show 0≤ae (ag N);rw[az];exact h8.le⟩
theorem F4{s t:Int}(hs: -1≤s∧s≤1)(ht: -1≤t∧t≤1):i64.wrap (s*t)=s*t:=by
 have:=BU hs ht
 exact bj (by omega) (by omega)
theorem pS{a b m x y:Rat}:i64.wrap (ff a b m*aU x y)=ff a b m*aU x y:=F4 (jN _ _ _) (jy _ _)
theorem qJ{a b m x y z:Rat}:i64.wrap (ff a b m*ff x y z)=ff a b m*ff x y z:=F4 (jN _ _ _) (jN _ _ _)
theorem DX(s t u:Int):(match s==0 with|true=>(match s==0 with|true=>some [RV.d axf t]|false=>some [RV.d axf s])|false=>(match t==0 with|true=>(match s==0 with|true=>some [RV.d axf t]|false=>some [RV.d axf s])|false=>(match s==t with|true=>(match s==0 with|true=>some [RV.d axf t]|false=>some [RV.d axf s])|false=>some [RV.d axf (s*u)])))=some [RV.d axf (RE.addS s t u)]:=by
 unfold RE.addS
 cases h1:s==0
 ·cases h2:t==0
  ·cases h3:s==t<;>rfl
  ·rfl
 ·have e:=avx.1 h1
  subst e
  cases h2:t==0
  ·cases h3:(0:Int)==t
   ·rfl
   ·rw[←avx.1 h3];rfl
  ·rw[avx.1 h2];rfl
theorem BM(s t u:Int):(match t==0 with|true=>some [RV.d axf s]|false=>(match s==t with|true=>some [RV.d axf s]|false=>(match s==0 with|true=>some [RV.d axf t]|false=>some [RV.d axf (s*u)])))=some [RV.d axf (RE.addS s t u)]:=by
 unfold RE.addS
 cases h2:t==0
 ·cases h3:s==t
  ·cases h1:s==0<;>rfl
  ·rfl
 ·rfl
def jD:aN:=spN false true [tR] (fun x=>decide (okR x.1)) (fun x=>[RV.d tR (hid (ag (-ae x.1)))])
theorem gH:SpK 124 jD:=spX fun x h=>by simp only[aj];exact Dz x.1 (at6 h)
def AC:Env:=[(50,gQ),(127,iw),(161,iu),(132,gL),(78,fu),(107,jw),(124,jD)]
theorem r8:EnvAll Tryz.prog AC:=⟨fq,fT,fS,fk,dW,gG,gH,trivial⟩
def ajo:Ctx:=CX AC []
def Pb(a b c:BR)(_k:KT):Option (List RV):=match decide (okR a)with|true=>(match decide (okR b)with|true=>(match decide (okR c)with|true=>(match(aU (ae a) 0)==0 with|true=>(match(aU (ae a) 0)==0 with|true=>some [RV.d axf (i64.wrap ((aU (ae b) 0)*(aU (ae c) 0)))]|false=>some [RV.d axf (aU (ae a) 0)])|false=>(match(i64.wrap ((aU (ae b) 0)*(aU (ae c) 0)))==0 with|true=>(match(aU (ae a) 0)==0 with|true=>some [RV.d axf (i64.wrap ((aU (ae b) 0)*(aU (ae c) 0)))]|false=>some [RV.d axf (aU (ae a) 0)])|false=>(match(aU (ae a) 0)==(i64.wrap ((aU (ae b) 0)*(aU (ae c) 0)))with|true=>(match(aU (ae a) 0)==0 with|true=>some [RV.d axf (i64.wrap ((aU (ae b) 0)*(aU (ae c) 0)))]|false=>some [RV.d axf (aU (ae a) 0)])|false=>(match decide (okR a∧okR a)with|true=>(match decide (okR b∧okR b)with|true=>(match decide (okR (hid (ag (ae b*ae b)))∧okR c)with|true=>(match decide (okR (hid (ag (ae a*ae a)))∧okR (hid (ag (ae (hid (ag (ae b*ae b)))*ae c))))with|true=>some [RV.d axf (i64.wrap ((aU (ae a) 0)*(aU (ae (hid (ag (ae a*ae a)))) (ae (hid (ag (ae (hid (ag (ae b*ae b)))*ae c)))))))]|false=>none)|false=>none)|false=>none)|false=>none))))|false=>none)|false=>none)|false=>none
theorem ajz(a b c:BR):RS ajo 169 [.d tR a,.d tR b,.d tR c] (Pb a b c):=rsX
theorem QJ(a b c:BR)(h:ok Rat 240000 a∧ok Rat 170000 b∧ok Rat 30000 c):Con Tryz.prog 169 [.d tR a,.d tR b,.d tR c] [.d axf (ff (ae a) (ae b) (ae c))]:=by
 refine aP r8 (ajz _ _ _ ⟨0,?_⟩)
 obtain⟨ha,hb,hc⟩:=h
 obtain⟨a,rfl,ba⟩:=aS ha
 obtain⟨b,rfl,bb⟩:=aS hb
 obtain⟨c,rfl,bc⟩:=aS hc
 unfold Pb
 simp only[aj,aB,az,aW,aua,aub,Nat.reduceAdd,Nat.reduceLeDiff,nA]
 exact DX _ _ _
def ajs:Ctx:=CX AC []
def Uu(a b:BO3)(_k:KT):Option (List RV):=match decide (okR a.1∧okR b.1)with|true=>(match decide (okR b.2.1)with|true=>(match decide (aY (0:Int))with|true=>some [RV.d tQ (hid (ag (ae a.1-ae b.1)),(a.2.1,(hid (ag (-ae b.2.1)),(hid (ag ((0:Int):Rat)),(a.2.2,b.2.2)))))]|false=>none)|false=>none)|false=>none
theorem alq(a b:BO3):RS ajs 208 [.d tO a,.d tO b] (Uu a b):=rsX
theorem Vz(a b:BO3)(h:ok Rt 15000 a∧ok Rt 15000 b):Con Tryz.prog 208 [.d tO a,.d tO b] [.d tQ (enc (suT (dec a) (dec b)))]:=by
 refine aP r8 (alq _ _ ⟨0,?_⟩)
 obtain⟨ha,hb⟩:=h
 obtain⟨a,rfl,ba⟩:=aS ha
 obtain⟨b,rfl,bb⟩:=aS hb
 unfold Uu
 simp only[aj,am,aE,aF,aB,az,aW,aua,aub,Nat.reduceLeDiff]
 try rfl
def HX:aN:=spN true true [tR,tR,tR] (fun x=>decide (ok Rat 240000 x.1∧ok Rat 170000 x.2.1∧ok Rat 30000 x.2.2.1)) (fun x=>[RV.d axf (ff (ae x.1) (ae x.2.1) (ae x.2.2.1))])
theorem Lw:SpK 169 HX:=spX fun x h=>QJ x.1 x.2.1 x.2.2.1 (at6 h)
def HL:aN:=spN false true [tO,tO] (fun x=>decide (ok Rt 15000 x.1∧ok Rt 15000 x.2.1)) (fun x=>[RV.d tQ (hid (enc (suT (dec x.1) (dec x.2.1))))])
theorem Ml:SpK 208 HL:=spX fun x h=>by simp only[aj];exact Vz x.1 x.2.1 (at6 h)
def Fc:Env:=(169,HX)::(208,HL)::AC
theorem zl:EnvAll Tryz.prog Fc:=⟨Lw,Ml,r8⟩
def ah8:Ctx:=CX Fc []
def PI(q:BQ)(_k:KT):Option (List RV):=let y1:=ae q.2.2.2.2.1;let y2:=aU (ae q.2.2.2.2.2) 0;let y3:=ff (ae q.1) (ae q.2.1) y1;let y4:=i64.wrap ((ff (ae q.2.2.1) (ae q.2.2.2.1) y1)*y2);let y5:Option (List RV):=match y3==0 with|true=>some [RV.d axf y4]|false=>some [RV.d axf y3];let y6:=hid (ag (ae q.2.2.2.1*ae q.2.2.2.1));let y7:=hid (ag (ae q.2.2.1*ae q.2.2.1));let y8:=hid (ag (ae y6*ae q.2.2.2.2.1));let y9:=hid (ag (ae y7+ae y8));let y10:=hid (ag (ae q.2.1*ae q.2.1));let y11:=hid (ag (ae q.1*ae q.1));let y12:=hid (ag (ae y10*ae q.2.2.2.2.1));let y13:=hid (ag (ae y11+ae y12));let y14:=hid (ag (ae q.2.2.2.2.2*ae y9));let y15:=hid (ag (ae q.2.2.1*ae q.2.2.2.1));let y16:=hid (ag (ae q.1*ae q.2.1));let y17:=hid (ag (ae q.2.2.2.2.2*ae y15));let y18:=hid (ag (ae y16-ae y17));let y19:=hid (ag (ae y13-ae y14));let y20:=hid (ag (ae y18+ae y18));match decide (okR q.2.2.2.2.1)with|true=>(match decide ((aU y1 0)<0)with|true=>some [RV.d axf 0]|false=>(match decide (okR q.2.2.2.2.2)with|true=>(match decide (y2<0)with|true=>some [RV.d axf 0]|false=>(match decide (ok Rat 240000 q.1∧ok Rat 170000 q.2.1∧ok Rat 30000 q.2.2.2.2.1)with|true=>(match decide (ok Rat 240000 q.2.2.1∧ok Rat 170000 q.2.2.2.1∧ok Rat 30000 q.2.2.2.2.1)with|true=>(match decide (okR q.2.2.2.2.2)with|true=>(match y3==0 with|true=>y5|false=>(match y4==0 with|true=>y5|false=>(match y3==y4 with|true=>y5|false=>(match decide (okR q.2.2.1∧okR q.2.2.1)with|true=>(match decide (okR q.2.2.2.1∧okR q.2.2.2.1)with|true=>(match decide (okR y6∧okR q.2.2.2.2.1)with|true=>(match decide (okR y7∧okR y8)with|true=>(match decide (okR q.2.2.2.2.2∧okR y9)with|true=>(match decide (okR q.1∧okR q.1)with|true=>(match decide (okR q.2.1∧okR q.2.1)with|true=>(match decide (okR y10∧okR q.2.2.2.2.1)with|true=>(match decide (okR y11∧okR y12)with|true=>(match decide (okR y13∧okR y14)with|true=>(match decide (okR q.1∧okR q.2.1)with|true=>(match decide (okR q.2.2.1∧okR q.2.2.2.1)with|true=>(match decide (okR q.2.2.2.2.2∧okR y15)with|true=>(match decide (okR y16∧okR y17)with|true=>(match decide (okR y18∧okR y18)with|true=>(match decide (ok Rat 240000 y19∧ok Rat 170000 y20∧ok Rat 30000 q.2.2.2.2.1)with|true=>some [RV.d axf (i64.wrap (y3*(ff (ae y19) (ae y20) y1)))]|false=>none)|false=>none)|false=>none)|false=>none)|false=>none)|false=>none)|false=>none)|false=>none)|false=>none)|false=>none)|false=>none)|false=>none)|false=>none)|false=>none)|false=>none)|false=>none))))|false=>none)|false=>none)|false=>none))|false=>none))|false=>none
theorem alp(q:BQ):RS ah8 207 [.d tQ q] (PI q):=rsX
theorem RI(q:BQ)(h:okQ q):Con Tryz.prog 207 [.d tQ q] [.d axf (sgQ (dec q))]:=by
 refine aP zl (alp _ ⟨0,?_⟩)
 obtain⟨A,B,C,D,M,N,rfl,bA,bB,bC,bD,bM,bN,hM,hN⟩:=GG h
 rw[am]
 unfold PI
 simp only[aj,aT,aB,az,aC,aW,aua,aub,Nat.reduceAdd,Nat.reduceLeDiff,pS,qJ,aJ,at9 (show ¬M<0 by grind),at9 (show ¬N<0 by grind)]
 refine(DX _ _ _).trans ?_
 unfold sgQ BA
 rw[at9 (show ¬M<0 by grind),at9 (show ¬N<0 by grind)]
 dsimp only[Bool.or_false,cond_false]
 rw[show A*B-N*(C*D)+(A*B-N*(C*D))=2*(A*B-N*(C*D)) by grind]
 rfl
def BY:aN:=spN true true [tQ] (fun x=>decide (okQ x.1)) (fun x=>[RV.d axf (sgQ (dec x.1))])
theorem ze:SpK 207 BY:=spX fun x h=>RI x.1 (at6 h)
def Ai:Env:=(207,BY)::Fc
theorem rU:EnvAll Tryz.prog Ai:=⟨ze,zl⟩
def akx:Ctx:=CX Ai []
def Wc(a b:BO3)(_k:KT):Option (List RV):=match decide (ok Rt 15000 a∧ok Rt 15000 b)with|true=>(match decide (okQ (hid (enc (suT (dec a) (dec b)))))with|true=>some [RV.d axf (sgQ (dec (hid (enc (suT (dec a) (dec b))))))]|false=>none)|false=>none
theorem aij(a b:BO3):RS akx 119 [.d tO a,.d tO b] (Wc a b):=rsX
theorem Tc(a b:BO3)(h:okT 15000 a∧okT 15000 b):Con Tryz.prog 119 [.d tO a,.d tO b] [.d axf (bG (dec a) (dec b))]:=by
 refine aP rU (aij _ _ ⟨0,?_⟩)
 obtain⟨ha,hb⟩:=h
 obtain⟨a,rfl,ba,ra⟩:=fa ha
 obtain⟨b,rfl,bb,rb⟩:=fa hb
 have na:Nn a.2.2:=inferInstance
 have nb:Nn b.2.2:=inferInstance
 have e:decide (okQ (enc (suT a b)))=true:=EI (by decide) (by decide) (by decide) (by decide) (by decide) (by decide)
 unfold Wc
 simp only[aj,am,okd,aua,aub,Nat.reduceLeDiff,e]
 rfl
def aiC:Ctx:=CX Ai []
def Vk(a:BO3)(b:BR)(_k:KT):Option (List RV):=match decide (okR a.1∧okR b)with|true=>(match decide (ok Rat 240000 (hid (ag (ae a.1-ae b)))∧ok Rat 170000 a.2.1∧ok Rat 30000 a.2.2)with|true=>some [RV.d axf (ff (ae (hid (ag (ae a.1-ae b)))) (ae a.2.1) (ae a.2.2))]|false=>none)|false=>none
theorem ais(a:BO3)(b:BR):RS aiC 85 [.d tO a,.d tR b] (Vk a b):=rsX
theorem QW(a:BO3)(b:BR)(h:okT 15000 a∧ok Rat 15000 b):Con Tryz.prog 85 [.d tO a,.d tR b] [.d axf (eu (dec a) (ae b))]:=by
 refine aP rU (ais _ _ ⟨0,?_⟩)
 obtain⟨ha,hb⟩:=h
 obtain⟨a,rfl,ba,ra⟩:=fa ha
 obtain⟨b,rfl,bb⟩:=aS hb
 unfold Vk
 simp only[aj,am,aE,aF,aB,az,aC,aW,aua,aub,Nat.reduceAdd,Nat.reduceLeDiff]
 try rfl
def nI:aN:=spN true true [tO,tO] (fun x=>decide (okT 15000 x.1∧okT 15000 x.2.1)) (fun x=>[RV.d axf (bG (dec x.1) (dec x.2.1))])
theorem kH:SpK 119 nI:=spX fun x h=>Tc x.1 x.2.1 (at6 h)
def Nc:Env:=(119,nI)::Ai
theorem KC:EnvAll Tryz.prog Nc:=⟨kH,rU⟩
def agH:Ctx:=CX Nc []
def Xc(a b:BO3)(_k:KT):Option (List RV):=match decide (okT 15000 a∧okT 15000 b)with|true=>some [RV.d .bool ((bG (dec a) (dec b))==0)]|false=>none
theorem akp(a b:BO3):RS agH 63 [.d tO a,.d tO b] (Xc a b):=rsX
theorem XA(a b:BO3)(h:okT 15000 a∧okT 15000 b):Con Tryz.prog 63 [.d tO a,.d tO b] [.d .bool (bG (dec a) (dec b)==0)]:=by
 refine aP KC (akp _ _ ⟨0,?_⟩)
 unfold Xc
 rw[dT h]
def lX:aN:=spN false true [tR] (fun x=>decide (okR x.1)) (fun x=>[RV.d tR (hid (ag (-ae x.1)))])
theorem jd:SpK 202 lX:=spX fun x h=>by simp only[aj];exact Im x.1 (at6 h)
def H9:Env:=[(76,io),(149,jQ),(147,jq),(148,ip),(83,gr),(99,k9),(202,lX)]
theorem uG:EnvAll Tryz.prog H9:=⟨fc,fY,fC,eW,eM,ie,jd,trivial⟩
def arU:Ctx:=CX H9 []
def adn(a b c:BR)(_k:KT):Option (List RV):=match decide (okR a)with|true=>(match decide (okR b)with|true=>(match decide (okR c)with|true=>(match(i64.wrap ((aU (ae b) 0)*(aU (ae c) 0)))==0 with|true=>some [RV.d axf (aU (ae a) 0)]|false=>(match(aU (ae a) 0)==(i64.wrap ((aU (ae b) 0)*(aU (ae c) 0)))with|true=>some [RV.d axf (aU (ae a) 0)]|false=>(match(aU (ae a) 0)==0 with|true=>some [RV.d axf (i64.wrap ((aU (ae b) 0)*(aU (ae c) 0)))]|false=>(match decide (okR a∧okR a)with|true=>(match decide (okR b∧okR b)with|true=>(match decide (okR (hid (ag (ae b*ae b)))∧okR c)with|true=>(match decide (okR (hid (ag (ae a*ae a)))∧okR (hid (ag (ae (hid (ag (ae b*ae b)))*ae c))))with|true=>some [RV.d axf (i64.wrap ((aU (ae a) 0)*(aU (ae (hid (ag (ae a*ae a)))) (ae (hid (ag (ae (hid (ag (ae b*ae b)))*ae c)))))))]|false=>none)|false=>none)|false=>none)|false=>none))))|false=>none)|false=>none)|false=>none
theorem aoP(a b c:BR):RS arU 219 [.d tR a,.d tR b,.d tR c] (adn a b c):=rsX
theorem Zk(a b c:BR)(h:ok Rat 240000 a∧ok Rat 170000 b∧ok Rat 30000 c):Con Tryz.prog 219 [.d tR a,.d tR b,.d tR c] [.d axf (ff (ae a) (ae b) (ae c))]:=by
 refine aP uG (aoP _ _ _ ⟨0,?_⟩)
 obtain⟨ha,hb,hc⟩:=h
 obtain⟨a,rfl,ba⟩:=aS ha
 obtain⟨b,rfl,bb⟩:=aS hb
 obtain⟨c,rfl,bc⟩:=aS hc
 unfold adn
 simp only[aj,aB,az,aW,aua,aub,Nat.reduceAdd,Nat.reduceLeDiff,nA]
 exact BM _ _ _
def ap4:Ctx:=CX H9 []
def aeY(a:BR)(_k:KT):Option (List RV):=match decide (okR a)with|true=>(match decide (okR (hid (ag (-ae a))))with|true=>some [RV.d tR (hid (ag (-ae (hid (ag (-ae a))))))]|false=>none)|false=>none
theorem aoi(a:BR):RS ap4 260 [.d tR a] (aeY a):=rsX
theorem ZJ(a:BR)(h:okR a):Con Tryz.prog 260 [.d tR a] [.d tR (ag (ae a))]:=by
 refine aP uG (aoi _ ⟨0,?_⟩)
 have ha:=h
 obtain⟨a,rfl,ba⟩:=eo ha
 unfold aeY
 simp only[aj,az,aW,Nat.reduceLeDiff,Rat.neg_neg]
def rN:aN:=spN true true [tR,tR,tR] (fun x=>decide (ok Rat 240000 x.1∧ok Rat 170000 x.2.1∧ok Rat 30000 x.2.2.1)) (fun x=>[RV.d axf (ff (ae x.1) (ae x.2.1) (ae x.2.2.1))])
theorem mO:SpK 219 rN:=spX fun x h=>Zk x.1 x.2.1 x.2.2.1 (at6 h)
def GU:aN:=spN false true [tR] (fun x=>decide (okR x.1)) (fun x=>[RV.d tR (hid (ag (ae x.1)))])
theorem C5:SpK 260 GU:=spX fun x h=>by simp only[aj];exact ZJ x.1 (at6 h)
def aef:Env:=(219,rN)::(260,GU)::H9
theorem PB:EnvAll Tryz.prog aef:=⟨mO,C5,uG⟩
def aq9:Ctx:=CX aef []
def aeA(a b:BO3)(_k:KT):Option (List RV):=match decide (okR a.1∧okR b.1)with|true=>(match decide (okR a.2.1)with|true=>(match decide (okR b.2.1)with|true=>(match decide (aY (0:Int))with|true=>(match decide (okR a.2.2)with|true=>(match decide (okR b.2.2)with|true=>some [RV.d tQ (hid (ag (ae a.1-ae b.1)),(hid (ag (ae a.2.1)),(hid (ag (-ae b.2.1)),(hid (ag ((0:Int):Rat)),(hid (ag (ae a.2.2)),hid (ag (ae b.2.2)))))))]|false=>none)|false=>none)|false=>none)|false=>none)|false=>none)|false=>none
theorem anK(a b:BO3):RS aq9 220 [.d tO a,.d tO b] (aeA a b):=rsX
theorem aa0(a b:BO3)(h:ok Rt 15000 a∧ok Rt 15000 b):Con Tryz.prog 220 [.d tO a,.d tO b] [.d tQ (enc (suT (dec a) (dec b)))]:=by
 refine aP PB (anK _ _ ⟨0,?_⟩)
 obtain⟨ha,hb⟩:=h
 obtain⟨a,rfl,ba⟩:=aS ha
 obtain⟨b,rfl,bb⟩:=aS hb
 unfold aeA
 simp only[aj,am,aE,aF,aB,az,aW,aua,aub,Nat.reduceLeDiff]
 try rfl
theorem iz{n:Int}(h:aY n):szI n≤3:=by
 have:pw 3=1000000000000000000000000000:=by decide
 exact eE (by have:=h.1;omega) (by have:=h.2;omega)
theorem NE{q:Rat}{k:Nat}(h:Bd q k)(hk:k≤480000):okI (ak q.floor)∧okI (ak (-q.floor)):=by
 have e:szI q.floor≤k:=by
  refine aur (dl ?_) h.le.1
  rw[Rat.floor_def]
  exact Int.natAbs_ediv_le_natAbs _ _
 exact⟨bu (by omega),bu (by rw[gP];omega)⟩
theorem ast:Bd (65536:Rat) 1:=⟨⟨by decide+kernel,by decide+kernel⟩⟩
theorem ai5:((65536:Int):Rat)=65536:=rfl
theorem p48:(2:Int)^(min (48:Int).toNat 64)=281474976710656:=by decide
theorem p32:(2:Int)^(min (32:Int).toNat 64)=4294967296:=by decide
theorem p16:(2:Int)^(min (16:Int).toNat 64)=65536:=by decide
theorem fdv{a b:Int}(h:0≤b):Int.fdiv a b=a/b:=Int.fdiv_eq_ediv_of_nonneg a h
theorem ac4(n k:Nat)(hn:n<18446744073709551616)(hk:2^k-1<18446744073709551616):BitVec.toNat (BitVec.ofInt 64 (n:Int)&&&BitVec.ofInt 64 ((2^k-1:Nat):Int))=n%2^k:=by
 rw[BitVec.toNat_and,BitVec.toNat_ofInt,BitVec.toNat_ofInt]
 have e1:((n:Int)%((2^64:Nat):Int)).toNat=n:=by omega
 have e2:(((2^k-1:Nat):Int)%((2^64:Nat):Int)).toNat=2^k-1:=by omega
 rw[e1,e2,Nat.and_two_pow_sub_one_eq_mod]
theorem arK(n:Nat)(hn:n<18446744073709551616):u64.wrap (BitVec.toNat (BitVec.ofInt 64 (n:Int)&&&BitVec.ofInt 64 65535))=((n%65536:Nat):Int):=by
 rw[show(65535:Int)=((2^16-1:Nat):Int) from rfl,ac4 n 16 hn (by decide),auX]
 omega
theorem OF(n:Nat)(hn:n<18446744073709551616):u64.wrap (BitVec.toNat (BitVec.ofInt 64 (n:Int)&&&BitVec.ofInt 64 4294967295))=((n%4294967296:Nat):Int):=by
 rw[show(4294967295:Int)=((2^32-1:Nat):Int) from rfl,ac4 n 32 hn (by decide),auX]
 omega
theorem ath{h l:Nat}(hh:h<65536)(hl:l<281474976710656):u64.wrap (BitVec.toNat (BitVec.ofInt 64 (u64.wrap ((h:Int)*281474976710656)) ||| BitVec.ofInt 64 (l:Int)))=((h*281474976710656+l:Nat):Int):=by
 rw[BitVec.toNat_or,BitVec.toNat_ofInt,BitVec.toNat_ofInt,auX,auX]
 have e1:((h:Int)*281474976710656%18446744073709551616%((2^64:Nat):Int)).toNat=h <<< 48:=by
  rw[Nat.shiftLeft_eq]
  omega
 have e2:((l:Int)%((2^64:Nat):Int)).toNat=l:=by omega
 rw[e1,e2,←Nat.shiftLeft_add_eq_or_of_lt (by omega),Nat.shiftLeft_eq]
 omega
def scP(x y:Int):Prop:=x.natAbs≤2305843009213693952∧y.natAbs≤2305843009213693952
instance (x y:Int):Decidable (scP x y):=by unfold scP;infer_instance
def Cb(n:Int):Prop:=0≤n∧n≤2305843009213693952
instance (n:Int):Decidable (Cb n):=by unfold Cb;infer_instance
def aqY:Ctx:=CX [] []
def adR(x y:Int)(_k:KT):Option (List RV):=match decide (x<(-2305843009213693952))with|true=>some [RV.d tG (0,0),RV.d .bool false]|false=>(match decide (y>2305843009213693952)with|true=>some [RV.d tG (0,0),RV.d .bool false]|false=>some [RV.d tG (x,y),RV.d .bool true])
theorem asc(x y:Int):RS aqY 294 [SI x,SI y] (adR x y):=rsX
theorem Y5(x y:Int):Con Tryz.prog 294 [.d axf x,.d axf y] [.d tG ((kv x y).1),.d .bool ((kv x y).2)]:=by
 refine aP (E:=[]) trivial (asc _ _ ⟨0,?_⟩)
 unfold adR kv
 cases decide (x< -2305843009213693952)
 ·cases decide (y>2305843009213693952)<;>rfl
 ·rfl
def B7:aN:=spN false true [tR] (fun x=>decide (okR x.1)) (fun x=>[RV.d tI (hid (ak (ae x.1).floor))])
theorem v5:SpK 296 B7:=spX fun x h=>by simp only[aj];exact Yf x.1 (at6 h)
def G8:aN:=spN true true [tI] (fun x=>decide (okI x.1)) (fun x=>[RV.d axf (bif decide (aY (ah x.1))then ah x.1 else 0),RV.d .bool (decide (aY (ah x.1)))])
theorem DJ:SpK 295 G8:=spX fun x h=>abR x.1 (at6 h)
def FV:aN:=spN false true [tI] (fun x=>decide (okI x.1)) (fun x=>[RV.d tI (hid (ak (-ah x.1)))])
theorem Ei:SpK 254 FV:=spX fun x h=>by simp only[aj];exact JV x.1 (at6 h)
def Bz:aN:=spN false true [axf,axf] (fun _=>true) (fun x=>[RV.d tG (hid ((kv x.1 x.2.1).1)),RV.d .bool ((kv x.1 x.2.1).2)])
theorem wA:SpK 294 Bz:=spX fun x _=>by simp only[aj];exact Y5 x.1 x.2.1
def vu:Env:=[(76,io),(148,ip),(202,lX),(296,B7),(295,G8),(254,FV),(294,Bz)]
theorem jW:EnvAll Tryz.prog vu:=⟨fc,eW,jd,v5,DJ,Ei,wA,trivial⟩
def apd:Ctx:=CX vu []
def adD(a:BR)(_k:KT):Option (List RV):=let y1:=hid (ag ((65536:Int):Rat));let y2:=hid (ag (ae a*ae y1));let y3:=hid (ak (ae y2).floor);let y4:=hid (ag (-ae y2));let y5:=hid (ak (ae y4).floor);let y6:=hid (ak (-ah y5));let y7:=kv (bif decide (aY (ah y3))then ah y3 else 0) (bif decide (aY (ah y6))then ah y6 else 0);match decide (aY (65536:Int))with|true=>(match decide (okR a∧okR y1)with|true=>(match decide (okR y2)with|true=>(match decide (okI y3)with|true=>(match decide (okR y2)with|true=>(match decide (okR y4)with|true=>(match decide (okI y5)with|true=>(match decide (okI y6)with|true=>(match !(decide (aY (ah y3)))with|true=>some [RV.d tG (0,0),RV.d .bool false]|false=>(match !(decide (aY (ah y6)))with|true=>some [RV.d tG (0,0),RV.d .bool false]|false=>some [RV.d tG (hid (y7.1)),RV.d .bool (y7.2)]))|false=>none)|false=>none)|false=>none)|false=>none)|false=>none)|false=>none)|false=>none)|false=>none
theorem anV(a:BR):RS apd 281 [.d tR a] (adD a):=rsX
theorem aaf(a:BR)(h:ok Rat 200000 a):Con Tryz.prog 281 [.d tR a] [.d tG ((frF (ae a)).1),.d .bool ((frF (ae a)).2)]:=by
 refine aP jW (anV _ ⟨0,?_⟩)
 have ha:=h
 obtain⟨a,rfl,ba⟩:=aS ha
 have hk:=ast
 have h6:aY 65536:=by decide
 have f1:=NE (inferInstance:Bd (a*65536) _) (by decide)
 have f2:=NE (inferInstance:Bd (-(a*65536)) _) (by decide)
 unfold adD
 simp only[ai5,aj,aB,az,aW,aua,aub,Nat.reduceAdd,Nat.reduceLeDiff,dec_enc,dT h6,dT f1.1,dT f2.1,dT f2.2]
 unfold frF
 cases e1:decide (aY (a*65536).floor)
 ·rfl
 ·cases e2:decide (aY (-(-(a*65536)).floor))
  ·rfl
  ·rfl
def anZ:Ctx:=CX vu []
def afe(a b:(Int×Int))(_k:KT):Option (List RV):=some [RV.d tG (hid ((kv (i64.wrap (a.1+b.1)) (i64.wrap (a.2+b.2))).1)),RV.d .bool ((kv (i64.wrap (a.1+b.1)) (i64.wrap (a.2+b.2))).2)]
theorem am5(a b:(Int×Int)):RS anZ 283 [.d tG a,.d tG b] (afe a b):=rsX
theorem Yd(a b:(Int×Int))(h:prI a∧prI b):Con Tryz.prog 283 [.d tG a,.d tG b] [.d tG ((dk a b).1),.d .bool ((dk a b).2)]:=by
 refine aP jW (am5 _ _ ⟨0,?_⟩)
 obtain⟨⟨a1,a2,a3⟩,⟨b1,b2,b3⟩⟩:=h
 unfold afe dk
 rw[bj (by omega) (by omega),bj (by omega) (by omega)]
 simp only[aj]
def aq2:Ctx:=CX vu []
def adT(a:(Int×Int))(_k:KT):Option (List RV):=some [RV.d tG (i64.wrap (0-a.2),i64.wrap (0-a.1))]
theorem amV(a:(Int×Int)):RS aq2 290 [.d tG a] (adT a):=rsX
theorem acF(a:(Int×Int))(h:prI a):Con Tryz.prog 290 [.d tG a] [.d tG (jT a)]:=by
 refine aP jW (amV _ ⟨0,?_⟩)
 obtain⟨a1,a2,a3⟩:=h
 unfold adT jT
 rw[bj (by omega) (by omega),bj (by omega) (by omega),av7,av7]
def arY:Ctx:=CX vu []
def aeG(n:Int)(_k:KT):Option (List RV):=match decide (n<0)with|true=>some [RV.d (.int .u64) (u64.wrap (0-(u64.wrap n)))]|false=>some [RV.d (.int .u64) (u64.wrap n)]
theorem aqn(n:Int):RS arY 303 [SI n] (aeG n):=rsX
theorem Yk(n:Int)(h:aY n):Con Tryz.prog 303 [.d axf n] [.d (.int .u64) (n.natAbs:Int)]:=by
 refine aP jW (aqn _ ⟨0,?_⟩)
 obtain⟨h1,h2⟩:=h
 unfold aeG
 rw[auX,auX]
 by_cases hn:n<0
 ·rw[at7 hn,show(0-n%18446744073709551616)%18446744073709551616=(n.natAbs:Int) by omega]
 ·rw[at9 hn,show n%18446744073709551616=(n.natAbs:Int) by omega]
def anE:Ctx:=CX vu []
def adZ(x y:Int)(_k:KT):Option (List RV):=match decide (32<(0:Int))with|true=>none|false=>(match decide (32<(0:Int))with|true=>none|false=>(match decide (32<(0:Int))with|true=>none|false=>(match decide (32<(0:Int))with|true=>none|false=>(match decide (32<(0:Int))with|true=>none|false=>some [RV.d (.int .u64) (u64.wrap ((u64.wrap ((u64.wrap ((Int.fdiv x (2^(min (32:Int).toNat 64)))*(Int.fdiv y (2^(min (32:Int).toNat 64)))))+(Int.fdiv (u64.wrap ((u64.wrap ((Int.fdiv x (2^(min (32:Int).toNat 64)))*(u64.wrap (BitVec.toNat (BitVec.ofInt 64 y&&&BitVec.ofInt 64 4294967295)))))+(Int.fdiv (u64.wrap ((u64.wrap (BitVec.toNat (BitVec.ofInt 64 x&&&BitVec.ofInt 64 4294967295)))*(u64.wrap (BitVec.toNat (BitVec.ofInt 64 y&&&BitVec.ofInt 64 4294967295))))) (2^(min (32:Int).toNat 64))))) (2^(min (32:Int).toNat 64)))))+(Int.fdiv (u64.wrap ((u64.wrap (BitVec.toNat (BitVec.ofInt 64 (u64.wrap ((u64.wrap ((Int.fdiv x (2^(min (32:Int).toNat 64)))*(u64.wrap (BitVec.toNat (BitVec.ofInt 64 y&&&BitVec.ofInt 64 4294967295)))))+(Int.fdiv (u64.wrap ((u64.wrap (BitVec.toNat (BitVec.ofInt 64 x&&&BitVec.ofInt 64 4294967295)))*(u64.wrap (BitVec.toNat (BitVec.ofInt 64 y&&&BitVec.ofInt 64 4294967295))))) (2^(min (32:Int).toNat 64)))))&&&BitVec.ofInt 64 4294967295)))+(u64.wrap ((u64.wrap (BitVec.toNat (BitVec.ofInt 64 x&&&BitVec.ofInt 64 4294967295)))*(Int.fdiv y (2^(min (32:Int).toNat 64))))))) (2^(min (32:Int).toNat 64))))),RV.d (.int .u64) (u64.wrap (x*y))]))))
theorem apA(x y:Int):RS anE 302 [.d (.int .u64) x,.d (.int .u64) y] (adZ x y):=rsX
theorem YE(x y:Int)(h:fN x∧fN y):Con Tryz.prog 302 [.d (.int .u64) x,.d (.int .u64) y] [.d (.int .u64) (x*y/18446744073709551616),.d (.int .u64) (x*y%18446744073709551616)]:=by
 refine aP jW (apA _ _ ⟨0,?_⟩)
 obtain⟨h1,h2⟩:=h
 obtain⟨X,rfl⟩:=avl h1.1
 obtain⟨Y,rfl⟩:=avl h2.1
 have hX:X<18446744073709551616:=by have:=h1.2;omega
 have hY:Y<18446744073709551616:=by have:=h2.2;omega
 have wn:∀n:Nat,n<18446744073709551616→u64.wrap (n:Int)=(n:Int):=fun n hn=>by rw[auX];omega
 have eX:(X:Int)/4294967296=((X/4294967296:Nat):Int):=by omega
 have eY:(Y:Int)/4294967296=((Y/4294967296:Nat):Int):=by omega
 unfold adZ
 simp only[p32,fdv (show(0:Int)≤4294967296 by decide),OF X hX,OF Y hY,eX,eY]
 have hXY:X*Y=X/4294967296*(Y/4294967296)*18446744073709551616+(X/4294967296*(Y%4294967296)+X%4294967296*(Y/4294967296))*4294967296+X%4294967296*(Y%4294967296):=by
  have a:=Nat.div_add_mod X 4294967296
  have b:=Nat.div_add_mod Y 4294967296
  generalize X/4294967296=x1 at*
  generalize X%4294967296=x0 at*
  generalize Y/4294967296=y1 at*
  generalize Y%4294967296=y0 at*
  subst a b
  grind
 have x0:X%4294967296≤4294967295:=by omega
 have y0:Y%4294967296≤4294967295:=by omega
 have x1:X/4294967296≤4294967295:=by omega
 have y1:Y/4294967296≤4294967295:=by omega
 have q00:=awn x0 y0
 have q10:=awn x1 y0
 have q01:=awn x0 y1
 have q11:=awn x1 y1
 simp only[←avv]
 rw[hXY]
 generalize X%4294967296*(Y%4294967296)=p00 at*
 generalize X/4294967296*(Y%4294967296)=p10 at*
 generalize X%4294967296*(Y/4294967296)=p01 at*
 generalize X/4294967296*(Y/4294967296)=p11 at*
 have t0:u64.wrap (u64.wrap (p10:Int)+u64.wrap (p00:Int)/4294967296)=((p10+p00/4294967296:Nat):Int):=by
  rw[wn p10 (by omega),wn p00 (by omega),show(p10:Int)+(p00:Int)/4294967296=((p10+p00/4294967296:Nat):Int) by omega,wn _ (by omega)]
 rw[t0,OF _ (by omega)]
 have t1:u64.wrap (((p10+p00/4294967296)%4294967296:Nat)+u64.wrap (p01:Int))=(((p10+p00/4294967296)%4294967296+p01:Nat):Int):=by
  rw[wn p01 (by omega),←Int.natCast_add,wn _ (by omega)]
 rw[t1,wn p11 (by omega)]
 rw[at9 (show ¬(32:Int)<0 by decide)]
 dsimp only
 have hi:u64.wrap (u64.wrap ((p11:Int)+((p10+p00/4294967296:Nat):Int)/4294967296)+(((p10+p00/4294967296)%4294967296+p01:Nat):Int)/4294967296)=((p11*18446744073709551616+(p10+p01)*4294967296+p00:Nat):Int)/18446744073709551616:=by
  rw[auX,auX]
  omega
 rw[hi,auX]
def zG:aN:=spN false true [axf] (fun x=>decide (aY x.1)) (fun x=>[RV.d (.int .u64) (hid ((x.1.natAbs:Int)))])
theorem v8:SpK 303 zG:=spX fun x h=>by simp only[aj];exact Yk x.1 (at6 h)
def zM:aN:=spN false true [(.int .u64),(.int .u64)] (fun x=>decide (fN x.1∧fN x.2.1)) (fun x=>[RV.d (.int .u64) (hid (x.1*x.2.1/18446744073709551616)),RV.d (.int .u64) (hid (x.1*x.2.1%18446744073709551616))])
theorem wV:SpK 302 zM:=spX fun x h=>by simp only[aj];exact YE x.1 x.2.1 (at6 h)
def aen:Env:=(303,zG)::(302,zM)::vu
theorem UL:EnvAll Tryz.prog aen:=⟨v8,wV,jW⟩
def aqH:Ctx:=CX aen []
def afZ(x y:Int)(_k:KT):Option (List RV):=let y1:=hid ((x.natAbs:Int));let y2:=hid ((y.natAbs:Int));let y3:=hid (y1*y2/18446744073709551616);let y4:=hid (y1*y2%18446744073709551616);let y5:=u64.wrap (BitVec.toNat (BitVec.ofInt 64 (u64.wrap (y3*2^(min (48:Int).toNat 64))) ||| BitVec.ofInt 64 (Int.fdiv y4 (2^(min (16:Int).toNat 64)))));let y6:=i64.wrap y5;let y7:=i64.wrap (y6+1);let y8:=i64.wrap (0-y7);let y9:=i64.wrap (0-y6);let y10:=decide (y9≤2305843009213693952);match decide (aY x)with|true=>(match decide (aY y)with|true=>(match decide (fN y1∧fN y2)with|true=>(match decide (16<(0:Int))with|true=>none|false=>(match(Int.fdiv y3 (2^(min (16:Int).toNat 64))) !=0 with|true=>some [RV.d axf 0,RV.d axf 0,RV.d .bool false]|false=>(match decide (48<(0:Int))with|true=>none|false=>(match decide (16<(0:Int))with|true=>none|false=>(match decide (y5>2305843009213693952)with|true=>some [RV.d axf 0,RV.d axf 0,RV.d .bool false]|false=>(match(u64.wrap (BitVec.toNat (BitVec.ofInt 64 y4&&&BitVec.ofInt 64 65535))) !=0 with|true=>(match !((decide (x<0))==(decide (y<0)))with|true=>(match decide (y8≥(-2305843009213693952))with|true=>some [RV.d axf y8,RV.d axf y9,RV.d .bool y10]|false=>some [RV.d axf y8,RV.d axf y9,RV.d .bool false])|false=>(match decide (y6≥(-2305843009213693952))with|true=>some [RV.d axf y6,RV.d axf y7,RV.d .bool (decide (y7≤2305843009213693952))]|false=>some [RV.d axf y6,RV.d axf y7,RV.d .bool false]))|false=>(match !((decide (x<0))==(decide (y<0)))with|true=>(match decide (y9≥(-2305843009213693952))with|true=>some [RV.d axf y9,RV.d axf y9,RV.d .bool y10]|false=>some [RV.d axf y9,RV.d axf y9,RV.d .bool false])|false=>(match decide (y6≥(-2305843009213693952))with|true=>some [RV.d axf y6,RV.d axf y6,RV.d .bool (decide (y6≤2305843009213693952))]|false=>some [RV.d axf y6,RV.d axf y6,RV.d .bool false]))))))))|false=>none)|false=>none)|false=>none
theorem anw(x y:Int):RS aqH 297 [SI x,SI y] (afZ x y):=rsX
theorem ack(x y:Int)(h:scP x y):Con Tryz.prog 297 [.d axf x,.d axf y] [.d axf ((scF x y).1.1),.d axf ((scF x y).1.2),.d .bool ((scF x y).2)]:=by
 refine aP UL (anw _ _ ⟨0,?_⟩)
 obtain⟨hx,hy⟩:=h
 have h1:aY x:=⟨by omega,by omega⟩
 have h2:aY y:=⟨by omega,by omega⟩
 have h3:fN (x.natAbs:Int)∧fN (y.natAbs:Int):=⟨⟨by omega,by omega⟩,⟨by omega,by omega⟩⟩
 unfold afZ scF
 simp only[aj]
 rw[dT h1,dT h2,dT h3]
 have hp:=awn hx hy
 simp only[←avv,p16,p48,fdv (show(0:Int)≤65536 by decide)]
 generalize x.natAbs*y.natAbs=p at*
 rw[at9 (show ¬(16:Int)<0 by decide),at9 (show ¬(48:Int)<0 by decide),show(p:Int)/18446744073709551616=((p/18446744073709551616:Nat):Int) by omega,show(p:Int)%18446744073709551616=((p%18446744073709551616:Nat):Int) by omega,show((p%18446744073709551616:Nat):Int)/65536=((p%18446744073709551616/65536:Nat):Int) by omega,arK _ (by omega),show p%18446744073709551616%65536=p%65536 by omega]
 by_cases hc:p≥1208925819614629174706176
 ·rw[at7 hc,show(((p/18446744073709551616:Nat):Int)/65536 !=0)=true by simp;omega]
  rfl
 ·rw[at9 hc,show(((p/18446744073709551616:Nat):Int)/65536 !=0)=false by simp;omega,ath (by omega) (by omega),show p/18446744073709551616*281474976710656+p%18446744073709551616/65536=p/65536 by omega]
  have hdm:=Nat.div_add_mod p 65536
  have hml:=awP p (show 65536>0 by decide)
  have hru:(p+65535)/65536=if p%65536=0 then p/65536 else p/65536+1:=by split<;>omega
  rw[hru]
  clear hru
  generalize p/65536=q at*
  generalize p%65536=m at*
  have e1:decide ((q:Int)>2305843009213693952)=decide (q>2305843009213693952):=auE.2 (by omega)
  rw[e1]
  by_cases hd:q>2305843009213693952
  ·rw[at7 hd]
   rfl
  rw[at9 hd,bj (x:=(q:Int)) (by omega) (by omega),bj (x:=(q:Int)+1) (by omega) (by omega),bj (x:=0-(q:Int)) (by omega) (by omega),bj (x:=0-((q:Int)+1)) (by omega) (by omega)]
  have e2:((m:Int) !=0)=!decide (m=0):=by by_cases h:m=0<;>simp[h]
  have e3:decide (0-(q:Int)≥ -2305843009213693952)=true:=at7 (by omega)
  have e4:decide (0-(q:Int)≤2305843009213693952)=true:=at7 (by omega)
  have e5:decide ((q:Int)≥ -2305843009213693952)=true:=at7 (by omega)
  have e6:decide ((q:Int)≤2305843009213693952)=true:=at7 (by omega)
  have e7:decide (0-((q:Int)+1)≥ -2305843009213693952)=decide (q+1≤2305843009213693952):=auE.2 (by omega)
  have e8:decide ((q:Int)+1≤2305843009213693952)=decide (q+1≤2305843009213693952):=auE.2 (by omega)
  have e9:decide (q≤2305843009213693952)=true:=at7 (by omega)
  rw[e2,e3,e4,e5,e6,e7,e8]
  have f2:((q+1:Nat):Int)=(q:Int)+1:=by omega
  have f3:decide (m=0)=true→m=0:=at6
  have f4:decide (m=0)=false→m≠0:=avb
  generalize decide (m=0)=d2 at*
  generalize (decide (x<0)==decide (y<0))=d3 at*
  cases d2
  ·rw[aus (f4 rfl),f2]
   generalize decide (q+1≤2305843009213693952)=d4 at*
   cases d3<;>cases d4<;>simp
  ·rw[auw (f3 rfl),e9]
   cases d3<;>simp
def bO(r:Rt):Iv×Bool:=
 bif !(frF r.1).2||decide (r.2.1=0)then frF r.1
 else bif !(frF r.2.1).2||!(frF r.2.2).2||decide (r.2.2<0)then(iv0,false)
 else bif !(sqF (frF r.2.2).1).2 then(iv0,false)
 else bif !(cG (frF r.2.1).1 (sqF (frF r.2.2).1).1).2 then(iv0,false)
 else dk (frF r.1).1 (cG (frF r.2.1).1 (sqF (frF r.2.2).1).1).1
def gu(n:Rat)(a:Iv)(k:Bool):Iv×Bool:=bif !k||!(frF n).2 then(iv0,false)else cG (frF n).1 a
def apF(a b:Rt):Int×Bool:=
 bif !(bO a).2||!(bO b).2 then(0,false)else bif decide ((bO a).1.2<(bO b).1.1)then(-1,true)else bif decide ((bO a).1.1>(bO b).1.2)then(1,true)else(0,false)
abbrev Pt:=Rat×Rat×Rat×Rat×Rat
abbrev Ln:=Rat×Rat×Rat
def pxR(p:Pt):Rt:=(p.1,p.2.1,p.2.2.2.2)
def pyR(p:Pt):Rt:=(p.2.2.1,p.2.2.2.1,p.2.2.2.2)
def rE(l:Ln)(p:Pt):Int×Bool:=
 bif !(gu l.1 (bO (pxR p)).1 (bO (pxR p)).2).2||!(gu l.2.1 (bO (pyR p)).1 (bO (pyR p)).2).2||!(frF l.2.2).2 then(0,false)
 else bif !(dk (gu l.1 (bO (pxR p)).1 (bO (pxR p)).2).1 (gu l.2.1 (bO (pyR p)).1 (bO (pyR p)).2).1).2 then(0,false)
 else bif !(dk (dk (gu l.1 (bO (pxR p)).1 (bO (pxR p)).2).1 (gu l.2.1 (bO (pyR p)).1 (bO (pyR p)).2).1).1 (jT (frF l.2.2).1)).2 then(0,false)
 else sgF (dk (dk (gu l.1 (bO (pxR p)).1 (bO (pxR p)).2).1 (gu l.2.1 (bO (pyR p)).1 (bO (pyR p)).2).1).1 (jT (frF l.2.2).1)).1
def eh(r:Rt)(q:Rat):Iv×Bool:=bif !(bO r).2||!(frF q).2 then(iv0,false)else dk (bO r).1 (jT (frF q).1)
def qq(c:Ln)(p:Pt):Int×Bool:=
 bif !(eh (pxR p) c.1).2||!(eh (pyR p) c.2.1).2||!(frF c.2.2).2 then(0,false)
 else bif !(cG (eh (pxR p) c.1).1 (eh (pxR p) c.1).1).2||!(cG (eh (pyR p) c.2.1).1 (eh (pyR p) c.2.1).1).2 then(0,false)
 else bif !(dk (cG (eh (pxR p) c.1).1 (eh (pxR p) c.1).1).1 (cG (eh (pyR p) c.2.1).1 (eh (pyR p) c.2.1).1).1).2 then(0,false)
 else bif !(dk (dk (cG (eh (pxR p) c.1).1 (eh (pxR p) c.1).1).1 (cG (eh (pyR p) c.2.1).1 (eh (pyR p) c.2.1).1).1).1 (jT (frF c.2.2).1)).2 then(0,false)
 else sgF (dk (dk (cG (eh (pxR p) c.1).1 (eh (pxR p) c.1).1).1 (cG (eh (pyR p) c.2.1).1 (eh (pyR p) c.2.1).1).1).1 (jT (frF c.2.2).1)).1
def sfF(m:Rat):Iv:=(sqF (frF m).1).1
def mfF(b:Rat)(i:Iv):Iv:=(cG (frF b).1 i).1
def qu1(q:Qd):Bool:=(frF q.2.2.2.2.1).2&&(sqF (frF q.2.2.2.2.1).1).2&&(frF q.2.2.2.2.2).2&&(sqF (frF q.2.2.2.2.2).1).2
def qu2(q:Qd):Bool:=(frF q.2.1).2&&(cG (frF q.2.1).1 (sfF q.2.2.2.2.1)).2&&(frF q.2.2.1).2&&(cG (frF q.2.2.1).1 (sfF q.2.2.2.2.2)).2&&(frF q.2.2.2.1).2&&(cG (sfF q.2.2.2.2.1) (sfF q.2.2.2.2.2)).2&&(cG (frF q.2.2.2.1).1 (cG (sfF q.2.2.2.2.1) (sfF q.2.2.2.2.2)).1).2
def quA(q:Qd):Iv×Bool:=dk (frF q.1).1 (mfF q.2.1 (sfF q.2.2.2.2.1))
def quB(q:Qd):Iv×Bool:=dk (mfF q.2.2.1 (sfF q.2.2.2.2.2)) (mfF q.2.2.2.1 (cG (sfF q.2.2.2.2.1) (sfF q.2.2.2.2.2)).1)
def qu3(q:Qd):Bool:=(frF q.1).2&&(quA q).2&&(quB q).2&&(dk (quA q).1 (quB q).1).2
def quF(q:Qd):Int×Bool:=bif !(qu1 q)then(0,false)else bif !(qu2 q)then(0,false)else bif !(qu3 q)then(0,false)else sgF (dk (quA q).1 (quB q).1).1
theorem u5(r:Rt):prI (bO r).1:=by
 unfold bO
 cases !(frF r.1).2||decide (r.2.1=0)
 ·cases !(frF r.2.1).2||!(frF r.2.2).2||decide (r.2.2<0)
  ·cases !(sqF (frF r.2.2).1).2
   ·cases !(cG (frF r.2.1).1 (sqF (frF r.2.2).1).1).2
    ·exact RE.addF_pr (RE.frF_pr _) (ql _ _)
    ·exact eV
   ·exact eV
  ·exact eV
 ·exact RE.frF_pr _
theorem aab(n:Rat)(a:Iv)(k:Bool):prI (gu n a k).1:=by
 unfold gu
 cases !k||!(frF n).2
 ·exact ql _ _
 ·exact eV
theorem abz(r:Rt)(q:Rat):prI (eh r q).1:=by
 unfold eh
 cases !(bO r).2||!(frF q).2
 ·exact RE.addF_pr (u5 _) (RE.negF_pr (RE.frF_pr _))
 ·exact eV
namespace RE
theorem mv{r:Rt}(h:(bO r).2=true):inI (bO r).1 (v2 r.1 r.2.1 r.2.2):=by
 unfold bO at h ⊢
 cases e1:(frF r.1).2
 ·rw[e1]at h
  simp only[Bool.not_false,Bool.true_or,cond_true]at h
  rw[e1]at h
  cases h
 ·rw[e1]at h
  by_cases hb:r.2.1=0
  ·rw[at7 hb]at h ⊢
   simp only[Bool.not_true,Bool.false_or,cond_true]
   unfold v2
   rw[hb,B4,zero_mul,add_zero]
   exact ga e1
  ·rw[at9 hb]at h ⊢
   cases e2:(frF r.2.1).2<;>cases e3:(frF r.2.2).2<;>cases e4:decide (r.2.2<0)<;>rw[e2,e3,e4]at h<;>try (cases h;done)
   cases e5:(sqF (frF r.2.2).1).2<;>rw[e5]at h<;>try (cases h;done)
   cases e6:(cG (frF r.2.1).1 (sqF (frF r.2.2).1).1).2<;>rw[e6]at h<;>try (cases h;done)
   have hn:(0:RE)≤of r.2.2:=jx.2 (by have:=avb e4;grind)
   exact iy (ga e1) (jJ (ga e2) (uw (ga e3) hn e5) e6) h
theorem IY{n:Rat}{a:Iv}{k:Bool}{x:RE}(ha:k=true→inI a x)(h:(gu n a k).2=true):inI (gu n a k).1 (of n*x):=by
 unfold gu at h ⊢
 cases k
 ·cases h
 ·cases e:(frF n).2<;>rw[e]at h
  ·cases h
  ·exact jJ (ga e) (ha rfl) h
theorem I7{r:Rt}{q:Rat}(h:(eh r q).2=true):inI (eh r q).1 (v2 r.1 r.2.1 r.2.2+ -of q):=by
 unfold eh at h ⊢
 cases e1:(bO r).2<;>cases e2:(frF q).2<;>rw[e1,e2]at h<;>try (cases h;done)
 exact iy (mv e1) (z5 (ga e2)) h
theorem LW(x y:RE):((y-(x)))+((x-y-(0)))=0:=by
 induction x using at5
 induction y using at5
 exact snd fun n=>by
  simp only[RL.add,RL.neg,RL.const]
  grind
theorem Zi(x y:RE)(h1:x<y):x-y<0:=ec.1 fun hg=>far (aQ (aV h1) (aO hg)) (LW x y)
theorem anc(u x y a b:RE):((b-(a)))+((a-(u*x)))+((u*y-(b)))+((u-(0))*(x-(y)))=0:=by
 induction u using at5
 induction x using at5
 induction y using at5
 induction a using at5
 induction b using at5
 exact snd fun n=>by
  simp only[RL.add,RL.mul,RL.neg,RL.const]
  grind
theorem ap1(u x y a b:RE)(h1:0<u)(h2:u*x≤a)(h3:a<b)(h4:b≤u*y):x<y:=ec.1 fun hg=>far (aQ (aQ (aQ (aV h3) (aO h2)) (aO h4)) (cE (le_of_lt (aV h1)) (aO hg))) (anc u x y a b)
theorem apF_ok{a b:Rt}(h:(apF a b).2=true):(apF a b).1=sg (vR a-vR b):=by
 unfold apF at h ⊢
 cases e1:(bO a).2<;>cases e2:(bO b).2<;>rw[e1,e2]at h<;>try (cases h;done)
 obtain⟨a1,a2⟩:=mv e1
 obtain⟨b1,b2⟩:=mv e2
 cases e3:decide ((bO a).1.2<(bO b).1.1)<;>rw[e3]at h
 ·cases e4:decide ((bO a).1.1>(bO b).1.2)<;>rw[e4]at h
  ·cases h
  ·have h4:of ((bO b).1.2:Rat)<of ((bO a).1.1:Rat):=i7 (awp.2 (at6 e4))
   exact(dJ (aV (ap1 _ _ _ _ _ lR b2 h4 a1))).symm
 ·have h4:of ((bO a).1.2:Rat)<of ((bO b).1.1:Rat):=i7 (awp.2 (at6 e3))
  exact(ij (Zi _ _ (ap1 _ _ _ _ _ lR a2 h4 b1))).symm
theorem Yc{l:Ln}{p:Pt}(h:(rE l p).2=true):(rE l p).1=sg (of l.1*v2 p.1 p.2.1 p.2.2.2.2+of l.2.1*v2 p.2.2.1 p.2.2.2.1 p.2.2.2.2+ -of l.2.2):=by
 unfold rE at h ⊢
 cases e1:(gu l.1 (bO (pxR p)).1 (bO (pxR p)).2).2<;>cases e2:(gu l.2.1 (bO (pyR p)).1 (bO (pyR p)).2).2<;>cases e3:(frF l.2.2).2<;>rw[e1,e2,e3]at h<;>try (cases h;done)
 have i1:=IY (x:=v2 p.1 p.2.1 p.2.2.2.2) (fun e=>mv (r:=pxR p) e) e1
 have i2:=IY (x:=v2 p.2.2.1 p.2.2.2.1 p.2.2.2.2) (fun e=>mv (r:=pyR p) e) e2
 revert h i1 i2
 generalize gu l.1 (bO (pxR p)).1 (bO (pxR p)).2=X
 generalize gu l.2.1 (bO (pyR p)).1 (bO (pyR p)).2=Y
 intro h i1 i2
 cases e4:(dk X.1 Y.1).2<;>rw[e4]at h<;>try (cases h;done)
 cases e5:(dk (dk X.1 Y.1).1 (jT (frF l.2.2).1)).2<;>rw[e5]at h<;>try (cases h;done)
 exact Gn (iy (iy i1 i2 e4) (z5 (ga e3)) e5) h
theorem abE{c:Ln}{p:Pt}(h:(qq c p).2=true):(qq c p).1=sg ((v2 p.1 p.2.1 p.2.2.2.2+ -of c.1)*(v2 p.1 p.2.1 p.2.2.2.2+ -of c.1)+(v2 p.2.2.1 p.2.2.2.1 p.2.2.2.2+ -of c.2.1)*(v2 p.2.2.1 p.2.2.2.1 p.2.2.2.2+ -of c.2.1)+ -of c.2.2):=by
 unfold qq at h ⊢
 cases e1:(eh (pxR p) c.1).2<;>cases e2:(eh (pyR p) c.2.1).2<;>cases e3:(frF c.2.2).2<;>rw[e1,e2,e3]at h<;>try (cases h;done)
 have i1:=I7 e1
 have i2:=I7 e2
 revert h
 generalize eh (pxR p) c.1=X at*
 generalize eh (pyR p) c.2.1=Y at*
 intro h
 cases e4:(cG X.1 X.1).2<;>cases e5:(cG Y.1 Y.1).2<;>rw[e4,e5]at h<;>try (cases h;done)
 cases e6:(dk (cG X.1 X.1).1 (cG Y.1 Y.1).1).2<;>rw[e6]at h<;>try (cases h;done)
 cases e7:(dk (dk (cG X.1 X.1).1 (cG Y.1 Y.1).1).1 (jT (frF c.2.2).1)).2<;>rw[e7]at h<;>try (cases h;done)
 exact Gn (iy (iy (jJ i1 i1 e4) (jJ i2 i2 e5) e6) (z5 (ga e3)) e7) h
theorem apW(a b c d:RE):a+b+(c+d)=a+b+c+d:=by
 induction a using at5
 induction b using at5
 induction c using at5
 induction d using at5
 exact snd fun n=>by
  simp only[RL.add]
  grind
theorem quF_ok{q:Qd}(hM:0≤q.2.2.2.2.1)(hN:0≤q.2.2.2.2.2)(h:(quF q).2=true):(quF q).1=sg (vQ q.1 q.2.1 q.2.2.1 q.2.2.2.1 q.2.2.2.2.1 q.2.2.2.2.2):=by
 unfold quF at h ⊢
 cases e1:qu1 q<;>rw[e1]at h<;>try (cases h;done)
 cases e2:qu2 q<;>rw[e2]at h<;>try (cases h;done)
 cases e3:qu3 q<;>rw[e3]at h<;>try (cases h;done)
 unfold qu1 at e1
 unfold qu2 at e2
 unfold qu3 at e3
 simp only[aug]at e1 e2 e3
 obtain⟨⟨⟨a1,a2⟩,a3⟩,a4⟩:=e1
 obtain⟨⟨⟨⟨⟨⟨b1,b2⟩,b3⟩,b4⟩,b5⟩,b6⟩,b7⟩:=e2
 obtain⟨⟨⟨c1,c2⟩,c3⟩,c4⟩:=e3
 have i1:inI (sfF q.2.2.2.2.1) (rq q.2.2.2.2.1):=uw (ga a1) (jx.2 hM) a2
 have i2:inI (sfF q.2.2.2.2.2) (rq q.2.2.2.2.2):=uw (ga a3) (jx.2 hN) a4
 have hq:inI (dk (quA q).1 (quB q).1).1 (vQ q.1 q.2.1 q.2.2.1 q.2.2.2.1 q.2.2.2.2.1 q.2.2.2.2.2):=by
  have:=iy (iy (ga c1) (jJ (ga b1) i1 b2) c2) (iy (jJ (ga b3) i2 b4) (jJ (ga b5) (jJ i1 i2 b6) b7) c3) c4
  rw[apW]at this
  exact this
 exact Gn hq h
end RE
theorem XB{z:Int}(h:aY z):okI (ak z):=bu (by have:=iz h;omega)
theorem JX{n:Int}(h:Cb n):0≤dE n∧dE n≤2305843009213693952:=by
 obtain⟨h0,h1⟩:=h
 unfold dE
 obtain⟨g0,g1,g2⟩:=fd (z:=n*65536) (by omega)
 refine⟨g0,?_⟩
 rcases auC 2305843009213693952 (bQ (n*65536))with h|h
 ·have:2305843009213693952*2305843009213693952≤bQ (n*65536)*bQ (n*65536):=awa (by omega) (by omega) (by omega) (by omega)
  omega
 ·exact h
theorem RC{a b:Iv}(ha:prI a)(hb:prI b){x y:Int}(hx:x=a.1∨x=a.2)(hy:y=b.1∨y=b.2):scP x y:=by
 obtain⟨a1,a2,a3⟩:=ha
 obtain⟨b1,b2,b3⟩:=hb
 constructor
 ·rcases hx with rfl|rfl<;>omega
 ·rcases hy with rfl|rfl<;>omega
theorem asl{α:Type}(b:Bool)(x y:α):(match b with|true=>x|false=>y)=bif b then x else y:=by cases b<;>rfl
def QO:aN:=spN false true [axf] (fun x=>decide (aY x.1)) (fun x=>[RV.d tI (hid (ak x.1))])
theorem Xj:SpK 160 QO:=spX fun x h=>by simp only[aj];exact J0 x.1 (at6 h)
def Bh:aN:=spN false true [tR] (fun x=>decide (ok Rat 200000 x.1)) (fun x=>[RV.d tG (hid ((frF (ae x.1)).1)),RV.d .bool ((frF (ae x.1)).2)])
theorem wZ:SpK 281 Bh:=spX fun x h=>by simp only[aj];exact aaf x.1 (at6 h)
def zH:aN:=spN false true [tG,tG] (fun x=>decide (prI x.1∧prI x.2.1)) (fun x=>[RV.d tG (hid ((dk x.1 x.2.1).1)),RV.d .bool ((dk x.1 x.2.1).2)])
theorem vo:SpK 283 zH:=spX fun x h=>by simp only[aj];exact Yd x.1 x.2.1 (at6 h)
def AX:aN:=spN false true [tG] (fun x=>decide (prI x.1)) (fun x=>[RV.d tG (hid (jT x.1))])
theorem vc:SpK 290 AX:=spX fun x h=>by simp only[aj];exact acF x.1 (at6 h)
def Hm:aN:=spN false true [axf,axf] (fun x=>decide (scP x.1 x.2.1)) (fun x=>[RV.d axf ((scF x.1 x.2.1).1.1),RV.d axf ((scF x.1 x.2.1).1.2),RV.d .bool ((scF x.1 x.2.1).2)])
theorem EZ:SpK 297 Hm:=spX fun x h=>ack x.1 x.2.1 (at6 h)
def J8:Env:=[(76,io),(148,ip),(202,lX),(296,B7),(295,G8),(254,FV),(83,gr),(184,Hn),(288,Ge),(183,HB),(160,QO),(294,Bz),(281,Bh),(283,zH),(290,AX),(303,zG),(302,zM),(297,Hm)]
theorem uT:EnvAll Tryz.prog J8:=⟨fc,eW,jd,v5,DJ,Ei,eM,CL,Cm,DB,Xj,wA,wZ,vo,vc,v8,wV,EZ,trivial⟩
def ajc:NT:=[((282,8),{keep:=[3,4,6,7,19,20,21],hl:=4}),((282,22),{keep:=[3,4,6,7,9,19,20,21,29,30,31],hl:=5})]
def mZ:Ctx:=CX J8 ajc
def o8(a b:(Int×Int))(s21 s6 s7:Int):Cfg:=⟨282,[.blk 0,.seq 46],[(3,.box 1 0),(4,.box 2 0),(6,SI s6),(7,SI s7),(19,.own 3),(20,SI (([a.1,a.2]).length:Int)),(21,SI s21)],[.box 232 [SI a.1,SI a.2],.box 232 [SI b.1,SI b.2],.box 232 [SI 0,SI 0],.row 2 axf ([a.1,a.2])],0,[]⟩
def nT(a b:(Int×Int))(s21 x1 s6 s7 s31:Int):Cfg:=⟨282,[.blk 2,.blk 1,.seq 45,.lp 8,.blk 0,.seq 46],[(3,.box 1 0),(4,.box 2 0),(6,SI s6),(7,SI s7),(9,SI x1),(19,.own 3),(20,SI (([a.1,a.2]).length:Int)),(21,SI s21),(29,.own 4),(30,SI (([b.1,b.2]).length:Int)),(31,SI s31)],[.box 232 [SI a.1,SI a.2],.box 232 [SI b.1,SI b.2],.box 232 [SI 0,SI 0],.row 2 axf ([a.1,a.2]),.row 2 axf ([b.1,b.2])],0,[]⟩
def amQ(a b:(Int×Int))(k:KT):Option (List RV):=k 8 (o8 a b 0 2305843009213693952 (-2305843009213693952))
theorem amH(a b:(Int×Int)):RS mZ 282 [.d tG a,.d tG b] (amQ a b):=rsX
def vn(a b:(Int×Int))(s21 s6 s7:Int)(k:KT):Option (List RV):=match decide (s21<(([a.1,a.2]).length:Int))with|true=>(match bH ([a.1,a.2]) s21 with|some _=>(match true,([a.1,a.2])[(s21).toNat]? with|true,some x1=>k 22 (nT a b s21 x1 s6 s7 0)|_,_=>none)|none=>none)|false=>some [RV.d tG (s6,s7),RV.d .bool true]
theorem El(a b:(Int×Int))(s21 s6 s7:Int):RN mZ 8 (o8 a b s21 s6 s7) (vn a b s21 s6 s7):=rnX
def nP(a b:(Int×Int))(s21 x1 s6 s7 s31:Int)(k:KT):Option (List RV):=match decide (s31<(([b.1,b.2]).length:Int))with|true=>(match bH ([b.1,b.2]) s31 with|some _=>(match true,([b.1,b.2])[(s31).toNat]? with|true,some x2=>(match decide (scP x1 x2)with|true=>(match !((scF x1 x2).2)with|true=>some [RV.d tG (0,0),RV.d .bool false]|false=>k 22 (nT a b s21 x1 (if(scF x1 x2).1.1<s6 then(scF x1 x2).1.1 else s6) (if(scF x1 x2).1.2>s7 then(scF x1 x2).1.2 else s7) (i64.wrap (s31+1))))|false=>none)|_,_=>none)|none=>none)|false=>k 8 (o8 a b (i64.wrap (s21+1)) s6 s7)
theorem rT(a b:(Int×Int))(s21 x1 s6 s7 s31:Int):RN mZ 22 (nT a b s21 x1 s6 s7 s31) (nP a b s21 x1 s6 s7 s31):=rnX
theorem Wi(a b:Iv)(ha:prI a)(hb:prI b)(s21 x:Int)(hx:x=a.1∨x=a.2)(s:Iv)(r:List RV)(h:∀s2:Iv×Bool,s2=gc (gc (s,true) x b.1) x b.2→bif s2.2 then mZ.Runs 8 (o8 a b (i64.wrap (s21+1)) s2.1.1 s2.1.2) r else r=[RV.d tG (0,0),RV.d .bool false]):
  mZ.Runs 22 (nT a b s21 x s.1 s.2 0) r:=by
 have h:=h _ rfl
 refine rT _ _ _ _ _ _ _ ?_
 unfold nP
 have g1:decide ((0:Int)<(([b.1,b.2]).length:Int))=true:=by simp
 have g2:decide ((1:Int)<(([b.1,b.2]).length:Int))=true:=by simp
 have g3:decide ((2:Int)<(([b.1,b.2]).length:Int))=false:=by simp
 rw[g1]
 simp only[show bH [b.1,b.2] 0=some b.1 from rfl,show [b.1,b.2][(0:Int).toNat]?=some b.1 from rfl,dT (RC ha hb hx (.inl rfl))]
 cases e1:(scF x b.1).2
 ·rw[show gc (gc (s,true) x b.1) x b.2=(iv0,false) by unfold gc;rw[e1];rfl]at h
  exact⟨0,by rw[h];rfl⟩
 ·try dsimp only[Bool.not_true]
  have e0:gc (s,true) x b.1=((if(scF x b.1).1.1<s.1 then(scF x b.1).1.1 else s.1,if(scF x b.1).1.2>s.2 then(scF x b.1).1.2 else s.2),true):=by unfold gc;rw[e1];rfl
  rw[e0]at h
  suffices hh:mZ.Runs 22 (nT a b s21 x (if(scF x b.1).1.1<s.1 then(scF x b.1).1.1 else s.1) (if(scF x b.1).1.2>s.2 then(scF x b.1).1.2 else s.2) (i64.wrap (0+1))) r by
   obtain⟨n,hn⟩:=hh
   exact⟨n,hn⟩
  rw[show i64.wrap (0+1)=1 by decide]
  refine rT _ _ _ _ _ _ _ ?_
  unfold nP
  rw[g2]
  simp only[show bH [b.1,b.2] 1=some b.2 from rfl,show [b.1,b.2][(1:Int).toNat]?=some b.2 from rfl,dT (RC ha hb hx (.inr rfl))]
  cases e2:(scF x b.2).2
  ·unfold gc at h
   rw[e2]at h
   exact⟨0,by rw[show r=[RV.d tG (0,0),RV.d .bool false] from h];rfl⟩
  ·try dsimp only[Bool.not_true]
   unfold gc at h
   rw[e2]at h
   simp only[aub,cond_true]at h
   suffices hh:mZ.Runs 22 (nT a b s21 x _ _ (i64.wrap (1+1))) r by
    obtain⟨n,hn⟩:=hh
    exact⟨n,hn⟩
   rw[show i64.wrap (1+1)=2 by decide]
   refine rT _ _ _ _ _ _ _ ?_
   unfold nP
   rw[g3]
   obtain⟨n,hn⟩:=h
   exact⟨n,hn⟩
theorem Kk(a b:Iv)(ha:prI a)(hb:prI b)(x i:Int)(hi:(i=0∧x=a.1)∨(i=1∧x=a.2))(s:Iv)(r:List RV)(h:∀s2:Iv×Bool,s2=gc (gc (s,true) x b.1) x b.2→bif s2.2 then mZ.Runs 8 (o8 a b (i+1) s2.1.1 s2.1.2) r else r=[RV.d tG (0,0),RV.d .bool false]):
  mZ.Runs 8 (o8 a b i s.1 s.2) r:=by
 refine El _ _ _ _ _ ?_
 unfold vn
 rcases hi with⟨rfl,rfl⟩|⟨rfl,rfl⟩
 ·obtain⟨n,hn⟩:=Wi a b ha hb 0 a.1 (.inl rfl) s r (by rw[show i64.wrap (0+1)=0+1 by decide];exact h)
  exact⟨n,hn⟩
 ·obtain⟨n,hn⟩:=Wi a b ha hb 1 a.2 (.inr rfl) s r (by rw[show i64.wrap (1+1)=1+1 by decide];exact h)
  exact⟨n,hn⟩
theorem Wf{s:Iv×Bool}{x y:Int}(h:s.2=false):gc s x y=(iv0,false):=by unfold gc;rw[h];rfl
theorem ar1{s:Iv×Bool}(h:s.2=true):s=(s.1,true):=by rw[←h]
theorem abY(a b:(Int×Int))(h:prI a∧prI b):Con Tryz.prog 282 [.d tG a,.d tG b] [.d tG ((cG a b).1),.d .bool ((cG a b).2)]:=by
 obtain⟨ha,hb⟩:=h
 refine aP uT (show mZ.Res _ _ _ from ?_)
 refine amH _ _ ?_
 suffices hh:mZ.Runs 8 (o8 a b 0 2305843009213693952 (-2305843009213693952)) [.d tG (cG a b).1,.d .bool (cG a b).2] by
  obtain⟨n,hn⟩:=hh
  exact⟨n,hn⟩
 refine Kk a b ha hb a.1 0 (.inl ⟨rfl,rfl⟩) (2305843009213693952,-2305843009213693952) _ fun s1 e1=>?_
 have hm:cG a b=gc (gc s1 a.2 b.1) a.2 b.2:=by rw[e1];rfl
 cases c1:s1.2
 ·rw[hm,Wf (Wf c1▸rfl)]
  rfl
 ·rw[cond_true]
  refine Kk a b ha hb a.2 1 (.inr ⟨rfl,rfl⟩) s1.1 _ fun s2 e2=>?_
  rw[←ar1 c1,←hm]at e2
  cases c2:s2.2
  ·rw[←e2]
   rw[show s2=(iv0,false) by
    rw[e2,hm]
    rw[e2,hm]at c2
    unfold gc at c2 ⊢
    revert c2
    cases(_:Bool)&&(scF a.2 b.2).2
    ·intro _;rfl
    ·intro h;cases h]
   rfl
  ·rw[cond_true,←e2]
   refine El _ _ _ _ _ ⟨0,?_⟩
   unfold vn
   rw[show decide ((1+1:Int)<(([a.1,a.2]).length:Int))=false from by simp,c2]
def AA:aN:=spN false true [tG,tG] (fun x=>decide (prI x.1∧prI x.2.1)) (fun x=>[RV.d tG (hid ((cG x.1 x.2.1).1)),RV.d .bool ((cG x.1 x.2.1).2)])
theorem wT:SpK 282 AA:=spX fun x h=>by simp only[aj];exact abY x.1 x.2.1 (at6 h)
def amN:Ctx:=CX J8 []
def agk(n:Int)(_k:KT):Option (List RV):=match decide (aY n)with|true=>(match decide (aY (65536:Int))with|true=>(match decide (okI (hid (ak n))∧okI (hid (ak (65536:Int))))with|true=>(match decide (okI (hid (ak (ah (hid (ak n))*ah (hid (ak (65536:Int)))))))with|true=>(match decide (okI (hid (eP (hid (ak (ah (hid (ak n))*ah (hid (ak (65536:Int)))))))))with|true=>(match decide (okI (hid (eP (hid (ak (ah (hid (ak n))*ah (hid (ak (65536:Int))))))))∧okI (hid (eP (hid (ak (ah (hid (ak n))*ah (hid (ak (65536:Int)))))))))with|true=>(match decide (okI (hid (ak (ah (hid (eP (hid (ak (ah (hid (ak n))*ah (hid (ak (65536:Int))))))))*ah (hid (eP (hid (ak (ah (hid (ak n))*ah (hid (ak (65536:Int)))))))))))∧okI (hid (ak (ah (hid (ak n))*ah (hid (ak (65536:Int)))))))with|true=>some [RV.d axf (bif decide (aY (ah (hid (eP (hid (ak (ah (hid (ak n))*ah (hid (ak (65536:Int))))))))))then ah (hid (eP (hid (ak (ah (hid (ak n))*ah (hid (ak (65536:Int))))))))else 0),RV.d .bool ((ck (ah (hid (ak (ah (hid (eP (hid (ak (ah (hid (ak n))*ah (hid (ak (65536:Int))))))))*ah (hid (eP (hid (ak (ah (hid (ak n))*ah (hid (ak (65536:Int)))))))))))) (ah (hid (ak (ah (hid (ak n))*ah (hid (ak (65536:Int))))))))==0)]|false=>none)|false=>none)|false=>none)|false=>none)|false=>none)|false=>none)|false=>none
theorem al2(n:Int):RS amN 293 [SI n] (agk n):=rsX
theorem abr(n:Int)(h:Cb n):Con Tryz.prog 293 [.d axf n] [.d axf (dE n),.d .bool (decide (dE n*dE n=n*65536))]:=by
 refine aP uT (al2 _ ⟨0,?_⟩)
 have hr:=JX h
 obtain⟨h0,h1⟩:=h
 have i1:aY n:=⟨by omega,by omega⟩
 have i2:aY 65536:=by decide
 have o1:okI (ak (n*65536)):=bu (by have:=cK (iz i1) (iz i2);omega)
 have o2:okI (ak (dE n)):=XB ⟨by omega,by omega⟩
 have o3:okI (ak (dE n*dE n)):=bu (by have:=cK (iz (n:=dE n) ⟨by omega,by omega⟩) (iz (n:=dE n) ⟨by omega,by omega⟩);omega)
 have o4:okI (ak n)∧okI (ak 65536):=⟨XB i1,XB i2⟩
 have o5:okI (ak (dE n))∧okI (ak (dE n)):=⟨o2,o2⟩
 have o6:okI (ak (dE n*dE n))∧okI (ak (n*65536)):=⟨o3,o1⟩
 have o7:aY (dE n):=⟨by omega,by omega⟩
 unfold agk
 simp only[aj,dec_enc,dT i1,dT i2,dT o4,dT o1,Ba o1]
 have e:bQ (n*65536)=dE n:=rfl
 simp only[e,dT o2,dT o5,dT o6,dT o7,cond_true,kx]
def VH:aN:=spN false true [axf] (fun x=>decide (Cb x.1)) (fun x=>[RV.d axf (dE x.1),RV.d .bool (decide (dE x.1*dE x.1=x.1*65536))])
theorem M5:SpK 293 VH:=spX fun x h=>abr x.1 (at6 h)
def Tz:Env:=(282,AA)::(293,VH)::J8
theorem Cz:EnvAll Tryz.prog Tz:=⟨wT,M5,uT⟩
def anM:Ctx:=CX Tz []
def ae6(a:(Int×Int))(_k:KT):Option (List RV):=match decide (a.2<0)with|true=>some [RV.d tG (0,0),RV.d .bool false]|false=>(match decide (Cb (if 0>a.1 then 0 else a.1))with|true=>(match decide (Cb a.2)with|true=>(match !(decide (dE a.2*dE a.2=a.2*65536))with|true=>some [RV.d tG (hid ((kv (dE (if 0>a.1 then 0 else a.1)) (i64.wrap ((dE a.2)+1))).1)),RV.d .bool ((kv (dE (if 0>a.1 then 0 else a.1)) (i64.wrap ((dE a.2)+1))).2)]|false=>some [RV.d tG (hid ((kv (dE (if 0>a.1 then 0 else a.1)) (dE a.2)).1)),RV.d .bool ((kv (dE (if 0>a.1 then 0 else a.1)) (dE a.2)).2)])|false=>none)|false=>none)
theorem arP(a:(Int×Int)):RS anM 280 [.d tG a] (ae6 a):=rsX
theorem ZL(a:(Int×Int))(h:prI a):Con Tryz.prog 280 [.d tG a] [.d tG ((sqF a).1),.d .bool ((sqF a).2)]:=by
 refine aP Cz (arP _ ⟨0,?_⟩)
 obtain⟨a1,a2,a3⟩:=h
 unfold ae6 sqF
 cases hn:decide (a.2<0)
 ·have hn:=avb hn
  have r2:Cb a.2:=⟨by omega,by omega⟩
  have r1:Cb (if 0>a.1 then 0 else a.1):=⟨by split<;>omega,by split<;>omega⟩
  have b2:=JX r2
  simp only[dT r1,dT r2,aj,bj (x:=dE a.2+1) (by omega) (by omega)]
  cases decide (dE a.2*dE a.2=a.2*65536)<;>rfl
 ·rfl
def Fu:aN:=spN false true [tG] (fun x=>decide (prI x.1)) (fun x=>[RV.d tG (hid ((sqF x.1).1)),RV.d .bool ((sqF x.1).2)])
theorem C9:SpK 280 Fu:=spX fun x h=>by simp only[aj];exact ZL x.1 (at6 h)
def JY:Env:=(280,Fu)::Tz
theorem wF:EnvAll Tryz.prog JY:=⟨C9,Cz⟩
def aqC:Ctx:=CX JY []
def afu(r:BO3)(_k:KT):Option (List RV):=match decide (ok Rat 200000 r.1)with|true=>(match !((frF (ae r.1)).2)with|true=>some [RV.d tG (hid ((frF (ae r.1)).1)),RV.d .bool ((frF (ae r.1)).2)]|false=>(match decide (okR r.2.1)with|true=>(match(aU (ae r.2.1) 0)==0 with|true=>some [RV.d tG (hid ((frF (ae r.1)).1)),RV.d .bool ((frF (ae r.1)).2)]|false=>(match decide (ok Rat 200000 r.2.1)with|true=>(match decide (ok Rat 200000 r.2.2)with|true=>(match !((frF (ae r.2.1)).2)with|true=>some [RV.d tG (0,0),RV.d .bool false]|false=>(match !((frF (ae r.2.2)).2)with|true=>some [RV.d tG (0,0),RV.d .bool false]|false=>(match decide (okR r.2.2)with|true=>(match decide ((aU (ae r.2.2) 0)<0)with|true=>some [RV.d tG (0,0),RV.d .bool false]|false=>(match decide (prI (hid ((frF (ae r.2.2)).1)))with|true=>(match !((sqF (hid ((frF (ae r.2.2)).1))).2)with|true=>some [RV.d tG (0,0),RV.d .bool false]|false=>(match decide (prI (hid ((frF (ae r.2.1)).1))∧prI (hid ((sqF (hid ((frF (ae r.2.2)).1))).1)))with|true=>(match !((cG (hid ((frF (ae r.2.1)).1)) (hid ((sqF (hid ((frF (ae r.2.2)).1))).1))).2)with|true=>some [RV.d tG (0,0),RV.d .bool false]|false=>(match decide (prI (hid ((frF (ae r.1)).1))∧prI (hid ((cG (hid ((frF (ae r.2.1)).1)) (hid ((sqF (hid ((frF (ae r.2.2)).1))).1))).1)))with|true=>some [RV.d tG (hid ((dk (hid ((frF (ae r.1)).1)) (hid ((cG (hid ((frF (ae r.2.1)).1)) (hid ((sqF (hid ((frF (ae r.2.2)).1))).1))).1))).1)),RV.d .bool ((dk (hid ((frF (ae r.1)).1)) (hid ((cG (hid ((frF (ae r.2.1)).1)) (hid ((sqF (hid ((frF (ae r.2.2)).1))).1))).1))).2)]|false=>none))|false=>none))|false=>none))|false=>none)))|false=>none)|false=>none))|false=>none))|false=>none
theorem arB(r:BO3):RS aqC 259 [.d tO r] (afu r):=rsX
theorem aaC(r:BO3)(h:ok Rt 100000 r):Con Tryz.prog 259 [.d tO r] [.d tG ((bO (dec r)).1),.d .bool ((bO (dec r)).2)]:=by
 refine aP wF (arB _ ⟨0,?_⟩)
 have hr:=h
 obtain⟨r,rfl,br⟩:=aS hr
 have p1:prI (frF r.1).1:=RE.frF_pr _
 have p2:prI (frF r.2.1).1:=RE.frF_pr _
 have p3:prI (frF r.2.2).1:=RE.frF_pr _
 have p4:prI (sqF (frF r.2.2).1).1:=RE.sqF_pr p3
 have p5:prI (cG (frF r.2.1).1 (sqF (frF r.2.2).1).1).1:=ql _ _
 unfold afu
 simp only[aj,am,aE,aF,aB,az,aC,aW,Nat.reduceLeDiff,aI,aJ,dT p3,dT (show prI (frF r.2.1).1∧prI (sqF (frF r.2.2).1).1 from⟨p2,p4⟩),dT (show prI (frF r.1).1∧prI (cG (frF r.2.1).1 (sqF (frF r.2.2).1).1).1 from⟨p1,p5⟩)]
 unfold bO
 clear p1 p2 p3 p4 p5
 generalize frF r.1=A
 generalize frF r.2.1=B
 generalize frF r.2.2=C
 generalize sqF C.1=S
 generalize cG B.1 S.1=M
 generalize dk A.1 M.1=U
 obtain⟨_,a⟩:=A
 obtain⟨_,b⟩:=B
 obtain⟨_,c⟩:=C
 obtain⟨_,s⟩:=S
 obtain⟨_,m⟩:=M
 cases a<;>cases decide (r.2.1=0)<;>cases b<;>cases c<;>cases decide (r.2.2<0)<;>cases s<;>cases m<;>rfl
def arl:Ctx:=CX JY []
def agx(a:(Int×Int))(_k:KT):Option (List RV):=match decide (a.1>0)with|true=>some [RV.d axf 1,RV.d .bool true]|false=>(match decide (a.2<0)with|true=>some [RV.d axf (-1),RV.d .bool true]|false=>(match a.1==0 with|true=>some [RV.d axf 0,RV.d .bool (a.2==0)]|false=>some [RV.d axf 0,RV.d .bool false]))
theorem am4(a:(Int×Int)):RS arl 284 [.d tG a] (agx a):=rsX
theorem YN(a:(Int×Int)):Con Tryz.prog 284 [.d tG a] [.d axf ((sgF a).1),.d .bool ((sgF a).2)]:=by
 refine aP wF (am4 _ ⟨0,?_⟩)
 unfold agx sgF
 cases decide (a.1>0)<;>cases decide (a.2<0)<;>try rfl
 by_cases e1:a.1=0
 ·rw[at7 e1,show(a.1==0)=true by simp[e1]]
  by_cases e2:a.2=0
  ·rw[at7 e2,show(a.2==0)=true by simp[e2]];rfl
  ·rw[at9 e2,show(a.2==0)=false by simp[e2]];rfl
 ·rw[at9 e1,show(a.1==0)=false by simp[e1]];rfl
def vg:aN:=spN false true [tO] (fun x=>decide (ok Rt 100000 x.1)) (fun x=>[RV.d tG (hid ((bO (dec x.1)).1)),RV.d .bool ((bO (dec x.1)).2)])
theorem qb:SpK 259 vg:=spX fun x h=>by simp only[aj];exact aaC x.1 (at6 h)
def AH:aN:=spN false true [tG] (fun _=>true) (fun x=>[RV.d axf ((sgF x.1).1),RV.d .bool ((sgF x.1).2)])
theorem v7:SpK 284 AH:=spX fun x _=>YN x.1
def agl:Env:=(259,vg)::(284,AH)::JY
theorem TY:EnvAll Tryz.prog agl:=⟨qb,v7,wF⟩
def an0:Ctx:=CX agl []
def ady(n:BR)(a:(Int×Int))(g:Bool)(_k:KT):Option (List RV):=match decide (ok Rat 200000 n)with|true=>(match !g with|true=>some [RV.d tG (0,0),RV.d .bool false]|false=>(match !((frF (ae n)).2)with|true=>some [RV.d tG (0,0),RV.d .bool false]|false=>(match decide (prI (hid ((frF (ae n)).1))∧prI a)with|true=>some [RV.d tG (hid ((cG (hid ((frF (ae n)).1)) a).1)),RV.d .bool ((cG (hid ((frF (ae n)).1)) a).2)]|false=>none)))|false=>none
theorem ap7(n:BR)(a:(Int×Int))(g:Bool):RS an0 291 [.d tR n,.d tG a,SB g] (ady n a g):=rsX
theorem Y0(n:BR)(a:(Int×Int))(g:Bool)(h:ok Rat 100000 n∧prI a):Con Tryz.prog 291 [.d tR n,.d tG a,.d .bool g] [.d tG ((gu (ae n) a g).1),.d .bool ((gu (ae n) a g).2)]:=by
 refine aP TY (ap7 _ _ _ ⟨0,?_⟩)
 obtain⟨hn,ha⟩:=h
 obtain⟨n,rfl,bn⟩:=aS hn
 unfold ady
 simp only[aj,aB,az,aC,Nat.reduceLeDiff,dT (show prI (frF n).1∧prI a from⟨RE.frF_pr _,ha⟩)]
 unfold gu
 generalize frF n=A
 obtain⟨_,q⟩:=A
 cases g<;>cases q<;>rfl
section
structure Ce (u:Nat) (w:World) (b off:Nat) (cs:List Value):Prop where
 le:u≤w.heap.size
 lt:b<u
 cell:∀j v,cs[j]?=some v→w.cell? ⟨b,off+j,none⟩=some v
theorem Ce.at_{u:Nat}{w:World}{b off:Nat}{cs:List Value}(h:Ce u w b off cs)(j:Nat){v:Value}(hv:cs[j]?=some v):w.cell? ⟨b,off+j,none⟩=some v:=h.cell j v hv
theorem Ce.keep{u:Nat}{w w':World}{b off:Nat}{cs:List Value}(h:Ce u w b off cs)(hz:w.heap.size≤w'.heap.size)(hk:∀k,k<u→w'.heap[k]?=w.heap[k]?):Ce u w' b off cs:=
 ⟨aur h.le hz,h.lt,fun j v hv=>(World.cell?_of_block (hk b h.lt)).trans (h.cell j v hv)⟩
theorem Ce.below{u:Nat}{w w':World}{b off:Nat}{cs:List Value}(h:Ce u w b off cs)(hb:Below w.heap.size w w'):Ce u w' b off cs:=h.keep hb.size fun k hk=>hb.block k (au8 hk h.le)
theorem Ce.upd{u:Nat}{w w':World}{b off g:Nat}{cs:List Value}(h:Ce u w b off cs)(hu:Upd w w' g)(hg:u≤g):Ce u w' b off cs:=h.keep (by rw[hu.size];exact auj _) fun k hk=>hu.block k (by omega)
structure RdU (u:Nat) (w:World) (size:Nat) (v:Value) (n:Nat) (xs:List Value):Prop where
 le:u≤w.heap.size
 rd:∃A c,v=.slice A n c∧n≤c∧c≤maxLen∧xs.length=n*size∧(0<n→∃b off,A=some ⟨b,off,none⟩∧Ce u w b off xs)
section
variable {u:Nat} {w w':World} {size n:Nat} {v:Value} {xs:List Value}
theorem RdU.keep(h:RdU u w size v n xs)(hz:w.heap.size≤w'.heap.size)(hk:∀k,k<u→w'.heap[k]?=w.heap[k]?):RdU u w' size v n xs:=by
 obtain⟨hl,A,c,h1,h2,h3,h4,h5⟩:=h
 exact⟨aur hl hz,A,c,h1,h2,h3,h4,fun hn=>by obtain⟨b,off,h6,h7⟩:=h5 hn;exact⟨b,off,h6,h7.keep hz hk⟩⟩
theorem RdU.below(h:RdU u w size v n xs)(hb:Below w.heap.size w w'):RdU u w' size v n xs:=h.keep hb.size fun k hk=>hb.block k (au8 hk h.le)
theorem RdU.upd{g:Nat}(h:RdU u w size v n xs)(hu:Upd w w' g)(hg:u≤g):RdU u w' size v n xs:=h.keep (by rw[hu.size];exact auj _) fun k hk=>hu.block k (by omega)
theorem RdU.grown{row:Option Nat}(h:RdU u w size v n xs)(hg:w.grownBy w' row)(hr:∀k,row=some k→u≤k):RdU u w' size v n xs:=h.keep hg.size fun k hk=>hg.block k (au8 hk h.le) (fun e=>by have:=hr k e.symm;omega)
theorem RdU.elem{A:Option Addr}{c k:Nat}{α:Type}{f:α→List Value}{ms:List α}(hf:∀m,(f m).length=size)(h:RdU u w size (.slice A n c) n (ms.flatMap f))(hn:ms.length=n)(hk:k<n):
  ∃b off m,A=some ⟨b,off,none⟩∧ms[k]?=some m∧Ce u w b (off+k*size) (f m):=by
 obtain⟨hle,A',c',h1,h2,h3,h4,h5⟩:=h
 injection h1 with hA _ hc
 subst hA
 obtain⟨b,off,h6,h7⟩:=h5 (by omega)
 subst hn
 refine⟨b,off,ms[k],h6,at8 hk,⟨h7.le,h7.lt,fun j v hv=>?_⟩⟩
 have hj:j<size:=by rw[←hf ms[k]];exact(aul.1 hv).1
 have:(ms.flatMap f)[k*size+j]?=some v:=by
  clear h7 h5 h4 h6 h2 hc
  induction ms generalizing k with
  |nil=>simp at hk
  |cons m ms ih=>
   rw[List.flatMap_cons]
   cases k with
   |zero=>
    simp only[Nat.zero_mul,auP]
    rw[auo (by rw[hf];exact hj)]
    simpa using hv
   |succ k=>
    rw[aup (by rw[hf,avD];omega),hf,show(k+1)*size+j-size=k*size+j by rw[avD];omega]
    exact ih (by simpa using hk) rfl (by simpa using hv)
 have h8:=h7.cell _ _ this
 rwa [←avQ]at h8
end
section
variable {P:Program} {fn:Func} {R:Ending→World→Prop} {B:Code} {K:List KI} {i:Nat} {a:Act} {w:World}
end
end
section
theorem Ce.grown{u:Nat}{w w':World}{b off:Nat}{cs:List Value}{row:Option Nat}(h:Ce u w b off cs)(hg:w.grownBy w' row)(hr:∀k,row=some k→u≤k):Ce u w' b off cs:=h.keep hg.size fun k hk=>hg.block k (au8 hk h.le) (fun e=>by have:=hr k e.symm;omega)
section
variable {P:Program} {a:Act} {w:World}
end
end
theorem vV{w w1 w2:World}{o:Option Nat}(h:w.grownBy w1 o)(hb:Below w1.heap.size w1 w2):w.grownBy w2 o:=
 ⟨hb.os.trans h.os,hb.tape.trans h.tape,hb.output.trans h.output,aur h.size hb.size,fun i hi hn=>(hb.block i (au8 hi h.size)).trans (h.block i hi hn)⟩
theorem pL{w w1 w2:World}{c b:Nat}(h:w.grownBy w1 (some c))(hu:Upd w1 w2 b)(hb:b=c∨w.heap.size≤b):w.grownBy w2 (some c):=
 ⟨hu.os.trans h.os,hu.tape.trans h.tape,hu.output.trans h.output,by rw[hu.size];exact h.size,fun i hi hn=>(hu.block i (fun e=>by
  subst e
  rcases hb with hb|hb
  ·subst hb;exact hn rfl
  ·omega)).trans (h.block i hi hn)⟩
def X9:Code:=Tryz.f279.body.getD .skip
set_option maxRecDepth 100000 in
theorem L8:apm Tryz.prog 279 242:=by
 intro w c b ok x y _ hc
 have hB:w.grownBy w (some c):=World.grownBy.refl _ _
 have hlt:=hc.lt
 refine enter (B:=X9) (args:=[.pointer (some ⟨c,0,none⟩),.agg #[.int .i64 x,.int .i64 y],.bool ok]) Tryz.func279 (by kernel_rfl) (by kernel_rfl) ?_
 rw[show Tryz.f279.ntmps=18 from by kernel_rfl]
 intro a hs
 replace hs:=hs.pick (ts:=[0,1,2]) (L':=[(0,.pointer (some ⟨c,0,none⟩)),(1,.agg #[.int .i64 x,.int .i64 y]),(2,.bool ok)]) (by kernel_rfl)
 refine uA (j:=2) (by kernel_rfl) ?_
 refine kD (id:=0) (by kernel_rfl) ?_
 refine rI hs (by kernel_rfl) (arb (t:=232) (cs:= #[.int .i64 x,.int .i64 y]) (fun rb_=>.pointer (some ⟨rb_,0,none⟩)) [0,2,4] (fun rb_=>[(0,.pointer (some ⟨c,0,none⟩)),(2,.bool ok),(4,.pointer (some ⟨rb_,0,none⟩))]) hs (fun _=>by kernel_rfl) (fun _=>by kernel_rfl) ?_)
 clear hs a;intro a w1 b1 hn hs
 have B1:=hn.blk
 have l1:w.heap.size≤b1:=by rw[hn.at_];exact hB.size
 replace hc:=hc.below hn.below hc.lt
 replace hB:=vV hB hn.below
 clear hn
 refine rI hs (by kernel_rfl) (arb (t:=232) (cs:= #[.int .i64 0,.int .i64 0]) (fun rb_=>.pointer (some ⟨rb_,0,none⟩)) [0,2,4,6] (fun rb_=>[(0,.pointer (some ⟨c,0,none⟩)),(2,.bool ok),(4,.pointer (some ⟨b1,0,none⟩)),(6,.pointer (some ⟨rb_,0,none⟩))]) hs (fun _=>by kernel_rfl) (fun _=>by kernel_rfl) ?_)
 clear hs a;intro a w2 b2 hn hs
 have B2:=hn.blk
 have l2:w.heap.size≤b2:=by rw[hn.at_];exact hB.size
 have l2':b1<b2:=by rw[hn.at_];exact B1.lt
 replace hc:=hc.below hn.below hc.lt
 replace B1:=B1.below hn.below B1.lt
 replace hB:=vV hB hn.below
 clear hn
 refine np (by kernel_rfl) ?_
 refine kL rfl ?_
 refine uA (j:=4) (by kernel_rfl) ?_
 refine kD (id:=1) (by kernel_rfl) ?_
 refine qu (m:=6) (H:=[(4,none,[.bool b])]) (ts:=[2,4,6,7,12]) (L':=[(2,.bool ok),(4,.pointer (some ⟨b1,0,none⟩)),(6,.pointer (some ⟨b2,0,none⟩)),(7,.pointer (some ⟨c,0,none⟩)),(12,.bool b)]) (O:=fun w=>(w.cell? ⟨c,0,none⟩=some (.bool b))∧True) hs (by kernel_rfl) ⟨hc.cell 0 rfl,trivial⟩ ?_
 clear hs a;intro a hs
 rcases Bool.eq_false_or_eq_true (b)with hb|hb
 ·replace hs:=hs.know (t:=12) rfl hb
  have cd1:=hb;have cd1b:=hb;clear hb
  replace hs:=hs.pick (ts:=[2,4,6,7,12]) (L':=[(2,.bool ok),(4,.pointer (some ⟨b1,0,none⟩)),(6,.pointer (some ⟨b2,0,none⟩)),(7,.pointer (some ⟨c,0,none⟩)),(12,.bool true)]) (by kernel_rfl)
  refine qu (m:=4) (H:=[]) (ts:=[4,6,14,16]) (L':=[(4,.pointer (some ⟨b1,0,none⟩)),(6,.pointer (some ⟨b2,0,none⟩)),(14,.bool ok),(16,.pointer (some ⟨c,0,none⟩))]) (O:=fun w=>True) hs (by kernel_rfl) trivial ?_
  clear hs a;intro a hs
  refine rI hs (by kernel_rfl) (BN (b:=c) (cs:= #[.bool b]) #[.bool ok] [(0,.bool ok)] [4,6] [(4,.pointer (some ⟨b1,0,none⟩)),(6,.pointer (some ⟨b2,0,none⟩))] hs hc (by kernel_rfl) ⟨aui rfl,trivial,trivial⟩ rfl (by kernel_rfl) ?_)
  clear hs a;intro a w3 hc' hu hs
  replace hc:=hc';clear hc'
  replace B1:=hu.blk B1 (by omega)
  replace B2:=hu.blk B2 (by omega)
  replace hB:=pL hB hu (by omega)
  clear hu
  refine np (by kernel_rfl) ?_
  refine kL rfl ?_
  refine uA (j:=6) (by kernel_rfl) ?_
  refine kD (id:=2) (by kernel_rfl) ?_
  refine qu (m:=1) (H:=[(0,none,[.int .i64 x,.int .i64 y])]) (ts:=[6,17]) (L':=[(6,.pointer (some ⟨b2,0,none⟩)),(17,.agg #[.int .i64 x,.int .i64 y])]) (O:=fun w=>(w.cell? ⟨b1,0,none⟩=some (.int .i64 x))∧(w.cell? ⟨b1,1,none⟩=some (.int .i64 y))∧True) hs (by kernel_rfl) ⟨B1.cell 0 rfl,B1.cell 1 rfl,trivial⟩ ?_
  clear hs a;intro a hs
  refine rI hs (by kernel_rfl) (BN (b:=b2) (cs:= #[.int .i64 0,.int .i64 0]) #[.int .i64 x,.int .i64 y] [(0,.int .i64 x),(1,.int .i64 y)] [6] [(6,.pointer (some ⟨b2,0,none⟩))] hs B2 (by kernel_rfl) ⟨aui rfl,trivial,⟨aui rfl,trivial,trivial⟩⟩ rfl (by kernel_rfl) ?_)
  clear hs a;intro a w4 B2' hu hs
  replace B2:=B2';clear B2'
  replace hc:=hu.blk hc (by omega)
  replace B1:=hu.blk B1 (by omega)
  replace hB:=pL hB hu (by omega)
  clear hu
  refine np (by kernel_rfl) ?_
  refine kL rfl ?_
  refine Gw (by kernel_rfl) ?_
  refine QX (vs:=[.agg #[.int .i64 x,.int .i64 y]]) (H:=[.int .i64 x,.int .i64 y]) (v:=.agg #[.int .i64 x,.int .i64 y]) (O:=fun w=>(w.cell? ⟨b2,0,none⟩=some (.int .i64 x))∧(w.cell? ⟨b2,1,none⟩=some (.int .i64 y))∧True) hs (by kernel_rfl) rfl ⟨B2.cell 0 rfl,B2.cell 1 rfl,trivial⟩ ?_
  exact⟨rfl,by rw[cd1];exact hc,hB⟩
 ·replace hs:=hs.know (t:=12) rfl hb
  have cd1:=hb;have cd1b:=hb;clear hb
  replace hs:=hs.pick (ts:=[2,4,6,7,12]) (L':=[(2,.bool ok),(4,.pointer (some ⟨b1,0,none⟩)),(6,.pointer (some ⟨b2,0,none⟩)),(7,.pointer (some ⟨c,0,none⟩)),(12,.bool false)]) (by kernel_rfl)
  refine qu (m:=4) (H:=[]) (ts:=[4,6,14,16]) (L':=[(4,.pointer (some ⟨b1,0,none⟩)),(6,.pointer (some ⟨b2,0,none⟩)),(14,.bool false),(16,.pointer (some ⟨c,0,none⟩))]) (O:=fun w=>True) hs (by kernel_rfl) trivial ?_
  clear hs a;intro a hs
  refine rI hs (by kernel_rfl) (BN (b:=c) (cs:= #[.bool b]) #[.bool false] [(0,.bool false)] [4,6] [(4,.pointer (some ⟨b1,0,none⟩)),(6,.pointer (some ⟨b2,0,none⟩))] hs hc (by kernel_rfl) ⟨aui rfl,trivial,trivial⟩ rfl (by kernel_rfl) ?_)
  clear hs a;intro a w5 hc' hu hs
  replace hc:=hc';clear hc'
  replace B1:=hu.blk B1 (by omega)
  replace B2:=hu.blk B2 (by omega)
  replace hB:=pL hB hu (by omega)
  clear hu
  refine np (by kernel_rfl) ?_
  refine kL rfl ?_
  refine uA (j:=6) (by kernel_rfl) ?_
  refine kD (id:=2) (by kernel_rfl) ?_
  refine qu (m:=1) (H:=[(0,none,[.int .i64 x,.int .i64 y])]) (ts:=[6,17]) (L':=[(6,.pointer (some ⟨b2,0,none⟩)),(17,.agg #[.int .i64 x,.int .i64 y])]) (O:=fun w=>(w.cell? ⟨b1,0,none⟩=some (.int .i64 x))∧(w.cell? ⟨b1,1,none⟩=some (.int .i64 y))∧True) hs (by kernel_rfl) ⟨B1.cell 0 rfl,B1.cell 1 rfl,trivial⟩ ?_
  clear hs a;intro a hs
  refine rI hs (by kernel_rfl) (BN (b:=b2) (cs:= #[.int .i64 0,.int .i64 0]) #[.int .i64 x,.int .i64 y] [(0,.int .i64 x),(1,.int .i64 y)] [6] [(6,.pointer (some ⟨b2,0,none⟩))] hs B2 (by kernel_rfl) ⟨aui rfl,trivial,⟨aui rfl,trivial,trivial⟩⟩ rfl (by kernel_rfl) ?_)
  clear hs a;intro a w6 B2' hu hs
  replace B2:=B2';clear B2'
  replace hc:=hu.blk hc (by omega)
  replace B1:=hu.blk B1 (by omega)
  replace hB:=pL hB hu (by omega)
  clear hu
  refine np (by kernel_rfl) ?_
  refine kL rfl ?_
  refine Gw (by kernel_rfl) ?_
  refine QX (vs:=[.agg #[.int .i64 x,.int .i64 y]]) (H:=[.int .i64 x,.int .i64 y]) (v:=.agg #[.int .i64 x,.int .i64 y]) (O:=fun w=>(w.cell? ⟨b2,0,none⟩=some (.int .i64 x))∧(w.cell? ⟨b2,1,none⟩=some (.int .i64 y))∧True) hs (by kernel_rfl) rfl ⟨B2.cell 0 rfl,B2.cell 1 rfl,trivial⟩ ?_
  exact⟨rfl,by rw[cd1];exact hc,hB⟩
def AF:aN:=spN false true [tO,tO] (fun x=>decide (ok Rt 15000 x.1∧ok Rt 15000 x.2.1)) (fun x=>[RV.d tQ (hid (enc (suT (dec x.1) (dec x.2.1))))])
theorem wb:SpK 220 AF:=spX fun x h=>by simp only[aj];exact aa0 x.1 x.2.1 (at6 h)
def Fk:aN:=spN false true [tR,tG,.bool] (fun x=>decide (ok Rat 100000 x.1∧prI x.2.1)) (fun x=>[RV.d tG (hid ((gu (ae x.1) x.2.1 x.2.2.1).1)),RV.d .bool ((gu (ae x.1) x.2.1 x.2.2.1).2)])
theorem EW:SpK 291 Fk:=spX fun x h=>by simp only[aj];exact Y0 x.1 x.2.1 x.2.2.1 (at6 h)
def WK:aN:={keep:=true,tame:=true,run:=fun _ _ _=>none,mut_:=some ⟨true,fun l=>l,some 242⟩}
theorem V3:SpK 279 WK:=by
 refine⟨by kernel_rfl,fun R args k r h=>(by cases h),fun g h=>?_⟩
 injection h with h
 subst h
 exact L8
def afI:Env:=[(76,io),(148,ip),(149,jQ),(147,jq),(202,lX),(296,B7),(99,k9),(83,gr),(71,pe),(219,rN),(220,AF),(260,GU),(294,Bz),(281,Bh),(283,zH),(290,AX),(303,zG),(302,zM),(297,Hm),(282,AA),(280,Fu),(259,vg),(284,AH),(291,Fk),(279,WK)]
theorem T1:EnvAll Tryz.prog afI:=⟨fc,eW,fY,fC,jd,v5,ie,eM,kI,mO,wb,C5,wA,wZ,vo,vc,v8,wV,EZ,wT,C9,qb,v7,EW,V3,trivial⟩
def ahp:NT:=[((252,5),{keep:=[1,4,13,14,17,20,21,24],hl:=0}),((252,7),{keep:=[1,4,5,25,26,29,32,33,36],hl:=0})]
def anP:Ctx:=CX afI ahp
def adL(q:BQ)(_k:KT):Option (List RV):=let y1:=frF (ae q.2.2.2.2.1);let y2:=ok Rat 200000 q.2.2.2.2.2;let y3:=frF (ae q.2.2.2.2.2);let y4:=sqF (hid (y3.1));let y5:=hid ((frF (ae q.2.1)).1);let y6:=hid ((sqF (hid (y1.1))).1);let y7:=frF (ae q.2.2.1);let y8:=frF (ae q.2.2.2.1);let y9:=cG y6 (hid (y4.1));let y10:=cG (hid (y7.1)) (hid (y4.1));let y11:=cG (hid (y8.1)) (hid (y9.1));let y12:=hid ((frF (ae q.1)).1);let y13:=hid ((cG y5 y6).1);let y14:=hid ((dk y12 y13).1);let y15:=dk (hid (y10.1)) (hid (y11.1));let y16:=dk y14 (hid (y15.1));let y17:Option (List RV):=match decide (prI (hid (y3.1)))with|true=>some [RV.d axf 0,RV.d .bool false]|false=>none;match decide (ok Rat 200000 q.2.2.2.2.1)with|true=>(match decide (prI (hid (y1.1)))with|true=>(match y1.2 with|true=>(match decide y2 with|true=>(match(sqF (hid (y1.1))).2 with|true=>(match decide (prI (hid (y3.1)))with|true=>(match y3.2 with|true=>(match !(y4.2)with|true=>some [RV.d axf 0,RV.d .bool false]|false=>(match decide (ok Rat 200000 q.2.1)with|true=>(match decide (prI y5∧prI y6)with|true=>(match decide (ok Rat 200000 q.2.2.1)with|true=>(match decide (prI (hid (y7.1))∧prI (hid (y4.1)))with|true=>(match decide (ok Rat 200000 q.2.2.2.1)with|true=>(match decide (prI y6∧prI (hid (y4.1)))with|true=>(match decide (prI (hid (y8.1))∧prI (hid (y9.1)))with|true=>(match !(((((((y4.2&&(frF (ae q.2.1)).2)&&(cG y5 y6).2)&&y7.2)&&y10.2)&&y8.2)&&y9.2)&&y11.2)with|true=>some [RV.d axf 0,RV.d .bool false]|false=>(match decide (ok Rat 200000 q.1)with|true=>(match decide (prI y12∧prI y13)with|true=>(match decide (prI (hid (y10.1))∧prI (hid (y11.1)))with|true=>(match decide (prI y14∧prI (hid (y15.1)))with|true=>(match !(((((((((((y4.2&&(frF (ae q.2.1)).2)&&(cG y5 y6).2)&&y7.2)&&y10.2)&&y8.2)&&y9.2)&&y11.2)&&(frF (ae q.1)).2)&&(dk y12 y13).2)&&y15.2)&&y16.2)with|true=>some [RV.d axf 0,RV.d .bool false]|false=>some [RV.d axf ((sgF (hid (y16.1))).1),RV.d .bool ((sgF (hid (y16.1))).2)])|false=>none)|false=>none)|false=>none)|false=>none))|false=>none)|false=>none)|false=>none)|false=>none)|false=>none)|false=>none)|false=>none))|false=>some [RV.d axf 0,RV.d .bool false])|false=>none)|false=>y17)|false=>none)|false=>(match decide y2 with|true=>y17|false=>none))|false=>none)|false=>none
theorem asg(q:BQ):RS anP 252 [.d tQ q] (adL q):=rsX
theorem YT(q:BQ)(h:okQ q):Con Tryz.prog 252 [.d tQ q] [.d axf ((quF (dec q)).1),.d .bool ((quF (dec q)).2)]:=by
 refine aP T1 (asg _ ⟨0,?_⟩)
 obtain⟨A,B,C,D,M,N,rfl,bA,bB,bC,bD,bM,bN,hM,hN⟩:=GG h
 rw[am]
 have pf:∀q,prI (frF q).1:=RE.frF_pr
 have pm:∀a b,prI (cG a b).1:=ql
 have ps:∀q,prI (sqF (frF q).1).1:=fun q=>RE.sqF_pr (pf q)
 have pa:∀{a b},prI a→prI b→prI (dk a b).1:=fun ha hb=>RE.addF_pr ha hb
 have d1:∀q,decide (prI (frF q).1)=true:=fun q=>dT (pf q)
 have d2:∀q m,decide (prI (frF q).1∧prI (sqF (frF m).1).1)=true:=fun q m=>dT ⟨pf q,ps m⟩
 have d3:∀q m,decide (prI (sqF (frF q).1).1∧prI (sqF (frF m).1).1)=true:=fun q m=>dT ⟨ps q,ps m⟩
 have d4:∀q a b,decide (prI (frF q).1∧prI (cG a b).1)=true:=fun q a b=>dT ⟨pf q,pm a b⟩
 have d5:∀a b c d,decide (prI (cG a b).1∧prI (cG c d).1)=true:=fun a b c d=>dT ⟨pm a b,pm c d⟩
 have d6:∀q a b c d e f,decide (prI (dk (frF q).1 (cG a b).1).1∧prI (dk (cG c d).1 (cG e f).1).1)=true:=fun q a b c d e f=>dT ⟨pa (pf q) (pm a b),pa (pm c d) (pm e f)⟩
 unfold adL
 simp only[aj,aT,aB,az,aC,aua,aub,Nat.reduceLeDiff,aua,dT (pf _),dT (pm _ _),dT (ps _),dT (pa (pf _) (pm _ _)),dT (pa (pm _ _) (pm _ _))]
 unfold quF qu1 qu2 qu3 quA quB sfF mfF
 generalize frF M=FM
 generalize frF N=FN
 generalize sqF FM.1=SM
 generalize sqF FN.1=SN
 generalize frF A=FA
 generalize frF B=FB
 generalize frF C=FC
 generalize frF D=FD
 generalize cG FB.1 SM.1=MB
 generalize cG FC.1 SN.1=MC
 generalize cG SM.1 SN.1=MM
 generalize cG FD.1 MM.1=MD
 generalize dk FA.1 MB.1=A1
 generalize dk MC.1 MD.1=A2
 generalize dk A1.1 A2.1=A3
 generalize sgF A3.1=S
 obtain⟨_,fm⟩:=FM
 obtain⟨_,fn⟩:=FN
 obtain⟨_,sm⟩:=SM
 obtain⟨_,sn⟩:=SN
 cases fm<;>cases sm<;>cases fn<;>cases sn<;>try rfl
 dsimp only
 simp only[auc,aub]
 generalize (FB.2&&MB.2&&FC.2&&MC.2&&FD.2&&MM.2&&MD.2)=c2
 cases c2
 ·rfl
 ·simp only[auc]
  generalize (FA.2&&A1.2&&A2.2&&A3.2)=c3
  cases c3<;>rfl
end Go.Proofs.YtlahabkjhgkkjaaGreat
end
