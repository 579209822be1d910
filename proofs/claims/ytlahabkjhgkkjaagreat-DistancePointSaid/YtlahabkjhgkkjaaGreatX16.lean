/- Distances: the program's Toward, Square, Cmp. -/
import Derived.Test.YtlahabkjhgkkjaaGreatX15
import Derived.Test.YtlahabkjhgkkjaaGreatX13
noncomputable section
namespace Go.Proofs.YtlahabkjhgkkjaaGreat
open Go.RowKit Go.IntKind
theorem auY:type_of% @List.mem_cons_of_mem:=@List.mem_cons_of_mem
theorem cJ{j k:Nat}{x:BP}(h:okP j x)(hj:j≤k)(hk:k≤480000):okP k x:=by
 obtain⟨p,rfl,bp,rp⟩:=bz h
 exact at6 (aZ hj hk)
theorem dt{j k:Nat}{c:BCU}(h:okC j c)(hj:j≤k)(hk:k≤480000):okC k c:=⟨h.1,h.2.1,cJ h.2.2.1 hj hk,cJ h.2.2.2 hj hk⟩
theorem qc{c:BCU}(hc:okC 500 c){v:Rat×Rat}[bv:Bd v 200]:Bd (iY (dC c) v) 15000∧Rdd (iY (dC c) v):=by
 obtain⟨ar,li,ci,cw,fr,to⟩:=c
 have h3:=hc.2.2.1
 have h4:=hc.2.2.2
 simp only at h3 h4
 obtain⟨fr,rfl,bf,rf⟩:=bz h3
 obtain⟨to,rfl,bt,rt⟩:=bz h4
 have he:Bd (pN (sqP fr v) (sqP to v)) 15000:=(inferInstance:Bd (pN (sqP fr v) (sqP to v)) _).mono (by decide)
 cases ar
 ·obtain⟨c2,c3⟩:=hc.2.1 rfl
  simp only at c2 c3
  obtain⟨li,rfl,bl⟩:=aS c2
  unfold iY AV
  simp only[dC,lnC,frC,toC,am,cond_false]
  cases oI (false,li,dec ci,cw,fr,to) (atP v)
  ·exact⟨he,W3⟩
  ·exact⟨(inferInstance:Bd ((df (fL v (gn li v)) (fL v (gn li v)),0,0):Rt) _).mono (by decide),ahx⟩
 ·obtain⟨c1,hq⟩:=hc.1 rfl
  simp only at c1 hq
  obtain⟨ci,rfl,bc⟩:=aS c1
  rw[am]at hq
  have hC:Cir ci:=⟨hq⟩
  unfold iY AV
  simp only[dC,lnC,frC,toC,ciC,cW,am,cond_true]
  cases pF (true,dec li,ci,cw,fr,to) (fL (ctr ci) v)
  ·exact⟨he,W3⟩
  ·have b2:Bd (-2:Rat) 3:=cZ (n:= -2) (by decide)
   exact⟨(inferInstance:Bd (mkR (df (fL (ctr ci) v) (fL (ctr ci) v)+ci.2.2) (-2) (df (fL (ctr ci) v) (fL (ctr ci) v)*ci.2.2)) _).mono (by decide),mR⟩
def ad6:Env:=[(112,wU)]
theorem Qr:EnvAll Tryz.prog ad6:=⟨pK,trivial⟩
def arj:Ctx:=CX ad6 []
def ade(a b:BV)(_k:KT):Option (List RV):=match decide (okR b.1∧okR a.1)with|true=>(match decide (okR b.2∧okR a.2)with|true=>some [RV.d tV (hid (ag (ae b.1-ae a.1)),hid (ag (ae b.2-ae a.2)))]|false=>none)|false=>none
theorem amv(a b:BV):RS arj 69 [.d tV a,.d tV b] (ade a b):=rsX
theorem aae(a b:BV)(h:ok (Rat×Rat) 10000 a∧ok (Rat×Rat) 10000 b):Con Tryz.prog 69 [.d tV a,.d tV b] [.d tV (enc (fL (dec a) (dec b)))]:=by
 refine aP Qr (amv _ _ ⟨0,?_⟩)
 obtain⟨ha,hb⟩:=h
 obtain⟨a,rfl,ba⟩:=aS ha
 obtain⟨b,rfl,bb⟩:=aS hb
 unfold ade
 simp only[aj,am,aE,aF,aB,az,aW,aua,aub,Nat.reduceLeDiff]
 try rfl
def WZ:aN:=spN false true [tR,tR,tR] (fun x=>decide (ok Rat 100000 x.1∧ok Rat 100000 x.2.1∧ok Rat 100000 x.2.2.1∧0≤ae x.2.2.1)) (fun x=>[RV.d tO (hid (enc (mkR (ae x.1) (ae x.2.1) (ae x.2.2.1)))),RV.d axf 0])
theorem Rg:SpK 158 WZ:=spX fun x h=>by simp only[aj];exact Ya x.1 x.2.1 x.2.2.1 (at6 h)
def U8:aN:=spN false true [tO,tV] (fun x=>decide (ok Ln 300 x.1∧ok (Rat×Rat) 200 x.2.1∧((dec x.1:Ln).1≠0∨(dec x.1:Ln).2.1≠0))) (fun x=>[RV.d tV (hid (enc (gn (dec x.1) (dec x.2.1))))])
theorem Tm:SpK 70 U8:=spX fun x h=>by simp only[aj];exact Y6 x.1 x.2.1 (at6 h)
def Ob:aN:=spN false true [tV,tV] (fun x=>decide (ok (Rat×Rat) 10000 x.1∧ok (Rat×Rat) 10000 x.2.1)) (fun x=>[RV.d tV (hid (enc (fL (dec x.1) (dec x.2.1))))])
theorem UK:SpK 69 Ob:=spX fun x h=>by simp only[aj];exact aae x.1 x.2.1 (at6 h)
def EX:Env:=[(83,gr),(202,lX),(76,io),(148,ip),(170,zZ),(149,jQ),(147,jq),(158,WZ),(71,pe),(68,Gc),(88,Ou),(66,Fh),(89,Ut),(70,U8),(146,se),(84,Ag),(75,AU),(112,wU),(77,zD),(69,Ob),(72,Wr),(87,B6)]
theorem pB:EnvAll Tryz.prog EX:=⟨eM,jd,fc,eW,wv,fY,fC,Rg,kI,E2,Xa,Cq,Wo,Tm,mC,vp,uW,pK,xd,UK,VX,vG,trivial⟩
def aof:Ctx:=CX EX []
def afw(a b c:BR)(_k:KT):Option (List RV):=match decide (ok Rat 100000 a∧ok Rat 100000 b∧ok Rat 100000 c∧0≤ae c)with|true=>(match 0 !=0 with|true=>(match decide (okR a)with|true=>some [RV.d tO (hid (enc ((ae a,0,0):Rt)))]|false=>none)|false=>some [RV.d tO (hid (enc (mkR (ae a) (ae b) (ae c))))])|false=>none
theorem amL(a b c:BR):RS aof 74 [.d tR a,.d tR b,.d tR c] (afw a b c):=rsX
theorem abm(a b c:BR)(h:ok Rat 100000 a∧ok Rat 100000 b∧ok Rat 100000 c∧0≤ae c):Con Tryz.prog 74 [.d tR a,.d tR b,.d tR c] [.d tO (enc (mkR (ae a) (ae b) (ae c)))]:=by
 refine aP pB (amL _ _ _ ⟨0,?_⟩)
 obtain⟨ha,hb,hc,hn⟩:=h
 unfold afw
 rw[dT ⟨ha,hb,hc,hn⟩]
 simp only[aj]
 rfl
def am0:Ctx:=CX EX []
def afB(v:BV)(_k:KT):Option (List RV):=match decide (okR v.1)with|true=>(match(aU (ae v.1) 0)==0 with|true=>(match decide (okR v.2)with|true=>some [RV.d .bool ((aU (ae v.2) 0)==0)]|false=>none)|false=>some [RV.d .bool false])|false=>none
theorem arh(v:BV):RS am0 86 [.d tV v] (afB v):=rsX
theorem acB(v:BV)(h:ok (Rat×Rat) 100000 v):Con Tryz.prog 86 [.d tV v] [.d .bool (zeV (dec v))]:=by
 refine aP pB (arh _ ⟨0,?_⟩)
 have hv:=h
 obtain⟨v,rfl,bv⟩:=aS hv
 unfold afB
 simp only[am,aE,aF,aB,az,aW,Nat.reduceLeDiff,aI]
 unfold zeV
 cases decide (v.1=0)<;>rfl
def aoT:Ctx:=CX EX []
def anR(c:BCU)(_k:KT):Option (List RV):=some [RV.d tV (c.2.2.1.1,c.2.2.1.2.1)]
theorem aqZ(c:BCU):RS aoT 73 [.d tCU c] (anR c):=rsX
theorem ZD(c:BCU):Con Tryz.prog 73 [.d tCU c] [.d tV (c.2.2.1.1,c.2.2.1.2.1)]:=by
 exact aP pB (aqZ _ ⟨0,rfl⟩)
def GX:aN:=spN false true [tR,tR,tR] (fun x=>decide (ok Rat 100000 x.1∧ok Rat 100000 x.2.1∧ok Rat 100000 x.2.2.1∧0≤ae x.2.2.1)) (fun x=>[RV.d tO (hid (enc (mkR (ae x.1) (ae x.2.1) (ae x.2.2.1))))])
theorem D3:SpK 74 GX:=spX fun x h=>by simp only[aj];exact abm x.1 x.2.1 x.2.2.1 (at6 h)
def T4:aN:=spN true true [tV] (fun x=>decide (ok (Rat×Rat) 100000 x.1)) (fun x=>[RV.d .bool (zeV (dec x.1))])
theorem Wh:SpK 86 T4:=spX fun x h=>acB x.1 (at6 h)
def Hp:aN:=spN false true [tCU] (fun _=>true) (fun x=>[RV.d tV (hid ((x.1.2.2.1.1,x.1.2.2.1.2.1)))])
theorem Et:SpK 73 Hp:=spX fun x _=>by simp only[aj];exact ZD x.1
def IS:Env:=(74,GX)::(86,T4)::(73,Hp)::EX
theorem wL:EnvAll Tryz.prog IS:=⟨D3,Wh,Et,pB⟩
def apr:Ctx:=CX IS []
def adi(l:BO3)(p:BP)(_k:KT):Option (List RV):=match decide (okR l.2.1)with|true=>(match decide (okR (hid (ag (-ae l.2.1)))∧okR p.1)with|true=>(match decide (okR l.1∧okR p.2.2.1)with|true=>(match decide (okR (hid (ag (ae (hid (ag (-ae l.2.1)))*ae p.1)))∧okR (hid (ag (ae l.1*ae p.2.2.1))))with|true=>(match decide (okR (hid (ag (-ae l.2.1)))∧okR p.2.1)with|true=>(match decide (okR l.1∧okR p.2.2.2.1)with|true=>(match decide (okR (hid (ag (ae (hid (ag (-ae l.2.1)))*ae p.2.1)))∧okR (hid (ag (ae l.1*ae p.2.2.2.1))))with|true=>(match decide (ok Rat 100000 (hid (ag (ae (hid (ag (ae (hid (ag (-ae l.2.1)))*ae p.1)))+ae (hid (ag (ae l.1*ae p.2.2.1))))))∧ok Rat 100000 (hid (ag (ae (hid (ag (ae (hid (ag (-ae l.2.1)))*ae p.2.1)))+ae (hid (ag (ae l.1*ae p.2.2.2.1))))))∧ok Rat 100000 p.2.2.2.2∧0≤ae p.2.2.2.2)with|true=>some [RV.d tO (hid (enc (mkR (ae (hid (ag (ae (hid (ag (ae (hid (ag (-ae l.2.1)))*ae p.1)))+ae (hid (ag (ae l.1*ae p.2.2.1))))))) (ae (hid (ag (ae (hid (ag (ae (hid (ag (-ae l.2.1)))*ae p.2.1)))+ae (hid (ag (ae l.1*ae p.2.2.2.1))))))) (ae p.2.2.2.2))))]|false=>none)|false=>none)|false=>none)|false=>none)|false=>none)|false=>none)|false=>none)|false=>none
theorem anY(l:BO3)(p:BP):RS apr 151 [.d tO l,.d tP p] (adi l p):=rsX
theorem aaU(l:BO3)(p:BP)(h:ok Ln 300 l∧okP 4000 p):Con Tryz.prog 151 [.d tO l,.d tP p] [.d tO (enc (dZ (dec l) (dec p)))]:=by
 refine aP wL (anY _ _ ⟨0,?_⟩)
 obtain⟨hl,hp⟩:=h
 obtain⟨l,rfl,bl⟩:=aS hl
 obtain⟨p,rfl,bp,rp⟩:=bz hp
 have hn:0≤p.2.2.2.2:=rp.nn
 unfold adi
 simp only[aj,am,aE,aF,aB,az,aC,aW,aua,aub,Nat.reduceAdd,Nat.reduceLeDiff,dT hn]
 rfl
def arp:Ctx:=CX IS []
def af6(a b:BO3)(_k:KT):Option (List RV):=match decide (okT 15000 b∧okT 15000 a)with|true=>(match decide ((bG (dec b) (dec a))<0)with|true=>some [RV.d tO b]|false=>some [RV.d tO a])|false=>none
theorem al9(a b:BO3):RS arp 65 [.d tO a,.d tO b] (af6 a b):=rsX
theorem ZB(a b:BO3)(h:okT 15000 a∧okT 15000 b):Con Tryz.prog 65 [.d tO a,.d tO b] [.d tO (enc (pN (dec a) (dec b)))]:=by
 refine aP wL (al9 _ _ ⟨0,?_⟩)
 obtain⟨ha,hb⟩:=h
 obtain⟨a,rfl,ba,ra⟩:=fa ha
 obtain⟨b,rfl,bb,rb⟩:=fa hb
 unfold af6 pN
 simp only[am,aua,aub,Nat.reduceLeDiff,a9]
 cases decide (bG b a<0)<;>rfl
def SQ:aN:=spN false true [tO,tP] (fun x=>decide (ok Ln 300 x.1∧okP 4000 x.2.1)) (fun x=>[RV.d tO (hid (enc (dZ (dec x.1) (dec x.2.1))))])
theorem Rl:SpK 151 SQ:=spX fun x h=>by simp only[aj];exact aaU x.1 x.2.1 (at6 h)
def Nl:aN:=spN false true [tO,tO] (fun x=>decide (okT 15000 x.1∧okT 15000 x.2.1)) (fun x=>[RV.d tO (hid (enc (pN (dec x.1) (dec x.2.1))))])
theorem O4:SpK 65 Nl:=spX fun x h=>by simp only[aj];exact ZB x.1 x.2.1 (at6 h)
def Jc:Env:=(151,SQ)::(65,Nl)::IS
theorem w9:EnvAll Tryz.prog Jc:=⟨Rl,O4,wL⟩
def amT:Ctx:=CX Jc []
def afn(c:BCU)(p:BP)(_k:KT):Option (List RV):=match decide (ok Ln 300 c.2.1∧okP 4000 p)with|true=>(match decide (ok Ln 300 c.2.1∧okP 4000 c.2.2.2.2.1)with|true=>(match decide (ok Ln 300 c.2.1∧okP 4000 c.2.2.2.2.2)with|true=>(match decide (okT 15000 (hid (enc (dZ (dec c.2.1) (dec c.2.2.2.2.1))))∧okT 15000 (hid (enc (dZ (dec c.2.1) (dec c.2.2.2.2.2)))))with|true=>(match decide ((bG (dec (hid (enc (dZ (dec c.2.1) (dec c.2.2.2.2.1))))) (dec (hid (enc (dZ (dec c.2.1) (dec c.2.2.2.2.2))))))>0)with|true=>(match decide (okT 15000 (hid (enc (dZ (dec c.2.1) (dec c.2.2.2.2.2))))∧okT 15000 (hid (enc (dZ (dec c.2.1) (dec p)))))with|true=>(match decide ((bG (dec (hid (enc (dZ (dec c.2.1) (dec c.2.2.2.2.2))))) (dec (hid (enc (dZ (dec c.2.1) (dec p))))))≤0)with|true=>(match decide (okT 15000 (hid (enc (dZ (dec c.2.1) (dec p))))∧okT 15000 (hid (enc (dZ (dec c.2.1) (dec c.2.2.2.2.1)))))with|true=>some [RV.d .bool (decide ((bG (dec (hid (enc (dZ (dec c.2.1) (dec p))))) (dec (hid (enc (dZ (dec c.2.1) (dec c.2.2.2.2.1))))))≤0))]|false=>none)|false=>some [RV.d .bool false])|false=>none)|false=>(match decide (okT 15000 (hid (enc (dZ (dec c.2.1) (dec c.2.2.2.2.1))))∧okT 15000 (hid (enc (dZ (dec c.2.1) (dec p)))))with|true=>(match decide ((bG (dec (hid (enc (dZ (dec c.2.1) (dec c.2.2.2.2.1))))) (dec (hid (enc (dZ (dec c.2.1) (dec p))))))≤0)with|true=>(match decide (okT 15000 (hid (enc (dZ (dec c.2.1) (dec p))))∧okT 15000 (hid (enc (dZ (dec c.2.1) (dec c.2.2.2.2.2)))))with|true=>some [RV.d .bool (decide ((bG (dec (hid (enc (dZ (dec c.2.1) (dec p))))) (dec (hid (enc (dZ (dec c.2.1) (dec c.2.2.2.2.2))))))≤0))]|false=>none)|false=>some [RV.d .bool false])|false=>none))|false=>none)|false=>none)|false=>none)|false=>none
theorem anm(c:BCU)(p:BP):RS amT 67 [.d tCU c,.d tP p] (afn c p):=rsX
theorem Z5(c:BCU)(p:BP)(h:okC 3000 c∧okP 3000 p∧c.1=false):Con Tryz.prog 67 [.d tCU c,.d tP p] [.d .bool (oI (dC c) (dec p))]:=by
 refine aP w9 (anm _ _ ⟨0,?_⟩)
 obtain⟨hc,hp,h0⟩:=h
 obtain⟨p,rfl,bp,rp⟩:=bz hp
 obtain⟨ar,li,ci,cw,fr,to⟩:=c
 simp only at h0
 subst h0
 obtain⟨_,c2,c3,c4⟩:=hc
 obtain⟨c2,_⟩:=c2 rfl
 simp only at c2 c3 c4
 obtain⟨li,rfl,bl⟩:=aS c2
 obtain⟨fr,rfl,bf,rf⟩:=bz c3
 obtain⟨to,rfl,bt,rt⟩:=bz c4
 unfold afn oI
 simp only[dC,lnC,frC,toC,aj,am,okd,aua,aub,Nat.reduceAdd,Nat.reduceMul,Nat.reduceLeDiff,a9,aZ]
 cases decide (bG (dZ li fr) (dZ li to)>0)
 ·cases decide (bG (dZ li fr) (dZ li p)≤0)<;>rfl
 ·cases decide (bG (dZ li to) (dZ li p)≤0)<;>rfl
def aqr:Ctx:=CX Jc []
def aeZ(c:BCU)(v:BV)(_k:KT):Option (List RV):=let y1:=hid (ag (df (dec v) (dec v)));let y2:=hid (ag (ae c.2.2.1.2.2/ae y1));let y3:=hid (enc (mkR (ae c.2.2.1.1) (ae v.1) (ae y2)));let y4:=hid (enc (mkR (ae c.2.2.1.2.1) (ae v.2) (ae y2)));let y5:=hid (enc (mkP (dec y3) (dec y4)));match !c.1 with|true=>some [RV.d .bool c.1]|false=>(match decide (ok (Rat×Rat) 100000 v)with|true=>(match zeV (dec v)with|true=>some [RV.d .bool c.1]|false=>(match decide (ok (Rat×Rat) 5000 v∧ok (Rat×Rat) 5000 v)with|true=>(match decide (fh c.2.2.1.2.2 y1)with|true=>(match decide (ok Rat 100000 c.2.2.1.1∧ok Rat 100000 v.1∧ok Rat 100000 y2∧0≤ae y2)with|true=>(match decide (ok Rat 100000 c.2.2.1.2.1∧ok Rat 100000 v.2∧ok Rat 100000 y2∧0≤ae y2)with|true=>(match decide (okT 15000 y3∧okT 15000 y4∧ri (dec y3) (dec y4))with|true=>(match 0==0 with|true=>(match decide (okC 4000 c∧okP 4000 y5)with|true=>some [RV.d .bool (onP (dC c) (dec y5))]|false=>none)|false=>some [RV.d .bool false])|false=>none)|false=>none)|false=>none)|false=>none)|false=>none))|false=>none)
theorem aou(c:BCU)(v:BV):RS aqr 24 [.d tCU c,.d tV v] (aeZ c v):=rsX
theorem Ym(c:BCU)(v:BV)(h:okC 500 c∧ok (Rat×Rat) 510 v):Con Tryz.prog 24 [.d tCU c,.d tV v] [.d .bool (pF (dC c) (dec v))]:=by
 refine aP w9 (aou _ _ ⟨0,?_⟩)
 obtain⟨hc,hv⟩:=h
 obtain⟨v,rfl,bv⟩:=aS hv
 have hc4:=dt (k:=4000) hc (by decide) (by decide)
 obtain⟨ar,li,ci,cw,fr,to⟩:=c
 cases ar
 ·rfl
 ·obtain⟨c1,_⟩:=hc.1 rfl
  have hq:=(hc.1 rfl).2
  simp only at c1 hq
  obtain⟨ci,rfl,bc⟩:=aS c1
  rw[am]at hq
  have hC:Cir ci:=⟨hq⟩
  have o4:=at7 hc4
  have hn:0≤ci.2.2/df v v:=(aj9 (c:=ci) (d:=v)).le
  have om:decide (ri (mkR ci.1 v.1 (ci.2.2/df v v)) (mkR ci.2.1 v.2 (ci.2.2/df v v)))=true:=dT (qG _ _ _ _ _)
  have ry:decide (okP 4000 (enc (mkP (mkR ci.1 v.1 (ci.2.2/df v v)) (mkR ci.2.1 v.2 (ci.2.2/df v v)))))=true:=aZ (x:=xB ci v) (by decide) (by decide)
  unfold aeZ pF
  simp only[aj,am,aE,aF,aB,az,okd,aC,aua,aub,auc,Nat.reduceAdd,Nat.reduceLeDiff,a9,Bool.not_true]
  cases hz:zeV v
  ·have hd:=Bk hz
   simp only[aD,aub,Nat.reduceAdd,Nat.reduceLeDiff,hd,ne_eq,avZ,dT hn,om,o4,ry]
   show _=some [RV.d .bool (onP _ (xB (dec (enc ci)) v))]
   rw[am]
   rfl
  ·rfl
def Gv:aN:=spN true true [tCU,tP] (fun x=>decide (okC 3000 x.1∧okP 3000 x.2.1∧x.1.1=false)) (fun x=>[RV.d .bool (oI (dC x.1) (dec x.2.1))])
theorem DC:SpK 67 Gv:=spX fun x h=>Z5 x.1 x.2.1 (at6 h)
def TQ:aN:=spN true true [tCU,tV] (fun x=>decide (okC 500 x.1∧ok (Rat×Rat) 510 x.2.1)) (fun x=>[RV.d .bool (pF (dC x.1) (dec x.2.1))])
theorem Uk:SpK 24 TQ:=spX fun x h=>Ym x.1 x.2.1 (at6 h)
def QZ:Env:=(67,Gv)::(24,TQ)::Jc
theorem CJ:EnvAll Tryz.prog QZ:=⟨DC,Uk,w9⟩
def ai1:NT:=[((16,13),{keep:=[4,19],hl:=0}),((16,29),{keep:=[4,39],hl:=0})]
def al4:Ctx:=CX QZ ai1
def ON(c:BCU)(v:BV)(_k:KT):Option (List RV):=let y1:=hid (enc (atP (dec v)));let y2:=hid (enc (sqP (dec c.2.2.2.2.1) (dec v)));let y3:=hid (enc (sqP (dec c.2.2.2.2.2) (dec v)));let y4:Option (List RV):=match decide (okP 3500 c.2.2.2.2.1∧ok (Rat×Rat) 300 v)with|true=>(match decide (okP 3500 c.2.2.2.2.2∧ok (Rat×Rat) 300 v)with|true=>(match decide (okT 15000 y2∧okT 15000 y3)with|true=>some [RV.d tO (hid (enc (pN (dec y2) (dec y3))))]|false=>none)|false=>none)|false=>none;let y5:=hid (enc (gn (dec c.2.1) (dec v)));let y6:=hid (enc (fL (dec v) (dec y5)));let y7:=hid (ag (df (dec y6) (dec y6)));let y8:=hid ((c.2.2.1.1,c.2.2.1.2.1));let y9:=hid (enc (fL (dec y8) (dec v)));let y10:=hid (ag (df (dec y9) (dec y9)));let y11:=hid (ag (ae y10+ae c.2.2.1.2.2));let y12:=hid (ag (((-2):Int):Rat));let y13:=hid (ag (ae y10*ae c.2.2.1.2.2));match !c.1 with|true=>(match decide (ok (Rat×Rat) 100000 v)with|true=>(match decide (okC 3000 c∧okP 3000 y1∧c.1=false)with|true=>(match !(oI (dC c) (dec y1))with|true=>y4|false=>(match decide (ok Ln 300 c.2.1∧ok (Rat×Rat) 200 v∧((dec c.2.1:Ln).1≠0∨(dec c.2.1:Ln).2.1≠0))with|true=>(match decide (ok (Rat×Rat) 10000 v∧ok (Rat×Rat) 10000 y5)with|true=>(match decide (ok (Rat×Rat) 5000 y6∧ok (Rat×Rat) 5000 y6)with|true=>(match decide (okR y7)with|true=>some [RV.d tO (hid (enc ((ae y7,0,0):Rt)))]|false=>none)|false=>none)|false=>none)|false=>none))|false=>none)|false=>none)|false=>(match decide (ok (Rat×Rat) 10000 y8∧ok (Rat×Rat) 10000 v)with|true=>(match decide (okC 500 c∧ok (Rat×Rat) 510 y9)with|true=>(match !(pF (dC c) (dec y9))with|true=>y4|false=>(match decide (ok (Rat×Rat) 5000 y9∧ok (Rat×Rat) 5000 y9)with|true=>(match decide (okR y10∧okR c.2.2.1.2.2)with|true=>(match decide (aY ((-2):Int))with|true=>(match decide (okR y10∧okR c.2.2.1.2.2)with|true=>(match decide (ok Rat 100000 y11∧ok Rat 100000 y12∧ok Rat 100000 y13∧0≤ae y13)with|true=>some [RV.d tO (hid (enc (mkR (ae y11) (ae y12) (ae y13))))]|false=>none)|false=>none)|false=>none)|false=>none)|false=>none))|false=>none)|false=>none)
theorem arD(c:BCU)(v:BV):RS al4 16 [.d tCU c,.d tV v] (ON c v):=rsX
theorem abK(c:BCU)(v:BV)(h:okC 500 c∧ok (Rat×Rat) 200 v):Con Tryz.prog 16 [.d tCU c,.d tV v] [.d tO (enc (iY (dC c) (dec v)))]:=by
 refine aP CJ (arD _ _ ⟨0,?_⟩)
 obtain⟨hc,hv⟩:=h
 obtain⟨v,rfl,bv⟩:=aS hv
 have hc4:=dt (k:=3000) hc (by decide) (by decide)
 obtain⟨ar,li,ci,cw,fr,to⟩:=c
 have h3:=hc.2.2.1
 have h4:=hc.2.2.2
 simp only at h3 h4
 obtain⟨fr,rfl,bf,rf⟩:=bz h3
 obtain⟨to,rfl,bt,rt⟩:=bz h4
 have o4:=at7 hc4
 have o5:=at7 hc
 cases ar
 ·obtain⟨c2,c3⟩:=hc.2.1 rfl
  simp only at c2 c3
  obtain⟨li,rfl,bl⟩:=aS c2
  rw[am]at c3
  unfold ON iY AV
  simp only[aj,am,aT,aB,az,okd,aW,aua,aub,mx,Nat.reduceAdd,Nat.reduceMul,Nat.reduceLeDiff,auf,aue,cond_true,cond_false,a9,aZ,o4,c3,Bool.not_false]
  simp only[dC,lnC,frC,toC,am,cond_false]
  cases oI (false,li,dec ci,cw,fr,to) (atP v)<;>rfl
 ·obtain⟨c1,hq⟩:=hc.1 rfl
  simp only at c1 hq
  obtain⟨ci,rfl,bc⟩:=aS c1
  rw[am]at hq
  have hC:Cir ci:=⟨hq⟩
  have hn:0≤df (fL (ctr ci) v) (fL (ctr ci) v)*ci.2.2:=(YX (c:=ci) (d:=fL (ctr ci) v)).le
  have e0:((ag ci.1,ag ci.2.1):BV)=enc (ctr ci):=rfl
  have h2:decide (aY (-2))=true:=by decide
  have b2:Bd ((-2:Int):Rat) 3:=cZ (by decide)
  unfold ON iY AV
  simp only[aj,am,aE,aF,aB,az,okd,aC,aW,aua,aub,auc,mx,Nat.reduceAdd,Nat.reduceMul,Nat.reduceLeDiff,auf,cond_true,a9,aZ,o5,e0,Bool.not_true]
  simp only[dC,lnC,frC,toC,ciC,cW,am,cond_true]
  cases pF (true,dec li,ci,cw,fr,to) (fL (ctr ci) v)
  ·rfl
  ·simp only[cond_true,dT hn,h2]
   rw[show((-2:Int):Rat)= -2 from rfl]
   rfl
def E8:aN:=spN false true [tCU,tV] (fun x=>decide (okC 500 x.1∧ok (Rat×Rat) 200 x.2.1)) (fun x=>[RV.d tO (hid (enc (iY (dC x.1) (dec x.2.1))))])
theorem C2:SpK 16 E8:=spX fun x h=>by simp only[aj];exact abK x.1 x.2.1 (at6 h)
def adH:Env:=(16,E8)::QZ
theorem Wp:EnvAll Tryz.prog adH:=⟨C2,CJ⟩
def amD:Ctx:=CX adH []
def aei(c:BCU)(v:BV)(r:BR)(_k:KT):Option (List RV):=match decide (okR r)with|true=>(match decide ((aU (ae r) 0)<0)with|true=>some [RV.d axf 1]|false=>(match decide (okC 500 c∧ok (Rat×Rat) 200 v)with|true=>(match decide (okR r∧okR r)with|true=>(match decide (okT 15000 (hid (enc (iY (dC c) (dec v))))∧ok Rat 15000 (hid (ag (ae r*ae r))))with|true=>some [RV.d axf (eu (dec (hid (enc (iY (dC c) (dec v))))) (ae (hid (ag (ae r*ae r)))))]|false=>none)|false=>none)|false=>none))|false=>none
theorem apS(c:BCU)(v:BV)(r:BR):RS amD 21 [.d tCU c,.d tV v,.d tR r] (aei c v r):=rsX
theorem acd(c:BCU)(v:BV)(r:BR)(h:okC 500 c∧ok (Rat×Rat) 200 v∧ok Rat 1000 r):Con Tryz.prog 21 [.d tCU c,.d tV v,.d tR r] [.d axf (xq (dC c) (dec v) (ae r))]:=by
 refine aP Wp (apS _ _ _ ⟨0,?_⟩)
 obtain⟨hc,hv,hr⟩:=h
 obtain⟨v,rfl,bv⟩:=aS hv
 obtain⟨r,rfl,br⟩:=aS hr
 rw[aB,az,am]
 have od:=qc hc (v:=v)
 obtain⟨od1,od2⟩:=od
 unfold aei xq
 simp only[aj,am,az,okd,aC,aW,aua,aub,Nat.reduceAdd,Nat.reduceLeDiff,a9,aJ,at7 hc]
 cases decide (r<0)<;>rfl
def Gd:aN:=spN true true [tCU,tV,tR] (fun x=>decide (okC 500 x.1∧ok (Rat×Rat) 200 x.2.1∧ok Rat 1000 x.2.2.1)) (fun x=>[RV.d axf (xq (dC x.1) (dec x.2.1) (ae x.2.2.1))])
theorem C0:SpK 21 Gd:=spX fun x h=>acd x.1 x.2.1 x.2.2.1 (at6 h)
def afW:Env:=[(78,fu),(124,jD),(50,gQ),(132,gL),(174,B0),(127,iw),(161,iu),(49,pz),(57,tC),(20,ls),(109,tD),(45,pJ),(54,ui),(19,uo),(55,AJ),(119,nI),(85,qK),(60,BD),(144,Bt),(61,AP),(58,Ur)]
theorem Wg:EnvAll Tryz.prog afW:=⟨dW,gH,fq,fk,xZ,fT,fS,nQ,rz,iH,rR,nH,sP,pP,zw,kH,nK,vM,uu,vP,Rv,trivial⟩
def akC:Ctx:=CX afW []
def ahy(c:BO3)(_k:KT):Option (List RV):=some [RV.d tV (c.1,c.2.1)]
theorem ahu(c:BO3):RS akC 59 [.d tO c] (ahy c):=rsX
theorem VV(c:BO3):Con Tryz.prog 59 [.d tO c] [.d tV (c.1,c.2.1)]:=by
 exact aP Wg (ahu _ ⟨0,rfl⟩)
def It:aN:=spN false true [tO] (fun _=>true) (fun x=>[RV.d tV (hid ((x.1.1,x.1.2.1)))])
theorem Ll:SpK 59 It:=spX fun x _=>by simp only[aj];exact VV x.1
abbrev r00:BR:=((false,[]),(false,[]))
abbrev o00:BO3:=(r00,r00,r00)
abbrev p00:BP:=(r00,r00,r00,r00,r00)
abbrev c00:BCU:=(false,o00,o00,false,p00,p00)
def qf(a b:Rat×Rat):Ln:=(a.2-b.2,b.1-a.1,(a.2-b.2)*a.1+(b.1-a.1)*a.2)
def xx(a b:Rat×Rat):Bool:=decide (a.2-b.2=0)&&decide (b.1-a.1=0)
def W4(a b:Rat×Rat):BO3:=bif xx a b then o00 else enc (qf a b)
def TP(a b:Rat×Rat):Int:=bif xx a b then 6 else 0
def ed(a b c:Rat×Rat):Rat:=(b.1-a.1)*(c.2-a.2)-(b.2-a.2)*(c.1-a.1)
def wQ(a b c:Rat×Rat):Rat:=(((b.1-a.1)*(b.1-a.1)+(b.2-a.2)*(b.2-a.2))*(c.2-a.2)-((c.1-a.1)*(c.1-a.1)+(c.2-a.2)*(c.2-a.2))*(b.2-a.2))/(ed a b c+ed a b c)
def uM(a b c:Rat×Rat):Rat:=(((c.1-a.1)*(c.1-a.1)+(c.2-a.2)*(c.2-a.2))*(b.1-a.1)-((b.1-a.1)*(b.1-a.1)+(b.2-a.2)*(b.2-a.2))*(c.1-a.1))/(ed a b c+ed a b c)
def ob(a b c:Rat×Rat):Ln:=(a.1+wQ a b c,a.2+uM a b c,wQ a b c*wQ a b c+uM a b c*uM a b c)
def Re(a b c:Rat×Rat):BO3:=bif decide (ed a b c=0)then o00 else enc (ob a b c)
def Tf(a b c:Rat×Rat):Int:=bif decide (ed a b c=0)then 6 else 0
def sZ(a b c:Rat×Rat):Int:=aU ((b.1-a.1)*(c.2-a.2)) ((b.2-a.2)*(c.1-a.1))
def vF(a b:Rat×Rat):BCU:=bif xx a b then c00 else(false,enc (qf a b),o00,false,enc (atP a),enc (atP b))
def oB(a b:Rat×Rat):Int:=bif xx a b then 6 else 0
def ve(a b c:Rat×Rat):BCU:=bif decide (ed a b c=0)then c00 else(true,o00,enc (ob a b c),decide (sZ a b c<0),enc (atP a),enc (atP c))
def n9(a b c:Rat×Rat):Int:=bif decide (ed a b c=0)then 6 else 0
theorem ai9(a b c:Rat×Rat):(sZ a b c==0)=decide (ed a b c=0):=by
 unfold sZ ed
 rw[aI]
 exact auE.2 (by constructor<;>intro h<;>grind)
instance asQ {a b:Rat×Rat} {i j:Nat} [h:Bd a i] [h':Bd b j]:Bd (qf a b) (4*i+2*j+3):=by
 have i1:Bd ((a.2-b.2,b.1-a.1,(a.2-b.2)*a.1+(b.1-a.1)*a.2):Ln) _:=inferInstance
 exact i1.mono (cM (by omega) (cM (by omega) (by omega)))
def Co:Env:=[(78,fu),(107,jw),(161,iu),(132,gL),(20,ls),(140,tk),(143,Bn),(141,qk),(142,BZ)]
theorem pQ:EnvAll Tryz.prog Co:=⟨dW,gG,fS,fk,iH,qZ,ya,nN,yC,trivial⟩
def ak6:Ctx:=CX Co []
def Q0(a b:BV)(_k:KT):Option (List RV):=match decide (okR a.2∧okR b.2)with|true=>(match decide (okR b.1∧okR a.1)with|true=>(match decide (okR (hid (ag (ae a.2-ae b.2))))with|true=>(match(aU (ae (hid (ag (ae a.2-ae b.2)))) 0)==0 with|true=>(match decide (okR (hid (ag (ae b.1-ae a.1))))with|true=>(match(aU (ae (hid (ag (ae b.1-ae a.1)))) 0)==0 with|true=>some [RV.d tO (((false,[]),(false,[])),(((false,[]),(false,[])),((false,[]),(false,[])))),RV.d axf 6]|false=>(match decide (okR (hid (ag (ae a.2-ae b.2)))∧okR a.1)with|true=>(match decide (okR (hid (ag (ae b.1-ae a.1)))∧okR a.2)with|true=>(match decide (okR (hid (ag (ae (hid (ag (ae a.2-ae b.2)))*ae a.1)))∧okR (hid (ag (ae (hid (ag (ae b.1-ae a.1)))*ae a.2))))with|true=>some [RV.d tO (hid (ag (ae a.2-ae b.2)),(hid (ag (ae b.1-ae a.1)),hid (ag (ae (hid (ag (ae (hid (ag (ae a.2-ae b.2)))*ae a.1)))+ae (hid (ag (ae (hid (ag (ae b.1-ae a.1)))*ae a.2))))))),RV.d axf 0]|false=>none)|false=>none)|false=>none))|false=>none)|false=>(match decide (okR (hid (ag (ae a.2-ae b.2)))∧okR a.1)with|true=>(match decide (okR (hid (ag (ae b.1-ae a.1)))∧okR a.2)with|true=>(match decide (okR (hid (ag (ae (hid (ag (ae a.2-ae b.2)))*ae a.1)))∧okR (hid (ag (ae (hid (ag (ae b.1-ae a.1)))*ae a.2))))with|true=>some [RV.d tO (hid (ag (ae a.2-ae b.2)),(hid (ag (ae b.1-ae a.1)),hid (ag (ae (hid (ag (ae (hid (ag (ae a.2-ae b.2)))*ae a.1)))+ae (hid (ag (ae (hid (ag (ae b.1-ae a.1)))*ae a.2))))))),RV.d axf 0]|false=>none)|false=>none)|false=>none))|false=>none)|false=>none)|false=>none
theorem ak0(a b:BV):RS ak6 128 [.d tV a,.d tV b] (Q0 a b):=rsX
theorem WE(a b:BV)(h:ok (Rat×Rat) 100 a∧ok (Rat×Rat) 100 b):Con Tryz.prog 128 [.d tV a,.d tV b] [.d tO (W4 (dec a) (dec b)),.d axf (TP (dec a) (dec b))]:=by
 refine aP pQ (ak0 _ _ ⟨0,?_⟩)
 obtain⟨ha,hb⟩:=h
 obtain⟨a,rfl,ba⟩:=aS ha
 obtain⟨b,rfl,bb⟩:=aS hb
 unfold Q0 W4 TP xx
 simp only[aj,am,aE,aF,aB,az,aW,aua,aub,Nat.reduceAdd,Nat.reduceLeDiff,aI]
 cases decide (a.2-b.2=0)<;>cases decide (b.1-a.1=0)<;>rfl
def ani:Ctx:=CX Co []
def adb(a b c:BV)(_k:KT):Option (List RV):=match decide (okR b.1∧okR a.1)with|true=>(match decide (okR c.2∧okR a.2)with|true=>(match decide (okR (hid (ag (ae b.1-ae a.1)))∧okR (hid (ag (ae c.2-ae a.2))))with|true=>(match decide (okR b.2∧okR a.2)with|true=>(match decide (okR c.1∧okR a.1)with|true=>(match decide (okR (hid (ag (ae b.2-ae a.2)))∧okR (hid (ag (ae c.1-ae a.1))))with|true=>(match decide (okR (hid (ag (ae (hid (ag (ae b.1-ae a.1)))*ae (hid (ag (ae c.2-ae a.2))))))∧okR (hid (ag (ae (hid (ag (ae b.2-ae a.2)))*ae (hid (ag (ae c.1-ae a.1)))))))with|true=>some [RV.d axf (aU (ae (hid (ag (ae (hid (ag (ae b.1-ae a.1)))*ae (hid (ag (ae c.2-ae a.2))))))) (ae (hid (ag (ae (hid (ag (ae b.2-ae a.2)))*ae (hid (ag (ae c.1-ae a.1))))))))]|false=>none)|false=>none)|false=>none)|false=>none)|false=>none)|false=>none)|false=>none
theorem amu(a b c:BV):RS ani 129 [.d tV a,.d tV b,.d tV c] (adb a b c):=rsX
theorem abJ(a b c:BV)(h:ok (Rat×Rat) 100 a∧ok (Rat×Rat) 100 b∧ok (Rat×Rat) 100 c):Con Tryz.prog 129 [.d tV a,.d tV b,.d tV c] [.d axf (sZ (dec a) (dec b) (dec c))]:=by
 refine aP pQ (amu _ _ _ ⟨0,?_⟩)
 obtain⟨ha,hb,hc⟩:=h
 obtain⟨a,rfl,ba⟩:=aS ha
 obtain⟨b,rfl,bb⟩:=aS hb
 obtain⟨c,rfl,bc⟩:=aS hc
 unfold adb
 simp only[aj,am,aE,aF,aB,az,aW,aua,aub,Nat.reduceAdd,Nat.reduceLeDiff]
 rfl
def akQ:Ctx:=CX Co []
def Uj(a b c:BV)(_k:KT):Option (List RV):=let y1:=hid (ag (ae b.1-ae a.1));let y2:=hid (ag (ae c.2-ae a.2));let y3:=hid (ag (ae b.2-ae a.2));let y4:=hid (ag (ae c.1-ae a.1));let y5:=hid (ag (ae y1*ae y2));let y6:=hid (ag (ae y3*ae y4));let y7:=hid (ag (ae y5-ae y6));let y8:=hid (ag (ae y1*ae y1));let y9:=hid (ag (ae y3*ae y3));let y10:=hid (ag (ae y4*ae y4));let y11:=hid (ag (ae y2*ae y2));let y12:=hid (ag (ae y8+ae y9));let y13:=hid (ag (ae y10+ae y11));let y14:=hid (ag (ae y12*ae y2));let y15:=hid (ag (ae y13*ae y3));let y16:=hid (ag (ae y14-ae y15));let y17:=hid (ag (ae y7+ae y7));let y18:=hid (ag (ae y13*ae y1));let y19:=hid (ag (ae y12*ae y4));let y20:=hid (ag (ae y18-ae y19));let y21:=hid (ag (ae y16/ae y17));let y22:=hid (ag (ae y20/ae y17));let y23:=hid (ag (ae y21*ae y21));let y24:=hid (ag (ae y22*ae y22));match decide (okR b.1∧okR a.1)with|true=>(match decide (okR b.2∧okR a.2)with|true=>(match decide (okR c.1∧okR a.1)with|true=>(match decide (okR c.2∧okR a.2)with|true=>(match decide (okR y1∧okR y2)with|true=>(match decide (okR y3∧okR y4)with|true=>(match decide (okR y5∧okR y6)with|true=>(match decide (okR y7)with|true=>(match(aU (ae y7) 0)==0 with|true=>some [RV.d tO (((false,[]),(false,[])),(((false,[]),(false,[])),((false,[]),(false,[])))),RV.d axf 6]|false=>(match decide (okR y7∧okR y7)with|true=>(match decide (okR y1∧okR y1)with|true=>(match decide (okR y3∧okR y3)with|true=>(match decide (okR y8∧okR y9)with|true=>(match decide (okR y4∧okR y4)with|true=>(match decide (okR y2∧okR y2)with|true=>(match decide (okR y10∧okR y11)with|true=>(match decide (okR y12∧okR y2)with|true=>(match decide (okR y13∧okR y3)with|true=>(match decide (okR y14∧okR y15)with|true=>(match decide (fh y16 y17)with|true=>(match decide (okR y13∧okR y1)with|true=>(match decide (okR y12∧okR y4)with|true=>(match decide (okR y18∧okR y19)with|true=>(match decide (fh y20 y17)with|true=>(match decide (okR a.1∧okR y21)with|true=>(match decide (okR a.2∧okR y22)with|true=>(match decide (okR y21∧okR y21)with|true=>(match decide (okR y22∧okR y22)with|true=>(match decide (okR y23∧okR y24)with|true=>some [RV.d tO (hid (ag (ae a.1+ae y21)),(hid (ag (ae a.2+ae y22)),hid (ag (ae y23+ae y24)))),RV.d axf 0]|false=>none)|false=>none)|false=>none)|false=>none)|false=>none)|false=>none)|false=>none)|false=>none)|false=>none)|false=>none)|false=>none)|false=>none)|false=>none)|false=>none)|false=>none)|false=>none)|false=>none)|false=>none)|false=>none)|false=>none))|false=>none)|false=>none)|false=>none)|false=>none)|false=>none)|false=>none)|false=>none)|false=>none
theorem ahj(a b c:BV):RS akQ 130 [.d tV a,.d tV b,.d tV c] (Uj a b c):=rsX
theorem Rj(a b c:BV)(h:ok (Rat×Rat) 100 a∧ok (Rat×Rat) 100 b∧ok (Rat×Rat) 100 c):Con Tryz.prog 130 [.d tV a,.d tV b,.d tV c] [.d tO (Re (dec a) (dec b) (dec c)),.d axf (Tf (dec a) (dec b) (dec c))]:=by
 refine aP pQ (ahj _ _ _ ⟨0,?_⟩)
 obtain⟨ha,hb,hc⟩:=h
 obtain⟨a,rfl,ba⟩:=aS ha
 obtain⟨b,rfl,bb⟩:=aS hb
 obtain⟨c,rfl,bc⟩:=aS hc
 have e0:(b.1-a.1)*(c.2-a.2)-(b.2-a.2)*(c.1-a.1)=ed a b c:=rfl
 have bD:Bd (ed a b c) 805:=inferInstanceAs (Bd ((b.1-a.1)*(c.2-a.2)-(b.2-a.2)*(c.1-a.1)) _)
 have eX:(((b.1-a.1)*(b.1-a.1)+(b.2-a.2)*(b.2-a.2))*(c.2-a.2)-((c.1-a.1)*(c.1-a.1)+(c.2-a.2)*(c.2-a.2))*(b.2-a.2))/(ed a b c+ed a b c)=wQ a b c:=rfl
 have eY:(((c.1-a.1)*(c.1-a.1)+(c.2-a.2)*(c.2-a.2))*(b.1-a.1)-((b.1-a.1)*(b.1-a.1)+(b.2-a.2)*(b.2-a.2))*(c.1-a.1))/(ed a b c+ed a b c)=uM a b c:=rfl
 have m1:Bd ((b.1-a.1)*(b.1-a.1)+(b.2-a.2)*(b.2-a.2)) _:=inferInstance
 have m2:Bd ((c.1-a.1)*(c.1-a.1)+(c.2-a.2)*(c.2-a.2)) _:=inferInstance
 have n1:Bd (((b.1-a.1)*(b.1-a.1)+(b.2-a.2)*(b.2-a.2))*(c.2-a.2)-((c.1-a.1)*(c.1-a.1)+(c.2-a.2)*(c.2-a.2))*(b.2-a.2)) _:=inferInstance
 have n2:Bd (((c.1-a.1)*(c.1-a.1)+(c.2-a.2)*(c.2-a.2))*(b.1-a.1)-((b.1-a.1)*(b.1-a.1)+(b.2-a.2)*(b.2-a.2))*(c.1-a.1)) _:=inferInstance
 have bX0:Bd ((((b.1-a.1)*(b.1-a.1)+(b.2-a.2)*(b.2-a.2))*(c.2-a.2)-((c.1-a.1)*(c.1-a.1)+(c.2-a.2)*(c.2-a.2))*(b.2-a.2))/(ed a b c+ed a b c)) _:=inferInstance
 have bX:Bd (wQ a b c) 4000:=by rw[←eX];exact bX0.mono (by decide)
 have bY0:Bd ((((c.1-a.1)*(c.1-a.1)+(c.2-a.2)*(c.2-a.2))*(b.1-a.1)-((b.1-a.1)*(b.1-a.1)+(b.2-a.2)*(b.2-a.2))*(c.1-a.1))/(ed a b c+ed a b c)) _:=inferInstance
 have bY:Bd (uM a b c) 4000:=by rw[←eY];exact bY0.mono (by decide)
 unfold Uj Re Tf
 simp only[aj,am,aE,aF,aB,az,aW,aua,aub,Nat.reduceAdd,Nat.reduceLeDiff,aI,e0]
 by_cases hd:ed a b c=0
 ·rw[at7 hd]
  rfl
 ·have h2:ed a b c+ed a b c≠0:=by grind
  rw[at9 hd]
  simp only[aD,Nat.reduceAdd,Nat.reduceLeDiff,cond_false,h2,ne_eq,avZ,eX,eY]
  rfl
def HO:aN:=spN false true [tV,tV] (fun x=>decide (ok (Rat×Rat) 100 x.1∧ok (Rat×Rat) 100 x.2.1)) (fun x=>[RV.d tO (hid (W4 (dec x.1) (dec x.2.1))),RV.d axf (TP (dec x.1) (dec x.2.1))])
theorem L7:SpK 128 HO:=spX fun x h=>by simp only[aj];exact WE x.1 x.2.1 (at6 h)
def U4:aN:=spN true true [tV,tV,tV] (fun x=>decide (ok (Rat×Rat) 100 x.1∧ok (Rat×Rat) 100 x.2.1∧ok (Rat×Rat) 100 x.2.2.1)) (fun x=>[RV.d axf (sZ (dec x.1) (dec x.2.1) (dec x.2.2.1))])
theorem WM:SpK 129 U4:=spX fun x h=>abJ x.1 x.2.1 x.2.2.1 (at6 h)
def I9:aN:=spN false true [tV,tV,tV] (fun x=>decide (ok (Rat×Rat) 100 x.1∧ok (Rat×Rat) 100 x.2.1∧ok (Rat×Rat) 100 x.2.2.1)) (fun x=>[RV.d tO (hid (Re (dec x.1) (dec x.2.1) (dec x.2.2.1))),RV.d axf (Tf (dec x.1) (dec x.2.1) (dec x.2.2.1))])
theorem MA:SpK 130 I9:=spX fun x h=>by simp only[aj];exact Rj x.1 x.2.1 x.2.2.1 (at6 h)
def RR:Env:=(128,HO)::(129,U4)::(130,I9)::Co
theorem Ea:EnvAll Tryz.prog RR:=⟨L7,WM,MA,pQ⟩
def agY:Ctx:=CX RR []
def Pf(a b:BV)(_k:KT):Option (List RV):=match decide (ok (Rat×Rat) 100 a∧ok (Rat×Rat) 100 b)with|true=>(match(TP (dec a) (dec b)) !=0 with|true=>some [RV.d tCU (false,((((false,[]),(false,[])),(((false,[]),(false,[])),((false,[]),(false,[])))),((((false,[]),(false,[])),(((false,[]),(false,[])),((false,[]),(false,[])))),(false,((((false,[]),(false,[])),(((false,[]),(false,[])),(((false,[]),(false,[])),(((false,[]),(false,[])),((false,[]),(false,[])))))),(((false,[]),(false,[])),(((false,[]),(false,[])),(((false,[]),(false,[])),(((false,[]),(false,[])),((false,[]),(false,[]))))))))))),RV.d axf 6]|false=>(match decide (ok (Rat×Rat) 100000 a)with|true=>(match decide (ok (Rat×Rat) 100000 b)with|true=>some [RV.d tCU (false,(hid (W4 (dec a) (dec b)),((((false,[]),(false,[])),(((false,[]),(false,[])),((false,[]),(false,[])))),(false,(hid (enc (atP (dec a))),hid (enc (atP (dec b)))))))),RV.d axf 0]|false=>none)|false=>none))|false=>none
theorem akF(a b:BV):RS agY 46 [.d tV a,.d tV b] (Pf a b):=rsX
theorem Ql(a b:BV)(h:ok (Rat×Rat) 100 a∧ok (Rat×Rat) 100 b):Con Tryz.prog 46 [.d tV a,.d tV b] [.d tCU (vF (dec a) (dec b)),.d axf (oB (dec a) (dec b))]:=by
 refine aP Ea (akF _ _ ⟨0,?_⟩)
 obtain⟨ha,hb⟩:=h
 obtain⟨a,rfl,ba⟩:=aS ha
 obtain⟨b,rfl,bb⟩:=aS hb
 unfold Pf vF oB TP W4
 simp only[aj,am,okd,aua,aub,Nat.reduceLeDiff]
 cases xx a b<;>rfl
def aj5:Ctx:=CX RR []
def QT(a b c:BV)(_k:KT):Option (List RV):=match decide (ok (Rat×Rat) 100 a∧ok (Rat×Rat) 100 b∧ok (Rat×Rat) 100 c)with|true=>(match decide (ok (Rat×Rat) 100 a∧ok (Rat×Rat) 100 b∧ok (Rat×Rat) 100 c)with|true=>(match(sZ (dec a) (dec b) (dec c))==0 with|true=>some [RV.d tCU (false,((((false,[]),(false,[])),(((false,[]),(false,[])),((false,[]),(false,[])))),((((false,[]),(false,[])),(((false,[]),(false,[])),((false,[]),(false,[])))),(false,((((false,[]),(false,[])),(((false,[]),(false,[])),(((false,[]),(false,[])),(((false,[]),(false,[])),((false,[]),(false,[])))))),(((false,[]),(false,[])),(((false,[]),(false,[])),(((false,[]),(false,[])),(((false,[]),(false,[])),((false,[]),(false,[]))))))))))),RV.d axf 6]|false=>(match(Tf (dec a) (dec b) (dec c)) !=0 with|true=>some [RV.d tCU (false,((((false,[]),(false,[])),(((false,[]),(false,[])),((false,[]),(false,[])))),((((false,[]),(false,[])),(((false,[]),(false,[])),((false,[]),(false,[])))),(false,((((false,[]),(false,[])),(((false,[]),(false,[])),(((false,[]),(false,[])),(((false,[]),(false,[])),((false,[]),(false,[])))))),(((false,[]),(false,[])),(((false,[]),(false,[])),(((false,[]),(false,[])),(((false,[]),(false,[])),((false,[]),(false,[]))))))))))),RV.d axf 6]|false=>(match decide (ok (Rat×Rat) 100000 a)with|true=>(match decide (ok (Rat×Rat) 100000 c)with|true=>some [RV.d tCU (true,((((false,[]),(false,[])),(((false,[]),(false,[])),((false,[]),(false,[])))),(hid (Re (dec a) (dec b) (dec c)),(decide ((sZ (dec a) (dec b) (dec c))<0),(hid (enc (atP (dec a))),hid (enc (atP (dec c)))))))),RV.d axf 0]|false=>none)|false=>none)))|false=>none)|false=>none
theorem ajY(a b c:BV):RS aj5 48 [.d tV a,.d tV b,.d tV c] (QT a b c):=rsX
theorem Vu(a b c:BV)(h:ok (Rat×Rat) 100 a∧ok (Rat×Rat) 100 b∧ok (Rat×Rat) 100 c):Con Tryz.prog 48 [.d tV a,.d tV b,.d tV c] [.d tCU (ve (dec a) (dec b) (dec c)),.d axf (n9 (dec a) (dec b) (dec c))]:=by
 refine aP Ea (ajY _ _ _ ⟨0,?_⟩)
 obtain⟨ha,hb,hc⟩:=h
 obtain⟨a,rfl,ba⟩:=aS ha
 obtain⟨b,rfl,bb⟩:=aS hb
 obtain⟨c,rfl,bc⟩:=aS hc
 unfold QT ve n9
 simp only[aj,am,okd,aua,aub,Nat.reduceLeDiff]
 rw[ai9]
 unfold Tf Re
 cases decide (ed a b c=0)<;>rfl
def Bm:aN:=spN false true [tV,tV] (fun x=>decide (ok (Rat×Rat) 100 x.1∧ok (Rat×Rat) 100 x.2.1)) (fun x=>[RV.d tCU (hid (vF (dec x.1) (dec x.2.1))),RV.d axf (oB (dec x.1) (dec x.2.1))])
theorem yz:SpK 46 Bm:=spX fun x h=>by simp only[aj];exact Ql x.1 x.2.1 (at6 h)
def zF:aN:=spN false true [tV,tV,tV] (fun x=>decide (ok (Rat×Rat) 100 x.1∧ok (Rat×Rat) 100 x.2.1∧ok (Rat×Rat) 100 x.2.2.1)) (fun x=>[RV.d tCU (hid (ve (dec x.1) (dec x.2.1) (dec x.2.2.1))),RV.d axf (n9 (dec x.1) (dec x.2.1) (dec x.2.2.1))])
theorem xI:SpK 48 zF:=spX fun x h=>by simp only[aj];exact Vu x.1 x.2.1 x.2.2.1 (at6 h)
def gf(c:Cv):List BP→BP→List BP
 |[],x=>[x]
 |y::r,x=>bif decide (dR c (dec y) (dec x)<0)then y::gf c r x else bif cj (dec y) (dec x)==0 then y::r else x::y::r
def fX(c:Cv)(l:List BP):List BP:=l.foldl (gf c) []
def tg(c:BCU)(l:List BP):Prop:=okC 4000 c∧l.length≤1000000∧∀x∈l,okP 4000 x
instance (c:BCU) (l:List BP):Decidable (tg c l):=by unfold tg;infer_instance
theorem ml{c:Cv}{x y:BP}:∀{r:List BP},y∈gf c r x→y∈r∨y=x
 |[],h=>by simp only[gf,List.mem_singleton]at h;exact .inr h
 |z::r,h=>by
  simp only[gf]at h
  cases h1:decide (dR c (dec z) (dec x)<0)<;>rw[h1]at h
  ·cases h2:cj (dec z) (dec x)==0<;>rw[h2]at h
   ·rcases auK.1 h with h|h
    ·exact .inr h
    ·exact .inl h
   ·exact .inl h
  ·rcases auK.1 h with h|h
   ·exact .inl (by simp[h])
   ·rcases ml h with h|h
    ·exact .inl (auY _ h)
    ·exact .inr h
theorem uD(c:Cv)(x:BP):∀r:List BP,(gf c r x).length≤r.length+1
 |[]=>by simp[gf]
 |z::r=>by
  have:=uD c x r
  simp only[gf]
  cases decide (dR c (dec z) (dec x)<0)
  ·cases cj (dec z) (dec x)==0<;>simp
  ·simp only[cond_true,auD];omega
theorem BL{c:Cv}:∀{l out:List BP} {y:BP},y∈l.foldl (gf c) out→y∈out∨y∈l
 |[],_,_,h=>.inl h
 |x::l,out,y,h=>by
  rcases BL (l:=l) (out:=gf c out x) h with h|h
  ·rcases ml h with h|h
   ·exact .inl h
   ·exact .inr (by simp[h])
  ·exact .inr (auY _ h)
theorem uk(c:Cv):∀(l out:List BP),(l.foldl (gf c) out).length≤out.length+l.length
 |[],_=>auj _
 |x::l,out=>by
  have h1:=uk c l (gf c out x)
  have h2:=uD c x out
  simp only[List.foldl_cons,auD]
  omega
theorem K8{α:Type}{l:List α}{k:Nat}(h:k<l.length):l.take (k+1)=l.take k++[l[k]]:=by rw[List.take_succ_eq_append_getElem h]
def af0:Env:=[(81,vt),(19,uo),(122,tz)]
theorem PT:EnvAll Tryz.prog af0:=⟨qI,pP,rG,trivial⟩
def akv:NT:=[((95,8),{keep:=[1,2,5,6],pure_:=[(5,tP)],hl:=1}),((95,21),{keep:=[1,2,5,6,7],pure_:=[(5,tP)],hl:=1})]
def sW:Ctx:=CX af0 akv
def iW(c:BCU)(l:List BP)(s6:Int)(s5:List BP):Cfg:=⟨95,[.blk 0,.seq 38],[(1,.d (.sl tP) l),(2,.box 0 0),(5,.d (.sl tP) s5),(6,SI s6)],[.box 43 [SB c.1,SB c.2.1.1.1.1,.d axe c.2.1.1.1.2,SB c.2.1.1.2.1,.d axe c.2.1.1.2.2,SB c.2.1.2.1.1.1,.d axe c.2.1.2.1.1.2,SB c.2.1.2.1.2.1,.d axe c.2.1.2.1.2.2,SB c.2.1.2.2.1.1,.d axe c.2.1.2.2.1.2,SB c.2.1.2.2.2.1,.d axe c.2.1.2.2.2.2,SB c.2.2.1.1.1.1,.d axe c.2.2.1.1.1.2,SB c.2.2.1.1.2.1,.d axe c.2.2.1.1.2.2,SB c.2.2.1.2.1.1.1,.d axe c.2.2.1.2.1.1.2,SB c.2.2.1.2.1.2.1,.d axe c.2.2.1.2.1.2.2,SB c.2.2.1.2.2.1.1,.d axe c.2.2.1.2.2.1.2,SB c.2.2.1.2.2.2.1,.d axe c.2.2.1.2.2.2.2,SB c.2.2.2.1,SB c.2.2.2.2.1.1.1.1,.d axe c.2.2.2.2.1.1.1.2,SB c.2.2.2.2.1.1.2.1,.d axe c.2.2.2.2.1.1.2.2,SB c.2.2.2.2.1.2.1.1.1,.d axe c.2.2.2.2.1.2.1.1.2,SB c.2.2.2.2.1.2.1.2.1,.d axe c.2.2.2.2.1.2.1.2.2,SB c.2.2.2.2.1.2.2.1.1.1,.d axe c.2.2.2.2.1.2.2.1.1.2,SB c.2.2.2.2.1.2.2.1.2.1,.d axe c.2.2.2.2.1.2.2.1.2.2,SB c.2.2.2.2.1.2.2.2.1.1.1,.d axe c.2.2.2.2.1.2.2.2.1.1.2,SB c.2.2.2.2.1.2.2.2.1.2.1,.d axe c.2.2.2.2.1.2.2.2.1.2.2,SB c.2.2.2.2.1.2.2.2.2.1.1,.d axe c.2.2.2.2.1.2.2.2.2.1.2,SB c.2.2.2.2.1.2.2.2.2.2.1,.d axe c.2.2.2.2.1.2.2.2.2.2.2,SB c.2.2.2.2.2.1.1.1,.d axe c.2.2.2.2.2.1.1.2,SB c.2.2.2.2.2.1.2.1,.d axe c.2.2.2.2.2.1.2.2,SB c.2.2.2.2.2.2.1.1.1,.d axe c.2.2.2.2.2.2.1.1.2,SB c.2.2.2.2.2.2.1.2.1,.d axe c.2.2.2.2.2.2.1.2.2,SB c.2.2.2.2.2.2.2.1.1.1,.d axe c.2.2.2.2.2.2.2.1.1.2,SB c.2.2.2.2.2.2.2.1.2.1,.d axe c.2.2.2.2.2.2.2.1.2.2,SB c.2.2.2.2.2.2.2.2.1.1.1,.d axe c.2.2.2.2.2.2.2.2.1.1.2,SB c.2.2.2.2.2.2.2.2.1.2.1,.d axe c.2.2.2.2.2.2.2.2.1.2.2,SB c.2.2.2.2.2.2.2.2.2.1.1,.d axe c.2.2.2.2.2.2.2.2.2.1.2,SB c.2.2.2.2.2.2.2.2.2.2.1,.d axe c.2.2.2.2.2.2.2.2.2.2.2]],0,[]⟩
def tv(c:BCU)(l s5:List BP)(s6 s7:Int):Cfg:=⟨95,[.blk 2,.seq 30,.blk 1,.seq 37,.lp 8,.blk 0,.seq 38],[(1,.d (.sl tP) l),(2,.box 0 0),(5,.d (.sl tP) s5),(6,SI s6),(7,SI s7)],[.box 43 [SB c.1,SB c.2.1.1.1.1,.d axe c.2.1.1.1.2,SB c.2.1.1.2.1,.d axe c.2.1.1.2.2,SB c.2.1.2.1.1.1,.d axe c.2.1.2.1.1.2,SB c.2.1.2.1.2.1,.d axe c.2.1.2.1.2.2,SB c.2.1.2.2.1.1,.d axe c.2.1.2.2.1.2,SB c.2.1.2.2.2.1,.d axe c.2.1.2.2.2.2,SB c.2.2.1.1.1.1,.d axe c.2.2.1.1.1.2,SB c.2.2.1.1.2.1,.d axe c.2.2.1.1.2.2,SB c.2.2.1.2.1.1.1,.d axe c.2.2.1.2.1.1.2,SB c.2.2.1.2.1.2.1,.d axe c.2.2.1.2.1.2.2,SB c.2.2.1.2.2.1.1,.d axe c.2.2.1.2.2.1.2,SB c.2.2.1.2.2.2.1,.d axe c.2.2.1.2.2.2.2,SB c.2.2.2.1,SB c.2.2.2.2.1.1.1.1,.d axe c.2.2.2.2.1.1.1.2,SB c.2.2.2.2.1.1.2.1,.d axe c.2.2.2.2.1.1.2.2,SB c.2.2.2.2.1.2.1.1.1,.d axe c.2.2.2.2.1.2.1.1.2,SB c.2.2.2.2.1.2.1.2.1,.d axe c.2.2.2.2.1.2.1.2.2,SB c.2.2.2.2.1.2.2.1.1.1,.d axe c.2.2.2.2.1.2.2.1.1.2,SB c.2.2.2.2.1.2.2.1.2.1,.d axe c.2.2.2.2.1.2.2.1.2.2,SB c.2.2.2.2.1.2.2.2.1.1.1,.d axe c.2.2.2.2.1.2.2.2.1.1.2,SB c.2.2.2.2.1.2.2.2.1.2.1,.d axe c.2.2.2.2.1.2.2.2.1.2.2,SB c.2.2.2.2.1.2.2.2.2.1.1,.d axe c.2.2.2.2.1.2.2.2.2.1.2,SB c.2.2.2.2.1.2.2.2.2.2.1,.d axe c.2.2.2.2.1.2.2.2.2.2.2,SB c.2.2.2.2.2.1.1.1,.d axe c.2.2.2.2.2.1.1.2,SB c.2.2.2.2.2.1.2.1,.d axe c.2.2.2.2.2.1.2.2,SB c.2.2.2.2.2.2.1.1.1,.d axe c.2.2.2.2.2.2.1.1.2,SB c.2.2.2.2.2.2.1.2.1,.d axe c.2.2.2.2.2.2.1.2.2,SB c.2.2.2.2.2.2.2.1.1.1,.d axe c.2.2.2.2.2.2.2.1.1.2,SB c.2.2.2.2.2.2.2.1.2.1,.d axe c.2.2.2.2.2.2.2.1.2.2,SB c.2.2.2.2.2.2.2.2.1.1.1,.d axe c.2.2.2.2.2.2.2.2.1.1.2,SB c.2.2.2.2.2.2.2.2.1.2.1,.d axe c.2.2.2.2.2.2.2.2.1.2.2,SB c.2.2.2.2.2.2.2.2.2.1.1,.d axe c.2.2.2.2.2.2.2.2.2.1.2,SB c.2.2.2.2.2.2.2.2.2.2.1,.d axe c.2.2.2.2.2.2.2.2.2.2.2]],0,[]⟩
def alJ(c:BCU)(l:List BP)(k:KT):Option (List RV):=k 8 (iW c l 0 ([]))
theorem amE(c:BCU)(l:List BP):RS sW 95 [.d tCU c,.d (.sl tP) l] (alJ c l):=rsX
def uU(c:BCU)(l:List BP)(s6:Int)(s5:List BP)(k:KT):Option (List RV):=match decide (s6<(l.length:Int))with|true=>k 21 (tv c l s5 s6 0)|false=>some [RV.d (.sl tP) s5]
theorem CG(c:BCU)(l:List BP)(s6:Int)(s5:List BP):RN sW 8 (iW c l s6 s5) (uU c l s6 s5):=rnX
def rZ(c:BCU)(l s5:List BP)(s6 s7:Int)(k:KT):Option (List RV):=match decide (s7<(s5.length:Int))with|true=>(match bH s5 s7 with|some x1=>(match bH l s6 with|some x2=>(match decide (okC 4000 c∧okP 4000 x1∧okP 4000 x2)with|true=>(match decide ((dR (dC c) (dec x1) (dec x2))<0)with|true=>k 21 (tv c l s5 s6 (i64.wrap (s7+1)))|false=>(match decide (s7<(s5.length:Int))with|true=>(match bH s5 s7 with|some x3=>(match bH l s6 with|some x4=>(match decide (okP 4000 x3∧okP 4000 x4)with|true=>(match cj (dec x3) (dec x4)==0 with|true=>k 8 (iW c l (i64.wrap (s6+1)) s5)|false=>(match decide ((0:Int)≤0∧0≤s7∧s7≤(s5.length:Int))with|true=>(match bH l s6 with|some x5=>(match decide ((0:Int)≤s7∧s7≤(s5.length:Int)∧(s5.length:Int)≤(s5.length:Int))with|true=>dup (.b (.b .l .l) .l) (match decide ((([]:List BP).length+((s5.take (s7).toNat).drop (0:Int).toNat).length)*320≤140737488355328∧([]:List BP).length+((s5.take (s7).toNat).drop (0:Int).toNat).length≤140737488355328)with|true=>(match decide (((([]:List BP)++((s5.take (s7).toNat).drop (0:Int).toNat)).length+([x5]).length)*320≤140737488355328∧(([]:List BP)++((s5.take (s7).toNat).drop (0:Int).toNat)).length+([x5]).length≤140737488355328)with|true=>(match decide ((((([]:List BP)++((s5.take (s7).toNat).drop (0:Int).toNat))++([x5])).length+((s5.take ((s5.length:Int)).toNat).drop (s7:Int).toNat).length)*320≤140737488355328∧((([]:List BP)++((s5.take (s7).toNat).drop (0:Int).toNat))++([x5])).length+((s5.take ((s5.length:Int)).toNat).drop (s7:Int).toNat).length≤140737488355328)with|true=>k 8 (iW c l (i64.wrap (s6+1)) (((([]:List BP)++((s5.take (s7).toNat).drop (0:Int).toNat))++([x5]))++((s5.take ((s5.length:Int)).toNat).drop (s7:Int).toNat)))|false=>none)|false=>none)|false=>none)|false=>none)|none=>none)|false=>none))|false=>none)|none=>none)|none=>none)|false=>(match decide ((0:Int)≤0∧0≤s7∧s7≤(s5.length:Int))with|true=>(match bH l s6 with|some x3=>(match decide ((0:Int)≤s7∧s7≤(s5.length:Int)∧(s5.length:Int)≤(s5.length:Int))with|true=>dup (.b (.b .l .l) .l) (match decide ((([]:List BP).length+((s5.take (s7).toNat).drop (0:Int).toNat).length)*320≤140737488355328∧([]:List BP).length+((s5.take (s7).toNat).drop (0:Int).toNat).length≤140737488355328)with|true=>(match decide (((([]:List BP)++((s5.take (s7).toNat).drop (0:Int).toNat)).length+([x3]).length)*320≤140737488355328∧(([]:List BP)++((s5.take (s7).toNat).drop (0:Int).toNat)).length+([x3]).length≤140737488355328)with|true=>(match decide ((((([]:List BP)++((s5.take (s7).toNat).drop (0:Int).toNat))++([x3])).length+((s5.take ((s5.length:Int)).toNat).drop (s7:Int).toNat).length)*320≤140737488355328∧((([]:List BP)++((s5.take (s7).toNat).drop (0:Int).toNat))++([x3])).length+((s5.take ((s5.length:Int)).toNat).drop (s7:Int).toNat).length≤140737488355328)with|true=>k 8 (iW c l (i64.wrap (s6+1)) (((([]:List BP)++((s5.take (s7).toNat).drop (0:Int).toNat))++([x3]))++((s5.take ((s5.length:Int)).toNat).drop (s7:Int).toNat)))|false=>none)|false=>none)|false=>none)|false=>none)|none=>none)|false=>none)))|false=>none)|none=>none)|none=>none)|false=>(match decide (s7<(s5.length:Int))with|true=>(match bH s5 s7 with|some x1=>(match bH l s6 with|some x2=>(match decide (okP 4000 x1∧okP 4000 x2)with|true=>(match cj (dec x1) (dec x2)==0 with|true=>k 8 (iW c l (i64.wrap (s6+1)) s5)|false=>(match decide ((0:Int)≤0∧0≤s7∧s7≤(s5.length:Int))with|true=>(match bH l s6 with|some x3=>(match decide ((0:Int)≤s7∧s7≤(s5.length:Int)∧(s5.length:Int)≤(s5.length:Int))with|true=>dup (.b (.b .l .l) .l) (match decide ((([]:List BP).length+((s5.take (s7).toNat).drop (0:Int).toNat).length)*320≤140737488355328∧([]:List BP).length+((s5.take (s7).toNat).drop (0:Int).toNat).length≤140737488355328)with|true=>(match decide (((([]:List BP)++((s5.take (s7).toNat).drop (0:Int).toNat)).length+([x3]).length)*320≤140737488355328∧(([]:List BP)++((s5.take (s7).toNat).drop (0:Int).toNat)).length+([x3]).length≤140737488355328)with|true=>(match decide ((((([]:List BP)++((s5.take (s7).toNat).drop (0:Int).toNat))++([x3])).length+((s5.take ((s5.length:Int)).toNat).drop (s7:Int).toNat).length)*320≤140737488355328∧((([]:List BP)++((s5.take (s7).toNat).drop (0:Int).toNat))++([x3])).length+((s5.take ((s5.length:Int)).toNat).drop (s7:Int).toNat).length≤140737488355328)with|true=>k 8 (iW c l (i64.wrap (s6+1)) (((([]:List BP)++((s5.take (s7).toNat).drop (0:Int).toNat))++([x3]))++((s5.take ((s5.length:Int)).toNat).drop (s7:Int).toNat)))|false=>none)|false=>none)|false=>none)|false=>none)|none=>none)|false=>none))|false=>none)|none=>none)|none=>none)|false=>(match decide ((0:Int)≤0∧0≤s7∧s7≤(s5.length:Int))with|true=>(match bH l s6 with|some x1=>(match decide ((0:Int)≤s7∧s7≤(s5.length:Int)∧(s5.length:Int)≤(s5.length:Int))with|true=>dup (.b (.b .l .l) .l) (match decide ((([]:List BP).length+((s5.take (s7).toNat).drop (0:Int).toNat).length)*320≤140737488355328∧([]:List BP).length+((s5.take (s7).toNat).drop (0:Int).toNat).length≤140737488355328)with|true=>(match decide (((([]:List BP)++((s5.take (s7).toNat).drop (0:Int).toNat)).length+([x1]).length)*320≤140737488355328∧(([]:List BP)++((s5.take (s7).toNat).drop (0:Int).toNat)).length+([x1]).length≤140737488355328)with|true=>(match decide ((((([]:List BP)++((s5.take (s7).toNat).drop (0:Int).toNat))++([x1])).length+((s5.take ((s5.length:Int)).toNat).drop (s7:Int).toNat).length)*320≤140737488355328∧((([]:List BP)++((s5.take (s7).toNat).drop (0:Int).toNat))++([x1])).length+((s5.take ((s5.length:Int)).toNat).drop (s7:Int).toNat).length≤140737488355328)with|true=>k 8 (iW c l (i64.wrap (s6+1)) (((([]:List BP)++((s5.take (s7).toNat).drop (0:Int).toNat))++([x1]))++((s5.take ((s5.length:Int)).toNat).drop (s7:Int).toNat)))|false=>none)|false=>none)|false=>none)|false=>none)|none=>none)|false=>none))
theorem xO(c:BCU)(l s5:List BP)(s6 s7:Int):RN sW 21 (tv c l s5 s6 s7) (rZ c l s5 s6 s7):=rnX
theorem aja(c:BCU)(l:List BP)(hc:okC 4000 c)(hl:∀x∈l,okP 4000 x)(out:List BP)(ho:∀x∈out,okP 4000 x)(hlen:out.length≤1000000)(i:Nat)(hi:i<l.length)(hi2:i≤1000000)(r:List RV)(h:sW.Runs 8 (iW c l ((i+1:Nat):Int) (gf (dC c) out l[i])) r):
  ∀(j k:Nat),k+j=out.length→gf (dC c) out l[i]=out.take k++gf (dC c) (out.drop k) l[i]→sW.Runs 21 (tv c l out (i:Int) (k:Int)) r:=by
 have e0:i64.wrap ((i:Int)+1)=((i+1:Nat):Int):=cO (by omega)
 have gl:bH l (i:Int)=some l[i]:=by rw[aM,at8 hi]
 have hx:=hl _ (au7 hi)
 have tl:out.take ((out.length:Int)).toNat=out:=by simp
 have put:∀k:Nat,k≤out.length→gf (dC c) out l[i]=out.take k++[l[i]]++out.drop k→∃n,(match decide ((0:Int)≤0∧0≤(k:Int)∧(k:Int)≤(out.length:Int))with
   |true=>(match bH l (i:Int)with
    |some x5=>(match decide ((0:Int)≤(k:Int)∧(k:Int)≤(out.length:Int)∧(out.length:Int)≤(out.length:Int))with
     |true=>(match decide ((([]:List BP).length+((out.take ((k:Int)).toNat).drop (0:Int).toNat).length)*320≤140737488355328∧([]:List BP).length+((out.take ((k:Int)).toNat).drop (0:Int).toNat).length≤140737488355328)with
      |true=>(match decide (((([]:List BP)++((out.take ((k:Int)).toNat).drop (0:Int).toNat)).length+([x5]).length)*320≤140737488355328∧(([]:List BP)++((out.take ((k:Int)).toNat).drop (0:Int).toNat)).length+([x5]).length≤140737488355328)with
       |true=>(match decide ((((([]:List BP)++((out.take ((k:Int)).toNat).drop (0:Int).toNat))++([x5])).length+((out.take ((out.length:Int)).toNat).drop ((k:Int)).toNat).length)*320≤140737488355328∧((([]:List BP)++((out.take ((k:Int)).toNat).drop (0:Int).toNat))++([x5])).length+((out.take ((out.length:Int)).toNat).drop ((k:Int)).toNat).length≤140737488355328)with
        |true=>sW.k n 8 (iW c l (i64.wrap ((i:Int)+1)) (((([]:List BP)++((out.take ((k:Int)).toNat).drop (0:Int).toNat))++([x5]))++((out.take ((out.length:Int)).toNat).drop ((k:Int)).toNat)))
        |false=>none)
       |false=>none)
      |false=>none)
     |false=>none)
    |none=>none)
   |false=>none)=some r:=by
  intro k hk he
  have e1:((out.take ((k:Int)).toNat).drop (0:Int).toNat)=out.take k:=by simp
  have e2:((out.take ((out.length:Int)).toNat).drop ((k:Int)).toNat)=out.drop k:=by simp
  have l1:(out.take k).length=k:=by simp;omega
  have l2:(out.drop k).length=out.length-k:=by simp
  obtain⟨n,hn⟩:=h
  refine⟨n,?_⟩
  rw[gl,dT (show(0:Int)≤0∧0≤(k:Int)∧(k:Int)≤(out.length:Int) by omega)]
  dsimp only
  rw[dT (show(0:Int)≤(k:Int)∧(k:Int)≤(out.length:Int)∧(out.length:Int)≤(out.length:Int) by omega)]
  simp only[e1,e2,awv,List.length_nil,avs,auD,l1,l2,auP]
  rw[dT (by omega),dT (by omega),dT (by omega),e0,←he]
  exact hn
 intro j
 induction j with
 |zero=>
  intro k hk he
  have hk:k=out.length:=by omega
  subst hk
  refine xO _ _ _ _ _ ?_
  unfold rZ
  rw[cN (by omega)]
  simp only[aK]
  refine put _ (auj _) ?_
  rw[he]
  simp[gf]
 |succ j ih=>
  intro k hk he
  have hkl:k<out.length:=by omega
  have go:bH out (k:Int)=some out[k]:=by rw[aM,at8 hkl]
  have ho1:=ho _ (au7 hkl)
  have ek:i64.wrap ((k:Int)+1)=((k+1:Nat):Int):=cO (by omega)
  have hd:out.drop k=out[k]::out.drop (k+1):=auv hkl
  refine xO _ _ _ _ _ ?_
  unfold rZ
  simp only[aK,cg hkl,go,gl,dT (show okC 4000 c∧okP 4000 out[k]∧okP 4000 l[i] from⟨hc,ho1,hx⟩),dT (show okP 4000 out[k]∧okP 4000 l[i] from⟨ho1,hx⟩)]
  rw[hd]at he
  simp only[gf]at he
  cases h1:decide (dR (dC c) (dec out[k]) (dec l[i])<0)<;>rw[h1]at he
  ·simp only[cond_false]at he
   cases h2:cj (dec out[k]) (dec l[i])==0<;>rw[h2]at he
   ·simp only[cond_false]at he
    have:=put k (by omega) (by rw[he,hd];simp)
    simp only[gl]at this
    exact this
   ·simp only[cond_true]at he
    rw[←hd,avu]at he
    obtain⟨n,hn⟩:=h
    refine⟨n,?_⟩
    rw[e0]
    rw[he]at hn
    exact hn
  ·simp only[cond_true]at he
   obtain⟨n,hn⟩:=ih (k+1) (by omega) (by rw[he,K8 hkl,avw];rfl)
   refine⟨n,?_⟩
   rw[ek]
   exact hn
theorem Yb(c:BCU)(l:List BP)(hc:okC 4000 c)(hl:∀x∈l,okP 4000 x)(hle:l.length≤1000000):∀(j i:Nat),i+j=l.length→∀out:List BP,(∀x∈out,okP 4000 x)→out.length≤i→sW.Runs 8 (iW c l (i:Int) out) [.d (.sl tP) ((l.drop i).foldl (gf (dC c)) out)]:=by
 intro j
 induction j with
 |zero=>
  intro i hi out ho hlen
  refine CG _ _ _ _ ⟨0,?_⟩
  unfold uU
  rw[cN (by omega),V6 (by omega)]
  rfl
 |succ j ih=>
  intro i hi out ho hlen
  have hil:i<l.length:=by omega
  have h2:=ih (i+1) (by omega) (gf (dC c) out l[i]) (fun x hx=>by
   rcases ml hx with h|h
   ·exact ho x h
   ·rw[h];exact hl _ (au7 hil)) (aur (uD _ _ _) (by omega))
  obtain⟨n,hn⟩:=aja c l hc hl out ho (by omega) i hil (by omega) _ h2 out.length 0 (by omega) (by simp)
  refine CG _ _ _ _ ⟨n,?_⟩
  unfold uU
  rw[cg hil,kn hil,List.foldl_cons]
  exact hn
theorem aap(c:BCU)(l:List BP)(h:tg c l):Con Tryz.prog 95 [.d tCU c,.d (.sl tP) l] [.d (.sl tP) (fX (dC c) l)]:=by
 obtain⟨hc,hle,hl⟩:=h
 refine aP PT (show sW.Res _ _ _ from ?_)
 obtain⟨n,hn⟩:=Yb c l hc hl hle l.length 0 (by omega) [] (fun x hx=>by cases hx) (auj _)
 exact amE _ _ ⟨n,hn⟩
def HF:aN:=spN false false [tCU,(.sl tP)] (fun x=>decide (tg x.1 x.2.1)) (fun x=>[RV.d (.sl tP) (fX (dC x.1) x.2.1)])
theorem ED:SpK 95 HF:=spX fun x h=>aap x.1 x.2.1 (at6 h)
def u6(c:BCU)(x y:BP):BCU:=(c.1,c.2.1,c.2.2.1,c.2.2.2.1,x,y)
def xC(c:BCU):List BP→List BCU
 |[]=>[]
 |x::r=>match r with
  |[]=>[]
  |y::_=>u6 c x y::xC c r
def qU(c:BCU)(l:List BP):List BP:=fX (dC c) ([c.2.2.2.2.1,c.2.2.2.2.2]++l)
def gY(c:BCU)(l:List BP):List BCU:=xC c (qU c l)
def xw(c:BCU)(l:List BP):Prop:=okC 3500 c∧l.length≤900000∧∀x∈l,okP 3500 x∧onR (dC c) (dec x)=true
instance (c:BCU) (l:List BP):Decidable (xw c l):=by unfold xw;infer_instance
theorem abN{c:BCU}{l:List BP}(h:xw c l):tg c ([c.2.2.2.2.1,c.2.2.2.2.2]++l):=by
 obtain⟨h1,h2,h3⟩:=h
 have h4:=dt (k:=4000) h1 (by decide) (by decide)
 refine⟨h4,by simp;omega,fun x hx=>?_⟩
 rcases auN.1 hx with hx|hx
 ·simp only[auK,List.not_mem_nil,or_false]at hx
  rcases hx with rfl|rfl
  ·exact h4.2.2.1
  ·exact h4.2.2.2
 ·exact cJ (h3 x hx).1 (by decide) (by decide)
theorem HZ(c:BCU)(l:List BP):(qU c l).length≤l.length+2:=by
 have:=uk (dC c) ([c.2.2.2.2.1,c.2.2.2.2.2]++l) []
 unfold qU fX
 simp at this ⊢
 omega
theorem Jp{c:BCU}{l:List BP}{x:BP}(h:x∈qU c l):x=c.2.2.2.2.1∨x=c.2.2.2.2.2∨x∈l:=by
 rcases BL (out:=[]) h with h|h
 ·cases h
 ·rcases auN.1 h with h|h
  ·simp only[auK,List.not_mem_nil,or_false]at h
   rcases h with h|h
   ·exact .inl h
   ·exact .inr (.inl h)
  ·exact .inr (.inr h)
theorem Km{c p:BCU}:∀{s:List BP},p∈xC c s→∃x y,x∈s∧y∈s∧p=u6 c x y
 |[],h=>by cases h
 |[_],h=>by cases h
 |x::y::r,h=>by
  simp only[xC]at h
  rcases auK.1 h with h|h
  ·exact⟨x,y,by simp,by simp,h⟩
  ·obtain⟨a,b,h1,h2,h3⟩:=Km (s:=y::r) h
   exact⟨a,b,auY _ h1,auY _ h2,h3⟩
def aee:Env:=[(81,vt),(19,uo),(122,tz),(17,uV),(96,nX),(95,HF)]
theorem Qu:EnvAll Tryz.prog aee:=⟨qI,pP,rG,qo,kr,ED,trivial⟩
def aj6:NT:=[((28,6),{keep:=[1,2,6],hl:=1}),((28,31),{keep:=[2,7,8,9],own:=[(8,43,tCU)],hl:=3})]
def zv:Ctx:=CX aee aj6
def AZ(c:BCU)(l:List BP)(s6:Int):Cfg:=⟨28,[.blk 0,.seq 23],[(1,.d (.sl tP) l),(2,.box 0 0),(6,SI s6)],[.box 43 [SB c.1,SB c.2.1.1.1.1,.d axe c.2.1.1.1.2,SB c.2.1.1.2.1,.d axe c.2.1.1.2.2,SB c.2.1.2.1.1.1,.d axe c.2.1.2.1.1.2,SB c.2.1.2.1.2.1,.d axe c.2.1.2.1.2.2,SB c.2.1.2.2.1.1,.d axe c.2.1.2.2.1.2,SB c.2.1.2.2.2.1,.d axe c.2.1.2.2.2.2,SB c.2.2.1.1.1.1,.d axe c.2.2.1.1.1.2,SB c.2.2.1.1.2.1,.d axe c.2.2.1.1.2.2,SB c.2.2.1.2.1.1.1,.d axe c.2.2.1.2.1.1.2,SB c.2.2.1.2.1.2.1,.d axe c.2.2.1.2.1.2.2,SB c.2.2.1.2.2.1.1,.d axe c.2.2.1.2.2.1.2,SB c.2.2.1.2.2.2.1,.d axe c.2.2.1.2.2.2.2,SB c.2.2.2.1,SB c.2.2.2.2.1.1.1.1,.d axe c.2.2.2.2.1.1.1.2,SB c.2.2.2.2.1.1.2.1,.d axe c.2.2.2.2.1.1.2.2,SB c.2.2.2.2.1.2.1.1.1,.d axe c.2.2.2.2.1.2.1.1.2,SB c.2.2.2.2.1.2.1.2.1,.d axe c.2.2.2.2.1.2.1.2.2,SB c.2.2.2.2.1.2.2.1.1.1,.d axe c.2.2.2.2.1.2.2.1.1.2,SB c.2.2.2.2.1.2.2.1.2.1,.d axe c.2.2.2.2.1.2.2.1.2.2,SB c.2.2.2.2.1.2.2.2.1.1.1,.d axe c.2.2.2.2.1.2.2.2.1.1.2,SB c.2.2.2.2.1.2.2.2.1.2.1,.d axe c.2.2.2.2.1.2.2.2.1.2.2,SB c.2.2.2.2.1.2.2.2.2.1.1,.d axe c.2.2.2.2.1.2.2.2.2.1.2,SB c.2.2.2.2.1.2.2.2.2.2.1,.d axe c.2.2.2.2.1.2.2.2.2.2.2,SB c.2.2.2.2.2.1.1.1,.d axe c.2.2.2.2.2.1.1.2,SB c.2.2.2.2.2.1.2.1,.d axe c.2.2.2.2.2.1.2.2,SB c.2.2.2.2.2.2.1.1.1,.d axe c.2.2.2.2.2.2.1.1.2,SB c.2.2.2.2.2.2.1.2.1,.d axe c.2.2.2.2.2.2.1.2.2,SB c.2.2.2.2.2.2.2.1.1.1,.d axe c.2.2.2.2.2.2.2.1.1.2,SB c.2.2.2.2.2.2.2.1.2.1,.d axe c.2.2.2.2.2.2.2.1.2.2,SB c.2.2.2.2.2.2.2.2.1.1.1,.d axe c.2.2.2.2.2.2.2.2.1.1.2,SB c.2.2.2.2.2.2.2.2.1.2.1,.d axe c.2.2.2.2.2.2.2.2.1.2.2,SB c.2.2.2.2.2.2.2.2.2.1.1,.d axe c.2.2.2.2.2.2.2.2.2.1.2,SB c.2.2.2.2.2.2.2.2.2.2.1,.d axe c.2.2.2.2.2.2.2.2.2.2.2]],0,[]⟩
def uj(c:BCU)(l:List BP)(s9:Int)(r2:List BCU):Cfg:=⟨28,[.blk 2,.seq 46],[(2,.box 0 0),(7,.d (.sl tP) (fX (dC c) (([c.2.2.2.2.1,c.2.2.2.2.2])++l))),(8,.own 2),(9,SI s9)],[.box 43 [SB c.1,SB c.2.1.1.1.1,.d axe c.2.1.1.1.2,SB c.2.1.1.2.1,.d axe c.2.1.1.2.2,SB c.2.1.2.1.1.1,.d axe c.2.1.2.1.1.2,SB c.2.1.2.1.2.1,.d axe c.2.1.2.1.2.2,SB c.2.1.2.2.1.1,.d axe c.2.1.2.2.1.2,SB c.2.1.2.2.2.1,.d axe c.2.1.2.2.2.2,SB c.2.2.1.1.1.1,.d axe c.2.2.1.1.1.2,SB c.2.2.1.1.2.1,.d axe c.2.2.1.1.2.2,SB c.2.2.1.2.1.1.1,.d axe c.2.2.1.2.1.1.2,SB c.2.2.1.2.1.2.1,.d axe c.2.2.1.2.1.2.2,SB c.2.2.1.2.2.1.1,.d axe c.2.2.1.2.2.1.2,SB c.2.2.1.2.2.2.1,.d axe c.2.2.1.2.2.2.2,SB c.2.2.2.1,SB c.2.2.2.2.1.1.1.1,.d axe c.2.2.2.2.1.1.1.2,SB c.2.2.2.2.1.1.2.1,.d axe c.2.2.2.2.1.1.2.2,SB c.2.2.2.2.1.2.1.1.1,.d axe c.2.2.2.2.1.2.1.1.2,SB c.2.2.2.2.1.2.1.2.1,.d axe c.2.2.2.2.1.2.1.2.2,SB c.2.2.2.2.1.2.2.1.1.1,.d axe c.2.2.2.2.1.2.2.1.1.2,SB c.2.2.2.2.1.2.2.1.2.1,.d axe c.2.2.2.2.1.2.2.1.2.2,SB c.2.2.2.2.1.2.2.2.1.1.1,.d axe c.2.2.2.2.1.2.2.2.1.1.2,SB c.2.2.2.2.1.2.2.2.1.2.1,.d axe c.2.2.2.2.1.2.2.2.1.2.2,SB c.2.2.2.2.1.2.2.2.2.1.1,.d axe c.2.2.2.2.1.2.2.2.2.1.2,SB c.2.2.2.2.1.2.2.2.2.2.1,.d axe c.2.2.2.2.1.2.2.2.2.2.2,SB c.2.2.2.2.2.1.1.1,.d axe c.2.2.2.2.2.1.1.2,SB c.2.2.2.2.2.1.2.1,.d axe c.2.2.2.2.2.1.2.2,SB c.2.2.2.2.2.2.1.1.1,.d axe c.2.2.2.2.2.2.1.1.2,SB c.2.2.2.2.2.2.1.2.1,.d axe c.2.2.2.2.2.2.1.2.2,SB c.2.2.2.2.2.2.2.1.1.1,.d axe c.2.2.2.2.2.2.2.1.1.2,SB c.2.2.2.2.2.2.2.1.2.1,.d axe c.2.2.2.2.2.2.2.1.2.2,SB c.2.2.2.2.2.2.2.2.1.1.1,.d axe c.2.2.2.2.2.2.2.2.1.1.2,SB c.2.2.2.2.2.2.2.2.1.2.1,.d axe c.2.2.2.2.2.2.2.2.1.2.2,SB c.2.2.2.2.2.2.2.2.2.1.1,.d axe c.2.2.2.2.2.2.2.2.2.1.2,SB c.2.2.2.2.2.2.2.2.2.2.1,.d axe c.2.2.2.2.2.2.2.2.2.2.2],.gone,.row 43 tCU r2],0,[]⟩
def ase(c:BCU)(l:List BP)(k:KT):Option (List RV):=k 6 (AZ c l 0)
theorem amq(c:BCU)(l:List BP):RS zv 28 [.d tCU c,.d (.sl tP) l] (ase c l):=rsX
def uv(c:BCU)(l:List BP)(s6:Int)(k:KT):Option (List RV):=match decide (s6<(l.length:Int))with|true=>(match bH l s6 with|some x1=>(match decide (okC 3500 c∧okP 3500 x1)with|true=>(match !(onR (dC c) (dec x1))with|true=>some [RV.d (.sl tCU) ([]),RV.d axf 1]|false=>k 6 (AZ c l (i64.wrap (s6+1))))|false=>none)|none=>none)|false=>(match decide ((([c.2.2.2.2.1,c.2.2.2.2.2]).length+l.length)*320≤140737488355328∧([c.2.2.2.2.1,c.2.2.2.2.2]).length+l.length≤140737488355328)with|true=>(match decide (tg c (([c.2.2.2.2.1,c.2.2.2.2.2])++l))with|true=>k 31 (uj c l 1 ([]))|false=>none)|false=>none)
theorem Do(c:BCU)(l:List BP)(s6:Int):RN zv 6 (AZ c l s6) (uv c l s6):=rnX
def qR(c:BCU)(l:List BP)(s9:Int)(r2:List BCU)(k:KT):Option (List RV):=match decide (s9<((fX (dC c) (([c.2.2.2.2.1,c.2.2.2.2.2])++l)).length:Int))with|true=>(match bH (fX (dC c) (([c.2.2.2.2.1,c.2.2.2.2.2])++l)) (i64.wrap (s9-1))with|some x1=>(match bH (fX (dC c) (([c.2.2.2.2.1,c.2.2.2.2.2])++l)) s9 with|some x2=>dup (.b .l .l) (match decide ((r2.length+([(c.1,(c.2.1,(c.2.2.1,(c.2.2.2.1,(x1,x2)))))]).length)*1040≤140737488355328∧r2.length+([(c.1,(c.2.1,(c.2.2.1,(c.2.2.2.1,(x1,x2)))))]).length≤140737488355328)with|true=>k 31 (uj c l (i64.wrap (s9+1)) (r2++([(c.1,(c.2.1,(c.2.2.1,(c.2.2.2.1,(x1,x2)))))])))|false=>none)|none=>none)|none=>none)|false=>some [RV.d (.sl tCU) r2,RV.d axf 0]
theorem zA(c:BCU)(l:List BP)(s9:Int)(r2:List BCU):RN zv 31 (uj c l s9 r2) (qR c l s9 r2):=rnX
theorem ag2(c:BCU)(l:List BP)(hle:l.length≤900000)(S:List BP)(hS:S=qU c l):∀(j i:Nat),1≤i→i+j=max S.length 1→∀out:List BCU,out.length≤i→zv.Runs 31 (uj c l (i:Int) out) [.d (.sl tCU) (out++xC c (S.drop (i-1))),.d axf (0:Int)]:=by
 have hSl:=HZ c l
 rw[←hS]at hSl
 have eS:fX (dC c) ([c.2.2.2.2.1,c.2.2.2.2.2]++l)=S:=hS.symm
 intro j
 induction j with
 |zero=>
  intro i h1 hi out hlen
  refine zA _ _ _ _ ⟨0,?_⟩
  unfold qR
  rw[eS,cN (by omega)]
  have:xC c (S.drop (i-1))=[]:=by
   have hl:(S.drop (i-1)).length≤1:=by rw[awk];omega
   match S.drop (i-1),hl with
   |[],_=>rfl
   |[_],_=>rfl
   |_::_::_,h=>simp at h
  rw[this,auZ]
 |succ j ih=>
  intro i h1 hi out hlen
  have hil:i<S.length:=by omega
  have e1:i64.wrap ((i:Int)-1)=((i-1:Nat):Int):=by rw[bj (by omega) (by omega)];omega
  have e2:i64.wrap ((i:Int)+1)=((i+1:Nat):Int):=cO (by omega)
  have g1:bH S ((i-1:Nat):Int)=some S[i-1]:=by rw[aM,at8 (by omega)]
  have g2:bH S (i:Int)=some S[i]:=by rw[aM,at8 hil]
  obtain⟨n,hn⟩:=ih (i+1) (by omega) (by omega) (out++[u6 c S[i-1] S[i]]) (by simp;omega)
  refine zA _ _ _ _ ⟨n,?_⟩
  unfold qR
  rw[eS]
  simp only[aK,cg hil,e1,e2,g1,g2]
  rw[dT (by simp;omega)]
  dsimp only
  have hd:S.drop (i-1)=S[i-1]::S.drop i:=by
   have:=auv (l:=S) (i:=i-1) (by omega)
   rw[this,show i-1+1=i by omega]
  have hd2:S.drop i=S[i]::S.drop (i+1):=auv hil
  rw[hd,hd2]
  rw[show i+1-1=i by omega,hd2,avw]at hn
  exact hn
theorem akf(c:BCU)(l:List BP)(h:xw c l):∀(j i:Nat),i+j=l.length→zv.Runs 6 (AZ c l (i:Int)) [.d (.sl tCU) (gY c l),.d axf (0:Int)]:=by
 have hs:=abN h
 obtain⟨hc,hle,hl⟩:=h
 intro j
 induction j with
 |zero=>
  intro i hi
  obtain⟨n,hn⟩:=ag2 c l hle (qU c l) rfl (max (qU c l).length 1-1) 1 (auj _) (by omega) [] (by simp)
  refine Do _ _ _ ⟨n,?_⟩
  unfold uv
  rw[cN (by omega),dT (by simp;omega),dT hs]
  exact hn
 |succ j ih=>
  intro i hi
  have hil:i<l.length:=by omega
  obtain⟨n,hn⟩:=ih (i+1) (by omega)
  have h1:=hl _ (au7 hil)
  refine Do _ _ _ ⟨n,?_⟩
  unfold uv
  rw[cg hil,aM,at8 hil,cO (by omega)]
  dsimp only
  rw[dT (show okC 3500 c∧okP 3500 l[i] from⟨hc,h1.1⟩),h1.2]
  exact hn
theorem aaD(c:BCU)(l:List BP)(h:xw c l):Con Tryz.prog 28 [.d tCU c,.d (.sl tP) l] [.d (.sl tCU) (gY c l),.d axf 0]:=by
 refine aP Qu (show zv.Res _ _ _ from ?_)
 obtain⟨n,hn⟩:=akf c l h l.length 0 (by omega)
 exact amq _ _ ⟨n,hn⟩
def Hl:aN:=spN false false [tCU,(.sl tP)] (fun x=>decide (xw x.1 x.2.1)) (fun x=>[RV.d (.sl tCU) (gY x.1 x.2.1),RV.d axf 0])
theorem EA:SpK 28 Hl:=spX fun x h=>aaD x.1 x.2.1 (at6 h)
def rC(n d:Int):Prop:=aY n∧aY d∧0<d
instance (n d:Int):Decidable (rC n d):=by unfold rC;infer_instance
def Ju:aN:=spN false true [axf] (fun x=>decide (aY x.1)) (fun x=>[RV.d tI (hid (ak x.1))])
theorem LP:SpK 134 Ju:=spX fun x h=>by simp only[aj];exact Ci x.1 (at6 h)
def P9:aN:=spN false true [tI,tI] (fun x=>decide (gi x.1 x.2.1)) (fun x=>[RV.d tR (hid (eg x.1 x.2.1))])
theorem Pz:SpK 135 P9:=spX fun x h=>by simp only[aj];exact Kr x.1 x.2.1 (at6 h)
def VC:Env:=[(134,Ju),(135,P9)]
theorem Lz:EnvAll Tryz.prog VC:=⟨LP,Pz,trivial⟩
def alc:Ctx:=CX VC []
def Q8(n d:Int)(_k:KT):Option (List RV):=match d==0 with|true=>(match decide (aY (0:Int))with|true=>(match decide (aY (1:Int))with|true=>(match decide (gi (hid (ak (0:Int))) (hid (ak (1:Int))))with|true=>some [RV.d tR (hid (eg (hid (ak (0:Int))) (hid (ak (1:Int)))))]|false=>none)|false=>none)|false=>none)|false=>(match decide (aY n)with|true=>(match decide (aY d)with|true=>(match decide (gi (hid (ak n)) (hid (ak d)))with|true=>some [RV.d tR (hid (eg (hid (ak n)) (hid (ak d))))]|false=>none)|false=>none)|false=>none)
theorem akB(n d:Int):RS alc 52 [SI n,SI d] (Q8 n d):=rsX
theorem Ry(n d:Int)(h:rC n d):Con Tryz.prog 52 [.d axf n,.d axf d] [.d tR (ag (Rat.divInt n d))]:=by
 refine aP Lz (akB _ _ ⟨0,?_⟩)
 obtain⟨hn,hd,h0⟩:=h
 have hne:(d==0)=false:=by simp;omega
 unfold Q8
 rw[hne,dT hn,dT hd]
 simp only[aj]
 rw[dT (show gi (ak n) (ak d) from⟨bu (by have:=iz hn;omega),bu (by have:=iz hd;omega),by rw[dec_enc];omega⟩)]
 unfold eg
 rw[dec_enc,dec_enc]
def tB:aN:=spN false true [axf,axf] (fun x=>decide (rC x.1 x.2.1)) (fun x=>[RV.d tR (hid (ag (Rat.divInt x.1 x.2.1)))])
theorem rS:SpK 52 tB:=spX fun x h=>by simp only[aj];exact Ry x.1 x.2.1 (at6 h)
theorem Af{n d:Int}(h1:aY n)(h2:aY d)(h0:0<d):Bd (Rat.divInt n d) 3:=by
 obtain⟨k,rfl⟩:=avl (show 0≤d by omega)
 exact⟨sN (by omega) (iz h1) (iz h2)⟩
section
theorem Con.new_d{P:Program}{f:Nat}{args:List SV}{et:TypeId}{e:Ty}{xs:List e.D}(h:Con P f args [.new et e xs]):Con P f args [.d (.sl e) xs]:=by
 intro A w vs hI ha
 refine(h A w vs hI ha).mono ?_
 rintro en w' ⟨v,rfl,hb,css,ho,ha2,hn⟩
 refine⟨v,rfl,hb,?_⟩
 obtain⟨hlen,p,c,hv,h1,h2,h3⟩:=Rd.of_own hn ho
 subst hv
 refine⟨[.slice p xs.length c],⟨p,xs.length,c,css,rfl,rfl,h1,h2,bW (fun _ _ h=>Ty.rd_keep ⟨auj _,fun b _ hb=>hb.1,fun _ _ _=>rfl⟩ h) ha2,fun h0=>?_⟩,rfl⟩
 obtain⟨b,off,rfl,h5,h6⟩:=h3 h0
 refine⟨b,off,rfl,.inr ?_,h5,h6⟩
 rcases ho.2 with⟨h7,_⟩|⟨g,cap,cur,h7,h8,_⟩
 ·cases h7
 ·injection h7 with h7
  injection h7 with h7
  injection h7 with h7
  subst h7
  exact h8
class Bb (q:Rat) (n d:outParam Nat):Prop where
 nu:q.num.natAbs≤2^n
 de:q.den≤2^d
theorem CF{n:Int}{d a b:Nat}(hd:d≠0)(h1:n.natAbs≤2^a)(h2:d≤2^b):(mkRat n d).num.natAbs≤2^a∧(mkRat n d).den≤2^b:=by
 rw[awY,awZ,aus hd,aus hd]
 constructor
 ·refine aur ?_ h1
  refine(Jo n (d.gcd n.natAbs)).resolve_right (fun h=>h ?_)
  exact Int.ofNat_dvd_left.2 (Nat.gcd_dvd_right d n.natAbs)
 ·exact aur (Nat.div_le_self _ _) h2
theorem vz{a b m n:Nat}(h:a≤2^m)(h':b≤2^n):a*b≤2^(m+n):=by
 rw[Nat.pow_add]
 exact awn h h'
theorem arx{x y m n:Nat}(h:x≤2^m)(h':y≤2^n):x+y≤2^(mx m n+1):=by
 have h1:=aur h (Nat.pow_le_pow_right (by decide) (BX m n))
 have h2:=aur h' (Nat.pow_le_pow_right (by decide) (BF m n))
 rw[Nat.pow_succ]
 omega
section
variable {a b:Rat} {m n d e:Nat}
instance as2 [h:Bb a m d] [h':Bb b n e]:Bb (a+b) (mx (m+e) (n+d)+1) (d+e):=by
 have d1:=a.den_pos
 have d2:=b.den_pos
 have:=CF (n:=a.num*(b.den:Int)+b.num*(a.den:Int)) (d:=a.den*b.den) (a:=mx (m+e) (n+d)+1) (b:=d+e) (awA (by omega) (by omega)) (by
  refine aur (Int.natAbs_add_le _ _) ?_
  rw[awK,awK,avt,avt]
  exact arx (vz h.nu h'.de) (vz h'.nu h.de)) (vz h.de h'.de)
 rw[←Rat.add_def']at this
 exact⟨this.1,this.2⟩
instance asu [h:Bb a m d]:Bb (-a) m d:=⟨by rw[Rat.neg_num,Int.natAbs_neg];exact h.nu,h.de⟩
instance as8 [h:Bb a m d] [h':Bb b n e]:Bb (a-b) (mx (m+e) (n+d)+1) (d+e):=by
 rw[awu]
 infer_instance
instance atq [h:Bb a m d] [h':Bb b n e]:Bb (a*b) (m+n) (d+e):=by
 have d1:=a.den_pos
 have d2:=b.den_pos
 have:=CF (n:=a.num*b.num) (d:=a.den*b.den) (a:=m+n) (b:=d+e) (awA (by omega) (by omega)) (by
  rw[awK]
  exact vz h.nu h'.nu) (vz h.de h'.de)
 rw[←Rat.mul_def']at this
 exact⟨this.1,this.2⟩
theorem ala [h:Bb a m d]:Bb a⁻¹ d m:=by
 by_cases h0:a=0
 ·subst h0
  rw[Rat.inv_zero]
  exact⟨aw1 _,Nat.one_le_two_pow⟩
 ·have hn:a.num≠0:=fun e=>h0 (Rat.num_eq_zero.1 e)
  have h1:=h.nu
  have h2:=h.de
  rw[Rat.inv_def]
  rcases avU hn with h3|h3
  ·rw[←Rat.neg_divInt_neg,show-a.num=(((-a.num).toNat:Nat):Int) by omega,awm]
   have:=CF (n:= -(a.den:Int)) (d:=(-a.num).toNat) (a:=d) (b:=m) (by omega) (by rw[Int.natAbs_neg];exact h2) (by omega)
   exact⟨this.1,this.2⟩
  ·rw[show a.num=((a.num.toNat:Nat):Int) by omega,awm]
   have:=CF (n:=(a.den:Int)) (d:=a.num.toNat) (a:=d) (b:=m) (by omega) h2 (by omega)
   exact⟨this.1,this.2⟩
instance att [h:Bb a m d] [h':Bb b n e]:Bb (a/b) (m+e) (d+n):=by
 rw[awN]
 have:=ala (h:=h')
 infer_instance
theorem aft:∀k:Nat,((2^(29*k):Nat):Int)≤pw k
 |0=>by decide
 |k+1=>by
  have ih:=aft k
  have e:2^(29*(k+1))=2^(29*k)*536870912:=by
   rw[Nat.mul_add,Nat.pow_add]
  rw[e,ce,avv]
  have:(0:Int)≤pw k:=Int.le_trans (Int.natCast_nonneg _) ih
  omega
theorem ac9{z:Int}{n:Nat}(h:z.natAbs≤2^n):szI z≤n/29+1:=by
 have h1:=aft (n/29+1)
 have h2:2^n<2^(29*(n/29+1)):=Nat.pow_lt_pow_right (by decide) (by omega)
 exact eE (by omega) (by omega)
theorem CU [h:Bb a m d]{k:Nat}(hm:m/29+1≤k)(hd:d/29+1≤k):Bd a k:=⟨⟨aur (ac9 h.nu) hm,aur (ac9 (z:=(a.den:Int)) h.de) hd⟩⟩
end
theorem acS{n d:Int}{a b:Nat}(h0:0<d)(h1:n.natAbs≤2^a)(h2:d.natAbs≤2^b):Bb (Rat.divInt n d) a b:=by
 obtain⟨k,rfl⟩:=avl (show 0≤d by omega)
 rw[awm]
 have:=CF (n:=n) (d:=k) (by omega) h1 h2
 exact⟨this.1,this.2⟩
def du(x:BO3):Prop:=ok Rat 12 x.1∧ok Rat 12 x.2.1∧ok Rat 63 x.2.2∧((dec x:Ln).1≠0∨(dec x:Ln).2.1≠0)
instance (x:BO3):Decidable (du x):=by unfold du;infer_instance
def dg(x:BO3):Prop:=ok Rat 4 x.1∧ok Rat 4 x.2.1∧ok Rat 13 x.2.2∧(0:Rat)<(dec x:Ln).2.2
instance (x:BO3):Decidable (dg x):=by unfold dg;infer_instance
class BdL (l:Ln):Prop where
 a:Bd l.1 12
 b:Bd l.2.1 12
 c:Bd l.2.2 63
class BdC (c:Ln):Prop where
 x:Bd c.1 4
 y:Bd c.2.1 4
 q:Bd c.2.2 13
theorem fG{x:BO3}(h:du x):∃l:Ln,x=enc l∧BdL l∧(l.1≠0∨l.2.1≠0):=by
 obtain⟨h1,h2,h3,h4⟩:=h
 obtain⟨x1,x2,x3⟩:=x
 obtain⟨a,rfl,ba⟩:=aS h1
 obtain⟨b,rfl,bb⟩:=aS h2
 obtain⟨c,rfl,bc⟩:=aS h3
 have e:((enc a,enc b,enc c):BO3)=enc ((a,b,c):Ln):=rfl
 rw[e,am]at h4
 exact⟨(a,b,c),rfl,⟨ba,bb,bc⟩,h4⟩
theorem fp{x:BO3}(h:dg x):∃c:Ln,x=enc c∧BdC c∧0<c.2.2:=by
 obtain⟨h1,h2,h3,h4⟩:=h
 obtain⟨x1,x2,x3⟩:=x
 obtain⟨a,rfl,ba⟩:=aS h1
 obtain⟨b,rfl,bb⟩:=aS h2
 obtain⟨c,rfl,bc⟩:=aS h3
 have e:((enc a,enc b,enc c):BO3)=enc ((a,b,c):Ln):=rfl
 rw[e,am]at h4
 exact⟨(a,b,c),rfl,⟨ba,bb,bc⟩,h4⟩
theorem ro{l:Ln}[h:BdL l](h0:l.1≠0∨l.2.1≠0):du (enc l):=by
 have a:=h.a
 have b:=h.b
 have c:=h.c
 exact⟨at6 (okd (auj _) (by decide)),at6 (okd (auj _) (by decide)),at6 (okd (auj _) (by decide)),by rw[am];exact h0⟩
theorem mM{c:Ln}[h:BdC c](h0:0<c.2.2):dg (enc c):=by
 have a:=h.x
 have b:=h.y
 have c:=h.q
 exact⟨at6 (okd (auj _) (by decide)),at6 (okd (auj _) (by decide)),at6 (okd (auj _) (by decide)),by rw[am];exact h0⟩
section
variable {l c:Ln}
instance atW [h:BdL l]:Bd l.1 12:=h.a
instance at3 [h:BdL l]:Bd l.2.1 12:=h.b
instance atY [h:BdL l]:Bd l.2.2 63:=h.c
instance at4 [h:BdC c]:Bd c.1 4:=h.x
instance atX [h:BdC c]:Bd c.2.1 4:=h.y
instance at0 [h:BdC c]:Bd c.2.2 13:=h.q
theorem Xt [h:BdC c]:Bd c 13:=⟨⟨Cod.mono _ _ _ (by decide) h.x.le,Cod.mono _ _ _ (by decide) h.y.le,h.q.le⟩⟩
end
def oa(l m:Ln):Rat:=l.1*m.2.1-m.1*l.2.1
def HA(l m:Ln):Rat:=l.2.2*m.2.1-m.2.2*l.2.1
def F3(l m:Ln):Rat:=l.1*m.2.2-m.1*l.2.2
def Ah(l m:Ln):List Pt:=bif !decide (oa l m=0)then [atP (HA l m/oa l m,F3 l m/oa l m)]else []
def LM(l m:Ln):Int:=bif !decide (oa l m=0)then 0 else bif decide (HA l m=0)&&decide (F3 l m=0)then 10 else 0
def d8(l:Ln):Rat:=l.1*l.1+l.2.1*l.2.1
def vlL(l:Ln)(x y:Rat):Rat:=l.1*x+l.2.1*y-l.2.2
def ll(l c:Ln):Rat:=d8 l*c.2.2-vlL l c.1 c.2.1*vlL l c.1 c.2.1
def lz(ax bx ay b_ c:Rat):Pt:=bif eK c then atP (ax+bx*rtQ c,ay+b_*rtQ c)else(ax,bx,ay,b_,c)
def ftX(l c:Ln):Rat:=c.1-vlL l c.1 c.2.1/d8 l*l.1
def ftY(l c:Ln):Rat:=c.2.1-vlL l c.1 c.2.1/d8 l*l.2.1
def xm(l c:Ln):Pt:=lz (ftX l c) (-(l.2.1/d8 l)) (ftY l c) (-(-l.1/d8 l)) (ll l c)
def xy(l c:Ln):Pt:=lz (ftX l c) (l.2.1/d8 l) (ftY l c) (-l.1/d8 l) (ll l c)
def pI(l c:Ln):List Pt:=bif decide (ll l c<0)then []else bif decide (ll l c=0)then [atP (ftX l c,ftY l c)]
 else bif decide (cj (xm l c) (xy l c)>0)then [xy l c,xm l c]else [xm l c,xy l c]
def oH(c d:Ln):Bool:=decide (c.1=d.1)&&decide (c.2.1=d.2.1)
def L5(c:Ln):Rat:=c.1*c.1+c.2.1*c.2.1-c.2.2
def xD(c d:Ln):Ln:=(2*(d.1-c.1),2*(d.2.1-c.2.1),L5 d-L5 c)
def AY(c d:Ln):List Pt:=bif oH c d then []else pI (xD c d) c
def Wx(c d:Ln):Int:=bif oH c d then(bif decide (c.2.2=d.2.2)then 10 else 0)else 0
def Gp(c d:Ln):BO3:=bif oH c d then o00 else enc (xD c d)
def akc(c d:Ln):Int:=bif oH c d then 6 else 0
def Sd(l m:Ln):Bool:=decide (l.1*m.2.1=l.2.1*m.1)&&(decide (l.1*m.2.2=l.2.2*m.1)&&decide (l.2.1*m.2.2=l.2.2*m.2.1))
def Ud(c d:Ln):Bool:=decide (c.1=d.1)&&(decide (c.2.1=d.2.1)&&decide (c.2.2=d.2.2))
def lG(a b:Cv):Bool:=bif a.1==b.1 then(bif a.1 then Ud (ciC a) (ciC b)else Sd (lnC a) (lnC b))else false
def MT(a:BCU):Prop:=(a.1=true→dg a.2.2.1)∧(a.1=false→du a.2.1)
instance (a:BCU):Decidable (MT a):=by unfold MT;infer_instance
def vw(a b:BCU):Prop:=MT a∧MT b
instance (a b:BCU):Decidable (vw a b):=by unfold vw;infer_instance
def sD(a b:Cv):List Pt:=bif a.1&&b.1 then AY (ciC a) (ciC b)else bif a.1 then pI (lnC b) (ciC a)else bif b.1 then pI (lnC a) (ciC b)else Ah (lnC a) (lnC b)
def OX(a b:Cv):Int:=bif a.1&&b.1 then Wx (ciC a) (ciC b)else bif a.1 then 0 else bif b.1 then 0 else LM (lnC a) (lnC b)
def n7(c:Ln):Pt:=lz c.1 (-1) c.2.1 0 c.2.2
def n4(c:Ln):Pt:=lz c.1 1 c.2.1 0 c.2.2
theorem AO{ax bx ay b_ c:Rat}(h0:¬(bx=0∧b_=0))(hc:0≤c):Rpd (lz ax bx ay b_ c):=by
 refine⟨?_⟩
 unfold lz
 cases hq:eK c
 ·exact .inr ⟨h0,Js hc hq,hq⟩
 ·exact .inl ⟨rfl,rfl,rfl⟩
theorem Be{ax bx ay b_ c:Rat}{j k m:Nat}(h1:Bd ax j)(h2:Bd bx k)(h3:Bd ay j)(h4:Bd b_ k)(h5:Bd c m){n:Nat}(hn:j+(k+m)+1≤n):Bd (lz ax bx ay b_ c) n:=by
 have z:bdR n 0:=bT lN.le (by omega)
 have i1:Bd (ax+bx*rtQ c) _:=inferInstance
 have i2:Bd (ay+b_*rtQ c) _:=inferInstance
 refine⟨?_⟩
 unfold lz
 cases eK c
 ·exact⟨bT h1.le (by omega),bT h2.le (by omega),bT h3.le (by omega),bT h4.le (by omega),bT h5.le (by omega)⟩
 ·exact⟨bT i1.le (by omega),z,bT i2.le (by omega),z,z⟩
section
variable {l m c d:Ln}
theorem W7(h:l.1≠0∨l.2.1≠0):d8 l≠0:=kX h
instance atb [BdL l] [h:BdC c]:Bd (ll l c) 257:=by
 have hx:=h.x
 have hy:=h.y
 have hq:=h.q
 have i1:Bd (d8 l) 49:=inferInstanceAs (Bd (l.1*l.1+l.2.1*l.2.1) _)
 have i2:Bd (vlL l c.1 c.2.1) 97:=inferInstanceAs (Bd (l.1*c.1+l.2.1*c.2.1-l.2.2) _)
 exact(inferInstance:Bd (d8 l*c.2.2-vlL l c.1 c.2.1*vlL l c.1 c.2.1) _).mono (by decide)
theorem Ga [BdL l][h:BdC c]:Bd (ftX l c) 163∧Bd (ftY l c) 163∧Bd (l.2.1/d8 l) 61∧Bd (l.1/d8 l) 61:=by
 have hx:=h.x
 have hy:=h.y
 have i1:Bd (d8 l) 49:=inferInstanceAs (Bd (l.1*l.1+l.2.1*l.2.1) _)
 have i2:Bd (vlL l c.1 c.2.1) 97:=inferInstanceAs (Bd (l.1*c.1+l.2.1*c.2.1-l.2.2) _)
 have i3:Bd (c.1-vlL l c.1 c.2.1/d8 l*l.1) _:=inferInstance
 have i4:Bd (c.2.1-vlL l c.1 c.2.1/d8 l*l.2.1) _:=inferInstance
 have i5:Bd (l.2.1/d8 l) _:=inferInstance
 have i6:Bd (l.1/d8 l) _:=inferInstance
 exact⟨i3.mono (by decide),i4.mono (by decide),i5.mono (by decide),i6.mono (by decide)⟩
end
end
end Go.Proofs.YtlahabkjhgkkjaaGreat
end
