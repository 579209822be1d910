/- Distances: the program's Toward, Square, Cmp. -/
import Derived.Test.YtlahabkjhgkkjaaGreatW15
import Derived.Test.YtlahabkjhgkkjaaGreatW13
noncomputable section
namespace Go.Proofs.YtlahabkjhgkkjaaGreat
open Go.RowKit Go.IntKind
theorem arK:type_of% @List.mem_cons_of_mem:=@List.mem_cons_of_mem
theorem sC{c:BCU}(hc:okC 500 c){v:Rat×Rat}[bv:Bd v 200]:Bd (jN (dC c) v) 15000∧Rdd (jN (dC c) v):=by
 obtain⟨ar,li,ci,cw,fr,to⟩:=c
 have h3:=hc.2.2.1
 have h4:=hc.2.2.2
 simp only at h3 h4
 obtain⟨fr,rfl,bf,rf⟩:=bG h3
 obtain⟨to,rfl,bt,rt⟩:=bG h4
 have he:Bd (rS (sqP fr v) (sqP to v)) 15000:=(inferInstance:Bd (rS (sqP fr v) (sqP to v)) _).mono (by decide)
 cases ar
 ·obtain⟨c2,c3⟩:=hc.2.1 rfl
  simp only at c2 c3
  obtain⟨li,rfl,bl⟩:=aQ c2
  unfold jN IR
  simp only[dC,lnC,frC,toC,ak,cond_false]
  cases qa (false,li,dec ci,cw,fr,to) (atP v)
  ·exact⟨he,QS⟩
  ·exact⟨(inferInstance:Bd ((fJ (kD v (lA li v)) (kD v (lA li v)),0,0):Rt) _).mono (by decide),afq⟩
 ·obtain⟨c1,hq⟩:=hc.1 rfl
  simp only at c1 hq
  obtain⟨ci,rfl,bc⟩:=aQ c1
  rw[ak]at hq
  have hC:Cir ci:=⟨hq⟩
  unfold jN IR
  simp only[dC,lnC,frC,toC,ciC,DE,ak,cond_true]
  cases EH (true,dec li,ci,cw,fr,to) (kD (ctr ci) v)
  ·exact⟨he,QS⟩
  ·have b2:Bd (-2:Rat) 3:=cP (n:= -2) (by decide)
   exact⟨(inferInstance:Bd (mkR (fJ (kD (ctr ci) v) (kD (ctr ci) v)+ci.2.2) (-2) (fJ (kD (ctr ci) v) (kD (ctr ci) v)*ci.2.2)) _).mono (by decide),pP⟩
def acT:Env:=[(112,vZ)]
theorem Ru:EnvAll Tryz.prog acT:=⟨pD,trivial⟩
def ai9:Ctx:=CX acT []
def adF(a b:BV)(_k:KT):Option (List RV):=match decide (okR b.1∧okR a.1)with|true=>(match decide (okR b.2∧okR a.2)with|true=>some [RV.d tV (hid (ag (ab b.1-ab a.1)),hid (ag (ab b.2-ab a.2)))]|false=>none)|false=>none
theorem ajk(a b:BV):RS ai9 69 [.d tV a,.d tV b] (adF a b):=rsX
theorem W4(a b:BV)(h:ok (Rat×Rat) 10000 a∧ok (Rat×Rat) 10000 b):Con Tryz.prog 69 [.d tV a,.d tV b] [.d tV (enc (kD (dec a) (dec b)))]:=by
 refine aN Ru (ajk _ _ ⟨0,?_⟩)
 obtain⟨ha,hb⟩:=h
 obtain⟨a,rfl,ba⟩:=aQ ha
 obtain⟨b,rfl,bb⟩:=aQ hb
 unfold adF
 simp only[aj,ak,aD,aE,aA,av,aT,aqv,aqw,Nat.reduceLeDiff]
 try rfl
def SH:aM:=spN false true [tR,tR,tR] (fun x=>decide (ok Rat 100000 x.1∧ok Rat 100000 x.2.1∧ok Rat 100000 x.2.2.1∧0≤ab x.2.2.1)) (fun x=>[RV.d tO (hid (enc (mkR (ab x.1) (ab x.2.1) (ab x.2.2.1)))),RV.d atB 0])
theorem Qt:SpK 158 SH:=spX fun x h=>by simp only[aj];exact X3 x.1 x.2.1 x.2.2.1 (aqr h)
def T8:aM:=spN false true [tO,tV] (fun x=>decide (ok Ln 300 x.1∧ok (Rat×Rat) 200 x.2.1∧((dec x.1:Ln).1≠0∨(dec x.1:Ln).2.1≠0))) (fun x=>[RV.d tV (hid (enc (lA (dec x.1) (dec x.2.1))))])
theorem Rl:SpK 70 T8:=spX fun x h=>by simp only[aj];exact Wc x.1 x.2.1 (aqr h)
def No:aM:=spN false true [tV,tV] (fun x=>decide (ok (Rat×Rat) 10000 x.1∧ok (Rat×Rat) 10000 x.2.1)) (fun x=>[RV.d tV (hid (enc (kD (dec x.1) (dec x.2.1))))])
theorem Uj:SpK 69 No:=spX fun x h=>by simp only[aj];exact W4 x.1 x.2.1 (aqr h)
def AU:Env:=[(83,fW),(202,lS),(76,gT),(148,gU),(170,AO),(149,jr),(147,iC),(158,SH),(71,nH),(68,DY),(88,Sn),(66,D4),(89,Ui),(70,T8),(146,qv),(84,AR),(75,yr),(112,vZ),(77,zG),(69,No),(72,Sv),(87,zQ)]
theorem ov:EnvAll Tryz.prog AU:=⟨eg,iO,eI,eH,uD,fN,fi,Qt,jU,De,M4,Cs,Mi,Rl,lJ,vw,vo,pD,vc,Uj,Le,vh,trivial⟩
def akS:Ctx:=CX AU []
def acD(a b c:BR)(_k:KT):Option (List RV):=match decide (ok Rat 100000 a∧ok Rat 100000 b∧ok Rat 100000 c∧0≤ab c)with|true=>(match 0 !=0 with|true=>(match decide (okR a)with|true=>some [RV.d tO (hid (enc ((ab a,0,0):Rt)))]|false=>none)|false=>some [RV.d tO (hid (enc (mkR (ab a) (ab b) (ab c))))])|false=>none
theorem akz(a b c:BR):RS akS 74 [.d tR a,.d tR b,.d tR c] (acD a b c):=rsX
theorem Yl(a b c:BR)(h:ok Rat 100000 a∧ok Rat 100000 b∧ok Rat 100000 c∧0≤ab c):Con Tryz.prog 74 [.d tR a,.d tR b,.d tR c] [.d tO (enc (mkR (ab a) (ab b) (ab c)))]:=by
 refine aN ov (akz _ _ _ ⟨0,?_⟩)
 obtain⟨ha,hb,hc,hn⟩:=h
 unfold acD
 rw[dT ⟨ha,hb,hc,hn⟩]
 simp only[aj]
 rfl
def aiU:Ctx:=CX AU []
def adg(v:BV)(_k:KT):Option (List RV):=match decide (okR v.1)with|true=>(match(aS (ab v.1) 0)==0 with|true=>(match decide (okR v.2)with|true=>some [RV.d .bool ((aS (ab v.2) 0)==0)]|false=>none)|false=>some [RV.d .bool false])|false=>none
theorem aiq(v:BV):RS aiU 86 [.d tV v] (adg v):=rsX
theorem Yj(v:BV)(h:ok (Rat×Rat) 100000 v):Con Tryz.prog 86 [.d tV v] [.d .bool (zeV (dec v))]:=by
 refine aN ov (aiq _ ⟨0,?_⟩)
 have hv:=h
 obtain⟨v,rfl,bv⟩:=aQ hv
 unfold adg
 simp only[ak,aD,aE,aA,av,aT,Nat.reduceLeDiff,aH]
 unfold zeV
 cases decide (v.1=0)<;>rfl
def ank:Ctx:=CX AU []
def anK(c:BCU)(_k:KT):Option (List RV):=some [RV.d tV (c.2.2.1.1,c.2.2.1.2.1)]
theorem aly(c:BCU):RS ank 73 [.d tCU c] (anK c):=rsX
theorem Xj(c:BCU):Con Tryz.prog 73 [.d tCU c] [.d tV (c.2.2.1.1,c.2.2.1.2.1)]:=by
 exact aN ov (aly _ ⟨0,rfl⟩)
def Ep:aM:=spN false true [tR,tR,tR] (fun x=>decide (ok Rat 100000 x.1∧ok Rat 100000 x.2.1∧ok Rat 100000 x.2.2.1∧0≤ab x.2.2.1)) (fun x=>[RV.d tO (hid (enc (mkR (ab x.1) (ab x.2.1) (ab x.2.2.1))))])
theorem BH:SpK 74 Ep:=spX fun x h=>by simp only[aj];exact Yl x.1 x.2.1 x.2.2.1 (aqr h)
def Mf:aM:=spN true true [tV] (fun x=>decide (ok (Rat×Rat) 100000 x.1)) (fun x=>[RV.d .bool (zeV (dec x.1))])
theorem OK:SpK 86 Mf:=spX fun x h=>Yj x.1 (aqr h)
def FO:aM:=spN false true [tCU] (fun _=>true) (fun x=>[RV.d tV (hid ((x.1.2.2.1.1,x.1.2.2.1.2.1)))])
theorem C3:SpK 73 FO:=spX fun x _=>by simp only[aj];exact Xj x.1
def If:Env:=(74,Ep)::(86,Mf)::(73,FO)::AU
theorem uY:EnvAll Tryz.prog If:=⟨BH,OK,C3,ov⟩
def amR:Ctx:=CX If []
def abZ(l:BO3)(p:BP)(_k:KT):Option (List RV):=match decide (okR l.2.1)with|true=>(match decide (okR (hid (ag (-ab l.2.1)))∧okR p.1)with|true=>(match decide (okR l.1∧okR p.2.2.1)with|true=>(match decide (okR (hid (ag (ab (hid (ag (-ab l.2.1)))*ab p.1)))∧okR (hid (ag (ab l.1*ab p.2.2.1))))with|true=>(match decide (okR (hid (ag (-ab l.2.1)))∧okR p.2.1)with|true=>(match decide (okR l.1∧okR p.2.2.2.1)with|true=>(match decide (okR (hid (ag (ab (hid (ag (-ab l.2.1)))*ab p.2.1)))∧okR (hid (ag (ab l.1*ab p.2.2.2.1))))with|true=>(match decide (ok Rat 100000 (hid (ag (ab (hid (ag (ab (hid (ag (-ab l.2.1)))*ab p.1)))+ab (hid (ag (ab l.1*ab p.2.2.1))))))∧ok Rat 100000 (hid (ag (ab (hid (ag (ab (hid (ag (-ab l.2.1)))*ab p.2.1)))+ab (hid (ag (ab l.1*ab p.2.2.2.1))))))∧ok Rat 100000 p.2.2.2.2∧0≤ab p.2.2.2.2)with|true=>some [RV.d tO (hid (enc (mkR (ab (hid (ag (ab (hid (ag (ab (hid (ag (-ab l.2.1)))*ab p.1)))+ab (hid (ag (ab l.1*ab p.2.2.1))))))) (ab (hid (ag (ab (hid (ag (ab (hid (ag (-ab l.2.1)))*ab p.2.1)))+ab (hid (ag (ab l.1*ab p.2.2.2.1))))))) (ab p.2.2.2.2))))]|false=>none)|false=>none)|false=>none)|false=>none)|false=>none)|false=>none)|false=>none)|false=>none
theorem aky(l:BO3)(p:BP):RS amR 151 [.d tO l,.d tP p] (abZ l p):=rsX
theorem Vv(l:BO3)(p:BP)(h:ok Ln 300 l∧okP 4000 p):Con Tryz.prog 151 [.d tO l,.d tP p] [.d tO (enc (dJ (dec l) (dec p)))]:=by
 refine aN uY (aky _ _ ⟨0,?_⟩)
 obtain⟨hl,hp⟩:=h
 obtain⟨l,rfl,bl⟩:=aQ hl
 obtain⟨p,rfl,bp,rp⟩:=bG hp
 have hn:0≤p.2.2.2.2:=rp.nn
 unfold abZ
 simp only[aj,ak,aD,aE,aA,av,aC,aT,aqv,aqw,Nat.reduceAdd,Nat.reduceLeDiff,dT hn]
 rfl
def al4:Ctx:=CX If []
def acI(a b:BO3)(_k:KT):Option (List RV):=match decide (okT 15000 b∧okT 15000 a)with|true=>(match decide ((bL (dec b) (dec a))<0)with|true=>some [RV.d tO b]|false=>some [RV.d tO a])|false=>none
theorem aj4(a b:BO3):RS al4 65 [.d tO a,.d tO b] (acI a b):=rsX
theorem Zm(a b:BO3)(h:okT 15000 a∧okT 15000 b):Con Tryz.prog 65 [.d tO a,.d tO b] [.d tO (enc (rS (dec a) (dec b)))]:=by
 refine aN uY (aj4 _ _ ⟨0,?_⟩)
 obtain⟨ha,hb⟩:=h
 obtain⟨a,rfl,ba,ra⟩:=ew ha
 obtain⟨b,rfl,bb,rb⟩:=ew hb
 unfold acI rS
 simp only[ak,aqv,aqw,Nat.reduceLeDiff,bh]
 cases decide (bL b a<0)<;>rfl
def Ms:aM:=spN false true [tO,tP] (fun x=>decide (ok Ln 300 x.1∧okP 4000 x.2.1)) (fun x=>[RV.d tO (hid (enc (dJ (dec x.1) (dec x.2.1))))])
theorem Ug:SpK 151 Ms:=spX fun x h=>by simp only[aj];exact Vv x.1 x.2.1 (aqr h)
def TG:aM:=spN false true [tO,tO] (fun x=>decide (okT 15000 x.1∧okT 15000 x.2.1)) (fun x=>[RV.d tO (hid (enc (rS (dec x.1) (dec x.2.1))))])
theorem PW:SpK 65 TG:=spX fun x h=>by simp only[aj];exact Zm x.1 x.2.1 (aqr h)
def Hh:Env:=(151,Ms)::(65,TG)::If
theorem ta:EnvAll Tryz.prog Hh:=⟨Ug,PW,uY⟩
def ajZ:Ctx:=CX Hh []
def ac6(c:BCU)(p:BP)(_k:KT):Option (List RV):=match decide (ok Ln 300 c.2.1∧okP 4000 p)with|true=>(match decide (ok Ln 300 c.2.1∧okP 4000 c.2.2.2.2.1)with|true=>(match decide (ok Ln 300 c.2.1∧okP 4000 c.2.2.2.2.2)with|true=>(match decide (okT 15000 (hid (enc (dJ (dec c.2.1) (dec c.2.2.2.2.1))))∧okT 15000 (hid (enc (dJ (dec c.2.1) (dec c.2.2.2.2.2)))))with|true=>(match decide ((bL (dec (hid (enc (dJ (dec c.2.1) (dec c.2.2.2.2.1))))) (dec (hid (enc (dJ (dec c.2.1) (dec c.2.2.2.2.2))))))>0)with|true=>(match decide (okT 15000 (hid (enc (dJ (dec c.2.1) (dec c.2.2.2.2.2))))∧okT 15000 (hid (enc (dJ (dec c.2.1) (dec p)))))with|true=>(match decide ((bL (dec (hid (enc (dJ (dec c.2.1) (dec c.2.2.2.2.2))))) (dec (hid (enc (dJ (dec c.2.1) (dec p))))))≤0)with|true=>(match decide (okT 15000 (hid (enc (dJ (dec c.2.1) (dec p))))∧okT 15000 (hid (enc (dJ (dec c.2.1) (dec c.2.2.2.2.1)))))with|true=>some [RV.d .bool (decide ((bL (dec (hid (enc (dJ (dec c.2.1) (dec p))))) (dec (hid (enc (dJ (dec c.2.1) (dec c.2.2.2.2.1))))))≤0))]|false=>none)|false=>some [RV.d .bool false])|false=>none)|false=>(match decide (okT 15000 (hid (enc (dJ (dec c.2.1) (dec c.2.2.2.2.1))))∧okT 15000 (hid (enc (dJ (dec c.2.1) (dec p)))))with|true=>(match decide ((bL (dec (hid (enc (dJ (dec c.2.1) (dec c.2.2.2.2.1))))) (dec (hid (enc (dJ (dec c.2.1) (dec p))))))≤0)with|true=>(match decide (okT 15000 (hid (enc (dJ (dec c.2.1) (dec p))))∧okT 15000 (hid (enc (dJ (dec c.2.1) (dec c.2.2.2.2.2)))))with|true=>some [RV.d .bool (decide ((bL (dec (hid (enc (dJ (dec c.2.1) (dec p))))) (dec (hid (enc (dJ (dec c.2.1) (dec c.2.2.2.2.2))))))≤0))]|false=>none)|false=>some [RV.d .bool false])|false=>none))|false=>none)|false=>none)|false=>none)|false=>none
theorem als(c:BCU)(p:BP):RS ajZ 67 [.d tCU c,.d tP p] (ac6 c p):=rsX
theorem XX(c:BCU)(p:BP)(h:okC 3000 c∧okP 3000 p∧c.1=false):Con Tryz.prog 67 [.d tCU c,.d tP p] [.d .bool (qa (dC c) (dec p))]:=by
 refine aN ta (als _ _ ⟨0,?_⟩)
 obtain⟨hc,hp,h0⟩:=h
 obtain⟨p,rfl,bp,rp⟩:=bG hp
 obtain⟨ar,li,ci,cw,fr,to⟩:=c
 simp only at h0
 subst h0
 obtain⟨_,c2,c3,c4⟩:=hc
 obtain⟨c2,_⟩:=c2 rfl
 simp only at c2 c3 c4
 obtain⟨li,rfl,bl⟩:=aQ c2
 obtain⟨fr,rfl,bf,rf⟩:=bG c3
 obtain⟨to,rfl,bt,rt⟩:=bG c4
 unfold ac6 qa
 simp only[dC,lnC,frC,toC,aj,ak,okd,aqv,aqw,Nat.reduceAdd,Nat.reduceMul,Nat.reduceLeDiff,bh,bg]
 cases decide (bL (dJ li fr) (dJ li to)>0)
 ·cases decide (bL (dJ li fr) (dJ li p)≤0)<;>rfl
 ·cases decide (bL (dJ li to) (dJ li p)≤0)<;>rfl
def amp:Ctx:=CX Hh []
def aaP(c:BCU)(v:BV)(_k:KT):Option (List RV):=let y1:=hid (ag (fJ (dec v) (dec v)));let y2:=hid (ag (ab c.2.2.1.2.2/ab y1));let y3:=hid (enc (mkR (ab c.2.2.1.1) (ab v.1) (ab y2)));let y4:=hid (enc (mkR (ab c.2.2.1.2.1) (ab v.2) (ab y2)));let y5:=hid (enc (mkP (dec y3) (dec y4)));match !c.1 with|true=>some [RV.d .bool c.1]|false=>(match decide (ok (Rat×Rat) 100000 v)with|true=>(match zeV (dec v)with|true=>some [RV.d .bool c.1]|false=>(match decide (ok (Rat×Rat) 5000 v∧ok (Rat×Rat) 5000 v)with|true=>(match decide (eL c.2.2.1.2.2 y1)with|true=>(match decide (ok Rat 100000 c.2.2.1.1∧ok Rat 100000 v.1∧ok Rat 100000 y2∧0≤ab y2)with|true=>(match decide (ok Rat 100000 c.2.2.1.2.1∧ok Rat 100000 v.2∧ok Rat 100000 y2∧0≤ab y2)with|true=>(match decide (okT 15000 y3∧okT 15000 y4∧rR (dec y3) (dec y4))with|true=>(match 0==0 with|true=>(match decide (okC 4000 c∧okP 4000 y5)with|true=>some [RV.d .bool (onP (dC c) (dec y5))]|false=>none)|false=>some [RV.d .bool false])|false=>none)|false=>none)|false=>none)|false=>none)|false=>none))|false=>none)
theorem aji(c:BCU)(v:BV):RS amp 24 [.d tCU c,.d tV v] (aaP c v):=rsX
theorem Yz(c:BCU)(v:BV)(h:okC 500 c∧ok (Rat×Rat) 510 v):Con Tryz.prog 24 [.d tCU c,.d tV v] [.d .bool (EH (dC c) (dec v))]:=by
 refine aN ta (aji _ _ ⟨0,?_⟩)
 obtain⟨hc,hv⟩:=h
 obtain⟨v,rfl,bv⟩:=aQ hv
 have hc4:=dB (k:=4000) hc (by decide) (by decide)
 obtain⟨ar,li,ci,cw,fr,to⟩:=c
 cases ar
 ·rfl
 ·obtain⟨c1,_⟩:=hc.1 rfl
  have hq:=(hc.1 rfl).2
  simp only at c1 hq
  obtain⟨ci,rfl,bc⟩:=aQ c1
  rw[ak]at hq
  have hC:Cir ci:=⟨hq⟩
  have o4:=aqs hc4
  have hn:0≤ci.2.2/fJ v v:=(adM (c:=ci) (d:=v)).le
  have om:decide (rR (mkR ci.1 v.1 (ci.2.2/fJ v v)) (mkR ci.2.1 v.2 (ci.2.2/fJ v v)))=true:=dT (sI _ _ _ _ _)
  have ry:decide (okP 4000 (enc (mkP (mkR ci.1 v.1 (ci.2.2/fJ v v)) (mkR ci.2.1 v.2 (ci.2.2/fJ v v)))))=true:=bg (x:=K6 ci v) (by decide) (by decide)
  unfold aaP EH
  simp only[aj,ak,aD,aE,aA,av,okd,aC,aqv,aqw,aqx,Nat.reduceAdd,Nat.reduceLeDiff,bh,Bool.not_true]
  cases hz:zeV v
  ·have hd:=ae1 hz
   simp only[aB,aqw,Nat.reduceAdd,Nat.reduceLeDiff,hd,ne_eq,asj,dT hn,om,o4,ry]
   show _=some [RV.d .bool (onP _ (K6 (dec (enc ci)) v))]
   rw[ak]
   rfl
  ·rfl
def D1:aM:=spN true true [tCU,tP] (fun x=>decide (okC 3000 x.1∧okP 3000 x.2.1∧x.1.1=false)) (fun x=>[RV.d .bool (qa (dC x.1) (dec x.2.1))])
theorem AY:SpK 67 D1:=spX fun x h=>XX x.1 x.2.1 (aqr h)
def Tk:aM:=spN true true [tCU,tV] (fun x=>decide (okC 500 x.1∧ok (Rat×Rat) 510 x.2.1)) (fun x=>[RV.d .bool (EH (dC x.1) (dec x.2.1))])
theorem Qe:SpK 24 Tk:=spX fun x h=>Yz x.1 x.2.1 (aqr h)
def Vo:Env:=(67,D1)::(24,Tk)::Hh
theorem CF:EnvAll Tryz.prog Vo:=⟨AY,Qe,ta⟩
def agh:NT:=[((16,13),{keep:=[4,19],hl:=0}),((16,29),{keep:=[4,39],hl:=0})]
def anR:Ctx:=CX Vo agh
def L5(c:BCU)(v:BV)(_k:KT):Option (List RV):=let y1:=hid (enc (atP (dec v)));let y2:=hid (enc (sqP (dec c.2.2.2.2.1) (dec v)));let y3:=hid (enc (sqP (dec c.2.2.2.2.2) (dec v)));let y4:Option (List RV):=match decide (okP 3500 c.2.2.2.2.1∧ok (Rat×Rat) 300 v)with|true=>(match decide (okP 3500 c.2.2.2.2.2∧ok (Rat×Rat) 300 v)with|true=>(match decide (okT 15000 y2∧okT 15000 y3)with|true=>some [RV.d tO (hid (enc (rS (dec y2) (dec y3))))]|false=>none)|false=>none)|false=>none;let y5:=hid (enc (lA (dec c.2.1) (dec v)));let y6:=hid (enc (kD (dec v) (dec y5)));let y7:=hid (ag (fJ (dec y6) (dec y6)));let y8:=hid ((c.2.2.1.1,c.2.2.1.2.1));let y9:=hid (enc (kD (dec y8) (dec v)));let y10:=hid (ag (fJ (dec y9) (dec y9)));let y11:=hid (ag (ab y10+ab c.2.2.1.2.2));let y12:=hid (ag (((-2):Int):Rat));let y13:=hid (ag (ab y10*ab c.2.2.1.2.2));match !c.1 with|true=>(match decide (ok (Rat×Rat) 100000 v)with|true=>(match decide (okC 3000 c∧okP 3000 y1∧c.1=false)with|true=>(match !(qa (dC c) (dec y1))with|true=>y4|false=>(match decide (ok Ln 300 c.2.1∧ok (Rat×Rat) 200 v∧((dec c.2.1:Ln).1≠0∨(dec c.2.1:Ln).2.1≠0))with|true=>(match decide (ok (Rat×Rat) 10000 v∧ok (Rat×Rat) 10000 y5)with|true=>(match decide (ok (Rat×Rat) 5000 y6∧ok (Rat×Rat) 5000 y6)with|true=>(match decide (okR y7)with|true=>some [RV.d tO (hid (enc ((ab y7,0,0):Rt)))]|false=>none)|false=>none)|false=>none)|false=>none))|false=>none)|false=>none)|false=>(match decide (ok (Rat×Rat) 10000 y8∧ok (Rat×Rat) 10000 v)with|true=>(match decide (okC 500 c∧ok (Rat×Rat) 510 y9)with|true=>(match !(EH (dC c) (dec y9))with|true=>y4|false=>(match decide (ok (Rat×Rat) 5000 y9∧ok (Rat×Rat) 5000 y9)with|true=>(match decide (okR y10∧okR c.2.2.1.2.2)with|true=>(match decide (aX ((-2):Int))with|true=>(match decide (okR y10∧okR c.2.2.1.2.2)with|true=>(match decide (ok Rat 100000 y11∧ok Rat 100000 y12∧ok Rat 100000 y13∧0≤ab y13)with|true=>some [RV.d tO (hid (enc (mkR (ab y11) (ab y12) (ab y13))))]|false=>none)|false=>none)|false=>none)|false=>none)|false=>none))|false=>none)|false=>none)
theorem amD(c:BCU)(v:BV):RS anR 16 [.d tCU c,.d tV v] (L5 c v):=rsX
theorem ZD(c:BCU)(v:BV)(h:okC 500 c∧ok (Rat×Rat) 200 v):Con Tryz.prog 16 [.d tCU c,.d tV v] [.d tO (enc (jN (dC c) (dec v)))]:=by
 refine aN CF (amD _ _ ⟨0,?_⟩)
 obtain⟨hc,hv⟩:=h
 obtain⟨v,rfl,bv⟩:=aQ hv
 have hc4:=dB (k:=3000) hc (by decide) (by decide)
 obtain⟨ar,li,ci,cw,fr,to⟩:=c
 have h3:=hc.2.2.1
 have h4:=hc.2.2.2
 simp only at h3 h4
 obtain⟨fr,rfl,bf,rf⟩:=bG h3
 obtain⟨to,rfl,bt,rt⟩:=bG h4
 have o4:=aqs hc4
 have o5:=aqs hc
 cases ar
 ·obtain⟨c2,c3⟩:=hc.2.1 rfl
  simp only at c2 c3
  obtain⟨li,rfl,bl⟩:=aQ c2
  rw[ak]at c3
  unfold L5 jN IR
  simp only[aj,ak,aP,aA,av,okd,aT,aqv,aqw,mx,Nat.reduceAdd,Nat.reduceMul,Nat.reduceLeDiff,aqC,aqz,cond_true,cond_false,bh,bg,o4,c3,Bool.not_false]
  simp only[dC,lnC,frC,toC,ak,cond_false]
  cases qa (false,li,dec ci,cw,fr,to) (atP v)<;>rfl
 ·obtain⟨c1,hq⟩:=hc.1 rfl
  simp only at c1 hq
  obtain⟨ci,rfl,bc⟩:=aQ c1
  rw[ak]at hq
  have hC:Cir ci:=⟨hq⟩
  have hn:0≤fJ (kD (ctr ci) v) (kD (ctr ci) v)*ci.2.2:=(WD (c:=ci) (d:=kD (ctr ci) v)).le
  have e0:((ag ci.1,ag ci.2.1):BV)=enc (ctr ci):=rfl
  have h2:decide (aX (-2))=true:=by decide
  have b2:Bd ((-2:Int):Rat) 3:=cP (by decide)
  unfold L5 jN IR
  simp only[aj,ak,aD,aE,aA,av,okd,aC,aT,aqv,aqw,aqx,mx,Nat.reduceAdd,Nat.reduceMul,Nat.reduceLeDiff,aqC,cond_true,bh,bg,o5,e0,Bool.not_true]
  simp only[dC,lnC,frC,toC,ciC,DE,ak,cond_true]
  cases EH (true,dec li,ci,cw,fr,to) (kD (ctr ci) v)
  ·rfl
  ·simp only[cond_true,dT hn,h2]
   rw[show((-2:Int):Rat)= -2 from rfl]
   rfl
def EQ:aM:=spN false true [tCU,tV] (fun x=>decide (okC 500 x.1∧ok (Rat×Rat) 200 x.2.1)) (fun x=>[RV.d tO (hid (enc (jN (dC x.1) (dec x.2.1))))])
theorem CU:SpK 16 EQ:=spX fun x h=>by simp only[aj];exact ZD x.1 x.2.1 (aqr h)
def ac9:Env:=(16,EQ)::Vo
theorem U4:EnvAll Tryz.prog ac9:=⟨CU,CF⟩
def aoE:Ctx:=CX ac9 []
def aax(c:BCU)(v:BV)(r:BR)(_k:KT):Option (List RV):=match decide (okR r)with|true=>(match decide ((aS (ab r) 0)<0)with|true=>some [RV.d atB 1]|false=>(match decide (okC 500 c∧ok (Rat×Rat) 200 v)with|true=>(match decide (okR r∧okR r)with|true=>(match decide (okT 15000 (hid (enc (jN (dC c) (dec v))))∧ok Rat 15000 (hid (ag (ab r*ab r))))with|true=>some [RV.d atB (d9 (dec (hid (enc (jN (dC c) (dec v))))) (ab (hid (ag (ab r*ab r)))))]|false=>none)|false=>none)|false=>none))|false=>none
theorem amk(c:BCU)(v:BV)(r:BR):RS aoE 21 [.d tCU c,.d tV v,.d tR r] (aax c v r):=rsX
theorem Yb(c:BCU)(v:BV)(r:BR)(h:okC 500 c∧ok (Rat×Rat) 200 v∧ok Rat 1000 r):Con Tryz.prog 21 [.d tCU c,.d tV v,.d tR r] [.d atB (D3 (dC c) (dec v) (ab r))]:=by
 refine aN U4 (amk _ _ _ ⟨0,?_⟩)
 obtain⟨hc,hv,hr⟩:=h
 obtain⟨v,rfl,bv⟩:=aQ hv
 obtain⟨r,rfl,br⟩:=aQ hr
 rw[aA,av,ak]
 have od:=sC hc (v:=v)
 obtain⟨od1,od2⟩:=od
 unfold aax D3
 simp only[aj,ak,av,okd,aC,aT,aqv,aqw,Nat.reduceAdd,Nat.reduceLeDiff,bh,aJ,aqs hc]
 cases decide (r<0)<;>rfl
def Ps:aM:=spN true true [tCU,tV,tR] (fun x=>decide (okC 500 x.1∧ok (Rat×Rat) 200 x.2.1∧ok Rat 1000 x.2.2.1)) (fun x=>[RV.d atB (D3 (dC x.1) (dec x.2.1) (ab x.2.2.1))])
theorem OB:SpK 21 Ps:=spX fun x h=>Yb x.1 x.2.1 x.2.2.1 (aqr h)
def aaz:Env:=[(78,fo),(124,i7),(50,gA),(132,gn),(174,Ao),(127,gW),(161,gY),(49,oS),(57,sA),(20,kT),(109,sE),(45,pK),(54,sB),(19,t6),(55,yT),(119,mo),(85,oA),(60,yE),(144,zY),(61,za),(58,UR)]
theorem Qo:EnvAll Tryz.prog aaz:=⟨dR,fZ,eP,eJ,wA,fG,fA,mi,rh,ic,qn,mO,qO,pA,wV,jF,mM,vO,uA,u5,KH,trivial⟩
def age:Ctx:=CX aaz []
def aep(c:BO3)(_k:KT):Option (List RV):=some [RV.d tV (c.1,c.2.1)]
theorem afa(c:BO3):RS age 59 [.d tO c] (aep c):=rsX
theorem Tf(c:BO3):Con Tryz.prog 59 [.d tO c] [.d tV (c.1,c.2.1)]:=by
 exact aN Qo (afa _ ⟨0,rfl⟩)
def Hw:aM:=spN false true [tO] (fun _=>true) (fun x=>[RV.d tV (hid ((x.1.1,x.1.2.1)))])
theorem IY:SpK 59 Hw:=spX fun x _=>by simp only[aj];exact Tf x.1
abbrev r00:BR:=((false,[]),(false,[]))
abbrev o00:BO3:=(r00,r00,r00)
abbrev p00:BP:=(r00,r00,r00,r00,r00)
abbrev c00:BCU:=(false,o00,o00,false,p00,p00)
def pF(a b:Rat×Rat):Ln:=(a.2-b.2,b.1-a.1,(a.2-b.2)*a.1+(b.1-a.1)*a.2)
def wg(a b:Rat×Rat):Bool:=decide (a.2-b.2=0)&&decide (b.1-a.1=0)
def Pp(a b:Rat×Rat):BO3:=bif wg a b then o00 else enc (pF a b)
def RO(a b:Rat×Rat):Int:=bif wg a b then 6 else 0
def dL(a b c:Rat×Rat):Rat:=(b.1-a.1)*(c.2-a.2)-(b.2-a.2)*(c.1-a.1)
def uj(a b c:Rat×Rat):Rat:=(((b.1-a.1)*(b.1-a.1)+(b.2-a.2)*(b.2-a.2))*(c.2-a.2)-((c.1-a.1)*(c.1-a.1)+(c.2-a.2)*(c.2-a.2))*(b.2-a.2))/(dL a b c+dL a b c)
def vT(a b c:Rat×Rat):Rat:=(((c.1-a.1)*(c.1-a.1)+(c.2-a.2)*(c.2-a.2))*(b.1-a.1)-((b.1-a.1)*(b.1-a.1)+(b.2-a.2)*(b.2-a.2))*(c.1-a.1))/(dL a b c+dL a b c)
def ni(a b c:Rat×Rat):Ln:=(a.1+uj a b c,a.2+vT a b c,uj a b c*uj a b c+vT a b c*vT a b c)
def Tr(a b c:Rat×Rat):BO3:=bif decide (dL a b c=0)then o00 else enc (ni a b c)
def Sr(a b c:Rat×Rat):Int:=bif decide (dL a b c=0)then 6 else 0
def rJ(a b c:Rat×Rat):Int:=aS ((b.1-a.1)*(c.2-a.2)) ((b.2-a.2)*(c.1-a.1))
def uG(a b:Rat×Rat):BCU:=bif wg a b then c00 else(false,enc (pF a b),o00,false,enc (atP a),enc (atP b))
def pn(a b:Rat×Rat):Int:=bif wg a b then 6 else 0
def uT(a b c:Rat×Rat):BCU:=bif decide (dL a b c=0)then c00 else(true,o00,enc (ni a b c),decide (rJ a b c<0),enc (atP a),enc (atP c))
def pi(a b c:Rat×Rat):Int:=bif decide (dL a b c=0)then 6 else 0
theorem ag8(a b c:Rat×Rat):(rJ a b c==0)=decide (dL a b c=0):=by
 unfold rJ dL
 rw[aH]
 exact aq6.2 (by constructor<;>intro h<;>grind)
instance apd {a b:Rat×Rat} {i j:Nat} [h:Bd a i] [h':Bd b j]:Bd (pF a b) (4*i+2*j+3):=by
 have i1:Bd ((a.2-b.2,b.1-a.1,(a.2-b.2)*a.1+(b.1-a.1)*a.2):Ln) _:=inferInstance
 exact i1.mono (cH (by omega) (cH (by omega) (by omega)))
def CV:Env:=[(78,fo),(107,jb),(161,gY),(132,gn),(20,kT),(140,sR),(143,AL),(141,pM),(142,As)]
theorem oC:EnvAll Tryz.prog CV:=⟨dR,fY,fA,eJ,ic,rE,wN,mt,wT,trivial⟩
def ah1:Ctx:=CX CV []
def P5(a b:BV)(_k:KT):Option (List RV):=match decide (okR a.2∧okR b.2)with|true=>(match decide (okR b.1∧okR a.1)with|true=>(match decide (okR (hid (ag (ab a.2-ab b.2))))with|true=>(match(aS (ab (hid (ag (ab a.2-ab b.2)))) 0)==0 with|true=>(match decide (okR (hid (ag (ab b.1-ab a.1))))with|true=>(match(aS (ab (hid (ag (ab b.1-ab a.1)))) 0)==0 with|true=>some [RV.d tO (((false,[]),(false,[])),(((false,[]),(false,[])),((false,[]),(false,[])))),RV.d atB 6]|false=>(match decide (okR (hid (ag (ab a.2-ab b.2)))∧okR a.1)with|true=>(match decide (okR (hid (ag (ab b.1-ab a.1)))∧okR a.2)with|true=>(match decide (okR (hid (ag (ab (hid (ag (ab a.2-ab b.2)))*ab a.1)))∧okR (hid (ag (ab (hid (ag (ab b.1-ab a.1)))*ab a.2))))with|true=>some [RV.d tO (hid (ag (ab a.2-ab b.2)),(hid (ag (ab b.1-ab a.1)),hid (ag (ab (hid (ag (ab (hid (ag (ab a.2-ab b.2)))*ab a.1)))+ab (hid (ag (ab (hid (ag (ab b.1-ab a.1)))*ab a.2))))))),RV.d atB 0]|false=>none)|false=>none)|false=>none))|false=>none)|false=>(match decide (okR (hid (ag (ab a.2-ab b.2)))∧okR a.1)with|true=>(match decide (okR (hid (ag (ab b.1-ab a.1)))∧okR a.2)with|true=>(match decide (okR (hid (ag (ab (hid (ag (ab a.2-ab b.2)))*ab a.1)))∧okR (hid (ag (ab (hid (ag (ab b.1-ab a.1)))*ab a.2))))with|true=>some [RV.d tO (hid (ag (ab a.2-ab b.2)),(hid (ag (ab b.1-ab a.1)),hid (ag (ab (hid (ag (ab (hid (ag (ab a.2-ab b.2)))*ab a.1)))+ab (hid (ag (ab (hid (ag (ab b.1-ab a.1)))*ab a.2))))))),RV.d atB 0]|false=>none)|false=>none)|false=>none))|false=>none)|false=>none)|false=>none
theorem agY(a b:BV):RS ah1 128 [.d tV a,.d tV b] (P5 a b):=rsX
theorem Tt(a b:BV)(h:ok (Rat×Rat) 100 a∧ok (Rat×Rat) 100 b):Con Tryz.prog 128 [.d tV a,.d tV b] [.d tO (Pp (dec a) (dec b)),.d atB (RO (dec a) (dec b))]:=by
 refine aN oC (agY _ _ ⟨0,?_⟩)
 obtain⟨ha,hb⟩:=h
 obtain⟨a,rfl,ba⟩:=aQ ha
 obtain⟨b,rfl,bb⟩:=aQ hb
 unfold P5 Pp RO wg
 simp only[aj,ak,aD,aE,aA,av,aT,aqv,aqw,Nat.reduceAdd,Nat.reduceLeDiff,aH]
 cases decide (a.2-b.2=0)<;>cases decide (b.1-a.1=0)<;>rfl
def alJ:Ctx:=CX CV []
def acg(a b c:BV)(_k:KT):Option (List RV):=match decide (okR b.1∧okR a.1)with|true=>(match decide (okR c.2∧okR a.2)with|true=>(match decide (okR (hid (ag (ab b.1-ab a.1)))∧okR (hid (ag (ab c.2-ab a.2))))with|true=>(match decide (okR b.2∧okR a.2)with|true=>(match decide (okR c.1∧okR a.1)with|true=>(match decide (okR (hid (ag (ab b.2-ab a.2)))∧okR (hid (ag (ab c.1-ab a.1))))with|true=>(match decide (okR (hid (ag (ab (hid (ag (ab b.1-ab a.1)))*ab (hid (ag (ab c.2-ab a.2))))))∧okR (hid (ag (ab (hid (ag (ab b.2-ab a.2)))*ab (hid (ag (ab c.1-ab a.1)))))))with|true=>some [RV.d atB (aS (ab (hid (ag (ab (hid (ag (ab b.1-ab a.1)))*ab (hid (ag (ab c.2-ab a.2))))))) (ab (hid (ag (ab (hid (ag (ab b.2-ab a.2)))*ab (hid (ag (ab c.1-ab a.1))))))))]|false=>none)|false=>none)|false=>none)|false=>none)|false=>none)|false=>none)|false=>none
theorem ajv(a b c:BV):RS alJ 129 [.d tV a,.d tV b,.d tV c] (acg a b c):=rsX
theorem Z4(a b c:BV)(h:ok (Rat×Rat) 100 a∧ok (Rat×Rat) 100 b∧ok (Rat×Rat) 100 c):Con Tryz.prog 129 [.d tV a,.d tV b,.d tV c] [.d atB (rJ (dec a) (dec b) (dec c))]:=by
 refine aN oC (ajv _ _ _ ⟨0,?_⟩)
 obtain⟨ha,hb,hc⟩:=h
 obtain⟨a,rfl,ba⟩:=aQ ha
 obtain⟨b,rfl,bb⟩:=aQ hb
 obtain⟨c,rfl,bc⟩:=aQ hc
 unfold acg
 simp only[aj,ak,aD,aE,aA,av,aT,aqv,aqw,Nat.reduceAdd,Nat.reduceLeDiff]
 rfl
def ahd:Ctx:=CX CV []
def QT(a b c:BV)(_k:KT):Option (List RV):=let y1:=hid (ag (ab b.1-ab a.1));let y2:=hid (ag (ab c.2-ab a.2));let y3:=hid (ag (ab b.2-ab a.2));let y4:=hid (ag (ab c.1-ab a.1));let y5:=hid (ag (ab y1*ab y2));let y6:=hid (ag (ab y3*ab y4));let y7:=hid (ag (ab y5-ab y6));let y8:=hid (ag (ab y1*ab y1));let y9:=hid (ag (ab y3*ab y3));let y10:=hid (ag (ab y4*ab y4));let y11:=hid (ag (ab y2*ab y2));let y12:=hid (ag (ab y8+ab y9));let y13:=hid (ag (ab y10+ab y11));let y14:=hid (ag (ab y12*ab y2));let y15:=hid (ag (ab y13*ab y3));let y16:=hid (ag (ab y14-ab y15));let y17:=hid (ag (ab y7+ab y7));let y18:=hid (ag (ab y13*ab y1));let y19:=hid (ag (ab y12*ab y4));let y20:=hid (ag (ab y18-ab y19));let y21:=hid (ag (ab y16/ab y17));let y22:=hid (ag (ab y20/ab y17));let y23:=hid (ag (ab y21*ab y21));let y24:=hid (ag (ab y22*ab y22));match decide (okR b.1∧okR a.1)with|true=>(match decide (okR b.2∧okR a.2)with|true=>(match decide (okR c.1∧okR a.1)with|true=>(match decide (okR c.2∧okR a.2)with|true=>(match decide (okR y1∧okR y2)with|true=>(match decide (okR y3∧okR y4)with|true=>(match decide (okR y5∧okR y6)with|true=>(match decide (okR y7)with|true=>(match(aS (ab y7) 0)==0 with|true=>some [RV.d tO (((false,[]),(false,[])),(((false,[]),(false,[])),((false,[]),(false,[])))),RV.d atB 6]|false=>(match decide (okR y7∧okR y7)with|true=>(match decide (okR y1∧okR y1)with|true=>(match decide (okR y3∧okR y3)with|true=>(match decide (okR y8∧okR y9)with|true=>(match decide (okR y4∧okR y4)with|true=>(match decide (okR y2∧okR y2)with|true=>(match decide (okR y10∧okR y11)with|true=>(match decide (okR y12∧okR y2)with|true=>(match decide (okR y13∧okR y3)with|true=>(match decide (okR y14∧okR y15)with|true=>(match decide (eL y16 y17)with|true=>(match decide (okR y13∧okR y1)with|true=>(match decide (okR y12∧okR y4)with|true=>(match decide (okR y18∧okR y19)with|true=>(match decide (eL y20 y17)with|true=>(match decide (okR a.1∧okR y21)with|true=>(match decide (okR a.2∧okR y22)with|true=>(match decide (okR y21∧okR y21)with|true=>(match decide (okR y22∧okR y22)with|true=>(match decide (okR y23∧okR y24)with|true=>some [RV.d tO (hid (ag (ab a.1+ab y21)),(hid (ag (ab a.2+ab y22)),hid (ag (ab y23+ab y24)))),RV.d atB 0]|false=>none)|false=>none)|false=>none)|false=>none)|false=>none)|false=>none)|false=>none)|false=>none)|false=>none)|false=>none)|false=>none)|false=>none)|false=>none)|false=>none)|false=>none)|false=>none)|false=>none)|false=>none)|false=>none)|false=>none))|false=>none)|false=>none)|false=>none)|false=>none)|false=>none)|false=>none)|false=>none)|false=>none
theorem agQ(a b c:BV):RS ahd 130 [.d tV a,.d tV b,.d tV c] (QT a b c):=rsX
theorem Oh(a b c:BV)(h:ok (Rat×Rat) 100 a∧ok (Rat×Rat) 100 b∧ok (Rat×Rat) 100 c):Con Tryz.prog 130 [.d tV a,.d tV b,.d tV c] [.d tO (Tr (dec a) (dec b) (dec c)),.d atB (Sr (dec a) (dec b) (dec c))]:=by
 refine aN oC (agQ _ _ _ ⟨0,?_⟩)
 obtain⟨ha,hb,hc⟩:=h
 obtain⟨a,rfl,ba⟩:=aQ ha
 obtain⟨b,rfl,bb⟩:=aQ hb
 obtain⟨c,rfl,bc⟩:=aQ hc
 have e0:(b.1-a.1)*(c.2-a.2)-(b.2-a.2)*(c.1-a.1)=dL a b c:=rfl
 have bD:Bd (dL a b c) 805:=inferInstanceAs (Bd ((b.1-a.1)*(c.2-a.2)-(b.2-a.2)*(c.1-a.1)) _)
 have eX:(((b.1-a.1)*(b.1-a.1)+(b.2-a.2)*(b.2-a.2))*(c.2-a.2)-((c.1-a.1)*(c.1-a.1)+(c.2-a.2)*(c.2-a.2))*(b.2-a.2))/(dL a b c+dL a b c)=uj a b c:=rfl
 have eY:(((c.1-a.1)*(c.1-a.1)+(c.2-a.2)*(c.2-a.2))*(b.1-a.1)-((b.1-a.1)*(b.1-a.1)+(b.2-a.2)*(b.2-a.2))*(c.1-a.1))/(dL a b c+dL a b c)=vT a b c:=rfl
 have m1:Bd ((b.1-a.1)*(b.1-a.1)+(b.2-a.2)*(b.2-a.2)) _:=inferInstance
 have m2:Bd ((c.1-a.1)*(c.1-a.1)+(c.2-a.2)*(c.2-a.2)) _:=inferInstance
 have n1:Bd (((b.1-a.1)*(b.1-a.1)+(b.2-a.2)*(b.2-a.2))*(c.2-a.2)-((c.1-a.1)*(c.1-a.1)+(c.2-a.2)*(c.2-a.2))*(b.2-a.2)) _:=inferInstance
 have n2:Bd (((c.1-a.1)*(c.1-a.1)+(c.2-a.2)*(c.2-a.2))*(b.1-a.1)-((b.1-a.1)*(b.1-a.1)+(b.2-a.2)*(b.2-a.2))*(c.1-a.1)) _:=inferInstance
 have bX0:Bd ((((b.1-a.1)*(b.1-a.1)+(b.2-a.2)*(b.2-a.2))*(c.2-a.2)-((c.1-a.1)*(c.1-a.1)+(c.2-a.2)*(c.2-a.2))*(b.2-a.2))/(dL a b c+dL a b c)) _:=inferInstance
 have bX:Bd (uj a b c) 4000:=by rw[←eX];exact bX0.mono (by decide)
 have bY0:Bd ((((c.1-a.1)*(c.1-a.1)+(c.2-a.2)*(c.2-a.2))*(b.1-a.1)-((b.1-a.1)*(b.1-a.1)+(b.2-a.2)*(b.2-a.2))*(c.1-a.1))/(dL a b c+dL a b c)) _:=inferInstance
 have bY:Bd (vT a b c) 4000:=by rw[←eY];exact bY0.mono (by decide)
 unfold QT Tr Sr
 simp only[aj,ak,aD,aE,aA,av,aT,aqv,aqw,Nat.reduceAdd,Nat.reduceLeDiff,aH,e0]
 by_cases hd:dL a b c=0
 ·rw[aqs hd]
  rfl
 ·have h2:dL a b c+dL a b c≠0:=by grind
  rw[aqu hd]
  simp only[aB,Nat.reduceAdd,Nat.reduceLeDiff,cond_false,h2,ne_eq,asj,eX,eY]
  rfl
def HQ:aM:=spN false true [tV,tV] (fun x=>decide (ok (Rat×Rat) 100 x.1∧ok (Rat×Rat) 100 x.2.1)) (fun x=>[RV.d tO (hid (Pp (dec x.1) (dec x.2.1))),RV.d atB (RO (dec x.1) (dec x.2.1))])
theorem J3:SpK 128 HQ:=spX fun x h=>by simp only[aj];exact Tt x.1 x.2.1 (aqr h)
def OF:aM:=spN true true [tV,tV,tV] (fun x=>decide (ok (Rat×Rat) 100 x.1∧ok (Rat×Rat) 100 x.2.1∧ok (Rat×Rat) 100 x.2.2.1)) (fun x=>[RV.d atB (rJ (dec x.1) (dec x.2.1) (dec x.2.2.1))])
theorem O3:SpK 129 OF:=spX fun x h=>Z4 x.1 x.2.1 x.2.2.1 (aqr h)
def In:aM:=spN false true [tV,tV,tV] (fun x=>decide (ok (Rat×Rat) 100 x.1∧ok (Rat×Rat) 100 x.2.1∧ok (Rat×Rat) 100 x.2.2.1)) (fun x=>[RV.d tO (hid (Tr (dec x.1) (dec x.2.1) (dec x.2.2.1))),RV.d atB (Sr (dec x.1) (dec x.2.1) (dec x.2.2.1))])
theorem Kc:SpK 130 In:=spX fun x h=>by simp only[aj];exact Oh x.1 x.2.1 x.2.2.1 (aqr h)
def Sg:Env:=(128,HQ)::(129,OF)::(130,In)::CV
theorem Dp:EnvAll Tryz.prog Sg:=⟨J3,O3,Kc,oC⟩
def ahl:Ctx:=CX Sg []
def Ql(a b:BV)(_k:KT):Option (List RV):=match decide (ok (Rat×Rat) 100 a∧ok (Rat×Rat) 100 b)with|true=>(match(RO (dec a) (dec b)) !=0 with|true=>some [RV.d tCU (false,((((false,[]),(false,[])),(((false,[]),(false,[])),((false,[]),(false,[])))),((((false,[]),(false,[])),(((false,[]),(false,[])),((false,[]),(false,[])))),(false,((((false,[]),(false,[])),(((false,[]),(false,[])),(((false,[]),(false,[])),(((false,[]),(false,[])),((false,[]),(false,[])))))),(((false,[]),(false,[])),(((false,[]),(false,[])),(((false,[]),(false,[])),(((false,[]),(false,[])),((false,[]),(false,[]))))))))))),RV.d atB 6]|false=>(match decide (ok (Rat×Rat) 100000 a)with|true=>(match decide (ok (Rat×Rat) 100000 b)with|true=>some [RV.d tCU (false,(hid (Pp (dec a) (dec b)),((((false,[]),(false,[])),(((false,[]),(false,[])),((false,[]),(false,[])))),(false,(hid (enc (atP (dec a))),hid (enc (atP (dec b)))))))),RV.d atB 0]|false=>none)|false=>none))|false=>none
theorem ad3(a b:BV):RS ahl 46 [.d tV a,.d tV b] (Ql a b):=rsX
theorem OW(a b:BV)(h:ok (Rat×Rat) 100 a∧ok (Rat×Rat) 100 b):Con Tryz.prog 46 [.d tV a,.d tV b] [.d tCU (uG (dec a) (dec b)),.d atB (pn (dec a) (dec b))]:=by
 refine aN Dp (ad3 _ _ ⟨0,?_⟩)
 obtain⟨ha,hb⟩:=h
 obtain⟨a,rfl,ba⟩:=aQ ha
 obtain⟨b,rfl,bb⟩:=aQ hb
 unfold Ql uG pn RO Pp
 simp only[aj,ak,okd,aqv,aqw,Nat.reduceLeDiff]
 cases wg a b<;>rfl
def afy:Ctx:=CX Sg []
def UF(a b c:BV)(_k:KT):Option (List RV):=match decide (ok (Rat×Rat) 100 a∧ok (Rat×Rat) 100 b∧ok (Rat×Rat) 100 c)with|true=>(match decide (ok (Rat×Rat) 100 a∧ok (Rat×Rat) 100 b∧ok (Rat×Rat) 100 c)with|true=>(match(rJ (dec a) (dec b) (dec c))==0 with|true=>some [RV.d tCU (false,((((false,[]),(false,[])),(((false,[]),(false,[])),((false,[]),(false,[])))),((((false,[]),(false,[])),(((false,[]),(false,[])),((false,[]),(false,[])))),(false,((((false,[]),(false,[])),(((false,[]),(false,[])),(((false,[]),(false,[])),(((false,[]),(false,[])),((false,[]),(false,[])))))),(((false,[]),(false,[])),(((false,[]),(false,[])),(((false,[]),(false,[])),(((false,[]),(false,[])),((false,[]),(false,[]))))))))))),RV.d atB 6]|false=>(match(Sr (dec a) (dec b) (dec c)) !=0 with|true=>some [RV.d tCU (false,((((false,[]),(false,[])),(((false,[]),(false,[])),((false,[]),(false,[])))),((((false,[]),(false,[])),(((false,[]),(false,[])),((false,[]),(false,[])))),(false,((((false,[]),(false,[])),(((false,[]),(false,[])),(((false,[]),(false,[])),(((false,[]),(false,[])),((false,[]),(false,[])))))),(((false,[]),(false,[])),(((false,[]),(false,[])),(((false,[]),(false,[])),(((false,[]),(false,[])),((false,[]),(false,[]))))))))))),RV.d atB 6]|false=>(match decide (ok (Rat×Rat) 100000 a)with|true=>(match decide (ok (Rat×Rat) 100000 c)with|true=>some [RV.d tCU (true,((((false,[]),(false,[])),(((false,[]),(false,[])),((false,[]),(false,[])))),(hid (Tr (dec a) (dec b) (dec c)),(decide ((rJ (dec a) (dec b) (dec c))<0),(hid (enc (atP (dec a))),hid (enc (atP (dec c)))))))),RV.d atB 0]|false=>none)|false=>none)))|false=>none)|false=>none
theorem ae0(a b c:BV):RS afy 48 [.d tV a,.d tV b,.d tV c] (UF a b c):=rsX
theorem Rk(a b c:BV)(h:ok (Rat×Rat) 100 a∧ok (Rat×Rat) 100 b∧ok (Rat×Rat) 100 c):Con Tryz.prog 48 [.d tV a,.d tV b,.d tV c] [.d tCU (uT (dec a) (dec b) (dec c)),.d atB (pi (dec a) (dec b) (dec c))]:=by
 refine aN Dp (ae0 _ _ _ ⟨0,?_⟩)
 obtain⟨ha,hb,hc⟩:=h
 obtain⟨a,rfl,ba⟩:=aQ ha
 obtain⟨b,rfl,bb⟩:=aQ hb
 obtain⟨c,rfl,bc⟩:=aQ hc
 unfold UF uT pi
 simp only[aj,ak,okd,aqv,aqw,Nat.reduceLeDiff]
 rw[ag8]
 unfold Sr Tr
 cases decide (dL a b c=0)<;>rfl
def zx:aM:=spN false true [tV,tV] (fun x=>decide (ok (Rat×Rat) 100 x.1∧ok (Rat×Rat) 100 x.2.1)) (fun x=>[RV.d tCU (hid (uG (dec x.1) (dec x.2.1))),RV.d atB (pn (dec x.1) (dec x.2.1))])
theorem xV:SpK 46 zx:=spX fun x h=>by simp only[aj];exact OW x.1 x.2.1 (aqr h)
def yw:aM:=spN false true [tV,tV,tV] (fun x=>decide (ok (Rat×Rat) 100 x.1∧ok (Rat×Rat) 100 x.2.1∧ok (Rat×Rat) 100 x.2.2.1)) (fun x=>[RV.d tCU (hid (uT (dec x.1) (dec x.2.1) (dec x.2.2.1))),RV.d atB (pi (dec x.1) (dec x.2.1) (dec x.2.2.1))])
theorem wP:SpK 48 yw:=spX fun x h=>by simp only[aj];exact Rk x.1 x.2.1 x.2.2.1 (aqr h)
def fR(c:Cv):List BP→BP→List BP
 |[],x=>[x]
 |y::r,x=>bif decide (du c (dec y) (dec x)<0)then y::fR c r x else bif cz (dec y) (dec x)==0 then y::r else x::y::r
def fI(c:Cv)(l:List BP):List BP:=l.foldl (fR c) []
def rT(c:BCU)(l:List BP):Prop:=okC 4000 c∧l.length≤1000000∧∀x∈l,okP 4000 x
instance (c:BCU) (l:List BP):Decidable (rT c l):=by unfold rT;infer_instance
theorem l8{c:Cv}{x y:BP}:∀{r:List BP},y∈fR c r x→y∈r∨y=x
 |[],h=>by simp only[fR,List.mem_singleton]at h;exact .inr h
 |z::r,h=>by
  simp only[fR]at h
  cases h1:decide (du c (dec z) (dec x)<0)<;>rw[h1]at h
  ·cases h2:cz (dec z) (dec x)==0<;>rw[h2]at h
   ·rcases arc.1 h with h|h
    ·exact .inr h
    ·exact .inl h
   ·exact .inl h
  ·rcases arc.1 h with h|h
   ·exact .inl (by simp[h])
   ·rcases l8 h with h|h
    ·exact .inl (arK _ h)
    ·exact .inr h
theorem vk(c:Cv)(x:BP):∀r:List BP,(fR c r x).length≤r.length+1
 |[]=>by simp[fR]
 |z::r=>by
  have:=vk c x r
  simp only[fR]
  cases decide (du c (dec z) (dec x)<0)
  ·cases cz (dec z) (dec x)==0<;>simp
  ·simp only[cond_true,aq1];omega
theorem AK{c:Cv}:∀{l out:List BP} {y:BP},y∈l.foldl (fR c) out→y∈out∨y∈l
 |[],_,_,h=>.inl h
 |x::l,out,y,h=>by
  rcases AK (l:=l) (out:=fR c out x) h with h|h
  ·rcases l8 h with h|h
   ·exact .inl h
   ·exact .inr (by simp[h])
  ·exact .inr (arK _ h)
theorem sD(c:Cv):∀(l out:List BP),(l.foldl (fR c) out).length≤out.length+l.length
 |[],_=>aqE _
 |x::l,out=>by
  have h1:=sD c l (fR c out x)
  have h2:=vk c x out
  simp only[List.foldl_cons,aq1]
  omega
theorem JQ{α:Type}{l:List α}{k:Nat}(h:k<l.length):l.take (k+1)=l.take k++[l[k]]:=by rw[List.take_succ_eq_append_getElem h]
def acP:Env:=[(81,vm),(19,t6),(122,sh)]
theorem MZ:EnvAll Tryz.prog acP:=⟨pz,pA,ql,trivial⟩
def afG:NT:=[((95,8),{keep:=[1,2,5,6],pure_:=[(5,tP)],hl:=1}),((95,21),{keep:=[1,2,5,6,7],pure_:=[(5,tP)],hl:=1})]
def rH:Ctx:=CX acP afG
def iN(c:BCU)(l:List BP)(s6:Int)(s5:List BP):Cfg:=⟨95,[.blk 0,.seq 38],[(1,.d (.sl tP) l),(2,.box 0 0),(5,.d (.sl tP) s5),(6,SI s6)],[.box 43 [SB c.1,SB c.2.1.1.1.1,.d atA c.2.1.1.1.2,SB c.2.1.1.2.1,.d atA c.2.1.1.2.2,SB c.2.1.2.1.1.1,.d atA c.2.1.2.1.1.2,SB c.2.1.2.1.2.1,.d atA c.2.1.2.1.2.2,SB c.2.1.2.2.1.1,.d atA c.2.1.2.2.1.2,SB c.2.1.2.2.2.1,.d atA c.2.1.2.2.2.2,SB c.2.2.1.1.1.1,.d atA c.2.2.1.1.1.2,SB c.2.2.1.1.2.1,.d atA c.2.2.1.1.2.2,SB c.2.2.1.2.1.1.1,.d atA c.2.2.1.2.1.1.2,SB c.2.2.1.2.1.2.1,.d atA c.2.2.1.2.1.2.2,SB c.2.2.1.2.2.1.1,.d atA c.2.2.1.2.2.1.2,SB c.2.2.1.2.2.2.1,.d atA c.2.2.1.2.2.2.2,SB c.2.2.2.1,SB c.2.2.2.2.1.1.1.1,.d atA c.2.2.2.2.1.1.1.2,SB c.2.2.2.2.1.1.2.1,.d atA c.2.2.2.2.1.1.2.2,SB c.2.2.2.2.1.2.1.1.1,.d atA c.2.2.2.2.1.2.1.1.2,SB c.2.2.2.2.1.2.1.2.1,.d atA c.2.2.2.2.1.2.1.2.2,SB c.2.2.2.2.1.2.2.1.1.1,.d atA c.2.2.2.2.1.2.2.1.1.2,SB c.2.2.2.2.1.2.2.1.2.1,.d atA c.2.2.2.2.1.2.2.1.2.2,SB c.2.2.2.2.1.2.2.2.1.1.1,.d atA c.2.2.2.2.1.2.2.2.1.1.2,SB c.2.2.2.2.1.2.2.2.1.2.1,.d atA c.2.2.2.2.1.2.2.2.1.2.2,SB c.2.2.2.2.1.2.2.2.2.1.1,.d atA c.2.2.2.2.1.2.2.2.2.1.2,SB c.2.2.2.2.1.2.2.2.2.2.1,.d atA c.2.2.2.2.1.2.2.2.2.2.2,SB c.2.2.2.2.2.1.1.1,.d atA c.2.2.2.2.2.1.1.2,SB c.2.2.2.2.2.1.2.1,.d atA c.2.2.2.2.2.1.2.2,SB c.2.2.2.2.2.2.1.1.1,.d atA c.2.2.2.2.2.2.1.1.2,SB c.2.2.2.2.2.2.1.2.1,.d atA c.2.2.2.2.2.2.1.2.2,SB c.2.2.2.2.2.2.2.1.1.1,.d atA c.2.2.2.2.2.2.2.1.1.2,SB c.2.2.2.2.2.2.2.1.2.1,.d atA c.2.2.2.2.2.2.2.1.2.2,SB c.2.2.2.2.2.2.2.2.1.1.1,.d atA c.2.2.2.2.2.2.2.2.1.1.2,SB c.2.2.2.2.2.2.2.2.1.2.1,.d atA c.2.2.2.2.2.2.2.2.1.2.2,SB c.2.2.2.2.2.2.2.2.2.1.1,.d atA c.2.2.2.2.2.2.2.2.2.1.2,SB c.2.2.2.2.2.2.2.2.2.2.1,.d atA c.2.2.2.2.2.2.2.2.2.2.2]],0,[]⟩
def so(c:BCU)(l s5:List BP)(s6 s7:Int):Cfg:=⟨95,[.blk 2,.seq 30,.blk 1,.seq 37,.lp 8,.blk 0,.seq 38],[(1,.d (.sl tP) l),(2,.box 0 0),(5,.d (.sl tP) s5),(6,SI s6),(7,SI s7)],[.box 43 [SB c.1,SB c.2.1.1.1.1,.d atA c.2.1.1.1.2,SB c.2.1.1.2.1,.d atA c.2.1.1.2.2,SB c.2.1.2.1.1.1,.d atA c.2.1.2.1.1.2,SB c.2.1.2.1.2.1,.d atA c.2.1.2.1.2.2,SB c.2.1.2.2.1.1,.d atA c.2.1.2.2.1.2,SB c.2.1.2.2.2.1,.d atA c.2.1.2.2.2.2,SB c.2.2.1.1.1.1,.d atA c.2.2.1.1.1.2,SB c.2.2.1.1.2.1,.d atA c.2.2.1.1.2.2,SB c.2.2.1.2.1.1.1,.d atA c.2.2.1.2.1.1.2,SB c.2.2.1.2.1.2.1,.d atA c.2.2.1.2.1.2.2,SB c.2.2.1.2.2.1.1,.d atA c.2.2.1.2.2.1.2,SB c.2.2.1.2.2.2.1,.d atA c.2.2.1.2.2.2.2,SB c.2.2.2.1,SB c.2.2.2.2.1.1.1.1,.d atA c.2.2.2.2.1.1.1.2,SB c.2.2.2.2.1.1.2.1,.d atA c.2.2.2.2.1.1.2.2,SB c.2.2.2.2.1.2.1.1.1,.d atA c.2.2.2.2.1.2.1.1.2,SB c.2.2.2.2.1.2.1.2.1,.d atA c.2.2.2.2.1.2.1.2.2,SB c.2.2.2.2.1.2.2.1.1.1,.d atA c.2.2.2.2.1.2.2.1.1.2,SB c.2.2.2.2.1.2.2.1.2.1,.d atA c.2.2.2.2.1.2.2.1.2.2,SB c.2.2.2.2.1.2.2.2.1.1.1,.d atA c.2.2.2.2.1.2.2.2.1.1.2,SB c.2.2.2.2.1.2.2.2.1.2.1,.d atA c.2.2.2.2.1.2.2.2.1.2.2,SB c.2.2.2.2.1.2.2.2.2.1.1,.d atA c.2.2.2.2.1.2.2.2.2.1.2,SB c.2.2.2.2.1.2.2.2.2.2.1,.d atA c.2.2.2.2.1.2.2.2.2.2.2,SB c.2.2.2.2.2.1.1.1,.d atA c.2.2.2.2.2.1.1.2,SB c.2.2.2.2.2.1.2.1,.d atA c.2.2.2.2.2.1.2.2,SB c.2.2.2.2.2.2.1.1.1,.d atA c.2.2.2.2.2.2.1.1.2,SB c.2.2.2.2.2.2.1.2.1,.d atA c.2.2.2.2.2.2.1.2.2,SB c.2.2.2.2.2.2.2.1.1.1,.d atA c.2.2.2.2.2.2.2.1.1.2,SB c.2.2.2.2.2.2.2.1.2.1,.d atA c.2.2.2.2.2.2.2.1.2.2,SB c.2.2.2.2.2.2.2.2.1.1.1,.d atA c.2.2.2.2.2.2.2.2.1.1.2,SB c.2.2.2.2.2.2.2.2.1.2.1,.d atA c.2.2.2.2.2.2.2.2.1.2.2,SB c.2.2.2.2.2.2.2.2.2.1.1,.d atA c.2.2.2.2.2.2.2.2.2.1.2,SB c.2.2.2.2.2.2.2.2.2.2.1,.d atA c.2.2.2.2.2.2.2.2.2.2.2]],0,[]⟩
def anc(c:BCU)(l:List BP)(k:KT):Option (List RV):=k 8 (iN c l 0 ([]))
theorem akL(c:BCU)(l:List BP):RS rH 95 [.d tCU c,.d (.sl tP) l] (anc c l):=rsX
def v6(c:BCU)(l:List BP)(s6:Int)(s5:List BP)(k:KT):Option (List RV):=match decide (s6<(l.length:Int))with|true=>k 21 (so c l s5 s6 0)|false=>some [RV.d (.sl tP) s5]
theorem Dm(c:BCU)(l:List BP)(s6:Int)(s5:List BP):RN rH 8 (iN c l s6 s5) (v6 c l s6 s5):=rnX
def qV(c:BCU)(l s5:List BP)(s6 s7:Int)(k:KT):Option (List RV):=match decide (s7<(s5.length:Int))with|true=>(match bu s5 s7 with|some x1=>(match bu l s6 with|some x2=>(match decide (okC 4000 c∧okP 4000 x1∧okP 4000 x2)with|true=>(match decide ((du (dC c) (dec x1) (dec x2))<0)with|true=>k 21 (so c l s5 s6 (i64.wrap (s7+1)))|false=>(match decide (s7<(s5.length:Int))with|true=>(match bu s5 s7 with|some x3=>(match bu l s6 with|some x4=>(match decide (okP 4000 x3∧okP 4000 x4)with|true=>(match cz (dec x3) (dec x4)==0 with|true=>k 8 (iN c l (i64.wrap (s6+1)) s5)|false=>(match decide ((0:Int)≤0∧0≤s7∧s7≤(s5.length:Int))with|true=>(match bu l s6 with|some x5=>(match decide ((0:Int)≤s7∧s7≤(s5.length:Int)∧(s5.length:Int)≤(s5.length:Int))with|true=>dup (.b (.b .l .l) .l) (match decide ((([]:List BP).length+((s5.take (s7).toNat).drop (0:Int).toNat).length)*320≤140737488355328∧([]:List BP).length+((s5.take (s7).toNat).drop (0:Int).toNat).length≤140737488355328)with|true=>(match decide (((([]:List BP)++((s5.take (s7).toNat).drop (0:Int).toNat)).length+([x5]).length)*320≤140737488355328∧(([]:List BP)++((s5.take (s7).toNat).drop (0:Int).toNat)).length+([x5]).length≤140737488355328)with|true=>(match decide ((((([]:List BP)++((s5.take (s7).toNat).drop (0:Int).toNat))++([x5])).length+((s5.take ((s5.length:Int)).toNat).drop (s7:Int).toNat).length)*320≤140737488355328∧((([]:List BP)++((s5.take (s7).toNat).drop (0:Int).toNat))++([x5])).length+((s5.take ((s5.length:Int)).toNat).drop (s7:Int).toNat).length≤140737488355328)with|true=>k 8 (iN c l (i64.wrap (s6+1)) (((([]:List BP)++((s5.take (s7).toNat).drop (0:Int).toNat))++([x5]))++((s5.take ((s5.length:Int)).toNat).drop (s7:Int).toNat)))|false=>none)|false=>none)|false=>none)|false=>none)|none=>none)|false=>none))|false=>none)|none=>none)|none=>none)|false=>(match decide ((0:Int)≤0∧0≤s7∧s7≤(s5.length:Int))with|true=>(match bu l s6 with|some x3=>(match decide ((0:Int)≤s7∧s7≤(s5.length:Int)∧(s5.length:Int)≤(s5.length:Int))with|true=>dup (.b (.b .l .l) .l) (match decide ((([]:List BP).length+((s5.take (s7).toNat).drop (0:Int).toNat).length)*320≤140737488355328∧([]:List BP).length+((s5.take (s7).toNat).drop (0:Int).toNat).length≤140737488355328)with|true=>(match decide (((([]:List BP)++((s5.take (s7).toNat).drop (0:Int).toNat)).length+([x3]).length)*320≤140737488355328∧(([]:List BP)++((s5.take (s7).toNat).drop (0:Int).toNat)).length+([x3]).length≤140737488355328)with|true=>(match decide ((((([]:List BP)++((s5.take (s7).toNat).drop (0:Int).toNat))++([x3])).length+((s5.take ((s5.length:Int)).toNat).drop (s7:Int).toNat).length)*320≤140737488355328∧((([]:List BP)++((s5.take (s7).toNat).drop (0:Int).toNat))++([x3])).length+((s5.take ((s5.length:Int)).toNat).drop (s7:Int).toNat).length≤140737488355328)with|true=>k 8 (iN c l (i64.wrap (s6+1)) (((([]:List BP)++((s5.take (s7).toNat).drop (0:Int).toNat))++([x3]))++((s5.take ((s5.length:Int)).toNat).drop (s7:Int).toNat)))|false=>none)|false=>none)|false=>none)|false=>none)|none=>none)|false=>none)))|false=>none)|none=>none)|none=>none)|false=>(match decide (s7<(s5.length:Int))with|true=>(match bu s5 s7 with|some x1=>(match bu l s6 with|some x2=>(match decide (okP 4000 x1∧okP 4000 x2)with|true=>(match cz (dec x1) (dec x2)==0 with|true=>k 8 (iN c l (i64.wrap (s6+1)) s5)|false=>(match decide ((0:Int)≤0∧0≤s7∧s7≤(s5.length:Int))with|true=>(match bu l s6 with|some x3=>(match decide ((0:Int)≤s7∧s7≤(s5.length:Int)∧(s5.length:Int)≤(s5.length:Int))with|true=>dup (.b (.b .l .l) .l) (match decide ((([]:List BP).length+((s5.take (s7).toNat).drop (0:Int).toNat).length)*320≤140737488355328∧([]:List BP).length+((s5.take (s7).toNat).drop (0:Int).toNat).length≤140737488355328)with|true=>(match decide (((([]:List BP)++((s5.take (s7).toNat).drop (0:Int).toNat)).length+([x3]).length)*320≤140737488355328∧(([]:List BP)++((s5.take (s7).toNat).drop (0:Int).toNat)).length+([x3]).length≤140737488355328)with|true=>(match decide ((((([]:List BP)++((s5.take (s7).toNat).drop (0:Int).toNat))++([x3])).length+((s5.take ((s5.length:Int)).toNat).drop (s7:Int).toNat).length)*320≤140737488355328∧((([]:List BP)++((s5.take (s7).toNat).drop (0:Int).toNat))++([x3])).length+((s5.take ((s5.length:Int)).toNat).drop (s7:Int).toNat).length≤140737488355328)with|true=>k 8 (iN c l (i64.wrap (s6+1)) (((([]:List BP)++((s5.take (s7).toNat).drop (0:Int).toNat))++([x3]))++((s5.take ((s5.length:Int)).toNat).drop (s7:Int).toNat)))|false=>none)|false=>none)|false=>none)|false=>none)|none=>none)|false=>none))|false=>none)|none=>none)|none=>none)|false=>(match decide ((0:Int)≤0∧0≤s7∧s7≤(s5.length:Int))with|true=>(match bu l s6 with|some x1=>(match decide ((0:Int)≤s7∧s7≤(s5.length:Int)∧(s5.length:Int)≤(s5.length:Int))with|true=>dup (.b (.b .l .l) .l) (match decide ((([]:List BP).length+((s5.take (s7).toNat).drop (0:Int).toNat).length)*320≤140737488355328∧([]:List BP).length+((s5.take (s7).toNat).drop (0:Int).toNat).length≤140737488355328)with|true=>(match decide (((([]:List BP)++((s5.take (s7).toNat).drop (0:Int).toNat)).length+([x1]).length)*320≤140737488355328∧(([]:List BP)++((s5.take (s7).toNat).drop (0:Int).toNat)).length+([x1]).length≤140737488355328)with|true=>(match decide ((((([]:List BP)++((s5.take (s7).toNat).drop (0:Int).toNat))++([x1])).length+((s5.take ((s5.length:Int)).toNat).drop (s7:Int).toNat).length)*320≤140737488355328∧((([]:List BP)++((s5.take (s7).toNat).drop (0:Int).toNat))++([x1])).length+((s5.take ((s5.length:Int)).toNat).drop (s7:Int).toNat).length≤140737488355328)with|true=>k 8 (iN c l (i64.wrap (s6+1)) (((([]:List BP)++((s5.take (s7).toNat).drop (0:Int).toNat))++([x1]))++((s5.take ((s5.length:Int)).toNat).drop (s7:Int).toNat)))|false=>none)|false=>none)|false=>none)|false=>none)|none=>none)|false=>none))
theorem xn(c:BCU)(l s5:List BP)(s6 s7:Int):RN rH 21 (so c l s5 s6 s7) (qV c l s5 s6 s7):=rnX
theorem aev(c:BCU)(l:List BP)(hc:okC 4000 c)(hl:∀x∈l,okP 4000 x)(out:List BP)(ho:∀x∈out,okP 4000 x)(hlen:out.length≤1000000)(i:Nat)(hi:i<l.length)(hi2:i≤1000000)(r:List RV)(h:rH.Runs 8 (iN c l ((i+1:Nat):Int) (fR (dC c) out l[i])) r):
  ∀(j k:Nat),k+j=out.length→fR (dC c) out l[i]=out.take k++fR (dC c) (out.drop k) l[i]→rH.Runs 21 (so c l out (i:Int) (k:Int)) r:=by
 have e0:i64.wrap ((i:Int)+1)=((i+1:Nat):Int):=cG (by omega)
 have gl:bu l (i:Int)=some l[i]:=by rw[aI,aqt hi]
 have hx:=hl _ (ars hi)
 have tl:out.take ((out.length:Int)).toNat=out:=by simp
 have put:∀k:Nat,k≤out.length→fR (dC c) out l[i]=out.take k++[l[i]]++out.drop k→∃n,(match decide ((0:Int)≤0∧0≤(k:Int)∧(k:Int)≤(out.length:Int))with
   |true=>(match bu l (i:Int)with
    |some x5=>(match decide ((0:Int)≤(k:Int)∧(k:Int)≤(out.length:Int)∧(out.length:Int)≤(out.length:Int))with
     |true=>(match decide ((([]:List BP).length+((out.take ((k:Int)).toNat).drop (0:Int).toNat).length)*320≤140737488355328∧([]:List BP).length+((out.take ((k:Int)).toNat).drop (0:Int).toNat).length≤140737488355328)with
      |true=>(match decide (((([]:List BP)++((out.take ((k:Int)).toNat).drop (0:Int).toNat)).length+([x5]).length)*320≤140737488355328∧(([]:List BP)++((out.take ((k:Int)).toNat).drop (0:Int).toNat)).length+([x5]).length≤140737488355328)with
       |true=>(match decide ((((([]:List BP)++((out.take ((k:Int)).toNat).drop (0:Int).toNat))++([x5])).length+((out.take ((out.length:Int)).toNat).drop ((k:Int)).toNat).length)*320≤140737488355328∧((([]:List BP)++((out.take ((k:Int)).toNat).drop (0:Int).toNat))++([x5])).length+((out.take ((out.length:Int)).toNat).drop ((k:Int)).toNat).length≤140737488355328)with
        |true=>rH.k n 8 (iN c l (i64.wrap ((i:Int)+1)) (((([]:List BP)++((out.take ((k:Int)).toNat).drop (0:Int).toNat))++([x5]))++((out.take ((out.length:Int)).toNat).drop ((k:Int)).toNat)))
        |false=>none)
       |false=>none)
      |false=>none)
     |false=>none)
    |none=>none)
   |false=>none)=some r:=by
  intro k hk he
  have e1:((out.take ((k:Int)).toNat).drop (0:Int).toNat)=out.take k:=by simp
  have e2:((out.take ((out.length:Int)).toNat).drop ((k:Int)).toNat)=out.drop k:=by simp
  have l1:(out.take k).length=k:=by simp;omega
  have l2:(out.drop k).length=out.length-k:=by simp
  obtain⟨n,hn⟩:=h
  refine⟨n,?_⟩
  rw[gl,dT (show(0:Int)≤0∧0≤(k:Int)∧(k:Int)≤(out.length:Int) by omega)]
  dsimp only
  rw[dT (show(0:Int)≤(k:Int)∧(k:Int)≤(out.length:Int)∧(out.length:Int)≤(out.length:Int) by omega)]
  simp only[e1,e2,asO,List.length_nil,arN,aq1,l1,l2,aq9]
  rw[dT (by omega),dT (by omega),dT (by omega),e0,←he]
  exact hn
 intro j
 induction j with
 |zero=>
  intro k hk he
  have hk:k=out.length:=by omega
  subst hk
  refine xn _ _ _ _ _ ?_
  unfold qV
  rw[cF (by omega)]
  simp only[aK]
  refine put _ (aqE _) ?_
  rw[he]
  simp[fR]
 |succ j ih=>
  intro k hk he
  have hkl:k<out.length:=by omega
  have go:bu out (k:Int)=some out[k]:=by rw[aI,aqt hkl]
  have ho1:=ho _ (ars hkl)
  have ek:i64.wrap ((k:Int)+1)=((k+1:Nat):Int):=cG (by omega)
  have hd:out.drop k=out[k]::out.drop (k+1):=aqP hkl
  refine xn _ _ _ _ _ ?_
  unfold qV
  simp only[aK,cd hkl,go,gl,dT (show okC 4000 c∧okP 4000 out[k]∧okP 4000 l[i] from⟨hc,ho1,hx⟩),dT (show okP 4000 out[k]∧okP 4000 l[i] from⟨ho1,hx⟩)]
  rw[hd]at he
  simp only[fR]at he
  cases h1:decide (du (dC c) (dec out[k]) (dec l[i])<0)<;>rw[h1]at he
  ·simp only[cond_false]at he
   cases h2:cz (dec out[k]) (dec l[i])==0<;>rw[h2]at he
   ·simp only[cond_false]at he
    have:=put k (by omega) (by rw[he,hd];simp)
    simp only[gl]at this
    exact this
   ·simp only[cond_true]at he
    rw[←hd,arP]at he
    obtain⟨n,hn⟩:=h
    refine⟨n,?_⟩
    rw[e0]
    rw[he]at hn
    exact hn
  ·simp only[cond_true]at he
   obtain⟨n,hn⟩:=ih (k+1) (by omega) (by rw[he,JQ hkl,arR];rfl)
   refine⟨n,?_⟩
   rw[ek]
   exact hn
theorem YD(c:BCU)(l:List BP)(hc:okC 4000 c)(hl:∀x∈l,okP 4000 x)(hle:l.length≤1000000):∀(j i:Nat),i+j=l.length→∀out:List BP,(∀x∈out,okP 4000 x)→out.length≤i→rH.Runs 8 (iN c l (i:Int) out) [.d (.sl tP) ((l.drop i).foldl (fR (dC c)) out)]:=by
 intro j
 induction j with
 |zero=>
  intro i hi out ho hlen
  refine Dm _ _ _ _ ⟨0,?_⟩
  unfold v6
  rw[cF (by omega),MR (by omega)]
  rfl
 |succ j ih=>
  intro i hi out ho hlen
  have hil:i<l.length:=by omega
  have h2:=ih (i+1) (by omega) (fR (dC c) out l[i]) (fun x hx=>by
   rcases l8 hx with h|h
   ·exact ho x h
   ·rw[h];exact hl _ (ars hil)) (aqM (vk _ _ _) (by omega))
  obtain⟨n,hn⟩:=aev c l hc hl out ho (by omega) i hil (by omega) _ h2 out.length 0 (by omega) (by simp)
  refine Dm _ _ _ _ ⟨n,?_⟩
  unfold v6
  rw[cd hil,jS hil,List.foldl_cons]
  exact hn
theorem Zc(c:BCU)(l:List BP)(h:rT c l):Con Tryz.prog 95 [.d tCU c,.d (.sl tP) l] [.d (.sl tP) (fI (dC c) l)]:=by
 obtain⟨hc,hle,hl⟩:=h
 refine aN MZ (show rH.Res _ _ _ from ?_)
 obtain⟨n,hn⟩:=YD c l hc hl hle l.length 0 (by omega) [] (fun x hx=>by cases hx) (aqE _)
 exact akL _ _ ⟨n,hn⟩
def EU:aM:=spN false false [tCU,(.sl tP)] (fun x=>decide (rT x.1 x.2.1)) (fun x=>[RV.d (.sl tP) (fI (dC x.1) x.2.1)])
theorem A9:SpK 95 EU:=spX fun x h=>Zc x.1 x.2.1 (aqr h)
def sZ(c:BCU)(x y:BP):BCU:=(c.1,c.2.1,c.2.2.1,c.2.2.2.1,x,y)
def wd(c:BCU):List BP→List BCU
 |[]=>[]
 |x::r=>match r with
  |[]=>[]
  |y::_=>sZ c x y::wd c r
def qH(c:BCU)(l:List BP):List BP:=fI (dC c) ([c.2.2.2.2.1,c.2.2.2.2.2]++l)
def gJ(c:BCU)(l:List BP):List BCU:=wd c (qH c l)
def wr(c:BCU)(l:List BP):Prop:=okC 3500 c∧l.length≤900000∧∀x∈l,okP 3500 x∧onR (dC c) (dec x)=true
instance (c:BCU) (l:List BP):Decidable (wr c l):=by unfold wr;infer_instance
theorem Z5{c:BCU}{l:List BP}(h:wr c l):rT c ([c.2.2.2.2.1,c.2.2.2.2.2]++l):=by
 obtain⟨h1,h2,h3⟩:=h
 have h4:=dB (k:=4000) h1 (by decide) (by decide)
 refine⟨h4,by simp;omega,fun x hx=>?_⟩
 rcases aq7.1 hx with hx|hx
 ·simp only[arc,List.not_mem_nil,or_false]at hx
  rcases hx with rfl|rfl
  ·exact h4.2.2.1
  ·exact h4.2.2.2
 ·exact cI (h3 x hx).1 (by decide) (by decide)
theorem G8(c:BCU)(l:List BP):(qH c l).length≤l.length+2:=by
 have:=sD (dC c) ([c.2.2.2.2.1,c.2.2.2.2.2]++l) []
 unfold qH fI
 simp at this ⊢
 omega
theorem Ht{c:BCU}{l:List BP}{x:BP}(h:x∈qH c l):x=c.2.2.2.2.1∨x=c.2.2.2.2.2∨x∈l:=by
 rcases AK (out:=[]) h with h|h
 ·cases h
 ·rcases aq7.1 h with h|h
  ·simp only[arc,List.not_mem_nil,or_false]at h
   rcases h with h|h
   ·exact .inl h
   ·exact .inr (.inl h)
  ·exact .inr (.inr h)
theorem Gt{c p:BCU}:∀{s:List BP},p∈wd c s→∃x y,x∈s∧y∈s∧p=sZ c x y
 |[],h=>by cases h
 |[_],h=>by cases h
 |x::y::r,h=>by
  simp only[wd]at h
  rcases arc.1 h with h|h
  ·exact⟨x,y,by simp,by simp,h⟩
  ·obtain⟨a,b,h1,h2,h3⟩:=Gt (s:=y::r) h
   exact⟨a,b,arK _ h1,arK _ h2,h3⟩
def aaQ:Env:=[(81,vm),(19,t6),(122,sh),(17,z9),(96,mH),(95,EU)]
theorem OY:EnvAll Tryz.prog aaQ:=⟨pz,pA,ql,tv,jW,A9,trivial⟩
def agR:NT:=[((28,6),{keep:=[1,2,6],hl:=1}),((28,31),{keep:=[2,7,8,9],own:=[(8,43,tCU)],hl:=3})]
def yh:Ctx:=CX aaQ agR
def Au(c:BCU)(l:List BP)(s6:Int):Cfg:=⟨28,[.blk 0,.seq 23],[(1,.d (.sl tP) l),(2,.box 0 0),(6,SI s6)],[.box 43 [SB c.1,SB c.2.1.1.1.1,.d atA c.2.1.1.1.2,SB c.2.1.1.2.1,.d atA c.2.1.1.2.2,SB c.2.1.2.1.1.1,.d atA c.2.1.2.1.1.2,SB c.2.1.2.1.2.1,.d atA c.2.1.2.1.2.2,SB c.2.1.2.2.1.1,.d atA c.2.1.2.2.1.2,SB c.2.1.2.2.2.1,.d atA c.2.1.2.2.2.2,SB c.2.2.1.1.1.1,.d atA c.2.2.1.1.1.2,SB c.2.2.1.1.2.1,.d atA c.2.2.1.1.2.2,SB c.2.2.1.2.1.1.1,.d atA c.2.2.1.2.1.1.2,SB c.2.2.1.2.1.2.1,.d atA c.2.2.1.2.1.2.2,SB c.2.2.1.2.2.1.1,.d atA c.2.2.1.2.2.1.2,SB c.2.2.1.2.2.2.1,.d atA c.2.2.1.2.2.2.2,SB c.2.2.2.1,SB c.2.2.2.2.1.1.1.1,.d atA c.2.2.2.2.1.1.1.2,SB c.2.2.2.2.1.1.2.1,.d atA c.2.2.2.2.1.1.2.2,SB c.2.2.2.2.1.2.1.1.1,.d atA c.2.2.2.2.1.2.1.1.2,SB c.2.2.2.2.1.2.1.2.1,.d atA c.2.2.2.2.1.2.1.2.2,SB c.2.2.2.2.1.2.2.1.1.1,.d atA c.2.2.2.2.1.2.2.1.1.2,SB c.2.2.2.2.1.2.2.1.2.1,.d atA c.2.2.2.2.1.2.2.1.2.2,SB c.2.2.2.2.1.2.2.2.1.1.1,.d atA c.2.2.2.2.1.2.2.2.1.1.2,SB c.2.2.2.2.1.2.2.2.1.2.1,.d atA c.2.2.2.2.1.2.2.2.1.2.2,SB c.2.2.2.2.1.2.2.2.2.1.1,.d atA c.2.2.2.2.1.2.2.2.2.1.2,SB c.2.2.2.2.1.2.2.2.2.2.1,.d atA c.2.2.2.2.1.2.2.2.2.2.2,SB c.2.2.2.2.2.1.1.1,.d atA c.2.2.2.2.2.1.1.2,SB c.2.2.2.2.2.1.2.1,.d atA c.2.2.2.2.2.1.2.2,SB c.2.2.2.2.2.2.1.1.1,.d atA c.2.2.2.2.2.2.1.1.2,SB c.2.2.2.2.2.2.1.2.1,.d atA c.2.2.2.2.2.2.1.2.2,SB c.2.2.2.2.2.2.2.1.1.1,.d atA c.2.2.2.2.2.2.2.1.1.2,SB c.2.2.2.2.2.2.2.1.2.1,.d atA c.2.2.2.2.2.2.2.1.2.2,SB c.2.2.2.2.2.2.2.2.1.1.1,.d atA c.2.2.2.2.2.2.2.2.1.1.2,SB c.2.2.2.2.2.2.2.2.1.2.1,.d atA c.2.2.2.2.2.2.2.2.1.2.2,SB c.2.2.2.2.2.2.2.2.2.1.1,.d atA c.2.2.2.2.2.2.2.2.2.1.2,SB c.2.2.2.2.2.2.2.2.2.2.1,.d atA c.2.2.2.2.2.2.2.2.2.2.2]],0,[]⟩
def sf(c:BCU)(l:List BP)(s9:Int)(r2:List BCU):Cfg:=⟨28,[.blk 2,.seq 46],[(2,.box 0 0),(7,.d (.sl tP) (fI (dC c) (([c.2.2.2.2.1,c.2.2.2.2.2])++l))),(8,.own 2),(9,SI s9)],[.box 43 [SB c.1,SB c.2.1.1.1.1,.d atA c.2.1.1.1.2,SB c.2.1.1.2.1,.d atA c.2.1.1.2.2,SB c.2.1.2.1.1.1,.d atA c.2.1.2.1.1.2,SB c.2.1.2.1.2.1,.d atA c.2.1.2.1.2.2,SB c.2.1.2.2.1.1,.d atA c.2.1.2.2.1.2,SB c.2.1.2.2.2.1,.d atA c.2.1.2.2.2.2,SB c.2.2.1.1.1.1,.d atA c.2.2.1.1.1.2,SB c.2.2.1.1.2.1,.d atA c.2.2.1.1.2.2,SB c.2.2.1.2.1.1.1,.d atA c.2.2.1.2.1.1.2,SB c.2.2.1.2.1.2.1,.d atA c.2.2.1.2.1.2.2,SB c.2.2.1.2.2.1.1,.d atA c.2.2.1.2.2.1.2,SB c.2.2.1.2.2.2.1,.d atA c.2.2.1.2.2.2.2,SB c.2.2.2.1,SB c.2.2.2.2.1.1.1.1,.d atA c.2.2.2.2.1.1.1.2,SB c.2.2.2.2.1.1.2.1,.d atA c.2.2.2.2.1.1.2.2,SB c.2.2.2.2.1.2.1.1.1,.d atA c.2.2.2.2.1.2.1.1.2,SB c.2.2.2.2.1.2.1.2.1,.d atA c.2.2.2.2.1.2.1.2.2,SB c.2.2.2.2.1.2.2.1.1.1,.d atA c.2.2.2.2.1.2.2.1.1.2,SB c.2.2.2.2.1.2.2.1.2.1,.d atA c.2.2.2.2.1.2.2.1.2.2,SB c.2.2.2.2.1.2.2.2.1.1.1,.d atA c.2.2.2.2.1.2.2.2.1.1.2,SB c.2.2.2.2.1.2.2.2.1.2.1,.d atA c.2.2.2.2.1.2.2.2.1.2.2,SB c.2.2.2.2.1.2.2.2.2.1.1,.d atA c.2.2.2.2.1.2.2.2.2.1.2,SB c.2.2.2.2.1.2.2.2.2.2.1,.d atA c.2.2.2.2.1.2.2.2.2.2.2,SB c.2.2.2.2.2.1.1.1,.d atA c.2.2.2.2.2.1.1.2,SB c.2.2.2.2.2.1.2.1,.d atA c.2.2.2.2.2.1.2.2,SB c.2.2.2.2.2.2.1.1.1,.d atA c.2.2.2.2.2.2.1.1.2,SB c.2.2.2.2.2.2.1.2.1,.d atA c.2.2.2.2.2.2.1.2.2,SB c.2.2.2.2.2.2.2.1.1.1,.d atA c.2.2.2.2.2.2.2.1.1.2,SB c.2.2.2.2.2.2.2.1.2.1,.d atA c.2.2.2.2.2.2.2.1.2.2,SB c.2.2.2.2.2.2.2.2.1.1.1,.d atA c.2.2.2.2.2.2.2.2.1.1.2,SB c.2.2.2.2.2.2.2.2.1.2.1,.d atA c.2.2.2.2.2.2.2.2.1.2.2,SB c.2.2.2.2.2.2.2.2.2.1.1,.d atA c.2.2.2.2.2.2.2.2.2.1.2,SB c.2.2.2.2.2.2.2.2.2.2.1,.d atA c.2.2.2.2.2.2.2.2.2.2.2],.gone,.row 43 tCU r2],0,[]⟩
def ajF(c:BCU)(l:List BP)(k:KT):Option (List RV):=k 6 (Au c l 0)
theorem ai7(c:BCU)(l:List BP):RS yh 28 [.d tCU c,.d (.sl tP) l] (ajF c l):=rsX
def uV(c:BCU)(l:List BP)(s6:Int)(k:KT):Option (List RV):=match decide (s6<(l.length:Int))with|true=>(match bu l s6 with|some x1=>(match decide (okC 3500 c∧okP 3500 x1)with|true=>(match !(onR (dC c) (dec x1))with|true=>some [RV.d (.sl tCU) ([]),RV.d atB 1]|false=>k 6 (Au c l (i64.wrap (s6+1))))|false=>none)|none=>none)|false=>(match decide ((([c.2.2.2.2.1,c.2.2.2.2.2]).length+l.length)*320≤140737488355328∧([c.2.2.2.2.1,c.2.2.2.2.2]).length+l.length≤140737488355328)with|true=>(match decide (rT c (([c.2.2.2.2.1,c.2.2.2.2.2])++l))with|true=>k 31 (sf c l 1 ([]))|false=>none)|false=>none)
theorem Cr(c:BCU)(l:List BP)(s6:Int):RN yh 6 (Au c l s6) (uV c l s6):=rnX
def qU(c:BCU)(l:List BP)(s9:Int)(r2:List BCU)(k:KT):Option (List RV):=match decide (s9<((fI (dC c) (([c.2.2.2.2.1,c.2.2.2.2.2])++l)).length:Int))with|true=>(match bu (fI (dC c) (([c.2.2.2.2.1,c.2.2.2.2.2])++l)) (i64.wrap (s9-1))with|some x1=>(match bu (fI (dC c) (([c.2.2.2.2.1,c.2.2.2.2.2])++l)) s9 with|some x2=>dup (.b .l .l) (match decide ((r2.length+([(c.1,(c.2.1,(c.2.2.1,(c.2.2.2.1,(x1,x2)))))]).length)*1040≤140737488355328∧r2.length+([(c.1,(c.2.1,(c.2.2.1,(c.2.2.2.1,(x1,x2)))))]).length≤140737488355328)with|true=>k 31 (sf c l (i64.wrap (s9+1)) (r2++([(c.1,(c.2.1,(c.2.2.1,(c.2.2.2.1,(x1,x2)))))])))|false=>none)|none=>none)|none=>none)|false=>some [RV.d (.sl tCU) r2,RV.d atB 0]
theorem xh(c:BCU)(l:List BP)(s9:Int)(r2:List BCU):RN yh 31 (sf c l s9 r2) (qU c l s9 r2):=rnX
theorem aem(c:BCU)(l:List BP)(hle:l.length≤900000)(S:List BP)(hS:S=qH c l):∀(j i:Nat),1≤i→i+j=max S.length 1→∀out:List BCU,out.length≤i→yh.Runs 31 (sf c l (i:Int) out) [.d (.sl tCU) (out++wd c (S.drop (i-1))),.d atB (0:Int)]:=by
 have hSl:=G8 c l
 rw[←hS]at hSl
 have eS:fI (dC c) ([c.2.2.2.2.1,c.2.2.2.2.2]++l)=S:=hS.symm
 intro j
 induction j with
 |zero=>
  intro i h1 hi out hlen
  refine xh _ _ _ _ ⟨0,?_⟩
  unfold qU
  rw[eS,cF (by omega)]
  have:wd c (S.drop (i-1))=[]:=by
   have hl:(S.drop (i-1)).length≤1:=by rw[asE];omega
   match S.drop (i-1),hl with
   |[],_=>rfl
   |[_],_=>rfl
   |_::_::_,h=>simp at h
  rw[this,ark]
 |succ j ih=>
  intro i h1 hi out hlen
  have hil:i<S.length:=by omega
  have e1:i64.wrap ((i:Int)-1)=((i-1:Nat):Int):=by rw[bi (by omega) (by omega)];omega
  have e2:i64.wrap ((i:Int)+1)=((i+1:Nat):Int):=cG (by omega)
  have g1:bu S ((i-1:Nat):Int)=some S[i-1]:=by rw[aI,aqt (by omega)]
  have g2:bu S (i:Int)=some S[i]:=by rw[aI,aqt hil]
  obtain⟨n,hn⟩:=ih (i+1) (by omega) (by omega) (out++[sZ c S[i-1] S[i]]) (by simp;omega)
  refine xh _ _ _ _ ⟨n,?_⟩
  unfold qU
  rw[eS]
  simp only[aK,cd hil,e1,e2,g1,g2]
  rw[dT (by simp;omega)]
  dsimp only
  have hd:S.drop (i-1)=S[i-1]::S.drop i:=by
   have:=aqP (l:=S) (i:=i-1) (by omega)
   rw[this,show i-1+1=i by omega]
  have hd2:S.drop i=S[i]::S.drop (i+1):=aqP hil
  rw[hd,hd2]
  rw[show i+1-1=i by omega,hd2,arR]at hn
  exact hn
theorem afh(c:BCU)(l:List BP)(h:wr c l):∀(j i:Nat),i+j=l.length→yh.Runs 6 (Au c l (i:Int)) [.d (.sl tCU) (gJ c l),.d atB (0:Int)]:=by
 have hs:=Z5 h
 obtain⟨hc,hle,hl⟩:=h
 intro j
 induction j with
 |zero=>
  intro i hi
  obtain⟨n,hn⟩:=aem c l hle (qH c l) rfl (max (qH c l).length 1-1) 1 (aqE _) (by omega) [] (by simp)
  refine Cr _ _ _ ⟨n,?_⟩
  unfold uV
  rw[cF (by omega),dT (by simp;omega),dT hs]
  exact hn
 |succ j ih=>
  intro i hi
  have hil:i<l.length:=by omega
  obtain⟨n,hn⟩:=ih (i+1) (by omega)
  have h1:=hl _ (ars hil)
  refine Cr _ _ _ ⟨n,?_⟩
  unfold uV
  rw[cd hil,aI,aqt hil,cG (by omega)]
  dsimp only
  rw[dT (show okC 3500 c∧okP 3500 l[i] from⟨hc,h1.1⟩),h1.2]
  exact hn
theorem aac(c:BCU)(l:List BP)(h:wr c l):Con Tryz.prog 28 [.d tCU c,.d (.sl tP) l] [.d (.sl tCU) (gJ c l),.d atB 0]:=by
 refine aN OY (show yh.Res _ _ _ from ?_)
 obtain⟨n,hn⟩:=afh c l h l.length 0 (by omega)
 exact ai7 _ _ ⟨n,hn⟩
def Fu:aM:=spN false false [tCU,(.sl tP)] (fun x=>decide (wr x.1 x.2.1)) (fun x=>[RV.d (.sl tCU) (gJ x.1 x.2.1),RV.d atB 0])
theorem Dg:SpK 28 Fu:=spX fun x h=>aac x.1 x.2.1 (aqr h)
def qi(n d:Int):Prop:=aX n∧aX d∧0<d
instance (n d:Int):Decidable (qi n d):=by unfold qi;infer_instance
def Gy:aM:=spN false true [atB] (fun x=>decide (aX x.1)) (fun x=>[RV.d tI (hid (ai x.1))])
theorem JM:SpK 134 Gy:=spX fun x h=>by simp only[aj];exact Cu x.1 (aqr h)
def Ou:aM:=spN false true [tI,tI] (fun x=>decide (fT x.1 x.2.1)) (fun x=>[RV.d tR (hid (dP x.1 x.2.1))])
theorem SS:SpK 135 Ou:=spX fun x h=>by simp only[aj];exact Hx x.1 x.2.1 (aqr h)
def SZ:Env:=[(134,Gy),(135,Ou)]
theorem Ja:EnvAll Tryz.prog SZ:=⟨JM,SS,trivial⟩
def ag6:Ctx:=CX SZ []
def S6(n d:Int)(_k:KT):Option (List RV):=match d==0 with|true=>(match decide (aX (0:Int))with|true=>(match decide (aX (1:Int))with|true=>(match decide (fT (hid (ai (0:Int))) (hid (ai (1:Int))))with|true=>some [RV.d tR (hid (dP (hid (ai (0:Int))) (hid (ai (1:Int)))))]|false=>none)|false=>none)|false=>none)|false=>(match decide (aX n)with|true=>(match decide (aX d)with|true=>(match decide (fT (hid (ai n)) (hid (ai d)))with|true=>some [RV.d tR (hid (dP (hid (ai n)) (hid (ai d))))]|false=>none)|false=>none)|false=>none)
theorem ah7(n d:Int):RS ag6 52 [SI n,SI d] (S6 n d):=rsX
theorem QH(n d:Int)(h:qi n d):Con Tryz.prog 52 [.d atB n,.d atB d] [.d tR (ag (Rat.divInt n d))]:=by
 refine aN Ja (ah7 _ _ ⟨0,?_⟩)
 obtain⟨hn,hd,h0⟩:=h
 have hne:(d==0)=false:=by simp;omega
 unfold S6
 rw[hne,dT hn,dT hd]
 simp only[aj]
 rw[dT (show fT (ai n) (ai d) from⟨bk (by have:=gX hn;omega),bk (by have:=gX hd;omega),by rw[dec_enc];omega⟩)]
 unfold dP
 rw[dec_enc,dec_enc]
def rV:aM:=spN false true [atB,atB] (fun x=>decide (qi x.1 x.2.1)) (fun x=>[RV.d tR (hid (ag (Rat.divInt x.1 x.2.1)))])
theorem qt:SpK 52 rV:=spX fun x h=>by simp only[aj];exact QH x.1 x.2.1 (aqr h)
theorem zZ{n d:Int}(h1:aX n)(h2:aX d)(h0:0<d):Bd (Rat.divInt n d) 3:=by
 obtain⟨k,rfl⟩:=arG (show 0≤d by omega)
 exact⟨p7 (by omega) (gX h1) (gX h2)⟩
section
theorem Con.new_d{P:Program}{f:Nat}{args:List SV}{et:TypeId}{e:Ty}{xs:List e.D}(h:Con P f args [.new et e xs]):Con P f args [.d (.sl e) xs]:=by
 intro A w vs hI ha
 refine(h A w vs hI ha).mono ?_
 rintro en w' ⟨v,rfl,hb,css,ho,ha2,hn⟩
 refine⟨v,rfl,hb,?_⟩
 obtain⟨hlen,p,c,hv,h1,h2,h3⟩:=Rd.of_own hn ho
 subst hv
 refine⟨[.slice p xs.length c],⟨p,xs.length,c,css,rfl,rfl,h1,h2,bQ (fun _ _ h=>Ty.rd_keep ⟨aqE _,fun b _ hb=>hb.1,fun _ _ _=>rfl⟩ h) ha2,fun h0=>?_⟩,rfl⟩
 obtain⟨b,off,rfl,h5,h6⟩:=h3 h0
 refine⟨b,off,rfl,.inr ?_,h5,h6⟩
 rcases ho.2 with⟨h7,_⟩|⟨g,cap,cur,h7,h8,_⟩
 ·cases h7
 ·injection h7 with h7
  injection h7 with h7
  injection h7 with h7
  subst h7
  exact h8
class Bb (q:Rat) (n d:outParam Nat):Prop where
 nu:q.num.natAbs≤2^n
 de:q.den≤2^d
theorem Bu{n:Int}{d a b:Nat}(hd:d≠0)(h1:n.natAbs≤2^a)(h2:d≤2^b):(mkRat n d).num.natAbs≤2^a∧(mkRat n d).den≤2^b:=by
 rw[ati,atj,aqQ hd,aqQ hd]
 constructor
 ·refine aqM ?_ h1
  refine(Ie n (d.gcd n.natAbs)).resolve_right (fun h=>h ?_)
  exact Int.ofNat_dvd_left.2 (Nat.gcd_dvd_right d n.natAbs)
 ·exact aqM (Nat.div_le_self _ _) h2
theorem uO{a b m n:Nat}(h:a≤2^m)(h':b≤2^n):a*b≤2^(m+n):=by
 rw[Nat.pow_add]
 exact asH h h'
theorem ame{x y m n:Nat}(h:x≤2^m)(h':y≤2^n):x+y≤2^(mx m n+1):=by
 have h1:=aqM h (Nat.pow_le_pow_right (by decide) (yy m n))
 have h2:=aqM h' (Nat.pow_le_pow_right (by decide) (zw m n))
 rw[Nat.pow_succ]
 omega
section
variable {a b:Rat} {m n d e:Nat}
instance ao5 [h:Bb a m d] [h':Bb b n e]:Bb (a+b) (mx (m+e) (n+d)+1) (d+e):=by
 have d1:=a.den_pos
 have d2:=b.den_pos
 have:=Bu (n:=a.num*(b.den:Int)+b.num*(a.den:Int)) (d:=a.den*b.den) (a:=mx (m+e) (n+d)+1) (b:=d+e) (asT (by omega) (by omega)) (by
  refine aqM (Int.natAbs_add_le _ _) ?_
  rw[as4,as4,arO,arO]
  exact ame (uO h.nu h'.de) (uO h'.nu h.de)) (uO h.de h'.de)
 rw[←Rat.add_def']at this
 exact⟨this.1,this.2⟩
instance apb [h:Bb a m d]:Bb (-a) m d:=⟨by rw[Rat.neg_num,Int.natAbs_neg];exact h.nu,h.de⟩
instance apL [h:Bb a m d] [h':Bb b n e]:Bb (a-b) (mx (m+e) (n+d)+1) (d+e):=by
 rw[asN]
 infer_instance
instance apC [h:Bb a m d] [h':Bb b n e]:Bb (a*b) (m+n) (d+e):=by
 have d1:=a.den_pos
 have d2:=b.den_pos
 have:=Bu (n:=a.num*b.num) (d:=a.den*b.den) (a:=m+n) (b:=d+e) (asT (by omega) (by omega)) (by
  rw[as4]
  exact uO h.nu h'.nu) (uO h.de h'.de)
 rw[←Rat.mul_def']at this
 exact⟨this.1,this.2⟩
theorem ahE [h:Bb a m d]:Bb a⁻¹ d m:=by
 by_cases h0:a=0
 ·subst h0
  rw[Rat.inv_zero]
  exact⟨atl _,Nat.one_le_two_pow⟩
 ·have hn:a.num≠0:=fun e=>h0 (Rat.num_eq_zero.1 e)
  have h1:=h.nu
  have h2:=h.de
  rw[Rat.inv_def]
  rcases asd hn with h3|h3
  ·rw[←Rat.neg_divInt_neg,show-a.num=(((-a.num).toNat:Nat):Int) by omega,asG]
   have:=Bu (n:= -(a.den:Int)) (d:=(-a.num).toNat) (a:=d) (b:=m) (by omega) (by rw[Int.natAbs_neg];exact h2) (by omega)
   exact⟨this.1,this.2⟩
  ·rw[show a.num=((a.num.toNat:Nat):Int) by omega,asG]
   have:=Bu (n:=(a.den:Int)) (d:=a.num.toNat) (a:=d) (b:=m) (by omega) h2 (by omega)
   exact⟨this.1,this.2⟩
instance apT [h:Bb a m d] [h':Bb b n e]:Bb (a/b) (m+e) (d+n):=by
 rw[atx]
 have:=ahE (h:=h')
 infer_instance
theorem abC:∀k:Nat,((2^(29*k):Nat):Int)≤pw k
 |0=>by decide
 |k+1=>by
  have ih:=abC k
  have e:2^(29*(k+1))=2^(29*k)*536870912:=by
   rw[Nat.mul_add,Nat.pow_add]
  rw[e,b8,arQ]
  have:(0:Int)≤pw k:=Int.le_trans (Int.natCast_nonneg _) ih
  omega
theorem aaM{z:Int}{n:Nat}(h:z.natAbs≤2^n):szI z≤n/29+1:=by
 have h1:=abC (n/29+1)
 have h2:2^n<2^(29*(n/29+1)):=Nat.pow_lt_pow_right (by decide) (by omega)
 exact d7 (by omega) (by omega)
theorem BL [h:Bb a m d]{k:Nat}(hm:m/29+1≤k)(hd:d/29+1≤k):Bd a k:=⟨⟨aqM (aaM h.nu) hm,aqM (aaM (z:=(a.den:Int)) h.de) hd⟩⟩
end
theorem VT{n d:Int}{a b:Nat}(h0:0<d)(h1:n.natAbs≤2^a)(h2:d.natAbs≤2^b):Bb (Rat.divInt n d) a b:=by
 obtain⟨k,rfl⟩:=arG (show 0≤d by omega)
 rw[asG]
 have:=Bu (n:=n) (d:=k) (by omega) h1 h2
 exact⟨this.1,this.2⟩
def da(x:BO3):Prop:=ok Rat 12 x.1∧ok Rat 12 x.2.1∧ok Rat 63 x.2.2∧((dec x:Ln).1≠0∨(dec x:Ln).2.1≠0)
instance (x:BO3):Decidable (da x):=by unfold da;infer_instance
def cW(x:BO3):Prop:=ok Rat 4 x.1∧ok Rat 4 x.2.1∧ok Rat 13 x.2.2∧(0:Rat)<(dec x:Ln).2.2
instance (x:BO3):Decidable (cW x):=by unfold cW;infer_instance
class BdL (l:Ln):Prop where
 a:Bd l.1 12
 b:Bd l.2.1 12
 c:Bd l.2.2 63
class BdC (c:Ln):Prop where
 x:Bd c.1 4
 y:Bd c.2.1 4
 q:Bd c.2.2 13
theorem fu{x:BO3}(h:da x):∃l:Ln,x=enc l∧BdL l∧(l.1≠0∨l.2.1≠0):=by
 obtain⟨h1,h2,h3,h4⟩:=h
 obtain⟨x1,x2,x3⟩:=x
 obtain⟨a,rfl,ba⟩:=aQ h1
 obtain⟨b,rfl,bb⟩:=aQ h2
 obtain⟨c,rfl,bc⟩:=aQ h3
 have e:((enc a,enc b,enc c):BO3)=enc ((a,b,c):Ln):=rfl
 rw[e,ak]at h4
 exact⟨(a,b,c),rfl,⟨ba,bb,bc⟩,h4⟩
theorem eZ{x:BO3}(h:cW x):∃c:Ln,x=enc c∧BdC c∧0<c.2.2:=by
 obtain⟨h1,h2,h3,h4⟩:=h
 obtain⟨x1,x2,x3⟩:=x
 obtain⟨a,rfl,ba⟩:=aQ h1
 obtain⟨b,rfl,bb⟩:=aQ h2
 obtain⟨c,rfl,bc⟩:=aQ h3
 have e:((enc a,enc b,enc c):BO3)=enc ((a,b,c):Ln):=rfl
 rw[e,ak]at h4
 exact⟨(a,b,c),rfl,⟨ba,bb,bc⟩,h4⟩
theorem qK{l:Ln}[h:BdL l](h0:l.1≠0∨l.2.1≠0):da (enc l):=by
 have a:=h.a
 have b:=h.b
 have c:=h.c
 exact⟨aqr (okd (aqE _) (by decide)),aqr (okd (aqE _) (by decide)),aqr (okd (aqE _) (by decide)),by rw[ak];exact h0⟩
theorem ld{c:Ln}[h:BdC c](h0:0<c.2.2):cW (enc c):=by
 have a:=h.x
 have b:=h.y
 have c:=h.q
 exact⟨aqr (okd (aqE _) (by decide)),aqr (okd (aqE _) (by decide)),aqr (okd (aqE _) (by decide)),by rw[ak];exact h0⟩
section
variable {l c:Ln}
instance aqo [h:BdL l]:Bd l.1 12:=h.a
instance aql [h:BdL l]:Bd l.2.1 12:=h.b
instance aqp [h:BdL l]:Bd l.2.2 63:=h.c
instance aqm [h:BdC c]:Bd c.1 4:=h.x
instance aqn [h:BdC c]:Bd c.2.1 4:=h.y
instance aqk [h:BdC c]:Bd c.2.2 13:=h.q
theorem Lq [h:BdC c]:Bd c 13:=⟨⟨Cod.mono _ _ _ (by decide) h.x.le,Cod.mono _ _ _ (by decide) h.y.le,h.q.le⟩⟩
end
def nj(l m:Ln):Rat:=l.1*m.2.1-m.1*l.2.1
def Fq(l m:Ln):Rat:=l.2.2*m.2.1-m.2.2*l.2.1
def DO(l m:Ln):Rat:=l.1*m.2.2-m.1*l.2.2
def AN(l m:Ln):List Pt:=bif !decide (nj l m=0)then [atP (Fq l m/nj l m,DO l m/nj l m)]else []
def IM(l m:Ln):Int:=bif !decide (nj l m=0)then 0 else bif decide (Fq l m=0)&&decide (DO l m=0)then 10 else 0
def dO(l:Ln):Rat:=l.1*l.1+l.2.1*l.2.1
def vlL(l:Ln)(x y:Rat):Rat:=l.1*x+l.2.1*y-l.2.2
def ki(l c:Ln):Rat:=dO l*c.2.2-vlL l c.1 c.2.1*vlL l c.1 c.2.1
def ky(ax bx ay b_ c:Rat):Pt:=bif ec c then atP (ax+bx*rtQ c,ay+b_*rtQ c)else(ax,bx,ay,b_,c)
def ftX(l c:Ln):Rat:=c.1-vlL l c.1 c.2.1/dO l*l.1
def ftY(l c:Ln):Rat:=c.2.1-vlL l c.1 c.2.1/dO l*l.2.1
def wm(l c:Ln):Pt:=ky (ftX l c) (-(l.2.1/dO l)) (ftY l c) (-(-l.1/dO l)) (ki l c)
def we(l c:Ln):Pt:=ky (ftX l c) (l.2.1/dO l) (ftY l c) (-l.1/dO l) (ki l c)
def oz(l c:Ln):List Pt:=bif decide (ki l c<0)then []else bif decide (ki l c=0)then [atP (ftX l c,ftY l c)]
 else bif decide (cz (wm l c) (we l c)>0)then [we l c,wm l c]else [wm l c,we l c]
def nP(c d:Ln):Bool:=decide (c.1=d.1)&&decide (c.2.1=d.2.1)
def JO(c:Ln):Rat:=c.1*c.1+c.2.1*c.2.1-c.2.2
def wo(c d:Ln):Ln:=(2*(d.1-c.1),2*(d.2.1-c.2.1),JO d-JO c)
def yO(c d:Ln):List Pt:=bif nP c d then []else oz (wo c d) c
def Si(c d:Ln):Int:=bif nP c d then(bif decide (c.2.2=d.2.2)then 10 else 0)else 0
def Fx(c d:Ln):BO3:=bif nP c d then o00 else enc (wo c d)
def aeQ(c d:Ln):Int:=bif nP c d then 6 else 0
def Nv(l m:Ln):Bool:=decide (l.1*m.2.1=l.2.1*m.1)&&(decide (l.1*m.2.2=l.2.2*m.1)&&decide (l.2.1*m.2.2=l.2.2*m.2.1))
def LF(c d:Ln):Bool:=decide (c.1=d.1)&&(decide (c.2.1=d.2.1)&&decide (c.2.2=d.2.2))
def ko(a b:Cv):Bool:=bif a.1==b.1 then(bif a.1 then LF (ciC a) (ciC b)else Nv (lnC a) (lnC b))else false
def Q4(a:BCU):Prop:=(a.1=true→cW a.2.2.1)∧(a.1=false→da a.2.1)
instance (a:BCU):Decidable (Q4 a):=by unfold Q4;infer_instance
def tT(a b:BCU):Prop:=Q4 a∧Q4 b
instance (a b:BCU):Decidable (tT a b):=by unfold tT;infer_instance
def qG(a b:Cv):List Pt:=bif a.1&&b.1 then yO (ciC a) (ciC b)else bif a.1 then oz (lnC b) (ciC a)else bif b.1 then oz (lnC a) (ciC b)else AN (lnC a) (lnC b)
def UX(a b:Cv):Int:=bif a.1&&b.1 then Si (ciC a) (ciC b)else bif a.1 then 0 else bif b.1 then 0 else IM (lnC a) (lnC b)
def nf(c:Ln):Pt:=ky c.1 (-1) c.2.1 0 c.2.2
def m8(c:Ln):Pt:=ky c.1 1 c.2.1 0 c.2.2
theorem yX{ax bx ay b_ c:Rat}(h0:¬(bx=0∧b_=0))(hc:0≤c):Rpd (ky ax bx ay b_ c):=by
 refine⟨?_⟩
 unfold ky
 cases hq:ec c
 ·exact .inr ⟨h0,Gp hc hq,hq⟩
 ·exact .inl ⟨rfl,rfl,rfl⟩
theorem Al{ax bx ay b_ c:Rat}{j k m:Nat}(h1:Bd ax j)(h2:Bd bx k)(h3:Bd ay j)(h4:Bd b_ k)(h5:Bd c m){n:Nat}(hn:j+(k+m)+1≤n):Bd (ky ax bx ay b_ c) n:=by
 have z:bdR n 0:=bP kI.le (by omega)
 have i1:Bd (ax+bx*rtQ c) _:=inferInstance
 have i2:Bd (ay+b_*rtQ c) _:=inferInstance
 refine⟨?_⟩
 unfold ky
 cases ec c
 ·exact⟨bP h1.le (by omega),bP h2.le (by omega),bP h3.le (by omega),bP h4.le (by omega),bP h5.le (by omega)⟩
 ·exact⟨bP i1.le (by omega),z,bP i2.le (by omega),z,z⟩
section
variable {l m c d:Ln}
theorem R7(h:l.1≠0∨l.2.1≠0):dO l≠0:=sO h
instance apJ [BdL l] [h:BdC c]:Bd (ki l c) 257:=by
 have hx:=h.x
 have hy:=h.y
 have hq:=h.q
 have i1:Bd (dO l) 49:=inferInstanceAs (Bd (l.1*l.1+l.2.1*l.2.1) _)
 have i2:Bd (vlL l c.1 c.2.1) 97:=inferInstanceAs (Bd (l.1*c.1+l.2.1*c.2.1-l.2.2) _)
 exact(inferInstance:Bd (dO l*c.2.2-vlL l c.1 c.2.1*vlL l c.1 c.2.1) _).mono (by decide)
theorem Fe [BdL l][h:BdC c]:Bd (ftX l c) 163∧Bd (ftY l c) 163∧Bd (l.2.1/dO l) 61∧Bd (l.1/dO l) 61:=by
 have hx:=h.x
 have hy:=h.y
 have i1:Bd (dO l) 49:=inferInstanceAs (Bd (l.1*l.1+l.2.1*l.2.1) _)
 have i2:Bd (vlL l c.1 c.2.1) 97:=inferInstanceAs (Bd (l.1*c.1+l.2.1*c.2.1-l.2.2) _)
 have i3:Bd (c.1-vlL l c.1 c.2.1/dO l*l.1) _:=inferInstance
 have i4:Bd (c.2.1-vlL l c.1 c.2.1/dO l*l.2.1) _:=inferInstance
 have i5:Bd (l.2.1/dO l) _:=inferInstance
 have i6:Bd (l.1/dO l) _:=inferInstance
 exact⟨i3.mono (by decide),i4.mono (by decide),i5.mono (by decide),i6.mono (by decide)⟩
end
end
end Go.Proofs.YtlahabkjhgkkjaaGreat
end
