/- The program's comparison of two curves' distance. -/
import Derived.Test.YtnkndpoojnflmaaGreatG16
import Derived.Test.YtnkndpoojnflmaaGreatG17
import Derived.Test.YtnkndpoojnflmaaGreatG18
import Derived.Test.YtnkndpoojnflmaaGreatG13
import Derived.Test.YtnkndpoojnflmaaGreatG14
import Derived.Test.YtnkndpoojnflmaaGreatG15
import Derived.Stop.Joined
noncomputable section
namespace Go.Proofs.YtnkndpoojnflmaaGreat
open Go.RowKit Go.IntKind
def Ba:List En:=[⟨41,fM,dX⟩,⟨99,iA,fe⟩,⟨108,gU,eO⟩,⟨107,iR,fx⟩,⟨106,iD,ff⟩,⟨109,kX,gJ⟩,enT Mf]
def ab2:NT:=[((221,6),{keep:=[4,5,6,7,18,19,20],hl:=5})]
def MV:Ctx:=CX (ens Ba) ab2
def AZ(d p q r:BR)(s20:Int):Cfg:=⟨221,[.blk 0,.seq 25],[(4,.box 0 0),(5,.box 1 0),(6,.box 2 0),(7,.box 3 0),(18,.own 4),(19,SI (([d,p,q,r]).length:Int)),(20,SI s20)],[.box 31 [SB d.1.1,.d aoh d.1.2,SB d.2.1,.d aoh d.2.2],.box 31 [SB p.1.1,.d aoh p.1.2,SB p.2.1,.d aoh p.2.2],.box 31 [SB q.1.1,.d aoh q.1.2,SB q.2.1,.d aoh q.2.2],.box 31 [SB r.1.1,.d aoh r.1.2,SB r.2.1,.d aoh r.2.2],.row 31 tR ([d,p,q,r])],0,[]⟩
def ag1(d p q r:BR)(k:KT):Option (List RV):=k 6 (AZ d p q r 0)
theorem ahC(d p q r:BR):RS MV 221 [.d tR d,.d tR p,.d tR q,.d tR r] (ag1 d p q r):=rsX
def xo(d p q r:BR)(s20:Int)(k:KT):Option (List RV):=match decide (s20<(([d,p,q,r]).length:Int))with|true=>(match aR ([d,p,q,r]) s20 with|some _=>(match true,([d,p,q,r])[(s20).toNat]? with|true,some x1=>(og (o1 x1) (match decide ((aD (ah x1) 0)<0)with|true=>some [RV.d aoi 0,RV.d aoi 7]|false=>k 6 (AZ d p q r (i64.wrap (s20+1)))))|_,_=>none)|none=>none)|false=>(og (o2 d p) (og (o2 (hSu d p) q) (og (o2 r r) (og (o2 (hSu (hSu d p) q) (hMu r r)) (og (decide (aH ((-2):Int))) (og (o2 (hid (am (((-2):Int):Rat))) r) (og (decide (aH ((-2):Int))) (og (decide (okQ (hSu (hSu (hSu d p) q) (hMu r r),(hMu (hid (am (((-2):Int):Rat))) r,(hMu (hid (am (((-2):Int):Rat))) r,(hid (am (((-2):Int):Rat)),(p,q))))))) (some [RV.d aoi (sgQ (dec (hSu (hSu (hSu d p) q) (hMu r r),(hMu (hid (am (((-2):Int):Rat))) r,(hMu (hid (am (((-2):Int):Rat))) r,(hid (am (((-2):Int):Rat)),(p,q))))))),RV.d aoi 0])))))))))
theorem EG(d p q r:BR)(s20:Int):RN MV 6 (AZ d p q r s20) (xo d p q r s20):=rnX
theorem agZ{d p q r:Rat}[bd:Bd d 2000][bp:Bd p 2000][bq:Bd q 2000][br:Bd r 2000](nd:0≤d)(np:0≤p)(nq:0≤q)(nr_:0≤r):∀(j i:Nat),i+j=4→MV.Runs 6 (AZ (enc d) (enc p) (enc q) (enc r) (i:Int)) [.d aoi (pF d p q r),.d aoi (0:Int)]:=by
 have k2:decide (aH (-2))=true:=by decide
 have b2:Bd ((-2:Int):Rat) 3:=cV (n:= -2) (by decide)
 have b2':Bd (-2:Rat) 3:=b2
 have e2:((-2:Int):Rat)= -2:=rfl
 have n1:Nn p:=⟨np⟩
 have n2:Nn q:=⟨nq⟩
 have o1:decide (okQ (enc ((d-p-q-r*r,-2*r,-2*r,-2,p,q):Qd)))=true:=zh (by decide) (by decide) (by decide) (by decide) (by decide) (by decide)
 have hall:∀x∈[d,p,q,r],Bd x 2000∧0≤x:=by
  intro x hx
  simp only[ald,aml,anM]at hx
  rcases hx with e|e|e|e<;>subst e<;>constructor<;>assumption
 intro j
 induction j with
 |zero=>
  intro i hi
  refine EG _ _ _ _ _ ⟨0,?_⟩
  unfold xo
  rw[dF (show ¬(i:Int)<(([enc d,enc p,enc q,enc r]:List BR).length:Int) by simp;omega)]
  simp only[aU,Nat.reduceAdd,Nat.reduceLeDiff,k2,e2]
  show og (decide (okQ (enc ((d-p-q-r*r,-2*r,-2*r,-2,p,q):Qd)))) (some [RV.d aoi (sgQ (dec (enc ((d-p-q-r*r,-2*r,-2*r,-2,p,q):Qd)))),_])=_
  rw[o1,az]
  rfl
 |succ j ih=>
  intro i hi
  have hil:i<[d,p,q,r].length:=by simp;omega
  obtain⟨n,hn⟩:=ih (i+1) (by omega)
  refine EG _ _ _ _ _ ⟨n,?_⟩
  have g:([enc d,enc p,enc q,enc r]:List BR)[i]?=some (enc [d,p,q,r][i]):=by
   show(([d,p,q,r]:List Rat).map enc)[i]?=_
   rw[alY,akZ hil]
   rfl
  obtain⟨hb,hx⟩:=hall _ (alz hil)
  generalize [d,p,q,r][i]=x at*
  unfold xo
  rw[dT (show(i:Int)<(([enc d,enc p,enc q,enc r]:List BR).length:Int) by simp;omega),ao,amF,g,bV (by omega)]
  dsimp only
  simp only[aU,Nat.reduceLeDiff,au,dF (show ¬x<0 by grind)]
  exact hn
def ahp:Cn 221 [tR,tR,tR,tR]:=cn fun(d p q r:BR)=>lf (n4P d p q r) [.d aoi (pF (ah d) (ah p) (ah q) (ah r)),.d aoi 0] fun h=>by
 obtain⟨d,p,q,r,⟨rfl,rfl,rfl,rfl⟩,bd,bp,bq,br,nd,np,nq,nr_⟩:=Zc h
 have:=agZ nd np nq nr_ 4 0 rfl
 simp only[eT,cA]
 exact c8 Ba (ahC _ _ _ _ this)
def ZU(x y z r:BR)(_k:KT):Option (List RV):=og (decide (aH (2:Int))) (og (o2 x y) (og (o2 (hAd x y) z) (og (o2 r r) (og (o2 (hSu (hAd x y) z) (hMu r r)) (og (o2 (hid (am ((2:Int):Rat))) r) (og (o1 (hMu (hid (am ((2:Int):Rat))) r)) (og (decide (aH (0:Int))) (og (o2 x y) (og (decide (okQ (hSu (hSu (hAd x y) z) (hMu r r),(hid (am ((2:Int):Rat)),(hNe (hMu (hid (am ((2:Int):Rat))) r),(hid (am ((0:Int):Rat)),(hMu x y,z))))))) (some [RV.d aoi (sgQ (dec (hSu (hSu (hAd x y) z) (hMu r r),(hid (am ((2:Int):Rat)),(hNe (hMu (hid (am ((2:Int):Rat))) r),(hid (am ((0:Int):Rat)),(hMu x y,z)))))))]))))))))))
def agD:Cn 112 [tR,tR,tR,tR]:=cn fun(x y z r:BR)=>lf (n4P x y z r) [.d aoi (ul (ah x) (ah y) (ah z) (ah r))] fun h=>by
 refine aA Ba (ZU x y z r) ⟨0,?_⟩
 obtain⟨x,y,z,r,⟨rfl,rfl,rfl,rfl⟩,bx,b_,bz,br,nx,ny,nz,nr_⟩:=Zc h
 have i2:decide (aH 2)=true:=by decide
 have i0:decide (aH 0)=true:=by decide
 have b2:Bd ((2:Int):Rat) 3:=cV (n:=2) (by decide)
 have b0:Bd ((0:Int):Rat) 3:=cV (n:=0) (by decide)
 have b2':Bd (2:Rat) 3:=b2
 have b0':Bd (0:Rat) 3:=b0
 have e2:((2:Int):Rat)=2:=rfl
 have e0:((0:Int):Rat)=0:=rfl
 have n1:Nn (x*y):=⟨alj nx ny⟩
 have n2:Nn z:=⟨nz⟩
 have o1:decide (okQ (enc ((x+y-z-r*r,2,-(2*r),0,x*y,z):Qd)))=true:=zh (by decide) (by decide) (by decide) (by decide) (by decide) (by decide)
 unfold ZU
 simp only[aU,Nat.reduceAdd,Nat.reduceLeDiff,i2,i0,e2,e0]
 show og (decide (okQ (enc ((x+y-z-r*r,2,-(2*r),0,x*y,z):Qd)))) (some [RV.d aoi (sgQ (dec (enc ((x+y-z-r*r,2,-(2*r),0,x*y,z):Qd))))])=_
 rw[o1,az]
 rfl
def abY:List En:=enT ahp::Ba
def ah5:Cn 111 [tR,tR,tR,tR]:=cn fun(x y z r:BR)=>lf (n4P x y z r) [.d aoi (pF (ah x) (ah y) (ah z) (ah r))] fun h=>jP [RV.d aoi (pF (ah x) (ah y) (ah z) (ah r))] (dA abY) h
def adn:List En:=[enL Ml,enT Ja,enL HQ,enT agL]
def V9(s a:BCU)(r:BR)(_k:KT):Option (List RV):=og (decide (ok Ln 300 s.2.1∧ok (Rat×Rat) 200 (a.2.2.1.1,a.2.2.1.2.1)∧((dec s.2.1:Ln).1≠0∨(dec s.2.1:Ln).2.1≠0))) (og (decide (ok (Rat×Rat) 100000 (hid (enc (d8 (dec s.2.1) (dec (a.2.2.1.1,a.2.2.1.2.1))))))) (og (decide (okC 4000 s∧okP 4000 (hid (enc (atP (dec (hid (enc (d8 (dec s.2.1) (dec (a.2.2.1.1,a.2.2.1.2.1))))))))))) (match !(onP (dC s) (dec (hid (enc (atP (dec (hid (enc (d8 (dec s.2.1) (dec (a.2.2.1.1,a.2.2.1.2.1)))))))))))with|true=>some [RV.d aoi 1]|false=>(og (decide (okC 500 a∧ok (Rat×Rat) 200 (hid (enc (d8 (dec s.2.1) (dec (a.2.2.1.1,a.2.2.1.2.1)))))∧ok Rat 1000 r)) (some [RV.d aoi (uo (dC a) (dec (hid (enc (d8 (dec s.2.1) (dec (a.2.2.1.1,a.2.2.1.2.1)))))) (ah r))])))))
def adS:Cn 45 [tCU,tCU,tR]:=cn fun(s a:BCU) (r:BR)=>lf (GR s a∧ok Rat 1000 r) [.d aoi (DH (dC s) (dC a) (ah r))] fun h=>by
 refine aA adn (V9 s a r) ⟨0,?_⟩
 obtain⟨⟨hs,ha,es,ea⟩,hr⟩:=h
 have hF:=Nq hs.2 ha.2 es ea
 obtain⟨ar,li,ci,cw,fr,to⟩:=s
 obtain⟨ar',li',ci',cw',fr',to'⟩:=a
 simp only at es ea
 subst es ea
 obtain⟨l1,l2⟩:=hs.1.2.1 rfl
 obtain⟨c1,c2⟩:=ha.1.1 rfl
 simp only at l1 l2 c1 c2
 obtain⟨li,rfl,bl⟩:=aG l1
 obtain⟨ci',rfl,bc,qc⟩:=cK (ha.2.1 rfl)
 have bc':Bd (ctr ci') 200:=(inferInstance:Bd ((ci'.1,ci'.2.1):Rat×Rat) _).mono (by decide)
 have e0:((am ci'.1,am ci'.2.1):BV)=enc (ctr ci'):=rfl
 rw[az]at l2
 simp only[ftv,dC,lnC,ciC,az]at hF
 unfold V9 DH ftv Da
 simp only[dC,lnC,ciC,az]
 simp only[aU,Nat.reduceLeDiff,aN,e0,dT l2,dT (ce (k:=4000) hs.1 (by decide) (by decide)),dT ha.1,dT hr]
 cases onP (false,li,dec ci,cw,dec fr,dec to) (atP (d8 li (ctr ci')))<;>rfl
def aai:List En:=[⟨106,iD,ff⟩,⟨107,iR,fx⟩,⟨108,gU,eO⟩,⟨109,kX,gJ⟩,⟨41,fM,dX⟩,enT Xo,enT ah5,enT agD]
def Yd(c d:BCU)(r:BR)(_k:KT):Option (List RV):=let y1:=hSu d.2.2.1.1 c.2.2.1.1;let y2:=hSu d.2.2.1.2.1 c.2.2.1.2.1;let y3:=hAd (hMu y1 y1) (hMu y2 y2);let y4:=dec (hSu d.2.2.1.1 c.2.2.1.1,hSu d.2.2.1.2.1 c.2.2.1.2.1);let y5:=dec (hNe y1,hNe y2);let y6:=n4P y3 c.2.2.1.2.2 d.2.2.1.2.2 r;let y7:=n4P y3 d.2.2.1.2.2 c.2.2.1.2.2 r;let y8:=n4P c.2.2.1.2.2 y3 d.2.2.1.2.2 r;let y9:=n4P d.2.2.1.2.2 y3 c.2.2.1.2.2 r;let y10:=ah c.2.2.1.2.2;let y11:=ah d.2.2.1.2.2;let y12:=mn2 1 (mx2 (pF (ah y3) y10 y11 (ah r)) (ul y10 y11 (ah y3) (ah r)));let y13:=mx2 (ul (ah y3) y11 y10 (ah r)) (pF y10 (ah y3) y11 (ah r));let y14:=mx2 (ul (ah y3) y10 y11 (ah r)) (pF y11 (ah y3) y10 (ah r));let y15:Option (List RV):=match decide (okC 500 c∧ok (Rat×Rat) 510 (hNe y1,hNe y2))with|true=>(match fb (dC c) y5 with|true=>(og (decide (okC 500 d∧ok (Rat×Rat) 510 (hNe y1,hNe y2))) (match fb (dC d) y5 with|true=>(og (decide y6) (og (decide y9) (some [RV.d aoi (mn2 1 y14)])))|false=>some [RV.d aoi 1]))|false=>some [RV.d aoi 1])|false=>none;og (o2 d.2.2.1.1 c.2.2.1.1) (og (o2 d.2.2.1.2.1 c.2.2.1.2.1) (og (o2 y1 y1) (og (o2 y2 y2) (og (o2 (hMu y1 y1) (hMu y2 y2)) (og (o1 y3) (match(aD (ah y3) 0)==0 with|true=>some [RV.d aoi 1]|false=>(og (o1 y1) (og (o1 y2) (og (decide (okC 500 c∧ok (Rat×Rat) 510 (hSu d.2.2.1.1 c.2.2.1.1,hSu d.2.2.1.2.1 c.2.2.1.2.1))) (match fb (dC c) y4 with|true=>(og (decide (okC 500 d∧ok (Rat×Rat) 510 (hNe y1,hNe y2))) (match fb (dC d) y5 with|true=>(og (decide y6) (og (decide (n4P c.2.2.1.2.2 d.2.2.1.2.2 y3 r)) (og (decide (okC 500 d∧ok (Rat×Rat) 510 (hSu d.2.2.1.1 c.2.2.1.1,hSu d.2.2.1.2.1 c.2.2.1.2.1))) (match fb (dC d) y4 with|true=>(og (decide y7) (og (decide y8) (og (decide (okC 500 c∧ok (Rat×Rat) 510 (hNe y1,hNe y2))) (match fb (dC c) y5 with|true=>(og (decide (okC 500 d∧ok (Rat×Rat) 510 (hNe y1,hNe y2))) (match fb (dC d) y5 with|true=>(og (decide y6) (og (decide y9) (some [RV.d aoi (mn2 (mn2 y12 y13) y14)])))|false=>some [RV.d aoi (mn2 y12 y13)]))|false=>some [RV.d aoi (mn2 y12 y13)]))))|false=>(og (decide (okC 500 c∧ok (Rat×Rat) 510 (hNe y1,hNe y2))) (match fb (dC c) y5 with|true=>(og (decide (okC 500 d∧ok (Rat×Rat) 510 (hNe y1,hNe y2))) (match fb (dC d) y5 with|true=>(og (decide y6) (og (decide y9) (some [RV.d aoi (mn2 y12 y14)])))|false=>some [RV.d aoi y12]))|false=>some [RV.d aoi y12]))))))|false=>(og (decide (okC 500 d∧ok (Rat×Rat) 510 (hSu d.2.2.1.1 c.2.2.1.1,hSu d.2.2.1.2.1 c.2.2.1.2.1))) (match fb (dC d) y4 with|true=>(og (decide y7) (og (decide y8) (og (decide (okC 500 c∧ok (Rat×Rat) 510 (hNe y1,hNe y2))) (match fb (dC c) y5 with|true=>(og (decide (okC 500 d∧ok (Rat×Rat) 510 (hNe y1,hNe y2))) (match fb (dC d) y5 with|true=>(og (decide y6) (og (decide y9) (some [RV.d aoi (mn2 (mn2 1 y13) y14)])))|false=>some [RV.d aoi (mn2 1 y13)]))|false=>some [RV.d aoi (mn2 1 y13)]))))|false=>y15))))|false=>y15))))))))))
def aie:Cn 44 [tCU,tCU,tR]:=cn fun(c d:BCU) (r:BR)=>lf (LY c d∧ok Rat 1000 r∧0≤ah r) [.d aoi (J6 (dC c) (dC d) (ah r))] fun h=>by
 refine aA aai (Yd c d r) ⟨0,?_⟩
 obtain⟨⟨hc,hd,ec,ed⟩,hr,nr_⟩:=h
 obtain⟨ar,li,ci,cw,fr,to⟩:=c
 obtain⟨ar',li',di,cw',fr',to'⟩:=d
 simp only at ec ed
 subst ec ed
 have oc:decide (okC 500 _)=true:=dT hc.1
 have od:decide (okC 500 _)=true:=dT hd.1
 obtain⟨ci,rfl,bc,qc⟩:=cK (hc.2.1 rfl)
 obtain⟨di,rfl,bd,qd⟩:=cK (hd.2.1 rfl)
 obtain⟨r,rfl,br⟩:=aG hr
 rw[eT,cA]at nr_
 have n0:0≤a8 (cQ (ctr ci) (ctr di)) (cQ (ctr ci) (ctr di)):=nO _
 have bN:Bd (a8 (cQ (ctr ci) (ctr di)) (cQ (ctr ci) (ctr di))) 100:=(inferInstance:Bd ((di.1-ci.1)*(di.1-ci.1)+(di.2.1-ci.2.1)*(di.2.1-ci.2.1)) _).mono (by decide)
 have e0:((am (di.1-ci.1),am (di.2.1-ci.2.1)):BV)=enc (cQ (ctr ci) (ctr di)):=rfl
 have e1:((am (-(di.1-ci.1)),am (-(di.2.1-ci.2.1))):BV)=enc (bkV (cQ (ctr ci) (ctr di))):=rfl
 have eN:(di.1-ci.1)*(di.1-ci.1)+(di.2.1-ci.2.1)*(di.2.1-ci.2.1)=a8 (cQ (ctr ci) (ctr di)) (cQ (ctr ci) (ctr di)):=rfl
 have bw:Bd (cQ (ctr ci) (ctr di)) 20:=(inferInstance:Bd ((di.1-ci.1,di.2.1-ci.2.1):Rat×Rat) _).mono (by decide)
 have bb:Bd (bkV (cQ (ctr ci) (ctr di))) 20:=(inferInstance:Bd ((-(di.1-ci.1),-(di.2.1-ci.2.1)):Rat×Rat) _).mono (by decide)
 have b0:Bd (di.1-ci.1) 10:=(inferInstance:Bd (di.1-ci.1) _).mono (by decide)
 have b1:Bd (di.2.1-ci.2.1) 10:=(inferInstance:Bd (di.2.1-ci.2.1) _).mono (by decide)
 have pc:0≤ci.2.2:=by grind
 have pd:0≤di.2.2:=by grind
 have k1:=(Pb (i:=100) (j:=13) (k:=13) (l:=1000) (by decide) (by decide) (by decide) (by decide) n0 pc pd nr_)
 have k2:=(Pb (i:=100) (j:=13) (k:=13) (l:=1000) (by decide) (by decide) (by decide) (by decide) n0 pd pc nr_)
 have k3:=(Pb (i:=13) (j:=100) (k:=13) (l:=1000) (by decide) (by decide) (by decide) (by decide) pc n0 pd nr_)
 have k4:=(Pb (i:=13) (j:=100) (k:=13) (l:=1000) (by decide) (by decide) (by decide) (by decide) pd n0 pc nr_)
 have k5:=(Pb (i:=13) (j:=13) (k:=100) (l:=1000) (by decide) (by decide) (by decide) (by decide) pc pd n0 nr_)
 have sl:∀a b c d,pF a b c d≤1:=fun a b c d=>KU _
 have bl:∀a b c d,ul a b c d≤1:=fun a b c d=>KU _
 unfold Yd J6 nT fT nD wyv
 simp only[aU,Nat.reduceAdd,Nat.reduceLeDiff,aq,e0,e1,eN,oc,od,k1,k2,k3,k4,k5,dC,ciC,FH,aaY]
 have s1:=sl (a8 (cQ (ctr ci) (ctr di)) (cQ (ctr ci) (ctr di))) ci.2.2 di.2.2 r
 have s2:=sl ci.2.2 (a8 (cQ (ctr ci) (ctr di)) (cQ (ctr ci) (ctr di))) di.2.2 r
 have s3:=sl di.2.2 (a8 (cQ (ctr ci) (ctr di)) (cQ (ctr ci) (ctr di))) ci.2.2 r
 have s4:=bl ci.2.2 di.2.2 (a8 (cQ (ctr ci) (ctr di)) (cQ (ctr ci) (ctr di))) r
 have s5:=bl (a8 (cQ (ctr ci) (ctr di)) (cQ (ctr ci) (ctr di))) di.2.2 ci.2.2 r
 have s6:=bl (a8 (cQ (ctr ci) (ctr di)) (cQ (ctr ci) (ctr di))) ci.2.2 di.2.2 r
 cases decide (a8 (cQ (ctr ci) (ctr di)) (cQ (ctr ci) (ctr di))=0)
 ·cases fb (true,dec li,ci,cw,dec fr,dec to) (cQ (ctr ci) (ctr di))<;>cases fb (true,dec li,ci,cw,dec fr,dec to) (bkV (cQ (ctr ci) (ctr di)))<;>cases fb (true,dec li',di,cw',dec fr',dec to') (cQ (ctr ci) (ctr di))<;>cases fb (true,dec li',di,cw',dec fr',dec to') (bkV (cQ (ctr ci) (ctr di)))<;>simp only[Da,cond_true,cond_false,Bool.and_true,Bool.and_false]<;>refine congrArg (fun x:Int=>some [RV.d aoi x]) ?_<;>omega
 ·rfl
def aal:List En:=[⟨41,fM,dX⟩,enL ae8,enT aeg,enT aie,enT adS]
def Zx(c d:BCU)(r:BR)(_k:KT):Option (List RV):=let y1:Option (List RV):=match decide (okR r)with|true=>some [RV.d aoi (i64.wrap (0-(aD (ah r) 0)))]|false=>none;let y2:=JL (RE.poiE (dC d) (RE.pR (dec c.2.2.2.2.1)) (ah r)) (RE.poiE (dC d) (RE.pR (dec c.2.2.2.2.2)) (ah r)) (RE.poiE (dC c) (RE.pR (dec d.2.2.2.2.1)) (ah r)) (RE.poiE (dC c) (RE.pR (dec d.2.2.2.2.2)) (ah r));let y3:Option (List RV):=match c.1 with|true=>(og (decide (GR d c∧ok Rat 1000 r)) (some [RV.d aoi (mn2 y2 (DH (dC d) (dC c) (ah r)))]))|false=>(match d.1 with|true=>(og (decide (GR c d∧ok Rat 1000 r)) (some [RV.d aoi (mn2 y2 (DH (dC c) (dC d) (ah r)))]))|false=>some [RV.d aoi y2]);og (o1 r) (match decide ((aD (ah r) 0)<0)with|true=>some [RV.d aoi 1]|false=>(og (decide (f0 c d)) (match decide (((fY c d).length:Int)>0)with|true=>y1|false=>(match qN c d with|true=>y1|false=>(og (decide (okC 580 d∧okP 580 c.2.2.2.2.1∧ok Rat 1000 r)) (og (decide (okC 580 d∧okP 580 c.2.2.2.2.2∧ok Rat 1000 r)) (og (decide (okC 580 c∧okP 580 d.2.2.2.2.1∧ok Rat 1000 r)) (og (decide (okC 580 c∧okP 580 d.2.2.2.2.2∧ok Rat 1000 r)) (match c.1 with|true=>(match d.1 with|true=>(og (decide (LY c d∧ok Rat 1000 r∧0≤ah r)) (some [RV.d aoi (mn2 y2 (J6 (dC c) (dC d) (ah r)))]))|false=>y3)|false=>y3)))))))))
def Lv:Cn 14 [tCU,tCU,tR]:=cn fun(c d:BCU) (r:BR)=>lf (f0 c d∧ok Rat 1000 r) [.d aoi (nW c d (ah r))] fun h=>by
 refine aA aal (Zx c d r) ⟨0,?_⟩
 obtain⟨⟨mc,md⟩,hr⟩:=h
 have c5:=ce (k:=580) mc.1 (by decide) (by decide)
 have d5:=ce (k:=580) md.1 (by decide) (by decide)
 obtain⟨r,rfl,br⟩:=aG hr
 have w:i64.wrap (0-aD r 0)= -aD r 0:=by
  have:=ka r 0
  rw[aS (by omega) (by omega)]
  omega
 unfold Zx nW S9 uE C9
 simp only[aU,Nat.reduceLeDiff,au,FH,TP,dT (show f0 c d from⟨mc,md⟩),dT c5,dT d5,dT c5.2.2.1,dT c5.2.2.2,dT d5.2.2.1,dT d5.2.2.2,w]
 by_cases h0:r<0
 ·rw[dT h0];rfl
 ·rw[dF h0]
  have hn:0≤r:=by grind
  cases decide (((fY c d).length:Int)>0)
  ·cases qN c d
   ·cases ea:c.1<;>cases eb:d.1
    ·simp only[dC,ea,eb];rfl
    ·simp only[dC,ea,eb,dT (show GR c d from⟨mc,md,ea,eb⟩)];rfl
    ·simp only[dC,ea,eb,dT (show GR d c from⟨md,mc,eb,ea⟩)];rfl
    ·simp only[dC,ea,eb,dT (show LY c d from⟨mc,md,ea,eb⟩),dT hn];rfl
   ·rfl
  ·rfl
def Kg(c:BCU)(l:List BCU)(r:BR):Prop:=mG c∧(∀x∈l,mG x)∧l.length≤1000000∧ok Rat 1000 r
instance (c:BCU) (l:List BCU) (r:BR):Decidable (Kg c l r):=by unfold Kg;infer_instance
def Ap(a b:List BCU)(r:BR):Prop:=(∀x∈a,mG x)∧(∀x∈b,mG x)∧a.length≤1000000∧b.length≤1000000∧ok Rat 1000 r
instance (a b:List BCU) (r:BR):Decidable (Ap a b r):=by unfold Ap;infer_instance
def nrZ(c:BCU)(r:Rat)(d:BCU):Bool:=decide (nW c d r<0)
def Gi(c:BCU)(l:List BCU)(r:Rat):Bool:=!(l.any (nrZ c r))
def EK(f:BCU→Bool):List BCU→Int→Int
 |[],_=> -1
 |c::l,i=>bif f c then i else EK f l (i+1)
def Ax(a b:List BCU)(r:Rat):Int:=EK (fun c=>!(Gi c b r)) a 0
def A8:List En:=[enT Lv]
def aah:NT:=[((69,6),{keep:=[0,1,7,8],hl:=2}),((28,3),{keep:=[9],hl:=0}),((71,3),{keep:=[7],hl:=0}),((69,18),{keep:=[0,1,5,7,8,16],hl:=0})]
def Qo:Ctx:=CX (ens A8) aah
def pU(c:BCU)(l:List BCU)(r:BR)(s69_8:Int):Cfg:=⟨69,[.blk 0,.seq 25],[(0,.d (.sl tCU) l),(1,.clo 72 [0,1]),(7,SI (l.length:Int)),(8,SI s69_8)],[.box 39 [SB c.1,SB c.2.1.1.1.1,.d aoh c.2.1.1.1.2,SB c.2.1.1.2.1,.d aoh c.2.1.1.2.2,SB c.2.1.2.1.1.1,.d aoh c.2.1.2.1.1.2,SB c.2.1.2.1.2.1,.d aoh c.2.1.2.1.2.2,SB c.2.1.2.2.1.1,.d aoh c.2.1.2.2.1.2,SB c.2.1.2.2.2.1,.d aoh c.2.1.2.2.2.2,SB c.2.2.1.1.1.1,.d aoh c.2.2.1.1.1.2,SB c.2.2.1.1.2.1,.d aoh c.2.2.1.1.2.2,SB c.2.2.1.2.1.1.1,.d aoh c.2.2.1.2.1.1.2,SB c.2.2.1.2.1.2.1,.d aoh c.2.2.1.2.1.2.2,SB c.2.2.1.2.2.1.1,.d aoh c.2.2.1.2.2.1.2,SB c.2.2.1.2.2.2.1,.d aoh c.2.2.1.2.2.2.2,SB c.2.2.2.1,SB c.2.2.2.2.1.1.1.1,.d aoh c.2.2.2.2.1.1.1.2,SB c.2.2.2.2.1.1.2.1,.d aoh c.2.2.2.2.1.1.2.2,SB c.2.2.2.2.1.2.1.1.1,.d aoh c.2.2.2.2.1.2.1.1.2,SB c.2.2.2.2.1.2.1.2.1,.d aoh c.2.2.2.2.1.2.1.2.2,SB c.2.2.2.2.1.2.2.1.1.1,.d aoh c.2.2.2.2.1.2.2.1.1.2,SB c.2.2.2.2.1.2.2.1.2.1,.d aoh c.2.2.2.2.1.2.2.1.2.2,SB c.2.2.2.2.1.2.2.2.1.1.1,.d aoh c.2.2.2.2.1.2.2.2.1.1.2,SB c.2.2.2.2.1.2.2.2.1.2.1,.d aoh c.2.2.2.2.1.2.2.2.1.2.2,SB c.2.2.2.2.1.2.2.2.2.1.1,.d aoh c.2.2.2.2.1.2.2.2.2.1.2,SB c.2.2.2.2.1.2.2.2.2.2.1,.d aoh c.2.2.2.2.1.2.2.2.2.2.2,SB c.2.2.2.2.2.1.1.1,.d aoh c.2.2.2.2.2.1.1.2,SB c.2.2.2.2.2.1.2.1,.d aoh c.2.2.2.2.2.1.2.2,SB c.2.2.2.2.2.2.1.1.1,.d aoh c.2.2.2.2.2.2.1.1.2,SB c.2.2.2.2.2.2.1.2.1,.d aoh c.2.2.2.2.2.2.1.2.2,SB c.2.2.2.2.2.2.2.1.1.1,.d aoh c.2.2.2.2.2.2.2.1.1.2,SB c.2.2.2.2.2.2.2.1.2.1,.d aoh c.2.2.2.2.2.2.2.1.2.2,SB c.2.2.2.2.2.2.2.2.1.1.1,.d aoh c.2.2.2.2.2.2.2.2.1.1.2,SB c.2.2.2.2.2.2.2.2.1.2.1,.d aoh c.2.2.2.2.2.2.2.2.1.2.2,SB c.2.2.2.2.2.2.2.2.2.1.1,.d aoh c.2.2.2.2.2.2.2.2.2.1.2,SB c.2.2.2.2.2.2.2.2.2.2.1,.d aoh c.2.2.2.2.2.2.2.2.2.2.2],.box 31 [SB r.1.1,.d aoh r.1.2,SB r.2.1,.d aoh r.2.2]],2,[⟨71,[.seq 4],3,2,[],2,none⟩,⟨28,[.seq 4],3,2,[],0,none⟩]⟩
def aet(c:BCU)(l:List BCU)(r:BR)(k:KT):Option (List RV):=k 6 (pU c l r 0)
theorem af5(c:BCU)(l:List BCU)(r:BR):RS Qo 28 [.d tCU c,.d (.sl tCU) l,.d tR r] (aet c l r):=rsX
def oM(c:BCU)(l:List BCU)(r:BR)(s69_8:Int)(k:KT):Option (List RV):=match decide (s69_8<(l.length:Int))with|true=>(match aR l s69_8 with|some x1=>(og (decide (f0 c x1∧ok Rat 1000 r)) (match decide ((nW c x1 (ah r))<0)with|true=>some [RV.d .bool (!(decide (s69_8≥0)))]|false=>k 6 (pU c l r (i64.wrap (s69_8+1)))))|none=>none)|false=>some [RV.d .bool (!(decide ((-1)≥0)))]
theorem vo(c:BCU)(l:List BCU)(r:BR)(s69_8:Int):RN Qo 6 (pU c l r s69_8) (oM c l r s69_8):=rnX
theorem ahr(c:BCU)(l:List BCU)(r:BR)(h:Kg c l r):∀(j i:Nat),i+j=l.length→Qo.Runs 6 (pU c l r (i:Int)) [.d .bool (!((l.drop i).any (nrZ c (ah r))))]:=by
 intro j
 have hl:=h.2.2.1
 induction j with
 |zero=>
  intro i hi
  refine vo _ _ _ _ ⟨0,?_⟩
  unfold oM
  rw[b9 (by omega),pC (by omega)]
  rfl
 |succ j ih=>
  intro i hi
  have hil:i<l.length:=by omega
  obtain⟨n,hn⟩:=ih (i+1) (by omega)
  refine vo _ _ _ _ ⟨n,?_⟩
  unfold oM
  rw[bH hil,ao,akZ hil,gz hil,an4,bV (by omega)]
  dsimp only
  rw[dT (show f0 c l[i]∧ok Rat 1000 r from⟨⟨h.1,h.2.1 _ (alz _)⟩,h.2.2.2⟩)]
  have e:nrZ c (ah r) l[i]=decide (nW c l[i] (ah r)<0):=rfl
  rw[e]
  cases decide (nW c l[i] (ah r)<0)
  ·exact hn
  ·show some [RV.d .bool (!(decide ((i:Int)≥0)))]=_
   rw[dT (show(i:Int)≥0 by omega)]
   rfl
def aik:Cn 28 [tCU,(.sl tCU),tR]:=cn fun(c:BCU) (l:List BCU) (r:BR)=>lf (Kg c l r) [.d .bool (Gi c l (ah r))] fun h=>by
 exact c8 A8 (af5 _ _ _ (ahr c l r h l.length 0 (alE _)))
def AH:List En:=enF aik::A8
def abq:NT:=[((69,6),{keep:=[0,1,7,8],hl:=2}),((26,3),{keep:=[9],hl:=0}),((69,18),{keep:=[0,1,5,7,8,16],hl:=0})]
def Le:Ctx:=CX (ens AH) abq
def qf(a b:List BCU)(r:BR)(s69_8:Int):Cfg:=⟨69,[.blk 0,.seq 25],[(0,.d (.sl tCU) a),(1,.clo 70 [0,1]),(7,SI (a.length:Int)),(8,SI s69_8)],[.box 54 [.d (.sl tCU) b],.box 31 [SB r.1.1,.d aoh r.1.2,SB r.2.1,.d aoh r.2.2]],2,[⟨26,[.seq 4],3,2,[],0,none⟩]⟩
def agm(a b:List BCU)(r:BR)(k:KT):Option (List RV):=k 6 (qf a b r 0)
theorem aeC(a b:List BCU)(r:BR):RS Le 26 [.d (.sl tCU) a,.d (.sl tCU) b,.d tR r] (agm a b r):=rsX
def oJ(a b:List BCU)(r:BR)(s69_8:Int)(k:KT):Option (List RV):=match decide (s69_8<(a.length:Int))with|true=>(match aR a s69_8 with|some x1=>(og (decide (Kg x1 b r)) (match !(Gi x1 b (ah r))with|true=>some [RV.d aoi s69_8]|false=>k 6 (qf a b r (i64.wrap (s69_8+1)))))|none=>none)|false=>some [RV.d aoi (-1)]
theorem vi(a b:List BCU)(r:BR)(s69_8:Int):RN Le 6 (qf a b r s69_8) (oJ a b r s69_8):=rnX
theorem afg(a b:List BCU)(r:BR)(h:Ap a b r):∀(j i:Nat),i+j=a.length→Le.Runs 6 (qf a b r (i:Int)) [.d aoi (EK (fun c=>!(Gi c b (ah r))) (a.drop i) (i:Int))]:=by
 intro j
 have hl:=h.2.2.1
 induction j with
 |zero=>
  intro i hi
  refine vi _ _ _ _ ⟨0,?_⟩
  unfold oJ
  rw[b9 (by omega),pC (by omega)]
  rfl
 |succ j ih=>
  intro i hi
  have hil:i<a.length:=by omega
  obtain⟨n,hn⟩:=ih (i+1) (by omega)
  refine vi _ _ _ _ ⟨n,?_⟩
  unfold oJ
  rw[bH hil,ao,akZ hil,gz hil,bV (by omega)]
  dsimp only
  rw[dT (show Kg a[i] b r from⟨h.1 _ (alz _),h.2.1,h.2.2.2.1,h.2.2.2.2⟩)]
  unfold EK
  cases Gi a[i] b (ah r)
  ·rfl
  ·exact hn
def agI:Cn 26 [(.sl tCU),(.sl tCU),tR]:=cn fun(a b:List BCU) (r:BR)=>lf (Ap a b r) [.d aoi (Ax a b (ah r))] fun h=>by
 exact c8 AH (aeC _ _ _ (afg a b r h a.length 0 (alE _)))
def Uy:List En:=enF agI::AH
def afN:Cn 27 [(.sl tCU),(.sl tCU),tR]:=cn fun(a b:List BCU) (r:BR)=>lf (Ap a b r) [.d .bool (decide (Ax a b (ah r)<0))] fun h=>jP [RV.d .bool (decide ((Ax a b (ah r))<0))] (dA Uy) h
namespace RE
end RE
namespace RE
end RE
section
open RE
abbrev sgC(a b:Rat×Rat):Cv:=(false,ti a b,dec o00,false,atP a,atP b)
abbrev arC(a b c:Rat×Rat):Cv:=(true,dec o00,qH a b c,decide (xH a b c<0),atP a,atP c)
abbrev fuA(c:Ln):Cv:=(true,dec o00,c,false,mb c,mf c)
abbrev fuB(c:Ln):Cv:=(true,dec o00,c,false,mf c,mb c)
theorem PN{a b:Rat×Rat}(h:yT a b=false):dC (jy a b)=sgC a b:=by
 unfold jy dC
 rw[h]
 simp only[cond_false,az]
theorem Wg{a b c:Rat×Rat}(h:fa a b c≠0):dC (l4 a b c)=arC a b c:=by
 unfold l4 dC
 rw[dF h]
 simp only[cond_false,az]
theorem sL{c:BCU}(h:gdN c):c.2.2.2.2.1=enc (frC (dC c))∧c.2.2.2.2.2=enc (toC (dC c)):=
 ⟨(Cod.ok_dec _ _ h.fr.1).1,(Cod.ok_dec _ _ h.to.1).1⟩
theorem lR{c d:BCU}(hc:gdN c)(hd:gdN d){c' d':Cv}(ec:dC c=c')(ed:dC d=d')(hs:cB c' d'=false)(hm:acJ c' d'=[]){r:Rat}(hr:decide (r<0)=false):nW c d r=uE c' d' r:=by
 subst ec ed
 have e:fY c d=[]:=by rw[QW (sL hc).1 (sL hc).2 (sL hd).1 (sL hd).2,hm];rfl
 have n:qN c d=false:=by unfold qN;rw[hs];rfl
 unfold nW S9
 rw[e,n,hr]
 rfl
theorem B6{d:BCU}(hd:gdN d){p:Pt}{v:Rat×Rat}(e:p=atP v)(hv:Bd v 200)(r:Rat):poiE (dC d) (pR p) r=uo (dC d) v r:=by
 rw[e,mC]
 exact Ul hd.e (Ck (bv:=hv) hd.1.1).2 r
theorem lS{c d:BCU}(hc:gdN c)(hd:gdN d){a b u w:Rat×Rat}(ba:Bd a 200)(bb:Bd b 200)(bu:Bd u 200)(bw:Bd w 200)(e1:frC (dC c)=atP a)(e2:toC (dC c)=atP b)(e3:frC (dC d)=atP u)(e4:toC (dC d)=atP w)(r:Rat):
  C9 (dC c) (dC d) r=min (min (min (uo (dC d) a r) (uo (dC d) b r)) (uo (dC c) u r)) (uo (dC c) w r):=by
 unfold C9
 rw[B6 hd e1 ba,B6 hd e2 bb,B6 hc e3 bu,B6 hc e4 bw]
abbrev v00:Rat×Rat:=vcR 0 0
theorem acH:Bd v00 1:=⟨⟨⟨by decide+kernel,by decide+kernel⟩,⟨by decide+kernel,by decide+kernel⟩⟩⟩
theorem akg:Bd v00 200:=acH.mono (by decide)
abbrev v40:Rat×Rat:=vcR 4 0
theorem abX:Bd v40 1:=⟨⟨⟨by decide+kernel,by decide+kernel⟩,⟨by decide+kernel,by decide+kernel⟩⟩⟩
theorem aje:Bd v40 200:=abX.mono (by decide)
abbrev v13:Rat×Rat:=vcR 1 3
theorem adt:Bd v13 1:=⟨⟨⟨by decide+kernel,by decide+kernel⟩,⟨by decide+kernel,by decide+kernel⟩⟩⟩
theorem akb:Bd v13 200:=adt.mono (by decide)
abbrev v19:Rat×Rat:=vcR 1 9
theorem aaj:Bd v19 1:=⟨⟨⟨by decide+kernel,by decide+kernel⟩,⟨by decide+kernel,by decide+kernel⟩⟩⟩
theorem aja:Bd v19 200:=aaj.mono (by decide)
abbrev v10:Rat×Rat:=vcR 1 0
theorem acY:Bd v10 1:=⟨⟨⟨by decide+kernel,by decide+kernel⟩,⟨by decide+kernel,by decide+kernel⟩⟩⟩
theorem agG:Bd v10 200:=acY.mono (by decide)
abbrev v01:Rat×Rat:=vcR 0 1
theorem ajh:Bd v01 1:=⟨⟨⟨by decide+kernel,by decide+kernel⟩,⟨by decide+kernel,by decide+kernel⟩⟩⟩
abbrev vm1:Rat×Rat:=vcR (-1) 0
theorem aa9:Bd vm1 1:=⟨⟨⟨by decide+kernel,by decide+kernel⟩,⟨by decide+kernel,by decide+kernel⟩⟩⟩
theorem ah1:Bd vm1 200:=aa9.mono (by decide)
abbrev v30:Rat×Rat:=vcR 3 0
theorem abm:Bd v30 1:=⟨⟨⟨by decide+kernel,by decide+kernel⟩,⟨by decide+kernel,by decide+kernel⟩⟩⟩
theorem Ks:Bd v30 200:=abm.mono (by decide)
abbrev v03:Rat×Rat:=vcR 0 3
theorem ajv:Bd v03 1:=⟨⟨⟨by decide+kernel,by decide+kernel⟩,⟨by decide+kernel,by decide+kernel⟩⟩⟩
abbrev vm3:Rat×Rat:=vcR (-3) 0
theorem acU:Bd vm3 1:=⟨⟨⟨by decide+kernel,by decide+kernel⟩,⟨by decide+kernel,by decide+kernel⟩⟩⟩
theorem ajG:Bd vm3 200:=acU.mono (by decide)
abbrev vm5:Rat×Rat:=vcR (-5) 3
theorem acB:Bd vm5 1:=⟨⟨⟨by decide+kernel,by decide+kernel⟩,⟨by decide+kernel,by decide+kernel⟩⟩⟩
theorem aj9:Bd vm5 200:=acB.mono (by decide)
abbrev v53:Rat×Rat:=vcR 5 3
theorem aaI:Bd v53 1:=⟨⟨⟨by decide+kernel,by decide+kernel⟩,⟨by decide+kernel,by decide+kernel⟩⟩⟩
theorem ajb:Bd v53 200:=aaI.mono (by decide)
abbrev vm2:Rat×Rat:=vcR (-2) 0
theorem aiW:Bd vm2 1:=⟨⟨⟨by decide+kernel,by decide+kernel⟩,⟨by decide+kernel,by decide+kernel⟩⟩⟩
theorem Mc:Bd vm2 200:=aiW.mono (by decide)
abbrev v20:Rat×Rat:=vcR 2 0
theorem akm:Bd v20 1:=⟨⟨⟨by decide+kernel,by decide+kernel⟩,⟨by decide+kernel,by decide+kernel⟩⟩⟩
theorem MT:Bd v20 200:=akm.mono (by decide)
abbrev v90:Rat×Rat:=vcR 9 0
theorem ai8:Bd v90 1:=⟨⟨⟨by decide+kernel,by decide+kernel⟩,⟨by decide+kernel,by decide+kernel⟩⟩⟩
theorem Rq:Bd v90 200:=ai8.mono (by decide)
abbrev lF:Ln:=(((0:Int):Rat),((0:Int):Rat),((4:Int):Rat))
abbrev lG:Ln:=(((6:Int):Rat),((0:Int):Rat),((9:Int):Rat))
theorem blF:BdC lF:=⟨⟨by decide+kernel,by decide+kernel⟩,⟨by decide+kernel,by decide+kernel⟩,⟨by decide+kernel,by decide+kernel⟩⟩
theorem blG:BdC lG:=⟨⟨by decide+kernel,by decide+kernel⟩,⟨by decide+kernel,by decide+kernel⟩,⟨by decide+kernel,by decide+kernel⟩⟩
theorem gS1:gdN (jy v00 v40):=AR (ba:=acH) (bb:=abX) (by decide+kernel)
theorem dS1:dC (jy v00 v40)=sgC v00 v40:=PN (by decide+kernel)
theorem gS2:gdN (jy v13 v19):=AR (ba:=adt) (bb:=aaj) (by decide+kernel)
theorem dS2:dC (jy v13 v19)=sgC v13 v19:=PN (by decide+kernel)
theorem gS3:gdN (jy vm5 v53):=AR (ba:=acB) (bb:=aaI) (by decide+kernel)
theorem dS3:dC (jy vm5 v53)=sgC vm5 v53:=PN (by decide+kernel)
theorem gH1:gdN (l4 v10 v01 vm1):=by
 have:=acY
 have:=aa9
 exact GE (bc:=⟨⟨by decide+kernel,by decide+kernel⟩,⟨by decide+kernel,by decide+kernel⟩,⟨by decide+kernel,by decide+kernel⟩⟩) (by decide+kernel)
theorem dH1:dC (l4 v10 v01 vm1)=arC v10 v01 vm1:=Wg (by decide+kernel)
theorem gH3:gdN (l4 v30 v03 vm3):=by
 have:=abm
 have:=acU
 exact GE (bc:=⟨⟨by decide+kernel,by decide+kernel⟩,⟨by decide+kernel,by decide+kernel⟩,⟨by decide+kernel,by decide+kernel⟩⟩) (by decide+kernel)
theorem dH3:dC (l4 v30 v03 vm3)=arC v30 v03 vm3:=Wg (by decide+kernel)
theorem c12:nW (jy v00 v40) (jy v13 v19) ((3:Int):Rat)=0:=by
 rw[lR gS1 gS2 dS1 dS2 (by decide+kernel) (by decide+kernel) (by decide+kernel)]
 have:=lS gS1 gS2 akg aje akb aja (by rw[dS1];rfl) (by rw[dS1];rfl) (by rw[dS2];rfl) (by rw[dS2];rfl) ((3:Int):Rat)
 rw[dS1,dS2]at this
 unfold uE
 rw[this]
 decide+kernel
theorem cHH:nW (l4 v10 v01 vm1) (l4 v30 v03 vm3) ((2:Int):Rat)=0:=by
 rw[lR gH1 gH3 dH1 dH3 (by decide+kernel) (by decide+kernel) (by decide+kernel)]
 have:=lS gH1 gH3 agG ah1 Ks ajG (by rw[dH1];rfl) (by rw[dH1];rfl) (by rw[dH3];rfl) (by rw[dH3];rfl) ((2:Int):Rat)
 rw[dH1,dH3]at this
 unfold uE
 rw[this]
 decide+kernel
theorem cHS:nW (l4 v10 v01 vm1) (jy vm5 v53) ((2:Int):Rat)=0:=by
 rw[lR gH1 gS3 dH1 dS3 (by decide+kernel) (by decide+kernel) (by decide+kernel)]
 have:=lS gH1 gS3 agG ah1 aj9 ajb (by rw[dH1];rfl) (by rw[dH1];rfl) (by rw[dS3];rfl) (by rw[dS3];rfl) ((2:Int):Rat)
 rw[dH1,dS3]at this
 unfold uE
 rw[this]
 decide+kernel
abbrev kF1:BCU:=(true,o00,enc lF,false,enc (mb lF),enc (mf lF))
abbrev kF2:BCU:=(true,o00,enc lF,false,enc (mf lF),enc (mb lF))
abbrev kG1:BCU:=(true,o00,enc lG,false,enc (mb lG),enc (mf lG))
abbrev kG2:BCU:=(true,o00,enc lG,false,enc (mf lG),enc (mb lG))
theorem fF:vG (enc lF)=[kF1,kF2]:=by unfold vG;rw[az]
theorem fG:vG (enc lG)=[kG1,kG2]:=by unfold vG;rw[az]
theorem FV:gdN kF1:=yr (bc:=blF) (by decide+kernel) _ (by rw[fF];simp)
theorem vz:dC kF1=fuA lF:=by unfold dC;simp only[az]
theorem PB:gdN kF2:=yr (bc:=blF) (by decide+kernel) _ (by rw[fF];simp)
theorem Eh:dC kF2=fuB lF:=by unfold dC;simp only[az]
theorem E2:gdN kG1:=yr (bc:=blG) (by decide+kernel) _ (by rw[fG];simp)
theorem vD:dC kG1=fuA lG:=by unfold dC;simp only[az]
theorem QH:gdN kG2:=yr (bc:=blG) (by decide+kernel) _ (by rw[fG];simp)
theorem C1:dC kG2=fuB lG:=by unfold dC;simp only[az]
theorem Vj:nrZ kF1 ((1:Int):Rat) kG1=false:=by
 unfold nrZ
 rw[lR FV E2 vz vD (by decide+kernel) (by decide+kernel) (by decide+kernel)]
 have:=lS FV E2 Mc MT Ks Rq (by rw[vz];decide+kernel) (by rw[vz];decide+kernel) (by rw[vD];decide+kernel) (by rw[vD];decide+kernel) ((1:Int):Rat)
 rw[vz,vD]at this
 unfold uE
 rw[this]
 decide+kernel
theorem Vg:nrZ kF1 ((1:Int):Rat) kG2=false:=by
 unfold nrZ
 rw[lR FV QH vz C1 (by decide+kernel) (by decide+kernel) (by decide+kernel)]
 have:=lS FV QH Mc MT Rq Ks (by rw[vz];decide+kernel) (by rw[vz];decide+kernel) (by rw[C1];decide+kernel) (by rw[C1];decide+kernel) ((1:Int):Rat)
 rw[vz,C1]at this
 unfold uE
 rw[this]
 decide+kernel
theorem Ux:nrZ kF2 ((1:Int):Rat) kG1=false:=by
 unfold nrZ
 rw[lR PB E2 Eh vD (by decide+kernel) (by decide+kernel) (by decide+kernel)]
 have:=lS PB E2 MT Mc Ks Rq (by rw[Eh];decide+kernel) (by rw[Eh];decide+kernel) (by rw[vD];decide+kernel) (by rw[vD];decide+kernel) ((1:Int):Rat)
 rw[Eh,vD]at this
 unfold uE
 rw[this]
 decide+kernel
theorem VS:nrZ kF2 ((1:Int):Rat) kG2=false:=by
 unfold nrZ
 rw[lR PB QH Eh C1 (by decide+kernel) (by decide+kernel) (by decide+kernel)]
 have:=lS PB QH MT Mc Rq Ks (by rw[Eh];decide+kernel) (by rw[Eh];decide+kernel) (by rw[C1];decide+kernel) (by rw[C1];decide+kernel) ((1:Int):Rat)
 rw[Eh,C1]at this
 unfold uE
 rw[this]
 decide+kernel
theorem akt:nrZ kF1 (Rat.divInt 11 10) kG1=true:=by
 unfold nrZ
 rw[lR FV E2 vz vD (by decide+kernel) (by decide+kernel) (by decide+kernel)]
 have:=lS FV E2 Mc MT Ks Rq (by rw[vz];decide+kernel) (by rw[vz];decide+kernel) (by rw[vD];decide+kernel) (by rw[vD];decide+kernel) (Rat.divInt 11 10)
 rw[vz,vD]at this
 unfold uE
 rw[this]
 decide+kernel
theorem fi1:decide (Ax [kF1,kF2] [kG1,kG2] ((1:Int):Rat)<0)=true:=by
 unfold Ax EK EK EK Gi
 simp only[an4,List.any_nil,Vj,Vg,Ux,VS,Bool.or_false,Bool.not_false,Bool.not_true,cond_false]
 rfl
theorem fi2:decide (Ax [kF1,kF2] [kG1,kG2] (Rat.divInt 11 10)<0)=false:=by
 unfold Ax EK Gi
 simp only[an4,akt,Bool.true_or,Bool.not_true,Bool.not_false,cond_true]
 rfl
theorem mGF:∀x∈[kF1,kF2],mG x:=by
 intro x hx
 simp only[ald,aml,anM]at hx
 rcases hx with e|e<;>rw[e]
 ·exact FV.1
 ·exact PB.1
theorem mGG:∀x∈[kG1,kG2],mG x:=by
 intro x hx
 simp only[ald,aml,anM]at hx
 rcases hx with e|e<;>rw[e]
 ·exact E2.1
 ·exact QH.1
theorem okZ{n:Int}(h:aH n):ok Rat 1000 (am (n:Rat)):=by
 have:=cV h
 exact ak1 (okd (by decide) (by decide))
def Jt:List En:=[enL nF,enL PW]
def Wu(x y:Int)(_k:KT):Option (List RV):=og (decide (aH x)) (og (decide (aH y)) (some [RV.d tV (hid (am (x:Rat)),hid (am (y:Rat)))]))
def adY:Cn 80 [aoi,aoi]:=cn fun(x y:Int)=>lf (aH x∧aH y) [.d tV (enc (vcR x y))] fun h=>by
 refine aA Jt (Wu x y) ⟨0,?_⟩
 unfold Wu
 rw[dT h.1,dT h.2]
 simp only[bK]
 rfl
def Xe(a b:BV)(_k:KT):Option (List RV):=og (decide (ok (Rat×Rat) 100 a∧ok (Rat×Rat) 100 b)) (some [RV.d tCU (hid (jy (dec a) (dec b)))])
def afx:Cn 76 [tV,tV]:=cn fun(a b:BV)=>lf (ok (Rat×Rat) 100 a∧ok (Rat×Rat) 100 b) [.d tCU (jy (dec a) (dec b))] fun h=>by
 refine aA Jt (Xe a b) ⟨0,?_⟩
 unfold Xe
 rw[dT h]
 simp only[bK]
def Jq:List En:=[enL nF,enL afx,enL adY,enL Nz,enT Lv,enL W7,enF afN,enL OW]
def Pz:NT:=[((12,3),{keep:=[3,4,5,7],hl:=0}),((12,5),{keep:=[1,8,9,10,12],hl:=0}),((12,7),{keep:=[1,2,13,14,15,16,18,19,20,21,22,25,26,27,28,29,32,33,34,35,36,38,39,40,41,42],hl:=0})]
def Vk:Ctx:=CX (ens Jq) Pz
def HX(_k:KT):Option (List RV):=let y1:=am ((0:Int):Rat);let y2:=hid (enc (vcR (0:Int) (0:Int)));let y3:=hid (enc (vcR (4:Int) (0:Int)));let y4:=hid (enc (vcR (1:Int) (3:Int)));let y5:=hid (enc (vcR (1:Int) (9:Int)));let y6:=hid (jy (dec y2) (dec y3));let y7:=hid (jy (dec y4) (dec y5));let y8:=hid (am ((3:Int):Rat));let y9:=i64.wrap (0+1);let y10:=i64.wrap (0-1);let y11:=hid (enc (vcR y9 (0:Int)));let y12:=hid (enc (vcR (0:Int) y9));let y13:=hid (enc (vcR y10 (0:Int)));let y14:=i64.wrap (0+3);let y15:=i64.wrap (0-3);let y16:=hid (enc (vcR y14 (0:Int)));let y17:=hid (enc (vcR (0:Int) y14));let y18:=hid (enc (vcR y15 (0:Int)));let y19:=hid (l4 (dec y11) (dec y12) (dec y13));let y20:=hid (l4 (dec y16) (dec y17) (dec y18));let y21:=hid (am ((2:Int):Rat));let y22:=hid (enc (vcR ((-5):Int) (3:Int)));let y23:=hid (enc (vcR (5:Int) (3:Int)));let y24:=hid (jy (dec y22) (dec y23));let y25:=vG (hid y1,(hid y1,hid (am ((4:Int):Rat))));let y26:=vG (hid (am ((6:Int):Rat)),(hid y1,hid (am ((9:Int):Rat))));let y27:=hid (am ((1:Int):Rat));let y28:=hid (am (Rat.divInt (11:Int) (10:Int)));og (decide (aH (0:Int))) (og (decide (aH (0:Int))) (og (decide (aH (4:Int))) (og (decide (cf (hid y1,(hid y1,hid (am ((4:Int):Rat)))))) (og (decide (aH (6:Int))) (og (decide (aH (0:Int))) (og (decide (aH (9:Int))) (og (decide (cf (hid (am ((6:Int):Rat)),(hid y1,hid (am ((9:Int):Rat)))))) (og (decide (aH (0:Int)∧aH (0:Int))) (og (decide (aH (4:Int)∧aH (0:Int))) (og (decide (ok (Rat×Rat) 100 y2∧ok (Rat×Rat) 100 y3)) (og (decide (aH (1:Int)∧aH (3:Int))) (og (decide (aH (1:Int)∧aH (9:Int))) (og (decide (ok (Rat×Rat) 100 y4∧ok (Rat×Rat) 100 y5)) (og (decide (aH (3:Int))) (og (decide (f0 y6 y7∧ok Rat 1000 y8)) (match(nW y6 y7 (ah y8))==0 with|true=>(og (decide (aH y9∧aH (0:Int))) (og (decide (aH (0:Int)∧aH y9)) (og (decide (aH y10∧aH (0:Int))) (og (decide (ok (Rat×Rat) 100 y11∧ok (Rat×Rat) 100 y12∧ok (Rat×Rat) 100 y13)) (og (decide (aH y14∧aH (0:Int))) (og (decide (aH (0:Int)∧aH y14)) (og (decide (aH y15∧aH (0:Int))) (og (decide (ok (Rat×Rat) 100 y16∧ok (Rat×Rat) 100 y17∧ok (Rat×Rat) 100 y18)) (og (decide (aH (2:Int))) (og (decide (f0 y19 y20∧ok Rat 1000 y21)) (match(nW y19 y20 (ah y21))==0 with|true=>(og (decide (aH y9∧aH (0:Int))) (og (decide (aH (0:Int)∧aH y9)) (og (decide (aH y10∧aH (0:Int))) (og (decide (ok (Rat×Rat) 100 y11∧ok (Rat×Rat) 100 y12∧ok (Rat×Rat) 100 y13)) (og (decide (aH ((-5):Int)∧aH (3:Int))) (og (decide (aH (5:Int)∧aH (3:Int))) (og (decide (ok (Rat×Rat) 100 y22∧ok (Rat×Rat) 100 y23)) (og (decide (aH (2:Int))) (og (decide (f0 y19 y24∧ok Rat 1000 y21)) (match(nW y19 y24 (ah y21))==0 with|true=>(og (decide (aH (1:Int))) (og (decide (Ap y25 y26 y27)) (match decide (Ax y25 y26 (ah y27)<0)with|true=>(og (decide (DX (11:Int) (10:Int))) (og (decide (Ap y25 y26 y28)) (some [RV.d .bool (!(decide (Ax y25 y26 (ah y28)<0)))])))|false=>some [RV.d .bool false])))|false=>some [RV.d .bool false]))))))))))|false=>some [RV.d .bool false])))))))))))|false=>some [RV.d .bool false]))))))))))))))))
theorem T8:RS Vk 12 [] (HX):=rsX
def Sw:Cn 12 []:=cn<|lf True [.d .bool true] fun _=>by
 have i0:decide (aH 0)=true:=by decide
 have i1:decide (aH 1)=true:=by decide
 have i2:decide (aH 2)=true:=by decide
 have i3:decide (aH 3)=true:=by decide
 have i4:decide (aH 4)=true:=by decide
 have i6:decide (aH 6)=true:=by decide
 have i9:decide (aH 9)=true:=by decide
 have i5:decide (aH 5)=true:=by decide
 have jv00:decide (aH (0)∧aH (0))=true:=by decide
 have jv40:decide (aH (4)∧aH (0))=true:=by decide
 have jv13:decide (aH (1)∧aH (3))=true:=by decide
 have jv19:decide (aH (1)∧aH (9))=true:=by decide
 have jv10:decide (aH (1)∧aH (0))=true:=by decide
 have jv01:decide (aH (0)∧aH (1))=true:=by decide
 have jvm1:decide (aH (-1)∧aH (0))=true:=by decide
 have jv30:decide (aH (3)∧aH (0))=true:=by decide
 have jv03:decide (aH (0)∧aH (3))=true:=by decide
 have jvm3:decide (aH (-3)∧aH (0))=true:=by decide
 have jvm5:decide (aH (-5)∧aH (3))=true:=by decide
 have jv53:decide (aH (5)∧aH (3))=true:=by decide
 have jvm2:decide (aH (-2)∧aH (0))=true:=by decide
 have jv20:decide (aH (2)∧aH (0))=true:=by decide
 have jv90:decide (aH (9)∧aH (0))=true:=by decide
 have o1:decide (ok (Rat×Rat) 100 (enc v00)∧ok (Rat×Rat) 100 (enc v40))=true:=dT ⟨ak1 (okd (h:=acH) (by decide) (by decide)),ak1 (okd (h:=abX) (by decide) (by decide))⟩
 have o2:decide (ok (Rat×Rat) 100 (enc v13)∧ok (Rat×Rat) 100 (enc v19))=true:=dT ⟨ak1 (okd (h:=adt) (by decide) (by decide)),ak1 (okd (h:=aaj) (by decide) (by decide))⟩
 have o3:decide (ok (Rat×Rat) 100 (enc vm5)∧ok (Rat×Rat) 100 (enc v53))=true:=dT ⟨ak1 (okd (h:=acB) (by decide) (by decide)),ak1 (okd (h:=aaI) (by decide) (by decide))⟩
 have o4:decide (ok (Rat×Rat) 100 (enc v10)∧ok (Rat×Rat) 100 (enc v01)∧ok (Rat×Rat) 100 (enc vm1))=true:=dT ⟨ak1 (okd (h:=acY) (by decide) (by decide)),ak1 (okd (h:=ajh) (by decide) (by decide)),ak1 (okd (h:=aa9) (by decide) (by decide))⟩
 have o5:decide (ok (Rat×Rat) 100 (enc v30)∧ok (Rat×Rat) 100 (enc v03)∧ok (Rat×Rat) 100 (enc vm3))=true:=dT ⟨ak1 (okd (h:=abm) (by decide) (by decide)),ak1 (okd (h:=ajv) (by decide) (by decide)),ak1 (okd (h:=acU) (by decide) (by decide))⟩
 have m1:decide (f0 (jy v00 v40) (jy v13 v19)∧ok Rat 1000 (am ((3:Int):Rat)))=true:=dT ⟨⟨gS1.1,gS2.1⟩,okZ (by decide)⟩
 have m2:decide (f0 (l4 v10 v01 vm1) (l4 v30 v03 vm3)∧ok Rat 1000 (am ((2:Int):Rat)))=true:=dT ⟨⟨gH1.1,gH3.1⟩,okZ (by decide)⟩
 have m3:decide (f0 (l4 v10 v01 vm1) (jy vm5 v53)∧ok Rat 1000 (am ((2:Int):Rat)))=true:=dT ⟨⟨gH1.1,gS3.1⟩,okZ (by decide)⟩
 have f1:decide (Ap [kF1,kF2] [kG1,kG2] (am ((1:Int):Rat)))=true:=dT ⟨mGF,mGG,by decide,by decide,okZ (by decide)⟩
 have f2:decide (Ap [kF1,kF2] [kG1,kG2] (am (Rat.divInt 11 10)))=true:=dT ⟨mGF,mGG,by decide,by decide,by have:=bQ 11 10 (by decide);exact ak1 (okd (by decide) (by decide))⟩
 have q1:decide (DX 11 10)=true:=by decide
 have l1:((am ((0:Int):Rat),(am ((0:Int):Rat),am ((4:Int):Rat))):BO3)=enc lF:=rfl
 have l2:((am ((6:Int):Rat),(am ((0:Int):Rat),am ((9:Int):Rat))):BO3)=enc lG:=rfl
 have k1:decide (cf (enc lF))=true:=dT (gX (h:=blF) (by decide+kernel))
 have k2:decide (cf (enc lG))=true:=dT (gX (h:=blG) (by decide+kernel))
 have w1:i64.wrap (0+1)=1:=by decide
 have w2:i64.wrap (0-1)= -1:=by decide
 have w3:i64.wrap (0+3)=3:=by decide
 have w4:i64.wrap (0-3)= -3:=by decide
 refine c8 Jq (T8 ⟨0,?_⟩)
 unfold HX
 simp only[aU,w1,w2,w3,w4,l1,l2,k1,k2,f1,f2,q1,fF,fG,fi1,fi2,c12,cHH,cHS,i0,i1,i2,i3,i4,i6,i9,jv00,jv40,jv13,jv19,jv10,jv01,jvm1,jv30,jv03,jvm3,jvm5,jv53,o1,o2,o3,o4,o5,m1,m2,m3]
 rfl
end
def aa4:List En:=[enL nF]
def Dh(n:Int)(_k:KT):Option (List RV):=og (decide (aH n)) (some [RV.d tR (hid (am (n:Rat)))])
def Rl:Cn 23 [aoi]:=cn fun(n:Int)=>lf (aH n) [.d tR (am (n:Rat))] fun h=>by
 refine aA aa4 (Dh n) ⟨0,?_⟩
 unfold Dh
 rw[dT h]
 simp only[bK]
def Iy:List En:=[enT Sw,enL acG,enL Rl,enT Lv,enL Xn]
def Kx:Ctx:=CX (ens Iy) []
def Al(x y:Pce)(_k:KT):Option (List RV):=og (decide (yO x)) (og (decide (yO y)) (match !(yR x)with|true=>some [RV.d .bool true]|false=>(match !(yR y)with|true=>some [RV.d .bool true]|false=>(og (decide (f0 (hid (jS x)) (hid (jS y)))) (og (decide (aH (0:Int))) (og (decide (f0 (hid (jS x)) (hid (jS y))∧ok Rat 1000 (hid (am ((0:Int):Rat))))) (match Ew (hid (jS x)) (hid (jS y))with|true=>some [RV.d .bool (((nW (hid (jS x)) (hid (jS y)) (ah (hid (am ((0:Int):Rat)))))==0)==true)]|false=>some [RV.d .bool (((nW (hid (jS x)) (hid (jS y)) (ah (hid (am ((0:Int):Rat)))))==0)==(decide (((kZ (hid (jS x)) (hid (jS y))).length:Int)>0)))])))))))
theorem J0(x y:Pce):RS Kx 8 [.d yf x,.d yf y] (Al x y):=rsX
theorem Vu(x y:Pce)(hx:Ty.ok yf x)(hy:Ty.ok yf y):Con Tryz.prog 8 [.d yf x,.d yf y] [.d .bool true]:=by
 have h1:=OT hx
 have h2:=OT hy
 refine c8 Iy (J0 _ _ ⟨0,?_⟩)
 unfold Al
 rw[dT h1,dT h2]
 cases ho:yR x
 ·rfl
 ·cases hp:yR y
  ·rfl
  ·have gx:=HV h1 ho
   have gy:=HV h2 hp
   have b0:Bd ((0:Int):Rat) 3:=cV (n:=0) (by decide)
   have o:ok Rat 1000 (am ((0:Int):Rat)):=ak1 (okd (x:=((0:Int):Rat)) (by decide) (by decide))
   simp only[bK,cA,dT (show f0 (jS x) (jS y) from⟨gx.1,gy.1⟩),dT (show aH 0 by decide),dT (show f0 (jS x) (jS y)∧ok Rat 1000 (am ((0:Int):Rat)) from⟨⟨gx.1,gy.1⟩,o⟩)]
   have z:(nW (jS x) (jS y) ((0:Int):Rat)==0)=_:=Oo gx gy
   rw[z]
   cases Ew (jS x) (jS y)
   ·rw[Bool.false_or,beq_self_eq_true]
    rfl
   ·rfl
section
open Go.ChangeShapes Go.WideShapes Go.ChangeAt Go.WideMaps Go.WideElems Go.RowKit Go.Maps
section
variable {H:Type} {enc:TypeId×Value→H} {P:Program}
theorem yM{f:Func}{s:ChangeSpec}{apart fresh handsOn again:Bool}{W W':World}{args:Array Value}{v:Value}{ds gs:List (DataW H)}{before pa pv:List MemPlace}
  (hW:DataW.Whole enc P f.params.toList s.vars apart W args.toList ds gs before)
  (hres:∀(b:Nat) (sp:Nat→Bool) (hd:Bool),DataW.TrodAll enc P W' b sp hd f.resultTypes.toList (v.resultList f.resultTypes.size) (s.fn H (ds++gs)).results [])
  (hargs:∀sp:Nat→Bool,(∀p∈before,sp p.block=true)→DataW.TrodAll enc P W' 0 sp true f.params.toList args.toList (s.fn H (ds++gs)).args pa)
  (hvars:∀sp:Nat→Bool,(∀p∈before,sp p.block=true)→DataW.TrodVars enc P W' sp s.vars (s.fn H (ds++gs)).vars pv)
  (hps:before=pa++pv) (hb:Below W.heap.size W W')
  (hok:∀(j:Nat) (t:TypeId) (r:Value),f.resultTypes[j]?=some t→(v.resultList f.resultTypes.size)[j]?=some r→Value.okWide P W' .any 0 t r):
  s.post enc P f apart fresh handsOn again W args v W':=by
 have hlt:∀p∈before,p.block<W.heap.size:=fun p hp=>hW.lt p hp
 have hold:∀p∈before,(fun b=>decide (b<W.heap.size)) p.block=true:=fun p hp=>by simpa using hlt p hp
 refine⟨ds,gs,before,[],pa,pv,hW,hres _ _ _,hargs _ hold,hvars _ hold,World.keptBut_mono (fun p hp=>⟨hp,?_⟩) (hb.frame (·∈before)),fun _=>?_⟩
 ·grind
 ·obtain⟨_,_,_,_,_,hz,hn⟩:=hW
  refine⟨hok,_,_,([]++pa)++pv,⟨[]++pa,pv,trodAll_append (hargs _ (fun _ _=>rfl)) (hres _ _ _),hvars _ (fun _ _=>rfl),rfl,?_,?_⟩,?_⟩
  ·intro b off hp
   have hin:MemPlace.cell b off∈before:=by rw[hps];simpa using hp
   rw[hb.frozen (hlt _ hin)]
   exact hz b off hin
  ·grind
  grind
end
theorem Qt:laidOutB Tryz.prog=true:=by kernel_rfl
theorem qR{H:Type}{enc:TypeId×Value→H}{P:Program}(hl:laidOutB P=true){W W':World}{sp:Nat→Bool}:∀(ts:List TypeId) (vs:List Value) (ds:List (DataW H)) (ps:List MemPlace),
  (ts.all fun t=>P.readableRec t&&Nat.ble (t+1) P.types.size)=true→DataW.TrodAll enc P W 0 (fun _=>true) true ts vs ds ps→(∀p∈ps,W.sameAt W' p)→(∀p∈ps,sp p.block=true)→DataW.TrodAll enc P W' 0 sp true ts vs ds ps
 |[],vs,ds,ps,_,h,_,_=>by obtain⟨rfl,rfl,rfl⟩:=trodAll_nil h;exact trodAll_mk0
 |t::ts,vs,ds,ps,ht,h,hs,hp=>by
  obtain⟨v,vs',d,ds',p,q,rfl,rfl,rfl,h0,h1⟩:=trodAll_cons h
  simp only[anL,ak2]at ht
  exact trodAll_cons_mk (Trod_stays hl ht.1.1 (ak5 ht.1.2) h0 (fun x hx=>hs x (amA _ hx)) (fun x hx=>hp x (amA _ hx)))
   (qR hl ts vs' ds' q ht.2 h1 (fun x hx=>hs x (am3 _ hx)) (fun x hx=>hp x (am3 _ hx)))
set_option maxRecDepth 100000 in
theorem Sb{H:Type}{enc:TypeId×Value→H}{f:Func}{s:ChangeSpec}{apart fresh handsOn again:Bool}{W W':World}{args:Array Value}{ds:List (DataW H)}{before:List MemPlace}
  (hW:DataW.Whole enc Tryz.prog f.params.toList s.vars apart W args.toList ds [] before) (hv:s.vars=[]) (hr:f.resultTypes= #[4]) (hfn:(s.fn H (ds++[])).results=[.lit (.bool true)]∧(s.fn H (ds++[])).args=ds∧(s.fn H (ds++[])).vars=[])
  (hp:(f.params.toList.all fun t=>Tryz.prog.readableRec t&&Nat.ble (t+1) Tryz.prog.types.size)=true) (hb:Below W.heap.size W W'):s.post enc Tryz.prog f apart fresh handsOn again W args (.bool true) W':=by
 have hW':=hW
 obtain⟨p,q,hA,hV,rfl,hfz,hnd⟩:=hW
 have hq:q=[]:=by
  rw[hv]at hV
  exact(trodVars_none hV).2
 subst hq
 have hlt:∀x∈p,x.block<W.heap.size:=fun x hx=>hW'.lt x (by simpa using hx)
 refine yM (pa:=p) (pv:=[]) hW' ?_ ?_ ?_ rfl hb ?_
 ·intro b sp hd
  rw[hr,hfn.1]
  exact trodAll_mk1 (shut_bool Tryz.underlying4 _)
 ·intro sp hsp
  rw[hfn.2.1]
  exact qR Qt _ _ _ _ hp hA (fun x hx=>hb.same (hlt x hx)) (fun x hx=>hsp x (by simpa using hx))
 ·intro sp _
  rw[hv,hfn.2.2]
  rfl
 ·exact ok_one hr rfl (okWide_bool_mk (P:=Tryz.prog) Tryz.underlying4 true)
theorem FL{P:Program}{w:World}{r:Reach}{base:Nat}{t e:TypeId}{n:Nat}{v:Value}(ht:P.underlying t=some (.array n e))(h:Value.okWide P w r base t v):∃cs,v=.agg cs∧cs.size=P.cellsOf t:=by
 simp only[Value.okWide,ht]at h
 obtain⟨cs,h1,h2,_⟩:=h
 exact⟨cs,h1,h2⟩
theorem Fh{P:Program}{w:World}{r:Reach}{base:Nat}{t:TypeId}{v:Value}(ht:P.underlying t=some .string)(h:Value.okWide P w r base t v):∃s,v=.string s:=by
 simp only[Value.okWide,ht,Cell.okWide]at h
 cases v<;>simp_all [Cell.ok]
theorem EN{H:Type}{enc:TypeId×Value→H}{P:Program}{w:World}{r:Reach}{b0 base:Nat}{spare:Nat→Bool}{held:Bool}{v:Value}{d:DataW H}{p:List MemPlace}{t:TypeId}(n:Nat)(ty:Ty)(hrep:rep P n t ty=true)(hv:Value.okWide P w r b0 t v)(h:DataW.Trod enc P w base spare held t v d p):
  ∃y:ty.D,Rel1 [] (fun _=>True) w (.d ty y) v∧ty.ok y:=by
 obtain⟨fuel,hf⟩:=h
 have fin:v.cells.toList.length=ty.n→v=mkV ty v.cells.toList→∃y:ty.D,Rel1 [] (fun _=>True) w (.d ty y) v∧ty.ok y:=fun hl hm=>by
  obtain⟨y,h1,h2⟩:=(UA ty).1 n t hrep fuel _ _ hl hf
  exact⟨y,⟨_,h1,hm⟩,h2⟩
 cases n with
 |zero=>simp[rep]at hrep
 |succ n=>
  have hrep':=hrep
  unfold rep at hrep'
  split at hrep'<;>try (cases hrep';done)
  ·rename_i hu;obtain⟨m,rfl⟩:=okWide_int hu hv;exact fin rfl rfl
  ·rename_i hu;obtain⟨m,rfl⟩:=okWide_bool hu hv;exact fin rfl rfl
  ·rename_i hu;obtain⟨m,rfl⟩:=Fh hu hv;exact fin rfl rfl
  ·rename_i hu;obtain⟨q,m,c,rfl⟩:=okWide_slice hu hv;exact fin rfl rfl
  ·rename_i hu
   obtain⟨cs,rfl,hsz⟩:=okWide_struct hu hv
   simp only[ak2]at hrep'
   exact fin (by simp only[Value.cells,Array.length_toList,hsz];exact ak3 hrep'.2) (by simp[mkV,Ty.isSt,Value.cells])
  ·rename_i hu
   obtain⟨cs,rfl,hsz⟩:=FL hu hv
   simp only[ak2]at hrep'
   exact fin (by simp only[Value.cells,Array.length_toList,hsz];exact ak3 hrep'.2) (by simp[mkV,Ty.isSt,Value.cells])
end
end Go.Proofs.YtnkndpoojnflmaaGreat
end
namespace Go.Proofs.YtnkndpoojnflmaaGreat.lawClearanceMeet
open Go.ChangeShapes Go.WideShapes Go.ChangeAt Go.RowKit
set_option maxRecDepth 100000 in
theorem contract(H:Type)(enc:TypeId×Value→H)(W:World)(base:Nat)(args:Array Value)(ds gs:List (DataW H))(before:List MemPlace)
  (hval:∀(j:Nat) t v,Tryz.f8.params[j]?=some t→args[j]?=some v→Value.okWide Tryz.prog W .any base t v)
  (hW:DataW.Whole enc Tryz.prog Tryz.f8.params.toList Rows.clearanceMeetSpec.vars false W args.toList ds gs before):
  Calls Tryz.prog 8 args W fun e W'=>∃v,e=.returned v∧Rows.clearanceMeetSpec.post enc Tryz.prog Tryz.f8 false true false false W args v W':=by
 have hW':=hW
 obtain⟨p,q,hA0,hV,rfl,hfz,hnd⟩:=hW
 have hA:DataW.TrodAll enc Tryz.prog W 0 (fun _=>true) true Tryz.f8.params.toList args.toList ds p:=hA0
 rw[Tryz.params8]at hA hval
 obtain⟨v0,vs0,d0,ds0,p0,q0,e0,rfl,rfl,h0,r0⟩:=trodAll_cons hA
 obtain⟨v1,vs1,d1,ds1,p1,q1,e1,rfl,rfl,h1,r1⟩:=trodAll_cons r0
 obtain⟨en,rfl,rfl⟩:=trodAll_nil r1
 obtain rfl:args= #[v0,v1]:=by cases args;simp_all
 obtain⟨rfl,rfl⟩:=trodVars_none hV
 obtain⟨y0,s0,k0⟩:=EN 12 (yf) (by kernel_rfl) (hval 0 26 v0 rfl rfl) h0
 obtain⟨y1,s1,k1⟩:=EN 12 (yf) (by kernel_rfl) (hval 1 26 v1 rfl rfl) h1
 clear hA0
 refine(Vu y0 y1 k0 k1 (fun _=>True) W [v0,v1] Se ⟨s0,s1,trivial⟩).mono ?_
 rintro e W' ⟨v,rfl,hb,hres⟩
 have hv:v=.bool true:=sO (G:=[]) (eP hres)
 subst hv
 exact⟨_,rfl,Sb hW' rfl (by kernel_rfl) ⟨rfl,rfl,rfl⟩ (by kernel_rfl) hb⟩
set_option maxRecDepth 100000 in
theorem lifted(os:Os)(started:os.Started)(H:Type)(enc:TypeId×Value→H):
  ReturnsInHanded {} Tryz.checked os 8 .any (Rows.clearanceMeetSpec.pre6 enc Tryz.prog Tryz.f8 Rows.clearanceMeetRow.domain false) (Rows.clearanceMeetSpec.post enc Tryz.prog Tryz.f8 false true false false):=by
 refine returnsInHanded_of_change (C:=Tryz.checked) Pc started (by kernel_rfl) Tryz.func8
  (ChangeSpec.witness6 (enc:=enc) (C:=Tryz.checked) false ⟨#[],#[.agg #[.int .u8 0,.int .u8 0,.int .i8 0,.int .i8 0,.int .i8 0,.int .i8 0,.int .i8 0,.int .i8 0,.int .u8 0,.int .u8 0,.int .i8 0,.int .i8 0,.int .i8 0,.int .i8 0,.int .i8 0,.int .i8 0,.int .u8 0],.agg #[.int .u8 0,.int .u8 0,.int .i8 0,.int .i8 0,.int .i8 0,.int .i8 0,.int .i8 0,.int .i8 0,.int .u8 0,.int .u8 0,.int .i8 0,.int .i8 0,.int .i8 0,.int .i8 0,.int .i8 0,.int .i8 0,.int .u8 0]],[]⟩ 8 (by kernel_rfl) (by kernel_rfl) (by kernel_rfl) (by kernel_rfl)) ?_
 intro W base args ds gs before hval hW _ _
 exact contract H enc W base args ds gs before hval hW
end Go.Proofs.YtnkndpoojnflmaaGreat.lawClearanceMeet
namespace Go.Proofs.YtnkndpoojnflmaaGreat.lawClearanceMeet
open Go.ChangeShapes Go.WideShapes Go.ChangeAt Go.RowKit
set_option maxRecDepth 100000 in
theorem akj:(Rows.clearanceMeetRow.inPlace==Tryz.prog.inPlace 8)=true:=by kernel_rfl
set_option maxRecDepth 100000 in
theorem akx:(Rows.clearanceMeetRow.unfollowed==Tryz.prog.unfollowed 8)=true:=by kernel_rfl
set_option maxRecDepth 100000 in
theorem ajg:(Rows.clearanceMeetRow.recurses==Tryz.prog.recurses 8)=true:=by kernel_rfl
set_option maxRecDepth 100000 in
theorem aiY:(Rows.clearanceMeetRow.named==Tryz.prog.varsNamed 8)=true:=by kernel_rfl
set_option maxRecDepth 100000 in
theorem kf2:(laidOutB Tryz.prog)=true:=by kernel_rfl
set_option maxRecDepth 100000 in
theorem aiN:(Tryz.prog.mayEnter)=true:=by kernel_rfl
theorem gV{a b:Bool}(h:a=true)(h':b=true):(a&&b)=true:=by rw[h,h'];rfl
set_option maxRecDepth 100000 in
theorem ac4:joinedFacts Tryz.prog 8 Tryz.f8 Rows.clearanceMeetSpec Rows.clearanceMeetRow=true:=by
 unfold joinedFacts
 exact(gV (gV (gV (gV (gV (gV (gV (gV (gV (gV (gV (gV (gV (gV (gV (gV (gV (gV (gV (gV (gV (gV (gV (gV (gV (gV (gV (gV (gV (gV (gV (by kernel_rfl) kf2) (by kernel_rfl)) (by kernel_rfl)) (by kernel_rfl)) (by kernel_rfl)) (by kernel_rfl)) (by kernel_rfl)) (by kernel_rfl)) akj) akx) ajg) aiY) (by kernel_rfl)) (by kernel_rfl)) (by kernel_rfl)) (by kernel_rfl)) (by kernel_rfl)) (by kernel_rfl)) (by kernel_rfl)) (by kernel_rfl)) (by kernel_rfl)) (by kernel_rfl)) (by kernel_rfl)) (by kernel_rfl)) aiN) (by kernel_rfl)) (by kernel_rfl)) (by kernel_rfl)) (by kernel_rfl)) (by kernel_rfl)) (by kernel_rfl))
theorem proved:Rows.ClearanceMeetSaid:=
 OpenClaim.holds_of_wide 8 Tryz.f8 rfl rfl rfl rfl rfl rfl rfl ⟨rfl,rfl,rfl,rfl,rfl⟩ rfl rfl rfl rfl rfl (by kernel_rfl) Tryz.func8 ac4
  (of_decide_eq_true (by kernel_rfl)) (by unfold Func.isWrapper;first|(rw[if_pos (by decide+kernel)];kernel_rfl)|(rw[if_neg (by decide+kernel)];exact⟨rfl,rfl⟩))
  (fun os started H enc _=>lifted os started H enc)
end Go.Proofs.YtnkndpoojnflmaaGreat.lawClearanceMeet
