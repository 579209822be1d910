/- The program's comparison of two curves' distance. -/
import Derived.Test.YtnkndpoojnflmaaGreatH16
import Derived.Test.YtnkndpoojnflmaaGreatH17
import Derived.Test.YtnkndpoojnflmaaGreatH18
import Derived.Test.YtnkndpoojnflmaaGreatH15
import Derived.Test.YtnkndpoojnflmaaGreatH14
import Derived.Stop.Joined
noncomputable section
namespace Go.Proofs.YtnkndpoojnflmaaGreat
open Go.RowKit Go.IntKind
def BO:List En:=[⟨41,fC,dQ⟩,⟨99,iA,eW⟩,⟨108,gO,eM⟩,⟨107,iO,fk⟩,⟨106,ie,fc⟩,⟨109,kG,gD⟩,enT Nm]
def acy:NT:=[((221,6),{keep:=[4,5,6,7,18,19,20],hl:=5})]
def Oo:Ctx:=CX (ens BO) acy
def AL(d p q r:BR)(s20:Int):Cfg:=⟨221,[.blk 0,.seq 25],[(4,.box 0 0),(5,.box 1 0),(6,.box 2 0),(7,.box 3 0),(18,.own 4),(19,SI (([d,p,q,r]).length:Int)),(20,SI s20)],[.box 31 [SB d.1.1,.d aoW d.1.2,SB d.2.1,.d aoW d.2.2],.box 31 [SB p.1.1,.d aoW p.1.2,SB p.2.1,.d aoW p.2.2],.box 31 [SB q.1.1,.d aoW q.1.2,SB q.2.1,.d aoW q.2.2],.box 31 [SB r.1.1,.d aoW r.1.2,SB r.2.1,.d aoW r.2.2],.row 31 tR ([d,p,q,r])],0,[]⟩
def ai1(d p q r:BR)(k:KT):Option (List RV):=k 6 (AL d p q r 0)
theorem aiv(d p q r:BR):RS Oo 221 [.d tR d,.d tR p,.d tR q,.d tR r] (ai1 d p q r):=rsX
def wY(d p q r:BR)(s20:Int)(k:KT):Option (List RV):=match decide (s20<(([d,p,q,r]).length:Int))with|true=>(match aR ([d,p,q,r]) s20 with|some _=>(match true,([d,p,q,r])[(s20).toNat]? with|true,some x1=>(og (o1 x1) (match decide ((aG (ah x1) 0)<0)with|true=>some [RV.d aoX 0,RV.d aoX 7]|false=>k 6 (AL d p q r (i64.wrap (s20+1)))))|_,_=>none)|none=>none)|false=>(og (o2 d p) (og (o2 (hSu d p) q) (og (o2 r r) (og (o2 (hSu (hSu d p) q) (hMu r r)) (og (decide (aH ((-2):Int))) (og (o2 (hid (am (((-2):Int):Rat))) r) (og (decide (aH ((-2):Int))) (og (decide (okQ (hSu (hSu (hSu d p) q) (hMu r r),(hMu (hid (am (((-2):Int):Rat))) r,(hMu (hid (am (((-2):Int):Rat))) r,(hid (am (((-2):Int):Rat)),(p,q))))))) (some [RV.d aoX (sgQ (dec (hSu (hSu (hSu d p) q) (hMu r r),(hMu (hid (am (((-2):Int):Rat))) r,(hMu (hid (am (((-2):Int):Rat))) r,(hid (am (((-2):Int):Rat)),(p,q))))))),RV.d aoX 0])))))))))
theorem Di(d p q r:BR)(s20:Int):RN Oo 6 (AL d p q r s20) (wY d p q r s20):=rnX
theorem aep{d p q r:Rat}[bd:Bd d 2000][bp:Bd p 2000][bq:Bd q 2000][br:Bd r 2000](nd:0≤d)(np:0≤p)(nq:0≤q)(nr_:0≤r):∀(j i:Nat),i+j=4→Oo.Runs 6 (AL (enc d) (enc p) (enc q) (enc r) (i:Int)) [.d aoX (wC d p q r),.d aoX (0:Int)]:=by
 have k2:decide (aH (-2))=true:=by decide
 have b2:Bd ((-2:Int):Rat) 3:=cQ (n:= -2) (by decide)
 have b2':Bd (-2:Rat) 3:=b2
 have e2:((-2:Int):Rat)= -2:=rfl
 have n1:Nn p:=⟨np⟩
 have n2:Nn q:=⟨nq⟩
 have o1:decide (okQ (enc ((d-p-q-r*r,-2*r,-2*r,-2,p,q):Qd)))=true:=zQ (by decide) (by decide) (by decide) (by decide) (by decide) (by decide)
 have hall:∀x∈[d,p,q,r],Bd x 2000∧0≤x:=by
  intro x hx
  simp only[al0,amZ,aob]at hx
  rcases hx with e|e|e|e<;>subst e<;>constructor<;>assumption
 intro j
 induction j with
 |zero=>
  intro i hi
  refine Di _ _ _ _ _ ⟨0,?_⟩
  unfold wY
  rw[dF (show ¬(i:Int)<(([enc d,enc p,enc q,enc r]:List BR).length:Int) by simp;omega)]
  simp only[aS,Nat.reduceAdd,Nat.reduceLeDiff,k2,e2]
  show og (decide (okQ (enc ((d-p-q-r*r,-2*r,-2*r,-2,p,q):Qd)))) (some [RV.d aoX (sgQ (dec (enc ((d-p-q-r*r,-2*r,-2*r,-2,p,q):Qd)))),_])=_
  rw[o1,az]
  rfl
 |succ j ih=>
  intro i hi
  have hil:i<[d,p,q,r].length:=by simp;omega
  obtain⟨n,hn⟩:=ih (i+1) (by omega)
  refine Di _ _ _ _ _ ⟨n,?_⟩
  have g:([enc d,enc p,enc q,enc r]:List BR)[i]?=some (enc [d,p,q,r][i]):=by
   show(([d,p,q,r]:List Rat).map enc)[i]?=_
   rw[amQ,alG hil]
   rfl
  obtain⟨hb,hx⟩:=hall _ (amh hil)
  generalize [d,p,q,r][i]=x at*
  unfold wY
  rw[dT (show(i:Int)<(([enc d,enc p,enc q,enc r]:List BR).length:Int) by simp;omega),ao,anm,g,bV (by omega)]
  dsimp only
  simp only[aS,Nat.reduceLeDiff,au,dF (show ¬x<0 by grind)]
  exact hn
def ai2:Cn 221 [tR,tR,tR,tR]:=cn fun(d p q r:BR)=>lf (n4P d p q r) [.d aoX (wC (ah d) (ah p) (ah q) (ah r)),.d aoX 0] fun h=>by
 obtain⟨d,p,q,r,⟨rfl,rfl,rfl,rfl⟩,bd,bp,bq,br,nd,np,nq,nr_⟩:=WC h
 have:=aep nd np nq nr_ 4 0 rfl
 simp only[eO,cA]
 exact cZ BO (aiv _ _ _ _ this)
def Xw(x y z r:BR)(_k:KT):Option (List RV):=og (decide (aH (2:Int))) (og (o2 x y) (og (o2 (hAd x y) z) (og (o2 r r) (og (o2 (hSu (hAd x y) z) (hMu r r)) (og (o2 (hid (am ((2:Int):Rat))) r) (og (o1 (hMu (hid (am ((2:Int):Rat))) r)) (og (decide (aH (0:Int))) (og (o2 x y) (og (decide (okQ (hSu (hSu (hAd x y) z) (hMu r r),(hid (am ((2:Int):Rat)),(hNe (hMu (hid (am ((2:Int):Rat))) r),(hid (am ((0:Int):Rat)),(hMu x y,z))))))) (some [RV.d aoX (sgQ (dec (hSu (hSu (hAd x y) z) (hMu r r),(hid (am ((2:Int):Rat)),(hNe (hMu (hid (am ((2:Int):Rat))) r),(hid (am ((0:Int):Rat)),(hMu x y,z)))))))]))))))))))
def aif:Cn 112 [tR,tR,tR,tR]:=cn fun(x y z r:BR)=>lf (n4P x y z r) [.d aoX (DG (ah x) (ah y) (ah z) (ah r))] fun h=>by
 refine aA BO (Xw x y z r) ⟨0,?_⟩
 obtain⟨x,y,z,r,⟨rfl,rfl,rfl,rfl⟩,bx,b_,bz,br,nx,ny,nz,nr_⟩:=WC h
 have i2:decide (aH 2)=true:=by decide
 have i0:decide (aH 0)=true:=by decide
 have b2:Bd ((2:Int):Rat) 3:=cQ (n:=2) (by decide)
 have b0:Bd ((0:Int):Rat) 3:=cQ (n:=0) (by decide)
 have b2':Bd (2:Rat) 3:=b2
 have b0':Bd (0:Rat) 3:=b0
 have e2:((2:Int):Rat)=2:=rfl
 have e0:((0:Int):Rat)=0:=rfl
 have n1:Nn (x*y):=⟨al8 nx ny⟩
 have n2:Nn z:=⟨nz⟩
 have o1:decide (okQ (enc ((x+y-z-r*r,2,-(2*r),0,x*y,z):Qd)))=true:=zQ (by decide) (by decide) (by decide) (by decide) (by decide) (by decide)
 unfold Xw
 simp only[aS,Nat.reduceAdd,Nat.reduceLeDiff,i2,i0,e2,e0]
 show og (decide (okQ (enc ((x+y-z-r*r,2,-(2*r),0,x*y,z):Qd)))) (some [RV.d aoX (sgQ (dec (enc ((x+y-z-r*r,2,-(2*r),0,x*y,z):Qd))))])=_
 rw[o1,az]
 rfl
def acs:List En:=enT ai2::BO
def aej:Cn 111 [tR,tR,tR,tR]:=cn fun(x y z r:BR)=>lf (n4P x y z r) [.d aoX (wC (ah x) (ah y) (ah z) (ah r))] fun h=>jL [RV.d aoX (wC (ah x) (ah y) (ah z) (ah r))] (du acs) h
def abJ:List En:=[enL N9,enT HV,enL Hk,enT aem]
def Ww(s a:BCU)(r:BR)(_k:KT):Option (List RV):=og (decide (ok Ln 300 s.2.1∧ok (Rat×Rat) 200 (a.2.2.1.1,a.2.2.1.2.1)∧((dec s.2.1:Ln).1≠0∨(dec s.2.1:Ln).2.1≠0))) (og (decide (ok (Rat×Rat) 100000 (hid (enc (dV (dec s.2.1) (dec (a.2.2.1.1,a.2.2.1.2.1))))))) (og (decide (okC 4000 s∧okP 4000 (hid (enc (atP (dec (hid (enc (dV (dec s.2.1) (dec (a.2.2.1.1,a.2.2.1.2.1))))))))))) (match !(onP (dC s) (dec (hid (enc (atP (dec (hid (enc (dV (dec s.2.1) (dec (a.2.2.1.1,a.2.2.1.2.1)))))))))))with|true=>some [RV.d aoX 1]|false=>(og (decide (okC 580 a∧ok (Rat×Rat) 200 (hid (enc (dV (dec s.2.1) (dec (a.2.2.1.1,a.2.2.1.2.1)))))∧ok Rat 1000 r)) (some [RV.d aoX (uf (dC a) (dec (hid (enc (dV (dec s.2.1) (dec (a.2.2.1.1,a.2.2.1.2.1)))))) (ah r))])))))
def aiQ:Cn 45 [tCU,tCU,tR]:=cn fun(s a:BCU) (r:BR)=>lf (Fa s a∧ok Rat 1000 r) [.d aoX (By (dC s) (dC a) (ah r))] fun h=>by
 refine aA abJ (Ww s a r) ⟨0,?_⟩
 obtain⟨⟨hs,ha,es,ea⟩,hr⟩:=h
 have hF:=Gu hs.2 ha.2 es ea
 obtain⟨ar,li,ci,cw,fr,to⟩:=s
 obtain⟨ar',li',ci',cw',fr',to'⟩:=a
 simp only at es ea
 subst es ea
 obtain⟨l1,l2⟩:=hs.1.2.1 rfl
 obtain⟨c1,c2⟩:=ha.1.1 rfl
 simp only at l1 l2 c1 c2
 obtain⟨li,rfl,bl⟩:=aB l1
 obtain⟨ci',rfl,bc,qc⟩:=cJ (ha.2.1 rfl)
 have bc':Bd (ctr ci') 200:=(inferInstance:Bd ((ci'.1,ci'.2.1):Rat×Rat) _).mono (by decide)
 have e0:((am ci'.1,am ci'.2.1):BV)=enc (ctr ci'):=rfl
 rw[az]at l2
 simp only[ftv,dC,lnC,ciC,az]at hF
 unfold Ww By ftv Kf
 simp only[dC,lnC,ciC,az]
 simp only[aS,Nat.reduceLeDiff,aJ,e0,dT l2,dT (cg (k:=4000) hs.1 (by decide) (by decide)),dT ha.1,dT hr]
 cases onP (false,li,dec ci,cw,dec fr,dec to) (atP (dV li (ctr ci')))<;>rfl
def aaf:List En:=[⟨106,ie,fc⟩,⟨107,iO,fk⟩,⟨108,gO,eM⟩,⟨109,kG,gD⟩,⟨41,fC,dQ⟩,enT YO,enT aej,enT aif]
def Xg(c d:BCU)(r:BR)(_k:KT):Option (List RV):=let y1:=hSu d.2.2.1.1 c.2.2.1.1;let y2:=hSu d.2.2.1.2.1 c.2.2.1.2.1;let y3:=hAd (hMu y1 y1) (hMu y2 y2);let y4:=dec (hSu d.2.2.1.1 c.2.2.1.1,hSu d.2.2.1.2.1 c.2.2.1.2.1);let y5:=dec (hNe y1,hNe y2);let y6:=n4P y3 c.2.2.1.2.2 d.2.2.1.2.2 r;let y7:=n4P y3 d.2.2.1.2.2 c.2.2.1.2.2 r;let y8:=n4P c.2.2.1.2.2 y3 d.2.2.1.2.2 r;let y9:=n4P d.2.2.1.2.2 y3 c.2.2.1.2.2 r;let y10:=ah c.2.2.1.2.2;let y11:=ah d.2.2.1.2.2;let y12:=mn2 1 (mx2 (wC (ah y3) y10 y11 (ah r)) (DG y10 y11 (ah y3) (ah r)));let y13:=mx2 (DG (ah y3) y11 y10 (ah r)) (wC y10 (ah y3) y11 (ah r));let y14:=mx2 (DG (ah y3) y10 y11 (ah r)) (wC y11 (ah y3) y10 (ah r));let y15:Option (List RV):=match decide (okC 580 c∧ok (Rat×Rat) 510 (hNe y1,hNe y2))with|true=>(match fe (dC c) y5 with|true=>(og (decide (okC 580 d∧ok (Rat×Rat) 510 (hNe y1,hNe y2))) (match fe (dC d) y5 with|true=>(og (decide y6) (og (decide y9) (some [RV.d aoX (mn2 1 y14)])))|false=>some [RV.d aoX 1]))|false=>some [RV.d aoX 1])|false=>none;og (o2 d.2.2.1.1 c.2.2.1.1) (og (o2 d.2.2.1.2.1 c.2.2.1.2.1) (og (o2 y1 y1) (og (o2 y2 y2) (og (o2 (hMu y1 y1) (hMu y2 y2)) (og (o1 y3) (match(aG (ah y3) 0)==0 with|true=>some [RV.d aoX 1]|false=>(og (o1 y1) (og (o1 y2) (og (decide (okC 580 c∧ok (Rat×Rat) 510 (hSu d.2.2.1.1 c.2.2.1.1,hSu d.2.2.1.2.1 c.2.2.1.2.1))) (match fe (dC c) y4 with|true=>(og (decide (okC 580 d∧ok (Rat×Rat) 510 (hNe y1,hNe y2))) (match fe (dC d) y5 with|true=>(og (decide y6) (og (decide (n4P c.2.2.1.2.2 d.2.2.1.2.2 y3 r)) (og (decide (okC 580 d∧ok (Rat×Rat) 510 (hSu d.2.2.1.1 c.2.2.1.1,hSu d.2.2.1.2.1 c.2.2.1.2.1))) (match fe (dC d) y4 with|true=>(og (decide y7) (og (decide y8) (og (decide (okC 580 c∧ok (Rat×Rat) 510 (hNe y1,hNe y2))) (match fe (dC c) y5 with|true=>(og (decide (okC 580 d∧ok (Rat×Rat) 510 (hNe y1,hNe y2))) (match fe (dC d) y5 with|true=>(og (decide y6) (og (decide y9) (some [RV.d aoX (mn2 (mn2 y12 y13) y14)])))|false=>some [RV.d aoX (mn2 y12 y13)]))|false=>some [RV.d aoX (mn2 y12 y13)]))))|false=>(og (decide (okC 580 c∧ok (Rat×Rat) 510 (hNe y1,hNe y2))) (match fe (dC c) y5 with|true=>(og (decide (okC 580 d∧ok (Rat×Rat) 510 (hNe y1,hNe y2))) (match fe (dC d) y5 with|true=>(og (decide y6) (og (decide y9) (some [RV.d aoX (mn2 y12 y14)])))|false=>some [RV.d aoX y12]))|false=>some [RV.d aoX y12]))))))|false=>(og (decide (okC 580 d∧ok (Rat×Rat) 510 (hSu d.2.2.1.1 c.2.2.1.1,hSu d.2.2.1.2.1 c.2.2.1.2.1))) (match fe (dC d) y4 with|true=>(og (decide y7) (og (decide y8) (og (decide (okC 580 c∧ok (Rat×Rat) 510 (hNe y1,hNe y2))) (match fe (dC c) y5 with|true=>(og (decide (okC 580 d∧ok (Rat×Rat) 510 (hNe y1,hNe y2))) (match fe (dC d) y5 with|true=>(og (decide y6) (og (decide y9) (some [RV.d aoX (mn2 (mn2 1 y13) y14)])))|false=>some [RV.d aoX (mn2 1 y13)]))|false=>some [RV.d aoX (mn2 1 y13)]))))|false=>y15))))|false=>y15))))))))))
def afa:Cn 44 [tCU,tCU,tR]:=cn fun(c d:BCU) (r:BR)=>lf (Nj c d∧ok Rat 1000 r∧0≤ah r) [.d aoX (O7 (dC c) (dC d) (ah r))] fun h=>by
 refine aA aaf (Xg c d r) ⟨0,?_⟩
 obtain⟨⟨hc,hd,ec,ed⟩,hr,nr_⟩:=h
 obtain⟨ar,li,ci,cw,fr,to⟩:=c
 obtain⟨ar',li',di,cw',fr',to'⟩:=d
 simp only at ec ed
 subst ec ed
 have oc:decide (okC 580 _)=true:=dT hc.1
 have od:decide (okC 580 _)=true:=dT hd.1
 obtain⟨ci,rfl,bc,qc⟩:=cJ (hc.2.1 rfl)
 obtain⟨di,rfl,bd,qd⟩:=cJ (hd.2.1 rfl)
 obtain⟨r,rfl,br⟩:=aB hr
 rw[eO,cA]at nr_
 have n0:0≤bI (cU (ctr ci) (ctr di)) (cU (ctr ci) (ctr di)):=pi _
 have bN:Bd (bI (cU (ctr ci) (ctr di)) (cU (ctr ci) (ctr di))) 100:=(inferInstance:Bd ((di.1-ci.1)*(di.1-ci.1)+(di.2.1-ci.2.1)*(di.2.1-ci.2.1)) _).mono (by decide)
 have e0:((am (di.1-ci.1),am (di.2.1-ci.2.1)):BV)=enc (cU (ctr ci) (ctr di)):=rfl
 have e1:((am (-(di.1-ci.1)),am (-(di.2.1-ci.2.1))):BV)=enc (bkV (cU (ctr ci) (ctr di))):=rfl
 have eN:(di.1-ci.1)*(di.1-ci.1)+(di.2.1-ci.2.1)*(di.2.1-ci.2.1)=bI (cU (ctr ci) (ctr di)) (cU (ctr ci) (ctr di)):=rfl
 have bw:Bd (cU (ctr ci) (ctr di)) 20:=(inferInstance:Bd ((di.1-ci.1,di.2.1-ci.2.1):Rat×Rat) _).mono (by decide)
 have bb:Bd (bkV (cU (ctr ci) (ctr di))) 20:=(inferInstance:Bd ((-(di.1-ci.1),-(di.2.1-ci.2.1)):Rat×Rat) _).mono (by decide)
 have b0:Bd (di.1-ci.1) 10:=(inferInstance:Bd (di.1-ci.1) _).mono (by decide)
 have b1:Bd (di.2.1-ci.2.1) 10:=(inferInstance:Bd (di.2.1-ci.2.1) _).mono (by decide)
 have pc:0≤ci.2.2:=by grind
 have pd:0≤di.2.2:=by grind
 have k1:=(PA (i:=100) (j:=13) (k:=13) (l:=1000) (by decide) (by decide) (by decide) (by decide) n0 pc pd nr_)
 have k2:=(PA (i:=100) (j:=13) (k:=13) (l:=1000) (by decide) (by decide) (by decide) (by decide) n0 pd pc nr_)
 have k3:=(PA (i:=13) (j:=100) (k:=13) (l:=1000) (by decide) (by decide) (by decide) (by decide) pc n0 pd nr_)
 have k4:=(PA (i:=13) (j:=100) (k:=13) (l:=1000) (by decide) (by decide) (by decide) (by decide) pd n0 pc nr_)
 have k5:=(PA (i:=13) (j:=13) (k:=100) (l:=1000) (by decide) (by decide) (by decide) (by decide) pc pd n0 nr_)
 have sl:∀a b c d,wC a b c d≤1:=fun a b c d=>OQ _
 have bl:∀a b c d,DG a b c d≤1:=fun a b c d=>OQ _
 unfold Xg O7 nT fT nD wyv
 simp only[aS,Nat.reduceAdd,Nat.reduceLeDiff,aq,e0,e1,eN,oc,od,k1,k2,k3,k4,k5,dC,ciC,GJ,abZ]
 have s1:=sl (bI (cU (ctr ci) (ctr di)) (cU (ctr ci) (ctr di))) ci.2.2 di.2.2 r
 have s2:=sl ci.2.2 (bI (cU (ctr ci) (ctr di)) (cU (ctr ci) (ctr di))) di.2.2 r
 have s3:=sl di.2.2 (bI (cU (ctr ci) (ctr di)) (cU (ctr ci) (ctr di))) ci.2.2 r
 have s4:=bl ci.2.2 di.2.2 (bI (cU (ctr ci) (ctr di)) (cU (ctr ci) (ctr di))) r
 have s5:=bl (bI (cU (ctr ci) (ctr di)) (cU (ctr ci) (ctr di))) di.2.2 ci.2.2 r
 have s6:=bl (bI (cU (ctr ci) (ctr di)) (cU (ctr ci) (ctr di))) ci.2.2 di.2.2 r
 cases decide (bI (cU (ctr ci) (ctr di)) (cU (ctr ci) (ctr di))=0)
 ·cases fe (true,dec li,ci,cw,dec fr,dec to) (cU (ctr ci) (ctr di))<;>cases fe (true,dec li,ci,cw,dec fr,dec to) (bkV (cU (ctr ci) (ctr di)))<;>cases fe (true,dec li',di,cw',dec fr',dec to') (cU (ctr ci) (ctr di))<;>cases fe (true,dec li',di,cw',dec fr',dec to') (bkV (cU (ctr ci) (ctr di)))<;>simp only[Kf,cond_true,cond_false,Bool.and_true,Bool.and_false]<;>refine congrArg (fun x:Int=>some [RV.d aoX x]) ?_<;>omega
 ·rfl
def adM:List En:=[⟨41,fC,dQ⟩,enL ad4,enT ae5,enT afa,enT aiQ]
def Wg(c d:BCU)(r:BR)(_k:KT):Option (List RV):=let y1:Option (List RV):=match decide (okR r)with|true=>some [RV.d aoX (i64.wrap (0-(aG (ah r) 0)))]|false=>none;let y2:=J3 (RE.poiE (dC d) (RE.pR (dec c.2.2.2.2.1)) (ah r)) (RE.poiE (dC d) (RE.pR (dec c.2.2.2.2.2)) (ah r)) (RE.poiE (dC c) (RE.pR (dec d.2.2.2.2.1)) (ah r)) (RE.poiE (dC c) (RE.pR (dec d.2.2.2.2.2)) (ah r));let y3:Option (List RV):=match c.1 with|true=>(og (decide (Fa d c∧ok Rat 1000 r)) (some [RV.d aoX (mn2 y2 (By (dC d) (dC c) (ah r)))]))|false=>(match d.1 with|true=>(og (decide (Fa c d∧ok Rat 1000 r)) (some [RV.d aoX (mn2 y2 (By (dC c) (dC d) (ah r)))]))|false=>some [RV.d aoX y2]);og (o1 r) (match decide ((aG (ah r) 0)<0)with|true=>some [RV.d aoX 1]|false=>(og (decide (gj c d)) (match decide (((fR c d).length:Int)>0)with|true=>y1|false=>(match pG c d with|true=>y1|false=>(og (decide (okC 580 d∧okP 580 c.2.2.2.2.1∧ok Rat 1000 r)) (og (decide (okC 580 d∧okP 580 c.2.2.2.2.2∧ok Rat 1000 r)) (og (decide (okC 580 c∧okP 580 d.2.2.2.2.1∧ok Rat 1000 r)) (og (decide (okC 580 c∧okP 580 d.2.2.2.2.2∧ok Rat 1000 r)) (match c.1 with|true=>(match d.1 with|true=>(og (decide (Nj c d∧ok Rat 1000 r∧0≤ah r)) (some [RV.d aoX (mn2 y2 (O7 (dC c) (dC d) (ah r)))]))|false=>y3)|false=>y3)))))))))
def RW:Cn 14 [tCU,tCU,tR]:=cn fun(c d:BCU) (r:BR)=>lf (gj c d∧ok Rat 1000 r) [.d aoX (mg c d (ah r))] fun h=>by
 refine aA adM (Wg c d r) ⟨0,?_⟩
 obtain⟨⟨mc,md⟩,hr⟩:=h
 have c5:=cg (k:=580) mc.1 (by decide) (by decide)
 have d5:=cg (k:=580) md.1 (by decide) (by decide)
 obtain⟨r,rfl,br⟩:=aB hr
 have w:i64.wrap (0-aG r 0)= -aG r 0:=by
  have:=jX r 0
  rw[aT (by omega) (by omega)]
  omega
 unfold Wg mg Vj qF yM
 simp only[aS,Nat.reduceLeDiff,au,GJ,T9,dT (show gj c d from⟨mc,md⟩),dT c5,dT d5,dT c5.2.2.1,dT c5.2.2.2,dT d5.2.2.1,dT d5.2.2.2,w]
 by_cases h0:r<0
 ·rw[dT h0];rfl
 ·rw[dF h0]
  have hn:0≤r:=by grind
  cases decide (((fR c d).length:Int)>0)
  ·cases pG c d
   ·cases ea:c.1<;>cases eb:d.1
    ·simp only[dC,ea,eb];rfl
    ·simp only[dC,ea,eb,dT (show Fa c d from⟨mc,md,ea,eb⟩)];rfl
    ·simp only[dC,ea,eb,dT (show Fa d c from⟨md,mc,eb,ea⟩)];rfl
    ·simp only[dC,ea,eb,dT (show Nj c d from⟨mc,md,ea,eb⟩),dT hn];rfl
   ·rfl
  ·rfl
def Kd(c:BCU)(l:List BCU)(r:BR):Prop:=mG c∧(∀x∈l,mG x)∧l.length≤1000000∧ok Rat 1000 r
instance (c:BCU) (l:List BCU) (r:BR):Decidable (Kd c l r):=by unfold Kd;infer_instance
def Bw(a b:List BCU)(r:BR):Prop:=(∀x∈a,mG x)∧(∀x∈b,mG x)∧a.length≤1000000∧b.length≤1000000∧ok Rat 1000 r
instance (a b:List BCU) (r:BR):Decidable (Bw a b r):=by unfold Bw;infer_instance
def nrZ(c:BCU)(r:Rat)(d:BCU):Bool:=decide (mg c d r<0)
def FU(c:BCU)(l:List BCU)(r:Rat):Bool:=!(l.any (nrZ c r))
def C1(f:BCU→Bool):List BCU→Int→Int
 |[],_=> -1
 |c::l,i=>bif f c then i else C1 f l (i+1)
def Bg(a b:List BCU)(r:Rat):Int:=C1 (fun c=>!(FU c b r)) a 0
def AB:List En:=[enT RW]
def acq:NT:=[((69,6),{keep:=[0,1,7,8],hl:=2}),((28,3),{keep:=[9],hl:=0}),((71,3),{keep:=[7],hl:=0}),((69,18),{keep:=[0,1,5,7,8,16],hl:=0})]
def Mi:Ctx:=CX (ens AB) acq
def pT(c:BCU)(l:List BCU)(r:BR)(s69_8:Int):Cfg:=⟨69,[.blk 0,.seq 25],[(0,.d (.sl tCU) l),(1,.clo 72 [0,1]),(7,SI (l.length:Int)),(8,SI s69_8)],[.box 39 [SB c.1,SB c.2.1.1.1.1,.d aoW c.2.1.1.1.2,SB c.2.1.1.2.1,.d aoW c.2.1.1.2.2,SB c.2.1.2.1.1.1,.d aoW c.2.1.2.1.1.2,SB c.2.1.2.1.2.1,.d aoW c.2.1.2.1.2.2,SB c.2.1.2.2.1.1,.d aoW c.2.1.2.2.1.2,SB c.2.1.2.2.2.1,.d aoW c.2.1.2.2.2.2,SB c.2.2.1.1.1.1,.d aoW c.2.2.1.1.1.2,SB c.2.2.1.1.2.1,.d aoW c.2.2.1.1.2.2,SB c.2.2.1.2.1.1.1,.d aoW c.2.2.1.2.1.1.2,SB c.2.2.1.2.1.2.1,.d aoW c.2.2.1.2.1.2.2,SB c.2.2.1.2.2.1.1,.d aoW c.2.2.1.2.2.1.2,SB c.2.2.1.2.2.2.1,.d aoW c.2.2.1.2.2.2.2,SB c.2.2.2.1,SB c.2.2.2.2.1.1.1.1,.d aoW c.2.2.2.2.1.1.1.2,SB c.2.2.2.2.1.1.2.1,.d aoW c.2.2.2.2.1.1.2.2,SB c.2.2.2.2.1.2.1.1.1,.d aoW c.2.2.2.2.1.2.1.1.2,SB c.2.2.2.2.1.2.1.2.1,.d aoW c.2.2.2.2.1.2.1.2.2,SB c.2.2.2.2.1.2.2.1.1.1,.d aoW c.2.2.2.2.1.2.2.1.1.2,SB c.2.2.2.2.1.2.2.1.2.1,.d aoW c.2.2.2.2.1.2.2.1.2.2,SB c.2.2.2.2.1.2.2.2.1.1.1,.d aoW c.2.2.2.2.1.2.2.2.1.1.2,SB c.2.2.2.2.1.2.2.2.1.2.1,.d aoW c.2.2.2.2.1.2.2.2.1.2.2,SB c.2.2.2.2.1.2.2.2.2.1.1,.d aoW c.2.2.2.2.1.2.2.2.2.1.2,SB c.2.2.2.2.1.2.2.2.2.2.1,.d aoW c.2.2.2.2.1.2.2.2.2.2.2,SB c.2.2.2.2.2.1.1.1,.d aoW c.2.2.2.2.2.1.1.2,SB c.2.2.2.2.2.1.2.1,.d aoW c.2.2.2.2.2.1.2.2,SB c.2.2.2.2.2.2.1.1.1,.d aoW c.2.2.2.2.2.2.1.1.2,SB c.2.2.2.2.2.2.1.2.1,.d aoW c.2.2.2.2.2.2.1.2.2,SB c.2.2.2.2.2.2.2.1.1.1,.d aoW c.2.2.2.2.2.2.2.1.1.2,SB c.2.2.2.2.2.2.2.1.2.1,.d aoW c.2.2.2.2.2.2.2.1.2.2,SB c.2.2.2.2.2.2.2.2.1.1.1,.d aoW c.2.2.2.2.2.2.2.2.1.1.2,SB c.2.2.2.2.2.2.2.2.1.2.1,.d aoW c.2.2.2.2.2.2.2.2.1.2.2,SB c.2.2.2.2.2.2.2.2.2.1.1,.d aoW c.2.2.2.2.2.2.2.2.2.1.2,SB c.2.2.2.2.2.2.2.2.2.2.1,.d aoW c.2.2.2.2.2.2.2.2.2.2.2],.box 31 [SB r.1.1,.d aoW r.1.2,SB r.2.1,.d aoW r.2.2]],2,[⟨71,[.seq 4],3,2,[],2,none⟩,⟨28,[.seq 4],3,2,[],0,none⟩]⟩
def ahM(c:BCU)(l:List BCU)(r:BR)(k:KT):Option (List RV):=k 6 (pT c l r 0)
theorem aeY(c:BCU)(l:List BCU)(r:BR):RS Mi 28 [.d tCU c,.d (.sl tCU) l,.d tR r] (ahM c l r):=rsX
def pM(c:BCU)(l:List BCU)(r:BR)(s69_8:Int)(k:KT):Option (List RV):=match decide (s69_8<(l.length:Int))with|true=>(match aR l s69_8 with|some x1=>(og (decide (gj c x1∧ok Rat 1000 r)) (match decide ((mg c x1 (ah r))<0)with|true=>some [RV.d .bool (!(decide (s69_8≥0)))]|false=>k 6 (pT c l r (i64.wrap (s69_8+1)))))|none=>none)|false=>some [RV.d .bool (!(decide ((-1)≥0)))]
theorem vj(c:BCU)(l:List BCU)(r:BR)(s69_8:Int):RN Mi 6 (pT c l r s69_8) (pM c l r s69_8):=rnX
theorem aix(c:BCU)(l:List BCU)(r:BR)(h:Kd c l r):∀(j i:Nat),i+j=l.length→Mi.Runs 6 (pT c l r (i:Int)) [.d .bool (!((l.drop i).any (nrZ c (ah r))))]:=by
 intro j
 have hl:=h.2.2.1
 induction j with
 |zero=>
  intro i hi
  refine vj _ _ _ _ ⟨0,?_⟩
  unfold pM
  rw[b9 (by omega),o0 (by omega)]
  rfl
 |succ j ih=>
  intro i hi
  have hil:i<l.length:=by omega
  obtain⟨n,hn⟩:=ih (i+1) (by omega)
  refine vj _ _ _ _ ⟨n,?_⟩
  unfold pM
  rw[bH hil,ao,alG hil,gh hil,aoK,bV (by omega)]
  dsimp only
  rw[dT (show gj c l[i]∧ok Rat 1000 r from⟨⟨h.1,h.2.1 _ (amh _)⟩,h.2.2.2⟩)]
  have e:nrZ c (ah r) l[i]=decide (mg c l[i] (ah r)<0):=rfl
  rw[e]
  cases decide (mg c l[i] (ah r)<0)
  ·exact hn
  ·show some [RV.d .bool (!(decide ((i:Int)≥0)))]=_
   rw[dT (show(i:Int)≥0 by omega)]
   rfl
def ahs:Cn 28 [tCU,(.sl tCU),tR]:=cn fun(c:BCU) (l:List BCU) (r:BR)=>lf (Kd c l r) [.d .bool (FU c l (ah r))] fun h=>by
 exact cZ AB (aeY _ _ _ (aix c l r h l.length 0 (aml _)))
def Ap:List En:=enF ahs::AB
def aa7:NT:=[((69,6),{keep:=[0,1,7,8],hl:=2}),((26,3),{keep:=[9],hl:=0}),((69,18),{keep:=[0,1,5,7,8,16],hl:=0})]
def R5:Ctx:=CX (ens Ap) aa7
def pZ(a b:List BCU)(r:BR)(s69_8:Int):Cfg:=⟨69,[.blk 0,.seq 25],[(0,.d (.sl tCU) a),(1,.clo 70 [0,1]),(7,SI (a.length:Int)),(8,SI s69_8)],[.box 54 [.d (.sl tCU) b],.box 31 [SB r.1.1,.d aoW r.1.2,SB r.2.1,.d aoW r.2.2]],2,[⟨26,[.seq 4],3,2,[],0,none⟩]⟩
def afM(a b:List BCU)(r:BR)(k:KT):Option (List RV):=k 6 (pZ a b r 0)
theorem ah4(a b:List BCU)(r:BR):RS R5 26 [.d (.sl tCU) a,.d (.sl tCU) b,.d tR r] (afM a b r):=rsX
def oM(a b:List BCU)(r:BR)(s69_8:Int)(k:KT):Option (List RV):=match decide (s69_8<(a.length:Int))with|true=>(match aR a s69_8 with|some x1=>(og (decide (Kd x1 b r)) (match !(FU x1 b (ah r))with|true=>some [RV.d aoX s69_8]|false=>k 6 (pZ a b r (i64.wrap (s69_8+1)))))|none=>none)|false=>some [RV.d aoX (-1)]
theorem vg(a b:List BCU)(r:BR)(s69_8:Int):RN R5 6 (pZ a b r s69_8) (oM a b r s69_8):=rnX
theorem aeR(a b:List BCU)(r:BR)(h:Bw a b r):∀(j i:Nat),i+j=a.length→R5.Runs 6 (pZ a b r (i:Int)) [.d aoX (C1 (fun c=>!(FU c b (ah r))) (a.drop i) (i:Int))]:=by
 intro j
 have hl:=h.2.2.1
 induction j with
 |zero=>
  intro i hi
  refine vg _ _ _ _ ⟨0,?_⟩
  unfold oM
  rw[b9 (by omega),o0 (by omega)]
  rfl
 |succ j ih=>
  intro i hi
  have hil:i<a.length:=by omega
  obtain⟨n,hn⟩:=ih (i+1) (by omega)
  refine vg _ _ _ _ ⟨n,?_⟩
  unfold oM
  rw[bH hil,ao,alG hil,gh hil,bV (by omega)]
  dsimp only
  rw[dT (show Kd a[i] b r from⟨h.1 _ (amh _),h.2.1,h.2.2.2.1,h.2.2.2.2⟩)]
  unfold C1
  cases FU a[i] b (ah r)
  ·rfl
  ·exact hn
def ag7:Cn 26 [(.sl tCU),(.sl tCU),tR]:=cn fun(a b:List BCU) (r:BR)=>lf (Bw a b r) [.d aoX (Bg a b (ah r))] fun h=>by
 exact cZ Ap (ah4 _ _ _ (aeR a b r h a.length 0 (aml _)))
def Uc:List En:=enF ag7::Ap
def ah7:Cn 27 [(.sl tCU),(.sl tCU),tR]:=cn fun(a b:List BCU) (r:BR)=>lf (Bw a b r) [.d .bool (decide (Bg a b (ah r)<0))] fun h=>jL [RV.d .bool (decide ((Bg a b (ah r))<0))] (du Uc) h
section
open RE
abbrev sgC(a b:Rat×Rat):Cv:=(false,ou a b,dec o00,false,atP a,atP b)
abbrev arC(a b c:Rat×Rat):Cv:=(true,dec o00,oh a b c,decide (vd a b c<0),atP a,atP c)
abbrev fuA(c:Ln):Cv:=(true,dec o00,c,false,jS c,jU c)
abbrev fuB(c:Ln):Cv:=(true,dec o00,c,false,jU c,jS c)
theorem MH{a b:Rat×Rat}(h:vG a b=false):dC (ic a b)=sgC a b:=by
 unfold ic dC
 rw[h]
 simp only[cond_false,az]
theorem WL{a b c:Rat×Rat}(h:dR a b c≠0):dC (jV a b c)=arC a b c:=by
 unfold jV dC
 rw[dF h]
 simp only[cond_false,az]
theorem sd{c:BCU}(h:gdN c):c.2.2.2.2.1=enc (frC (dC c))∧c.2.2.2.2.2=enc (toC (dC c)):=
 ⟨(Cod.ok_dec _ _ h.fr.1).1,(Cod.ok_dec _ _ h.to.1).1⟩
theorem lM{c d:BCU}(hc:gdN c)(hd:gdN d){c' d':Cv}(ec:dC c=c')(ed:dC d=d')(hs:cC c' d'=false)(hm:abo c' d'=[]){r:Rat}(hr:decide (r<0)=false):mg c d r=qF c' d' r:=by
 subst ec ed
 have e:fR c d=[]:=by rw[LL (sd hc).1 (sd hc).2 (sd hd).1 (sd hd).2,hm];rfl
 have n:pG c d=false:=by unfold pG;rw[hs];rfl
 unfold mg Vj
 rw[e,n,hr]
 rfl
theorem BC{d:BCU}(hd:gdN d){p:Pt}{v:Rat×Rat}(e:p=atP v)(hv:Bd v 200)(r:Rat):poiE (dC d) (pR p) r=uf (dC d) v r:=by
 rw[e,lE]
 exact UR hd.e (Bv (bv:=hv) hd.1.1).2 r
theorem lI{c d:BCU}(hc:gdN c)(hd:gdN d){a b u w:Rat×Rat}(ba:Bd a 200)(bb:Bd b 200)(bu:Bd u 200)(bw:Bd w 200)(e1:frC (dC c)=atP a)(e2:toC (dC c)=atP b)(e3:frC (dC d)=atP u)(e4:toC (dC d)=atP w)(r:Rat):
  yM (dC c) (dC d) r=min (min (min (uf (dC d) a r) (uf (dC d) b r)) (uf (dC c) u r)) (uf (dC c) w r):=by
 unfold yM
 rw[BC hd e1 ba,BC hd e2 bb,BC hc e3 bu,BC hc e4 bw]
abbrev v00:Rat×Rat:=vcR 0 0
theorem adt:Bd v00 1:=⟨⟨⟨by decide+kernel,by decide+kernel⟩,⟨by decide+kernel,by decide+kernel⟩⟩⟩
theorem akL:Bd v00 200:=adt.mono (by decide)
abbrev v40:Rat×Rat:=vcR 4 0
theorem adG:Bd v40 1:=⟨⟨⟨by decide+kernel,by decide+kernel⟩,⟨by decide+kernel,by decide+kernel⟩⟩⟩
theorem ajZ:Bd v40 200:=adG.mono (by decide)
abbrev v13:Rat×Rat:=vcR 1 3
theorem ab6:Bd v13 1:=⟨⟨⟨by decide+kernel,by decide+kernel⟩,⟨by decide+kernel,by decide+kernel⟩⟩⟩
theorem ajR:Bd v13 200:=ab6.mono (by decide)
abbrev v19:Rat×Rat:=vcR 1 9
theorem ab1:Bd v19 1:=⟨⟨⟨by decide+kernel,by decide+kernel⟩,⟨by decide+kernel,by decide+kernel⟩⟩⟩
theorem ajU:Bd v19 200:=ab1.mono (by decide)
abbrev v10:Rat×Rat:=vcR 1 0
theorem acw:Bd v10 1:=⟨⟨⟨by decide+kernel,by decide+kernel⟩,⟨by decide+kernel,by decide+kernel⟩⟩⟩
theorem agu:Bd v10 200:=acw.mono (by decide)
abbrev v01:Rat×Rat:=vcR 0 1
theorem aj3:Bd v01 1:=⟨⟨⟨by decide+kernel,by decide+kernel⟩,⟨by decide+kernel,by decide+kernel⟩⟩⟩
abbrev vm1:Rat×Rat:=vcR (-1) 0
theorem ac0:Bd vm1 1:=⟨⟨⟨by decide+kernel,by decide+kernel⟩,⟨by decide+kernel,by decide+kernel⟩⟩⟩
theorem afS:Bd vm1 200:=ac0.mono (by decide)
abbrev v30:Rat×Rat:=vcR 3 0
theorem aba:Bd v30 1:=⟨⟨⟨by decide+kernel,by decide+kernel⟩,⟨by decide+kernel,by decide+kernel⟩⟩⟩
theorem JO:Bd v30 200:=aba.mono (by decide)
abbrev v03:Rat×Rat:=vcR 0 3
theorem ajV:Bd v03 1:=⟨⟨⟨by decide+kernel,by decide+kernel⟩,⟨by decide+kernel,by decide+kernel⟩⟩⟩
abbrev vm3:Rat×Rat:=vcR (-3) 0
theorem abb:Bd vm3 1:=⟨⟨⟨by decide+kernel,by decide+kernel⟩,⟨by decide+kernel,by decide+kernel⟩⟩⟩
theorem akI:Bd vm3 200:=abb.mono (by decide)
abbrev vm5:Rat×Rat:=vcR (-5) 3
theorem ab9:Bd vm5 1:=⟨⟨⟨by decide+kernel,by decide+kernel⟩,⟨by decide+kernel,by decide+kernel⟩⟩⟩
theorem akp:Bd vm5 200:=ab9.mono (by decide)
abbrev v53:Rat×Rat:=vcR 5 3
theorem acD:Bd v53 1:=⟨⟨⟨by decide+kernel,by decide+kernel⟩,⟨by decide+kernel,by decide+kernel⟩⟩⟩
theorem ako:Bd v53 200:=acD.mono (by decide)
abbrev vm2:Rat×Rat:=vcR (-2) 0
theorem akB:Bd vm2 1:=⟨⟨⟨by decide+kernel,by decide+kernel⟩,⟨by decide+kernel,by decide+kernel⟩⟩⟩
theorem Ls:Bd vm2 200:=akB.mono (by decide)
abbrev v20:Rat×Rat:=vcR 2 0
theorem akD:Bd v20 1:=⟨⟨⟨by decide+kernel,by decide+kernel⟩,⟨by decide+kernel,by decide+kernel⟩⟩⟩
theorem RP:Bd v20 200:=akD.mono (by decide)
abbrev v90:Rat×Rat:=vcR 9 0
theorem ajF:Bd v90 1:=⟨⟨⟨by decide+kernel,by decide+kernel⟩,⟨by decide+kernel,by decide+kernel⟩⟩⟩
theorem KZ:Bd v90 200:=ajF.mono (by decide)
abbrev lF:Ln:=(((0:Int):Rat),((0:Int):Rat),((4:Int):Rat))
abbrev lG:Ln:=(((6:Int):Rat),((0:Int):Rat),((9:Int):Rat))
theorem blF:BdC lF:=⟨⟨by decide+kernel,by decide+kernel⟩,⟨by decide+kernel,by decide+kernel⟩,⟨by decide+kernel,by decide+kernel⟩⟩
theorem blG:BdC lG:=⟨⟨by decide+kernel,by decide+kernel⟩,⟨by decide+kernel,by decide+kernel⟩,⟨by decide+kernel,by decide+kernel⟩⟩
theorem gS1:gdN (ic v00 v40):=Cc (ba:=adt) (bb:=adG) (by decide+kernel)
theorem dS1:dC (ic v00 v40)=sgC v00 v40:=MH (by decide+kernel)
theorem gS2:gdN (ic v13 v19):=Cc (ba:=ab6) (bb:=ab1) (by decide+kernel)
theorem dS2:dC (ic v13 v19)=sgC v13 v19:=MH (by decide+kernel)
theorem gS3:gdN (ic vm5 v53):=Cc (ba:=ab9) (bb:=acD) (by decide+kernel)
theorem dS3:dC (ic vm5 v53)=sgC vm5 v53:=MH (by decide+kernel)
theorem gH1:gdN (jV v10 v01 vm1):=by
 have:=acw
 have:=ac0
 exact Ga (bc:=⟨⟨by decide+kernel,by decide+kernel⟩,⟨by decide+kernel,by decide+kernel⟩,⟨by decide+kernel,by decide+kernel⟩⟩) (by decide+kernel)
theorem dH1:dC (jV v10 v01 vm1)=arC v10 v01 vm1:=WL (by decide+kernel)
theorem gH3:gdN (jV v30 v03 vm3):=by
 have:=aba
 have:=abb
 exact Ga (bc:=⟨⟨by decide+kernel,by decide+kernel⟩,⟨by decide+kernel,by decide+kernel⟩,⟨by decide+kernel,by decide+kernel⟩⟩) (by decide+kernel)
theorem dH3:dC (jV v30 v03 vm3)=arC v30 v03 vm3:=WL (by decide+kernel)
theorem c12:mg (ic v00 v40) (ic v13 v19) ((3:Int):Rat)=0:=by
 rw[lM gS1 gS2 dS1 dS2 (by decide+kernel) (by decide+kernel) (by decide+kernel)]
 have:=lI gS1 gS2 akL ajZ ajR ajU (by rw[dS1];rfl) (by rw[dS1];rfl) (by rw[dS2];rfl) (by rw[dS2];rfl) ((3:Int):Rat)
 rw[dS1,dS2]at this
 unfold qF
 rw[this]
 decide+kernel
theorem cHH:mg (jV v10 v01 vm1) (jV v30 v03 vm3) ((2:Int):Rat)=0:=by
 rw[lM gH1 gH3 dH1 dH3 (by decide+kernel) (by decide+kernel) (by decide+kernel)]
 have:=lI gH1 gH3 agu afS JO akI (by rw[dH1];rfl) (by rw[dH1];rfl) (by rw[dH3];rfl) (by rw[dH3];rfl) ((2:Int):Rat)
 rw[dH1,dH3]at this
 unfold qF
 rw[this]
 decide+kernel
theorem cHS:mg (jV v10 v01 vm1) (ic vm5 v53) ((2:Int):Rat)=0:=by
 rw[lM gH1 gS3 dH1 dS3 (by decide+kernel) (by decide+kernel) (by decide+kernel)]
 have:=lI gH1 gS3 agu afS akp ako (by rw[dH1];rfl) (by rw[dH1];rfl) (by rw[dS3];rfl) (by rw[dS3];rfl) ((2:Int):Rat)
 rw[dH1,dS3]at this
 unfold qF
 rw[this]
 decide+kernel
abbrev kF1:BCU:=(true,o00,enc lF,false,enc (jS lF),enc (jU lF))
abbrev kF2:BCU:=(true,o00,enc lF,false,enc (jU lF),enc (jS lF))
abbrev kG1:BCU:=(true,o00,enc lG,false,enc (jS lG),enc (jU lG))
abbrev kG2:BCU:=(true,o00,enc lG,false,enc (jU lG),enc (jS lG))
theorem fF:tk (enc lF)=[kF1,kF2]:=by unfold tk;rw[az]
theorem fG:tk (enc lG)=[kG1,kG2]:=by unfold tk;rw[az]
theorem EE:gdN kF1:=yC (bc:=blF) (by decide+kernel) _ (by rw[fF];simp)
theorem vw:dC kF1=fuA lF:=by unfold dC;simp only[az]
theorem PJ:gdN kF2:=yC (bc:=blF) (by decide+kernel) _ (by rw[fF];simp)
theorem DU:dC kF2=fuB lF:=by unfold dC;simp only[az]
theorem F0:gdN kG1:=yC (bc:=blG) (by decide+kernel) _ (by rw[fG];simp)
theorem vz:dC kG1=fuA lG:=by unfold dC;simp only[az]
theorem Sf:gdN kG2:=yC (bc:=blG) (by decide+kernel) _ (by rw[fG];simp)
theorem D8:dC kG2=fuB lG:=by unfold dC;simp only[az]
theorem UL:nrZ kF1 ((1:Int):Rat) kG1=false:=by
 unfold nrZ
 rw[lM EE F0 vw vz (by decide+kernel) (by decide+kernel) (by decide+kernel)]
 have:=lI EE F0 Ls RP JO KZ (by rw[vw];decide+kernel) (by rw[vw];decide+kernel) (by rw[vz];decide+kernel) (by rw[vz];decide+kernel) ((1:Int):Rat)
 rw[vw,vz]at this
 unfold qF
 rw[this]
 decide+kernel
theorem Vv:nrZ kF1 ((1:Int):Rat) kG2=false:=by
 unfold nrZ
 rw[lM EE Sf vw D8 (by decide+kernel) (by decide+kernel) (by decide+kernel)]
 have:=lI EE Sf Ls RP KZ JO (by rw[vw];decide+kernel) (by rw[vw];decide+kernel) (by rw[D8];decide+kernel) (by rw[D8];decide+kernel) ((1:Int):Rat)
 rw[vw,D8]at this
 unfold qF
 rw[this]
 decide+kernel
theorem TL:nrZ kF2 ((1:Int):Rat) kG1=false:=by
 unfold nrZ
 rw[lM PJ F0 DU vz (by decide+kernel) (by decide+kernel) (by decide+kernel)]
 have:=lI PJ F0 RP Ls JO KZ (by rw[DU];decide+kernel) (by rw[DU];decide+kernel) (by rw[vz];decide+kernel) (by rw[vz];decide+kernel) ((1:Int):Rat)
 rw[DU,vz]at this
 unfold qF
 rw[this]
 decide+kernel
theorem T7:nrZ kF2 ((1:Int):Rat) kG2=false:=by
 unfold nrZ
 rw[lM PJ Sf DU D8 (by decide+kernel) (by decide+kernel) (by decide+kernel)]
 have:=lI PJ Sf RP Ls KZ JO (by rw[DU];decide+kernel) (by rw[DU];decide+kernel) (by rw[D8];decide+kernel) (by rw[D8];decide+kernel) ((1:Int):Rat)
 rw[DU,D8]at this
 unfold qF
 rw[this]
 decide+kernel
theorem akN:nrZ kF1 (Rat.divInt 11 10) kG1=true:=by
 unfold nrZ
 rw[lM EE F0 vw vz (by decide+kernel) (by decide+kernel) (by decide+kernel)]
 have:=lI EE F0 Ls RP JO KZ (by rw[vw];decide+kernel) (by rw[vw];decide+kernel) (by rw[vz];decide+kernel) (by rw[vz];decide+kernel) (Rat.divInt 11 10)
 rw[vw,vz]at this
 unfold qF
 rw[this]
 decide+kernel
theorem fi1:decide (Bg [kF1,kF2] [kG1,kG2] ((1:Int):Rat)<0)=true:=by
 unfold Bg C1 C1 C1 FU
 simp only[aoK,List.any_nil,UL,Vv,TL,T7,Bool.or_false,Bool.not_false,Bool.not_true,cond_false]
 rfl
theorem fi2:decide (Bg [kF1,kF2] [kG1,kG2] (Rat.divInt 11 10)<0)=false:=by
 unfold Bg C1 FU
 simp only[aoK,akN,Bool.true_or,Bool.not_true,Bool.not_false,cond_true]
 rfl
theorem mGF:∀x∈[kF1,kF2],mG x:=by
 intro x hx
 simp only[al0,amZ,aob]at hx
 rcases hx with e|e<;>rw[e]
 ·exact EE.1
 ·exact PJ.1
theorem mGG:∀x∈[kG1,kG2],mG x:=by
 intro x hx
 simp only[al0,amZ,aob]at hx
 rcases hx with e|e<;>rw[e]
 ·exact F0.1
 ·exact Sf.1
theorem okZ{n:Int}(h:aH n):ok Rat 1000 (am (n:Rat)):=by
 have:=cQ h
 exact alI (okd (by decide) (by decide))
def Il:List En:=[enL l7,enL PH]
def Xs(x y:Int)(_k:KT):Option (List RV):=og (decide (aH x)) (og (decide (aH y)) (some [RV.d tV (hid (am (x:Rat)),hid (am (y:Rat)))]))
def aiO:Cn 80 [aoX,aoX]:=cn fun(x y:Int)=>lf (aH x∧aH y) [.d tV (enc (vcR x y))] fun h=>by
 refine aA Il (Xs x y) ⟨0,?_⟩
 unfold Xs
 rw[dT h.1,dT h.2]
 simp only[bO]
 rfl
def Wc(a b:BV)(_k:KT):Option (List RV):=og (decide (ok (Rat×Rat) 100 a∧ok (Rat×Rat) 100 b)) (some [RV.d tCU (hid (ic (dec a) (dec b)))])
def af7:Cn 76 [tV,tV]:=cn fun(a b:BV)=>lf (ok (Rat×Rat) 100 a∧ok (Rat×Rat) 100 b) [.d tCU (ic (dec a) (dec b))] fun h=>by
 refine aA Il (Wc a b) ⟨0,?_⟩
 unfold Wc
 rw[dT h]
 simp only[bO]
def IR:List En:=[enL l7,enL af7,enL aiO,enL P3,enT RW,enL Zb,enF ah7,enL Ao]
def Mg:NT:=[((12,3),{keep:=[3,4,5,7],hl:=0}),((12,5),{keep:=[1,8,9,10,12],hl:=0}),((12,7),{keep:=[1,2,13,14,15,16,18,19,20,21,22,25,26,27,28,29,32,33,34,35,36,38,39,40,41,42],hl:=0})]
def Vo:Ctx:=CX (ens IR) Mg
def IC(_k:KT):Option (List RV):=let y1:=am ((0:Int):Rat);let y2:=hid (enc (vcR (0:Int) (0:Int)));let y3:=hid (enc (vcR (4:Int) (0:Int)));let y4:=hid (enc (vcR (1:Int) (3:Int)));let y5:=hid (enc (vcR (1:Int) (9:Int)));let y6:=hid (ic (dec y2) (dec y3));let y7:=hid (ic (dec y4) (dec y5));let y8:=hid (am ((3:Int):Rat));let y9:=i64.wrap (0+1);let y10:=i64.wrap (0-1);let y11:=hid (enc (vcR y9 (0:Int)));let y12:=hid (enc (vcR (0:Int) y9));let y13:=hid (enc (vcR y10 (0:Int)));let y14:=i64.wrap (0+3);let y15:=i64.wrap (0-3);let y16:=hid (enc (vcR y14 (0:Int)));let y17:=hid (enc (vcR (0:Int) y14));let y18:=hid (enc (vcR y15 (0:Int)));let y19:=hid (jV (dec y11) (dec y12) (dec y13));let y20:=hid (jV (dec y16) (dec y17) (dec y18));let y21:=hid (am ((2:Int):Rat));let y22:=hid (enc (vcR ((-5):Int) (3:Int)));let y23:=hid (enc (vcR (5:Int) (3:Int)));let y24:=hid (ic (dec y22) (dec y23));let y25:=tk (hid y1,(hid y1,hid (am ((4:Int):Rat))));let y26:=tk (hid (am ((6:Int):Rat)),(hid y1,hid (am ((9:Int):Rat))));let y27:=hid (am ((1:Int):Rat));let y28:=hid (am (Rat.divInt (11:Int) (10:Int)));og (decide (aH (0:Int))) (og (decide (aH (0:Int))) (og (decide (aH (4:Int))) (og (decide (cf (hid y1,(hid y1,hid (am ((4:Int):Rat)))))) (og (decide (aH (6:Int))) (og (decide (aH (0:Int))) (og (decide (aH (9:Int))) (og (decide (cf (hid (am ((6:Int):Rat)),(hid y1,hid (am ((9:Int):Rat)))))) (og (decide (aH (0:Int)∧aH (0:Int))) (og (decide (aH (4:Int)∧aH (0:Int))) (og (decide (ok (Rat×Rat) 100 y2∧ok (Rat×Rat) 100 y3)) (og (decide (aH (1:Int)∧aH (3:Int))) (og (decide (aH (1:Int)∧aH (9:Int))) (og (decide (ok (Rat×Rat) 100 y4∧ok (Rat×Rat) 100 y5)) (og (decide (aH (3:Int))) (og (decide (gj y6 y7∧ok Rat 1000 y8)) (match(mg y6 y7 (ah y8))==0 with|true=>(og (decide (aH y9∧aH (0:Int))) (og (decide (aH (0:Int)∧aH y9)) (og (decide (aH y10∧aH (0:Int))) (og (decide (ok (Rat×Rat) 100 y11∧ok (Rat×Rat) 100 y12∧ok (Rat×Rat) 100 y13)) (og (decide (aH y14∧aH (0:Int))) (og (decide (aH (0:Int)∧aH y14)) (og (decide (aH y15∧aH (0:Int))) (og (decide (ok (Rat×Rat) 100 y16∧ok (Rat×Rat) 100 y17∧ok (Rat×Rat) 100 y18)) (og (decide (aH (2:Int))) (og (decide (gj y19 y20∧ok Rat 1000 y21)) (match(mg y19 y20 (ah y21))==0 with|true=>(og (decide (aH y9∧aH (0:Int))) (og (decide (aH (0:Int)∧aH y9)) (og (decide (aH y10∧aH (0:Int))) (og (decide (ok (Rat×Rat) 100 y11∧ok (Rat×Rat) 100 y12∧ok (Rat×Rat) 100 y13)) (og (decide (aH ((-5):Int)∧aH (3:Int))) (og (decide (aH (5:Int)∧aH (3:Int))) (og (decide (ok (Rat×Rat) 100 y22∧ok (Rat×Rat) 100 y23)) (og (decide (aH (2:Int))) (og (decide (gj y19 y24∧ok Rat 1000 y21)) (match(mg y19 y24 (ah y21))==0 with|true=>(og (decide (aH (1:Int))) (og (decide (Bw y25 y26 y27)) (match decide (Bg y25 y26 (ah y27)<0)with|true=>(og (decide (yL (11:Int) (10:Int))) (og (decide (Bw y25 y26 y28)) (some [RV.d .bool (!(decide (Bg y25 y26 (ah y28)<0)))])))|false=>some [RV.d .bool false])))|false=>some [RV.d .bool false]))))))))))|false=>some [RV.d .bool false])))))))))))|false=>some [RV.d .bool false]))))))))))))))))
theorem TA:RS Vo 12 [] (IC):=rsX
def Tc:Cn 12 []:=cn<|lf True [.d .bool true] fun _=>by
 have i0:decide (aH 0)=true:=by decide
 have i1:decide (aH 1)=true:=by decide
 have i2:decide (aH 2)=true:=by decide
 have i3:decide (aH 3)=true:=by decide
 have i4:decide (aH 4)=true:=by decide
 have i6:decide (aH 6)=true:=by decide
 have i9:decide (aH 9)=true:=by decide
 have i5:decide (aH 5)=true:=by decide
 have jv00:decide (aH (0)∧aH (0))=true:=by decide
 have jv40:decide (aH (4)∧aH (0))=true:=by decide
 have jv13:decide (aH (1)∧aH (3))=true:=by decide
 have jv19:decide (aH (1)∧aH (9))=true:=by decide
 have jv10:decide (aH (1)∧aH (0))=true:=by decide
 have jv01:decide (aH (0)∧aH (1))=true:=by decide
 have jvm1:decide (aH (-1)∧aH (0))=true:=by decide
 have jv30:decide (aH (3)∧aH (0))=true:=by decide
 have jv03:decide (aH (0)∧aH (3))=true:=by decide
 have jvm3:decide (aH (-3)∧aH (0))=true:=by decide
 have jvm5:decide (aH (-5)∧aH (3))=true:=by decide
 have jv53:decide (aH (5)∧aH (3))=true:=by decide
 have jvm2:decide (aH (-2)∧aH (0))=true:=by decide
 have jv20:decide (aH (2)∧aH (0))=true:=by decide
 have jv90:decide (aH (9)∧aH (0))=true:=by decide
 have o1:decide (ok (Rat×Rat) 100 (enc v00)∧ok (Rat×Rat) 100 (enc v40))=true:=dT ⟨alI (okd (h:=adt) (by decide) (by decide)),alI (okd (h:=adG) (by decide) (by decide))⟩
 have o2:decide (ok (Rat×Rat) 100 (enc v13)∧ok (Rat×Rat) 100 (enc v19))=true:=dT ⟨alI (okd (h:=ab6) (by decide) (by decide)),alI (okd (h:=ab1) (by decide) (by decide))⟩
 have o3:decide (ok (Rat×Rat) 100 (enc vm5)∧ok (Rat×Rat) 100 (enc v53))=true:=dT ⟨alI (okd (h:=ab9) (by decide) (by decide)),alI (okd (h:=acD) (by decide) (by decide))⟩
 have o4:decide (ok (Rat×Rat) 100 (enc v10)∧ok (Rat×Rat) 100 (enc v01)∧ok (Rat×Rat) 100 (enc vm1))=true:=dT ⟨alI (okd (h:=acw) (by decide) (by decide)),alI (okd (h:=aj3) (by decide) (by decide)),alI (okd (h:=ac0) (by decide) (by decide))⟩
 have o5:decide (ok (Rat×Rat) 100 (enc v30)∧ok (Rat×Rat) 100 (enc v03)∧ok (Rat×Rat) 100 (enc vm3))=true:=dT ⟨alI (okd (h:=aba) (by decide) (by decide)),alI (okd (h:=ajV) (by decide) (by decide)),alI (okd (h:=abb) (by decide) (by decide))⟩
 have m1:decide (gj (ic v00 v40) (ic v13 v19)∧ok Rat 1000 (am ((3:Int):Rat)))=true:=dT ⟨⟨gS1.1,gS2.1⟩,okZ (by decide)⟩
 have m2:decide (gj (jV v10 v01 vm1) (jV v30 v03 vm3)∧ok Rat 1000 (am ((2:Int):Rat)))=true:=dT ⟨⟨gH1.1,gH3.1⟩,okZ (by decide)⟩
 have m3:decide (gj (jV v10 v01 vm1) (ic vm5 v53)∧ok Rat 1000 (am ((2:Int):Rat)))=true:=dT ⟨⟨gH1.1,gS3.1⟩,okZ (by decide)⟩
 have f1:decide (Bw [kF1,kF2] [kG1,kG2] (am ((1:Int):Rat)))=true:=dT ⟨mGF,mGG,by decide,by decide,okZ (by decide)⟩
 have f2:decide (Bw [kF1,kF2] [kG1,kG2] (am (Rat.divInt 11 10)))=true:=dT ⟨mGF,mGG,by decide,by decide,by have:=bQ 11 10 (by decide);exact alI (okd (by decide) (by decide))⟩
 have q1:decide (yL 11 10)=true:=by decide
 have l1:((am ((0:Int):Rat),(am ((0:Int):Rat),am ((4:Int):Rat))):BO3)=enc lF:=rfl
 have l2:((am ((6:Int):Rat),(am ((0:Int):Rat),am ((9:Int):Rat))):BO3)=enc lG:=rfl
 have k1:decide (cf (enc lF))=true:=dT (fQ (h:=blF) (by decide+kernel))
 have k2:decide (cf (enc lG))=true:=dT (fQ (h:=blG) (by decide+kernel))
 have w1:i64.wrap (0+1)=1:=by decide
 have w2:i64.wrap (0-1)= -1:=by decide
 have w3:i64.wrap (0+3)=3:=by decide
 have w4:i64.wrap (0-3)= -3:=by decide
 refine cZ IR (TA ⟨0,?_⟩)
 unfold IC
 simp only[aS,w1,w2,w3,w4,l1,l2,k1,k2,f1,f2,q1,fF,fG,fi1,fi2,c12,cHH,cHS,i0,i1,i2,i3,i4,i6,i9,jv00,jv40,jv13,jv19,jv10,jv01,jvm1,jv30,jv03,jvm3,jvm5,jv53,o1,o2,o3,o4,o5,m1,m2,m3]
 rfl
end
theorem My{n:Int}(h:i8P n):Bb (Rat.divInt n 4) 7 2:=by
 obtain⟨h1,h2⟩:=h
 exact Ih (by omega) (by show n.natAbs≤128;omega) (by decide)
def Ij:List En:=[enT Tc,enL adb,enL agN,enT RW,enL aia]
def GN:Ctx:=CX (ens Ij) []
def xT(x y:Pce)(n:Int×Int×Int)(_k:KT):Option (List RV):=og (decide (wV x)) (og (decide (wV y)) (match !(w9 x)with|true=>some [RV.d .bool true]|false=>(match !(w9 y)with|true=>some [RV.d .bool true]|false=>(og (decide (i8P n.1)) (og (decide (i8P n.2.1)) (og (decide (i8P n.2.2)) (og (decide (okC 500 (hid (kS x))∧ok (Rat×Rat) 10 (hid (am (Rat.divInt n.2.1 4)),hid (am (Rat.divInt n.2.2 4))))) (og (decide (okC 500 (hid (kS y))∧ok (Rat×Rat) 10 (hid (am (Rat.divInt n.2.1 4)),hid (am (Rat.divInt n.2.2 4))))) (og (decide (gj (hid (mvB (hid (kS x)) (dec (hid (am (Rat.divInt n.2.1 4)),hid (am (Rat.divInt n.2.2 4)))))) (hid (mvB (hid (kS y)) (dec (hid (am (Rat.divInt n.2.1 4)),hid (am (Rat.divInt n.2.2 4))))))∧ok Rat 1000 (hid (am (Rat.divInt n.1 4))))) (og (decide (gj (hid (kS x)) (hid (kS y))∧ok Rat 1000 (hid (am (Rat.divInt n.1 4))))) (some [RV.d .bool ((mg (hid (mvB (hid (kS x)) (dec (hid (am (Rat.divInt n.2.1 4)),hid (am (Rat.divInt n.2.2 4)))))) (hid (mvB (hid (kS y)) (dec (hid (am (Rat.divInt n.2.1 4)),hid (am (Rat.divInt n.2.2 4)))))) (ah (hid (am (Rat.divInt n.1 4)))))==(mg (hid (kS x)) (hid (kS y)) (ah (hid (am (Rat.divInt n.1 4))))))])))))))))))
theorem F6(x y:Pce)(n:Int×Int×Int):RS GN 5 [.d xS x,.d xS y,.d (.st (.pair (.int .i8) (.pair (.int .i8) (.int .i8)))) n] (xT x y n):=rsX
theorem Ui(x y:Pce)(n:Int×Int×Int)(hx:Ty.ok xS x)(hy:Ty.ok xS y)(hn:Ty.ok (.st (.pair (.int .i8) (.pair (.int .i8) (.int .i8)))) n):Con Tryz.prog 5 [.d xS x,.d xS y,.d (.st (.pair (.int .i8) (.pair (.int .i8) (.int .i8)))) n] [.d .bool true]:=by
 have h1:=P9 hx
 have h2:=P9 hy
 have h3:=tH hn.1
 have h4:=tH hn.2.1
 have h5:=tH hn.2.2
 refine cZ Ij (F6 _ _ _ ⟨0,?_⟩)
 unfold xT
 rw[dT h1,dT h2]
 cases ho:w9 x
 ·rfl
 ·cases hp:w9 y
  ·rfl
  ·have gx:=Je h1 ho
   have gy:=Je h2 hp
   have o:=aai h3 (k:=1000) (by decide) (by decide)
   have b1:=My h4
   have b2:=My h5
   have c1:=ER h4
   have c2:=ER h5
   have bv:Bd ((Rat.divInt n.2.1 4,Rat.divInt n.2.2 4):Rat×Rat) 3:=inferInstanceAs (Bd ((_,_):Rat×Rat) _)
   obtain⟨x1,x2⟩:=Se h1 ho (v:=(Rat.divInt n.2.1 4,Rat.divInt n.2.2 4))
   obtain⟨y1,y2⟩:=Se h2 hp (v:=(Rat.divInt n.2.1 4,Rat.divInt n.2.2 4))
   have mx:=gdm gx x1 x2
   have my:=gdm gy y1 y2
   have ov:ok (Rat×Rat) 10 (enc ((Rat.divInt n.2.1 4,Rat.divInt n.2.2 4):Rat×Rat)):=alI (okd (by decide) (by decide))
   have e0:((am (Rat.divInt n.2.1 4),am (Rat.divInt n.2.2 4)):BV)=enc ((Rat.divInt n.2.1 4,Rat.divInt n.2.2 4):Rat×Rat):=rfl
   simp only[bO,cA,e0,az,dT h3,dT h4,dT h5,dT (show okC 500 (kS x)∧ok (Rat×Rat) 10 (enc ((Rat.divInt n.2.1 4,Rat.divInt n.2.2 4):Rat×Rat)) from⟨x1,ov⟩),dT (show okC 500 (kS y)∧ok (Rat×Rat) 10 (enc ((Rat.divInt n.2.1 4,Rat.divInt n.2.2 4):Rat×Rat)) from⟨y1,ov⟩),dT (show gj (kS x) (kS y)∧ok Rat 1000 (am (Rat.divInt n.1 4)) from⟨⟨gx.1,gy.1⟩,o⟩),dT (show gj (mvB (kS x) (Rat.divInt n.2.1 4,Rat.divInt n.2.2 4)) (mvB (kS y) (Rat.divInt n.2.1 4,Rat.divInt n.2.2 4))∧ok Rat 1000 (am (Rat.divInt n.1 4)) from⟨⟨mx.1,my.1⟩,o⟩),ac3 gx gy mx my,beq_self_eq_true]
   rfl
section
open Go.ChangeShapes Go.WideShapes Go.ChangeAt Go.WideMaps Go.WideElems Go.RowKit Go.Maps
section
variable {H:Type} {enc:TypeId×Value→H} {P:Program}
theorem yJ{f:Func}{s:ChangeSpec}{apart fresh handsOn again:Bool}{W W':World}{args:Array Value}{v:Value}{ds gs:List (DataW H)}{before pa pv:List MemPlace}
  (hW:DataW.Whole enc P f.params.toList s.vars apart W args.toList ds gs before)
  (hres:∀(b:Nat) (sp:Nat→Bool) (hd:Bool),DataW.TrodAll enc P W' b sp hd f.resultTypes.toList (v.resultList f.resultTypes.size) (s.fn H (ds++gs)).results [])
  (hargs:∀sp:Nat→Bool,(∀p∈before,sp p.block=true)→DataW.TrodAll enc P W' 0 sp true f.params.toList args.toList (s.fn H (ds++gs)).args pa)
  (hvars:∀sp:Nat→Bool,(∀p∈before,sp p.block=true)→DataW.TrodVars enc P W' sp s.vars (s.fn H (ds++gs)).vars pv)
  (hps:before=pa++pv) (hb:Below W.heap.size W W')
  (hok:∀(j:Nat) (t:TypeId) (r:Value),f.resultTypes[j]?=some t→(v.resultList f.resultTypes.size)[j]?=some r→Value.okWide P W' .any 0 t r):
  s.post enc P f apart fresh handsOn again W args v W':=by
 have hlt:∀p∈before,p.block<W.heap.size:=fun p hp=>hW.lt p hp
 have hold:∀p∈before,(fun b=>decide (b<W.heap.size)) p.block=true:=fun p hp=>by simpa using hlt p hp
 refine⟨ds,gs,before,[],pa,pv,hW,hres _ _ _,hargs _ hold,hvars _ hold,World.keptBut_mono (fun p hp=>⟨hp,?_⟩) (hb.frame (·∈before)),fun _=>?_⟩
 ·grind
 ·obtain⟨_,_,_,_,_,hz,hn⟩:=hW
  refine⟨hok,_,_,([]++pa)++pv,⟨[]++pa,pv,trodAll_append (hargs _ (fun _ _=>rfl)) (hres _ _ _),hvars _ (fun _ _=>rfl),rfl,?_,?_⟩,?_⟩
  ·intro b off hp
   have hin:MemPlace.cell b off∈before:=by rw[hps];simpa using hp
   rw[hb.frozen (hlt _ hin)]
   exact hz b off hin
  ·grind
  grind
end
theorem OL:laidOutB Tryz.prog=true:=by kernel_rfl
theorem qO{H:Type}{enc:TypeId×Value→H}{P:Program}(hl:laidOutB P=true){W W':World}{sp:Nat→Bool}:∀(ts:List TypeId) (vs:List Value) (ds:List (DataW H)) (ps:List MemPlace),
  (ts.all fun t=>P.readableRec t&&Nat.ble (t+1) P.types.size)=true→DataW.TrodAll enc P W 0 (fun _=>true) true ts vs ds ps→(∀p∈ps,W.sameAt W' p)→(∀p∈ps,sp p.block=true)→DataW.TrodAll enc P W' 0 sp true ts vs ds ps
 |[],vs,ds,ps,_,h,_,_=>by obtain⟨rfl,rfl,rfl⟩:=trodAll_nil h;exact trodAll_mk0
 |t::ts,vs,ds,ps,ht,h,hs,hp=>by
  obtain⟨v,vs',d,ds',p,q,rfl,rfl,rfl,h0,h1⟩:=trodAll_cons h
  simp only[aor,alJ]at ht
  exact trodAll_cons_mk (Trod_stays hl ht.1.1 (alM ht.1.2) h0 (fun x hx=>hs x (ang _ hx)) (fun x hx=>hp x (ang _ hx)))
   (qO hl ts vs' ds' q ht.2 h1 (fun x hx=>hs x (anM _ hx)) (fun x hx=>hp x (anM _ hx)))
set_option maxRecDepth 100000 in
theorem PF{H:Type}{enc:TypeId×Value→H}{f:Func}{s:ChangeSpec}{apart fresh handsOn again:Bool}{W W':World}{args:Array Value}{ds:List (DataW H)}{before:List MemPlace}
  (hW:DataW.Whole enc Tryz.prog f.params.toList s.vars apart W args.toList ds [] before) (hv:s.vars=[]) (hr:f.resultTypes= #[4]) (hfn:(s.fn H (ds++[])).results=[.lit (.bool true)]∧(s.fn H (ds++[])).args=ds∧(s.fn H (ds++[])).vars=[])
  (hp:(f.params.toList.all fun t=>Tryz.prog.readableRec t&&Nat.ble (t+1) Tryz.prog.types.size)=true) (hb:Below W.heap.size W W'):s.post enc Tryz.prog f apart fresh handsOn again W args (.bool true) W':=by
 have hW':=hW
 obtain⟨p,q,hA,hV,rfl,hfz,hnd⟩:=hW
 have hq:q=[]:=by
  rw[hv]at hV
  exact(trodVars_none hV).2
 subst hq
 have hlt:∀x∈p,x.block<W.heap.size:=fun x hx=>hW'.lt x (by simpa using hx)
 refine yJ (pa:=p) (pv:=[]) hW' ?_ ?_ ?_ rfl hb ?_
 ·intro b sp hd
  rw[hr,hfn.1]
  exact trodAll_mk1 (shut_bool Tryz.underlying4 _)
 ·intro sp hsp
  rw[hfn.2.1]
  exact qO OL _ _ _ _ hp hA (fun x hx=>hb.same (hlt x hx)) (fun x hx=>hsp x (by simpa using hx))
 ·intro sp _
  rw[hv,hfn.2.2]
  rfl
 ·exact ok_one hr rfl (okWide_bool_mk (P:=Tryz.prog) Tryz.underlying4 true)
theorem EL{P:Program}{w:World}{r:Reach}{base:Nat}{t e:TypeId}{n:Nat}{v:Value}(ht:P.underlying t=some (.array n e))(h:Value.okWide P w r base t v):∃cs,v=.agg cs∧cs.size=P.cellsOf t:=by
 simp only[Value.okWide,ht]at h
 obtain⟨cs,h1,h2,_⟩:=h
 exact⟨cs,h1,h2⟩
theorem Gg{P:Program}{w:World}{r:Reach}{base:Nat}{t:TypeId}{v:Value}(ht:P.underlying t=some .string)(h:Value.okWide P w r base t v):∃s,v=.string s:=by
 simp only[Value.okWide,ht,Cell.okWide]at h
 cases v<;>simp_all [Cell.ok]
theorem yD{H:Type}{enc:TypeId×Value→H}{P:Program}{w:World}{r:Reach}{b0 base:Nat}{spare:Nat→Bool}{held:Bool}{v:Value}{d:DataW H}{p:List MemPlace}{t:TypeId}(n:Nat)(ty:Ty)(hrep:rep P n t ty=true)(hv:Value.okWide P w r b0 t v)(h:DataW.Trod enc P w base spare held t v d p):
  ∃y:ty.D,Rel1 [] (fun _=>True) w (.d ty y) v∧ty.ok y:=by
 obtain⟨fuel,hf⟩:=h
 have fin:v.cells.toList.length=ty.n→v=mkV ty v.cells.toList→∃y:ty.D,Rel1 [] (fun _=>True) w (.d ty y) v∧ty.ok y:=fun hl hm=>by
  obtain⟨y,h1,h2⟩:=(S2 ty).1 n t hrep fuel _ _ hl hf
  exact⟨y,⟨_,h1,hm⟩,h2⟩
 cases n with
 |zero=>simp[rep]at hrep
 |succ n=>
  have hrep':=hrep
  unfold rep at hrep'
  split at hrep'<;>try (cases hrep';done)
  ·rename_i hu;obtain⟨m,rfl⟩:=okWide_int hu hv;exact fin rfl rfl
  ·rename_i hu;obtain⟨m,rfl⟩:=okWide_bool hu hv;exact fin rfl rfl
  ·rename_i hu;obtain⟨m,rfl⟩:=Gg hu hv;exact fin rfl rfl
  ·rename_i hu;obtain⟨q,m,c,rfl⟩:=okWide_slice hu hv;exact fin rfl rfl
  ·rename_i hu
   obtain⟨cs,rfl,hsz⟩:=okWide_struct hu hv
   simp only[alJ]at hrep'
   exact fin (by simp only[Value.cells,Array.length_toList,hsz];exact alK hrep'.2) (by simp[mkV,Ty.isSt,Value.cells])
  ·rename_i hu
   obtain⟨cs,rfl,hsz⟩:=EL hu hv
   simp only[alJ]at hrep'
   exact fin (by simp only[Value.cells,Array.length_toList,hsz];exact alK hrep'.2) (by simp[mkV,Ty.isSt,Value.cells])
end
end Go.Proofs.YtnkndpoojnflmaaGreat
end
namespace Go.Proofs.YtnkndpoojnflmaaGreat.lawClearanceMoved
open Go.ChangeShapes Go.WideShapes Go.ChangeAt Go.RowKit
set_option maxRecDepth 100000 in
theorem contract(H:Type)(enc:TypeId×Value→H)(W:World)(base:Nat)(args:Array Value)(ds gs:List (DataW H))(before:List MemPlace)
  (hval:∀(j:Nat) t v,Tryz.f5.params[j]?=some t→args[j]?=some v→Value.okWide Tryz.prog W .any base t v)
  (hW:DataW.Whole enc Tryz.prog Tryz.f5.params.toList Rows.clearanceMovedSpec.vars false W args.toList ds gs before):
  Calls Tryz.prog 5 args W fun e W'=>∃v,e=.returned v∧Rows.clearanceMovedSpec.post enc Tryz.prog Tryz.f5 false true false false W args v W':=by
 have hW':=hW
 obtain⟨p,q,hA0,hV,rfl,hfz,hnd⟩:=hW
 have hA:DataW.TrodAll enc Tryz.prog W 0 (fun _=>true) true Tryz.f5.params.toList args.toList ds p:=hA0
 rw[Tryz.params5]at hA hval
 obtain⟨v0,vs0,d0,ds0,p0,q0,e0,rfl,rfl,h0,r0⟩:=trodAll_cons hA
 obtain⟨v1,vs1,d1,ds1,p1,q1,e1,rfl,rfl,h1,r1⟩:=trodAll_cons r0
 obtain⟨v2,vs2,d2,ds2,p2,q2,e2,rfl,rfl,h2,r2⟩:=trodAll_cons r1
 obtain⟨en,rfl,rfl⟩:=trodAll_nil r2
 obtain rfl:args= #[v0,v1,v2]:=by cases args;simp_all
 obtain⟨rfl,rfl⟩:=trodVars_none hV
 obtain⟨y0,s0,k0⟩:=yD 12 (xS) (by kernel_rfl) (hval 0 26 v0 rfl rfl) h0
 obtain⟨y1,s1,k1⟩:=yD 12 (xS) (by kernel_rfl) (hval 1 26 v1 rfl rfl) h1
 obtain⟨y2,s2,k2⟩:=yD 12 (.st (.pair (.int .i8) (.pair (.int .i8) (.int .i8)))) (by kernel_rfl) (hval 2 49 v2 rfl rfl) h2
 clear hA0
 refine(Ui y0 y1 y2 k0 k1 k2 (fun _=>True) W [v0,v1,v2] MK ⟨s0,s1,s2,trivial⟩).mono ?_
 rintro e W' ⟨v,rfl,hb,hres⟩
 have hv:v=.bool true:=tZ (G:=[]) (eH hres)
 subst hv
 exact⟨_,rfl,PF hW' rfl (by kernel_rfl) ⟨rfl,rfl,rfl⟩ (by kernel_rfl) hb⟩
set_option maxRecDepth 100000 in
theorem lifted(os:Os)(started:os.Started)(H:Type)(enc:TypeId×Value→H):
  ReturnsInHanded {} Tryz.checked os 5 .any (Rows.clearanceMovedSpec.pre6 enc Tryz.prog Tryz.f5 Rows.clearanceMovedRow.domain false) (Rows.clearanceMovedSpec.post enc Tryz.prog Tryz.f5 false true false false):=by
 refine returnsInHanded_of_change (C:=Tryz.checked) NJ started (by kernel_rfl) Tryz.func5
  (ChangeSpec.witness6 (enc:=enc) (C:=Tryz.checked) false ⟨#[],#[.agg #[.int .u8 0,.int .u8 0,.int .i8 0,.int .i8 0,.int .i8 0,.int .i8 0,.int .i8 0,.int .i8 0,.int .u8 0,.int .u8 0,.int .i8 0,.int .i8 0,.int .i8 0,.int .i8 0,.int .i8 0,.int .i8 0,.int .u8 0],.agg #[.int .u8 0,.int .u8 0,.int .i8 0,.int .i8 0,.int .i8 0,.int .i8 0,.int .i8 0,.int .i8 0,.int .u8 0,.int .u8 0,.int .i8 0,.int .i8 0,.int .i8 0,.int .i8 0,.int .i8 0,.int .i8 0,.int .u8 0],.agg #[.int .i8 0,.int .i8 0,.int .i8 0]],[]⟩ 8 (by kernel_rfl) (by kernel_rfl) (by kernel_rfl) (by kernel_rfl)) ?_
 intro W base args ds gs before hval hW _ _
 exact contract H enc W base args ds gs before hval hW
end Go.Proofs.YtnkndpoojnflmaaGreat.lawClearanceMoved
namespace Go.Proofs.YtnkndpoojnflmaaGreat.lawClearanceMoved
open Go.ChangeShapes Go.WideShapes Go.ChangeAt Go.RowKit
set_option maxRecDepth 100000 in
theorem akG:(Rows.clearanceMovedRow.inPlace==Tryz.prog.inPlace 5)=true:=by kernel_rfl
set_option maxRecDepth 100000 in
theorem ajY:(Rows.clearanceMovedRow.unfollowed==Tryz.prog.unfollowed 5)=true:=by kernel_rfl
set_option maxRecDepth 100000 in
theorem ak7:(Rows.clearanceMovedRow.recurses==Tryz.prog.recurses 5)=true:=by kernel_rfl
set_option maxRecDepth 100000 in
theorem ajm:(Rows.clearanceMovedRow.named==Tryz.prog.varsNamed 5)=true:=by kernel_rfl
set_option maxRecDepth 100000 in
theorem kf2:(laidOutB Tryz.prog)=true:=by kernel_rfl
set_option maxRecDepth 100000 in
theorem aka:(Tryz.prog.mayEnter)=true:=by kernel_rfl
theorem gR{a b:Bool}(h:a=true)(h':b=true):(a&&b)=true:=by rw[h,h'];rfl
set_option maxRecDepth 100000 in
theorem aaz:joinedFacts Tryz.prog 5 Tryz.f5 Rows.clearanceMovedSpec Rows.clearanceMovedRow=true:=by
 unfold joinedFacts
 exact(gR (gR (gR (gR (gR (gR (gR (gR (gR (gR (gR (gR (gR (gR (gR (gR (gR (gR (gR (gR (gR (gR (gR (gR (gR (gR (gR (gR (gR (gR (gR (by kernel_rfl) kf2) (by kernel_rfl)) (by kernel_rfl)) (by kernel_rfl)) (by kernel_rfl)) (by kernel_rfl)) (by kernel_rfl)) (by kernel_rfl)) akG) ajY) ak7) ajm) (by kernel_rfl)) (by kernel_rfl)) (by kernel_rfl)) (by kernel_rfl)) (by kernel_rfl)) (by kernel_rfl)) (by kernel_rfl)) (by kernel_rfl)) (by kernel_rfl)) (by kernel_rfl)) (by kernel_rfl)) (by kernel_rfl)) aka) (by kernel_rfl)) (by kernel_rfl)) (by kernel_rfl)) (by kernel_rfl)) (by kernel_rfl)) (by kernel_rfl))
theorem proved:Rows.ClearanceMovedSaid:=
 OpenClaim.holds_of_wide 5 Tryz.f5 rfl rfl rfl rfl rfl rfl rfl ⟨rfl,rfl,rfl,rfl,rfl⟩ rfl rfl rfl rfl rfl (by kernel_rfl) Tryz.func5 aaz
  (of_decide_eq_true (by kernel_rfl)) (by unfold Func.isWrapper;first|(rw[if_pos (by decide+kernel)];kernel_rfl)|(rw[if_neg (by decide+kernel)];exact⟨rfl,rfl⟩))
  (fun os started H enc _=>lifted os started H enc)
end Go.Proofs.YtnkndpoojnflmaaGreat.lawClearanceMoved
