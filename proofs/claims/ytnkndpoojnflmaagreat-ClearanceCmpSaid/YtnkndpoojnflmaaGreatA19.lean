/- The program's comparison of two curves' distance. -/
import Derived.Test.YtnkndpoojnflmaaGreatA17
import Derived.Test.YtnkndpoojnflmaaGreatA18
import Derived.Test.YtnkndpoojnflmaaGreatA13
import Derived.Test.YtnkndpoojnflmaaGreatA14
import Derived.Test.YtnkndpoojnflmaaGreatA15
noncomputable section
namespace Go.Proofs.YtnkndpoojnflmaaGreat
open Go.RowKit Go.IntKind
def Cz:List En:=[⟨41,fQ,dU⟩,⟨99,ij,fa⟩,⟨108,gS,eT⟩,⟨107,iL,fw⟩,⟨106,ip,fi⟩,⟨109,kY,gD⟩,enT SS]
def abX:NT:=[((221,6),{keep:=[4,5,6,7,18,19,20],hl:=5})]
def OP:Ctx:=CX (ens Cz) abX
def Ap(d p q r:BR)(s20:Int):Cfg:=⟨221,[.blk 0,.seq 25],[(4,.box 0 0),(5,.box 1 0),(6,.box 2 0),(7,.box 3 0),(18,.own 4),(19,SI (([d,p,q,r]).length:Int)),(20,SI s20)],[.box 31 [SB d.1.1,.d apX d.1.2,SB d.2.1,.d apX d.2.2],.box 31 [SB p.1.1,.d apX p.1.2,SB p.2.1,.d apX p.2.2],.box 31 [SB q.1.1,.d apX q.1.2,SB q.2.1,.d apX q.2.2],.box 31 [SB r.1.1,.d apX r.1.2,SB r.2.1,.d apX r.2.2],.row 31 tR ([d,p,q,r])],0,[]⟩
def ahL(d p q r:BR)(k:KT):OLR:=k 6 (Ap d p q r 0)
theorem afd(d p q r:BR):RS OP 221 [.d tR d,.d tR p,.d tR q,.d tR r] (ahL d p q r):=rsX
def wL(d p q r:BR)(s20:Int)(k:KT):OLR:=match decide (s20<(([d,p,q,r]).length:Int))with|true=>(match aS ([d,p,q,r]) s20 with|some _=>(match true,([d,p,q,r])[(s20).toNat]? with|true,some x1=>(og (o1 x1) (match decide ((aD (ag x1) 0)<0)with|true=>some [RV.d apY 0,RV.d apY 7]|false=>k 6 (Ap d p q r (i64.wrap (s20+1)))))|_,_=>none)|none=>none)|false=>(og (o2 d p) (og (o2 (hSu d p) q) (og (o2 r r) (og (o2 (hSu (hSu d p) q) (hMu r r)) (og (decide (aG ((-2):Int))) (og (o2 (hid (ak (((-2):Int):Rat))) r) (og (decide (aG ((-2):Int))) (og (decide (okQ (hSu (hSu (hSu d p) q) (hMu r r),(hMu (hid (ak (((-2):Int):Rat))) r,(hMu (hid (ak (((-2):Int):Rat))) r,(hid (ak (((-2):Int):Rat)),(p,q))))))) (some [RV.d apY (sgQ (dec (hSu (hSu (hSu d p) q) (hMu r r),(hMu (hid (ak (((-2):Int):Rat))) r,(hMu (hid (ak (((-2):Int):Rat))) r,(hid (ak (((-2):Int):Rat)),(p,q))))))),RV.d apY 0])))))))))
theorem Ex(d p q r:BR)(s20:Int):RN OP 6 (Ap d p q r s20) (wL d p q r s20):=rnX
theorem afu{d p q r:Rat}[bd:Bd d 2000][bp:Bd p 2000][bq:Bd q 2000][br:Bd r 2000](nd:0≤d)(np:0≤p)(nq:0≤q)(nr_:0≤r):∀(j i:Nat),i+j=4→OP.Runs 6 (Ap (enc d) (enc p) (enc q) (enc r) (i:Int)) [.d apY (iD d p q r),.d apY (0:Int)]:=by
 have k2:decide (aG (-2))=true:=by decide
 have b2:Bd ((-2:Int):Rat) 3:=bS (n:= -2) (by decide);have b2':Bd (-2:Rat) 3:=b2;have e2:((-2:Int):Rat)= -2:=rfl;have n1:Nn p:=⟨np⟩
 have n2:Nn q:=⟨nq⟩
 have o1:decide (okQ (enc ((d-p-q-r*r,-2*r,-2*r,-2,p,q):Qd)))=true:=qN (by decide) (by decide) (by decide) (by decide) (by decide) (by decide)
 have hall:∀x∈[d,p,q,r],Bd x 2000∧0≤x:=by
  intro x hx;simp only[amT,anZ,apn]at hx;rcases hx with e|e|e|e<;>subst e<;>constructor<;>assumption
 intro j;induction j with
 |zero=>
  intro i hi;refine Ex _ _ _ _ _ ⟨0,?_⟩;unfold wL;rw[dF (show ¬(i:Int)<(([enc d,enc p,enc q,enc r]:List BR).length:Int) by simp;omega)];simp only[aO,Nat.reduceAdd,Nat.reduceLeDiff,k2,e2];show og (decide (okQ (enc ((d-p-q-r*r,-2*r,-2*r,-2,p,q):Qd)))) (some [RV.d apY (sgQ (dec (enc ((d-p-q-r*r,-2*r,-2*r,-2,p,q):Qd)))),_])=_;rw[o1,az];rfl
 |succ j ih=>
  intro i hi;have hil:i<[d,p,q,r].length:=by simp;omega
  obtain⟨n,hn⟩:=ih (i+1) (by omega);refine Ex _ _ _ _ _ ⟨n,?_⟩
  have g:([enc d,enc p,enc q,enc r]:List BR)[i]?=some (enc [d,p,q,r][i]):=by
   show(([d,p,q,r]:List Rat).map enc)[i]?=_;rw[anD,amF hil];rfl
  obtain⟨hb,hx⟩:=hall _ (ane hil);generalize [d,p,q,r][i]=x at*
  unfold wL;rw[dT (show(i:Int)<(([enc d,enc p,enc q,enc r]:List BR).length:Int) by simp;omega),av,aoi,g,b8 (by omega)];dsimp only;simp only[aO,Nat.reduceLeDiff,aq,dF (show ¬x<0 by grind)];exact hn
def aid:Cn 221 [tR,tR,tR,tR]:=cn fun(d p q r:BR)=>lf (n4P d p q r) [.d apY (iD (ag d) (ag p) (ag q) (ag r)),.d apY 0] fun h=>by
 obtain⟨d,p,q,r,⟨rfl,rfl,rfl,rfl⟩,bd,bp,bq,br,nd,np,nq,nr_⟩:=DZ h;have:=afu nd np nq nr_ 4 0 rfl;simp only[dN,ck];exact c8 Cz (afd _ _ _ _ this)
def ZR(x y z r:BR)(_k:KT):OLR:=og (decide (aG (2:Int))) (og (o2 x y) (og (o2 (hAd x y) z) (og (o2 r r) (og (o2 (hSu (hAd x y) z) (hMu r r)) (og (o2 (hid (ak ((2:Int):Rat))) r) (og (o1 (hMu (hid (ak ((2:Int):Rat))) r)) (og (decide (aG (0:Int))) (og (o2 x y) (og (decide (okQ (hSu (hSu (hAd x y) z) (hMu r r),(hid (ak ((2:Int):Rat)),(hNe (hMu (hid (ak ((2:Int):Rat))) r),(hid (ak ((0:Int):Rat)),(hMu x y,z))))))) (some [RV.d apY (sgQ (dec (hSu (hSu (hAd x y) z) (hMu r r),(hid (ak ((2:Int):Rat)),(hNe (hMu (hid (ak ((2:Int):Rat))) r),(hid (ak ((0:Int):Rat)),(hMu x y,z)))))))]))))))))))
def ahO:Cn 112 [tR,tR,tR,tR]:=cn fun(x y z r:BR)=>lf (n4P x y z r) [.d apY (uX (ag x) (ag y) (ag z) (ag r))] fun h=>by
 refine aA Cz (ZR x y z r) ⟨0,?_⟩;obtain⟨x,y,z,r,⟨rfl,rfl,rfl,rfl⟩,bx,b_,bz,br,nx,ny,nz,nr_⟩:=DZ h;have i2:decide (aG 2)=true:=by decide
 have i0:decide (aG 0)=true:=by decide
 have b2:Bd ((2:Int):Rat) 3:=bS (n:=2) (by decide);have b0:Bd ((0:Int):Rat) 3:=bS (n:=0) (by decide);have b2':Bd (2:Rat) 3:=b2;have b0':Bd (0:Rat) 3:=b0;have e2:((2:Int):Rat)=2:=rfl;have e0:((0:Int):Rat)=0:=rfl;have n1:Nn (x*y):=⟨amU nx ny⟩
 have n2:Nn z:=⟨nz⟩
 have o1:decide (okQ (enc ((x+y-z-r*r,2,-(2*r),0,x*y,z):Qd)))=true:=qN (by decide) (by decide) (by decide) (by decide) (by decide) (by decide);unfold ZR;simp only[aO,Nat.reduceAdd,Nat.reduceLeDiff,i2,i0,e2,e0];show og (decide (okQ (enc ((x+y-z-r*r,2,-(2*r),0,x*y,z):Qd)))) (some [RV.d apY (sgQ (dec (enc ((x+y-z-r*r,2,-(2*r),0,x*y,z):Qd))))])=_;rw[o1,az];rfl
def ad8:List En:=enT aid::Cz
def ah4:Cn 111 [tR,tR,tR,tR]:=cn fun(x y z r:BR)=>lf (n4P x y z r) [.d apY (iD (ag x) (ag y) (ag z) (ag r))] fun h=>jH [RV.d apY (iD (ag x) (ag y) (ag z) (ag r))] (du ad8) h
def aa7:List En:=[enL NO,enT IE,enL HA,enT ajT]
def ZW(s a:BCU)(r:BR)(_k:KT):OLR:=og (decide (ok Ln 300 s.2.1∧ok (Rat×Rat) 200 (a.2.2.1.1,a.2.2.1.2.1)∧((dec s.2.1:Ln).1≠0∨(dec s.2.1:Ln).2.1≠0))) (og (decide (ok (Rat×Rat) 100000 (hid (enc (dp (dec s.2.1) (dec (a.2.2.1.1,a.2.2.1.2.1))))))) (og (decide (okC 4000 s∧okP 4000 (hid (enc (atP (dec (hid (enc (dp (dec s.2.1) (dec (a.2.2.1.1,a.2.2.1.2.1))))))))))) (match !(onP (dC s) (dec (hid (enc (atP (dec (hid (enc (dp (dec s.2.1) (dec (a.2.2.1.1,a.2.2.1.2.1)))))))))))with|true=>some [RV.d apY 1]|false=>(og (decide (okC 500 a∧ok (Rat×Rat) 200 (hid (enc (dp (dec s.2.1) (dec (a.2.2.1.1,a.2.2.1.2.1)))))∧ok Rat 1000 r)) (some [RV.d apY (qY (dC a) (dec (hid (enc (dp (dec s.2.1) (dec (a.2.2.1.1,a.2.2.1.2.1)))))) (ag r))])))))
def aio:Cn 45 [tCU,tCU,tR]:=cn fun(s a:BCU) (r:BR)=>lf (vJ s a∧ok Rat 1000 r) [.d apY (Dh (dC s) (dC a) (ag r))] fun h=>by
 refine aA aa7 (ZW s a r) ⟨0,?_⟩;obtain⟨⟨hs,ha,es,ea⟩,hr⟩:=h;have hF:=Gi hs.2 ha.2 es ea;obtain⟨ar,li,ci,cw,fr,to⟩:=s;obtain⟨ar',li',ci',cw',fr',to'⟩:=a;simp only at es ea;subst es ea;obtain⟨l1,l2⟩:=hs.1.2.1 rfl;obtain⟨c1,c2⟩:=ha.1.1 rfl;simp only at l1 l2 c1 c2;obtain⟨li,rfl,bl⟩:=aB l1;obtain⟨ci',rfl,bc,qc⟩:=cE (ha.2.1 rfl);have bc':Bd (ctr ci') 200:=(inferInstance:Bd ((ci'.1,ci'.2.1):Rat×Rat) _).mono (by decide);have e0:((ak ci'.1,ak ci'.2.1):BV)=enc (ctr ci'):=rfl;rw[az]at l2;simp only[ftv,dC,lnC,ciC,az]at hF;unfold ZW Dh ftv qI;simp only[dC,lnC,ciC,az];simp only[aO,Nat.reduceLeDiff,aI,e0,dT l2,dT (bU (k:=4000) hs.1 (by decide) (by decide)),dT ha.1,dT hr];cases onP (false,li,dec ci,cw,dec fr,dec to) (atP (dp li (ctr ci')))<;>rfl
def ab8:List En:=[⟨106,ip,fi⟩,⟨107,iL,fw⟩,⟨108,gS,eT⟩,⟨109,kY,gD⟩,⟨41,fQ,dU⟩,enT Za,enT ah4,enT ahO]
def YJ(c d:BCU)(r:BR)(_k:KT):OLR:=let y1:=hSu d.2.2.1.1 c.2.2.1.1;let y2:=hSu d.2.2.1.2.1 c.2.2.1.2.1;let y3:=hAd (hMu y1 y1) (hMu y2 y2);let y4:=dec (hSu d.2.2.1.1 c.2.2.1.1,hSu d.2.2.1.2.1 c.2.2.1.2.1);let y5:=dec (hNe y1,hNe y2);let y6:=n4P y3 c.2.2.1.2.2 d.2.2.1.2.2 r;let y7:=n4P y3 d.2.2.1.2.2 c.2.2.1.2.2 r;let y8:=n4P c.2.2.1.2.2 y3 d.2.2.1.2.2 r;let y9:=n4P d.2.2.1.2.2 y3 c.2.2.1.2.2 r;let y10:=ag c.2.2.1.2.2;let y11:=ag d.2.2.1.2.2;let y12:=mn2 1 (mx2 (iD (ag y3) y10 y11 (ag r)) (uX y10 y11 (ag y3) (ag r)));let y13:=mx2 (uX (ag y3) y11 y10 (ag r)) (iD y10 (ag y3) y11 (ag r));let y14:=mx2 (uX (ag y3) y10 y11 (ag r)) (iD y11 (ag y3) y10 (ag r));let y15:OLR:=match decide (okC 500 c∧ok (Rat×Rat) 510 (hNe y1,hNe y2))with|true=>(match co (dC c) y5 with|true=>(og (decide (okC 500 d∧ok (Rat×Rat) 510 (hNe y1,hNe y2))) (match co (dC d) y5 with|true=>(og (decide y6) (og (decide y9) (some [RV.d apY (mn2 1 y14)])))|false=>some [RV.d apY 1]))|false=>some [RV.d apY 1])|false=>none;og (o2 d.2.2.1.1 c.2.2.1.1) (og (o2 d.2.2.1.2.1 c.2.2.1.2.1) (og (o2 y1 y1) (og (o2 y2 y2) (og (o2 (hMu y1 y1) (hMu y2 y2)) (og (o1 y3) (match(aD (ag y3) 0)==0 with|true=>some [RV.d apY 1]|false=>(og (o1 y1) (og (o1 y2) (og (decide (okC 500 c∧ok (Rat×Rat) 510 (hSu d.2.2.1.1 c.2.2.1.1,hSu d.2.2.1.2.1 c.2.2.1.2.1))) (match co (dC c) y4 with|true=>(og (decide (okC 500 d∧ok (Rat×Rat) 510 (hNe y1,hNe y2))) (match co (dC d) y5 with|true=>(og (decide y6) (og (decide (n4P c.2.2.1.2.2 d.2.2.1.2.2 y3 r)) (og (decide (okC 500 d∧ok (Rat×Rat) 510 (hSu d.2.2.1.1 c.2.2.1.1,hSu d.2.2.1.2.1 c.2.2.1.2.1))) (match co (dC d) y4 with|true=>(og (decide y7) (og (decide y8) (og (decide (okC 500 c∧ok (Rat×Rat) 510 (hNe y1,hNe y2))) (match co (dC c) y5 with|true=>(og (decide (okC 500 d∧ok (Rat×Rat) 510 (hNe y1,hNe y2))) (match co (dC d) y5 with|true=>(og (decide y6) (og (decide y9) (some [RV.d apY (mn2 (mn2 y12 y13) y14)])))|false=>some [RV.d apY (mn2 y12 y13)]))|false=>some [RV.d apY (mn2 y12 y13)]))))|false=>(og (decide (okC 500 c∧ok (Rat×Rat) 510 (hNe y1,hNe y2))) (match co (dC c) y5 with|true=>(og (decide (okC 500 d∧ok (Rat×Rat) 510 (hNe y1,hNe y2))) (match co (dC d) y5 with|true=>(og (decide y6) (og (decide y9) (some [RV.d apY (mn2 y12 y14)])))|false=>some [RV.d apY y12]))|false=>some [RV.d apY y12]))))))|false=>(og (decide (okC 500 d∧ok (Rat×Rat) 510 (hSu d.2.2.1.1 c.2.2.1.1,hSu d.2.2.1.2.1 c.2.2.1.2.1))) (match co (dC d) y4 with|true=>(og (decide y7) (og (decide y8) (og (decide (okC 500 c∧ok (Rat×Rat) 510 (hNe y1,hNe y2))) (match co (dC c) y5 with|true=>(og (decide (okC 500 d∧ok (Rat×Rat) 510 (hNe y1,hNe y2))) (match co (dC d) y5 with|true=>(og (decide y6) (og (decide y9) (some [RV.d apY (mn2 (mn2 1 y13) y14)])))|false=>some [RV.d apY (mn2 1 y13)]))|false=>some [RV.d apY (mn2 1 y13)]))))|false=>y15))))|false=>y15))))))))))
def ahG:Cn 44 [tCU,tCU,tR]:=cn fun(c d:BCU) (r:BR)=>lf (CL c d∧ok Rat 1000 r∧0≤ag r) [.d apY (Kg (dC c) (dC d) (ag r))] fun h=>by
 refine aA ab8 (YJ c d r) ⟨0,?_⟩;obtain⟨⟨hc,hd,ec,ed⟩,hr,nr_⟩:=h;obtain⟨ar,li,ci,cw,fr,to⟩:=c;obtain⟨ar',li',di,cw',fr',to'⟩:=d;simp only at ec ed;subst ec ed;have oc:decide (okC 500 _)=true:=dT hc.1;have od:decide (okC 500 _)=true:=dT hd.1;obtain⟨ci,rfl,bc,qc⟩:=cE (hc.2.1 rfl);obtain⟨di,rfl,bd,qd⟩:=cE (hd.2.1 rfl);obtain⟨r,rfl,br⟩:=aB hr;rw[dN,ck]at nr_;have n0:0≤aY (bi (ctr ci) (ctr di)) (bi (ctr ci) (ctr di)):=jT _;have bN:Bd (aY (bi (ctr ci) (ctr di)) (bi (ctr ci) (ctr di))) 100:=(inferInstance:Bd ((di.1-ci.1)*(di.1-ci.1)+(di.2.1-ci.2.1)*(di.2.1-ci.2.1)) _).mono (by decide);have e0:((ak (di.1-ci.1),ak (di.2.1-ci.2.1)):BV)=enc (bi (ctr ci) (ctr di)):=rfl;have e1:((ak (-(di.1-ci.1)),ak (-(di.2.1-ci.2.1))):BV)=enc (bkV (bi (ctr ci) (ctr di))):=rfl;have eN:(di.1-ci.1)*(di.1-ci.1)+(di.2.1-ci.2.1)*(di.2.1-ci.2.1)=aY (bi (ctr ci) (ctr di)) (bi (ctr ci) (ctr di)):=rfl;have bw:Bd (bi (ctr ci) (ctr di)) 20:=(inferInstance:Bd ((di.1-ci.1,di.2.1-ci.2.1):Rat×Rat) _).mono (by decide);have bb:Bd (bkV (bi (ctr ci) (ctr di))) 20:=(inferInstance:Bd ((-(di.1-ci.1),-(di.2.1-ci.2.1)):Rat×Rat) _).mono (by decide);have b0:Bd (di.1-ci.1) 10:=(inferInstance:Bd (di.1-ci.1) _).mono (by decide);have b1:Bd (di.2.1-ci.2.1) 10:=(inferInstance:Bd (di.2.1-ci.2.1) _).mono (by decide);have pc:0≤ci.2.2:=by grind
 have pd:0≤di.2.2:=by grind
 have k1:=(xk (i:=100) (j:=13) (k:=13) (l:=1000) (by decide) (by decide) (by decide) (by decide) n0 pc pd nr_)
 have k2:=(xk (i:=100) (j:=13) (k:=13) (l:=1000) (by decide) (by decide) (by decide) (by decide) n0 pd pc nr_)
 have k3:=(xk (i:=13) (j:=100) (k:=13) (l:=1000) (by decide) (by decide) (by decide) (by decide) pc n0 pd nr_)
 have k4:=(xk (i:=13) (j:=100) (k:=13) (l:=1000) (by decide) (by decide) (by decide) (by decide) pd n0 pc nr_)
 have k5:=(xk (i:=13) (j:=13) (k:=100) (l:=1000) (by decide) (by decide) (by decide) (by decide) pc pd n0 nr_)
 have sl:∀a b c d,iD a b c d≤1:=fun a b c d=>wP _;have bl:∀a b c d,uX a b c d≤1:=fun a b c d=>wP _;unfold YJ Kg nT fT nD wyv;simp only[aO,Nat.reduceAdd,Nat.reduceLeDiff,ao,e0,e1,eN,oc,od,k1,k2,k3,k4,k5,dC,ciC,xI,ace];have s1:=sl (aY (bi (ctr ci) (ctr di)) (bi (ctr ci) (ctr di))) ci.2.2 di.2.2 r;have s2:=sl ci.2.2 (aY (bi (ctr ci) (ctr di)) (bi (ctr ci) (ctr di))) di.2.2 r;have s3:=sl di.2.2 (aY (bi (ctr ci) (ctr di)) (bi (ctr ci) (ctr di))) ci.2.2 r;have s4:=bl ci.2.2 di.2.2 (aY (bi (ctr ci) (ctr di)) (bi (ctr ci) (ctr di))) r;have s5:=bl (aY (bi (ctr ci) (ctr di)) (bi (ctr ci) (ctr di))) di.2.2 ci.2.2 r;have s6:=bl (aY (bi (ctr ci) (ctr di)) (bi (ctr ci) (ctr di))) ci.2.2 di.2.2 r;cases decide (aY (bi (ctr ci) (ctr di)) (bi (ctr ci) (ctr di))=0)
 ·cases co (true,dec li,ci,cw,dec fr,dec to) (bi (ctr ci) (ctr di))<;>cases co (true,dec li,ci,cw,dec fr,dec to) (bkV (bi (ctr ci) (ctr di)))<;>cases co (true,dec li',di,cw',dec fr',dec to') (bi (ctr ci) (ctr di))<;>cases co (true,dec li',di,cw',dec fr',dec to') (bkV (bi (ctr ci) (ctr di)))<;>simp only[qI,cond_true,cond_false,Bool.and_true,apK]<;>refine congrArg (fun x:Int=>some [RV.d apY x]) ?_<;>omega
 ·rfl
def adu:List En:=[⟨41,fQ,dU⟩,enL ah9,enT ahC,enT ahG,enT aio]
def Yg(c d:BCU)(r:BR)(_k:KT):OLR:=let y1:OLR:=match decide (okR r)with|true=>some [RV.d apY (i64.wrap (0-(aD (ag r) 0)))]|false=>none;let y2:=Gy (RE.poiE (dC d) (RE.pR (dec c.2.2.2.2.1)) (ag r)) (RE.poiE (dC d) (RE.pR (dec c.2.2.2.2.2)) (ag r)) (RE.poiE (dC c) (RE.pR (dec d.2.2.2.2.1)) (ag r)) (RE.poiE (dC c) (RE.pR (dec d.2.2.2.2.2)) (ag r));let y3:OLR:=match c.1 with|true=>(og (decide (vJ d c∧ok Rat 1000 r)) (some [RV.d apY (mn2 y2 (Dh (dC d) (dC c) (ag r)))]))|false=>(match d.1 with|true=>(og (decide (vJ c d∧ok Rat 1000 r)) (some [RV.d apY (mn2 y2 (Dh (dC c) (dC d) (ag r)))]))|false=>some [RV.d apY y2]);og (o1 r) (match decide ((aD (ag r) 0)<0)with|true=>some [RV.d apY 1]|false=>(og (decide (fy c d)) (match decide (((lg c d).length:Int)>0)with|true=>y1|false=>(match qJ c d with|true=>y1|false=>(og (decide (okC 580 d∧okP 580 c.2.2.2.2.1∧ok Rat 1000 r)) (og (decide (okC 580 d∧okP 580 c.2.2.2.2.2∧ok Rat 1000 r)) (og (decide (okC 580 c∧okP 580 d.2.2.2.2.1∧ok Rat 1000 r)) (og (decide (okC 580 c∧okP 580 d.2.2.2.2.2∧ok Rat 1000 r)) (match c.1 with|true=>(match d.1 with|true=>(og (decide (CL c d∧ok Rat 1000 r∧0≤ag r)) (some [RV.d apY (mn2 y2 (Kg (dC c) (dC d) (ag r)))]))|false=>y3)|false=>y3)))))))))
def SP:Cn 14 [tCU,tCU,tR]:=cn fun(c d:BCU) (r:BR)=>lf (fy c d∧ok Rat 1000 r) [.d apY (pE c d (ag r))] fun h=>by
 refine aA adu (Yg c d r) ⟨0,?_⟩;obtain⟨⟨mc,md⟩,hr⟩:=h;have c5:=bU (k:=580) mc.1 (by decide) (by decide);have d5:=bU (k:=580) md.1 (by decide) (by decide);obtain⟨r,rfl,br⟩:=aB hr
 have w:i64.wrap (0-aD r 0)= -aD r 0:=by
  have:=jk r 0;rw[aT (by omega) (by omega)];omega
 unfold Yg pE Ku u6 ng;simp only[aO,Nat.reduceLeDiff,aq,xI,Ju,dT (show fy c d from⟨mc,md⟩),dT c5,dT d5,dT c5.2.2.1,dT c5.2.2.2,dT d5.2.2.1,dT d5.2.2.2,w];by_cases h0:r<0
 ·rw[dT h0];rfl
 ·rw[dF h0];have hn:0≤r:=by grind
  cases decide (((lg c d).length:Int)>0)
  ·cases qJ c d
   ·cases ea:c.1<;>cases eb:d.1
    ·simp only[dC,ea,eb];rfl
    ·simp only[dC,ea,eb,dT (show vJ c d from⟨mc,md,ea,eb⟩)];rfl
    ·simp only[dC,ea,eb,dT (show vJ d c from⟨md,mc,eb,ea⟩)];rfl
    ·simp only[dC,ea,eb,dT (show CL c d from⟨mc,md,ea,eb⟩),dT hn];rfl
   ·rfl
  ·rfl
def JS(c:BCU)(l:List BCU)(r:BR):Prop:=mG c∧(∀x∈l,mG x)∧l.length≤1000000∧ok Rat 1000 r
instance (c:BCU) (l:List BCU) (r:BR):Decidable (JS c l r):=by unfold JS;infer_instance
def Cm(a b:List BCU)(r:BR):Prop:=(∀x∈a,mG x)∧(∀x∈b,mG x)∧a.length≤1000000∧b.length≤1000000∧ok Rat 1000 r
instance (a b:List BCU) (r:BR):Decidable (Cm a b r):=by unfold Cm;infer_instance
def nrZ(c:BCU)(r:Rat)(d:BCU):Bool:=decide (pE c d r<0)
def FO(c:BCU)(l:List BCU)(r:Rat):Bool:=!(l.any (nrZ c r))
def CQ9(f:BCU→Bool):List BCU→Int→Int
 |[],_=> -1
 |c::l,i=>bif f c then i else CQ9 f l (i+1)
def AG(a b:List BCU)(r:Rat):Int:=CQ9 (fun c=>!(FO c b r)) a 0
def Aq:List En:=[enT SP]
def adE:NT:=[((69,6),{keep:=[0,1,7,8],hl:=2}),((28,3),{keep:=[9],hl:=0}),((71,3),{keep:=[7],hl:=0}),((69,18),{keep:=[0,1,5,7,8,16],hl:=0})]
def Le:Ctx:=CX (ens Aq) adE
def pZ(c:BCU)(l:List BCU)(r:BR)(s69_8:Int):Cfg:=⟨69,[.blk 0,.seq 25],[(0,.d (.sl tCU) l),(1,.clo 72 [0,1]),(7,SI (l.length:Int)),(8,SI s69_8)],[.box 39 [SB c.1,SB c.2.1.1.1.1,.d apX c.2.1.1.1.2,SB c.2.1.1.2.1,.d apX c.2.1.1.2.2,SB c.2.1.2.1.1.1,.d apX c.2.1.2.1.1.2,SB c.2.1.2.1.2.1,.d apX c.2.1.2.1.2.2,SB c.2.1.2.2.1.1,.d apX c.2.1.2.2.1.2,SB c.2.1.2.2.2.1,.d apX c.2.1.2.2.2.2,SB c.2.2.1.1.1.1,.d apX c.2.2.1.1.1.2,SB c.2.2.1.1.2.1,.d apX c.2.2.1.1.2.2,SB c.2.2.1.2.1.1.1,.d apX c.2.2.1.2.1.1.2,SB c.2.2.1.2.1.2.1,.d apX c.2.2.1.2.1.2.2,SB c.2.2.1.2.2.1.1,.d apX c.2.2.1.2.2.1.2,SB c.2.2.1.2.2.2.1,.d apX c.2.2.1.2.2.2.2,SB c.2.2.2.1,SB c.2.2.2.2.1.1.1.1,.d apX c.2.2.2.2.1.1.1.2,SB c.2.2.2.2.1.1.2.1,.d apX c.2.2.2.2.1.1.2.2,SB c.2.2.2.2.1.2.1.1.1,.d apX c.2.2.2.2.1.2.1.1.2,SB c.2.2.2.2.1.2.1.2.1,.d apX c.2.2.2.2.1.2.1.2.2,SB c.2.2.2.2.1.2.2.1.1.1,.d apX c.2.2.2.2.1.2.2.1.1.2,SB c.2.2.2.2.1.2.2.1.2.1,.d apX c.2.2.2.2.1.2.2.1.2.2,SB c.2.2.2.2.1.2.2.2.1.1.1,.d apX c.2.2.2.2.1.2.2.2.1.1.2,SB c.2.2.2.2.1.2.2.2.1.2.1,.d apX c.2.2.2.2.1.2.2.2.1.2.2,SB c.2.2.2.2.1.2.2.2.2.1.1,.d apX c.2.2.2.2.1.2.2.2.2.1.2,SB c.2.2.2.2.1.2.2.2.2.2.1,.d apX c.2.2.2.2.1.2.2.2.2.2.2,SB c.2.2.2.2.2.1.1.1,.d apX c.2.2.2.2.2.1.1.2,SB c.2.2.2.2.2.1.2.1,.d apX c.2.2.2.2.2.1.2.2,SB c.2.2.2.2.2.2.1.1.1,.d apX c.2.2.2.2.2.2.1.1.2,SB c.2.2.2.2.2.2.1.2.1,.d apX c.2.2.2.2.2.2.1.2.2,SB c.2.2.2.2.2.2.2.1.1.1,.d apX c.2.2.2.2.2.2.2.1.1.2,SB c.2.2.2.2.2.2.2.1.2.1,.d apX c.2.2.2.2.2.2.2.1.2.2,SB c.2.2.2.2.2.2.2.2.1.1.1,.d apX c.2.2.2.2.2.2.2.2.1.1.2,SB c.2.2.2.2.2.2.2.2.1.2.1,.d apX c.2.2.2.2.2.2.2.2.1.2.2,SB c.2.2.2.2.2.2.2.2.2.1.1,.d apX c.2.2.2.2.2.2.2.2.2.1.2,SB c.2.2.2.2.2.2.2.2.2.2.1,.d apX c.2.2.2.2.2.2.2.2.2.2.2],.box 31 [SB r.1.1,.d apX r.1.2,SB r.2.1,.d apX r.2.2]],2,[⟨71,[.seq 4],3,2,[],2,none⟩,⟨28,[.seq 4],3,2,[],0,none⟩]⟩
def ah5(c:BCU)(l:List BCU)(r:BR)(k:KT):OLR:=k 6 (pZ c l r 0)
theorem aga(c:BCU)(l:List BCU)(r:BR):RS Le 28 [.d tCU c,.d (.sl tCU) l,.d tR r] (ah5 c l r):=rsX
def pe(c:BCU)(l:List BCU)(r:BR)(s69_8:Int)(k:KT):OLR:=match decide (s69_8<(l.length:Int))with|true=>(match aS l s69_8 with|some x1=>(og (decide (fy c x1∧ok Rat 1000 r)) (match decide ((pE c x1 (ag r))<0)with|true=>some [RV.d .bool (!(decide (s69_8≥0)))]|false=>k 6 (pZ c l r (i64.wrap (s69_8+1)))))|none=>none)|false=>some [RV.d .bool (!(decide ((-1)≥0)))]
theorem vm(c:BCU)(l:List BCU)(r:BR)(s69_8:Int):RN Le 6 (pZ c l r s69_8) (pe c l r s69_8):=rnX
theorem ajw(c:BCU)(l:List BCU)(r:BR)(h:JS c l r):∀(j i:Nat),i+j=l.length→Le.Runs 6 (pZ c l r (i:Int)) [.d .bool (!((l.drop i).any (nrZ c (ag r))))]:=by
 intro j;have hl:=h.2.2.1;induction j with
 |zero=>
  intro i hi;refine vm _ _ _ _ ⟨0,?_⟩;unfold pe;rw[ce (by omega),oY (by omega)];rfl
 |succ j ih=>
  intro i hi;have hil:i<l.length:=by omega
  obtain⟨n,hn⟩:=ih (i+1) (by omega);refine vm _ _ _ _ ⟨n,?_⟩;unfold pe;rw[bI hil,av,amF hil,gI hil,apG,b8 (by omega)];dsimp only;rw[dT (show fy c l[i]∧ok Rat 1000 r from⟨⟨h.1,h.2.1 _ (ane _)⟩,h.2.2.2⟩)];have e:nrZ c (ag r) l[i]=decide (pE c l[i] (ag r)<0):=rfl;rw[e];cases decide (pE c l[i] (ag r)<0)
  ·exact hn
  ·show some [RV.d .bool (!(decide ((i:Int)≥0)))]=_;rw[dT (show(i:Int)≥0 by omega)];rfl
def aj7:Cn 28 [tCU,(.sl tCU),tR]:=cn fun(c:BCU) (l:List BCU) (r:BR)=>lf (JS c l r) [.d .bool (FO c l (ag r))] fun h=>by
 exact c8 Aq (aga _ _ _ (ajw c l r h l.length 0 (ani _)))
def Be:List En:=enF aj7::Aq
def adb:NT:=[((69,6),{keep:=[0,1,7,8],hl:=2}),((26,3),{keep:=[9],hl:=0}),((69,18),{keep:=[0,1,5,7,8,16],hl:=0})]
def Ma:Ctx:=CX (ens Be) adb
def qv(a b:List BCU)(r:BR)(s69_8:Int):Cfg:=⟨69,[.blk 0,.seq 25],[(0,.d (.sl tCU) a),(1,.clo 70 [0,1]),(7,SI (a.length:Int)),(8,SI s69_8)],[.box 54 [.d (.sl tCU) b],.box 31 [SB r.1.1,.d apX r.1.2,SB r.2.1,.d apX r.2.2]],2,[⟨26,[.seq 4],3,2,[],0,none⟩]⟩
def agv(a b:List BCU)(r:BR)(k:KT):OLR:=k 6 (qv a b r 0)
theorem ahv(a b:List BCU)(r:BR):RS Ma 26 [.d (.sl tCU) a,.d (.sl tCU) b,.d tR r] (agv a b r):=rsX
def pg(a b:List BCU)(r:BR)(s69_8:Int)(k:KT):OLR:=match decide (s69_8<(a.length:Int))with|true=>(match aS a s69_8 with|some x1=>(og (decide (JS x1 b r)) (match !(FO x1 b (ag r))with|true=>some [RV.d apY s69_8]|false=>k 6 (qv a b r (i64.wrap (s69_8+1)))))|none=>none)|false=>some [RV.d apY (-1)]
theorem vn(a b:List BCU)(r:BR)(s69_8:Int):RN Ma 6 (qv a b r s69_8) (pg a b r s69_8):=rnX
theorem agH(a b:List BCU)(r:BR)(h:Cm a b r):∀(j i:Nat),i+j=a.length→Ma.Runs 6 (qv a b r (i:Int)) [.d apY (CQ9 (fun c=>!(FO c b (ag r))) (a.drop i) (i:Int))]:=by
 intro j;have hl:=h.2.2.1;induction j with
 |zero=>
  intro i hi;refine vn _ _ _ _ ⟨0,?_⟩;unfold pg;rw[ce (by omega),oY (by omega)];rfl
 |succ j ih=>
  intro i hi;have hil:i<a.length:=by omega
  obtain⟨n,hn⟩:=ih (i+1) (by omega);refine vn _ _ _ _ ⟨n,?_⟩;unfold pg;rw[bI hil,av,amF hil,gI hil,b8 (by omega)];dsimp only;rw[dT (show JS a[i] b r from⟨h.1 _ (ane _),h.2.1,h.2.2.2.1,h.2.2.2.2⟩)];unfold CQ9;cases FO a[i] b (ag r)
  ·rfl
  ·exact hn
def ajd:Cn 26 [(.sl tCU),(.sl tCU),tR]:=cn fun(a b:List BCU) (r:BR)=>lf (Cm a b r) [.d apY (AG a b (ag r))] fun h=>by
 exact c8 Be (ahv _ _ _ (agH a b r h a.length 0 (ani _)))
def S4:List En:=enF ajd::Be
def aiz:Cn 27 [(.sl tCU),(.sl tCU),tR]:=cn fun(a b:List BCU) (r:BR)=>lf (Cm a b r) [.d .bool (decide (AG a b (ag r)<0))] fun h=>jH [RV.d .bool (decide ((AG a b (ag r))<0))] (du S4) h
section
def rwX(p:Pt)(v:Rat×Rat):Rt:=(p.1-v.1,p.2.1,p.2.2.2.2)
def rwY(p:Pt)(v:Rat×Rat):Rt:=(p.2.2.1-v.2,p.2.2.2.1,p.2.2.2.2)
def tiQ(x y:Rt):Qd:=(x.1*y.1,x.2.1*y.1,x.1*y.2.1,x.2.1*y.2.1,x.2.2,y.2.2)
def plQ(p q:Qd):Qd:=(p.1+q.1,p.2.1+q.2.1,p.2.2.1+q.2.2.1,p.2.2.2.1+q.2.2.2.1,p.2.2.2.2.1,p.2.2.2.2.2)
def miQ(p:Qd):Qd:=(-p.1,-p.2.1,-p.2.2.1,-p.2.2.2.1,p.2.2.2.2.1,p.2.2.2.2.2)
def alR(d:Rat×Rat)(p:Pt):Rt:=mkR (d.1*p.1+d.2*p.2.2.1) (d.1*p.2.1+d.2*p.2.2.2.1) p.2.2.2.2
def l4(l:Ln):Rat×Rat:=(l.2.1,-l.1)
def oh(c:Cv):Rat×Rat:=bif decide (aW (alR (l4 (lnC c)) (toC c)) (alR (l4 (lnC c)) (frC c))<0)then bkV (l4 (lnC c))else l4 (lnC c)
def mvB(c:BCU)(v:Rat×Rat):BCU:=(c.1,bif c.1 then c.2.1 else enc (RE.mvLn (dec c.2.1) v),bif c.1 then enc (RE.mvCi (dec c.2.2.1) v)else c.2.2.1,c.2.2.2.1,enc (trP (dec c.2.2.2.2.1) v),enc (trP (dec c.2.2.2.2.2) v))
namespace RE
theorem Ta(a b c d m n:RE):a*c+b*c*m+a*d*n+b*d*(m*n)=(a+b*m)*(c+d*n):=by grind
theorem TG(A B C D E F G H m n:RE):A+E+(B+F)*m+(C+G)*n+(D+H)*(m*n)=A+B*m+C*n+D*(m*n)+(E+F*m+G*n+H*(m*n)):=by grind
theorem Tu(A B C D m n:RE): -A+ -B*m+ -C*n+ -D*(m*n)= -(A+B*m+C*n+D*(m*n)):=by grind
theorem Th(u w x y z t m:RE):u*x+w*y+(u*z+w*t)*m=u*(x+z*m)+w*(y+t*m):=by grind
theorem ajX(x y u w:RE): -((x-0)*(u-0)+(y-0)*(w-0)+((x-0)*(u-0)+(y-0)*(w-0)))+((x-0)*(x-0)+(y-0)*(y-0))+((u-0)*(u-0)+(w-0)*(w-0))=(x-u)*(x-u)+(y-w)*(y-w):=by grind
theorem Pk(A B C D m n a b c d r:RE):A+a+c-r+(B+b)*m+(C+d)*n+D*(m*n)=A+B*m+C*n+D*(m*n)+(a+b*m)+(c+d*n)-r:=by grind
theorem Jo(x y:Rt):vq (tiQ x y)=vR x*vR y:=by
 unfold vq vQ tiQ vR v2;dsimp only;simp only[aJ];exact Ta _ _ _ _ _ _
theorem Pg(p q:Qd)(h:q.2.2.2.2=p.2.2.2.2):vq (plQ p q)=vq p+vq q:=by
 unfold vq vQ plQ;dsimp only;rw[h];simp only[of_add];exact TG _ _ _ _ _ _ _ _ _ _
theorem XZ(p:Qd):vq (miQ p)= -vq p:=by
 unfold vq vQ miQ;dsimp only;simp only[of_neg];exact Tu _ _ _ _ _ _
theorem AW(p:Pt)(v:Rat×Rat):vR (rwX p v)=(sbE v (pR p)).1:=by
 unfold rwX sbE pR pX vR v2;dsimp only;rw[of_sub,Cq]
theorem AI(p:Pt)(v:Rat×Rat):vR (rwY p v)=(sbE v (pR p)).2:=by
 unfold rwY sbE pR pY vR v2;dsimp only;rw[of_sub,Cq]
def crR(v:Rat×Rat)(p q:Pt):Qd:=plQ (tiQ (rwX p v) (rwY q v)) (miQ (tiQ (rwY p v) (rwX q v)))
theorem crR_re(v:Rat×Rat){p q:Pt}[hp:Rpd p][hq:Rpd q]:sgQ (crR v p q)=turS v (pR p) (pR q):=by
 rw[oS (q:=crR v p q) (show 0≤p.2.2.2.2 from hp.nn) (show 0≤q.2.2.2.2 from hq.nn)];unfold crR;rw[Pg (tiQ (rwX p v) (rwY q v)) (miQ (tiQ (rwY p v) (rwX q v))) rfl,XZ,Jo,Jo,AW,AW,AI,AI];rfl
def doR(p q:Pt):Qd:=plQ (tiQ (rwX p z2) (rwX q z2)) (tiQ (rwY p z2) (rwY q z2))
def apR0(p q:Pt):Qd:=miQ (plQ (doR p q) (doR p q))
def apR(p q:Pt)(r:Rat):Qd:=((apR0 p q).1+(sqP p z2).1+(sqP q z2).1-r*r,(apR0 p q).2.1+(sqP p z2).2.1,(apR0 p q).2.2.1+(sqP q z2).2.1,(apR0 p q).2.2.2.1,p.2.2.2.2,q.2.2.2.2)
theorem Xc{p:Pt}(h:Rpd p):of (sqP p z2).1+of (sqP p z2).2.1*rq p.2.2.2.2=(pX p-0)*(pX p-0)+(pY p-0)*(pY p-0):=by
 have e:of (sqP p z2).1+of (sqP p z2).2.1*rq p.2.2.2.2=vR (sqP p z2):=by
  show of (coR (sqA p z2) (sqB p z2) p.2.2.2.2).1+of (coR (sqA p z2) (sqB p z2) p.2.2.2.2).2.1*rq p.2.2.2.2=vR (coR (sqA p z2) (sqB p z2) p.2.2.2.2);unfold coR;by_cases e:sqB p z2=0
  ·rw[amE e];show of _+of 0*_=v2 _ 0 0;unfold v2;rw[show of 0=0 from rfl,zero_mul,zero_mul]
  ·rw[amG e];rfl
 rw[e,Bk];rfl
theorem apR_re{p q:Pt}[hp:Rpd p][hq:Rpd q](r:Rat):sgQ (apR p q r)=apaS (pR p) (pR q) r:=by
 rw[oS (q:=apR p q r) (show 0≤p.2.2.2.2 from hp.nn) (show 0≤q.2.2.2.2 from hq.nn)]
 have e1:vq (apR0 p q)= -((pX p-0)*(pX q-0)+(pY p-0)*(pY q-0)+((pX p-0)*(pX q-0)+(pY p-0)*(pY q-0))):=by
  unfold apR0;rw[XZ,Pg _ _ rfl];unfold doR;rw[Pg (tiQ (rwX p z2) (rwX q z2)) (tiQ (rwY p z2) (rwY q z2)) rfl,Jo,Jo,AW,AW,AI,AI];rfl
 have e3:vq (apR p q r)=vq (apR0 p q)+(of (sqP p z2).1+of (sqP p z2).2.1*rq p.2.2.2.2)+(of (sqP q z2).1+of (sqP q z2).2.1*rq q.2.2.2.2)-of (r*r):=by
  unfold vq vQ apR;dsimp only;rw[of_sub,of_add,of_add,of_add,of_add];exact Pk _ _ _ _ _ _ _ _ _ _ _
 rw[e3,e1,Xc hp,Xc hq,ajX];rfl
theorem Ye(d:Rat×Rat)(p:Pt):vR (alR d p)=of d.1*(pR p).1+of d.2*(pR p).2:=by
 unfold alR;rw[vR_mk];unfold v2 pR pX pY v2;dsimp only;simp only[of_add,aJ];exact Th _ _ _ _ _ _ _
end RE
instance akv {p:Pt} {v:Rat×Rat} {j k:Nat} [h:Bd p j] [h':Bd v k]:Bd (rwX p v) (j+k+1):=by
 have i:Bd ((p.1-v.1,p.2.1,p.2.2.2.2):Rt) _:=inferInstance;exact i.mono (cK (by omega) (cK (by omega) (by omega)))
instance alQ {p:Pt} {v:Rat×Rat} {j k:Nat} [h:Bd p j] [h':Bd v k]:Bd (rwY p v) (j+k+1):=by
 have i:Bd ((p.2.2.1-v.2,p.2.2.2.1,p.2.2.2.2):Rt) _:=inferInstance;exact i.mono (cK (by omega) (cK (by omega) (by omega)))
instance aks {x y:Rt} {i j:Nat} [h:Bd x i] [h':Bd y j]:Bd (tiQ x y) (i+j):=by
 have t:Bd ((x.1*y.1,x.2.1*y.1,x.1*y.2.1,x.2.1*y.2.1,x.2.2,y.2.2):Qd) _:=inferInstance;exact t.mono (cK (by omega) (cK (by omega) (cK (by omega) (cK (by omega) (cK (by omega) (by omega))))))
instance alb {p q:Qd} {i j:Nat} [h:Bd p i] [h':Bd q j]:Bd (plQ p q) (i+j+1):=by
 have t:Bd ((p.1+q.1,p.2.1+q.2.1,p.2.2.1+q.2.2.1,p.2.2.2.1+q.2.2.2.1,p.2.2.2.2.1,p.2.2.2.2.2):Qd) _:=inferInstance;exact t.mono (cK (by omega) (cK (by omega) (cK (by omega) (cK (by omega) (cK (by omega) (by omega))))))
instance al4 {p:Qd} {i:Nat} [h:Bd p i]:Bd (miQ p) i:=by
 have t:Bd ((-p.1,-p.2.1,-p.2.2.1,-p.2.2.2.1,p.2.2.2.2.1,p.2.2.2.2.2):Qd) _:=inferInstance;exact t.mono (cK (by omega) (cK (by omega) (cK (by omega) (cK (by omega) (cK (by omega) (by omega))))))
instance vp {d:Rat×Rat} {p:Pt} [h:Rpd p]:Rdd (alR d p):=by
 have:Nn p.2.2.2.2:=inferInstance;exact pO
instance amr {d:Rat×Rat} {p:Pt} {i j:Nat} [h:Bd d i] [h':Bd p j]:Bd (alR d p) (4*i+5*j+3):=by
 have a:Bd (d.1*p.1+d.2*p.2.2.1) _:=inferInstance;have b:Bd (d.1*p.2.1+d.2*p.2.2.2.1) _:=inferInstance;exact(inferInstance:Bd (mkR (d.1*p.1+d.2*p.2.2.1) (d.1*p.2.1+d.2*p.2.2.2.1) p.2.2.2.2) _).mono (by omega)
instance Wq {l:Ln} {i:Nat} [h:Bd l i]:Bd (l4 l) i:=by
 have t:Bd ((l.2.1,-l.1):Rat×Rat) _:=inferInstance;exact t.mono (cK (by omega) (by omega))
instance aeE {v:Rat×Rat} {i:Nat} [h:Bd v i]:Bd (bkV v) i:=by
 have t:Bd ((-v.1,-v.2):Rat×Rat) _:=inferInstance;exact t.mono (cK (by omega) (by omega))
instance akp {ar:Bool} {li:Ln} {ci:Ln} {cw:Bool} {fr to:Pt} {i:Nat} [h:Bd li i]:Bd (oh (ar,li,ci,cw,fr,to)) i:=by
 unfold oh;show Bd (bif decide (aW (alR (l4 li) to) (alR (l4 li) fr)<0)then bkV (l4 li)else l4 li) i;cases decide (aW (alR (l4 li) to) (alR (l4 li) fr)<0)
 ·exact(inferInstance:Bd (l4 li) i)
 ·exact aeE (h:=Wq (h:=h))
theorem Ao(r:Rt):hU r r=r.2.2:=by
 unfold hU;cases decide (r.2.1=0)<;>rfl
instance UL {r:Rt} [h:Rdd r]:Rdd (iA r r):=by
 refine⟨?_⟩;unfold iA kO;rw[Ao];by_cases e:r.1*r.2.1+r.2.1*r.1=0
 ·rw[amE e];exact .inl ⟨rfl,rfl⟩
 ·rw[amG e,cond_false];rcases h.rd with⟨h1,_⟩|⟨_,h1,h2⟩
  ·exfalso;rw[h1]at e;grind
  ·rw[amG (show r.2.2≠0 by grind)];exact .inr ⟨e,h1,h2⟩
theorem agj{l:Ln}{p:Pt}[h:Bd l 300][h':Bd p 580]:Bd (iA (oU l p) (oU l p)) 15000:=by
 have key:∀{r:Rt} {x y z:Nat},Bd r.1 x→Bd r.2.1 y→Bd r.2.2 z→2*x+2*y+z+1≤15000→Bd (iA r r) 15000:=fun{r x y z} a b c e=>by
  have m:hU r r=r.2.2:=by unfold hU;cases decide (r.2.1=0)<;>rfl
  have i:Bd (kO (r.1*r.1+r.2.1*r.2.1*r.2.2) (r.1*r.2.1+r.2.1*r.1) r.2.2) _:=inferInstance;unfold iA;rw[m];exact i.mono (cK (by omega) (cK (by omega) (by omega)))
 have a1:Bd (jY l p) 2062:=(inferInstance:Bd (jY l p) _).mono (by decide);have a2:Bd (j7 l p) 1761:=(inferInstance:Bd (j7 l p) _).mono (by decide);have hz:Bd (0:Rat) 3:=bS (n:=0) (by decide);unfold oU mkR;cases fA p.2.2.2.2
 ·cases decide (j7 l p=0)
  ·exact key (r:=(jY l p,j7 l p,p.2.2.2.2)) a1 a2 (inferInstance:Bd p.2.2.2.2 580) (by decide)
  ·exact key (r:=(jY l p,0,0)) a1 hz hz (by decide)
 ·have a3:Bd (jY l p+j7 l p*rtQ p.2.2.2.2) 4410:=(inferInstance:Bd (jY l p+j7 l p*rtQ p.2.2.2.2) _).mono (by decide);exact key (r:=(jY l p+j7 l p*rtQ p.2.2.2.2,0,0)) a3 hz hz (by decide)
theorem aeN{p q:Pt}{r:Rat}[bp:Bd p 580][bq:Bd q 580][br:Bd r 1000](hp:0≤p.2.2.2.2)(hq:0≤q.2.2.2.2):decide (okQ (enc (RE.apR p q r)))=true:=by
 have n1:Nn p.2.2.2.2:=⟨hp⟩
 have n2:Nn q.2.2.2.2:=⟨hq⟩
 have bD:Bd (RE.apR0 p q) 5000:=(inferInstance:Bd (miQ (plQ (plQ (tiQ (rwX p z2) (rwX q z2)) (tiQ (rwY p z2) (rwY q z2))) (plQ (tiQ (rwX p z2) (rwX q z2)) (tiQ (rwY p z2) (rwY q z2))))) _).mono (by decide);have bA:Bd ((RE.apR0 p q).1+(sqP p z2).1+(sqP q z2).1-r*r) _:=inferInstance;have bB:Bd ((RE.apR0 p q).2.1+(sqP p z2).2.1) _:=inferInstance;have bC:Bd ((RE.apR0 p q).2.2.1+(sqP q z2).2.1) _:=inferInstance;have bE:Bd (RE.apR0 p q).2.2.2.1 5000:=inferInstance;exact qN (h1:=bA) (h2:=bB) (h3:=bC) (h4:=bE) (by decide) (by decide) (by decide) (by decide) (by decide) (by decide)
namespace RE
theorem wit_gr(a b c:Int):(match decide (a>0)with|true=>(match decide (b≥0)with|true=>some [RV.d .bool (decide (c≥0))]|false=>some [RV.d .bool false])|false=>(match a==0 with|true=>(match decide (b≥0)with|true=>some [RV.d .bool (decide (c≥0))]|false=>some [RV.d .bool false])|false=>(match decide (-c>0)with|true=>some [RV.d .bool (!(decide (-b>0)))]|false=>some [RV.d .bool (!false)])))=some [RV.d .bool (AF a b c)]:=by
 have h1:decide (-c>0)=!decide (0≤c):=by rw[←apS];exact anq.2 (by omega)
 have h2:decide (-b>0)=!decide (0≤b):=by rw[←apS];exact anq.2 (by omega)
 have h3:decide (c<0)=!decide (0≤c):=by rw[←apS];exact anq.2 (by omega)
 have h4:decide (b<0)=!decide (0≤b):=by rw[←apS];exact anq.2 (by omega)
 have h5:decide (0≤a)=(decide (a>0)||(a==0)):=by
  by_cases g:0≤a
  ·rw[amE g];by_cases k:a=0
   ·rw[k];rfl
   ·rw[amE (show a>0 by omega)];rfl
  ·rw[amG g,amG (show ¬a>0 by omega),aoA.2 (show a≠0 by omega)];rfl
 unfold AF;simp only[h1,h2,h3,h4,h5,ge_iff_le];cases decide (a>0)<;>cases a==0<;>cases decide (0≤b)<;>cases decide (0≤c)<;>rfl
theorem aia(a b m:RE):a*a+b*b*(m*m)+(a*b+b*a)*m=(a+b*m)*(a+b*m):=by grind
theorem alg(a b x y:RE):b*x+ -a*y= -(-b*x+a*y):=by grind
theorem ahR(a b x y:RE): -b*x+ - -a*y= -b*x+a*y:=by grind
theorem BO(x y:RE)(h1: -x< -y):y<x:=by grind
theorem BM(x y:RE)(h1:y<x): -x< -y:=by grind
theorem ab2(x y:RE)(h1:x-y<0):x<y:=by grind
theorem acQ(x y:RE)(h1:x<y):x-y<0:=by grind
theorem vR_sqr{r:Rt}(h:Rdd r):vR (iA r r)=vR r*vR r:=by
 have e:vR (iA r r)=v2 (r.1*r.1+r.2.1*r.2.1*r.2.2) (r.1*r.2.1+r.2.1*r.1) r.2.2:=by
  unfold iA kO;rw[Ao];by_cases e:r.1*r.2.1+r.2.1*r.1=0
  ·rw[amE e,e,dv];exact dv _ _
  ·rw[amG e,cond_false];by_cases g:r.2.2=0
   ·rw[amE g,g];unfold v2;rw[HQ,mul_zero,add_zero];exact dv _ _
   ·rw[amG g];rfl
 rw[e];unfold vR v2;rw[of_add,of_add,aJ,aJ,aJ,aJ,aJ,←cQ h.nn,aia]
theorem vR_val{l:Ln}{p:Pt}:vR (oU l p)=exE l (pR p):=by
 unfold oU;rw[vR_mk];unfold exE pR pX pY v2 jY j7;dsimp only;rw[of_sub,of_add,of_add,aJ,aJ,aJ,aJ,LB]
theorem Bq{x y:Rt}(hx:Rdd x)(hy:Rdd y):aW x y<0↔vR x<vR y:=by
 rw[cmpT_re hx.nn hy.nn,AR];exact⟨ab2 _ _,acQ _ _⟩
theorem aeB{x y:Rt}(hx:Rdd x)(hy:Rdd y):aW x y>0↔vR y<vR x:=by
 rw[←Bq hy hx,cmpT_re hx.nn hy.nn,cmpT_re hy.nn hx.nn,←Jd (vR x) (vR y),o0];omega
theorem yk(l:Ln)(p:Pt):vR (alR (l4 l) p)= -tE l (pR p):=by
 rw[Ye];unfold l4 tE;rw[of_neg];exact alg _ _ _ _
theorem Nh(l:Ln)(p:Pt):vR (alR (bkV (l4 l)) p)=tE l (pR p):=by
 rw[Ye];unfold l4 bkV tE;rw[of_neg,of_neg,of_neg];exact ahR _ _ _ _
theorem al3{F T x:RE}(h:¬F<T):(F<x∨x<T)↔¬btE F T x:=by
 unfold btE;constructor
 ·rintro (g|g) (⟨h1,h2⟩|⟨h1,h2⟩)
  ·exact(lt_or_ge F T).elim h fun k=>le_trans h2 k g
  ·exact h2 g
  ·exact(lt_or_ge F T).elim h fun k=>le_trans k h1 g
  ·exact h1 g
 ·intro g;rcases lt_or_ge F x with k|k
  ·exact .inl k
  ·rcases lt_or_ge x T with m|m
   ·exact .inr m
   ·exact absurd (.inr ⟨m,k⟩) g
theorem akP{F T x:RE}(h:F<T):(x<F∨T<x)↔¬btE F T x:=by
 unfold btE;constructor
 ·rintro (g|g) (⟨h1,h2⟩|⟨h1,h2⟩)
  ·exact h1 g
  ·exact h1 (cO g h)
  ·exact h2 g
  ·exact h2 (cO h g)
 ·intro g;rcases lt_or_ge x F with k|k
  ·exact .inl k
  ·rcases lt_or_ge T x with m|m
   ·exact .inr m
   ·exact absurd (.inl ⟨k,m⟩) g
open Classical in
theorem dir_bes{c:Cv}[hf:Rpd (frC c)][ht:Rpd (toC c)]{p:Pt}[hp:Rpd p]:(decide (aW (alR (oh c) p) (alR (oh c) (frC c))<0)||decide (aW (alR (oh c) p) (alR (oh c) (toC c))>0))=!(besE c (pR p)):=by
 have k:∀(d:Rat×Rat),(decide (aW (alR d p) (alR d (frC c))<0)||decide (aW (alR d p) (alR d (toC c))>0))=decide (vR (alR d p)<vR (alR d (frC c))∨vR (alR d (toC c))<vR (alR d p)):=fun d=>by
  rw[Bool.decide_or];exact congr (congrArg or (anq.2 (Bq vp vp))) (anq.2 (aeB vp vp))
 rw[k];unfold besE;rw[←apS];refine anq.2 ?_;unfold oh;by_cases h:aW (alR (l4 (lnC c)) (toC c)) (alR (l4 (lnC c)) (frC c))<0
 ·rw[amE h,cond_true,Nh,Nh,Nh];have g:=(Bq vp vp).1 h;rw[yk,yk]at g;exact akP (BO _ _ g)
 ·rw[amG h,cond_false,yk,yk,yk];have g:¬tE (lnC c) (pR (frC c))<tE (lnC c) (pR (toC c)):=fun g=>h ((Bq vp vp).2 (by rw[yk,yk];exact BM _ _ g));rw[←al3 g];exact or_congr ⟨BO _ _,BM _ _⟩ ⟨BO _ _,BM _ _⟩
theorem cen_eq{p:Pt}[hp:Rpd p]{v:Rat×Rat}:(aX p (atP v)==0)=true↔pR p=vE v:=by
 rw[anE,cmpP_0,oD];exact Iff.rfl
end RE
def xO:List En:=[enT iV,enL o8,enL kD,enL lT,enT pu,enL lV,enL m7,enL BE,enL GK,enL OT,enL RD,enL um,enL FZ,enL Gw,enL Fe,enL Gu,enT Gr,enL GQ,enL BS,enL Lu,enL A7,enT Bx,enT Ba,enT Gd,enL MZ,enL LV,enL Mg]
def aap(p:BP)(v:BV)(_k:KT):OLR:=cj (og (o2 p.1 v.1) (cj (og (o2 p.2.2.1 v.2) (dup (.b (.b .l .l) (.b (.b .l .l) (.b .l .l))) (some [RV.d tO (hSu p.1 v.1,(p.2.1,p.2.2.2.2)),RV.d tO (hSu p.2.2.1 v.2,p.2.2.2)]))) (dup (.b .l .l) (cj (og (o2 p.2.2.1 v.2) (dup (.b .l .l) (some [RV.d tO (hSu p.1 v.1,(p.2.1,p.2.2.2.2)),RV.d tO (hSu p.2.2.1 v.2,p.2.2.2)]))) (og (o2 p.2.2.1 v.2) (some [RV.d tO (hSu p.1 v.1,(p.2.1,p.2.2.2.2)),RV.d tO (hSu p.2.2.1 v.2,p.2.2.2)])))))) (dup (.b .l .l) (cj (og (o2 p.1 v.1) (cj (og (o2 p.2.2.1 v.2) (dup (.b .l .l) (some [RV.d tO (hSu p.1 v.1,(p.2.1,p.2.2.2.2)),RV.d tO (hSu p.2.2.1 v.2,p.2.2.2)]))) (og (o2 p.2.2.1 v.2) (some [RV.d tO (hSu p.1 v.1,(p.2.1,p.2.2.2.2)),RV.d tO (hSu p.2.2.1 v.2,p.2.2.2)])))) (og (o2 p.1 v.1) (og (o2 p.2.2.1 v.2) (some [RV.d tO (hSu p.1 v.1,(p.2.1,p.2.2.2.2)),RV.d tO (hSu p.2.2.1 v.2,p.2.2.2)])))))
def aka:Cn 229 [tP,tV]:=cn fun(p:BP) (v:BV)=>lf (okP 580 p∧ok (Rat×Rat) 400 v) [.d tO (enc (rwX (dec p) (dec v))),.d tO (enc (rwY (dec p) (dec v)))] fun h=>by
 refine aA xO (aap p v) ⟨0,?_⟩;obtain⟨hp,hv⟩:=h;obtain⟨p,rfl,bp,rp⟩:=aZ hp;obtain⟨v,rfl,bv⟩:=aB hv;unfold aap;simp only[aO,Nat.reduceLeDiff];try rfl
def aah(x y:BO3)(_k:KT):OLR:=og (o2 x.1 y.1) (og (o2 x.2.1 y.1) (og (o2 x.1 y.2.1) (og (o2 x.2.1 y.2.1) (some [RV.d tQ (hMu x.1 y.1,(hMu x.2.1 y.1,(hMu x.1 y.2.1,(hMu x.2.1 y.2.1,(x.2.2,y.2.2)))))]))))
def ahg:Cn 231 [tO,tO]:=cn fun(x y:BO3)=>lf (ok Rt 3000 x∧ok Rt 3000 y) [.d tQ (enc (tiQ (dec x) (dec y)))] fun h=>by
 refine aA xO (aah x y) ⟨0,?_⟩;obtain⟨hx,hy⟩:=h;obtain⟨x,rfl,bx⟩:=aB hx;obtain⟨y,rfl,b_y⟩:=aB hy;unfold aah;simp only[aO,Nat.reduceLeDiff];try rfl
def X5(p q:BQ)(_k:KT):OLR:=og (o2 p.1 q.1) (og (o2 p.2.1 q.2.1) (og (o2 p.2.2.1 q.2.2.1) (og (o2 p.2.2.2.1 q.2.2.2.1) (some [RV.d tQ (hAd p.1 q.1,(hAd p.2.1 q.2.1,(hAd p.2.2.1 q.2.2.1,(hAd p.2.2.2.1 q.2.2.2.1,p.2.2.2.2))))]))))
def ai2:Cn 230 [tQ,tQ]:=cn fun(p q:BQ)=>lf (ok Qd 14000 p∧ok Qd 14000 q) [.d tQ (enc (plQ (dec p) (dec q)))] fun h=>by
 refine aA xO (X5 p q) ⟨0,?_⟩;obtain⟨hp,hq⟩:=h;obtain⟨p,rfl,bp⟩:=aB hp;obtain⟨q,rfl,bq⟩:=aB hq;unfold X5;simp only[aO,Nat.reduceLeDiff];try rfl
def Y6(p:BQ)(_k:KT):OLR:=og (o1 p.1) (og (o1 p.2.1) (og (o1 p.2.2.1) (og (o1 p.2.2.2.1) (some [RV.d tQ (hNe p.1,(hNe p.2.1,(hNe p.2.2.1,(hNe p.2.2.2.1,p.2.2.2.2))))]))))
def agi:Cn 232 [tQ]:=cn fun(p:BQ)=>lf (ok Qd 30000 p) [.d tQ (enc (miQ (dec p)))] fun h=>by
 refine aA xO (Y6 p) ⟨0,?_⟩;have hp:=h;obtain⟨p,rfl,bp⟩:=aB hp;unfold Y6;simp only[aO,Nat.reduceLeDiff];try rfl
def xG:List En:=enL aka::enL ahg::enL ai2::enL agi::xO
def Xo(v:BV)(p q:BP)(_k:KT):OLR:=og (decide (okP 580 p∧ok (Rat×Rat) 400 v)) (og (decide (okP 580 q∧ok (Rat×Rat) 400 v)) (og (decide (ok Rt 3000 (hid (enc (rwX (dec p) (dec v))))∧ok Rt 3000 (hid (enc (rwY (dec q) (dec v)))))) (og (decide (ok Rt 3000 (hid (enc (rwY (dec p) (dec v))))∧ok Rt 3000 (hid (enc (rwX (dec q) (dec v)))))) (og (decide (ok Qd 30000 (hid (enc (tiQ (dec (hid (enc (rwY (dec p) (dec v))))) (dec (hid (enc (rwX (dec q) (dec v)))))))))) (og (decide (ok Qd 14000 (hid (enc (tiQ (dec (hid (enc (rwX (dec p) (dec v))))) (dec (hid (enc (rwY (dec q) (dec v))))))))∧ok Qd 14000 (hid (enc (miQ (dec (hid (enc (tiQ (dec (hid (enc (rwY (dec p) (dec v))))) (dec (hid (enc (rwX (dec q) (dec v)))))))))))))) (og (decide (okQ (hid (enc (plQ (dec (hid (enc (tiQ (dec (hid (enc (rwX (dec p) (dec v))))) (dec (hid (enc (rwY (dec q) (dec v))))))))) (dec (hid (enc (miQ (dec (hid (enc (tiQ (dec (hid (enc (rwY (dec p) (dec v))))) (dec (hid (enc (rwX (dec q) (dec v)))))))))))))))))) (some [RV.d apY (sgQ (dec (hid (enc (plQ (dec (hid (enc (tiQ (dec (hid (enc (rwX (dec p) (dec v))))) (dec (hid (enc (rwY (dec q) (dec v))))))))) (dec (hid (enc (miQ (dec (hid (enc (tiQ (dec (hid (enc (rwY (dec p) (dec v))))) (dec (hid (enc (rwX (dec q) (dec v))))))))))))))))))])))))))
def ahe:Cn 240 [tV,tP,tP]:=cn fun(v:BV) (p q:BP)=>lf (ok (Rat×Rat) 400 v∧okP 580 p∧okP 580 q) [.d apY (RE.turS (dec v) (RE.pR (dec p)) (RE.pR (dec q)))] fun h=>by
 refine aA xG (Xo v p q) ⟨0,?_⟩;obtain⟨hv,hp,hq⟩:=h;obtain⟨v,rfl,bv⟩:=aB hv;obtain⟨p,rfl,bp,rp⟩:=aZ hp;obtain⟨q,rfl,bq,rq⟩:=aZ hq;have o1:decide (okQ (enc (plQ (tiQ (rwX p v) (rwY q v)) (miQ (tiQ (rwY p v) (rwX q v))))))=true:=Ox (k:=6000) (h:=(inferInstance:Bd (plQ (tiQ (rwX p v) (rwY q v)) (miQ (tiQ (rwY p v) (rwX q v)))) _).mono (by decide)) (by decide) rp.nn rq.nn;unfold Xo;simp only[aO,Nat.reduceAdd,Nat.reduceLeDiff,aI,o1];rw[←RE.crR_re];rfl
def Y9(d:BV)(p:BP)(_k:KT):OLR:=og (o2 d.1 p.1) (og (o2 d.2 p.2.2.1) (og (o2 (hMu d.1 p.1) (hMu d.2 p.2.2.1)) (og (o2 d.1 p.2.1) (og (o2 d.2 p.2.2.2.1) (og (o2 (hMu d.1 p.2.1) (hMu d.2 p.2.2.2.1)) (og (decide (ok Rat 100000 (hAd (hMu d.1 p.1) (hMu d.2 p.2.2.1))∧ok Rat 100000 (hAd (hMu d.1 p.2.1) (hMu d.2 p.2.2.2.1))∧ok Rat 100000 p.2.2.2.2∧0≤ag p.2.2.2.2)) (some [RV.d tO (hid (enc (mkR (ag (hAd (hMu d.1 p.1) (hMu d.2 p.2.2.1))) (ag (hAd (hMu d.1 p.2.1) (hMu d.2 p.2.2.2.1))) (ag p.2.2.2.2))))])))))))
def afI:Cn 120 [tV,tP]:=cn fun(d:BV) (p:BP)=>lf (ok (Rat×Rat) 400 d∧okP 580 p) [.d tO (enc (alR (dec d) (dec p)))] fun h=>by
 refine aA xG (Y9 d p) ⟨0,?_⟩;obtain⟨hd,hp⟩:=h;obtain⟨d,rfl,bd⟩:=aB hd;obtain⟨p,rfl,bp,rp⟩:=aZ hp;have hn:0≤p.2.2.2.2:=rp.nn;unfold Y9;simp only[aO,Nat.reduceAdd,Nat.reduceLeDiff,dT hn];rfl
def MY(l:BO3)(v:BV)(_k:KT):OLR:=og (o2 l.1 v.1) (og (o2 l.2.1 v.2) (og (o2 (hMu l.1 v.1) (hMu l.2.1 v.2)) (og (o2 l.2.2 (hAd (hMu l.1 v.1) (hMu l.2.1 v.2))) (some [RV.d tO (l.1,(l.2.1,hAd l.2.2 (hAd (hMu l.1 v.1) (hMu l.2.1 v.2))))]))))
def aem:Cn 51 [tO,tV]:=cn fun(l:BO3) (v:BV)=>lf (ok Ln 300 l∧ok (Rat×Rat) 200 v) [.d tO (enc (RE.mvLn (dec l) (dec v)))] fun h=>by
 refine aA xG (MY l v) ⟨0,?_⟩;obtain⟨hl,hv⟩:=h;obtain⟨l,rfl,bl⟩:=aB hl;obtain⟨v,rfl,bv⟩:=aB hv;unfold MY;simp only[aO,Nat.reduceAdd,Nat.reduceLeDiff];try rfl
def Qm(c:BO3)(v:BV)(_k:KT):OLR:=og (o2 c.1 v.1) (og (o2 c.2.1 v.2) (some [RV.d tO (hAd c.1 v.1,(hAd c.2.1 v.2,c.2.2))]))
def abV:Cn 50 [tO,tV]:=cn fun(c:BO3) (v:BV)=>lf (ok Ln 300 c∧ok (Rat×Rat) 200 v) [.d tO (enc (RE.mvCi (dec c) (dec v)))] fun h=>by
 refine aA xG (Qm c v) ⟨0,?_⟩;obtain⟨hc,hv⟩:=h;obtain⟨c,rfl,bc⟩:=aB hc;obtain⟨v,rfl,bv⟩:=aB hv;unfold Qm;simp only[aO,Nat.reduceLeDiff];try rfl
def wJ:List En:=enT ahe::enL afI::enL aem::enL abV::xG
def Wz(p q:BP)(r:BR)(_k:KT):OLR:=let y1:=ak ((0:Int):Rat);let y2:=dec (hid y1,hid y1);let y3:=hid (enc (rwX (dec p) y2));let y4:=hid (enc (rwX (dec q) y2));let y5:=hid (enc (rwY (dec p) y2));let y6:=hid (enc (rwY (dec q) y2));let y7:=hid (enc (tiQ (dec y3) (dec y4)));let y8:=hid (enc (tiQ (dec y5) (dec y6)));let y9:=hid (enc (plQ (dec y7) (dec y8)));let y10:=hid (enc (plQ (dec y9) (dec y9)));let y11:=hid (enc (miQ (dec y10)));let y12:=hid (enc (sqP (dec p) y2));let y13:=hAd (y11.1) (y12.1);let y14:=hid (enc (sqP (dec q) y2));og (decide (aG (0:Int))) (og (decide (aG (0:Int))) (og (decide (okP 580 p∧ok (Rat×Rat) 400 (hid y1,hid y1))) (og (decide (okP 580 q∧ok (Rat×Rat) 400 (hid y1,hid y1))) (og (decide (ok Rt 3000 y3∧ok Rt 3000 y4)) (og (decide (ok Rt 3000 y5∧ok Rt 3000 y6)) (og (decide (ok Qd 14000 y7∧ok Qd 14000 y8)) (og (decide (ok Qd 14000 y9∧ok Qd 14000 y9)) (og (decide (okP 3500 p∧ok (Rat×Rat) 300 (hid y1,hid y1))) (og (decide (okP 3500 q∧ok (Rat×Rat) 300 (hid y1,hid y1))) (og (decide (ok Qd 30000 y10)) (og (o2 (y11.1) (y12.1)) (og (o2 y13 (y14.1)) (og (o2 r r) (og (o2 (hAd y13 (y14.1)) (hMu r r)) (og (o2 ((y11.2).1) ((y12.2).1)) (og (o2 (((y11.2).2).1) ((y14.2).1)) (og (decide (okQ (hSu (hAd y13 (y14.1)) (hMu r r),(hAd ((y11.2).1) ((y12.2).1),(hAd (((y11.2).2).1) ((y14.2).1),((y11.2).2).2))))) (some [RV.d apY (sgQ (dec (hSu (hAd y13 (y14.1)) (hMu r r),(hAd ((y11.2).1) ((y12.2).1),(hAd (((y11.2).2).1) ((y14.2).1),((y11.2).2).2)))))]))))))))))))))))))
def aii:Cn 118 [tP,tP,tR]:=cn fun(p q:BP) (r:BR)=>lf (okP 580 p∧okP 580 q∧ok Rat 1000 r) [.d apY (RE.apaS (RE.pR (dec p)) (RE.pR (dec q)) (ag r))] fun h=>by
 refine aA wJ (Wz p q r) ⟨0,?_⟩;obtain⟨hp,hq,hr⟩:=h;obtain⟨p,rfl,bp,rp⟩:=aZ hp;obtain⟨q,rfl,bq,rq⟩:=aZ hq;obtain⟨r,rfl,br⟩:=aB hr;have h0:decide (aG 0)=true:=by decide
 have hz:((ak ((0:Int):Rat),ak ((0:Int):Rat)):BV)=enc z2:=rfl;have o1:=aeN (p:=p) (q:=q) (r:=r) rp.nn rq.nn;unfold Wz;simp only[aO,Nat.reduceAdd,Nat.reduceMul,Nat.reduceLeDiff,aI,h0,hz];show(match decide (okQ (enc (RE.apR p q r)))with|true=>some [RV.d apY (sgQ (dec (enc (RE.apR p q r))))]|false=>none)=_;rw[az,o1,RE.apR_re]
def Ww(c:BCU)(p:BP)(_k:KT):OLR:=let y1:=hid ((c.2.2.1.1,c.2.2.1.2.1));let y2:=RE.pR (dec c.2.2.2.2.2);let y3:=RE.pR (dec c.2.2.2.2.1);let y4:=RE.turS (dec y1) y2 y3;let y5:=RE.turS (dec y1) y2 (RE.pR (dec p));let y6:=RE.turS (dec y1) (RE.pR (dec p)) y3;let y7:OLR:=match decide (ok (Rat×Rat) 400 y1∧okP 580 c.2.2.2.2.2∧okP 580 p)with|true=>(match decide (y5≥0)with|true=>(og (decide (ok (Rat×Rat) 400 y1∧okP 580 p∧okP 580 c.2.2.2.2.1)) (some [RV.d .bool (decide (y6≥0))]))|false=>some [RV.d .bool false])|false=>none;let y8:=RE.turS (dec y1) y3 (RE.pR (dec p));let y9:=RE.turS (dec y1) (RE.pR (dec p)) y2;let y10:=RE.turS (dec y1) y3 y2;let y11:OLR:=match decide (ok (Rat×Rat) 400 y1∧okP 580 c.2.2.2.2.1∧okP 580 p)with|true=>(match decide (y8≥0)with|true=>(og (decide (ok (Rat×Rat) 400 y1∧okP 580 p∧okP 580 c.2.2.2.2.2)) (some [RV.d .bool (decide (y9≥0))]))|false=>some [RV.d .bool false])|false=>none;match c.2.2.2.1 with|true=>(og (decide (ok (Rat×Rat) 400 y1∧okP 580 c.2.2.2.2.2∧okP 580 c.2.2.2.2.1)) (match decide (y4>0)with|true=>y7|false=>(match y4==0 with|true=>y7|false=>(og (decide (ok (Rat×Rat) 400 y1∧okP 580 c.2.2.2.2.1∧okP 580 p)) (match decide (y8>0)with|true=>(og (decide (ok (Rat×Rat) 400 y1∧okP 580 p∧okP 580 c.2.2.2.2.2)) (some [RV.d .bool (!(decide (y9>0)))]))|false=>some [RV.d .bool (!false)])))))|false=>(og (decide (ok (Rat×Rat) 400 y1∧okP 580 c.2.2.2.2.1∧okP 580 c.2.2.2.2.2)) (match decide (y10>0)with|true=>y11|false=>(match y10==0 with|true=>y11|false=>(og (decide (ok (Rat×Rat) 400 y1∧okP 580 c.2.2.2.2.2∧okP 580 p)) (match decide (y5>0)with|true=>(og (decide (ok (Rat×Rat) 400 y1∧okP 580 p∧okP 580 c.2.2.2.2.1)) (some [RV.d .bool (!(decide (y6>0)))]))|false=>some [RV.d .bool (!false)])))))
def afj:Cn 128 [tCU,tP]:=cn fun(c:BCU) (p:BP)=>lf (nE c.2.2.1∧okP 580 c.2.2.2.2.1∧okP 580 c.2.2.2.2.2∧okP 580 p) [.d .bool (RE.witE (dC c) (RE.pR (dec p)))] fun h=>by
 refine aA wJ (Ww c p) ⟨0,?_⟩;obtain⟨⟨hc,_⟩,hf,ht,hp⟩:=h;obtain⟨p,rfl,bp,rp⟩:=aZ hp;obtain⟨ar,li,ci,cw,fr,to⟩:=c;simp only at hc hf ht;obtain⟨ci,rfl,bc⟩:=aB hc;obtain⟨fr,rfl,bf,rf⟩:=aZ hf;obtain⟨to,rfl,bt,rt⟩:=aZ ht;have e0:((ak ci.1,ak ci.2.1):BV)=enc (ctr ci):=rfl;unfold Ww;rw[RE.wit_eq];simp only[aO,Nat.reduceLeDiff,aI,e0];cases cw
 ·simp only[aO,dC,ciC,ccF,ccT,cwC,frC,toC];rw[RE.turS_anti (ctr ci) (RE.pR to) (RE.pR p),RE.turS_anti (ctr ci) (RE.pR p) (RE.pR fr)];exact RE.wit_gr _ _ _
 ·simp only[aO,dC,ciC,ccF,ccT,cwC,frC,toC];rw[RE.turS_anti (ctr ci) (RE.pR fr) (RE.pR p),RE.turS_anti (ctr ci) (RE.pR p) (RE.pR to)];exact RE.wit_gr _ _ _
def Zh(c:BCU)(_k:KT):OLR:=og (o1 c.2.1.1) (og (decide (ok (Rat×Rat) 400 (c.2.1.2.1,hNe c.2.1.1)∧okP 580 c.2.2.2.2.2)) (og (decide (ok (Rat×Rat) 400 (c.2.1.2.1,hNe c.2.1.1)∧okP 580 c.2.2.2.2.1)) (og (decide (okT 15000 (hid (enc (alR (dec (c.2.1.2.1,hNe c.2.1.1)) (dec c.2.2.2.2.2))))∧okT 15000 (hid (enc (alR (dec (c.2.1.2.1,hNe c.2.1.1)) (dec c.2.2.2.2.1)))))) (match decide ((aW (dec (hid (enc (alR (dec (c.2.1.2.1,hNe c.2.1.1)) (dec c.2.2.2.2.2))))) (dec (hid (enc (alR (dec (c.2.1.2.1,hNe c.2.1.1)) (dec c.2.2.2.2.1))))))<0)with|true=>(og (decide (ok (Rat×Rat) 21000 (c.2.1.2.1,hNe c.2.1.1))) (some [RV.d tV (hid (enc (bkV (dec (c.2.1.2.1,hNe c.2.1.1)))))]))|false=>some [RV.d tV (c.2.1.2.1,hNe c.2.1.1)]))))
def akd:Cn 119 [tCU]:=cn fun(c:BCU)=>lf (ok Ln 300 c.2.1∧okP 580 c.2.2.2.2.1∧okP 580 c.2.2.2.2.2) [.d tV (enc (oh (dC c)))] fun h=>by
 refine aA wJ (Zh c) ⟨0,?_⟩;obtain⟨hl,hf,ht⟩:=h;obtain⟨ar,li,ci,cw,fr,to⟩:=c;simp only at hl hf ht;obtain⟨li,rfl,bl⟩:=aB hl;obtain⟨fr,rfl,bf,rf⟩:=aZ hf;obtain⟨to,rfl,bt,rt⟩:=aZ ht;have e0:((ak li.2.1,ak (-li.1)):BV)=enc (l4 li):=rfl;unfold Zh oh;simp only[aO,Nat.reduceAdd,Nat.reduceMul,Nat.reduceLeDiff,aH,aI,e0,dC,lnC,frC,toC];cases decide (aW (alR (l4 li) to) (alR (l4 li) fr)<0)<;>rfl
def WA(c:BCU)(v:BV)(_k:KT):OLR:=match c.1 with|true=>(og (decide (ok Ln 300 c.2.2.1∧ok (Rat×Rat) 200 v)) (og (decide (ok Pt 21000 c.2.2.2.2.1∧ok (Rat×Rat) 1000 v)) (og (decide (ok Pt 21000 c.2.2.2.2.2∧ok (Rat×Rat) 1000 v)) (some [RV.d tCU (c.1,(c.2.1,(hid (enc (RE.mvCi (dec c.2.2.1) (dec v))),(c.2.2.2.1,(hid (enc (trP (dec c.2.2.2.2.1) (dec v))),hid (enc (trP (dec c.2.2.2.2.2) (dec v))))))))]))))|false=>(og (decide (ok Ln 300 c.2.1∧ok (Rat×Rat) 200 v)) (og (decide (ok Pt 21000 c.2.2.2.2.1∧ok (Rat×Rat) 1000 v)) (og (decide (ok Pt 21000 c.2.2.2.2.2∧ok (Rat×Rat) 1000 v)) (some [RV.d tCU (c.1,(hid (enc (RE.mvLn (dec c.2.1) (dec v))),(c.2.2.1,(c.2.2.2.1,(hid (enc (trP (dec c.2.2.2.2.1) (dec v))),hid (enc (trP (dec c.2.2.2.2.2) (dec v))))))))]))))
def aiE:Cn 17 [tCU,tV]:=cn fun(c:BCU) (v:BV)=>lf (okC 500 c∧ok (Rat×Rat) 10 v) [.d tCU (mvB c (dec v))] fun h=>by
 refine aA wJ (WA c v) ⟨0,?_⟩;obtain⟨hc,hv⟩:=h;obtain⟨v,rfl,bv⟩:=aB hv;obtain⟨ar,li,ci,cw,fr,to⟩:=c;have h3:=hc.2.2.1;have h4:=hc.2.2.2;simp only at h3 h4;obtain⟨fr,rfl,bf,rf⟩:=aZ h3;obtain⟨to,rfl,bt,rt⟩:=aZ h4;unfold WA mvB;cases ar
 ·obtain⟨c2,_⟩:=hc.2.1 rfl;simp only at c2;obtain⟨li,rfl,bl⟩:=aB c2;simp only[aO,Nat.reduceLeDiff]
 ·obtain⟨c1,_⟩:=hc.1 rfl;simp only at c1;obtain⟨ci,rfl,bc⟩:=aB c1;simp only[aO,Nat.reduceLeDiff]
def adl:List En:=enT aii::enT afj::enL akd::enL aiE::wJ
def aaq(c:BCU)(p:BP)(r:BR)(_k:KT):OLR:=let y1:=hid (enc (oh (dC c)));let y2:=hid (enc (alR (dec y1) (dec p)));let y3:=hid (enc (alR (dec y1) (dec c.2.2.2.2.1)));let y4:=RE.pR (dec c.2.2.2.2.2);let y5:=RE.pR (dec c.2.2.2.2.1);let y6:=hid (enc (alR (dec y1) (dec c.2.2.2.2.2)));let y7:=hMu c.2.1.1 c.2.1.1;let y8:=hMu c.2.1.2.1 c.2.1.2.1;let y9:=hid (enc (oU (dec c.2.1) (dec p)));let y10:=hid (enc (iA (dec y9) (dec y9)));let y11:=hMu (hMu r r) (hAd y7 y8);let y12:=hid ((c.2.2.1.1,c.2.2.1.2.1));let y13:=hid (enc (atP (dec y12)));let y14:=ag c.2.2.1.2.2;let y15:=aD y14 (ag (hMu r r));let y16:=hAd c.2.2.1.2.2 (hMu r r);let y17:=hid (enc (sqP (dec p) (dec y12)));let y18:=hid (enc (mkR (ag y16) (ag (hAd r r)) y14));let y19:=aW (dec y17) (dec y18);let y20:=hid (enc (mkR (ag y16) (ag (hNe (hAd r r))) y14));og (o1 r) (match decide ((aD (ag r) 0)<0)with|true=>some [RV.d apY 1]|false=>(og (decide (okP 580 c.2.2.2.2.1∧okP 580 p∧ok Rat 1000 r)) (og (decide (okP 580 c.2.2.2.2.2∧okP 580 p∧ok Rat 1000 r)) (match !c.1 with|true=>(og (decide (ok Ln 300 c.2.1∧okP 580 c.2.2.2.2.1∧okP 580 c.2.2.2.2.2)) (og (decide (ok (Rat×Rat) 400 y1∧okP 580 p)) (og (decide (ok (Rat×Rat) 400 y1∧okP 580 c.2.2.2.2.1)) (og (decide (okT 15000 y2∧okT 15000 y3)) (match decide ((aW (dec y2) (dec y3))<0)with|true=>some [RV.d apY (if RE.apaS y4 (RE.pR (dec p)) (ag r)<RE.apaS y5 (RE.pR (dec p)) (ag r)then RE.apaS y4 (RE.pR (dec p)) (ag r)else RE.apaS y5 (RE.pR (dec p)) (ag r))]|false=>(og (decide (ok (Rat×Rat) 400 y1∧okP 580 c.2.2.2.2.2)) (og (decide (okT 15000 y2∧okT 15000 y6)) (match decide ((aW (dec y2) (dec y6))>0)with|true=>some [RV.d apY (if RE.apaS y4 (RE.pR (dec p)) (ag r)<RE.apaS y5 (RE.pR (dec p)) (ag r)then RE.apaS y4 (RE.pR (dec p)) (ag r)else RE.apaS y5 (RE.pR (dec p)) (ag r))]|false=>(og (o2 c.2.1.1 c.2.1.1) (og (o2 c.2.1.2.1 c.2.1.2.1) (og (o2 y7 y8) (og (decide (ok Ln 300 c.2.1∧okP 4000 p)) (og (decide (ok Rt 50000 y9)) (og (o2 r r) (og (o2 (hMu r r) (hAd y7 y8)) (og (decide (okT 15000 y10∧ok Rat 15000 y11)) (some [RV.d apY (fq (dec y10) (ag y11))])))))))))))))))))|false=>(og (decide (ok (Rat×Rat) 100000 y12)) (og (decide (okP 4000 p∧okP 4000 y13)) (match aX (dec p) (dec y13)==0 with|true=>(og (o2 r r) (og (o2 c.2.2.1.2.2 (hMu r r)) (some [RV.d apY y15])))|false=>(og (decide (nE c.2.2.1∧okP 580 c.2.2.2.2.1∧okP 580 c.2.2.2.2.2∧okP 580 p)) (match !(RE.witE (dC c) (RE.pR (dec p)))with|true=>some [RV.d apY (if RE.apaS y4 (RE.pR (dec p)) (ag r)<RE.apaS y5 (RE.pR (dec p)) (ag r)then RE.apaS y4 (RE.pR (dec p)) (ag r)else RE.apaS y5 (RE.pR (dec p)) (ag r))]|false=>(og (decide (okP 3500 p∧ok (Rat×Rat) 300 y12)) (og (o2 r r) (og (o2 c.2.2.1.2.2 (hMu r r)) (og (o2 r r) (og (decide (ok Rat 100000 y16∧ok Rat 100000 (hAd r r)∧ok Rat 100000 c.2.2.1.2.2∧0≤ag c.2.2.1.2.2)) (og (o2 r r) (og (o1 (hAd r r)) (og (decide (ok Rat 100000 y16∧ok Rat 100000 (hNe (hAd r r))∧ok Rat 100000 c.2.2.1.2.2∧0≤ag c.2.2.1.2.2)) (og (decide (okT 15000 y17∧okT 15000 y18)) (match decide (y19≥0)with|true=>some [RV.d apY y19]|false=>(og (o2 r r) (og (o2 c.2.2.1.2.2 (hMu r r)) (match decide (y15≤0)with|true=>some [RV.d apY (-1)]|false=>(og (decide (okT 15000 y17∧okT 15000 y20)) (some [RV.d apY (i64.wrap (0-(aW (dec y17) (dec y20))))]))))))))))))))))))))))))
open Classical in
def agf:Cn 47 [tCU,tP,tR]:=cn fun(c:BCU) (p:BP) (r:BR)=>lf (okC 580 c∧okP 580 p∧ok Rat 1000 r) [.d apY (RE.poiE (dC c) (RE.pR (dec p)) (ag r))] fun h=>by
 refine aA adl (aaq c p r) ⟨0,?_⟩;obtain⟨hc,hp,hr⟩:=h;have hp1:=cD (k:=580) hp (by decide) (by decide);have hp6:=cD (k:=580) hp (by decide) (by decide);obtain⟨p,rfl,bp,rp⟩:=aZ hp;obtain⟨r,rfl,br⟩:=aB hr;obtain⟨ar,li,ci,cw,fr,to⟩:=c;have h3:=hc.2.2.1;have h4:=hc.2.2.2;simp only at h3 h4;obtain⟨fr,rfl,bf,rf⟩:=aZ h3;obtain⟨to,rfl,bt,rt⟩:=aZ h4;have o1:decide (okP 580 (enc fr)∧okP 580 (enc p)∧ok Rat 1000 (ak r))=true:=amE ⟨h3,hp1,hr⟩;have o2:decide (okP 580 (enc to)∧okP 580 (enc p)∧ok Rat 1000 (ak r))=true:=amE ⟨h4,hp1,hr⟩;rw[dN,ck,az];unfold aaq RE.poiE;cases ar
 ·obtain⟨c2,c3⟩:=hc.2.1 rfl;simp only at c2 c3;obtain⟨li,rfl,bl⟩:=aB c2;have bvv:=agj (l:=li) (p:=p);have hb:(decide (aW (alR (oh (false,li,dec ci,cw,fr,to)) p) (alR (oh (false,li,dec ci,cw,fr,to)) fr)<0)||decide (aW (alR (oh (false,li,dec ci,cw,fr,to)) p) (alR (oh (false,li,dec ci,cw,fr,to)) to)>0))=!(RE.besE (false,li,dec ci,cw,fr,to) (RE.pR p)):=RE.dir_bes (c:=(false,li,dec ci,cw,fr,to)) (hf:=rf) (ht:=rt) (p:=p)
  have q2:fq (iA (oU li p) (oU li p)) (r*r*(li.1*li.1+li.2.1*li.2.1))=RE.sg (RE.exE li (RE.pR p)*RE.exE li (RE.pR p)-RE.of (r*r*(li.1*li.1+li.2.1*li.2.1))):=by
   have rv:Rdd (oU li p):=inferInstance;rw[RE.cmpTR_re (UL (r:=oU li p)).nn,RE.vR_sqr rv,RE.vR_val]
  dsimp only;simp only[aO,Nat.reduceAdd,Nat.reduceMul,Nat.reduceLeDiff,aH,aI,aq,o1,o2,RE.min_if,Bool.not_false,dC,lnC,q2];revert hb;cases decide (aW (alR (oh (false,li,dec ci,cw,fr,to)) p) (alR (oh (false,li,dec ci,cw,fr,to)) fr)<0)<;>cases decide (aW (alR (oh (false,li,dec ci,cw,fr,to)) p) (alR (oh (false,li,dec ci,cw,fr,to)) to)>0)<;>cases RE.besE (false,li,dec ci,cw,fr,to) (RE.pR p)<;>intro hb<;>first|exact absurd hb (by decide)|(cases decide (r<0)<;>rfl)
 ·obtain⟨c1,hq⟩:=hc.1 rfl;have hci:nE ci:=⟨c1,hq⟩
  simp only at c1 hq;obtain⟨ci,rfl,bc⟩:=aB c1;rw[az]at hq;have e0:((ak ci.1,ak ci.2.1):BV)=enc (ctr ci):=rfl;have nq:Nn ci.2.2:=⟨by grind⟩
  have z:(aX p (atP (ctr ci))==0)=decide (RE.pR p=RE.vE (ctr ci)):=by
   rw[aoC,anJ];exact RE.cen_eq
  have vs:RE.vR (sqP p (ctr ci))=RE.dsE (RE.pR p) (RE.vE (ctr ci)):=RE.vR_sq _;have rs:Rdd (sqP p (ctr ci)):=inferInstance
  have m:∀a b,aW (sqP p (ctr ci)) (mkR a b ci.2.2)=RE.sg (RE.dsE (RE.pR p) (RE.vE (ctr ci))-RE.v2 a b ci.2.2):=fun a b=>by
   rw[RE.cmpT_re rs.nn (pO (a:=a) (b:=b) (c:=ci.2.2)).nn,RE.vR_mk,vs]
  dsimp only;unfold RE.rngS;simp only[aO,Nat.reduceAdd,Nat.reduceMul,Nat.reduceLeDiff,aH,aI,aq,e0,o1,o2,amE hci,RE.min_if,Bool.not_true,dC,ciC,z,m,ge_iff_le,RE.wr_sg,dT nq.le];cases decide (r<0)
  ·cases decide (RE.pR p=RE.vE (ctr ci))
   ·cases RE.witE (true,dec li,ci,cw,fr,to) (RE.pR p)
    ·rfl
    ·cases decide (0≤RE.sg (RE.dsE (RE.pR p) (RE.vE (ctr ci))-RE.v2 (ci.2.2+r*r) (r+r) ci.2.2))
     ·cases decide (aD ci.2.2 (r*r)≤0)<;>rfl
     ·rfl
   ·rfl
  ·rfl
end
def GE:List En:=[enT iV,enL kD,enL lT,enT pu,enL lV,enL m7,enT Gd]
def P3(d p q r:BR)(_k:KT):OLR:=og (o1 d) (match decide ((aD (ag d) 0)<0)with|true=>some [RV.d apY 0,RV.d apY 7]|false=>(og (o1 p) (match decide ((aD (ag p) 0)<0)with|true=>some [RV.d apY 0,RV.d apY 7]|false=>(og (o1 q) (match decide ((aD (ag q) 0)<0)with|true=>some [RV.d apY 0,RV.d apY 7]|false=>(og (o1 r) (match decide ((aD (ag r) 0)<0)with|true=>some [RV.d apY 0,RV.d apY 7]|false=>(og (o2 d p) (og (o2 (hSu d p) q) (og (o2 r r) (og (o2 (hSu (hSu d p) q) (hMu r r)) (og (decide (aG ((-2):Int))) (og (o2 (hid (ak (((-2):Int):Rat))) r) (og (decide (aG ((-2):Int))) (og (decide (okQ (hSu (hSu (hSu d p) q) (hMu r r),(hMu (hid (ak (((-2):Int):Rat))) r,(hMu (hid (ak (((-2):Int):Rat))) r,(hid (ak (((-2):Int):Rat)),(p,q))))))) (some [RV.d apY (sgQ (dec (hSu (hSu (hSu d p) q) (hMu r r),(hMu (hid (ak (((-2):Int):Rat))) r,(hMu (hid (ak (((-2):Int):Rat))) r,(hid (ak (((-2):Int):Rat)),(p,q))))))),RV.d apY 0]))))))))))))))))
def acB:Cn 316 [tR,tR,tR,tR]:=cn fun(d p q r:BR)=>lf (n4P d p q r) [.d apY (iD (ag d) (ag p) (ag q) (ag r)),.d apY 0] fun h=>by
 refine aA GE (P3 d p q r) ⟨0,?_⟩;obtain⟨d,p,q,r,⟨rfl,rfl,rfl,rfl⟩,bd,bp,bq,br,nd,np,nq,nr_⟩:=DZ h;have i2:decide (aG 2)=true:=by decide
 have im:decide (aG (-2))=true:=by decide
 have b2:Bd ((2:Int):Rat) 3:=bS (n:=2) (by decide);have bm:Bd ((-2:Int):Rat) 3:=bS (n:= -2) (by decide);have b2':Bd (2:Rat) 3:=b2;have bm':Bd (-2:Rat) 3:=bm;have b0:Bd (0:Rat) 3:=bS (n:=0) (by decide);have e2:((2:Int):Rat)=2:=rfl;have em:((-2:Int):Rat)= -2:=rfl;have n1:Nn p:=⟨np⟩
 have n2:Nn q:=⟨nq⟩
 have o1:decide (okQ (enc ((d-p-q-r*r,-2*r,-2*r,-2,p,q):Qd)))=true:=qN (by decide) (by decide) (by decide) (by decide) (by decide) (by decide);unfold P3;simp only[aO,Nat.reduceAdd,Nat.reduceLeDiff,aq,im,em,dF (show ¬d<0 by grind),dF (show ¬p<0 by grind),dF (show ¬q<0 by grind),dF (show ¬r<0 by grind)];show og (decide (okQ (enc ((d-p-q-r*r,-2*r,-2*r,-2,p,q):Qd)))) (some [RV.d apY (sgQ (dec (enc ((d-p-q-r*r,-2*r,-2*r,-2,p,q):Qd)))),_])=_;rw[o1,az];rfl
def Xq(_k:KT):OLR:=og (decide (aG (0:Int))) (some [RV.d tR (hid (ak ((0:Int):Rat)))])
def ajE:Cn 246 []:=cn<|lf True [.d tR (ak 0)] fun _=>by
 refine aA GE (Xq) ⟨0,?_⟩;unfold Xq;rw[dT (show aG 0 by decide)];simp only[bK];rfl
def He:List En:=enL ajE::GE
def Yk(a b c d:BR)(_k:KT):OLR:=og (o2 a b) (og (o2 c d) (og (o2 (hAd a b) (hAd c d)) (og (decide (aG (2:Int))) (og (decide (aG ((-2):Int))) (og (o2 a b) (og (o2 c d) (og (decide (okQ (hSu (hAd a b) (hAd c d),(hid (ak ((2:Int):Rat)),(hid (ak (((-2):Int):Rat)),(hid (ak 0),(hMu a b,hMu c d))))))) (some [RV.d apY (sgQ (dec (hSu (hAd a b) (hAd c d),(hid (ak ((2:Int):Rat)),(hid (ak (((-2):Int):Rat)),(hid (ak 0),(hMu a b,hMu c d)))))))]))))))))
def aiI:Cn 247 [tR,tR,tR,tR]:=cn fun(a b c d:BR)=>lf (n4P a b c d) [.d apY (JW (ag a) (ag b) (ag c) (ag d))] fun h=>by
 refine aA He (Yk a b c d) ⟨0,?_⟩;obtain⟨a,b,c,d,⟨rfl,rfl,rfl,rfl⟩,ba,bb,bc,bd,na,nb,nc,nd⟩:=DZ h;have i2:decide (aG 2)=true:=by decide
 have im:decide (aG (-2))=true:=by decide
 have b2:Bd ((2:Int):Rat) 3:=bS (n:=2) (by decide);have bm:Bd ((-2:Int):Rat) 3:=bS (n:= -2) (by decide);have b2':Bd (2:Rat) 3:=b2;have bm':Bd (-2:Rat) 3:=bm;have b0:Bd (0:Rat) 3:=bS (n:=0) (by decide);have e2:((2:Int):Rat)=2:=rfl;have em:((-2:Int):Rat)= -2:=rfl;have n1:Nn (a*b):=⟨amU na nb⟩
 have n2:Nn (c*d):=⟨amU nc nd⟩
 have o1:decide (okQ (enc ((a+b-(c+d),2,-2,0,a*b,c*d):Qd)))=true:=qN (by decide) (by decide) (by decide) (by decide) (by decide) (by decide);unfold Yk;simp only[aO,Nat.reduceAdd,Nat.reduceLeDiff,i2,im,e2,em];show og (decide (okQ (enc ((a+b-(c+d),2,-2,0,a*b,c*d):Qd)))) (some [RV.d apY (sgQ (dec (enc ((a+b-(c+d),2,-2,0,a*b,c*d):Qd))))])=_;rw[o1,az];rfl
def Zs(a b c r:BR)(_k:KT):OLR:=og (o2 r r) (og (o2 (hMu r r) c) (match decide ((aD (ag (hMu r r)) (ag c))<0)with|true=>some [RV.d apY 1]|false=>(og (o2 a b) (og (o2 (hMu r r) c) (og (o2 (hAd a b) (hAd (hMu r r) c)) (og (decide (aG (2:Int))) (og (o2 r r) (og (o2 a b) (og (decide (okQ (hSu (hAd a b) (hAd (hMu r r) c),(hid (ak ((2:Int):Rat)),(hAd r r,(hid (ak 0),(hMu a b,c))))))) (some [RV.d apY (sgQ (dec (hSu (hAd a b) (hAd (hMu r r) c),(hid (ak ((2:Int):Rat)),(hAd r r,(hid (ak 0),(hMu a b,c)))))))]))))))))))
def agw:Cn 137 [tR,tR,tR,tR]:=cn fun(a b c r:BR)=>lf (n4P a b c r) [.d apY (B0 (ag a) (ag b) (ag c) (ag r))] fun h=>by
 refine aA He (Zs a b c r) ⟨0,?_⟩;obtain⟨a,b,c,r,⟨rfl,rfl,rfl,rfl⟩,ba,bb,bc,br,na,nb,nc,nr_⟩:=DZ h;have i2:decide (aG 2)=true:=by decide
 have im:decide (aG (-2))=true:=by decide
 have b2:Bd ((2:Int):Rat) 3:=bS (n:=2) (by decide);have bm:Bd ((-2:Int):Rat) 3:=bS (n:= -2) (by decide);have b2':Bd (2:Rat) 3:=b2;have bm':Bd (-2:Rat) 3:=bm;have b0:Bd (0:Rat) 3:=bS (n:=0) (by decide);have e2:((2:Int):Rat)=2:=rfl;have em:((-2:Int):Rat)= -2:=rfl;have n1:Nn (a*b):=⟨amU na nb⟩
 have n2:Nn c:=⟨nc⟩
 have o1:decide (okQ (enc ((a+b-(r*r+c),2,r+r,0,a*b,c):Qd)))=true:=qN (by decide) (by decide) (by decide) (by decide) (by decide) (by decide);unfold Zs B0;simp only[aO,Nat.reduceAdd,Nat.reduceLeDiff,aq,i2,e2];cases decide (r*r<c)
 ·show og (decide (okQ (enc ((a+b-(r*r+c),2,r+r,0,a*b,c):Qd)))) (some [RV.d apY (sgQ (dec (enc ((a+b-(r*r+c),2,r+r,0,a*b,c):Qd))))])=_;rw[o1,az];rfl
 ·rfl
def Pj:List En:=enT acB::He
def afq:Cn 245 [tR,tR,tR,tR]:=cn fun(a b c r:BR)=>lf (n4P a b c r) [.d apY (iD (ag a) (ag b) (ag c) (ag r))] fun h=>jH [RV.d apY (iD (ag a) (ag b) (ag c) (ag r))] (du Pj) h
def LL:List En:=enT afq::enT aiI::Pj
def ZU(a b r:BR)(_k:KT):OLR:=og (o2 a b) (match decide ((aD (ag a) (ag b))<0)with|true=>(og (decide (n4P b a (hid (ak 0)) r)) (some [RV.d apY (iD (ag b) (ag a) (ag (hid (ak 0))) (ag r))]))|false=>(og (decide (n4P a b (hid (ak 0)) r)) (some [RV.d apY (iD (ag a) (ag b) (ag (hid (ak 0))) (ag r))])))
def ahN:Cn 139 [tR,tR,tR]:=cn fun(a b r:BR)=>lf (n3P a b r) [.d apY (FL (ag a) (ag b) (ag r))] fun h=>by
 refine aA LL (ZU a b r) ⟨0,?_⟩;obtain⟨a,b,r,rfl,rfl,rfl,ba,bb,br,na,nb,nr_⟩:=Re h;have b0:Bd (0:Rat) 3:=bS (n:=0) (by decide);have z0:(0:Rat)≤0:=by decide
 have k1:=(xk (a:=a) (b:=b) (c:=0) (e:=r) (i:=2000) (j:=2000) (k:=3) (l:=2000) (by decide) (by decide) (by decide) (by decide) na nb z0 nr_)
 have k2:=(xk (a:=b) (b:=a) (c:=0) (e:=r) (i:=2000) (j:=2000) (k:=3) (l:=2000) (by decide) (by decide) (by decide) (by decide) nb na z0 nr_)
 unfold ZU FL;simp only[aO,Nat.reduceLeDiff,aq,k1,k2];cases decide (a<b)<;>rfl
def Y2(a b c r:BR)(_k:KT):OLR:=og (decide (n4P c a b (hid (ak 0)))) (match decide ((iD (ag c) (ag a) (ag b) (ag (hid (ak 0))))>0)with|true=>(og (decide (n4P c a b r)) (some [RV.d apY (iD (ag c) (ag a) (ag b) (ag r))]))|false=>(og (o2 r r) (og (decide (n4P a b c (hMu r r))) (some [RV.d apY (JW (ag a) (ag b) (ag c) (ag (hMu r r)))]))))
def aim:Cn 136 [tR,tR,tR,tR]:=cn fun(a b c r:BR)=>lf (n3P a b c∧ok Rat 1000 r∧0≤ag r) [.d apY (sH (ag a) (ag b) (ag c) (ag r))] fun h=>by
 refine aA LL (Y2 a b c r) ⟨0,?_⟩;obtain⟨h,hr,nr_⟩:=h;obtain⟨a,b,c,rfl,rfl,rfl,ba,bb,bc,na,nb,nc⟩:=Re h;obtain⟨r,rfl,br⟩:=aB hr;rw[dN,ck]at nr_;have b0:Bd (0:Rat) 3:=bS (n:=0) (by decide);have z0:(0:Rat)≤0:=by decide
 have k1:=(xk (a:=c) (b:=a) (c:=b) (e:=0) (i:=2000) (j:=2000) (k:=2000) (l:=3) (by decide) (by decide) (by decide) (by decide) nc na nb z0)
 have k2:=(xk (a:=c) (b:=a) (c:=b) (e:=r) (i:=2000) (j:=2000) (k:=2000) (l:=1000) (by decide) (by decide) (by decide) (by decide) nc na nb nr_)
 have b3:Bd (r*r) 2000:=(inferInstance:Bd (r*r) _).mono (by decide);have k3:=(xk (a:=a) (b:=b) (c:=c) (e:=r*r) (i:=2000) (j:=2000) (k:=2000) (l:=2000) (by decide) (by decide) (by decide) (by decide) na nb nc (amU nr_ nr_))
 unfold Y2 sH;simp only[aO,Nat.reduceLeDiff,k1,k2,k3];cases decide (iD c a b 0>0)<;>rfl
def PH:List En:=[enL Gu,enL Xk]
def XQ(v:BV)(_k:KT):OLR:=og (decide (ok (Rat×Rat) 21000 v)) (some [RV.d tV (hid (enc (bkV (dec v))))])
def ajQ:Cn 135 [tV]:=cn fun(v:BV)=>lf (ok (Rat×Rat) 500 v) [.d tV (enc (bkV (dec v)))] fun h=>by
 refine aA PH (XQ v) ⟨0,?_⟩;have hv:=h;obtain⟨v,rfl,bv⟩:=aB hv;unfold XQ;simp only[aO,Nat.reduceLeDiff];try rfl
def X4(v:BV)(_k:KT):OLR:=og (decide (ok (Rat×Rat) 5000 v∧ok (Rat×Rat) 5000 v)) (some [RV.d tR (hid (ak (aY (dec v) (dec v))))])
def XC:Cn 133 [tV]:=cn fun(v:BV)=>lf (ok (Rat×Rat) 500 v) [.d tR (ak (aY (dec v) (dec v)))] fun h=>by
 refine aA PH (X4 v) ⟨0,?_⟩;have hv:=h;obtain⟨v,rfl,bv⟩:=aB hv;unfold X4;simp only[aO,Nat.reduceLeDiff];try rfl
def abz:List En:=[enL A7,enL Gj,enL Yr,enT Ek,enL um,enT aaQ,enL XC,enT ahN]
def XJ(s a:BCU)(r:BR)(_k:KT):OLR:=let y1:=hid ((a.2.2.1.1,a.2.2.1.2.1));let y2:=hid (enc (dp (dec s.2.1) (dec y1)));let y3:=hid (enc (atP (dec y2)));let y4:=hid (enc (bi (dec y1) (dec y2)));let y5:=hid (ak (aY (dec y4) (dec y4)));og (decide (ok Ln 300 s.2.1∧ok (Rat×Rat) 200 y1∧((dec s.2.1:Ln).1≠0∨(dec s.2.1:Ln).2.1≠0))) (og (decide (ok (Rat×Rat) 1000 y1∧ok (Rat×Rat) 1000 y2)) (og (decide (ok (Rat×Rat) 100000 y2)) (og (decide (okC 3500 s∧okP 3500 y3)) (match !(onR (dC s) (dec y3))with|true=>some [RV.d apY 1]|false=>(og (decide (gdC a∧ok (Rat×Rat) 510 y4)) (match !(co (dC a) (dec y4))with|true=>some [RV.d apY 1]|false=>(og (decide (ok (Rat×Rat) 500 y4)) (og (decide (n3P y5 a.2.2.1.2.2 r)) (some [RV.d apY (FL (ag y5) (ag a.2.2.1.2.2) (ag r))])))))))))
def aeW:Cn 49 [tCU,tCU,tR]:=cn fun(s a:BCU) (r:BR)=>lf (vJ s a∧ok Rat 1000 r∧0≤ag r∧gdC a) [.d apY (CZ (dC s) (dC a) (ag r))] fun h=>by
 refine aA abz (XJ s a r) ⟨0,?_⟩;obtain⟨⟨hs,ha,es,ea⟩,hr,nr_,ga⟩:=h;have hF:=Gi hs.2 ha.2 es ea;obtain⟨ar,li,ci,cw,fr,to⟩:=s;obtain⟨ar',li',ci',cw',fr',to'⟩:=a;simp only at es ea;subst es ea;obtain⟨l1,l2⟩:=hs.1.2.1 rfl;simp only at l1 l2;obtain⟨li,rfl,bl⟩:=aB l1;obtain⟨ci',rfl,bc,qc⟩:=cE (ha.2.1 rfl);obtain⟨r,rfl,br⟩:=aB hr;rw[dN,ck]at nr_;have bc':Bd (ctr ci') 200:=(inferInstance:Bd ((ci'.1,ci'.2.1):Rat×Rat) _).mono (by decide);have e0:((ak ci'.1,ak ci'.2.1):BV)=enc (ctr ci'):=rfl;rw[az]at l2;simp only[ftv,dC,lnC,ciC,az]at hF;have bd:Bd (aY (bi (ctr ci') (dp li (ctr ci'))) (bi (ctr ci') (dp li (ctr ci')))) 2000:=(inferInstance:Bd (aY (bi (ctr ci') (dp li (ctr ci'))) (bi (ctr ci') (dp li (ctr ci')))) _).mono (by decide);have bw:Bd (bi (ctr ci') (dp li (ctr ci'))) 500:=(inferInstance:Bd (bi (ctr ci') (dp li (ctr ci'))) _).mono (by decide);have k:=(UW (a:=aY (bi (ctr ci') (dp li (ctr ci'))) (bi (ctr ci') (dp li (ctr ci')))) (b:=ci'.2.2) (c:=r) (i:=2000) (j:=13) (k:=1000) (by decide) (by decide) (by decide) (jT _) (by grind) nr_)
 have gd:decide (gdC _)=true:=dT ga;unfold XJ CZ ftv qI;simp only[dC,lnC,ciC,az]at gd ⊢;simp only[aO,Nat.reduceLeDiff,aI,e0,dT l2,dT (bU (k:=3500) hs.1 (by decide) (by decide)),gd,k];cases onR (false,li,dec ci,cw,dec fr,dec to) (atP (dp li (ctr ci')))
 ·rfl
 ·cases co (true,dec li',ci',cw',dec fr',dec to') (bi (ctr ci') (dp li (ctr ci')))<;>rfl
def acK:List En:=[enL A7,enL Yr,enL XC,enT iV,enT aaQ,enL ajQ,enT aim,enT agw]
def Z2(c d:BCU)(r:BR)(_k:KT):OLR:=let y1:=hid ((c.2.2.1.1,c.2.2.1.2.1));let y2:=hid ((d.2.2.1.1,d.2.2.1.2.1));let y3:=hid (enc (bi (dec y1) (dec y2)));let y4:=ok (Rat×Rat) 500 y3;let y5:=hid (ak (aY (dec y3) (dec y3)));let y6:=hid (enc (bkV (dec y3)));let y7:=n4P y5 c.2.2.1.2.2 d.2.2.1.2.2 r;let y8:=ag c.2.2.1.2.2;let y9:=ag d.2.2.1.2.2;let y10:=mn2 1 (sH y8 y9 (ag y5) (ag r));let y11:=sH (ag y5) y9 y8 (ag r);let y12:=sH (ag y5) y8 y9 (ag r);let y13:=mn2 (mn2 y10 y11) y12;let y14:=B0 (ag y5) y8 y9 (ag r);let y15:OLR:=match co (dC c) (dec y6)with|true=>(match co (dC d) (dec y3)with|true=>(og (decide y7) (some [RV.d apY (mn2 (mn2 y10 y11) y14)]))|false=>some [RV.d apY (mn2 y10 y11)])|false=>some [RV.d apY (mn2 y10 y11)];let y16:OLR:=match co (dC c) (dec y6)with|true=>(match co (dC d) (dec y3)with|true=>(og (decide y7) (some [RV.d apY (mn2 y10 y14)]))|false=>some [RV.d apY y10])|false=>some [RV.d apY y10];let y17:OLR:=match co (dC c) (dec y6)with|true=>(match co (dC d) (dec y6)with|true=>(og (decide (n3P y5 c.2.2.1.2.2 d.2.2.1.2.2∧ok Rat 1000 r∧0≤ag r)) (match co (dC c) (dec y6)with|true=>(match co (dC d) (dec y3)with|true=>(og (decide y7) (some [RV.d apY (mn2 (mn2 y10 y12) y14)]))|false=>some [RV.d apY (mn2 y10 y12)])|false=>some [RV.d apY (mn2 y10 y12)]))|false=>y16)|false=>y16;let y18:=mn2 (mn2 1 y11) y12;let y19:OLR:=match co (dC c) (dec y6)with|true=>(match co (dC d) (dec y3)with|true=>(og (decide y7) (some [RV.d apY (mn2 (mn2 1 y11) y14)]))|false=>some [RV.d apY (mn2 1 y11)])|false=>some [RV.d apY (mn2 1 y11)];let y20:OLR:=match co (dC c) (dec y6)with|true=>(match co (dC d) (dec y3)with|true=>(og (decide y7) (some [RV.d apY (mn2 1 y14)]))|false=>some [RV.d apY 1])|false=>some [RV.d apY 1];let y21:OLR:=match co (dC c) (dec y6)with|true=>(match co (dC d) (dec y6)with|true=>(og (decide (n3P y5 c.2.2.1.2.2 d.2.2.1.2.2∧ok Rat 1000 r∧0≤ag r)) (match co (dC c) (dec y6)with|true=>(match co (dC d) (dec y3)with|true=>(og (decide y7) (some [RV.d apY (mn2 (mn2 1 y12) y14)]))|false=>some [RV.d apY (mn2 1 y12)])|false=>some [RV.d apY (mn2 1 y12)]))|false=>y20)|false=>y20;let y22:OLR:=match co (dC c) (dec y3)with|true=>(match co (dC d) (dec y3)with|true=>(og (decide (n3P y5 d.2.2.1.2.2 c.2.2.1.2.2∧ok Rat 1000 r∧0≤ag r)) (match co (dC c) (dec y6)with|true=>(match co (dC d) (dec y6)with|true=>(og (decide (n3P y5 c.2.2.1.2.2 d.2.2.1.2.2∧ok Rat 1000 r∧0≤ag r)) (match co (dC c) (dec y6)with|true=>(match co (dC d) (dec y3)with|true=>(og (decide y7) (some [RV.d apY (mn2 y18 y14)]))|false=>some [RV.d apY y18])|false=>some [RV.d apY y18]))|false=>y19)|false=>y19))|false=>y21)|false=>y21;og (decide (ok (Rat×Rat) 1000 y1∧ok (Rat×Rat) 1000 y2)) (og (decide y4) (og (o1 y5) (match(aD (ag y5) 0)==0 with|true=>some [RV.d apY 1]|false=>(og (decide (gdC c∧ok (Rat×Rat) 510 y3)) (og (decide y4) (og (decide (gdC c∧ok (Rat×Rat) 510 y6)) (og (decide y4) (og (decide (gdC d∧ok (Rat×Rat) 510 y6)) (og (decide (gdC d∧ok (Rat×Rat) 510 y3)) (match co (dC c) (dec y3)with|true=>(match co (dC d) (dec y6)with|true=>(og (decide (n3P c.2.2.1.2.2 d.2.2.1.2.2 y5∧ok Rat 1000 r∧0≤ag r)) (match co (dC c) (dec y3)with|true=>(match co (dC d) (dec y3)with|true=>(og (decide (n3P y5 d.2.2.1.2.2 c.2.2.1.2.2∧ok Rat 1000 r∧0≤ag r)) (match co (dC c) (dec y6)with|true=>(match co (dC d) (dec y6)with|true=>(og (decide (n3P y5 c.2.2.1.2.2 d.2.2.1.2.2∧ok Rat 1000 r∧0≤ag r)) (match co (dC c) (dec y6)with|true=>(match co (dC d) (dec y3)with|true=>(og (decide y7) (some [RV.d apY (mn2 y13 y14)]))|false=>some [RV.d apY y13])|false=>some [RV.d apY y13]))|false=>y15)|false=>y15))|false=>y17)|false=>y17))|false=>y22)|false=>y22))))))))))
def ahQ:Cn 48 [tCU,tCU,tR]:=cn fun(c d:BCU) (r:BR)=>lf (CL c d∧ok Rat 1000 r∧0≤ag r∧gdC c∧gdC d) [.d apY (KR (dC c) (dC d) (ag r))] fun h=>by
 refine aA acK (Z2 c d r) ⟨0,?_⟩;obtain⟨⟨hc,hd,ec,ed⟩,hr,nr_,gc,gd⟩:=h;obtain⟨ar,li,ci,cw,fr,to⟩:=c;obtain⟨ar',li',di,cw',fr',to'⟩:=d;simp only at ec ed;subst ec ed;have oc:decide (gdC _)=true:=dT gc;have od:decide (gdC _)=true:=dT gd;obtain⟨ci,rfl,bc,qc⟩:=cE (hc.2.1 rfl);obtain⟨di,rfl,bd,qd⟩:=cE (hd.2.1 rfl);obtain⟨r,rfl,br⟩:=aB hr;have nr1:=nr_;rw[dN,ck]at nr1;have n0:0≤aY (bi (ctr ci) (ctr di)) (bi (ctr ci) (ctr di)):=jT _;have bN:Bd (aY (bi (ctr ci) (ctr di)) (bi (ctr ci) (ctr di))) 100:=(inferInstance:Bd ((di.1-ci.1)*(di.1-ci.1)+(di.2.1-ci.2.1)*(di.2.1-ci.2.1)) _).mono (by decide);have b1:Bd (ctr ci) 4:=(inferInstance:Bd ((ci.1,ci.2.1):Rat×Rat) _).mono (by decide);have b2:Bd (ctr di) 4:=(inferInstance:Bd ((di.1,di.2.1):Rat×Rat) _).mono (by decide);have e0:((ak ci.1,ak ci.2.1):BV)=enc (ctr ci):=rfl;have e1:((ak di.1,ak di.2.1):BV)=enc (ctr di):=rfl;have bw:Bd (bi (ctr ci) (ctr di)) 20:=(inferInstance:Bd ((di.1-ci.1,di.2.1-ci.2.1):Rat×Rat) _).mono (by decide);have bb:Bd (bkV (bi (ctr ci) (ctr di))) 20:=(inferInstance:Bd ((-(di.1-ci.1),-(di.2.1-ci.2.1)):Rat×Rat) _).mono (by decide);have pc:0≤ci.2.2:=by grind
 have pd:0≤di.2.2:=by grind
 have k1:=(UW (a:=ci.2.2) (b:=di.2.2) (c:=(aY (bi (ctr ci) (ctr di)) (bi (ctr ci) (ctr di)))) (i:=13) (j:=13) (k:=100) (by decide) (by decide) (by decide) pc pd n0)
 have k2:=(UW (a:=(aY (bi (ctr ci) (ctr di)) (bi (ctr ci) (ctr di)))) (b:=di.2.2) (c:=ci.2.2) (i:=100) (j:=13) (k:=13) (by decide) (by decide) (by decide) n0 pd pc)
 have k3:=(UW (a:=(aY (bi (ctr ci) (ctr di)) (bi (ctr ci) (ctr di)))) (b:=ci.2.2) (c:=di.2.2) (i:=100) (j:=13) (k:=13) (by decide) (by decide) (by decide) n0 pc pd)
 have k4:=(xk (a:=(aY (bi (ctr ci) (ctr di)) (bi (ctr ci) (ctr di)))) (b:=ci.2.2) (c:=di.2.2) (e:=r) (i:=100) (j:=13) (k:=13) (l:=1000) (by decide) (by decide) (by decide) (by decide) n0 pc pd nr1)
 have al:∀a b c,sH a b c r≤1:=fun a b c=>by
  unfold sH;cases decide (iD c a b 0>0)
  ·exact wP _
  ·exact wP _
 have s1:=al ci.2.2 di.2.2 (aY (bi (ctr ci) (ctr di)) (bi (ctr ci) (ctr di)));have s2:=al (aY (bi (ctr ci) (ctr di)) (bi (ctr ci) (ctr di))) di.2.2 ci.2.2;have s3:=al (aY (bi (ctr ci) (ctr di)) (bi (ctr ci) (ctr di))) ci.2.2 di.2.2
 have s4:B0 (aY (bi (ctr ci) (ctr di)) (bi (ctr ci) (ctr di))) ci.2.2 di.2.2 r≤1:=by
  unfold B0;cases decide (r*r<di.2.2)
  ·exact wP _
  ·exact Int.le_refl 1
 unfold Z2 KR nT fT nD wyv;simp only[aO,Nat.reduceLeDiff,ao,e0,e1,oc,od,k1,k2,k3,k4,dT nr1,dC,ciC,xI];cases decide ((aY (bi (ctr ci) (ctr di)) (bi (ctr ci) (ctr di)))=0)
 ·cases co (true,dec li,ci,cw,dec fr,dec to) (bi (ctr ci) (ctr di))<;>cases co (true,dec li,ci,cw,dec fr,dec to) (bkV (bi (ctr ci) (ctr di)))<;>cases co (true,dec li',di,cw',dec fr',dec to') (bi (ctr ci) (ctr di))<;>cases co (true,dec li',di,cw',dec fr',dec to') (bkV (bi (ctr ci) (ctr di)))<;>simp only[qI,cond_true,cond_false,Bool.and_true,apK]<;>refine congrArg (fun x:Int=>some [RV.d apY x]) ?_<;>omega
 ·rfl
def abr:List En:=[enT iV,enL WC,enT agf,enT ahQ,enT aeW]
def Ys(c d:BCU)(r:BR)(_k:KT):OLR:=let y1:OLR:=match decide (okR r)with|true=>some [RV.d apY (i64.wrap (0-(aD (ag r) 0)))]|false=>none;let y2:=Gy (RE.poiE (dC d) (RE.pR (dec c.2.2.2.2.1)) (ag r)) (RE.poiE (dC d) (RE.pR (dec c.2.2.2.2.2)) (ag r)) (RE.poiE (dC c) (RE.pR (dec d.2.2.2.2.1)) (ag r)) (RE.poiE (dC c) (RE.pR (dec d.2.2.2.2.2)) (ag r));let y3:OLR:=match c.1 with|true=>(og (decide (vJ d c∧ok Rat 1000 r∧0≤ag r∧gdC c)) (some [RV.d apY (mn2 y2 (CZ (dC d) (dC c) (ag r)))]))|false=>(match d.1 with|true=>(og (decide (vJ c d∧ok Rat 1000 r∧0≤ag r∧gdC d)) (some [RV.d apY (mn2 y2 (CZ (dC c) (dC d) (ag r)))]))|false=>some [RV.d apY y2]);og (o1 r) (match decide ((aD (ag r) 0)<0)with|true=>some [RV.d apY 1]|false=>(og (decide (fy c d)) (match Dk c d with|true=>y1|false=>(match decide (((lc c d).length:Int)>0)with|true=>y1|false=>(og (decide (okC 580 d∧okP 580 c.2.2.2.2.1∧ok Rat 1000 r)) (og (decide (okC 580 d∧okP 580 c.2.2.2.2.2∧ok Rat 1000 r)) (og (decide (okC 580 c∧okP 580 d.2.2.2.2.1∧ok Rat 1000 r)) (og (decide (okC 580 c∧okP 580 d.2.2.2.2.2∧ok Rat 1000 r)) (match c.1 with|true=>(match d.1 with|true=>(og (decide (CL c d∧ok Rat 1000 r∧0≤ag r∧gdC c∧gdC d)) (some [RV.d apY (mn2 y2 (KR (dC c) (dC d) (ag r)))]))|false=>y3)|false=>y3)))))))))
def afb:Cn 15 [tCU,tCU,tR]:=cn fun(c d:BCU) (r:BR)=>lf (fy c d∧ok Rat 1000 r∧gdC c∧gdC d) [.d apY (RB c d (ag r))] fun h=>by
 refine aA abr (Ys c d r) ⟨0,?_⟩;obtain⟨⟨mc,md⟩,hr,gc,gd⟩:=h;have c5:=bU (k:=580) mc.1 (by decide) (by decide);have d5:=bU (k:=580) md.1 (by decide) (by decide);obtain⟨r,rfl,br⟩:=aB hr
 have w:i64.wrap (0-aD r 0)= -aD r 0:=by
  have:=jk r 0;rw[aT (by omega) (by omega)];omega
 unfold Ys RB Ku UM ng;simp only[aO,Nat.reduceLeDiff,aq,xI,Ju,dT (show fy c d from⟨mc,md⟩),dT c5,dT d5,dT gc,dT gd,dT c5.2.2.1,dT c5.2.2.2,dT d5.2.2.1,dT d5.2.2.2,w];by_cases h0:r<0
 ·rw[dT h0];rfl
 ·rw[dF h0];have hn:0≤r:=by grind
  cases Dk c d
  ·cases decide (((lc c d).length:Int)>0)
   ·cases ea:c.1<;>cases eb:d.1
    ·simp only[dC,ea,eb];rfl
    ·simp only[dC,ea,eb,dT hn,dT (show vJ c d from⟨mc,md,ea,eb⟩)];rfl
    ·simp only[dC,ea,eb,dT hn,dT (show vJ d c from⟨md,mc,eb,ea⟩)];rfl
    ·simp only[dC,ea,eb,dT (show CL c d from⟨mc,md,ea,eb⟩),dT hn];rfl
   ·rfl
  ·rfl
end Go.Proofs.YtnkndpoojnflmaaGreat
end
