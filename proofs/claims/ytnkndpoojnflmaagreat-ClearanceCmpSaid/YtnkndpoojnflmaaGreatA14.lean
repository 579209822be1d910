/- Lines and circles: the program's contracts. -/
import Derived.Test.YtnkndpoojnflmaaGreatA12
import Derived.Test.YtnkndpoojnflmaaGreatA13
import Derived.Test.YtnkndpoojnflmaaGreatA10
import Derived.Test.YtnkndpoojnflmaaGreatA11
noncomputable section
namespace Go.Proofs.YtnkndpoojnflmaaGreat
open Go.RowKit Go.IntKind
theorem anZ:type_of% @List.not_mem_nil:=@List.not_mem_nil
theorem apn:type_of% @or_false:=@or_false
def zi:List En:=[⟨99,ij,fa⟩,⟨108,gS,eT⟩,⟨107,iL,fw⟩,⟨106,ip,fi⟩,⟨109,kY,gD⟩,⟨41,fQ,dU⟩,⟨73,mj,iv⟩,⟨305,xJ,tY⟩,enT DO,enL Mm,enL Ll,enL NS,enL Qf,enL Jt,enL RR,enL aaG]
def Zg(l:BO3)(p:BP)(_k:KT):OLR:=let y1:=bH (dec (p.1,(p.2.1,p.2.2.2.2)));let y2:=hid ((bH (dec p.2.2)).1);let y3:=jJ (ag l.1) (hid (y1.1)) (y1.2);let y4:=jJ (ag l.2.1) y2 ((bH (dec p.2.2)).2);let y5:=dL (hid (y3.1)) (hid (y4.1));let y6:=hid ((frF (ag l.2.2)).1);let y7:=dL (hid (y5.1)) (hid (mR y6));og (decide (ok Rt 100000 (p.1,(p.2.1,p.2.2.2.2)))) (og (decide (ok Rat 100000 l.1∧prI (hid (y1.1)))) (og (decide (ok Rt 100000 p.2.2)) (og (decide (ok Rat 100000 l.2.1∧prI y2)) (og (decide (ok Rat 200000 l.2.2)) (match !(y3.2)with|true=>some [RV.d apY 0,RV.d .bool false]|false=>(match !(y4.2)with|true=>some [RV.d apY 0,RV.d .bool false]|false=>(match !((frF (ag l.2.2)).2)with|true=>some [RV.d apY 0,RV.d .bool false]|false=>(og (decide (prI (hid (y3.1))∧prI (hid (y4.1)))) (match !(y5.2)with|true=>some [RV.d apY 0,RV.d .bool false]|false=>(og (decide (prI y6)) (og (decide (prI (hid (y5.1))∧prI (hid (mR y6)))) (match !(y7.2)with|true=>some [RV.d apY 0,RV.d .bool false]|false=>some [RV.d apY ((sgF (hid (y7.1))).1),RV.d .bool ((sgF (hid (y7.1))).2)]))))))))))))
def aj0:Cn 344 [tO,tP]:=cn fun(l:BO3) (p:BP)=>lf (ok Ln 300 l∧ok Pt 4000 p) [.d apY ((xV (dec l) (dec p)).1),.d .bool ((xV (dec l) (dec p)).2)] fun h=>by
 refine aA zi (Zg l p) ⟨0,?_⟩;obtain⟨hl,hp⟩:=h;obtain⟨l,rfl,bl⟩:=aB hl;obtain⟨p,rfl,bp⟩:=aB hp;have dx:(dec ((ak p.1,ak p.2.1,ak p.2.2.2.2):BO3):Rt)=pxR p:=az (pxR p);have dy:(dec ((ak p.2.2.1,ak p.2.2.2.1,ak p.2.2.2.2):BO3):Rt)=pyR p:=az (pyR p);have dy':(dec (enc p.2.2:BO3):Rt)=pyR p:=az (pyR p);have px:Bd (pxR p) 4000:=(inferInstance:Bd ((p.1,p.2.1,p.2.2.2.2):Rt) _).mono (by decide);have py:Bd (pyR p) 4000:=(inferInstance:Bd ((p.2.2.1,p.2.2.2.1,p.2.2.2.2):Rt) _).mono (by decide);have ox:decide (ok Rt 100000 ((ak p.1,ak p.2.1,ak p.2.2.2.2):BO3))=true:=okd (x:=pxR p) (by decide) (by decide);have oy:decide (ok Rt 100000 (enc p.2.2:BO3))=true:=okd (x:=pyR p) (by decide) (by decide);have pr:∀r,prI (bH r).1:=yo;have pt:∀n a k,prI (jJ n a k).1:=Wh;have pf:∀q,prI (frF q).1:=RE.frF_pr;unfold Zg;simp only[aO,Nat.reduceLeDiff,dx,dy',ox,oy,dT (pr _),dT (pt _ _ _),dT (pf _),dT (RE.addF_pr (pt _ _ _) (pt _ _ _)),dT (RE.negF_pr (pf _))];unfold xV;generalize bH (pxR p)=X;generalize bH (pyR p)=Y;generalize jJ l.1 X.1 X.2=U;generalize jJ l.2.1 Y.1 Y.2=V;generalize frF l.2.2=W;generalize dL U.1 V.1=S;generalize dL S.1 (mR W.1)=D;generalize sgF D.1=Z;obtain⟨_,u⟩:=U;obtain⟨_,v⟩:=V;obtain⟨_,w⟩:=W;obtain⟨_,s⟩:=S;obtain⟨_,d⟩:=D;cases u<;>cases v<;>cases w<;>try rfl
 cases s<;>cases d<;>rfl
def YH:Cn 223 [tR,tR]:=cn fun(a b:BR)=>lf (okR a∧okR b) [.d tR (ak (ag a+ag b))] fun h=>jH [RV.d tR (hAd a b)] (du zi) h
def aaX:Cn 222 [tR,tR]:=cn fun(a b:BR)=>lf (okR a∧okR b) [.d tR (ak (ag a-ag b))] fun h=>jH [RV.d tR (hSu a b)] (du zi) h
def aaW:Cn 224 [tR,tR]:=cn fun(a b:BR)=>lf (okR a∧okR b) [.d tR (ak (ag a*ag b))] fun h=>jH [RV.d tR (hMu a b)] (du zi) h
def XY(a b:BR)(_k:KT):OLR:=og (decide (hZ a b)) (match 0 !=0 with|true=>(og (decide (aG (0:Int))) (some [RV.d tR (hid (ak ((0:Int):Rat)))]))|false=>some [RV.d tR (hDi a b)])
def ae2:Cn 225 [tR,tR]:=cn fun(a b:BR)=>lf (hZ a b) [.d tR (ak (ag a/ag b))] fun h=>by
 refine aA zi (XY a b) ⟨0,?_⟩;unfold XY;rw[dT h];simp only[bK];rfl
def QU:List En:=enT aj0::enL YH::enL aaX::enL aaW::enL ae2::zi
def aax(a b c:BR)(_k:KT):OLR:=og (o1 a) (og (o1 b) (og (o1 c) (match(i64.wrap ((aD (ag b) 0)*(aD (ag c) 0)))==0 with|true=>some [RV.d apY (aD (ag a) 0)]|false=>(match(aD (ag a) 0)==(i64.wrap ((aD (ag b) 0)*(aD (ag c) 0)))with|true=>some [RV.d apY (aD (ag a) 0)]|false=>(match(aD (ag a) 0)==0 with|true=>some [RV.d apY (i64.wrap ((aD (ag b) 0)*(aD (ag c) 0)))]|false=>(og (o2 a a) (og (o2 b b) (og (o2 (hMu b b) c) (og (o2 (hMu a a) (hMu (hMu b b) c)) (some [RV.d apY (i64.wrap ((aD (ag a) 0)*(aD (ag (hMu a a)) (ag (hMu (hMu b b) c)))))]))))))))))
def ail:Cn 343 [tR,tR,tR]:=cn fun(a b c:BR)=>lf (ok Rat 240000 a∧ok Rat 170000 b∧ok Rat 30000 c) [.d apY (gv (ag a) (ag b) (ag c))] fun h=>by
 refine aA QU (aax a b c) ⟨0,?_⟩;obtain⟨ha,hb,hc⟩:=h;obtain⟨a,rfl,ba⟩:=aB ha;obtain⟨b,rfl,bb⟩:=aB hb;obtain⟨c,rfl,bc⟩:=aB hc;unfold aax;simp only[aO,Nat.reduceAdd,Nat.reduceLeDiff,qo];exact Bu _ _ _
def Xa(a b c f:BR)(_k:KT):OLR:=og (decide (ok Rt 100000 (a,(b,c)))) (og (decide (ok Rat 200000 f)) (match !((bH (dec (a,(b,c)))).2)with|true=>some [RV.d tG (0,0),RV.d .bool false]|false=>(match !((frF (ag f)).2)with|true=>some [RV.d tG (0,0),RV.d .bool false]|false=>(og (decide (prI (hid ((frF (ag f)).1)))) (og (decide (prI (hid ((bH (dec (a,(b,c)))).1))∧prI (hid (mR (hid ((frF (ag f)).1)))))) (some [RV.d tG (hid ((dL (hid ((bH (dec (a,(b,c)))).1)) (hid (mR (hid ((frF (ag f)).1))))).1)),RV.d .bool ((dL (hid ((bH (dec (a,(b,c)))).1)) (hid (mR (hid ((frF (ag f)).1))))).2)]))))))
def aj9:Cn 361 [tR,tR,tR,tR]:=cn fun(a b c f:BR)=>lf (ok Rat 100000 a∧ok Rat 100000 b∧ok Rat 100000 c∧ok Rat 100000 f) [.d tG ((fo (ag a,ag b,ag c) (ag f)).1),.d .bool ((fo (ag a,ag b,ag c) (ag f)).2)] fun h=>by
 refine aA QU (Xa a b c f) ⟨0,?_⟩;obtain⟨ha,hb,hc,hf⟩:=h;obtain⟨a,rfl,ba⟩:=aB ha;obtain⟨b,rfl,bb⟩:=aB hb;obtain⟨c,rfl,bc⟩:=aB hc;obtain⟨f,rfl,bf⟩:=aB hf;have dr:(dec ((ak a,ak b,ak c):BO3):Rt)=(a,b,c):=az ((a,b,c):Rt);have orr:decide (ok Rt 100000 ((ak a,ak b,ak c):BO3))=true:=okd (x:=((a,b,c):Rt)) (by decide) (by decide);unfold Xa;simp only[aO,Nat.reduceLeDiff,dr,orr,dT (RE.frF_pr _),dT (RE.negF_pr (RE.frF_pr _)),dT (yo _)];unfold fo;generalize bH (a,b,c)=X;generalize frF f=Y;obtain⟨_,x⟩:=X;obtain⟨_,y⟩:=Y;cases x<;>cases y<;>rfl
def RG:List En:=enT ail::enL aj9::QU
def W2(c:BO3)(p:BP)(_k:KT):OLR:=let y1:=fo (ag p.1,ag p.2.1,ag p.2.2.2.2) (ag c.1);let y2:=fo (ag p.2.2.1,ag p.2.2.2.1,ag p.2.2.2.2) (ag c.2.1);let y3:=cM (hid (y1.1)) (hid (y1.1));let y4:=cM (hid (y2.1)) (hid (y2.1));let y5:=dL (hid (y3.1)) (hid (y4.1));let y6:=hid ((frF (ag c.2.2)).1);let y7:=dL (hid (y5.1)) (hid (mR y6));og (decide (ok Rat 100000 p.1∧ok Rat 100000 p.2.1∧ok Rat 100000 p.2.2.2.2∧ok Rat 100000 c.1)) (og (decide (ok Rat 100000 p.2.2.1∧ok Rat 100000 p.2.2.2.1∧ok Rat 100000 p.2.2.2.2∧ok Rat 100000 c.2.1)) (og (decide (ok Rat 200000 c.2.2)) (match !(y1.2)with|true=>some [RV.d apY 0,RV.d .bool false]|false=>(match !(y2.2)with|true=>some [RV.d apY 0,RV.d .bool false]|false=>(match !((frF (ag c.2.2)).2)with|true=>some [RV.d apY 0,RV.d .bool false]|false=>(og (decide (prI (hid (y1.1))∧prI (hid (y1.1)))) (og (decide (prI (hid (y2.1))∧prI (hid (y2.1)))) (match !(y3.2)with|true=>some [RV.d apY 0,RV.d .bool false]|false=>(match !(y4.2)with|true=>some [RV.d apY 0,RV.d .bool false]|false=>(og (decide (prI (hid (y3.1))∧prI (hid (y4.1)))) (match !(y5.2)with|true=>some [RV.d apY 0,RV.d .bool false]|false=>(og (decide (prI y6)) (og (decide (prI (hid (y5.1))∧prI (hid (mR y6)))) (match !(y7.2)with|true=>some [RV.d apY 0,RV.d .bool false]|false=>some [RV.d apY ((sgF (hid (y7.1))).1),RV.d .bool ((sgF (hid (y7.1))).2)]))))))))))))))
def afP:Cn 342 [tO,tP]:=cn fun(c:BO3) (p:BP)=>lf (ok Ln 300 c∧ok Pt 4000 p) [.d apY ((uR (dec c) (dec p)).1),.d .bool ((uR (dec c) (dec p)).2)] fun h=>by
 refine aA RG (W2 c p) ⟨0,?_⟩;obtain⟨hc,hp⟩:=h;obtain⟨c,rfl,bc⟩:=aB hc;obtain⟨p,rfl,bp⟩:=aB hp;have pd:∀r q,prI (fo r q).1:=V0;have pf:∀q,prI (frF q).1:=RE.frF_pr;have pm:∀a b,prI (cM a b).1:=sR;have dx:fo (p.1,p.2.1,p.2.2.2.2) c.1=fo (pxR p) c.1:=rfl;have dy:fo (p.2.2.1,p.2.2.2.1,p.2.2.2.2) c.2.1=fo (pyR p) c.2.1:=rfl;unfold W2;simp only[aO,Nat.reduceLeDiff,dx,dy,dT (pd _ _),dT (pm _ _),dT (pf _),dT (RE.negF_pr (pf _)),dT (RE.addF_pr (pm _ _) (pm _ _))];unfold uR;generalize fo (pxR p) c.1=X;generalize fo (pyR p) c.2.1=Y;generalize frF c.2.2=W;generalize cM X.1 X.1=U;generalize cM Y.1 Y.1=V;generalize dL U.1 V.1=S;generalize dL S.1 (mR W.1)=D;generalize sgF D.1=Z;obtain⟨_,x⟩:=X;obtain⟨_,y⟩:=Y;obtain⟨_,w⟩:=W;obtain⟨_,u⟩:=U;obtain⟨_,v⟩:=V;obtain⟨_,s⟩:=S;obtain⟨_,d⟩:=D;cases x<;>cases y<;>cases w<;>try rfl
 cases u<;>cases v<;>try rfl
 cases s<;>cases d<;>rfl
def YE(l:BO3)(p:BP)(_k:KT):OLR:=og (decide (ok Ln 300 l∧ok Pt 4000 p)) (match(xV (dec l) (dec p)).2 with|true=>some [RV.d apY ((xV (dec l) (dec p)).1)]|false=>(og (o2 l.1 p.1) (og (o2 l.2.1 p.2.2.1) (og (o2 (hMu l.1 p.1) (hMu l.2.1 p.2.2.1)) (og (o2 (hAd (hMu l.1 p.1) (hMu l.2.1 p.2.2.1)) l.2.2) (og (o2 l.1 p.2.1) (og (o2 l.2.1 p.2.2.2.1) (og (o2 (hMu l.1 p.2.1) (hMu l.2.1 p.2.2.2.1)) (og (decide (ok Rat 240000 (hSu (hAd (hMu l.1 p.1) (hMu l.2.1 p.2.2.1)) l.2.2)∧ok Rat 170000 (hAd (hMu l.1 p.2.1) (hMu l.2.1 p.2.2.2.1))∧ok Rat 30000 p.2.2.2.2)) (some [RV.d apY (gv (ag (hSu (hAd (hMu l.1 p.1) (hMu l.2.1 p.2.2.1)) l.2.2)) (ag (hAd (hMu l.1 p.2.1) (hMu l.2.1 p.2.2.2.1))) (ag p.2.2.2.2))]))))))))))
def aiu:Cn 308 [tO,tP]:=cn fun(l:BO3) (p:BP)=>lf (ok Ln 300 l∧okP 4000 p) [.d apY (sO (dec l) (dec p))] fun h=>by
 refine aA RG (YE l p) ⟨0,?_⟩;obtain⟨hl,hp⟩:=h;obtain⟨l,rfl,bl⟩:=aB hl;obtain⟨p,rfl,bp,rp⟩:=aZ hp;unfold YE;simp only[aO,Nat.reduceAdd,Nat.reduceLeDiff];cases hq:(xV l p).2
 ·rfl
 ·rw[RE.sidL_ok l hq]
def aaS:List En:=enT afP::RG
def Xe(c:BO3)(p:BP)(_k:KT):OLR:=og (decide (ok Ln 300 c∧ok Pt 4000 p)) (match(uR (dec c) (dec p)).2 with|true=>some [RV.d apY (i64.wrap (0-((uR (dec c) (dec p)).1)))]|false=>(og (o2 p.1 c.1) (og (o2 p.2.2.1 c.2.1) (og (o2 (hSu p.1 c.1) (hSu p.1 c.1)) (og (o2 (hSu p.2.2.1 c.2.1) (hSu p.2.2.1 c.2.1)) (og (o2 (hMu (hSu p.1 c.1) (hSu p.1 c.1)) (hMu (hSu p.2.2.1 c.2.1) (hSu p.2.2.1 c.2.1))) (og (o2 p.2.1 p.2.1) (og (o2 p.2.2.2.1 p.2.2.2.1) (og (o2 (hMu p.2.1 p.2.1) (hMu p.2.2.2.1 p.2.2.2.1)) (og (o2 p.2.2.2.2 (hAd (hMu p.2.1 p.2.1) (hMu p.2.2.2.1 p.2.2.2.1))) (og (o2 (hAd (hMu (hSu p.1 c.1) (hSu p.1 c.1)) (hMu (hSu p.2.2.1 c.2.1) (hSu p.2.2.1 c.2.1))) (hMu p.2.2.2.2 (hAd (hMu p.2.1 p.2.1) (hMu p.2.2.2.1 p.2.2.2.1)))) (og (o2 (hSu p.1 c.1) p.2.1) (og (o2 (hSu p.2.2.1 c.2.1) p.2.2.2.1) (og (o2 (hMu (hSu p.1 c.1) p.2.1) (hMu (hSu p.2.2.1 c.2.1) p.2.2.2.1)) (og (o2 (hAd (hAd (hMu (hSu p.1 c.1) (hSu p.1 c.1)) (hMu (hSu p.2.2.1 c.2.1) (hSu p.2.2.1 c.2.1))) (hMu p.2.2.2.2 (hAd (hMu p.2.1 p.2.1) (hMu p.2.2.2.1 p.2.2.2.1)))) c.2.2) (og (o2 (hAd (hMu (hSu p.1 c.1) p.2.1) (hMu (hSu p.2.2.1 c.2.1) p.2.2.2.1)) (hAd (hMu (hSu p.1 c.1) p.2.1) (hMu (hSu p.2.2.1 c.2.1) p.2.2.2.1))) (og (decide (ok Rat 240000 (hSu (hAd (hAd (hMu (hSu p.1 c.1) (hSu p.1 c.1)) (hMu (hSu p.2.2.1 c.2.1) (hSu p.2.2.1 c.2.1))) (hMu p.2.2.2.2 (hAd (hMu p.2.1 p.2.1) (hMu p.2.2.2.1 p.2.2.2.1)))) c.2.2)∧ok Rat 170000 (hAd (hAd (hMu (hSu p.1 c.1) p.2.1) (hMu (hSu p.2.2.1 c.2.1) p.2.2.2.1)) (hAd (hMu (hSu p.1 c.1) p.2.1) (hMu (hSu p.2.2.1 c.2.1) p.2.2.2.1)))∧ok Rat 30000 p.2.2.2.2)) (some [RV.d apY (i64.wrap (0-(gv (ag (hSu (hAd (hAd (hMu (hSu p.1 c.1) (hSu p.1 c.1)) (hMu (hSu p.2.2.1 c.2.1) (hSu p.2.2.1 c.2.1))) (hMu p.2.2.2.2 (hAd (hMu p.2.1 p.2.1) (hMu p.2.2.2.1 p.2.2.2.1)))) c.2.2)) (ag (hAd (hAd (hMu (hSu p.1 c.1) p.2.1) (hMu (hSu p.2.2.1 c.2.1) p.2.2.2.1)) (hAd (hMu (hSu p.1 c.1) p.2.1) (hMu (hSu p.2.2.1 c.2.1) p.2.2.2.1)))) (ag p.2.2.2.2))))]))))))))))))))))))
def aix:Cn 307 [tO,tP]:=cn fun(c:BO3) (p:BP)=>lf (ok Ln 300 c∧okP 4000 p) [.d apY (oz (dec c) (dec p))] fun h=>by
 refine aA aaS (Xe c p) ⟨0,?_⟩;obtain⟨hc,hp⟩:=h;obtain⟨c,rfl,bc⟩:=aB hc;obtain⟨p,rfl,bp,rp⟩:=aZ hp;have sb:=lP (sqA p (ctr c)-c.2.2) (sqB p (ctr c)) p.2.2.2.2;unfold Xe;simp only[aO,Nat.reduceAdd,Nat.reduceLeDiff];cases hq:(uR c p).2
 ·unfold oz sqA sqB ctr at*;dsimp only at sb ⊢;rw[show(p.2.2.2.2*(p.2.1*p.2.1+p.2.2.2.1*p.2.2.2.1))=(p.2.1*p.2.1+p.2.2.2.1*p.2.2.2.1)*p.2.2.2.2 by grind];rw[aT (by omega) (by omega),aox]
 ·have hb: -1≤(uR c p).1∧(uR c p).1≤1:=by
   have:=RE.insC_ok c hq;unfold oz at this;omega
  dsimp only;rw[aT (by omega) (by omega),aox,RE.insC_ok c hq]
def YL(l:BO3)(v:BV)(_k:KT):OLR:=og (o2 l.1 v.1) (og (o2 l.2.1 v.2) (og (o2 (hMu l.1 v.1) (hMu l.2.1 v.2)) (og (o2 (hAd (hMu l.1 v.1) (hMu l.2.1 v.2)) l.2.2) (og (o2 l.1 l.1) (og (o2 l.2.1 l.2.1) (og (o2 (hMu l.1 l.1) (hMu l.2.1 l.2.1)) (og (decide (hZ (hSu (hAd (hMu l.1 v.1) (hMu l.2.1 v.2)) l.2.2) (hAd (hMu l.1 l.1) (hMu l.2.1 l.2.1)))) (og (o2 (hDi (hSu (hAd (hMu l.1 v.1) (hMu l.2.1 v.2)) l.2.2) (hAd (hMu l.1 l.1) (hMu l.2.1 l.2.1))) l.1) (og (o2 v.1 (hMu (hDi (hSu (hAd (hMu l.1 v.1) (hMu l.2.1 v.2)) l.2.2) (hAd (hMu l.1 l.1) (hMu l.2.1 l.2.1))) l.1)) (og (o2 (hDi (hSu (hAd (hMu l.1 v.1) (hMu l.2.1 v.2)) l.2.2) (hAd (hMu l.1 l.1) (hMu l.2.1 l.2.1))) l.2.1) (og (o2 v.2 (hMu (hDi (hSu (hAd (hMu l.1 v.1) (hMu l.2.1 v.2)) l.2.2) (hAd (hMu l.1 l.1) (hMu l.2.1 l.2.1))) l.2.1)) (some [RV.d tV (hSu v.1 (hMu (hDi (hSu (hAd (hMu l.1 v.1) (hMu l.2.1 v.2)) l.2.2) (hAd (hMu l.1 l.1) (hMu l.2.1 l.2.1))) l.1),hSu v.2 (hMu (hDi (hSu (hAd (hMu l.1 v.1) (hMu l.2.1 v.2)) l.2.2) (hAd (hMu l.1 l.1) (hMu l.2.1 l.2.1))) l.2.1))]))))))))))))
def NO:Cn 113 [tO,tV]:=cn fun(l:BO3) (v:BV)=>lf (ok Ln 300 l∧ok (Rat×Rat) 200 v∧((dec l:Ln).1≠0∨(dec l:Ln).2.1≠0)) [.d tV (enc (dp (dec l) (dec v)))] fun h=>by
 refine aA aaS (YL l v) ⟨0,?_⟩;obtain⟨hl,hv,h0⟩:=h;obtain⟨l,rfl,bl⟩:=aB hl;obtain⟨v,rfl,bv⟩:=aB hv;have hn:l.1*l.1+l.2.1*l.2.1≠0:=lI (by rw[az]at h0;exact h0);unfold YL;simp only[aO,Nat.reduceAdd,Nat.reduceLeDiff,hn,ne_eq,anY];rfl
theorem Vd(n:Int):(if(if n>(-1)then n else(-1))<1 then(if n>(-1)then n else(-1))else 1)=jV n:=by
 unfold jV;split<;>split<;>(try split)<;>(try split)<;>omega
def xo:List En:=[enT Du,enT Ry,enL afw,enL afQ,enT QO,enT aiu,enT aix]
def WJ(c:BCU)(p:BP)(_k:KT):OLR:=match c.1 with|true=>(og (decide (ok Ln 300 c.2.2.1∧okP 4000 p)) (some [RV.d .bool ((oz (dec c.2.2.1) (dec p))==0)]))|false=>(og (decide (ok Ln 300 c.2.1∧okP 4000 p)) (some [RV.d .bool ((sO (dec c.2.1) (dec p))==0)]))
def ahj:Cn 226 [tCU,tP]:=cn fun(c:BCU) (p:BP)=>lf (okC 4000 c∧okP 4000 p) [.d .bool (gi (dC c) (dec p))] fun h=>by
 refine aA xo (WJ c p) ⟨0,?_⟩;obtain⟨hc,hp⟩:=h;have op:decide (okP 4000 p)=true:=amE hp;obtain⟨ar,li,ci,cw,fr,to⟩:=c;obtain⟨c1,c2,_⟩:=hc;unfold WJ;cases ar
 ·have e:=(c2 rfl).1;simp only[aoz,dT e,op,aoa];rfl
 ·have e:=(c1 rfl).1;simp only[aoz,dT e,op,aoa];rfl
def XL(c:BO3)(p:BP)(_k:KT):OLR:=og (decide (okP 4000 p)) (og (decide (okT 15000 (hid (enc (yP (dec p))))∧ok Rat 15000 c.2.1)) (match decide ((fq (dec (hid (enc (yP (dec p))))) (ag c.2.1))>0)with|true=>some [RV.d apY 0]|false=>(match(fq (dec (hid (enc (yP (dec p))))) (ag c.2.1))==0 with|true=>(og (decide (okP 4000 p)) (og (decide (okT 15000 (hid (enc (xP (dec p))))∧ok Rat 15000 c.1)) (match decide ((fq (dec (hid (enc (xP (dec p))))) (ag c.1))>0)with|true=>some [RV.d apY 0]|false=>some [RV.d apY 1])))|false=>some [RV.d apY 1])))
def afA:Cn 327 [tO,tP]:=cn fun(c:BO3) (p:BP)=>lf (ok Ln 300 c∧okP 4000 p) [.d apY (EA (dec c) (dec p))] fun h=>by
 refine aA xo (XL c p) ⟨0,?_⟩;obtain⟨hc,hp⟩:=h;obtain⟨c,rfl,bc⟩:=aB hc;obtain⟨p,rfl,bp,rp⟩:=aZ hp;unfold XL EA upR;simp only[aO,Nat.reduceLeDiff,aH,aI];cases decide (fq (yP p) c.2.1>0)<;>cases fq (yP p) c.2.1==0<;>cases decide (fq (xP p) c.1>0)<;>rfl
def aj6:Ctx:=CX (ens xo) []
def X8(n:Int)(_k:KT):OLR:=some [RV.d apY (if(if n>(-1)then n else(-1))<1 then(if n>(-1)then n else(-1))else 1)]
theorem afr(n:Int):RS aj6 286 [SI n] (X8 n):=rsX
def agO:Cn 286 [apY]:=cn fun(n:Int)=>lf True [.d apY (jV n)] fun _=>by
 refine c8 xo (afr _ ⟨0,?_⟩);unfold X8;rw[Vd]
def afB:Ctx:=CX (ens xo) []
def ahr(c:BCU)(_k:KT):OLR:=match c.1 with|true=>some [RV.d tCU (c.1,(c.2.1,(c.2.2.1,(!c.2.2.2.1,(c.2.2.2.2.2,c.2.2.2.2.1)))))]|false=>some [RV.d tCU (c.1,(c.2.1,(c.2.2.1,(false,(c.2.2.2.2.2,c.2.2.2.2.1)))))]
theorem ai5(c:BCU):RS afB 284 [.d tCU c] (ahr c):=rsX
def agJ:Cn 284 [tCU]:=cn fun(c:BCU)=>lf True [.d tCU (sh c)] fun _=>by
 refine c8 xo (ai5 _ ⟨0,?_⟩);obtain⟨ar,li,ci,cw,fr,to⟩:=c;cases ar<;>rfl
def Iu:List En:=enT ahj::enT afA::enT agO::enL agJ::xo
def Zc(c:BO3)(p q:BP)(_k:KT):OLR:=og (decide (ok Ln 300 c∧okP 4000 p)) (og (decide (ok Ln 300 c∧okP 4000 q)) (match(EA (dec c) (dec p)) !=(EA (dec c) (dec q))with|true=>some [RV.d apY (i64.wrap ((EA (dec c) (dec p))-(EA (dec c) (dec q))))]|false=>(og (decide (okP 4000 p)) (og (decide (okP 4000 q)) (og (decide (okT 15000 (hid (enc (xP (dec p))))∧okT 15000 (hid (enc (xP (dec q)))))) (match(EA (dec c) (dec p))==0 with|true=>some [RV.d apY (i64.wrap (0-(aW (dec (hid (enc (xP (dec p))))) (dec (hid (enc (xP (dec q))))))))]|false=>some [RV.d apY (aW (dec (hid (enc (xP (dec p))))) (dec (hid (enc (xP (dec q))))))]))))))
def aiK:Cn 287 [tO,tP,tP]:=cn fun(c:BO3) (p q:BP)=>lf (ok Ln 300 c∧okP 4000 p∧okP 4000 q) [.d apY (rH aW (ptd (dec c) (dec p)) (ptd (dec c) (dec q)))] fun h=>by
 refine aA Iu (Zc c p q) ⟨0,?_⟩;obtain⟨hc,hp,hq⟩:=h;obtain⟨c,rfl,bc⟩:=aB hc;obtain⟨p,rfl,bp,rp⟩:=aZ hp;obtain⟨q,rfl,bq,rq⟩:=aZ hq;have xb:=vT (xP p) (xP q);unfold Zc;simp only[aO,Nat.reduceLeDiff,aH,aI,aT (x:= -aW (xP p) (xP q)) (by omega) (by omega),aox];unfold rH EA ptd;cases upR c p<;>cases upR c q<;>rfl
def aiv:Ctx:=CX (ens Iu) []
def YY(c:BCU)(_k:KT):OLR:=match c.2.2.2.1 with|true=>some [RV.d tCU (hid (sh c))]|false=>some [RV.d tCU c]
theorem aiZ(c:BCU):RS aiv 190 [.d tCU c] (YY c):=rsX
def Ym:Cn 190 [tCU]:=cn fun(c:BCU)=>lf True [.d tCU (dS c)] fun _=>by
 refine c8 Iu (aiZ _ ⟨0,?_⟩);obtain⟨ar,li,ci,cw,fr,to⟩:=c;unfold YY dS;cases cw
 ·rfl
 ·simp only[bK];rfl
def YN:List En:=enT aiK::enL Ym::Iu
def Z4(c:BO3)(f p:BP)(_k:KT):OLR:=og (decide (ok Ln 300 c∧okP 4000 p∧okP 4000 f)) (match(rH aW (ptd (dec c) (dec p)) (ptd (dec c) (dec f)))==0 with|true=>some [RV.d apY 0]|false=>(match decide ((rH aW (ptd (dec c) (dec p)) (ptd (dec c) (dec f)))>0)with|true=>some [RV.d apY 1]|false=>some [RV.d apY 2]))
def ae6:Cn 285 [tO,tP,tP]:=cn fun(c:BO3) (f p:BP)=>lf (ok Ln 300 c∧okP 4000 f∧okP 4000 p) [.d apY (oo aW (ptd (dec c) (dec f)) (ptd (dec c) (dec p)))] fun h=>by
 refine aA YN (Z4 c f p) ⟨0,?_⟩;obtain⟨hc,hf,hp⟩:=h;unfold Z4 oo;rw[dT ⟨hc,hp,hf⟩];cases rH aW (ptd (dec c) (dec p)) (ptd (dec c) (dec f))==0<;>cases decide (rH aW (ptd (dec c) (dec p)) (ptd (dec c) (dec f))>0)<;>rfl
def aaO:List En:=enT ae6::YN
def X2(c:BO3)(f p q:BP)(_k:KT):OLR:=og (decide (ok Ln 300 c∧okP 4000 f∧okP 4000 p)) (og (decide (ok Ln 300 c∧okP 4000 f∧okP 4000 q)) (match(oo aW (ptd (dec c) (dec f)) (ptd (dec c) (dec p))) !=(oo aW (ptd (dec c) (dec f)) (ptd (dec c) (dec q)))with|true=>some [RV.d apY (jV (i64.wrap ((oo aW (ptd (dec c) (dec f)) (ptd (dec c) (dec p)))-(oo aW (ptd (dec c) (dec f)) (ptd (dec c) (dec q))))))]|false=>(og (decide (ok Ln 300 c∧okP 4000 p∧okP 4000 q)) (some [RV.d apY (jV (rH aW (ptd (dec c) (dec p)) (ptd (dec c) (dec q))))]))))
def Oo:Cn 191 [tO,tP,tP,tP]:=cn fun(c:BO3) (f p q:BP)=>lf (ok Ln 300 c∧okP 4000 f∧okP 4000 p∧okP 4000 q) [.d apY (gu aW (ptd (dec c) (dec f)) (ptd (dec c) (dec p)) (ptd (dec c) (dec q)))] fun h=>by
 refine aA aaO (X2 c f p q) ⟨0,?_⟩;obtain⟨hc,hf,hp,hq⟩:=h;unfold X2 gu bne;have b1:=JL (p:=ptd (dec c) (dec f)) (q:=ptd (dec c) (dec p));have b2:=JL (p:=ptd (dec c) (dec f)) (q:=ptd (dec c) (dec q));rw[dT ⟨hc,hf,hp⟩,dT ⟨hc,hf,hq⟩,dT ⟨hc,hp,hq⟩,aT (by omega) (by omega)];cases oo aW (ptd (dec c) (dec f)) (ptd (dec c) (dec p))==oo aW (ptd (dec c) (dec f)) (ptd (dec c) (dec q))<;>rfl
def XR:List En:=enT Oo::aaO
def Z6(c:BCU)(p:BP)(_k:KT):OLR:=match !c.1 with|true=>(og (decide (okP 4000 c.2.2.2.2.1∧okP 4000 p)) (og (decide (okP 4000 p∧okP 4000 c.2.2.2.2.2)) (match(aX (dec c.2.2.2.2.1) (dec p))==0 with|true=>some [RV.d .bool true]|false=>(match(aX (dec p) (dec c.2.2.2.2.2))==0 with|true=>some [RV.d .bool true]|false=>some [RV.d .bool ((aX (dec c.2.2.2.2.1) (dec p))==(aX (dec p) (dec c.2.2.2.2.2)))]))))|false=>(og (decide (ok Ln 300 ((((hid (dS c)).2).2).1)∧okP 4000 ((((((hid (dS c)).2).2).2).2).1)∧okP 4000 p∧okP 4000 ((((((hid (dS c)).2).2).2).2).2))) (some [RV.d .bool (decide ((gu aW (ptd (dec ((((hid (dS c)).2).2).1)) (dec ((((((hid (dS c)).2).2).2).2).1))) (ptd (dec ((((hid (dS c)).2).2).1)) (dec p)) (ptd (dec ((((hid (dS c)).2).2).1)) (dec ((((((hid (dS c)).2).2).2).2).2))))≤0))]))
def NV:Cn 89 [tCU,tP]:=cn fun(c:BCU) (p:BP)=>lf (okC 4000 c∧okP 4000 p) [.d .bool (gZ (dC c) (dec p))] fun h=>by
 refine aA XR (Z6 c p) ⟨0,?_⟩;obtain⟨hc,hp⟩:=h;obtain⟨ar,li,ci,cw,fr,to⟩:=c;obtain⟨c1,c2,c3,c4⟩:=hc;unfold Z6 gZ;simp only[bK];cases ar
 ·try dsimp only[Bool.not_false]
  rw[dT ⟨c3,hp⟩,dT ⟨hp,c4⟩];show _=some [RV.d .bool (vc (aX (dec fr) (dec p)) (aX (dec p) (dec to)))];unfold vc;cases aX (dec fr) (dec p)==0<;>cases aX (dec p) (dec to)==0<;>rfl
 ·have e:=(c1 rfl).1;cases cw
  ·rw[dT (show ok Ln 300 (dS (true,li,ci,false,fr,to)).2.2.1∧okP 4000 (dS (true,li,ci,false,fr,to)).2.2.2.2.1∧okP 4000 p∧okP 4000 (dS (true,li,ci,false,fr,to)).2.2.2.2.2 from⟨e,c3,hp,c4⟩)];rfl
  ·rw[dT (show ok Ln 300 (dS (true,li,ci,true,fr,to)).2.2.1∧okP 4000 (dS (true,li,ci,true,fr,to)).2.2.2.2.1∧okP 4000 p∧okP 4000 (dS (true,li,ci,true,fr,to)).2.2.2.2.2 from⟨e,c4,hp,c3⟩)];rfl
def agE:List En:=enT NV::XR
def WT(c:BCU)(p:BP)(_k:KT):OLR:=og (decide (okC 4000 c∧okP 4000 p)) (match gi (dC c) (dec p)with|true=>(og (decide (okC 4000 c∧okP 4000 p)) (some [RV.d .bool (gZ (dC c) (dec p))]))|false=>some [RV.d .bool false])
def IE:Cn 114 [tCU,tP]:=cn fun(c:BCU) (p:BP)=>lf (okC 4000 c∧okP 4000 p) [.d .bool (onP (dC c) (dec p))] fun h=>by
 refine aA agE (WT c p) ⟨0,?_⟩;unfold WT onP;rw[dT h];cases gi (dC c) (dec p)<;>rfl
theorem cD{j k:Nat}{x:BP}(h:okP j x)(hj:j≤k)(hk:k≤480000):okP k x:=by
 obtain⟨p,rfl,bp,rp⟩:=aZ h;exact amH (aI hj hk)
theorem bU{j k:Nat}{c:BCU}(h:okC j c)(hj:j≤k)(hk:k≤480000):okC k c:=⟨h.1,h.2.1,cD h.2.2.1 hj hk,cD h.2.2.2 hj hk⟩
theorem Bm{c:BCU}(hc:okC 500 c){v:Rat×Rat}[bv:Bd v 200]:Bd (ow (dC c) v) 15000∧Rdd (ow (dC c) v):=by
 obtain⟨ar,li,ci,cw,fr,to⟩:=c;have h3:=hc.2.2.1;have h4:=hc.2.2.2;simp only at h3 h4;obtain⟨fr,rfl,bf,rf⟩:=aZ h3;obtain⟨to,rfl,bt,rt⟩:=aZ h4;have he:Bd (rg (sqP fr v) (sqP to v)) 15000:=(inferInstance:Bd (rg (sqP fr v) (sqP to v)) _).mono (by decide);cases ar
 ·obtain⟨c2,c3⟩:=hc.2.1 rfl;simp only at c2 c3;obtain⟨li,rfl,bl⟩:=aB c2;unfold ow yV;simp only[dC,lnC,frC,toC,az,cond_false];cases ti (false,li,dec ci,cw,fr,to) (atP v)
  ·exact⟨he,Ld⟩
  ·exact⟨(inferInstance:Bd ((aY (bi v (dp li v)) (bi v (dp li v)),0,0):Rt) _).mono (by decide),acH⟩
 ·obtain⟨c1,hq⟩:=hc.1 rfl;simp only at c1 hq;obtain⟨ci,rfl,bc⟩:=aB c1;rw[az]at hq;have hC:Cir ci:=⟨hq⟩
  unfold ow yV;simp only[dC,lnC,frC,toC,ciC,bW,az,cond_true];cases co (true,dec li,ci,cw,fr,to) (bi (ctr ci) v)
  ·exact⟨he,Ld⟩
  ·have b2:Bd (-2:Rat) 3:=bS (n:= -2) (by decide);exact⟨(inferInstance:Bd (mkR (aY (bi (ctr ci) v) (bi (ctr ci) v)+ci.2.2) (-2) (aY (bi (ctr ci) v) (bi (ctr ci) v)*ci.2.2)) _).mono (by decide),pO⟩
def agz:List En:=[enL HV]
def aav(a b:BV)(_k:KT):OLR:=og (o2 b.1 a.1) (og (o2 b.2 a.2) (some [RV.d tV (hSu b.1 a.1,hSu b.2 a.2)]))
def ajr:Cn 311 [tV,tV]:=cn fun(a b:BV)=>lf (ok (Rat×Rat) 10000 a∧ok (Rat×Rat) 10000 b) [.d tV (enc (bi (dec a) (dec b)))] fun h=>by
 refine aA agz (aav a b) ⟨0,?_⟩;obtain⟨ha,hb⟩:=h;obtain⟨a,rfl,ba⟩:=aB ha;obtain⟨b,rfl,bb⟩:=aB hb;unfold aav;simp only[aO,Nat.reduceLeDiff];try rfl
def DC:List En:=[⟨41,fQ,dU⟩,⟨109,kY,gD⟩,⟨99,ij,fa⟩,⟨108,gS,eT⟩,⟨305,xJ,tY⟩,⟨107,iL,fw⟩,⟨106,ip,fi⟩,enL Zf,enL zq,enL HA,enL X9,enL Zt,enT IE,enL NO,enT Du,enT Ry,enL QB,enL HV,enL P4,enL ajr,enL agV,enL MN]
def Xp(a b c:BR)(_k:KT):OLR:=og (decide (ok Rat 100000 a∧ok Rat 100000 b∧ok Rat 100000 c∧0≤ag c)) (match 0 !=0 with|true=>(og (o1 a) (some [RV.d tO (hid (enc ((ag a,0,0):Rt)))]))|false=>some [RV.d tO (hid (enc (mkR (ag a) (ag b) (ag c))))])
def W7:Cn 98 [tR,tR,tR]:=cn fun(a b c:BR)=>lf (ok Rat 100000 a∧ok Rat 100000 b∧ok Rat 100000 c∧0≤ag c) [.d tO (enc (mkR (ag a) (ag b) (ag c)))] fun h=>by
 refine aA DC (Xp a b c) ⟨0,?_⟩;obtain⟨ha,hb,hc,hn⟩:=h;unfold Xp;rw[dT ⟨ha,hb,hc,hn⟩];simp only[bK];rfl
def W9(v:BV)(_k:KT):OLR:=og (o1 v.1) (match(aD (ag v.1) 0)==0 with|true=>(og (o1 v.2) (some [RV.d .bool ((aD (ag v.2) 0)==0)]))|false=>some [RV.d .bool false])
def ajv:Cn 217 [tV]:=cn fun(v:BV)=>lf (ok (Rat×Rat) 100000 v) [.d .bool (zeV (dec v))] fun h=>by
 refine aA DC (W9 v) ⟨0,?_⟩;have hv:=h;obtain⟨v,rfl,bv⟩:=aB hv;unfold W9;simp only[aO,Nat.reduceLeDiff,ao];unfold zeV;cases decide (v.1=0)<;>rfl
def afH:Ctx:=CX (ens DC) []
def ai1(c:BCU)(_k:KT):OLR:=some [RV.d tV (c.2.2.1.1,c.2.2.1.2.1)]
theorem agL(c:BCU):RS afH 102 [.d tCU c] (ai1 c):=rsX
def WH:Cn 102 [tCU]:=cn fun(c:BCU)=>lf True [.d tV (c.2.2.1.1,c.2.2.1.2.1)] fun _=>by
 exact c8 DC (agL _ ⟨0,rfl⟩)
def LP:List En:=enL W7::enT ajv::enL WH::DC
def XT(l:BO3)(p:BP)(_k:KT):OLR:=og (o1 l.2.1) (og (o2 (hNe l.2.1) p.1) (og (o2 l.1 p.2.2.1) (og (o2 (hMu (hNe l.2.1) p.1) (hMu l.1 p.2.2.1)) (og (o2 (hNe l.2.1) p.2.1) (og (o2 l.1 p.2.2.2.1) (og (o2 (hMu (hNe l.2.1) p.2.1) (hMu l.1 p.2.2.2.1)) (og (decide (ok Rat 100000 (hAd (hMu (hNe l.2.1) p.1) (hMu l.1 p.2.2.1))∧ok Rat 100000 (hAd (hMu (hNe l.2.1) p.2.1) (hMu l.1 p.2.2.2.1))∧ok Rat 100000 p.2.2.2.2∧0≤ag p.2.2.2.2)) (some [RV.d tO (hid (enc (mkR (ag (hAd (hMu (hNe l.2.1) p.1) (hMu l.1 p.2.2.1))) (ag (hAd (hMu (hNe l.2.1) p.2.1) (hMu l.1 p.2.2.2.1))) (ag p.2.2.2.2))))]))))))))
def afF:Cn 205 [tO,tP]:=cn fun(l:BO3) (p:BP)=>lf (ok Ln 300 l∧okP 4000 p) [.d tO (enc (eU (dec l) (dec p)))] fun h=>by
 refine aA LP (XT l p) ⟨0,?_⟩;obtain⟨hl,hp⟩:=h;obtain⟨l,rfl,bl⟩:=aB hl;obtain⟨p,rfl,bp,rp⟩:=aZ hp;have hn:0≤p.2.2.2.2:=rp.nn;unfold XT;simp only[aO,Nat.reduceAdd,Nat.reduceLeDiff,dT hn];rfl
def WP(a b:BO3)(_k:KT):OLR:=og (decide (okT 15000 b∧okT 15000 a)) (match decide ((aW (dec b) (dec a))<0)with|true=>some [RV.d tO b]|false=>some [RV.d tO a])
def aiV:Cn 310 [tO,tO]:=cn fun(a b:BO3)=>lf (okT 15000 a∧okT 15000 b) [.d tO (enc (rg (dec a) (dec b)))] fun h=>by
 refine aA LP (WP a b) ⟨0,?_⟩;obtain⟨ha,hb⟩:=h;obtain⟨a,rfl,ba,ra⟩:=fB ha;obtain⟨b,rfl,bb,rb⟩:=fB hb;unfold WP rg;simp only[aO,Nat.reduceLeDiff,aH];cases decide (aW b a<0)<;>rfl
def Sw:List En:=enL afF::enL aiV::LP
def ZQ(c:BCU)(p:BP)(_k:KT):OLR:=og (decide (ok Ln 300 c.2.1∧okP 4000 p)) (og (decide (ok Ln 300 c.2.1∧okP 4000 c.2.2.2.2.1)) (og (decide (ok Ln 300 c.2.1∧okP 4000 c.2.2.2.2.2)) (og (decide (okT 15000 (hid (enc (eU (dec c.2.1) (dec c.2.2.2.2.1))))∧okT 15000 (hid (enc (eU (dec c.2.1) (dec c.2.2.2.2.2)))))) (match decide ((aW (dec (hid (enc (eU (dec c.2.1) (dec c.2.2.2.2.1))))) (dec (hid (enc (eU (dec c.2.1) (dec c.2.2.2.2.2))))))>0)with|true=>(og (decide (okT 15000 (hid (enc (eU (dec c.2.1) (dec c.2.2.2.2.2))))∧okT 15000 (hid (enc (eU (dec c.2.1) (dec p)))))) (match decide ((aW (dec (hid (enc (eU (dec c.2.1) (dec c.2.2.2.2.2))))) (dec (hid (enc (eU (dec c.2.1) (dec p))))))≤0)with|true=>(og (decide (okT 15000 (hid (enc (eU (dec c.2.1) (dec p))))∧okT 15000 (hid (enc (eU (dec c.2.1) (dec c.2.2.2.2.1)))))) (some [RV.d .bool (decide ((aW (dec (hid (enc (eU (dec c.2.1) (dec p))))) (dec (hid (enc (eU (dec c.2.1) (dec c.2.2.2.2.1))))))≤0))]))|false=>some [RV.d .bool false]))|false=>(og (decide (okT 15000 (hid (enc (eU (dec c.2.1) (dec c.2.2.2.2.1))))∧okT 15000 (hid (enc (eU (dec c.2.1) (dec p)))))) (match decide ((aW (dec (hid (enc (eU (dec c.2.1) (dec c.2.2.2.2.1))))) (dec (hid (enc (eU (dec c.2.1) (dec p))))))≤0)with|true=>(og (decide (okT 15000 (hid (enc (eU (dec c.2.1) (dec p))))∧okT 15000 (hid (enc (eU (dec c.2.1) (dec c.2.2.2.2.2)))))) (some [RV.d .bool (decide ((aW (dec (hid (enc (eU (dec c.2.1) (dec p))))) (dec (hid (enc (eU (dec c.2.1) (dec c.2.2.2.2.2))))))≤0))]))|false=>some [RV.d .bool false]))))))
def WO:Cn 94 [tCU,tP]:=cn fun(c:BCU) (p:BP)=>lf (okC 3000 c∧okP 3000 p∧c.1=false) [.d .bool (ti (dC c) (dec p))] fun h=>by
 refine aA Sw (ZQ c p) ⟨0,?_⟩;obtain⟨hc,hp,h0⟩:=h;obtain⟨p,rfl,bp,rp⟩:=aZ hp;obtain⟨ar,li,ci,cw,fr,to⟩:=c;simp only at h0;subst h0;obtain⟨_,c2,c3,c4⟩:=hc;obtain⟨c2,_⟩:=c2 rfl;simp only at c2 c3 c4;obtain⟨li,rfl,bl⟩:=aB c2;obtain⟨fr,rfl,bf,rf⟩:=aZ c3;obtain⟨to,rfl,bt,rt⟩:=aZ c4;unfold ZQ ti;simp only[dC,lnC,frC,toC,aO,Nat.reduceAdd,Nat.reduceMul,Nat.reduceLeDiff,aH,aI];cases decide (aW (eU li fr) (eU li to)>0)
 ·cases decide (aW (eU li fr) (eU li p)≤0)<;>rfl
 ·cases decide (aW (eU li to) (eU li p)≤0)<;>rfl
def ZG(c:BCU)(v:BV)(_k:KT):OLR:=match !c.1 with|true=>some [RV.d .bool c.1]|false=>(og (decide (ok (Rat×Rat) 100000 v)) (match zeV (dec v)with|true=>some [RV.d .bool c.1]|false=>(og (decide (ok (Rat×Rat) 5000 v∧ok (Rat×Rat) 5000 v)) (og (decide (hZ c.2.2.1.2.2 (hid (ak (aY (dec v) (dec v)))))) (og (decide (ok Rat 100000 c.2.2.1.1∧ok Rat 100000 v.1∧ok Rat 100000 (hDi c.2.2.1.2.2 (hid (ak (aY (dec v) (dec v)))))∧0≤ag (hDi c.2.2.1.2.2 (hid (ak (aY (dec v) (dec v))))))) (og (decide (ok Rat 100000 c.2.2.1.2.1∧ok Rat 100000 v.2∧ok Rat 100000 (hDi c.2.2.1.2.2 (hid (ak (aY (dec v) (dec v)))))∧0≤ag (hDi c.2.2.1.2.2 (hid (ak (aY (dec v) (dec v))))))) (og (decide (okT 15000 (hid (enc (mkR (ag c.2.2.1.1) (ag v.1) (ag (hDi c.2.2.1.2.2 (hid (ak (aY (dec v) (dec v)))))))))∧okT 15000 (hid (enc (mkR (ag c.2.2.1.2.1) (ag v.2) (ag (hDi c.2.2.1.2.2 (hid (ak (aY (dec v) (dec v)))))))))∧sW (dec (hid (enc (mkR (ag c.2.2.1.1) (ag v.1) (ag (hDi c.2.2.1.2.2 (hid (ak (aY (dec v) (dec v)))))))))) (dec (hid (enc (mkR (ag c.2.2.1.2.1) (ag v.2) (ag (hDi c.2.2.1.2.2 (hid (ak (aY (dec v) (dec v)))))))))))) (match 0==0 with|true=>(og (decide (okC 4000 c∧okP 4000 (hid (enc (mkP (dec (hid (enc (mkR (ag c.2.2.1.1) (ag v.1) (ag (hDi c.2.2.1.2.2 (hid (ak (aY (dec v) (dec v)))))))))) (dec (hid (enc (mkR (ag c.2.2.1.2.1) (ag v.2) (ag (hDi c.2.2.1.2.2 (hid (ak (aY (dec v) (dec v))))))))))))))) (some [RV.d .bool (onP (dC c) (dec (hid (enc (mkP (dec (hid (enc (mkR (ag c.2.2.1.1) (ag v.1) (ag (hDi c.2.2.1.2.2 (hid (ak (aY (dec v) (dec v)))))))))) (dec (hid (enc (mkR (ag c.2.2.1.2.1) (ag v.2) (ag (hDi c.2.2.1.2.2 (hid (ak (aY (dec v) (dec v)))))))))))))))]))|false=>some [RV.d .bool false]))))))))
def Za:Cn 110 [tCU,tV]:=cn fun(c:BCU) (v:BV)=>lf (okC 500 c∧ok (Rat×Rat) 510 v) [.d .bool (co (dC c) (dec v))] fun h=>by
 refine aA Sw (ZG c v) ⟨0,?_⟩;obtain⟨hc,hv⟩:=h;obtain⟨v,rfl,bv⟩:=aB hv;have hc4:=bU (k:=4000) hc (by decide) (by decide);obtain⟨ar,li,ci,cw,fr,to⟩:=c;cases ar
 ·rfl
 ·obtain⟨c1,_⟩:=hc.1 rfl;have hq:=(hc.1 rfl).2;simp only at c1 hq;obtain⟨ci,rfl,bc⟩:=aB c1;rw[az]at hq;have hC:Cir ci:=⟨hq⟩
  have o4:=amE hc4;have hn:0≤ci.2.2/aY v v:=(RA (c:=ci) (d:=v)).le;have om:decide (sW (mkR ci.1 v.1 (ci.2.2/aY v v)) (mkR ci.2.1 v.2 (ci.2.2/aY v v)))=true:=dT (nJ _ _ _ _ _);have ry:decide (okP 4000 (enc (mkP (mkR ci.1 v.1 (ci.2.2/aY v v)) (mkR ci.2.1 v.2 (ci.2.2/aY v v)))))=true:=aI (x:=jO ci v) (by decide) (by decide);unfold ZG co;simp only[aO,Nat.reduceAdd,Nat.reduceLeDiff,aH,Bool.not_true];cases hz:zeV v
  ·have hd:=uK hz;simp only[aO,Nat.reduceAdd,Nat.reduceLeDiff,hd,ne_eq,anY,dT hn,om,o4,ry];show _=some [RV.d .bool (onP _ (jO (dec (enc ci)) v))];rw[az];rfl
  ·rfl
def Rk:List En:=enT WO::enT Za::Sw
def acV:NT:=[((228,13),{keep:=[4,19],hl:=0}),((228,29),{keep:=[4,39],hl:=0})]
def afW:Ctx:=CX (ens Rk) acV
def MH(c:BCU)(v:BV)(_k:KT):OLR:=let y1:=hid (enc (atP (dec v)));let y2:=hid (enc (sqP (dec c.2.2.2.2.1) (dec v)));let y3:=hid (enc (sqP (dec c.2.2.2.2.2) (dec v)));let y4:OLR:=match decide (okP 3500 c.2.2.2.2.1∧ok (Rat×Rat) 300 v)with|true=>(og (decide (okP 3500 c.2.2.2.2.2∧ok (Rat×Rat) 300 v)) (og (decide (okT 15000 y2∧okT 15000 y3)) (some [RV.d tO (hid (enc (rg (dec y2) (dec y3))))])))|false=>none;let y5:=hid (enc (dp (dec c.2.1) (dec v)));let y6:=hid (enc (bi (dec v) (dec y5)));let y7:=hid (ak (aY (dec y6) (dec y6)));let y8:=hid ((c.2.2.1.1,c.2.2.1.2.1));let y9:=hid (enc (bi (dec y8) (dec v)));let y10:=hid (ak (aY (dec y9) (dec y9)));let y11:=hAd y10 c.2.2.1.2.2;let y12:=hid (ak (((-2):Int):Rat));let y13:=hMu y10 c.2.2.1.2.2;match !c.1 with|true=>(og (decide (ok (Rat×Rat) 100000 v)) (og (decide (okC 3000 c∧okP 3000 y1∧c.1=false)) (match !(ti (dC c) (dec y1))with|true=>y4|false=>(og (decide (ok Ln 300 c.2.1∧ok (Rat×Rat) 200 v∧((dec c.2.1:Ln).1≠0∨(dec c.2.1:Ln).2.1≠0))) (og (decide (ok (Rat×Rat) 10000 v∧ok (Rat×Rat) 10000 y5)) (og (decide (ok (Rat×Rat) 5000 y6∧ok (Rat×Rat) 5000 y6)) (og (o1 y7) (some [RV.d tO (hid (enc ((ag y7,0,0):Rt)))]))))))))|false=>(og (decide (ok (Rat×Rat) 10000 y8∧ok (Rat×Rat) 10000 v)) (og (decide (okC 500 c∧ok (Rat×Rat) 510 y9)) (match !(co (dC c) (dec y9))with|true=>y4|false=>(og (decide (ok (Rat×Rat) 5000 y9∧ok (Rat×Rat) 5000 y9)) (og (o2 y10 c.2.2.1.2.2) (og (decide (aG ((-2):Int))) (og (o2 y10 c.2.2.1.2.2) (og (decide (ok Rat 100000 y11∧ok Rat 100000 y12∧ok Rat 100000 y13∧0≤ag y13)) (some [RV.d tO (hid (enc (mkR (ag y11) (ag y12) (ag y13))))])))))))))
theorem ah1(c:BCU)(v:BV):RS afW 228 [.d tCU c,.d tV v] (MH c v):=rsX
def ahY:Cn 228 [tCU,tV]:=cn fun(c:BCU) (v:BV)=>lf (okC 500 c∧ok (Rat×Rat) 200 v) [.d tO (enc (ow (dC c) (dec v)))] fun h=>by
 refine c8 Rk (ah1 _ _ ⟨0,?_⟩);obtain⟨hc,hv⟩:=h;obtain⟨v,rfl,bv⟩:=aB hv;have hc4:=bU (k:=3000) hc (by decide) (by decide);obtain⟨ar,li,ci,cw,fr,to⟩:=c;have h3:=hc.2.2.1;have h4:=hc.2.2.2;simp only at h3 h4;obtain⟨fr,rfl,bf,rf⟩:=aZ h3;obtain⟨to,rfl,bt,rt⟩:=aZ h4;have o4:=amE hc4;have o5:=amE hc;cases ar
 ·obtain⟨c2,c3⟩:=hc.2.1 rfl;simp only at c2 c3;obtain⟨li,rfl,bl⟩:=aB c2;rw[az]at c3;unfold MH ow yV;simp only[aO,aC,Nat.reduceAdd,Nat.reduceMul,Nat.reduceLeDiff,aH,aI,o4,c3,Bool.not_false];simp only[dC,lnC,frC,toC,az,cond_false];cases ti (false,li,dec ci,cw,fr,to) (atP v)<;>rfl
 ·obtain⟨c1,hq⟩:=hc.1 rfl;simp only at c1 hq;obtain⟨ci,rfl,bc⟩:=aB c1;rw[az]at hq;have hC:Cir ci:=⟨hq⟩
  have hn:0≤aY (bi (ctr ci) v) (bi (ctr ci) v)*ci.2.2:=(Uq (c:=ci) (d:=bi (ctr ci) v)).le;have e0:((ak ci.1,ak ci.2.1):BV)=enc (ctr ci):=rfl;have h2:decide (aG (-2))=true:=by decide
  have b2:Bd ((-2:Int):Rat) 3:=bS (by decide);unfold MH ow yV;simp only[aO,Nat.reduceAdd,Nat.reduceMul,Nat.reduceLeDiff,aH,aI,o5,e0,Bool.not_true];simp only[dC,lnC,frC,toC,ciC,bW,az,cond_true];cases co (true,dec li,ci,cw,fr,to) (bi (ctr ci) v)
  ·rfl
  ·simp only[aO,dT hn,h2];rw[show((-2:Int):Rat)= -2 from rfl];rfl
def ah7:List En:=enL ahY::Rk
def aaI(c:BCU)(v:BV)(r:BR)(_k:KT):OLR:=og (o1 r) (match decide ((aD (ag r) 0)<0)with|true=>some [RV.d apY 1]|false=>(og (decide (okC 500 c∧ok (Rat×Rat) 200 v)) (og (o2 r r) (og (decide (okT 15000 (hid (enc (ow (dC c) (dec v))))∧ok Rat 15000 (hMu r r))) (some [RV.d apY (fq (dec (hid (enc (ow (dC c) (dec v))))) (ag (hMu r r)))])))))
def ajT:Cn 116 [tCU,tV,tR]:=cn fun(c:BCU) (v:BV) (r:BR)=>lf (okC 500 c∧ok (Rat×Rat) 200 v∧ok Rat 1000 r) [.d apY (qY (dC c) (dec v) (ag r))] fun h=>by
 refine aA ah7 (aaI c v r) ⟨0,?_⟩;obtain⟨hc,hv,hr⟩:=h;obtain⟨v,rfl,bv⟩:=aB hv;obtain⟨r,rfl,br⟩:=aB hr;rw[dN,ck,az];have od:=Bm hc (v:=v);obtain⟨od1,od2⟩:=od;unfold aaI qY;simp only[aO,Nat.reduceAdd,Nat.reduceLeDiff,aH,aq,amE hc];cases decide (r<0)<;>rfl
def EW:List En:=[enT iV,enL o8,enL kD,enL lT,enL Pe,enL lV,enL m7,enL GK,enL E1,enL um,enL FZ,enL Gw,enL Fe,enT Ek,enL Gj,enT Bx,enT Ba,enL MZ,enL LV,enL Mg,enL Xk]
def ZM(a b:BV)(_k:KT):OLR:=og (o2 b.1 a.1) (og (o2 b.2 a.2) (some [RV.d tV (hSu b.1 a.1,hSu b.2 a.2)]))
def ajZ:Cn 132 [tV,tV]:=cn fun(a b:BV)=>lf (ok (Rat×Rat) 10000 a∧ok (Rat×Rat) 10000 b) [.d tV (enc (bi (dec a) (dec b)))] fun h=>by
 refine aA EW (ZM a b) ⟨0,?_⟩;obtain⟨ha,hb⟩:=h;obtain⟨a,rfl,ba⟩:=aB ha;obtain⟨b,rfl,bb⟩:=aB hb;unfold ZM;simp only[aO,Nat.reduceLeDiff];try rfl
def adj:Ctx:=CX (ens EW) []
def adU(c:BO3)(_k:KT):OLR:=some [RV.d tV (c.1,c.2.1)]
theorem abS(c:BO3):RS adj 125 [.d tO c] (adU c):=rsX
def A7:Cn 125 [tO]:=cn fun(c:BO3)=>lf True [.d tV (c.1,c.2.1)] fun _=>by
 exact c8 EW (abS _ ⟨0,rfl⟩)
def Zu(a b:BO3)(_k:KT):OLR:=og (decide (okT 15000 b∧okT 15000 a)) (match decide ((aW (dec b) (dec a))<0)with|true=>some [RV.d tO b]|false=>some [RV.d tO a])
def aib:Cn 158 [tO,tO]:=cn fun(a b:BO3)=>lf (okT 15000 a∧okT 15000 b) [.d tO (enc (rg (dec a) (dec b)))] fun h=>by
 refine aA EW (Zu a b) ⟨0,?_⟩;obtain⟨ha,hb⟩:=h;obtain⟨a,rfl,ba,ra⟩:=fB ha;obtain⟨b,rfl,bb,rb⟩:=fB hb;unfold Zu rg;simp only[aO,Nat.reduceLeDiff,aH];cases decide (aW b a<0)<;>rfl
def Yq:List En:=enL ajZ::enL A7::enL aib::EW
def XV(c:BO3)(v:BV)(_k:KT):OLR:=og (decide (ok (Rat×Rat) 5000 v∧ok (Rat×Rat) 5000 v)) (og (decide (hZ c.2.2 (hid (ak (aY (dec v) (dec v)))))) (og (decide (aG (0:Int))) (og (decide (ok Rat 100000 (hid (ak ((0:Int):Rat)))∧ok Rat 100000 v.1∧ok Rat 100000 (hDi c.2.2 (hid (ak (aY (dec v) (dec v)))))∧0≤ag (hDi c.2.2 (hid (ak (aY (dec v) (dec v))))))) (og (decide (ok Rat 100000 (hid (ak ((0:Int):Rat)))∧ok Rat 100000 v.2∧ok Rat 100000 (hDi c.2.2 (hid (ak (aY (dec v) (dec v)))))∧0≤ag (hDi c.2.2 (hid (ak (aY (dec v) (dec v))))))) (og (decide (okT 15000 (hid (enc (mkR (ag (hid (ak ((0:Int):Rat)))) (ag v.1) (ag (hDi c.2.2 (hid (ak (aY (dec v) (dec v)))))))))∧okT 15000 (hid (enc (mkR (ag (hid (ak ((0:Int):Rat)))) (ag v.2) (ag (hDi c.2.2 (hid (ak (aY (dec v) (dec v)))))))))∧sW (dec (hid (enc (mkR (ag (hid (ak ((0:Int):Rat)))) (ag v.1) (ag (hDi c.2.2 (hid (ak (aY (dec v) (dec v)))))))))) (dec (hid (enc (mkR (ag (hid (ak ((0:Int):Rat)))) (ag v.2) (ag (hDi c.2.2 (hid (ak (aY (dec v) (dec v)))))))))))) (og (decide (ok Pt 21000 (hid (enc (mkP (dec (hid (enc (mkR (ag (hid (ak ((0:Int):Rat)))) (ag v.1) (ag (hDi c.2.2 (hid (ak (aY (dec v) (dec v)))))))))) (dec (hid (enc (mkR (ag (hid (ak ((0:Int):Rat)))) (ag v.2) (ag (hDi c.2.2 (hid (ak (aY (dec v) (dec v)))))))))))))∧ok (Rat×Rat) 1000 (hid ((c.1,c.2.1))))) (some [RV.d tP (hid (enc (trP (dec (hid (enc (mkP (dec (hid (enc (mkR (ag (hid (ak ((0:Int):Rat)))) (ag v.1) (ag (hDi c.2.2 (hid (ak (aY (dec v) (dec v)))))))))) (dec (hid (enc (mkR (ag (hid (ak ((0:Int):Rat)))) (ag v.2) (ag (hDi c.2.2 (hid (ak (aY (dec v) (dec v)))))))))))))) (dec (hid ((c.1,c.2.1)))))))])))))))
def ah6:Cn 244 [tO,tV]:=cn fun(c:BO3) (v:BV)=>lf (nE c∧ok (Rat×Rat) 510 v∧zeV (dec v)=false) [.d tP (enc (jO (dec c) (dec v)))] fun h=>by
 refine aA Yq (XV c v) ⟨0,?_⟩;obtain⟨⟨hc,hq⟩,hv,hz⟩:=h;obtain⟨ci,rfl,bc⟩:=aB hc;obtain⟨v,rfl,bv⟩:=aB hv;rw[az]at hq hz;have hC:Cir ci:=⟨hq⟩
 have hd:=uK hz;have hn:0≤ci.2.2/aY v v:=(RA (c:=ci) (d:=v)).le;have om:decide (sW (mkR 0 v.1 (ci.2.2/aY v v)) (mkR 0 v.2 (ci.2.2/aY v v)))=true:=dT (nJ _ _ _ _ _);have b1:Bd (mkR 0 v.1 (ci.2.2/aY v v)) 15000:=(inferInstance:Bd (mkR 0 v.1 (ci.2.2/aY v v)) _).mono (by decide);have b2:Bd (mkR 0 v.2 (ci.2.2/aY v v)) 15000:=(inferInstance:Bd (mkR 0 v.2 (ci.2.2/aY v v)) _).mono (by decide);have e0:(dec ((ak ci.1,ak ci.2.1):BV):Rat×Rat)=ctr ci:=az (ctr ci);have e1:decide (ok (Rat×Rat) 1000 ((ak ci.1,ak ci.2.1):BV))=true:=okd (x:=ctr ci) (by decide) (by decide);have z0:((0:Int):Rat)=0:=rfl;have i0:decide (aG 0)=true:=by decide
 unfold XV;simp only[aO,Nat.reduceAdd,Nat.reduceLeDiff,aH,hd,ne_eq,anY,z0,i0,dT hn,om,e0,e1];rw[aeA]
def ajy:List En:=enL ah6::Yq
def Yu(c:BCU)(v:BV)(_k:KT):OLR:=match !c.1 with|true=>some [RV.d .bool false]|false=>(og (o1 v.1) (match(aD (ag v.1) 0)==0 with|true=>(og (o1 v.2) (match(aD (ag v.2) 0)==0 with|true=>some [RV.d .bool true]|false=>(og (decide (nE c.2.2.1∧ok (Rat×Rat) 510 v∧zeV (dec v)=false)) (og (decide (okC 3500 c∧okP 3500 (hid (enc (jO (dec c.2.2.1) (dec v)))))) (some [RV.d .bool (onR (dC c) (dec (hid (enc (jO (dec c.2.2.1) (dec v))))))])))))|false=>(og (decide (nE c.2.2.1∧ok (Rat×Rat) 510 v∧zeV (dec v)=false)) (og (decide (okC 3500 c∧okP 3500 (hid (enc (jO (dec c.2.2.1) (dec v)))))) (some [RV.d .bool (onR (dC c) (dec (hid (enc (jO (dec c.2.2.1) (dec v))))))])))))
def aaQ:Cn 134 [tCU,tV]:=cn fun(c:BCU) (v:BV)=>lf (gdC c∧ok (Rat×Rat) 510 v) [.d .bool (co (dC c) (dec v))] fun h=>by
 refine aA ajy (Yu c v) ⟨0,?_⟩;obtain⟨hg,hv⟩:=h;obtain⟨v,rfl,bv⟩:=aB hv;have hc35:=bU (k:=3500) hg.1 (by decide) (by decide);have gon:=fun{p:Pt} (hp:Rpd p)=>ago hg hp;obtain⟨ar,li,ci,cw,fr,to⟩:=c;cases ar
 ·rfl
 ·have hc:=hg.1;obtain⟨c1,hq⟩:=hc.1 rfl;have hci:nE ci:=⟨c1,hq⟩
  simp only at c1 hq;obtain⟨ci,rfl,bc⟩:=aB c1;rw[az]at hq;have hC:Cir ci:=⟨hq⟩
  have o35:=amE hc35;have oci:=amE hci;have ry:decide (okP 3500 (enc (jO ci v)))=true:=aI (by decide) (by decide);have go:onR (dC (true,li,enc ci,cw,fr,to)) (jO ci v)=onP (dC (true,li,enc ci,cw,fr,to)) (jO ci v):=gon ack
  have tw:co (dC (true,li,enc ci,cw,fr,to)) v=bif !(zeV v)then onP (dC (true,li,enc ci,cw,fr,to)) (jO ci v)else true:=by
   unfold co;show(bif true&&!(zeV v)then onP _ (jO (dec (enc ci)) v)else true)=_;rw[az];rfl
  rw[az,tw];unfold Yu;simp only[aO,Nat.reduceLeDiff,ao,Bool.not_true,oci,o35,ry,go];have hz:zeV v=(decide (v.1=0)&&decide (v.2=0)):=rfl;rw[hz];cases h1:decide (v.1=0)
  ·simp
  ·cases h2:decide (v.2=0)
   ·simp
   ·rfl
abbrev r00:BR:=((false,[]),(false,[]))
abbrev o00:BO3:=(r00,r00,r00)
abbrev p00:BP:=(r00,r00,r00,r00,r00)
abbrev c00:BCU:=(false,o00,o00,false,p00,p00)
def sI(a b:Rat×Rat):Ln:=(a.2-b.2,b.1-a.1,(a.2-b.2)*a.1+(b.1-a.1)*a.2)
def yN(a b:Rat×Rat):Bool:=decide (a.2-b.2=0)&&decide (b.1-a.1=0)
def Wc(a b:Rat×Rat):BO3:=bif yN a b then o00 else enc (sI a b)
def Vl(a b:Rat×Rat):Int:=bif yN a b then 6 else 0
def eV(a b c:Rat×Rat):Rat:=(b.1-a.1)*(c.2-a.2)-(b.2-a.2)*(c.1-a.1)
def wO(a b c:Rat×Rat):Rat:=(((b.1-a.1)*(b.1-a.1)+(b.2-a.2)*(b.2-a.2))*(c.2-a.2)-((c.1-a.1)*(c.1-a.1)+(c.2-a.2)*(c.2-a.2))*(b.2-a.2))/(eV a b c+eV a b c)
def xy(a b c:Rat×Rat):Rat:=(((c.1-a.1)*(c.1-a.1)+(c.2-a.2)*(c.2-a.2))*(b.1-a.1)-((b.1-a.1)*(b.1-a.1)+(b.2-a.2)*(b.2-a.2))*(c.1-a.1))/(eV a b c+eV a b c)
def qG(a b c:Rat×Rat):Ln:=(a.1+wO a b c,a.2+xy a b c,wO a b c*wO a b c+xy a b c*xy a b c)
def TH(a b c:Rat×Rat):BO3:=bif decide (eV a b c=0)then o00 else enc (qG a b c)
def VU(a b c:Rat×Rat):Int:=bif decide (eV a b c=0)then 6 else 0
def xH(a b c:Rat×Rat):Int:=aD ((b.1-a.1)*(c.2-a.2)) ((b.2-a.2)*(c.1-a.1))
def jG(a b:Rat×Rat):BCU:=bif yN a b then c00 else(false,enc (sI a b),o00,false,enc (atP a),enc (atP b))
def oE(a b:Rat×Rat):Int:=bif yN a b then 6 else 0
def me(a b c:Rat×Rat):BCU:=bif decide (eV a b c=0)then c00 else(true,o00,enc (qG a b c),decide (xH a b c<0),enc (atP a),enc (atP c))
def arcE(a b c:Rat×Rat):Int:=bif decide (eV a b c=0)then 6 else 0
theorem ads(a b c:Rat×Rat):(xH a b c==0)=decide (eV a b c=0):=by
 unfold xH eV;rw[ao];exact anq.2 (by constructor<;>intro h<;>grind)
instance akE {a b:Rat×Rat} {i j:Nat} [h:Bd a i] [h':Bd b j]:Bd (sI a b) (4*i+2*j+3):=by
 have i1:Bd ((a.2-b.2,b.1-a.1,(a.2-b.2)*a.1+(b.1-a.1)*a.2):Ln) _:=inferInstance;exact i1.mono (cK (by omega) (cK (by omega) (by omega)))
def Jy:List En:=[enT iV,enT pu,enL m7,enL lT,enL um,enL GQ,enL Qb,enL BS,enL RF]
def PY(a b:BV)(_k:KT):OLR:=og (o2 a.2 b.2) (og (o2 b.1 a.1) (og (o1 (hSu a.2 b.2)) (match(aD (ag (hSu a.2 b.2)) 0)==0 with|true=>(og (o1 (hSu b.1 a.1)) (match(aD (ag (hSu b.1 a.1)) 0)==0 with|true=>some [RV.d tO (((false,[]),(false,[])),(((false,[]),(false,[])),((false,[]),(false,[])))),RV.d apY 6]|false=>(og (o2 (hSu a.2 b.2) a.1) (og (o2 (hSu b.1 a.1) a.2) (og (o2 (hMu (hSu a.2 b.2) a.1) (hMu (hSu b.1 a.1) a.2)) (some [RV.d tO (hSu a.2 b.2,(hSu b.1 a.1,hAd (hMu (hSu a.2 b.2) a.1) (hMu (hSu b.1 a.1) a.2))),RV.d apY 0]))))))|false=>(og (o2 (hSu a.2 b.2) a.1) (og (o2 (hSu b.1 a.1) a.2) (og (o2 (hMu (hSu a.2 b.2) a.1) (hMu (hSu b.1 a.1) a.2)) (some [RV.d tO (hSu a.2 b.2,(hSu b.1 a.1,hAd (hMu (hSu a.2 b.2) a.1) (hMu (hSu b.1 a.1) a.2))),RV.d apY 0])))))))
def adN:Cn 142 [tV,tV]:=cn fun(a b:BV)=>lf (ok (Rat×Rat) 100 a∧ok (Rat×Rat) 100 b) [.d tO (Wc (dec a) (dec b)),.d apY (Vl (dec a) (dec b))] fun h=>by
 refine aA Jy (PY a b) ⟨0,?_⟩;obtain⟨ha,hb⟩:=h;obtain⟨a,rfl,ba⟩:=aB ha;obtain⟨b,rfl,bb⟩:=aB hb;unfold PY Wc Vl yN;simp only[aO,Nat.reduceAdd,Nat.reduceLeDiff,ao];cases decide (a.2-b.2=0)<;>cases decide (b.1-a.1=0)<;>rfl
def Z8(a b c:BV)(_k:KT):OLR:=og (o2 b.1 a.1) (og (o2 c.2 a.2) (og (o2 (hSu b.1 a.1) (hSu c.2 a.2)) (og (o2 b.2 a.2) (og (o2 c.1 a.1) (og (o2 (hSu b.2 a.2) (hSu c.1 a.1)) (og (o2 (hMu (hSu b.1 a.1) (hSu c.2 a.2)) (hMu (hSu b.2 a.2) (hSu c.1 a.1))) (some [RV.d apY (aD (ag (hMu (hSu b.1 a.1) (hSu c.2 a.2))) (ag (hMu (hSu b.2 a.2) (hSu c.1 a.1))))])))))))
def aik:Cn 143 [tV,tV,tV]:=cn fun(a b c:BV)=>lf (ok (Rat×Rat) 100 a∧ok (Rat×Rat) 100 b∧ok (Rat×Rat) 100 c) [.d apY (xH (dec a) (dec b) (dec c))] fun h=>by
 refine aA Jy (Z8 a b c) ⟨0,?_⟩;obtain⟨ha,hb,hc⟩:=h;obtain⟨a,rfl,ba⟩:=aB ha;obtain⟨b,rfl,bb⟩:=aB hb;obtain⟨c,rfl,bc⟩:=aB hc;unfold Z8;simp only[aO,Nat.reduceAdd,Nat.reduceLeDiff];rfl
def So(a b c:BV)(_k:KT):OLR:=let y1:=hMu (hSu b.1 a.1) (hSu c.2 a.2);let y2:=hMu (hSu b.2 a.2) (hSu c.1 a.1);let y3:=hMu (hSu b.1 a.1) (hSu b.1 a.1);let y4:=hMu (hSu b.2 a.2) (hSu b.2 a.2);let y5:=hMu (hSu c.1 a.1) (hSu c.1 a.1);let y6:=hMu (hSu c.2 a.2) (hSu c.2 a.2);let y7:=hMu (hAd y3 y4) (hSu c.2 a.2);let y8:=hMu (hAd y5 y6) (hSu b.2 a.2);let y9:=hAd (hSu y1 y2) (hSu y1 y2);let y10:=hMu (hAd y5 y6) (hSu b.1 a.1);let y11:=hMu (hAd y3 y4) (hSu c.1 a.1);let y12:=hDi (hSu y7 y8) y9;let y13:=hDi (hSu y10 y11) y9;og (o2 b.1 a.1) (og (o2 b.2 a.2) (og (o2 c.1 a.1) (og (o2 c.2 a.2) (og (o2 (hSu b.1 a.1) (hSu c.2 a.2)) (og (o2 (hSu b.2 a.2) (hSu c.1 a.1)) (og (o2 y1 y2) (og (o1 (hSu y1 y2)) (match(aD (ag (hSu y1 y2)) 0)==0 with|true=>some [RV.d tO (((false,[]),(false,[])),(((false,[]),(false,[])),((false,[]),(false,[])))),RV.d apY 6]|false=>(og (o2 (hSu y1 y2) (hSu y1 y2)) (og (o2 (hSu b.1 a.1) (hSu b.1 a.1)) (og (o2 (hSu b.2 a.2) (hSu b.2 a.2)) (og (o2 y3 y4) (og (o2 (hSu c.1 a.1) (hSu c.1 a.1)) (og (o2 (hSu c.2 a.2) (hSu c.2 a.2)) (og (o2 y5 y6) (og (o2 (hAd y3 y4) (hSu c.2 a.2)) (og (o2 (hAd y5 y6) (hSu b.2 a.2)) (og (o2 y7 y8) (og (decide (hZ (hSu y7 y8) y9)) (og (o2 (hAd y5 y6) (hSu b.1 a.1)) (og (o2 (hAd y3 y4) (hSu c.1 a.1)) (og (o2 y10 y11) (og (decide (hZ (hSu y10 y11) y9)) (og (o2 a.1 y12) (og (o2 a.2 y13) (og (o2 y12 y12) (og (o2 y13 y13) (og (o2 (hMu y12 y12) (hMu y13 y13)) (some [RV.d tO (hAd a.1 y12,(hAd a.2 y13,hAd (hMu y12 y12) (hMu y13 y13))),RV.d apY 0])))))))))))))))))))))))))))))
def aex:Cn 144 [tV,tV,tV]:=cn fun(a b c:BV)=>lf (ok (Rat×Rat) 100 a∧ok (Rat×Rat) 100 b∧ok (Rat×Rat) 100 c) [.d tO (TH (dec a) (dec b) (dec c)),.d apY (VU (dec a) (dec b) (dec c))] fun h=>by
 refine aA Jy (So a b c) ⟨0,?_⟩;obtain⟨ha,hb,hc⟩:=h;obtain⟨a,rfl,ba⟩:=aB ha;obtain⟨b,rfl,bb⟩:=aB hb;obtain⟨c,rfl,bc⟩:=aB hc;have e0:(b.1-a.1)*(c.2-a.2)-(b.2-a.2)*(c.1-a.1)=eV a b c:=rfl;have bD:Bd (eV a b c) 805:=inferInstanceAs (Bd ((b.1-a.1)*(c.2-a.2)-(b.2-a.2)*(c.1-a.1)) _);have eX:(((b.1-a.1)*(b.1-a.1)+(b.2-a.2)*(b.2-a.2))*(c.2-a.2)-((c.1-a.1)*(c.1-a.1)+(c.2-a.2)*(c.2-a.2))*(b.2-a.2))/(eV a b c+eV a b c)=wO a b c:=rfl;have eY:(((c.1-a.1)*(c.1-a.1)+(c.2-a.2)*(c.2-a.2))*(b.1-a.1)-((b.1-a.1)*(b.1-a.1)+(b.2-a.2)*(b.2-a.2))*(c.1-a.1))/(eV a b c+eV a b c)=xy a b c:=rfl;have m1:Bd ((b.1-a.1)*(b.1-a.1)+(b.2-a.2)*(b.2-a.2)) _:=inferInstance;have m2:Bd ((c.1-a.1)*(c.1-a.1)+(c.2-a.2)*(c.2-a.2)) _:=inferInstance;have n1:Bd (((b.1-a.1)*(b.1-a.1)+(b.2-a.2)*(b.2-a.2))*(c.2-a.2)-((c.1-a.1)*(c.1-a.1)+(c.2-a.2)*(c.2-a.2))*(b.2-a.2)) _:=inferInstance;have n2:Bd (((c.1-a.1)*(c.1-a.1)+(c.2-a.2)*(c.2-a.2))*(b.1-a.1)-((b.1-a.1)*(b.1-a.1)+(b.2-a.2)*(b.2-a.2))*(c.1-a.1)) _:=inferInstance;have bX0:Bd ((((b.1-a.1)*(b.1-a.1)+(b.2-a.2)*(b.2-a.2))*(c.2-a.2)-((c.1-a.1)*(c.1-a.1)+(c.2-a.2)*(c.2-a.2))*(b.2-a.2))/(eV a b c+eV a b c)) _:=inferInstance;have bX:Bd (wO a b c) 4000:=by rw[←eX];exact bX0.mono (by decide)
 have bY0:Bd ((((c.1-a.1)*(c.1-a.1)+(c.2-a.2)*(c.2-a.2))*(b.1-a.1)-((b.1-a.1)*(b.1-a.1)+(b.2-a.2)*(b.2-a.2))*(c.1-a.1))/(eV a b c+eV a b c)) _:=inferInstance;have bY:Bd (xy a b c) 4000:=by rw[←eY];exact bY0.mono (by decide)
 unfold So TH VU;simp only[aO,Nat.reduceAdd,Nat.reduceLeDiff,ao,e0];by_cases hd:eV a b c=0
 ·rw[amE hd];rfl
 ·have h2:eV a b c+eV a b c≠0:=by grind
  rw[amG hd];simp only[aO,Nat.reduceAdd,Nat.reduceLeDiff,h2,ne_eq,anY,eX,eY];rfl
def Yb:List En:=enL adN::enT aik::enL aex::Jy
def O4(a b:BV)(_k:KT):OLR:=og (decide (ok (Rat×Rat) 100 a∧ok (Rat×Rat) 100 b)) (match(Vl (dec a) (dec b)) !=0 with|true=>some [RV.d tCU (false,((((false,[]),(false,[])),(((false,[]),(false,[])),((false,[]),(false,[])))),((((false,[]),(false,[])),(((false,[]),(false,[])),((false,[]),(false,[])))),(false,((((false,[]),(false,[])),(((false,[]),(false,[])),(((false,[]),(false,[])),(((false,[]),(false,[])),((false,[]),(false,[])))))),(((false,[]),(false,[])),(((false,[]),(false,[])),(((false,[]),(false,[])),(((false,[]),(false,[])),((false,[]),(false,[]))))))))))),RV.d apY 6]|false=>(og (decide (ok (Rat×Rat) 100000 a)) (og (decide (ok (Rat×Rat) 100000 b)) (some [RV.d tCU (false,(hid (Wc (dec a) (dec b)),((((false,[]),(false,[])),(((false,[]),(false,[])),((false,[]),(false,[])))),(false,(hid (enc (atP (dec a))),hid (enc (atP (dec b)))))))),RV.d apY 0]))))
def Li:Cn 54 [tV,tV]:=cn fun(a b:BV)=>lf (ok (Rat×Rat) 100 a∧ok (Rat×Rat) 100 b) [.d tCU (jG (dec a) (dec b)),.d apY (oE (dec a) (dec b))] fun h=>by
 refine aA Yb (O4 a b) ⟨0,?_⟩;obtain⟨ha,hb⟩:=h;obtain⟨a,rfl,ba⟩:=aB ha;obtain⟨b,rfl,bb⟩:=aB hb;unfold O4 jG oE Vl Wc;simp only[aO,Nat.reduceLeDiff];cases yN a b<;>rfl
def Lt(a b c:BV)(_k:KT):OLR:=og (decide (ok (Rat×Rat) 100 a∧ok (Rat×Rat) 100 b∧ok (Rat×Rat) 100 c)) (og (decide (ok (Rat×Rat) 100 a∧ok (Rat×Rat) 100 b∧ok (Rat×Rat) 100 c)) (match(xH (dec a) (dec b) (dec c))==0 with|true=>some [RV.d tCU (false,((((false,[]),(false,[])),(((false,[]),(false,[])),((false,[]),(false,[])))),((((false,[]),(false,[])),(((false,[]),(false,[])),((false,[]),(false,[])))),(false,((((false,[]),(false,[])),(((false,[]),(false,[])),(((false,[]),(false,[])),(((false,[]),(false,[])),((false,[]),(false,[])))))),(((false,[]),(false,[])),(((false,[]),(false,[])),(((false,[]),(false,[])),(((false,[]),(false,[])),((false,[]),(false,[]))))))))))),RV.d apY 6]|false=>(match(VU (dec a) (dec b) (dec c)) !=0 with|true=>some [RV.d tCU (false,((((false,[]),(false,[])),(((false,[]),(false,[])),((false,[]),(false,[])))),((((false,[]),(false,[])),(((false,[]),(false,[])),((false,[]),(false,[])))),(false,((((false,[]),(false,[])),(((false,[]),(false,[])),(((false,[]),(false,[])),(((false,[]),(false,[])),((false,[]),(false,[])))))),(((false,[]),(false,[])),(((false,[]),(false,[])),(((false,[]),(false,[])),(((false,[]),(false,[])),((false,[]),(false,[]))))))))))),RV.d apY 6]|false=>(og (decide (ok (Rat×Rat) 100000 a)) (og (decide (ok (Rat×Rat) 100000 c)) (some [RV.d tCU (true,((((false,[]),(false,[])),(((false,[]),(false,[])),((false,[]),(false,[])))),(hid (TH (dec a) (dec b) (dec c)),(decide ((xH (dec a) (dec b) (dec c))<0),(hid (enc (atP (dec a))),hid (enc (atP (dec c)))))))),RV.d apY 0]))))))
def MF:Cn 55 [tV,tV,tV]:=cn fun(a b c:BV)=>lf (ok (Rat×Rat) 100 a∧ok (Rat×Rat) 100 b∧ok (Rat×Rat) 100 c) [.d tCU (me (dec a) (dec b) (dec c)),.d apY (arcE (dec a) (dec b) (dec c))] fun h=>by
 refine aA Yb (Lt a b c) ⟨0,?_⟩;obtain⟨ha,hb,hc⟩:=h;obtain⟨a,rfl,ba⟩:=aB ha;obtain⟨b,rfl,bb⟩:=aB hb;obtain⟨c,rfl,bc⟩:=aB hc;unfold Lt me arcE;simp only[aO,Nat.reduceLeDiff];rw[ads];unfold VU TH;cases decide (eV a b c=0)<;>rfl
def fK(c:Cv):List BP→BP→List BP
 |[],x=>[x]
 |y::r,x=>bif decide (c9 c (dec y) (dec x)<0)then y::fK c r x else bif aX (dec y) (dec x)==0 then y::r else x::y::r
def gF(c:Cv)(l:List BP):List BP:=l.foldl (fK c) []
def xA(c:BCU)(l:List BP):Prop:=okC 4000 c∧l.length≤1000000∧∀x∈l,okP 4000 x
instance (c:BCU) (l:List BP):Decidable (xA c l):=by unfold xA;infer_instance
theorem oH{c:Cv}{x y:BP}:∀{r:List BP},y∈fK c r x→y∈r∨y=x
 |[],h=>by simp only[fK,List.mem_singleton]at h;exact .inr h
 |z::r,h=>by
  simp only[fK]at h;cases h1:decide (c9 c (dec z) (dec x)<0)<;>rw[h1]at h
  ·cases h2:aX (dec z) (dec x)==0<;>rw[h2]at h
   ·rcases amT.1 h with h|h
    ·exact .inr h
    ·exact .inl h
   ·exact .inl h
  ·rcases amT.1 h with h|h
   ·exact .inl (by simp[h])
   ·rcases oH h with h|h
    ·exact .inl (amQ _ h)
    ·exact .inr h
theorem wQ(c:Cv)(x:BP):∀r:List BP,(fK c r x).length≤r.length+1
 |[]=>by simp[fK]
 |z::r=>by
  have:=wQ c x r;simp only[fK];cases decide (c9 c (dec z) (dec x)<0)
  ·cases aX (dec z) (dec x)==0<;>simp
  ·simp only[cond_true,amV];omega
theorem wz{c:Cv}:∀{l out:List BP} {y:BP},y∈l.foldl (fK c) out→y∈out∨y∈l
 |[],_,_,h=>.inl h
 |x::l,out,y,h=>by
  rcases wz (l:=l) (out:=fK c out x) h with h|h
  ·rcases oH h with h|h
   ·exact .inl h
   ·exact .inr (by simp[h])
  ·exact .inr (amQ _ h)
theorem wk(c:Cv):∀(l out:List BP),(l.foldl (fK c) out).length≤out.length+l.length
 |[],_=>amK _
 |x::l,out=>by
  have h1:=wk c l (fK c out x);have h2:=wQ c x out;simp only[aom,amV];omega
theorem KB{α:Type}{l:List α}{k:Nat}(h:k<l.length):l.take (k+1)=l.take k++[l[k]]:=by rw[List.take_succ_eq_append_getElem h]
def ZK:List En:=[enT IB,enT Ek,enT Gr]
def aeS:NT:=[((59,8),{keep:=[1,2,5,6],pure_:=[(5,tP)],hl:=1}),((59,21),{keep:=[1,2,5,6,7],pure_:=[(5,tP)],hl:=1})]
def vg:Ctx:=CX (ens ZK) aeS
def k9(c:BCU)(l:List BP)(s6:Int)(s5:List BP):Cfg:=⟨59,[.blk 0,.seq 38],[(1,.d (.sl tP) l),(2,.box 0 0),(5,.d (.sl tP) s5),(6,SI s6)],[.box 39 [SB c.1,SB c.2.1.1.1.1,.d apX c.2.1.1.1.2,SB c.2.1.1.2.1,.d apX c.2.1.1.2.2,SB c.2.1.2.1.1.1,.d apX c.2.1.2.1.1.2,SB c.2.1.2.1.2.1,.d apX c.2.1.2.1.2.2,SB c.2.1.2.2.1.1,.d apX c.2.1.2.2.1.2,SB c.2.1.2.2.2.1,.d apX c.2.1.2.2.2.2,SB c.2.2.1.1.1.1,.d apX c.2.2.1.1.1.2,SB c.2.2.1.1.2.1,.d apX c.2.2.1.1.2.2,SB c.2.2.1.2.1.1.1,.d apX c.2.2.1.2.1.1.2,SB c.2.2.1.2.1.2.1,.d apX c.2.2.1.2.1.2.2,SB c.2.2.1.2.2.1.1,.d apX c.2.2.1.2.2.1.2,SB c.2.2.1.2.2.2.1,.d apX c.2.2.1.2.2.2.2,SB c.2.2.2.1,SB c.2.2.2.2.1.1.1.1,.d apX c.2.2.2.2.1.1.1.2,SB c.2.2.2.2.1.1.2.1,.d apX c.2.2.2.2.1.1.2.2,SB c.2.2.2.2.1.2.1.1.1,.d apX c.2.2.2.2.1.2.1.1.2,SB c.2.2.2.2.1.2.1.2.1,.d apX c.2.2.2.2.1.2.1.2.2,SB c.2.2.2.2.1.2.2.1.1.1,.d apX c.2.2.2.2.1.2.2.1.1.2,SB c.2.2.2.2.1.2.2.1.2.1,.d apX c.2.2.2.2.1.2.2.1.2.2,SB c.2.2.2.2.1.2.2.2.1.1.1,.d apX c.2.2.2.2.1.2.2.2.1.1.2,SB c.2.2.2.2.1.2.2.2.1.2.1,.d apX c.2.2.2.2.1.2.2.2.1.2.2,SB c.2.2.2.2.1.2.2.2.2.1.1,.d apX c.2.2.2.2.1.2.2.2.2.1.2,SB c.2.2.2.2.1.2.2.2.2.2.1,.d apX c.2.2.2.2.1.2.2.2.2.2.2,SB c.2.2.2.2.2.1.1.1,.d apX c.2.2.2.2.2.1.1.2,SB c.2.2.2.2.2.1.2.1,.d apX c.2.2.2.2.2.1.2.2,SB c.2.2.2.2.2.2.1.1.1,.d apX c.2.2.2.2.2.2.1.1.2,SB c.2.2.2.2.2.2.1.2.1,.d apX c.2.2.2.2.2.2.1.2.2,SB c.2.2.2.2.2.2.2.1.1.1,.d apX c.2.2.2.2.2.2.2.1.1.2,SB c.2.2.2.2.2.2.2.1.2.1,.d apX c.2.2.2.2.2.2.2.1.2.2,SB c.2.2.2.2.2.2.2.2.1.1.1,.d apX c.2.2.2.2.2.2.2.2.1.1.2,SB c.2.2.2.2.2.2.2.2.1.2.1,.d apX c.2.2.2.2.2.2.2.2.1.2.2,SB c.2.2.2.2.2.2.2.2.2.1.1,.d apX c.2.2.2.2.2.2.2.2.2.1.2,SB c.2.2.2.2.2.2.2.2.2.2.1,.d apX c.2.2.2.2.2.2.2.2.2.2.2]],0,[]⟩
def wv(c:BCU)(l s5:List BP)(s6 s7:Int):Cfg:=⟨59,[.blk 2,.seq 30,.blk 1,.seq 37,.lp 8,.blk 0,.seq 38],[(1,.d (.sl tP) l),(2,.box 0 0),(5,.d (.sl tP) s5),(6,SI s6),(7,SI s7)],[.box 39 [SB c.1,SB c.2.1.1.1.1,.d apX c.2.1.1.1.2,SB c.2.1.1.2.1,.d apX c.2.1.1.2.2,SB c.2.1.2.1.1.1,.d apX c.2.1.2.1.1.2,SB c.2.1.2.1.2.1,.d apX c.2.1.2.1.2.2,SB c.2.1.2.2.1.1,.d apX c.2.1.2.2.1.2,SB c.2.1.2.2.2.1,.d apX c.2.1.2.2.2.2,SB c.2.2.1.1.1.1,.d apX c.2.2.1.1.1.2,SB c.2.2.1.1.2.1,.d apX c.2.2.1.1.2.2,SB c.2.2.1.2.1.1.1,.d apX c.2.2.1.2.1.1.2,SB c.2.2.1.2.1.2.1,.d apX c.2.2.1.2.1.2.2,SB c.2.2.1.2.2.1.1,.d apX c.2.2.1.2.2.1.2,SB c.2.2.1.2.2.2.1,.d apX c.2.2.1.2.2.2.2,SB c.2.2.2.1,SB c.2.2.2.2.1.1.1.1,.d apX c.2.2.2.2.1.1.1.2,SB c.2.2.2.2.1.1.2.1,.d apX c.2.2.2.2.1.1.2.2,SB c.2.2.2.2.1.2.1.1.1,.d apX c.2.2.2.2.1.2.1.1.2,SB c.2.2.2.2.1.2.1.2.1,.d apX c.2.2.2.2.1.2.1.2.2,SB c.2.2.2.2.1.2.2.1.1.1,.d apX c.2.2.2.2.1.2.2.1.1.2,SB c.2.2.2.2.1.2.2.1.2.1,.d apX c.2.2.2.2.1.2.2.1.2.2,SB c.2.2.2.2.1.2.2.2.1.1.1,.d apX c.2.2.2.2.1.2.2.2.1.1.2,SB c.2.2.2.2.1.2.2.2.1.2.1,.d apX c.2.2.2.2.1.2.2.2.1.2.2,SB c.2.2.2.2.1.2.2.2.2.1.1,.d apX c.2.2.2.2.1.2.2.2.2.1.2,SB c.2.2.2.2.1.2.2.2.2.2.1,.d apX c.2.2.2.2.1.2.2.2.2.2.2,SB c.2.2.2.2.2.1.1.1,.d apX c.2.2.2.2.2.1.1.2,SB c.2.2.2.2.2.1.2.1,.d apX c.2.2.2.2.2.1.2.2,SB c.2.2.2.2.2.2.1.1.1,.d apX c.2.2.2.2.2.2.1.1.2,SB c.2.2.2.2.2.2.1.2.1,.d apX c.2.2.2.2.2.2.1.2.2,SB c.2.2.2.2.2.2.2.1.1.1,.d apX c.2.2.2.2.2.2.2.1.1.2,SB c.2.2.2.2.2.2.2.1.2.1,.d apX c.2.2.2.2.2.2.2.1.2.2,SB c.2.2.2.2.2.2.2.2.1.1.1,.d apX c.2.2.2.2.2.2.2.2.1.1.2,SB c.2.2.2.2.2.2.2.2.1.2.1,.d apX c.2.2.2.2.2.2.2.2.1.2.2,SB c.2.2.2.2.2.2.2.2.2.1.1,.d apX c.2.2.2.2.2.2.2.2.2.1.2,SB c.2.2.2.2.2.2.2.2.2.2.1,.d apX c.2.2.2.2.2.2.2.2.2.2.2]],0,[]⟩
def afY(c:BCU)(l:List BP)(k:KT):OLR:=k 8 (k9 c l 0 ([]))
theorem ae4(c:BCU)(l:List BP):RS vg 59 [.d tCU c,.d (.sl tP) l] (afY c l):=rsX
def yl(c:BCU)(l:List BP)(s6:Int)(s5:List BP)(k:KT):OLR:=match decide (s6<(l.length:Int))with|true=>k 21 (wv c l s5 s6 0)|false=>some [RV.d (.sl tP) s5]
theorem EN(c:BCU)(l:List BP)(s6:Int)(s5:List BP):RN vg 8 (k9 c l s6 s5) (yl c l s6 s5):=rnX
def uw(c:BCU)(l s5:List BP)(s6 s7:Int)(k:KT):OLR:=match decide (s7<(s5.length:Int))with|true=>(match aS s5 s7 with|some x1=>(match aS l s6 with|some x2=>(og (decide (okC 4000 c∧okP 4000 x1∧okP 4000 x2)) (match decide ((c9 (dC c) (dec x1) (dec x2))<0)with|true=>k 21 (wv c l s5 s6 (i64.wrap (s7+1)))|false=>(match decide (s7<(s5.length:Int))with|true=>(match aS s5 s7 with|some x3=>(match aS l s6 with|some x4=>(og (decide (okP 4000 x3∧okP 4000 x4)) (match aX (dec x3) (dec x4)==0 with|true=>k 8 (k9 c l (i64.wrap (s6+1)) s5)|false=>(og (decide ((0:Int)≤0∧0≤s7∧s7≤(s5.length:Int))) (match aS l s6 with|some x5=>(og (decide ((0:Int)≤s7∧s7≤(s5.length:Int)∧(s5.length:Int)≤(s5.length:Int))) (dup (.b (.b .l .l) .l) (og (decide ((([]:List BP).length+((s5.take (s7).toNat).drop (0:Int).toNat).length)*320≤140737488355328∧([]:List BP).length+((s5.take (s7).toNat).drop (0:Int).toNat).length≤140737488355328)) (og (decide (((([]:List BP)++((s5.take (s7).toNat).drop (0:Int).toNat)).length+([x5]).length)*320≤140737488355328∧(([]:List BP)++((s5.take (s7).toNat).drop (0:Int).toNat)).length+([x5]).length≤140737488355328)) (og (decide ((((([]:List BP)++((s5.take (s7).toNat).drop (0:Int).toNat))++([x5])).length+((s5.take ((s5.length:Int)).toNat).drop (s7:Int).toNat).length)*320≤140737488355328∧((([]:List BP)++((s5.take (s7).toNat).drop (0:Int).toNat))++([x5])).length+((s5.take ((s5.length:Int)).toNat).drop (s7:Int).toNat).length≤140737488355328)) (k 8 (k9 c l (i64.wrap (s6+1)) (((([]:List BP)++((s5.take (s7).toNat).drop (0:Int).toNat))++([x5]))++((s5.take ((s5.length:Int)).toNat).drop (s7:Int).toNat)))))))))|none=>none))))|none=>none)|none=>none)|false=>(og (decide ((0:Int)≤0∧0≤s7∧s7≤(s5.length:Int))) (match aS l s6 with|some x3=>(og (decide ((0:Int)≤s7∧s7≤(s5.length:Int)∧(s5.length:Int)≤(s5.length:Int))) (dup (.b (.b .l .l) .l) (og (decide ((([]:List BP).length+((s5.take (s7).toNat).drop (0:Int).toNat).length)*320≤140737488355328∧([]:List BP).length+((s5.take (s7).toNat).drop (0:Int).toNat).length≤140737488355328)) (og (decide (((([]:List BP)++((s5.take (s7).toNat).drop (0:Int).toNat)).length+([x3]).length)*320≤140737488355328∧(([]:List BP)++((s5.take (s7).toNat).drop (0:Int).toNat)).length+([x3]).length≤140737488355328)) (og (decide ((((([]:List BP)++((s5.take (s7).toNat).drop (0:Int).toNat))++([x3])).length+((s5.take ((s5.length:Int)).toNat).drop (s7:Int).toNat).length)*320≤140737488355328∧((([]:List BP)++((s5.take (s7).toNat).drop (0:Int).toNat))++([x3])).length+((s5.take ((s5.length:Int)).toNat).drop (s7:Int).toNat).length≤140737488355328)) (k 8 (k9 c l (i64.wrap (s6+1)) (((([]:List BP)++((s5.take (s7).toNat).drop (0:Int).toNat))++([x3]))++((s5.take ((s5.length:Int)).toNat).drop (s7:Int).toNat)))))))))|none=>none)))))|none=>none)|none=>none)|false=>(match decide (s7<(s5.length:Int))with|true=>(match aS s5 s7 with|some x1=>(match aS l s6 with|some x2=>(og (decide (okP 4000 x1∧okP 4000 x2)) (match aX (dec x1) (dec x2)==0 with|true=>k 8 (k9 c l (i64.wrap (s6+1)) s5)|false=>(og (decide ((0:Int)≤0∧0≤s7∧s7≤(s5.length:Int))) (match aS l s6 with|some x3=>(og (decide ((0:Int)≤s7∧s7≤(s5.length:Int)∧(s5.length:Int)≤(s5.length:Int))) (dup (.b (.b .l .l) .l) (og (decide ((([]:List BP).length+((s5.take (s7).toNat).drop (0:Int).toNat).length)*320≤140737488355328∧([]:List BP).length+((s5.take (s7).toNat).drop (0:Int).toNat).length≤140737488355328)) (og (decide (((([]:List BP)++((s5.take (s7).toNat).drop (0:Int).toNat)).length+([x3]).length)*320≤140737488355328∧(([]:List BP)++((s5.take (s7).toNat).drop (0:Int).toNat)).length+([x3]).length≤140737488355328)) (og (decide ((((([]:List BP)++((s5.take (s7).toNat).drop (0:Int).toNat))++([x3])).length+((s5.take ((s5.length:Int)).toNat).drop (s7:Int).toNat).length)*320≤140737488355328∧((([]:List BP)++((s5.take (s7).toNat).drop (0:Int).toNat))++([x3])).length+((s5.take ((s5.length:Int)).toNat).drop (s7:Int).toNat).length≤140737488355328)) (k 8 (k9 c l (i64.wrap (s6+1)) (((([]:List BP)++((s5.take (s7).toNat).drop (0:Int).toNat))++([x3]))++((s5.take ((s5.length:Int)).toNat).drop (s7:Int).toNat)))))))))|none=>none))))|none=>none)|none=>none)|false=>(og (decide ((0:Int)≤0∧0≤s7∧s7≤(s5.length:Int))) (match aS l s6 with|some x1=>(og (decide ((0:Int)≤s7∧s7≤(s5.length:Int)∧(s5.length:Int)≤(s5.length:Int))) (dup (.b (.b .l .l) .l) (og (decide ((([]:List BP).length+((s5.take (s7).toNat).drop (0:Int).toNat).length)*320≤140737488355328∧([]:List BP).length+((s5.take (s7).toNat).drop (0:Int).toNat).length≤140737488355328)) (og (decide (((([]:List BP)++((s5.take (s7).toNat).drop (0:Int).toNat)).length+([x1]).length)*320≤140737488355328∧(([]:List BP)++((s5.take (s7).toNat).drop (0:Int).toNat)).length+([x1]).length≤140737488355328)) (og (decide ((((([]:List BP)++((s5.take (s7).toNat).drop (0:Int).toNat))++([x1])).length+((s5.take ((s5.length:Int)).toNat).drop (s7:Int).toNat).length)*320≤140737488355328∧((([]:List BP)++((s5.take (s7).toNat).drop (0:Int).toNat))++([x1])).length+((s5.take ((s5.length:Int)).toNat).drop (s7:Int).toNat).length≤140737488355328)) (k 8 (k9 c l (i64.wrap (s6+1)) (((([]:List BP)++((s5.take (s7).toNat).drop (0:Int).toNat))++([x1]))++((s5.take ((s5.length:Int)).toNat).drop (s7:Int).toNat)))))))))|none=>none)))
theorem Af(c:BCU)(l s5:List BP)(s6 s7:Int):RN vg 21 (wv c l s5 s6 s7) (uw c l s5 s6 s7):=rnX
theorem aeF(c:BCU)(l:List BP)(hc:okC 4000 c)(hl:∀x∈l,okP 4000 x)(out:List BP)(ho:∀x∈out,okP 4000 x)(hlen:out.length≤1000000)(i:Nat)(hi:i<l.length)(hi2:i≤1000000)(r:List RV)(h:vg.Runs 8 (k9 c l ((i+1:Nat):Int) (fK (dC c) out l[i])) r):
  ∀(j k:Nat),k+j=out.length→fK (dC c) out l[i]=out.take k++fK (dC c) (out.drop k) l[i]→vg.Runs 21 (wv c l out (i:Int) (k:Int)) r:=by
 have e0:i64.wrap ((i:Int)+1)=((i+1:Nat):Int):=b8 (by omega);have gl:aS l (i:Int)=some l[i]:=by rw[av,amF hi]
 have hx:=hl _ (ane hi);have tl:out.take ((out.length:Int)).toNat=out:=by simp
 have put:∀k:Nat,k≤out.length→fK (dC c) out l[i]=out.take k++[l[i]]++out.drop k→∃n,(match decide ((0:Int)≤0∧0≤(k:Int)∧(k:Int)≤(out.length:Int))with
   |true=>(match aS l (i:Int)with
    |some x5=>(match decide ((0:Int)≤(k:Int)∧(k:Int)≤(out.length:Int)∧(out.length:Int)≤(out.length:Int))with
     |true=>(match decide ((([]:List BP).length+((out.take ((k:Int)).toNat).drop (0:Int).toNat).length)*320≤140737488355328∧([]:List BP).length+((out.take ((k:Int)).toNat).drop (0:Int).toNat).length≤140737488355328)with
      |true=>(match decide (((([]:List BP)++((out.take ((k:Int)).toNat).drop (0:Int).toNat)).length+([x5]).length)*320≤140737488355328∧(([]:List BP)++((out.take ((k:Int)).toNat).drop (0:Int).toNat)).length+([x5]).length≤140737488355328)with
       |true=>(match decide ((((([]:List BP)++((out.take ((k:Int)).toNat).drop (0:Int).toNat))++([x5])).length+((out.take ((out.length:Int)).toNat).drop ((k:Int)).toNat).length)*320≤140737488355328∧((([]:List BP)++((out.take ((k:Int)).toNat).drop (0:Int).toNat))++([x5])).length+((out.take ((out.length:Int)).toNat).drop ((k:Int)).toNat).length≤140737488355328)with
        |true=>vg.k n 8 (k9 c l (i64.wrap ((i:Int)+1)) (((([]:List BP)++((out.take ((k:Int)).toNat).drop (0:Int).toNat))++([x5]))++((out.take ((out.length:Int)).toNat).drop ((k:Int)).toNat)))
        |false=>none)
       |false=>none)
      |false=>none)
     |false=>none)
    |none=>none)
   |false=>none)=some r:=by
  intro k hk he;have e1:((out.take ((k:Int)).toNat).drop (0:Int).toNat)=out.take k:=by simp
  have e2:((out.take ((out.length:Int)).toNat).drop ((k:Int)).toNat)=out.drop k:=by simp
  have l1:(out.take k).length=k:=by simp;omega
  have l2:(out.drop k).length=out.length-k:=by simp
  obtain⟨n,hn⟩:=h;refine⟨n,?_⟩;rw[gl,dT (show(0:Int)≤0∧0≤(k:Int)∧(k:Int)≤(out.length:Int) by omega)];dsimp only;rw[dT (show(0:Int)≤(k:Int)∧(k:Int)≤(out.length:Int)∧(out.length:Int)≤(out.length:Int) by omega)];simp only[e1,e2,apy,List.length_nil,ana,amV,l1,l2,ani];rw[dT (by omega),dT (by omega),dT (by omega),e0,←he];exact hn
 intro j;induction j with
 |zero=>
  intro k hk he;have hk:k=out.length:=by omega
  subst hk;refine Af _ _ _ _ _ ?_;unfold uw;rw[ce (by omega)];simp only[eZ];refine put _ (amK _) ?_;rw[he];simp[fK]
 |succ j ih=>
  intro k hk he;have hkl:k<out.length:=by omega
  have go:aS out (k:Int)=some out[k]:=by rw[av,amF hkl]
  have ho1:=ho _ (ane hkl);have ek:i64.wrap ((k:Int)+1)=((k+1:Nat):Int):=b8 (by omega);have hd:out.drop k=out[k]::out.drop (k+1):=amX hkl;refine Af _ _ _ _ _ ?_;unfold uw;simp only[eZ,bI hkl,go,gl,dT (show okC 4000 c∧okP 4000 out[k]∧okP 4000 l[i] from⟨hc,ho1,hx⟩),dT (show okP 4000 out[k]∧okP 4000 l[i] from⟨ho1,hx⟩)];rw[hd]at he;simp only[fK]at he;cases h1:decide (c9 (dC c) (dec out[k]) (dec l[i])<0)<;>rw[h1]at he
  ·simp only[cond_false]at he;cases h2:aX (dec out[k]) (dec l[i])==0<;>rw[h2]at he
   ·simp only[cond_false]at he;have:=put k (by omega) (by rw[he,hd];simp);simp only[gl]at this;exact this
   ·simp only[cond_true]at he;rw[←hd,an2]at he;obtain⟨n,hn⟩:=h;refine⟨n,?_⟩;rw[e0];rw[he]at hn;exact hn
  ·simp only[cond_true]at he;obtain⟨n,hn⟩:=ih (k+1) (by omega) (by rw[he,KB hkl,am3];rfl);refine⟨n,?_⟩;rw[ek];exact hn
theorem Vk(c:BCU)(l:List BP)(hc:okC 4000 c)(hl:∀x∈l,okP 4000 x)(hle:l.length≤1000000):∀(j i:Nat),i+j=l.length→∀out:List BP,(∀x∈out,okP 4000 x)→out.length≤i→vg.Runs 8 (k9 c l (i:Int) out) [.d (.sl tP) ((l.drop i).foldl (fK (dC c)) out)]:=by
 intro j;induction j with
 |zero=>
  intro i hi out ho hlen;refine EN _ _ _ _ ⟨0,?_⟩;unfold yl;rw[ce (by omega),oY (by omega)];rfl
 |succ j ih=>
  intro i hi out ho hlen;have hil:i<l.length:=by omega
  have h2:=ih (i+1) (by omega) (fK (dC c) out l[i]) (fun x hx=>by
   rcases oH hx with h|h
   ·exact ho x h
   ·rw[h];exact hl _ (ane hil)) (amS (wQ _ _ _) (by omega))
  obtain⟨n,hn⟩:=aeF c l hc hl out ho (by omega) i hil (by omega) _ h2 out.length 0 (by omega) (by simp);refine EN _ _ _ _ ⟨n,?_⟩;unfold yl;rw[bI hil,gI hil,aom];exact hn
def Yf:Cn 59 [tCU,(.sl tP)]:=cn fun(c:BCU) (l:List BP)=>lf (xA c l) [.d (.sl tP) (gF (dC c) l)] fun h=>by
 obtain⟨hc,hle,hl⟩:=h;refine c8 ZK (show vg.Res _ _ _ from ?_);obtain⟨n,hn⟩:=Vk c l hc hl hle l.length 0 (by omega) [] (fun x hx=>by cases hx) (amK _);exact ae4 _ _ ⟨n,hn⟩
def Cy(c:BCU)(x y:BP):BCU:=(c.1,c.2.1,c.2.2.1,c.2.2.2.1,x,y)
def yW(c:BCU):List BP→List BCU
 |[]=>[]
 |x::r=>match r with
  |[]=>[]
  |y::_=>Cy c x y::yW c r
def vG(c:BCU)(l:List BP):List BP:=gF (dC c) ([c.2.2.2.2.1,c.2.2.2.2.2]++l)
def ld(c:BCU)(l:List BP):List BCU:=yW c (vG c l)
def FV(c:BCU)(l:List BP):Prop:=okC 3500 c∧l.length≤900000∧∀x∈l,okP 3500 x∧onR (dC c) (dec x)=true
instance (c:BCU) (l:List BP):Decidable (FV c l):=by unfold FV;infer_instance
theorem U3{c:BCU}{l:List BP}(h:FV c l):xA c ([c.2.2.2.2.1,c.2.2.2.2.2]++l):=by
 obtain⟨h1,h2,h3⟩:=h;have h4:=bU (k:=4000) h1 (by decide) (by decide);refine⟨h4,by simp;omega,fun x hx=>?_⟩;rcases ano.1 hx with hx|hx
 ·simp only[amT,anZ,apn]at hx;rcases hx with rfl|rfl
  ·exact h4.2.2.1
  ·exact h4.2.2.2
 ·exact cD (h3 x hx).1 (by decide) (by decide)
theorem HZ(c:BCU)(l:List BP):(vG c l).length≤l.length+2:=by
 have:=wk (dC c) ([c.2.2.2.2.1,c.2.2.2.2.2]++l) [];unfold vG gF;simp at this ⊢;omega
theorem Ii{c:BCU}{l:List BP}{x:BP}(h:x∈vG c l):x=c.2.2.2.2.1∨x=c.2.2.2.2.2∨x∈l:=by
 rcases wz (out:=[]) h with h|h
 ·cases h
 ·rcases ano.1 h with h|h
  ·simp only[amT,anZ,apn]at h;rcases h with h|h
   ·exact .inl h
   ·exact .inr (.inl h)
  ·exact .inr (.inr h)
theorem H4{c p:BCU}:∀{s:List BP},p∈yW c s→∃x y,x∈s∧y∈s∧p=Cy c x y
 |[],h=>by cases h
 |[_],h=>by cases h
 |x::y::r,h=>by
  simp only[yW]at h;rcases amT.1 h with h|h
  ·exact⟨x,y,by simp,by simp,h⟩
  ·obtain⟨a,b,h1,h2,h3⟩:=H4 (s:=y::r) h;exact⟨a,b,amQ _ h1,amQ _ h2,h3⟩
def X0:List En:=[enT IB,enT Ek,enT Gr,enL QS,enT xL,enK Yf]
def aeH:NT:=[((20,6),{keep:=[1,2,6],hl:=1}),((20,31),{keep:=[2,7,8,9],own:=[(8,39,tCU)],hl:=3})]
def z5:Ctx:=CX (ens X0) aeH
def AV(c:BCU)(l:List BP)(s6:Int):Cfg:=⟨20,[.blk 0,.seq 23],[(1,.d (.sl tP) l),(2,.box 0 0),(6,SI s6)],[.box 39 [SB c.1,SB c.2.1.1.1.1,.d apX c.2.1.1.1.2,SB c.2.1.1.2.1,.d apX c.2.1.1.2.2,SB c.2.1.2.1.1.1,.d apX c.2.1.2.1.1.2,SB c.2.1.2.1.2.1,.d apX c.2.1.2.1.2.2,SB c.2.1.2.2.1.1,.d apX c.2.1.2.2.1.2,SB c.2.1.2.2.2.1,.d apX c.2.1.2.2.2.2,SB c.2.2.1.1.1.1,.d apX c.2.2.1.1.1.2,SB c.2.2.1.1.2.1,.d apX c.2.2.1.1.2.2,SB c.2.2.1.2.1.1.1,.d apX c.2.2.1.2.1.1.2,SB c.2.2.1.2.1.2.1,.d apX c.2.2.1.2.1.2.2,SB c.2.2.1.2.2.1.1,.d apX c.2.2.1.2.2.1.2,SB c.2.2.1.2.2.2.1,.d apX c.2.2.1.2.2.2.2,SB c.2.2.2.1,SB c.2.2.2.2.1.1.1.1,.d apX c.2.2.2.2.1.1.1.2,SB c.2.2.2.2.1.1.2.1,.d apX c.2.2.2.2.1.1.2.2,SB c.2.2.2.2.1.2.1.1.1,.d apX c.2.2.2.2.1.2.1.1.2,SB c.2.2.2.2.1.2.1.2.1,.d apX c.2.2.2.2.1.2.1.2.2,SB c.2.2.2.2.1.2.2.1.1.1,.d apX c.2.2.2.2.1.2.2.1.1.2,SB c.2.2.2.2.1.2.2.1.2.1,.d apX c.2.2.2.2.1.2.2.1.2.2,SB c.2.2.2.2.1.2.2.2.1.1.1,.d apX c.2.2.2.2.1.2.2.2.1.1.2,SB c.2.2.2.2.1.2.2.2.1.2.1,.d apX c.2.2.2.2.1.2.2.2.1.2.2,SB c.2.2.2.2.1.2.2.2.2.1.1,.d apX c.2.2.2.2.1.2.2.2.2.1.2,SB c.2.2.2.2.1.2.2.2.2.2.1,.d apX c.2.2.2.2.1.2.2.2.2.2.2,SB c.2.2.2.2.2.1.1.1,.d apX c.2.2.2.2.2.1.1.2,SB c.2.2.2.2.2.1.2.1,.d apX c.2.2.2.2.2.1.2.2,SB c.2.2.2.2.2.2.1.1.1,.d apX c.2.2.2.2.2.2.1.1.2,SB c.2.2.2.2.2.2.1.2.1,.d apX c.2.2.2.2.2.2.1.2.2,SB c.2.2.2.2.2.2.2.1.1.1,.d apX c.2.2.2.2.2.2.2.1.1.2,SB c.2.2.2.2.2.2.2.1.2.1,.d apX c.2.2.2.2.2.2.2.1.2.2,SB c.2.2.2.2.2.2.2.2.1.1.1,.d apX c.2.2.2.2.2.2.2.2.1.1.2,SB c.2.2.2.2.2.2.2.2.1.2.1,.d apX c.2.2.2.2.2.2.2.2.1.2.2,SB c.2.2.2.2.2.2.2.2.2.1.1,.d apX c.2.2.2.2.2.2.2.2.2.1.2,SB c.2.2.2.2.2.2.2.2.2.2.1,.d apX c.2.2.2.2.2.2.2.2.2.2.2]],0,[]⟩
def wr(c:BCU)(l:List BP)(s9:Int)(r2:List BCU):Cfg:=⟨20,[.blk 2,.seq 46],[(2,.box 0 0),(7,.d (.sl tP) (gF (dC c) (([c.2.2.2.2.1,c.2.2.2.2.2])++l))),(8,.own 2),(9,SI s9)],[.box 39 [SB c.1,SB c.2.1.1.1.1,.d apX c.2.1.1.1.2,SB c.2.1.1.2.1,.d apX c.2.1.1.2.2,SB c.2.1.2.1.1.1,.d apX c.2.1.2.1.1.2,SB c.2.1.2.1.2.1,.d apX c.2.1.2.1.2.2,SB c.2.1.2.2.1.1,.d apX c.2.1.2.2.1.2,SB c.2.1.2.2.2.1,.d apX c.2.1.2.2.2.2,SB c.2.2.1.1.1.1,.d apX c.2.2.1.1.1.2,SB c.2.2.1.1.2.1,.d apX c.2.2.1.1.2.2,SB c.2.2.1.2.1.1.1,.d apX c.2.2.1.2.1.1.2,SB c.2.2.1.2.1.2.1,.d apX c.2.2.1.2.1.2.2,SB c.2.2.1.2.2.1.1,.d apX c.2.2.1.2.2.1.2,SB c.2.2.1.2.2.2.1,.d apX c.2.2.1.2.2.2.2,SB c.2.2.2.1,SB c.2.2.2.2.1.1.1.1,.d apX c.2.2.2.2.1.1.1.2,SB c.2.2.2.2.1.1.2.1,.d apX c.2.2.2.2.1.1.2.2,SB c.2.2.2.2.1.2.1.1.1,.d apX c.2.2.2.2.1.2.1.1.2,SB c.2.2.2.2.1.2.1.2.1,.d apX c.2.2.2.2.1.2.1.2.2,SB c.2.2.2.2.1.2.2.1.1.1,.d apX c.2.2.2.2.1.2.2.1.1.2,SB c.2.2.2.2.1.2.2.1.2.1,.d apX c.2.2.2.2.1.2.2.1.2.2,SB c.2.2.2.2.1.2.2.2.1.1.1,.d apX c.2.2.2.2.1.2.2.2.1.1.2,SB c.2.2.2.2.1.2.2.2.1.2.1,.d apX c.2.2.2.2.1.2.2.2.1.2.2,SB c.2.2.2.2.1.2.2.2.2.1.1,.d apX c.2.2.2.2.1.2.2.2.2.1.2,SB c.2.2.2.2.1.2.2.2.2.2.1,.d apX c.2.2.2.2.1.2.2.2.2.2.2,SB c.2.2.2.2.2.1.1.1,.d apX c.2.2.2.2.2.1.1.2,SB c.2.2.2.2.2.1.2.1,.d apX c.2.2.2.2.2.1.2.2,SB c.2.2.2.2.2.2.1.1.1,.d apX c.2.2.2.2.2.2.1.1.2,SB c.2.2.2.2.2.2.1.2.1,.d apX c.2.2.2.2.2.2.1.2.2,SB c.2.2.2.2.2.2.2.1.1.1,.d apX c.2.2.2.2.2.2.2.1.1.2,SB c.2.2.2.2.2.2.2.1.2.1,.d apX c.2.2.2.2.2.2.2.1.2.2,SB c.2.2.2.2.2.2.2.2.1.1.1,.d apX c.2.2.2.2.2.2.2.2.1.1.2,SB c.2.2.2.2.2.2.2.2.1.2.1,.d apX c.2.2.2.2.2.2.2.2.1.2.2,SB c.2.2.2.2.2.2.2.2.2.1.1,.d apX c.2.2.2.2.2.2.2.2.2.1.2,SB c.2.2.2.2.2.2.2.2.2.2.1,.d apX c.2.2.2.2.2.2.2.2.2.2.2],.gone,.row 39 tCU r2],0,[]⟩
def afU(c:BCU)(l:List BP)(k:KT):OLR:=k 6 (AV c l 0)
theorem aho(c:BCU)(l:List BP):RS z5 20 [.d tCU c,.d (.sl tP) l] (afU c l):=rsX
def yp(c:BCU)(l:List BP)(s6:Int)(k:KT):OLR:=match decide (s6<(l.length:Int))with|true=>(match aS l s6 with|some x1=>(og (decide (okC 3500 c∧okP 3500 x1)) (match !(onR (dC c) (dec x1))with|true=>some [RV.d (.sl tCU) ([]),RV.d apY 1]|false=>k 6 (AV c l (i64.wrap (s6+1)))))|none=>none)|false=>(og (decide ((([c.2.2.2.2.1,c.2.2.2.2.2]).length+l.length)*320≤140737488355328∧([c.2.2.2.2.1,c.2.2.2.2.2]).length+l.length≤140737488355328)) (og (decide (xA c (([c.2.2.2.2.1,c.2.2.2.2.2])++l))) (k 31 (wr c l 1 ([])))))
theorem CU(c:BCU)(l:List BP)(s6:Int):RN z5 6 (AV c l s6) (yp c l s6):=rnX
def uu(c:BCU)(l:List BP)(s9:Int)(r2:List BCU)(k:KT):OLR:=match decide (s9<((gF (dC c) (([c.2.2.2.2.1,c.2.2.2.2.2])++l)).length:Int))with|true=>(match aS (gF (dC c) (([c.2.2.2.2.1,c.2.2.2.2.2])++l)) (i64.wrap (s9-1))with|some x1=>(match aS (gF (dC c) (([c.2.2.2.2.1,c.2.2.2.2.2])++l)) s9 with|some x2=>dup (.b .l .l) (og (decide ((r2.length+([(c.1,(c.2.1,(c.2.2.1,(c.2.2.2.1,(x1,x2)))))]).length)*1040≤140737488355328∧r2.length+([(c.1,(c.2.1,(c.2.2.1,(c.2.2.2.1,(x1,x2)))))]).length≤140737488355328)) (k 31 (wr c l (i64.wrap (s9+1)) (r2++([(c.1,(c.2.1,(c.2.2.1,(c.2.2.2.1,(x1,x2)))))])))))|none=>none)|none=>none)|false=>some [RV.d (.sl tCU) r2,RV.d apY 0]
theorem zj(c:BCU)(l:List BP)(s9:Int)(r2:List BCU):RN z5 31 (wr c l s9 r2) (uu c l s9 r2):=rnX
theorem ac0(c:BCU)(l:List BP)(hle:l.length≤900000)(S:List BP)(hS:S=vG c l):∀(j i:Nat),1≤i→i+j=max S.length 1→∀out:List BCU,out.length≤i→z5.Runs 31 (wr c l (i:Int) out) [.d (.sl tCU) (out++yW c (S.drop (i-1))),.d apY (0:Int)]:=by
 have hSl:=HZ c l;rw[←hS]at hSl;have eS:gF (dC c) ([c.2.2.2.2.1,c.2.2.2.2.2]++l)=S:=hS.symm;intro j;induction j with
 |zero=>
  intro i h1 hi out hlen;refine zj _ _ _ _ ⟨0,?_⟩;unfold uu;rw[eS,ce (by omega)]
  have:yW c (S.drop (i-1))=[]:=by
   have hl:(S.drop (i-1)).length≤1:=by rw[ao0];omega
   match S.drop (i-1),hl with
   |[],_=>rfl
   |[_],_=>rfl
   |_::_::_,h=>simp at h
  rw[this,am9]
 |succ j ih=>
  intro i h1 hi out hlen;have hil:i<S.length:=by omega
  have e1:i64.wrap ((i:Int)-1)=((i-1:Nat):Int):=by rw[aT (by omega) (by omega)];omega
  have e2:i64.wrap ((i:Int)+1)=((i+1:Nat):Int):=b8 (by omega);have g1:aS S ((i-1:Nat):Int)=some S[i-1]:=by rw[av,amF (by omega)]
  have g2:aS S (i:Int)=some S[i]:=by rw[av,amF hil]
  obtain⟨n,hn⟩:=ih (i+1) (by omega) (by omega) (out++[Cy c S[i-1] S[i]]) (by simp;omega);refine zj _ _ _ _ ⟨n,?_⟩;unfold uu;rw[eS];simp only[eZ,bI hil,e1,e2,g1,g2];rw[dT (by simp;omega)]
  have hd:S.drop (i-1)=S[i-1]::S.drop i:=by
   have:=amX (l:=S) (i:=i-1) (by omega);rw[this,show i-1+1=i by omega]
  have hd2:S.drop i=S[i]::S.drop (i+1):=amX hil;rw[hd,hd2];rw[show i+1-1=i by omega,hd2,am3]at hn;exact hn
theorem acs(c:BCU)(l:List BP)(h:FV c l):∀(j i:Nat),i+j=l.length→z5.Runs 6 (AV c l (i:Int)) [.d (.sl tCU) (ld c l),.d apY (0:Int)]:=by
 have hs:=U3 h;obtain⟨hc,hle,hl⟩:=h;intro j;induction j with
 |zero=>
  intro i hi;obtain⟨n,hn⟩:=ac0 c l hle (vG c l) rfl (max (vG c l).length 1-1) 1 (amK _) (by omega) [] (by simp);refine CU _ _ _ ⟨n,?_⟩;unfold yp;rw[ce (by omega),dT (by simp;omega),dT hs];exact hn
 |succ j ih=>
  intro i hi;have hil:i<l.length:=by omega
  obtain⟨n,hn⟩:=ih (i+1) (by omega);have h1:=hl _ (ane hil);refine CU _ _ _ ⟨n,?_⟩;unfold yp;rw[bI hil,av,amF hil,b8 (by omega)];dsimp only;rw[dT (show okC 3500 c∧okP 3500 l[i] from⟨hc,h1.1⟩),h1.2];exact hn
def ag3:Cn 20 [tCU,(.sl tP)]:=cn fun(c:BCU) (l:List BP)=>lf (FV c l) [.d (.sl tCU) (ld c l),.d apY 0] fun h=>by
 refine c8 X0 (show z5.Res _ _ _ from ?_);obtain⟨n,hn⟩:=acs c l h l.length 0 (by omega);exact aho _ _ ⟨n,hn⟩
def yT(n d:Int):Prop:=aG n∧aG d∧0<d
instance (n d:Int):Decidable (yT n d):=by unfold yT;infer_instance
def aef:List En:=[enL AN,enL Z0]
def O9(n d:Int)(_k:KT):OLR:=match d==0 with|true=>(og (decide (aG (0:Int))) (og (decide (aG (1:Int))) (og (decide (jQ (hid (ai (0:Int))) (hid (ai (1:Int))))) (some [RV.d tR (hid (fp (hid (ai (0:Int))) (hid (ai (1:Int)))))]))))|false=>(og (decide (aG n)) (og (decide (aG d)) (og (decide (jQ (hid (ai n)) (hid (ai d)))) (some [RV.d tR (hid (fp (hid (ai n)) (hid (ai d))))]))))
def BE:Cn 40 [apY,apY]:=cn fun(n d:Int)=>lf (yT n d) [.d tR (ak (Rat.divInt n d))] fun h=>by
 refine aA aef (O9 n d) ⟨0,?_⟩;obtain⟨hn,hd,h0⟩:=h;have hne:(d==0)=false:=by simp;omega
 unfold O9;rw[hne,dT hn,dT hd];simp only[bK];rw[dT (show jQ (ai n) (ai d) from⟨aV (by have:=jX hn;omega),aV (by have:=jX hd;omega),by rw[dec_enc];omega⟩)];unfold fp;rw[dec_enc,dec_enc]
theorem IL{n d:Int}(h1:aG n)(h2:aG d)(h0:0<d):Bd (Rat.divInt n d) 3:=by
 obtain⟨k,rfl⟩:=anO (show 0≤d by omega);exact⟨uD (by omega) (jX h1) (jX h2)⟩
end Go.Proofs.YtnkndpoojnflmaaGreat
end
