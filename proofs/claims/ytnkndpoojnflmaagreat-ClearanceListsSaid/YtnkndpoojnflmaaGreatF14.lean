/- Lines and circles: the program's contracts. -/
import Derived.Test.YtnkndpoojnflmaaGreatF12
import Derived.Test.YtnkndpoojnflmaaGreatF13
import Derived.Test.YtnkndpoojnflmaaGreatF10
import Derived.Test.YtnkndpoojnflmaaGreatF11
noncomputable section
namespace Go.Proofs.YtnkndpoojnflmaaGreat
open Go.RowKit Go.IntKind
def zH:List En:=[⟨99,iy,fi⟩,⟨108,gV,eU⟩,⟨107,iS,fB⟩,⟨106,iE,ff⟩,⟨109,kH,gH⟩,⟨41,fM,dW⟩,⟨73,mr,iu⟩,⟨305,yo,sR⟩,enT Dg,enL M8,enL Nj,enL NY,enL Pf,enL IH,enL Pv,enL aau]
def XI(l:BO3)(p:BP)(_k:KT):OLR:=let y1:=bI (dec (p.1,(p.2.1,p.2.2.2.2)));let y2:=hid ((bI (dec p.2.2)).1);let y3:=jW (ae l.1) (hid (y1.1)) (y1.2);let y4:=jW (ae l.2.1) y2 ((bI (dec p.2.2)).2);let y5:=dO (hid (y3.1)) (hid (y4.1));let y6:=hid ((frF (ae l.2.2)).1);let y7:=dO (hid (y5.1)) (hid (nf y6));og (decide (ok Rt 100000 (p.1,(p.2.1,p.2.2.2.2)))) (og (decide (ok Rat 100000 l.1∧prI (hid (y1.1)))) (og (decide (ok Rt 100000 p.2.2)) (og (decide (ok Rat 100000 l.2.1∧prI y2)) (og (decide (ok Rat 200000 l.2.2)) (match !(y3.2)with|true=>some [RV.d aqt 0,RV.d .bool false]|false=>(match !(y4.2)with|true=>some [RV.d aqt 0,RV.d .bool false]|false=>(match !((frF (ae l.2.2)).2)with|true=>some [RV.d aqt 0,RV.d .bool false]|false=>(og (decide (prI (hid (y3.1))∧prI (hid (y4.1)))) (match !(y5.2)with|true=>some [RV.d aqt 0,RV.d .bool false]|false=>(og (decide (prI y6)) (og (decide (prI (hid (y5.1))∧prI (hid (nf y6)))) (match !(y7.2)with|true=>some [RV.d aqt 0,RV.d .bool false]|false=>some [RV.d aqt ((sgF (hid (y7.1))).1),RV.d .bool ((sgF (hid (y7.1))).2)]))))))))))))
def ahN:Cn 344 [tO,tP]:=cn fun(l:BO3) (p:BP)=>lf (ok Ln 300 l∧ok Pt 4000 p) [.d aqt ((xe (dec l) (dec p)).1),.d .bool ((xe (dec l) (dec p)).2)] fun h=>by
 refine aA zH (XI l p) ⟨0,?_⟩;obtain⟨hl,hp⟩:=h;obtain⟨l,rfl,bl⟩:=aB hl;obtain⟨p,rfl,bp⟩:=aB hp;have dx:(dec ((aj p.1,aj p.2.1,aj p.2.2.2.2):BO3):Rt)=pxR p:=az (pxR p);have dy:(dec ((aj p.2.2.1,aj p.2.2.2.1,aj p.2.2.2.2):BO3):Rt)=pyR p:=az (pyR p);have dy':(dec (enc p.2.2:BO3):Rt)=pyR p:=az (pyR p);have px:Bd (pxR p) 4000:=(inferInstance:Bd ((p.1,p.2.1,p.2.2.2.2):Rt) _).mono (by decide);have py:Bd (pyR p) 4000:=(inferInstance:Bd ((p.2.2.1,p.2.2.2.1,p.2.2.2.2):Rt) _).mono (by decide);have ox:decide (ok Rt 100000 ((aj p.1,aj p.2.1,aj p.2.2.2.2):BO3))=true:=okd (x:=pxR p) (by decide) (by decide);have oy:decide (ok Rt 100000 (enc p.2.2:BO3))=true:=okd (x:=pyR p) (by decide) (by decide);have pr:∀r,prI (bI r).1:=yf;have pt:∀n a k,prI (jW n a k).1:=Wf;have pf:∀q,prI (frF q).1:=RE.frF_pr;unfold XI;simp only[aO,Nat.reduceLeDiff,dx,dy',ox,oy,dT (pr _),dT (pt _ _ _),dT (pf _),dT (RE.addF_pr (pt _ _ _) (pt _ _ _)),dT (RE.negF_pr (pf _))];unfold xe;generalize bI (pxR p)=X;generalize bI (pyR p)=Y;generalize jW l.1 X.1 X.2=U;generalize jW l.2.1 Y.1 Y.2=V;generalize frF l.2.2=W;generalize dO U.1 V.1=S;generalize dO S.1 (nf W.1)=D;generalize sgF D.1=Z;obtain⟨_,u⟩:=U;obtain⟨_,v⟩:=V;obtain⟨_,w⟩:=W;obtain⟨_,s⟩:=S;obtain⟨_,d⟩:=D;cases u<;>cases v<;>cases w<;>try rfl
 cases s<;>cases d<;>rfl
def Ya:Cn 223 [tR,tR]:=cn fun(a b:BR)=>lf (okR a∧okR b) [.d tR (aj (ae a+ae b))] fun h=>jx [RV.d tR (hAd a b)] (du zH) h
def X0:Cn 222 [tR,tR]:=cn fun(a b:BR)=>lf (okR a∧okR b) [.d tR (aj (ae a-ae b))] fun h=>jx [RV.d tR (hSu a b)] (du zH) h
def Z4:Cn 224 [tR,tR]:=cn fun(a b:BR)=>lf (okR a∧okR b) [.d tR (aj (ae a*ae b))] fun h=>jx [RV.d tR (hMu a b)] (du zH) h
def XL(a b:BR)(_k:KT):OLR:=og (decide (ij a b)) (match 0 !=0 with|true=>(og (decide (aH (0:Int))) (some [RV.d tR (hid (aj ((0:Int):Rat)))]))|false=>some [RV.d tR (hDi a b)])
def aj4:Cn 225 [tR,tR]:=cn fun(a b:BR)=>lf (ij a b) [.d tR (aj (ae a/ae b))] fun h=>by
 refine aA zH (XL a b) ⟨0,?_⟩;unfold XL;rw[dT h];simp only[bJ];rfl
def OY:List En:=enT ahN::enL Ya::enL X0::enL Z4::enL aj4::zH
def YQ(a b c:BR)(_k:KT):OLR:=og (o1 a) (og (o1 b) (og (o1 c) (match(i64.wrap ((aD (ae b) 0)*(aD (ae c) 0)))==0 with|true=>some [RV.d aqt (aD (ae a) 0)]|false=>(match(aD (ae a) 0)==(i64.wrap ((aD (ae b) 0)*(aD (ae c) 0)))with|true=>some [RV.d aqt (aD (ae a) 0)]|false=>(match(aD (ae a) 0)==0 with|true=>some [RV.d aqt (i64.wrap ((aD (ae b) 0)*(aD (ae c) 0)))]|false=>(og (o2 a a) (og (o2 b b) (og (o2 (hMu b b) c) (og (o2 (hMu a a) (hMu (hMu b b) c)) (some [RV.d aqt (i64.wrap ((aD (ae a) 0)*(aD (ae (hMu a a)) (ae (hMu (hMu b b) c)))))]))))))))))
def aka:Cn 343 [tR,tR,tR]:=cn fun(a b c:BR)=>lf (ok Rat 240000 a∧ok Rat 170000 b∧ok Rat 30000 c) [.d aqt (gJ (ae a) (ae b) (ae c))] fun h=>by
 refine aA OY (YQ a b c) ⟨0,?_⟩;obtain⟨ha,hb,hc⟩:=h;obtain⟨a,rfl,ba⟩:=aB ha;obtain⟨b,rfl,bb⟩:=aB hb;obtain⟨c,rfl,bc⟩:=aB hc;unfold YQ;simp only[aO,Nat.reduceAdd,Nat.reduceLeDiff,qs];exact Bx _ _ _
def aak(a b c f:BR)(_k:KT):OLR:=og (decide (ok Rt 100000 (a,(b,c)))) (og (decide (ok Rat 200000 f)) (match !((bI (dec (a,(b,c)))).2)with|true=>some [RV.d tG (0,0),RV.d .bool false]|false=>(match !((frF (ae f)).2)with|true=>some [RV.d tG (0,0),RV.d .bool false]|false=>(og (decide (prI (hid ((frF (ae f)).1)))) (og (decide (prI (hid ((bI (dec (a,(b,c)))).1))∧prI (hid (nf (hid ((frF (ae f)).1)))))) (some [RV.d tG (hid ((dO (hid ((bI (dec (a,(b,c)))).1)) (hid (nf (hid ((frF (ae f)).1))))).1)),RV.d .bool ((dO (hid ((bI (dec (a,(b,c)))).1)) (hid (nf (hid ((frF (ae f)).1))))).2)]))))))
def afn:Cn 361 [tR,tR,tR,tR]:=cn fun(a b c f:BR)=>lf (ok Rat 100000 a∧ok Rat 100000 b∧ok Rat 100000 c∧ok Rat 100000 f) [.d tG ((fv (ae a,ae b,ae c) (ae f)).1),.d .bool ((fv (ae a,ae b,ae c) (ae f)).2)] fun h=>by
 refine aA OY (aak a b c f) ⟨0,?_⟩;obtain⟨ha,hb,hc,hf⟩:=h;obtain⟨a,rfl,ba⟩:=aB ha;obtain⟨b,rfl,bb⟩:=aB hb;obtain⟨c,rfl,bc⟩:=aB hc;obtain⟨f,rfl,bf⟩:=aB hf;have dr:(dec ((aj a,aj b,aj c):BO3):Rt)=(a,b,c):=az ((a,b,c):Rt);have orr:decide (ok Rt 100000 ((aj a,aj b,aj c):BO3))=true:=okd (x:=((a,b,c):Rt)) (by decide) (by decide);unfold aak;simp only[aO,Nat.reduceLeDiff,dr,orr,dT (RE.frF_pr _),dT (RE.negF_pr (RE.frF_pr _)),dT (yf _)];unfold fv;generalize bI (a,b,c)=X;generalize frF f=Y;obtain⟨_,x⟩:=X;obtain⟨_,y⟩:=Y;cases x<;>cases y<;>rfl
def QI:List En:=enT aka::enL afn::OY
def aaw(c:BO3)(p:BP)(_k:KT):OLR:=let y1:=fv (ae p.1,ae p.2.1,ae p.2.2.2.2) (ae c.1);let y2:=fv (ae p.2.2.1,ae p.2.2.2.1,ae p.2.2.2.2) (ae c.2.1);let y3:=cM (hid (y1.1)) (hid (y1.1));let y4:=cM (hid (y2.1)) (hid (y2.1));let y5:=dO (hid (y3.1)) (hid (y4.1));let y6:=hid ((frF (ae c.2.2)).1);let y7:=dO (hid (y5.1)) (hid (nf y6));og (decide (ok Rat 100000 p.1∧ok Rat 100000 p.2.1∧ok Rat 100000 p.2.2.2.2∧ok Rat 100000 c.1)) (og (decide (ok Rat 100000 p.2.2.1∧ok Rat 100000 p.2.2.2.1∧ok Rat 100000 p.2.2.2.2∧ok Rat 100000 c.2.1)) (og (decide (ok Rat 200000 c.2.2)) (match !(y1.2)with|true=>some [RV.d aqt 0,RV.d .bool false]|false=>(match !(y2.2)with|true=>some [RV.d aqt 0,RV.d .bool false]|false=>(match !((frF (ae c.2.2)).2)with|true=>some [RV.d aqt 0,RV.d .bool false]|false=>(og (decide (prI (hid (y1.1))∧prI (hid (y1.1)))) (og (decide (prI (hid (y2.1))∧prI (hid (y2.1)))) (match !(y3.2)with|true=>some [RV.d aqt 0,RV.d .bool false]|false=>(match !(y4.2)with|true=>some [RV.d aqt 0,RV.d .bool false]|false=>(og (decide (prI (hid (y3.1))∧prI (hid (y4.1)))) (match !(y5.2)with|true=>some [RV.d aqt 0,RV.d .bool false]|false=>(og (decide (prI y6)) (og (decide (prI (hid (y5.1))∧prI (hid (nf y6)))) (match !(y7.2)with|true=>some [RV.d aqt 0,RV.d .bool false]|false=>some [RV.d aqt ((sgF (hid (y7.1))).1),RV.d .bool ((sgF (hid (y7.1))).2)]))))))))))))))
def aiV:Cn 342 [tO,tP]:=cn fun(c:BO3) (p:BP)=>lf (ok Ln 300 c∧ok Pt 4000 p) [.d aqt ((uJ (dec c) (dec p)).1),.d .bool ((uJ (dec c) (dec p)).2)] fun h=>by
 refine aA QI (aaw c p) ⟨0,?_⟩;obtain⟨hc,hp⟩:=h;obtain⟨c,rfl,bc⟩:=aB hc;obtain⟨p,rfl,bp⟩:=aB hp;have pd:∀r q,prI (fv r q).1:=Uq;have pf:∀q,prI (frF q).1:=RE.frF_pr;have pm:∀a b,prI (cM a b).1:=uk;have dx:fv (p.1,p.2.1,p.2.2.2.2) c.1=fv (pxR p) c.1:=rfl;have dy:fv (p.2.2.1,p.2.2.2.1,p.2.2.2.2) c.2.1=fv (pyR p) c.2.1:=rfl;unfold aaw;simp only[aO,Nat.reduceLeDiff,dx,dy,dT (pd _ _),dT (pm _ _),dT (pf _),dT (RE.negF_pr (pf _)),dT (RE.addF_pr (pm _ _) (pm _ _))];unfold uJ;generalize fv (pxR p) c.1=X;generalize fv (pyR p) c.2.1=Y;generalize frF c.2.2=W;generalize cM X.1 X.1=U;generalize cM Y.1 Y.1=V;generalize dO U.1 V.1=S;generalize dO S.1 (nf W.1)=D;generalize sgF D.1=Z;obtain⟨_,x⟩:=X;obtain⟨_,y⟩:=Y;obtain⟨_,w⟩:=W;obtain⟨_,u⟩:=U;obtain⟨_,v⟩:=V;obtain⟨_,s⟩:=S;obtain⟨_,d⟩:=D;cases x<;>cases y<;>cases w<;>try rfl
 cases u<;>cases v<;>try rfl
 cases s<;>cases d<;>rfl
def X2(l:BO3)(p:BP)(_k:KT):OLR:=og (decide (ok Ln 300 l∧ok Pt 4000 p)) (match(xe (dec l) (dec p)).2 with|true=>some [RV.d aqt ((xe (dec l) (dec p)).1)]|false=>(og (o2 l.1 p.1) (og (o2 l.2.1 p.2.2.1) (og (o2 (hMu l.1 p.1) (hMu l.2.1 p.2.2.1)) (og (o2 (hAd (hMu l.1 p.1) (hMu l.2.1 p.2.2.1)) l.2.2) (og (o2 l.1 p.2.1) (og (o2 l.2.1 p.2.2.2.1) (og (o2 (hMu l.1 p.2.1) (hMu l.2.1 p.2.2.2.1)) (og (decide (ok Rat 240000 (hSu (hAd (hMu l.1 p.1) (hMu l.2.1 p.2.2.1)) l.2.2)∧ok Rat 170000 (hAd (hMu l.1 p.2.1) (hMu l.2.1 p.2.2.2.1))∧ok Rat 30000 p.2.2.2.2)) (some [RV.d aqt (gJ (ae (hSu (hAd (hMu l.1 p.1) (hMu l.2.1 p.2.2.1)) l.2.2)) (ae (hAd (hMu l.1 p.2.1) (hMu l.2.1 p.2.2.2.1))) (ae p.2.2.2.2))]))))))))))
def ahu:Cn 308 [tO,tP]:=cn fun(l:BO3) (p:BP)=>lf (ok Ln 300 l∧okP 4000 p) [.d aqt (ud (dec l) (dec p))] fun h=>by
 refine aA QI (X2 l p) ⟨0,?_⟩;obtain⟨hl,hp⟩:=h;obtain⟨l,rfl,bl⟩:=aB hl;obtain⟨p,rfl,bp,rp⟩:=aZ hp;unfold X2;simp only[aO,Nat.reduceAdd,Nat.reduceLeDiff];cases hq:(xe l p).2
 ·rfl
 ·rw[RE.sidL_ok l hq]
def W7:List En:=enT aiV::QI
def YD(c:BO3)(p:BP)(_k:KT):OLR:=og (decide (ok Ln 300 c∧ok Pt 4000 p)) (match(uJ (dec c) (dec p)).2 with|true=>some [RV.d aqt (i64.wrap (0-((uJ (dec c) (dec p)).1)))]|false=>(og (o2 p.1 c.1) (og (o2 p.2.2.1 c.2.1) (og (o2 (hSu p.1 c.1) (hSu p.1 c.1)) (og (o2 (hSu p.2.2.1 c.2.1) (hSu p.2.2.1 c.2.1)) (og (o2 (hMu (hSu p.1 c.1) (hSu p.1 c.1)) (hMu (hSu p.2.2.1 c.2.1) (hSu p.2.2.1 c.2.1))) (og (o2 p.2.1 p.2.1) (og (o2 p.2.2.2.1 p.2.2.2.1) (og (o2 (hMu p.2.1 p.2.1) (hMu p.2.2.2.1 p.2.2.2.1)) (og (o2 p.2.2.2.2 (hAd (hMu p.2.1 p.2.1) (hMu p.2.2.2.1 p.2.2.2.1))) (og (o2 (hAd (hMu (hSu p.1 c.1) (hSu p.1 c.1)) (hMu (hSu p.2.2.1 c.2.1) (hSu p.2.2.1 c.2.1))) (hMu p.2.2.2.2 (hAd (hMu p.2.1 p.2.1) (hMu p.2.2.2.1 p.2.2.2.1)))) (og (o2 (hSu p.1 c.1) p.2.1) (og (o2 (hSu p.2.2.1 c.2.1) p.2.2.2.1) (og (o2 (hMu (hSu p.1 c.1) p.2.1) (hMu (hSu p.2.2.1 c.2.1) p.2.2.2.1)) (og (o2 (hAd (hAd (hMu (hSu p.1 c.1) (hSu p.1 c.1)) (hMu (hSu p.2.2.1 c.2.1) (hSu p.2.2.1 c.2.1))) (hMu p.2.2.2.2 (hAd (hMu p.2.1 p.2.1) (hMu p.2.2.2.1 p.2.2.2.1)))) c.2.2) (og (o2 (hAd (hMu (hSu p.1 c.1) p.2.1) (hMu (hSu p.2.2.1 c.2.1) p.2.2.2.1)) (hAd (hMu (hSu p.1 c.1) p.2.1) (hMu (hSu p.2.2.1 c.2.1) p.2.2.2.1))) (og (decide (ok Rat 240000 (hSu (hAd (hAd (hMu (hSu p.1 c.1) (hSu p.1 c.1)) (hMu (hSu p.2.2.1 c.2.1) (hSu p.2.2.1 c.2.1))) (hMu p.2.2.2.2 (hAd (hMu p.2.1 p.2.1) (hMu p.2.2.2.1 p.2.2.2.1)))) c.2.2)∧ok Rat 170000 (hAd (hAd (hMu (hSu p.1 c.1) p.2.1) (hMu (hSu p.2.2.1 c.2.1) p.2.2.2.1)) (hAd (hMu (hSu p.1 c.1) p.2.1) (hMu (hSu p.2.2.1 c.2.1) p.2.2.2.1)))∧ok Rat 30000 p.2.2.2.2)) (some [RV.d aqt (i64.wrap (0-(gJ (ae (hSu (hAd (hAd (hMu (hSu p.1 c.1) (hSu p.1 c.1)) (hMu (hSu p.2.2.1 c.2.1) (hSu p.2.2.1 c.2.1))) (hMu p.2.2.2.2 (hAd (hMu p.2.1 p.2.1) (hMu p.2.2.2.1 p.2.2.2.1)))) c.2.2)) (ae (hAd (hAd (hMu (hSu p.1 c.1) p.2.1) (hMu (hSu p.2.2.1 c.2.1) p.2.2.2.1)) (hAd (hMu (hSu p.1 c.1) p.2.1) (hMu (hSu p.2.2.1 c.2.1) p.2.2.2.1)))) (ae p.2.2.2.2))))]))))))))))))))))))
def aga:Cn 307 [tO,tP]:=cn fun(c:BO3) (p:BP)=>lf (ok Ln 300 c∧okP 4000 p) [.d aqt (oN (dec c) (dec p))] fun h=>by
 refine aA W7 (YD c p) ⟨0,?_⟩;obtain⟨hc,hp⟩:=h;obtain⟨c,rfl,bc⟩:=aB hc;obtain⟨p,rfl,bp,rp⟩:=aZ hp;have sb:=lN (sqA p (ctr c)-c.2.2) (sqB p (ctr c)) p.2.2.2.2;unfold YD;simp only[aO,Nat.reduceAdd,Nat.reduceLeDiff];cases hq:(uJ c p).2
 ·unfold oN sqA sqB ctr at*
  dsimp only at sb ⊢;rw[show(p.2.2.2.2*(p.2.1*p.2.1+p.2.2.2.1*p.2.2.2.1))=(p.2.1*p.2.1+p.2.2.2.1*p.2.2.2.1)*p.2.2.2.2 by grind];rw[aT (by omega) (by omega),ao1]
 ·have hb: -1≤(uJ c p).1∧(uJ c p).1≤1:=by
   have:=RE.insC_ok c hq;unfold oN at this;omega
  dsimp only;rw[aT (by omega) (by omega),ao1,RE.insC_ok c hq]
def Xm(l:BO3)(v:BV)(_k:KT):OLR:=og (o2 l.1 v.1) (og (o2 l.2.1 v.2) (og (o2 (hMu l.1 v.1) (hMu l.2.1 v.2)) (og (o2 (hAd (hMu l.1 v.1) (hMu l.2.1 v.2)) l.2.2) (og (o2 l.1 l.1) (og (o2 l.2.1 l.2.1) (og (o2 (hMu l.1 l.1) (hMu l.2.1 l.2.1)) (og (decide (ij (hSu (hAd (hMu l.1 v.1) (hMu l.2.1 v.2)) l.2.2) (hAd (hMu l.1 l.1) (hMu l.2.1 l.2.1)))) (og (o2 (hDi (hSu (hAd (hMu l.1 v.1) (hMu l.2.1 v.2)) l.2.2) (hAd (hMu l.1 l.1) (hMu l.2.1 l.2.1))) l.1) (og (o2 v.1 (hMu (hDi (hSu (hAd (hMu l.1 v.1) (hMu l.2.1 v.2)) l.2.2) (hAd (hMu l.1 l.1) (hMu l.2.1 l.2.1))) l.1)) (og (o2 (hDi (hSu (hAd (hMu l.1 v.1) (hMu l.2.1 v.2)) l.2.2) (hAd (hMu l.1 l.1) (hMu l.2.1 l.2.1))) l.2.1) (og (o2 v.2 (hMu (hDi (hSu (hAd (hMu l.1 v.1) (hMu l.2.1 v.2)) l.2.2) (hAd (hMu l.1 l.1) (hMu l.2.1 l.2.1))) l.2.1)) (some [RV.d tV (hSu v.1 (hMu (hDi (hSu (hAd (hMu l.1 v.1) (hMu l.2.1 v.2)) l.2.2) (hAd (hMu l.1 l.1) (hMu l.2.1 l.2.1))) l.1),hSu v.2 (hMu (hDi (hSu (hAd (hMu l.1 v.1) (hMu l.2.1 v.2)) l.2.2) (hAd (hMu l.1 l.1) (hMu l.2.1 l.2.1))) l.2.1))]))))))))))))
def Pk:Cn 113 [tO,tV]:=cn fun(l:BO3) (v:BV)=>lf (ok Ln 300 l∧ok (Rat×Rat) 200 v∧((dec l:Ln).1≠0∨(dec l:Ln).2.1≠0)) [.d tV (enc (dt (dec l) (dec v)))] fun h=>by
 refine aA W7 (Xm l v) ⟨0,?_⟩;obtain⟨hl,hv,h0⟩:=h;obtain⟨l,rfl,bl⟩:=aB hl;obtain⟨v,rfl,bv⟩:=aB hv;have hn:l.1*l.1+l.2.1*l.2.1≠0:=lK (by rw[az]at h0;exact h0);unfold Xm;simp only[aO,Nat.reduceAdd,Nat.reduceLeDiff,hn,ne_eq,aop];rfl
theorem Tl(n:Int):(if(if n>(-1)then n else(-1))<1 then(if n>(-1)then n else(-1))else 1)=kj n:=by
 unfold kj;split<;>split<;>(try split)<;>(try split)<;>omega
def wZ:List En:=[enT Er,enT Qr,enL akk,enL aiC,enT R7,enT ahu,enT aga]
def XM(c:BCU)(p:BP)(_k:KT):OLR:=match c.1 with|true=>(og (decide (ok Ln 300 c.2.2.1∧okP 4000 p)) (some [RV.d .bool ((oN (dec c.2.2.1) (dec p))==0)]))|false=>(og (decide (ok Ln 300 c.2.1∧okP 4000 p)) (some [RV.d .bool ((ud (dec c.2.1) (dec p))==0)]))
def ai9:Cn 226 [tCU,tP]:=cn fun(c:BCU) (p:BP)=>lf (okC 4000 c∧okP 4000 p) [.d .bool (gD (dC c) (dec p))] fun h=>by
 refine aA wZ (XM c p) ⟨0,?_⟩;obtain⟨hc,hp⟩:=h;have op:decide (okP 4000 p)=true:=am5 hp;obtain⟨ar,li,ci,cw,fr,to⟩:=c;obtain⟨c1,c2,_⟩:=hc;unfold XM;cases ar
 ·have e:=(c2 rfl).1;simp only[ao4,dT e,op,aoB];rfl
 ·have e:=(c1 rfl).1;simp only[ao4,dT e,op,aoB];rfl
def XG(c:BO3)(p:BP)(_k:KT):OLR:=og (decide (okP 4000 p)) (og (decide (okT 15000 (hid (enc (yP (dec p))))∧ok Rat 15000 c.2.1)) (match decide ((fC (dec (hid (enc (yP (dec p))))) (ae c.2.1))>0)with|true=>some [RV.d aqt 0]|false=>(match(fC (dec (hid (enc (yP (dec p))))) (ae c.2.1))==0 with|true=>(og (decide (okP 4000 p)) (og (decide (okT 15000 (hid (enc (xP (dec p))))∧ok Rat 15000 c.1)) (match decide ((fC (dec (hid (enc (xP (dec p))))) (ae c.1))>0)with|true=>some [RV.d aqt 0]|false=>some [RV.d aqt 1])))|false=>some [RV.d aqt 1])))
def ag3:Cn 327 [tO,tP]:=cn fun(c:BO3) (p:BP)=>lf (ok Ln 300 c∧okP 4000 p) [.d aqt (Ec (dec c) (dec p))] fun h=>by
 refine aA wZ (XG c p) ⟨0,?_⟩;obtain⟨hc,hp⟩:=h;obtain⟨c,rfl,bc⟩:=aB hc;obtain⟨p,rfl,bp,rp⟩:=aZ hp;unfold XG Ec upR;simp only[aO,Nat.reduceLeDiff,aI,aJ];cases decide (fC (yP p) c.2.1>0)<;>cases fC (yP p) c.2.1==0<;>cases decide (fC (xP p) c.1>0)<;>rfl
def ahB:Ctx:=CX (ens wZ) []
def Y3(n:Int)(_k:KT):OLR:=some [RV.d aqt (if(if n>(-1)then n else(-1))<1 then(if n>(-1)then n else(-1))else 1)]
theorem afo(n:Int):RS ahB 286 [SI n] (Y3 n):=rsX
def akl:Cn 286 [aqt]:=cn fun(n:Int)=>lf True [.d aqt (kj n)] fun _=>by
 refine cY wZ (afo _ ⟨0,?_⟩);unfold Y3;rw[Tl]
def agh:Ctx:=CX (ens wZ) []
def af8(c:BCU)(_k:KT):OLR:=match c.1 with|true=>some [RV.d tCU (c.1,(c.2.1,(c.2.2.1,(!c.2.2.2.1,(c.2.2.2.2.2,c.2.2.2.2.1)))))]|false=>some [RV.d tCU (c.1,(c.2.1,(c.2.2.1,(false,(c.2.2.2.2.2,c.2.2.2.2.1)))))]
theorem afL(c:BCU):RS agh 284 [.d tCU c] (af8 c):=rsX
def agR:Cn 284 [tCU]:=cn fun(c:BCU)=>lf True [.d tCU (tY c)] fun _=>by
 refine cY wZ (afL _ ⟨0,?_⟩);obtain⟨ar,li,ci,cw,fr,to⟩:=c;cases ar<;>rfl
def JQ:List En:=enT ai9::enT ag3::enT akl::enL agR::wZ
def Zf(c:BO3)(p q:BP)(_k:KT):OLR:=og (decide (ok Ln 300 c∧okP 4000 p)) (og (decide (ok Ln 300 c∧okP 4000 q)) (match(Ec (dec c) (dec p)) !=(Ec (dec c) (dec q))with|true=>some [RV.d aqt (i64.wrap ((Ec (dec c) (dec p))-(Ec (dec c) (dec q))))]|false=>(og (decide (okP 4000 p)) (og (decide (okP 4000 q)) (og (decide (okT 15000 (hid (enc (xP (dec p))))∧okT 15000 (hid (enc (xP (dec q)))))) (match(Ec (dec c) (dec p))==0 with|true=>some [RV.d aqt (i64.wrap (0-(aW (dec (hid (enc (xP (dec p))))) (dec (hid (enc (xP (dec q))))))))]|false=>some [RV.d aqt (aW (dec (hid (enc (xP (dec p))))) (dec (hid (enc (xP (dec q))))))]))))))
def ajT:Cn 287 [tO,tP,tP]:=cn fun(c:BO3) (p q:BP)=>lf (ok Ln 300 c∧okP 4000 p∧okP 4000 q) [.d aqt (sh aW (ptd (dec c) (dec p)) (ptd (dec c) (dec q)))] fun h=>by
 refine aA JQ (Zf c p q) ⟨0,?_⟩;obtain⟨hc,hp,hq⟩:=h;obtain⟨c,rfl,bc⟩:=aB hc;obtain⟨p,rfl,bp,rp⟩:=aZ hp;obtain⟨q,rfl,bq,rq⟩:=aZ hq;have xb:=wC (xP p) (xP q);unfold Zf;simp only[aO,Nat.reduceLeDiff,aI,aJ,aT (x:= -aW (xP p) (xP q)) (by omega) (by omega),ao1];unfold sh Ec ptd;cases upR c p<;>cases upR c q<;>rfl
def afK:Ctx:=CX (ens JQ) []
def aaz(c:BCU)(_k:KT):OLR:=match c.2.2.2.1 with|true=>some [RV.d tCU (hid (tY c))]|false=>some [RV.d tCU c]
theorem ai4(c:BCU):RS afK 190 [.d tCU c] (aaz c):=rsX
def X7:Cn 190 [tCU]:=cn fun(c:BCU)=>lf True [.d tCU (dY c)] fun _=>by
 refine cY JQ (ai4 _ ⟨0,?_⟩);obtain⟨ar,li,ci,cw,fr,to⟩:=c;unfold aaz dY;cases cw
 ·rfl
 ·simp only[bJ];rfl
def Zo:List En:=enT ajT::enL X7::JQ
def aab(c:BO3)(f p:BP)(_k:KT):OLR:=og (decide (ok Ln 300 c∧okP 4000 p∧okP 4000 f)) (match(sh aW (ptd (dec c) (dec p)) (ptd (dec c) (dec f)))==0 with|true=>some [RV.d aqt 0]|false=>(match decide ((sh aW (ptd (dec c) (dec p)) (ptd (dec c) (dec f)))>0)with|true=>some [RV.d aqt 1]|false=>some [RV.d aqt 2]))
def ajl:Cn 285 [tO,tP,tP]:=cn fun(c:BO3) (f p:BP)=>lf (ok Ln 300 c∧okP 4000 f∧okP 4000 p) [.d aqt (oM aW (ptd (dec c) (dec f)) (ptd (dec c) (dec p)))] fun h=>by
 refine aA Zo (aab c f p) ⟨0,?_⟩;obtain⟨hc,hf,hp⟩:=h;unfold aab oM;rw[dT ⟨hc,hp,hf⟩];cases sh aW (ptd (dec c) (dec p)) (ptd (dec c) (dec f))==0<;>cases decide (sh aW (ptd (dec c) (dec p)) (ptd (dec c) (dec f))>0)<;>rfl
def Yo:List En:=enT ajl::Zo
def aaV(c:BO3)(f p q:BP)(_k:KT):OLR:=og (decide (ok Ln 300 c∧okP 4000 f∧okP 4000 p)) (og (decide (ok Ln 300 c∧okP 4000 f∧okP 4000 q)) (match(oM aW (ptd (dec c) (dec f)) (ptd (dec c) (dec p))) !=(oM aW (ptd (dec c) (dec f)) (ptd (dec c) (dec q)))with|true=>some [RV.d aqt (kj (i64.wrap ((oM aW (ptd (dec c) (dec f)) (ptd (dec c) (dec p)))-(oM aW (ptd (dec c) (dec f)) (ptd (dec c) (dec q))))))]|false=>(og (decide (ok Ln 300 c∧okP 4000 p∧okP 4000 q)) (some [RV.d aqt (kj (sh aW (ptd (dec c) (dec p)) (ptd (dec c) (dec q))))]))))
def Ro:Cn 191 [tO,tP,tP,tP]:=cn fun(c:BO3) (f p q:BP)=>lf (ok Ln 300 c∧okP 4000 f∧okP 4000 p∧okP 4000 q) [.d aqt (gI aW (ptd (dec c) (dec f)) (ptd (dec c) (dec p)) (ptd (dec c) (dec q)))] fun h=>by
 refine aA Yo (aaV c f p q) ⟨0,?_⟩;obtain⟨hc,hf,hp,hq⟩:=h;unfold aaV gI bne;have b1:=IS (p:=ptd (dec c) (dec f)) (q:=ptd (dec c) (dec p));have b2:=IS (p:=ptd (dec c) (dec f)) (q:=ptd (dec c) (dec q));rw[dT ⟨hc,hf,hp⟩,dT ⟨hc,hf,hq⟩,dT ⟨hc,hp,hq⟩,aT (by omega) (by omega)];cases oM aW (ptd (dec c) (dec f)) (ptd (dec c) (dec p))==oM aW (ptd (dec c) (dec f)) (ptd (dec c) (dec q))<;>rfl
def WH:List En:=enT Ro::Yo
def Zl(c:BCU)(p:BP)(_k:KT):OLR:=match !c.1 with|true=>(og (decide (okP 4000 c.2.2.2.2.1∧okP 4000 p)) (og (decide (okP 4000 p∧okP 4000 c.2.2.2.2.2)) (match(aX (dec c.2.2.2.2.1) (dec p))==0 with|true=>some [RV.d .bool true]|false=>(match(aX (dec p) (dec c.2.2.2.2.2))==0 with|true=>some [RV.d .bool true]|false=>some [RV.d .bool ((aX (dec c.2.2.2.2.1) (dec p))==(aX (dec p) (dec c.2.2.2.2.2)))]))))|false=>(og (decide (ok Ln 300 ((((hid (dY c)).2).2).1)∧okP 4000 ((((((hid (dY c)).2).2).2).2).1)∧okP 4000 p∧okP 4000 ((((((hid (dY c)).2).2).2).2).2))) (some [RV.d .bool (decide ((gI aW (ptd (dec ((((hid (dY c)).2).2).1)) (dec ((((((hid (dY c)).2).2).2).2).1))) (ptd (dec ((((hid (dY c)).2).2).1)) (dec p)) (ptd (dec ((((hid (dY c)).2).2).1)) (dec ((((((hid (dY c)).2).2).2).2).2))))≤0))]))
def Sq:Cn 89 [tCU,tP]:=cn fun(c:BCU) (p:BP)=>lf (okC 4000 c∧okP 4000 p) [.d .bool (ii (dC c) (dec p))] fun h=>by
 refine aA WH (Zl c p) ⟨0,?_⟩;obtain⟨hc,hp⟩:=h;obtain⟨ar,li,ci,cw,fr,to⟩:=c;obtain⟨c1,c2,c3,c4⟩:=hc;unfold Zl ii;simp only[bJ];cases ar
 ·try dsimp only[Bool.not_false]
  rw[dT ⟨c3,hp⟩,dT ⟨hp,c4⟩];show _=some [RV.d .bool (uH (aX (dec fr) (dec p)) (aX (dec p) (dec to)))];unfold uH;cases aX (dec fr) (dec p)==0<;>cases aX (dec p) (dec to)==0<;>rfl
 ·have e:=(c1 rfl).1;cases cw
  ·rw[dT (show ok Ln 300 (dY (true,li,ci,false,fr,to)).2.2.1∧okP 4000 (dY (true,li,ci,false,fr,to)).2.2.2.2.1∧okP 4000 p∧okP 4000 (dY (true,li,ci,false,fr,to)).2.2.2.2.2 from⟨e,c3,hp,c4⟩)];rfl
  ·rw[dT (show ok Ln 300 (dY (true,li,ci,true,fr,to)).2.2.1∧okP 4000 (dY (true,li,ci,true,fr,to)).2.2.2.2.1∧okP 4000 p∧okP 4000 (dY (true,li,ci,true,fr,to)).2.2.2.2.2 from⟨e,c4,hp,c3⟩)];rfl
def ajN:List En:=enT Sq::WH
def aaI(c:BCU)(p:BP)(_k:KT):OLR:=og (decide (okC 4000 c∧okP 4000 p)) (match gD (dC c) (dec p)with|true=>(og (decide (okC 4000 c∧okP 4000 p)) (some [RV.d .bool (ii (dC c) (dec p))]))|false=>some [RV.d .bool false])
def IF:Cn 114 [tCU,tP]:=cn fun(c:BCU) (p:BP)=>lf (okC 4000 c∧okP 4000 p) [.d .bool (onP (dC c) (dec p))] fun h=>by
 refine aA ajN (aaI c p) ⟨0,?_⟩;unfold aaI onP;rw[dT h];cases gD (dC c) (dec p)<;>rfl
theorem cN{j k:Nat}{x:BP}(h:okP j x)(hj:j≤k)(hk:k≤480000):okP k x:=by
 obtain⟨p,rfl,bp,rp⟩:=aZ h;exact am8 (aJ hj hk)
theorem b8{j k:Nat}{c:BCU}(h:okC j c)(hj:j≤k)(hk:k≤480000):okC k c:=⟨h.1,h.2.1,cN h.2.2.1 hj hk,cN h.2.2.2 hj hk⟩
theorem Ba{c:BCU}(hc:okC 500 c){v:Rat×Rat}[bv:Bd v 200]:Bd (oR (dC c) v) 15000∧Rdd (oR (dC c) v):=by
 obtain⟨ar,li,ci,cw,fr,to⟩:=c;have h3:=hc.2.2.1;have h4:=hc.2.2.2;simp only at h3 h4;obtain⟨fr,rfl,bf,rf⟩:=aZ h3;obtain⟨to,rfl,bt,rt⟩:=aZ h4;have he:Bd (rU (sqP fr v) (sqP to v)) 15000:=(inferInstance:Bd (rU (sqP fr v) (sqP to v)) _).mono (by decide);cases ar
 ·obtain⟨c2,c3⟩:=hc.2.1 rfl;simp only at c2 c3;obtain⟨li,rfl,bl⟩:=aB c2;unfold oR yV;simp only[dC,lnC,frC,toC,az,cond_false];cases ul (false,li,dec ci,cw,fr,to) (atP v)
  ·exact⟨he,RA⟩
  ·exact⟨(inferInstance:Bd ((aY (bh v (dt li v)) (bh v (dt li v)),0,0):Rt) _).mono (by decide),acI⟩
 ·obtain⟨c1,hq⟩:=hc.1 rfl;simp only at c1 hq;obtain⟨ci,rfl,bc⟩:=aB c1;rw[az]at hq;have hC:Cir ci:=⟨hq⟩
  unfold oR yV;simp only[dC,lnC,frC,toC,ciC,bV,az,cond_true];cases cf (true,dec li,ci,cw,fr,to) (bh (ctr ci) v)
  ·exact⟨he,RA⟩
  ·have b2:Bd (-2:Rat) 3:=bS (n:= -2) (by decide);exact⟨(inferInstance:Bd (mkR (aY (bh (ctr ci) v) (bh (ctr ci) v)+ci.2.2) (-2) (aY (bh (ctr ci) v) (bh (ctr ci) v)*ci.2.2)) _).mono (by decide),o8⟩
def ajm:List En:=[enL HQ]
def WG(a b:BV)(_k:KT):OLR:=og (o2 b.1 a.1) (og (o2 b.2 a.2) (some [RV.d tV (hSu b.1 a.1,hSu b.2 a.2)]))
def afp:Cn 311 [tV,tV]:=cn fun(a b:BV)=>lf (ok (Rat×Rat) 10000 a∧ok (Rat×Rat) 10000 b) [.d tV (enc (bh (dec a) (dec b)))] fun h=>by
 refine aA ajm (WG a b) ⟨0,?_⟩;obtain⟨ha,hb⟩:=h;obtain⟨a,rfl,ba⟩:=aB ha;obtain⟨b,rfl,bb⟩:=aB hb;unfold WG;simp only[aO,Nat.reduceLeDiff];try rfl
def DD:List En:=[⟨41,fM,dW⟩,⟨109,kH,gH⟩,⟨99,iy,fi⟩,⟨108,gV,eU⟩,⟨305,yo,sR⟩,⟨107,iS,fB⟩,⟨106,iE,ff⟩,enL ZD,enL Ag,enL HY,enL Xv,enL Yn,enT IF,enL Pk,enT Er,enT Qr,enL Si,enL HQ,enL QX,enL afp,enL aib,enL Nr]
def W4(a b c:BR)(_k:KT):OLR:=og (decide (ok Rat 100000 a∧ok Rat 100000 b∧ok Rat 100000 c∧0≤ae c)) (match 0 !=0 with|true=>(og (o1 a) (some [RV.d tO (hid (enc ((ae a,0,0):Rt)))]))|false=>some [RV.d tO (hid (enc (mkR (ae a) (ae b) (ae c))))])
def Xp:Cn 98 [tR,tR,tR]:=cn fun(a b c:BR)=>lf (ok Rat 100000 a∧ok Rat 100000 b∧ok Rat 100000 c∧0≤ae c) [.d tO (enc (mkR (ae a) (ae b) (ae c)))] fun h=>by
 refine aA DD (W4 a b c) ⟨0,?_⟩;obtain⟨ha,hb,hc,hn⟩:=h;unfold W4;rw[dT ⟨ha,hb,hc,hn⟩];simp only[bJ];rfl
def Zb(v:BV)(_k:KT):OLR:=og (o1 v.1) (match(aD (ae v.1) 0)==0 with|true=>(og (o1 v.2) (some [RV.d .bool ((aD (ae v.2) 0)==0)]))|false=>some [RV.d .bool false])
def agO:Cn 217 [tV]:=cn fun(v:BV)=>lf (ok (Rat×Rat) 100000 v) [.d .bool (zeV (dec v))] fun h=>by
 refine aA DD (Zb v) ⟨0,?_⟩;have hv:=h;obtain⟨v,rfl,bv⟩:=aB hv;unfold Zb;simp only[aO,Nat.reduceLeDiff,ao];unfold zeV;cases decide (v.1=0)<;>rfl
def ako:Ctx:=CX (ens DD) []
def aiO(c:BCU)(_k:KT):OLR:=some [RV.d tV (c.2.2.1.1,c.2.2.1.2.1)]
theorem ake(c:BCU):RS ako 102 [.d tCU c] (aiO c):=rsX
def aa1:Cn 102 [tCU]:=cn fun(c:BCU)=>lf True [.d tV (c.2.2.1.1,c.2.2.1.2.1)] fun _=>by
 exact cY DD (ake _ ⟨0,rfl⟩)
def MK:List En:=enL Xp::enT agO::enL aa1::DD
def X1(l:BO3)(p:BP)(_k:KT):OLR:=og (o1 l.2.1) (og (o2 (hNe l.2.1) p.1) (og (o2 l.1 p.2.2.1) (og (o2 (hMu (hNe l.2.1) p.1) (hMu l.1 p.2.2.1)) (og (o2 (hNe l.2.1) p.2.1) (og (o2 l.1 p.2.2.2.1) (og (o2 (hMu (hNe l.2.1) p.2.1) (hMu l.1 p.2.2.2.1)) (og (decide (ok Rat 100000 (hAd (hMu (hNe l.2.1) p.1) (hMu l.1 p.2.2.1))∧ok Rat 100000 (hAd (hMu (hNe l.2.1) p.2.1) (hMu l.1 p.2.2.2.1))∧ok Rat 100000 p.2.2.2.2∧0≤ae p.2.2.2.2)) (some [RV.d tO (hid (enc (mkR (ae (hAd (hMu (hNe l.2.1) p.1) (hMu l.1 p.2.2.1))) (ae (hAd (hMu (hNe l.2.1) p.2.1) (hMu l.1 p.2.2.2.1))) (ae p.2.2.2.2))))]))))))))
def ag8:Cn 205 [tO,tP]:=cn fun(l:BO3) (p:BP)=>lf (ok Ln 300 l∧okP 4000 p) [.d tO (enc (fb (dec l) (dec p)))] fun h=>by
 refine aA MK (X1 l p) ⟨0,?_⟩;obtain⟨hl,hp⟩:=h;obtain⟨l,rfl,bl⟩:=aB hl;obtain⟨p,rfl,bp,rp⟩:=aZ hp;have hn:0≤p.2.2.2.2:=rp.nn;unfold X1;simp only[aO,Nat.reduceAdd,Nat.reduceLeDiff,dT hn];rfl
def aaa(a b:BO3)(_k:KT):OLR:=og (decide (okT 15000 b∧okT 15000 a)) (match decide ((aW (dec b) (dec a))<0)with|true=>some [RV.d tO b]|false=>some [RV.d tO a])
def afZ:Cn 310 [tO,tO]:=cn fun(a b:BO3)=>lf (okT 15000 a∧okT 15000 b) [.d tO (enc (rU (dec a) (dec b)))] fun h=>by
 refine aA MK (aaa a b) ⟨0,?_⟩;obtain⟨ha,hb⟩:=h;obtain⟨a,rfl,ba,ra⟩:=fH ha;obtain⟨b,rfl,bb,rb⟩:=fH hb;unfold aaa rU;simp only[aO,Nat.reduceLeDiff,aI];cases decide (aW b a<0)<;>rfl
def NZ:List En:=enL ag8::enL afZ::MK
def Zi(c:BCU)(p:BP)(_k:KT):OLR:=og (decide (ok Ln 300 c.2.1∧okP 4000 p)) (og (decide (ok Ln 300 c.2.1∧okP 4000 c.2.2.2.2.1)) (og (decide (ok Ln 300 c.2.1∧okP 4000 c.2.2.2.2.2)) (og (decide (okT 15000 (hid (enc (fb (dec c.2.1) (dec c.2.2.2.2.1))))∧okT 15000 (hid (enc (fb (dec c.2.1) (dec c.2.2.2.2.2)))))) (match decide ((aW (dec (hid (enc (fb (dec c.2.1) (dec c.2.2.2.2.1))))) (dec (hid (enc (fb (dec c.2.1) (dec c.2.2.2.2.2))))))>0)with|true=>(og (decide (okT 15000 (hid (enc (fb (dec c.2.1) (dec c.2.2.2.2.2))))∧okT 15000 (hid (enc (fb (dec c.2.1) (dec p)))))) (match decide ((aW (dec (hid (enc (fb (dec c.2.1) (dec c.2.2.2.2.2))))) (dec (hid (enc (fb (dec c.2.1) (dec p))))))≤0)with|true=>(og (decide (okT 15000 (hid (enc (fb (dec c.2.1) (dec p))))∧okT 15000 (hid (enc (fb (dec c.2.1) (dec c.2.2.2.2.1)))))) (some [RV.d .bool (decide ((aW (dec (hid (enc (fb (dec c.2.1) (dec p))))) (dec (hid (enc (fb (dec c.2.1) (dec c.2.2.2.2.1))))))≤0))]))|false=>some [RV.d .bool false]))|false=>(og (decide (okT 15000 (hid (enc (fb (dec c.2.1) (dec c.2.2.2.2.1))))∧okT 15000 (hid (enc (fb (dec c.2.1) (dec p)))))) (match decide ((aW (dec (hid (enc (fb (dec c.2.1) (dec c.2.2.2.2.1))))) (dec (hid (enc (fb (dec c.2.1) (dec p))))))≤0)with|true=>(og (decide (okT 15000 (hid (enc (fb (dec c.2.1) (dec p))))∧okT 15000 (hid (enc (fb (dec c.2.1) (dec c.2.2.2.2.2)))))) (some [RV.d .bool (decide ((aW (dec (hid (enc (fb (dec c.2.1) (dec p))))) (dec (hid (enc (fb (dec c.2.1) (dec c.2.2.2.2.2))))))≤0))]))|false=>some [RV.d .bool false]))))))
def ZM:Cn 94 [tCU,tP]:=cn fun(c:BCU) (p:BP)=>lf (okC 3000 c∧okP 3000 p∧c.1=false) [.d .bool (ul (dC c) (dec p))] fun h=>by
 refine aA NZ (Zi c p) ⟨0,?_⟩;obtain⟨hc,hp,h0⟩:=h;obtain⟨p,rfl,bp,rp⟩:=aZ hp;obtain⟨ar,li,ci,cw,fr,to⟩:=c;simp only at h0;subst h0;obtain⟨_,c2,c3,c4⟩:=hc;obtain⟨c2,_⟩:=c2 rfl;simp only at c2 c3 c4;obtain⟨li,rfl,bl⟩:=aB c2;obtain⟨fr,rfl,bf,rf⟩:=aZ c3;obtain⟨to,rfl,bt,rt⟩:=aZ c4;unfold Zi ul;simp only[dC,lnC,frC,toC,aO,Nat.reduceAdd,Nat.reduceMul,Nat.reduceLeDiff,aI,aJ];cases decide (aW (fb li fr) (fb li to)>0)
 ·cases decide (aW (fb li fr) (fb li p)≤0)<;>rfl
 ·cases decide (aW (fb li to) (fb li p)≤0)<;>rfl
def Yw(c:BCU)(v:BV)(_k:KT):OLR:=match !c.1 with|true=>some [RV.d .bool c.1]|false=>(og (decide (ok (Rat×Rat) 100000 v)) (match zeV (dec v)with|true=>some [RV.d .bool c.1]|false=>(og (decide (ok (Rat×Rat) 5000 v∧ok (Rat×Rat) 5000 v)) (og (decide (ij c.2.2.1.2.2 (hid (aj (aY (dec v) (dec v)))))) (og (decide (ok Rat 100000 c.2.2.1.1∧ok Rat 100000 v.1∧ok Rat 100000 (hDi c.2.2.1.2.2 (hid (aj (aY (dec v) (dec v)))))∧0≤ae (hDi c.2.2.1.2.2 (hid (aj (aY (dec v) (dec v))))))) (og (decide (ok Rat 100000 c.2.2.1.2.1∧ok Rat 100000 v.2∧ok Rat 100000 (hDi c.2.2.1.2.2 (hid (aj (aY (dec v) (dec v)))))∧0≤ae (hDi c.2.2.1.2.2 (hid (aj (aY (dec v) (dec v))))))) (og (decide (okT 15000 (hid (enc (mkR (ae c.2.2.1.1) (ae v.1) (ae (hDi c.2.2.1.2.2 (hid (aj (aY (dec v) (dec v)))))))))∧okT 15000 (hid (enc (mkR (ae c.2.2.1.2.1) (ae v.2) (ae (hDi c.2.2.1.2.2 (hid (aj (aY (dec v) (dec v)))))))))∧t5 (dec (hid (enc (mkR (ae c.2.2.1.1) (ae v.1) (ae (hDi c.2.2.1.2.2 (hid (aj (aY (dec v) (dec v)))))))))) (dec (hid (enc (mkR (ae c.2.2.1.2.1) (ae v.2) (ae (hDi c.2.2.1.2.2 (hid (aj (aY (dec v) (dec v)))))))))))) (match 0==0 with|true=>(og (decide (okC 4000 c∧okP 4000 (hid (enc (mkP (dec (hid (enc (mkR (ae c.2.2.1.1) (ae v.1) (ae (hDi c.2.2.1.2.2 (hid (aj (aY (dec v) (dec v)))))))))) (dec (hid (enc (mkR (ae c.2.2.1.2.1) (ae v.2) (ae (hDi c.2.2.1.2.2 (hid (aj (aY (dec v) (dec v))))))))))))))) (some [RV.d .bool (onP (dC c) (dec (hid (enc (mkP (dec (hid (enc (mkR (ae c.2.2.1.1) (ae v.1) (ae (hDi c.2.2.1.2.2 (hid (aj (aY (dec v) (dec v)))))))))) (dec (hid (enc (mkR (ae c.2.2.1.2.1) (ae v.2) (ae (hDi c.2.2.1.2.2 (hid (aj (aY (dec v) (dec v)))))))))))))))]))|false=>some [RV.d .bool false]))))))))
def Z0:Cn 110 [tCU,tV]:=cn fun(c:BCU) (v:BV)=>lf (okC 500 c∧ok (Rat×Rat) 510 v) [.d .bool (cf (dC c) (dec v))] fun h=>by
 refine aA NZ (Yw c v) ⟨0,?_⟩;obtain⟨hc,hv⟩:=h;obtain⟨v,rfl,bv⟩:=aB hv;have hc4:=b8 (k:=4000) hc (by decide) (by decide);obtain⟨ar,li,ci,cw,fr,to⟩:=c;cases ar
 ·rfl
 ·obtain⟨c1,_⟩:=hc.1 rfl;have hq:=(hc.1 rfl).2;simp only at c1 hq;obtain⟨ci,rfl,bc⟩:=aB c1;rw[az]at hq;have hC:Cir ci:=⟨hq⟩
  have o4:=am5 hc4;have hn:0≤ci.2.2/aY v v:=(Rp (c:=ci) (d:=v)).le;have om:decide (t5 (mkR ci.1 v.1 (ci.2.2/aY v v)) (mkR ci.2.1 v.2 (ci.2.2/aY v v)))=true:=dT (nW _ _ _ _ _);have ry:decide (okP 4000 (enc (mkP (mkR ci.1 v.1 (ci.2.2/aY v v)) (mkR ci.2.1 v.2 (ci.2.2/aY v v)))))=true:=aJ (x:=jY ci v) (by decide) (by decide);unfold Yw cf;simp only[aO,Nat.reduceAdd,Nat.reduceLeDiff,aI,Bool.not_true];cases hz:zeV v
  ·have hd:=vw hz;simp only[aO,Nat.reduceAdd,Nat.reduceLeDiff,hd,ne_eq,aop,dT hn,om,o4,ry];show _=some [RV.d .bool (onP _ (jY (dec (enc ci)) v))];rw[az];rfl
  ·rfl
def No:List En:=enT ZM::enT Z0::NZ
def adm:NT:=[((228,13),{keep:=[4,19],hl:=0}),((228,29),{keep:=[4,39],hl:=0})]
def ajA:Ctx:=CX (ens No) adm
def L9(c:BCU)(v:BV)(_k:KT):OLR:=let y1:=hid (enc (atP (dec v)));let y2:=hid (enc (sqP (dec c.2.2.2.2.1) (dec v)));let y3:=hid (enc (sqP (dec c.2.2.2.2.2) (dec v)));let y4:OLR:=match decide (okP 3500 c.2.2.2.2.1∧ok (Rat×Rat) 300 v)with|true=>(og (decide (okP 3500 c.2.2.2.2.2∧ok (Rat×Rat) 300 v)) (og (decide (okT 15000 y2∧okT 15000 y3)) (some [RV.d tO (hid (enc (rU (dec y2) (dec y3))))])))|false=>none;let y5:=hid (enc (dt (dec c.2.1) (dec v)));let y6:=hid (enc (bh (dec v) (dec y5)));let y7:=hid (aj (aY (dec y6) (dec y6)));let y8:=hid ((c.2.2.1.1,c.2.2.1.2.1));let y9:=hid (enc (bh (dec y8) (dec v)));let y10:=hid (aj (aY (dec y9) (dec y9)));let y11:=hAd y10 c.2.2.1.2.2;let y12:=hid (aj (((-2):Int):Rat));let y13:=hMu y10 c.2.2.1.2.2;match !c.1 with|true=>(og (decide (ok (Rat×Rat) 100000 v)) (og (decide (okC 3000 c∧okP 3000 y1∧c.1=false)) (match !(ul (dC c) (dec y1))with|true=>y4|false=>(og (decide (ok Ln 300 c.2.1∧ok (Rat×Rat) 200 v∧((dec c.2.1:Ln).1≠0∨(dec c.2.1:Ln).2.1≠0))) (og (decide (ok (Rat×Rat) 10000 v∧ok (Rat×Rat) 10000 y5)) (og (decide (ok (Rat×Rat) 5000 y6∧ok (Rat×Rat) 5000 y6)) (og (o1 y7) (some [RV.d tO (hid (enc ((ae y7,0,0):Rt)))]))))))))|false=>(og (decide (ok (Rat×Rat) 10000 y8∧ok (Rat×Rat) 10000 v)) (og (decide (okC 500 c∧ok (Rat×Rat) 510 y9)) (match !(cf (dC c) (dec y9))with|true=>y4|false=>(og (decide (ok (Rat×Rat) 5000 y9∧ok (Rat×Rat) 5000 y9)) (og (o2 y10 c.2.2.1.2.2) (og (decide (aH ((-2):Int))) (og (o2 y10 c.2.2.1.2.2) (og (decide (ok Rat 100000 y11∧ok Rat 100000 y12∧ok Rat 100000 y13∧0≤ae y13)) (some [RV.d tO (hid (enc (mkR (ae y11) (ae y12) (ae y13))))])))))))))
theorem ajn(c:BCU)(v:BV):RS ajA 228 [.d tCU c,.d tV v] (L9 c v):=rsX
def aja:Cn 228 [tCU,tV]:=cn fun(c:BCU) (v:BV)=>lf (okC 500 c∧ok (Rat×Rat) 200 v) [.d tO (enc (oR (dC c) (dec v)))] fun h=>by
 refine cY No (ajn _ _ ⟨0,?_⟩);obtain⟨hc,hv⟩:=h;obtain⟨v,rfl,bv⟩:=aB hv;have hc4:=b8 (k:=3000) hc (by decide) (by decide);obtain⟨ar,li,ci,cw,fr,to⟩:=c;have h3:=hc.2.2.1;have h4:=hc.2.2.2;simp only at h3 h4;obtain⟨fr,rfl,bf,rf⟩:=aZ h3;obtain⟨to,rfl,bt,rt⟩:=aZ h4;have o4:=am5 hc4;have o5:=am5 hc;cases ar
 ·obtain⟨c2,c3⟩:=hc.2.1 rfl;simp only at c2 c3;obtain⟨li,rfl,bl⟩:=aB c2;rw[az]at c3;unfold L9 oR yV;simp only[aO,aC,Nat.reduceAdd,Nat.reduceMul,Nat.reduceLeDiff,aI,aJ,o4,c3,Bool.not_false];simp only[dC,lnC,frC,toC,az,cond_false];cases ul (false,li,dec ci,cw,fr,to) (atP v)<;>rfl
 ·obtain⟨c1,hq⟩:=hc.1 rfl;simp only at c1 hq;obtain⟨ci,rfl,bc⟩:=aB c1;rw[az]at hq;have hC:Cir ci:=⟨hq⟩
  have hn:0≤aY (bh (ctr ci) v) (bh (ctr ci) v)*ci.2.2:=(Ud (c:=ci) (d:=bh (ctr ci) v)).le;have e0:((aj ci.1,aj ci.2.1):BV)=enc (ctr ci):=rfl;have h2:decide (aH (-2))=true:=by decide
  have b2:Bd ((-2:Int):Rat) 3:=bS (by decide);unfold L9 oR yV;simp only[aO,Nat.reduceAdd,Nat.reduceMul,Nat.reduceLeDiff,aI,aJ,o5,e0,Bool.not_true];simp only[dC,lnC,frC,toC,ciC,bV,az,cond_true];cases cf (true,dec li,ci,cw,fr,to) (bh (ctr ci) v)
  ·rfl
  ·simp only[aO,dT hn,h2];rw[show((-2:Int):Rat)= -2 from rfl];rfl
def ahg:List En:=enL aja::No
def Ye(c:BCU)(v:BV)(r:BR)(_k:KT):OLR:=og (o1 r) (match decide ((aD (ae r) 0)<0)with|true=>some [RV.d aqt 1]|false=>(og (decide (okC 500 c∧ok (Rat×Rat) 200 v)) (og (o2 r r) (og (decide (okT 15000 (hid (enc (oR (dC c) (dec v))))∧ok Rat 15000 (hMu r r))) (some [RV.d aqt (fC (dec (hid (enc (oR (dC c) (dec v))))) (ae (hMu r r)))])))))
def ag6:Cn 116 [tCU,tV,tR]:=cn fun(c:BCU) (v:BV) (r:BR)=>lf (okC 500 c∧ok (Rat×Rat) 200 v∧ok Rat 1000 r) [.d aqt (so (dC c) (dec v) (ae r))] fun h=>by
 refine aA ahg (Ye c v r) ⟨0,?_⟩;obtain⟨hc,hv,hr⟩:=h;obtain⟨v,rfl,bv⟩:=aB hv;obtain⟨r,rfl,br⟩:=aB hr;rw[dQ,co,az];have od:=Ba hc (v:=v);obtain⟨od1,od2⟩:=od;unfold Ye so;simp only[aO,Nat.reduceAdd,Nat.reduceLeDiff,aI,aq,am5 hc];cases decide (r<0)<;>rfl
def CL:List En:=[enT iY,enL pI,enL lj,enL mh,enL Rf,enL lY,enL n8,enL Fl,enL Ff,enL vk,enL Gz,enL HA,enL Fx,enT Jn,enL GL,enT Cm,enT Bn,enL PN,enL Ng,enL Q1,enL XR]
def aao(a b:BV)(_k:KT):OLR:=og (o2 b.1 a.1) (og (o2 b.2 a.2) (some [RV.d tV (hSu b.1 a.1,hSu b.2 a.2)]))
def aiN:Cn 132 [tV,tV]:=cn fun(a b:BV)=>lf (ok (Rat×Rat) 10000 a∧ok (Rat×Rat) 10000 b) [.d tV (enc (bh (dec a) (dec b)))] fun h=>by
 refine aA CL (aao a b) ⟨0,?_⟩;obtain⟨ha,hb⟩:=h;obtain⟨a,rfl,ba⟩:=aB ha;obtain⟨b,rfl,bb⟩:=aB hb;unfold aao;simp only[aO,Nat.reduceLeDiff];try rfl
def abR:Ctx:=CX (ens CL) []
def acD(c:BO3)(_k:KT):OLR:=some [RV.d tV (c.1,c.2.1)]
theorem abo(c:BO3):RS abR 125 [.d tO c] (acD c):=rsX
def AF:Cn 125 [tO]:=cn fun(c:BO3)=>lf True [.d tV (c.1,c.2.1)] fun _=>by
 exact cY CL (abo _ ⟨0,rfl⟩)
def YM(a b:BO3)(_k:KT):OLR:=og (decide (okT 15000 b∧okT 15000 a)) (match decide ((aW (dec b) (dec a))<0)with|true=>some [RV.d tO b]|false=>some [RV.d tO a])
def agc:Cn 158 [tO,tO]:=cn fun(a b:BO3)=>lf (okT 15000 a∧okT 15000 b) [.d tO (enc (rU (dec a) (dec b)))] fun h=>by
 refine aA CL (YM a b) ⟨0,?_⟩;obtain⟨ha,hb⟩:=h;obtain⟨a,rfl,ba,ra⟩:=fH ha;obtain⟨b,rfl,bb,rb⟩:=fH hb;unfold YM rU;simp only[aO,Nat.reduceLeDiff,aI];cases decide (aW b a<0)<;>rfl
def Zc:List En:=enL aiN::enL AF::enL agc::CL
def Yk(c:BO3)(v:BV)(_k:KT):OLR:=og (decide (ok (Rat×Rat) 5000 v∧ok (Rat×Rat) 5000 v)) (og (decide (ij c.2.2 (hid (aj (aY (dec v) (dec v)))))) (og (decide (aH (0:Int))) (og (decide (ok Rat 100000 (hid (aj ((0:Int):Rat)))∧ok Rat 100000 v.1∧ok Rat 100000 (hDi c.2.2 (hid (aj (aY (dec v) (dec v)))))∧0≤ae (hDi c.2.2 (hid (aj (aY (dec v) (dec v))))))) (og (decide (ok Rat 100000 (hid (aj ((0:Int):Rat)))∧ok Rat 100000 v.2∧ok Rat 100000 (hDi c.2.2 (hid (aj (aY (dec v) (dec v)))))∧0≤ae (hDi c.2.2 (hid (aj (aY (dec v) (dec v))))))) (og (decide (okT 15000 (hid (enc (mkR (ae (hid (aj ((0:Int):Rat)))) (ae v.1) (ae (hDi c.2.2 (hid (aj (aY (dec v) (dec v)))))))))∧okT 15000 (hid (enc (mkR (ae (hid (aj ((0:Int):Rat)))) (ae v.2) (ae (hDi c.2.2 (hid (aj (aY (dec v) (dec v)))))))))∧t5 (dec (hid (enc (mkR (ae (hid (aj ((0:Int):Rat)))) (ae v.1) (ae (hDi c.2.2 (hid (aj (aY (dec v) (dec v)))))))))) (dec (hid (enc (mkR (ae (hid (aj ((0:Int):Rat)))) (ae v.2) (ae (hDi c.2.2 (hid (aj (aY (dec v) (dec v)))))))))))) (og (decide (ok Pt 21000 (hid (enc (mkP (dec (hid (enc (mkR (ae (hid (aj ((0:Int):Rat)))) (ae v.1) (ae (hDi c.2.2 (hid (aj (aY (dec v) (dec v)))))))))) (dec (hid (enc (mkR (ae (hid (aj ((0:Int):Rat)))) (ae v.2) (ae (hDi c.2.2 (hid (aj (aY (dec v) (dec v)))))))))))))∧ok (Rat×Rat) 1000 (hid ((c.1,c.2.1))))) (some [RV.d tP (hid (enc (trP (dec (hid (enc (mkP (dec (hid (enc (mkR (ae (hid (aj ((0:Int):Rat)))) (ae v.1) (ae (hDi c.2.2 (hid (aj (aY (dec v) (dec v)))))))))) (dec (hid (enc (mkR (ae (hid (aj ((0:Int):Rat)))) (ae v.2) (ae (hDi c.2.2 (hid (aj (aY (dec v) (dec v)))))))))))))) (dec (hid ((c.1,c.2.1)))))))])))))))
def aih:Cn 244 [tO,tV]:=cn fun(c:BO3) (v:BV)=>lf (nM c∧ok (Rat×Rat) 510 v∧zeV (dec v)=false) [.d tP (enc (jY (dec c) (dec v)))] fun h=>by
 refine aA Zc (Yk c v) ⟨0,?_⟩;obtain⟨⟨hc,hq⟩,hv,hz⟩:=h;obtain⟨ci,rfl,bc⟩:=aB hc;obtain⟨v,rfl,bv⟩:=aB hv;rw[az]at hq hz;have hC:Cir ci:=⟨hq⟩
 have hd:=vw hz;have hn:0≤ci.2.2/aY v v:=(Rp (c:=ci) (d:=v)).le;have om:decide (t5 (mkR 0 v.1 (ci.2.2/aY v v)) (mkR 0 v.2 (ci.2.2/aY v v)))=true:=dT (nW _ _ _ _ _);have b1:Bd (mkR 0 v.1 (ci.2.2/aY v v)) 15000:=(inferInstance:Bd (mkR 0 v.1 (ci.2.2/aY v v)) _).mono (by decide);have b2:Bd (mkR 0 v.2 (ci.2.2/aY v v)) 15000:=(inferInstance:Bd (mkR 0 v.2 (ci.2.2/aY v v)) _).mono (by decide);have e0:(dec ((aj ci.1,aj ci.2.1):BV):Rat×Rat)=ctr ci:=az (ctr ci);have e1:decide (ok (Rat×Rat) 1000 ((aj ci.1,aj ci.2.1):BV))=true:=okd (x:=ctr ci) (by decide) (by decide);have z0:((0:Int):Rat)=0:=rfl;have i0:decide (aH 0)=true:=by decide
 unfold Yk;simp only[aO,Nat.reduceAdd,Nat.reduceLeDiff,aI,hd,ne_eq,aop,z0,i0,dT hn,om,e0,e1];rw[adi]
def ahc:List En:=enL aih::Zc
def aaT(c:BCU)(v:BV)(_k:KT):OLR:=match !c.1 with|true=>some [RV.d .bool false]|false=>(og (o1 v.1) (match(aD (ae v.1) 0)==0 with|true=>(og (o1 v.2) (match(aD (ae v.2) 0)==0 with|true=>some [RV.d .bool true]|false=>(og (decide (nM c.2.2.1∧ok (Rat×Rat) 510 v∧zeV (dec v)=false)) (og (decide (okC 3500 c∧okP 3500 (hid (enc (jY (dec c.2.2.1) (dec v)))))) (some [RV.d .bool (onR (dC c) (dec (hid (enc (jY (dec c.2.2.1) (dec v))))))])))))|false=>(og (decide (nM c.2.2.1∧ok (Rat×Rat) 510 v∧zeV (dec v)=false)) (og (decide (okC 3500 c∧okP 3500 (hid (enc (jY (dec c.2.2.1) (dec v)))))) (some [RV.d .bool (onR (dC c) (dec (hid (enc (jY (dec c.2.2.1) (dec v))))))])))))
def aaj:Cn 134 [tCU,tV]:=cn fun(c:BCU) (v:BV)=>lf (gdC c∧ok (Rat×Rat) 510 v) [.d .bool (cf (dC c) (dec v))] fun h=>by
 refine aA ahc (aaT c v) ⟨0,?_⟩;obtain⟨hg,hv⟩:=h;obtain⟨v,rfl,bv⟩:=aB hv;have hc35:=b8 (k:=3500) hg.1 (by decide) (by decide);have gon:=fun{p:Pt} (hp:Rpd p)=>ag4 hg hp;obtain⟨ar,li,ci,cw,fr,to⟩:=c;cases ar
 ·rfl
 ·have hc:=hg.1;obtain⟨c1,hq⟩:=hc.1 rfl;have hci:nM ci:=⟨c1,hq⟩
  simp only at c1 hq;obtain⟨ci,rfl,bc⟩:=aB c1;rw[az]at hq;have hC:Cir ci:=⟨hq⟩
  have o35:=am5 hc35;have oci:=am5 hci;have ry:decide (okP 3500 (enc (jY ci v)))=true:=aJ (by decide) (by decide);have go:onR (dC (true,li,enc ci,cw,fr,to)) (jY ci v)=onP (dC (true,li,enc ci,cw,fr,to)) (jY ci v):=gon abf
  have tw:cf (dC (true,li,enc ci,cw,fr,to)) v=bif !(zeV v)then onP (dC (true,li,enc ci,cw,fr,to)) (jY ci v)else true:=by
   unfold cf;show(bif true&&!(zeV v)then onP _ (jY (dec (enc ci)) v)else true)=_;rw[az];rfl
  rw[az,tw];unfold aaT;simp only[aO,Nat.reduceLeDiff,ao,Bool.not_true,oci,o35,ry,go];have hz:zeV v=(decide (v.1=0)&&decide (v.2=0)):=rfl;rw[hz];cases h1:decide (v.1=0)
  ·simp
  ·cases h2:decide (v.2=0)
   ·simp
   ·rfl
abbrev r00:BR:=((false,[]),(false,[]))
abbrev o00:BO3:=(r00,r00,r00)
abbrev p00:BP:=(r00,r00,r00,r00,r00)
abbrev c00:BCU:=(false,o00,o00,false,p00,p00)
def tj(a b:Rat×Rat):Ln:=(a.2-b.2,b.1-a.1,(a.2-b.2)*a.1+(b.1-a.1)*a.2)
def yZ(a b:Rat×Rat):Bool:=decide (a.2-b.2=0)&&decide (b.1-a.1=0)
def T0(a b:Rat×Rat):BO3:=bif yZ a b then o00 else enc (tj a b)
def Wn(a b:Rat×Rat):Int:=bif yZ a b then 6 else 0
def eZ(a b c:Rat×Rat):Rat:=(b.1-a.1)*(c.2-a.2)-(b.2-a.2)*(c.1-a.1)
def yn(a b c:Rat×Rat):Rat:=(((b.1-a.1)*(b.1-a.1)+(b.2-a.2)*(b.2-a.2))*(c.2-a.2)-((c.1-a.1)*(c.1-a.1)+(c.2-a.2)*(c.2-a.2))*(b.2-a.2))/(eZ a b c+eZ a b c)
def wH(a b c:Rat×Rat):Rat:=(((c.1-a.1)*(c.1-a.1)+(c.2-a.2)*(c.2-a.2))*(b.1-a.1)-((b.1-a.1)*(b.1-a.1)+(b.2-a.2)*(b.2-a.2))*(c.1-a.1))/(eZ a b c+eZ a b c)
def qY(a b c:Rat×Rat):Ln:=(a.1+yn a b c,a.2+wH a b c,yn a b c*yn a b c+wH a b c*wH a b c)
def U0(a b c:Rat×Rat):BO3:=bif decide (eZ a b c=0)then o00 else enc (qY a b c)
def Ws(a b c:Rat×Rat):Int:=bif decide (eZ a b c=0)then 6 else 0
def xH(a b c:Rat×Rat):Int:=aD ((b.1-a.1)*(c.2-a.2)) ((b.2-a.2)*(c.1-a.1))
def jB(a b:Rat×Rat):BCU:=bif yZ a b then c00 else(false,enc (tj a b),o00,false,enc (atP a),enc (atP b))
def qb(a b:Rat×Rat):Int:=bif yZ a b then 6 else 0
def me(a b c:Rat×Rat):BCU:=bif decide (eZ a b c=0)then c00 else(true,o00,enc (qY a b c),decide (xH a b c<0),enc (atP a),enc (atP c))
def arcE(a b c:Rat×Rat):Int:=bif decide (eZ a b c=0)then 6 else 0
theorem adH(a b c:Rat×Rat):(xH a b c==0)=decide (eZ a b c=0):=by
 unfold xH eZ;rw[ao];exact anI.2 (by constructor<;>intro h<;>grind)
instance akX {a b:Rat×Rat} {i j:Nat} [h:Bd a i] [h':Bd b j]:Bd (tj a b) (4*i+2*j+3):=by
 have i1:Bd ((a.2-b.2,b.1-a.1,(a.2-b.2)*a.1+(b.1-a.1)*a.2):Ln) _:=inferInstance;exact i1.mono (cL (by omega) (cL (by omega) (by omega)))
def H6:List En:=[enT iY,enT qf,enL n8,enL mh,enL vk,enL GY,enL OZ,enL Ck,enL NU]
def PY(a b:BV)(_k:KT):OLR:=og (o2 a.2 b.2) (og (o2 b.1 a.1) (og (o1 (hSu a.2 b.2)) (match(aD (ae (hSu a.2 b.2)) 0)==0 with|true=>(og (o1 (hSu b.1 a.1)) (match(aD (ae (hSu b.1 a.1)) 0)==0 with|true=>some [RV.d tO (((false,[]),(false,[])),(((false,[]),(false,[])),((false,[]),(false,[])))),RV.d aqt 6]|false=>(og (o2 (hSu a.2 b.2) a.1) (og (o2 (hSu b.1 a.1) a.2) (og (o2 (hMu (hSu a.2 b.2) a.1) (hMu (hSu b.1 a.1) a.2)) (some [RV.d tO (hSu a.2 b.2,(hSu b.1 a.1,hAd (hMu (hSu a.2 b.2) a.1) (hMu (hSu b.1 a.1) a.2))),RV.d aqt 0]))))))|false=>(og (o2 (hSu a.2 b.2) a.1) (og (o2 (hSu b.1 a.1) a.2) (og (o2 (hMu (hSu a.2 b.2) a.1) (hMu (hSu b.1 a.1) a.2)) (some [RV.d tO (hSu a.2 b.2,(hSu b.1 a.1,hAd (hMu (hSu a.2 b.2) a.1) (hMu (hSu b.1 a.1) a.2))),RV.d aqt 0])))))))
def adh:Cn 142 [tV,tV]:=cn fun(a b:BV)=>lf (ok (Rat×Rat) 100 a∧ok (Rat×Rat) 100 b) [.d tO (T0 (dec a) (dec b)),.d aqt (Wn (dec a) (dec b))] fun h=>by
 refine aA H6 (PY a b) ⟨0,?_⟩;obtain⟨ha,hb⟩:=h;obtain⟨a,rfl,ba⟩:=aB ha;obtain⟨b,rfl,bb⟩:=aB hb;unfold PY T0 Wn yZ;simp only[aO,Nat.reduceAdd,Nat.reduceLeDiff,ao];cases decide (a.2-b.2=0)<;>cases decide (b.1-a.1=0)<;>rfl
def Zr(a b c:BV)(_k:KT):OLR:=og (o2 b.1 a.1) (og (o2 c.2 a.2) (og (o2 (hSu b.1 a.1) (hSu c.2 a.2)) (og (o2 b.2 a.2) (og (o2 c.1 a.1) (og (o2 (hSu b.2 a.2) (hSu c.1 a.1)) (og (o2 (hMu (hSu b.1 a.1) (hSu c.2 a.2)) (hMu (hSu b.2 a.2) (hSu c.1 a.1))) (some [RV.d aqt (aD (ae (hMu (hSu b.1 a.1) (hSu c.2 a.2))) (ae (hMu (hSu b.2 a.2) (hSu c.1 a.1))))])))))))
def afC:Cn 143 [tV,tV,tV]:=cn fun(a b c:BV)=>lf (ok (Rat×Rat) 100 a∧ok (Rat×Rat) 100 b∧ok (Rat×Rat) 100 c) [.d aqt (xH (dec a) (dec b) (dec c))] fun h=>by
 refine aA H6 (Zr a b c) ⟨0,?_⟩;obtain⟨ha,hb,hc⟩:=h;obtain⟨a,rfl,ba⟩:=aB ha;obtain⟨b,rfl,bb⟩:=aB hb;obtain⟨c,rfl,bc⟩:=aB hc;unfold Zr;simp only[aO,Nat.reduceAdd,Nat.reduceLeDiff];rfl
def N5(a b c:BV)(_k:KT):OLR:=let y1:=hMu (hSu b.1 a.1) (hSu c.2 a.2);let y2:=hMu (hSu b.2 a.2) (hSu c.1 a.1);let y3:=hMu (hSu b.1 a.1) (hSu b.1 a.1);let y4:=hMu (hSu b.2 a.2) (hSu b.2 a.2);let y5:=hMu (hSu c.1 a.1) (hSu c.1 a.1);let y6:=hMu (hSu c.2 a.2) (hSu c.2 a.2);let y7:=hMu (hAd y3 y4) (hSu c.2 a.2);let y8:=hMu (hAd y5 y6) (hSu b.2 a.2);let y9:=hAd (hSu y1 y2) (hSu y1 y2);let y10:=hMu (hAd y5 y6) (hSu b.1 a.1);let y11:=hMu (hAd y3 y4) (hSu c.1 a.1);let y12:=hDi (hSu y7 y8) y9;let y13:=hDi (hSu y10 y11) y9;og (o2 b.1 a.1) (og (o2 b.2 a.2) (og (o2 c.1 a.1) (og (o2 c.2 a.2) (og (o2 (hSu b.1 a.1) (hSu c.2 a.2)) (og (o2 (hSu b.2 a.2) (hSu c.1 a.1)) (og (o2 y1 y2) (og (o1 (hSu y1 y2)) (match(aD (ae (hSu y1 y2)) 0)==0 with|true=>some [RV.d tO (((false,[]),(false,[])),(((false,[]),(false,[])),((false,[]),(false,[])))),RV.d aqt 6]|false=>(og (o2 (hSu y1 y2) (hSu y1 y2)) (og (o2 (hSu b.1 a.1) (hSu b.1 a.1)) (og (o2 (hSu b.2 a.2) (hSu b.2 a.2)) (og (o2 y3 y4) (og (o2 (hSu c.1 a.1) (hSu c.1 a.1)) (og (o2 (hSu c.2 a.2) (hSu c.2 a.2)) (og (o2 y5 y6) (og (o2 (hAd y3 y4) (hSu c.2 a.2)) (og (o2 (hAd y5 y6) (hSu b.2 a.2)) (og (o2 y7 y8) (og (decide (ij (hSu y7 y8) y9)) (og (o2 (hAd y5 y6) (hSu b.1 a.1)) (og (o2 (hAd y3 y4) (hSu c.1 a.1)) (og (o2 y10 y11) (og (decide (ij (hSu y10 y11) y9)) (og (o2 a.1 y12) (og (o2 a.2 y13) (og (o2 y12 y12) (og (o2 y13 y13) (og (o2 (hMu y12 y12) (hMu y13 y13)) (some [RV.d tO (hAd a.1 y12,(hAd a.2 y13,hAd (hMu y12 y12) (hMu y13 y13))),RV.d aqt 0])))))))))))))))))))))))))))))
def aca:Cn 144 [tV,tV,tV]:=cn fun(a b c:BV)=>lf (ok (Rat×Rat) 100 a∧ok (Rat×Rat) 100 b∧ok (Rat×Rat) 100 c) [.d tO (U0 (dec a) (dec b) (dec c)),.d aqt (Ws (dec a) (dec b) (dec c))] fun h=>by
 refine aA H6 (N5 a b c) ⟨0,?_⟩;obtain⟨ha,hb,hc⟩:=h;obtain⟨a,rfl,ba⟩:=aB ha;obtain⟨b,rfl,bb⟩:=aB hb;obtain⟨c,rfl,bc⟩:=aB hc;have e0:(b.1-a.1)*(c.2-a.2)-(b.2-a.2)*(c.1-a.1)=eZ a b c:=rfl;have bD:Bd (eZ a b c) 805:=inferInstanceAs (Bd ((b.1-a.1)*(c.2-a.2)-(b.2-a.2)*(c.1-a.1)) _);have eX:(((b.1-a.1)*(b.1-a.1)+(b.2-a.2)*(b.2-a.2))*(c.2-a.2)-((c.1-a.1)*(c.1-a.1)+(c.2-a.2)*(c.2-a.2))*(b.2-a.2))/(eZ a b c+eZ a b c)=yn a b c:=rfl;have eY:(((c.1-a.1)*(c.1-a.1)+(c.2-a.2)*(c.2-a.2))*(b.1-a.1)-((b.1-a.1)*(b.1-a.1)+(b.2-a.2)*(b.2-a.2))*(c.1-a.1))/(eZ a b c+eZ a b c)=wH a b c:=rfl;have m1:Bd ((b.1-a.1)*(b.1-a.1)+(b.2-a.2)*(b.2-a.2)) _:=inferInstance;have m2:Bd ((c.1-a.1)*(c.1-a.1)+(c.2-a.2)*(c.2-a.2)) _:=inferInstance;have n1:Bd (((b.1-a.1)*(b.1-a.1)+(b.2-a.2)*(b.2-a.2))*(c.2-a.2)-((c.1-a.1)*(c.1-a.1)+(c.2-a.2)*(c.2-a.2))*(b.2-a.2)) _:=inferInstance;have n2:Bd (((c.1-a.1)*(c.1-a.1)+(c.2-a.2)*(c.2-a.2))*(b.1-a.1)-((b.1-a.1)*(b.1-a.1)+(b.2-a.2)*(b.2-a.2))*(c.1-a.1)) _:=inferInstance;have bX0:Bd ((((b.1-a.1)*(b.1-a.1)+(b.2-a.2)*(b.2-a.2))*(c.2-a.2)-((c.1-a.1)*(c.1-a.1)+(c.2-a.2)*(c.2-a.2))*(b.2-a.2))/(eZ a b c+eZ a b c)) _:=inferInstance;have bX:Bd (yn a b c) 4000:=by rw[←eX];exact bX0.mono (by decide)
 have bY0:Bd ((((c.1-a.1)*(c.1-a.1)+(c.2-a.2)*(c.2-a.2))*(b.1-a.1)-((b.1-a.1)*(b.1-a.1)+(b.2-a.2)*(b.2-a.2))*(c.1-a.1))/(eZ a b c+eZ a b c)) _:=inferInstance;have bY:Bd (wH a b c) 4000:=by rw[←eY];exact bY0.mono (by decide)
 unfold N5 U0 Ws;simp only[aO,Nat.reduceAdd,Nat.reduceLeDiff,ao,e0];by_cases hd:eZ a b c=0
 ·rw[am5 hd];rfl
 ·have h2:eZ a b c+eZ a b c≠0:=by grind
  rw[am7 hd];simp only[aO,Nat.reduceAdd,Nat.reduceLeDiff,h2,ne_eq,aop,eX,eY];rfl
def WJ:List En:=enL adh::enT afC::enL aca::H6
def Qk(a b:BV)(_k:KT):OLR:=og (decide (ok (Rat×Rat) 100 a∧ok (Rat×Rat) 100 b)) (match(Wn (dec a) (dec b)) !=0 with|true=>some [RV.d tCU (false,((((false,[]),(false,[])),(((false,[]),(false,[])),((false,[]),(false,[])))),((((false,[]),(false,[])),(((false,[]),(false,[])),((false,[]),(false,[])))),(false,((((false,[]),(false,[])),(((false,[]),(false,[])),(((false,[]),(false,[])),(((false,[]),(false,[])),((false,[]),(false,[])))))),(((false,[]),(false,[])),(((false,[]),(false,[])),(((false,[]),(false,[])),(((false,[]),(false,[])),((false,[]),(false,[]))))))))))),RV.d aqt 6]|false=>(og (decide (ok (Rat×Rat) 100000 a)) (og (decide (ok (Rat×Rat) 100000 b)) (some [RV.d tCU (false,(hid (T0 (dec a) (dec b)),((((false,[]),(false,[])),(((false,[]),(false,[])),((false,[]),(false,[])))),(false,(hid (enc (atP (dec a))),hid (enc (atP (dec b)))))))),RV.d aqt 0]))))
def QL:Cn 54 [tV,tV]:=cn fun(a b:BV)=>lf (ok (Rat×Rat) 100 a∧ok (Rat×Rat) 100 b) [.d tCU (jB (dec a) (dec b)),.d aqt (qb (dec a) (dec b))] fun h=>by
 refine aA WJ (Qk a b) ⟨0,?_⟩;obtain⟨ha,hb⟩:=h;obtain⟨a,rfl,ba⟩:=aB ha;obtain⟨b,rfl,bb⟩:=aB hb;unfold Qk jB qb Wn T0;simp only[aO,Nat.reduceLeDiff];cases yZ a b<;>rfl
def LX(a b c:BV)(_k:KT):OLR:=og (decide (ok (Rat×Rat) 100 a∧ok (Rat×Rat) 100 b∧ok (Rat×Rat) 100 c)) (og (decide (ok (Rat×Rat) 100 a∧ok (Rat×Rat) 100 b∧ok (Rat×Rat) 100 c)) (match(xH (dec a) (dec b) (dec c))==0 with|true=>some [RV.d tCU (false,((((false,[]),(false,[])),(((false,[]),(false,[])),((false,[]),(false,[])))),((((false,[]),(false,[])),(((false,[]),(false,[])),((false,[]),(false,[])))),(false,((((false,[]),(false,[])),(((false,[]),(false,[])),(((false,[]),(false,[])),(((false,[]),(false,[])),((false,[]),(false,[])))))),(((false,[]),(false,[])),(((false,[]),(false,[])),(((false,[]),(false,[])),(((false,[]),(false,[])),((false,[]),(false,[]))))))))))),RV.d aqt 6]|false=>(match(Ws (dec a) (dec b) (dec c)) !=0 with|true=>some [RV.d tCU (false,((((false,[]),(false,[])),(((false,[]),(false,[])),((false,[]),(false,[])))),((((false,[]),(false,[])),(((false,[]),(false,[])),((false,[]),(false,[])))),(false,((((false,[]),(false,[])),(((false,[]),(false,[])),(((false,[]),(false,[])),(((false,[]),(false,[])),((false,[]),(false,[])))))),(((false,[]),(false,[])),(((false,[]),(false,[])),(((false,[]),(false,[])),(((false,[]),(false,[])),((false,[]),(false,[]))))))))))),RV.d aqt 6]|false=>(og (decide (ok (Rat×Rat) 100000 a)) (og (decide (ok (Rat×Rat) 100000 c)) (some [RV.d tCU (true,((((false,[]),(false,[])),(((false,[]),(false,[])),((false,[]),(false,[])))),(hid (U0 (dec a) (dec b) (dec c)),(decide ((xH (dec a) (dec b) (dec c))<0),(hid (enc (atP (dec a))),hid (enc (atP (dec c)))))))),RV.d aqt 0]))))))
def L6:Cn 55 [tV,tV,tV]:=cn fun(a b c:BV)=>lf (ok (Rat×Rat) 100 a∧ok (Rat×Rat) 100 b∧ok (Rat×Rat) 100 c) [.d tCU (me (dec a) (dec b) (dec c)),.d aqt (arcE (dec a) (dec b) (dec c))] fun h=>by
 refine aA WJ (LX a b c) ⟨0,?_⟩;obtain⟨ha,hb,hc⟩:=h;obtain⟨a,rfl,ba⟩:=aB ha;obtain⟨b,rfl,bb⟩:=aB hb;obtain⟨c,rfl,bc⟩:=aB hc;unfold LX me arcE;simp only[aO,Nat.reduceLeDiff];rw[adH];unfold Ws U0;cases decide (eZ a b c=0)<;>rfl
def gP(c:Cv):List BP→BP→List BP
 |[],x=>[x]
 |y::r,x=>bif decide (dk c (dec y) (dec x)<0)then y::gP c r x else bif aX (dec y) (dec x)==0 then y::r else x::y::r
def kI(c:Cv)(l:List BP):List BP:=l.foldl (gP c) []
def Bm(c:BCU)(l:List BP):Prop:=okC 4000 c∧l.length≤1000000∧∀x∈l,okP 4000 x
instance (c:BCU) (l:List BP):Decidable (Bm c l):=by unfold Bm;infer_instance
theorem pE{c:Cv}{x y:BP}:∀{r:List BP},y∈gP c r x→y∈r∨y=x
 |[],h=>by simp only[gP,List.mem_singleton]at h;exact .inr h
 |z::r,h=>by
  simp only[gP]at h;cases h1:decide (dk c (dec z) (dec x)<0)<;>rw[h1]at h
  ·cases h2:aX (dec z) (dec x)==0<;>rw[h2]at h
   ·rcases ann.1 h with h|h
    ·exact .inr h
    ·exact .inl h
   ·exact .inl h
  ·rcases ann.1 h with h|h
   ·exact .inl (by simp[h])
   ·rcases pE h with h|h
    ·exact .inl (anj _ h)
    ·exact .inr h
theorem yl(c:Cv)(x:BP):∀r:List BP,(gP c r x).length≤r.length+1
 |[]=>by simp[gP]
 |z::r=>by
  have:=yl c x r;simp only[gP];cases decide (dk c (dec z) (dec x)<0)
  ·cases aX (dec z) (dec x)==0<;>simp
  ·simp only[cond_true,anp];omega
theorem BE{c:Cv}:∀{l out:List BP} {y:BP},y∈l.foldl (gP c) out→y∈out∨y∈l
 |[],_,_,h=>.inl h
 |x::l,out,y,h=>by
  rcases BE (l:=l) (out:=gP c out x) h with h|h
  ·rcases pE h with h|h
   ·exact .inl h
   ·exact .inr (by simp[h])
  ·exact .inr (anj _ h)
theorem IV(c:Cv):∀(l out:List BP),(l.foldl (gP c) out).length≤out.length+l.length
 |[],_=>anb _
 |x::l,out=>by
  have h1:=IV c l (gP c out x);have h2:=yl c x out;simp only[aoN,anp];omega
theorem J6{α:Type}{l:List α}{k:Nat}(h:k<l.length):l.take (k+1)=l.take k++[l[k]]:=by rw[List.take_succ_eq_append_getElem h]
def aaW:List En:=[enT ST,enT Jn,enT P6]
def aeI:NT:=[((59,8),{keep:=[1,2,5,6],pure_:=[(5,tP)],hl:=1}),((59,21),{keep:=[1,2,5,6,7],pure_:=[(5,tP)],hl:=1})]
def vH:Ctx:=CX (ens aaW) aeI
def kV(c:BCU)(l:List BP)(s6:Int)(s5:List BP):Cfg:=⟨59,[.blk 0,.seq 38],[(1,.d (.sl tP) l),(2,.box 0 0),(5,.d (.sl tP) s5),(6,SI s6)],[.box 39 [SB c.1,SB c.2.1.1.1.1,.d aqs c.2.1.1.1.2,SB c.2.1.1.2.1,.d aqs c.2.1.1.2.2,SB c.2.1.2.1.1.1,.d aqs c.2.1.2.1.1.2,SB c.2.1.2.1.2.1,.d aqs c.2.1.2.1.2.2,SB c.2.1.2.2.1.1,.d aqs c.2.1.2.2.1.2,SB c.2.1.2.2.2.1,.d aqs c.2.1.2.2.2.2,SB c.2.2.1.1.1.1,.d aqs c.2.2.1.1.1.2,SB c.2.2.1.1.2.1,.d aqs c.2.2.1.1.2.2,SB c.2.2.1.2.1.1.1,.d aqs c.2.2.1.2.1.1.2,SB c.2.2.1.2.1.2.1,.d aqs c.2.2.1.2.1.2.2,SB c.2.2.1.2.2.1.1,.d aqs c.2.2.1.2.2.1.2,SB c.2.2.1.2.2.2.1,.d aqs c.2.2.1.2.2.2.2,SB c.2.2.2.1,SB c.2.2.2.2.1.1.1.1,.d aqs c.2.2.2.2.1.1.1.2,SB c.2.2.2.2.1.1.2.1,.d aqs c.2.2.2.2.1.1.2.2,SB c.2.2.2.2.1.2.1.1.1,.d aqs c.2.2.2.2.1.2.1.1.2,SB c.2.2.2.2.1.2.1.2.1,.d aqs c.2.2.2.2.1.2.1.2.2,SB c.2.2.2.2.1.2.2.1.1.1,.d aqs c.2.2.2.2.1.2.2.1.1.2,SB c.2.2.2.2.1.2.2.1.2.1,.d aqs c.2.2.2.2.1.2.2.1.2.2,SB c.2.2.2.2.1.2.2.2.1.1.1,.d aqs c.2.2.2.2.1.2.2.2.1.1.2,SB c.2.2.2.2.1.2.2.2.1.2.1,.d aqs c.2.2.2.2.1.2.2.2.1.2.2,SB c.2.2.2.2.1.2.2.2.2.1.1,.d aqs c.2.2.2.2.1.2.2.2.2.1.2,SB c.2.2.2.2.1.2.2.2.2.2.1,.d aqs c.2.2.2.2.1.2.2.2.2.2.2,SB c.2.2.2.2.2.1.1.1,.d aqs c.2.2.2.2.2.1.1.2,SB c.2.2.2.2.2.1.2.1,.d aqs c.2.2.2.2.2.1.2.2,SB c.2.2.2.2.2.2.1.1.1,.d aqs c.2.2.2.2.2.2.1.1.2,SB c.2.2.2.2.2.2.1.2.1,.d aqs c.2.2.2.2.2.2.1.2.2,SB c.2.2.2.2.2.2.2.1.1.1,.d aqs c.2.2.2.2.2.2.2.1.1.2,SB c.2.2.2.2.2.2.2.1.2.1,.d aqs c.2.2.2.2.2.2.2.1.2.2,SB c.2.2.2.2.2.2.2.2.1.1.1,.d aqs c.2.2.2.2.2.2.2.2.1.1.2,SB c.2.2.2.2.2.2.2.2.1.2.1,.d aqs c.2.2.2.2.2.2.2.2.1.2.2,SB c.2.2.2.2.2.2.2.2.2.1.1,.d aqs c.2.2.2.2.2.2.2.2.2.1.2,SB c.2.2.2.2.2.2.2.2.2.2.1,.d aqs c.2.2.2.2.2.2.2.2.2.2.2]],0,[]⟩
def wk(c:BCU)(l s5:List BP)(s6 s7:Int):Cfg:=⟨59,[.blk 2,.seq 30,.blk 1,.seq 37,.lp 8,.blk 0,.seq 38],[(1,.d (.sl tP) l),(2,.box 0 0),(5,.d (.sl tP) s5),(6,SI s6),(7,SI s7)],[.box 39 [SB c.1,SB c.2.1.1.1.1,.d aqs c.2.1.1.1.2,SB c.2.1.1.2.1,.d aqs c.2.1.1.2.2,SB c.2.1.2.1.1.1,.d aqs c.2.1.2.1.1.2,SB c.2.1.2.1.2.1,.d aqs c.2.1.2.1.2.2,SB c.2.1.2.2.1.1,.d aqs c.2.1.2.2.1.2,SB c.2.1.2.2.2.1,.d aqs c.2.1.2.2.2.2,SB c.2.2.1.1.1.1,.d aqs c.2.2.1.1.1.2,SB c.2.2.1.1.2.1,.d aqs c.2.2.1.1.2.2,SB c.2.2.1.2.1.1.1,.d aqs c.2.2.1.2.1.1.2,SB c.2.2.1.2.1.2.1,.d aqs c.2.2.1.2.1.2.2,SB c.2.2.1.2.2.1.1,.d aqs c.2.2.1.2.2.1.2,SB c.2.2.1.2.2.2.1,.d aqs c.2.2.1.2.2.2.2,SB c.2.2.2.1,SB c.2.2.2.2.1.1.1.1,.d aqs c.2.2.2.2.1.1.1.2,SB c.2.2.2.2.1.1.2.1,.d aqs c.2.2.2.2.1.1.2.2,SB c.2.2.2.2.1.2.1.1.1,.d aqs c.2.2.2.2.1.2.1.1.2,SB c.2.2.2.2.1.2.1.2.1,.d aqs c.2.2.2.2.1.2.1.2.2,SB c.2.2.2.2.1.2.2.1.1.1,.d aqs c.2.2.2.2.1.2.2.1.1.2,SB c.2.2.2.2.1.2.2.1.2.1,.d aqs c.2.2.2.2.1.2.2.1.2.2,SB c.2.2.2.2.1.2.2.2.1.1.1,.d aqs c.2.2.2.2.1.2.2.2.1.1.2,SB c.2.2.2.2.1.2.2.2.1.2.1,.d aqs c.2.2.2.2.1.2.2.2.1.2.2,SB c.2.2.2.2.1.2.2.2.2.1.1,.d aqs c.2.2.2.2.1.2.2.2.2.1.2,SB c.2.2.2.2.1.2.2.2.2.2.1,.d aqs c.2.2.2.2.1.2.2.2.2.2.2,SB c.2.2.2.2.2.1.1.1,.d aqs c.2.2.2.2.2.1.1.2,SB c.2.2.2.2.2.1.2.1,.d aqs c.2.2.2.2.2.1.2.2,SB c.2.2.2.2.2.2.1.1.1,.d aqs c.2.2.2.2.2.2.1.1.2,SB c.2.2.2.2.2.2.1.2.1,.d aqs c.2.2.2.2.2.2.1.2.2,SB c.2.2.2.2.2.2.2.1.1.1,.d aqs c.2.2.2.2.2.2.2.1.1.2,SB c.2.2.2.2.2.2.2.1.2.1,.d aqs c.2.2.2.2.2.2.2.1.2.2,SB c.2.2.2.2.2.2.2.2.1.1.1,.d aqs c.2.2.2.2.2.2.2.2.1.1.2,SB c.2.2.2.2.2.2.2.2.1.2.1,.d aqs c.2.2.2.2.2.2.2.2.1.2.2,SB c.2.2.2.2.2.2.2.2.2.1.1,.d aqs c.2.2.2.2.2.2.2.2.2.1.2,SB c.2.2.2.2.2.2.2.2.2.2.1,.d aqs c.2.2.2.2.2.2.2.2.2.2.2]],0,[]⟩
def ahM(c:BCU)(l:List BP)(k:KT):OLR:=k 8 (kV c l 0 ([]))
theorem agf(c:BCU)(l:List BP):RS vH 59 [.d tCU c,.d (.sl tP) l] (ahM c l):=rsX
def yq(c:BCU)(l:List BP)(s6:Int)(s5:List BP)(k:KT):OLR:=match decide (s6<(l.length:Int))with|true=>k 21 (wk c l s5 s6 0)|false=>some [RV.d (.sl tP) s5]
theorem EJ(c:BCU)(l:List BP)(s6:Int)(s5:List BP):RN vH 8 (kV c l s6 s5) (yq c l s6 s5):=rnX
def uO(c:BCU)(l s5:List BP)(s6 s7:Int)(k:KT):OLR:=match decide (s7<(s5.length:Int))with|true=>(match aU s5 s7 with|some x1=>(match aU l s6 with|some x2=>(og (decide (okC 4000 c∧okP 4000 x1∧okP 4000 x2)) (match decide ((dk (dC c) (dec x1) (dec x2))<0)with|true=>k 21 (wk c l s5 s6 (i64.wrap (s7+1)))|false=>(match decide (s7<(s5.length:Int))with|true=>(match aU s5 s7 with|some x3=>(match aU l s6 with|some x4=>(og (decide (okP 4000 x3∧okP 4000 x4)) (match aX (dec x3) (dec x4)==0 with|true=>k 8 (kV c l (i64.wrap (s6+1)) s5)|false=>(og (decide ((0:Int)≤0∧0≤s7∧s7≤(s5.length:Int))) (match aU l s6 with|some x5=>(og (decide ((0:Int)≤s7∧s7≤(s5.length:Int)∧(s5.length:Int)≤(s5.length:Int))) (dup (.b (.b .l .l) .l) (og (decide ((([]:List BP).length+((s5.take (s7).toNat).drop (0:Int).toNat).length)*320≤140737488355328∧([]:List BP).length+((s5.take (s7).toNat).drop (0:Int).toNat).length≤140737488355328)) (og (decide (((([]:List BP)++((s5.take (s7).toNat).drop (0:Int).toNat)).length+([x5]).length)*320≤140737488355328∧(([]:List BP)++((s5.take (s7).toNat).drop (0:Int).toNat)).length+([x5]).length≤140737488355328)) (og (decide ((((([]:List BP)++((s5.take (s7).toNat).drop (0:Int).toNat))++([x5])).length+((s5.take ((s5.length:Int)).toNat).drop (s7:Int).toNat).length)*320≤140737488355328∧((([]:List BP)++((s5.take (s7).toNat).drop (0:Int).toNat))++([x5])).length+((s5.take ((s5.length:Int)).toNat).drop (s7:Int).toNat).length≤140737488355328)) (k 8 (kV c l (i64.wrap (s6+1)) (((([]:List BP)++((s5.take (s7).toNat).drop (0:Int).toNat))++([x5]))++((s5.take ((s5.length:Int)).toNat).drop (s7:Int).toNat)))))))))|none=>none))))|none=>none)|none=>none)|false=>(og (decide ((0:Int)≤0∧0≤s7∧s7≤(s5.length:Int))) (match aU l s6 with|some x3=>(og (decide ((0:Int)≤s7∧s7≤(s5.length:Int)∧(s5.length:Int)≤(s5.length:Int))) (dup (.b (.b .l .l) .l) (og (decide ((([]:List BP).length+((s5.take (s7).toNat).drop (0:Int).toNat).length)*320≤140737488355328∧([]:List BP).length+((s5.take (s7).toNat).drop (0:Int).toNat).length≤140737488355328)) (og (decide (((([]:List BP)++((s5.take (s7).toNat).drop (0:Int).toNat)).length+([x3]).length)*320≤140737488355328∧(([]:List BP)++((s5.take (s7).toNat).drop (0:Int).toNat)).length+([x3]).length≤140737488355328)) (og (decide ((((([]:List BP)++((s5.take (s7).toNat).drop (0:Int).toNat))++([x3])).length+((s5.take ((s5.length:Int)).toNat).drop (s7:Int).toNat).length)*320≤140737488355328∧((([]:List BP)++((s5.take (s7).toNat).drop (0:Int).toNat))++([x3])).length+((s5.take ((s5.length:Int)).toNat).drop (s7:Int).toNat).length≤140737488355328)) (k 8 (kV c l (i64.wrap (s6+1)) (((([]:List BP)++((s5.take (s7).toNat).drop (0:Int).toNat))++([x3]))++((s5.take ((s5.length:Int)).toNat).drop (s7:Int).toNat)))))))))|none=>none)))))|none=>none)|none=>none)|false=>(match decide (s7<(s5.length:Int))with|true=>(match aU s5 s7 with|some x1=>(match aU l s6 with|some x2=>(og (decide (okP 4000 x1∧okP 4000 x2)) (match aX (dec x1) (dec x2)==0 with|true=>k 8 (kV c l (i64.wrap (s6+1)) s5)|false=>(og (decide ((0:Int)≤0∧0≤s7∧s7≤(s5.length:Int))) (match aU l s6 with|some x3=>(og (decide ((0:Int)≤s7∧s7≤(s5.length:Int)∧(s5.length:Int)≤(s5.length:Int))) (dup (.b (.b .l .l) .l) (og (decide ((([]:List BP).length+((s5.take (s7).toNat).drop (0:Int).toNat).length)*320≤140737488355328∧([]:List BP).length+((s5.take (s7).toNat).drop (0:Int).toNat).length≤140737488355328)) (og (decide (((([]:List BP)++((s5.take (s7).toNat).drop (0:Int).toNat)).length+([x3]).length)*320≤140737488355328∧(([]:List BP)++((s5.take (s7).toNat).drop (0:Int).toNat)).length+([x3]).length≤140737488355328)) (og (decide ((((([]:List BP)++((s5.take (s7).toNat).drop (0:Int).toNat))++([x3])).length+((s5.take ((s5.length:Int)).toNat).drop (s7:Int).toNat).length)*320≤140737488355328∧((([]:List BP)++((s5.take (s7).toNat).drop (0:Int).toNat))++([x3])).length+((s5.take ((s5.length:Int)).toNat).drop (s7:Int).toNat).length≤140737488355328)) (k 8 (kV c l (i64.wrap (s6+1)) (((([]:List BP)++((s5.take (s7).toNat).drop (0:Int).toNat))++([x3]))++((s5.take ((s5.length:Int)).toNat).drop (s7:Int).toNat)))))))))|none=>none))))|none=>none)|none=>none)|false=>(og (decide ((0:Int)≤0∧0≤s7∧s7≤(s5.length:Int))) (match aU l s6 with|some x1=>(og (decide ((0:Int)≤s7∧s7≤(s5.length:Int)∧(s5.length:Int)≤(s5.length:Int))) (dup (.b (.b .l .l) .l) (og (decide ((([]:List BP).length+((s5.take (s7).toNat).drop (0:Int).toNat).length)*320≤140737488355328∧([]:List BP).length+((s5.take (s7).toNat).drop (0:Int).toNat).length≤140737488355328)) (og (decide (((([]:List BP)++((s5.take (s7).toNat).drop (0:Int).toNat)).length+([x1]).length)*320≤140737488355328∧(([]:List BP)++((s5.take (s7).toNat).drop (0:Int).toNat)).length+([x1]).length≤140737488355328)) (og (decide ((((([]:List BP)++((s5.take (s7).toNat).drop (0:Int).toNat))++([x1])).length+((s5.take ((s5.length:Int)).toNat).drop (s7:Int).toNat).length)*320≤140737488355328∧((([]:List BP)++((s5.take (s7).toNat).drop (0:Int).toNat))++([x1])).length+((s5.take ((s5.length:Int)).toNat).drop (s7:Int).toNat).length≤140737488355328)) (k 8 (kV c l (i64.wrap (s6+1)) (((([]:List BP)++((s5.take (s7).toNat).drop (0:Int).toNat))++([x1]))++((s5.take ((s5.length:Int)).toNat).drop (s7:Int).toNat)))))))))|none=>none)))
theorem zz(c:BCU)(l s5:List BP)(s6 s7:Int):RN vH 21 (wk c l s5 s6 s7) (uO c l s5 s6 s7):=rnX
theorem acy(c:BCU)(l:List BP)(hc:okC 4000 c)(hl:∀x∈l,okP 4000 x)(out:List BP)(ho:∀x∈out,okP 4000 x)(hlen:out.length≤1000000)(i:Nat)(hi:i<l.length)(hi2:i≤1000000)(r:List RV)(h:vH.Runs 8 (kV c l ((i+1:Nat):Int) (gP (dC c) out l[i])) r):
  ∀(j k:Nat),k+j=out.length→gP (dC c) out l[i]=out.take k++gP (dC c) (out.drop k) l[i]→vH.Runs 21 (wk c l out (i:Int) (k:Int)) r:=by
 have e0:i64.wrap ((i:Int)+1)=((i+1:Nat):Int):=bW (by omega);have gl:aU l (i:Int)=some l[i]:=by rw[av,am6 hi]
 have hx:=hl _ (anD hi);have tl:out.take ((out.length:Int)).toNat=out:=by simp
 have put:∀k:Nat,k≤out.length→gP (dC c) out l[i]=out.take k++[l[i]]++out.drop k→∃n,(match decide ((0:Int)≤0∧0≤(k:Int)∧(k:Int)≤(out.length:Int))with
   |true=>(match aU l (i:Int)with
    |some x5=>(match decide ((0:Int)≤(k:Int)∧(k:Int)≤(out.length:Int)∧(out.length:Int)≤(out.length:Int))with
     |true=>(match decide ((([]:List BP).length+((out.take ((k:Int)).toNat).drop (0:Int).toNat).length)*320≤140737488355328∧([]:List BP).length+((out.take ((k:Int)).toNat).drop (0:Int).toNat).length≤140737488355328)with
      |true=>(match decide (((([]:List BP)++((out.take ((k:Int)).toNat).drop (0:Int).toNat)).length+([x5]).length)*320≤140737488355328∧(([]:List BP)++((out.take ((k:Int)).toNat).drop (0:Int).toNat)).length+([x5]).length≤140737488355328)with
       |true=>(match decide ((((([]:List BP)++((out.take ((k:Int)).toNat).drop (0:Int).toNat))++([x5])).length+((out.take ((out.length:Int)).toNat).drop ((k:Int)).toNat).length)*320≤140737488355328∧((([]:List BP)++((out.take ((k:Int)).toNat).drop (0:Int).toNat))++([x5])).length+((out.take ((out.length:Int)).toNat).drop ((k:Int)).toNat).length≤140737488355328)with
        |true=>vH.k n 8 (kV c l (i64.wrap ((i:Int)+1)) (((([]:List BP)++((out.take ((k:Int)).toNat).drop (0:Int).toNat))++([x5]))++((out.take ((out.length:Int)).toNat).drop ((k:Int)).toNat)))
        |false=>none)
       |false=>none)
      |false=>none)
     |false=>none)
    |none=>none)
   |false=>none)=some r:=by
  intro k hk he;have e1:((out.take ((k:Int)).toNat).drop (0:Int).toNat)=out.take k:=by simp
  have e2:((out.take ((out.length:Int)).toNat).drop ((k:Int)).toNat)=out.drop k:=by simp
  have l1:(out.take k).length=k:=by simp;omega
  have l2:(out.drop k).length=out.length-k:=by simp
  obtain⟨n,hn⟩:=h;refine⟨n,?_⟩;rw[gl,dT (show(0:Int)≤0∧0≤(k:Int)∧(k:Int)≤(out.length:Int) by omega)];dsimp only;rw[dT (show(0:Int)≤(k:Int)∧(k:Int)≤(out.length:Int)∧(out.length:Int)≤(out.length:Int) by omega)];simp only[e1,e2,ap5,List.length_nil,anJ,anp,l1,l2,anF];rw[dT (by omega),dT (by omega),dT (by omega),e0,←he];exact hn
 intro j;induction j with
 |zero=>
  intro k hk he;have hk:k=out.length:=by omega
  subst hk;refine zz _ _ _ _ _ ?_;unfold uO;rw[cd (by omega)];simp only[fa];refine put _ (anb _) ?_;rw[he];simp[gP]
 |succ j ih=>
  intro k hk he;have hkl:k<out.length:=by omega
  have go:aU out (k:Int)=some out[k]:=by rw[av,am6 hkl]
  have ho1:=ho _ (anD hkl);have ek:i64.wrap ((k:Int)+1)=((k+1:Nat):Int):=bW (by omega);have hd:out.drop k=out[k]::out.drop (k+1):=ant hkl;refine zz _ _ _ _ _ ?_;unfold uO;simp only[fa,bG hkl,go,gl,dT (show okC 4000 c∧okP 4000 out[k]∧okP 4000 l[i] from⟨hc,ho1,hx⟩),dT (show okP 4000 out[k]∧okP 4000 l[i] from⟨ho1,hx⟩)];rw[hd]at he;simp only[gP]at he;cases h1:decide (dk (dC c) (dec out[k]) (dec l[i])<0)<;>rw[h1]at he
  ·simp only[cond_false]at he;cases h2:aX (dec out[k]) (dec l[i])==0<;>rw[h2]at he
   ·simp only[cond_false]at he;have:=put k (by omega) (by rw[he,hd];simp);simp only[gl]at this;exact this
   ·simp only[cond_true]at he;rw[←hd,aot]at he;obtain⟨n,hn⟩:=h;refine⟨n,?_⟩;rw[e0];rw[he]at hn;exact hn
  ·simp only[cond_true]at he;obtain⟨n,hn⟩:=ih (k+1) (by omega) (by rw[he,J6 hkl,anx];rfl);refine⟨n,?_⟩;rw[ek];exact hn
theorem Te(c:BCU)(l:List BP)(hc:okC 4000 c)(hl:∀x∈l,okP 4000 x)(hle:l.length≤1000000):∀(j i:Nat),i+j=l.length→∀out:List BP,(∀x∈out,okP 4000 x)→out.length≤i→vH.Runs 8 (kV c l (i:Int) out) [.d (.sl tP) ((l.drop i).foldl (gP (dC c)) out)]:=by
 intro j;induction j with
 |zero=>
  intro i hi out ho hlen;refine EJ _ _ _ _ ⟨0,?_⟩;unfold yq;rw[cd (by omega),kB (by omega)];rfl
 |succ j ih=>
  intro i hi out ho hlen;have hil:i<l.length:=by omega
  have h2:=ih (i+1) (by omega) (gP (dC c) out l[i]) (fun x hx=>by
   rcases pE hx with h|h
   ·exact ho x h
   ·rw[h];exact hl _ (anD hil)) (ank (yl _ _ _) (by omega))
  obtain⟨n,hn⟩:=acy c l hc hl out ho (by omega) i hil (by omega) _ h2 out.length 0 (by omega) (by simp);refine EJ _ _ _ _ ⟨n,?_⟩;unfold yq;rw[bG hil,fA hil,aoN];exact hn
def agH:Cn 59 [tCU,(.sl tP)]:=cn fun(c:BCU) (l:List BP)=>lf (Bm c l) [.d (.sl tP) (kI (dC c) l)] fun h=>by
 obtain⟨hc,hle,hl⟩:=h;refine cY aaW (show vH.Res _ _ _ from ?_);obtain⟨n,hn⟩:=Te c l hc hl hle l.length 0 (by omega) [] (fun x hx=>by cases hx) (anb _);exact agf _ _ ⟨n,hn⟩
def MY(c:BCU)(x y:BP):BCU:=(c.1,c.2.1,c.2.2.1,c.2.2.2.1,x,y)
def za(n d:Int):Prop:=aH n∧aH d∧0<d
instance (n d:Int):Decidable (za n d):=by unfold za;infer_instance
def ab3:List En:=[enL BW,enL X4]
def P4(n d:Int)(_k:KT):OLR:=match d==0 with|true=>(og (decide (aH (0:Int))) (og (decide (aH (1:Int))) (og (decide (jR (hid (ai (0:Int))) (hid (ai (1:Int))))) (some [RV.d tR (hid (fw (hid (ai (0:Int))) (hid (ai (1:Int)))))]))))|false=>(og (decide (aH n)) (og (decide (aH d)) (og (decide (jR (hid (ai n)) (hid (ai d)))) (some [RV.d tR (hid (fw (hid (ai n)) (hid (ai d))))]))))
def Cg:Cn 40 [aqt,aqt]:=cn fun(n d:Int)=>lf (za n d) [.d tR (aj (Rat.divInt n d))] fun h=>by
 refine aA ab3 (P4 n d) ⟨0,?_⟩;obtain⟨hn,hd,h0⟩:=h;have hne:(d==0)=false:=by simp;omega
 unfold P4;rw[hne,dT hn,dT hd];simp only[bJ];rw[dT (show jR (ai n) (ai d) from⟨aV (by have:=ki hn;omega),aV (by have:=ki hd;omega),by rw[dec_enc];omega⟩)];unfold fw;rw[dec_enc,dec_enc]
theorem IQ{n d:Int}(h1:aH n)(h2:aH d)(h0:0<d):Bd (Rat.divInt n d) 3:=by
 obtain⟨k,rfl⟩:=aoo (show 0≤d by omega);exact⟨uK (by omega) (ki h1) (ki h2)⟩
section
theorem Con.new_d{P:Program}{f:Nat}{args:List SV}{et:TypeId}{e:Ty}{xs:List e.D}(h:Con P f args [.new et e xs]):Con P f args [.d (.sl e) xs]:=by
 intro A w vs hI ha;refine(h A w vs hI ha).mono ?_;rintro en w' ⟨v,rfl,hb,css,ho,ha2,hn⟩
 refine⟨v,rfl,hb,?_⟩;obtain⟨hlen,p,c,hv,h1,h2,h3⟩:=Rd.of_own hn ho;subst hv;refine⟨[.slice p xs.length c],⟨p,xs.length,c,css,rfl,rfl,h1,h2,bR (fun _ _ h=>Ty.rd_keep ⟨anb _,fun b _ hb=>hb.1,fun _ _ _=>rfl⟩ h) ha2,fun h0=>?_⟩,rfl⟩;obtain⟨b,off,rfl,h5,h6⟩:=h3 h0;refine⟨b,off,rfl,.inr ?_,h5,h6⟩;rcases ho.2 with⟨h7,_⟩|⟨g,cap,cur,h7,h8,_⟩
 ·cases h7
 ·injection h7 with h7;injection h7 with h7;injection h7 with h7;subst h7;exact h8
class Bb (q:Rat) (n d:outParam Nat):Prop where
 nu:q.num.natAbs≤2^n
 de:q.den≤2^d
theorem Eg{n:Int}{d a b:Nat}(hd:d≠0)(h1:n.natAbs≤2^a)(h2:d≤2^b):(mkRat n d).num.natAbs≤2^a∧(mkRat n d).den≤2^b:=by
 rw[ap9,aqa,anr hd,anr hd];constructor
 ·refine ank ?_ h1;refine(HS n (d.gcd n.natAbs)).resolve_right (fun h=>h ?_);exact Int.ofNat_dvd_left.2 (Nat.gcd_dvd_right d n.natAbs)
 ·exact ank (Nat.div_le_self _ _) h2
theorem ym{a b m n:Nat}(h:a≤2^m)(h':b≤2^n):a*b≤2^(m+n):=by
 rw[Nat.pow_add];exact aoZ h h'
theorem afi{x y m n:Nat}(h:x≤2^m)(h':y≤2^n):x+y≤2^(mx m n+1):=by
 have h1:=ank h (Nat.pow_le_pow_right (by decide) (A7 m n));have h2:=ank h' (Nat.pow_le_pow_right (by decide) (Cx m n));rw[Nat.pow_succ];omega
section
variable {a b:Rat} {m n d e:Nat}
instance amy [h:Bb a m d] [h':Bb b n e]:Bb (a+b) (mx (m+e) (n+d)+1) (d+e):=by
 have d1:=a.den_pos;have d2:=b.den_pos
 have:=Eg (n:=a.num*(b.den:Int)+b.num*(a.den:Int)) (d:=a.den*b.den) (a:=mx (m+e) (n+d)+1) (b:=d+e) (apH (by omega) (by omega)) (by
  refine ank (Int.natAbs_add_le _ _) ?_;rw[apW,apW,aoC,aoC];exact afi (ym h.nu h'.de) (ym h'.nu h.de)) (ym h.de h'.de)
 rw[←Rat.add_def']at this;exact⟨this.1,this.2⟩
instance alJ [h:Bb a m d]:Bb (-a) m d:=⟨by rw[Rat.neg_num,Int.natAbs_neg];exact h.nu,h.de⟩
instance akP [h:Bb a m d] [h':Bb b n e]:Bb (a-b) (mx (m+e) (n+d)+1) (d+e):=by
 rw[apy];infer_instance
instance alw [h:Bb a m d] [h':Bb b n e]:Bb (a*b) (m+n) (d+e):=by
 have d1:=a.den_pos;have d2:=b.den_pos
 have:=Eg (n:=a.num*b.num) (d:=a.den*b.den) (a:=m+n) (b:=d+e) (apH (by omega) (by omega)) (by
  rw[apW];exact ym h.nu h'.nu) (ym h.de h'.de)
 rw[←Rat.mul_def']at this;exact⟨this.1,this.2⟩
theorem ac3 [h:Bb a m d]:Bb a⁻¹ d m:=by
 by_cases h0:a=0
 ·subst h0;rw[Rat.inv_zero];exact⟨apz _,Nat.one_le_two_pow⟩
 ·have hn:a.num≠0:=fun e=>h0 (Rat.num_eq_zero.1 e);have h1:=h.nu;have h2:=h.de;rw[Rat.inv_def];rcases aoU hn with h3|h3
  ·rw[←Rat.neg_divInt_neg,show-a.num=(((-a.num).toNat:Nat):Int) by omega,apt];have:=Eg (n:= -(a.den:Int)) (d:=(-a.num).toNat) (a:=d) (b:=m) (by omega) (by rw[Int.natAbs_neg];exact h2) (by omega);exact⟨this.1,this.2⟩
  ·rw[show a.num=((a.num.toNat:Nat):Int) by omega,apt];have:=Eg (n:=(a.den:Int)) (d:=a.num.toNat) (a:=d) (b:=m) (by omega) h2 (by omega);exact⟨this.1,this.2⟩
instance ams [h:Bb a m d] [h':Bb b n e]:Bb (a/b) (m+e) (d+n):=by
 rw[apK];have:=ac3 (h:=h');infer_instance
theorem ZY:∀k:Nat,((2^(29*k):Nat):Int)≤pw k
 |0=>by decide
 |k+1=>by
  have ih:=ZY k
  have e:2^(29*(k+1))=2^(29*k)*536870912:=by
   rw[Nat.mul_add,Nat.pow_add]
  rw[e,cg,aoA];have:(0:Int)≤pw k:=Int.le_trans (Int.natCast_nonneg _) ih;omega
theorem Yx{z:Int}{n:Nat}(h:z.natAbs≤2^n):szI z≤n/29+1:=by
 have h1:=ZY (n/29+1);have h2:2^n<2^(29*(n/29+1)):=Nat.pow_lt_pow_right (by decide) (by omega);exact fu (by omega) (by omega)
theorem EU [h:Bb a m d]{k:Nat}(hm:m/29+1≤k)(hd:d/29+1≤k):Bd a k:=⟨⟨ank (Yx h.nu) hm,ank (Yx (z:=(a.den:Int)) h.de) hd⟩⟩
end
theorem Vr{n d:Int}{a b:Nat}(h0:0<d)(h1:n.natAbs≤2^a)(h2:d.natAbs≤2^b):Bb (Rat.divInt n d) a b:=by
 obtain⟨k,rfl⟩:=aoo (show 0≤d by omega);rw[apt];have:=Eg (n:=n) (d:=k) (by omega) h1 h2;exact⟨this.1,this.2⟩
def cS(x:BO3):Prop:=ok Rat 12 x.1∧ok Rat 12 x.2.1∧ok Rat 63 x.2.2∧((dec x:Ln).1≠0∨(dec x:Ln).2.1≠0)
instance (x:BO3):Decidable (cS x):=by unfold cS;infer_instance
def cp(x:BO3):Prop:=ok Rat 4 x.1∧ok Rat 4 x.2.1∧ok Rat 13 x.2.2∧(0:Rat)<(dec x:Ln).2.2
instance (x:BO3):Decidable (cp x):=by unfold cp;infer_instance
class BdL (l:Ln):Prop where
 a:Bd l.1 12
 b:Bd l.2.1 12
 c:Bd l.2.2 63
class BdC (c:Ln):Prop where
 x:Bd c.1 4
 y:Bd c.2.1 4
 q:Bd c.2.2 13
theorem eK{x:BO3}(h:cS x):∃l:Ln,x=enc l∧BdL l∧(l.1≠0∨l.2.1≠0):=by
 obtain⟨h1,h2,h3,h4⟩:=h;obtain⟨x1,x2,x3⟩:=x;obtain⟨a,rfl,ba⟩:=aB h1;obtain⟨b,rfl,bb⟩:=aB h2;obtain⟨c,rfl,bc⟩:=aB h3;have e:((enc a,enc b,enc c):BO3)=enc ((a,b,c):Ln):=rfl;rw[e,az]at h4;exact⟨(a,b,c),rfl,⟨ba,bb,bc⟩,h4⟩
theorem cE{x:BO3}(h:cp x):∃c:Ln,x=enc c∧BdC c∧0<c.2.2:=by
 obtain⟨h1,h2,h3,h4⟩:=h;obtain⟨x1,x2,x3⟩:=x;obtain⟨a,rfl,ba⟩:=aB h1;obtain⟨b,rfl,bb⟩:=aB h2;obtain⟨c,rfl,bc⟩:=aB h3;have e:((enc a,enc b,enc c):BO3)=enc ((a,b,c):Ln):=rfl;rw[e,az]at h4;exact⟨(a,b,c),rfl,⟨ba,bb,bc⟩,h4⟩
theorem l8{l:Ln}[h:BdL l](h0:l.1≠0∨l.2.1≠0):cS (enc l):=by
 have a:=h.a;have b:=h.b;have c:=h.c;exact⟨am8 (okd (anb _) (by decide)),am8 (okd (anb _) (by decide)),am8 (okd (anb _) (by decide)),by rw[az];exact h0⟩
theorem gR{c:Ln}[h:BdC c](h0:0<c.2.2):cp (enc c):=by
 have a:=h.x;have b:=h.y;have c:=h.q;exact⟨am8 (okd (anb _) (by decide)),am8 (okd (anb _) (by decide)),am8 (okd (anb _) (by decide)),by rw[az];exact h0⟩
section
variable {l c:Ln}
instance am4 [h:BdL l]:Bd l.1 12:=h.a
instance am2 [h:BdL l]:Bd l.2.1 12:=h.b
instance am3 [h:BdL l]:Bd l.2.2 63:=h.c
instance am0 [h:BdC c]:Bd c.1 4:=h.x
instance amZ [h:BdC c]:Bd c.2.1 4:=h.y
instance am1 [h:BdC c]:Bd c.2.2 13:=h.q
theorem ab2 [h:BdL l]:Bd l 63:=⟨⟨Cod.mono _ _ _ (by decide) h.a.le,Cod.mono _ _ _ (by decide) h.b.le,h.c.le⟩⟩
theorem R4 [h:BdC c]:Bd c 13:=⟨⟨Cod.mono _ _ _ (by decide) h.x.le,Cod.mono _ _ _ (by decide) h.y.le,h.q.le⟩⟩
end
def eg(l m:Ln):Rat:=l.1*m.2.1-m.1*l.2.1
def mj(l m:Ln):Rat:=l.2.2*m.2.1-m.2.2*l.2.1
def mt(l m:Ln):Rat:=l.1*m.2.2-m.1*l.2.2
def m6(l m:Ln):List Pt:=bif !decide (eg l m=0)then [atP (mj l m/eg l m,mt l m/eg l m)]else []
def LK(l m:Ln):Int:=bif !decide (eg l m=0)then 0 else bif decide (mj l m=0)&&decide (mt l m=0)then 10 else 0
def cr(l:Ln):Rat:=l.1*l.1+l.2.1*l.2.1
def vlL(l:Ln)(x y:Rat):Rat:=l.1*x+l.2.1*y-l.2.2
def jG(l c:Ln):Rat:=cr l*c.2.2-vlL l c.1 c.2.1*vlL l c.1 c.2.1
def oE(ax bx ay b_ c:Rat):Pt:=bif fE c then atP (ax+bx*rtQ c,ay+b_*rtQ c)else(ax,bx,ay,b_,c)
def ftX(l c:Ln):Rat:=c.1-vlL l c.1 c.2.1/cr l*l.1
def ftY(l c:Ln):Rat:=c.2.1-vlL l c.1 c.2.1/cr l*l.2.1
def sM(l c:Ln):Pt:=oE (ftX l c) (-(l.2.1/cr l)) (ftY l c) (-(-l.1/cr l)) (jG l c)
def tk(l c:Ln):Pt:=oE (ftX l c) (l.2.1/cr l) (ftY l c) (-l.1/cr l) (jG l c)
def rP(l c:Ln):List Pt:=bif decide (jG l c<0)then []else bif decide (jG l c=0)then [atP (ftX l c,ftY l c)]
 else bif decide (aX (sM l c) (tk l c)>0)then [tk l c,sM l c]else [sM l c,tk l c]
def gY(c d:Ln):Bool:=decide (c.1=d.1)&&decide (c.2.1=d.2.1)
def qU(c:Ln):Rat:=c.1*c.1+c.2.1*c.2.1-c.2.2
def ng(c d:Ln):Ln:=(2*(d.1-c.1),2*(d.2.1-c.2.1),qU d-qU c)
def zb(c d:Ln):List Pt:=bif gY c d then []else rP (ng c d) c
def U1(c d:Ln):Int:=bif gY c d then(bif decide (c.2.2=d.2.2)then 10 else 0)else 0
def vT(c d:Ln):BO3:=bif gY c d then o00 else enc (ng c d)
def Tq(c d:Ln):Int:=bif gY c d then 6 else 0
def qX(l m:Ln):Bool:=decide (l.1*m.2.1=l.2.1*m.1)&&(decide (l.1*m.2.2=l.2.2*m.1)&&decide (l.2.1*m.2.2=l.2.2*m.2.1))
def tX(c d:Ln):Bool:=decide (c.1=d.1)&&(decide (c.2.1=d.2.1)&&decide (c.2.2=d.2.2))
def cX(a b:Cv):Bool:=bif a.1==b.1 then(bif a.1 then tX (ciC a) (ciC b)else qX (lnC a) (lnC b))else false
def t3(a:BCU):Prop:=(a.1=true→cp a.2.2.1)∧(a.1=false→cS a.2.1)
instance (a:BCU):Decidable (t3 a):=by unfold t3;infer_instance
def gX(a b:BCU):Prop:=t3 a∧t3 b
instance (a b:BCU):Decidable (gX a b):=by unfold gX;infer_instance
def sE(a b:Cv):List Pt:=bif a.1&&b.1 then zb (ciC a) (ciC b)else bif a.1 then rP (lnC b) (ciC a)else bif b.1 then rP (lnC a) (ciC b)else m6 (lnC a) (lnC b)
def WZ(a b:Cv):Int:=bif a.1&&b.1 then U1 (ciC a) (ciC b)else bif a.1 then 0 else bif b.1 then 0 else LK (lnC a) (lnC b)
def l9(c:Ln):Pt:=oE c.1 (-1) c.2.1 0 c.2.2
def ml(c:Ln):Pt:=oE c.1 1 c.2.1 0 c.2.2
theorem A9{ax bx ay b_ c:Rat}(h0:¬(bx=0∧b_=0))(hc:0≤c):Rpd (oE ax bx ay b_ c):=by
 refine⟨?_⟩;unfold oE;cases hq:fE c
 ·exact .inr ⟨h0,IP hc hq,hq⟩
 ·exact .inl ⟨rfl,rfl,rfl⟩
theorem BM{ax bx ay b_ c:Rat}{j k m:Nat}(h1:Bd ax j)(h2:Bd bx k)(h3:Bd ay j)(h4:Bd b_ k)(h5:Bd c m){n:Nat}(hn:j+(k+m)+1≤n):Bd (oE ax bx ay b_ c) n:=by
 have z:bdR n 0:=bK lS.le (by omega);have i1:Bd (ax+bx*rtQ c) _:=inferInstance;have i2:Bd (ay+b_*rtQ c) _:=inferInstance;refine⟨?_⟩;unfold oE;cases fE c
 ·exact⟨bK h1.le (by omega),bK h2.le (by omega),bK h3.le (by omega),bK h4.le (by omega),bK h5.le (by omega)⟩
 ·exact⟨bK i1.le (by omega),z,bK i2.le (by omega),z,z⟩
section
variable {l m c d:Ln}
theorem oh(h:l.1≠0∨l.2.1≠0):cr l≠0:=lK h
instance alQ [BdL l] [h:BdC c]:Bd (jG l c) 257:=by
 have hx:=h.x;have hy:=h.y;have hq:=h.q;have i1:Bd (cr l) 49:=inferInstanceAs (Bd (l.1*l.1+l.2.1*l.2.1) _);have i2:Bd (vlL l c.1 c.2.1) 97:=inferInstanceAs (Bd (l.1*c.1+l.2.1*c.2.1-l.2.2) _);exact(inferInstance:Bd (cr l*c.2.2-vlL l c.1 c.2.1*vlL l c.1 c.2.1) _).mono (by decide)
theorem ut [BdL l][h:BdC c]:Bd (ftX l c) 163∧Bd (ftY l c) 163∧Bd (l.2.1/cr l) 61∧Bd (l.1/cr l) 61:=by
 have hx:=h.x;have hy:=h.y;have i1:Bd (cr l) 49:=inferInstanceAs (Bd (l.1*l.1+l.2.1*l.2.1) _);have i2:Bd (vlL l c.1 c.2.1) 97:=inferInstanceAs (Bd (l.1*c.1+l.2.1*c.2.1-l.2.2) _);have i3:Bd (c.1-vlL l c.1 c.2.1/cr l*l.1) _:=inferInstance;have i4:Bd (c.2.1-vlL l c.1 c.2.1/cr l*l.2.1) _:=inferInstance;have i5:Bd (l.2.1/cr l) _:=inferInstance;have i6:Bd (l.1/cr l) _:=inferInstance;exact⟨i3.mono (by decide),i4.mono (by decide),i5.mono (by decide),i6.mono (by decide)⟩
end
end
end Go.Proofs.YtnkndpoojnflmaaGreat
end
