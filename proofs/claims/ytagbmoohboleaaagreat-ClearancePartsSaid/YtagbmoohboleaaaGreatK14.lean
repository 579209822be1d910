/- Lines and circles: the program's contracts. -/
import Derived.Test.YtagbmoohboleaaaGreatK12
import Derived.Test.YtagbmoohboleaaaGreatK13
import Derived.Test.YtagbmoohboleaaaGreatK10
import Derived.Test.YtagbmoohboleaaaGreatK11
noncomputable section
namespace Go.Proofs.YtagbmoohboleaaaGreat
open Go.RowKit Go.IntKind
theorem aox:type_of% @List.not_mem_nil:=@List.not_mem_nil
theorem apW:type_of% @Int.le_trans:=@Int.le_trans
theorem apZ:type_of% @or_false:=@or_false
def Bh:List En:=[⟨125,jn,fO⟩,⟨67,iV,fA⟩,⟨132,jR,gb⟩,⟨65,jx,fM⟩,⟨133,mv,iu⟩,⟨54,gK,eH⟩,⟨66,nA,jk⟩,⟨245,zZ,uw⟩,enT Ep,enL OT,enL PH,enL P4,enL RB,enL Jz,enL OB,enL Z5]
def YS(l:BO3)(p:BP)(_k:KT):OLR:=let y1:=bJ (dec (p.1,(p.2.1,p.2.2.2.2)));let y2:=hid ((bJ (dec p.2.2)).1);let y3:=kJ (ah l.1) (hid (y1.1)) (y1.2);let y4:=kJ (ah l.2.1) y2 ((bJ (dec p.2.2)).2);let y5:=dY (hid (y3.1)) (hid (y4.1));let y6:=hid ((frF (ah l.2.2)).1);let y7:=dY (hid (y5.1)) (hid (ot y6));og (decide (ok Rt 100000 (p.1,(p.2.1,p.2.2.2.2)))) (og (decide (ok Rat 100000 l.1/\prI (hid (y1.1)))) (og (decide (ok Rt 100000 p.2.2)) (og (decide (ok Rat 100000 l.2.1/\prI y2)) (og (decide (ok Rat 200000 l.2.2)) (match !(y3.2)with|true=>some [RV.d aqw 0,RV.d .bool false]|false=>(match !(y4.2)with|true=>some [RV.d aqw 0,RV.d .bool false]|false=>(match !((frF (ah l.2.2)).2)with|true=>some [RV.d aqw 0,RV.d .bool false]|false=>(og (decide (prI (hid (y3.1))/\prI (hid (y4.1)))) (match !(y5.2)with|true=>some [RV.d aqw 0,RV.d .bool false]|false=>(og (decide (prI y6)) (og (decide (prI (hid (y5.1))/\prI (hid (ot y6)))) (match !(y7.2)with|true=>some [RV.d aqw 0,RV.d .bool false]|false=>some [RV.d aqw ((sgF (hid (y7.1))).1),RV.d .bool ((sgF (hid (y7.1))).2)]))))))))))))
def agA:Cn 268 [tO,tP]:=cn λ(l:BO3) (p:BP)=>lf (ok Ln 300 l/\ok Pt 4000 p) [.d aqw ((zU (dec l) (dec p)).1),.d .bool ((zU (dec l) (dec p)).2)] λh=>by
 refine aB Bh (YS l p) ⟨0,?_⟩;obtain⟨hl,hp⟩:=h;obtain⟨l,rfl,bl⟩:=aI hl;obtain⟨p,rfl,bp⟩:=aI hp;have dx:(dec ((ao p.1,ao p.2.1,ao p.2.2.2.2):BO3):Rt)=pxR p:=aA (pxR p);have dy:(dec ((ao p.2.2.1,ao p.2.2.2.1,ao p.2.2.2.2):BO3):Rt)=pyR p:=aA (pyR p);have dy':(dec (enc p.2.2:BO3):Rt)=pyR p:=aA (pyR p);have px:Bd (pxR p) 4000:=(inferInstance:Bd ((p.1,p.2.1,p.2.2.2.2):Rt) _).mono (by decide);have py:Bd (pyR p) 4000:=(inferInstance:Bd ((p.2.2.1,p.2.2.2.1,p.2.2.2.2):Rt) _).mono (by decide);have ox:decide (ok Rt 100000 ((ao p.1,ao p.2.1,ao p.2.2.2.2):BO3))=true:=okd (x:=pxR p) (by decide) (by decide);have oy:decide (ok Rt 100000 (enc p.2.2:BO3))=true:=okd (x:=pyR p) (by decide) (by decide);have pr:∀r,prI (bJ r).1:=zX;have pt:∀n a k,prI (kJ n a k).1:=Xt;have pf:∀q,prI (frF q).1:=RE.frF_pr;unfold YS;simp only[aX,Nat.reduceLeDiff,dx,dy',ox,oy,dT (pr _),dT (pt _ _ _),dT (pf _),dT (RE.addF_pr (pt _ _ _) (pt _ _ _)),dT (RE.negF_pr (pf _))];unfold zU;generalize bJ (pxR p)=X;generalize bJ (pyR p)=Y;generalize kJ l.1 X.1 X.2=U;generalize kJ l.2.1 Y.1 Y.2=V;generalize frF l.2.2=W;generalize dY U.1 V.1=S;generalize dY S.1 (ot W.1)=D;generalize sgF D.1=Z;obtain⟨_,u⟩:=U;obtain⟨_,v⟩:=V;obtain⟨_,w⟩:=W;obtain⟨_,s⟩:=S;obtain⟨_,d⟩:=D;cases u<;>cases v<;>cases w<;>try rfl
 cases s<;>cases d<;>rfl
def Yo:Cn 160 [tR,tR]:=cn λ(a b:BR)=>lf (okR a/\okR b) [.d tR (ao (ah a+ah b))] λh=>kO [RV.d tR (hAd a b)] (dN Bh) h
def Y6:Cn 157 [tR,tR]:=cn λ(a b:BR)=>lf (okR a/\okR b) [.d tR (ao (ah a-ah b))] λh=>kO [RV.d tR (hSu a b)] (dN Bh) h
def Yw:Cn 158 [tR,tR]:=cn λ(a b:BR)=>lf (okR a/\okR b) [.d tR (ao (ah a*ah b))] λh=>kO [RV.d tR (hMu a b)] (dN Bh) h
def aaE(a b:BR)(_k:KT):OLR:=og (decide (ju a b)) (match 0 !=0 with|true=>(og (decide (aJ (0:Int))) (some [RV.d tR (hid (ao ((0:Int):Rat)))]))|false=>some [RV.d tR (hDi a b)])
def ajm:Cn 161 [tR,tR]:=cn λ(a b:BR)=>lf (ju a b) [.d tR (ao (ah a/ah b))] λh=>by
 refine aB Bh (aaE a b) ⟨0,?_⟩;unfold aaE;rw[dT h];simp only[bL];rfl
def Pn:List En:=enT agA::enL Yo::enL Y6::enL Yw::enL ajm::Bh
def aaU(a b c:BR)(_k:KT):OLR:=og (o1 a) (og (o1 b) (og (o1 c) (match(i64.wrap ((aF (ah b) 0)*(aF (ah c) 0)))==0 with|true=>some [RV.d aqw (aF (ah a) 0)]|false=>(match(aF (ah a) 0)==(i64.wrap ((aF (ah b) 0)*(aF (ah c) 0)))with|true=>some [RV.d aqw (aF (ah a) 0)]|false=>(match(aF (ah a) 0)==0 with|true=>some [RV.d aqw (i64.wrap ((aF (ah b) 0)*(aF (ah c) 0)))]|false=>(og (o2 a a) (og (o2 b b) (og (o2 (hMu b b) c) (og (o2 (hMu a a) (hMu (hMu b b) c)) (some [RV.d aqw (i64.wrap ((aF (ah a) 0)*(aF (ah (hMu a a)) (ah (hMu (hMu b b) c)))))]))))))))))
def agd:Cn 267 [tR,tR,tR]:=cn λ(a b c:BR)=>lf (ok Rat 240000 a/\ok Rat 170000 b/\ok Rat 30000 c) [.d aqw (iy (ah a) (ah b) (ah c))] λh=>by
 refine aB Pn (aaU a b c) ⟨0,?_⟩;obtain⟨ha,hb,hc⟩:=h;obtain⟨a,rfl,ba⟩:=aI ha;obtain⟨b,rfl,bb⟩:=aI hb;obtain⟨c,rfl,bc⟩:=aI hc;unfold aaU;simp only[aX,Nat.reduceAdd,Nat.reduceLeDiff,rR];exact Cy _ _ _
def aaT(a b c f:BR)(_k:KT):OLR:=og (decide (ok Rt 100000 (a,(b,c)))) (og (decide (ok Rat 200000 f)) (match !((bJ (dec (a,(b,c)))).2)with|true=>some [RV.d tG (0,0),RV.d .bool false]|false=>(match !((frF (ah f)).2)with|true=>some [RV.d tG (0,0),RV.d .bool false]|false=>(og (decide (prI (hid ((frF (ah f)).1)))) (og (decide (prI (hid ((bJ (dec (a,(b,c)))).1))/\prI (hid (ot (hid ((frF (ah f)).1)))))) (some [RV.d tG (hid ((dY (hid ((bJ (dec (a,(b,c)))).1)) (hid (ot (hid ((frF (ah f)).1))))).1)),RV.d .bool ((dY (hid ((bJ (dec (a,(b,c)))).1)) (hid (ot (hid ((frF (ah f)).1))))).2)]))))))
def agn:Cn 306 [tR,tR,tR,tR]:=cn λ(a b c f:BR)=>lf (ok Rat 100000 a/\ok Rat 100000 b/\ok Rat 100000 c/\ok Rat 100000 f) [.d tG ((fW (ah a,ah b,ah c) (ah f)).1),.d .bool ((fW (ah a,ah b,ah c) (ah f)).2)] λh=>by
 refine aB Pn (aaT a b c f) ⟨0,?_⟩;obtain⟨ha,hb,hc,hf⟩:=h;obtain⟨a,rfl,ba⟩:=aI ha;obtain⟨b,rfl,bb⟩:=aI hb;obtain⟨c,rfl,bc⟩:=aI hc;obtain⟨f,rfl,bf⟩:=aI hf;have dr:(dec ((ao a,ao b,ao c):BO3):Rt)=(a,b,c):=aA ((a,b,c):Rt);have orr:decide (ok Rt 100000 ((ao a,ao b,ao c):BO3))=true:=okd (x:=((a,b,c):Rt)) (by decide) (by decide);unfold aaT;simp only[aX,Nat.reduceLeDiff,dr,orr,dT (RE.frF_pr _),dT (RE.negF_pr (RE.frF_pr _)),dT (zX _)];unfold fW;generalize bJ (a,b,c)=X;generalize frF f=Y;obtain⟨_,x⟩:=X;obtain⟨_,y⟩:=Y;cases x<;>cases y<;>rfl
def RJ:List En:=enT agd::enL agn::Pn
def aaF(c:BO3)(p:BP)(_k:KT):OLR:=let y1:=fW (ah p.1,ah p.2.1,ah p.2.2.2.2) (ah c.1);let y2:=fW (ah p.2.2.1,ah p.2.2.2.1,ah p.2.2.2.2) (ah c.2.1);let y3:=cO (hid (y1.1)) (hid (y1.1));let y4:=cO (hid (y2.1)) (hid (y2.1));let y5:=dY (hid (y3.1)) (hid (y4.1));let y6:=hid ((frF (ah c.2.2)).1);let y7:=dY (hid (y5.1)) (hid (ot y6));og (decide (ok Rat 100000 p.1/\ok Rat 100000 p.2.1/\ok Rat 100000 p.2.2.2.2/\ok Rat 100000 c.1)) (og (decide (ok Rat 100000 p.2.2.1/\ok Rat 100000 p.2.2.2.1/\ok Rat 100000 p.2.2.2.2/\ok Rat 100000 c.2.1)) (og (decide (ok Rat 200000 c.2.2)) (match !(y1.2)with|true=>some [RV.d aqw 0,RV.d .bool false]|false=>(match !(y2.2)with|true=>some [RV.d aqw 0,RV.d .bool false]|false=>(match !((frF (ah c.2.2)).2)with|true=>some [RV.d aqw 0,RV.d .bool false]|false=>(og (decide (prI (hid (y1.1))/\prI (hid (y1.1)))) (og (decide (prI (hid (y2.1))/\prI (hid (y2.1)))) (match !(y3.2)with|true=>some [RV.d aqw 0,RV.d .bool false]|false=>(match !(y4.2)with|true=>some [RV.d aqw 0,RV.d .bool false]|false=>(og (decide (prI (hid (y3.1))/\prI (hid (y4.1)))) (match !(y5.2)with|true=>some [RV.d aqw 0,RV.d .bool false]|false=>(og (decide (prI y6)) (og (decide (prI (hid (y5.1))/\prI (hid (ot y6)))) (match !(y7.2)with|true=>some [RV.d aqw 0,RV.d .bool false]|false=>some [RV.d aqw ((sgF (hid (y7.1))).1),RV.d .bool ((sgF (hid (y7.1))).2)]))))))))))))))
def aiw:Cn 266 [tO,tP]:=cn λ(c:BO3) (p:BP)=>lf (ok Ln 300 c/\ok Pt 4000 p) [.d aqw ((wm (dec c) (dec p)).1),.d .bool ((wm (dec c) (dec p)).2)] λh=>by
 refine aB RJ (aaF c p) ⟨0,?_⟩;obtain⟨hc,hp⟩:=h;obtain⟨c,rfl,bc⟩:=aI hc;obtain⟨p,rfl,bp⟩:=aI hp;have pd:∀r q,prI (fW r q).1:=Ve;have pf:∀q,prI (frF q).1:=RE.frF_pr;have pm:∀a b,prI (cO a b).1:=uK;have dx:fW (p.1,p.2.1,p.2.2.2.2) c.1=fW (pxR p) c.1:=rfl;have dy:fW (p.2.2.1,p.2.2.2.1,p.2.2.2.2) c.2.1=fW (pyR p) c.2.1:=rfl;unfold aaF;simp only[aX,Nat.reduceLeDiff,dx,dy,dT (pd _ _),dT (pm _ _),dT (pf _),dT (RE.negF_pr (pf _)),dT (RE.addF_pr (pm _ _) (pm _ _))];unfold wm;generalize fW (pxR p) c.1=X;generalize fW (pyR p) c.2.1=Y;generalize frF c.2.2=W;generalize cO X.1 X.1=U;generalize cO Y.1 Y.1=V;generalize dY U.1 V.1=S;generalize dY S.1 (ot W.1)=D;generalize sgF D.1=Z;obtain⟨_,x⟩:=X;obtain⟨_,y⟩:=Y;obtain⟨_,w⟩:=W;obtain⟨_,u⟩:=U;obtain⟨_,v⟩:=V;obtain⟨_,s⟩:=S;obtain⟨_,d⟩:=D;cases x<;>cases y<;>cases w<;>try rfl
 cases u<;>cases v<;>try rfl
 cases s<;>cases d<;>rfl
def YF(l:BO3)(p:BP)(_k:KT):OLR:=og (decide (ok Ln 300 l/\ok Pt 4000 p)) (match(zU (dec l) (dec p)).2 with|true=>some [RV.d aqw ((zU (dec l) (dec p)).1)]|false=>(og (o2 l.1 p.1) (og (o2 l.2.1 p.2.2.1) (og (o2 (hMu l.1 p.1) (hMu l.2.1 p.2.2.1)) (og (o2 (hAd (hMu l.1 p.1) (hMu l.2.1 p.2.2.1)) l.2.2) (og (o2 l.1 p.2.1) (og (o2 l.2.1 p.2.2.2.1) (og (o2 (hMu l.1 p.2.1) (hMu l.2.1 p.2.2.2.1)) (og (decide (ok Rat 240000 (hSu (hAd (hMu l.1 p.1) (hMu l.2.1 p.2.2.1)) l.2.2)/\ok Rat 170000 (hAd (hMu l.1 p.2.1) (hMu l.2.1 p.2.2.2.1))/\ok Rat 30000 p.2.2.2.2)) (some [RV.d aqw (iy (ah (hSu (hAd (hMu l.1 p.1) (hMu l.2.1 p.2.2.1)) l.2.2)) (ah (hAd (hMu l.1 p.2.1) (hMu l.2.1 p.2.2.2.1))) (ah p.2.2.2.2))]))))))))))
def aib:Cn 182 [tO,tP]:=cn λ(l:BO3) (p:BP)=>lf (ok Ln 300 l/\okP 4000 p) [.d aqw (uF (dec l) (dec p))] λh=>by
 refine aB RJ (YF l p) ⟨0,?_⟩;obtain⟨hl,hp⟩:=h;obtain⟨l,rfl,bl⟩:=aI hl;obtain⟨p,rfl,bp,rp⟩:=bU hp;unfold YF;simp only[aX,Nat.reduceAdd,Nat.reduceLeDiff];cases hq:(zU l p).2
 ·rfl
 ·rw[RE.sidL_ok l hq]
def aa4:List En:=enT aiw::RJ
def aa8(c:BO3)(p:BP)(_k:KT):OLR:=og (decide (ok Ln 300 c/\ok Pt 4000 p)) (match(wm (dec c) (dec p)).2 with|true=>some [RV.d aqw (i64.wrap (0-((wm (dec c) (dec p)).1)))]|false=>(og (o2 p.1 c.1) (og (o2 p.2.2.1 c.2.1) (og (o2 (hSu p.1 c.1) (hSu p.1 c.1)) (og (o2 (hSu p.2.2.1 c.2.1) (hSu p.2.2.1 c.2.1)) (og (o2 (hMu (hSu p.1 c.1) (hSu p.1 c.1)) (hMu (hSu p.2.2.1 c.2.1) (hSu p.2.2.1 c.2.1))) (og (o2 p.2.1 p.2.1) (og (o2 p.2.2.2.1 p.2.2.2.1) (og (o2 (hMu p.2.1 p.2.1) (hMu p.2.2.2.1 p.2.2.2.1)) (og (o2 p.2.2.2.2 (hAd (hMu p.2.1 p.2.1) (hMu p.2.2.2.1 p.2.2.2.1))) (og (o2 (hAd (hMu (hSu p.1 c.1) (hSu p.1 c.1)) (hMu (hSu p.2.2.1 c.2.1) (hSu p.2.2.1 c.2.1))) (hMu p.2.2.2.2 (hAd (hMu p.2.1 p.2.1) (hMu p.2.2.2.1 p.2.2.2.1)))) (og (o2 (hSu p.1 c.1) p.2.1) (og (o2 (hSu p.2.2.1 c.2.1) p.2.2.2.1) (og (o2 (hMu (hSu p.1 c.1) p.2.1) (hMu (hSu p.2.2.1 c.2.1) p.2.2.2.1)) (og (o2 (hAd (hAd (hMu (hSu p.1 c.1) (hSu p.1 c.1)) (hMu (hSu p.2.2.1 c.2.1) (hSu p.2.2.1 c.2.1))) (hMu p.2.2.2.2 (hAd (hMu p.2.1 p.2.1) (hMu p.2.2.2.1 p.2.2.2.1)))) c.2.2) (og (o2 (hAd (hMu (hSu p.1 c.1) p.2.1) (hMu (hSu p.2.2.1 c.2.1) p.2.2.2.1)) (hAd (hMu (hSu p.1 c.1) p.2.1) (hMu (hSu p.2.2.1 c.2.1) p.2.2.2.1))) (og (decide (ok Rat 240000 (hSu (hAd (hAd (hMu (hSu p.1 c.1) (hSu p.1 c.1)) (hMu (hSu p.2.2.1 c.2.1) (hSu p.2.2.1 c.2.1))) (hMu p.2.2.2.2 (hAd (hMu p.2.1 p.2.1) (hMu p.2.2.2.1 p.2.2.2.1)))) c.2.2)/\ok Rat 170000 (hAd (hAd (hMu (hSu p.1 c.1) p.2.1) (hMu (hSu p.2.2.1 c.2.1) p.2.2.2.1)) (hAd (hMu (hSu p.1 c.1) p.2.1) (hMu (hSu p.2.2.1 c.2.1) p.2.2.2.1)))/\ok Rat 30000 p.2.2.2.2)) (some [RV.d aqw (i64.wrap (0-(iy (ah (hSu (hAd (hAd (hMu (hSu p.1 c.1) (hSu p.1 c.1)) (hMu (hSu p.2.2.1 c.2.1) (hSu p.2.2.1 c.2.1))) (hMu p.2.2.2.2 (hAd (hMu p.2.1 p.2.1) (hMu p.2.2.2.1 p.2.2.2.1)))) c.2.2)) (ah (hAd (hAd (hMu (hSu p.1 c.1) p.2.1) (hMu (hSu p.2.2.1 c.2.1) p.2.2.2.1)) (hAd (hMu (hSu p.1 c.1) p.2.1) (hMu (hSu p.2.2.1 c.2.1) p.2.2.2.1)))) (ah p.2.2.2.2))))]))))))))))))))))))
def akx:Cn 181 [tO,tP]:=cn λ(c:BO3) (p:BP)=>lf (ok Ln 300 c/\okP 4000 p) [.d aqw (qn (dec c) (dec p))] λh=>by
 refine aB aa4 (aa8 c p) ⟨0,?_⟩;obtain⟨hc,hp⟩:=h;obtain⟨c,rfl,bc⟩:=aI hc;obtain⟨p,rfl,bp,rp⟩:=bU hp;have sb:=m6 (sqA p (ctr c)-c.2.2) (sqB p (ctr c)) p.2.2.2.2;unfold aa8;simp only[aX,Nat.reduceAdd,Nat.reduceLeDiff];cases hq:(wm c p).2
 ·unfold qn sqA sqB ctr at*
  dsimp only at sb ⊢;rw[show(p.2.2.2.2*(p.2.1*p.2.1+p.2.2.2.1*p.2.2.2.1))=(p.2.1*p.2.1+p.2.2.2.1*p.2.2.2.1)*p.2.2.2.2 by grind];rw[aV (by omega) (by omega),ao7]
 ·have hb: -1<=(wm c p).1/\(wm c p).1<=1:=by
   have:=RE.insC_ok c hq;unfold qn at this;omega
  dsimp only;rw[aV (by omega) (by omega),ao7,RE.insC_ok c hq]
def Y7(l:BO3)(v:BV)(_k:KT):OLR:=og (o2 l.1 v.1) (og (o2 l.2.1 v.2) (og (o2 (hMu l.1 v.1) (hMu l.2.1 v.2)) (og (o2 (hAd (hMu l.1 v.1) (hMu l.2.1 v.2)) l.2.2) (og (o2 l.1 l.1) (og (o2 l.2.1 l.2.1) (og (o2 (hMu l.1 l.1) (hMu l.2.1 l.2.1)) (og (decide (ju (hSu (hAd (hMu l.1 v.1) (hMu l.2.1 v.2)) l.2.2) (hAd (hMu l.1 l.1) (hMu l.2.1 l.2.1)))) (og (o2 (hDi (hSu (hAd (hMu l.1 v.1) (hMu l.2.1 v.2)) l.2.2) (hAd (hMu l.1 l.1) (hMu l.2.1 l.2.1))) l.1) (og (o2 v.1 (hMu (hDi (hSu (hAd (hMu l.1 v.1) (hMu l.2.1 v.2)) l.2.2) (hAd (hMu l.1 l.1) (hMu l.2.1 l.2.1))) l.1)) (og (o2 (hDi (hSu (hAd (hMu l.1 v.1) (hMu l.2.1 v.2)) l.2.2) (hAd (hMu l.1 l.1) (hMu l.2.1 l.2.1))) l.2.1) (og (o2 v.2 (hMu (hDi (hSu (hAd (hMu l.1 v.1) (hMu l.2.1 v.2)) l.2.2) (hAd (hMu l.1 l.1) (hMu l.2.1 l.2.1))) l.2.1)) (some [RV.d tV (hSu v.1 (hMu (hDi (hSu (hAd (hMu l.1 v.1) (hMu l.2.1 v.2)) l.2.2) (hAd (hMu l.1 l.1) (hMu l.2.1 l.2.1))) l.1),hSu v.2 (hMu (hDi (hSu (hAd (hMu l.1 v.1) (hMu l.2.1 v.2)) l.2.2) (hAd (hMu l.1 l.1) (hMu l.2.1 l.2.1))) l.2.1))]))))))))))))
def Rn:Cn 137 [tO,tV]:=cn λ(l:BO3) (v:BV)=>lf (ok Ln 300 l/\ok (Rat×Rat) 200 v/\((dec l:Ln).1≠0\/(dec l:Ln).2.1≠0)) [.d tV (enc (dZ (dec l) (dec v)))] λh=>by
 refine aB aa4 (Y7 l v) ⟨0,?_⟩;obtain⟨hl,hv,h0⟩:=h;obtain⟨l,rfl,bl⟩:=aI hl;obtain⟨v,rfl,bv⟩:=aI hv;have hn:l.1*l.1+l.2.1*l.2.1≠0:=lk (by rw[aA]at h0;exact h0);unfold Y7;simp only[aX,Nat.reduceAdd,Nat.reduceLeDiff,hn,ne_eq,aoG];rfl
theorem XM(n:Int):(if(if n>(-1)then n else(-1))<1 then(if n>(-1)then n else(-1))else 1)=kV n:=by
 unfold kV;split<;>split<;>(try split)<;>(try split)<;>omega
def zv:List En:=[enT Gf,enT Pg,enL ajj,enL afI,enT OS,enT aib,enT akx]
def abb(c:BCU)(p:BP)(_k:KT):OLR:=match c.1 with|true=>(og (decide (ok Ln 300 c.2.2.1/\okP 4000 p)) (some [RV.d .bool ((qn (dec c.2.2.1) (dec p))==0)]))|false=>(og (decide (ok Ln 300 c.2.1/\okP 4000 p)) (some [RV.d .bool ((uF (dec c.2.1) (dec p))==0)]))
def ajX:Cn 85 [tCU,tP]:=cn λ(c:BCU) (p:BP)=>lf (okC 4000 c/\okP 4000 p) [.d .bool (gv (dC c) (dec p))] λh=>by
 refine aB zv (abb c p) ⟨0,?_⟩;obtain⟨hc,hp⟩:=h;have op:decide (okP 4000 p)=true:=anb hp;obtain⟨ar,li,ci,cw,fr,to⟩:=c;obtain⟨c1,c2,_⟩:=hc;unfold abb;cases ar
 ·have e:=(c2 rfl).1;simp only[apa,dT e,op,aoI];rfl
 ·have e:=(c1 rfl).1;simp only[apa,dT e,op,aoI];rfl
def Yh(c:BO3)(p:BP)(_k:KT):OLR:=og (decide (okP 4000 p)) (og (decide (okT 15000 (hid (enc (yP (dec p))))/\ok Rat 15000 c.2.1)) (match decide ((gQ (dec (hid (enc (yP (dec p))))) (ah c.2.1))>0)with|true=>some [RV.d aqw 0]|false=>(match(gQ (dec (hid (enc (yP (dec p))))) (ah c.2.1))==0 with|true=>(og (decide (okP 4000 p)) (og (decide (okT 15000 (hid (enc (xP (dec p))))/\ok Rat 15000 c.1)) (match decide ((gQ (dec (hid (enc (xP (dec p))))) (ah c.1))>0)with|true=>some [RV.d aqw 0]|false=>some [RV.d aqw 1])))|false=>some [RV.d aqw 1])))
def af9:Cn 305 [tO,tP]:=cn λ(c:BO3) (p:BP)=>lf (ok Ln 300 c/\okP 4000 p) [.d aqw (EU (dec c) (dec p))] λh=>by
 refine aB zv (Yh c p) ⟨0,?_⟩;obtain⟨hc,hp⟩:=h;obtain⟨c,rfl,bc⟩:=aI hc;obtain⟨p,rfl,bp,rp⟩:=bU hp;unfold Yh EU upR;simp only[aX,Nat.reduceLeDiff,aP,aQ];cases decide (gQ (yP p) c.2.1>0)<;>cases gQ (yP p) c.2.1==0<;>cases decide (gQ (xP p) c.1>0)<;>rfl
def ajc:Ctx:=CX (ens zv) []
def Yq(n:Int)(_k:KT):OLR:=some [RV.d aqw (if(if n>(-1)then n else(-1))<1 then(if n>(-1)then n else(-1))else 1)]
theorem ah9(n:Int):RS ajc 262 [SI n] (Yq n):=rsX
def ag7:Cn 262 [aqw]:=cn λ(n:Int)=>lf True [.d aqw (kV n)] λ_=>by
 refine dk zv (ah9 _ ⟨0,?_⟩);unfold Yq;rw[XM]
def ahl:Ctx:=CX (ens zv) []
def ahq(c:BCU)(_k:KT):OLR:=match c.1 with|true=>some [RV.d tCU (c.1,(c.2.1,(c.2.2.1,(!c.2.2.2.1,(c.2.2.2.2.2,c.2.2.2.2.1)))))]|false=>some [RV.d tCU (c.1,(c.2.1,(c.2.2.1,(false,(c.2.2.2.2.2,c.2.2.2.2.1)))))]
theorem ahF(c:BCU):RS ahl 260 [.d tCU c] (ahq c):=rsX
def agt:Cn 260 [tCU]:=cn λ(c:BCU)=>lf True [.d tCU (uG c)] λ_=>by
 refine dk zv (ahF _ ⟨0,?_⟩);obtain⟨ar,li,ci,cw,fr,to⟩:=c;cases ar<;>rfl
def Kg:List En:=enT ajX::enT af9::enT ag7::enL agt::zv
def aag(c:BO3)(p q:BP)(_k:KT):OLR:=og (decide (ok Ln 300 c/\okP 4000 p)) (og (decide (ok Ln 300 c/\okP 4000 q)) (match(EU (dec c) (dec p)) !=(EU (dec c) (dec q))with|true=>some [RV.d aqw (i64.wrap ((EU (dec c) (dec p))-(EU (dec c) (dec q))))]|false=>(og (decide (okP 4000 p)) (og (decide (okP 4000 q)) (og (decide (okT 15000 (hid (enc (xP (dec p))))/\okT 15000 (hid (enc (xP (dec q)))))) (match(EU (dec c) (dec p))==0 with|true=>some [RV.d aqw (i64.wrap (0-(bi (dec (hid (enc (xP (dec p))))) (dec (hid (enc (xP (dec q))))))))]|false=>some [RV.d aqw (bi (dec (hid (enc (xP (dec p))))) (dec (hid (enc (xP (dec q))))))]))))))
def agJ:Cn 263 [tO,tP,tP]:=cn λ(c:BO3) (p q:BP)=>lf (ok Ln 300 c/\okP 4000 p/\okP 4000 q) [.d aqw (tZ bi (ptd (dec c) (dec p)) (ptd (dec c) (dec q)))] λh=>by
 refine aB Kg (aag c p q) ⟨0,?_⟩;obtain⟨hc,hp,hq⟩:=h;obtain⟨c,rfl,bc⟩:=aI hc;obtain⟨p,rfl,bp,rp⟩:=bU hp;obtain⟨q,rfl,bq,rq⟩:=bU hq;have xb:=xD (xP p) (xP q);unfold aag;simp only[aX,Nat.reduceLeDiff,aP,aQ,aV (x:= -bi (xP p) (xP q)) (by omega) (by omega),ao7];unfold tZ EU ptd;cases upR c p<;>cases upR c q<;>rfl
def aiN:Ctx:=CX (ens Kg) []
def YX(c:BCU)(_k:KT):OLR:=match c.2.2.2.1 with|true=>some [RV.d tCU (hid (uG c))]|false=>some [RV.d tCU c]
theorem ajn(c:BCU):RS aiN 172 [.d tCU c] (YX c):=rsX
def abv:Cn 172 [tCU]:=cn λ(c:BCU)=>lf True [.d tCU (eo c)] λ_=>by
 refine dk Kg (ajn _ ⟨0,?_⟩);obtain⟨ar,li,ci,cw,fr,to⟩:=c;unfold YX eo;cases cw
 ·rfl
 ·simp only[bL];rfl
def abC:List En:=enT agJ::enL abv::Kg
def aad(c:BO3)(f p:BP)(_k:KT):OLR:=og (decide (ok Ln 300 c/\okP 4000 p/\okP 4000 f)) (match(tZ bi (ptd (dec c) (dec p)) (ptd (dec c) (dec f)))==0 with|true=>some [RV.d aqw 0]|false=>(match decide ((tZ bi (ptd (dec c) (dec p)) (ptd (dec c) (dec f)))>0)with|true=>some [RV.d aqw 1]|false=>some [RV.d aqw 2]))
def ajM:Cn 261 [tO,tP,tP]:=cn λ(c:BO3) (f p:BP)=>lf (ok Ln 300 c/\okP 4000 f/\okP 4000 p) [.d aqw (qp bi (ptd (dec c) (dec f)) (ptd (dec c) (dec p)))] λh=>by
 refine aB abC (aad c f p) ⟨0,?_⟩;obtain⟨hc,hf,hp⟩:=h;unfold aad qp;rw[dT ⟨hc,hp,hf⟩];cases tZ bi (ptd (dec c) (dec p)) (ptd (dec c) (dec f))==0<;>cases decide (tZ bi (ptd (dec c) (dec p)) (ptd (dec c) (dec f))>0)<;>rfl
def abD:List En:=enT ajM::abC
def aaf(c:BO3)(f p q:BP)(_k:KT):OLR:=og (decide (ok Ln 300 c/\okP 4000 f/\okP 4000 p)) (og (decide (ok Ln 300 c/\okP 4000 f/\okP 4000 q)) (match(qp bi (ptd (dec c) (dec f)) (ptd (dec c) (dec p))) !=(qp bi (ptd (dec c) (dec f)) (ptd (dec c) (dec q)))with|true=>some [RV.d aqw (kV (i64.wrap ((qp bi (ptd (dec c) (dec f)) (ptd (dec c) (dec p)))-(qp bi (ptd (dec c) (dec f)) (ptd (dec c) (dec q))))))]|false=>(og (decide (ok Ln 300 c/\okP 4000 p/\okP 4000 q)) (some [RV.d aqw (kV (tZ bi (ptd (dec c) (dec p)) (ptd (dec c) (dec q))))]))))
def NS:Cn 173 [tO,tP,tP,tP]:=cn λ(c:BO3) (f p q:BP)=>lf (ok Ln 300 c/\okP 4000 f/\okP 4000 p/\okP 4000 q) [.d aqw (iE bi (ptd (dec c) (dec f)) (ptd (dec c) (dec p)) (ptd (dec c) (dec q)))] λh=>by
 refine aB abD (aaf c f p q) ⟨0,?_⟩;obtain⟨hc,hf,hp,hq⟩:=h;unfold aaf iE bne;have b1:=KY (p:=ptd (dec c) (dec f)) (q:=ptd (dec c) (dec p));have b2:=KY (p:=ptd (dec c) (dec f)) (q:=ptd (dec c) (dec q));rw[dT ⟨hc,hf,hp⟩,dT ⟨hc,hf,hq⟩,dT ⟨hc,hp,hq⟩,aV (by omega) (by omega)];cases qp bi (ptd (dec c) (dec f)) (ptd (dec c) (dec p))==qp bi (ptd (dec c) (dec f)) (ptd (dec c) (dec q))<;>rfl
def Yd:List En:=enT NS::abD
def Yg(c:BCU)(p:BP)(_k:KT):OLR:=match !c.1 with|true=>(og (decide (okP 4000 c.2.2.2.2.1/\okP 4000 p)) (og (decide (okP 4000 p/\okP 4000 c.2.2.2.2.2)) (match(aZ (dec c.2.2.2.2.1) (dec p))==0 with|true=>some [RV.d .bool true]|false=>(match(aZ (dec p) (dec c.2.2.2.2.2))==0 with|true=>some [RV.d .bool true]|false=>some [RV.d .bool ((aZ (dec c.2.2.2.2.1) (dec p))==(aZ (dec p) (dec c.2.2.2.2.2)))]))))|false=>(og (decide (ok Ln 300 ((((hid (eo c)).2).2).1)/\okP 4000 ((((((hid (eo c)).2).2).2).2).1)/\okP 4000 p/\okP 4000 ((((((hid (eo c)).2).2).2).2).2))) (some [RV.d .bool (decide ((iE bi (ptd (dec ((((hid (eo c)).2).2).1)) (dec ((((((hid (eo c)).2).2).2).2).1))) (ptd (dec ((((hid (eo c)).2).2).1)) (dec p)) (ptd (dec ((((hid (eo c)).2).2).1)) (dec ((((((hid (eo c)).2).2).2).2).2))))<=0))]))
def S2:Cn 76 [tCU,tP]:=cn λ(c:BCU) (p:BP)=>lf (okC 4000 c/\okP 4000 p) [.d .bool (jd (dC c) (dec p))] λh=>by
 refine aB Yd (Yg c p) ⟨0,?_⟩;obtain⟨hc,hp⟩:=h;obtain⟨ar,li,ci,cw,fr,to⟩:=c;obtain⟨c1,c2,c3,c4⟩:=hc;unfold Yg jd;simp only[bL];cases ar
 ·try dsimp only[Bool.not_false]
  rw[dT ⟨c3,hp⟩,dT ⟨hp,c4⟩];show _=some [RV.d .bool (wc (aZ (dec fr) (dec p)) (aZ (dec p) (dec to)))];unfold wc;cases aZ (dec fr) (dec p)==0<;>cases aZ (dec p) (dec to)==0<;>rfl
 ·have e:=(c1 rfl).1;cases cw
  ·rw[dT (show ok Ln 300 (eo (true,li,ci,false,fr,to)).2.2.1/\okP 4000 (eo (true,li,ci,false,fr,to)).2.2.2.2.1/\okP 4000 p/\okP 4000 (eo (true,li,ci,false,fr,to)).2.2.2.2.2 from⟨e,c3,hp,c4⟩)];rfl
  ·rw[dT (show ok Ln 300 (eo (true,li,ci,true,fr,to)).2.2.1/\okP 4000 (eo (true,li,ci,true,fr,to)).2.2.2.2.1/\okP 4000 p/\okP 4000 (eo (true,li,ci,true,fr,to)).2.2.2.2.2 from⟨e,c4,hp,c3⟩)];rfl
def afZ:List En:=enT S2::Yd
def aa5(c:BCU)(p:BP)(_k:KT):OLR:=og (decide (okC 4000 c/\okP 4000 p)) (match gv (dC c) (dec p)with|true=>(og (decide (okC 4000 c/\okP 4000 p)) (some [RV.d .bool (jd (dC c) (dec p))]))|false=>some [RV.d .bool false])
def IZ:Cn 28 [tCU,tP]:=cn λ(c:BCU) (p:BP)=>lf (okC 4000 c/\okP 4000 p) [.d .bool (onP (dC c) (dec p))] λh=>by
 refine aB afZ (aa5 c p) ⟨0,?_⟩;unfold aa5 onP;rw[dT h];cases gv (dC c) (dec p)<;>rfl
theorem cS{j k:Nat}{x:BP}(h:okP j x)(hj:j<=k)(hk:k<=480000):okP k x:=by
 obtain⟨p,rfl,bp,rp⟩:=bU h;exact anf (aQ hj hk)
theorem cj{j k:Nat}{c:BCU}(h:okC j c)(hj:j<=k)(hk:k<=480000):okC k c:=⟨h.1,h.2.1,cS h.2.2.1 hj hk,cS h.2.2.2 hj hk⟩
theorem DK{c:BCU}(hc:okC 580 c){v:Rat×Rat}[bv:Bd v 200]:Bd (pg (dC c) v) 15000/\Rdd (pg (dC c) v):=by
 obtain⟨ar,li,ci,cw,fr,to⟩:=c;have h3:=hc.2.2.1;have h4:=hc.2.2.2;simp only at h3 h4;obtain⟨fr,rfl,bf,rf⟩:=bU h3;obtain⟨to,rfl,bt,rt⟩:=bU h4;have he:Bd (we (sqP fr v) (sqP to v)) 15000:=(inferInstance:Bd (we (sqP fr v) (sqP to v)) _).mono (by decide);cases ar
 ·obtain⟨c2,c3⟩:=hc.2.1 rfl;simp only at c2 c3;obtain⟨li,rfl,bl⟩:=aI c2;unfold pg C1;simp only[dC,lnC,frC,toC,aA,cond_false];cases tn (false,li,dec ci,cw,fr,to) (atP v)
  ·exact⟨he,Sj⟩
  ·exact⟨(inferInstance:Bd ((a9 (cV v (dZ li v)) (cV v (dZ li v)),0,0):Rt) _).mono (by decide),aft⟩
 ·obtain⟨c1,hq⟩:=hc.1 rfl;simp only at c1 hq;obtain⟨ci,rfl,bc⟩:=aI c1;rw[aA]at hq;have hC:Cir ci:=⟨hq⟩
  unfold pg C1;simp only[dC,lnC,frC,toC,ciC,aY,aA,cond_true];cases dM (true,dec li,ci,cw,fr,to) (cV (ctr ci) v)
  ·exact⟨he,Sj⟩
  ·have b2:Bd (-2:Rat) 3:=c7 (n:= -2) (by decide);exact⟨(inferInstance:Bd (mkR (a9 (cV (ctr ci) v) (cV (ctr ci) v)+ci.2.2) (-2) (a9 (cV (ctr ci) v) (cV (ctr ci) v)*ci.2.2)) _).mono (by decide),uQ⟩
def aha:List En:=[enL IP]
def Yv(a b:BV)(_k:KT):OLR:=og (o2 b.1 a.1) (og (o2 b.2 a.2) (some [RV.d tV (hSu b.1 a.1,hSu b.2 a.2)]))
def afR:Cn 293 [tV,tV]:=cn λ(a b:BV)=>lf (ok (Rat×Rat) 10000 a/\ok (Rat×Rat) 10000 b) [.d tV (enc (cV (dec a) (dec b)))] λh=>by
 refine aB aha (Yv a b) ⟨0,?_⟩;obtain⟨ha,hb⟩:=h;obtain⟨a,rfl,ba⟩:=aI ha;obtain⟨b,rfl,bb⟩:=aI hb;unfold Yv;simp only[aX,Nat.reduceLeDiff];try rfl
def Ga:List En:=[⟨54,gK,eH⟩,⟨133,mv,iu⟩,⟨125,jn,fO⟩,⟨67,iV,fA⟩,⟨245,zZ,uw⟩,⟨132,jR,gb⟩,⟨65,jx,fM⟩,enL abM,enL Bf,enL K3,enL Z6,enL abo,enT IZ,enL Rn,enT Gf,enT Pg,enL Te,enL IP,enL OM,enL afR,enL akF,enL OD]
def aan(a b c:BR)(_k:KT):OLR:=og (decide (ok Rat 100000 a/\ok Rat 100000 b/\ok Rat 100000 c/\0<=ah c)) (match 0 !=0 with|true=>(og (o1 a) (some [RV.d tO (hid (enc ((ah a,0,0):Rt)))]))|false=>some [RV.d tO (hid (enc (mkR (ah a) (ah b) (ah c))))])
def aaY:Cn 124 [tR,tR,tR]:=cn λ(a b c:BR)=>lf (ok Rat 100000 a/\ok Rat 100000 b/\ok Rat 100000 c/\0<=ah c) [.d tO (enc (mkR (ah a) (ah b) (ah c)))] λh=>by
 refine aB Ga (aan a b c) ⟨0,?_⟩;obtain⟨ha,hb,hc,hn⟩:=h;unfold aan;rw[dT ⟨ha,hb,hc,hn⟩];simp only[bL];rfl
def aaZ(v:BV)(_k:KT):OLR:=og (o1 v.1) (match(aF (ah v.1) 0)==0 with|true=>(og (o1 v.2) (some [RV.d .bool ((aF (ah v.2) 0)==0)]))|false=>some [RV.d .bool false])
def akw:Cn 229 [tV]:=cn λ(v:BV)=>lf (ok (Rat×Rat) 100000 v) [.d .bool (zeV (dec v))] λh=>by
 refine aB Ga (aaZ v) ⟨0,?_⟩;have hv:=h;obtain⟨v,rfl,bv⟩:=aI hv;unfold aaZ;simp only[aX,Nat.reduceLeDiff,au];unfold zeV;cases decide (v.1=0)<;>rfl
def ahf:Ctx:=CX (ens Ga) []
def ajh(c:BCU)(_k:KT):OLR:=some [RV.d tV (c.2.2.1.1,c.2.2.1.2.1)]
theorem ajq(c:BCU):RS ahf 128 [.d tCU c] (ajh c):=rsX
def Y1:Cn 128 [tCU]:=cn λ(c:BCU)=>lf True [.d tV (c.2.2.1.1,c.2.2.1.2.1)] λ_=>by
 exact dk Ga (ajq _ ⟨0,rfl⟩)
def TR:List En:=enL aaY::enT akw::enL Y1::Ga
def abx(l:BO3)(p:BP)(_k:KT):OLR:=og (o1 l.2.1) (og (o2 (hNe l.2.1) p.1) (og (o2 l.1 p.2.2.1) (og (o2 (hMu (hNe l.2.1) p.1) (hMu l.1 p.2.2.1)) (og (o2 (hNe l.2.1) p.2.1) (og (o2 l.1 p.2.2.2.1) (og (o2 (hMu (hNe l.2.1) p.2.1) (hMu l.1 p.2.2.2.1)) (og (decide (ok Rat 100000 (hAd (hMu (hNe l.2.1) p.1) (hMu l.1 p.2.2.1))/\ok Rat 100000 (hAd (hMu (hNe l.2.1) p.2.1) (hMu l.1 p.2.2.2.1))/\ok Rat 100000 p.2.2.2.2/\0<=ah p.2.2.2.2)) (some [RV.d tO (hid (enc (mkR (ah (hAd (hMu (hNe l.2.1) p.1) (hMu l.1 p.2.2.1))) (ah (hAd (hMu (hNe l.2.1) p.2.1) (hMu l.1 p.2.2.2.1))) (ah p.2.2.2.2))))]))))))))
def ahr:Cn 219 [tO,tP]:=cn λ(l:BO3) (p:BP)=>lf (ok Ln 300 l/\okP 4000 p) [.d tO (enc (fH (dec l) (dec p)))] λh=>by
 refine aB TR (abx l p) ⟨0,?_⟩;obtain⟨hl,hp⟩:=h;obtain⟨l,rfl,bl⟩:=aI hl;obtain⟨p,rfl,bp,rp⟩:=bU hp;have hn:0<=p.2.2.2.2:=rp.nn;unfold abx;simp only[aX,Nat.reduceAdd,Nat.reduceLeDiff,dT hn];rfl
def Zv(a b:BO3)(_k:KT):OLR:=og (decide (okT 15000 b/\okT 15000 a)) (match decide ((bi (dec b) (dec a))<0)with|true=>some [RV.d tO b]|false=>some [RV.d tO a])
def agZ:Cn 292 [tO,tO]:=cn λ(a b:BO3)=>lf (okT 15000 a/\okT 15000 b) [.d tO (enc (we (dec a) (dec b)))] λh=>by
 refine aB TR (Zv a b) ⟨0,?_⟩;obtain⟨ha,hb⟩:=h;obtain⟨a,rfl,ba,ra⟩:=ii ha;obtain⟨b,rfl,bb,rb⟩:=ii hb;unfold Zv we;simp only[aX,Nat.reduceLeDiff,aP];cases decide (bi b a<0)<;>rfl
def Pf:List En:=enL ahr::enL agZ::TR
def aaj(c:BCU)(p:BP)(_k:KT):OLR:=og (decide (ok Ln 300 c.2.1/\okP 4000 p)) (og (decide (ok Ln 300 c.2.1/\okP 4000 c.2.2.2.2.1)) (og (decide (ok Ln 300 c.2.1/\okP 4000 c.2.2.2.2.2)) (og (decide (okT 15000 (hid (enc (fH (dec c.2.1) (dec c.2.2.2.2.1))))/\okT 15000 (hid (enc (fH (dec c.2.1) (dec c.2.2.2.2.2)))))) (match decide ((bi (dec (hid (enc (fH (dec c.2.1) (dec c.2.2.2.2.1))))) (dec (hid (enc (fH (dec c.2.1) (dec c.2.2.2.2.2))))))>0)with|true=>(og (decide (okT 15000 (hid (enc (fH (dec c.2.1) (dec c.2.2.2.2.2))))/\okT 15000 (hid (enc (fH (dec c.2.1) (dec p)))))) (match decide ((bi (dec (hid (enc (fH (dec c.2.1) (dec c.2.2.2.2.2))))) (dec (hid (enc (fH (dec c.2.1) (dec p))))))<=0)with|true=>(og (decide (okT 15000 (hid (enc (fH (dec c.2.1) (dec p))))/\okT 15000 (hid (enc (fH (dec c.2.1) (dec c.2.2.2.2.1)))))) (some [RV.d .bool (decide ((bi (dec (hid (enc (fH (dec c.2.1) (dec p))))) (dec (hid (enc (fH (dec c.2.1) (dec c.2.2.2.2.1))))))<=0))]))|false=>some [RV.d .bool false]))|false=>(og (decide (okT 15000 (hid (enc (fH (dec c.2.1) (dec c.2.2.2.2.1))))/\okT 15000 (hid (enc (fH (dec c.2.1) (dec p)))))) (match decide ((bi (dec (hid (enc (fH (dec c.2.1) (dec c.2.2.2.2.1))))) (dec (hid (enc (fH (dec c.2.1) (dec p))))))<=0)with|true=>(og (decide (okT 15000 (hid (enc (fH (dec c.2.1) (dec p))))/\okT 15000 (hid (enc (fH (dec c.2.1) (dec c.2.2.2.2.2)))))) (some [RV.d .bool (decide ((bi (dec (hid (enc (fH (dec c.2.1) (dec p))))) (dec (hid (enc (fH (dec c.2.1) (dec c.2.2.2.2.2))))))<=0))]))|false=>some [RV.d .bool false]))))))
def abJ:Cn 120 [tCU,tP]:=cn λ(c:BCU) (p:BP)=>lf (okC 3000 c/\okP 3000 p/\c.1=false) [.d .bool (tn (dC c) (dec p))] λh=>by
 refine aB Pf (aaj c p) ⟨0,?_⟩;obtain⟨hc,hp,h0⟩:=h;obtain⟨p,rfl,bp,rp⟩:=bU hp;obtain⟨ar,li,ci,cw,fr,to⟩:=c;simp only at h0;subst h0;obtain⟨_,c2,c3,c4⟩:=hc;obtain⟨c2,_⟩:=c2 rfl;simp only at c2 c3 c4;obtain⟨li,rfl,bl⟩:=aI c2;obtain⟨fr,rfl,bf,rf⟩:=bU c3;obtain⟨to,rfl,bt,rt⟩:=bU c4;unfold aaj tn;simp only[dC,lnC,frC,toC,aX,Nat.reduceAdd,Nat.reduceMul,Nat.reduceLeDiff,aP,aQ];cases decide (bi (fH li fr) (fH li to)>0)
 ·cases decide (bi (fH li fr) (fH li p)<=0)<;>rfl
 ·cases decide (bi (fH li to) (fH li p)<=0)<;>rfl
def aav(c:BCU)(v:BV)(_k:KT):OLR:=match !c.1 with|true=>some [RV.d .bool c.1]|false=>(og (decide (ok (Rat×Rat) 100000 v)) (match zeV (dec v)with|true=>some [RV.d .bool c.1]|false=>(og (decide (ok (Rat×Rat) 5000 v/\ok (Rat×Rat) 5000 v)) (og (decide (ju c.2.2.1.2.2 (hid (ao (a9 (dec v) (dec v)))))) (og (decide (ok Rat 100000 c.2.2.1.1/\ok Rat 100000 v.1/\ok Rat 100000 (hDi c.2.2.1.2.2 (hid (ao (a9 (dec v) (dec v)))))/\0<=ah (hDi c.2.2.1.2.2 (hid (ao (a9 (dec v) (dec v))))))) (og (decide (ok Rat 100000 c.2.2.1.2.1/\ok Rat 100000 v.2/\ok Rat 100000 (hDi c.2.2.1.2.2 (hid (ao (a9 (dec v) (dec v)))))/\0<=ah (hDi c.2.2.1.2.2 (hid (ao (a9 (dec v) (dec v))))))) (og (decide (okT 15000 (hid (enc (mkR (ah c.2.2.1.1) (ah v.1) (ah (hDi c.2.2.1.2.2 (hid (ao (a9 (dec v) (dec v)))))))))/\okT 15000 (hid (enc (mkR (ah c.2.2.1.2.1) (ah v.2) (ah (hDi c.2.2.1.2.2 (hid (ao (a9 (dec v) (dec v)))))))))/\xn (dec (hid (enc (mkR (ah c.2.2.1.1) (ah v.1) (ah (hDi c.2.2.1.2.2 (hid (ao (a9 (dec v) (dec v)))))))))) (dec (hid (enc (mkR (ah c.2.2.1.2.1) (ah v.2) (ah (hDi c.2.2.1.2.2 (hid (ao (a9 (dec v) (dec v)))))))))))) (match 0==0 with|true=>(og (decide (okC 4000 c/\okP 4000 (hid (enc (mkP (dec (hid (enc (mkR (ah c.2.2.1.1) (ah v.1) (ah (hDi c.2.2.1.2.2 (hid (ao (a9 (dec v) (dec v)))))))))) (dec (hid (enc (mkR (ah c.2.2.1.2.1) (ah v.2) (ah (hDi c.2.2.1.2.2 (hid (ao (a9 (dec v) (dec v))))))))))))))) (some [RV.d .bool (onP (dC c) (dec (hid (enc (mkP (dec (hid (enc (mkR (ah c.2.2.1.1) (ah v.1) (ah (hDi c.2.2.1.2.2 (hid (ao (a9 (dec v) (dec v)))))))))) (dec (hid (enc (mkR (ah c.2.2.1.2.1) (ah v.2) (ah (hDi c.2.2.1.2.2 (hid (ao (a9 (dec v) (dec v)))))))))))))))]))|false=>some [RV.d .bool false]))))))))
def Z3:Cn 134 [tCU,tV]:=cn λ(c:BCU) (v:BV)=>lf (okC 580 c/\ok (Rat×Rat) 510 v) [.d .bool (dM (dC c) (dec v))] λh=>by
 refine aB Pf (aav c v) ⟨0,?_⟩;obtain⟨hc,hv⟩:=h;obtain⟨v,rfl,bv⟩:=aI hv;have hc4:=cj (k:=4000) hc (by decide) (by decide);obtain⟨ar,li,ci,cw,fr,to⟩:=c;cases ar
 ·rfl
 ·obtain⟨c1,_⟩:=hc.1 rfl;have hq:=(hc.1 rfl).2;simp only at c1 hq;obtain⟨ci,rfl,bc⟩:=aI c1;rw[aA]at hq;have hC:Cir ci:=⟨hq⟩
  have o4:=anb hc4;have hn:0<=ci.2.2/a9 v v:=(aeV (c:=ci) (d:=v)).le;have om:decide (xn (mkR ci.1 v.1 (ci.2.2/a9 v v)) (mkR ci.2.1 v.2 (ci.2.2/a9 v v)))=true:=dT (rN _ _ _ _ _);have ry:decide (okP 4000 (enc (mkP (mkR ci.1 v.1 (ci.2.2/a9 v v)) (mkR ci.2.1 v.2 (ci.2.2/a9 v v)))))=true:=aQ (x:=qo ci v) (by decide) (by decide);unfold aav dM;simp only[aX,Nat.reduceAdd,Nat.reduceLeDiff,aP,Bool.not_true];cases hz:zeV v
  ·have hd:=zn hz;simp only[aX,Nat.reduceAdd,Nat.reduceLeDiff,hd,ne_eq,aoG,dT hn,om,o4,ry];show _=some [RV.d .bool (onP _ (qo (dec (enc ci)) v))];rw[aA];rfl
  ·rfl
def PO:List En:=enT abJ::enT Z3::Pf
def abX:NT:=[((234,13),{keep:=[4,19],hl:=0}),((234,29),{keep:=[4,39],hl:=0})]
def afQ:Ctx:=CX (ens PO) abX
def Tx(c:BCU)(v:BV)(_k:KT):OLR:=let y1:=hid (enc (atP (dec v)));let y2:=hid (enc (sqP (dec c.2.2.2.2.1) (dec v)));let y3:=hid (enc (sqP (dec c.2.2.2.2.2) (dec v)));let y4:OLR:=match decide (okP 3500 c.2.2.2.2.1/\ok (Rat×Rat) 300 v)with|true=>(og (decide (okP 3500 c.2.2.2.2.2/\ok (Rat×Rat) 300 v)) (og (decide (okT 15000 y2/\okT 15000 y3)) (some [RV.d tO (hid (enc (we (dec y2) (dec y3))))])))|false=>none;let y5:=hid (enc (dZ (dec c.2.1) (dec v)));let y6:=hid (enc (cV (dec v) (dec y5)));let y7:=hid (ao (a9 (dec y6) (dec y6)));let y8:=hid ((c.2.2.1.1,c.2.2.1.2.1));let y9:=hid (enc (cV (dec y8) (dec v)));let y10:=hid (ao (a9 (dec y9) (dec y9)));let y11:=hAd y10 c.2.2.1.2.2;let y12:=hid (ao (((-2):Int):Rat));let y13:=hMu y10 c.2.2.1.2.2;match !c.1 with|true=>(og (decide (ok (Rat×Rat) 100000 v)) (og (decide (okC 3000 c/\okP 3000 y1/\c.1=false)) (match !(tn (dC c) (dec y1))with|true=>y4|false=>(og (decide (ok Ln 300 c.2.1/\ok (Rat×Rat) 200 v/\((dec c.2.1:Ln).1≠0\/(dec c.2.1:Ln).2.1≠0))) (og (decide (ok (Rat×Rat) 10000 v/\ok (Rat×Rat) 10000 y5)) (og (decide (ok (Rat×Rat) 5000 y6/\ok (Rat×Rat) 5000 y6)) (og (o1 y7) (some [RV.d tO (hid (enc ((ah y7,0,0):Rt)))]))))))))|false=>(og (decide (ok (Rat×Rat) 10000 y8/\ok (Rat×Rat) 10000 v)) (og (decide (okC 580 c/\ok (Rat×Rat) 510 y9)) (match !(dM (dC c) (dec y9))with|true=>y4|false=>(og (decide (ok (Rat×Rat) 5000 y9/\ok (Rat×Rat) 5000 y9)) (og (o2 y10 c.2.2.1.2.2) (og (decide (aJ ((-2):Int))) (og (o2 y10 c.2.2.1.2.2) (og (decide (ok Rat 100000 y11/\ok Rat 100000 y12/\ok Rat 100000 y13/\0<=ah y13)) (some [RV.d tO (hid (enc (mkR (ah y11) (ah y12) (ah y13))))])))))))))
theorem aiJ(c:BCU)(v:BV):RS afQ 234 [.d tCU c,.d tV v] (Tx c v):=rsX
def akA:Cn 234 [tCU,tV]:=cn λ(c:BCU) (v:BV)=>lf (okC 580 c/\ok (Rat×Rat) 200 v) [.d tO (enc (pg (dC c) (dec v)))] λh=>by
 refine dk PO (aiJ _ _ ⟨0,?_⟩);obtain⟨hc,hv⟩:=h;obtain⟨v,rfl,bv⟩:=aI hv;have hc4:=cj (k:=3000) hc (by decide) (by decide);obtain⟨ar,li,ci,cw,fr,to⟩:=c;have h3:=hc.2.2.1;have h4:=hc.2.2.2;simp only at h3 h4;obtain⟨fr,rfl,bf,rf⟩:=bU h3;obtain⟨to,rfl,bt,rt⟩:=bU h4;have o4:=anb hc4;have o5:=anb hc;cases ar
 ·obtain⟨c2,c3⟩:=hc.2.1 rfl;simp only at c2 c3;obtain⟨li,rfl,bl⟩:=aI c2;rw[aA]at c3;unfold Tx pg C1;simp only[aX,aH,Nat.reduceAdd,Nat.reduceMul,Nat.reduceLeDiff,aP,aQ,o4,c3,Bool.not_false];simp only[dC,lnC,frC,toC,aA,cond_false];cases tn (false,li,dec ci,cw,fr,to) (atP v)<;>rfl
 ·obtain⟨c1,hq⟩:=hc.1 rfl;simp only at c1 hq;obtain⟨ci,rfl,bc⟩:=aI c1;rw[aA]at hq;have hC:Cir ci:=⟨hq⟩
  have hn:0<=a9 (cV (ctr ci) v) (cV (ctr ci) v)*ci.2.2:=(XJ (c:=ci) (d:=cV (ctr ci) v)).le;have e0:((ao ci.1,ao ci.2.1):BV)=enc (ctr ci):=rfl;have h2:decide (aJ (-2))=true:=by decide
  have b2:Bd ((-2:Int):Rat) 3:=c7 (by decide);unfold Tx pg C1;simp only[aX,Nat.reduceAdd,Nat.reduceMul,Nat.reduceLeDiff,aP,aQ,o5,e0,Bool.not_true];simp only[dC,lnC,frC,toC,ciC,aY,aA,cond_true];cases dM (true,dec li,ci,cw,fr,to) (cV (ctr ci) v)
  ·rfl
  ·simp only[aX,dT hn,h2];rw[show((-2:Int):Rat)= -2 from rfl];rfl
def aiK:List En:=enL akA::PO
def Zr(c:BCU)(v:BV)(r:BR)(_k:KT):OLR:=og (o1 r) (match decide ((aF (ah r) 0)<0)with|true=>some [RV.d aqw 1]|false=>(og (decide (okC 580 c/\ok (Rat×Rat) 200 v)) (og (o2 r r) (og (decide (okT 15000 (hid (enc (pg (dC c) (dec v))))/\ok Rat 15000 (hMu r r))) (some [RV.d aqw (gQ (dec (hid (enc (pg (dC c) (dec v))))) (ah (hMu r r)))])))))
def akH:Cn 138 [tCU,tV,tR]:=cn λ(c:BCU) (v:BV) (r:BR)=>lf (okC 580 c/\ok (Rat×Rat) 200 v/\ok Rat 1000 r) [.d aqw (vF (dC c) (dec v) (ah r))] λh=>by
 refine aB aiK (Zr c v r) ⟨0,?_⟩;obtain⟨hc,hv,hr⟩:=h;obtain⟨v,rfl,bv⟩:=aI hv;obtain⟨r,rfl,br⟩:=aI hr;rw[fk,cC,aA];have od:=DK hc (v:=v);obtain⟨od1,od2⟩:=od;unfold Zr vF;simp only[aX,Nat.reduceAdd,Nat.reduceLeDiff,aP,av,anb hc];cases decide (r<0)<;>rfl
abbrev r00:BR:=((false,[]),(false,[]))
abbrev o00:BO3:=(r00,r00,r00)
abbrev p00:BP:=(r00,r00,r00,r00,r00)
abbrev c00:BCU:=(false,o00,o00,false,p00,p00)
def uB(a b:Rat×Rat):Ln:=(a.2-b.2,b.1-a.1,(a.2-b.2)*a.1+(b.1-a.1)*a.2)
def AD(a b:Rat×Rat):Bool:=decide (a.2-b.2=0)&&decide (b.1-a.1=0)
def WS(a b:Rat×Rat):BO3:=bif AD a b then o00 else enc (uB a b)
def Wy(a b:Rat×Rat):Int:=bif AD a b then 6 else 0
def fI(a b c:Rat×Rat):Rat:=(b.1-a.1)*(c.2-a.2)-(b.2-a.2)*(c.1-a.1)
def zm(a b c:Rat×Rat):Rat:=(((b.1-a.1)*(b.1-a.1)+(b.2-a.2)*(b.2-a.2))*(c.2-a.2)-((c.1-a.1)*(c.1-a.1)+(c.2-a.2)*(c.2-a.2))*(b.2-a.2))/(fI a b c+fI a b c)
def yz(a b c:Rat×Rat):Rat:=(((c.1-a.1)*(c.1-a.1)+(c.2-a.2)*(c.2-a.2))*(b.1-a.1)-((b.1-a.1)*(b.1-a.1)+(b.2-a.2)*(b.2-a.2))*(c.1-a.1))/(fI a b c+fI a b c)
def sA(a b c:Rat×Rat):Ln:=(a.1+zm a b c,a.2+yz a b c,zm a b c*zm a b c+yz a b c*yz a b c)
def Ww(a b c:Rat×Rat):BO3:=bif decide (fI a b c=0)then o00 else enc (sA a b c)
def WQ(a b c:Rat×Rat):Int:=bif decide (fI a b c=0)then 6 else 0
def zr(a b c:Rat×Rat):Int:=aF ((b.1-a.1)*(c.2-a.2)) ((b.2-a.2)*(c.1-a.1))
def kj(a b:Rat×Rat):BCU:=bif AD a b then c00 else(false,enc (uB a b),o00,false,enc (atP a),enc (atP b))
def segE(a b:Rat×Rat):Int:=bif AD a b then 6 else 0
def nG(a b c:Rat×Rat):BCU:=bif decide (fI a b c=0)then c00 else(true,o00,enc (sA a b c),decide (zr a b c<0),enc (atP a),enc (atP c))
def arcE(a b c:Rat×Rat):Int:=bif decide (fI a b c=0)then 6 else 0
theorem afd(a b c:Rat×Rat):(zr a b c==0)=decide (fI a b c=0):=by
 unfold zr fI;rw[au];exact aom.2 (by constructor<;>intro h<;>grind)
instance alE {a b:Rat×Rat} {i j:Nat} [h:Bd a i] [h':Bd b j]:Bd (uB a b) (4*i+2*j+3):=by
 have i1:Bd ((a.2-b.2,b.1-a.1,(a.2-b.2)*a.1+(b.1-a.1)*a.2):Ln) _:=inferInstance;exact i1.mono (gn (by omega) (gn (by omega) (by omega)))
def KV:List En:=[enT qZ,enT wL,enL wE,enL sZ,enL Hy,enL PY,enL SW,enL G3,enL RK]
def S6(a b:BV)(_k:KT):OLR:=og (o2 a.2 b.2) (og (o2 b.1 a.1) (og (o1 (hSu a.2 b.2)) (match(aF (ah (hSu a.2 b.2)) 0)==0 with|true=>(og (o1 (hSu b.1 a.1)) (match(aF (ah (hSu b.1 a.1)) 0)==0 with|true=>some [RV.d tO (((false,[]),(false,[])),(((false,[]),(false,[])),((false,[]),(false,[])))),RV.d aqw 6]|false=>(og (o2 (hSu a.2 b.2) a.1) (og (o2 (hSu b.1 a.1) a.2) (og (o2 (hMu (hSu a.2 b.2) a.1) (hMu (hSu b.1 a.1) a.2)) (some [RV.d tO (hSu a.2 b.2,(hSu b.1 a.1,hAd (hMu (hSu a.2 b.2) a.1) (hMu (hSu b.1 a.1) a.2))),RV.d aqw 0]))))))|false=>(og (o2 (hSu a.2 b.2) a.1) (og (o2 (hSu b.1 a.1) a.2) (og (o2 (hMu (hSu a.2 b.2) a.1) (hMu (hSu b.1 a.1) a.2)) (some [RV.d tO (hSu a.2 b.2,(hSu b.1 a.1,hAd (hMu (hSu a.2 b.2) a.1) (hMu (hSu b.1 a.1) a.2))),RV.d aqw 0])))))))
def afi:Cn 111 [tV,tV]:=cn λ(a b:BV)=>lf (ok (Rat×Rat) 100 a/\ok (Rat×Rat) 100 b) [.d tO (WS (dec a) (dec b)),.d aqw (Wy (dec a) (dec b))] λh=>by
 refine aB KV (S6 a b) ⟨0,?_⟩;obtain⟨ha,hb⟩:=h;obtain⟨a,rfl,ba⟩:=aI ha;obtain⟨b,rfl,bb⟩:=aI hb;unfold S6 WS Wy AD;simp only[aX,Nat.reduceAdd,Nat.reduceLeDiff,au];cases decide (a.2-b.2=0)<;>cases decide (b.1-a.1=0)<;>rfl
def aaW(a b c:BV)(_k:KT):OLR:=og (o2 b.1 a.1) (og (o2 c.2 a.2) (og (o2 (hSu b.1 a.1) (hSu c.2 a.2)) (og (o2 b.2 a.2) (og (o2 c.1 a.1) (og (o2 (hSu b.2 a.2) (hSu c.1 a.1)) (og (o2 (hMu (hSu b.1 a.1) (hSu c.2 a.2)) (hMu (hSu b.2 a.2) (hSu c.1 a.1))) (some [RV.d aqw (aF (ah (hMu (hSu b.1 a.1) (hSu c.2 a.2))) (ah (hMu (hSu b.2 a.2) (hSu c.1 a.1))))])))))))
def ajw:Cn 112 [tV,tV,tV]:=cn λ(a b c:BV)=>lf (ok (Rat×Rat) 100 a/\ok (Rat×Rat) 100 b/\ok (Rat×Rat) 100 c) [.d aqw (zr (dec a) (dec b) (dec c))] λh=>by
 refine aB KV (aaW a b c) ⟨0,?_⟩;obtain⟨ha,hb,hc⟩:=h;obtain⟨a,rfl,ba⟩:=aI ha;obtain⟨b,rfl,bb⟩:=aI hb;obtain⟨c,rfl,bc⟩:=aI hc;unfold aaW;simp only[aX,Nat.reduceAdd,Nat.reduceLeDiff];rfl
def Rz(a b c:BV)(_k:KT):OLR:=let y1:=hMu (hSu b.1 a.1) (hSu c.2 a.2);let y2:=hMu (hSu b.2 a.2) (hSu c.1 a.1);let y3:=hMu (hSu b.1 a.1) (hSu b.1 a.1);let y4:=hMu (hSu b.2 a.2) (hSu b.2 a.2);let y5:=hMu (hSu c.1 a.1) (hSu c.1 a.1);let y6:=hMu (hSu c.2 a.2) (hSu c.2 a.2);let y7:=hMu (hAd y3 y4) (hSu c.2 a.2);let y8:=hMu (hAd y5 y6) (hSu b.2 a.2);let y9:=hAd (hSu y1 y2) (hSu y1 y2);let y10:=hMu (hAd y5 y6) (hSu b.1 a.1);let y11:=hMu (hAd y3 y4) (hSu c.1 a.1);let y12:=hDi (hSu y7 y8) y9;let y13:=hDi (hSu y10 y11) y9;og (o2 b.1 a.1) (og (o2 b.2 a.2) (og (o2 c.1 a.1) (og (o2 c.2 a.2) (og (o2 (hSu b.1 a.1) (hSu c.2 a.2)) (og (o2 (hSu b.2 a.2) (hSu c.1 a.1)) (og (o2 y1 y2) (og (o1 (hSu y1 y2)) (match(aF (ah (hSu y1 y2)) 0)==0 with|true=>some [RV.d tO (((false,[]),(false,[])),(((false,[]),(false,[])),((false,[]),(false,[])))),RV.d aqw 6]|false=>(og (o2 (hSu y1 y2) (hSu y1 y2)) (og (o2 (hSu b.1 a.1) (hSu b.1 a.1)) (og (o2 (hSu b.2 a.2) (hSu b.2 a.2)) (og (o2 y3 y4) (og (o2 (hSu c.1 a.1) (hSu c.1 a.1)) (og (o2 (hSu c.2 a.2) (hSu c.2 a.2)) (og (o2 y5 y6) (og (o2 (hAd y3 y4) (hSu c.2 a.2)) (og (o2 (hAd y5 y6) (hSu b.2 a.2)) (og (o2 y7 y8) (og (decide (ju (hSu y7 y8) y9)) (og (o2 (hAd y5 y6) (hSu b.1 a.1)) (og (o2 (hAd y3 y4) (hSu c.1 a.1)) (og (o2 y10 y11) (og (decide (ju (hSu y10 y11) y9)) (og (o2 a.1 y12) (og (o2 a.2 y13) (og (o2 y12 y12) (og (o2 y13 y13) (og (o2 (hMu y12 y12) (hMu y13 y13)) (some [RV.d tO (hAd a.1 y12,(hAd a.2 y13,hAd (hMu y12 y12) (hMu y13 y13))),RV.d aqw 0])))))))))))))))))))))))))))))
def ab9:Cn 113 [tV,tV,tV]:=cn λ(a b c:BV)=>lf (ok (Rat×Rat) 100 a/\ok (Rat×Rat) 100 b/\ok (Rat×Rat) 100 c) [.d tO (Ww (dec a) (dec b) (dec c)),.d aqw (WQ (dec a) (dec b) (dec c))] λh=>by
 refine aB KV (Rz a b c) ⟨0,?_⟩;obtain⟨ha,hb,hc⟩:=h;obtain⟨a,rfl,ba⟩:=aI ha;obtain⟨b,rfl,bb⟩:=aI hb;obtain⟨c,rfl,bc⟩:=aI hc;have e0:(b.1-a.1)*(c.2-a.2)-(b.2-a.2)*(c.1-a.1)=fI a b c:=rfl;have bD:Bd (fI a b c) 805:=inferInstanceAs (Bd ((b.1-a.1)*(c.2-a.2)-(b.2-a.2)*(c.1-a.1)) _);have eX:(((b.1-a.1)*(b.1-a.1)+(b.2-a.2)*(b.2-a.2))*(c.2-a.2)-((c.1-a.1)*(c.1-a.1)+(c.2-a.2)*(c.2-a.2))*(b.2-a.2))/(fI a b c+fI a b c)=zm a b c:=rfl;have eY:(((c.1-a.1)*(c.1-a.1)+(c.2-a.2)*(c.2-a.2))*(b.1-a.1)-((b.1-a.1)*(b.1-a.1)+(b.2-a.2)*(b.2-a.2))*(c.1-a.1))/(fI a b c+fI a b c)=yz a b c:=rfl;have m1:Bd ((b.1-a.1)*(b.1-a.1)+(b.2-a.2)*(b.2-a.2)) _:=inferInstance;have m2:Bd ((c.1-a.1)*(c.1-a.1)+(c.2-a.2)*(c.2-a.2)) _:=inferInstance;have n1:Bd (((b.1-a.1)*(b.1-a.1)+(b.2-a.2)*(b.2-a.2))*(c.2-a.2)-((c.1-a.1)*(c.1-a.1)+(c.2-a.2)*(c.2-a.2))*(b.2-a.2)) _:=inferInstance;have n2:Bd (((c.1-a.1)*(c.1-a.1)+(c.2-a.2)*(c.2-a.2))*(b.1-a.1)-((b.1-a.1)*(b.1-a.1)+(b.2-a.2)*(b.2-a.2))*(c.1-a.1)) _:=inferInstance;have bX0:Bd ((((b.1-a.1)*(b.1-a.1)+(b.2-a.2)*(b.2-a.2))*(c.2-a.2)-((c.1-a.1)*(c.1-a.1)+(c.2-a.2)*(c.2-a.2))*(b.2-a.2))/(fI a b c+fI a b c)) _:=inferInstance;have bX:Bd (zm a b c) 4000:=by rw[<-eX];exact bX0.mono (by decide)
 have bY0:Bd ((((c.1-a.1)*(c.1-a.1)+(c.2-a.2)*(c.2-a.2))*(b.1-a.1)-((b.1-a.1)*(b.1-a.1)+(b.2-a.2)*(b.2-a.2))*(c.1-a.1))/(fI a b c+fI a b c)) _:=inferInstance;have bY:Bd (yz a b c) 4000:=by rw[<-eY];exact bY0.mono (by decide)
 unfold Rz Ww WQ;simp only[aX,Nat.reduceAdd,Nat.reduceLeDiff,au,e0];by_cases hd:fI a b c=0
 ·rw[anb hd];rfl
 ·have h2:fI a b c+fI a b c≠0:=by grind
  rw[ane hd];simp only[aX,Nat.reduceAdd,Nat.reduceLeDiff,h2,ne_eq,aoG,eX,eY];rfl
def abI:List En:=enL afi::enT ajw::enL ab9::KV
def ND(a b:BV)(_k:KT):OLR:=og (decide (ok (Rat×Rat) 100 a/\ok (Rat×Rat) 100 b)) (match(Wy (dec a) (dec b)) !=0 with|true=>some [RV.d tCU (false,((((false,[]),(false,[])),(((false,[]),(false,[])),((false,[]),(false,[])))),((((false,[]),(false,[])),(((false,[]),(false,[])),((false,[]),(false,[])))),(false,((((false,[]),(false,[])),(((false,[]),(false,[])),(((false,[]),(false,[])),(((false,[]),(false,[])),((false,[]),(false,[])))))),(((false,[]),(false,[])),(((false,[]),(false,[])),(((false,[]),(false,[])),(((false,[]),(false,[])),((false,[]),(false,[]))))))))))),RV.d aqw 6]|false=>(og (decide (ok (Rat×Rat) 100000 a)) (og (decide (ok (Rat×Rat) 100000 b)) (some [RV.d tCU (false,(hid (WS (dec a) (dec b)),((((false,[]),(false,[])),(((false,[]),(false,[])),((false,[]),(false,[])))),(false,(hid (enc (atP (dec a))),hid (enc (atP (dec b)))))))),RV.d aqw 0]))))
def Qz:Cn 48 [tV,tV]:=cn λ(a b:BV)=>lf (ok (Rat×Rat) 100 a/\ok (Rat×Rat) 100 b) [.d tCU (kj (dec a) (dec b)),.d aqw (segE (dec a) (dec b))] λh=>by
 refine aB abI (ND a b) ⟨0,?_⟩;obtain⟨ha,hb⟩:=h;obtain⟨a,rfl,ba⟩:=aI ha;obtain⟨b,rfl,bb⟩:=aI hb;unfold ND kj segE Wy WS;simp only[aX,Nat.reduceLeDiff];cases AD a b<;>rfl
def RZ(a b c:BV)(_k:KT):OLR:=og (decide (ok (Rat×Rat) 100 a/\ok (Rat×Rat) 100 b/\ok (Rat×Rat) 100 c)) (og (decide (ok (Rat×Rat) 100 a/\ok (Rat×Rat) 100 b/\ok (Rat×Rat) 100 c)) (match(zr (dec a) (dec b) (dec c))==0 with|true=>some [RV.d tCU (false,((((false,[]),(false,[])),(((false,[]),(false,[])),((false,[]),(false,[])))),((((false,[]),(false,[])),(((false,[]),(false,[])),((false,[]),(false,[])))),(false,((((false,[]),(false,[])),(((false,[]),(false,[])),(((false,[]),(false,[])),(((false,[]),(false,[])),((false,[]),(false,[])))))),(((false,[]),(false,[])),(((false,[]),(false,[])),(((false,[]),(false,[])),(((false,[]),(false,[])),((false,[]),(false,[]))))))))))),RV.d aqw 6]|false=>(match(WQ (dec a) (dec b) (dec c)) !=0 with|true=>some [RV.d tCU (false,((((false,[]),(false,[])),(((false,[]),(false,[])),((false,[]),(false,[])))),((((false,[]),(false,[])),(((false,[]),(false,[])),((false,[]),(false,[])))),(false,((((false,[]),(false,[])),(((false,[]),(false,[])),(((false,[]),(false,[])),(((false,[]),(false,[])),((false,[]),(false,[])))))),(((false,[]),(false,[])),(((false,[]),(false,[])),(((false,[]),(false,[])),(((false,[]),(false,[])),((false,[]),(false,[]))))))))))),RV.d aqw 6]|false=>(og (decide (ok (Rat×Rat) 100000 a)) (og (decide (ok (Rat×Rat) 100000 c)) (some [RV.d tCU (true,((((false,[]),(false,[])),(((false,[]),(false,[])),((false,[]),(false,[])))),(hid (Ww (dec a) (dec b) (dec c)),(decide ((zr (dec a) (dec b) (dec c))<0),(hid (enc (atP (dec a))),hid (enc (atP (dec c)))))))),RV.d aqw 0]))))))
def Sb:Cn 49 [tV,tV,tV]:=cn λ(a b c:BV)=>lf (ok (Rat×Rat) 100 a/\ok (Rat×Rat) 100 b/\ok (Rat×Rat) 100 c) [.d tCU (nG (dec a) (dec b) (dec c)),.d aqw (arcE (dec a) (dec b) (dec c))] λh=>by
 refine aB abI (RZ a b c) ⟨0,?_⟩;obtain⟨ha,hb,hc⟩:=h;obtain⟨a,rfl,ba⟩:=aI ha;obtain⟨b,rfl,bb⟩:=aI hb;obtain⟨c,rfl,bc⟩:=aI hc;unfold RZ nG arcE;simp only[aX,Nat.reduceLeDiff];rw[afd];unfold WQ Ww;cases decide (fI a b c=0)<;>rfl
def hZ(c:Cv):List BP->BP->List BP
 |[],x=>[x]
 |y::r,x=>bif decide (co c (dec y) (dec x)<0)then y::hZ c r x else bif aZ (dec y) (dec x)==0 then y::r else x::y::r
def jA(c:Cv)(l:List BP):List BP:=l.foldl (hZ c) []
def zP(c:BCU)(l:List BP):Prop:=okC 4000 c/\l.length<=1000000/\∀x∈l,okP 4000 x
instance (c:BCU) (l:List BP):Decidable (zP c l):=by unfold zP;infer_instance
theorem qI{c:Cv}{x y:BP}:∀{r:List BP},y∈hZ c r x->y∈r\/y=x
 |[],h=>by simp only[hZ,aot]at h;exact .inr h
 |z::r,h=>by
  simp only[hZ]at h;cases h1:decide (co c (dec z) (dec x)<0)<;>rw[h1]at h
  ·cases h2:aZ (dec z) (dec x)==0<;>rw[h2]at h
   ·rcases anr.1 h with h|h
    ·exact .inr h
    ·exact .inl h
   ·exact .inl h
  ·rcases anr.1 h with h|h
   ·exact .inl (by simp[h])
   ·rcases qI h with h|h
    ·exact .inl (ann _ h)
    ·exact .inr h
theorem zW(c:Cv)(x:BP):∀r:List BP,(hZ c r x).length<=r.length+1
 |[]=>by simp[hZ]
 |z::r=>by
  have:=zW c x r;simp only[hZ];cases decide (co c (dec z) (dec x)<0)
  ·cases aZ (dec z) (dec x)==0<;>simp
  ·simp only[cond_true,ans];omega
theorem Cr{c:Cv}:∀{l out:List BP} {y:BP},y∈l.foldl (hZ c) out->y∈out\/y∈l
 |[],_,_,h=>.inl h
 |x::l,out,y,h=>by
  rcases Cr (l:=l) (out:=hZ c out x) h with h|h
  ·rcases qI h with h|h
   ·exact .inl h
   ·exact .inr (by simp[h])
  ·exact .inr (ann _ h)
theorem yi(c:Cv):∀(l out:List BP),(l.foldl (hZ c) out).length<=out.length+l.length
 |[],_=>ani _
 |x::l,out=>by
  have h1:=yi c l (hZ c out x);have h2:=zW c x out;simp only[ao9,ans];omega
theorem Lp{α:Type}{l:List α}{k:Nat}(h:k<l.length):l.take (k+1)=l.take k++[l[k]]:=by rw[List.take_succ_eq_append_getElem h]
def Yu:List En:=[enT Ju,enT Ph,enT PC]
def afw:NT:=[((34,8),{keep:=[1,2,5,6],pure_:=[(5,tP)],hl:=1}),((34,21),{keep:=[1,2,5,6,7],pure_:=[(5,tP)],hl:=1})]
def w7:Ctx:=CX (ens Yu) afw
def lO(c:BCU)(l:List BP)(s6:Int)(s5:List BP):Cfg:=⟨34,[.blk 0,.seq 38],[(1,.d (.sl tP) l),(2,.box 0 0),(5,.d (.sl tP) s5),(6,SI s6)],[.box 39 [SB c.1,SB c.2.1.1.1.1,.d aqv c.2.1.1.1.2,SB c.2.1.1.2.1,.d aqv c.2.1.1.2.2,SB c.2.1.2.1.1.1,.d aqv c.2.1.2.1.1.2,SB c.2.1.2.1.2.1,.d aqv c.2.1.2.1.2.2,SB c.2.1.2.2.1.1,.d aqv c.2.1.2.2.1.2,SB c.2.1.2.2.2.1,.d aqv c.2.1.2.2.2.2,SB c.2.2.1.1.1.1,.d aqv c.2.2.1.1.1.2,SB c.2.2.1.1.2.1,.d aqv c.2.2.1.1.2.2,SB c.2.2.1.2.1.1.1,.d aqv c.2.2.1.2.1.1.2,SB c.2.2.1.2.1.2.1,.d aqv c.2.2.1.2.1.2.2,SB c.2.2.1.2.2.1.1,.d aqv c.2.2.1.2.2.1.2,SB c.2.2.1.2.2.2.1,.d aqv c.2.2.1.2.2.2.2,SB c.2.2.2.1,SB c.2.2.2.2.1.1.1.1,.d aqv c.2.2.2.2.1.1.1.2,SB c.2.2.2.2.1.1.2.1,.d aqv c.2.2.2.2.1.1.2.2,SB c.2.2.2.2.1.2.1.1.1,.d aqv c.2.2.2.2.1.2.1.1.2,SB c.2.2.2.2.1.2.1.2.1,.d aqv c.2.2.2.2.1.2.1.2.2,SB c.2.2.2.2.1.2.2.1.1.1,.d aqv c.2.2.2.2.1.2.2.1.1.2,SB c.2.2.2.2.1.2.2.1.2.1,.d aqv c.2.2.2.2.1.2.2.1.2.2,SB c.2.2.2.2.1.2.2.2.1.1.1,.d aqv c.2.2.2.2.1.2.2.2.1.1.2,SB c.2.2.2.2.1.2.2.2.1.2.1,.d aqv c.2.2.2.2.1.2.2.2.1.2.2,SB c.2.2.2.2.1.2.2.2.2.1.1,.d aqv c.2.2.2.2.1.2.2.2.2.1.2,SB c.2.2.2.2.1.2.2.2.2.2.1,.d aqv c.2.2.2.2.1.2.2.2.2.2.2,SB c.2.2.2.2.2.1.1.1,.d aqv c.2.2.2.2.2.1.1.2,SB c.2.2.2.2.2.1.2.1,.d aqv c.2.2.2.2.2.1.2.2,SB c.2.2.2.2.2.2.1.1.1,.d aqv c.2.2.2.2.2.2.1.1.2,SB c.2.2.2.2.2.2.1.2.1,.d aqv c.2.2.2.2.2.2.1.2.2,SB c.2.2.2.2.2.2.2.1.1.1,.d aqv c.2.2.2.2.2.2.2.1.1.2,SB c.2.2.2.2.2.2.2.1.2.1,.d aqv c.2.2.2.2.2.2.2.1.2.2,SB c.2.2.2.2.2.2.2.2.1.1.1,.d aqv c.2.2.2.2.2.2.2.2.1.1.2,SB c.2.2.2.2.2.2.2.2.1.2.1,.d aqv c.2.2.2.2.2.2.2.2.1.2.2,SB c.2.2.2.2.2.2.2.2.2.1.1,.d aqv c.2.2.2.2.2.2.2.2.2.1.2,SB c.2.2.2.2.2.2.2.2.2.2.1,.d aqv c.2.2.2.2.2.2.2.2.2.2.2]],0,[]⟩
def yh(c:BCU)(l s5:List BP)(s6 s7:Int):Cfg:=⟨34,[.blk 2,.seq 30,.blk 1,.seq 37,.lp 8,.blk 0,.seq 38],[(1,.d (.sl tP) l),(2,.box 0 0),(5,.d (.sl tP) s5),(6,SI s6),(7,SI s7)],[.box 39 [SB c.1,SB c.2.1.1.1.1,.d aqv c.2.1.1.1.2,SB c.2.1.1.2.1,.d aqv c.2.1.1.2.2,SB c.2.1.2.1.1.1,.d aqv c.2.1.2.1.1.2,SB c.2.1.2.1.2.1,.d aqv c.2.1.2.1.2.2,SB c.2.1.2.2.1.1,.d aqv c.2.1.2.2.1.2,SB c.2.1.2.2.2.1,.d aqv c.2.1.2.2.2.2,SB c.2.2.1.1.1.1,.d aqv c.2.2.1.1.1.2,SB c.2.2.1.1.2.1,.d aqv c.2.2.1.1.2.2,SB c.2.2.1.2.1.1.1,.d aqv c.2.2.1.2.1.1.2,SB c.2.2.1.2.1.2.1,.d aqv c.2.2.1.2.1.2.2,SB c.2.2.1.2.2.1.1,.d aqv c.2.2.1.2.2.1.2,SB c.2.2.1.2.2.2.1,.d aqv c.2.2.1.2.2.2.2,SB c.2.2.2.1,SB c.2.2.2.2.1.1.1.1,.d aqv c.2.2.2.2.1.1.1.2,SB c.2.2.2.2.1.1.2.1,.d aqv c.2.2.2.2.1.1.2.2,SB c.2.2.2.2.1.2.1.1.1,.d aqv c.2.2.2.2.1.2.1.1.2,SB c.2.2.2.2.1.2.1.2.1,.d aqv c.2.2.2.2.1.2.1.2.2,SB c.2.2.2.2.1.2.2.1.1.1,.d aqv c.2.2.2.2.1.2.2.1.1.2,SB c.2.2.2.2.1.2.2.1.2.1,.d aqv c.2.2.2.2.1.2.2.1.2.2,SB c.2.2.2.2.1.2.2.2.1.1.1,.d aqv c.2.2.2.2.1.2.2.2.1.1.2,SB c.2.2.2.2.1.2.2.2.1.2.1,.d aqv c.2.2.2.2.1.2.2.2.1.2.2,SB c.2.2.2.2.1.2.2.2.2.1.1,.d aqv c.2.2.2.2.1.2.2.2.2.1.2,SB c.2.2.2.2.1.2.2.2.2.2.1,.d aqv c.2.2.2.2.1.2.2.2.2.2.2,SB c.2.2.2.2.2.1.1.1,.d aqv c.2.2.2.2.2.1.1.2,SB c.2.2.2.2.2.1.2.1,.d aqv c.2.2.2.2.2.1.2.2,SB c.2.2.2.2.2.2.1.1.1,.d aqv c.2.2.2.2.2.2.1.1.2,SB c.2.2.2.2.2.2.1.2.1,.d aqv c.2.2.2.2.2.2.1.2.2,SB c.2.2.2.2.2.2.2.1.1.1,.d aqv c.2.2.2.2.2.2.2.1.1.2,SB c.2.2.2.2.2.2.2.1.2.1,.d aqv c.2.2.2.2.2.2.2.1.2.2,SB c.2.2.2.2.2.2.2.2.1.1.1,.d aqv c.2.2.2.2.2.2.2.2.1.1.2,SB c.2.2.2.2.2.2.2.2.1.2.1,.d aqv c.2.2.2.2.2.2.2.2.1.2.2,SB c.2.2.2.2.2.2.2.2.2.1.1,.d aqv c.2.2.2.2.2.2.2.2.2.1.2,SB c.2.2.2.2.2.2.2.2.2.2.1,.d aqv c.2.2.2.2.2.2.2.2.2.2.2]],0,[]⟩
def ai9(c:BCU)(l:List BP)(k:KT):OLR:=k 8 (lO c l 0 ([]))
theorem ah1(c:BCU)(l:List BP):RS w7 34 [.d tCU c,.d (.sl tP) l] (ai9 c l):=rsX
def yM(c:BCU)(l:List BP)(s6:Int)(s5:List BP)(k:KT):OLR:=match decide (s6<(l.length:Int))with|true=>k 21 (yh c l s5 s6 0)|false=>some [RV.d (.sl tP) s5]
theorem EI(c:BCU)(l:List BP)(s6:Int)(s5:List BP):RN w7 8 (lO c l s6 s5) (yM c l s6 s5):=rnX
def wx(c:BCU)(l s5:List BP)(s6 s7:Int)(k:KT):OLR:=match decide (s7<(s5.length:Int))with|true=>(match aS s5 s7 with|some x1=>(match aS l s6 with|some x2=>(og (decide (okC 4000 c/\okP 4000 x1/\okP 4000 x2)) (match decide ((co (dC c) (dec x1) (dec x2))<0)with|true=>k 21 (yh c l s5 s6 (i64.wrap (s7+1)))|false=>(match decide (s7<(s5.length:Int))with|true=>(match aS s5 s7 with|some x3=>(match aS l s6 with|some x4=>(og (decide (okP 4000 x3/\okP 4000 x4)) (match aZ (dec x3) (dec x4)==0 with|true=>k 8 (lO c l (i64.wrap (s6+1)) s5)|false=>(og (decide ((0:Int)<=0/\0<=s7/\s7<=(s5.length:Int))) (match aS l s6 with|some x5=>(og (decide ((0:Int)<=s7/\s7<=(s5.length:Int)/\(s5.length:Int)<=(s5.length:Int))) (dup (.b (.b .l .l) .l) (og (decide ((([]:List BP).length+((s5.take (s7).toNat).drop (0:Int).toNat).length)*320<=140737488355328/\([]:List BP).length+((s5.take (s7).toNat).drop (0:Int).toNat).length<=140737488355328)) (og (decide (((([]:List BP)++((s5.take (s7).toNat).drop (0:Int).toNat)).length+([x5]).length)*320<=140737488355328/\(([]:List BP)++((s5.take (s7).toNat).drop (0:Int).toNat)).length+([x5]).length<=140737488355328)) (og (decide ((((([]:List BP)++((s5.take (s7).toNat).drop (0:Int).toNat))++([x5])).length+((s5.take ((s5.length:Int)).toNat).drop (s7:Int).toNat).length)*320<=140737488355328/\((([]:List BP)++((s5.take (s7).toNat).drop (0:Int).toNat))++([x5])).length+((s5.take ((s5.length:Int)).toNat).drop (s7:Int).toNat).length<=140737488355328)) (k 8 (lO c l (i64.wrap (s6+1)) (((([]:List BP)++((s5.take (s7).toNat).drop (0:Int).toNat))++([x5]))++((s5.take ((s5.length:Int)).toNat).drop (s7:Int).toNat)))))))))|none=>none))))|none=>none)|none=>none)|false=>(og (decide ((0:Int)<=0/\0<=s7/\s7<=(s5.length:Int))) (match aS l s6 with|some x3=>(og (decide ((0:Int)<=s7/\s7<=(s5.length:Int)/\(s5.length:Int)<=(s5.length:Int))) (dup (.b (.b .l .l) .l) (og (decide ((([]:List BP).length+((s5.take (s7).toNat).drop (0:Int).toNat).length)*320<=140737488355328/\([]:List BP).length+((s5.take (s7).toNat).drop (0:Int).toNat).length<=140737488355328)) (og (decide (((([]:List BP)++((s5.take (s7).toNat).drop (0:Int).toNat)).length+([x3]).length)*320<=140737488355328/\(([]:List BP)++((s5.take (s7).toNat).drop (0:Int).toNat)).length+([x3]).length<=140737488355328)) (og (decide ((((([]:List BP)++((s5.take (s7).toNat).drop (0:Int).toNat))++([x3])).length+((s5.take ((s5.length:Int)).toNat).drop (s7:Int).toNat).length)*320<=140737488355328/\((([]:List BP)++((s5.take (s7).toNat).drop (0:Int).toNat))++([x3])).length+((s5.take ((s5.length:Int)).toNat).drop (s7:Int).toNat).length<=140737488355328)) (k 8 (lO c l (i64.wrap (s6+1)) (((([]:List BP)++((s5.take (s7).toNat).drop (0:Int).toNat))++([x3]))++((s5.take ((s5.length:Int)).toNat).drop (s7:Int).toNat)))))))))|none=>none)))))|none=>none)|none=>none)|false=>(match decide (s7<(s5.length:Int))with|true=>(match aS s5 s7 with|some x1=>(match aS l s6 with|some x2=>(og (decide (okP 4000 x1/\okP 4000 x2)) (match aZ (dec x1) (dec x2)==0 with|true=>k 8 (lO c l (i64.wrap (s6+1)) s5)|false=>(og (decide ((0:Int)<=0/\0<=s7/\s7<=(s5.length:Int))) (match aS l s6 with|some x3=>(og (decide ((0:Int)<=s7/\s7<=(s5.length:Int)/\(s5.length:Int)<=(s5.length:Int))) (dup (.b (.b .l .l) .l) (og (decide ((([]:List BP).length+((s5.take (s7).toNat).drop (0:Int).toNat).length)*320<=140737488355328/\([]:List BP).length+((s5.take (s7).toNat).drop (0:Int).toNat).length<=140737488355328)) (og (decide (((([]:List BP)++((s5.take (s7).toNat).drop (0:Int).toNat)).length+([x3]).length)*320<=140737488355328/\(([]:List BP)++((s5.take (s7).toNat).drop (0:Int).toNat)).length+([x3]).length<=140737488355328)) (og (decide ((((([]:List BP)++((s5.take (s7).toNat).drop (0:Int).toNat))++([x3])).length+((s5.take ((s5.length:Int)).toNat).drop (s7:Int).toNat).length)*320<=140737488355328/\((([]:List BP)++((s5.take (s7).toNat).drop (0:Int).toNat))++([x3])).length+((s5.take ((s5.length:Int)).toNat).drop (s7:Int).toNat).length<=140737488355328)) (k 8 (lO c l (i64.wrap (s6+1)) (((([]:List BP)++((s5.take (s7).toNat).drop (0:Int).toNat))++([x3]))++((s5.take ((s5.length:Int)).toNat).drop (s7:Int).toNat)))))))))|none=>none))))|none=>none)|none=>none)|false=>(og (decide ((0:Int)<=0/\0<=s7/\s7<=(s5.length:Int))) (match aS l s6 with|some x1=>(og (decide ((0:Int)<=s7/\s7<=(s5.length:Int)/\(s5.length:Int)<=(s5.length:Int))) (dup (.b (.b .l .l) .l) (og (decide ((([]:List BP).length+((s5.take (s7).toNat).drop (0:Int).toNat).length)*320<=140737488355328/\([]:List BP).length+((s5.take (s7).toNat).drop (0:Int).toNat).length<=140737488355328)) (og (decide (((([]:List BP)++((s5.take (s7).toNat).drop (0:Int).toNat)).length+([x1]).length)*320<=140737488355328/\(([]:List BP)++((s5.take (s7).toNat).drop (0:Int).toNat)).length+([x1]).length<=140737488355328)) (og (decide ((((([]:List BP)++((s5.take (s7).toNat).drop (0:Int).toNat))++([x1])).length+((s5.take ((s5.length:Int)).toNat).drop (s7:Int).toNat).length)*320<=140737488355328/\((([]:List BP)++((s5.take (s7).toNat).drop (0:Int).toNat))++([x1])).length+((s5.take ((s5.length:Int)).toNat).drop (s7:Int).toNat).length<=140737488355328)) (k 8 (lO c l (i64.wrap (s6+1)) (((([]:List BP)++((s5.take (s7).toNat).drop (0:Int).toNat))++([x1]))++((s5.take ((s5.length:Int)).toNat).drop (s7:Int).toNat)))))))))|none=>none)))
theorem Ba(c:BCU)(l s5:List BP)(s6 s7:Int):RN w7 21 (yh c l s5 s6 s7) (wx c l s5 s6 s7):=rnX
theorem abU(c:BCU)(l:List BP)(hc:okC 4000 c)(hl:∀x∈l,okP 4000 x)(out:List BP)(ho:∀x∈out,okP 4000 x)(hlen:out.length<=1000000)(i:Nat)(hi:i<l.length)(hi2:i<=1000000)(r:List RV)(h:w7.Runs 8 (lO c l ((i+1:Nat):Int) (hZ (dC c) out l[i])) r):
  ∀(j k:Nat),k+j=out.length->hZ (dC c) out l[i]=out.take k++hZ (dC c) (out.drop k) l[i]->w7.Runs 21 (yh c l out (i:Int) (k:Int)) r:=by
 have e0:i64.wrap ((i:Int)+1)=((i+1:Nat):Int):=bW (by omega);have gl:aS l (i:Int)=some l[i]:=by rw[aq,anc hi]
 have hx:=hl _ (anG hi);have tl:out.take ((out.length:Int)).toNat=out:=by simp
 have put:∀k:Nat,k<=out.length->hZ (dC c) out l[i]=out.take k++[l[i]]++out.drop k->∃n,(match decide ((0:Int)<=0/\0<=(k:Int)/\(k:Int)<=(out.length:Int))with
   |true=>(match aS l (i:Int)with
    |some x5=>(match decide ((0:Int)<=(k:Int)/\(k:Int)<=(out.length:Int)/\(out.length:Int)<=(out.length:Int))with
     |true=>(match decide ((([]:List BP).length+((out.take ((k:Int)).toNat).drop (0:Int).toNat).length)*320<=140737488355328/\([]:List BP).length+((out.take ((k:Int)).toNat).drop (0:Int).toNat).length<=140737488355328)with
      |true=>(match decide (((([]:List BP)++((out.take ((k:Int)).toNat).drop (0:Int).toNat)).length+([x5]).length)*320<=140737488355328/\(([]:List BP)++((out.take ((k:Int)).toNat).drop (0:Int).toNat)).length+([x5]).length<=140737488355328)with
       |true=>(match decide ((((([]:List BP)++((out.take ((k:Int)).toNat).drop (0:Int).toNat))++([x5])).length+((out.take ((out.length:Int)).toNat).drop ((k:Int)).toNat).length)*320<=140737488355328/\((([]:List BP)++((out.take ((k:Int)).toNat).drop (0:Int).toNat))++([x5])).length+((out.take ((out.length:Int)).toNat).drop ((k:Int)).toNat).length<=140737488355328)with
        |true=>w7.k n 8 (lO c l (i64.wrap ((i:Int)+1)) (((([]:List BP)++((out.take ((k:Int)).toNat).drop (0:Int).toNat))++([x5]))++((out.take ((out.length:Int)).toNat).drop ((k:Int)).toNat)))
        |false=>none)
       |false=>none)
      |false=>none)
     |false=>none)
    |none=>none)
   |false=>none)=some r:=by
  intro k hk he;have e1:((out.take ((k:Int)).toNat).drop (0:Int).toNat)=out.take k:=by simp
  have e2:((out.take ((out.length:Int)).toNat).drop ((k:Int)).toNat)=out.drop k:=by simp
  have l1:(out.take k).length=k:=by simp;omega
  have l2:(out.drop k).length=out.length-k:=by simp
  obtain⟨n,hn⟩:=h;refine⟨n,?_⟩;rw[gl,dT (show(0:Int)<=0/\0<=(k:Int)/\(k:Int)<=(out.length:Int) by omega)];dsimp only;rw[dT (show(0:Int)<=(k:Int)/\(k:Int)<=(out.length:Int)/\(out.length:Int)<=(out.length:Int) by omega)];simp only[e1,e2,aqb,List.length_nil,anK,ans,l1,l2,anO];rw[dT (by omega),dT (by omega),dT (by omega),e0,<-he];exact hn
 intro j;induction j with
 |zero=>
  intro k hk he;have hk:k=out.length:=by omega
  subst hk;refine Ba _ _ _ _ _ ?_;unfold wx;rw[b8 (by omega)];simp only[fE];refine put _ (ani _) ?_;rw[he];simp[hZ]
 |succ j ih=>
  intro k hk he;have hkl:k<out.length:=by omega
  have go:aS out (k:Int)=some out[k]:=by rw[aq,anc hkl]
  have ho1:=ho _ (anG hkl);have ek:i64.wrap ((k:Int)+1)=((k+1:Nat):Int):=bW (by omega);have hd:out.drop k=out[k]::out.drop (k+1):=anu hkl;refine Ba _ _ _ _ _ ?_;unfold wx;simp only[fE,bH hkl,go,gl,dT (show okC 4000 c/\okP 4000 out[k]/\okP 4000 l[i] from⟨hc,ho1,hx⟩),dT (show okP 4000 out[k]/\okP 4000 l[i] from⟨ho1,hx⟩)];rw[hd]at he;simp only[hZ]at he;cases h1:decide (co (dC c) (dec out[k]) (dec l[i])<0)<;>rw[h1]at he
  ·simp only[cond_false]at he;cases h2:aZ (dec out[k]) (dec l[i])==0<;>rw[h2]at he
   ·simp only[cond_false]at he;have:=put k (by omega) (by rw[he,hd];simp);simp only[gl]at this;exact this
   ·simp only[cond_true]at he;rw[<-hd,aoA]at he;obtain⟨n,hn⟩:=h;refine⟨n,?_⟩;rw[e0];rw[he]at hn;exact hn
  ·simp only[cond_true]at he;obtain⟨n,hn⟩:=ih (k+1) (by omega) (by rw[he,Lp hkl,anD];rfl);refine⟨n,?_⟩;rw[ek];exact hn
theorem UC(c:BCU)(l:List BP)(hc:okC 4000 c)(hl:∀x∈l,okP 4000 x)(hle:l.length<=1000000):∀(j i:Nat),i+j=l.length->∀out:List BP,(∀x∈out,okP 4000 x)->out.length<=i->w7.Runs 8 (lO c l (i:Int) out) [.d (.sl tP) ((l.drop i).foldl (hZ (dC c)) out)]:=by
 intro j;induction j with
 |zero=>
  intro i hi out ho hlen;refine EI _ _ _ _ ⟨0,?_⟩;unfold yM;rw[b8 (by omega),qP (by omega)];rfl
 |succ j ih=>
  intro i hi out ho hlen;have hil:i<l.length:=by omega
  have h2:=ih (i+1) (by omega) (hZ (dC c) out l[i]) (λx hx=>by
   rcases qI hx with h|h
   ·exact ho x h
   ·rw[h];exact hl _ (anG hil)) (anq (zW _ _ _) (by omega))
  obtain⟨n,hn⟩:=abU c l hc hl out ho (by omega) i hil (by omega) _ h2 out.length 0 (by omega) (by simp);refine EI _ _ _ _ ⟨n,?_⟩;unfold yM;rw[bH hil,ir hil,ao9];exact hn
def aac:Cn 34 [tCU,(.sl tP)]:=cn λ(c:BCU) (l:List BP)=>lf (zP c l) [.d (.sl tP) (jA (dC c) l)] λh=>by
 obtain⟨hc,hle,hl⟩:=h;refine dk Yu (show w7.Res _ _ _ from ?_);obtain⟨n,hn⟩:=UC c l hc hl hle l.length 0 (by omega) [] (λx hx=>by cases hx) (ani _);exact ah1 _ _ ⟨n,hn⟩
def eG(c:BCU)(x y:BP):BCU:=(c.1,c.2.1,c.2.2.1,c.2.2.2.1,x,y)
def uE(c:BCU):List BP->List BCU
 |[]=>[]
 |x::r=>match r with
  |[]=>[]
  |y::_=>eG c x y::uE c r
def sw(c:BCU)(l:List BP):List BP:=jA (dC c) ([c.2.2.2.2.1,c.2.2.2.2.2]++l)
def fR(c:BCU)(l:List BP):List BCU:=uE c (sw c l)
def Eh(c:BCU)(l:List BP):Prop:=okC 3500 c/\l.length<=900000/\∀x∈l,okP 3500 x/\onR (dC c) (dec x)=true
instance (c:BCU) (l:List BP):Decidable (Eh c l):=by unfold Eh;infer_instance
theorem W5{c:BCU}{l:List BP}(h:Eh c l):zP c ([c.2.2.2.2.1,c.2.2.2.2.2]++l):=by
 obtain⟨h1,h2,h3⟩:=h;have h4:=cj (k:=4000) h1 (by decide) (by decide);refine⟨h4,by simp;omega,λx hx=>?_⟩;rcases anR.1 hx with hx|hx
 ·simp only[anr,aox,apZ]at hx;rcases hx with rfl|rfl
  ·exact h4.2.2.1
  ·exact h4.2.2.2
 ·exact cS (h3 x hx).1 (by decide) (by decide)
theorem Kr(c:BCU)(l:List BP):(sw c l).length<=l.length+2:=by
 have:=yi (dC c) ([c.2.2.2.2.1,c.2.2.2.2.2]++l) [];unfold sw jA;simp at this ⊢;omega
theorem Ce{c:BCU}{l:List BP}{x:BP}(h:x∈sw c l):x=c.2.2.2.2.1\/x=c.2.2.2.2.2\/x∈l:=by
 rcases Cr (out:=[]) h with h|h
 ·cases h
 ·rcases anR.1 h with h|h
  ·simp only[anr,aox,apZ]at h;rcases h with h|h
   ·exact .inl h
   ·exact .inr (.inl h)
  ·exact .inr (.inr h)
theorem Ky{c p:BCU}:∀{s:List BP},p∈uE c s->∃x y,x∈s/\y∈s/\p=eG c x y
 |[],h=>by cases h
 |[_],h=>by cases h
 |x::y::r,h=>by
  simp only[uE]at h;rcases anr.1 h with h|h
  ·exact⟨x,y,by simp,by simp,h⟩
  ·obtain⟨a,b,h1,h2,h3⟩:=Ky (s:=y::r) h;exact⟨a,b,ann _ h1,ann _ h2,h3⟩
def aaa:List En:=[enT Ju,enT Ph,enT PC,enL OH,enT Ag,enK aac]
def afo:NT:=[((10,6),{keep:=[1,2,6],hl:=1}),((10,31),{keep:=[2,7,8,9],own:=[(8,39,tCU)],hl:=3})]
def Bc:Ctx:=CX (ens aaa) afo
def CT(c:BCU)(l:List BP)(s6:Int):Cfg:=⟨10,[.blk 0,.seq 23],[(1,.d (.sl tP) l),(2,.box 0 0),(6,SI s6)],[.box 39 [SB c.1,SB c.2.1.1.1.1,.d aqv c.2.1.1.1.2,SB c.2.1.1.2.1,.d aqv c.2.1.1.2.2,SB c.2.1.2.1.1.1,.d aqv c.2.1.2.1.1.2,SB c.2.1.2.1.2.1,.d aqv c.2.1.2.1.2.2,SB c.2.1.2.2.1.1,.d aqv c.2.1.2.2.1.2,SB c.2.1.2.2.2.1,.d aqv c.2.1.2.2.2.2,SB c.2.2.1.1.1.1,.d aqv c.2.2.1.1.1.2,SB c.2.2.1.1.2.1,.d aqv c.2.2.1.1.2.2,SB c.2.2.1.2.1.1.1,.d aqv c.2.2.1.2.1.1.2,SB c.2.2.1.2.1.2.1,.d aqv c.2.2.1.2.1.2.2,SB c.2.2.1.2.2.1.1,.d aqv c.2.2.1.2.2.1.2,SB c.2.2.1.2.2.2.1,.d aqv c.2.2.1.2.2.2.2,SB c.2.2.2.1,SB c.2.2.2.2.1.1.1.1,.d aqv c.2.2.2.2.1.1.1.2,SB c.2.2.2.2.1.1.2.1,.d aqv c.2.2.2.2.1.1.2.2,SB c.2.2.2.2.1.2.1.1.1,.d aqv c.2.2.2.2.1.2.1.1.2,SB c.2.2.2.2.1.2.1.2.1,.d aqv c.2.2.2.2.1.2.1.2.2,SB c.2.2.2.2.1.2.2.1.1.1,.d aqv c.2.2.2.2.1.2.2.1.1.2,SB c.2.2.2.2.1.2.2.1.2.1,.d aqv c.2.2.2.2.1.2.2.1.2.2,SB c.2.2.2.2.1.2.2.2.1.1.1,.d aqv c.2.2.2.2.1.2.2.2.1.1.2,SB c.2.2.2.2.1.2.2.2.1.2.1,.d aqv c.2.2.2.2.1.2.2.2.1.2.2,SB c.2.2.2.2.1.2.2.2.2.1.1,.d aqv c.2.2.2.2.1.2.2.2.2.1.2,SB c.2.2.2.2.1.2.2.2.2.2.1,.d aqv c.2.2.2.2.1.2.2.2.2.2.2,SB c.2.2.2.2.2.1.1.1,.d aqv c.2.2.2.2.2.1.1.2,SB c.2.2.2.2.2.1.2.1,.d aqv c.2.2.2.2.2.1.2.2,SB c.2.2.2.2.2.2.1.1.1,.d aqv c.2.2.2.2.2.2.1.1.2,SB c.2.2.2.2.2.2.1.2.1,.d aqv c.2.2.2.2.2.2.1.2.2,SB c.2.2.2.2.2.2.2.1.1.1,.d aqv c.2.2.2.2.2.2.2.1.1.2,SB c.2.2.2.2.2.2.2.1.2.1,.d aqv c.2.2.2.2.2.2.2.1.2.2,SB c.2.2.2.2.2.2.2.2.1.1.1,.d aqv c.2.2.2.2.2.2.2.2.1.1.2,SB c.2.2.2.2.2.2.2.2.1.2.1,.d aqv c.2.2.2.2.2.2.2.2.1.2.2,SB c.2.2.2.2.2.2.2.2.2.1.1,.d aqv c.2.2.2.2.2.2.2.2.2.1.2,SB c.2.2.2.2.2.2.2.2.2.2.1,.d aqv c.2.2.2.2.2.2.2.2.2.2.2]],0,[]⟩
def yb(c:BCU)(l:List BP)(s9:Int)(r2:List BCU):Cfg:=⟨10,[.blk 2,.seq 46],[(2,.box 0 0),(7,.d (.sl tP) (jA (dC c) (([c.2.2.2.2.1,c.2.2.2.2.2])++l))),(8,.own 2),(9,SI s9)],[.box 39 [SB c.1,SB c.2.1.1.1.1,.d aqv c.2.1.1.1.2,SB c.2.1.1.2.1,.d aqv c.2.1.1.2.2,SB c.2.1.2.1.1.1,.d aqv c.2.1.2.1.1.2,SB c.2.1.2.1.2.1,.d aqv c.2.1.2.1.2.2,SB c.2.1.2.2.1.1,.d aqv c.2.1.2.2.1.2,SB c.2.1.2.2.2.1,.d aqv c.2.1.2.2.2.2,SB c.2.2.1.1.1.1,.d aqv c.2.2.1.1.1.2,SB c.2.2.1.1.2.1,.d aqv c.2.2.1.1.2.2,SB c.2.2.1.2.1.1.1,.d aqv c.2.2.1.2.1.1.2,SB c.2.2.1.2.1.2.1,.d aqv c.2.2.1.2.1.2.2,SB c.2.2.1.2.2.1.1,.d aqv c.2.2.1.2.2.1.2,SB c.2.2.1.2.2.2.1,.d aqv c.2.2.1.2.2.2.2,SB c.2.2.2.1,SB c.2.2.2.2.1.1.1.1,.d aqv c.2.2.2.2.1.1.1.2,SB c.2.2.2.2.1.1.2.1,.d aqv c.2.2.2.2.1.1.2.2,SB c.2.2.2.2.1.2.1.1.1,.d aqv c.2.2.2.2.1.2.1.1.2,SB c.2.2.2.2.1.2.1.2.1,.d aqv c.2.2.2.2.1.2.1.2.2,SB c.2.2.2.2.1.2.2.1.1.1,.d aqv c.2.2.2.2.1.2.2.1.1.2,SB c.2.2.2.2.1.2.2.1.2.1,.d aqv c.2.2.2.2.1.2.2.1.2.2,SB c.2.2.2.2.1.2.2.2.1.1.1,.d aqv c.2.2.2.2.1.2.2.2.1.1.2,SB c.2.2.2.2.1.2.2.2.1.2.1,.d aqv c.2.2.2.2.1.2.2.2.1.2.2,SB c.2.2.2.2.1.2.2.2.2.1.1,.d aqv c.2.2.2.2.1.2.2.2.2.1.2,SB c.2.2.2.2.1.2.2.2.2.2.1,.d aqv c.2.2.2.2.1.2.2.2.2.2.2,SB c.2.2.2.2.2.1.1.1,.d aqv c.2.2.2.2.2.1.1.2,SB c.2.2.2.2.2.1.2.1,.d aqv c.2.2.2.2.2.1.2.2,SB c.2.2.2.2.2.2.1.1.1,.d aqv c.2.2.2.2.2.2.1.1.2,SB c.2.2.2.2.2.2.1.2.1,.d aqv c.2.2.2.2.2.2.1.2.2,SB c.2.2.2.2.2.2.2.1.1.1,.d aqv c.2.2.2.2.2.2.2.1.1.2,SB c.2.2.2.2.2.2.2.1.2.1,.d aqv c.2.2.2.2.2.2.2.1.2.2,SB c.2.2.2.2.2.2.2.2.1.1.1,.d aqv c.2.2.2.2.2.2.2.2.1.1.2,SB c.2.2.2.2.2.2.2.2.1.2.1,.d aqv c.2.2.2.2.2.2.2.2.1.2.2,SB c.2.2.2.2.2.2.2.2.2.1.1,.d aqv c.2.2.2.2.2.2.2.2.2.1.2,SB c.2.2.2.2.2.2.2.2.2.2.1,.d aqv c.2.2.2.2.2.2.2.2.2.2.2],.gone,.row 39 tCU r2],0,[]⟩
def akr(c:BCU)(l:List BP)(k:KT):OLR:=k 6 (CT c l 0)
theorem aiq(c:BCU)(l:List BP):RS Bc 10 [.d tCU c,.d (.sl tP) l] (akr c l):=rsX
def z6(c:BCU)(l:List BP)(s6:Int)(k:KT):OLR:=match decide (s6<(l.length:Int))with|true=>(match aS l s6 with|some x1=>(og (decide (okC 3500 c/\okP 3500 x1)) (match !(onR (dC c) (dec x1))with|true=>some [RV.d (.sl tCU) ([]),RV.d aqw 1]|false=>k 6 (CT c l (i64.wrap (s6+1)))))|none=>none)|false=>(og (decide ((([c.2.2.2.2.1,c.2.2.2.2.2]).length+l.length)*320<=140737488355328/\([c.2.2.2.2.1,c.2.2.2.2.2]).length+l.length<=140737488355328)) (og (decide (zP c (([c.2.2.2.2.1,c.2.2.2.2.2])++l))) (k 31 (yb c l 1 ([])))))
theorem F3(c:BCU)(l:List BP)(s6:Int):RN Bc 6 (CT c l s6) (z6 c l s6):=rnX
def vS(c:BCU)(l:List BP)(s9:Int)(r2:List BCU)(k:KT):OLR:=match decide (s9<((jA (dC c) (([c.2.2.2.2.1,c.2.2.2.2.2])++l)).length:Int))with|true=>(match aS (jA (dC c) (([c.2.2.2.2.1,c.2.2.2.2.2])++l)) (i64.wrap (s9-1))with|some x1=>(match aS (jA (dC c) (([c.2.2.2.2.1,c.2.2.2.2.2])++l)) s9 with|some x2=>dup (.b .l .l) (og (decide ((r2.length+([(c.1,(c.2.1,(c.2.2.1,(c.2.2.2.1,(x1,x2)))))]).length)*1040<=140737488355328/\r2.length+([(c.1,(c.2.1,(c.2.2.1,(c.2.2.2.1,(x1,x2)))))]).length<=140737488355328)) (k 31 (yb c l (i64.wrap (s9+1)) (r2++([(c.1,(c.2.1,(c.2.2.1,(c.2.2.2.1,(x1,x2)))))])))))|none=>none)|none=>none)|false=>some [RV.d (.sl tCU) r2,RV.d aqw 0]
theorem BG(c:BCU)(l:List BP)(s9:Int)(r2:List BCU):RN Bc 31 (yb c l s9 r2) (vS c l s9 r2):=rnX
theorem abS(c:BCU)(l:List BP)(hle:l.length<=900000)(S:List BP)(hS:S=sw c l):∀(j i:Nat),1<=i->i+j=max S.length 1->∀out:List BCU,out.length<=i->Bc.Runs 31 (yb c l (i:Int) out) [.d (.sl tCU) (out++uE c (S.drop (i-1))),.d aqw (0:Int)]:=by
 have hSl:=Kr c l;rw[<-hS]at hSl;have eS:jA (dC c) ([c.2.2.2.2.1,c.2.2.2.2.2]++l)=S:=hS.symm;intro j;induction j with
 |zero=>
  intro i h1 hi out hlen;refine BG _ _ _ _ ⟨0,?_⟩;unfold vS;rw[eS,b8 (by omega)]
  have:uE c (S.drop (i-1))=[]:=by
   have hl:(S.drop (i-1)).length<=1:=by rw[apz];omega
   match S.drop (i-1),hl with
   |[],_=>rfl
   |[_],_=>rfl
   |_::_::_,h=>simp at h
  rw[this,anM]
 |succ j ih=>
  intro i h1 hi out hlen;have hil:i<S.length:=by omega
  have e1:i64.wrap ((i:Int)-1)=((i-1:Nat):Int):=by rw[aV (by omega) (by omega)];omega
  have e2:i64.wrap ((i:Int)+1)=((i+1:Nat):Int):=bW (by omega);have g1:aS S ((i-1:Nat):Int)=some S[i-1]:=by rw[aq,anc (by omega)]
  have g2:aS S (i:Int)=some S[i]:=by rw[aq,anc hil]
  obtain⟨n,hn⟩:=ih (i+1) (by omega) (by omega) (out++[eG c S[i-1] S[i]]) (by simp;omega);refine BG _ _ _ _ ⟨n,?_⟩;unfold vS;rw[eS];simp only[fE,bH hil,e1,e2,g1,g2];rw[dT (by simp;omega)]
  have hd:S.drop (i-1)=S[i-1]::S.drop i:=by
   have:=anu (l:=S) (i:=i-1) (by omega);rw[this,show i-1+1=i by omega]
  have hd2:S.drop i=S[i]::S.drop (i+1):=anu hil;rw[hd,hd2];rw[show i+1-1=i by omega,hd2,anD]at hn;exact hn
theorem adx(c:BCU)(l:List BP)(h:Eh c l):∀(j i:Nat),i+j=l.length->Bc.Runs 6 (CT c l (i:Int)) [.d (.sl tCU) (fR c l),.d aqw (0:Int)]:=by
 have hs:=W5 h;obtain⟨hc,hle,hl⟩:=h;intro j;induction j with
 |zero=>
  intro i hi;obtain⟨n,hn⟩:=abS c l hle (sw c l) rfl (max (sw c l).length 1-1) 1 (ani _) (by omega) [] (by simp);refine F3 _ _ _ ⟨n,?_⟩;unfold z6;rw[b8 (by omega),dT (by simp;omega),dT hs];exact hn
 |succ j ih=>
  intro i hi;have hil:i<l.length:=by omega
  obtain⟨n,hn⟩:=ih (i+1) (by omega);have h1:=hl _ (anG hil);refine F3 _ _ _ ⟨n,?_⟩;unfold z6;rw[bH hil,aq,anc hil,bW (by omega)];dsimp only;rw[dT (show okC 3500 c/\okP 3500 l[i] from⟨hc,h1.1⟩),h1.2];exact hn
def aaC:Cn 10 [tCU,(.sl tP)]:=cn λ(c:BCU) (l:List BP)=>lf (Eh c l) [.d (.sl tCU) (fR c l),.d aqw 0] λh=>by
 refine dk aaa (show Bc.Res _ _ _ from ?_);obtain⟨n,hn⟩:=adx c l h l.length 0 (by omega);exact aiq _ _ ⟨n,hn⟩
def AH(n d:Int):Prop:=aJ n/\aJ d/\0<d
instance (n d:Int):Decidable (AH n d):=by unfold AH;infer_instance
def ade:List En:=[enL Cj,enL Zd]
def TQ(n d:Int)(_k:KT):OLR:=match d==0 with|true=>(og (decide (aJ (0:Int))) (og (decide (aJ (1:Int))) (og (decide (kL (hid (ai (0:Int))) (hid (ai (1:Int))))) (some [RV.d tR (hid (f0 (hid (ai (0:Int))) (hid (ai (1:Int)))))]))))|false=>(og (decide (aJ n)) (og (decide (aJ d)) (og (decide (kL (hid (ai n)) (hid (ai d)))) (some [RV.d tR (hid (f0 (hid (ai n)) (hid (ai d))))]))))
def Ih:Cn 27 [aqw,aqw]:=cn λ(n d:Int)=>lf (AH n d) [.d tR (ao (Rat.divInt n d))] λh=>by
 refine aB ade (TQ n d) ⟨0,?_⟩;obtain⟨hn,hd,h0⟩:=h;have hne:(d==0)=false:=by simp;omega
 unfold TQ;rw[hne,dT hn,dT hd];simp only[bL];rw[dT (show kL (ai n) (ai d) from⟨aW (by have:=lh hn;omega),aW (by have:=lh hd;omega),by rw[dec_enc];omega⟩)];unfold f0;rw[dec_enc,dec_enc]
theorem KS{n d:Int}(h1:aJ n)(h2:aJ d)(h0:0<d):Bd (Rat.divInt n d) 3:=by
 obtain⟨k,rfl⟩:=aol (show 0<=d by omega);exact⟨wD (by omega) (lh h1) (lh h2)⟩
section
theorem Con.new_d{P:Program}{f:Nat}{args:List SV}{et:TypeId}{e:Ty}{xs:List e.D}(h:Con P f args [.new et e xs]):Con P f args [.d (.sl e) xs]:=by
 intro A w vs hI ha;refine(h A w vs hI ha).mono ?_;rintro en w' ⟨v,rfl,hb,css,ho,ha2,hn⟩
 refine⟨v,rfl,hb,?_⟩;obtain⟨hlen,p,c,hv,h1,h2,h3⟩:=Rd.of_own hn ho;subst hv;refine⟨[.slice p xs.length c],⟨p,xs.length,c,css,rfl,rfl,h1,h2,bS (λ_ _ h=>Ty.rd_keep ⟨ani _,λb _ hb=>hb.1,λ_ _ _=>rfl⟩ h) ha2,λh0=>?_⟩,rfl⟩;obtain⟨b,off,rfl,h5,h6⟩:=h3 h0;refine⟨b,off,rfl,.inr ?_,h5,h6⟩;rcases ho.2 with⟨h7,_⟩|⟨g,cap,cur,h7,h8,_⟩
 ·cases h7
 ·injection h7 with h7;injection h7 with h7;injection h7 with h7;subst h7;exact h8
class Bb (q:Rat) (n d:outParam Nat):Prop where
 nu:q.num.natAbs<=2^n
 de:q.den<=2^d
theorem Ej{n:Int}{d a b:Nat}(hd:d≠0)(h1:n.natAbs<=2^a)(h2:d<=2^b):(mkRat n d).num.natAbs<=2^a/\(mkRat n d).den<=2^b:=by
 rw[aqf,aqg,anA hd,anA hd];constructor
 ·refine anq ?_ h1;refine(Jn n (d.gcd n.natAbs)).resolve_right (λh=>h ?_);exact Int.ofNat_dvd_left.2 (Nat.gcd_dvd_right d n.natAbs)
 ·exact anq (Nat.div_le_self _ _) h2
theorem zB{a b m n:Nat}(h:a<=2^m)(h':b<=2^n):a*b<=2^(m+n):=by
 rw[Nat.pow_add];exact ao6 h h'
theorem ai7{x y m n:Nat}(h:x<=2^m)(h':y<=2^n):x+y<=2^(mx m n+1):=by
 have h1:=anq h (Nat.pow_le_pow_right (by decide) (CL m n));have h2:=anq h' (Nat.pow_le_pow_right (by decide) (C4 m n));rw[Nat.pow_succ];omega
section
variable {a b:Rat} {m n d e:Nat}
instance al3 [h:Bb a m d] [h':Bb b n e]:Bb (a+b) (mx (m+e) (n+d)+1) (d+e):=by
 have d1:=a.den_pos;have d2:=b.den_pos
 have:=Ej (n:=a.num*(b.den:Int)+b.num*(a.den:Int)) (d:=a.den*b.den) (a:=mx (m+e) (n+d)+1) (b:=d+e) (apO (by omega) (by omega)) (by
  refine anq (Int.natAbs_add_le _ _) ?_;rw[ap4,ap4,aoJ,aoJ];exact ai7 (zB h.nu h'.de) (zB h'.nu h.de)) (zB h.de h'.de)
 rw[<-Rat.add_def']at this;exact⟨this.1,this.2⟩
instance akZ [h:Bb a m d]:Bb (-a) m d:=⟨by rw[Rat.neg_num,Int.natAbs_neg];exact h.nu,h.de⟩
instance amB [h:Bb a m d] [h':Bb b n e]:Bb (a-b) (mx (m+e) (n+d)+1) (d+e):=by
 rw[apG];infer_instance
instance ame [h:Bb a m d] [h':Bb b n e]:Bb (a*b) (m+n) (d+e):=by
 have d1:=a.den_pos;have d2:=b.den_pos
 have:=Ej (n:=a.num*b.num) (d:=a.den*b.den) (a:=m+n) (b:=d+e) (apO (by omega) (by omega)) (by
  rw[ap4];exact zB h.nu h'.nu) (zB h.de h'.de)
 rw[<-Rat.mul_def']at this;exact⟨this.1,this.2⟩
theorem adO [h:Bb a m d]:Bb a⁻¹ d m:=by
 by_cases h0:a=0
 ·subst h0;rw[Rat.inv_zero];exact⟨apH _,Nat.one_le_two_pow⟩
 ·have hn:a.num≠0:=λe=>h0 (Rat.num_eq_zero.1 e);have h1:=h.nu;have h2:=h.de;rw[Rat.inv_def];rcases ao1 hn with h3|h3
  ·rw[<-Rat.neg_divInt_neg,show-a.num=(((-a.num).toNat:Nat):Int) by omega,apA];have:=Ej (n:= -(a.den:Int)) (d:=(-a.num).toNat) (a:=d) (b:=m) (by omega) (by rw[Int.natAbs_neg];exact h2) (by omega);exact⟨this.1,this.2⟩
  ·rw[show a.num=((a.num.toNat:Nat):Int) by omega,apA];have:=Ej (n:=(a.den:Int)) (d:=a.num.toNat) (a:=d) (b:=m) (by omega) h2 (by omega);exact⟨this.1,this.2⟩
instance amq [h:Bb a m d] [h':Bb b n e]:Bb (a/b) (m+e) (d+n):=by
 rw[apb];have:=adO (h:=h');infer_instance
theorem abg:∀k:Nat,((2^(29*k):Nat):Int)<=pw k
 |0=>by decide
 |k+1=>by
  have ih:=abg k
  have e:2^(29*(k+1))=2^(29*k)*536870912:=by
   rw[Nat.mul_add,Nat.pow_add]
  rw[e,ce,aoH];have:(0:Int)<=pw k:=apW (Int.natCast_nonneg _) ih;omega
theorem X3{z:Int}{n:Nat}(h:z.natAbs<=2^n):szI z<=n/29+1:=by
 have h1:=abg (n/29+1);have h2:2^n<2^(29*(n/29+1)):=Nat.pow_lt_pow_right (by decide) (by omega);exact fV (by omega) (by omega)
theorem EE [h:Bb a m d]{k:Nat}(hm:m/29+1<=k)(hd:d/29+1<=k):Bd a k:=⟨⟨anq (X3 h.nu) hm,anq (X3 (z:=(a.den:Int)) h.de) hd⟩⟩
end
theorem Xp{n d:Int}{a b:Nat}(h0:0<d)(h1:n.natAbs<=2^a)(h2:d.natAbs<=2^b):Bb (Rat.divInt n d) a b:=by
 obtain⟨k,rfl⟩:=aol (show 0<=d by omega);rw[apA];have:=Ej (n:=n) (d:=k) (by omega) h1 h2;exact⟨this.1,this.2⟩
def cZ(x:BO3):Prop:=ok Rat 12 x.1/\ok Rat 12 x.2.1/\ok Rat 63 x.2.2/\((dec x:Ln).1≠0\/(dec x:Ln).2.1≠0)
instance (x:BO3):Decidable (cZ x):=by unfold cZ;infer_instance
def ck(x:BO3):Prop:=ok Rat 4 x.1/\ok Rat 4 x.2.1/\ok Rat 13 x.2.2/\(0:Rat)<(dec x:Ln).2.2
instance (x:BO3):Decidable (ck x):=by unfold ck;infer_instance
class BdL (l:Ln):Prop where
 a:Bd l.1 12
 b:Bd l.2.1 12
 c:Bd l.2.2 63
class BdC (c:Ln):Prop where
 x:Bd c.1 4
 y:Bd c.2.1 4
 q:Bd c.2.2 13
theorem fj{x:BO3}(h:cZ x):∃l:Ln,x=enc l/\BdL l/\(l.1≠0\/l.2.1≠0):=by
 obtain⟨h1,h2,h3,h4⟩:=h;obtain⟨x1,x2,x3⟩:=x;obtain⟨a,rfl,ba⟩:=aI h1;obtain⟨b,rfl,bb⟩:=aI h2;obtain⟨c,rfl,bc⟩:=aI h3;have e:((enc a,enc b,enc c):BO3)=enc ((a,b,c):Ln):=rfl;rw[e,aA]at h4;exact⟨(a,b,c),rfl,⟨ba,bb,bc⟩,h4⟩
theorem cQ{x:BO3}(h:ck x):∃c:Ln,x=enc c/\BdC c/\0<c.2.2:=by
 obtain⟨h1,h2,h3,h4⟩:=h;obtain⟨x1,x2,x3⟩:=x;obtain⟨a,rfl,ba⟩:=aI h1;obtain⟨b,rfl,bb⟩:=aI h2;obtain⟨c,rfl,bc⟩:=aI h3;have e:((enc a,enc b,enc c):BO3)=enc ((a,b,c):Ln):=rfl;rw[e,aA]at h4;exact⟨(a,b,c),rfl,⟨ba,bb,bc⟩,h4⟩
theorem nt{l:Ln}[h:BdL l](h0:l.1≠0\/l.2.1≠0):cZ (enc l):=by
 have a:=h.a;have b:=h.b;have c:=h.c;exact⟨anf (okd (ani _) (by decide)),anf (okd (ani _) (by decide)),anf (okd (ani _) (by decide)),by rw[aA];exact h0⟩
theorem iN{c:Ln}[h:BdC c](h0:0<c.2.2):ck (enc c):=by
 have a:=h.x;have b:=h.y;have c:=h.q;exact⟨anf (okd (ani _) (by decide)),anf (okd (ani _) (by decide)),anf (okd (ani _) (by decide)),by rw[aA];exact h0⟩
section
variable {l c:Ln}
instance ana [h:BdL l]:Bd l.1 12:=h.a
instance am9 [h:BdL l]:Bd l.2.1 12:=h.b
instance am7 [h:BdL l]:Bd l.2.2 63:=h.c
instance am5 [h:BdC c]:Bd c.1 4:=h.x
instance am6 [h:BdC c]:Bd c.2.1 4:=h.y
instance am8 [h:BdC c]:Bd c.2.2 13:=h.q
theorem ae7 [h:BdL l]:Bd l 63:=⟨⟨Cod.mono _ _ _ (by decide) h.a.le,Cod.mono _ _ _ (by decide) h.b.le,h.c.le⟩⟩
theorem Oa [h:BdC c]:Bd c 13:=⟨⟨Cod.mono _ _ _ (by decide) h.x.le,Cod.mono _ _ _ (by decide) h.y.le,h.q.le⟩⟩
end
def dK(l m:Ln):Rat:=l.1*m.2.1-m.1*l.2.1
def mH(l m:Ln):Rat:=l.2.2*m.2.1-m.2.2*l.2.1
def mE(l m:Ln):Rat:=l.1*m.2.2-m.1*l.2.2
def mC(l m:Ln):List Pt:=bif !decide (dK l m=0)then [atP (mH l m/dK l m,mE l m/dK l m)]else []
def T2(l m:Ln):Int:=bif !decide (dK l m=0)then 0 else bif decide (mH l m=0)&&decide (mE l m=0)then 10 else 0
def cr(l:Ln):Rat:=l.1*l.1+l.2.1*l.2.1
def vlL(l:Ln)(x y:Rat):Rat:=l.1*x+l.2.1*y-l.2.2
def kB(l c:Ln):Rat:=cr l*c.2.2-vlL l c.1 c.2.1*vlL l c.1 c.2.1
def qr(ax bx ay b_ c:Rat):Pt:=bif gR c then atP (ax+bx*rtQ c,ay+b_*rtQ c)else(ax,bx,ay,b_,c)
def ftX(l c:Ln):Rat:=c.1-vlL l c.1 c.2.1/cr l*l.1
def ftY(l c:Ln):Rat:=c.2.1-vlL l c.1 c.2.1/cr l*l.2.1
def uN(l c:Ln):Pt:=qr (ftX l c) (-(l.2.1/cr l)) (ftY l c) (-(-l.1/cr l)) (kB l c)
def vG(l c:Ln):Pt:=qr (ftX l c) (l.2.1/cr l) (ftY l c) (-l.1/cr l) (kB l c)
def tb(l c:Ln):List Pt:=bif decide (kB l c<0)then []else bif decide (kB l c=0)then [atP (ftX l c,ftY l c)]
 else bif decide (aZ (uN l c) (vG l c)>0)then [vG l c,uN l c]else [uN l c,vG l c]
def iU(c d:Ln):Bool:=decide (c.1=d.1)&&decide (c.2.1=d.2.1)
def sD(c:Ln):Rat:=c.1*c.1+c.2.1*c.2.1-c.2.2
def oH(c d:Ln):Ln:=(2*(d.1-c.1),2*(d.2.1-c.2.1),sD d-sD c)
def Gi(c d:Ln):List Pt:=bif iU c d then []else tb (oH c d) c
def Xd(c d:Ln):Int:=bif iU c d then(bif decide (c.2.2=d.2.2)then 10 else 0)else 0
def w9(c d:Ln):BO3:=bif iU c d then o00 else enc (oH c d)
def UO(c d:Ln):Int:=bif iU c d then 6 else 0
def pq(l m:Ln):Bool:=decide (l.1*m.2.1=l.2.1*m.1)&&(decide (l.1*m.2.2=l.2.2*m.1)&&decide (l.2.1*m.2.2=l.2.2*m.2.1))
def qV(c d:Ln):Bool:=decide (c.1=d.1)&&(decide (c.2.1=d.2.1)&&decide (c.2.2=d.2.2))
def cH(a b:Cv):Bool:=bif a.1==b.1 then(bif a.1 then qV (ciC a) (ciC b)else pq (lnC a) (lnC b))else false
def vo(a:BCU):Prop:=(a.1=true->ck a.2.2.1)/\(a.1=false->cZ a.2.1)
instance (a:BCU):Decidable (vo a):=by unfold vo;infer_instance
def iR(a b:BCU):Prop:=vo a/\vo b
instance (a b:BCU):Decidable (iR a b):=by unfold iR;infer_instance
def xf(a b:Cv):List Pt:=bif a.1&&b.1 then Gi (ciC a) (ciC b)else bif a.1 then tb (lnC b) (ciC a)else bif b.1 then tb (lnC a) (ciC b)else mC (lnC a) (lnC b)
def abh(a b:Cv):Int:=bif a.1&&b.1 then Xd (ciC a) (ciC b)else bif a.1 then 0 else bif b.1 then 0 else T2 (lnC a) (lnC b)
def nw(c:Ln):Pt:=qr c.1 (-1) c.2.1 0 c.2.2
def nB(c:Ln):Pt:=qr c.1 1 c.2.1 0 c.2.2
theorem Cs{ax bx ay b_ c:Rat}(h0:¬(bx=0/\b_=0))(hc:0<=c):Rpd (qr ax bx ay b_ c):=by
 refine⟨?_⟩;unfold qr;cases hq:gR c
 ·exact .inr ⟨h0,JM hc hq,hq⟩
 ·exact .inl ⟨rfl,rfl,rfl⟩
theorem DH{ax bx ay b_ c:Rat}{j k m:Nat}(h1:Bd ax j)(h2:Bd bx k)(h3:Bd ay j)(h4:Bd b_ k)(h5:Bd c m){n:Nat}(hn:j+(k+m)+1<=n):Bd (qr ax bx ay b_ c) n:=by
 have z:bdR n 0:=bK mM.le (by omega);have i1:Bd (ax+bx*rtQ c) _:=inferInstance;have i2:Bd (ay+b_*rtQ c) _:=inferInstance;refine⟨?_⟩;unfold qr;cases gR c
 ·exact⟨bK h1.le (by omega),bK h2.le (by omega),bK h3.le (by omega),bK h4.le (by omega),bK h5.le (by omega)⟩
 ·exact⟨bK i1.le (by omega),z,bK i2.le (by omega),z,z⟩
section
variable {l m c d:Ln}
theorem pP(h:l.1≠0\/l.2.1≠0):cr l≠0:=lk h
instance amA [BdL l] [h:BdC c]:Bd (kB l c) 257:=by
 have hx:=h.x;have hy:=h.y;have hq:=h.q;have i1:Bd (cr l) 49:=inferInstanceAs (Bd (l.1*l.1+l.2.1*l.2.1) _);have i2:Bd (vlL l c.1 c.2.1) 97:=inferInstanceAs (Bd (l.1*c.1+l.2.1*c.2.1-l.2.2) _);exact(inferInstance:Bd (cr l*c.2.2-vlL l c.1 c.2.1*vlL l c.1 c.2.1) _).mono (by decide)
theorem v5 [BdL l][h:BdC c]:Bd (ftX l c) 163/\Bd (ftY l c) 163/\Bd (l.2.1/cr l) 61/\Bd (l.1/cr l) 61:=by
 have hx:=h.x;have hy:=h.y;have i1:Bd (cr l) 49:=inferInstanceAs (Bd (l.1*l.1+l.2.1*l.2.1) _);have i2:Bd (vlL l c.1 c.2.1) 97:=inferInstanceAs (Bd (l.1*c.1+l.2.1*c.2.1-l.2.2) _);have i3:Bd (c.1-vlL l c.1 c.2.1/cr l*l.1) _:=inferInstance;have i4:Bd (c.2.1-vlL l c.1 c.2.1/cr l*l.2.1) _:=inferInstance;have i5:Bd (l.2.1/cr l) _:=inferInstance;have i6:Bd (l.1/cr l) _:=inferInstance;exact⟨i3.mono (by decide),i4.mono (by decide),i5.mono (by decide),i6.mono (by decide)⟩
end
end
end Go.Proofs.YtagbmoohboleaaaGreat
end
