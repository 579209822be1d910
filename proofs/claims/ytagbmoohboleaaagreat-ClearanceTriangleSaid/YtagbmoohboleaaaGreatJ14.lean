/- Lines and circles: the program's contracts. -/
import Derived.Test.YtagbmoohboleaaaGreatJ12
import Derived.Test.YtagbmoohboleaaaGreatJ13
import Derived.Test.YtagbmoohboleaaaGreatJ10
import Derived.Test.YtagbmoohboleaaaGreatJ11
noncomputable section
namespace Go.Proofs.YtagbmoohboleaaaGreat
open Go.RowKit Go.IntKind
theorem aoi:type_of% @List.not_mem_nil:=@List.not_mem_nil
theorem apJ:type_of% @or_false:=@or_false
def As:List En:=[⟨125,jh,fE⟩,⟨67,iA,fi⟩,⟨132,jw,fO⟩,⟨65,je,fH⟩,⟨133,lU,ib⟩,⟨54,gi,eg⟩,⟨66,mX,ji⟩,⟨245,xY,ui⟩,enT DB,enL Pd,enL Qq,enL M0,enL S5,enL Jt,enL My,enL aaT]
def X3(l:BO3)(p:BP)(_k:KT):OLR:=let y1:=bH (dec (p.1,(p.2.1,p.2.2.2.2)));let y2:=hid ((bH (dec p.2.2)).1);let y3:=ku (ah l.1) (hid (y1.1)) (y1.2);let y4:=ku (ah l.2.1) y2 ((bH (dec p.2.2)).2);let y5:=dW (hid (y3.1)) (hid (y4.1));let y6:=hid ((frF (ah l.2.2)).1);let y7:=dW (hid (y5.1)) (hid (nh y6));og (decide (ok Rt 100000 (p.1,(p.2.1,p.2.2.2.2)))) (og (decide (ok Rat 100000 l.1/\prI (hid (y1.1)))) (og (decide (ok Rt 100000 p.2.2)) (og (decide (ok Rat 100000 l.2.1/\prI y2)) (og (decide (ok Rat 200000 l.2.2)) (match !(y3.2)with|true=>some [RV.d aqh 0,RV.d .bool false]|false=>(match !(y4.2)with|true=>some [RV.d aqh 0,RV.d .bool false]|false=>(match !((frF (ah l.2.2)).2)with|true=>some [RV.d aqh 0,RV.d .bool false]|false=>(og (decide (prI (hid (y3.1))/\prI (hid (y4.1)))) (match !(y5.2)with|true=>some [RV.d aqh 0,RV.d .bool false]|false=>(og (decide (prI y6)) (og (decide (prI (hid (y5.1))/\prI (hid (nh y6)))) (match !(y7.2)with|true=>some [RV.d aqh 0,RV.d .bool false]|false=>some [RV.d aqh ((sgF (hid (y7.1))).1),RV.d .bool ((sgF (hid (y7.1))).2)]))))))))))))
def ajL:Cn 268 [tO,tP]:=cn λ(l:BO3) (p:BP)=>lf (ok Ln 300 l/\ok Pt 4000 p) [.d aqh ((yr (dec l) (dec p)).1),.d .bool ((yr (dec l) (dec p)).2)] λh=>by
 refine aB As (X3 l p) ⟨0,?_⟩;obtain⟨hl,hp⟩:=h;obtain⟨l,rfl,bl⟩:=aD hl;obtain⟨p,rfl,bp⟩:=aD hp;have dx:(dec ((ao p.1,ao p.2.1,ao p.2.2.2.2):BO3):Rt)=pxR p:=aA (pxR p);have dy:(dec ((ao p.2.2.1,ao p.2.2.2.1,ao p.2.2.2.2):BO3):Rt)=pyR p:=aA (pyR p);have dy':(dec (enc p.2.2:BO3):Rt)=pyR p:=aA (pyR p);have px:Bd (pxR p) 4000:=(inferInstance:Bd ((p.1,p.2.1,p.2.2.2.2):Rt) _).mono (by decide);have py:Bd (pyR p) 4000:=(inferInstance:Bd ((p.2.2.1,p.2.2.2.1,p.2.2.2.2):Rt) _).mono (by decide);have ox:decide (ok Rt 100000 ((ao p.1,ao p.2.1,ao p.2.2.2.2):BO3))=true:=okd (x:=pxR p) (by decide) (by decide);have oy:decide (ok Rt 100000 (enc p.2.2:BO3))=true:=okd (x:=pyR p) (by decide) (by decide);have pr:∀r,prI (bH r).1:=zT;have pt:∀n a k,prI (ku n a k).1:=US;have pf:∀q,prI (frF q).1:=RE.frF_pr;unfold X3;simp only[aU,Nat.reduceLeDiff,dx,dy',ox,oy,dT (pr _),dT (pt _ _ _),dT (pf _),dT (RE.addF_pr (pt _ _ _) (pt _ _ _)),dT (RE.negF_pr (pf _))];unfold yr;generalize bH (pxR p)=X;generalize bH (pyR p)=Y;generalize ku l.1 X.1 X.2=U;generalize ku l.2.1 Y.1 Y.2=V;generalize frF l.2.2=W;generalize dW U.1 V.1=S;generalize dW S.1 (nh W.1)=D;generalize sgF D.1=Z;obtain⟨_,u⟩:=U;obtain⟨_,v⟩:=V;obtain⟨_,w⟩:=W;obtain⟨_,s⟩:=S;obtain⟨_,d⟩:=D;cases u<;>cases v<;>cases w<;>try rfl
 cases s<;>cases d<;>rfl
def Yb:Cn 160 [tR,tR]:=cn λ(a b:BR)=>lf (okR a/\okR b) [.d tR (ao (ah a+ah b))] λh=>kB [RV.d tR (hAd a b)] (dL As) h
def aad:Cn 157 [tR,tR]:=cn λ(a b:BR)=>lf (okR a/\okR b) [.d tR (ao (ah a-ah b))] λh=>kB [RV.d tR (hSu a b)] (dL As) h
def Zs:Cn 158 [tR,tR]:=cn λ(a b:BR)=>lf (okR a/\okR b) [.d tR (ao (ah a*ah b))] λh=>kB [RV.d tR (hMu a b)] (dL As) h
def abb(a b:BR)(_k:KT):OLR:=og (decide (iS a b)) (match 0 !=0 with|true=>(og (decide (aI (0:Int))) (some [RV.d tR (hid (ao ((0:Int):Rat)))]))|false=>some [RV.d tR (hDi a b)])
def ahf:Cn 161 [tR,tR]:=cn λ(a b:BR)=>lf (iS a b) [.d tR (ao (ah a/ah b))] λh=>by
 refine aB As (abb a b) ⟨0,?_⟩;unfold abb;rw[dT h];simp only[bL];rfl
def Ro:List En:=enT ajL::enL Yb::enL aad::enL Zs::enL ahf::As
def Z0(a b c:BR)(_k:KT):OLR:=og (o1 a) (og (o1 b) (og (o1 c) (match(i64.wrap ((aE (ah b) 0)*(aE (ah c) 0)))==0 with|true=>some [RV.d aqh (aE (ah a) 0)]|false=>(match(aE (ah a) 0)==(i64.wrap ((aE (ah b) 0)*(aE (ah c) 0)))with|true=>some [RV.d aqh (aE (ah a) 0)]|false=>(match(aE (ah a) 0)==0 with|true=>some [RV.d aqh (i64.wrap ((aE (ah b) 0)*(aE (ah c) 0)))]|false=>(og (o2 a a) (og (o2 b b) (og (o2 (hMu b b) c) (og (o2 (hMu a a) (hMu (hMu b b) c)) (some [RV.d aqh (i64.wrap ((aE (ah a) 0)*(aE (ah (hMu a a)) (ah (hMu (hMu b b) c)))))]))))))))))
def ah4:Cn 267 [tR,tR,tR]:=cn λ(a b c:BR)=>lf (ok Rat 240000 a/\ok Rat 170000 b/\ok Rat 30000 c) [.d aqh (il (ah a) (ah b) (ah c))] λh=>by
 refine aB Ro (Z0 a b c) ⟨0,?_⟩;obtain⟨ha,hb,hc⟩:=h;obtain⟨a,rfl,ba⟩:=aD ha;obtain⟨b,rfl,bb⟩:=aD hb;obtain⟨c,rfl,bc⟩:=aD hc;unfold Z0;simp only[aU,Nat.reduceAdd,Nat.reduceLeDiff,qT];exact Cw _ _ _
def aaa(a b c f:BR)(_k:KT):OLR:=og (decide (ok Rt 100000 (a,(b,c)))) (og (decide (ok Rat 200000 f)) (match !((bH (dec (a,(b,c)))).2)with|true=>some [RV.d tG (0,0),RV.d .bool false]|false=>(match !((frF (ah f)).2)with|true=>some [RV.d tG (0,0),RV.d .bool false]|false=>(og (decide (prI (hid ((frF (ah f)).1)))) (og (decide (prI (hid ((bH (dec (a,(b,c)))).1))/\prI (hid (nh (hid ((frF (ah f)).1)))))) (some [RV.d tG (hid ((dW (hid ((bH (dec (a,(b,c)))).1)) (hid (nh (hid ((frF (ah f)).1))))).1)),RV.d .bool ((dW (hid ((bH (dec (a,(b,c)))).1)) (hid (nh (hid ((frF (ah f)).1))))).2)]))))))
def ahB:Cn 306 [tR,tR,tR,tR]:=cn λ(a b c f:BR)=>lf (ok Rat 100000 a/\ok Rat 100000 b/\ok Rat 100000 c/\ok Rat 100000 f) [.d tG ((fM (ah a,ah b,ah c) (ah f)).1),.d .bool ((fM (ah a,ah b,ah c) (ah f)).2)] λh=>by
 refine aB Ro (aaa a b c f) ⟨0,?_⟩;obtain⟨ha,hb,hc,hf⟩:=h;obtain⟨a,rfl,ba⟩:=aD ha;obtain⟨b,rfl,bb⟩:=aD hb;obtain⟨c,rfl,bc⟩:=aD hc;obtain⟨f,rfl,bf⟩:=aD hf;have dr:(dec ((ao a,ao b,ao c):BO3):Rt)=(a,b,c):=aA ((a,b,c):Rt);have orr:decide (ok Rt 100000 ((ao a,ao b,ao c):BO3))=true:=okd (x:=((a,b,c):Rt)) (by decide) (by decide);unfold aaa;simp only[aU,Nat.reduceLeDiff,dr,orr,dT (RE.frF_pr _),dT (RE.negF_pr (RE.frF_pr _)),dT (zT _)];unfold fM;generalize bH (a,b,c)=X;generalize frF f=Y;obtain⟨_,x⟩:=X;obtain⟨_,y⟩:=Y;cases x<;>cases y<;>rfl
def Rc:List En:=enT ah4::enL ahB::Ro
def Zy(c:BO3)(p:BP)(_k:KT):OLR:=let y1:=fM (ah p.1,ah p.2.1,ah p.2.2.2.2) (ah c.1);let y2:=fM (ah p.2.2.1,ah p.2.2.2.1,ah p.2.2.2.2) (ah c.2.1);let y3:=cK (hid (y1.1)) (hid (y1.1));let y4:=cK (hid (y2.1)) (hid (y2.1));let y5:=dW (hid (y3.1)) (hid (y4.1));let y6:=hid ((frF (ah c.2.2)).1);let y7:=dW (hid (y5.1)) (hid (nh y6));og (decide (ok Rat 100000 p.1/\ok Rat 100000 p.2.1/\ok Rat 100000 p.2.2.2.2/\ok Rat 100000 c.1)) (og (decide (ok Rat 100000 p.2.2.1/\ok Rat 100000 p.2.2.2.1/\ok Rat 100000 p.2.2.2.2/\ok Rat 100000 c.2.1)) (og (decide (ok Rat 200000 c.2.2)) (match !(y1.2)with|true=>some [RV.d aqh 0,RV.d .bool false]|false=>(match !(y2.2)with|true=>some [RV.d aqh 0,RV.d .bool false]|false=>(match !((frF (ah c.2.2)).2)with|true=>some [RV.d aqh 0,RV.d .bool false]|false=>(og (decide (prI (hid (y1.1))/\prI (hid (y1.1)))) (og (decide (prI (hid (y2.1))/\prI (hid (y2.1)))) (match !(y3.2)with|true=>some [RV.d aqh 0,RV.d .bool false]|false=>(match !(y4.2)with|true=>some [RV.d aqh 0,RV.d .bool false]|false=>(og (decide (prI (hid (y3.1))/\prI (hid (y4.1)))) (match !(y5.2)with|true=>some [RV.d aqh 0,RV.d .bool false]|false=>(og (decide (prI y6)) (og (decide (prI (hid (y5.1))/\prI (hid (nh y6)))) (match !(y7.2)with|true=>some [RV.d aqh 0,RV.d .bool false]|false=>some [RV.d aqh ((sgF (hid (y7.1))).1),RV.d .bool ((sgF (hid (y7.1))).2)]))))))))))))))
def afH:Cn 266 [tO,tP]:=cn λ(c:BO3) (p:BP)=>lf (ok Ln 300 c/\ok Pt 4000 p) [.d aqh ((vu (dec c) (dec p)).1),.d .bool ((vu (dec c) (dec p)).2)] λh=>by
 refine aB Rc (Zy c p) ⟨0,?_⟩;obtain⟨hc,hp⟩:=h;obtain⟨c,rfl,bc⟩:=aD hc;obtain⟨p,rfl,bp⟩:=aD hp;have pd:∀r q,prI (fM r q).1:=Xe;have pf:∀q,prI (frF q).1:=RE.frF_pr;have pm:∀a b,prI (cK a b).1:=uI;have dx:fM (p.1,p.2.1,p.2.2.2.2) c.1=fM (pxR p) c.1:=rfl;have dy:fM (p.2.2.1,p.2.2.2.1,p.2.2.2.2) c.2.1=fM (pyR p) c.2.1:=rfl;unfold Zy;simp only[aU,Nat.reduceLeDiff,dx,dy,dT (pd _ _),dT (pm _ _),dT (pf _),dT (RE.negF_pr (pf _)),dT (RE.addF_pr (pm _ _) (pm _ _))];unfold vu;generalize fM (pxR p) c.1=X;generalize fM (pyR p) c.2.1=Y;generalize frF c.2.2=W;generalize cK X.1 X.1=U;generalize cK Y.1 Y.1=V;generalize dW U.1 V.1=S;generalize dW S.1 (nh W.1)=D;generalize sgF D.1=Z;obtain⟨_,x⟩:=X;obtain⟨_,y⟩:=Y;obtain⟨_,w⟩:=W;obtain⟨_,u⟩:=U;obtain⟨_,v⟩:=V;obtain⟨_,s⟩:=S;obtain⟨_,d⟩:=D;cases x<;>cases y<;>cases w<;>try rfl
 cases u<;>cases v<;>try rfl
 cases s<;>cases d<;>rfl
def abo(l:BO3)(p:BP)(_k:KT):OLR:=og (decide (ok Ln 300 l/\ok Pt 4000 p)) (match(yr (dec l) (dec p)).2 with|true=>some [RV.d aqh ((yr (dec l) (dec p)).1)]|false=>(og (o2 l.1 p.1) (og (o2 l.2.1 p.2.2.1) (og (o2 (hMu l.1 p.1) (hMu l.2.1 p.2.2.1)) (og (o2 (hAd (hMu l.1 p.1) (hMu l.2.1 p.2.2.1)) l.2.2) (og (o2 l.1 p.2.1) (og (o2 l.2.1 p.2.2.2.1) (og (o2 (hMu l.1 p.2.1) (hMu l.2.1 p.2.2.2.1)) (og (decide (ok Rat 240000 (hSu (hAd (hMu l.1 p.1) (hMu l.2.1 p.2.2.1)) l.2.2)/\ok Rat 170000 (hAd (hMu l.1 p.2.1) (hMu l.2.1 p.2.2.2.1))/\ok Rat 30000 p.2.2.2.2)) (some [RV.d aqh (il (ah (hSu (hAd (hMu l.1 p.1) (hMu l.2.1 p.2.2.1)) l.2.2)) (ah (hAd (hMu l.1 p.2.1) (hMu l.2.1 p.2.2.2.1))) (ah p.2.2.2.2))]))))))))))
def agp:Cn 182 [tO,tP]:=cn λ(l:BO3) (p:BP)=>lf (ok Ln 300 l/\okP 4000 p) [.d aqh (qB (dec l) (dec p))] λh=>by
 refine aB Rc (abo l p) ⟨0,?_⟩;obtain⟨hl,hp⟩:=h;obtain⟨l,rfl,bl⟩:=aD hl;obtain⟨p,rfl,bp,rp⟩:=bR hp;unfold abo;simp only[aU,Nat.reduceAdd,Nat.reduceLeDiff];cases hq:(yr l p).2
 ·rfl
 ·rw[RE.sidL_ok l hq]
def XP:List En:=enT afH::Rc
def Ze(c:BO3)(p:BP)(_k:KT):OLR:=og (decide (ok Ln 300 c/\ok Pt 4000 p)) (match(vu (dec c) (dec p)).2 with|true=>some [RV.d aqh (i64.wrap (0-((vu (dec c) (dec p)).1)))]|false=>(og (o2 p.1 c.1) (og (o2 p.2.2.1 c.2.1) (og (o2 (hSu p.1 c.1) (hSu p.1 c.1)) (og (o2 (hSu p.2.2.1 c.2.1) (hSu p.2.2.1 c.2.1)) (og (o2 (hMu (hSu p.1 c.1) (hSu p.1 c.1)) (hMu (hSu p.2.2.1 c.2.1) (hSu p.2.2.1 c.2.1))) (og (o2 p.2.1 p.2.1) (og (o2 p.2.2.2.1 p.2.2.2.1) (og (o2 (hMu p.2.1 p.2.1) (hMu p.2.2.2.1 p.2.2.2.1)) (og (o2 p.2.2.2.2 (hAd (hMu p.2.1 p.2.1) (hMu p.2.2.2.1 p.2.2.2.1))) (og (o2 (hAd (hMu (hSu p.1 c.1) (hSu p.1 c.1)) (hMu (hSu p.2.2.1 c.2.1) (hSu p.2.2.1 c.2.1))) (hMu p.2.2.2.2 (hAd (hMu p.2.1 p.2.1) (hMu p.2.2.2.1 p.2.2.2.1)))) (og (o2 (hSu p.1 c.1) p.2.1) (og (o2 (hSu p.2.2.1 c.2.1) p.2.2.2.1) (og (o2 (hMu (hSu p.1 c.1) p.2.1) (hMu (hSu p.2.2.1 c.2.1) p.2.2.2.1)) (og (o2 (hAd (hAd (hMu (hSu p.1 c.1) (hSu p.1 c.1)) (hMu (hSu p.2.2.1 c.2.1) (hSu p.2.2.1 c.2.1))) (hMu p.2.2.2.2 (hAd (hMu p.2.1 p.2.1) (hMu p.2.2.2.1 p.2.2.2.1)))) c.2.2) (og (o2 (hAd (hMu (hSu p.1 c.1) p.2.1) (hMu (hSu p.2.2.1 c.2.1) p.2.2.2.1)) (hAd (hMu (hSu p.1 c.1) p.2.1) (hMu (hSu p.2.2.1 c.2.1) p.2.2.2.1))) (og (decide (ok Rat 240000 (hSu (hAd (hAd (hMu (hSu p.1 c.1) (hSu p.1 c.1)) (hMu (hSu p.2.2.1 c.2.1) (hSu p.2.2.1 c.2.1))) (hMu p.2.2.2.2 (hAd (hMu p.2.1 p.2.1) (hMu p.2.2.2.1 p.2.2.2.1)))) c.2.2)/\ok Rat 170000 (hAd (hAd (hMu (hSu p.1 c.1) p.2.1) (hMu (hSu p.2.2.1 c.2.1) p.2.2.2.1)) (hAd (hMu (hSu p.1 c.1) p.2.1) (hMu (hSu p.2.2.1 c.2.1) p.2.2.2.1)))/\ok Rat 30000 p.2.2.2.2)) (some [RV.d aqh (i64.wrap (0-(il (ah (hSu (hAd (hAd (hMu (hSu p.1 c.1) (hSu p.1 c.1)) (hMu (hSu p.2.2.1 c.2.1) (hSu p.2.2.1 c.2.1))) (hMu p.2.2.2.2 (hAd (hMu p.2.1 p.2.1) (hMu p.2.2.2.1 p.2.2.2.1)))) c.2.2)) (ah (hAd (hAd (hMu (hSu p.1 c.1) p.2.1) (hMu (hSu p.2.2.1 c.2.1) p.2.2.2.1)) (hAd (hMu (hSu p.1 c.1) p.2.1) (hMu (hSu p.2.2.1 c.2.1) p.2.2.2.1)))) (ah p.2.2.2.2))))]))))))))))))))))))
def agL:Cn 181 [tO,tP]:=cn λ(c:BO3) (p:BP)=>lf (ok Ln 300 c/\okP 4000 p) [.d aqh (pV (dec c) (dec p))] λh=>by
 refine aB XP (Ze c p) ⟨0,?_⟩;obtain⟨hc,hp⟩:=h;obtain⟨c,rfl,bc⟩:=aD hc;obtain⟨p,rfl,bp,rp⟩:=bR hp;have sb:=mA (sqA p (ctr c)-c.2.2) (sqB p (ctr c)) p.2.2.2.2;unfold Ze;simp only[aU,Nat.reduceAdd,Nat.reduceLeDiff];cases hq:(vu c p).2
 ·unfold pV sqA sqB ctr at*
  dsimp only at sb ⊢;rw[show(p.2.2.2.2*(p.2.1*p.2.1+p.2.2.2.1*p.2.2.2.1))=(p.2.1*p.2.1+p.2.2.2.1*p.2.2.2.1)*p.2.2.2.2 by grind];rw[aV (by omega) (by omega),aoQ]
 ·have hb: -1<=(vu c p).1/\(vu c p).1<=1:=by
   have:=RE.insC_ok c hq;unfold pV at this;omega
  dsimp only;rw[aV (by omega) (by omega),aoQ,RE.insC_ok c hq]
def Zz(l:BO3)(v:BV)(_k:KT):OLR:=og (o2 l.1 v.1) (og (o2 l.2.1 v.2) (og (o2 (hMu l.1 v.1) (hMu l.2.1 v.2)) (og (o2 (hAd (hMu l.1 v.1) (hMu l.2.1 v.2)) l.2.2) (og (o2 l.1 l.1) (og (o2 l.2.1 l.2.1) (og (o2 (hMu l.1 l.1) (hMu l.2.1 l.2.1)) (og (decide (iS (hSu (hAd (hMu l.1 v.1) (hMu l.2.1 v.2)) l.2.2) (hAd (hMu l.1 l.1) (hMu l.2.1 l.2.1)))) (og (o2 (hDi (hSu (hAd (hMu l.1 v.1) (hMu l.2.1 v.2)) l.2.2) (hAd (hMu l.1 l.1) (hMu l.2.1 l.2.1))) l.1) (og (o2 v.1 (hMu (hDi (hSu (hAd (hMu l.1 v.1) (hMu l.2.1 v.2)) l.2.2) (hAd (hMu l.1 l.1) (hMu l.2.1 l.2.1))) l.1)) (og (o2 (hDi (hSu (hAd (hMu l.1 v.1) (hMu l.2.1 v.2)) l.2.2) (hAd (hMu l.1 l.1) (hMu l.2.1 l.2.1))) l.2.1) (og (o2 v.2 (hMu (hDi (hSu (hAd (hMu l.1 v.1) (hMu l.2.1 v.2)) l.2.2) (hAd (hMu l.1 l.1) (hMu l.2.1 l.2.1))) l.2.1)) (some [RV.d tV (hSu v.1 (hMu (hDi (hSu (hAd (hMu l.1 v.1) (hMu l.2.1 v.2)) l.2.2) (hAd (hMu l.1 l.1) (hMu l.2.1 l.2.1))) l.1),hSu v.2 (hMu (hDi (hSu (hAd (hMu l.1 v.1) (hMu l.2.1 v.2)) l.2.2) (hAd (hMu l.1 l.1) (hMu l.2.1 l.2.1))) l.2.1))]))))))))))))
def Rh:Cn 137 [tO,tV]:=cn λ(l:BO3) (v:BV)=>lf (ok Ln 300 l/\ok (Rat×Rat) 200 v/\((dec l:Ln).1≠0\/(dec l:Ln).2.1≠0)) [.d tV (enc (cQ (dec l) (dec v)))] λh=>by
 refine aB XP (Zz l v) ⟨0,?_⟩;obtain⟨hl,hv,h0⟩:=h;obtain⟨l,rfl,bl⟩:=aD hl;obtain⟨v,rfl,bv⟩:=aD hv;have hn:l.1*l.1+l.2.1*l.2.1≠0:=kR (by rw[aA]at h0;exact h0);unfold Zz;simp only[aU,Nat.reduceAdd,Nat.reduceLeDiff,hn,ne_eq,aoh];rfl
theorem U4(n:Int):(if(if n>(-1)then n else(-1))<1 then(if n>(-1)then n else(-1))else 1)=kC n:=by
 unfold kC;split<;>split<;>(try split)<;>(try split)<;>omega
def yY:List En:=[enT Er,enT QB,enL agn,enL aip,enT SS,enT agp,enT agL]
def YQ(c:BCU)(p:BP)(_k:KT):OLR:=match c.1 with|true=>(og (decide (ok Ln 300 c.2.2.1/\okP 4000 p)) (some [RV.d .bool ((pV (dec c.2.2.1) (dec p))==0)]))|false=>(og (decide (ok Ln 300 c.2.1/\okP 4000 p)) (some [RV.d .bool ((qB (dec c.2.1) (dec p))==0)]))
def ahD:Cn 85 [tCU,tP]:=cn λ(c:BCU) (p:BP)=>lf (okC 4000 c/\okP 4000 p) [.d .bool (gR (dC c) (dec p))] λh=>by
 refine aB yY (YQ c p) ⟨0,?_⟩;obtain⟨hc,hp⟩:=h;have op:decide (okP 4000 p)=true:=amW hp;obtain⟨ar,li,ci,cw,fr,to⟩:=c;obtain⟨c1,c2,_⟩:=hc;unfold YQ;cases ar
 ·have e:=(c2 rfl).1;simp only[aoT,dT e,op,aos];rfl
 ·have e:=(c1 rfl).1;simp only[aoT,dT e,op,aos];rfl
def Zl(c:BO3)(p:BP)(_k:KT):OLR:=og (decide (okP 4000 p)) (og (decide (okT 15000 (hid (enc (yP (dec p))))/\ok Rat 15000 c.2.1)) (match decide ((fY (dec (hid (enc (yP (dec p))))) (ah c.2.1))>0)with|true=>some [RV.d aqh 0]|false=>(match(fY (dec (hid (enc (yP (dec p))))) (ah c.2.1))==0 with|true=>(og (decide (okP 4000 p)) (og (decide (okT 15000 (hid (enc (xP (dec p))))/\ok Rat 15000 c.1)) (match decide ((fY (dec (hid (enc (xP (dec p))))) (ah c.1))>0)with|true=>some [RV.d aqh 0]|false=>some [RV.d aqh 1])))|false=>some [RV.d aqh 1])))
def aiu:Cn 305 [tO,tP]:=cn λ(c:BO3) (p:BP)=>lf (ok Ln 300 c/\okP 4000 p) [.d aqh (DG (dec c) (dec p))] λh=>by
 refine aB yY (Zl c p) ⟨0,?_⟩;obtain⟨hc,hp⟩:=h;obtain⟨c,rfl,bc⟩:=aD hc;obtain⟨p,rfl,bp,rp⟩:=bR hp;unfold Zl DG upR;simp only[aU,Nat.reduceLeDiff,aK,aL];cases decide (fY (yP p) c.2.1>0)<;>cases fY (yP p) c.2.1==0<;>cases decide (fY (xP p) c.1>0)<;>rfl
def agB:Ctx:=CX (ens yY) []
def XG(n:Int)(_k:KT):OLR:=some [RV.d aqh (if(if n>(-1)then n else(-1))<1 then(if n>(-1)then n else(-1))else 1)]
theorem agl(n:Int):RS agB 262 [SI n] (XG n):=rsX
def ajz:Cn 262 [aqh]:=cn λ(n:Int)=>lf True [.d aqh (kC n)] λ_=>by
 refine da yY (agl _ ⟨0,?_⟩);unfold XG;rw[U4]
def agI:Ctx:=CX (ens yY) []
def aiZ(c:BCU)(_k:KT):OLR:=match c.1 with|true=>some [RV.d tCU (c.1,(c.2.1,(c.2.2.1,(!c.2.2.2.1,(c.2.2.2.2.2,c.2.2.2.2.1)))))]|false=>some [RV.d tCU (c.1,(c.2.1,(c.2.2.1,(false,(c.2.2.2.2.2,c.2.2.2.2.1)))))]
theorem af5(c:BCU):RS agI 260 [.d tCU c] (aiZ c):=rsX
def ai3:Cn 260 [tCU]:=cn λ(c:BCU)=>lf True [.d tCU (uP c)] λ_=>by
 refine da yY (af5 _ ⟨0,?_⟩);obtain⟨ar,li,ci,cw,fr,to⟩:=c;cases ar<;>rfl
def JY:List En:=enT ahD::enT aiu::enT ajz::enL ai3::yY
def ZM(c:BO3)(p q:BP)(_k:KT):OLR:=og (decide (ok Ln 300 c/\okP 4000 p)) (og (decide (ok Ln 300 c/\okP 4000 q)) (match(DG (dec c) (dec p)) !=(DG (dec c) (dec q))with|true=>some [RV.d aqh (i64.wrap ((DG (dec c) (dec p))-(DG (dec c) (dec q))))]|false=>(og (decide (okP 4000 p)) (og (decide (okP 4000 q)) (og (decide (okT 15000 (hid (enc (xP (dec p))))/\okT 15000 (hid (enc (xP (dec q)))))) (match(DG (dec c) (dec p))==0 with|true=>some [RV.d aqh (i64.wrap (0-(bh (dec (hid (enc (xP (dec p))))) (dec (hid (enc (xP (dec q))))))))]|false=>some [RV.d aqh (bh (dec (hid (enc (xP (dec p))))) (dec (hid (enc (xP (dec q))))))]))))))
def ahm:Cn 263 [tO,tP,tP]:=cn λ(c:BO3) (p q:BP)=>lf (ok Ln 300 c/\okP 4000 p/\okP 4000 q) [.d aqh (tn bh (ptd (dec c) (dec p)) (ptd (dec c) (dec q)))] λh=>by
 refine aB JY (ZM c p q) ⟨0,?_⟩;obtain⟨hc,hp,hq⟩:=h;obtain⟨c,rfl,bc⟩:=aD hc;obtain⟨p,rfl,bp,rp⟩:=bR hp;obtain⟨q,rfl,bq,rq⟩:=bR hq;have xb:=wS (xP p) (xP q);unfold ZM;simp only[aU,Nat.reduceLeDiff,aK,aL,aV (x:= -bh (xP p) (xP q)) (by omega) (by omega),aoQ];unfold tn DG ptd;cases upR c p<;>cases upR c q<;>rfl
def ahY:Ctx:=CX (ens JY) []
def X0(c:BCU)(_k:KT):OLR:=match c.2.2.2.1 with|true=>some [RV.d tCU (hid (uP c))]|false=>some [RV.d tCU c]
theorem ajC(c:BCU):RS ahY 172 [.d tCU c] (X0 c):=rsX
def abk:Cn 172 [tCU]:=cn λ(c:BCU)=>lf True [.d tCU (d9 c)] λ_=>by
 refine da JY (ajC _ ⟨0,?_⟩);obtain⟨ar,li,ci,cw,fr,to⟩:=c;unfold X0 d9;cases cw
 ·rfl
 ·simp only[bL];rfl
def abc:List En:=enT ahm::enL abk::JY
def aaK(c:BO3)(f p:BP)(_k:KT):OLR:=og (decide (ok Ln 300 c/\okP 4000 p/\okP 4000 f)) (match(tn bh (ptd (dec c) (dec p)) (ptd (dec c) (dec f)))==0 with|true=>some [RV.d aqh 0]|false=>(match decide ((tn bh (ptd (dec c) (dec p)) (ptd (dec c) (dec f)))>0)with|true=>some [RV.d aqh 1]|false=>some [RV.d aqh 2]))
def ajU:Cn 261 [tO,tP,tP]:=cn λ(c:BO3) (f p:BP)=>lf (ok Ln 300 c/\okP 4000 f/\okP 4000 p) [.d aqh (pU bh (ptd (dec c) (dec f)) (ptd (dec c) (dec p)))] λh=>by
 refine aB abc (aaK c f p) ⟨0,?_⟩;obtain⟨hc,hf,hp⟩:=h;unfold aaK pU;rw[dT ⟨hc,hp,hf⟩];cases tn bh (ptd (dec c) (dec p)) (ptd (dec c) (dec f))==0<;>cases decide (tn bh (ptd (dec c) (dec p)) (ptd (dec c) (dec f))>0)<;>rfl
def Xx:List En:=enT ajU::abc
def XY(c:BO3)(f p q:BP)(_k:KT):OLR:=og (decide (ok Ln 300 c/\okP 4000 f/\okP 4000 p)) (og (decide (ok Ln 300 c/\okP 4000 f/\okP 4000 q)) (match(pU bh (ptd (dec c) (dec f)) (ptd (dec c) (dec p))) !=(pU bh (ptd (dec c) (dec f)) (ptd (dec c) (dec q)))with|true=>some [RV.d aqh (kC (i64.wrap ((pU bh (ptd (dec c) (dec f)) (ptd (dec c) (dec p)))-(pU bh (ptd (dec c) (dec f)) (ptd (dec c) (dec q))))))]|false=>(og (decide (ok Ln 300 c/\okP 4000 p/\okP 4000 q)) (some [RV.d aqh (kC (tn bh (ptd (dec c) (dec p)) (ptd (dec c) (dec q))))]))))
def Nt:Cn 173 [tO,tP,tP,tP]:=cn λ(c:BO3) (f p q:BP)=>lf (ok Ln 300 c/\okP 4000 f/\okP 4000 p/\okP 4000 q) [.d aqh (ic bh (ptd (dec c) (dec f)) (ptd (dec c) (dec p)) (ptd (dec c) (dec q)))] λh=>by
 refine aB Xx (XY c f p q) ⟨0,?_⟩;obtain⟨hc,hf,hp,hq⟩:=h;unfold XY ic bne;have b1:=IK (p:=ptd (dec c) (dec f)) (q:=ptd (dec c) (dec p));have b2:=IK (p:=ptd (dec c) (dec f)) (q:=ptd (dec c) (dec q));rw[dT ⟨hc,hf,hp⟩,dT ⟨hc,hf,hq⟩,dT ⟨hc,hp,hq⟩,aV (by omega) (by omega)];cases pU bh (ptd (dec c) (dec f)) (ptd (dec c) (dec p))==pU bh (ptd (dec c) (dec f)) (ptd (dec c) (dec q))<;>rfl
def aaf:List En:=enT Nt::Xx
def aaH(c:BCU)(p:BP)(_k:KT):OLR:=match !c.1 with|true=>(og (decide (okP 4000 c.2.2.2.2.1/\okP 4000 p)) (og (decide (okP 4000 p/\okP 4000 c.2.2.2.2.2)) (match(a8 (dec c.2.2.2.2.1) (dec p))==0 with|true=>some [RV.d .bool true]|false=>(match(a8 (dec p) (dec c.2.2.2.2.2))==0 with|true=>some [RV.d .bool true]|false=>some [RV.d .bool ((a8 (dec c.2.2.2.2.1) (dec p))==(a8 (dec p) (dec c.2.2.2.2.2)))]))))|false=>(og (decide (ok Ln 300 ((((hid (d9 c)).2).2).1)/\okP 4000 ((((((hid (d9 c)).2).2).2).2).1)/\okP 4000 p/\okP 4000 ((((((hid (d9 c)).2).2).2).2).2))) (some [RV.d .bool (decide ((ic bh (ptd (dec ((((hid (d9 c)).2).2).1)) (dec ((((((hid (d9 c)).2).2).2).2).1))) (ptd (dec ((((hid (d9 c)).2).2).1)) (dec p)) (ptd (dec ((((hid (d9 c)).2).2).1)) (dec ((((((hid (d9 c)).2).2).2).2).2))))<=0))]))
def Tj:Cn 76 [tCU,tP]:=cn λ(c:BCU) (p:BP)=>lf (okC 4000 c/\okP 4000 p) [.d .bool (iN (dC c) (dec p))] λh=>by
 refine aB aaf (aaH c p) ⟨0,?_⟩;obtain⟨hc,hp⟩:=h;obtain⟨ar,li,ci,cw,fr,to⟩:=c;obtain⟨c1,c2,c3,c4⟩:=hc;unfold aaH iN;simp only[bL];cases ar
 ·try dsimp only[Bool.not_false]
  rw[dT ⟨c3,hp⟩,dT ⟨hp,c4⟩];show _=some [RV.d .bool (uX (a8 (dec fr) (dec p)) (a8 (dec p) (dec to)))];unfold uX;cases a8 (dec fr) (dec p)==0<;>cases a8 (dec p) (dec to)==0<;>rfl
 ·have e:=(c1 rfl).1;cases cw
  ·rw[dT (show ok Ln 300 (d9 (true,li,ci,false,fr,to)).2.2.1/\okP 4000 (d9 (true,li,ci,false,fr,to)).2.2.2.2.1/\okP 4000 p/\okP 4000 (d9 (true,li,ci,false,fr,to)).2.2.2.2.2 from⟨e,c3,hp,c4⟩)];rfl
  ·rw[dT (show ok Ln 300 (d9 (true,li,ci,true,fr,to)).2.2.1/\okP 4000 (d9 (true,li,ci,true,fr,to)).2.2.2.2.1/\okP 4000 p/\okP 4000 (d9 (true,li,ci,true,fr,to)).2.2.2.2.2 from⟨e,c4,hp,c3⟩)];rfl
def ahK:List En:=enT Tj::aaf
def Ys(c:BCU)(p:BP)(_k:KT):OLR:=og (decide (okC 4000 c/\okP 4000 p)) (match gR (dC c) (dec p)with|true=>(og (decide (okC 4000 c/\okP 4000 p)) (some [RV.d .bool (iN (dC c) (dec p))]))|false=>some [RV.d .bool false])
def Jx:Cn 28 [tCU,tP]:=cn λ(c:BCU) (p:BP)=>lf (okC 4000 c/\okP 4000 p) [.d .bool (onP (dC c) (dec p))] λh=>by
 refine aB ahK (Ys c p) ⟨0,?_⟩;unfold Ys onP;rw[dT h];cases gR (dC c) (dec p)<;>rfl
theorem cM{j k:Nat}{x:BP}(h:okP j x)(hj:j<=k)(hk:k<=480000):okP k x:=by
 obtain⟨p,rfl,bp,rp⟩:=bR h;exact amZ (aL hj hk)
theorem bZ{j k:Nat}{c:BCU}(h:okC j c)(hj:j<=k)(hk:k<=480000):okC k c:=⟨h.1,h.2.1,cM h.2.2.1 hj hk,cM h.2.2.2 hj hk⟩
theorem wT{c:BCU}(hc:okC 580 c){v:Rat×Rat}[bv:Bd v 200]:Bd (kN (dC c) v) 15000/\Rdd (kN (dC c) v):=by
 obtain⟨ar,li,ci,cw,fr,to⟩:=c;have h3:=hc.2.2.1;have h4:=hc.2.2.2;simp only at h3 h4;obtain⟨fr,rfl,bf,rf⟩:=bR h3;obtain⟨to,rfl,bt,rt⟩:=bR h4;have he:Bd (rX (sqP fr v) (sqP to v)) 15000:=(inferInstance:Bd (rX (sqP fr v) (sqP to v)) _).mono (by decide);cases ar
 ·obtain⟨c2,c3⟩:=hc.2.1 rfl;simp only at c2 c3;obtain⟨li,rfl,bl⟩:=aD c2;unfold kN yB;simp only[dC,lnC,frC,toC,aA,cond_false];cases nU (false,li,dec ci,cw,fr,to) (atP v)
  ·exact⟨he,OE⟩
  ·exact⟨(inferInstance:Bd ((aW (cD v (cQ li v)) (cD v (cQ li v)),0,0):Rt) _).mono (by decide),ae7⟩
 ·obtain⟨c1,hq⟩:=hc.1 rfl;simp only at c1 hq;obtain⟨ci,rfl,bc⟩:=aD c1;rw[aA]at hq;have hC:Cir ci:=⟨hq⟩
  unfold kN yB;simp only[dC,lnC,frC,toC,ciC,aY,aA,cond_true];cases df (true,dec li,ci,cw,fr,to) (cD (ctr ci) v)
  ·exact⟨he,OE⟩
  ·have b2:Bd (-2:Rat) 3:=cN (n:= -2) (by decide);exact⟨(inferInstance:Bd (mkR (aW (cD (ctr ci) v) (cD (ctr ci) v)+ci.2.2) (-2) (aW (cD (ctr ci) v) (cD (ctr ci) v)*ci.2.2)) _).mono (by decide),u7⟩
def agh:List En:=[enL IG]
def Ym(a b:BV)(_k:KT):OLR:=og (o2 b.1 a.1) (og (o2 b.2 a.2) (some [RV.d tV (hSu b.1 a.1,hSu b.2 a.2)]))
def ai2:Cn 293 [tV,tV]:=cn λ(a b:BV)=>lf (ok (Rat×Rat) 10000 a/\ok (Rat×Rat) 10000 b) [.d tV (enc (cD (dec a) (dec b)))] λh=>by
 refine aB agh (Ym a b) ⟨0,?_⟩;obtain⟨ha,hb⟩:=h;obtain⟨a,rfl,ba⟩:=aD ha;obtain⟨b,rfl,bb⟩:=aD hb;unfold Ym;simp only[aU,Nat.reduceLeDiff];try rfl
def Fh:List En:=[⟨54,gi,eg⟩,⟨133,lU,ib⟩,⟨125,jh,fE⟩,⟨67,iA,fi⟩,⟨245,xY,ui⟩,⟨132,jw,fO⟩,⟨65,je,fH⟩,enL Zn,enL A8,enL Jz,enL Za,enL Yn,enT Jx,enL Rh,enT Er,enT QB,enL Rl,enL IG,enL Mj,enL ai2,enL ajb,enL SP]
def Yj(a b c:BR)(_k:KT):OLR:=og (decide (ok Rat 100000 a/\ok Rat 100000 b/\ok Rat 100000 c/\0<=ah c)) (match 0 !=0 with|true=>(og (o1 a) (some [RV.d tO (hid (enc ((ah a,0,0):Rt)))]))|false=>some [RV.d tO (hid (enc (mkR (ah a) (ah b) (ah c))))])
def YC:Cn 124 [tR,tR,tR]:=cn λ(a b c:BR)=>lf (ok Rat 100000 a/\ok Rat 100000 b/\ok Rat 100000 c/\0<=ah c) [.d tO (enc (mkR (ah a) (ah b) (ah c)))] λh=>by
 refine aB Fh (Yj a b c) ⟨0,?_⟩;obtain⟨ha,hb,hc,hn⟩:=h;unfold Yj;rw[dT ⟨ha,hb,hc,hn⟩];simp only[bL];rfl
def aa6(v:BV)(_k:KT):OLR:=og (o1 v.1) (match(aE (ah v.1) 0)==0 with|true=>(og (o1 v.2) (some [RV.d .bool ((aE (ah v.2) 0)==0)]))|false=>some [RV.d .bool false])
def agX:Cn 229 [tV]:=cn λ(v:BV)=>lf (ok (Rat×Rat) 100000 v) [.d .bool (zeV (dec v))] λh=>by
 refine aB Fh (aa6 v) ⟨0,?_⟩;have hv:=h;obtain⟨v,rfl,bv⟩:=aD hv;unfold aa6;simp only[aU,Nat.reduceLeDiff,aq];unfold zeV;cases decide (v.1=0)<;>rfl
def ahk:Ctx:=CX (ens Fh) []
def ahr(c:BCU)(_k:KT):OLR:=some [RV.d tV (c.2.2.1.1,c.2.2.1.2.1)]
theorem aia(c:BCU):RS ahk 128 [.d tCU c] (ahr c):=rsX
def Zd:Cn 128 [tCU]:=cn λ(c:BCU)=>lf True [.d tV (c.2.2.1.1,c.2.2.1.2.1)] λ_=>by
 exact da Fh (aia _ ⟨0,rfl⟩)
def OR:List En:=enL YC::enT agX::enL Zd::Fh
def Zh(l:BO3)(p:BP)(_k:KT):OLR:=og (o1 l.2.1) (og (o2 (hNe l.2.1) p.1) (og (o2 l.1 p.2.2.1) (og (o2 (hMu (hNe l.2.1) p.1) (hMu l.1 p.2.2.1)) (og (o2 (hNe l.2.1) p.2.1) (og (o2 l.1 p.2.2.2.1) (og (o2 (hMu (hNe l.2.1) p.2.1) (hMu l.1 p.2.2.2.1)) (og (decide (ok Rat 100000 (hAd (hMu (hNe l.2.1) p.1) (hMu l.1 p.2.2.1))/\ok Rat 100000 (hAd (hMu (hNe l.2.1) p.2.1) (hMu l.1 p.2.2.2.1))/\ok Rat 100000 p.2.2.2.2/\0<=ah p.2.2.2.2)) (some [RV.d tO (hid (enc (mkR (ah (hAd (hMu (hNe l.2.1) p.1) (hMu l.1 p.2.2.1))) (ah (hAd (hMu (hNe l.2.1) p.2.1) (hMu l.1 p.2.2.2.1))) (ah p.2.2.2.2))))]))))))))
def agv:Cn 219 [tO,tP]:=cn λ(l:BO3) (p:BP)=>lf (ok Ln 300 l/\okP 4000 p) [.d tO (enc (fq (dec l) (dec p)))] λh=>by
 refine aB OR (Zh l p) ⟨0,?_⟩;obtain⟨hl,hp⟩:=h;obtain⟨l,rfl,bl⟩:=aD hl;obtain⟨p,rfl,bp,rp⟩:=bR hp;have hn:0<=p.2.2.2.2:=rp.nn;unfold Zh;simp only[aU,Nat.reduceAdd,Nat.reduceLeDiff,dT hn];rfl
def aab(a b:BO3)(_k:KT):OLR:=og (decide (okT 15000 b/\okT 15000 a)) (match decide ((bh (dec b) (dec a))<0)with|true=>some [RV.d tO b]|false=>some [RV.d tO a])
def aj8:Cn 292 [tO,tO]:=cn λ(a b:BO3)=>lf (okT 15000 a/\okT 15000 b) [.d tO (enc (rX (dec a) (dec b)))] λh=>by
 refine aB OR (aab a b) ⟨0,?_⟩;obtain⟨ha,hb⟩:=h;obtain⟨a,rfl,ba,ra⟩:=fU ha;obtain⟨b,rfl,bb,rb⟩:=fU hb;unfold aab rX;simp only[aU,Nat.reduceLeDiff,aK];cases decide (bh b a<0)<;>rfl
def QJ:List En:=enL agv::enL aj8::OR
def X2(c:BCU)(p:BP)(_k:KT):OLR:=og (decide (ok Ln 300 c.2.1/\okP 4000 p)) (og (decide (ok Ln 300 c.2.1/\okP 4000 c.2.2.2.2.1)) (og (decide (ok Ln 300 c.2.1/\okP 4000 c.2.2.2.2.2)) (og (decide (okT 15000 (hid (enc (fq (dec c.2.1) (dec c.2.2.2.2.1))))/\okT 15000 (hid (enc (fq (dec c.2.1) (dec c.2.2.2.2.2)))))) (match decide ((bh (dec (hid (enc (fq (dec c.2.1) (dec c.2.2.2.2.1))))) (dec (hid (enc (fq (dec c.2.1) (dec c.2.2.2.2.2))))))>0)with|true=>(og (decide (okT 15000 (hid (enc (fq (dec c.2.1) (dec c.2.2.2.2.2))))/\okT 15000 (hid (enc (fq (dec c.2.1) (dec p)))))) (match decide ((bh (dec (hid (enc (fq (dec c.2.1) (dec c.2.2.2.2.2))))) (dec (hid (enc (fq (dec c.2.1) (dec p))))))<=0)with|true=>(og (decide (okT 15000 (hid (enc (fq (dec c.2.1) (dec p))))/\okT 15000 (hid (enc (fq (dec c.2.1) (dec c.2.2.2.2.1)))))) (some [RV.d .bool (decide ((bh (dec (hid (enc (fq (dec c.2.1) (dec p))))) (dec (hid (enc (fq (dec c.2.1) (dec c.2.2.2.2.1))))))<=0))]))|false=>some [RV.d .bool false]))|false=>(og (decide (okT 15000 (hid (enc (fq (dec c.2.1) (dec c.2.2.2.2.1))))/\okT 15000 (hid (enc (fq (dec c.2.1) (dec p)))))) (match decide ((bh (dec (hid (enc (fq (dec c.2.1) (dec c.2.2.2.2.1))))) (dec (hid (enc (fq (dec c.2.1) (dec p))))))<=0)with|true=>(og (decide (okT 15000 (hid (enc (fq (dec c.2.1) (dec p))))/\okT 15000 (hid (enc (fq (dec c.2.1) (dec c.2.2.2.2.2)))))) (some [RV.d .bool (decide ((bh (dec (hid (enc (fq (dec c.2.1) (dec p))))) (dec (hid (enc (fq (dec c.2.1) (dec c.2.2.2.2.2))))))<=0))]))|false=>some [RV.d .bool false]))))))
def XH:Cn 120 [tCU,tP]:=cn λ(c:BCU) (p:BP)=>lf (okC 3000 c/\okP 3000 p/\c.1=false) [.d .bool (nU (dC c) (dec p))] λh=>by
 refine aB QJ (X2 c p) ⟨0,?_⟩;obtain⟨hc,hp,h0⟩:=h;obtain⟨p,rfl,bp,rp⟩:=bR hp;obtain⟨ar,li,ci,cw,fr,to⟩:=c;simp only at h0;subst h0;obtain⟨_,c2,c3,c4⟩:=hc;obtain⟨c2,_⟩:=c2 rfl;simp only at c2 c3 c4;obtain⟨li,rfl,bl⟩:=aD c2;obtain⟨fr,rfl,bf,rf⟩:=bR c3;obtain⟨to,rfl,bt,rt⟩:=bR c4;unfold X2 nU;simp only[dC,lnC,frC,toC,aU,Nat.reduceAdd,Nat.reduceMul,Nat.reduceLeDiff,aK,aL];cases decide (bh (fq li fr) (fq li to)>0)
 ·cases decide (bh (fq li fr) (fq li p)<=0)<;>rfl
 ·cases decide (bh (fq li to) (fq li p)<=0)<;>rfl
def ZT(c:BCU)(v:BV)(_k:KT):OLR:=match !c.1 with|true=>some [RV.d .bool c.1]|false=>(og (decide (ok (Rat×Rat) 100000 v)) (match zeV (dec v)with|true=>some [RV.d .bool c.1]|false=>(og (decide (ok (Rat×Rat) 5000 v/\ok (Rat×Rat) 5000 v)) (og (decide (iS c.2.2.1.2.2 (hid (ao (aW (dec v) (dec v)))))) (og (decide (ok Rat 100000 c.2.2.1.1/\ok Rat 100000 v.1/\ok Rat 100000 (hDi c.2.2.1.2.2 (hid (ao (aW (dec v) (dec v)))))/\0<=ah (hDi c.2.2.1.2.2 (hid (ao (aW (dec v) (dec v))))))) (og (decide (ok Rat 100000 c.2.2.1.2.1/\ok Rat 100000 v.2/\ok Rat 100000 (hDi c.2.2.1.2.2 (hid (ao (aW (dec v) (dec v)))))/\0<=ah (hDi c.2.2.1.2.2 (hid (ao (aW (dec v) (dec v))))))) (og (decide (okT 15000 (hid (enc (mkR (ah c.2.2.1.1) (ah v.1) (ah (hDi c.2.2.1.2.2 (hid (ao (aW (dec v) (dec v)))))))))/\okT 15000 (hid (enc (mkR (ah c.2.2.1.2.1) (ah v.2) (ah (hDi c.2.2.1.2.2 (hid (ao (aW (dec v) (dec v)))))))))/\uR (dec (hid (enc (mkR (ah c.2.2.1.1) (ah v.1) (ah (hDi c.2.2.1.2.2 (hid (ao (aW (dec v) (dec v)))))))))) (dec (hid (enc (mkR (ah c.2.2.1.2.1) (ah v.2) (ah (hDi c.2.2.1.2.2 (hid (ao (aW (dec v) (dec v)))))))))))) (match 0==0 with|true=>(og (decide (okC 4000 c/\okP 4000 (hid (enc (mkP (dec (hid (enc (mkR (ah c.2.2.1.1) (ah v.1) (ah (hDi c.2.2.1.2.2 (hid (ao (aW (dec v) (dec v)))))))))) (dec (hid (enc (mkR (ah c.2.2.1.2.1) (ah v.2) (ah (hDi c.2.2.1.2.2 (hid (ao (aW (dec v) (dec v))))))))))))))) (some [RV.d .bool (onP (dC c) (dec (hid (enc (mkP (dec (hid (enc (mkR (ah c.2.2.1.1) (ah v.1) (ah (hDi c.2.2.1.2.2 (hid (ao (aW (dec v) (dec v)))))))))) (dec (hid (enc (mkR (ah c.2.2.1.2.1) (ah v.2) (ah (hDi c.2.2.1.2.2 (hid (ao (aW (dec v) (dec v)))))))))))))))]))|false=>some [RV.d .bool false]))))))))
def ZU:Cn 134 [tCU,tV]:=cn λ(c:BCU) (v:BV)=>lf (okC 580 c/\ok (Rat×Rat) 510 v) [.d .bool (df (dC c) (dec v))] λh=>by
 refine aB QJ (ZT c v) ⟨0,?_⟩;obtain⟨hc,hv⟩:=h;obtain⟨v,rfl,bv⟩:=aD hv;have hc4:=bZ (k:=4000) hc (by decide) (by decide);obtain⟨ar,li,ci,cw,fr,to⟩:=c;cases ar
 ·rfl
 ·obtain⟨c1,_⟩:=hc.1 rfl;have hq:=(hc.1 rfl).2;simp only at c1 hq;obtain⟨ci,rfl,bc⟩:=aD c1;rw[aA]at hq;have hC:Cir ci:=⟨hq⟩
  have o4:=amW hc4;have hn:0<=ci.2.2/aW v v:=(Ot (c:=ci) (d:=v)).le;have om:decide (uR (mkR ci.1 v.1 (ci.2.2/aW v v)) (mkR ci.2.1 v.2 (ci.2.2/aW v v)))=true:=dT (pB _ _ _ _ _);have ry:decide (okP 4000 (enc (mkP (mkR ci.1 v.1 (ci.2.2/aW v v)) (mkR ci.2.1 v.2 (ci.2.2/aW v v)))))=true:=aL (x:=iV ci v) (by decide) (by decide);unfold ZT df;simp only[aU,Nat.reduceAdd,Nat.reduceLeDiff,aK,Bool.not_true];cases hz:zeV v
  ·have hd:=vD hz;simp only[aU,Nat.reduceAdd,Nat.reduceLeDiff,hd,ne_eq,aoh,dT hn,om,o4,ry];show _=some [RV.d .bool (onP _ (iV (dec (enc ci)) v))];rw[aA];rfl
  ·rfl
def NJ:List En:=enT XH::enT ZU::QJ
def afg:NT:=[((234,13),{keep:=[4,19],hl:=0}),((234,29),{keep:=[4,39],hl:=0})]
def agA:Ctx:=CX (ens NJ) afg
def TB(c:BCU)(v:BV)(_k:KT):OLR:=let y1:=hid (enc (atP (dec v)));let y2:=hid (enc (sqP (dec c.2.2.2.2.1) (dec v)));let y3:=hid (enc (sqP (dec c.2.2.2.2.2) (dec v)));let y4:OLR:=match decide (okP 3500 c.2.2.2.2.1/\ok (Rat×Rat) 300 v)with|true=>(og (decide (okP 3500 c.2.2.2.2.2/\ok (Rat×Rat) 300 v)) (og (decide (okT 15000 y2/\okT 15000 y3)) (some [RV.d tO (hid (enc (rX (dec y2) (dec y3))))])))|false=>none;let y5:=hid (enc (cQ (dec c.2.1) (dec v)));let y6:=hid (enc (cD (dec v) (dec y5)));let y7:=hid (ao (aW (dec y6) (dec y6)));let y8:=hid ((c.2.2.1.1,c.2.2.1.2.1));let y9:=hid (enc (cD (dec y8) (dec v)));let y10:=hid (ao (aW (dec y9) (dec y9)));let y11:=hAd y10 c.2.2.1.2.2;let y12:=hid (ao (((-2):Int):Rat));let y13:=hMu y10 c.2.2.1.2.2;match !c.1 with|true=>(og (decide (ok (Rat×Rat) 100000 v)) (og (decide (okC 3000 c/\okP 3000 y1/\c.1=false)) (match !(nU (dC c) (dec y1))with|true=>y4|false=>(og (decide (ok Ln 300 c.2.1/\ok (Rat×Rat) 200 v/\((dec c.2.1:Ln).1≠0\/(dec c.2.1:Ln).2.1≠0))) (og (decide (ok (Rat×Rat) 10000 v/\ok (Rat×Rat) 10000 y5)) (og (decide (ok (Rat×Rat) 5000 y6/\ok (Rat×Rat) 5000 y6)) (og (o1 y7) (some [RV.d tO (hid (enc ((ah y7,0,0):Rt)))]))))))))|false=>(og (decide (ok (Rat×Rat) 10000 y8/\ok (Rat×Rat) 10000 v)) (og (decide (okC 580 c/\ok (Rat×Rat) 510 y9)) (match !(df (dC c) (dec y9))with|true=>y4|false=>(og (decide (ok (Rat×Rat) 5000 y9/\ok (Rat×Rat) 5000 y9)) (og (o2 y10 c.2.2.1.2.2) (og (decide (aI ((-2):Int))) (og (o2 y10 c.2.2.1.2.2) (og (decide (ok Rat 100000 y11/\ok Rat 100000 y12/\ok Rat 100000 y13/\0<=ah y13)) (some [RV.d tO (hid (enc (mkR (ah y11) (ah y12) (ah y13))))])))))))))
theorem ahM(c:BCU)(v:BV):RS agA 234 [.d tCU c,.d tV v] (TB c v):=rsX
def ajl:Cn 234 [tCU,tV]:=cn λ(c:BCU) (v:BV)=>lf (okC 580 c/\ok (Rat×Rat) 200 v) [.d tO (enc (kN (dC c) (dec v)))] λh=>by
 refine da NJ (ahM _ _ ⟨0,?_⟩);obtain⟨hc,hv⟩:=h;obtain⟨v,rfl,bv⟩:=aD hv;have hc4:=bZ (k:=3000) hc (by decide) (by decide);obtain⟨ar,li,ci,cw,fr,to⟩:=c;have h3:=hc.2.2.1;have h4:=hc.2.2.2;simp only at h3 h4;obtain⟨fr,rfl,bf,rf⟩:=bR h3;obtain⟨to,rfl,bt,rt⟩:=bR h4;have o4:=amW hc4;have o5:=amW hc;cases ar
 ·obtain⟨c2,c3⟩:=hc.2.1 rfl;simp only at c2 c3;obtain⟨li,rfl,bl⟩:=aD c2;rw[aA]at c3;unfold TB kN yB;simp only[aU,aC,Nat.reduceAdd,Nat.reduceMul,Nat.reduceLeDiff,aK,aL,o4,c3,Bool.not_false];simp only[dC,lnC,frC,toC,aA,cond_false];cases nU (false,li,dec ci,cw,fr,to) (atP v)<;>rfl
 ·obtain⟨c1,hq⟩:=hc.1 rfl;simp only at c1 hq;obtain⟨ci,rfl,bc⟩:=aD c1;rw[aA]at hq;have hC:Cir ci:=⟨hq⟩
  have hn:0<=aW (cD (ctr ci) v) (cD (ctr ci) v)*ci.2.2:=(JC (c:=ci) (d:=cD (ctr ci) v)).le;have e0:((ao ci.1,ao ci.2.1):BV)=enc (ctr ci):=rfl;have h2:decide (aI (-2))=true:=by decide
  have b2:Bd ((-2:Int):Rat) 3:=cN (by decide);unfold TB kN yB;simp only[aU,Nat.reduceAdd,Nat.reduceMul,Nat.reduceLeDiff,aK,aL,o5,e0,Bool.not_true];simp only[dC,lnC,frC,toC,ciC,aY,aA,cond_true];cases df (true,dec li,ci,cw,fr,to) (cD (ctr ci) v)
  ·rfl
  ·simp only[aU,dT hn,h2];rw[show((-2:Int):Rat)= -2 from rfl];rfl
def ag9:List En:=enL ajl::NJ
def aaZ(c:BCU)(v:BV)(r:BR)(_k:KT):OLR:=og (o1 r) (match decide ((aE (ah r) 0)<0)with|true=>some [RV.d aqh 1]|false=>(og (decide (okC 580 c/\ok (Rat×Rat) 200 v)) (og (o2 r r) (og (decide (okT 15000 (hid (enc (kN (dC c) (dec v))))/\ok Rat 15000 (hMu r r))) (some [RV.d aqh (fY (dec (hid (enc (kN (dC c) (dec v))))) (ah (hMu r r)))])))))
def ahd:Cn 138 [tCU,tV,tR]:=cn λ(c:BCU) (v:BV) (r:BR)=>lf (okC 580 c/\ok (Rat×Rat) 200 v/\ok Rat 1000 r) [.d aqh (kS (dC c) (dec v) (ah r))] λh=>by
 refine aB ag9 (aaZ c v r) ⟨0,?_⟩;obtain⟨hc,hv,hr⟩:=h;obtain⟨v,rfl,bv⟩:=aD hv;obtain⟨r,rfl,br⟩:=aD hr;rw[fd,ct,aA];have od:=wT hc (v:=v);obtain⟨od1,od2⟩:=od;unfold aaZ kS;simp only[aU,Nat.reduceAdd,Nat.reduceLeDiff,aK,au,amW hc];cases decide (r<0)<;>rfl
def Fu:List En:=[enT pJ,enL tC,enL n9,enL qH,enL Pm,enL oN,enL sL,enL RP,enL GT,enL CV,enL PD,enL Rm,enL S9,enT Ku,enL NG,enT FL,enT HH,enL ZX,enL Yh,enL X4,enL ajB]
def YZ(a b:BV)(_k:KT):OLR:=og (o2 b.1 a.1) (og (o2 b.2 a.2) (some [RV.d tV (hSu b.1 a.1,hSu b.2 a.2)]))
def aj3:Cn 144 [tV,tV]:=cn λ(a b:BV)=>lf (ok (Rat×Rat) 10000 a/\ok (Rat×Rat) 10000 b) [.d tV (enc (cD (dec a) (dec b)))] λh=>by
 refine aB Fu (YZ a b) ⟨0,?_⟩;obtain⟨ha,hb⟩:=h;obtain⟨a,rfl,ba⟩:=aD ha;obtain⟨b,rfl,bb⟩:=aD hb;unfold YZ;simp only[aU,Nat.reduceLeDiff];try rfl
def aer:Ctx:=CX (ens Fu) []
def adn(c:BO3)(_k:KT):OLR:=some [RV.d tV (c.1,c.2.1)]
theorem aeN(c:BO3):RS aer 146 [.d tO c] (adn c):=rsX
def aet:Cn 146 [tO]:=cn λ(c:BO3)=>lf True [.d tV (c.1,c.2.1)] λ_=>by
 exact da Fu (aeN _ ⟨0,rfl⟩)
def Y9(a b:BO3)(_k:KT):OLR:=og (decide (okT 15000 b/\okT 15000 a)) (match decide ((bh (dec b) (dec a))<0)with|true=>some [RV.d tO b]|false=>some [RV.d tO a])
def agH:Cn 141 [tO,tO]:=cn λ(a b:BO3)=>lf (okT 15000 a/\okT 15000 b) [.d tO (enc (rX (dec a) (dec b)))] λh=>by
 refine aB Fu (Y9 a b) ⟨0,?_⟩;obtain⟨ha,hb⟩:=h;obtain⟨a,rfl,ba,ra⟩:=fU ha;obtain⟨b,rfl,bb,rb⟩:=fU hb;unfold Y9 rX;simp only[aU,Nat.reduceLeDiff,aK];cases decide (bh b a<0)<;>rfl
def YH:List En:=enL aj3::enL aet::enL agH::Fu
def aat(c:BO3)(v:BV)(_k:KT):OLR:=og (decide (ok (Rat×Rat) 5000 v/\ok (Rat×Rat) 5000 v)) (og (decide (iS c.2.2 (hid (ao (aW (dec v) (dec v)))))) (og (decide (aI (0:Int))) (og (decide (ok Rat 100000 (hid (ao ((0:Int):Rat)))/\ok Rat 100000 v.1/\ok Rat 100000 (hDi c.2.2 (hid (ao (aW (dec v) (dec v)))))/\0<=ah (hDi c.2.2 (hid (ao (aW (dec v) (dec v))))))) (og (decide (ok Rat 100000 (hid (ao ((0:Int):Rat)))/\ok Rat 100000 v.2/\ok Rat 100000 (hDi c.2.2 (hid (ao (aW (dec v) (dec v)))))/\0<=ah (hDi c.2.2 (hid (ao (aW (dec v) (dec v))))))) (og (decide (okT 15000 (hid (enc (mkR (ah (hid (ao ((0:Int):Rat)))) (ah v.1) (ah (hDi c.2.2 (hid (ao (aW (dec v) (dec v)))))))))/\okT 15000 (hid (enc (mkR (ah (hid (ao ((0:Int):Rat)))) (ah v.2) (ah (hDi c.2.2 (hid (ao (aW (dec v) (dec v)))))))))/\uR (dec (hid (enc (mkR (ah (hid (ao ((0:Int):Rat)))) (ah v.1) (ah (hDi c.2.2 (hid (ao (aW (dec v) (dec v)))))))))) (dec (hid (enc (mkR (ah (hid (ao ((0:Int):Rat)))) (ah v.2) (ah (hDi c.2.2 (hid (ao (aW (dec v) (dec v)))))))))))) (og (decide (ok Pt 21000 (hid (enc (mkP (dec (hid (enc (mkR (ah (hid (ao ((0:Int):Rat)))) (ah v.1) (ah (hDi c.2.2 (hid (ao (aW (dec v) (dec v)))))))))) (dec (hid (enc (mkR (ah (hid (ao ((0:Int):Rat)))) (ah v.2) (ah (hDi c.2.2 (hid (ao (aW (dec v) (dec v)))))))))))))/\ok (Rat×Rat) 1000 (hid ((c.1,c.2.1))))) (some [RV.d tP (hid (enc (trP (dec (hid (enc (mkP (dec (hid (enc (mkR (ah (hid (ao ((0:Int):Rat)))) (ah v.1) (ah (hDi c.2.2 (hid (ao (aW (dec v) (dec v)))))))))) (dec (hid (enc (mkR (ah (hid (ao ((0:Int):Rat)))) (ah v.2) (ah (hDi c.2.2 (hid (ao (aW (dec v) (dec v)))))))))))))) (dec (hid ((c.1,c.2.1)))))))])))))))
def aiA:Cn 240 [tO,tV]:=cn λ(c:BO3) (v:BV)=>lf (rV c/\ok (Rat×Rat) 510 v/\zeV (dec v)=false) [.d tP (enc (iV (dec c) (dec v)))] λh=>by
 refine aB YH (aat c v) ⟨0,?_⟩;obtain⟨⟨hc,hq⟩,hv,hz⟩:=h;obtain⟨ci,rfl,bc⟩:=aD hc;obtain⟨v,rfl,bv⟩:=aD hv;rw[aA]at hq hz;have hC:Cir ci:=⟨hq⟩
 have hd:=vD hz;have hn:0<=ci.2.2/aW v v:=(Ot (c:=ci) (d:=v)).le;have om:decide (uR (mkR 0 v.1 (ci.2.2/aW v v)) (mkR 0 v.2 (ci.2.2/aW v v)))=true:=dT (pB _ _ _ _ _);have b1:Bd (mkR 0 v.1 (ci.2.2/aW v v)) 15000:=(inferInstance:Bd (mkR 0 v.1 (ci.2.2/aW v v)) _).mono (by decide);have b2:Bd (mkR 0 v.2 (ci.2.2/aW v v)) 15000:=(inferInstance:Bd (mkR 0 v.2 (ci.2.2/aW v v)) _).mono (by decide);have e0:(dec ((ao ci.1,ao ci.2.1):BV):Rat×Rat)=ctr ci:=aA (ctr ci);have e1:decide (ok (Rat×Rat) 1000 ((ao ci.1,ao ci.2.1):BV))=true:=okd (x:=ctr ci) (by decide) (by decide);have z0:((0:Int):Rat)=0:=rfl;have i0:decide (aI 0)=true:=by decide
 unfold aat
 simp only[aU,Nat.reduceAdd,Nat.reduceLeDiff,aK,hd,ne_eq,aoh,z0,i0,dT hn,om,e0,e1];rw[acd]
def Zb:List En:=enL aiA::YH
def YV(c:BCU)(v:BV)(_k:KT):OLR:=match !c.1 with|true=>some [RV.d .bool false]|false=>(og (o1 v.1) (match(aE (ah v.1) 0)==0 with|true=>(og (o1 v.2) (match(aE (ah v.2) 0)==0 with|true=>some [RV.d .bool true]|false=>(og (decide (rV c.2.2.1/\ok (Rat×Rat) 510 v/\zeV (dec v)=false)) (og (decide (okC 3500 c/\okP 3500 (hid (enc (iV (dec c.2.2.1) (dec v)))))) (some [RV.d .bool (onR (dC c) (dec (hid (enc (iV (dec c.2.2.1) (dec v))))))])))))|false=>(og (decide (rV c.2.2.1/\ok (Rat×Rat) 510 v/\zeV (dec v)=false)) (og (decide (okC 3500 c/\okP 3500 (hid (enc (iV (dec c.2.2.1) (dec v)))))) (some [RV.d .bool (onR (dC c) (dec (hid (enc (iV (dec c.2.2.1) (dec v))))))])))))
def ajF:Cn 147 [tCU,tV]:=cn λ(c:BCU) (v:BV)=>lf (gdC c/\ok (Rat×Rat) 510 v) [.d .bool (df (dC c) (dec v))] λh=>by
 refine aB Zb (YV c v) ⟨0,?_⟩;obtain⟨hg,hv⟩:=h;obtain⟨v,rfl,bv⟩:=aD hv;have hc35:=bZ (k:=3500) hg.1 (by decide) (by decide);have gon:=λ{p:Pt} (hp:Rpd p)=>ZD hg hp;obtain⟨ar,li,ci,cw,fr,to⟩:=c;cases ar
 ·rfl
 ·have hc:=hg.1;obtain⟨c1,hq⟩:=hc.1 rfl;have hci:rV ci:=⟨c1,hq⟩
  simp only at c1 hq;obtain⟨ci,rfl,bc⟩:=aD c1;rw[aA]at hq;have hC:Cir ci:=⟨hq⟩
  have o35:=amW hc35;have oci:=amW hci;have ry:decide (okP 3500 (enc (iV ci v)))=true:=aL (by decide) (by decide);have go:onR (dC (true,li,enc ci,cw,fr,to)) (iV ci v)=onP (dC (true,li,enc ci,cw,fr,to)) (iV ci v):=gon adF
  have tw:df (dC (true,li,enc ci,cw,fr,to)) v=bif !(zeV v)then onP (dC (true,li,enc ci,cw,fr,to)) (iV ci v)else true:=by
   unfold df;show(bif true&&!(zeV v)then onP _ (iV (dec (enc ci)) v)else true)=_;rw[aA];rfl
  rw[aA,tw];unfold YV;simp only[aU,Nat.reduceLeDiff,aq,Bool.not_true,oci,o35,ry,go];have hz:zeV v=(decide (v.1=0)&&decide (v.2=0)):=rfl;rw[hz];cases h1:decide (v.1=0)
  ·simp
  ·cases h2:decide (v.2=0)
   ·simp
   ·rfl
def Xr:List En:=enT ajF::Zb
def P8(c:BCU)(v:BV)(_k:KT):OLR:=let y1:=hid (enc (sqP (dec c.2.2.2.2.1) (dec v)));let y2:=hid (enc (sqP (dec c.2.2.2.2.2) (dec v)));let y3:=hid (enc (cQ (dec c.2.1) (dec v)));let y4:=hid (enc (atP (dec y3)));let y5:=hid (enc (cD (dec v) (dec y3)));let y6:=hid (ao (aW (dec y5) (dec y5)));let y7:=hid (enc (rX (dec y1) (dec y2)));let y8:=hid ((c.2.2.1.1,c.2.2.1.2.1));let y9:=hid (enc (cD (dec y8) (dec v)));let y10:=hid (ao (aW (dec y9) (dec y9)));let y11:=hAd y10 c.2.2.1.2.2;let y12:=hid (ao (((-2):Int):Rat));let y13:=hMu y10 c.2.2.1.2.2;og (decide (okP 3500 c.2.2.2.2.1/\ok (Rat×Rat) 300 v)) (og (decide (okP 3500 c.2.2.2.2.2/\ok (Rat×Rat) 300 v)) (og (decide (okT 15000 y1/\okT 15000 y2)) (match !c.1 with|true=>(og (decide (ok Ln 300 c.2.1/\ok (Rat×Rat) 200 v/\((dec c.2.1:Ln).1≠0\/(dec c.2.1:Ln).2.1≠0))) (og (decide (ok (Rat×Rat) 100000 y3)) (og (decide (okC 3500 c/\okP 3500 y4)) (match onR (dC c) (dec y4)with|true=>(og (decide (ok (Rat×Rat) 10000 v/\ok (Rat×Rat) 10000 y3)) (og (decide (ok (Rat×Rat) 5000 y5/\ok (Rat×Rat) 5000 y5)) (og (o1 y6) (some [RV.d tO (hid (enc ((ah y6,0,0):Rt)))]))))|false=>some [RV.d tO y7]))))|false=>(og (decide (ok (Rat×Rat) 10000 y8/\ok (Rat×Rat) 10000 v)) (og (decide (gdC c/\ok (Rat×Rat) 510 y9)) (match !(df (dC c) (dec y9))with|true=>some [RV.d tO y7]|false=>(og (decide (ok (Rat×Rat) 5000 y9/\ok (Rat×Rat) 5000 y9)) (og (o2 y10 c.2.2.1.2.2) (og (decide (aI ((-2):Int))) (og (o2 y10 c.2.2.1.2.2) (og (decide (ok Rat 100000 y11/\ok Rat 100000 y12/\ok Rat 100000 y13/\0<=ah y13)) (some [RV.d tO (hid (enc (mkR (ah y11) (ah y12) (ah y13))))]))))))))))))
def ahI:Cn 59 [tCU,tV]:=cn λ(c:BCU) (v:BV)=>lf (gdC c/\ok (Rat×Rat) 200 v) [.d tO (enc (kN (dC c) (dec v)))] λh=>by
 refine aB Xr (P8 c v) ⟨0,?_⟩;obtain⟨hg,hv⟩:=h;obtain⟨v,rfl,bv⟩:=aD hv;have hc35:=bZ (k:=3500) hg.1 (by decide) (by decide);have gon:=λ{p:Pt} (hp:Rpd p)=>ZD hg hp;have hbo:=aeH hg;have hc:=hg.1;obtain⟨ar,li,ci,cw,fr,to⟩:=c;have h3:=hc.2.2.1;have h4:=hc.2.2.2;simp only at h3 h4;obtain⟨fr,rfl,bf,rf⟩:=bR h3;obtain⟨to,rfl,bt,rt⟩:=bR h4;have o4:=amW hc35;have o5:=amW hg;cases ar
 ·obtain⟨c2,c3⟩:=hc.2.1 rfl;simp only at c2 c3;obtain⟨li,rfl,bl⟩:=aD c2;rw[aA]at c3
  have gb:onR (dC (false,enc li,ci,cw,enc fr,enc to)) (atP (cQ li v))=nU (dC (false,enc li,ci,cw,enc fr,enc to)) (atP v):=by
   rw[gon afX];have:=hbo rfl v;rw[show lnC (dC (false,enc li,ci,cw,enc fr,enc to))=li from aA li]at this;exact this
  unfold P8 kN yB;simp only[aU,aC,Nat.reduceAdd,Nat.reduceMul,Nat.reduceLeDiff,aK,aL,o4,c3,gb,Bool.not_false];simp only[dC,lnC,frC,toC,aA,cond_false];cases nU (false,li,dec ci,cw,fr,to) (atP v)<;>rfl
 ·obtain⟨c1,hq⟩:=hc.1 rfl;simp only at c1 hq;obtain⟨ci,rfl,bc⟩:=aD c1;rw[aA]at hq;have hC:Cir ci:=⟨hq⟩
  have hn:0<=aW (cD (ctr ci) v) (cD (ctr ci) v)*ci.2.2:=(JC (c:=ci) (d:=cD (ctr ci) v)).le;have e0:((ao ci.1,ao ci.2.1):BV)=enc (ctr ci):=rfl;have h2:decide (aI (-2))=true:=by decide
  have b2:Bd ((-2:Int):Rat) 3:=cN (by decide);unfold P8 kN yB;simp only[aU,Nat.reduceAdd,Nat.reduceMul,Nat.reduceLeDiff,aK,aL,o5,e0,Bool.not_true];simp only[dC,lnC,frC,toC,ciC,aY,aA,cond_true];cases df (true,dec li,ci,cw,fr,to) (cD (ctr ci) v)
  ·rfl
  ·simp only[aU,dT hn,h2];rw[show((-2:Int):Rat)= -2 from rfl];rfl
def agi:List En:=enL ahI::Xr
def Y4(c:BCU)(v:BV)(r:BR)(_k:KT):OLR:=og (o1 r) (match decide ((aE (ah r) 0)<0)with|true=>some [RV.d aqh 1]|false=>(og (decide (gdC c/\ok (Rat×Rat) 200 v)) (og (o2 r r) (og (decide (okT 15000 (hid (enc (kN (dC c) (dec v))))/\ok Rat 15000 (hMu r r))) (some [RV.d aqh (fY (dec (hid (enc (kN (dC c) (dec v))))) (ah (hMu r r)))])))))
def agd:Cn 18 [tCU,tV,tR]:=cn λ(c:BCU) (v:BV) (r:BR)=>lf (gdC c/\ok (Rat×Rat) 200 v/\ok Rat 1000 r) [.d aqh (kS (dC c) (dec v) (ah r))] λh=>by
 refine aB agi (Y4 c v r) ⟨0,?_⟩;obtain⟨hc,hv,hr⟩:=h;obtain⟨v,rfl,bv⟩:=aD hv;obtain⟨r,rfl,br⟩:=aD hr;rw[fd,ct,aA];obtain⟨od1,od2⟩:=wT hc.1 (v:=v);unfold Y4 kS;simp only[aU,Nat.reduceAdd,Nat.reduceLeDiff,aK,au,amW hc];cases decide (r<0)<;>rfl
abbrev r00:BR:=((false,[]),(false,[]))
abbrev o00:BO3:=(r00,r00,r00)
abbrev p00:BP:=(r00,r00,r00,r00,r00)
abbrev c00:BCU:=(false,o00,o00,false,p00,p00)
def uv(a b:Rat×Rat):Ln:=(a.2-b.2,b.1-a.1,(a.2-b.2)*a.1+(b.1-a.1)*a.2)
def z4(a b:Rat×Rat):Bool:=decide (a.2-b.2=0)&&decide (b.1-a.1=0)
def T9(a b:Rat×Rat):BO3:=bif z4 a b then o00 else enc (uv a b)
def Wb(a b:Rat×Rat):Int:=bif z4 a b then 6 else 0
def fv(a b c:Rat×Rat):Rat:=(b.1-a.1)*(c.2-a.2)-(b.2-a.2)*(c.1-a.1)
def zj(a b c:Rat×Rat):Rat:=(((b.1-a.1)*(b.1-a.1)+(b.2-a.2)*(b.2-a.2))*(c.2-a.2)-((c.1-a.1)*(c.1-a.1)+(c.2-a.2)*(c.2-a.2))*(b.2-a.2))/(fv a b c+fv a b c)
def xJ(a b c:Rat×Rat):Rat:=(((c.1-a.1)*(c.1-a.1)+(c.2-a.2)*(c.2-a.2))*(b.1-a.1)-((b.1-a.1)*(b.1-a.1)+(b.2-a.2)*(b.2-a.2))*(c.1-a.1))/(fv a b c+fv a b c)
def rW(a b c:Rat×Rat):Ln:=(a.1+zj a b c,a.2+xJ a b c,zj a b c*zj a b c+xJ a b c*xJ a b c)
def T0(a b c:Rat×Rat):BO3:=bif decide (fv a b c=0)then o00 else enc (rW a b c)
def TP(a b c:Rat×Rat):Int:=bif decide (fv a b c=0)then 6 else 0
def yE(a b c:Rat×Rat):Int:=aE ((b.1-a.1)*(c.2-a.2)) ((b.2-a.2)*(c.1-a.1))
def ka(a b:Rat×Rat):BCU:=bif z4 a b then c00 else(false,enc (uv a b),o00,false,enc (atP a),enc (atP b))
def segE(a b:Rat×Rat):Int:=bif z4 a b then 6 else 0
def mR(a b c:Rat×Rat):BCU:=bif decide (fv a b c=0)then c00 else(true,o00,enc (rW a b c),decide (yE a b c<0),enc (atP a),enc (atP c))
def arcE(a b c:Rat×Rat):Int:=bif decide (fv a b c=0)then 6 else 0
theorem abu(a b c:Rat×Rat):(yE a b c==0)=decide (fv a b c=0):=by
 unfold yE fv;rw[aq];exact an7.2 (by constructor<;>intro h<;>grind)
instance amp {a b:Rat×Rat} {i j:Nat} [h:Bd a i] [h':Bd b j]:Bd (uv a b) (4*i+2*j+3):=by
 have i1:Bd ((a.2-b.2,b.1-a.1,(a.2-b.2)*a.1+(b.1-a.1)*a.2):Ln) _:=inferInstance;exact i1.mono (fZ (by omega) (fZ (by omega) (by omega)))
def Ie:List En:=[enT pJ,enT wq,enL sL,enL qH,enL CV,enL Tp,enL Q7,enL HD,enL Sv]
def Ow(a b:BV)(_k:KT):OLR:=og (o2 a.2 b.2) (og (o2 b.1 a.1) (og (o1 (hSu a.2 b.2)) (match(aE (ah (hSu a.2 b.2)) 0)==0 with|true=>(og (o1 (hSu b.1 a.1)) (match(aE (ah (hSu b.1 a.1)) 0)==0 with|true=>some [RV.d tO (((false,[]),(false,[])),(((false,[]),(false,[])),((false,[]),(false,[])))),RV.d aqh 6]|false=>(og (o2 (hSu a.2 b.2) a.1) (og (o2 (hSu b.1 a.1) a.2) (og (o2 (hMu (hSu a.2 b.2) a.1) (hMu (hSu b.1 a.1) a.2)) (some [RV.d tO (hSu a.2 b.2,(hSu b.1 a.1,hAd (hMu (hSu a.2 b.2) a.1) (hMu (hSu b.1 a.1) a.2))),RV.d aqh 0]))))))|false=>(og (o2 (hSu a.2 b.2) a.1) (og (o2 (hSu b.1 a.1) a.2) (og (o2 (hMu (hSu a.2 b.2) a.1) (hMu (hSu b.1 a.1) a.2)) (some [RV.d tO (hSu a.2 b.2,(hSu b.1 a.1,hAd (hMu (hSu a.2 b.2) a.1) (hMu (hSu b.1 a.1) a.2))),RV.d aqh 0])))))))
def ae2:Cn 111 [tV,tV]:=cn λ(a b:BV)=>lf (ok (Rat×Rat) 100 a/\ok (Rat×Rat) 100 b) [.d tO (T9 (dec a) (dec b)),.d aqh (Wb (dec a) (dec b))] λh=>by
 refine aB Ie (Ow a b) ⟨0,?_⟩;obtain⟨ha,hb⟩:=h;obtain⟨a,rfl,ba⟩:=aD ha;obtain⟨b,rfl,bb⟩:=aD hb;unfold Ow T9 Wb z4;simp only[aU,Nat.reduceAdd,Nat.reduceLeDiff,aq];cases decide (a.2-b.2=0)<;>cases decide (b.1-a.1=0)<;>rfl
def XU(a b c:BV)(_k:KT):OLR:=og (o2 b.1 a.1) (og (o2 c.2 a.2) (og (o2 (hSu b.1 a.1) (hSu c.2 a.2)) (og (o2 b.2 a.2) (og (o2 c.1 a.1) (og (o2 (hSu b.2 a.2) (hSu c.1 a.1)) (og (o2 (hMu (hSu b.1 a.1) (hSu c.2 a.2)) (hMu (hSu b.2 a.2) (hSu c.1 a.1))) (some [RV.d aqh (aE (ah (hMu (hSu b.1 a.1) (hSu c.2 a.2))) (ah (hMu (hSu b.2 a.2) (hSu c.1 a.1))))])))))))
def ain:Cn 112 [tV,tV,tV]:=cn λ(a b c:BV)=>lf (ok (Rat×Rat) 100 a/\ok (Rat×Rat) 100 b/\ok (Rat×Rat) 100 c) [.d aqh (yE (dec a) (dec b) (dec c))] λh=>by
 refine aB Ie (XU a b c) ⟨0,?_⟩;obtain⟨ha,hb,hc⟩:=h;obtain⟨a,rfl,ba⟩:=aD ha;obtain⟨b,rfl,bb⟩:=aD hb;obtain⟨c,rfl,bc⟩:=aD hc;unfold XU;simp only[aU,Nat.reduceAdd,Nat.reduceLeDiff];rfl
def Qm(a b c:BV)(_k:KT):OLR:=let y1:=hMu (hSu b.1 a.1) (hSu c.2 a.2);let y2:=hMu (hSu b.2 a.2) (hSu c.1 a.1);let y3:=hMu (hSu b.1 a.1) (hSu b.1 a.1);let y4:=hMu (hSu b.2 a.2) (hSu b.2 a.2);let y5:=hMu (hSu c.1 a.1) (hSu c.1 a.1);let y6:=hMu (hSu c.2 a.2) (hSu c.2 a.2);let y7:=hMu (hAd y3 y4) (hSu c.2 a.2);let y8:=hMu (hAd y5 y6) (hSu b.2 a.2);let y9:=hAd (hSu y1 y2) (hSu y1 y2);let y10:=hMu (hAd y5 y6) (hSu b.1 a.1);let y11:=hMu (hAd y3 y4) (hSu c.1 a.1);let y12:=hDi (hSu y7 y8) y9;let y13:=hDi (hSu y10 y11) y9;og (o2 b.1 a.1) (og (o2 b.2 a.2) (og (o2 c.1 a.1) (og (o2 c.2 a.2) (og (o2 (hSu b.1 a.1) (hSu c.2 a.2)) (og (o2 (hSu b.2 a.2) (hSu c.1 a.1)) (og (o2 y1 y2) (og (o1 (hSu y1 y2)) (match(aE (ah (hSu y1 y2)) 0)==0 with|true=>some [RV.d tO (((false,[]),(false,[])),(((false,[]),(false,[])),((false,[]),(false,[])))),RV.d aqh 6]|false=>(og (o2 (hSu y1 y2) (hSu y1 y2)) (og (o2 (hSu b.1 a.1) (hSu b.1 a.1)) (og (o2 (hSu b.2 a.2) (hSu b.2 a.2)) (og (o2 y3 y4) (og (o2 (hSu c.1 a.1) (hSu c.1 a.1)) (og (o2 (hSu c.2 a.2) (hSu c.2 a.2)) (og (o2 y5 y6) (og (o2 (hAd y3 y4) (hSu c.2 a.2)) (og (o2 (hAd y5 y6) (hSu b.2 a.2)) (og (o2 y7 y8) (og (decide (iS (hSu y7 y8) y9)) (og (o2 (hAd y5 y6) (hSu b.1 a.1)) (og (o2 (hAd y3 y4) (hSu c.1 a.1)) (og (o2 y10 y11) (og (decide (iS (hSu y10 y11) y9)) (og (o2 a.1 y12) (og (o2 a.2 y13) (og (o2 y12 y12) (og (o2 y13 y13) (og (o2 (hMu y12 y12) (hMu y13 y13)) (some [RV.d tO (hAd a.1 y12,(hAd a.2 y13,hAd (hMu y12 y12) (hMu y13 y13))),RV.d aqh 0])))))))))))))))))))))))))))))
def acr:Cn 113 [tV,tV,tV]:=cn λ(a b c:BV)=>lf (ok (Rat×Rat) 100 a/\ok (Rat×Rat) 100 b/\ok (Rat×Rat) 100 c) [.d tO (T0 (dec a) (dec b) (dec c)),.d aqh (TP (dec a) (dec b) (dec c))] λh=>by
 refine aB Ie (Qm a b c) ⟨0,?_⟩;obtain⟨ha,hb,hc⟩:=h;obtain⟨a,rfl,ba⟩:=aD ha;obtain⟨b,rfl,bb⟩:=aD hb;obtain⟨c,rfl,bc⟩:=aD hc;have e0:(b.1-a.1)*(c.2-a.2)-(b.2-a.2)*(c.1-a.1)=fv a b c:=rfl;have bD:Bd (fv a b c) 805:=inferInstanceAs (Bd ((b.1-a.1)*(c.2-a.2)-(b.2-a.2)*(c.1-a.1)) _);have eX:(((b.1-a.1)*(b.1-a.1)+(b.2-a.2)*(b.2-a.2))*(c.2-a.2)-((c.1-a.1)*(c.1-a.1)+(c.2-a.2)*(c.2-a.2))*(b.2-a.2))/(fv a b c+fv a b c)=zj a b c:=rfl;have eY:(((c.1-a.1)*(c.1-a.1)+(c.2-a.2)*(c.2-a.2))*(b.1-a.1)-((b.1-a.1)*(b.1-a.1)+(b.2-a.2)*(b.2-a.2))*(c.1-a.1))/(fv a b c+fv a b c)=xJ a b c:=rfl;have m1:Bd ((b.1-a.1)*(b.1-a.1)+(b.2-a.2)*(b.2-a.2)) _:=inferInstance;have m2:Bd ((c.1-a.1)*(c.1-a.1)+(c.2-a.2)*(c.2-a.2)) _:=inferInstance;have n1:Bd (((b.1-a.1)*(b.1-a.1)+(b.2-a.2)*(b.2-a.2))*(c.2-a.2)-((c.1-a.1)*(c.1-a.1)+(c.2-a.2)*(c.2-a.2))*(b.2-a.2)) _:=inferInstance;have n2:Bd (((c.1-a.1)*(c.1-a.1)+(c.2-a.2)*(c.2-a.2))*(b.1-a.1)-((b.1-a.1)*(b.1-a.1)+(b.2-a.2)*(b.2-a.2))*(c.1-a.1)) _:=inferInstance;have bX0:Bd ((((b.1-a.1)*(b.1-a.1)+(b.2-a.2)*(b.2-a.2))*(c.2-a.2)-((c.1-a.1)*(c.1-a.1)+(c.2-a.2)*(c.2-a.2))*(b.2-a.2))/(fv a b c+fv a b c)) _:=inferInstance;have bX:Bd (zj a b c) 4000:=by rw[<-eX];exact bX0.mono (by decide)
 have bY0:Bd ((((c.1-a.1)*(c.1-a.1)+(c.2-a.2)*(c.2-a.2))*(b.1-a.1)-((b.1-a.1)*(b.1-a.1)+(b.2-a.2)*(b.2-a.2))*(c.1-a.1))/(fv a b c+fv a b c)) _:=inferInstance;have bY:Bd (xJ a b c) 4000:=by rw[<-eY];exact bY0.mono (by decide)
 unfold Qm T0 TP;simp only[aU,Nat.reduceAdd,Nat.reduceLeDiff,aq,e0];by_cases hd:fv a b c=0
 ·rw[amW hd];rfl
 ·have h2:fv a b c+fv a b c≠0:=by grind
  rw[amY hd];simp only[aU,Nat.reduceAdd,Nat.reduceLeDiff,h2,ne_eq,aoh,eX,eY];rfl
def aaO:List En:=enL ae2::enT ain::enL acr::Ie
def PI(a b:BV)(_k:KT):OLR:=og (decide (ok (Rat×Rat) 100 a/\ok (Rat×Rat) 100 b)) (match(Wb (dec a) (dec b)) !=0 with|true=>some [RV.d tCU (false,((((false,[]),(false,[])),(((false,[]),(false,[])),((false,[]),(false,[])))),((((false,[]),(false,[])),(((false,[]),(false,[])),((false,[]),(false,[])))),(false,((((false,[]),(false,[])),(((false,[]),(false,[])),(((false,[]),(false,[])),(((false,[]),(false,[])),((false,[]),(false,[])))))),(((false,[]),(false,[])),(((false,[]),(false,[])),(((false,[]),(false,[])),(((false,[]),(false,[])),((false,[]),(false,[]))))))))))),RV.d aqh 6]|false=>(og (decide (ok (Rat×Rat) 100000 a)) (og (decide (ok (Rat×Rat) 100000 b)) (some [RV.d tCU (false,(hid (T9 (dec a) (dec b)),((((false,[]),(false,[])),(((false,[]),(false,[])),((false,[]),(false,[])))),(false,(hid (enc (atP (dec a))),hid (enc (atP (dec b)))))))),RV.d aqh 0]))))
def OL:Cn 48 [tV,tV]:=cn λ(a b:BV)=>lf (ok (Rat×Rat) 100 a/\ok (Rat×Rat) 100 b) [.d tCU (ka (dec a) (dec b)),.d aqh (segE (dec a) (dec b))] λh=>by
 refine aB aaO (PI a b) ⟨0,?_⟩;obtain⟨ha,hb⟩:=h;obtain⟨a,rfl,ba⟩:=aD ha;obtain⟨b,rfl,bb⟩:=aD hb;unfold PI ka segE Wb T9;simp only[aU,Nat.reduceLeDiff];cases z4 a b<;>rfl
def OB(a b c:BV)(_k:KT):OLR:=og (decide (ok (Rat×Rat) 100 a/\ok (Rat×Rat) 100 b/\ok (Rat×Rat) 100 c)) (og (decide (ok (Rat×Rat) 100 a/\ok (Rat×Rat) 100 b/\ok (Rat×Rat) 100 c)) (match(yE (dec a) (dec b) (dec c))==0 with|true=>some [RV.d tCU (false,((((false,[]),(false,[])),(((false,[]),(false,[])),((false,[]),(false,[])))),((((false,[]),(false,[])),(((false,[]),(false,[])),((false,[]),(false,[])))),(false,((((false,[]),(false,[])),(((false,[]),(false,[])),(((false,[]),(false,[])),(((false,[]),(false,[])),((false,[]),(false,[])))))),(((false,[]),(false,[])),(((false,[]),(false,[])),(((false,[]),(false,[])),(((false,[]),(false,[])),((false,[]),(false,[]))))))))))),RV.d aqh 6]|false=>(match(TP (dec a) (dec b) (dec c)) !=0 with|true=>some [RV.d tCU (false,((((false,[]),(false,[])),(((false,[]),(false,[])),((false,[]),(false,[])))),((((false,[]),(false,[])),(((false,[]),(false,[])),((false,[]),(false,[])))),(false,((((false,[]),(false,[])),(((false,[]),(false,[])),(((false,[]),(false,[])),(((false,[]),(false,[])),((false,[]),(false,[])))))),(((false,[]),(false,[])),(((false,[]),(false,[])),(((false,[]),(false,[])),(((false,[]),(false,[])),((false,[]),(false,[]))))))))))),RV.d aqh 6]|false=>(og (decide (ok (Rat×Rat) 100000 a)) (og (decide (ok (Rat×Rat) 100000 c)) (some [RV.d tCU (true,((((false,[]),(false,[])),(((false,[]),(false,[])),((false,[]),(false,[])))),(hid (T0 (dec a) (dec b) (dec c)),(decide ((yE (dec a) (dec b) (dec c))<0),(hid (enc (atP (dec a))),hid (enc (atP (dec c)))))))),RV.d aqh 0]))))))
def Nc:Cn 49 [tV,tV,tV]:=cn λ(a b c:BV)=>lf (ok (Rat×Rat) 100 a/\ok (Rat×Rat) 100 b/\ok (Rat×Rat) 100 c) [.d tCU (mR (dec a) (dec b) (dec c)),.d aqh (arcE (dec a) (dec b) (dec c))] λh=>by
 refine aB aaO (OB a b c) ⟨0,?_⟩;obtain⟨ha,hb,hc⟩:=h;obtain⟨a,rfl,ba⟩:=aD ha;obtain⟨b,rfl,bb⟩:=aD hb;obtain⟨c,rfl,bc⟩:=aD hc;unfold OB mR arcE;simp only[aU,Nat.reduceLeDiff];rw[abu];unfold TP T0;cases decide (fv a b c=0)<;>rfl
def jn(c:Cv):List BP->BP->List BP
 |[],x=>[x]
 |y::r,x=>bif decide (dt c (dec y) (dec x)<0)then y::jn c r x else bif a8 (dec y) (dec x)==0 then y::r else x::y::r
def jo(c:Cv)(l:List BP):List BP:=l.foldl (jn c) []
def yx(c:BCU)(l:List BP):Prop:=okC 4000 c/\l.length<=1000000/\∀x∈l,okP 4000 x
instance (c:BCU) (l:List BP):Decidable (yx c l):=by unfold yx;infer_instance
theorem qu{c:Cv}{x y:BP}:∀{r:List BP},y∈jn c r x->y∈r\/y=x
 |[],h=>by simp only[jn,apo]at h;exact .inr h
 |z::r,h=>by
  simp only[jn]at h;cases h1:decide (dt c (dec z) (dec x)<0)<;>rw[h1]at h
  ·cases h2:a8 (dec z) (dec x)==0<;>rw[h2]at h
   ·rcases ane.1 h with h|h
    ·exact .inr h
    ·exact .inl h
   ·exact .inl h
  ·rcases ane.1 h with h|h
   ·exact .inl (by simp[h])
   ·rcases qu h with h|h
    ·exact .inl (ana _ h)
    ·exact .inr h
theorem yH(c:Cv)(x:BP):∀r:List BP,(jn c r x).length<=r.length+1
 |[]=>by simp[jn]
 |z::r=>by
  have:=yH c x r;simp only[jn];cases decide (dt c (dec z) (dec x)<0)
  ·cases a8 (dec z) (dec x)==0<;>simp
  ·simp only[cond_true,anb];omega
theorem C6{c:Cv}:∀{l out:List BP} {y:BP},y∈l.foldl (jn c) out->y∈out\/y∈l
 |[],_,_,h=>.inl h
 |x::l,out,y,h=>by
  rcases C6 (l:=l) (out:=jn c out x) h with h|h
  ·rcases qu h with h|h
   ·exact .inl h
   ·exact .inr (by simp[h])
  ·exact .inr (ana _ h)
theorem xx(c:Cv):∀(l out:List BP),(l.foldl (jn c) out).length<=out.length+l.length
 |[],_=>am2 _
 |x::l,out=>by
  have h1:=xx c l (jn c out x);have h2:=yH c x out;simp only[aoS,anb];omega
theorem KF{α:Type}{l:List α}{k:Nat}(h:k<l.length):l.take (k+1)=l.take k++[l[k]]:=by rw[List.take_succ_eq_append_getElem h]
def Zi:List En:=[enT Kw,enT Ku,enT ON]
def adM:NT:=[((34,8),{keep:=[1,2,5,6],pure_:=[(5,tP)],hl:=1}),((34,21),{keep:=[1,2,5,6,7],pure_:=[(5,tP)],hl:=1})]
def wA:Ctx:=CX (ens Zi) adM
def lH(c:BCU)(l:List BP)(s6:Int)(s5:List BP):Cfg:=⟨34,[.blk 0,.seq 38],[(1,.d (.sl tP) l),(2,.box 0 0),(5,.d (.sl tP) s5),(6,SI s6)],[.box 39 [SB c.1,SB c.2.1.1.1.1,.d aqg c.2.1.1.1.2,SB c.2.1.1.2.1,.d aqg c.2.1.1.2.2,SB c.2.1.2.1.1.1,.d aqg c.2.1.2.1.1.2,SB c.2.1.2.1.2.1,.d aqg c.2.1.2.1.2.2,SB c.2.1.2.2.1.1,.d aqg c.2.1.2.2.1.2,SB c.2.1.2.2.2.1,.d aqg c.2.1.2.2.2.2,SB c.2.2.1.1.1.1,.d aqg c.2.2.1.1.1.2,SB c.2.2.1.1.2.1,.d aqg c.2.2.1.1.2.2,SB c.2.2.1.2.1.1.1,.d aqg c.2.2.1.2.1.1.2,SB c.2.2.1.2.1.2.1,.d aqg c.2.2.1.2.1.2.2,SB c.2.2.1.2.2.1.1,.d aqg c.2.2.1.2.2.1.2,SB c.2.2.1.2.2.2.1,.d aqg c.2.2.1.2.2.2.2,SB c.2.2.2.1,SB c.2.2.2.2.1.1.1.1,.d aqg c.2.2.2.2.1.1.1.2,SB c.2.2.2.2.1.1.2.1,.d aqg c.2.2.2.2.1.1.2.2,SB c.2.2.2.2.1.2.1.1.1,.d aqg c.2.2.2.2.1.2.1.1.2,SB c.2.2.2.2.1.2.1.2.1,.d aqg c.2.2.2.2.1.2.1.2.2,SB c.2.2.2.2.1.2.2.1.1.1,.d aqg c.2.2.2.2.1.2.2.1.1.2,SB c.2.2.2.2.1.2.2.1.2.1,.d aqg c.2.2.2.2.1.2.2.1.2.2,SB c.2.2.2.2.1.2.2.2.1.1.1,.d aqg c.2.2.2.2.1.2.2.2.1.1.2,SB c.2.2.2.2.1.2.2.2.1.2.1,.d aqg c.2.2.2.2.1.2.2.2.1.2.2,SB c.2.2.2.2.1.2.2.2.2.1.1,.d aqg c.2.2.2.2.1.2.2.2.2.1.2,SB c.2.2.2.2.1.2.2.2.2.2.1,.d aqg c.2.2.2.2.1.2.2.2.2.2.2,SB c.2.2.2.2.2.1.1.1,.d aqg c.2.2.2.2.2.1.1.2,SB c.2.2.2.2.2.1.2.1,.d aqg c.2.2.2.2.2.1.2.2,SB c.2.2.2.2.2.2.1.1.1,.d aqg c.2.2.2.2.2.2.1.1.2,SB c.2.2.2.2.2.2.1.2.1,.d aqg c.2.2.2.2.2.2.1.2.2,SB c.2.2.2.2.2.2.2.1.1.1,.d aqg c.2.2.2.2.2.2.2.1.1.2,SB c.2.2.2.2.2.2.2.1.2.1,.d aqg c.2.2.2.2.2.2.2.1.2.2,SB c.2.2.2.2.2.2.2.2.1.1.1,.d aqg c.2.2.2.2.2.2.2.2.1.1.2,SB c.2.2.2.2.2.2.2.2.1.2.1,.d aqg c.2.2.2.2.2.2.2.2.1.2.2,SB c.2.2.2.2.2.2.2.2.2.1.1,.d aqg c.2.2.2.2.2.2.2.2.2.1.2,SB c.2.2.2.2.2.2.2.2.2.2.1,.d aqg c.2.2.2.2.2.2.2.2.2.2.2]],0,[]⟩
def xo(c:BCU)(l s5:List BP)(s6 s7:Int):Cfg:=⟨34,[.blk 2,.seq 30,.blk 1,.seq 37,.lp 8,.blk 0,.seq 38],[(1,.d (.sl tP) l),(2,.box 0 0),(5,.d (.sl tP) s5),(6,SI s6),(7,SI s7)],[.box 39 [SB c.1,SB c.2.1.1.1.1,.d aqg c.2.1.1.1.2,SB c.2.1.1.2.1,.d aqg c.2.1.1.2.2,SB c.2.1.2.1.1.1,.d aqg c.2.1.2.1.1.2,SB c.2.1.2.1.2.1,.d aqg c.2.1.2.1.2.2,SB c.2.1.2.2.1.1,.d aqg c.2.1.2.2.1.2,SB c.2.1.2.2.2.1,.d aqg c.2.1.2.2.2.2,SB c.2.2.1.1.1.1,.d aqg c.2.2.1.1.1.2,SB c.2.2.1.1.2.1,.d aqg c.2.2.1.1.2.2,SB c.2.2.1.2.1.1.1,.d aqg c.2.2.1.2.1.1.2,SB c.2.2.1.2.1.2.1,.d aqg c.2.2.1.2.1.2.2,SB c.2.2.1.2.2.1.1,.d aqg c.2.2.1.2.2.1.2,SB c.2.2.1.2.2.2.1,.d aqg c.2.2.1.2.2.2.2,SB c.2.2.2.1,SB c.2.2.2.2.1.1.1.1,.d aqg c.2.2.2.2.1.1.1.2,SB c.2.2.2.2.1.1.2.1,.d aqg c.2.2.2.2.1.1.2.2,SB c.2.2.2.2.1.2.1.1.1,.d aqg c.2.2.2.2.1.2.1.1.2,SB c.2.2.2.2.1.2.1.2.1,.d aqg c.2.2.2.2.1.2.1.2.2,SB c.2.2.2.2.1.2.2.1.1.1,.d aqg c.2.2.2.2.1.2.2.1.1.2,SB c.2.2.2.2.1.2.2.1.2.1,.d aqg c.2.2.2.2.1.2.2.1.2.2,SB c.2.2.2.2.1.2.2.2.1.1.1,.d aqg c.2.2.2.2.1.2.2.2.1.1.2,SB c.2.2.2.2.1.2.2.2.1.2.1,.d aqg c.2.2.2.2.1.2.2.2.1.2.2,SB c.2.2.2.2.1.2.2.2.2.1.1,.d aqg c.2.2.2.2.1.2.2.2.2.1.2,SB c.2.2.2.2.1.2.2.2.2.2.1,.d aqg c.2.2.2.2.1.2.2.2.2.2.2,SB c.2.2.2.2.2.1.1.1,.d aqg c.2.2.2.2.2.1.1.2,SB c.2.2.2.2.2.1.2.1,.d aqg c.2.2.2.2.2.1.2.2,SB c.2.2.2.2.2.2.1.1.1,.d aqg c.2.2.2.2.2.2.1.1.2,SB c.2.2.2.2.2.2.1.2.1,.d aqg c.2.2.2.2.2.2.1.2.2,SB c.2.2.2.2.2.2.2.1.1.1,.d aqg c.2.2.2.2.2.2.2.1.1.2,SB c.2.2.2.2.2.2.2.1.2.1,.d aqg c.2.2.2.2.2.2.2.1.2.2,SB c.2.2.2.2.2.2.2.2.1.1.1,.d aqg c.2.2.2.2.2.2.2.2.1.1.2,SB c.2.2.2.2.2.2.2.2.1.2.1,.d aqg c.2.2.2.2.2.2.2.2.1.2.2,SB c.2.2.2.2.2.2.2.2.2.1.1,.d aqg c.2.2.2.2.2.2.2.2.2.1.2,SB c.2.2.2.2.2.2.2.2.2.2.1,.d aqg c.2.2.2.2.2.2.2.2.2.2.2]],0,[]⟩
def ag5(c:BCU)(l:List BP)(k:KT):OLR:=k 8 (lH c l 0 ([]))
theorem aiV(c:BCU)(l:List BP):RS wA 34 [.d tCU c,.d (.sl tP) l] (ag5 c l):=rsX
def yj(c:BCU)(l:List BP)(s6:Int)(s5:List BP)(k:KT):OLR:=match decide (s6<(l.length:Int))with|true=>k 21 (xo c l s5 s6 0)|false=>some [RV.d (.sl tP) s5]
theorem Ee(c:BCU)(l:List BP)(s6:Int)(s5:List BP):RN wA 8 (lH c l s6 s5) (yj c l s6 s5):=rnX
def wm(c:BCU)(l s5:List BP)(s6 s7:Int)(k:KT):OLR:=match decide (s7<(s5.length:Int))with|true=>(match aT s5 s7 with|some x1=>(match aT l s6 with|some x2=>(og (decide (okC 4000 c/\okP 4000 x1/\okP 4000 x2)) (match decide ((dt (dC c) (dec x1) (dec x2))<0)with|true=>k 21 (xo c l s5 s6 (i64.wrap (s7+1)))|false=>(match decide (s7<(s5.length:Int))with|true=>(match aT s5 s7 with|some x3=>(match aT l s6 with|some x4=>(og (decide (okP 4000 x3/\okP 4000 x4)) (match a8 (dec x3) (dec x4)==0 with|true=>k 8 (lH c l (i64.wrap (s6+1)) s5)|false=>(og (decide ((0:Int)<=0/\0<=s7/\s7<=(s5.length:Int))) (match aT l s6 with|some x5=>(og (decide ((0:Int)<=s7/\s7<=(s5.length:Int)/\(s5.length:Int)<=(s5.length:Int))) (dup (.b (.b .l .l) .l) (og (decide ((([]:List BP).length+((s5.take (s7).toNat).drop (0:Int).toNat).length)*320<=140737488355328/\([]:List BP).length+((s5.take (s7).toNat).drop (0:Int).toNat).length<=140737488355328)) (og (decide (((([]:List BP)++((s5.take (s7).toNat).drop (0:Int).toNat)).length+([x5]).length)*320<=140737488355328/\(([]:List BP)++((s5.take (s7).toNat).drop (0:Int).toNat)).length+([x5]).length<=140737488355328)) (og (decide ((((([]:List BP)++((s5.take (s7).toNat).drop (0:Int).toNat))++([x5])).length+((s5.take ((s5.length:Int)).toNat).drop (s7:Int).toNat).length)*320<=140737488355328/\((([]:List BP)++((s5.take (s7).toNat).drop (0:Int).toNat))++([x5])).length+((s5.take ((s5.length:Int)).toNat).drop (s7:Int).toNat).length<=140737488355328)) (k 8 (lH c l (i64.wrap (s6+1)) (((([]:List BP)++((s5.take (s7).toNat).drop (0:Int).toNat))++([x5]))++((s5.take ((s5.length:Int)).toNat).drop (s7:Int).toNat)))))))))|none=>none))))|none=>none)|none=>none)|false=>(og (decide ((0:Int)<=0/\0<=s7/\s7<=(s5.length:Int))) (match aT l s6 with|some x3=>(og (decide ((0:Int)<=s7/\s7<=(s5.length:Int)/\(s5.length:Int)<=(s5.length:Int))) (dup (.b (.b .l .l) .l) (og (decide ((([]:List BP).length+((s5.take (s7).toNat).drop (0:Int).toNat).length)*320<=140737488355328/\([]:List BP).length+((s5.take (s7).toNat).drop (0:Int).toNat).length<=140737488355328)) (og (decide (((([]:List BP)++((s5.take (s7).toNat).drop (0:Int).toNat)).length+([x3]).length)*320<=140737488355328/\(([]:List BP)++((s5.take (s7).toNat).drop (0:Int).toNat)).length+([x3]).length<=140737488355328)) (og (decide ((((([]:List BP)++((s5.take (s7).toNat).drop (0:Int).toNat))++([x3])).length+((s5.take ((s5.length:Int)).toNat).drop (s7:Int).toNat).length)*320<=140737488355328/\((([]:List BP)++((s5.take (s7).toNat).drop (0:Int).toNat))++([x3])).length+((s5.take ((s5.length:Int)).toNat).drop (s7:Int).toNat).length<=140737488355328)) (k 8 (lH c l (i64.wrap (s6+1)) (((([]:List BP)++((s5.take (s7).toNat).drop (0:Int).toNat))++([x3]))++((s5.take ((s5.length:Int)).toNat).drop (s7:Int).toNat)))))))))|none=>none)))))|none=>none)|none=>none)|false=>(match decide (s7<(s5.length:Int))with|true=>(match aT s5 s7 with|some x1=>(match aT l s6 with|some x2=>(og (decide (okP 4000 x1/\okP 4000 x2)) (match a8 (dec x1) (dec x2)==0 with|true=>k 8 (lH c l (i64.wrap (s6+1)) s5)|false=>(og (decide ((0:Int)<=0/\0<=s7/\s7<=(s5.length:Int))) (match aT l s6 with|some x3=>(og (decide ((0:Int)<=s7/\s7<=(s5.length:Int)/\(s5.length:Int)<=(s5.length:Int))) (dup (.b (.b .l .l) .l) (og (decide ((([]:List BP).length+((s5.take (s7).toNat).drop (0:Int).toNat).length)*320<=140737488355328/\([]:List BP).length+((s5.take (s7).toNat).drop (0:Int).toNat).length<=140737488355328)) (og (decide (((([]:List BP)++((s5.take (s7).toNat).drop (0:Int).toNat)).length+([x3]).length)*320<=140737488355328/\(([]:List BP)++((s5.take (s7).toNat).drop (0:Int).toNat)).length+([x3]).length<=140737488355328)) (og (decide ((((([]:List BP)++((s5.take (s7).toNat).drop (0:Int).toNat))++([x3])).length+((s5.take ((s5.length:Int)).toNat).drop (s7:Int).toNat).length)*320<=140737488355328/\((([]:List BP)++((s5.take (s7).toNat).drop (0:Int).toNat))++([x3])).length+((s5.take ((s5.length:Int)).toNat).drop (s7:Int).toNat).length<=140737488355328)) (k 8 (lH c l (i64.wrap (s6+1)) (((([]:List BP)++((s5.take (s7).toNat).drop (0:Int).toNat))++([x3]))++((s5.take ((s5.length:Int)).toNat).drop (s7:Int).toNat)))))))))|none=>none))))|none=>none)|none=>none)|false=>(og (decide ((0:Int)<=0/\0<=s7/\s7<=(s5.length:Int))) (match aT l s6 with|some x1=>(og (decide ((0:Int)<=s7/\s7<=(s5.length:Int)/\(s5.length:Int)<=(s5.length:Int))) (dup (.b (.b .l .l) .l) (og (decide ((([]:List BP).length+((s5.take (s7).toNat).drop (0:Int).toNat).length)*320<=140737488355328/\([]:List BP).length+((s5.take (s7).toNat).drop (0:Int).toNat).length<=140737488355328)) (og (decide (((([]:List BP)++((s5.take (s7).toNat).drop (0:Int).toNat)).length+([x1]).length)*320<=140737488355328/\(([]:List BP)++((s5.take (s7).toNat).drop (0:Int).toNat)).length+([x1]).length<=140737488355328)) (og (decide ((((([]:List BP)++((s5.take (s7).toNat).drop (0:Int).toNat))++([x1])).length+((s5.take ((s5.length:Int)).toNat).drop (s7:Int).toNat).length)*320<=140737488355328/\((([]:List BP)++((s5.take (s7).toNat).drop (0:Int).toNat))++([x1])).length+((s5.take ((s5.length:Int)).toNat).drop (s7:Int).toNat).length<=140737488355328)) (k 8 (lH c l (i64.wrap (s6+1)) (((([]:List BP)++((s5.take (s7).toNat).drop (0:Int).toNat))++([x1]))++((s5.take ((s5.length:Int)).toNat).drop (s7:Int).toNat)))))))))|none=>none)))
theorem AF(c:BCU)(l s5:List BP)(s6 s7:Int):RN wA 21 (xo c l s5 s6 s7) (wm c l s5 s6 s7):=rnX
theorem ad4(c:BCU)(l:List BP)(hc:okC 4000 c)(hl:∀x∈l,okP 4000 x)(out:List BP)(ho:∀x∈out,okP 4000 x)(hlen:out.length<=1000000)(i:Nat)(hi:i<l.length)(hi2:i<=1000000)(r:List RV)(h:wA.Runs 8 (lH c l ((i+1:Nat):Int) (jn (dC c) out l[i])) r):
  ∀(j k:Nat),k+j=out.length->jn (dC c) out l[i]=out.take k++jn (dC c) (out.drop k) l[i]->wA.Runs 21 (xo c l out (i:Int) (k:Int)) r:=by
 have e0:i64.wrap ((i:Int)+1)=((i+1:Nat):Int):=bW (by omega);have gl:aT l (i:Int)=some l[i]:=by rw[av,amX hi]
 have hx:=hl _ (anw hi);have tl:out.take ((out.length:Int)).toNat=out:=by simp
 have put:∀k:Nat,k<=out.length->jn (dC c) out l[i]=out.take k++[l[i]]++out.drop k->∃n,(match decide ((0:Int)<=0/\0<=(k:Int)/\(k:Int)<=(out.length:Int))with
   |true=>(match aT l (i:Int)with
    |some x5=>(match decide ((0:Int)<=(k:Int)/\(k:Int)<=(out.length:Int)/\(out.length:Int)<=(out.length:Int))with
     |true=>(match decide ((([]:List BP).length+((out.take ((k:Int)).toNat).drop (0:Int).toNat).length)*320<=140737488355328/\([]:List BP).length+((out.take ((k:Int)).toNat).drop (0:Int).toNat).length<=140737488355328)with
      |true=>(match decide (((([]:List BP)++((out.take ((k:Int)).toNat).drop (0:Int).toNat)).length+([x5]).length)*320<=140737488355328/\(([]:List BP)++((out.take ((k:Int)).toNat).drop (0:Int).toNat)).length+([x5]).length<=140737488355328)with
       |true=>(match decide ((((([]:List BP)++((out.take ((k:Int)).toNat).drop (0:Int).toNat))++([x5])).length+((out.take ((out.length:Int)).toNat).drop ((k:Int)).toNat).length)*320<=140737488355328/\((([]:List BP)++((out.take ((k:Int)).toNat).drop (0:Int).toNat))++([x5])).length+((out.take ((out.length:Int)).toNat).drop ((k:Int)).toNat).length<=140737488355328)with
        |true=>wA.k n 8 (lH c l (i64.wrap ((i:Int)+1)) (((([]:List BP)++((out.take ((k:Int)).toNat).drop (0:Int).toNat))++([x5]))++((out.take ((out.length:Int)).toNat).drop ((k:Int)).toNat)))
        |false=>none)
       |false=>none)
      |false=>none)
     |false=>none)
    |none=>none)
   |false=>none)=some r:=by
  intro k hk he;have e1:((out.take ((k:Int)).toNat).drop (0:Int).toNat)=out.take k:=by simp
  have e2:((out.take ((out.length:Int)).toNat).drop ((k:Int)).toNat)=out.drop k:=by simp
  have l1:(out.take k).length=k:=by simp;omega
  have l2:(out.drop k).length=out.length-k:=by simp
  obtain⟨n,hn⟩:=h;refine⟨n,?_⟩;rw[gl,dT (show(0:Int)<=0/\0<=(k:Int)/\(k:Int)<=(out.length:Int) by omega)];dsimp only;rw[dT (show(0:Int)<=(k:Int)/\(k:Int)<=(out.length:Int)/\(out.length:Int)<=(out.length:Int) by omega)];simp only[e1,e2,apV,List.length_nil,anu,anb,l1,l2,anB];rw[dT (by omega),dT (by omega),dT (by omega),e0,<-he];exact hn
 intro j;induction j with
 |zero=>
  intro k hk he;have hk:k=out.length:=by omega
  subst hk;refine AF _ _ _ _ _ ?_;unfold wm;rw[cd (by omega)];simp only[fy];refine put _ (am2 _) ?_;rw[he];simp[jn]
 |succ j ih=>
  intro k hk he;have hkl:k<out.length:=by omega
  have go:aT out (k:Int)=some out[k]:=by rw[av,amX hkl]
  have ho1:=ho _ (anw hkl);have ek:i64.wrap ((k:Int)+1)=((k+1:Nat):Int):=bW (by omega);have hd:out.drop k=out[k]::out.drop (k+1):=anf hkl;refine AF _ _ _ _ _ ?_;unfold wm;simp only[fy,bI hkl,go,gl,dT (show okC 4000 c/\okP 4000 out[k]/\okP 4000 l[i] from⟨hc,ho1,hx⟩),dT (show okP 4000 out[k]/\okP 4000 l[i] from⟨ho1,hx⟩)];rw[hd]at he;simp only[jn]at he;cases h1:decide (dt (dC c) (dec out[k]) (dec l[i])<0)<;>rw[h1]at he
  ·simp only[cond_false]at he;cases h2:a8 (dec out[k]) (dec l[i])==0<;>rw[h2]at he
   ·simp only[cond_false]at he;have:=put k (by omega) (by rw[he,hd];simp);simp only[gl]at this;exact this
   ·simp only[cond_true]at he;rw[<-hd,aol]at he;obtain⟨n,hn⟩:=h;refine⟨n,?_⟩;rw[e0];rw[he]at hn;exact hn
  ·simp only[cond_true]at he;obtain⟨n,hn⟩:=ih (k+1) (by omega) (by rw[he,KF hkl,ann];rfl);refine⟨n,?_⟩;rw[ek];exact hn
theorem Wg(c:BCU)(l:List BP)(hc:okC 4000 c)(hl:∀x∈l,okP 4000 x)(hle:l.length<=1000000):∀(j i:Nat),i+j=l.length->∀out:List BP,(∀x∈out,okP 4000 x)->out.length<=i->wA.Runs 8 (lH c l (i:Int) out) [.d (.sl tP) ((l.drop i).foldl (jn (dC c)) out)]:=by
 intro j;induction j with
 |zero=>
  intro i hi out ho hlen;refine Ee _ _ _ _ ⟨0,?_⟩;unfold yj;rw[cd (by omega),qn (by omega)];rfl
 |succ j ih=>
  intro i hi out ho hlen;have hil:i<l.length:=by omega
  have h2:=ih (i+1) (by omega) (jn (dC c) out l[i]) (λx hx=>by
   rcases qu hx with h|h
   ·exact ho x h
   ·rw[h];exact hl _ (anw hil)) (am9 (yH _ _ _) (by omega))
  obtain⟨n,hn⟩:=ad4 c l hc hl out ho (by omega) i hil (by omega) _ h2 out.length 0 (by omega) (by simp);refine Ee _ _ _ _ ⟨n,?_⟩;unfold yj;rw[bI hil,ij hil,aoS];exact hn
def YE:Cn 34 [tCU,(.sl tP)]:=cn λ(c:BCU) (l:List BP)=>lf (yx c l) [.d (.sl tP) (jo (dC c) l)] λh=>by
 obtain⟨hc,hle,hl⟩:=h;refine da Zi (show wA.Res _ _ _ from ?_);obtain⟨n,hn⟩:=Wg c l hc hl hle l.length 0 (by omega) [] (λx hx=>by cases hx) (am2 _);exact aiV _ _ ⟨n,hn⟩
def Bx(c:BCU)(x y:BP):BCU:=(c.1,c.2.1,c.2.2.1,c.2.2.2.1,x,y)
def zZ(c:BCU):List BP->List BCU
 |[]=>[]
 |x::r=>match r with
  |[]=>[]
  |y::_=>Bx c x y::zZ c r
def wH(c:BCU)(l:List BP):List BP:=jo (dC c) ([c.2.2.2.2.1,c.2.2.2.2.2]++l)
def mi(c:BCU)(l:List BP):List BCU:=zZ c (wH c l)
def HP(c:BCU)(l:List BP):Prop:=okC 3500 c/\l.length<=900000/\∀x∈l,okP 3500 x/\onR (dC c) (dec x)=true
instance (c:BCU) (l:List BP):Decidable (HP c l):=by unfold HP;infer_instance
theorem UW{c:BCU}{l:List BP}(h:HP c l):yx c ([c.2.2.2.2.1,c.2.2.2.2.2]++l):=by
 obtain⟨h1,h2,h3⟩:=h;have h4:=bZ (k:=4000) h1 (by decide) (by decide);refine⟨h4,by simp;omega,λx hx=>?_⟩;rcases anI.1 hx with hx|hx
 ·simp only[ane,aoi,apJ]at hx;rcases hx with rfl|rfl
  ·exact h4.2.2.1
  ·exact h4.2.2.2
 ·exact cM (h3 x hx).1 (by decide) (by decide)
theorem J6(c:BCU)(l:List BP):(wH c l).length<=l.length+2:=by
 have:=xx (dC c) ([c.2.2.2.2.1,c.2.2.2.2.2]++l) [];unfold wH jo;simp at this ⊢;omega
theorem Is{c:BCU}{l:List BP}{x:BP}(h:x∈wH c l):x=c.2.2.2.2.1\/x=c.2.2.2.2.2\/x∈l:=by
 rcases C6 (out:=[]) h with h|h
 ·cases h
 ·rcases anI.1 h with h|h
  ·simp only[ane,aoi,apJ]at h;rcases h with h|h
   ·exact .inl h
   ·exact .inr (.inl h)
  ·exact .inr (.inr h)
theorem JI{c p:BCU}:∀{s:List BP},p∈zZ c s->∃x y,x∈s/\y∈s/\p=Bx c x y
 |[],h=>by cases h
 |[_],h=>by cases h
 |x::y::r,h=>by
  simp only[zZ]at h;rcases ane.1 h with h|h
  ·exact⟨x,y,by simp,by simp,h⟩
  ·obtain⟨a,b,h1,h2,h3⟩:=JI (s:=y::r) h;exact⟨a,b,ana _ h1,ana _ h2,h3⟩
def abn:List En:=[enT Kw,enT Ku,enT ON,enL Om,enT yW,enK YE]
def adB:NT:=[((10,6),{keep:=[1,2,6],hl:=1}),((10,31),{keep:=[2,7,8,9],own:=[(8,39,tCU)],hl:=3})]
def AB:Ctx:=CX (ens abn) adB
def BB(c:BCU)(l:List BP)(s6:Int):Cfg:=⟨10,[.blk 0,.seq 23],[(1,.d (.sl tP) l),(2,.box 0 0),(6,SI s6)],[.box 39 [SB c.1,SB c.2.1.1.1.1,.d aqg c.2.1.1.1.2,SB c.2.1.1.2.1,.d aqg c.2.1.1.2.2,SB c.2.1.2.1.1.1,.d aqg c.2.1.2.1.1.2,SB c.2.1.2.1.2.1,.d aqg c.2.1.2.1.2.2,SB c.2.1.2.2.1.1,.d aqg c.2.1.2.2.1.2,SB c.2.1.2.2.2.1,.d aqg c.2.1.2.2.2.2,SB c.2.2.1.1.1.1,.d aqg c.2.2.1.1.1.2,SB c.2.2.1.1.2.1,.d aqg c.2.2.1.1.2.2,SB c.2.2.1.2.1.1.1,.d aqg c.2.2.1.2.1.1.2,SB c.2.2.1.2.1.2.1,.d aqg c.2.2.1.2.1.2.2,SB c.2.2.1.2.2.1.1,.d aqg c.2.2.1.2.2.1.2,SB c.2.2.1.2.2.2.1,.d aqg c.2.2.1.2.2.2.2,SB c.2.2.2.1,SB c.2.2.2.2.1.1.1.1,.d aqg c.2.2.2.2.1.1.1.2,SB c.2.2.2.2.1.1.2.1,.d aqg c.2.2.2.2.1.1.2.2,SB c.2.2.2.2.1.2.1.1.1,.d aqg c.2.2.2.2.1.2.1.1.2,SB c.2.2.2.2.1.2.1.2.1,.d aqg c.2.2.2.2.1.2.1.2.2,SB c.2.2.2.2.1.2.2.1.1.1,.d aqg c.2.2.2.2.1.2.2.1.1.2,SB c.2.2.2.2.1.2.2.1.2.1,.d aqg c.2.2.2.2.1.2.2.1.2.2,SB c.2.2.2.2.1.2.2.2.1.1.1,.d aqg c.2.2.2.2.1.2.2.2.1.1.2,SB c.2.2.2.2.1.2.2.2.1.2.1,.d aqg c.2.2.2.2.1.2.2.2.1.2.2,SB c.2.2.2.2.1.2.2.2.2.1.1,.d aqg c.2.2.2.2.1.2.2.2.2.1.2,SB c.2.2.2.2.1.2.2.2.2.2.1,.d aqg c.2.2.2.2.1.2.2.2.2.2.2,SB c.2.2.2.2.2.1.1.1,.d aqg c.2.2.2.2.2.1.1.2,SB c.2.2.2.2.2.1.2.1,.d aqg c.2.2.2.2.2.1.2.2,SB c.2.2.2.2.2.2.1.1.1,.d aqg c.2.2.2.2.2.2.1.1.2,SB c.2.2.2.2.2.2.1.2.1,.d aqg c.2.2.2.2.2.2.1.2.2,SB c.2.2.2.2.2.2.2.1.1.1,.d aqg c.2.2.2.2.2.2.2.1.1.2,SB c.2.2.2.2.2.2.2.1.2.1,.d aqg c.2.2.2.2.2.2.2.1.2.2,SB c.2.2.2.2.2.2.2.2.1.1.1,.d aqg c.2.2.2.2.2.2.2.2.1.1.2,SB c.2.2.2.2.2.2.2.2.1.2.1,.d aqg c.2.2.2.2.2.2.2.2.1.2.2,SB c.2.2.2.2.2.2.2.2.2.1.1,.d aqg c.2.2.2.2.2.2.2.2.2.1.2,SB c.2.2.2.2.2.2.2.2.2.2.1,.d aqg c.2.2.2.2.2.2.2.2.2.2.2]],0,[]⟩
def xh(c:BCU)(l:List BP)(s9:Int)(r2:List BCU):Cfg:=⟨10,[.blk 2,.seq 46],[(2,.box 0 0),(7,.d (.sl tP) (jo (dC c) (([c.2.2.2.2.1,c.2.2.2.2.2])++l))),(8,.own 2),(9,SI s9)],[.box 39 [SB c.1,SB c.2.1.1.1.1,.d aqg c.2.1.1.1.2,SB c.2.1.1.2.1,.d aqg c.2.1.1.2.2,SB c.2.1.2.1.1.1,.d aqg c.2.1.2.1.1.2,SB c.2.1.2.1.2.1,.d aqg c.2.1.2.1.2.2,SB c.2.1.2.2.1.1,.d aqg c.2.1.2.2.1.2,SB c.2.1.2.2.2.1,.d aqg c.2.1.2.2.2.2,SB c.2.2.1.1.1.1,.d aqg c.2.2.1.1.1.2,SB c.2.2.1.1.2.1,.d aqg c.2.2.1.1.2.2,SB c.2.2.1.2.1.1.1,.d aqg c.2.2.1.2.1.1.2,SB c.2.2.1.2.1.2.1,.d aqg c.2.2.1.2.1.2.2,SB c.2.2.1.2.2.1.1,.d aqg c.2.2.1.2.2.1.2,SB c.2.2.1.2.2.2.1,.d aqg c.2.2.1.2.2.2.2,SB c.2.2.2.1,SB c.2.2.2.2.1.1.1.1,.d aqg c.2.2.2.2.1.1.1.2,SB c.2.2.2.2.1.1.2.1,.d aqg c.2.2.2.2.1.1.2.2,SB c.2.2.2.2.1.2.1.1.1,.d aqg c.2.2.2.2.1.2.1.1.2,SB c.2.2.2.2.1.2.1.2.1,.d aqg c.2.2.2.2.1.2.1.2.2,SB c.2.2.2.2.1.2.2.1.1.1,.d aqg c.2.2.2.2.1.2.2.1.1.2,SB c.2.2.2.2.1.2.2.1.2.1,.d aqg c.2.2.2.2.1.2.2.1.2.2,SB c.2.2.2.2.1.2.2.2.1.1.1,.d aqg c.2.2.2.2.1.2.2.2.1.1.2,SB c.2.2.2.2.1.2.2.2.1.2.1,.d aqg c.2.2.2.2.1.2.2.2.1.2.2,SB c.2.2.2.2.1.2.2.2.2.1.1,.d aqg c.2.2.2.2.1.2.2.2.2.1.2,SB c.2.2.2.2.1.2.2.2.2.2.1,.d aqg c.2.2.2.2.1.2.2.2.2.2.2,SB c.2.2.2.2.2.1.1.1,.d aqg c.2.2.2.2.2.1.1.2,SB c.2.2.2.2.2.1.2.1,.d aqg c.2.2.2.2.2.1.2.2,SB c.2.2.2.2.2.2.1.1.1,.d aqg c.2.2.2.2.2.2.1.1.2,SB c.2.2.2.2.2.2.1.2.1,.d aqg c.2.2.2.2.2.2.1.2.2,SB c.2.2.2.2.2.2.2.1.1.1,.d aqg c.2.2.2.2.2.2.2.1.1.2,SB c.2.2.2.2.2.2.2.1.2.1,.d aqg c.2.2.2.2.2.2.2.1.2.2,SB c.2.2.2.2.2.2.2.2.1.1.1,.d aqg c.2.2.2.2.2.2.2.2.1.1.2,SB c.2.2.2.2.2.2.2.2.1.2.1,.d aqg c.2.2.2.2.2.2.2.2.1.2.2,SB c.2.2.2.2.2.2.2.2.2.1.1,.d aqg c.2.2.2.2.2.2.2.2.2.1.2,SB c.2.2.2.2.2.2.2.2.2.2.1,.d aqg c.2.2.2.2.2.2.2.2.2.2.2],.gone,.row 39 tCU r2],0,[]⟩
def ajv(c:BCU)(l:List BP)(k:KT):OLR:=k 6 (BB c l 0)
theorem ajy(c:BCU)(l:List BP):RS AB 10 [.d tCU c,.d (.sl tP) l] (ajv c l):=rsX
def yX(c:BCU)(l:List BP)(s6:Int)(k:KT):OLR:=match decide (s6<(l.length:Int))with|true=>(match aT l s6 with|some x1=>(og (decide (okC 3500 c/\okP 3500 x1)) (match !(onR (dC c) (dec x1))with|true=>some [RV.d (.sl tCU) ([]),RV.d aqh 1]|false=>k 6 (BB c l (i64.wrap (s6+1)))))|none=>none)|false=>(og (decide ((([c.2.2.2.2.1,c.2.2.2.2.2]).length+l.length)*320<=140737488355328/\([c.2.2.2.2.1,c.2.2.2.2.2]).length+l.length<=140737488355328)) (og (decide (yx c (([c.2.2.2.2.1,c.2.2.2.2.2])++l))) (k 31 (xh c l 1 ([])))))
theorem E2(c:BCU)(l:List BP)(s6:Int):RN AB 6 (BB c l s6) (yX c l s6):=rnX
def vp(c:BCU)(l:List BP)(s9:Int)(r2:List BCU)(k:KT):OLR:=match decide (s9<((jo (dC c) (([c.2.2.2.2.1,c.2.2.2.2.2])++l)).length:Int))with|true=>(match aT (jo (dC c) (([c.2.2.2.2.1,c.2.2.2.2.2])++l)) (i64.wrap (s9-1))with|some x1=>(match aT (jo (dC c) (([c.2.2.2.2.1,c.2.2.2.2.2])++l)) s9 with|some x2=>dup (.b .l .l) (og (decide ((r2.length+([(c.1,(c.2.1,(c.2.2.1,(c.2.2.2.1,(x1,x2)))))]).length)*1040<=140737488355328/\r2.length+([(c.1,(c.2.1,(c.2.2.1,(c.2.2.2.1,(x1,x2)))))]).length<=140737488355328)) (k 31 (xh c l (i64.wrap (s9+1)) (r2++([(c.1,(c.2.1,(c.2.2.1,(c.2.2.2.1,(x1,x2)))))])))))|none=>none)|none=>none)|false=>some [RV.d (.sl tCU) r2,RV.d aqh 0]
theorem Bm(c:BCU)(l:List BP)(s9:Int)(r2:List BCU):RN AB 31 (xh c l s9 r2) (vp c l s9 r2):=rnX
theorem adR(c:BCU)(l:List BP)(hle:l.length<=900000)(S:List BP)(hS:S=wH c l):∀(j i:Nat),1<=i->i+j=max S.length 1->∀out:List BCU,out.length<=i->AB.Runs 31 (xh c l (i:Int) out) [.d (.sl tCU) (out++zZ c (S.drop (i-1))),.d aqh (0:Int)]:=by
 have hSl:=J6 c l;rw[<-hS]at hSl;have eS:jo (dC c) ([c.2.2.2.2.1,c.2.2.2.2.2]++l)=S:=hS.symm;intro j;induction j with
 |zero=>
  intro i h1 hi out hlen;refine Bm _ _ _ _ ⟨0,?_⟩;unfold vp;rw[eS,cd (by omega)]
  have:zZ c (S.drop (i-1))=[]:=by
   have hl:(S.drop (i-1)).length<=1:=by rw[apj];omega
   match S.drop (i-1),hl with
   |[],_=>rfl
   |[_],_=>rfl
   |_::_::_,h=>simp at h
  rw[this,ant]
 |succ j ih=>
  intro i h1 hi out hlen;have hil:i<S.length:=by omega
  have e1:i64.wrap ((i:Int)-1)=((i-1:Nat):Int):=by rw[aV (by omega) (by omega)];omega
  have e2:i64.wrap ((i:Int)+1)=((i+1:Nat):Int):=bW (by omega);have g1:aT S ((i-1:Nat):Int)=some S[i-1]:=by rw[av,amX (by omega)]
  have g2:aT S (i:Int)=some S[i]:=by rw[av,amX hil]
  obtain⟨n,hn⟩:=ih (i+1) (by omega) (by omega) (out++[Bx c S[i-1] S[i]]) (by simp;omega);refine Bm _ _ _ _ ⟨n,?_⟩;unfold vp;rw[eS];simp only[fy,bI hil,e1,e2,g1,g2];rw[dT (by simp;omega)]
  have hd:S.drop (i-1)=S[i-1]::S.drop i:=by
   have:=anf (l:=S) (i:=i-1) (by omega);rw[this,show i-1+1=i by omega]
  have hd2:S.drop i=S[i]::S.drop (i+1):=anf hil;rw[hd,hd2];rw[show i+1-1=i by omega,hd2,ann]at hn;exact hn
theorem abK(c:BCU)(l:List BP)(h:HP c l):∀(j i:Nat),i+j=l.length->AB.Runs 6 (BB c l (i:Int)) [.d (.sl tCU) (mi c l),.d aqh (0:Int)]:=by
 have hs:=UW h;obtain⟨hc,hle,hl⟩:=h;intro j;induction j with
 |zero=>
  intro i hi;obtain⟨n,hn⟩:=adR c l hle (wH c l) rfl (max (wH c l).length 1-1) 1 (am2 _) (by omega) [] (by simp);refine E2 _ _ _ ⟨n,?_⟩;unfold yX;rw[cd (by omega),dT (by simp;omega),dT hs];exact hn
 |succ j ih=>
  intro i hi;have hil:i<l.length:=by omega
  obtain⟨n,hn⟩:=ih (i+1) (by omega);have h1:=hl _ (anw hil);refine E2 _ _ _ ⟨n,?_⟩;unfold yX;rw[bI hil,av,amX hil,bW (by omega)];dsimp only;rw[dT (show okC 3500 c/\okP 3500 l[i] from⟨hc,h1.1⟩),h1.2];exact hn
def agU:Cn 10 [tCU,(.sl tP)]:=cn λ(c:BCU) (l:List BP)=>lf (HP c l) [.d (.sl tCU) (mi c l),.d aqh 0] λh=>by
 refine da abn (show AB.Res _ _ _ from ?_);obtain⟨n,hn⟩:=abK c l h l.length 0 (by omega);exact ajy _ _ ⟨n,hn⟩
def zX(n d:Int):Prop:=aI n/\aI d/\0<d
instance (n d:Int):Decidable (zX n d):=by unfold zX;infer_instance
def abE:List En:=[enL Cs,enL Z1]
def Qf(n d:Int)(_k:KT):OLR:=match d==0 with|true=>(og (decide (aI (0:Int))) (og (decide (aI (1:Int))) (og (decide (kz (hid (ai (0:Int))) (hid (ai (1:Int))))) (some [RV.d tR (hid (fJ (hid (ai (0:Int))) (hid (ai (1:Int)))))]))))|false=>(og (decide (aI n)) (og (decide (aI d)) (og (decide (kz (hid (ai n)) (hid (ai d)))) (some [RV.d tR (hid (fJ (hid (ai n)) (hid (ai d))))]))))
def F8:Cn 27 [aqh,aqh]:=cn λ(n d:Int)=>lf (zX n d) [.d tR (ao (Rat.divInt n d))] λh=>by
 refine aB abE (Qf n d) ⟨0,?_⟩;obtain⟨hn,hd,h0⟩:=h;have hne:(d==0)=false:=by simp;omega
 unfold Qf;rw[hne,dT hn,dT hd];simp only[bL];rw[dT (show kz (ai n) (ai d) from⟨aX (by have:=kU hn;omega),aX (by have:=kU hd;omega),by rw[dec_enc];omega⟩)];unfold fJ;rw[dec_enc,dec_enc]
theorem Kb{n d:Int}(h1:aI n)(h2:aI d)(h0:0<d):Bd (Rat.divInt n d) 3:=by
 obtain⟨k,rfl⟩:=an6 (show 0<=d by omega);exact⟨vw (by omega) (kU h1) (kU h2)⟩
end Go.Proofs.YtagbmoohboleaaaGreat
end
