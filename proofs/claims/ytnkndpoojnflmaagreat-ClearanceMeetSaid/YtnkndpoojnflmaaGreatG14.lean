/- Lines and circles: the program's contracts. -/
import Derived.Test.YtnkndpoojnflmaaGreatG12
import Derived.Test.YtnkndpoojnflmaaGreatG13
import Derived.Test.YtnkndpoojnflmaaGreatG10
import Derived.Test.YtnkndpoojnflmaaGreatG11
noncomputable section
namespace Go.Proofs.YtnkndpoojnflmaaGreat
open Go.RowKit Go.IntKind
theorem aml:type_of% @List.not_mem_nil:=@List.not_mem_nil
theorem anM:type_of% @or_false:=@or_false
def za:List En:=[⟨99,iA,fe⟩,⟨108,gU,eO⟩,⟨107,iR,fx⟩,⟨106,iD,ff⟩,⟨109,kX,gJ⟩,⟨41,fM,dX⟩,⟨73,l6,iy⟩,⟨305,wF,tk⟩,enT Cr,enL Lc,enL PU,enL Mx,enL Mr,enL IQ,enL OJ,enL W9]
def Ws(l:BO3)(p:BP)(_k:KT):Option (List RV):=let y1:=bG (dec (p.1,(p.2.1,p.2.2.2.2)));let y2:=hid ((bG (dec p.2.2)).1);let y3:=jN (ah l.1) (hid (y1.1)) (y1.2);let y4:=jN (ah l.2.1) y2 ((bG (dec p.2.2)).2);let y5:=dO (hid (y3.1)) (hid (y4.1));let y6:=hid ((frF (ah l.2.2)).1);let y7:=dO (hid (y5.1)) (hid (mo y6));og (decide (ok Rt 100000 (p.1,(p.2.1,p.2.2.2.2)))) (og (decide (ok Rat 100000 l.1∧prI (hid (y1.1)))) (og (decide (ok Rt 100000 p.2.2)) (og (decide (ok Rat 100000 l.2.1∧prI y2)) (og (decide (ok Rat 200000 l.2.2)) (match !(y3.2)with|true=>some [RV.d aoi 0,RV.d .bool false]|false=>(match !(y4.2)with|true=>some [RV.d aoi 0,RV.d .bool false]|false=>(match !((frF (ah l.2.2)).2)with|true=>some [RV.d aoi 0,RV.d .bool false]|false=>(og (decide (prI (hid (y3.1))∧prI (hid (y4.1)))) (match !(y5.2)with|true=>some [RV.d aoi 0,RV.d .bool false]|false=>(og (decide (prI y6)) (og (decide (prI (hid (y5.1))∧prI (hid (mo y6)))) (match !(y7.2)with|true=>some [RV.d aoi 0,RV.d .bool false]|false=>some [RV.d aoi ((sgF (hid (y7.1))).1),RV.d .bool ((sgF (hid (y7.1))).2)]))))))))))))
def ah2:Cn 344 [tO,tP]:=cn fun(l:BO3) (p:BP)=>lf (ok Ln 300 l∧ok Pt 4000 p) [.d aoi ((wJ (dec l) (dec p)).1),.d .bool ((wJ (dec l) (dec p)).2)] fun h=>by
 refine aA za (Ws l p) ⟨0,?_⟩
 obtain⟨hl,hp⟩:=h
 obtain⟨l,rfl,bl⟩:=aG hl
 obtain⟨p,rfl,bp⟩:=aG hp
 have dx:(dec ((am p.1,am p.2.1,am p.2.2.2.2):BO3):Rt)=pxR p:=az (pxR p)
 have dy:(dec ((am p.2.2.1,am p.2.2.2.1,am p.2.2.2.2):BO3):Rt)=pyR p:=az (pyR p)
 have dy':(dec (enc p.2.2:BO3):Rt)=pyR p:=az (pyR p)
 have px:Bd (pxR p) 4000:=(inferInstance:Bd ((p.1,p.2.1,p.2.2.2.2):Rt) _).mono (by decide)
 have py:Bd (pyR p) 4000:=(inferInstance:Bd ((p.2.2.1,p.2.2.2.1,p.2.2.2.2):Rt) _).mono (by decide)
 have ox:decide (ok Rt 100000 ((am p.1,am p.2.1,am p.2.2.2.2):BO3))=true:=okd (x:=pxR p) (by decide) (by decide)
 have oy:decide (ok Rt 100000 (enc p.2.2:BO3))=true:=okd (x:=pyR p) (by decide) (by decide)
 have pr:∀r,prI (bG r).1:=wU
 have pt:∀n a k,prI (jN n a k).1:=Tv
 have pf:∀q,prI (frF q).1:=RE.frF_pr
 unfold Ws
 simp only[aU,Nat.reduceLeDiff,dx,dy',ox,oy,dT (pr _),dT (pt _ _ _),dT (pf _),dT (RE.addF_pr (pt _ _ _) (pt _ _ _)),dT (RE.negF_pr (pf _))]
 unfold wJ
 generalize bG (pxR p)=X
 generalize bG (pyR p)=Y
 generalize jN l.1 X.1 X.2=U
 generalize jN l.2.1 Y.1 Y.2=V
 generalize frF l.2.2=W
 generalize dO U.1 V.1=S
 generalize dO S.1 (mo W.1)=D
 generalize sgF D.1=Z
 obtain⟨_,u⟩:=U
 obtain⟨_,v⟩:=V
 obtain⟨_,w⟩:=W
 obtain⟨_,s⟩:=S
 obtain⟨_,d⟩:=D
 cases u<;>cases v<;>cases w<;>try rfl
 cases s<;>cases d<;>rfl
def YC:Cn 223 [tR,tR]:=cn fun(a b:BR)=>lf (okR a∧okR b) [.d tR (am (ah a+ah b))] fun h=>jP [RV.d tR (hAd a b)] (dA za) h
def YY:Cn 222 [tR,tR]:=cn fun(a b:BR)=>lf (okR a∧okR b) [.d tR (am (ah a-ah b))] fun h=>jP [RV.d tR (hSu a b)] (dA za) h
def We:Cn 224 [tR,tR]:=cn fun(a b:BR)=>lf (okR a∧okR b) [.d tR (am (ah a*ah b))] fun h=>jP [RV.d tR (hMu a b)] (dA za) h
def Zb(a b:BR)(_k:KT):Option (List RV):=og (decide (ir a b)) (match 0 !=0 with|true=>(og (decide (aH (0:Int))) (some [RV.d tR (hid (am ((0:Int):Rat)))]))|false=>some [RV.d tR (hDi a b)])
def aeq:Cn 225 [tR,tR]:=cn fun(a b:BR)=>lf (ir a b) [.d tR (am (ah a/ah b))] fun h=>by
 refine aA za (Zb a b) ⟨0,?_⟩
 unfold Zb
 rw[dT h]
 simp only[bK]
 rfl
def Rb:List En:=enT ah2::enL YC::enL YY::enL We::enL aeq::za
def Xl(a b c:BR)(_k:KT):Option (List RV):=og (o1 a) (og (o1 b) (og (o1 c) (match(i64.wrap ((aD (ah b) 0)*(aD (ah c) 0)))==0 with|true=>some [RV.d aoi (aD (ah a) 0)]|false=>(match(aD (ah a) 0)==(i64.wrap ((aD (ah b) 0)*(aD (ah c) 0)))with|true=>some [RV.d aoi (aD (ah a) 0)]|false=>(match(aD (ah a) 0)==0 with|true=>some [RV.d aoi (i64.wrap ((aD (ah b) 0)*(aD (ah c) 0)))]|false=>(og (o2 a a) (og (o2 b b) (og (o2 (hMu b b) c) (og (o2 (hMu a a) (hMu (hMu b b) c)) (some [RV.d aoi (i64.wrap ((aD (ah a) 0)*(aD (ah (hMu a a)) (ah (hMu (hMu b b) c)))))]))))))))))
def ae6:Cn 343 [tR,tR,tR]:=cn fun(a b c:BR)=>lf (ok Rat 240000 a∧ok Rat 170000 b∧ok Rat 30000 c) [.d aoi (gE (ah a) (ah b) (ah c))] fun h=>by
 refine aA Rb (Xl a b c) ⟨0,?_⟩
 obtain⟨ha,hb,hc⟩:=h
 obtain⟨a,rfl,ba⟩:=aG ha
 obtain⟨b,rfl,bb⟩:=aG hb
 obtain⟨c,rfl,bc⟩:=aG hc
 unfold Xl
 simp only[aU,Nat.reduceAdd,Nat.reduceLeDiff,qa]
 exact Bs _ _ _
def Ya(a b c f:BR)(_k:KT):Option (List RV):=og (decide (ok Rt 100000 (a,(b,c)))) (og (decide (ok Rat 200000 f)) (match !((bG (dec (a,(b,c)))).2)with|true=>some [RV.d tG (0,0),RV.d .bool false]|false=>(match !((frF (ah f)).2)with|true=>some [RV.d tG (0,0),RV.d .bool false]|false=>(og (decide (prI (hid ((frF (ah f)).1)))) (og (decide (prI (hid ((bG (dec (a,(b,c)))).1))∧prI (hid (mo (hid ((frF (ah f)).1)))))) (some [RV.d tG (hid ((dO (hid ((bG (dec (a,(b,c)))).1)) (hid (mo (hid ((frF (ah f)).1))))).1)),RV.d .bool ((dO (hid ((bG (dec (a,(b,c)))).1)) (hid (mo (hid ((frF (ah f)).1))))).2)]))))))
def agx:Cn 361 [tR,tR,tR,tR]:=cn fun(a b c f:BR)=>lf (ok Rat 100000 a∧ok Rat 100000 b∧ok Rat 100000 c∧ok Rat 100000 f) [.d tG ((fq (ah a,ah b,ah c) (ah f)).1),.d .bool ((fq (ah a,ah b,ah c) (ah f)).2)] fun h=>by
 refine aA Rb (Ya a b c f) ⟨0,?_⟩
 obtain⟨ha,hb,hc,hf⟩:=h
 obtain⟨a,rfl,ba⟩:=aG ha
 obtain⟨b,rfl,bb⟩:=aG hb
 obtain⟨c,rfl,bc⟩:=aG hc
 obtain⟨f,rfl,bf⟩:=aG hf
 have dr:(dec ((am a,am b,am c):BO3):Rt)=(a,b,c):=az ((a,b,c):Rt)
 have orr:decide (ok Rt 100000 ((am a,am b,am c):BO3))=true:=okd (x:=((a,b,c):Rt)) (by decide) (by decide)
 unfold Ya
 simp only[aU,Nat.reduceLeDiff,dr,orr,dT (RE.frF_pr _),dT (RE.negF_pr (RE.frF_pr _)),dT (wU _)]
 unfold fq
 generalize bG (a,b,c)=X
 generalize frF f=Y
 obtain⟨_,x⟩:=X
 obtain⟨_,y⟩:=Y
 cases x<;>cases y<;>rfl
def Ox:List En:=enT ae6::enL agx::Rb
def Y2(c:BO3)(p:BP)(_k:KT):Option (List RV):=let y1:=fq (ah p.1,ah p.2.1,ah p.2.2.2.2) (ah c.1);let y2:=fq (ah p.2.2.1,ah p.2.2.2.1,ah p.2.2.2.2) (ah c.2.1);let y3:=cH (hid (y1.1)) (hid (y1.1));let y4:=cH (hid (y2.1)) (hid (y2.1));let y5:=dO (hid (y3.1)) (hid (y4.1));let y6:=hid ((frF (ah c.2.2)).1);let y7:=dO (hid (y5.1)) (hid (mo y6));og (decide (ok Rat 100000 p.1∧ok Rat 100000 p.2.1∧ok Rat 100000 p.2.2.2.2∧ok Rat 100000 c.1)) (og (decide (ok Rat 100000 p.2.2.1∧ok Rat 100000 p.2.2.2.1∧ok Rat 100000 p.2.2.2.2∧ok Rat 100000 c.2.1)) (og (decide (ok Rat 200000 c.2.2)) (match !(y1.2)with|true=>some [RV.d aoi 0,RV.d .bool false]|false=>(match !(y2.2)with|true=>some [RV.d aoi 0,RV.d .bool false]|false=>(match !((frF (ah c.2.2)).2)with|true=>some [RV.d aoi 0,RV.d .bool false]|false=>(og (decide (prI (hid (y1.1))∧prI (hid (y1.1)))) (og (decide (prI (hid (y2.1))∧prI (hid (y2.1)))) (match !(y3.2)with|true=>some [RV.d aoi 0,RV.d .bool false]|false=>(match !(y4.2)with|true=>some [RV.d aoi 0,RV.d .bool false]|false=>(og (decide (prI (hid (y3.1))∧prI (hid (y4.1)))) (match !(y5.2)with|true=>some [RV.d aoi 0,RV.d .bool false]|false=>(og (decide (prI y6)) (og (decide (prI (hid (y5.1))∧prI (hid (mo y6)))) (match !(y7.2)with|true=>some [RV.d aoi 0,RV.d .bool false]|false=>some [RV.d aoi ((sgF (hid (y7.1))).1),RV.d .bool ((sgF (hid (y7.1))).2)]))))))))))))))
def afW:Cn 342 [tO,tP]:=cn fun(c:BO3) (p:BP)=>lf (ok Ln 300 c∧ok Pt 4000 p) [.d aoi ((ud (dec c) (dec p)).1),.d .bool ((ud (dec c) (dec p)).2)] fun h=>by
 refine aA Ox (Y2 c p) ⟨0,?_⟩
 obtain⟨hc,hp⟩:=h
 obtain⟨c,rfl,bc⟩:=aG hc
 obtain⟨p,rfl,bp⟩:=aG hp
 have pd:∀r q,prI (fq r q).1:=VG
 have pf:∀q,prI (frF q).1:=RE.frF_pr
 have pm:∀a b,prI (cH a b).1:=sh
 have dx:fq (p.1,p.2.1,p.2.2.2.2) c.1=fq (pxR p) c.1:=rfl
 have dy:fq (p.2.2.1,p.2.2.2.1,p.2.2.2.2) c.2.1=fq (pyR p) c.2.1:=rfl
 unfold Y2
 simp only[aU,Nat.reduceLeDiff,dx,dy,dT (pd _ _),dT (pm _ _),dT (pf _),dT (RE.negF_pr (pf _)),dT (RE.addF_pr (pm _ _) (pm _ _))]
 unfold ud
 generalize fq (pxR p) c.1=X
 generalize fq (pyR p) c.2.1=Y
 generalize frF c.2.2=W
 generalize cH X.1 X.1=U
 generalize cH Y.1 Y.1=V
 generalize dO U.1 V.1=S
 generalize dO S.1 (mo W.1)=D
 generalize sgF D.1=Z
 obtain⟨_,x⟩:=X
 obtain⟨_,y⟩:=Y
 obtain⟨_,w⟩:=W
 obtain⟨_,u⟩:=U
 obtain⟨_,v⟩:=V
 obtain⟨_,s⟩:=S
 obtain⟨_,d⟩:=D
 cases x<;>cases y<;>cases w<;>try rfl
 cases u<;>cases v<;>try rfl
 cases s<;>cases d<;>rfl
def YJ(l:BO3)(p:BP)(_k:KT):Option (List RV):=og (decide (ok Ln 300 l∧ok Pt 4000 p)) (match(wJ (dec l) (dec p)).2 with|true=>some [RV.d aoi ((wJ (dec l) (dec p)).1)]|false=>(og (o2 l.1 p.1) (og (o2 l.2.1 p.2.2.1) (og (o2 (hMu l.1 p.1) (hMu l.2.1 p.2.2.1)) (og (o2 (hAd (hMu l.1 p.1) (hMu l.2.1 p.2.2.1)) l.2.2) (og (o2 l.1 p.2.1) (og (o2 l.2.1 p.2.2.2.1) (og (o2 (hMu l.1 p.2.1) (hMu l.2.1 p.2.2.2.1)) (og (decide (ok Rat 240000 (hSu (hAd (hMu l.1 p.1) (hMu l.2.1 p.2.2.1)) l.2.2)∧ok Rat 170000 (hAd (hMu l.1 p.2.1) (hMu l.2.1 p.2.2.2.1))∧ok Rat 30000 p.2.2.2.2)) (some [RV.d aoi (gE (ah (hSu (hAd (hMu l.1 p.1) (hMu l.2.1 p.2.2.1)) l.2.2)) (ah (hAd (hMu l.1 p.2.1) (hMu l.2.1 p.2.2.2.1))) (ah p.2.2.2.2))]))))))))))
def ae0:Cn 308 [tO,tP]:=cn fun(l:BO3) (p:BP)=>lf (ok Ln 300 l∧okP 4000 p) [.d aoi (sC (dec l) (dec p))] fun h=>by
 refine aA Ox (YJ l p) ⟨0,?_⟩
 obtain⟨hl,hp⟩:=h
 obtain⟨l,rfl,bl⟩:=aG hl
 obtain⟨p,rfl,bp,rp⟩:=bR hp
 unfold YJ
 simp only[aU,Nat.reduceAdd,Nat.reduceLeDiff]
 cases hq:(wJ l p).2
 ·rfl
 ·rw[RE.sidL_ok l hq]
def ZJ:List En:=enT afW::Ox
def WZ(c:BO3)(p:BP)(_k:KT):Option (List RV):=og (decide (ok Ln 300 c∧ok Pt 4000 p)) (match(ud (dec c) (dec p)).2 with|true=>some [RV.d aoi (i64.wrap (0-((ud (dec c) (dec p)).1)))]|false=>(og (o2 p.1 c.1) (og (o2 p.2.2.1 c.2.1) (og (o2 (hSu p.1 c.1) (hSu p.1 c.1)) (og (o2 (hSu p.2.2.1 c.2.1) (hSu p.2.2.1 c.2.1)) (og (o2 (hMu (hSu p.1 c.1) (hSu p.1 c.1)) (hMu (hSu p.2.2.1 c.2.1) (hSu p.2.2.1 c.2.1))) (og (o2 p.2.1 p.2.1) (og (o2 p.2.2.2.1 p.2.2.2.1) (og (o2 (hMu p.2.1 p.2.1) (hMu p.2.2.2.1 p.2.2.2.1)) (og (o2 p.2.2.2.2 (hAd (hMu p.2.1 p.2.1) (hMu p.2.2.2.1 p.2.2.2.1))) (og (o2 (hAd (hMu (hSu p.1 c.1) (hSu p.1 c.1)) (hMu (hSu p.2.2.1 c.2.1) (hSu p.2.2.1 c.2.1))) (hMu p.2.2.2.2 (hAd (hMu p.2.1 p.2.1) (hMu p.2.2.2.1 p.2.2.2.1)))) (og (o2 (hSu p.1 c.1) p.2.1) (og (o2 (hSu p.2.2.1 c.2.1) p.2.2.2.1) (og (o2 (hMu (hSu p.1 c.1) p.2.1) (hMu (hSu p.2.2.1 c.2.1) p.2.2.2.1)) (og (o2 (hAd (hAd (hMu (hSu p.1 c.1) (hSu p.1 c.1)) (hMu (hSu p.2.2.1 c.2.1) (hSu p.2.2.1 c.2.1))) (hMu p.2.2.2.2 (hAd (hMu p.2.1 p.2.1) (hMu p.2.2.2.1 p.2.2.2.1)))) c.2.2) (og (o2 (hAd (hMu (hSu p.1 c.1) p.2.1) (hMu (hSu p.2.2.1 c.2.1) p.2.2.2.1)) (hAd (hMu (hSu p.1 c.1) p.2.1) (hMu (hSu p.2.2.1 c.2.1) p.2.2.2.1))) (og (decide (ok Rat 240000 (hSu (hAd (hAd (hMu (hSu p.1 c.1) (hSu p.1 c.1)) (hMu (hSu p.2.2.1 c.2.1) (hSu p.2.2.1 c.2.1))) (hMu p.2.2.2.2 (hAd (hMu p.2.1 p.2.1) (hMu p.2.2.2.1 p.2.2.2.1)))) c.2.2)∧ok Rat 170000 (hAd (hAd (hMu (hSu p.1 c.1) p.2.1) (hMu (hSu p.2.2.1 c.2.1) p.2.2.2.1)) (hAd (hMu (hSu p.1 c.1) p.2.1) (hMu (hSu p.2.2.1 c.2.1) p.2.2.2.1)))∧ok Rat 30000 p.2.2.2.2)) (some [RV.d aoi (i64.wrap (0-(gE (ah (hSu (hAd (hAd (hMu (hSu p.1 c.1) (hSu p.1 c.1)) (hMu (hSu p.2.2.1 c.2.1) (hSu p.2.2.1 c.2.1))) (hMu p.2.2.2.2 (hAd (hMu p.2.1 p.2.1) (hMu p.2.2.2.1 p.2.2.2.1)))) c.2.2)) (ah (hAd (hAd (hMu (hSu p.1 c.1) p.2.1) (hMu (hSu p.2.2.1 c.2.1) p.2.2.2.1)) (hAd (hMu (hSu p.1 c.1) p.2.1) (hMu (hSu p.2.2.1 c.2.1) p.2.2.2.1)))) (ah p.2.2.2.2))))]))))))))))))))))))
def agE:Cn 307 [tO,tP]:=cn fun(c:BO3) (p:BP)=>lf (ok Ln 300 c∧okP 4000 p) [.d aoi (oo (dec c) (dec p))] fun h=>by
 refine aA ZJ (WZ c p) ⟨0,?_⟩
 obtain⟨hc,hp⟩:=h
 obtain⟨c,rfl,bc⟩:=aG hc
 obtain⟨p,rfl,bp,rp⟩:=bR hp
 have sb:=lN (sqA p (ctr c)-c.2.2) (sqB p (ctr c)) p.2.2.2.2
 unfold WZ
 simp only[aU,Nat.reduceAdd,Nat.reduceLeDiff]
 cases hq:(ud c p).2
 ·unfold oo sqA sqB ctr at*
  dsimp only at sb ⊢
  rw[show(p.2.2.2.2*(p.2.1*p.2.1+p.2.2.2.1*p.2.2.2.1))=(p.2.1*p.2.1+p.2.2.2.1*p.2.2.2.1)*p.2.2.2.2 by grind]
  rw[aS (by omega) (by omega),amW]
 ·have hb: -1≤(ud c p).1∧(ud c p).1≤1:=by
   have:=RE.insC_ok c hq
   unfold oo at this
   omega
  dsimp only
  rw[aS (by omega) (by omega),amW,RE.insC_ok c hq]
def Zn(l:BO3)(v:BV)(_k:KT):Option (List RV):=og (o2 l.1 v.1) (og (o2 l.2.1 v.2) (og (o2 (hMu l.1 v.1) (hMu l.2.1 v.2)) (og (o2 (hAd (hMu l.1 v.1) (hMu l.2.1 v.2)) l.2.2) (og (o2 l.1 l.1) (og (o2 l.2.1 l.2.1) (og (o2 (hMu l.1 l.1) (hMu l.2.1 l.2.1)) (og (decide (ir (hSu (hAd (hMu l.1 v.1) (hMu l.2.1 v.2)) l.2.2) (hAd (hMu l.1 l.1) (hMu l.2.1 l.2.1)))) (og (o2 (hDi (hSu (hAd (hMu l.1 v.1) (hMu l.2.1 v.2)) l.2.2) (hAd (hMu l.1 l.1) (hMu l.2.1 l.2.1))) l.1) (og (o2 v.1 (hMu (hDi (hSu (hAd (hMu l.1 v.1) (hMu l.2.1 v.2)) l.2.2) (hAd (hMu l.1 l.1) (hMu l.2.1 l.2.1))) l.1)) (og (o2 (hDi (hSu (hAd (hMu l.1 v.1) (hMu l.2.1 v.2)) l.2.2) (hAd (hMu l.1 l.1) (hMu l.2.1 l.2.1))) l.2.1) (og (o2 v.2 (hMu (hDi (hSu (hAd (hMu l.1 v.1) (hMu l.2.1 v.2)) l.2.2) (hAd (hMu l.1 l.1) (hMu l.2.1 l.2.1))) l.2.1)) (some [RV.d tV (hSu v.1 (hMu (hDi (hSu (hAd (hMu l.1 v.1) (hMu l.2.1 v.2)) l.2.2) (hAd (hMu l.1 l.1) (hMu l.2.1 l.2.1))) l.1),hSu v.2 (hMu (hDi (hSu (hAd (hMu l.1 v.1) (hMu l.2.1 v.2)) l.2.2) (hAd (hMu l.1 l.1) (hMu l.2.1 l.2.1))) l.2.1))]))))))))))))
def Ml:Cn 113 [tO,tV]:=cn fun(l:BO3) (v:BV)=>lf (ok Ln 300 l∧ok (Rat×Rat) 200 v∧((dec l:Ln).1≠0∨(dec l:Ln).2.1≠0)) [.d tV (enc (d8 (dec l) (dec v)))] fun h=>by
 refine aA ZJ (Zn l v) ⟨0,?_⟩
 obtain⟨hl,hv,h0⟩:=h
 obtain⟨l,rfl,bl⟩:=aG hl
 obtain⟨v,rfl,bv⟩:=aG hv
 have hn:l.1*l.1+l.2.1*l.2.1≠0:=jV (by rw[az]at h0;exact h0)
 unfold Zn
 simp only[aU,Nat.reduceAdd,Nat.reduceLeDiff,hn,ne_eq,amv]
 rfl
theorem Ui(n:Int):(if(if n>(-1)then n else(-1))<1 then(if n>(-1)then n else(-1))else 1)=j9 n:=by
 unfold j9
 split<;>split<;>(try split)<;>(try split)<;>omega
def xX:List En:=[enT CH,enT Sg,enL ahT,enL agC,enT Oi,enT ae0,enT agE]
def Yn(c:BCU)(p:BP)(_k:KT):Option (List RV):=match c.1 with|true=>(og (decide (ok Ln 300 c.2.2.1∧okP 4000 p)) (some [RV.d .bool ((oo (dec c.2.2.1) (dec p))==0)]))|false=>(og (decide (ok Ln 300 c.2.1∧okP 4000 p)) (some [RV.d .bool ((sC (dec c.2.1) (dec p))==0)]))
def aei:Cn 226 [tCU,tP]:=cn fun(c:BCU) (p:BP)=>lf (okC 4000 c∧okP 4000 p) [.d .bool (gi (dC c) (dec p))] fun h=>by
 refine aA xX (Yn c p) ⟨0,?_⟩
 obtain⟨hc,hp⟩:=h
 have op:decide (okP 4000 p)=true:=akY hp
 obtain⟨ar,li,ci,cw,fr,to⟩:=c
 obtain⟨c1,c2,_⟩:=hc
 unfold Yn
 cases ar
 ·have e:=(c2 rfl).1
  simp only[amY,dT e,op,amx]
  rfl
 ·have e:=(c1 rfl).1
  simp only[amY,dT e,op,amx]
  rfl
def Y4(c:BO3)(p:BP)(_k:KT):Option (List RV):=og (decide (okP 4000 p)) (og (decide (okT 15000 (hid (enc (yP (dec p))))∧ok Rat 15000 c.2.1)) (match decide ((fH (dec (hid (enc (yP (dec p))))) (ah c.2.1))>0)with|true=>some [RV.d aoi 0]|false=>(match(fH (dec (hid (enc (yP (dec p))))) (ah c.2.1))==0 with|true=>(og (decide (okP 4000 p)) (og (decide (okT 15000 (hid (enc (xP (dec p))))∧ok Rat 15000 c.1)) (match decide ((fH (dec (hid (enc (xP (dec p))))) (ah c.1))>0)with|true=>some [RV.d aoi 0]|false=>some [RV.d aoi 1])))|false=>some [RV.d aoi 1])))
def aih:Cn 327 [tO,tP]:=cn fun(c:BO3) (p:BP)=>lf (ok Ln 300 c∧okP 4000 p) [.d aoi (D9 (dec c) (dec p))] fun h=>by
 refine aA xX (Y4 c p) ⟨0,?_⟩
 obtain⟨hc,hp⟩:=h
 obtain⟨c,rfl,bc⟩:=aG hc
 obtain⟨p,rfl,bp,rp⟩:=bR hp
 unfold Y4 D9 upR
 simp only[aU,Nat.reduceLeDiff,aM,aN]
 cases decide (fH (yP p) c.2.1>0)<;>cases fH (yP p) c.2.1==0<;>cases decide (fH (xP p) c.1>0)<;>rfl
def af9:Ctx:=CX (ens xX) []
def Yu(n:Int)(_k:KT):Option (List RV):=some [RV.d aoi (if(if n>(-1)then n else(-1))<1 then(if n>(-1)then n else(-1))else 1)]
theorem aid(n:Int):RS af9 286 [SI n] (Yu n):=rsX
def afi:Cn 286 [aoi]:=cn fun(n:Int)=>lf True [.d aoi (j9 n)] fun _=>by
 refine c8 xX (aid _ ⟨0,?_⟩)
 unfold Yu
 rw[Ui]
def ad0:Ctx:=CX (ens xX) []
def ad4(c:BCU)(_k:KT):Option (List RV):=match c.1 with|true=>some [RV.d tCU (c.1,(c.2.1,(c.2.2.1,(!c.2.2.2.1,(c.2.2.2.2.2,c.2.2.2.2.1)))))]|false=>some [RV.d tCU (c.1,(c.2.1,(c.2.2.1,(false,(c.2.2.2.2.2,c.2.2.2.2.1)))))]
theorem agd(c:BCU):RS ad0 284 [.d tCU c] (ad4 c):=rsX
def ahw:Cn 284 [tCU]:=cn fun(c:BCU)=>lf True [.d tCU (t9 c)] fun _=>by
 refine c8 xX (agd _ ⟨0,?_⟩)
 obtain⟨ar,li,ci,cw,fr,to⟩:=c
 cases ar<;>rfl
def Jg:List En:=enT aei::enT aih::enT afi::enL ahw::xX
def ZB(c:BO3)(p q:BP)(_k:KT):Option (List RV):=og (decide (ok Ln 300 c∧okP 4000 p)) (og (decide (ok Ln 300 c∧okP 4000 q)) (match(D9 (dec c) (dec p)) !=(D9 (dec c) (dec q))with|true=>some [RV.d aoi (i64.wrap ((D9 (dec c) (dec p))-(D9 (dec c) (dec q))))]|false=>(og (decide (okP 4000 p)) (og (decide (okP 4000 q)) (og (decide (okT 15000 (hid (enc (xP (dec p))))∧okT 15000 (hid (enc (xP (dec q)))))) (match(D9 (dec c) (dec p))==0 with|true=>some [RV.d aoi (i64.wrap (0-(a9 (dec (hid (enc (xP (dec p))))) (dec (hid (enc (xP (dec q))))))))]|false=>some [RV.d aoi (a9 (dec (hid (enc (xP (dec p))))) (dec (hid (enc (xP (dec q))))))]))))))
def agN:Cn 287 [tO,tP,tP]:=cn fun(c:BO3) (p q:BP)=>lf (ok Ln 300 c∧okP 4000 p∧okP 4000 q) [.d aoi (ri a9 (ptd (dec c) (dec p)) (ptd (dec c) (dec q)))] fun h=>by
 refine aA Jg (ZB c p q) ⟨0,?_⟩
 obtain⟨hc,hp,hq⟩:=h
 obtain⟨c,rfl,bc⟩:=aG hc
 obtain⟨p,rfl,bp,rp⟩:=bR hp
 obtain⟨q,rfl,bq,rq⟩:=bR hq
 have xb:=v7 (xP p) (xP q)
 unfold ZB
 simp only[aU,Nat.reduceLeDiff,aM,aN,aS (x:= -a9 (xP p) (xP q)) (by omega) (by omega),amW]
 unfold ri D9 ptd
 cases upR c p<;>cases upR c q<;>rfl
def aeJ:Ctx:=CX (ens Jg) []
def ZH(c:BCU)(_k:KT):Option (List RV):=match c.2.2.2.1 with|true=>some [RV.d tCU (hid (t9 c))]|false=>some [RV.d tCU c]
theorem aef(c:BCU):RS aeJ 190 [.d tCU c] (ZH c):=rsX
def Zu:Cn 190 [tCU]:=cn fun(c:BCU)=>lf True [.d tCU (dV c)] fun _=>by
 refine c8 Jg (aef _ ⟨0,?_⟩)
 obtain⟨ar,li,ci,cw,fr,to⟩:=c
 unfold ZH dV
 cases cw
 ·rfl
 ·simp only[bK];rfl
def WM:List En:=enT agN::enL Zu::Jg
def Yz(c:BO3)(f p:BP)(_k:KT):Option (List RV):=og (decide (ok Ln 300 c∧okP 4000 p∧okP 4000 f)) (match(ri a9 (ptd (dec c) (dec p)) (ptd (dec c) (dec f)))==0 with|true=>some [RV.d aoi 0]|false=>(match decide ((ri a9 (ptd (dec c) (dec p)) (ptd (dec c) (dec f)))>0)with|true=>some [RV.d aoi 1]|false=>some [RV.d aoi 2]))
def ahv:Cn 285 [tO,tP,tP]:=cn fun(c:BO3) (f p:BP)=>lf (ok Ln 300 c∧okP 4000 f∧okP 4000 p) [.d aoi (oA a9 (ptd (dec c) (dec f)) (ptd (dec c) (dec p)))] fun h=>by
 refine aA WM (Yz c f p) ⟨0,?_⟩
 obtain⟨hc,hf,hp⟩:=h
 unfold Yz oA
 rw[dT ⟨hc,hp,hf⟩]
 cases ri a9 (ptd (dec c) (dec p)) (ptd (dec c) (dec f))==0<;>cases decide (ri a9 (ptd (dec c) (dec p)) (ptd (dec c) (dec f))>0)<;>rfl
def XZ:List En:=enT ahv::WM
def Xi(c:BO3)(f p q:BP)(_k:KT):Option (List RV):=og (decide (ok Ln 300 c∧okP 4000 f∧okP 4000 p)) (og (decide (ok Ln 300 c∧okP 4000 f∧okP 4000 q)) (match(oA a9 (ptd (dec c) (dec f)) (ptd (dec c) (dec p))) !=(oA a9 (ptd (dec c) (dec f)) (ptd (dec c) (dec q)))with|true=>some [RV.d aoi (j9 (i64.wrap ((oA a9 (ptd (dec c) (dec f)) (ptd (dec c) (dec p)))-(oA a9 (ptd (dec c) (dec f)) (ptd (dec c) (dec q))))))]|false=>(og (decide (ok Ln 300 c∧okP 4000 p∧okP 4000 q)) (some [RV.d aoi (j9 (ri a9 (ptd (dec c) (dec p)) (ptd (dec c) (dec q))))]))))
def NW:Cn 191 [tO,tP,tP,tP]:=cn fun(c:BO3) (f p q:BP)=>lf (ok Ln 300 c∧okP 4000 f∧okP 4000 p∧okP 4000 q) [.d aoi (gO a9 (ptd (dec c) (dec f)) (ptd (dec c) (dec p)) (ptd (dec c) (dec q)))] fun h=>by
 refine aA XZ (Xi c f p q) ⟨0,?_⟩
 obtain⟨hc,hf,hp,hq⟩:=h
 unfold Xi gO bne
 have b1:=HJ (p:=ptd (dec c) (dec f)) (q:=ptd (dec c) (dec p))
 have b2:=HJ (p:=ptd (dec c) (dec f)) (q:=ptd (dec c) (dec q))
 rw[dT ⟨hc,hf,hp⟩,dT ⟨hc,hf,hq⟩,dT ⟨hc,hp,hq⟩,aS (by omega) (by omega)]
 cases oA a9 (ptd (dec c) (dec f)) (ptd (dec c) (dec p))==oA a9 (ptd (dec c) (dec f)) (ptd (dec c) (dec q))<;>rfl
def Xs:List En:=enT NW::XZ
def Wm(c:BCU)(p:BP)(_k:KT):Option (List RV):=match !c.1 with|true=>(og (decide (okP 4000 c.2.2.2.2.1∧okP 4000 p)) (og (decide (okP 4000 p∧okP 4000 c.2.2.2.2.2)) (match(aV (dec c.2.2.2.2.1) (dec p))==0 with|true=>some [RV.d .bool true]|false=>(match(aV (dec p) (dec c.2.2.2.2.2))==0 with|true=>some [RV.d .bool true]|false=>some [RV.d .bool ((aV (dec c.2.2.2.2.1) (dec p))==(aV (dec p) (dec c.2.2.2.2.2)))]))))|false=>(og (decide (ok Ln 300 ((((hid (dV c)).2).2).1)∧okP 4000 ((((((hid (dV c)).2).2).2).2).1)∧okP 4000 p∧okP 4000 ((((((hid (dV c)).2).2).2).2).2))) (some [RV.d .bool (decide ((gO a9 (ptd (dec ((((hid (dV c)).2).2).1)) (dec ((((((hid (dV c)).2).2).2).2).1))) (ptd (dec ((((hid (dV c)).2).2).1)) (dec p)) (ptd (dec ((((hid (dV c)).2).2).1)) (dec ((((((hid (dV c)).2).2).2).2).2))))≤0))]))
def Rf:Cn 89 [tCU,tP]:=cn fun(c:BCU) (p:BP)=>lf (okC 4000 c∧okP 4000 p) [.d .bool (il (dC c) (dec p))] fun h=>by
 refine aA Xs (Wm c p) ⟨0,?_⟩
 obtain⟨hc,hp⟩:=h
 obtain⟨ar,li,ci,cw,fr,to⟩:=c
 obtain⟨c1,c2,c3,c4⟩:=hc
 unfold Wm il
 simp only[bK]
 cases ar
 ·try dsimp only[Bool.not_false]
  rw[dT ⟨c3,hp⟩,dT ⟨hp,c4⟩]
  show _=some [RV.d .bool (vf (aV (dec fr) (dec p)) (aV (dec p) (dec to)))]
  unfold vf
  cases aV (dec fr) (dec p)==0<;>cases aV (dec p) (dec to)==0<;>rfl
 ·have e:=(c1 rfl).1
  cases cw
  ·rw[dT (show ok Ln 300 (dV (true,li,ci,false,fr,to)).2.2.1∧okP 4000 (dV (true,li,ci,false,fr,to)).2.2.2.2.1∧okP 4000 p∧okP 4000 (dV (true,li,ci,false,fr,to)).2.2.2.2.2 from⟨e,c3,hp,c4⟩)]
   rfl
  ·rw[dT (show ok Ln 300 (dV (true,li,ci,true,fr,to)).2.2.1∧okP 4000 (dV (true,li,ci,true,fr,to)).2.2.2.2.1∧okP 4000 p∧okP 4000 (dV (true,li,ci,true,fr,to)).2.2.2.2.2 from⟨e,c4,hp,c3⟩)]
   rfl
def aio:List En:=enT Rf::Xs
def WG(c:BCU)(p:BP)(_k:KT):Option (List RV):=og (decide (okC 4000 c∧okP 4000 p)) (match gi (dC c) (dec p)with|true=>(og (decide (okC 4000 c∧okP 4000 p)) (some [RV.d .bool (il (dC c) (dec p))]))|false=>some [RV.d .bool false])
def Ja:Cn 114 [tCU,tP]:=cn fun(c:BCU) (p:BP)=>lf (okC 4000 c∧okP 4000 p) [.d .bool (onP (dC c) (dec p))] fun h=>by
 refine aA aio (WG c p) ⟨0,?_⟩
 unfold WG onP
 rw[dT h]
 cases gi (dC c) (dec p)<;>rfl
theorem cJ{j k:Nat}{x:BP}(h:okP j x)(hj:j≤k)(hk:k≤480000):okP k x:=by
 obtain⟨p,rfl,bp,rp⟩:=bR h
 exact ak1 (aN hj hk)
theorem ce{j k:Nat}{c:BCU}(h:okC j c)(hj:j≤k)(hk:k≤480000):okC k c:=⟨h.1,h.2.1,cJ h.2.2.1 hj hk,cJ h.2.2.2 hj hk⟩
theorem Ck{c:BCU}(hc:okC 500 c){v:Rat×Rat}[bv:Bd v 200]:Bd (nU (dC c) v) 15000∧Rdd (nU (dC c) v):=by
 obtain⟨ar,li,ci,cw,fr,to⟩:=c
 have h3:=hc.2.2.1
 have h4:=hc.2.2.2
 simp only at h3 h4
 obtain⟨fr,rfl,bf,rf⟩:=bR h3
 obtain⟨to,rfl,bt,rt⟩:=bR h4
 have he:Bd (uP (sqP fr v) (sqP to v)) 15000:=(inferInstance:Bd (uP (sqP fr v) (sqP to v)) _).mono (by decide)
 cases ar
 ·obtain⟨c2,c3⟩:=hc.2.1 rfl
  simp only at c2 c3
  obtain⟨li,rfl,bl⟩:=aG c2
  unfold nU A4
  simp only[dC,lnC,frC,toC,az,cond_false]
  cases rG (false,li,dec ci,cw,fr,to) (atP v)
  ·exact⟨he,QM⟩
  ·exact⟨(inferInstance:Bd ((a8 (cQ v (d8 li v)) (cQ v (d8 li v)),0,0):Rt) _).mono (by decide),ada⟩
 ·obtain⟨c1,hq⟩:=hc.1 rfl
  simp only at c1 hq
  obtain⟨ci,rfl,bc⟩:=aG c1
  rw[az]at hq
  have hC:Cir ci:=⟨hq⟩
  unfold nU A4
  simp only[dC,lnC,frC,toC,ciC,aW,az,cond_true]
  cases fb (true,dec li,ci,cw,fr,to) (cQ (ctr ci) v)
  ·exact⟨he,QM⟩
  ·have b2:Bd (-2:Rat) 3:=cV (n:= -2) (by decide)
   exact⟨(inferInstance:Bd (mkR (a8 (cQ (ctr ci) v) (cQ (ctr ci) v)+ci.2.2) (-2) (a8 (cQ (ctr ci) v) (cQ (ctr ci) v)*ci.2.2)) _).mono (by decide),sS⟩
def aeo:List En:=[enL Jk]
def Y6(a b:BV)(_k:KT):Option (List RV):=og (o2 b.1 a.1) (og (o2 b.2 a.2) (some [RV.d tV (hSu b.1 a.1,hSu b.2 a.2)]))
def afT:Cn 311 [tV,tV]:=cn fun(a b:BV)=>lf (ok (Rat×Rat) 10000 a∧ok (Rat×Rat) 10000 b) [.d tV (enc (cQ (dec a) (dec b)))] fun h=>by
 refine aA aeo (Y6 a b) ⟨0,?_⟩
 obtain⟨ha,hb⟩:=h
 obtain⟨a,rfl,ba⟩:=aG ha
 obtain⟨b,rfl,bb⟩:=aG hb
 unfold Y6
 simp only[aU,Nat.reduceLeDiff]
 try rfl
def Dj:List En:=[⟨41,fM,dX⟩,⟨109,kX,gJ⟩,⟨99,iA,fe⟩,⟨108,gU,eO⟩,⟨305,wF,tk⟩,⟨107,iR,fx⟩,⟨106,iD,ff⟩,enL X1,enL yX,enL HQ,enL XY,enL WT,enT Ja,enL Ml,enT CH,enT Sg,enL LZ,enL Jk,enL Rv,enL afT,enL ais,enL Ou]
def WB(a b c:BR)(_k:KT):Option (List RV):=og (decide (ok Rat 100000 a∧ok Rat 100000 b∧ok Rat 100000 c∧0≤ah c)) (match 0 !=0 with|true=>(og (o1 a) (some [RV.d tO (hid (enc ((ah a,0,0):Rt)))]))|false=>some [RV.d tO (hid (enc (mkR (ah a) (ah b) (ah c))))])
def Zh:Cn 98 [tR,tR,tR]:=cn fun(a b c:BR)=>lf (ok Rat 100000 a∧ok Rat 100000 b∧ok Rat 100000 c∧0≤ah c) [.d tO (enc (mkR (ah a) (ah b) (ah c)))] fun h=>by
 refine aA Dj (WB a b c) ⟨0,?_⟩
 obtain⟨ha,hb,hc,hn⟩:=h
 unfold WB
 rw[dT ⟨ha,hb,hc,hn⟩]
 simp only[bK]
 rfl
def WN(v:BV)(_k:KT):Option (List RV):=og (o1 v.1) (match(aD (ah v.1) 0)==0 with|true=>(og (o1 v.2) (some [RV.d .bool ((aD (ah v.2) 0)==0)]))|false=>some [RV.d .bool false])
def agV:Cn 217 [tV]:=cn fun(v:BV)=>lf (ok (Rat×Rat) 100000 v) [.d .bool (zeV (dec v))] fun h=>by
 refine aA Dj (WN v) ⟨0,?_⟩
 have hv:=h
 obtain⟨v,rfl,bv⟩:=aG hv
 unfold WN
 simp only[aU,Nat.reduceLeDiff,aq]
 unfold zeV
 cases decide (v.1=0)<;>rfl
def afy:Ctx:=CX (ens Dj) []
def ae2(c:BCU)(_k:KT):Option (List RV):=some [RV.d tV (c.2.2.1.1,c.2.2.1.2.1)]
theorem afQ(c:BCU):RS afy 102 [.d tCU c] (ae2 c):=rsX
def Xd:Cn 102 [tCU]:=cn fun(c:BCU)=>lf True [.d tV (c.2.2.1.1,c.2.2.1.2.1)] fun _=>by
 exact c8 Dj (afQ _ ⟨0,rfl⟩)
def RD:List En:=enL Zh::enT agV::enL Xd::Dj
def ZT(l:BO3)(p:BP)(_k:KT):Option (List RV):=og (o1 l.2.1) (og (o2 (hNe l.2.1) p.1) (og (o2 l.1 p.2.2.1) (og (o2 (hMu (hNe l.2.1) p.1) (hMu l.1 p.2.2.1)) (og (o2 (hNe l.2.1) p.2.1) (og (o2 l.1 p.2.2.2.1) (og (o2 (hMu (hNe l.2.1) p.2.1) (hMu l.1 p.2.2.2.1)) (og (decide (ok Rat 100000 (hAd (hMu (hNe l.2.1) p.1) (hMu l.1 p.2.2.1))∧ok Rat 100000 (hAd (hMu (hNe l.2.1) p.2.1) (hMu l.1 p.2.2.2.1))∧ok Rat 100000 p.2.2.2.2∧0≤ah p.2.2.2.2)) (some [RV.d tO (hid (enc (mkR (ah (hAd (hMu (hNe l.2.1) p.1) (hMu l.1 p.2.2.1))) (ah (hAd (hMu (hNe l.2.1) p.2.1) (hMu l.1 p.2.2.2.1))) (ah p.2.2.2.2))))]))))))))
def afY:Cn 205 [tO,tP]:=cn fun(l:BO3) (p:BP)=>lf (ok Ln 300 l∧okP 4000 p) [.d tO (enc (eV (dec l) (dec p)))] fun h=>by
 refine aA RD (ZT l p) ⟨0,?_⟩
 obtain⟨hl,hp⟩:=h
 obtain⟨l,rfl,bl⟩:=aG hl
 obtain⟨p,rfl,bp,rp⟩:=bR hp
 have hn:0≤p.2.2.2.2:=rp.nn
 unfold ZT
 simp only[aU,Nat.reduceAdd,Nat.reduceLeDiff,dT hn]
 rfl
def XQ(a b:BO3)(_k:KT):Option (List RV):=og (decide (okT 15000 b∧okT 15000 a)) (match decide ((a9 (dec b) (dec a))<0)with|true=>some [RV.d tO b]|false=>some [RV.d tO a])
def agu:Cn 310 [tO,tO]:=cn fun(a b:BO3)=>lf (okT 15000 a∧okT 15000 b) [.d tO (enc (uP (dec a) (dec b)))] fun h=>by
 refine aA RD (XQ a b) ⟨0,?_⟩
 obtain⟨ha,hb⟩:=h
 obtain⟨a,rfl,ba,ra⟩:=gn ha
 obtain⟨b,rfl,bb,rb⟩:=gn hb
 unfold XQ uP
 simp only[aU,Nat.reduceLeDiff,aM]
 cases decide (a9 b a<0)<;>rfl
def LC:List En:=enL afY::enL agu::RD
def YN(c:BCU)(p:BP)(_k:KT):Option (List RV):=og (decide (ok Ln 300 c.2.1∧okP 4000 p)) (og (decide (ok Ln 300 c.2.1∧okP 4000 c.2.2.2.2.1)) (og (decide (ok Ln 300 c.2.1∧okP 4000 c.2.2.2.2.2)) (og (decide (okT 15000 (hid (enc (eV (dec c.2.1) (dec c.2.2.2.2.1))))∧okT 15000 (hid (enc (eV (dec c.2.1) (dec c.2.2.2.2.2)))))) (match decide ((a9 (dec (hid (enc (eV (dec c.2.1) (dec c.2.2.2.2.1))))) (dec (hid (enc (eV (dec c.2.1) (dec c.2.2.2.2.2))))))>0)with|true=>(og (decide (okT 15000 (hid (enc (eV (dec c.2.1) (dec c.2.2.2.2.2))))∧okT 15000 (hid (enc (eV (dec c.2.1) (dec p)))))) (match decide ((a9 (dec (hid (enc (eV (dec c.2.1) (dec c.2.2.2.2.2))))) (dec (hid (enc (eV (dec c.2.1) (dec p))))))≤0)with|true=>(og (decide (okT 15000 (hid (enc (eV (dec c.2.1) (dec p))))∧okT 15000 (hid (enc (eV (dec c.2.1) (dec c.2.2.2.2.1)))))) (some [RV.d .bool (decide ((a9 (dec (hid (enc (eV (dec c.2.1) (dec p))))) (dec (hid (enc (eV (dec c.2.1) (dec c.2.2.2.2.1))))))≤0))]))|false=>some [RV.d .bool false]))|false=>(og (decide (okT 15000 (hid (enc (eV (dec c.2.1) (dec c.2.2.2.2.1))))∧okT 15000 (hid (enc (eV (dec c.2.1) (dec p)))))) (match decide ((a9 (dec (hid (enc (eV (dec c.2.1) (dec c.2.2.2.2.1))))) (dec (hid (enc (eV (dec c.2.1) (dec p))))))≤0)with|true=>(og (decide (okT 15000 (hid (enc (eV (dec c.2.1) (dec p))))∧okT 15000 (hid (enc (eV (dec c.2.1) (dec c.2.2.2.2.2)))))) (some [RV.d .bool (decide ((a9 (dec (hid (enc (eV (dec c.2.1) (dec p))))) (dec (hid (enc (eV (dec c.2.1) (dec c.2.2.2.2.2))))))≤0))]))|false=>some [RV.d .bool false]))))))
def ZN:Cn 94 [tCU,tP]:=cn fun(c:BCU) (p:BP)=>lf (okC 3000 c∧okP 3000 p∧c.1=false) [.d .bool (rG (dC c) (dec p))] fun h=>by
 refine aA LC (YN c p) ⟨0,?_⟩
 obtain⟨hc,hp,h0⟩:=h
 obtain⟨p,rfl,bp,rp⟩:=bR hp
 obtain⟨ar,li,ci,cw,fr,to⟩:=c
 simp only at h0
 subst h0
 obtain⟨_,c2,c3,c4⟩:=hc
 obtain⟨c2,_⟩:=c2 rfl
 simp only at c2 c3 c4
 obtain⟨li,rfl,bl⟩:=aG c2
 obtain⟨fr,rfl,bf,rf⟩:=bR c3
 obtain⟨to,rfl,bt,rt⟩:=bR c4
 unfold YN rG
 simp only[dC,lnC,frC,toC,aU,Nat.reduceAdd,Nat.reduceMul,Nat.reduceLeDiff,aM,aN]
 cases decide (a9 (eV li fr) (eV li to)>0)
 ·cases decide (a9 (eV li fr) (eV li p)≤0)<;>rfl
 ·cases decide (a9 (eV li to) (eV li p)≤0)<;>rfl
def W4(c:BCU)(v:BV)(_k:KT):Option (List RV):=match !c.1 with|true=>some [RV.d .bool c.1]|false=>(og (decide (ok (Rat×Rat) 100000 v)) (match zeV (dec v)with|true=>some [RV.d .bool c.1]|false=>(og (decide (ok (Rat×Rat) 5000 v∧ok (Rat×Rat) 5000 v)) (og (decide (ir c.2.2.1.2.2 (hid (am (a8 (dec v) (dec v)))))) (og (decide (ok Rat 100000 c.2.2.1.1∧ok Rat 100000 v.1∧ok Rat 100000 (hDi c.2.2.1.2.2 (hid (am (a8 (dec v) (dec v)))))∧0≤ah (hDi c.2.2.1.2.2 (hid (am (a8 (dec v) (dec v))))))) (og (decide (ok Rat 100000 c.2.2.1.2.1∧ok Rat 100000 v.2∧ok Rat 100000 (hDi c.2.2.1.2.2 (hid (am (a8 (dec v) (dec v)))))∧0≤ah (hDi c.2.2.1.2.2 (hid (am (a8 (dec v) (dec v))))))) (og (decide (okT 15000 (hid (enc (mkR (ah c.2.2.1.1) (ah v.1) (ah (hDi c.2.2.1.2.2 (hid (am (a8 (dec v) (dec v)))))))))∧okT 15000 (hid (enc (mkR (ah c.2.2.1.2.1) (ah v.2) (ah (hDi c.2.2.1.2.2 (hid (am (a8 (dec v) (dec v)))))))))∧vw (dec (hid (enc (mkR (ah c.2.2.1.1) (ah v.1) (ah (hDi c.2.2.1.2.2 (hid (am (a8 (dec v) (dec v)))))))))) (dec (hid (enc (mkR (ah c.2.2.1.2.1) (ah v.2) (ah (hDi c.2.2.1.2.2 (hid (am (a8 (dec v) (dec v)))))))))))) (match 0==0 with|true=>(og (decide (okC 4000 c∧okP 4000 (hid (enc (mkP (dec (hid (enc (mkR (ah c.2.2.1.1) (ah v.1) (ah (hDi c.2.2.1.2.2 (hid (am (a8 (dec v) (dec v)))))))))) (dec (hid (enc (mkR (ah c.2.2.1.2.1) (ah v.2) (ah (hDi c.2.2.1.2.2 (hid (am (a8 (dec v) (dec v))))))))))))))) (some [RV.d .bool (onP (dC c) (dec (hid (enc (mkP (dec (hid (enc (mkR (ah c.2.2.1.1) (ah v.1) (ah (hDi c.2.2.1.2.2 (hid (am (a8 (dec v) (dec v)))))))))) (dec (hid (enc (mkR (ah c.2.2.1.2.1) (ah v.2) (ah (hDi c.2.2.1.2.2 (hid (am (a8 (dec v) (dec v)))))))))))))))]))|false=>some [RV.d .bool false]))))))))
def Xo:Cn 110 [tCU,tV]:=cn fun(c:BCU) (v:BV)=>lf (okC 500 c∧ok (Rat×Rat) 510 v) [.d .bool (fb (dC c) (dec v))] fun h=>by
 refine aA LC (W4 c v) ⟨0,?_⟩
 obtain⟨hc,hv⟩:=h
 obtain⟨v,rfl,bv⟩:=aG hv
 have hc4:=ce (k:=4000) hc (by decide) (by decide)
 obtain⟨ar,li,ci,cw,fr,to⟩:=c
 cases ar
 ·rfl
 ·obtain⟨c1,_⟩:=hc.1 rfl
  have hq:=(hc.1 rfl).2
  simp only at c1 hq
  obtain⟨ci,rfl,bc⟩:=aG c1
  rw[az]at hq
  have hC:Cir ci:=⟨hq⟩
  have o4:=akY hc4
  have hn:0≤ci.2.2/a8 v v:=(acm (c:=ci) (d:=v)).le
  have om:decide (vw (mkR ci.1 v.1 (ci.2.2/a8 v v)) (mkR ci.2.1 v.2 (ci.2.2/a8 v v)))=true:=dT (qt _ _ _ _ _)
  have ry:decide (okP 4000 (enc (mkP (mkR ci.1 v.1 (ci.2.2/a8 v v)) (mkR ci.2.1 v.2 (ci.2.2/a8 v v)))))=true:=aN (x:=qF ci v) (by decide) (by decide)
  unfold W4 fb
  simp only[aU,Nat.reduceAdd,Nat.reduceLeDiff,aM,Bool.not_true]
  cases hz:zeV v
  ·have hd:=wM hz
   simp only[aU,Nat.reduceAdd,Nat.reduceLeDiff,hd,ne_eq,amv,dT hn,om,o4,ry]
   show _=some [RV.d .bool (onP _ (qF (dec (enc ci)) v))]
   rw[az]
   rfl
  ·rfl
def Ra:List En:=enT ZN::enT Xo::LC
def adr:NT:=[((228,13),{keep:=[4,19],hl:=0}),((228,29),{keep:=[4,39],hl:=0})]
def afA:Ctx:=CX (ens Ra) adr
def Lo(c:BCU)(v:BV)(_k:KT):Option (List RV):=let y1:=hid (enc (atP (dec v)));let y2:=hid (enc (sqP (dec c.2.2.2.2.1) (dec v)));let y3:=hid (enc (sqP (dec c.2.2.2.2.2) (dec v)));let y4:Option (List RV):=match decide (okP 3500 c.2.2.2.2.1∧ok (Rat×Rat) 300 v)with|true=>(og (decide (okP 3500 c.2.2.2.2.2∧ok (Rat×Rat) 300 v)) (og (decide (okT 15000 y2∧okT 15000 y3)) (some [RV.d tO (hid (enc (uP (dec y2) (dec y3))))])))|false=>none;let y5:=hid (enc (d8 (dec c.2.1) (dec v)));let y6:=hid (enc (cQ (dec v) (dec y5)));let y7:=hid (am (a8 (dec y6) (dec y6)));let y8:=hid ((c.2.2.1.1,c.2.2.1.2.1));let y9:=hid (enc (cQ (dec y8) (dec v)));let y10:=hid (am (a8 (dec y9) (dec y9)));let y11:=hAd y10 c.2.2.1.2.2;let y12:=hid (am (((-2):Int):Rat));let y13:=hMu y10 c.2.2.1.2.2;match !c.1 with|true=>(og (decide (ok (Rat×Rat) 100000 v)) (og (decide (okC 3000 c∧okP 3000 y1∧c.1=false)) (match !(rG (dC c) (dec y1))with|true=>y4|false=>(og (decide (ok Ln 300 c.2.1∧ok (Rat×Rat) 200 v∧((dec c.2.1:Ln).1≠0∨(dec c.2.1:Ln).2.1≠0))) (og (decide (ok (Rat×Rat) 10000 v∧ok (Rat×Rat) 10000 y5)) (og (decide (ok (Rat×Rat) 5000 y6∧ok (Rat×Rat) 5000 y6)) (og (o1 y7) (some [RV.d tO (hid (enc ((ah y7,0,0):Rt)))]))))))))|false=>(og (decide (ok (Rat×Rat) 10000 y8∧ok (Rat×Rat) 10000 v)) (og (decide (okC 500 c∧ok (Rat×Rat) 510 y9)) (match !(fb (dC c) (dec y9))with|true=>y4|false=>(og (decide (ok (Rat×Rat) 5000 y9∧ok (Rat×Rat) 5000 y9)) (og (o2 y10 c.2.2.1.2.2) (og (decide (aH ((-2):Int))) (og (o2 y10 c.2.2.1.2.2) (og (decide (ok Rat 100000 y11∧ok Rat 100000 y12∧ok Rat 100000 y13∧0≤ah y13)) (some [RV.d tO (hid (enc (mkR (ah y11) (ah y12) (ah y13))))])))))))))
theorem agQ(c:BCU)(v:BV):RS afA 228 [.d tCU c,.d tV v] (Lo c v):=rsX
def adT:Cn 228 [tCU,tV]:=cn fun(c:BCU) (v:BV)=>lf (okC 500 c∧ok (Rat×Rat) 200 v) [.d tO (enc (nU (dC c) (dec v)))] fun h=>by
 refine c8 Ra (agQ _ _ ⟨0,?_⟩)
 obtain⟨hc,hv⟩:=h
 obtain⟨v,rfl,bv⟩:=aG hv
 have hc4:=ce (k:=3000) hc (by decide) (by decide)
 obtain⟨ar,li,ci,cw,fr,to⟩:=c
 have h3:=hc.2.2.1
 have h4:=hc.2.2.2
 simp only at h3 h4
 obtain⟨fr,rfl,bf,rf⟩:=bR h3
 obtain⟨to,rfl,bt,rt⟩:=bR h4
 have o4:=akY hc4
 have o5:=akY hc
 cases ar
 ·obtain⟨c2,c3⟩:=hc.2.1 rfl
  simp only at c2 c3
  obtain⟨li,rfl,bl⟩:=aG c2
  rw[az]at c3
  unfold Lo nU A4
  simp only[aU,aF,Nat.reduceAdd,Nat.reduceMul,Nat.reduceLeDiff,aM,aN,o4,c3,Bool.not_false]
  simp only[dC,lnC,frC,toC,az,cond_false]
  cases rG (false,li,dec ci,cw,fr,to) (atP v)<;>rfl
 ·obtain⟨c1,hq⟩:=hc.1 rfl
  simp only at c1 hq
  obtain⟨ci,rfl,bc⟩:=aG c1
  rw[az]at hq
  have hC:Cir ci:=⟨hq⟩
  have hn:0≤a8 (cQ (ctr ci) v) (cQ (ctr ci) v)*ci.2.2:=(TM (c:=ci) (d:=cQ (ctr ci) v)).le
  have e0:((am ci.1,am ci.2.1):BV)=enc (ctr ci):=rfl
  have h2:decide (aH (-2))=true:=by decide
  have b2:Bd ((-2:Int):Rat) 3:=cV (by decide)
  unfold Lo nU A4
  simp only[aU,Nat.reduceAdd,Nat.reduceMul,Nat.reduceLeDiff,aM,aN,o5,e0,Bool.not_true]
  simp only[dC,lnC,frC,toC,ciC,aW,az,cond_true]
  cases fb (true,dec li,ci,cw,fr,to) (cQ (ctr ci) v)
  ·rfl
  ·simp only[aU,dT hn,h2]
   rw[show((-2:Int):Rat)= -2 from rfl]
   rfl
def agk:List En:=enL adT::Ra
def ZK(c:BCU)(v:BV)(r:BR)(_k:KT):Option (List RV):=og (o1 r) (match decide ((aD (ah r) 0)<0)with|true=>some [RV.d aoi 1]|false=>(og (decide (okC 500 c∧ok (Rat×Rat) 200 v)) (og (o2 r r) (og (decide (okT 15000 (hid (enc (nU (dC c) (dec v))))∧ok Rat 15000 (hMu r r))) (some [RV.d aoi (fH (dec (hid (enc (nU (dC c) (dec v))))) (ah (hMu r r)))])))))
def agL:Cn 116 [tCU,tV,tR]:=cn fun(c:BCU) (v:BV) (r:BR)=>lf (okC 500 c∧ok (Rat×Rat) 200 v∧ok Rat 1000 r) [.d aoi (uo (dC c) (dec v) (ah r))] fun h=>by
 refine aA agk (ZK c v r) ⟨0,?_⟩
 obtain⟨hc,hv,hr⟩:=h
 obtain⟨v,rfl,bv⟩:=aG hv
 obtain⟨r,rfl,br⟩:=aG hr
 rw[eT,cA,az]
 have od:=Ck hc (v:=v)
 obtain⟨od1,od2⟩:=od
 unfold ZK uo
 simp only[aU,Nat.reduceAdd,Nat.reduceLeDiff,aM,au,akY hc]
 cases decide (r<0)<;>rfl
abbrev r00:BR:=((false,[]),(false,[]))
abbrev o00:BO3:=(r00,r00,r00)
abbrev p00:BP:=(r00,r00,r00,r00,r00)
abbrev c00:BCU:=(false,o00,o00,false,p00,p00)
def ti(a b:Rat×Rat):Ln:=(a.2-b.2,b.1-a.1,(a.2-b.2)*a.1+(b.1-a.1)*a.2)
def yT(a b:Rat×Rat):Bool:=decide (a.2-b.2=0)&&decide (b.1-a.1=0)
def Uz(a b:Rat×Rat):BO3:=bif yT a b then o00 else enc (ti a b)
def T3(a b:Rat×Rat):Int:=bif yT a b then 6 else 0
def fa(a b c:Rat×Rat):Rat:=(b.1-a.1)*(c.2-a.2)-(b.2-a.2)*(c.1-a.1)
def yC(a b c:Rat×Rat):Rat:=(((b.1-a.1)*(b.1-a.1)+(b.2-a.2)*(b.2-a.2))*(c.2-a.2)-((c.1-a.1)*(c.1-a.1)+(c.2-a.2)*(c.2-a.2))*(b.2-a.2))/(fa a b c+fa a b c)
def xf(a b c:Rat×Rat):Rat:=(((c.1-a.1)*(c.1-a.1)+(c.2-a.2)*(c.2-a.2))*(b.1-a.1)-((b.1-a.1)*(b.1-a.1)+(b.2-a.2)*(b.2-a.2))*(c.1-a.1))/(fa a b c+fa a b c)
def qH(a b c:Rat×Rat):Ln:=(a.1+yC a b c,a.2+xf a b c,yC a b c*yC a b c+xf a b c*xf a b c)
def SY(a b c:Rat×Rat):BO3:=bif decide (fa a b c=0)then o00 else enc (qH a b c)
def Tk(a b c:Rat×Rat):Int:=bif decide (fa a b c=0)then 6 else 0
def xH(a b c:Rat×Rat):Int:=aD ((b.1-a.1)*(c.2-a.2)) ((b.2-a.2)*(c.1-a.1))
def jy(a b:Rat×Rat):BCU:=bif yT a b then c00 else(false,enc (ti a b),o00,false,enc (atP a),enc (atP b))
def m9(a b:Rat×Rat):Int:=bif yT a b then 6 else 0
def l4(a b c:Rat×Rat):BCU:=bif decide (fa a b c=0)then c00 else(true,o00,enc (qH a b c),decide (xH a b c<0),enc (atP a),enc (atP c))
def lX(a b c:Rat×Rat):Int:=bif decide (fa a b c=0)then 6 else 0
theorem aap(a b c:Rat×Rat):(xH a b c==0)=decide (fa a b c=0):=by
 unfold xH fa
 rw[aq]
 exact amb.2 (by constructor<;>intro h<;>grind)
instance ake {a b:Rat×Rat} {i j:Nat} [h:Bd a i] [h':Bd b j]:Bd (ti a b) (4*i+2*j+3):=by
 have i1:Bd ((a.2-b.2,b.1-a.1,(a.2-b.2)*a.1+(b.1-a.1)*a.2):Ln) _:=inferInstance
 exact i1.mono (fo (by omega) (fo (by omega) (by omega)))
def HF:List En:=[enT oB,enT uC,enL uZ,enL re,enL Fu,enL OH,enL Ro,enL Fa,enL LL]
def RG(a b:BV)(_k:KT):Option (List RV):=og (o2 a.2 b.2) (og (o2 b.1 a.1) (og (o1 (hSu a.2 b.2)) (match(aD (ah (hSu a.2 b.2)) 0)==0 with|true=>(og (o1 (hSu b.1 a.1)) (match(aD (ah (hSu b.1 a.1)) 0)==0 with|true=>some [RV.d tO (((false,[]),(false,[])),(((false,[]),(false,[])),((false,[]),(false,[])))),RV.d aoi 6]|false=>(og (o2 (hSu a.2 b.2) a.1) (og (o2 (hSu b.1 a.1) a.2) (og (o2 (hMu (hSu a.2 b.2) a.1) (hMu (hSu b.1 a.1) a.2)) (some [RV.d tO (hSu a.2 b.2,(hSu b.1 a.1,hAd (hMu (hSu a.2 b.2) a.1) (hMu (hSu b.1 a.1) a.2))),RV.d aoi 0]))))))|false=>(og (o2 (hSu a.2 b.2) a.1) (og (o2 (hSu b.1 a.1) a.2) (og (o2 (hMu (hSu a.2 b.2) a.1) (hMu (hSu b.1 a.1) a.2)) (some [RV.d tO (hSu a.2 b.2,(hSu b.1 a.1,hAd (hMu (hSu a.2 b.2) a.1) (hMu (hSu b.1 a.1) a.2))),RV.d aoi 0])))))))
def ace:Cn 142 [tV,tV]:=cn fun(a b:BV)=>lf (ok (Rat×Rat) 100 a∧ok (Rat×Rat) 100 b) [.d tO (Uz (dec a) (dec b)),.d aoi (T3 (dec a) (dec b))] fun h=>by
 refine aA HF (RG a b) ⟨0,?_⟩
 obtain⟨ha,hb⟩:=h
 obtain⟨a,rfl,ba⟩:=aG ha
 obtain⟨b,rfl,bb⟩:=aG hb
 unfold RG Uz T3 yT
 simp only[aU,Nat.reduceAdd,Nat.reduceLeDiff,aq]
 cases decide (a.2-b.2=0)<;>cases decide (b.1-a.1=0)<;>rfl
def YR(a b c:BV)(_k:KT):Option (List RV):=og (o2 b.1 a.1) (og (o2 c.2 a.2) (og (o2 (hSu b.1 a.1) (hSu c.2 a.2)) (og (o2 b.2 a.2) (og (o2 c.1 a.1) (og (o2 (hSu b.2 a.2) (hSu c.1 a.1)) (og (o2 (hMu (hSu b.1 a.1) (hSu c.2 a.2)) (hMu (hSu b.2 a.2) (hSu c.1 a.1))) (some [RV.d aoi (aD (ah (hMu (hSu b.1 a.1) (hSu c.2 a.2))) (ah (hMu (hSu b.2 a.2) (hSu c.1 a.1))))])))))))
def agq:Cn 143 [tV,tV,tV]:=cn fun(a b c:BV)=>lf (ok (Rat×Rat) 100 a∧ok (Rat×Rat) 100 b∧ok (Rat×Rat) 100 c) [.d aoi (xH (dec a) (dec b) (dec c))] fun h=>by
 refine aA HF (YR a b c) ⟨0,?_⟩
 obtain⟨ha,hb,hc⟩:=h
 obtain⟨a,rfl,ba⟩:=aG ha
 obtain⟨b,rfl,bb⟩:=aG hb
 obtain⟨c,rfl,bc⟩:=aG hc
 unfold YR
 simp only[aU,Nat.reduceAdd,Nat.reduceLeDiff]
 rfl
def Nv(a b c:BV)(_k:KT):Option (List RV):=let y1:=hMu (hSu b.1 a.1) (hSu c.2 a.2);let y2:=hMu (hSu b.2 a.2) (hSu c.1 a.1);let y3:=hMu (hSu b.1 a.1) (hSu b.1 a.1);let y4:=hMu (hSu b.2 a.2) (hSu b.2 a.2);let y5:=hMu (hSu c.1 a.1) (hSu c.1 a.1);let y6:=hMu (hSu c.2 a.2) (hSu c.2 a.2);let y7:=hMu (hAd y3 y4) (hSu c.2 a.2);let y8:=hMu (hAd y5 y6) (hSu b.2 a.2);let y9:=hAd (hSu y1 y2) (hSu y1 y2);let y10:=hMu (hAd y5 y6) (hSu b.1 a.1);let y11:=hMu (hAd y3 y4) (hSu c.1 a.1);let y12:=hDi (hSu y7 y8) y9;let y13:=hDi (hSu y10 y11) y9;og (o2 b.1 a.1) (og (o2 b.2 a.2) (og (o2 c.1 a.1) (og (o2 c.2 a.2) (og (o2 (hSu b.1 a.1) (hSu c.2 a.2)) (og (o2 (hSu b.2 a.2) (hSu c.1 a.1)) (og (o2 y1 y2) (og (o1 (hSu y1 y2)) (match(aD (ah (hSu y1 y2)) 0)==0 with|true=>some [RV.d tO (((false,[]),(false,[])),(((false,[]),(false,[])),((false,[]),(false,[])))),RV.d aoi 6]|false=>(og (o2 (hSu y1 y2) (hSu y1 y2)) (og (o2 (hSu b.1 a.1) (hSu b.1 a.1)) (og (o2 (hSu b.2 a.2) (hSu b.2 a.2)) (og (o2 y3 y4) (og (o2 (hSu c.1 a.1) (hSu c.1 a.1)) (og (o2 (hSu c.2 a.2) (hSu c.2 a.2)) (og (o2 y5 y6) (og (o2 (hAd y3 y4) (hSu c.2 a.2)) (og (o2 (hAd y5 y6) (hSu b.2 a.2)) (og (o2 y7 y8) (og (decide (ir (hSu y7 y8) y9)) (og (o2 (hAd y5 y6) (hSu b.1 a.1)) (og (o2 (hAd y3 y4) (hSu c.1 a.1)) (og (o2 y10 y11) (og (decide (ir (hSu y10 y11) y9)) (og (o2 a.1 y12) (og (o2 a.2 y13) (og (o2 y12 y12) (og (o2 y13 y13) (og (o2 (hMu y12 y12) (hMu y13 y13)) (some [RV.d tO (hAd a.1 y12,(hAd a.2 y13,hAd (hMu y12 y12) (hMu y13 y13))),RV.d aoi 0])))))))))))))))))))))))))))))
def abv:Cn 144 [tV,tV,tV]:=cn fun(a b c:BV)=>lf (ok (Rat×Rat) 100 a∧ok (Rat×Rat) 100 b∧ok (Rat×Rat) 100 c) [.d tO (SY (dec a) (dec b) (dec c)),.d aoi (Tk (dec a) (dec b) (dec c))] fun h=>by
 refine aA HF (Nv a b c) ⟨0,?_⟩
 obtain⟨ha,hb,hc⟩:=h
 obtain⟨a,rfl,ba⟩:=aG ha
 obtain⟨b,rfl,bb⟩:=aG hb
 obtain⟨c,rfl,bc⟩:=aG hc
 have e0:(b.1-a.1)*(c.2-a.2)-(b.2-a.2)*(c.1-a.1)=fa a b c:=rfl
 have bD:Bd (fa a b c) 805:=inferInstanceAs (Bd ((b.1-a.1)*(c.2-a.2)-(b.2-a.2)*(c.1-a.1)) _)
 have eX:(((b.1-a.1)*(b.1-a.1)+(b.2-a.2)*(b.2-a.2))*(c.2-a.2)-((c.1-a.1)*(c.1-a.1)+(c.2-a.2)*(c.2-a.2))*(b.2-a.2))/(fa a b c+fa a b c)=yC a b c:=rfl
 have eY:(((c.1-a.1)*(c.1-a.1)+(c.2-a.2)*(c.2-a.2))*(b.1-a.1)-((b.1-a.1)*(b.1-a.1)+(b.2-a.2)*(b.2-a.2))*(c.1-a.1))/(fa a b c+fa a b c)=xf a b c:=rfl
 have m1:Bd ((b.1-a.1)*(b.1-a.1)+(b.2-a.2)*(b.2-a.2)) _:=inferInstance
 have m2:Bd ((c.1-a.1)*(c.1-a.1)+(c.2-a.2)*(c.2-a.2)) _:=inferInstance
 have n1:Bd (((b.1-a.1)*(b.1-a.1)+(b.2-a.2)*(b.2-a.2))*(c.2-a.2)-((c.1-a.1)*(c.1-a.1)+(c.2-a.2)*(c.2-a.2))*(b.2-a.2)) _:=inferInstance
 have n2:Bd (((c.1-a.1)*(c.1-a.1)+(c.2-a.2)*(c.2-a.2))*(b.1-a.1)-((b.1-a.1)*(b.1-a.1)+(b.2-a.2)*(b.2-a.2))*(c.1-a.1)) _:=inferInstance
 have bX0:Bd ((((b.1-a.1)*(b.1-a.1)+(b.2-a.2)*(b.2-a.2))*(c.2-a.2)-((c.1-a.1)*(c.1-a.1)+(c.2-a.2)*(c.2-a.2))*(b.2-a.2))/(fa a b c+fa a b c)) _:=inferInstance
 have bX:Bd (yC a b c) 4000:=by rw[←eX];exact bX0.mono (by decide)
 have bY0:Bd ((((c.1-a.1)*(c.1-a.1)+(c.2-a.2)*(c.2-a.2))*(b.1-a.1)-((b.1-a.1)*(b.1-a.1)+(b.2-a.2)*(b.2-a.2))*(c.1-a.1))/(fa a b c+fa a b c)) _:=inferInstance
 have bY:Bd (xf a b c) 4000:=by rw[←eY];exact bY0.mono (by decide)
 unfold Nv SY Tk
 simp only[aU,Nat.reduceAdd,Nat.reduceLeDiff,aq,e0]
 by_cases hd:fa a b c=0
 ·rw[akY hd]
  rfl
 ·have h2:fa a b c+fa a b c≠0:=by grind
  rw[ak0 hd]
  simp only[aU,Nat.reduceAdd,Nat.reduceLeDiff,h2,ne_eq,amv,eX,eY]
  rfl
def Wj:List En:=enL ace::enT agq::enL abv::HF
def P6(a b:BV)(_k:KT):Option (List RV):=og (decide (ok (Rat×Rat) 100 a∧ok (Rat×Rat) 100 b)) (match(T3 (dec a) (dec b)) !=0 with|true=>some [RV.d tCU (false,((((false,[]),(false,[])),(((false,[]),(false,[])),((false,[]),(false,[])))),((((false,[]),(false,[])),(((false,[]),(false,[])),((false,[]),(false,[])))),(false,((((false,[]),(false,[])),(((false,[]),(false,[])),(((false,[]),(false,[])),(((false,[]),(false,[])),((false,[]),(false,[])))))),(((false,[]),(false,[])),(((false,[]),(false,[])),(((false,[]),(false,[])),(((false,[]),(false,[])),((false,[]),(false,[]))))))))))),RV.d aoi 6]|false=>(og (decide (ok (Rat×Rat) 100000 a)) (og (decide (ok (Rat×Rat) 100000 b)) (some [RV.d tCU (false,(hid (Uz (dec a) (dec b)),((((false,[]),(false,[])),(((false,[]),(false,[])),((false,[]),(false,[])))),(false,(hid (enc (atP (dec a))),hid (enc (atP (dec b)))))))),RV.d aoi 0]))))
def PW:Cn 54 [tV,tV]:=cn fun(a b:BV)=>lf (ok (Rat×Rat) 100 a∧ok (Rat×Rat) 100 b) [.d tCU (jy (dec a) (dec b)),.d aoi (m9 (dec a) (dec b))] fun h=>by
 refine aA Wj (P6 a b) ⟨0,?_⟩
 obtain⟨ha,hb⟩:=h
 obtain⟨a,rfl,ba⟩:=aG ha
 obtain⟨b,rfl,bb⟩:=aG hb
 unfold P6 jy m9 T3 Uz
 simp only[aU,Nat.reduceLeDiff]
 cases yT a b<;>rfl
def Pn(a b c:BV)(_k:KT):Option (List RV):=og (decide (ok (Rat×Rat) 100 a∧ok (Rat×Rat) 100 b∧ok (Rat×Rat) 100 c)) (og (decide (ok (Rat×Rat) 100 a∧ok (Rat×Rat) 100 b∧ok (Rat×Rat) 100 c)) (match(xH (dec a) (dec b) (dec c))==0 with|true=>some [RV.d tCU (false,((((false,[]),(false,[])),(((false,[]),(false,[])),((false,[]),(false,[])))),((((false,[]),(false,[])),(((false,[]),(false,[])),((false,[]),(false,[])))),(false,((((false,[]),(false,[])),(((false,[]),(false,[])),(((false,[]),(false,[])),(((false,[]),(false,[])),((false,[]),(false,[])))))),(((false,[]),(false,[])),(((false,[]),(false,[])),(((false,[]),(false,[])),(((false,[]),(false,[])),((false,[]),(false,[]))))))))))),RV.d aoi 6]|false=>(match(Tk (dec a) (dec b) (dec c)) !=0 with|true=>some [RV.d tCU (false,((((false,[]),(false,[])),(((false,[]),(false,[])),((false,[]),(false,[])))),((((false,[]),(false,[])),(((false,[]),(false,[])),((false,[]),(false,[])))),(false,((((false,[]),(false,[])),(((false,[]),(false,[])),(((false,[]),(false,[])),(((false,[]),(false,[])),((false,[]),(false,[])))))),(((false,[]),(false,[])),(((false,[]),(false,[])),(((false,[]),(false,[])),(((false,[]),(false,[])),((false,[]),(false,[]))))))))))),RV.d aoi 6]|false=>(og (decide (ok (Rat×Rat) 100000 a)) (og (decide (ok (Rat×Rat) 100000 c)) (some [RV.d tCU (true,((((false,[]),(false,[])),(((false,[]),(false,[])),((false,[]),(false,[])))),(hid (SY (dec a) (dec b) (dec c)),(decide ((xH (dec a) (dec b) (dec c))<0),(hid (enc (atP (dec a))),hid (enc (atP (dec c)))))))),RV.d aoi 0]))))))
def Nz:Cn 55 [tV,tV,tV]:=cn fun(a b c:BV)=>lf (ok (Rat×Rat) 100 a∧ok (Rat×Rat) 100 b∧ok (Rat×Rat) 100 c) [.d tCU (l4 (dec a) (dec b) (dec c)),.d aoi (lX (dec a) (dec b) (dec c))] fun h=>by
 refine aA Wj (Pn a b c) ⟨0,?_⟩
 obtain⟨ha,hb,hc⟩:=h
 obtain⟨a,rfl,ba⟩:=aG ha
 obtain⟨b,rfl,bb⟩:=aG hb
 obtain⟨c,rfl,bc⟩:=aG hc
 unfold Pn l4 lX
 simp only[aU,Nat.reduceLeDiff]
 rw[aap]
 unfold Tk SY
 cases decide (fa a b c=0)<;>rfl
def fL(c:Cv):List BP→BP→List BP
 |[],x=>[x]
 |y::r,x=>bif decide (cZ c (dec y) (dec x)<0)then y::fL c r x else bif aV (dec y) (dec x)==0 then y::r else x::y::r
def gP(c:Cv)(l:List BP):List BP:=l.foldl (fL c) []
def xd(c:BCU)(l:List BP):Prop:=okC 4000 c∧l.length≤1000000∧∀x∈l,okP 4000 x
instance (c:BCU) (l:List BP):Decidable (xd c l):=by unfold xd;infer_instance
theorem pN{c:Cv}{x y:BP}:∀{r:List BP},y∈fL c r x→y∈r∨y=x
 |[],h=>by simp only[fL,ant]at h;exact .inr h
 |z::r,h=>by
  simp only[fL]at h
  cases h1:decide (cZ c (dec z) (dec x)<0)<;>rw[h1]at h
  ·cases h2:aV (dec z) (dec x)==0<;>rw[h2]at h
   ·rcases ald.1 h with h|h
    ·exact .inr h
    ·exact .inl h
   ·exact .inl h
  ·rcases ald.1 h with h|h
   ·exact .inl (by simp[h])
   ·rcases pN h with h|h
    ·exact .inl (ala _ h)
    ·exact .inr h
theorem xA(c:Cv)(x:BP):∀r:List BP,(fL c r x).length≤r.length+1
 |[]=>by simp[fL]
 |z::r=>by
  have:=xA c x r
  simp only[fL]
  cases decide (cZ c (dec z) (dec x)<0)
  ·cases aV (dec z) (dec x)==0<;>simp
  ·simp only[cond_true,ale];omega
theorem vP{c:Cv}:∀{l out:List BP} {y:BP},y∈l.foldl (fL c) out→y∈out∨y∈l
 |[],_,_,h=>.inl h
 |x::l,out,y,h=>by
  rcases vP (l:=l) (out:=fL c out x) h with h|h
  ·rcases pN h with h|h
   ·exact .inl h
   ·exact .inr (by simp[h])
  ·exact .inr (ala _ h)
theorem wm(c:Cv):∀(l out:List BP),(l.foldl (fL c) out).length≤out.length+l.length
 |[],_=>ak4 _
 |x::l,out=>by
  have h1:=wm c l (fL c out x)
  have h2:=xA c x out
  simp only[amJ,ale]
  omega
theorem JJ{α:Type}{l:List α}{k:Nat}(h:k<l.length):l.take (k+1)=l.take k++[l[k]]:=by rw[List.take_succ_eq_append_getElem h]
def Y9:List En:=[enT HM,enT LB,enT On]
def abo:NT:=[((59,8),{keep:=[1,2,5,6],pure_:=[(5,tP)],hl:=1}),((59,21),{keep:=[1,2,5,6,7],pure_:=[(5,tP)],hl:=1})]
def vm:Ctx:=CX (ens Y9) abo
def kV(c:BCU)(l:List BP)(s6:Int)(s5:List BP):Cfg:=⟨59,[.blk 0,.seq 38],[(1,.d (.sl tP) l),(2,.box 0 0),(5,.d (.sl tP) s5),(6,SI s6)],[.box 39 [SB c.1,SB c.2.1.1.1.1,.d aoh c.2.1.1.1.2,SB c.2.1.1.2.1,.d aoh c.2.1.1.2.2,SB c.2.1.2.1.1.1,.d aoh c.2.1.2.1.1.2,SB c.2.1.2.1.2.1,.d aoh c.2.1.2.1.2.2,SB c.2.1.2.2.1.1,.d aoh c.2.1.2.2.1.2,SB c.2.1.2.2.2.1,.d aoh c.2.1.2.2.2.2,SB c.2.2.1.1.1.1,.d aoh c.2.2.1.1.1.2,SB c.2.2.1.1.2.1,.d aoh c.2.2.1.1.2.2,SB c.2.2.1.2.1.1.1,.d aoh c.2.2.1.2.1.1.2,SB c.2.2.1.2.1.2.1,.d aoh c.2.2.1.2.1.2.2,SB c.2.2.1.2.2.1.1,.d aoh c.2.2.1.2.2.1.2,SB c.2.2.1.2.2.2.1,.d aoh c.2.2.1.2.2.2.2,SB c.2.2.2.1,SB c.2.2.2.2.1.1.1.1,.d aoh c.2.2.2.2.1.1.1.2,SB c.2.2.2.2.1.1.2.1,.d aoh c.2.2.2.2.1.1.2.2,SB c.2.2.2.2.1.2.1.1.1,.d aoh c.2.2.2.2.1.2.1.1.2,SB c.2.2.2.2.1.2.1.2.1,.d aoh c.2.2.2.2.1.2.1.2.2,SB c.2.2.2.2.1.2.2.1.1.1,.d aoh c.2.2.2.2.1.2.2.1.1.2,SB c.2.2.2.2.1.2.2.1.2.1,.d aoh c.2.2.2.2.1.2.2.1.2.2,SB c.2.2.2.2.1.2.2.2.1.1.1,.d aoh c.2.2.2.2.1.2.2.2.1.1.2,SB c.2.2.2.2.1.2.2.2.1.2.1,.d aoh c.2.2.2.2.1.2.2.2.1.2.2,SB c.2.2.2.2.1.2.2.2.2.1.1,.d aoh c.2.2.2.2.1.2.2.2.2.1.2,SB c.2.2.2.2.1.2.2.2.2.2.1,.d aoh c.2.2.2.2.1.2.2.2.2.2.2,SB c.2.2.2.2.2.1.1.1,.d aoh c.2.2.2.2.2.1.1.2,SB c.2.2.2.2.2.1.2.1,.d aoh c.2.2.2.2.2.1.2.2,SB c.2.2.2.2.2.2.1.1.1,.d aoh c.2.2.2.2.2.2.1.1.2,SB c.2.2.2.2.2.2.1.2.1,.d aoh c.2.2.2.2.2.2.1.2.2,SB c.2.2.2.2.2.2.2.1.1.1,.d aoh c.2.2.2.2.2.2.2.1.1.2,SB c.2.2.2.2.2.2.2.1.2.1,.d aoh c.2.2.2.2.2.2.2.1.2.2,SB c.2.2.2.2.2.2.2.2.1.1.1,.d aoh c.2.2.2.2.2.2.2.2.1.1.2,SB c.2.2.2.2.2.2.2.2.1.2.1,.d aoh c.2.2.2.2.2.2.2.2.1.2.2,SB c.2.2.2.2.2.2.2.2.2.1.1,.d aoh c.2.2.2.2.2.2.2.2.2.1.2,SB c.2.2.2.2.2.2.2.2.2.2.1,.d aoh c.2.2.2.2.2.2.2.2.2.2.2]],0,[]⟩
def wy(c:BCU)(l s5:List BP)(s6 s7:Int):Cfg:=⟨59,[.blk 2,.seq 30,.blk 1,.seq 37,.lp 8,.blk 0,.seq 38],[(1,.d (.sl tP) l),(2,.box 0 0),(5,.d (.sl tP) s5),(6,SI s6),(7,SI s7)],[.box 39 [SB c.1,SB c.2.1.1.1.1,.d aoh c.2.1.1.1.2,SB c.2.1.1.2.1,.d aoh c.2.1.1.2.2,SB c.2.1.2.1.1.1,.d aoh c.2.1.2.1.1.2,SB c.2.1.2.1.2.1,.d aoh c.2.1.2.1.2.2,SB c.2.1.2.2.1.1,.d aoh c.2.1.2.2.1.2,SB c.2.1.2.2.2.1,.d aoh c.2.1.2.2.2.2,SB c.2.2.1.1.1.1,.d aoh c.2.2.1.1.1.2,SB c.2.2.1.1.2.1,.d aoh c.2.2.1.1.2.2,SB c.2.2.1.2.1.1.1,.d aoh c.2.2.1.2.1.1.2,SB c.2.2.1.2.1.2.1,.d aoh c.2.2.1.2.1.2.2,SB c.2.2.1.2.2.1.1,.d aoh c.2.2.1.2.2.1.2,SB c.2.2.1.2.2.2.1,.d aoh c.2.2.1.2.2.2.2,SB c.2.2.2.1,SB c.2.2.2.2.1.1.1.1,.d aoh c.2.2.2.2.1.1.1.2,SB c.2.2.2.2.1.1.2.1,.d aoh c.2.2.2.2.1.1.2.2,SB c.2.2.2.2.1.2.1.1.1,.d aoh c.2.2.2.2.1.2.1.1.2,SB c.2.2.2.2.1.2.1.2.1,.d aoh c.2.2.2.2.1.2.1.2.2,SB c.2.2.2.2.1.2.2.1.1.1,.d aoh c.2.2.2.2.1.2.2.1.1.2,SB c.2.2.2.2.1.2.2.1.2.1,.d aoh c.2.2.2.2.1.2.2.1.2.2,SB c.2.2.2.2.1.2.2.2.1.1.1,.d aoh c.2.2.2.2.1.2.2.2.1.1.2,SB c.2.2.2.2.1.2.2.2.1.2.1,.d aoh c.2.2.2.2.1.2.2.2.1.2.2,SB c.2.2.2.2.1.2.2.2.2.1.1,.d aoh c.2.2.2.2.1.2.2.2.2.1.2,SB c.2.2.2.2.1.2.2.2.2.2.1,.d aoh c.2.2.2.2.1.2.2.2.2.2.2,SB c.2.2.2.2.2.1.1.1,.d aoh c.2.2.2.2.2.1.1.2,SB c.2.2.2.2.2.1.2.1,.d aoh c.2.2.2.2.2.1.2.2,SB c.2.2.2.2.2.2.1.1.1,.d aoh c.2.2.2.2.2.2.1.1.2,SB c.2.2.2.2.2.2.1.2.1,.d aoh c.2.2.2.2.2.2.1.2.2,SB c.2.2.2.2.2.2.2.1.1.1,.d aoh c.2.2.2.2.2.2.2.1.1.2,SB c.2.2.2.2.2.2.2.1.2.1,.d aoh c.2.2.2.2.2.2.2.1.2.2,SB c.2.2.2.2.2.2.2.2.1.1.1,.d aoh c.2.2.2.2.2.2.2.2.1.1.2,SB c.2.2.2.2.2.2.2.2.1.2.1,.d aoh c.2.2.2.2.2.2.2.2.1.2.2,SB c.2.2.2.2.2.2.2.2.2.1.1,.d aoh c.2.2.2.2.2.2.2.2.2.1.2,SB c.2.2.2.2.2.2.2.2.2.2.1,.d aoh c.2.2.2.2.2.2.2.2.2.2.2]],0,[]⟩
def agi(c:BCU)(l:List BP)(k:KT):Option (List RV):=k 8 (kV c l 0 ([]))
theorem afl(c:BCU)(l:List BP):RS vm 59 [.d tCU c,.d (.sl tP) l] (agi c l):=rsX
def yc(c:BCU)(l:List BP)(s6:Int)(s5:List BP)(k:KT):Option (List RV):=match decide (s6<(l.length:Int))with|true=>k 21 (wy c l s5 s6 0)|false=>some [RV.d (.sl tP) s5]
theorem D0(c:BCU)(l:List BP)(s6:Int)(s5:List BP):RN vm 8 (kV c l s6 s5) (yc c l s6 s5):=rnX
def ut(c:BCU)(l s5:List BP)(s6 s7:Int)(k:KT):Option (List RV):=match decide (s7<(s5.length:Int))with|true=>(match aR s5 s7 with|some x1=>(match aR l s6 with|some x2=>(og (decide (okC 4000 c∧okP 4000 x1∧okP 4000 x2)) (match decide ((cZ (dC c) (dec x1) (dec x2))<0)with|true=>k 21 (wy c l s5 s6 (i64.wrap (s7+1)))|false=>(match decide (s7<(s5.length:Int))with|true=>(match aR s5 s7 with|some x3=>(match aR l s6 with|some x4=>(og (decide (okP 4000 x3∧okP 4000 x4)) (match aV (dec x3) (dec x4)==0 with|true=>k 8 (kV c l (i64.wrap (s6+1)) s5)|false=>(og (decide ((0:Int)≤0∧0≤s7∧s7≤(s5.length:Int))) (match aR l s6 with|some x5=>(og (decide ((0:Int)≤s7∧s7≤(s5.length:Int)∧(s5.length:Int)≤(s5.length:Int))) (dup (.b (.b .l .l) .l) (og (decide ((([]:List BP).length+((s5.take (s7).toNat).drop (0:Int).toNat).length)*320≤140737488355328∧([]:List BP).length+((s5.take (s7).toNat).drop (0:Int).toNat).length≤140737488355328)) (og (decide (((([]:List BP)++((s5.take (s7).toNat).drop (0:Int).toNat)).length+([x5]).length)*320≤140737488355328∧(([]:List BP)++((s5.take (s7).toNat).drop (0:Int).toNat)).length+([x5]).length≤140737488355328)) (og (decide ((((([]:List BP)++((s5.take (s7).toNat).drop (0:Int).toNat))++([x5])).length+((s5.take ((s5.length:Int)).toNat).drop (s7:Int).toNat).length)*320≤140737488355328∧((([]:List BP)++((s5.take (s7).toNat).drop (0:Int).toNat))++([x5])).length+((s5.take ((s5.length:Int)).toNat).drop (s7:Int).toNat).length≤140737488355328)) (k 8 (kV c l (i64.wrap (s6+1)) (((([]:List BP)++((s5.take (s7).toNat).drop (0:Int).toNat))++([x5]))++((s5.take ((s5.length:Int)).toNat).drop (s7:Int).toNat)))))))))|none=>none))))|none=>none)|none=>none)|false=>(og (decide ((0:Int)≤0∧0≤s7∧s7≤(s5.length:Int))) (match aR l s6 with|some x3=>(og (decide ((0:Int)≤s7∧s7≤(s5.length:Int)∧(s5.length:Int)≤(s5.length:Int))) (dup (.b (.b .l .l) .l) (og (decide ((([]:List BP).length+((s5.take (s7).toNat).drop (0:Int).toNat).length)*320≤140737488355328∧([]:List BP).length+((s5.take (s7).toNat).drop (0:Int).toNat).length≤140737488355328)) (og (decide (((([]:List BP)++((s5.take (s7).toNat).drop (0:Int).toNat)).length+([x3]).length)*320≤140737488355328∧(([]:List BP)++((s5.take (s7).toNat).drop (0:Int).toNat)).length+([x3]).length≤140737488355328)) (og (decide ((((([]:List BP)++((s5.take (s7).toNat).drop (0:Int).toNat))++([x3])).length+((s5.take ((s5.length:Int)).toNat).drop (s7:Int).toNat).length)*320≤140737488355328∧((([]:List BP)++((s5.take (s7).toNat).drop (0:Int).toNat))++([x3])).length+((s5.take ((s5.length:Int)).toNat).drop (s7:Int).toNat).length≤140737488355328)) (k 8 (kV c l (i64.wrap (s6+1)) (((([]:List BP)++((s5.take (s7).toNat).drop (0:Int).toNat))++([x3]))++((s5.take ((s5.length:Int)).toNat).drop (s7:Int).toNat)))))))))|none=>none)))))|none=>none)|none=>none)|false=>(match decide (s7<(s5.length:Int))with|true=>(match aR s5 s7 with|some x1=>(match aR l s6 with|some x2=>(og (decide (okP 4000 x1∧okP 4000 x2)) (match aV (dec x1) (dec x2)==0 with|true=>k 8 (kV c l (i64.wrap (s6+1)) s5)|false=>(og (decide ((0:Int)≤0∧0≤s7∧s7≤(s5.length:Int))) (match aR l s6 with|some x3=>(og (decide ((0:Int)≤s7∧s7≤(s5.length:Int)∧(s5.length:Int)≤(s5.length:Int))) (dup (.b (.b .l .l) .l) (og (decide ((([]:List BP).length+((s5.take (s7).toNat).drop (0:Int).toNat).length)*320≤140737488355328∧([]:List BP).length+((s5.take (s7).toNat).drop (0:Int).toNat).length≤140737488355328)) (og (decide (((([]:List BP)++((s5.take (s7).toNat).drop (0:Int).toNat)).length+([x3]).length)*320≤140737488355328∧(([]:List BP)++((s5.take (s7).toNat).drop (0:Int).toNat)).length+([x3]).length≤140737488355328)) (og (decide ((((([]:List BP)++((s5.take (s7).toNat).drop (0:Int).toNat))++([x3])).length+((s5.take ((s5.length:Int)).toNat).drop (s7:Int).toNat).length)*320≤140737488355328∧((([]:List BP)++((s5.take (s7).toNat).drop (0:Int).toNat))++([x3])).length+((s5.take ((s5.length:Int)).toNat).drop (s7:Int).toNat).length≤140737488355328)) (k 8 (kV c l (i64.wrap (s6+1)) (((([]:List BP)++((s5.take (s7).toNat).drop (0:Int).toNat))++([x3]))++((s5.take ((s5.length:Int)).toNat).drop (s7:Int).toNat)))))))))|none=>none))))|none=>none)|none=>none)|false=>(og (decide ((0:Int)≤0∧0≤s7∧s7≤(s5.length:Int))) (match aR l s6 with|some x1=>(og (decide ((0:Int)≤s7∧s7≤(s5.length:Int)∧(s5.length:Int)≤(s5.length:Int))) (dup (.b (.b .l .l) .l) (og (decide ((([]:List BP).length+((s5.take (s7).toNat).drop (0:Int).toNat).length)*320≤140737488355328∧([]:List BP).length+((s5.take (s7).toNat).drop (0:Int).toNat).length≤140737488355328)) (og (decide (((([]:List BP)++((s5.take (s7).toNat).drop (0:Int).toNat)).length+([x1]).length)*320≤140737488355328∧(([]:List BP)++((s5.take (s7).toNat).drop (0:Int).toNat)).length+([x1]).length≤140737488355328)) (og (decide ((((([]:List BP)++((s5.take (s7).toNat).drop (0:Int).toNat))++([x1])).length+((s5.take ((s5.length:Int)).toNat).drop (s7:Int).toNat).length)*320≤140737488355328∧((([]:List BP)++((s5.take (s7).toNat).drop (0:Int).toNat))++([x1])).length+((s5.take ((s5.length:Int)).toNat).drop (s7:Int).toNat).length≤140737488355328)) (k 8 (kV c l (i64.wrap (s6+1)) (((([]:List BP)++((s5.take (s7).toNat).drop (0:Int).toNat))++([x1]))++((s5.take ((s5.length:Int)).toNat).drop (s7:Int).toNat)))))))))|none=>none)))
theorem zq(c:BCU)(l s5:List BP)(s6 s7:Int):RN vm 21 (wy c l s5 s6 s7) (ut c l s5 s6 s7):=rnX
theorem acK(c:BCU)(l:List BP)(hc:okC 4000 c)(hl:∀x∈l,okP 4000 x)(out:List BP)(ho:∀x∈out,okP 4000 x)(hlen:out.length≤1000000)(i:Nat)(hi:i<l.length)(hi2:i≤1000000)(r:List RV)(h:vm.Runs 8 (kV c l ((i+1:Nat):Int) (fL (dC c) out l[i])) r):
  ∀(j k:Nat),k+j=out.length→fL (dC c) out l[i]=out.take k++fL (dC c) (out.drop k) l[i]→vm.Runs 21 (wy c l out (i:Int) (k:Int)) r:=by
 have e0:i64.wrap ((i:Int)+1)=((i+1:Nat):Int):=bV (by omega)
 have gl:aR l (i:Int)=some l[i]:=by rw[ao,akZ hi]
 have hx:=hl _ (alz hi)
 have tl:out.take ((out.length:Int)).toNat=out:=by simp
 have put:∀k:Nat,k≤out.length→fL (dC c) out l[i]=out.take k++[l[i]]++out.drop k→∃n,(match decide ((0:Int)≤0∧0≤(k:Int)∧(k:Int)≤(out.length:Int))with
   |true=>(match aR l (i:Int)with
    |some x5=>(match decide ((0:Int)≤(k:Int)∧(k:Int)≤(out.length:Int)∧(out.length:Int)≤(out.length:Int))with
     |true=>(match decide ((([]:List BP).length+((out.take ((k:Int)).toNat).drop (0:Int).toNat).length)*320≤140737488355328∧([]:List BP).length+((out.take ((k:Int)).toNat).drop (0:Int).toNat).length≤140737488355328)with
      |true=>(match decide (((([]:List BP)++((out.take ((k:Int)).toNat).drop (0:Int).toNat)).length+([x5]).length)*320≤140737488355328∧(([]:List BP)++((out.take ((k:Int)).toNat).drop (0:Int).toNat)).length+([x5]).length≤140737488355328)with
       |true=>(match decide ((((([]:List BP)++((out.take ((k:Int)).toNat).drop (0:Int).toNat))++([x5])).length+((out.take ((out.length:Int)).toNat).drop ((k:Int)).toNat).length)*320≤140737488355328∧((([]:List BP)++((out.take ((k:Int)).toNat).drop (0:Int).toNat))++([x5])).length+((out.take ((out.length:Int)).toNat).drop ((k:Int)).toNat).length≤140737488355328)with
        |true=>vm.k n 8 (kV c l (i64.wrap ((i:Int)+1)) (((([]:List BP)++((out.take ((k:Int)).toNat).drop (0:Int).toNat))++([x5]))++((out.take ((out.length:Int)).toNat).drop ((k:Int)).toNat)))
        |false=>none)
       |false=>none)
      |false=>none)
     |false=>none)
    |none=>none)
   |false=>none)=some r:=by
  intro k hk he
  have e1:((out.take ((k:Int)).toNat).drop (0:Int).toNat)=out.take k:=by simp
  have e2:((out.take ((out.length:Int)).toNat).drop ((k:Int)).toNat)=out.drop k:=by simp
  have l1:(out.take k).length=k:=by simp;omega
  have l2:(out.drop k).length=out.length-k:=by simp
  obtain⟨n,hn⟩:=h
  refine⟨n,?_⟩
  rw[gl,dT (show(0:Int)≤0∧0≤(k:Int)∧(k:Int)≤(out.length:Int) by omega)]
  dsimp only
  rw[dT (show(0:Int)≤(k:Int)∧(k:Int)≤(out.length:Int)∧(out.length:Int)≤(out.length:Int) by omega)]
  simp only[e1,e2,anX,List.length_nil,alw,ale,l1,l2,alE]
  rw[dT (by omega),dT (by omega),dT (by omega),e0,←he]
  exact hn
 intro j
 induction j with
 |zero=>
  intro k hk he
  have hk:k=out.length:=by omega
  subst hk
  refine zq _ _ _ _ _ ?_
  unfold ut
  rw[b9 (by omega)]
  simp only[eZ]
  refine put _ (ak4 _) ?_
  rw[he]
  simp[fL]
 |succ j ih=>
  intro k hk he
  have hkl:k<out.length:=by omega
  have go:aR out (k:Int)=some out[k]:=by rw[ao,akZ hkl]
  have ho1:=ho _ (alz hkl)
  have ek:i64.wrap ((k:Int)+1)=((k+1:Nat):Int):=bV (by omega)
  have hd:out.drop k=out[k]::out.drop (k+1):=alg hkl
  refine zq _ _ _ _ _ ?_
  unfold ut
  simp only[eZ,bH hkl,go,gl,dT (show okC 4000 c∧okP 4000 out[k]∧okP 4000 l[i] from⟨hc,ho1,hx⟩),dT (show okP 4000 out[k]∧okP 4000 l[i] from⟨ho1,hx⟩)]
  rw[hd]at he
  simp only[fL]at he
  cases h1:decide (cZ (dC c) (dec out[k]) (dec l[i])<0)<;>rw[h1]at he
  ·simp only[cond_false]at he
   cases h2:aV (dec out[k]) (dec l[i])==0<;>rw[h2]at he
   ·simp only[cond_false]at he
    have:=put k (by omega) (by rw[he,hd];simp)
    simp only[gl]at this
    exact this
   ·simp only[cond_true]at he
    rw[←hd,amo]at he
    obtain⟨n,hn⟩:=h
    refine⟨n,?_⟩
    rw[e0]
    rw[he]at hn
    exact hn
  ·simp only[cond_true]at he
   obtain⟨n,hn⟩:=ih (k+1) (by omega) (by rw[he,JJ hkl,alp];rfl)
   refine⟨n,?_⟩
   rw[ek]
   exact hn
theorem Tp(c:BCU)(l:List BP)(hc:okC 4000 c)(hl:∀x∈l,okP 4000 x)(hle:l.length≤1000000):∀(j i:Nat),i+j=l.length→∀out:List BP,(∀x∈out,okP 4000 x)→out.length≤i→vm.Runs 8 (kV c l (i:Int) out) [.d (.sl tP) ((l.drop i).foldl (fL (dC c)) out)]:=by
 intro j
 induction j with
 |zero=>
  intro i hi out ho hlen
  refine D0 _ _ _ _ ⟨0,?_⟩
  unfold yc
  rw[b9 (by omega),pC (by omega)]
  rfl
 |succ j ih=>
  intro i hi out ho hlen
  have hil:i<l.length:=by omega
  have h2:=ih (i+1) (by omega) (fL (dC c) out l[i]) (fun x hx=>by
   rcases pN hx with h|h
   ·exact ho x h
   ·rw[h];exact hl _ (alz hil)) (alc (xA _ _ _) (by omega))
  obtain⟨n,hn⟩:=acK c l hc hl out ho (by omega) i hil (by omega) _ h2 out.length 0 (by omega) (by simp)
  refine D0 _ _ _ _ ⟨n,?_⟩
  unfold yc
  rw[bH hil,gz hil,amJ]
  exact hn
def Yl:Cn 59 [tCU,(.sl tP)]:=cn fun(c:BCU) (l:List BP)=>lf (xd c l) [.d (.sl tP) (gP (dC c) l)] fun h=>by
 obtain⟨hc,hle,hl⟩:=h
 refine c8 Y9 (show vm.Res _ _ _ from ?_)
 obtain⟨n,hn⟩:=Tp c l hc hl hle l.length 0 (by omega) [] (fun x hx=>by cases hx) (ak4 _)
 exact afl _ _ ⟨n,hn⟩
def AY(c:BCU)(x y:BP):BCU:=(c.1,c.2.1,c.2.2.1,c.2.2.2.1,x,y)
def yS(c:BCU):List BP→List BCU
 |[]=>[]
 |x::r=>match r with
  |[]=>[]
  |y::_=>AY c x y::yS c r
def vI(c:BCU)(l:List BP):List BP:=gP (dC c) ([c.2.2.2.2.1,c.2.2.2.2.2]++l)
def lh(c:BCU)(l:List BP):List BCU:=yS c (vI c l)
def FP(c:BCU)(l:List BP):Prop:=okC 3500 c∧l.length≤900000∧∀x∈l,okP 3500 x∧onR (dC c) (dec x)=true
instance (c:BCU) (l:List BP):Decidable (FP c l):=by unfold FP;infer_instance
theorem U7{c:BCU}{l:List BP}(h:FP c l):xd c ([c.2.2.2.2.1,c.2.2.2.2.2]++l):=by
 obtain⟨h1,h2,h3⟩:=h
 have h4:=ce (k:=4000) h1 (by decide) (by decide)
 refine⟨h4,by simp;omega,fun x hx=>?_⟩
 rcases alJ.1 hx with hx|hx
 ·simp only[ald,aml,anM]at hx
  rcases hx with rfl|rfl
  ·exact h4.2.2.1
  ·exact h4.2.2.2
 ·exact cJ (h3 x hx).1 (by decide) (by decide)
theorem Hy(c:BCU)(l:List BP):(vI c l).length≤l.length+2:=by
 have:=wm (dC c) ([c.2.2.2.2.1,c.2.2.2.2.2]++l) []
 unfold vI gP
 simp at this ⊢
 omega
theorem IN{c:BCU}{l:List BP}{x:BP}(h:x∈vI c l):x=c.2.2.2.2.1∨x=c.2.2.2.2.2∨x∈l:=by
 rcases vP (out:=[]) h with h|h
 ·cases h
 ·rcases alJ.1 h with h|h
  ·simp only[ald,aml,anM]at h
   rcases h with h|h
   ·exact .inl h
   ·exact .inr (.inl h)
  ·exact .inr (.inr h)
theorem H8{c p:BCU}:∀{s:List BP},p∈yS c s→∃x y,x∈s∧y∈s∧p=AY c x y
 |[],h=>by cases h
 |[_],h=>by cases h
 |x::y::r,h=>by
  simp only[yS]at h
  rcases ald.1 h with h|h
  ·exact⟨x,y,by simp,by simp,h⟩
  ·obtain⟨a,b,h1,h2,h3⟩:=H8 (s:=y::r) h
   exact⟨a,b,ala _ h1,ala _ h2,h3⟩
def YM:List En:=[enT HM,enT LB,enT On,enL LK,enT xR,enK Yl]
def aaM:NT:=[((20,6),{keep:=[1,2,6],hl:=1}),((20,31),{keep:=[2,7,8,9],own:=[(8,39,tCU)],hl:=3})]
def zW:Ctx:=CX (ens YM) aaM
def Bo(c:BCU)(l:List BP)(s6:Int):Cfg:=⟨20,[.blk 0,.seq 23],[(1,.d (.sl tP) l),(2,.box 0 0),(6,SI s6)],[.box 39 [SB c.1,SB c.2.1.1.1.1,.d aoh c.2.1.1.1.2,SB c.2.1.1.2.1,.d aoh c.2.1.1.2.2,SB c.2.1.2.1.1.1,.d aoh c.2.1.2.1.1.2,SB c.2.1.2.1.2.1,.d aoh c.2.1.2.1.2.2,SB c.2.1.2.2.1.1,.d aoh c.2.1.2.2.1.2,SB c.2.1.2.2.2.1,.d aoh c.2.1.2.2.2.2,SB c.2.2.1.1.1.1,.d aoh c.2.2.1.1.1.2,SB c.2.2.1.1.2.1,.d aoh c.2.2.1.1.2.2,SB c.2.2.1.2.1.1.1,.d aoh c.2.2.1.2.1.1.2,SB c.2.2.1.2.1.2.1,.d aoh c.2.2.1.2.1.2.2,SB c.2.2.1.2.2.1.1,.d aoh c.2.2.1.2.2.1.2,SB c.2.2.1.2.2.2.1,.d aoh c.2.2.1.2.2.2.2,SB c.2.2.2.1,SB c.2.2.2.2.1.1.1.1,.d aoh c.2.2.2.2.1.1.1.2,SB c.2.2.2.2.1.1.2.1,.d aoh c.2.2.2.2.1.1.2.2,SB c.2.2.2.2.1.2.1.1.1,.d aoh c.2.2.2.2.1.2.1.1.2,SB c.2.2.2.2.1.2.1.2.1,.d aoh c.2.2.2.2.1.2.1.2.2,SB c.2.2.2.2.1.2.2.1.1.1,.d aoh c.2.2.2.2.1.2.2.1.1.2,SB c.2.2.2.2.1.2.2.1.2.1,.d aoh c.2.2.2.2.1.2.2.1.2.2,SB c.2.2.2.2.1.2.2.2.1.1.1,.d aoh c.2.2.2.2.1.2.2.2.1.1.2,SB c.2.2.2.2.1.2.2.2.1.2.1,.d aoh c.2.2.2.2.1.2.2.2.1.2.2,SB c.2.2.2.2.1.2.2.2.2.1.1,.d aoh c.2.2.2.2.1.2.2.2.2.1.2,SB c.2.2.2.2.1.2.2.2.2.2.1,.d aoh c.2.2.2.2.1.2.2.2.2.2.2,SB c.2.2.2.2.2.1.1.1,.d aoh c.2.2.2.2.2.1.1.2,SB c.2.2.2.2.2.1.2.1,.d aoh c.2.2.2.2.2.1.2.2,SB c.2.2.2.2.2.2.1.1.1,.d aoh c.2.2.2.2.2.2.1.1.2,SB c.2.2.2.2.2.2.1.2.1,.d aoh c.2.2.2.2.2.2.1.2.2,SB c.2.2.2.2.2.2.2.1.1.1,.d aoh c.2.2.2.2.2.2.2.1.1.2,SB c.2.2.2.2.2.2.2.1.2.1,.d aoh c.2.2.2.2.2.2.2.1.2.2,SB c.2.2.2.2.2.2.2.2.1.1.1,.d aoh c.2.2.2.2.2.2.2.2.1.1.2,SB c.2.2.2.2.2.2.2.2.1.2.1,.d aoh c.2.2.2.2.2.2.2.2.1.2.2,SB c.2.2.2.2.2.2.2.2.2.1.1,.d aoh c.2.2.2.2.2.2.2.2.2.1.2,SB c.2.2.2.2.2.2.2.2.2.2.1,.d aoh c.2.2.2.2.2.2.2.2.2.2.2]],0,[]⟩
def wk(c:BCU)(l:List BP)(s9:Int)(r2:List BCU):Cfg:=⟨20,[.blk 2,.seq 46],[(2,.box 0 0),(7,.d (.sl tP) (gP (dC c) (([c.2.2.2.2.1,c.2.2.2.2.2])++l))),(8,.own 2),(9,SI s9)],[.box 39 [SB c.1,SB c.2.1.1.1.1,.d aoh c.2.1.1.1.2,SB c.2.1.1.2.1,.d aoh c.2.1.1.2.2,SB c.2.1.2.1.1.1,.d aoh c.2.1.2.1.1.2,SB c.2.1.2.1.2.1,.d aoh c.2.1.2.1.2.2,SB c.2.1.2.2.1.1,.d aoh c.2.1.2.2.1.2,SB c.2.1.2.2.2.1,.d aoh c.2.1.2.2.2.2,SB c.2.2.1.1.1.1,.d aoh c.2.2.1.1.1.2,SB c.2.2.1.1.2.1,.d aoh c.2.2.1.1.2.2,SB c.2.2.1.2.1.1.1,.d aoh c.2.2.1.2.1.1.2,SB c.2.2.1.2.1.2.1,.d aoh c.2.2.1.2.1.2.2,SB c.2.2.1.2.2.1.1,.d aoh c.2.2.1.2.2.1.2,SB c.2.2.1.2.2.2.1,.d aoh c.2.2.1.2.2.2.2,SB c.2.2.2.1,SB c.2.2.2.2.1.1.1.1,.d aoh c.2.2.2.2.1.1.1.2,SB c.2.2.2.2.1.1.2.1,.d aoh c.2.2.2.2.1.1.2.2,SB c.2.2.2.2.1.2.1.1.1,.d aoh c.2.2.2.2.1.2.1.1.2,SB c.2.2.2.2.1.2.1.2.1,.d aoh c.2.2.2.2.1.2.1.2.2,SB c.2.2.2.2.1.2.2.1.1.1,.d aoh c.2.2.2.2.1.2.2.1.1.2,SB c.2.2.2.2.1.2.2.1.2.1,.d aoh c.2.2.2.2.1.2.2.1.2.2,SB c.2.2.2.2.1.2.2.2.1.1.1,.d aoh c.2.2.2.2.1.2.2.2.1.1.2,SB c.2.2.2.2.1.2.2.2.1.2.1,.d aoh c.2.2.2.2.1.2.2.2.1.2.2,SB c.2.2.2.2.1.2.2.2.2.1.1,.d aoh c.2.2.2.2.1.2.2.2.2.1.2,SB c.2.2.2.2.1.2.2.2.2.2.1,.d aoh c.2.2.2.2.1.2.2.2.2.2.2,SB c.2.2.2.2.2.1.1.1,.d aoh c.2.2.2.2.2.1.1.2,SB c.2.2.2.2.2.1.2.1,.d aoh c.2.2.2.2.2.1.2.2,SB c.2.2.2.2.2.2.1.1.1,.d aoh c.2.2.2.2.2.2.1.1.2,SB c.2.2.2.2.2.2.1.2.1,.d aoh c.2.2.2.2.2.2.1.2.2,SB c.2.2.2.2.2.2.2.1.1.1,.d aoh c.2.2.2.2.2.2.2.1.1.2,SB c.2.2.2.2.2.2.2.1.2.1,.d aoh c.2.2.2.2.2.2.2.1.2.2,SB c.2.2.2.2.2.2.2.2.1.1.1,.d aoh c.2.2.2.2.2.2.2.2.1.1.2,SB c.2.2.2.2.2.2.2.2.1.2.1,.d aoh c.2.2.2.2.2.2.2.2.1.2.2,SB c.2.2.2.2.2.2.2.2.2.1.1,.d aoh c.2.2.2.2.2.2.2.2.2.1.2,SB c.2.2.2.2.2.2.2.2.2.2.1,.d aoh c.2.2.2.2.2.2.2.2.2.2.2],.gone,.row 39 tCU r2],0,[]⟩
def ahi(c:BCU)(l:List BP)(k:KT):Option (List RV):=k 6 (Bo c l 0)
theorem agR(c:BCU)(l:List BP):RS zW 20 [.d tCU c,.d (.sl tP) l] (ahi c l):=rsX
def xq(c:BCU)(l:List BP)(s6:Int)(k:KT):Option (List RV):=match decide (s6<(l.length:Int))with|true=>(match aR l s6 with|some x1=>(og (decide (okC 3500 c∧okP 3500 x1)) (match !(onR (dC c) (dec x1))with|true=>some [RV.d (.sl tCU) ([]),RV.d aoi 1]|false=>k 6 (Bo c l (i64.wrap (s6+1)))))|none=>none)|false=>(og (decide ((([c.2.2.2.2.1,c.2.2.2.2.2]).length+l.length)*320≤140737488355328∧([c.2.2.2.2.1,c.2.2.2.2.2]).length+l.length≤140737488355328)) (og (decide (xd c (([c.2.2.2.2.1,c.2.2.2.2.2])++l))) (k 31 (wk c l 1 ([])))))
theorem Ct(c:BCU)(l:List BP)(s6:Int):RN zW 6 (Bo c l s6) (xq c l s6):=rnX
def uR(c:BCU)(l:List BP)(s9:Int)(r2:List BCU)(k:KT):Option (List RV):=match decide (s9<((gP (dC c) (([c.2.2.2.2.1,c.2.2.2.2.2])++l)).length:Int))with|true=>(match aR (gP (dC c) (([c.2.2.2.2.1,c.2.2.2.2.2])++l)) (i64.wrap (s9-1))with|some x1=>(match aR (gP (dC c) (([c.2.2.2.2.1,c.2.2.2.2.2])++l)) s9 with|some x2=>dup (.b .l .l) (og (decide ((r2.length+([(c.1,(c.2.1,(c.2.2.1,(c.2.2.2.1,(x1,x2)))))]).length)*1040≤140737488355328∧r2.length+([(c.1,(c.2.1,(c.2.2.1,(c.2.2.2.1,(x1,x2)))))]).length≤140737488355328)) (k 31 (wk c l (i64.wrap (s9+1)) (r2++([(c.1,(c.2.1,(c.2.2.1,(c.2.2.2.1,(x1,x2)))))])))))|none=>none)|none=>none)|false=>some [RV.d (.sl tCU) r2,RV.d aoi 0]
theorem Ag(c:BCU)(l:List BP)(s9:Int)(r2:List BCU):RN zW 31 (wk c l s9 r2) (uR c l s9 r2):=rnX
theorem aaG(c:BCU)(l:List BP)(hle:l.length≤900000)(S:List BP)(hS:S=vI c l):∀(j i:Nat),1≤i→i+j=max S.length 1→∀out:List BCU,out.length≤i→zW.Runs 31 (wk c l (i:Int) out) [.d (.sl tCU) (out++yS c (S.drop (i-1))),.d aoi (0:Int)]:=by
 have hSl:=Hy c l
 rw[←hS]at hSl
 have eS:gP (dC c) ([c.2.2.2.2.1,c.2.2.2.2.2]++l)=S:=hS.symm
 intro j
 induction j with
 |zero=>
  intro i h1 hi out hlen
  refine Ag _ _ _ _ ⟨0,?_⟩
  unfold uR
  rw[eS,b9 (by omega)]
  have:yS c (S.drop (i-1))=[]:=by
   have hl:(S.drop (i-1)).length≤1:=by rw[ano];omega
   match S.drop (i-1),hl with
   |[],_=>rfl
   |[_],_=>rfl
   |_::_::_,h=>simp at h
  rw[this,alv]
 |succ j ih=>
  intro i h1 hi out hlen
  have hil:i<S.length:=by omega
  have e1:i64.wrap ((i:Int)-1)=((i-1:Nat):Int):=by rw[aS (by omega) (by omega)];omega
  have e2:i64.wrap ((i:Int)+1)=((i+1:Nat):Int):=bV (by omega)
  have g1:aR S ((i-1:Nat):Int)=some S[i-1]:=by rw[ao,akZ (by omega)]
  have g2:aR S (i:Int)=some S[i]:=by rw[ao,akZ hil]
  obtain⟨n,hn⟩:=ih (i+1) (by omega) (by omega) (out++[AY c S[i-1] S[i]]) (by simp;omega)
  refine Ag _ _ _ _ ⟨n,?_⟩
  unfold uR
  rw[eS]
  simp only[eZ,bH hil,e1,e2,g1,g2]
  rw[dT (by simp;omega)]
  have hd:S.drop (i-1)=S[i-1]::S.drop i:=by
   have:=alg (l:=S) (i:=i-1) (by omega)
   rw[this,show i-1+1=i by omega]
  have hd2:S.drop i=S[i]::S.drop (i+1):=alg hil
  rw[hd,hd2]
  rw[show i+1-1=i by omega,hd2,alp]at hn
  exact hn
theorem ab9(c:BCU)(l:List BP)(h:FP c l):∀(j i:Nat),i+j=l.length→zW.Runs 6 (Bo c l (i:Int)) [.d (.sl tCU) (lh c l),.d aoi (0:Int)]:=by
 have hs:=U7 h
 obtain⟨hc,hle,hl⟩:=h
 intro j
 induction j with
 |zero=>
  intro i hi
  obtain⟨n,hn⟩:=aaG c l hle (vI c l) rfl (max (vI c l).length 1-1) 1 (ak4 _) (by omega) [] (by simp)
  refine Ct _ _ _ ⟨n,?_⟩
  unfold xq
  rw[b9 (by omega),dT (by simp;omega),dT hs]
  exact hn
 |succ j ih=>
  intro i hi
  have hil:i<l.length:=by omega
  obtain⟨n,hn⟩:=ih (i+1) (by omega)
  have h1:=hl _ (alz hil)
  refine Ct _ _ _ ⟨n,?_⟩
  unfold xq
  rw[bH hil,ao,akZ hil,bV (by omega)]
  dsimp only
  rw[dT (show okC 3500 c∧okP 3500 l[i] from⟨hc,h1.1⟩),h1.2]
  exact hn
def ag0:Cn 20 [tCU,(.sl tP)]:=cn fun(c:BCU) (l:List BP)=>lf (FP c l) [.d (.sl tCU) (lh c l),.d aoi 0] fun h=>by
 refine c8 YM (show zW.Res _ _ _ from ?_)
 obtain⟨n,hn⟩:=ab9 c l h l.length 0 (by omega)
 exact agR _ _ ⟨n,hn⟩
def DX(n d:Int):Prop:=aH n∧aH d∧0<d
instance (n d:Int):Decidable (DX n d):=by unfold DX;infer_instance
def ac2:List En:=[enL Ch,enL W6]
def MP(n d:Int)(_k:KT):Option (List RV):=match d==0 with|true=>(og (decide (aH (0:Int))) (og (decide (aH (1:Int))) (og (decide (jK (hid (ai (0:Int))) (hid (ai (1:Int))))) (some [RV.d tR (hid (fv (hid (ai (0:Int))) (hid (ai (1:Int)))))]))))|false=>(og (decide (aH n)) (og (decide (aH d)) (og (decide (jK (hid (ai n)) (hid (ai d)))) (some [RV.d tR (hid (fv (hid (ai n)) (hid (ai d))))]))))
def OW:Cn 40 [aoi,aoi]:=cn fun(n d:Int)=>lf (DX n d) [.d tR (am (Rat.divInt n d))] fun h=>by
 refine aA ac2 (MP n d) ⟨0,?_⟩
 obtain⟨hn,hd,h0⟩:=h
 have hne:(d==0)=false:=by simp;omega
 unfold MP
 rw[hne,dT hn,dT hd]
 simp only[bK]
 rw[dT (show jK (ai n) (ai d) from⟨aT (by have:=kb hn;omega),aT (by have:=kb hd;omega),by rw[dec_enc];omega⟩)]
 unfold fv
 rw[dec_enc,dec_enc]
theorem Tq{n d:Int}(h1:aH n)(h2:aH d)(h0:0<d):Bd (Rat.divInt n d) 3:=by
 obtain⟨k,rfl⟩:=ama (show 0≤d by omega)
 exact⟨u9 (by omega) (kb h1) (kb h2)⟩
section
theorem Con.new_d{P:Program}{f:Nat}{args:List SV}{et:TypeId}{e:Ty}{xs:List e.D}(h:Con P f args [.new et e xs]):Con P f args [.d (.sl e) xs]:=by
 intro A w vs hI ha
 refine(h A w vs hI ha).mono ?_
 rintro en w' ⟨v,rfl,hb,css,ho,ha2,hn⟩
 refine⟨v,rfl,hb,?_⟩
 obtain⟨hlen,p,c,hv,h1,h2,h3⟩:=Rd.of_own hn ho
 subst hv
 refine⟨[.slice p xs.length c],⟨p,xs.length,c,css,rfl,rfl,h1,h2,bO (fun _ _ h=>Ty.rd_keep ⟨ak4 _,fun b _ hb=>hb.1,fun _ _ _=>rfl⟩ h) ha2,fun h0=>?_⟩,rfl⟩
 obtain⟨b,off,rfl,h5,h6⟩:=h3 h0
 refine⟨b,off,rfl,.inr ?_,h5,h6⟩
 rcases ho.2 with⟨h7,_⟩|⟨g,cap,cur,h7,h8,_⟩
 ·cases h7
 ·injection h7 with h7
  injection h7 with h7
  injection h7 with h7
  subst h7
  exact h8
class Bb (q:Rat) (n d:outParam Nat):Prop where
 nu:q.num.natAbs≤2^n
 de:q.den≤2^d
theorem CN{n:Int}{d a b:Nat}(hd:d≠0)(h1:n.natAbs≤2^a)(h2:d≤2^b):(mkRat n d).num.natAbs≤2^a∧(mkRat n d).den≤2^b:=by
 rw[an1,an2,alm hd,alm hd]
 constructor
 ·refine alc ?_ h1
  refine(IV n (d.gcd n.natAbs)).resolve_right (fun h=>h ?_)
  exact Int.ofNat_dvd_left.2 (Nat.gcd_dvd_right d n.natAbs)
 ·exact alc (Nat.div_le_self _ _) h2
theorem xx{a b m n:Nat}(h:a≤2^m)(h':b≤2^n):a*b≤2^(m+n):=by
 rw[Nat.pow_add]
 exact am6 h h'
theorem ael{x y m n:Nat}(h:x≤2^m)(h':y≤2^n):x+y≤2^(mx m n+1):=by
 have h1:=alc h (Nat.pow_le_pow_right (by decide) (BZ m n))
 have h2:=alc h' (Nat.pow_le_pow_right (by decide) (BL m n))
 rw[Nat.pow_succ]
 omega
section
variable {a b:Rat} {m n d e:Nat}
instance aj1 [h:Bb a m d] [h':Bb b n e]:Bb (a+b) (mx (m+e) (n+d)+1) (d+e):=by
 have d1:=a.den_pos
 have d2:=b.den_pos
 have:=CN (n:=a.num*(b.den:Int)+b.num*(a.den:Int)) (d:=a.den*b.den) (a:=mx (m+e) (n+d)+1) (b:=d+e) (anE (by omega) (by omega)) (by
  refine alc (Int.natAbs_add_le _ _) ?_
  rw[anQ,anQ,amy,amy]
  exact ael (xx h.nu h'.de) (xx h'.nu h.de)) (xx h.de h'.de)
 rw[←Rat.add_def']at this
 exact⟨this.1,this.2⟩
instance ai7 [h:Bb a m d]:Bb (-a) m d:=⟨by rw[Rat.neg_num,Int.natAbs_neg];exact h.nu,h.de⟩
instance akh [h:Bb a m d] [h':Bb b n e]:Bb (a-b) (mx (m+e) (n+d)+1) (d+e):=by
 rw[anv]
 infer_instance
instance aj6 [h:Bb a m d] [h':Bb b n e]:Bb (a*b) (m+n) (d+e):=by
 have d1:=a.den_pos
 have d2:=b.den_pos
 have:=CN (n:=a.num*b.num) (d:=a.den*b.den) (a:=m+n) (b:=d+e) (anE (by omega) (by omega)) (by
  rw[anQ]
  exact xx h.nu h'.nu) (xx h.de h'.de)
 rw[←Rat.mul_def']at this
 exact⟨this.1,this.2⟩
theorem ZY [h:Bb a m d]:Bb a⁻¹ d m:=by
 by_cases h0:a=0
 ·subst h0
  rw[Rat.inv_zero]
  exact⟨anw _,Nat.one_le_two_pow⟩
 ·have hn:a.num≠0:=fun e=>h0 (Rat.num_eq_zero.1 e)
  have h1:=h.nu
  have h2:=h.de
  rw[Rat.inv_def]
  rcases amS hn with h3|h3
  ·rw[←Rat.neg_divInt_neg,show-a.num=(((-a.num).toNat:Nat):Int) by omega,anp]
   have:=CN (n:= -(a.den:Int)) (d:=(-a.num).toNat) (a:=d) (b:=m) (by omega) (by rw[Int.natAbs_neg];exact h2) (by omega)
   exact⟨this.1,this.2⟩
  ·rw[show a.num=((a.num.toNat:Nat):Int) by omega,anp]
   have:=CN (n:=(a.den:Int)) (d:=a.num.toNat) (a:=d) (b:=m) (by omega) h2 (by omega)
   exact⟨this.1,this.2⟩
instance ajn [h:Bb a m d] [h':Bb b n e]:Bb (a/b) (m+e) (d+n):=by
 rw[anH]
 have:=ZY (h:=h')
 infer_instance
theorem Yj:∀k:Nat,((2^(29*k):Nat):Int)≤pw k
 |0=>by decide
 |k+1=>by
  have ih:=Yj k
  have e:2^(29*(k+1))=2^(29*k)*536870912:=by
   rw[Nat.mul_add,Nat.pow_add]
  rw[e,b8,amw]
  have:(0:Int)≤pw k:=Int.le_trans (Int.natCast_nonneg _) ih
  omega
theorem X3{z:Int}{n:Nat}(h:z.natAbs≤2^n):szI z≤n/29+1:=by
 have h1:=Yj (n/29+1)
 have h2:2^n<2^(29*(n/29+1)):=Nat.pow_lt_pow_right (by decide) (by omega)
 exact fu (by omega) (by omega)
theorem Eg [h:Bb a m d]{k:Nat}(hm:m/29+1≤k)(hd:d/29+1≤k):Bd a k:=⟨⟨alc (X3 h.nu) hm,alc (X3 (z:=(a.den:Int)) h.de) hd⟩⟩
end
theorem Vz{n d:Int}{a b:Nat}(h0:0<d)(h1:n.natAbs≤2^a)(h2:d.natAbs≤2^b):Bb (Rat.divInt n d) a b:=by
 obtain⟨k,rfl⟩:=ama (show 0≤d by omega)
 rw[anp]
 have:=CN (n:=n) (d:=k) (by omega) h1 h2
 exact⟨this.1,this.2⟩
def cL(x:BO3):Prop:=ok Rat 12 x.1∧ok Rat 12 x.2.1∧ok Rat 63 x.2.2∧((dec x:Ln).1≠0∨(dec x:Ln).2.1≠0)
instance (x:BO3):Decidable (cL x):=by unfold cL;infer_instance
def cf(x:BO3):Prop:=ok Rat 4 x.1∧ok Rat 4 x.2.1∧ok Rat 13 x.2.2∧(0:Rat)<(dec x:Ln).2.2
instance (x:BO3):Decidable (cf x):=by unfold cf;infer_instance
class BdL (l:Ln):Prop where
 a:Bd l.1 12
 b:Bd l.2.1 12
 c:Bd l.2.2 63
class BdC (c:Ln):Prop where
 x:Bd c.1 4
 y:Bd c.2.1 4
 q:Bd c.2.2 13
theorem eG{x:BO3}(h:cL x):∃l:Ln,x=enc l∧BdL l∧(l.1≠0∨l.2.1≠0):=by
 obtain⟨h1,h2,h3,h4⟩:=h
 obtain⟨x1,x2,x3⟩:=x
 obtain⟨a,rfl,ba⟩:=aG h1
 obtain⟨b,rfl,bb⟩:=aG h2
 obtain⟨c,rfl,bc⟩:=aG h3
 have e:((enc a,enc b,enc c):BO3)=enc ((a,b,c):Ln):=rfl
 rw[e,az]at h4
 exact⟨(a,b,c),rfl,⟨ba,bb,bc⟩,h4⟩
theorem cK{x:BO3}(h:cf x):∃c:Ln,x=enc c∧BdC c∧0<c.2.2:=by
 obtain⟨h1,h2,h3,h4⟩:=h
 obtain⟨x1,x2,x3⟩:=x
 obtain⟨a,rfl,ba⟩:=aG h1
 obtain⟨b,rfl,bb⟩:=aG h2
 obtain⟨c,rfl,bc⟩:=aG h3
 have e:((enc a,enc b,enc c):BO3)=enc ((a,b,c):Ln):=rfl
 rw[e,az]at h4
 exact⟨(a,b,c),rfl,⟨ba,bb,bc⟩,h4⟩
theorem l8{l:Ln}[h:BdL l](h0:l.1≠0∨l.2.1≠0):cL (enc l):=by
 have a:=h.a
 have b:=h.b
 have c:=h.c
 exact⟨ak1 (okd (ak4 _) (by decide)),ak1 (okd (ak4 _) (by decide)),ak1 (okd (ak4 _) (by decide)),by rw[az];exact h0⟩
theorem gX{c:Ln}[h:BdC c](h0:0<c.2.2):cf (enc c):=by
 have a:=h.x
 have b:=h.y
 have c:=h.q
 exact⟨ak1 (okd (ak4 _) (by decide)),ak1 (okd (ak4 _) (by decide)),ak1 (okd (ak4 _) (by decide)),by rw[az];exact h0⟩
section
variable {l c:Ln}
instance akW [h:BdL l]:Bd l.1 12:=h.a
instance akU [h:BdL l]:Bd l.2.1 12:=h.b
instance akS [h:BdL l]:Bd l.2.2 63:=h.c
instance akV [h:BdC c]:Bd c.1 4:=h.x
instance akX [h:BdC c]:Bd c.2.1 4:=h.y
instance akT [h:BdC c]:Bd c.2.2 13:=h.q
theorem aac [h:BdL l]:Bd l 63:=⟨⟨Cod.mono _ _ _ (by decide) h.a.le,Cod.mono _ _ _ (by decide) h.b.le,h.c.le⟩⟩
theorem NO [h:BdC c]:Bd c 13:=⟨⟨Cod.mono _ _ _ (by decide) h.x.le,Cod.mono _ _ _ (by decide) h.y.le,h.q.le⟩⟩
end
def dt(l m:Ln):Rat:=l.1*m.2.1-m.1*l.2.1
def ld(l m:Ln):Rat:=l.2.2*m.2.1-m.2.2*l.2.1
def k9(l m:Ln):Rat:=l.1*m.2.2-m.1*l.2.2
def lc(l m:Ln):List Pt:=bif !decide (dt l m=0)then [atP (ld l m/dt l m,k9 l m/dt l m)]else []
def Qv(l m:Ln):Int:=bif !decide (dt l m=0)then 0 else bif decide (ld l m=0)&&decide (k9 l m=0)then 10 else 0
def cj(l:Ln):Rat:=l.1*l.1+l.2.1*l.2.1
def vlL(l:Ln)(x y:Rat):Rat:=l.1*x+l.2.1*y-l.2.2
def jp(l c:Ln):Rat:=cj l*c.2.2-vlL l c.1 c.2.1*vlL l c.1 c.2.1
def ow(ax bx ay b_ c:Rat):Pt:=bif fD c then atP (ax+bx*rtQ c,ay+b_*rtQ c)else(ax,bx,ay,b_,c)
def ftX(l c:Ln):Rat:=c.1-vlL l c.1 c.2.1/cj l*l.1
def ftY(l c:Ln):Rat:=c.2.1-vlL l c.1 c.2.1/cj l*l.2.1
def so(l c:Ln):Pt:=ow (ftX l c) (-(l.2.1/cj l)) (ftY l c) (-(-l.1/cj l)) (jp l c)
def tz(l c:Ln):Pt:=ow (ftX l c) (l.2.1/cj l) (ftY l c) (-l.1/cj l) (jp l c)
def rh(l c:Ln):List Pt:=bif decide (jp l c<0)then []else bif decide (jp l c=0)then [atP (ftX l c,ftY l c)]
 else bif decide (aV (so l c) (tz l c)>0)then [tz l c,so l c]else [so l c,tz l c]
def gQ(c d:Ln):Bool:=decide (c.1=d.1)&&decide (c.2.1=d.2.1)
def qI(c:Ln):Rat:=c.1*c.1+c.2.1*c.2.1-c.2.2
def mS(c d:Ln):Ln:=(2*(d.1-c.1),2*(d.2.1-c.2.1),qI d-qI c)
def yH(c d:Ln):List Pt:=bif gQ c d then []else rh (mS c d) c
def U8(c d:Ln):Int:=bif gQ c d then(bif decide (c.2.2=d.2.2)then 10 else 0)else 0
def vM(c d:Ln):BO3:=bif gQ c d then o00 else enc (mS c d)
def T6(c d:Ln):Int:=bif gQ c d then 6 else 0
def oh(l m:Ln):Bool:=decide (l.1*m.2.1=l.2.1*m.1)&&(decide (l.1*m.2.2=l.2.2*m.1)&&decide (l.2.1*m.2.2=l.2.2*m.2.1))
def oZ(c d:Ln):Bool:=decide (c.1=d.1)&&(decide (c.2.1=d.2.1)&&decide (c.2.2=d.2.2))
def cB(a b:Cv):Bool:=bif a.1==b.1 then(bif a.1 then oZ (ciC a) (ciC b)else oh (lnC a) (lnC b))else false
def qM(a:BCU):Prop:=(a.1=true→cf a.2.2.1)∧(a.1=false→cL a.2.1)
instance (a:BCU):Decidable (qM a):=by unfold qM;infer_instance
def gW(a b:BCU):Prop:=qM a∧qM b
instance (a b:BCU):Decidable (gW a b):=by unfold gW;infer_instance
def ta(a b:Cv):List Pt:=bif a.1&&b.1 then yH (ciC a) (ciC b)else bif a.1 then rh (lnC b) (ciC a)else bif b.1 then rh (lnC a) (ciC b)else lc (lnC a) (lnC b)
def Yh(a b:Cv):Int:=bif a.1&&b.1 then U8 (ciC a) (ciC b)else bif a.1 then 0 else bif b.1 then 0 else Qv (lnC a) (lnC b)
def mb(c:Ln):Pt:=ow c.1 (-1) c.2.1 0 c.2.2
def mf(c:Ln):Pt:=ow c.1 1 c.2.1 0 c.2.2
theorem BW{ax bx ay b_ c:Rat}(h0:¬(bx=0∧b_=0))(hc:0≤c):Rpd (ow ax bx ay b_ c):=by
 refine⟨?_⟩
 unfold ow
 cases hq:fD c
 ·exact .inr ⟨h0,Jr hc hq,hq⟩
 ·exact .inl ⟨rfl,rfl,rfl⟩
theorem By{ax bx ay b_ c:Rat}{j k m:Nat}(h1:Bd ax j)(h2:Bd bx k)(h3:Bd ay j)(h4:Bd b_ k)(h5:Bd c m){n:Nat}(hn:j+(k+m)+1≤n):Bd (ow ax bx ay b_ c) n:=by
 have z:bdR n 0:=bI ls.le (by omega)
 have i1:Bd (ax+bx*rtQ c) _:=inferInstance
 have i2:Bd (ay+b_*rtQ c) _:=inferInstance
 refine⟨?_⟩
 unfold ow
 cases fD c
 ·exact⟨bI h1.le (by omega),bI h2.le (by omega),bI h3.le (by omega),bI h4.le (by omega),bI h5.le (by omega)⟩
 ·exact⟨bI i1.le (by omega),z,bI i2.le (by omega),z,z⟩
section
variable {l m c d:Ln}
theorem nw(h:l.1≠0∨l.2.1≠0):cj l≠0:=jV h
instance aks [BdL l] [h:BdC c]:Bd (jp l c) 257:=by
 have hx:=h.x
 have hy:=h.y
 have hq:=h.q
 have i1:Bd (cj l) 49:=inferInstanceAs (Bd (l.1*l.1+l.2.1*l.2.1) _)
 have i2:Bd (vlL l c.1 c.2.1) 97:=inferInstanceAs (Bd (l.1*c.1+l.2.1*c.2.1-l.2.2) _)
 exact(inferInstance:Bd (cj l*c.2.2-vlL l c.1 c.2.1*vlL l c.1 c.2.1) _).mono (by decide)
theorem un [BdL l][h:BdC c]:Bd (ftX l c) 163∧Bd (ftY l c) 163∧Bd (l.2.1/cj l) 61∧Bd (l.1/cj l) 61:=by
 have hx:=h.x
 have hy:=h.y
 have i1:Bd (cj l) 49:=inferInstanceAs (Bd (l.1*l.1+l.2.1*l.2.1) _)
 have i2:Bd (vlL l c.1 c.2.1) 97:=inferInstanceAs (Bd (l.1*c.1+l.2.1*c.2.1-l.2.2) _)
 have i3:Bd (c.1-vlL l c.1 c.2.1/cj l*l.1) _:=inferInstance
 have i4:Bd (c.2.1-vlL l c.1 c.2.1/cj l*l.2.1) _:=inferInstance
 have i5:Bd (l.2.1/cj l) _:=inferInstance
 have i6:Bd (l.1/cj l) _:=inferInstance
 exact⟨i3.mono (by decide),i4.mono (by decide),i5.mono (by decide),i6.mono (by decide)⟩
end
end
end Go.Proofs.YtnkndpoojnflmaaGreat
end
