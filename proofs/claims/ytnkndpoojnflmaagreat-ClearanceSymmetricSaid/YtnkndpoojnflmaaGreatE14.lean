/- Lines and circles: the program's contracts. -/
import Derived.Test.YtnkndpoojnflmaaGreatE12
import Derived.Test.YtnkndpoojnflmaaGreatE13
import Derived.Test.YtnkndpoojnflmaaGreatE10
import Derived.Test.YtnkndpoojnflmaaGreatE11
noncomputable section
namespace Go.Proofs.YtnkndpoojnflmaaGreat
open Go.RowKit Go.IntKind
theorem ame:type_of% @List.not_mem_nil:=@List.not_mem_nil
theorem anu:type_of% @or_false:=@or_false
def zL:List En:=[⟨99,iq,fe⟩,⟨108,gU,eP⟩,⟨107,iW,fy⟩,⟨106,ir,fh⟩,⟨109,kO,gH⟩,⟨41,fX,dU⟩,⟨73,lQ,ip⟩,⟨305,xC,te⟩,enT Dm,enL PI,enL Pu,enL Mc,enL MY,enL Ht,enL Nr,enL Yq]
def ZF(l:BO3)(p:BP)(_k:KT):Option (List RV):=let y1:=bG (dec (p.1,(p.2.1,p.2.2.2.2)));let y2:=hid ((bG (dec p.2.2)).1);let y3:=jL (ah l.1) (hid (y1.1)) (y1.2);let y4:=jL (ah l.2.1) y2 ((bG (dec p.2.2)).2);let y5:=dL (hid (y3.1)) (hid (y4.1));let y6:=hid ((frF (ah l.2.2)).1);let y7:=dL (hid (y5.1)) (hid (mi y6));og (decide (ok Rt 100000 (p.1,(p.2.1,p.2.2.2.2)))) (og (decide (ok Rat 100000 l.1∧prI (hid (y1.1)))) (og (decide (ok Rt 100000 p.2.2)) (og (decide (ok Rat 100000 l.2.1∧prI y2)) (og (decide (ok Rat 200000 l.2.2)) (match !(y3.2)with|true=>some [RV.d aon 0,RV.d .bool false]|false=>(match !(y4.2)with|true=>some [RV.d aon 0,RV.d .bool false]|false=>(match !((frF (ah l.2.2)).2)with|true=>some [RV.d aon 0,RV.d .bool false]|false=>(og (decide (prI (hid (y3.1))∧prI (hid (y4.1)))) (match !(y5.2)with|true=>some [RV.d aon 0,RV.d .bool false]|false=>(og (decide (prI y6)) (og (decide (prI (hid (y5.1))∧prI (hid (mi y6)))) (match !(y7.2)with|true=>some [RV.d aon 0,RV.d .bool false]|false=>some [RV.d aon ((sgF (hid (y7.1))).1),RV.d .bool ((sgF (hid (y7.1))).2)]))))))))))))
def agA:Cn 344 [tO,tP]:=cn fun(l:BO3) (p:BP)=>lf (ok Ln 300 l∧ok Pt 4000 p) [.d aon ((xV (dec l) (dec p)).1),.d .bool ((xV (dec l) (dec p)).2)] fun h=>by
 refine aA zL (ZF l p) ⟨0,?_⟩
 obtain⟨hl,hp⟩:=h
 obtain⟨l,rfl,bl⟩:=aF hl
 obtain⟨p,rfl,bp⟩:=aF hp
 have dx:(dec ((am p.1,am p.2.1,am p.2.2.2.2):BO3):Rt)=pxR p:=az (pxR p)
 have dy:(dec ((am p.2.2.1,am p.2.2.2.1,am p.2.2.2.2):BO3):Rt)=pyR p:=az (pyR p)
 have dy':(dec (enc p.2.2:BO3):Rt)=pyR p:=az (pyR p)
 have px:Bd (pxR p) 4000:=(inferInstance:Bd ((p.1,p.2.1,p.2.2.2.2):Rt) _).mono (by decide)
 have py:Bd (pyR p) 4000:=(inferInstance:Bd ((p.2.2.1,p.2.2.2.1,p.2.2.2.2):Rt) _).mono (by decide)
 have ox:decide (ok Rt 100000 ((am p.1,am p.2.1,am p.2.2.2.2):BO3))=true:=okd (x:=pxR p) (by decide) (by decide)
 have oy:decide (ok Rt 100000 (enc p.2.2:BO3))=true:=okd (x:=pyR p) (by decide) (by decide)
 have pr:∀r,prI (bG r).1:=xe
 have pt:∀n a k,prI (jL n a k).1:=VA
 have pf:∀q,prI (frF q).1:=RE.frF_pr
 unfold ZF
 simp only[aU,Nat.reduceLeDiff,dx,dy',ox,oy,dT (pr _),dT (pt _ _ _),dT (pf _),dT (RE.addF_pr (pt _ _ _) (pt _ _ _)),dT (RE.negF_pr (pf _))]
 unfold xV
 generalize bG (pxR p)=X
 generalize bG (pyR p)=Y
 generalize jL l.1 X.1 X.2=U
 generalize jL l.2.1 Y.1 Y.2=V
 generalize frF l.2.2=W
 generalize dL U.1 V.1=S
 generalize dL S.1 (mi W.1)=D
 generalize sgF D.1=Z
 obtain⟨_,u⟩:=U
 obtain⟨_,v⟩:=V
 obtain⟨_,w⟩:=W
 obtain⟨_,s⟩:=S
 obtain⟨_,d⟩:=D
 cases u<;>cases v<;>cases w<;>try rfl
 cases s<;>cases d<;>rfl
def Wv:Cn 223 [tR,tR]:=cn fun(a b:BR)=>lf (okR a∧okR b) [.d tR (am (ah a+ah b))] fun h=>jJ [RV.d tR (hAd a b)] (du zL) h
def Zj:Cn 222 [tR,tR]:=cn fun(a b:BR)=>lf (okR a∧okR b) [.d tR (am (ah a-ah b))] fun h=>jJ [RV.d tR (hSu a b)] (du zL) h
def Xi:Cn 224 [tR,tR]:=cn fun(a b:BR)=>lf (okR a∧okR b) [.d tR (am (ah a*ah b))] fun h=>jJ [RV.d tR (hMu a b)] (du zL) h
def Xq(a b:BR)(_k:KT):Option (List RV):=og (decide (iv a b)) (match 0 !=0 with|true=>(og (decide (aG (0:Int))) (some [RV.d tR (hid (am ((0:Int):Rat)))]))|false=>some [RV.d tR (hDi a b)])
def agu:Cn 225 [tR,tR]:=cn fun(a b:BR)=>lf (iv a b) [.d tR (am (ah a/ah b))] fun h=>by
 refine aA zL (Xq a b) ⟨0,?_⟩
 unfold Xq
 rw[dT h]
 simp only[bL]
 rfl
def Rz:List En:=enT agA::enL Wv::enL Zj::enL Xi::enL agu::zL
def Yw(a b c:BR)(_k:KT):Option (List RV):=og (o1 a) (og (o1 b) (og (o1 c) (match(i64.wrap ((aC (ah b) 0)*(aC (ah c) 0)))==0 with|true=>some [RV.d aon (aC (ah a) 0)]|false=>(match(aC (ah a) 0)==(i64.wrap ((aC (ah b) 0)*(aC (ah c) 0)))with|true=>some [RV.d aon (aC (ah a) 0)]|false=>(match(aC (ah a) 0)==0 with|true=>some [RV.d aon (i64.wrap ((aC (ah b) 0)*(aC (ah c) 0)))]|false=>(og (o2 a a) (og (o2 b b) (og (o2 (hMu b b) c) (og (o2 (hMu a a) (hMu (hMu b b) c)) (some [RV.d aon (i64.wrap ((aC (ah a) 0)*(aC (ah (hMu a a)) (ah (hMu (hMu b b) c)))))]))))))))))
def afF:Cn 343 [tR,tR,tR]:=cn fun(a b c:BR)=>lf (ok Rat 240000 a∧ok Rat 170000 b∧ok Rat 30000 c) [.d aon (gG (ah a) (ah b) (ah c))] fun h=>by
 refine aA Rz (Yw a b c) ⟨0,?_⟩
 obtain⟨ha,hb,hc⟩:=h
 obtain⟨a,rfl,ba⟩:=aF ha
 obtain⟨b,rfl,bb⟩:=aF hb
 obtain⟨c,rfl,bc⟩:=aF hc
 unfold Yw
 simp only[aU,Nat.reduceAdd,Nat.reduceLeDiff,pT]
 exact By _ _ _
def WA(a b c f:BR)(_k:KT):Option (List RV):=og (decide (ok Rt 100000 (a,(b,c)))) (og (decide (ok Rat 200000 f)) (match !((bG (dec (a,(b,c)))).2)with|true=>some [RV.d tG (0,0),RV.d .bool false]|false=>(match !((frF (ah f)).2)with|true=>some [RV.d tG (0,0),RV.d .bool false]|false=>(og (decide (prI (hid ((frF (ah f)).1)))) (og (decide (prI (hid ((bG (dec (a,(b,c)))).1))∧prI (hid (mi (hid ((frF (ah f)).1)))))) (some [RV.d tG (hid ((dL (hid ((bG (dec (a,(b,c)))).1)) (hid (mi (hid ((frF (ah f)).1))))).1)),RV.d .bool ((dL (hid ((bG (dec (a,(b,c)))).1)) (hid (mi (hid ((frF (ah f)).1))))).2)]))))))
def aeK:Cn 361 [tR,tR,tR,tR]:=cn fun(a b c f:BR)=>lf (ok Rat 100000 a∧ok Rat 100000 b∧ok Rat 100000 c∧ok Rat 100000 f) [.d tG ((fw (ah a,ah b,ah c) (ah f)).1),.d .bool ((fw (ah a,ah b,ah c) (ah f)).2)] fun h=>by
 refine aA Rz (WA a b c f) ⟨0,?_⟩
 obtain⟨ha,hb,hc,hf⟩:=h
 obtain⟨a,rfl,ba⟩:=aF ha
 obtain⟨b,rfl,bb⟩:=aF hb
 obtain⟨c,rfl,bc⟩:=aF hc
 obtain⟨f,rfl,bf⟩:=aF hf
 have dr:(dec ((am a,am b,am c):BO3):Rt)=(a,b,c):=az ((a,b,c):Rt)
 have orr:decide (ok Rt 100000 ((am a,am b,am c):BO3))=true:=okd (x:=((a,b,c):Rt)) (by decide) (by decide)
 unfold WA
 simp only[aU,Nat.reduceLeDiff,dr,orr,dT (RE.frF_pr _),dT (RE.negF_pr (RE.frF_pr _)),dT (xe _)]
 unfold fw
 generalize bG (a,b,c)=X
 generalize frF f=Y
 obtain⟨_,x⟩:=X
 obtain⟨_,y⟩:=Y
 cases x<;>cases y<;>rfl
def Lm:List En:=enT afF::enL aeK::Rz
def WU(c:BO3)(p:BP)(_k:KT):Option (List RV):=let y1:=fw (ah p.1,ah p.2.1,ah p.2.2.2.2) (ah c.1);let y2:=fw (ah p.2.2.1,ah p.2.2.2.1,ah p.2.2.2.2) (ah c.2.1);let y3:=cH (hid (y1.1)) (hid (y1.1));let y4:=cH (hid (y2.1)) (hid (y2.1));let y5:=dL (hid (y3.1)) (hid (y4.1));let y6:=hid ((frF (ah c.2.2)).1);let y7:=dL (hid (y5.1)) (hid (mi y6));og (decide (ok Rat 100000 p.1∧ok Rat 100000 p.2.1∧ok Rat 100000 p.2.2.2.2∧ok Rat 100000 c.1)) (og (decide (ok Rat 100000 p.2.2.1∧ok Rat 100000 p.2.2.2.1∧ok Rat 100000 p.2.2.2.2∧ok Rat 100000 c.2.1)) (og (decide (ok Rat 200000 c.2.2)) (match !(y1.2)with|true=>some [RV.d aon 0,RV.d .bool false]|false=>(match !(y2.2)with|true=>some [RV.d aon 0,RV.d .bool false]|false=>(match !((frF (ah c.2.2)).2)with|true=>some [RV.d aon 0,RV.d .bool false]|false=>(og (decide (prI (hid (y1.1))∧prI (hid (y1.1)))) (og (decide (prI (hid (y2.1))∧prI (hid (y2.1)))) (match !(y3.2)with|true=>some [RV.d aon 0,RV.d .bool false]|false=>(match !(y4.2)with|true=>some [RV.d aon 0,RV.d .bool false]|false=>(og (decide (prI (hid (y3.1))∧prI (hid (y4.1)))) (match !(y5.2)with|true=>some [RV.d aon 0,RV.d .bool false]|false=>(og (decide (prI y6)) (og (decide (prI (hid (y5.1))∧prI (hid (mi y6)))) (match !(y7.2)with|true=>some [RV.d aon 0,RV.d .bool false]|false=>some [RV.d aon ((sgF (hid (y7.1))).1),RV.d .bool ((sgF (hid (y7.1))).2)]))))))))))))))
def aeR:Cn 342 [tO,tP]:=cn fun(c:BO3) (p:BP)=>lf (ok Ln 300 c∧ok Pt 4000 p) [.d aon ((uK (dec c) (dec p)).1),.d .bool ((uK (dec c) (dec p)).2)] fun h=>by
 refine aA Lm (WU c p) ⟨0,?_⟩
 obtain⟨hc,hp⟩:=h
 obtain⟨c,rfl,bc⟩:=aF hc
 obtain⟨p,rfl,bp⟩:=aF hp
 have pd:∀r q,prI (fw r q).1:=VQ
 have pf:∀q,prI (frF q).1:=RE.frF_pr
 have pm:∀a b,prI (cH a b).1:=sE
 have dx:fw (p.1,p.2.1,p.2.2.2.2) c.1=fw (pxR p) c.1:=rfl
 have dy:fw (p.2.2.1,p.2.2.2.1,p.2.2.2.2) c.2.1=fw (pyR p) c.2.1:=rfl
 unfold WU
 simp only[aU,Nat.reduceLeDiff,dx,dy,dT (pd _ _),dT (pm _ _),dT (pf _),dT (RE.negF_pr (pf _)),dT (RE.addF_pr (pm _ _) (pm _ _))]
 unfold uK
 generalize fw (pxR p) c.1=X
 generalize fw (pyR p) c.2.1=Y
 generalize frF c.2.2=W
 generalize cH X.1 X.1=U
 generalize cH Y.1 Y.1=V
 generalize dL U.1 V.1=S
 generalize dL S.1 (mi W.1)=D
 generalize sgF D.1=Z
 obtain⟨_,x⟩:=X
 obtain⟨_,y⟩:=Y
 obtain⟨_,w⟩:=W
 obtain⟨_,u⟩:=U
 obtain⟨_,v⟩:=V
 obtain⟨_,s⟩:=S
 obtain⟨_,d⟩:=D
 cases x<;>cases y<;>cases w<;>try rfl
 cases u<;>cases v<;>try rfl
 cases s<;>cases d<;>rfl
def YO(l:BO3)(p:BP)(_k:KT):Option (List RV):=og (decide (ok Ln 300 l∧ok Pt 4000 p)) (match(xV (dec l) (dec p)).2 with|true=>some [RV.d aon ((xV (dec l) (dec p)).1)]|false=>(og (o2 l.1 p.1) (og (o2 l.2.1 p.2.2.1) (og (o2 (hMu l.1 p.1) (hMu l.2.1 p.2.2.1)) (og (o2 (hAd (hMu l.1 p.1) (hMu l.2.1 p.2.2.1)) l.2.2) (og (o2 l.1 p.2.1) (og (o2 l.2.1 p.2.2.2.1) (og (o2 (hMu l.1 p.2.1) (hMu l.2.1 p.2.2.2.1)) (og (decide (ok Rat 240000 (hSu (hAd (hMu l.1 p.1) (hMu l.2.1 p.2.2.1)) l.2.2)∧ok Rat 170000 (hAd (hMu l.1 p.2.1) (hMu l.2.1 p.2.2.2.1))∧ok Rat 30000 p.2.2.2.2)) (some [RV.d aon (gG (ah (hSu (hAd (hMu l.1 p.1) (hMu l.2.1 p.2.2.1)) l.2.2)) (ah (hAd (hMu l.1 p.2.1) (hMu l.2.1 p.2.2.2.1))) (ah p.2.2.2.2))]))))))))))
def ahy:Cn 308 [tO,tP]:=cn fun(l:BO3) (p:BP)=>lf (ok Ln 300 l∧okP 4000 p) [.d aon (sR (dec l) (dec p))] fun h=>by
 refine aA Lm (YO l p) ⟨0,?_⟩
 obtain⟨hl,hp⟩:=h
 obtain⟨l,rfl,bl⟩:=aF hl
 obtain⟨p,rfl,bp,rp⟩:=bS hp
 unfold YO
 simp only[aU,Nat.reduceAdd,Nat.reduceLeDiff]
 cases hq:(xV l p).2
 ·rfl
 ·rw[RE.sidL_ok l hq]
def WR:List En:=enT aeR::Lm
def WC(c:BO3)(p:BP)(_k:KT):Option (List RV):=og (decide (ok Ln 300 c∧ok Pt 4000 p)) (match(uK (dec c) (dec p)).2 with|true=>some [RV.d aon (i64.wrap (0-((uK (dec c) (dec p)).1)))]|false=>(og (o2 p.1 c.1) (og (o2 p.2.2.1 c.2.1) (og (o2 (hSu p.1 c.1) (hSu p.1 c.1)) (og (o2 (hSu p.2.2.1 c.2.1) (hSu p.2.2.1 c.2.1)) (og (o2 (hMu (hSu p.1 c.1) (hSu p.1 c.1)) (hMu (hSu p.2.2.1 c.2.1) (hSu p.2.2.1 c.2.1))) (og (o2 p.2.1 p.2.1) (og (o2 p.2.2.2.1 p.2.2.2.1) (og (o2 (hMu p.2.1 p.2.1) (hMu p.2.2.2.1 p.2.2.2.1)) (og (o2 p.2.2.2.2 (hAd (hMu p.2.1 p.2.1) (hMu p.2.2.2.1 p.2.2.2.1))) (og (o2 (hAd (hMu (hSu p.1 c.1) (hSu p.1 c.1)) (hMu (hSu p.2.2.1 c.2.1) (hSu p.2.2.1 c.2.1))) (hMu p.2.2.2.2 (hAd (hMu p.2.1 p.2.1) (hMu p.2.2.2.1 p.2.2.2.1)))) (og (o2 (hSu p.1 c.1) p.2.1) (og (o2 (hSu p.2.2.1 c.2.1) p.2.2.2.1) (og (o2 (hMu (hSu p.1 c.1) p.2.1) (hMu (hSu p.2.2.1 c.2.1) p.2.2.2.1)) (og (o2 (hAd (hAd (hMu (hSu p.1 c.1) (hSu p.1 c.1)) (hMu (hSu p.2.2.1 c.2.1) (hSu p.2.2.1 c.2.1))) (hMu p.2.2.2.2 (hAd (hMu p.2.1 p.2.1) (hMu p.2.2.2.1 p.2.2.2.1)))) c.2.2) (og (o2 (hAd (hMu (hSu p.1 c.1) p.2.1) (hMu (hSu p.2.2.1 c.2.1) p.2.2.2.1)) (hAd (hMu (hSu p.1 c.1) p.2.1) (hMu (hSu p.2.2.1 c.2.1) p.2.2.2.1))) (og (decide (ok Rat 240000 (hSu (hAd (hAd (hMu (hSu p.1 c.1) (hSu p.1 c.1)) (hMu (hSu p.2.2.1 c.2.1) (hSu p.2.2.1 c.2.1))) (hMu p.2.2.2.2 (hAd (hMu p.2.1 p.2.1) (hMu p.2.2.2.1 p.2.2.2.1)))) c.2.2)∧ok Rat 170000 (hAd (hAd (hMu (hSu p.1 c.1) p.2.1) (hMu (hSu p.2.2.1 c.2.1) p.2.2.2.1)) (hAd (hMu (hSu p.1 c.1) p.2.1) (hMu (hSu p.2.2.1 c.2.1) p.2.2.2.1)))∧ok Rat 30000 p.2.2.2.2)) (some [RV.d aon (i64.wrap (0-(gG (ah (hSu (hAd (hAd (hMu (hSu p.1 c.1) (hSu p.1 c.1)) (hMu (hSu p.2.2.1 c.2.1) (hSu p.2.2.1 c.2.1))) (hMu p.2.2.2.2 (hAd (hMu p.2.1 p.2.1) (hMu p.2.2.2.1 p.2.2.2.1)))) c.2.2)) (ah (hAd (hAd (hMu (hSu p.1 c.1) p.2.1) (hMu (hSu p.2.2.1 c.2.1) p.2.2.2.1)) (hAd (hMu (hSu p.1 c.1) p.2.1) (hMu (hSu p.2.2.1 c.2.1) p.2.2.2.1)))) (ah p.2.2.2.2))))]))))))))))))))))))
def ahk:Cn 307 [tO,tP]:=cn fun(c:BO3) (p:BP)=>lf (ok Ln 300 c∧okP 4000 p) [.d aon (ow (dec c) (dec p))] fun h=>by
 refine aA WR (WC c p) ⟨0,?_⟩
 obtain⟨hc,hp⟩:=h
 obtain⟨c,rfl,bc⟩:=aF hc
 obtain⟨p,rfl,bp,rp⟩:=bS hp
 have sb:=ld (sqA p (ctr c)-c.2.2) (sqB p (ctr c)) p.2.2.2.2
 unfold WC
 simp only[aU,Nat.reduceAdd,Nat.reduceLeDiff]
 cases hq:(uK c p).2
 ·unfold ow sqA sqB ctr at*
  dsimp only at sb ⊢
  rw[show(p.2.2.2.2*(p.2.1*p.2.1+p.2.2.2.1*p.2.2.2.1))=(p.2.1*p.2.1+p.2.2.2.1*p.2.2.2.1)*p.2.2.2.2 by grind]
  rw[aS (by omega) (by omega),amZ]
 ·have hb: -1≤(uK c p).1∧(uK c p).1≤1:=by
   have:=RE.insC_ok c hq
   unfold ow at this
   omega
  dsimp only
  rw[aS (by omega) (by omega),amZ,RE.insC_ok c hq]
def ZC(l:BO3)(v:BV)(_k:KT):Option (List RV):=og (o2 l.1 v.1) (og (o2 l.2.1 v.2) (og (o2 (hMu l.1 v.1) (hMu l.2.1 v.2)) (og (o2 (hAd (hMu l.1 v.1) (hMu l.2.1 v.2)) l.2.2) (og (o2 l.1 l.1) (og (o2 l.2.1 l.2.1) (og (o2 (hMu l.1 l.1) (hMu l.2.1 l.2.1)) (og (decide (iv (hSu (hAd (hMu l.1 v.1) (hMu l.2.1 v.2)) l.2.2) (hAd (hMu l.1 l.1) (hMu l.2.1 l.2.1)))) (og (o2 (hDi (hSu (hAd (hMu l.1 v.1) (hMu l.2.1 v.2)) l.2.2) (hAd (hMu l.1 l.1) (hMu l.2.1 l.2.1))) l.1) (og (o2 v.1 (hMu (hDi (hSu (hAd (hMu l.1 v.1) (hMu l.2.1 v.2)) l.2.2) (hAd (hMu l.1 l.1) (hMu l.2.1 l.2.1))) l.1)) (og (o2 (hDi (hSu (hAd (hMu l.1 v.1) (hMu l.2.1 v.2)) l.2.2) (hAd (hMu l.1 l.1) (hMu l.2.1 l.2.1))) l.2.1) (og (o2 v.2 (hMu (hDi (hSu (hAd (hMu l.1 v.1) (hMu l.2.1 v.2)) l.2.2) (hAd (hMu l.1 l.1) (hMu l.2.1 l.2.1))) l.2.1)) (some [RV.d tV (hSu v.1 (hMu (hDi (hSu (hAd (hMu l.1 v.1) (hMu l.2.1 v.2)) l.2.2) (hAd (hMu l.1 l.1) (hMu l.2.1 l.2.1))) l.1),hSu v.2 (hMu (hDi (hSu (hAd (hMu l.1 v.1) (hMu l.2.1 v.2)) l.2.2) (hAd (hMu l.1 l.1) (hMu l.2.1 l.2.1))) l.2.1))]))))))))))))
def Ra:Cn 113 [tO,tV]:=cn fun(l:BO3) (v:BV)=>lf (ok Ln 300 l∧ok (Rat×Rat) 200 v∧((dec l:Ln).1≠0∨(dec l:Ln).2.1≠0)) [.d tV (enc (d7 (dec l) (dec v)))] fun h=>by
 refine aA WR (ZC l v) ⟨0,?_⟩
 obtain⟨hl,hv,h0⟩:=h
 obtain⟨l,rfl,bl⟩:=aF hl
 obtain⟨v,rfl,bv⟩:=aF hv
 have hn:l.1*l.1+l.2.1*l.2.1≠0:=jY (by rw[az]at h0;exact h0)
 unfold ZC
 simp only[aU,Nat.reduceAdd,Nat.reduceLeDiff,hn,ne_eq,amA]
 rfl
theorem Tb(n:Int):(if(if n>(-1)then n else(-1))<1 then(if n>(-1)then n else(-1))else 1)=kb n:=by
 unfold kb
 split<;>split<;>(try split)<;>(try split)<;>omega
def wJ:List En:=[enT Dy,enT Np,enL afT,enL aed,enT KO,enT ahy,enT ahk]
def Wt(c:BCU)(p:BP)(_k:KT):Option (List RV):=match c.1 with|true=>(og (decide (ok Ln 300 c.2.2.1∧okP 4000 p)) (some [RV.d .bool ((ow (dec c.2.2.1) (dec p))==0)]))|false=>(og (decide (ok Ln 300 c.2.1∧okP 4000 p)) (some [RV.d .bool ((sR (dec c.2.1) (dec p))==0)]))
def agO:Cn 226 [tCU,tP]:=cn fun(c:BCU) (p:BP)=>lf (okC 4000 c∧okP 4000 p) [.d .bool (fZ (dC c) (dec p))] fun h=>by
 refine aA wJ (Wt c p) ⟨0,?_⟩
 obtain⟨hc,hp⟩:=h
 have op:decide (okP 4000 p)=true:=ak3 hp
 obtain⟨ar,li,ci,cw,fr,to⟩:=c
 obtain⟨c1,c2,_⟩:=hc
 unfold Wt
 cases ar
 ·have e:=(c2 rfl).1
  simp only[am4,dT e,op,amC]
  rfl
 ·have e:=(c1 rfl).1
  simp only[am4,dT e,op,amC]
  rfl
def Ww(c:BO3)(p:BP)(_k:KT):Option (List RV):=og (decide (okP 4000 p)) (og (decide (okT 15000 (hid (enc (yP (dec p))))∧ok Rat 15000 c.2.1)) (match decide ((fR (dec (hid (enc (yP (dec p))))) (ah c.2.1))>0)with|true=>some [RV.d aon 0]|false=>(match(fR (dec (hid (enc (yP (dec p))))) (ah c.2.1))==0 with|true=>(og (decide (okP 4000 p)) (og (decide (okT 15000 (hid (enc (xP (dec p))))∧ok Rat 15000 c.1)) (match decide ((fR (dec (hid (enc (xP (dec p))))) (ah c.1))>0)with|true=>some [RV.d aon 0]|false=>some [RV.d aon 1])))|false=>some [RV.d aon 1])))
def agz:Cn 327 [tO,tP]:=cn fun(c:BO3) (p:BP)=>lf (ok Ln 300 c∧okP 4000 p) [.d aon (Dq (dec c) (dec p))] fun h=>by
 refine aA wJ (Ww c p) ⟨0,?_⟩
 obtain⟨hc,hp⟩:=h
 obtain⟨c,rfl,bc⟩:=aF hc
 obtain⟨p,rfl,bp,rp⟩:=bS hp
 unfold Ww Dq upR
 simp only[aU,Nat.reduceLeDiff,aM,aN]
 cases decide (fR (yP p) c.2.1>0)<;>cases fR (yP p) c.2.1==0<;>cases decide (fR (xP p) c.1>0)<;>rfl
def ahD:Ctx:=CX (ens wJ) []
def Zp(n:Int)(_k:KT):Option (List RV):=some [RV.d aon (if(if n>(-1)then n else(-1))<1 then(if n>(-1)then n else(-1))else 1)]
theorem aie(n:Int):RS ahD 286 [SI n] (Zp n):=rsX
def aeW:Cn 286 [aon]:=cn fun(n:Int)=>lf True [.d aon (kb n)] fun _=>by
 refine c7 wJ (aie _ ⟨0,?_⟩)
 unfold Zp
 rw[Tb]
def ahO:Ctx:=CX (ens wJ) []
def aix(c:BCU)(_k:KT):Option (List RV):=match c.1 with|true=>some [RV.d tCU (c.1,(c.2.1,(c.2.2.1,(!c.2.2.2.1,(c.2.2.2.2.2,c.2.2.2.2.1)))))]|false=>some [RV.d tCU (c.1,(c.2.1,(c.2.2.1,(false,(c.2.2.2.2.2,c.2.2.2.2.1)))))]
theorem ae9(c:BCU):RS ahO 284 [.d tCU c] (aix c):=rsX
def aev:Cn 284 [tCU]:=cn fun(c:BCU)=>lf True [.d tCU (dX c)] fun _=>by
 refine c7 wJ (ae9 _ ⟨0,?_⟩)
 obtain⟨ar,li,ci,cw,fr,to⟩:=c
 cases ar<;>rfl
def IH:List En:=enT agO::enT agz::enT aeW::enL aev::wJ
def Y1(c:BO3)(p q:BP)(_k:KT):Option (List RV):=og (decide (ok Ln 300 c∧okP 4000 p)) (og (decide (ok Ln 300 c∧okP 4000 q)) (match(Dq (dec c) (dec p)) !=(Dq (dec c) (dec q))with|true=>some [RV.d aon (i64.wrap ((Dq (dec c) (dec p))-(Dq (dec c) (dec q))))]|false=>(og (decide (okP 4000 p)) (og (decide (okP 4000 q)) (og (decide (okT 15000 (hid (enc (xP (dec p))))∧okT 15000 (hid (enc (xP (dec q)))))) (match(Dq (dec c) (dec p))==0 with|true=>some [RV.d aon (i64.wrap (0-(a8 (dec (hid (enc (xP (dec p))))) (dec (hid (enc (xP (dec q))))))))]|false=>some [RV.d aon (a8 (dec (hid (enc (xP (dec p))))) (dec (hid (enc (xP (dec q))))))]))))))
def afy:Cn 287 [tO,tP,tP]:=cn fun(c:BO3) (p q:BP)=>lf (ok Ln 300 c∧okP 4000 p∧okP 4000 q) [.d aon (rQ a8 (ptd (dec c) (dec p)) (ptd (dec c) (dec q)))] fun h=>by
 refine aA IH (Y1 c p q) ⟨0,?_⟩
 obtain⟨hc,hp,hq⟩:=h
 obtain⟨c,rfl,bc⟩:=aF hc
 obtain⟨p,rfl,bp,rp⟩:=bS hp
 obtain⟨q,rfl,bq,rq⟩:=bS hq
 have xb:=v9 (xP p) (xP q)
 unfold Y1
 simp only[aU,Nat.reduceLeDiff,aM,aN,aS (x:= -a8 (xP p) (xP q)) (by omega) (by omega),amZ]
 unfold rQ Dq ptd
 cases upR c p<;>cases upR c q<;>rfl
def aeC:Ctx:=CX (ens IH) []
def V3(c:BCU)(_k:KT):Option (List RV):=match c.2.2.2.1 with|true=>some [RV.d tCU (hid (dX c))]|false=>some [RV.d tCU c]
theorem afD(c:BCU):RS aeC 190 [.d tCU c] (V3 c):=rsX
def Yx:Cn 190 [tCU]:=cn fun(c:BCU)=>lf True [.d tCU (dS c)] fun _=>by
 refine c7 IH (afD _ ⟨0,?_⟩)
 obtain⟨ar,li,ci,cw,fr,to⟩:=c
 unfold V3 dS
 cases cw
 ·rfl
 ·simp only[bL];rfl
def Yl:List En:=enT afy::enL Yx::IH
def Zk(c:BO3)(f p:BP)(_k:KT):Option (List RV):=og (decide (ok Ln 300 c∧okP 4000 p∧okP 4000 f)) (match(rQ a8 (ptd (dec c) (dec p)) (ptd (dec c) (dec f)))==0 with|true=>some [RV.d aon 0]|false=>(match decide ((rQ a8 (ptd (dec c) (dec p)) (ptd (dec c) (dec f)))>0)with|true=>some [RV.d aon 1]|false=>some [RV.d aon 2]))
def afJ:Cn 285 [tO,tP,tP]:=cn fun(c:BO3) (f p:BP)=>lf (ok Ln 300 c∧okP 4000 f∧okP 4000 p) [.d aon (ot a8 (ptd (dec c) (dec f)) (ptd (dec c) (dec p)))] fun h=>by
 refine aA Yl (Zk c f p) ⟨0,?_⟩
 obtain⟨hc,hf,hp⟩:=h
 unfold Zk ot
 rw[dT ⟨hc,hp,hf⟩]
 cases rQ a8 (ptd (dec c) (dec p)) (ptd (dec c) (dec f))==0<;>cases decide (rQ a8 (ptd (dec c) (dec p)) (ptd (dec c) (dec f))>0)<;>rfl
def YH:List En:=enT afJ::Yl
def Wp(c:BO3)(f p q:BP)(_k:KT):Option (List RV):=og (decide (ok Ln 300 c∧okP 4000 f∧okP 4000 p)) (og (decide (ok Ln 300 c∧okP 4000 f∧okP 4000 q)) (match(ot a8 (ptd (dec c) (dec f)) (ptd (dec c) (dec p))) !=(ot a8 (ptd (dec c) (dec f)) (ptd (dec c) (dec q)))with|true=>some [RV.d aon (kb (i64.wrap ((ot a8 (ptd (dec c) (dec f)) (ptd (dec c) (dec p)))-(ot a8 (ptd (dec c) (dec f)) (ptd (dec c) (dec q))))))]|false=>(og (decide (ok Ln 300 c∧okP 4000 p∧okP 4000 q)) (some [RV.d aon (kb (rQ a8 (ptd (dec c) (dec p)) (ptd (dec c) (dec q))))]))))
def Nv:Cn 191 [tO,tP,tP,tP]:=cn fun(c:BO3) (f p q:BP)=>lf (ok Ln 300 c∧okP 4000 f∧okP 4000 p∧okP 4000 q) [.d aon (gF a8 (ptd (dec c) (dec f)) (ptd (dec c) (dec p)) (ptd (dec c) (dec q)))] fun h=>by
 refine aA YH (Wp c f p q) ⟨0,?_⟩
 obtain⟨hc,hf,hp,hq⟩:=h
 unfold Wp gF bne
 have b1:=HF (p:=ptd (dec c) (dec f)) (q:=ptd (dec c) (dec p))
 have b2:=HF (p:=ptd (dec c) (dec f)) (q:=ptd (dec c) (dec q))
 rw[dT ⟨hc,hf,hp⟩,dT ⟨hc,hf,hq⟩,dT ⟨hc,hp,hq⟩,aS (by omega) (by omega)]
 cases ot a8 (ptd (dec c) (dec f)) (ptd (dec c) (dec p))==ot a8 (ptd (dec c) (dec f)) (ptd (dec c) (dec q))<;>rfl
def Ya:List En:=enT Nv::YH
def W8(c:BCU)(p:BP)(_k:KT):Option (List RV):=match !c.1 with|true=>(og (decide (okP 4000 c.2.2.2.2.1∧okP 4000 p)) (og (decide (okP 4000 p∧okP 4000 c.2.2.2.2.2)) (match(aV (dec c.2.2.2.2.1) (dec p))==0 with|true=>some [RV.d .bool true]|false=>(match(aV (dec p) (dec c.2.2.2.2.2))==0 with|true=>some [RV.d .bool true]|false=>some [RV.d .bool ((aV (dec c.2.2.2.2.1) (dec p))==(aV (dec p) (dec c.2.2.2.2.2)))]))))|false=>(og (decide (ok Ln 300 ((((hid (dS c)).2).2).1)∧okP 4000 ((((((hid (dS c)).2).2).2).2).1)∧okP 4000 p∧okP 4000 ((((((hid (dS c)).2).2).2).2).2))) (some [RV.d .bool (decide ((gF a8 (ptd (dec ((((hid (dS c)).2).2).1)) (dec ((((((hid (dS c)).2).2).2).2).1))) (ptd (dec ((((hid (dS c)).2).2).1)) (dec p)) (ptd (dec ((((hid (dS c)).2).2).1)) (dec ((((((hid (dS c)).2).2).2).2).2))))≤0))]))
def OR:Cn 89 [tCU,tP]:=cn fun(c:BCU) (p:BP)=>lf (okC 4000 c∧okP 4000 p) [.d .bool (ik (dC c) (dec p))] fun h=>by
 refine aA Ya (W8 c p) ⟨0,?_⟩
 obtain⟨hc,hp⟩:=h
 obtain⟨ar,li,ci,cw,fr,to⟩:=c
 obtain⟨c1,c2,c3,c4⟩:=hc
 unfold W8 ik
 simp only[bL]
 cases ar
 ·try dsimp only[Bool.not_false]
  rw[dT ⟨c3,hp⟩,dT ⟨hp,c4⟩]
  show _=some [RV.d .bool (oo (aV (dec fr) (dec p)) (aV (dec p) (dec to)))]
  unfold oo
  cases aV (dec fr) (dec p)==0<;>cases aV (dec p) (dec to)==0<;>rfl
 ·have e:=(c1 rfl).1
  cases cw
  ·rw[dT (show ok Ln 300 (dS (true,li,ci,false,fr,to)).2.2.1∧okP 4000 (dS (true,li,ci,false,fr,to)).2.2.2.2.1∧okP 4000 p∧okP 4000 (dS (true,li,ci,false,fr,to)).2.2.2.2.2 from⟨e,c3,hp,c4⟩)]
   rfl
  ·rw[dT (show ok Ln 300 (dS (true,li,ci,true,fr,to)).2.2.1∧okP 4000 (dS (true,li,ci,true,fr,to)).2.2.2.2.1∧okP 4000 p∧okP 4000 (dS (true,li,ci,true,fr,to)).2.2.2.2.2 from⟨e,c4,hp,c3⟩)]
   rfl
def af2:List En:=enT OR::Ya
def Za(c:BCU)(p:BP)(_k:KT):Option (List RV):=og (decide (okC 4000 c∧okP 4000 p)) (match fZ (dC c) (dec p)with|true=>(og (decide (okC 4000 c∧okP 4000 p)) (some [RV.d .bool (ik (dC c) (dec p))]))|false=>some [RV.d .bool false])
def Jp:Cn 114 [tCU,tP]:=cn fun(c:BCU) (p:BP)=>lf (okC 4000 c∧okP 4000 p) [.d .bool (onP (dC c) (dec p))] fun h=>by
 refine aA af2 (Za c p) ⟨0,?_⟩
 unfold Za onP
 rw[dT h]
 cases fZ (dC c) (dec p)<;>rfl
theorem cK{j k:Nat}{x:BP}(h:okP j x)(hj:j≤k)(hk:k≤480000):okP k x:=by
 obtain⟨p,rfl,bp,rp⟩:=bS h
 exact ak6 (aN hj hk)
theorem cf{j k:Nat}{c:BCU}(h:okC j c)(hj:j≤k)(hk:k≤480000):okC k c:=⟨h.1,h.2.1,cK h.2.2.1 hj hk,cK h.2.2.2 hj hk⟩
theorem BG{c:BCU}(hc:okC 500 c){v:Rat×Rat}[bv:Bd v 200]:Bd (lP (dC c) v) 15000∧Rdd (lP (dC c) v):=by
 obtain⟨ar,li,ci,cw,fr,to⟩:=c
 have h3:=hc.2.2.1
 have h4:=hc.2.2.2
 simp only at h3 h4
 obtain⟨fr,rfl,bf,rf⟩:=bS h3
 obtain⟨to,rfl,bt,rt⟩:=bS h4
 have he:Bd (ug (sqP fr v) (sqP to v)) 15000:=(inferInstance:Bd (ug (sqP fr v) (sqP to v)) _).mono (by decide)
 cases ar
 ·obtain⟨c2,c3⟩:=hc.2.1 rfl
  simp only at c2 c3
  obtain⟨li,rfl,bl⟩:=aF c2
  unfold lP AA
  simp only[dC,lnC,frC,toC,az,cond_false]
  cases rT (false,li,dec ci,cw,fr,to) (atP v)
  ·exact⟨he,NH⟩
  ·exact⟨(inferInstance:Bd ((bI (cS v (d7 li v)) (cS v (d7 li v)),0,0):Rt) _).mono (by decide),acv⟩
 ·obtain⟨c1,hq⟩:=hc.1 rfl
  simp only at c1 hq
  obtain⟨ci,rfl,bc⟩:=aF c1
  rw[az]at hq
  have hC:Cir ci:=⟨hq⟩
  unfold lP AA
  simp only[dC,lnC,frC,toC,ciC,aW,az,cond_true]
  cases d9 (true,dec li,ci,cw,fr,to) (cS (ctr ci) v)
  ·exact⟨he,NH⟩
  ·have b2:Bd (-2:Rat) 3:=cZ (n:= -2) (by decide)
   exact⟨(inferInstance:Bd (mkR (bI (cS (ctr ci) v) (cS (ctr ci) v)+ci.2.2) (-2) (bI (cS (ctr ci) v) (cS (ctr ci) v)*ci.2.2)) _).mono (by decide),sO⟩
def agm:List En:=[enL Ip]
def X2(a b:BV)(_k:KT):Option (List RV):=og (o2 b.1 a.1) (og (o2 b.2 a.2) (some [RV.d tV (hSu b.1 a.1,hSu b.2 a.2)]))
def ahC:Cn 311 [tV,tV]:=cn fun(a b:BV)=>lf (ok (Rat×Rat) 10000 a∧ok (Rat×Rat) 10000 b) [.d tV (enc (cS (dec a) (dec b)))] fun h=>by
 refine aA agm (X2 a b) ⟨0,?_⟩
 obtain⟨ha,hb⟩:=h
 obtain⟨a,rfl,ba⟩:=aF ha
 obtain⟨b,rfl,bb⟩:=aF hb
 unfold X2
 simp only[aU,Nat.reduceLeDiff]
 try rfl
def El:List En:=[⟨41,fX,dU⟩,⟨109,kO,gH⟩,⟨99,iq,fe⟩,⟨108,gU,eP⟩,⟨305,xC,te⟩,⟨107,iW,fy⟩,⟨106,ir,fh⟩,enL Wx,enL zX,enL Jq,enL Xj,enL ZG,enT Jp,enL Ra,enT Dy,enT Np,enL N6,enL Ip,enL Rh,enL ahC,enL aeH,enL Rp]
def Yi(a b c:BR)(_k:KT):Option (List RV):=og (decide (ok Rat 100000 a∧ok Rat 100000 b∧ok Rat 100000 c∧0≤ah c)) (match 0 !=0 with|true=>(og (o1 a) (some [RV.d tO (hid (enc ((ah a,0,0):Rt)))]))|false=>some [RV.d tO (hid (enc (mkR (ah a) (ah b) (ah c))))])
def Yr:Cn 98 [tR,tR,tR]:=cn fun(a b c:BR)=>lf (ok Rat 100000 a∧ok Rat 100000 b∧ok Rat 100000 c∧0≤ah c) [.d tO (enc (mkR (ah a) (ah b) (ah c)))] fun h=>by
 refine aA El (Yi a b c) ⟨0,?_⟩
 obtain⟨ha,hb,hc,hn⟩:=h
 unfold Yi
 rw[dT ⟨ha,hb,hc,hn⟩]
 simp only[bL]
 rfl
def YZ(v:BV)(_k:KT):Option (List RV):=og (o1 v.1) (match(aC (ah v.1) 0)==0 with|true=>(og (o1 v.2) (some [RV.d .bool ((aC (ah v.2) 0)==0)]))|false=>some [RV.d .bool false])
def afK:Cn 217 [tV]:=cn fun(v:BV)=>lf (ok (Rat×Rat) 100000 v) [.d .bool (zeV (dec v))] fun h=>by
 refine aA El (YZ v) ⟨0,?_⟩
 have hv:=h
 obtain⟨v,rfl,bv⟩:=aF hv
 unfold YZ
 simp only[aU,Nat.reduceLeDiff,aq]
 unfold zeV
 cases decide (v.1=0)<;>rfl
def ael:Ctx:=CX (ens El) []
def aer(c:BCU)(_k:KT):Option (List RV):=some [RV.d tV (c.2.2.1.1,c.2.2.1.2.1)]
theorem aeI(c:BCU):RS ael 102 [.d tCU c] (aer c):=rsX
def Yt:Cn 102 [tCU]:=cn fun(c:BCU)=>lf True [.d tV (c.2.2.1.1,c.2.2.1.2.1)] fun _=>by
 exact c7 El (aeI _ ⟨0,rfl⟩)
def RQ:List En:=enL Yr::enT afK::enL Yt::El
def Wm(l:BO3)(p:BP)(_k:KT):Option (List RV):=og (o1 l.2.1) (og (o2 (hNe l.2.1) p.1) (og (o2 l.1 p.2.2.1) (og (o2 (hMu (hNe l.2.1) p.1) (hMu l.1 p.2.2.1)) (og (o2 (hNe l.2.1) p.2.1) (og (o2 l.1 p.2.2.2.1) (og (o2 (hMu (hNe l.2.1) p.2.1) (hMu l.1 p.2.2.2.1)) (og (decide (ok Rat 100000 (hAd (hMu (hNe l.2.1) p.1) (hMu l.1 p.2.2.1))∧ok Rat 100000 (hAd (hMu (hNe l.2.1) p.2.1) (hMu l.1 p.2.2.2.1))∧ok Rat 100000 p.2.2.2.2∧0≤ah p.2.2.2.2)) (some [RV.d tO (hid (enc (mkR (ah (hAd (hMu (hNe l.2.1) p.1) (hMu l.1 p.2.2.1))) (ah (hAd (hMu (hNe l.2.1) p.2.1) (hMu l.1 p.2.2.2.1))) (ah p.2.2.2.2))))]))))))))
def aga:Cn 205 [tO,tP]:=cn fun(l:BO3) (p:BP)=>lf (ok Ln 300 l∧okP 4000 p) [.d tO (enc (fc (dec l) (dec p)))] fun h=>by
 refine aA RQ (Wm l p) ⟨0,?_⟩
 obtain⟨hl,hp⟩:=h
 obtain⟨l,rfl,bl⟩:=aF hl
 obtain⟨p,rfl,bp,rp⟩:=bS hp
 have hn:0≤p.2.2.2.2:=rp.nn
 unfold Wm
 simp only[aU,Nat.reduceAdd,Nat.reduceLeDiff,dT hn]
 rfl
def YR(a b:BO3)(_k:KT):Option (List RV):=og (decide (okT 15000 b∧okT 15000 a)) (match decide ((a8 (dec b) (dec a))<0)with|true=>some [RV.d tO b]|false=>some [RV.d tO a])
def agV:Cn 310 [tO,tO]:=cn fun(a b:BO3)=>lf (okT 15000 a∧okT 15000 b) [.d tO (enc (ug (dec a) (dec b)))] fun h=>by
 refine aA RQ (YR a b) ⟨0,?_⟩
 obtain⟨ha,hb⟩:=h
 obtain⟨a,rfl,ba,ra⟩:=gk ha
 obtain⟨b,rfl,bb,rb⟩:=gk hb
 unfold YR ug
 simp only[aU,Nat.reduceLeDiff,aM]
 cases decide (a8 b a<0)<;>rfl
def Qw:List En:=enL aga::enL agV::RQ
def Zu(c:BCU)(p:BP)(_k:KT):Option (List RV):=og (decide (ok Ln 300 c.2.1∧okP 4000 p)) (og (decide (ok Ln 300 c.2.1∧okP 4000 c.2.2.2.2.1)) (og (decide (ok Ln 300 c.2.1∧okP 4000 c.2.2.2.2.2)) (og (decide (okT 15000 (hid (enc (fc (dec c.2.1) (dec c.2.2.2.2.1))))∧okT 15000 (hid (enc (fc (dec c.2.1) (dec c.2.2.2.2.2)))))) (match decide ((a8 (dec (hid (enc (fc (dec c.2.1) (dec c.2.2.2.2.1))))) (dec (hid (enc (fc (dec c.2.1) (dec c.2.2.2.2.2))))))>0)with|true=>(og (decide (okT 15000 (hid (enc (fc (dec c.2.1) (dec c.2.2.2.2.2))))∧okT 15000 (hid (enc (fc (dec c.2.1) (dec p)))))) (match decide ((a8 (dec (hid (enc (fc (dec c.2.1) (dec c.2.2.2.2.2))))) (dec (hid (enc (fc (dec c.2.1) (dec p))))))≤0)with|true=>(og (decide (okT 15000 (hid (enc (fc (dec c.2.1) (dec p))))∧okT 15000 (hid (enc (fc (dec c.2.1) (dec c.2.2.2.2.1)))))) (some [RV.d .bool (decide ((a8 (dec (hid (enc (fc (dec c.2.1) (dec p))))) (dec (hid (enc (fc (dec c.2.1) (dec c.2.2.2.2.1))))))≤0))]))|false=>some [RV.d .bool false]))|false=>(og (decide (okT 15000 (hid (enc (fc (dec c.2.1) (dec c.2.2.2.2.1))))∧okT 15000 (hid (enc (fc (dec c.2.1) (dec p)))))) (match decide ((a8 (dec (hid (enc (fc (dec c.2.1) (dec c.2.2.2.2.1))))) (dec (hid (enc (fc (dec c.2.1) (dec p))))))≤0)with|true=>(og (decide (okT 15000 (hid (enc (fc (dec c.2.1) (dec p))))∧okT 15000 (hid (enc (fc (dec c.2.1) (dec c.2.2.2.2.2)))))) (some [RV.d .bool (decide ((a8 (dec (hid (enc (fc (dec c.2.1) (dec p))))) (dec (hid (enc (fc (dec c.2.1) (dec c.2.2.2.2.2))))))≤0))]))|false=>some [RV.d .bool false]))))))
def W2:Cn 94 [tCU,tP]:=cn fun(c:BCU) (p:BP)=>lf (okC 3000 c∧okP 3000 p∧c.1=false) [.d .bool (rT (dC c) (dec p))] fun h=>by
 refine aA Qw (Zu c p) ⟨0,?_⟩
 obtain⟨hc,hp,h0⟩:=h
 obtain⟨p,rfl,bp,rp⟩:=bS hp
 obtain⟨ar,li,ci,cw,fr,to⟩:=c
 simp only at h0
 subst h0
 obtain⟨_,c2,c3,c4⟩:=hc
 obtain⟨c2,_⟩:=c2 rfl
 simp only at c2 c3 c4
 obtain⟨li,rfl,bl⟩:=aF c2
 obtain⟨fr,rfl,bf,rf⟩:=bS c3
 obtain⟨to,rfl,bt,rt⟩:=bS c4
 unfold Zu rT
 simp only[dC,lnC,frC,toC,aU,Nat.reduceAdd,Nat.reduceMul,Nat.reduceLeDiff,aM,aN]
 cases decide (a8 (fc li fr) (fc li to)>0)
 ·cases decide (a8 (fc li fr) (fc li p)≤0)<;>rfl
 ·cases decide (a8 (fc li to) (fc li p)≤0)<;>rfl
def V6(c:BCU)(v:BV)(_k:KT):Option (List RV):=match !c.1 with|true=>some [RV.d .bool c.1]|false=>(og (decide (ok (Rat×Rat) 100000 v)) (match zeV (dec v)with|true=>some [RV.d .bool c.1]|false=>(og (decide (ok (Rat×Rat) 5000 v∧ok (Rat×Rat) 5000 v)) (og (decide (iv c.2.2.1.2.2 (hid (am (bI (dec v) (dec v)))))) (og (decide (ok Rat 100000 c.2.2.1.1∧ok Rat 100000 v.1∧ok Rat 100000 (hDi c.2.2.1.2.2 (hid (am (bI (dec v) (dec v)))))∧0≤ah (hDi c.2.2.1.2.2 (hid (am (bI (dec v) (dec v))))))) (og (decide (ok Rat 100000 c.2.2.1.2.1∧ok Rat 100000 v.2∧ok Rat 100000 (hDi c.2.2.1.2.2 (hid (am (bI (dec v) (dec v)))))∧0≤ah (hDi c.2.2.1.2.2 (hid (am (bI (dec v) (dec v))))))) (og (decide (okT 15000 (hid (enc (mkR (ah c.2.2.1.1) (ah v.1) (ah (hDi c.2.2.1.2.2 (hid (am (bI (dec v) (dec v)))))))))∧okT 15000 (hid (enc (mkR (ah c.2.2.1.2.1) (ah v.2) (ah (hDi c.2.2.1.2.2 (hid (am (bI (dec v) (dec v)))))))))∧vD (dec (hid (enc (mkR (ah c.2.2.1.1) (ah v.1) (ah (hDi c.2.2.1.2.2 (hid (am (bI (dec v) (dec v)))))))))) (dec (hid (enc (mkR (ah c.2.2.1.2.1) (ah v.2) (ah (hDi c.2.2.1.2.2 (hid (am (bI (dec v) (dec v)))))))))))) (match 0==0 with|true=>(og (decide (okC 4000 c∧okP 4000 (hid (enc (mkP (dec (hid (enc (mkR (ah c.2.2.1.1) (ah v.1) (ah (hDi c.2.2.1.2.2 (hid (am (bI (dec v) (dec v)))))))))) (dec (hid (enc (mkR (ah c.2.2.1.2.1) (ah v.2) (ah (hDi c.2.2.1.2.2 (hid (am (bI (dec v) (dec v))))))))))))))) (some [RV.d .bool (onP (dC c) (dec (hid (enc (mkP (dec (hid (enc (mkR (ah c.2.2.1.1) (ah v.1) (ah (hDi c.2.2.1.2.2 (hid (am (bI (dec v) (dec v)))))))))) (dec (hid (enc (mkR (ah c.2.2.1.2.1) (ah v.2) (ah (hDi c.2.2.1.2.2 (hid (am (bI (dec v) (dec v)))))))))))))))]))|false=>some [RV.d .bool false]))))))))
def WD:Cn 110 [tCU,tV]:=cn fun(c:BCU) (v:BV)=>lf (okC 500 c∧ok (Rat×Rat) 510 v) [.d .bool (d9 (dC c) (dec v))] fun h=>by
 refine aA Qw (V6 c v) ⟨0,?_⟩
 obtain⟨hc,hv⟩:=h
 obtain⟨v,rfl,bv⟩:=aF hv
 have hc4:=cf (k:=4000) hc (by decide) (by decide)
 obtain⟨ar,li,ci,cw,fr,to⟩:=c
 cases ar
 ·rfl
 ·obtain⟨c1,_⟩:=hc.1 rfl
  have hq:=(hc.1 rfl).2
  simp only at c1 hq
  obtain⟨ci,rfl,bc⟩:=aF c1
  rw[az]at hq
  have hC:Cir ci:=⟨hq⟩
  have o4:=ak3 hc4
  have hn:0≤ci.2.2/bI v v:=(abO (c:=ci) (d:=v)).le
  have om:decide (vD (mkR ci.1 v.1 (ci.2.2/bI v v)) (mkR ci.2.1 v.2 (ci.2.2/bI v v)))=true:=dT (qq _ _ _ _ _)
  have ry:decide (okP 4000 (enc (mkP (mkR ci.1 v.1 (ci.2.2/bI v v)) (mkR ci.2.1 v.2 (ci.2.2/bI v v)))))=true:=aN (x:=sf ci v) (by decide) (by decide)
  unfold V6 d9
  simp only[aU,Nat.reduceAdd,Nat.reduceLeDiff,aM,Bool.not_true]
  cases hz:zeV v
  ·have hd:=xZ hz
   simp only[aU,Nat.reduceAdd,Nat.reduceLeDiff,hd,ne_eq,amA,dT hn,om,o4,ry]
   show _=some [RV.d .bool (onP _ (sf (dec (enc ci)) v))]
   rw[az]
   rfl
  ·rfl
def Nt:List En:=enT W2::enT WD::Qw
def adB:NT:=[((228,13),{keep:=[4,19],hl:=0}),((228,29),{keep:=[4,39],hl:=0})]
def aeB:Ctx:=CX (ens Nt) adB
def K7(c:BCU)(v:BV)(_k:KT):Option (List RV):=let y1:=hid (enc (atP (dec v)));let y2:=hid (enc (sqP (dec c.2.2.2.2.1) (dec v)));let y3:=hid (enc (sqP (dec c.2.2.2.2.2) (dec v)));let y4:Option (List RV):=match decide (okP 3500 c.2.2.2.2.1∧ok (Rat×Rat) 300 v)with|true=>(og (decide (okP 3500 c.2.2.2.2.2∧ok (Rat×Rat) 300 v)) (og (decide (okT 15000 y2∧okT 15000 y3)) (some [RV.d tO (hid (enc (ug (dec y2) (dec y3))))])))|false=>none;let y5:=hid (enc (d7 (dec c.2.1) (dec v)));let y6:=hid (enc (cS (dec v) (dec y5)));let y7:=hid (am (bI (dec y6) (dec y6)));let y8:=hid ((c.2.2.1.1,c.2.2.1.2.1));let y9:=hid (enc (cS (dec y8) (dec v)));let y10:=hid (am (bI (dec y9) (dec y9)));let y11:=hAd y10 c.2.2.1.2.2;let y12:=hid (am (((-2):Int):Rat));let y13:=hMu y10 c.2.2.1.2.2;match !c.1 with|true=>(og (decide (ok (Rat×Rat) 100000 v)) (og (decide (okC 3000 c∧okP 3000 y1∧c.1=false)) (match !(rT (dC c) (dec y1))with|true=>y4|false=>(og (decide (ok Ln 300 c.2.1∧ok (Rat×Rat) 200 v∧((dec c.2.1:Ln).1≠0∨(dec c.2.1:Ln).2.1≠0))) (og (decide (ok (Rat×Rat) 10000 v∧ok (Rat×Rat) 10000 y5)) (og (decide (ok (Rat×Rat) 5000 y6∧ok (Rat×Rat) 5000 y6)) (og (o1 y7) (some [RV.d tO (hid (enc ((ah y7,0,0):Rt)))]))))))))|false=>(og (decide (ok (Rat×Rat) 10000 y8∧ok (Rat×Rat) 10000 v)) (og (decide (okC 500 c∧ok (Rat×Rat) 510 y9)) (match !(d9 (dC c) (dec y9))with|true=>y4|false=>(og (decide (ok (Rat×Rat) 5000 y9∧ok (Rat×Rat) 5000 y9)) (og (o2 y10 c.2.2.1.2.2) (og (decide (aG ((-2):Int))) (og (o2 y10 c.2.2.1.2.2) (og (decide (ok Rat 100000 y11∧ok Rat 100000 y12∧ok Rat 100000 y13∧0≤ah y13)) (some [RV.d tO (hid (enc (mkR (ah y11) (ah y12) (ah y13))))])))))))))
theorem adH(c:BCU)(v:BV):RS aeB 228 [.d tCU c,.d tV v] (K7 c v):=rsX
def aeJ:Cn 228 [tCU,tV]:=cn fun(c:BCU) (v:BV)=>lf (okC 500 c∧ok (Rat×Rat) 200 v) [.d tO (enc (lP (dC c) (dec v)))] fun h=>by
 refine c7 Nt (adH _ _ ⟨0,?_⟩)
 obtain⟨hc,hv⟩:=h
 obtain⟨v,rfl,bv⟩:=aF hv
 have hc4:=cf (k:=3000) hc (by decide) (by decide)
 obtain⟨ar,li,ci,cw,fr,to⟩:=c
 have h3:=hc.2.2.1
 have h4:=hc.2.2.2
 simp only at h3 h4
 obtain⟨fr,rfl,bf,rf⟩:=bS h3
 obtain⟨to,rfl,bt,rt⟩:=bS h4
 have o4:=ak3 hc4
 have o5:=ak3 hc
 cases ar
 ·obtain⟨c2,c3⟩:=hc.2.1 rfl
  simp only at c2 c3
  obtain⟨li,rfl,bl⟩:=aF c2
  rw[az]at c3
  unfold K7 lP AA
  simp only[aU,aE,Nat.reduceAdd,Nat.reduceMul,Nat.reduceLeDiff,aM,aN,o4,c3,Bool.not_false]
  simp only[dC,lnC,frC,toC,az,cond_false]
  cases rT (false,li,dec ci,cw,fr,to) (atP v)<;>rfl
 ·obtain⟨c1,hq⟩:=hc.1 rfl
  simp only at c1 hq
  obtain⟨ci,rfl,bc⟩:=aF c1
  rw[az]at hq
  have hC:Cir ci:=⟨hq⟩
  have hn:0≤bI (cS (ctr ci) v) (cS (ctr ci) v)*ci.2.2:=(Sv (c:=ci) (d:=cS (ctr ci) v)).le
  have e0:((am ci.1,am ci.2.1):BV)=enc (ctr ci):=rfl
  have h2:decide (aG (-2))=true:=by decide
  have b2:Bd ((-2:Int):Rat) 3:=cZ (by decide)
  unfold K7 lP AA
  simp only[aU,Nat.reduceAdd,Nat.reduceMul,Nat.reduceLeDiff,aM,aN,o5,e0,Bool.not_true]
  simp only[dC,lnC,frC,toC,ciC,aW,az,cond_true]
  cases d9 (true,dec li,ci,cw,fr,to) (cS (ctr ci) v)
  ·rfl
  ·simp only[aU,dT hn,h2]
   rw[show((-2:Int):Rat)= -2 from rfl]
   rfl
def adO:List En:=enL aeJ::Nt
def YS(c:BCU)(v:BV)(r:BR)(_k:KT):Option (List RV):=og (o1 r) (match decide ((aC (ah r) 0)<0)with|true=>some [RV.d aon 1]|false=>(og (decide (okC 500 c∧ok (Rat×Rat) 200 v)) (og (o2 r r) (og (decide (okT 15000 (hid (enc (lP (dC c) (dec v))))∧ok Rat 15000 (hMu r r))) (some [RV.d aon (fR (dec (hid (enc (lP (dC c) (dec v))))) (ah (hMu r r)))])))))
def ah0:Cn 116 [tCU,tV,tR]:=cn fun(c:BCU) (v:BV) (r:BR)=>lf (okC 500 c∧ok (Rat×Rat) 200 v∧ok Rat 1000 r) [.d aon (rI (dC c) (dec v) (ah r))] fun h=>by
 refine aA adO (YS c v r) ⟨0,?_⟩
 obtain⟨hc,hv,hr⟩:=h
 obtain⟨v,rfl,bv⟩:=aF hv
 obtain⟨r,rfl,br⟩:=aF hr
 rw[eT,cB,az]
 have od:=BG hc (v:=v)
 obtain⟨od1,od2⟩:=od
 unfold YS rI
 simp only[aU,Nat.reduceAdd,Nat.reduceLeDiff,aM,au,ak3 hc]
 cases decide (r<0)<;>rfl
abbrev r00:BR:=((false,[]),(false,[]))
abbrev o00:BO3:=(r00,r00,r00)
abbrev p00:BP:=(r00,r00,r00,r00,r00)
abbrev c00:BCU:=(false,o00,o00,false,p00,p00)
def td(a b:Rat×Rat):Ln:=(a.2-b.2,b.1-a.1,(a.2-b.2)*a.1+(b.1-a.1)*a.2)
def yO(a b:Rat×Rat):Bool:=decide (a.2-b.2=0)&&decide (b.1-a.1=0)
def SW(a b:Rat×Rat):BO3:=bif yO a b then o00 else enc (td a b)
def SA(a b:Rat×Rat):Int:=bif yO a b then 6 else 0
def fa(a b c:Rat×Rat):Rat:=(b.1-a.1)*(c.2-a.2)-(b.2-a.2)*(c.1-a.1)
def xz(a b c:Rat×Rat):Rat:=(((b.1-a.1)*(b.1-a.1)+(b.2-a.2)*(b.2-a.2))*(c.2-a.2)-((c.1-a.1)*(c.1-a.1)+(c.2-a.2)*(c.2-a.2))*(b.2-a.2))/(fa a b c+fa a b c)
def wW(a b c:Rat×Rat):Rat:=(((c.1-a.1)*(c.1-a.1)+(c.2-a.2)*(c.2-a.2))*(b.1-a.1)-((b.1-a.1)*(b.1-a.1)+(b.2-a.2)*(b.2-a.2))*(c.1-a.1))/(fa a b c+fa a b c)
def qB(a b c:Rat×Rat):Ln:=(a.1+xz a b c,a.2+wW a b c,xz a b c*xz a b c+wW a b c*wW a b c)
def Tn(a b c:Rat×Rat):BO3:=bif decide (fa a b c=0)then o00 else enc (qB a b c)
def Uq(a b c:Rat×Rat):Int:=bif decide (fa a b c=0)then 6 else 0
def yb(a b c:Rat×Rat):Int:=aC ((b.1-a.1)*(c.2-a.2)) ((b.2-a.2)*(c.1-a.1))
def jE(a b:Rat×Rat):BCU:=bif yO a b then c00 else(false,enc (td a b),o00,false,enc (atP a),enc (atP b))
def lV(a b:Rat×Rat):Int:=bif yO a b then 6 else 0
def ma(a b c:Rat×Rat):BCU:=bif decide (fa a b c=0)then c00 else(true,o00,enc (qB a b c),decide (yb a b c<0),enc (atP a),enc (atP c))
def lS(a b c:Rat×Rat):Int:=bif decide (fa a b c=0)then 6 else 0
theorem acA(a b c:Rat×Rat):(yb a b c==0)=decide (fa a b c=0):=by
 unfold yb fa
 rw[aq]
 exact al6.2 (by constructor<;>intro h<;>grind)
instance ai6 {a b:Rat×Rat} {i j:Nat} [h:Bd a i] [h':Bd b j]:Bd (td a b) (4*i+2*j+3):=by
 have i1:Bd ((a.2-b.2,b.1-a.1,(a.2-b.2)*a.1+(b.1-a.1)*a.2):Ln) _:=inferInstance
 exact i1.mono (fq (by omega) (fq (by omega) (by omega)))
def HP:List En:=[enT pg,enT uk,enL ux,enL rK,enL E5,enL OX,enL KS,enL FQ,enL PJ]
def RR(a b:BV)(_k:KT):Option (List RV):=og (o2 a.2 b.2) (og (o2 b.1 a.1) (og (o1 (hSu a.2 b.2)) (match(aC (ah (hSu a.2 b.2)) 0)==0 with|true=>(og (o1 (hSu b.1 a.1)) (match(aC (ah (hSu b.1 a.1)) 0)==0 with|true=>some [RV.d tO (((false,[]),(false,[])),(((false,[]),(false,[])),((false,[]),(false,[])))),RV.d aon 6]|false=>(og (o2 (hSu a.2 b.2) a.1) (og (o2 (hSu b.1 a.1) a.2) (og (o2 (hMu (hSu a.2 b.2) a.1) (hMu (hSu b.1 a.1) a.2)) (some [RV.d tO (hSu a.2 b.2,(hSu b.1 a.1,hAd (hMu (hSu a.2 b.2) a.1) (hMu (hSu b.1 a.1) a.2))),RV.d aon 0]))))))|false=>(og (o2 (hSu a.2 b.2) a.1) (og (o2 (hSu b.1 a.1) a.2) (og (o2 (hMu (hSu a.2 b.2) a.1) (hMu (hSu b.1 a.1) a.2)) (some [RV.d tO (hSu a.2 b.2,(hSu b.1 a.1,hAd (hMu (hSu a.2 b.2) a.1) (hMu (hSu b.1 a.1) a.2))),RV.d aon 0])))))))
def abS:Cn 142 [tV,tV]:=cn fun(a b:BV)=>lf (ok (Rat×Rat) 100 a∧ok (Rat×Rat) 100 b) [.d tO (SW (dec a) (dec b)),.d aon (SA (dec a) (dec b))] fun h=>by
 refine aA HP (RR a b) ⟨0,?_⟩
 obtain⟨ha,hb⟩:=h
 obtain⟨a,rfl,ba⟩:=aF ha
 obtain⟨b,rfl,bb⟩:=aF hb
 unfold RR SW SA yO
 simp only[aU,Nat.reduceAdd,Nat.reduceLeDiff,aq]
 cases decide (a.2-b.2=0)<;>cases decide (b.1-a.1=0)<;>rfl
def W3(a b c:BV)(_k:KT):Option (List RV):=og (o2 b.1 a.1) (og (o2 c.2 a.2) (og (o2 (hSu b.1 a.1) (hSu c.2 a.2)) (og (o2 b.2 a.2) (og (o2 c.1 a.1) (og (o2 (hSu b.2 a.2) (hSu c.1 a.1)) (og (o2 (hMu (hSu b.1 a.1) (hSu c.2 a.2)) (hMu (hSu b.2 a.2) (hSu c.1 a.1))) (some [RV.d aon (aC (ah (hMu (hSu b.1 a.1) (hSu c.2 a.2))) (ah (hMu (hSu b.2 a.2) (hSu c.1 a.1))))])))))))
def ad6:Cn 143 [tV,tV,tV]:=cn fun(a b c:BV)=>lf (ok (Rat×Rat) 100 a∧ok (Rat×Rat) 100 b∧ok (Rat×Rat) 100 c) [.d aon (yb (dec a) (dec b) (dec c))] fun h=>by
 refine aA HP (W3 a b c) ⟨0,?_⟩
 obtain⟨ha,hb,hc⟩:=h
 obtain⟨a,rfl,ba⟩:=aF ha
 obtain⟨b,rfl,bb⟩:=aF hb
 obtain⟨c,rfl,bc⟩:=aF hc
 unfold W3
 simp only[aU,Nat.reduceAdd,Nat.reduceLeDiff]
 rfl
def LS(a b c:BV)(_k:KT):Option (List RV):=let y1:=hMu (hSu b.1 a.1) (hSu c.2 a.2);let y2:=hMu (hSu b.2 a.2) (hSu c.1 a.1);let y3:=hMu (hSu b.1 a.1) (hSu b.1 a.1);let y4:=hMu (hSu b.2 a.2) (hSu b.2 a.2);let y5:=hMu (hSu c.1 a.1) (hSu c.1 a.1);let y6:=hMu (hSu c.2 a.2) (hSu c.2 a.2);let y7:=hMu (hAd y3 y4) (hSu c.2 a.2);let y8:=hMu (hAd y5 y6) (hSu b.2 a.2);let y9:=hAd (hSu y1 y2) (hSu y1 y2);let y10:=hMu (hAd y5 y6) (hSu b.1 a.1);let y11:=hMu (hAd y3 y4) (hSu c.1 a.1);let y12:=hDi (hSu y7 y8) y9;let y13:=hDi (hSu y10 y11) y9;og (o2 b.1 a.1) (og (o2 b.2 a.2) (og (o2 c.1 a.1) (og (o2 c.2 a.2) (og (o2 (hSu b.1 a.1) (hSu c.2 a.2)) (og (o2 (hSu b.2 a.2) (hSu c.1 a.1)) (og (o2 y1 y2) (og (o1 (hSu y1 y2)) (match(aC (ah (hSu y1 y2)) 0)==0 with|true=>some [RV.d tO (((false,[]),(false,[])),(((false,[]),(false,[])),((false,[]),(false,[])))),RV.d aon 6]|false=>(og (o2 (hSu y1 y2) (hSu y1 y2)) (og (o2 (hSu b.1 a.1) (hSu b.1 a.1)) (og (o2 (hSu b.2 a.2) (hSu b.2 a.2)) (og (o2 y3 y4) (og (o2 (hSu c.1 a.1) (hSu c.1 a.1)) (og (o2 (hSu c.2 a.2) (hSu c.2 a.2)) (og (o2 y5 y6) (og (o2 (hAd y3 y4) (hSu c.2 a.2)) (og (o2 (hAd y5 y6) (hSu b.2 a.2)) (og (o2 y7 y8) (og (decide (iv (hSu y7 y8) y9)) (og (o2 (hAd y5 y6) (hSu b.1 a.1)) (og (o2 (hAd y3 y4) (hSu c.1 a.1)) (og (o2 y10 y11) (og (decide (iv (hSu y10 y11) y9)) (og (o2 a.1 y12) (og (o2 a.2 y13) (og (o2 y12 y12) (og (o2 y13 y13) (og (o2 (hMu y12 y12) (hMu y13 y13)) (some [RV.d tO (hAd a.1 y12,(hAd a.2 y13,hAd (hMu y12 y12) (hMu y13 y13))),RV.d aon 0])))))))))))))))))))))))))))))
def ab3:Cn 144 [tV,tV,tV]:=cn fun(a b c:BV)=>lf (ok (Rat×Rat) 100 a∧ok (Rat×Rat) 100 b∧ok (Rat×Rat) 100 c) [.d tO (Tn (dec a) (dec b) (dec c)),.d aon (Uq (dec a) (dec b) (dec c))] fun h=>by
 refine aA HP (LS a b c) ⟨0,?_⟩
 obtain⟨ha,hb,hc⟩:=h
 obtain⟨a,rfl,ba⟩:=aF ha
 obtain⟨b,rfl,bb⟩:=aF hb
 obtain⟨c,rfl,bc⟩:=aF hc
 have e0:(b.1-a.1)*(c.2-a.2)-(b.2-a.2)*(c.1-a.1)=fa a b c:=rfl
 have bD:Bd (fa a b c) 805:=inferInstanceAs (Bd ((b.1-a.1)*(c.2-a.2)-(b.2-a.2)*(c.1-a.1)) _)
 have eX:(((b.1-a.1)*(b.1-a.1)+(b.2-a.2)*(b.2-a.2))*(c.2-a.2)-((c.1-a.1)*(c.1-a.1)+(c.2-a.2)*(c.2-a.2))*(b.2-a.2))/(fa a b c+fa a b c)=xz a b c:=rfl
 have eY:(((c.1-a.1)*(c.1-a.1)+(c.2-a.2)*(c.2-a.2))*(b.1-a.1)-((b.1-a.1)*(b.1-a.1)+(b.2-a.2)*(b.2-a.2))*(c.1-a.1))/(fa a b c+fa a b c)=wW a b c:=rfl
 have m1:Bd ((b.1-a.1)*(b.1-a.1)+(b.2-a.2)*(b.2-a.2)) _:=inferInstance
 have m2:Bd ((c.1-a.1)*(c.1-a.1)+(c.2-a.2)*(c.2-a.2)) _:=inferInstance
 have n1:Bd (((b.1-a.1)*(b.1-a.1)+(b.2-a.2)*(b.2-a.2))*(c.2-a.2)-((c.1-a.1)*(c.1-a.1)+(c.2-a.2)*(c.2-a.2))*(b.2-a.2)) _:=inferInstance
 have n2:Bd (((c.1-a.1)*(c.1-a.1)+(c.2-a.2)*(c.2-a.2))*(b.1-a.1)-((b.1-a.1)*(b.1-a.1)+(b.2-a.2)*(b.2-a.2))*(c.1-a.1)) _:=inferInstance
 have bX0:Bd ((((b.1-a.1)*(b.1-a.1)+(b.2-a.2)*(b.2-a.2))*(c.2-a.2)-((c.1-a.1)*(c.1-a.1)+(c.2-a.2)*(c.2-a.2))*(b.2-a.2))/(fa a b c+fa a b c)) _:=inferInstance
 have bX:Bd (xz a b c) 4000:=by rw[←eX];exact bX0.mono (by decide)
 have bY0:Bd ((((c.1-a.1)*(c.1-a.1)+(c.2-a.2)*(c.2-a.2))*(b.1-a.1)-((b.1-a.1)*(b.1-a.1)+(b.2-a.2)*(b.2-a.2))*(c.1-a.1))/(fa a b c+fa a b c)) _:=inferInstance
 have bY:Bd (wW a b c) 4000:=by rw[←eY];exact bY0.mono (by decide)
 unfold LS Tn Uq
 simp only[aU,Nat.reduceAdd,Nat.reduceLeDiff,aq,e0]
 by_cases hd:fa a b c=0
 ·rw[ak3 hd]
  rfl
 ·have h2:fa a b c+fa a b c≠0:=by grind
  rw[ak5 hd]
  simp only[aU,Nat.reduceAdd,Nat.reduceLeDiff,h2,ne_eq,amA,eX,eY]
  rfl
def Wd:List En:=enL abS::enT ad6::enL ab3::HP
def QX(a b:BV)(_k:KT):Option (List RV):=og (decide (ok (Rat×Rat) 100 a∧ok (Rat×Rat) 100 b)) (match(SA (dec a) (dec b)) !=0 with|true=>some [RV.d tCU (false,((((false,[]),(false,[])),(((false,[]),(false,[])),((false,[]),(false,[])))),((((false,[]),(false,[])),(((false,[]),(false,[])),((false,[]),(false,[])))),(false,((((false,[]),(false,[])),(((false,[]),(false,[])),(((false,[]),(false,[])),(((false,[]),(false,[])),((false,[]),(false,[])))))),(((false,[]),(false,[])),(((false,[]),(false,[])),(((false,[]),(false,[])),(((false,[]),(false,[])),((false,[]),(false,[]))))))))))),RV.d aon 6]|false=>(og (decide (ok (Rat×Rat) 100000 a)) (og (decide (ok (Rat×Rat) 100000 b)) (some [RV.d tCU (false,(hid (SW (dec a) (dec b)),((((false,[]),(false,[])),(((false,[]),(false,[])),((false,[]),(false,[])))),(false,(hid (enc (atP (dec a))),hid (enc (atP (dec b)))))))),RV.d aon 0]))))
def Qt:Cn 54 [tV,tV]:=cn fun(a b:BV)=>lf (ok (Rat×Rat) 100 a∧ok (Rat×Rat) 100 b) [.d tCU (jE (dec a) (dec b)),.d aon (lV (dec a) (dec b))] fun h=>by
 refine aA Wd (QX a b) ⟨0,?_⟩
 obtain⟨ha,hb⟩:=h
 obtain⟨a,rfl,ba⟩:=aF ha
 obtain⟨b,rfl,bb⟩:=aF hb
 unfold QX jE lV SA SW
 simp only[aU,Nat.reduceLeDiff]
 cases yO a b<;>rfl
def PF(a b c:BV)(_k:KT):Option (List RV):=og (decide (ok (Rat×Rat) 100 a∧ok (Rat×Rat) 100 b∧ok (Rat×Rat) 100 c)) (og (decide (ok (Rat×Rat) 100 a∧ok (Rat×Rat) 100 b∧ok (Rat×Rat) 100 c)) (match(yb (dec a) (dec b) (dec c))==0 with|true=>some [RV.d tCU (false,((((false,[]),(false,[])),(((false,[]),(false,[])),((false,[]),(false,[])))),((((false,[]),(false,[])),(((false,[]),(false,[])),((false,[]),(false,[])))),(false,((((false,[]),(false,[])),(((false,[]),(false,[])),(((false,[]),(false,[])),(((false,[]),(false,[])),((false,[]),(false,[])))))),(((false,[]),(false,[])),(((false,[]),(false,[])),(((false,[]),(false,[])),(((false,[]),(false,[])),((false,[]),(false,[]))))))))))),RV.d aon 6]|false=>(match(Uq (dec a) (dec b) (dec c)) !=0 with|true=>some [RV.d tCU (false,((((false,[]),(false,[])),(((false,[]),(false,[])),((false,[]),(false,[])))),((((false,[]),(false,[])),(((false,[]),(false,[])),((false,[]),(false,[])))),(false,((((false,[]),(false,[])),(((false,[]),(false,[])),(((false,[]),(false,[])),(((false,[]),(false,[])),((false,[]),(false,[])))))),(((false,[]),(false,[])),(((false,[]),(false,[])),(((false,[]),(false,[])),(((false,[]),(false,[])),((false,[]),(false,[]))))))))))),RV.d aon 6]|false=>(og (decide (ok (Rat×Rat) 100000 a)) (og (decide (ok (Rat×Rat) 100000 c)) (some [RV.d tCU (true,((((false,[]),(false,[])),(((false,[]),(false,[])),((false,[]),(false,[])))),(hid (Tn (dec a) (dec b) (dec c)),(decide ((yb (dec a) (dec b) (dec c))<0),(hid (enc (atP (dec a))),hid (enc (atP (dec c)))))))),RV.d aon 0]))))))
def Qu:Cn 55 [tV,tV,tV]:=cn fun(a b c:BV)=>lf (ok (Rat×Rat) 100 a∧ok (Rat×Rat) 100 b∧ok (Rat×Rat) 100 c) [.d tCU (ma (dec a) (dec b) (dec c)),.d aon (lS (dec a) (dec b) (dec c))] fun h=>by
 refine aA Wd (PF a b c) ⟨0,?_⟩
 obtain⟨ha,hb,hc⟩:=h
 obtain⟨a,rfl,ba⟩:=aF ha
 obtain⟨b,rfl,bb⟩:=aF hb
 obtain⟨c,rfl,bc⟩:=aF hc
 unfold PF ma lS
 simp only[aU,Nat.reduceLeDiff]
 rw[acA]
 unfold Uq Tn
 cases decide (fa a b c=0)<;>rfl
def iH(c:Cv):List BP→BP→List BP
 |[],x=>[x]
 |y::r,x=>bif decide (df c (dec y) (dec x)<0)then y::iH c r x else bif aV (dec y) (dec x)==0 then y::r else x::y::r
def iE(c:Cv)(l:List BP):List BP:=l.foldl (iH c) []
def xJ(c:BCU)(l:List BP):Prop:=okC 4000 c∧l.length≤1000000∧∀x∈l,okP 4000 x
instance (c:BCU) (l:List BP):Decidable (xJ c l):=by unfold xJ;infer_instance
theorem pG{c:Cv}{x y:BP}:∀{r:List BP},y∈iH c r x→y∈r∨y=x
 |[],h=>by simp only[iH,List.mem_singleton]at h;exact .inr h
 |z::r,h=>by
  simp only[iH]at h
  cases h1:decide (df c (dec z) (dec x)<0)<;>rw[h1]at h
  ·cases h2:aV (dec z) (dec x)==0<;>rw[h2]at h
   ·rcases ali.1 h with h|h
    ·exact .inr h
    ·exact .inl h
   ·exact .inl h
  ·rcases ali.1 h with h|h
   ·exact .inl (by simp[h])
   ·rcases pG h with h|h
    ·exact .inl (alh _ h)
    ·exact .inr h
theorem w8(c:Cv)(x:BP):∀r:List BP,(iH c r x).length≤r.length+1
 |[]=>by simp[iH]
 |z::r=>by
  have:=w8 c x r
  simp only[iH]
  cases decide (df c (dec z) (dec x)<0)
  ·cases aV (dec z) (dec x)==0<;>simp
  ·simp only[cond_true,alj];omega
theorem Ad{c:Cv}:∀{l out:List BP} {y:BP},y∈l.foldl (iH c) out→y∈out∨y∈l
 |[],_,_,h=>.inl h
 |x::l,out,y,h=>by
  rcases Ad (l:=l) (out:=iH c out x) h with h|h
  ·rcases pG h with h|h
   ·exact .inl h
   ·exact .inr (by simp[h])
  ·exact .inr (alh _ h)
theorem vU(c:Cv):∀(l out:List BP),(l.foldl (iH c) out).length≤out.length+l.length
 |[],_=>ak9 _
 |x::l,out=>by
  have h1:=vU c l (iH c out x)
  have h2:=w8 c x out
  simp only[am2,alj]
  omega
theorem J1{α:Type}{l:List α}{k:Nat}(h:k<l.length):l.take (k+1)=l.take k++[l[k]]:=by rw[List.take_succ_eq_append_getElem h]
def Xb:List En:=[enT Hw,enT Na,enT OB]
def ab4:NT:=[((59,8),{keep:=[1,2,5,6],pure_:=[(5,tP)],hl:=1}),((59,21),{keep:=[1,2,5,6,7],pure_:=[(5,tP)],hl:=1})]
def vh:Ctx:=CX (ens Xb) ab4
def kx(c:BCU)(l:List BP)(s6:Int)(s5:List BP):Cfg:=⟨59,[.blk 0,.seq 38],[(1,.d (.sl tP) l),(2,.box 0 0),(5,.d (.sl tP) s5),(6,SI s6)],[.box 39 [SB c.1,SB c.2.1.1.1.1,.d aom c.2.1.1.1.2,SB c.2.1.1.2.1,.d aom c.2.1.1.2.2,SB c.2.1.2.1.1.1,.d aom c.2.1.2.1.1.2,SB c.2.1.2.1.2.1,.d aom c.2.1.2.1.2.2,SB c.2.1.2.2.1.1,.d aom c.2.1.2.2.1.2,SB c.2.1.2.2.2.1,.d aom c.2.1.2.2.2.2,SB c.2.2.1.1.1.1,.d aom c.2.2.1.1.1.2,SB c.2.2.1.1.2.1,.d aom c.2.2.1.1.2.2,SB c.2.2.1.2.1.1.1,.d aom c.2.2.1.2.1.1.2,SB c.2.2.1.2.1.2.1,.d aom c.2.2.1.2.1.2.2,SB c.2.2.1.2.2.1.1,.d aom c.2.2.1.2.2.1.2,SB c.2.2.1.2.2.2.1,.d aom c.2.2.1.2.2.2.2,SB c.2.2.2.1,SB c.2.2.2.2.1.1.1.1,.d aom c.2.2.2.2.1.1.1.2,SB c.2.2.2.2.1.1.2.1,.d aom c.2.2.2.2.1.1.2.2,SB c.2.2.2.2.1.2.1.1.1,.d aom c.2.2.2.2.1.2.1.1.2,SB c.2.2.2.2.1.2.1.2.1,.d aom c.2.2.2.2.1.2.1.2.2,SB c.2.2.2.2.1.2.2.1.1.1,.d aom c.2.2.2.2.1.2.2.1.1.2,SB c.2.2.2.2.1.2.2.1.2.1,.d aom c.2.2.2.2.1.2.2.1.2.2,SB c.2.2.2.2.1.2.2.2.1.1.1,.d aom c.2.2.2.2.1.2.2.2.1.1.2,SB c.2.2.2.2.1.2.2.2.1.2.1,.d aom c.2.2.2.2.1.2.2.2.1.2.2,SB c.2.2.2.2.1.2.2.2.2.1.1,.d aom c.2.2.2.2.1.2.2.2.2.1.2,SB c.2.2.2.2.1.2.2.2.2.2.1,.d aom c.2.2.2.2.1.2.2.2.2.2.2,SB c.2.2.2.2.2.1.1.1,.d aom c.2.2.2.2.2.1.1.2,SB c.2.2.2.2.2.1.2.1,.d aom c.2.2.2.2.2.1.2.2,SB c.2.2.2.2.2.2.1.1.1,.d aom c.2.2.2.2.2.2.1.1.2,SB c.2.2.2.2.2.2.1.2.1,.d aom c.2.2.2.2.2.2.1.2.2,SB c.2.2.2.2.2.2.2.1.1.1,.d aom c.2.2.2.2.2.2.2.1.1.2,SB c.2.2.2.2.2.2.2.1.2.1,.d aom c.2.2.2.2.2.2.2.1.2.2,SB c.2.2.2.2.2.2.2.2.1.1.1,.d aom c.2.2.2.2.2.2.2.2.1.1.2,SB c.2.2.2.2.2.2.2.2.1.2.1,.d aom c.2.2.2.2.2.2.2.2.1.2.2,SB c.2.2.2.2.2.2.2.2.2.1.1,.d aom c.2.2.2.2.2.2.2.2.2.1.2,SB c.2.2.2.2.2.2.2.2.2.2.1,.d aom c.2.2.2.2.2.2.2.2.2.2.2]],0,[]⟩
def wq(c:BCU)(l s5:List BP)(s6 s7:Int):Cfg:=⟨59,[.blk 2,.seq 30,.blk 1,.seq 37,.lp 8,.blk 0,.seq 38],[(1,.d (.sl tP) l),(2,.box 0 0),(5,.d (.sl tP) s5),(6,SI s6),(7,SI s7)],[.box 39 [SB c.1,SB c.2.1.1.1.1,.d aom c.2.1.1.1.2,SB c.2.1.1.2.1,.d aom c.2.1.1.2.2,SB c.2.1.2.1.1.1,.d aom c.2.1.2.1.1.2,SB c.2.1.2.1.2.1,.d aom c.2.1.2.1.2.2,SB c.2.1.2.2.1.1,.d aom c.2.1.2.2.1.2,SB c.2.1.2.2.2.1,.d aom c.2.1.2.2.2.2,SB c.2.2.1.1.1.1,.d aom c.2.2.1.1.1.2,SB c.2.2.1.1.2.1,.d aom c.2.2.1.1.2.2,SB c.2.2.1.2.1.1.1,.d aom c.2.2.1.2.1.1.2,SB c.2.2.1.2.1.2.1,.d aom c.2.2.1.2.1.2.2,SB c.2.2.1.2.2.1.1,.d aom c.2.2.1.2.2.1.2,SB c.2.2.1.2.2.2.1,.d aom c.2.2.1.2.2.2.2,SB c.2.2.2.1,SB c.2.2.2.2.1.1.1.1,.d aom c.2.2.2.2.1.1.1.2,SB c.2.2.2.2.1.1.2.1,.d aom c.2.2.2.2.1.1.2.2,SB c.2.2.2.2.1.2.1.1.1,.d aom c.2.2.2.2.1.2.1.1.2,SB c.2.2.2.2.1.2.1.2.1,.d aom c.2.2.2.2.1.2.1.2.2,SB c.2.2.2.2.1.2.2.1.1.1,.d aom c.2.2.2.2.1.2.2.1.1.2,SB c.2.2.2.2.1.2.2.1.2.1,.d aom c.2.2.2.2.1.2.2.1.2.2,SB c.2.2.2.2.1.2.2.2.1.1.1,.d aom c.2.2.2.2.1.2.2.2.1.1.2,SB c.2.2.2.2.1.2.2.2.1.2.1,.d aom c.2.2.2.2.1.2.2.2.1.2.2,SB c.2.2.2.2.1.2.2.2.2.1.1,.d aom c.2.2.2.2.1.2.2.2.2.1.2,SB c.2.2.2.2.1.2.2.2.2.2.1,.d aom c.2.2.2.2.1.2.2.2.2.2.2,SB c.2.2.2.2.2.1.1.1,.d aom c.2.2.2.2.2.1.1.2,SB c.2.2.2.2.2.1.2.1,.d aom c.2.2.2.2.2.1.2.2,SB c.2.2.2.2.2.2.1.1.1,.d aom c.2.2.2.2.2.2.1.1.2,SB c.2.2.2.2.2.2.1.2.1,.d aom c.2.2.2.2.2.2.1.2.2,SB c.2.2.2.2.2.2.2.1.1.1,.d aom c.2.2.2.2.2.2.2.1.1.2,SB c.2.2.2.2.2.2.2.1.2.1,.d aom c.2.2.2.2.2.2.2.1.2.2,SB c.2.2.2.2.2.2.2.2.1.1.1,.d aom c.2.2.2.2.2.2.2.2.1.1.2,SB c.2.2.2.2.2.2.2.2.1.2.1,.d aom c.2.2.2.2.2.2.2.2.1.2.2,SB c.2.2.2.2.2.2.2.2.2.1.1,.d aom c.2.2.2.2.2.2.2.2.2.1.2,SB c.2.2.2.2.2.2.2.2.2.2.1,.d aom c.2.2.2.2.2.2.2.2.2.2.2]],0,[]⟩
def agi(c:BCU)(l:List BP)(k:KT):Option (List RV):=k 8 (kx c l 0 ([]))
theorem adY(c:BCU)(l:List BP):RS vh 59 [.d tCU c,.d (.sl tP) l] (agi c l):=rsX
def wO(c:BCU)(l:List BP)(s6:Int)(s5:List BP)(k:KT):Option (List RV):=match decide (s6<(l.length:Int))with|true=>k 21 (wq c l s5 s6 0)|false=>some [RV.d (.sl tP) s5]
theorem DO(c:BCU)(l:List BP)(s6:Int)(s5:List BP):RN vh 8 (kx c l s6 s5) (wO c l s6 s5):=rnX
def uW(c:BCU)(l s5:List BP)(s6 s7:Int)(k:KT):Option (List RV):=match decide (s7<(s5.length:Int))with|true=>(match aR s5 s7 with|some x1=>(match aR l s6 with|some x2=>(og (decide (okC 4000 c∧okP 4000 x1∧okP 4000 x2)) (match decide ((df (dC c) (dec x1) (dec x2))<0)with|true=>k 21 (wq c l s5 s6 (i64.wrap (s7+1)))|false=>(match decide (s7<(s5.length:Int))with|true=>(match aR s5 s7 with|some x3=>(match aR l s6 with|some x4=>(og (decide (okP 4000 x3∧okP 4000 x4)) (match aV (dec x3) (dec x4)==0 with|true=>k 8 (kx c l (i64.wrap (s6+1)) s5)|false=>(og (decide ((0:Int)≤0∧0≤s7∧s7≤(s5.length:Int))) (match aR l s6 with|some x5=>(og (decide ((0:Int)≤s7∧s7≤(s5.length:Int)∧(s5.length:Int)≤(s5.length:Int))) (dup (.b (.b .l .l) .l) (og (decide ((([]:List BP).length+((s5.take (s7).toNat).drop (0:Int).toNat).length)*320≤140737488355328∧([]:List BP).length+((s5.take (s7).toNat).drop (0:Int).toNat).length≤140737488355328)) (og (decide (((([]:List BP)++((s5.take (s7).toNat).drop (0:Int).toNat)).length+([x5]).length)*320≤140737488355328∧(([]:List BP)++((s5.take (s7).toNat).drop (0:Int).toNat)).length+([x5]).length≤140737488355328)) (og (decide ((((([]:List BP)++((s5.take (s7).toNat).drop (0:Int).toNat))++([x5])).length+((s5.take ((s5.length:Int)).toNat).drop (s7:Int).toNat).length)*320≤140737488355328∧((([]:List BP)++((s5.take (s7).toNat).drop (0:Int).toNat))++([x5])).length+((s5.take ((s5.length:Int)).toNat).drop (s7:Int).toNat).length≤140737488355328)) (k 8 (kx c l (i64.wrap (s6+1)) (((([]:List BP)++((s5.take (s7).toNat).drop (0:Int).toNat))++([x5]))++((s5.take ((s5.length:Int)).toNat).drop (s7:Int).toNat)))))))))|none=>none))))|none=>none)|none=>none)|false=>(og (decide ((0:Int)≤0∧0≤s7∧s7≤(s5.length:Int))) (match aR l s6 with|some x3=>(og (decide ((0:Int)≤s7∧s7≤(s5.length:Int)∧(s5.length:Int)≤(s5.length:Int))) (dup (.b (.b .l .l) .l) (og (decide ((([]:List BP).length+((s5.take (s7).toNat).drop (0:Int).toNat).length)*320≤140737488355328∧([]:List BP).length+((s5.take (s7).toNat).drop (0:Int).toNat).length≤140737488355328)) (og (decide (((([]:List BP)++((s5.take (s7).toNat).drop (0:Int).toNat)).length+([x3]).length)*320≤140737488355328∧(([]:List BP)++((s5.take (s7).toNat).drop (0:Int).toNat)).length+([x3]).length≤140737488355328)) (og (decide ((((([]:List BP)++((s5.take (s7).toNat).drop (0:Int).toNat))++([x3])).length+((s5.take ((s5.length:Int)).toNat).drop (s7:Int).toNat).length)*320≤140737488355328∧((([]:List BP)++((s5.take (s7).toNat).drop (0:Int).toNat))++([x3])).length+((s5.take ((s5.length:Int)).toNat).drop (s7:Int).toNat).length≤140737488355328)) (k 8 (kx c l (i64.wrap (s6+1)) (((([]:List BP)++((s5.take (s7).toNat).drop (0:Int).toNat))++([x3]))++((s5.take ((s5.length:Int)).toNat).drop (s7:Int).toNat)))))))))|none=>none)))))|none=>none)|none=>none)|false=>(match decide (s7<(s5.length:Int))with|true=>(match aR s5 s7 with|some x1=>(match aR l s6 with|some x2=>(og (decide (okP 4000 x1∧okP 4000 x2)) (match aV (dec x1) (dec x2)==0 with|true=>k 8 (kx c l (i64.wrap (s6+1)) s5)|false=>(og (decide ((0:Int)≤0∧0≤s7∧s7≤(s5.length:Int))) (match aR l s6 with|some x3=>(og (decide ((0:Int)≤s7∧s7≤(s5.length:Int)∧(s5.length:Int)≤(s5.length:Int))) (dup (.b (.b .l .l) .l) (og (decide ((([]:List BP).length+((s5.take (s7).toNat).drop (0:Int).toNat).length)*320≤140737488355328∧([]:List BP).length+((s5.take (s7).toNat).drop (0:Int).toNat).length≤140737488355328)) (og (decide (((([]:List BP)++((s5.take (s7).toNat).drop (0:Int).toNat)).length+([x3]).length)*320≤140737488355328∧(([]:List BP)++((s5.take (s7).toNat).drop (0:Int).toNat)).length+([x3]).length≤140737488355328)) (og (decide ((((([]:List BP)++((s5.take (s7).toNat).drop (0:Int).toNat))++([x3])).length+((s5.take ((s5.length:Int)).toNat).drop (s7:Int).toNat).length)*320≤140737488355328∧((([]:List BP)++((s5.take (s7).toNat).drop (0:Int).toNat))++([x3])).length+((s5.take ((s5.length:Int)).toNat).drop (s7:Int).toNat).length≤140737488355328)) (k 8 (kx c l (i64.wrap (s6+1)) (((([]:List BP)++((s5.take (s7).toNat).drop (0:Int).toNat))++([x3]))++((s5.take ((s5.length:Int)).toNat).drop (s7:Int).toNat)))))))))|none=>none))))|none=>none)|none=>none)|false=>(og (decide ((0:Int)≤0∧0≤s7∧s7≤(s5.length:Int))) (match aR l s6 with|some x1=>(og (decide ((0:Int)≤s7∧s7≤(s5.length:Int)∧(s5.length:Int)≤(s5.length:Int))) (dup (.b (.b .l .l) .l) (og (decide ((([]:List BP).length+((s5.take (s7).toNat).drop (0:Int).toNat).length)*320≤140737488355328∧([]:List BP).length+((s5.take (s7).toNat).drop (0:Int).toNat).length≤140737488355328)) (og (decide (((([]:List BP)++((s5.take (s7).toNat).drop (0:Int).toNat)).length+([x1]).length)*320≤140737488355328∧(([]:List BP)++((s5.take (s7).toNat).drop (0:Int).toNat)).length+([x1]).length≤140737488355328)) (og (decide ((((([]:List BP)++((s5.take (s7).toNat).drop (0:Int).toNat))++([x1])).length+((s5.take ((s5.length:Int)).toNat).drop (s7:Int).toNat).length)*320≤140737488355328∧((([]:List BP)++((s5.take (s7).toNat).drop (0:Int).toNat))++([x1])).length+((s5.take ((s5.length:Int)).toNat).drop (s7:Int).toNat).length≤140737488355328)) (k 8 (kx c l (i64.wrap (s6+1)) (((([]:List BP)++((s5.take (s7).toNat).drop (0:Int).toNat))++([x1]))++((s5.take ((s5.length:Int)).toNat).drop (s7:Int).toNat)))))))))|none=>none)))
theorem zK(c:BCU)(l s5:List BP)(s6 s7:Int):RN vh 21 (wq c l s5 s6 s7) (uW c l s5 s6 s7):=rnX
theorem aan(c:BCU)(l:List BP)(hc:okC 4000 c)(hl:∀x∈l,okP 4000 x)(out:List BP)(ho:∀x∈out,okP 4000 x)(hlen:out.length≤1000000)(i:Nat)(hi:i<l.length)(hi2:i≤1000000)(r:List RV)(h:vh.Runs 8 (kx c l ((i+1:Nat):Int) (iH (dC c) out l[i])) r):
  ∀(j k:Nat),k+j=out.length→iH (dC c) out l[i]=out.take k++iH (dC c) (out.drop k) l[i]→vh.Runs 21 (wq c l out (i:Int) (k:Int)) r:=by
 have e0:i64.wrap ((i:Int)+1)=((i+1:Nat):Int):=bW (by omega)
 have gl:aR l (i:Int)=some l[i]:=by rw[ao,ak4 hi]
 have hx:=hl _ (alE hi)
 have tl:out.take ((out.length:Int)).toNat=out:=by simp
 have put:∀k:Nat,k≤out.length→iH (dC c) out l[i]=out.take k++[l[i]]++out.drop k→∃n,(match decide ((0:Int)≤0∧0≤(k:Int)∧(k:Int)≤(out.length:Int))with
   |true=>(match aR l (i:Int)with
    |some x5=>(match decide ((0:Int)≤(k:Int)∧(k:Int)≤(out.length:Int)∧(out.length:Int)≤(out.length:Int))with
     |true=>(match decide ((([]:List BP).length+((out.take ((k:Int)).toNat).drop (0:Int).toNat).length)*320≤140737488355328∧([]:List BP).length+((out.take ((k:Int)).toNat).drop (0:Int).toNat).length≤140737488355328)with
      |true=>(match decide (((([]:List BP)++((out.take ((k:Int)).toNat).drop (0:Int).toNat)).length+([x5]).length)*320≤140737488355328∧(([]:List BP)++((out.take ((k:Int)).toNat).drop (0:Int).toNat)).length+([x5]).length≤140737488355328)with
       |true=>(match decide ((((([]:List BP)++((out.take ((k:Int)).toNat).drop (0:Int).toNat))++([x5])).length+((out.take ((out.length:Int)).toNat).drop ((k:Int)).toNat).length)*320≤140737488355328∧((([]:List BP)++((out.take ((k:Int)).toNat).drop (0:Int).toNat))++([x5])).length+((out.take ((out.length:Int)).toNat).drop ((k:Int)).toNat).length≤140737488355328)with
        |true=>vh.k n 8 (kx c l (i64.wrap ((i:Int)+1)) (((([]:List BP)++((out.take ((k:Int)).toNat).drop (0:Int).toNat))++([x5]))++((out.take ((out.length:Int)).toNat).drop ((k:Int)).toNat)))
        |false=>none)
       |false=>none)
      |false=>none)
     |false=>none)
    |none=>none)
   |false=>none)=some r:=by
  intro k hk he
  have e1:((out.take ((k:Int)).toNat).drop (0:Int).toNat)=out.take k:=by simp
  have e2:((out.take ((out.length:Int)).toNat).drop ((k:Int)).toNat)=out.drop k:=by simp
  have l1:(out.take k).length=k:=by simp;omega
  have l2:(out.drop k).length=out.length-k:=by simp
  obtain⟨n,hn⟩:=h
  refine⟨n,?_⟩
  rw[gl,dT (show(0:Int)≤0∧0≤(k:Int)∧(k:Int)≤(out.length:Int) by omega)]
  dsimp only
  rw[dT (show(0:Int)≤(k:Int)∧(k:Int)≤(out.length:Int)∧(out.length:Int)≤(out.length:Int) by omega)]
  simp only[e1,e2,an2,List.length_nil,alC,alj,l1,l2,alI]
  rw[dT (by omega),dT (by omega),dT (by omega),e0,←he]
  exact hn
 intro j
 induction j with
 |zero=>
  intro k hk he
  have hk:k=out.length:=by omega
  subst hk
  refine zK _ _ _ _ _ ?_
  unfold uW
  rw[cd (by omega)]
  simp only[eZ]
  refine put _ (ak9 _) ?_
  rw[he]
  simp[iH]
 |succ j ih=>
  intro k hk he
  have hkl:k<out.length:=by omega
  have go:aR out (k:Int)=some out[k]:=by rw[ao,ak4 hkl]
  have ho1:=ho _ (alE hkl)
  have ek:i64.wrap ((k:Int)+1)=((k+1:Nat):Int):=bW (by omega)
  have hd:out.drop k=out[k]::out.drop (k+1):=alm hkl
  refine zK _ _ _ _ _ ?_
  unfold uW
  simp only[eZ,bH hkl,go,gl,dT (show okC 4000 c∧okP 4000 out[k]∧okP 4000 l[i] from⟨hc,ho1,hx⟩),dT (show okP 4000 out[k]∧okP 4000 l[i] from⟨ho1,hx⟩)]
  rw[hd]at he
  simp only[iH]at he
  cases h1:decide (df (dC c) (dec out[k]) (dec l[i])<0)<;>rw[h1]at he
  ·simp only[cond_false]at he
   cases h2:aV (dec out[k]) (dec l[i])==0<;>rw[h2]at he
   ·simp only[cond_false]at he
    have:=put k (by omega) (by rw[he,hd];simp)
    simp only[gl]at this
    exact this
   ·simp only[cond_true]at he
    rw[←hd,amt]at he
    obtain⟨n,hn⟩:=h
    refine⟨n,?_⟩
    rw[e0]
    rw[he]at hn
    exact hn
  ·simp only[cond_true]at he
   obtain⟨n,hn⟩:=ih (k+1) (by omega) (by rw[he,J1 hkl,alu];rfl)
   refine⟨n,?_⟩
   rw[ek]
   exact hn
theorem S3(c:BCU)(l:List BP)(hc:okC 4000 c)(hl:∀x∈l,okP 4000 x)(hle:l.length≤1000000):∀(j i:Nat),i+j=l.length→∀out:List BP,(∀x∈out,okP 4000 x)→out.length≤i→vh.Runs 8 (kx c l (i:Int) out) [.d (.sl tP) ((l.drop i).foldl (iH (dC c)) out)]:=by
 intro j
 induction j with
 |zero=>
  intro i hi out ho hlen
  refine DO _ _ _ _ ⟨0,?_⟩
  unfold wO
  rw[cd (by omega),pj (by omega)]
  rfl
 |succ j ih=>
  intro i hi out ho hlen
  have hil:i<l.length:=by omega
  have h2:=ih (i+1) (by omega) (iH (dC c) out l[i]) (fun x hx=>by
   rcases pG hx with h|h
   ·exact ho x h
   ·rw[h];exact hl _ (alE hil)) (alg (w8 _ _ _) (by omega))
  obtain⟨n,hn⟩:=aan c l hc hl out ho (by omega) i hil (by omega) _ h2 out.length 0 (by omega) (by simp)
  refine DO _ _ _ _ ⟨n,?_⟩
  unfold wO
  rw[bH hil,gA hil,am2]
  exact hn
def W7:Cn 59 [tCU,(.sl tP)]:=cn fun(c:BCU) (l:List BP)=>lf (xJ c l) [.d (.sl tP) (iE (dC c) l)] fun h=>by
 obtain⟨hc,hle,hl⟩:=h
 refine c7 Xb (show vh.Res _ _ _ from ?_)
 obtain⟨n,hn⟩:=S3 c l hc hl hle l.length 0 (by omega) [] (fun x hx=>by cases hx) (ak9 _)
 exact adY _ _ ⟨n,hn⟩
def Ch(c:BCU)(x y:BP):BCU:=(c.1,c.2.1,c.2.2.1,c.2.2.2.1,x,y)
def yI(c:BCU):List BP→List BCU
 |[]=>[]
 |x::r=>match r with
  |[]=>[]
  |y::_=>Ch c x y::yI c r
def vG(c:BCU)(l:List BP):List BP:=iE (dC c) ([c.2.2.2.2.1,c.2.2.2.2.2]++l)
def kZ(c:BCU)(l:List BP):List BCU:=yI c (vG c l)
def ES(c:BCU)(l:List BP):Prop:=okC 3500 c∧l.length≤900000∧∀x∈l,okP 3500 x∧onR (dC c) (dec x)=true
instance (c:BCU) (l:List BP):Decidable (ES c l):=by unfold ES;infer_instance
theorem UE{c:BCU}{l:List BP}(h:ES c l):xJ c ([c.2.2.2.2.1,c.2.2.2.2.2]++l):=by
 obtain⟨h1,h2,h3⟩:=h
 have h4:=cf (k:=4000) h1 (by decide) (by decide)
 refine⟨h4,by simp;omega,fun x hx=>?_⟩
 rcases alO.1 hx with hx|hx
 ·simp only[ali,ame,anu]at hx
  rcases hx with rfl|rfl
  ·exact h4.2.2.1
  ·exact h4.2.2.2
 ·exact cK (h3 x hx).1 (by decide) (by decide)
theorem Jh(c:BCU)(l:List BP):(vG c l).length≤l.length+2:=by
 have:=vU (dC c) ([c.2.2.2.2.1,c.2.2.2.2.2]++l) []
 unfold vG iE
 simp at this ⊢
 omega
theorem HY{c:BCU}{l:List BP}{x:BP}(h:x∈vG c l):x=c.2.2.2.2.1∨x=c.2.2.2.2.2∨x∈l:=by
 rcases Ad (out:=[]) h with h|h
 ·cases h
 ·rcases alO.1 h with h|h
  ·simp only[ali,ame,anu]at h
   rcases h with h|h
   ·exact .inl h
   ·exact .inr (.inl h)
  ·exact .inr (.inr h)
theorem Hz{c p:BCU}:∀{s:List BP},p∈yI c s→∃x y,x∈s∧y∈s∧p=Ch c x y
 |[],h=>by cases h
 |[_],h=>by cases h
 |x::y::r,h=>by
  simp only[yI]at h
  rcases ali.1 h with h|h
  ·exact⟨x,y,by simp,by simp,h⟩
  ·obtain⟨a,b,h1,h2,h3⟩:=Hz (s:=y::r) h
   exact⟨a,b,alh _ h1,alh _ h2,h3⟩
def Xs:List En:=[enT Hw,enT Na,enT OB,enL H9,enT xD,enK W7]
def abm:NT:=[((20,6),{keep:=[1,2,6],hl:=1}),((20,31),{keep:=[2,7,8,9],own:=[(8,39,tCU)],hl:=3})]
def zB:Ctx:=CX (ens Xs) abm
def BH(c:BCU)(l:List BP)(s6:Int):Cfg:=⟨20,[.blk 0,.seq 23],[(1,.d (.sl tP) l),(2,.box 0 0),(6,SI s6)],[.box 39 [SB c.1,SB c.2.1.1.1.1,.d aom c.2.1.1.1.2,SB c.2.1.1.2.1,.d aom c.2.1.1.2.2,SB c.2.1.2.1.1.1,.d aom c.2.1.2.1.1.2,SB c.2.1.2.1.2.1,.d aom c.2.1.2.1.2.2,SB c.2.1.2.2.1.1,.d aom c.2.1.2.2.1.2,SB c.2.1.2.2.2.1,.d aom c.2.1.2.2.2.2,SB c.2.2.1.1.1.1,.d aom c.2.2.1.1.1.2,SB c.2.2.1.1.2.1,.d aom c.2.2.1.1.2.2,SB c.2.2.1.2.1.1.1,.d aom c.2.2.1.2.1.1.2,SB c.2.2.1.2.1.2.1,.d aom c.2.2.1.2.1.2.2,SB c.2.2.1.2.2.1.1,.d aom c.2.2.1.2.2.1.2,SB c.2.2.1.2.2.2.1,.d aom c.2.2.1.2.2.2.2,SB c.2.2.2.1,SB c.2.2.2.2.1.1.1.1,.d aom c.2.2.2.2.1.1.1.2,SB c.2.2.2.2.1.1.2.1,.d aom c.2.2.2.2.1.1.2.2,SB c.2.2.2.2.1.2.1.1.1,.d aom c.2.2.2.2.1.2.1.1.2,SB c.2.2.2.2.1.2.1.2.1,.d aom c.2.2.2.2.1.2.1.2.2,SB c.2.2.2.2.1.2.2.1.1.1,.d aom c.2.2.2.2.1.2.2.1.1.2,SB c.2.2.2.2.1.2.2.1.2.1,.d aom c.2.2.2.2.1.2.2.1.2.2,SB c.2.2.2.2.1.2.2.2.1.1.1,.d aom c.2.2.2.2.1.2.2.2.1.1.2,SB c.2.2.2.2.1.2.2.2.1.2.1,.d aom c.2.2.2.2.1.2.2.2.1.2.2,SB c.2.2.2.2.1.2.2.2.2.1.1,.d aom c.2.2.2.2.1.2.2.2.2.1.2,SB c.2.2.2.2.1.2.2.2.2.2.1,.d aom c.2.2.2.2.1.2.2.2.2.2.2,SB c.2.2.2.2.2.1.1.1,.d aom c.2.2.2.2.2.1.1.2,SB c.2.2.2.2.2.1.2.1,.d aom c.2.2.2.2.2.1.2.2,SB c.2.2.2.2.2.2.1.1.1,.d aom c.2.2.2.2.2.2.1.1.2,SB c.2.2.2.2.2.2.1.2.1,.d aom c.2.2.2.2.2.2.1.2.2,SB c.2.2.2.2.2.2.2.1.1.1,.d aom c.2.2.2.2.2.2.2.1.1.2,SB c.2.2.2.2.2.2.2.1.2.1,.d aom c.2.2.2.2.2.2.2.1.2.2,SB c.2.2.2.2.2.2.2.2.1.1.1,.d aom c.2.2.2.2.2.2.2.2.1.1.2,SB c.2.2.2.2.2.2.2.2.1.2.1,.d aom c.2.2.2.2.2.2.2.2.1.2.2,SB c.2.2.2.2.2.2.2.2.2.1.1,.d aom c.2.2.2.2.2.2.2.2.2.1.2,SB c.2.2.2.2.2.2.2.2.2.2.1,.d aom c.2.2.2.2.2.2.2.2.2.2.2]],0,[]⟩
def wk(c:BCU)(l:List BP)(s9:Int)(r2:List BCU):Cfg:=⟨20,[.blk 2,.seq 46],[(2,.box 0 0),(7,.d (.sl tP) (iE (dC c) (([c.2.2.2.2.1,c.2.2.2.2.2])++l))),(8,.own 2),(9,SI s9)],[.box 39 [SB c.1,SB c.2.1.1.1.1,.d aom c.2.1.1.1.2,SB c.2.1.1.2.1,.d aom c.2.1.1.2.2,SB c.2.1.2.1.1.1,.d aom c.2.1.2.1.1.2,SB c.2.1.2.1.2.1,.d aom c.2.1.2.1.2.2,SB c.2.1.2.2.1.1,.d aom c.2.1.2.2.1.2,SB c.2.1.2.2.2.1,.d aom c.2.1.2.2.2.2,SB c.2.2.1.1.1.1,.d aom c.2.2.1.1.1.2,SB c.2.2.1.1.2.1,.d aom c.2.2.1.1.2.2,SB c.2.2.1.2.1.1.1,.d aom c.2.2.1.2.1.1.2,SB c.2.2.1.2.1.2.1,.d aom c.2.2.1.2.1.2.2,SB c.2.2.1.2.2.1.1,.d aom c.2.2.1.2.2.1.2,SB c.2.2.1.2.2.2.1,.d aom c.2.2.1.2.2.2.2,SB c.2.2.2.1,SB c.2.2.2.2.1.1.1.1,.d aom c.2.2.2.2.1.1.1.2,SB c.2.2.2.2.1.1.2.1,.d aom c.2.2.2.2.1.1.2.2,SB c.2.2.2.2.1.2.1.1.1,.d aom c.2.2.2.2.1.2.1.1.2,SB c.2.2.2.2.1.2.1.2.1,.d aom c.2.2.2.2.1.2.1.2.2,SB c.2.2.2.2.1.2.2.1.1.1,.d aom c.2.2.2.2.1.2.2.1.1.2,SB c.2.2.2.2.1.2.2.1.2.1,.d aom c.2.2.2.2.1.2.2.1.2.2,SB c.2.2.2.2.1.2.2.2.1.1.1,.d aom c.2.2.2.2.1.2.2.2.1.1.2,SB c.2.2.2.2.1.2.2.2.1.2.1,.d aom c.2.2.2.2.1.2.2.2.1.2.2,SB c.2.2.2.2.1.2.2.2.2.1.1,.d aom c.2.2.2.2.1.2.2.2.2.1.2,SB c.2.2.2.2.1.2.2.2.2.2.1,.d aom c.2.2.2.2.1.2.2.2.2.2.2,SB c.2.2.2.2.2.1.1.1,.d aom c.2.2.2.2.2.1.1.2,SB c.2.2.2.2.2.1.2.1,.d aom c.2.2.2.2.2.1.2.2,SB c.2.2.2.2.2.2.1.1.1,.d aom c.2.2.2.2.2.2.1.1.2,SB c.2.2.2.2.2.2.1.2.1,.d aom c.2.2.2.2.2.2.1.2.2,SB c.2.2.2.2.2.2.2.1.1.1,.d aom c.2.2.2.2.2.2.2.1.1.2,SB c.2.2.2.2.2.2.2.1.2.1,.d aom c.2.2.2.2.2.2.2.1.2.2,SB c.2.2.2.2.2.2.2.2.1.1.1,.d aom c.2.2.2.2.2.2.2.2.1.1.2,SB c.2.2.2.2.2.2.2.2.1.2.1,.d aom c.2.2.2.2.2.2.2.2.1.2.2,SB c.2.2.2.2.2.2.2.2.2.1.1,.d aom c.2.2.2.2.2.2.2.2.2.1.2,SB c.2.2.2.2.2.2.2.2.2.2.1,.d aom c.2.2.2.2.2.2.2.2.2.2.2],.gone,.row 39 tCU r2],0,[]⟩
def aih(c:BCU)(l:List BP)(k:KT):Option (List RV):=k 6 (BH c l 0)
theorem ahU(c:BCU)(l:List BP):RS zB 20 [.d tCU c,.d (.sl tP) l] (aih c l):=rsX
def wZ(c:BCU)(l:List BP)(s6:Int)(k:KT):Option (List RV):=match decide (s6<(l.length:Int))with|true=>(match aR l s6 with|some x1=>(og (decide (okC 3500 c∧okP 3500 x1)) (match !(onR (dC c) (dec x1))with|true=>some [RV.d (.sl tCU) ([]),RV.d aon 1]|false=>k 6 (BH c l (i64.wrap (s6+1)))))|none=>none)|false=>(og (decide ((([c.2.2.2.2.1,c.2.2.2.2.2]).length+l.length)*320≤140737488355328∧([c.2.2.2.2.1,c.2.2.2.2.2]).length+l.length≤140737488355328)) (og (decide (xJ c (([c.2.2.2.2.1,c.2.2.2.2.2])++l))) (k 31 (wk c l 1 ([])))))
theorem Eo(c:BCU)(l:List BP)(s6:Int):RN zB 6 (BH c l s6) (wZ c l s6):=rnX
def uL(c:BCU)(l:List BP)(s9:Int)(r2:List BCU)(k:KT):Option (List RV):=match decide (s9<((iE (dC c) (([c.2.2.2.2.1,c.2.2.2.2.2])++l)).length:Int))with|true=>(match aR (iE (dC c) (([c.2.2.2.2.1,c.2.2.2.2.2])++l)) (i64.wrap (s9-1))with|some x1=>(match aR (iE (dC c) (([c.2.2.2.2.1,c.2.2.2.2.2])++l)) s9 with|some x2=>dup (.b .l .l) (og (decide ((r2.length+([(c.1,(c.2.1,(c.2.2.1,(c.2.2.2.1,(x1,x2)))))]).length)*1040≤140737488355328∧r2.length+([(c.1,(c.2.1,(c.2.2.1,(c.2.2.2.1,(x1,x2)))))]).length≤140737488355328)) (k 31 (wk c l (i64.wrap (s9+1)) (r2++([(c.1,(c.2.1,(c.2.2.1,(c.2.2.2.1,(x1,x2)))))])))))|none=>none)|none=>none)|false=>some [RV.d (.sl tCU) r2,RV.d aon 0]
theorem yV(c:BCU)(l:List BP)(s9:Int)(r2:List BCU):RN zB 31 (wk c l s9 r2) (uL c l s9 r2):=rnX
theorem acU(c:BCU)(l:List BP)(hle:l.length≤900000)(S:List BP)(hS:S=vG c l):∀(j i:Nat),1≤i→i+j=max S.length 1→∀out:List BCU,out.length≤i→zB.Runs 31 (wk c l (i:Int) out) [.d (.sl tCU) (out++yI c (S.drop (i-1))),.d aon (0:Int)]:=by
 have hSl:=Jh c l
 rw[←hS]at hSl
 have eS:iE (dC c) ([c.2.2.2.2.1,c.2.2.2.2.2]++l)=S:=hS.symm
 intro j
 induction j with
 |zero=>
  intro i h1 hi out hlen
  refine yV _ _ _ _ ⟨0,?_⟩
  unfold uL
  rw[eS,cd (by omega)]
  have:yI c (S.drop (i-1))=[]:=by
   have hl:(S.drop (i-1)).length≤1:=by rw[anw];omega
   match S.drop (i-1),hl with
   |[],_=>rfl
   |[_],_=>rfl
   |_::_::_,h=>simp at h
  rw[this,alB]
 |succ j ih=>
  intro i h1 hi out hlen
  have hil:i<S.length:=by omega
  have e1:i64.wrap ((i:Int)-1)=((i-1:Nat):Int):=by rw[aS (by omega) (by omega)];omega
  have e2:i64.wrap ((i:Int)+1)=((i+1:Nat):Int):=bW (by omega)
  have g1:aR S ((i-1:Nat):Int)=some S[i-1]:=by rw[ao,ak4 (by omega)]
  have g2:aR S (i:Int)=some S[i]:=by rw[ao,ak4 hil]
  obtain⟨n,hn⟩:=ih (i+1) (by omega) (by omega) (out++[Ch c S[i-1] S[i]]) (by simp;omega)
  refine yV _ _ _ _ ⟨n,?_⟩
  unfold uL
  rw[eS]
  simp only[eZ,bH hil,e1,e2,g1,g2]
  rw[dT (by simp;omega)]
  have hd:S.drop (i-1)=S[i-1]::S.drop i:=by
   have:=alm (l:=S) (i:=i-1) (by omega)
   rw[this,show i-1+1=i by omega]
  have hd2:S.drop i=S[i]::S.drop (i+1):=alm hil
  rw[hd,hd2]
  rw[show i+1-1=i by omega,hd2,alu]at hn
  exact hn
theorem acO(c:BCU)(l:List BP)(h:ES c l):∀(j i:Nat),i+j=l.length→zB.Runs 6 (BH c l (i:Int)) [.d (.sl tCU) (kZ c l),.d aon (0:Int)]:=by
 have hs:=UE h
 obtain⟨hc,hle,hl⟩:=h
 intro j
 induction j with
 |zero=>
  intro i hi
  obtain⟨n,hn⟩:=acU c l hle (vG c l) rfl (max (vG c l).length 1-1) 1 (ak9 _) (by omega) [] (by simp)
  refine Eo _ _ _ ⟨n,?_⟩
  unfold wZ
  rw[cd (by omega),dT (by simp;omega),dT hs]
  exact hn
 |succ j ih=>
  intro i hi
  have hil:i<l.length:=by omega
  obtain⟨n,hn⟩:=ih (i+1) (by omega)
  have h1:=hl _ (alE hil)
  refine Eo _ _ _ ⟨n,?_⟩
  unfold wZ
  rw[bH hil,ao,ak4 hil,bW (by omega)]
  dsimp only
  rw[dT (show okC 3500 c∧okP 3500 l[i] from⟨hc,h1.1⟩),h1.2]
  exact hn
def ag5:Cn 20 [tCU,(.sl tP)]:=cn fun(c:BCU) (l:List BP)=>lf (ES c l) [.d (.sl tCU) (kZ c l),.d aon 0] fun h=>by
 refine c7 Xs (show zB.Res _ _ _ from ?_)
 obtain⟨n,hn⟩:=acO c l h l.length 0 (by omega)
 exact ahU _ _ ⟨n,hn⟩
def yL(n d:Int):Prop:=aG n∧aG d∧0<d
instance (n d:Int):Decidable (yL n d):=by unfold yL;infer_instance
def adj:List En:=[enL BC,enL YF]
def RY(n d:Int)(_k:KT):Option (List RV):=match d==0 with|true=>(og (decide (aG (0:Int))) (og (decide (aG (1:Int))) (og (decide (jS (hid (ai (0:Int))) (hid (ai (1:Int))))) (some [RV.d tR (hid (fx (hid (ai (0:Int))) (hid (ai (1:Int)))))]))))|false=>(og (decide (aG n)) (og (decide (aG d)) (og (decide (jS (hid (ai n)) (hid (ai d)))) (some [RV.d tR (hid (fx (hid (ai n)) (hid (ai d))))]))))
def Gu:Cn 40 [aon,aon]:=cn fun(n d:Int)=>lf (yL n d) [.d tR (am (Rat.divInt n d))] fun h=>by
 refine aA adj (RY n d) ⟨0,?_⟩
 obtain⟨hn,hd,h0⟩:=h
 have hne:(d==0)=false:=by simp;omega
 unfold RY
 rw[hne,dT hn,dT hd]
 simp only[bL]
 rw[dT (show jS (ai n) (ai d) from⟨aT (by have:=jX hn;omega),aT (by have:=jX hd;omega),by rw[dec_enc];omega⟩)]
 unfold fx
 rw[dec_enc,dec_enc]
theorem IY{n d:Int}(h1:aG n)(h2:aG d)(h0:0<d):Bd (Rat.divInt n d) 3:=by
 obtain⟨k,rfl⟩:=amd (show 0≤d by omega)
 exact⟨ue (by omega) (jX h1) (jX h2)⟩
section
theorem Con.new_d{P:Program}{f:Nat}{args:List SV}{et:TypeId}{e:Ty}{xs:List e.D}(h:Con P f args [.new et e xs]):Con P f args [.d (.sl e) xs]:=by
 intro A w vs hI ha
 refine(h A w vs hI ha).mono ?_
 rintro en w' ⟨v,rfl,hb,css,ho,ha2,hn⟩
 refine⟨v,rfl,hb,?_⟩
 obtain⟨hlen,p,c,hv,h1,h2,h3⟩:=Rd.of_own hn ho
 subst hv
 refine⟨[.slice p xs.length c],⟨p,xs.length,c,css,rfl,rfl,h1,h2,bR (fun _ _ h=>Ty.rd_keep ⟨ak9 _,fun b _ hb=>hb.1,fun _ _ _=>rfl⟩ h) ha2,fun h0=>?_⟩,rfl⟩
 obtain⟨b,off,rfl,h5,h6⟩:=h3 h0
 refine⟨b,off,rfl,.inr ?_,h5,h6⟩
 rcases ho.2 with⟨h7,_⟩|⟨g,cap,cur,h7,h8,_⟩
 ·cases h7
 ·injection h7 with h7
  injection h7 with h7
  injection h7 with h7
  subst h7
  exact h8
class Bb (q:Rat) (n d:outParam Nat):Prop where
 nu:q.num.natAbs≤2^n
 de:q.den≤2^d
theorem CD{n:Int}{d a b:Nat}(hd:d≠0)(h1:n.natAbs≤2^a)(h2:d≤2^b):(mkRat n d).num.natAbs≤2^a∧(mkRat n d).den≤2^b:=by
 rw[an6,an7,alq hd,alq hd]
 constructor
 ·refine alg ?_ h1
  refine(HB n (d.gcd n.natAbs)).resolve_right (fun h=>h ?_)
  exact Int.ofNat_dvd_left.2 (Nat.gcd_dvd_right d n.natAbs)
 ·exact alg (Nat.div_le_self _ _) h2
theorem xd{a b m n:Nat}(h:a≤2^m)(h':b≤2^n):a*b≤2^(m+n):=by
 rw[Nat.pow_add]
 exact anh h h'
theorem ahM{x y m n:Nat}(h:x≤2^m)(h':y≤2^n):x+y≤2^(mx m n+1):=by
 have h1:=alg h (Nat.pow_le_pow_right (by decide) (Bn m n))
 have h2:=alg h' (Nat.pow_le_pow_right (by decide) (Bl m n))
 rw[Nat.pow_succ]
 omega
section
variable {a b:Rat} {m n d e:Nat}
instance ajH [h:Bb a m d] [h':Bb b n e]:Bb (a+b) (mx (m+e) (n+d)+1) (d+e):=by
 have d1:=a.den_pos
 have d2:=b.den_pos
 have:=CD (n:=a.num*(b.den:Int)+b.num*(a.den:Int)) (d:=a.den*b.den) (a:=mx (m+e) (n+d)+1) (b:=d+e) (anJ (by omega) (by omega)) (by
  refine alg (Int.natAbs_add_le _ _) ?_
  rw[anV,anV,amD,amD]
  exact ahM (xd h.nu h'.de) (xd h'.nu h.de)) (xd h.de h'.de)
 rw[←Rat.add_def']at this
 exact⟨this.1,this.2⟩
instance akj [h:Bb a m d]:Bb (-a) m d:=⟨by rw[Rat.neg_num,Int.natAbs_neg];exact h.nu,h.de⟩
instance aiU [h:Bb a m d] [h':Bb b n e]:Bb (a-b) (mx (m+e) (n+d)+1) (d+e):=by
 rw[anB]
 infer_instance
instance akb [h:Bb a m d] [h':Bb b n e]:Bb (a*b) (m+n) (d+e):=by
 have d1:=a.den_pos
 have d2:=b.den_pos
 have:=CD (n:=a.num*b.num) (d:=a.den*b.den) (a:=m+n) (b:=d+e) (anJ (by omega) (by omega)) (by
  rw[anV]
  exact xd h.nu h'.nu) (xd h.de h'.de)
 rw[←Rat.mul_def']at this
 exact⟨this.1,this.2⟩
theorem acR [h:Bb a m d]:Bb a⁻¹ d m:=by
 by_cases h0:a=0
 ·subst h0
  rw[Rat.inv_zero]
  exact⟨anC _,Nat.one_le_two_pow⟩
 ·have hn:a.num≠0:=fun e=>h0 (Rat.num_eq_zero.1 e)
  have h1:=h.nu
  have h2:=h.de
  rw[Rat.inv_def]
  rcases amU hn with h3|h3
  ·rw[←Rat.neg_divInt_neg,show-a.num=(((-a.num).toNat:Nat):Int) by omega,anx]
   have:=CD (n:= -(a.den:Int)) (d:=(-a.num).toNat) (a:=d) (b:=m) (by omega) (by rw[Int.natAbs_neg];exact h2) (by omega)
   exact⟨this.1,this.2⟩
  ·rw[show a.num=((a.num.toNat:Nat):Int) by omega,anx]
   have:=CD (n:=(a.den:Int)) (d:=a.num.toNat) (a:=d) (b:=m) (by omega) h2 (by omega)
   exact⟨this.1,this.2⟩
instance ajy [h:Bb a m d] [h':Bb b n e]:Bb (a/b) (m+e) (d+n):=by
 rw[anM]
 have:=acR (h:=h')
 infer_instance
theorem XW:∀k:Nat,((2^(29*k):Nat):Int)≤pw k
 |0=>by decide
 |k+1=>by
  have ih:=XW k
  have e:2^(29*(k+1))=2^(29*k)*536870912:=by
   rw[Nat.mul_add,Nat.pow_add]
  rw[e,b9,amB]
  have:(0:Int)≤pw k:=Int.le_trans (Int.natCast_nonneg _) ih
  omega
theorem Zs{z:Int}{n:Nat}(h:z.natAbs≤2^n):szI z≤n/29+1:=by
 have h1:=XW (n/29+1)
 have h2:2^n<2^(29*(n/29+1)):=Nat.pow_lt_pow_right (by decide) (by omega)
 exact fu (by omega) (by omega)
theorem Ea [h:Bb a m d]{k:Nat}(hm:m/29+1≤k)(hd:d/29+1≤k):Bd a k:=⟨⟨alg (Zs h.nu) hm,alg (Zs (z:=(a.den:Int)) h.de) hd⟩⟩
end
theorem SJ{n d:Int}{a b:Nat}(h0:0<d)(h1:n.natAbs≤2^a)(h2:d.natAbs≤2^b):Bb (Rat.divInt n d) a b:=by
 obtain⟨k,rfl⟩:=amd (show 0≤d by omega)
 rw[anx]
 have:=CD (n:=n) (d:=k) (by omega) h1 h2
 exact⟨this.1,this.2⟩
def cN(x:BO3):Prop:=ok Rat 12 x.1∧ok Rat 12 x.2.1∧ok Rat 63 x.2.2∧((dec x:Ln).1≠0∨(dec x:Ln).2.1≠0)
instance (x:BO3):Decidable (cN x):=by unfold cN;infer_instance
def cg(x:BO3):Prop:=ok Rat 4 x.1∧ok Rat 4 x.2.1∧ok Rat 13 x.2.2∧(0:Rat)<(dec x:Ln).2.2
instance (x:BO3):Decidable (cg x):=by unfold cg;infer_instance
class BdL (l:Ln):Prop where
 a:Bd l.1 12
 b:Bd l.2.1 12
 c:Bd l.2.2 63
class BdC (c:Ln):Prop where
 x:Bd c.1 4
 y:Bd c.2.1 4
 q:Bd c.2.2 13
theorem eI{x:BO3}(h:cN x):∃l:Ln,x=enc l∧BdL l∧(l.1≠0∨l.2.1≠0):=by
 obtain⟨h1,h2,h3,h4⟩:=h
 obtain⟨x1,x2,x3⟩:=x
 obtain⟨a,rfl,ba⟩:=aF h1
 obtain⟨b,rfl,bb⟩:=aF h2
 obtain⟨c,rfl,bc⟩:=aF h3
 have e:((enc a,enc b,enc c):BO3)=enc ((a,b,c):Ln):=rfl
 rw[e,az]at h4
 exact⟨(a,b,c),rfl,⟨ba,bb,bc⟩,h4⟩
theorem cQ{x:BO3}(h:cg x):∃c:Ln,x=enc c∧BdC c∧0<c.2.2:=by
 obtain⟨h1,h2,h3,h4⟩:=h
 obtain⟨x1,x2,x3⟩:=x
 obtain⟨a,rfl,ba⟩:=aF h1
 obtain⟨b,rfl,bb⟩:=aF h2
 obtain⟨c,rfl,bc⟩:=aF h3
 have e:((enc a,enc b,enc c):BO3)=enc ((a,b,c):Ln):=rfl
 rw[e,az]at h4
 exact⟨(a,b,c),rfl,⟨ba,bb,bc⟩,h4⟩
theorem mg{l:Ln}[h:BdL l](h0:l.1≠0∨l.2.1≠0):cN (enc l):=by
 have a:=h.a
 have b:=h.b
 have c:=h.c
 exact⟨ak6 (okd (ak9 _) (by decide)),ak6 (okd (ak9 _) (by decide)),ak6 (okd (ak9 _) (by decide)),by rw[az];exact h0⟩
theorem hU{c:Ln}[h:BdC c](h0:0<c.2.2):cg (enc c):=by
 have a:=h.x
 have b:=h.y
 have c:=h.q
 exact⟨ak6 (okd (ak9 _) (by decide)),ak6 (okd (ak9 _) (by decide)),ak6 (okd (ak9 _) (by decide)),by rw[az];exact h0⟩
section
variable {l c:Ln}
instance ak1 [h:BdL l]:Bd l.1 12:=h.a
instance ak2 [h:BdL l]:Bd l.2.1 12:=h.b
instance ak0 [h:BdL l]:Bd l.2.2 63:=h.c
instance akZ [h:BdC c]:Bd c.1 4:=h.x
instance akY [h:BdC c]:Bd c.2.1 4:=h.y
instance akX [h:BdC c]:Bd c.2.2 13:=h.q
theorem aag [h:BdL l]:Bd l 63:=⟨⟨Cod.mono _ _ _ (by decide) h.a.le,Cod.mono _ _ _ (by decide) h.b.le,h.c.le⟩⟩
theorem OS [h:BdC c]:Bd c 13:=⟨⟨Cod.mono _ _ _ (by decide) h.x.le,Cod.mono _ _ _ (by decide) h.y.le,h.q.le⟩⟩
end
def ef(l m:Ln):Rat:=l.1*m.2.1-m.1*l.2.1
def lU(l m:Ln):Rat:=l.2.2*m.2.1-m.2.2*l.2.1
def lN(l m:Ln):Rat:=l.1*m.2.2-m.1*l.2.2
def mp(l m:Ln):List Pt:=bif !decide (ef l m=0)then [atP (lU l m/ef l m,lN l m/ef l m)]else []
def Lc(l m:Ln):Int:=bif !decide (ef l m=0)then 0 else bif decide (lU l m=0)&&decide (lN l m=0)then 10 else 0
def ck(l:Ln):Rat:=l.1*l.1+l.2.1*l.2.1
def vlL(l:Ln)(x y:Rat):Rat:=l.1*x+l.2.1*y-l.2.2
def ju(l c:Ln):Rat:=ck l*c.2.2-vlL l c.1 c.2.1*vlL l c.1 c.2.1
def ob(ax bx ay b_ c:Rat):Pt:=bif fN c then atP (ax+bx*rtQ c,ay+b_*rtQ c)else(ax,bx,ay,b_,c)
def ftX(l c:Ln):Rat:=c.1-vlL l c.1 c.2.1/ck l*l.1
def ftY(l c:Ln):Rat:=c.2.1-vlL l c.1 c.2.1/ck l*l.2.1
def r7(l c:Ln):Pt:=ob (ftX l c) (-(l.2.1/ck l)) (ftY l c) (-(-l.1/ck l)) (ju l c)
def ti(l c:Ln):Pt:=ob (ftX l c) (l.2.1/ck l) (ftY l c) (-l.1/ck l) (ju l c)
def rh(l c:Ln):List Pt:=bif decide (ju l c<0)then []else bif decide (ju l c=0)then [atP (ftX l c,ftY l c)]
 else bif decide (aV (r7 l c) (ti l c)>0)then [ti l c,r7 l c]else [r7 l c,ti l c]
def ij(c d:Ln):Bool:=decide (c.1=d.1)&&decide (c.2.1=d.2.1)
def qC(c:Ln):Rat:=c.1*c.1+c.2.1*c.2.1-c.2.2
def mr(c d:Ln):Ln:=(2*(d.1-c.1),2*(d.2.1-c.2.1),qC d-qC c)
def C9(c d:Ln):List Pt:=bif ij c d then []else rh (mr c d) c
def Un(c d:Ln):Int:=bif ij c d then(bif decide (c.2.2=d.2.2)then 10 else 0)else 0
def vH(c d:Ln):BO3:=bif ij c d then o00 else enc (mr c d)
def Vr(c d:Ln):Int:=bif ij c d then 6 else 0
def oR(l m:Ln):Bool:=decide (l.1*m.2.1=l.2.1*m.1)&&(decide (l.1*m.2.2=l.2.2*m.1)&&decide (l.2.1*m.2.2=l.2.2*m.2.1))
def rP(c d:Ln):Bool:=decide (c.1=d.1)&&(decide (c.2.1=d.2.1)&&decide (c.2.2=d.2.2))
def cJ(a b:Cv):Bool:=bif a.1==b.1 then(bif a.1 then rP (ciC a) (ciC b)else oR (lnC a) (lnC b))else false
def vw(a:BCU):Prop:=(a.1=true→cg a.2.2.1)∧(a.1=false→cN a.2.1)
instance (a:BCU):Decidable (vw a):=by unfold vw;infer_instance
def gS(a b:BCU):Prop:=vw a∧vw b
instance (a b:BCU):Decidable (gS a b):=by unfold gS;infer_instance
def vm(a b:Cv):List Pt:=bif a.1&&b.1 then C9 (ciC a) (ciC b)else bif a.1 then rh (lnC b) (ciC a)else bif b.1 then rh (lnC a) (ciC b)else mp (lnC a) (lnC b)
def Y9(a b:Cv):Int:=bif a.1&&b.1 then Un (ciC a) (ciC b)else bif a.1 then 0 else bif b.1 then 0 else Lc (lnC a) (lnC b)
def lO(c:Ln):Pt:=ob c.1 (-1) c.2.1 0 c.2.2
def l8(c:Ln):Pt:=ob c.1 1 c.2.1 0 c.2.2
theorem Ay{ax bx ay b_ c:Rat}(h0:¬(bx=0∧b_=0))(hc:0≤c):Rpd (ob ax bx ay b_ c):=by
 refine⟨?_⟩
 unfold ob
 cases hq:fN c
 ·exact .inr ⟨h0,I0 hc hq,hq⟩
 ·exact .inl ⟨rfl,rfl,rfl⟩
theorem Bx{ax bx ay b_ c:Rat}{j k m:Nat}(h1:Bd ax j)(h2:Bd bx k)(h3:Bd ay j)(h4:Bd b_ k)(h5:Bd c m){n:Nat}(hn:j+(k+m)+1≤n):Bd (ob ax bx ay b_ c) n:=by
 have z:bdR n 0:=bJ ls.le (by omega)
 have i1:Bd (ax+bx*rtQ c) _:=inferInstance
 have i2:Bd (ay+b_*rtQ c) _:=inferInstance
 refine⟨?_⟩
 unfold ob
 cases fN c
 ·exact⟨bJ h1.le (by omega),bJ h2.le (by omega),bJ h3.le (by omega),bJ h4.le (by omega),bJ h5.le (by omega)⟩
 ·exact⟨bJ i1.le (by omega),z,bJ i2.le (by omega),z,z⟩
section
variable {l m c d:Ln}
theorem m9(h:l.1≠0∨l.2.1≠0):ck l≠0:=jY h
instance ajt [BdL l] [h:BdC c]:Bd (ju l c) 257:=by
 have hx:=h.x
 have hy:=h.y
 have hq:=h.q
 have i1:Bd (ck l) 49:=inferInstanceAs (Bd (l.1*l.1+l.2.1*l.2.1) _)
 have i2:Bd (vlL l c.1 c.2.1) 97:=inferInstanceAs (Bd (l.1*c.1+l.2.1*c.2.1-l.2.2) _)
 exact(inferInstance:Bd (ck l*c.2.2-vlL l c.1 c.2.1*vlL l c.1 c.2.1) _).mono (by decide)
theorem uG [BdL l][h:BdC c]:Bd (ftX l c) 163∧Bd (ftY l c) 163∧Bd (l.2.1/ck l) 61∧Bd (l.1/ck l) 61:=by
 have hx:=h.x
 have hy:=h.y
 have i1:Bd (ck l) 49:=inferInstanceAs (Bd (l.1*l.1+l.2.1*l.2.1) _)
 have i2:Bd (vlL l c.1 c.2.1) 97:=inferInstanceAs (Bd (l.1*c.1+l.2.1*c.2.1-l.2.2) _)
 have i3:Bd (c.1-vlL l c.1 c.2.1/ck l*l.1) _:=inferInstance
 have i4:Bd (c.2.1-vlL l c.1 c.2.1/ck l*l.2.1) _:=inferInstance
 have i5:Bd (l.2.1/ck l) _:=inferInstance
 have i6:Bd (l.1/ck l) _:=inferInstance
 exact⟨i3.mono (by decide),i4.mono (by decide),i5.mono (by decide),i6.mono (by decide)⟩
end
end
end Go.Proofs.YtnkndpoojnflmaaGreat
end
