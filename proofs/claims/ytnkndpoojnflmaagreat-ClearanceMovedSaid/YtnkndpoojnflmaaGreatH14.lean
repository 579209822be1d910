/- Lines and circles: the program's contracts. -/
import Derived.Test.YtnkndpoojnflmaaGreatH12
import Derived.Test.YtnkndpoojnflmaaGreatH13
import Derived.Test.YtnkndpoojnflmaaGreatH10
import Derived.Test.YtnkndpoojnflmaaGreatH11
noncomputable section
namespace Go.Proofs.YtnkndpoojnflmaaGreat
open Go.RowKit Go.IntKind
theorem amZ:type_of% @List.not_mem_nil:=@List.not_mem_nil
theorem aob:type_of% @or_false:=@or_false
def zL:List En:=[⟨99,iA,eW⟩,⟨108,gO,eM⟩,⟨107,iO,fk⟩,⟨106,ie,fc⟩,⟨109,kG,gD⟩,⟨41,fC,dQ⟩,⟨73,lY,iu⟩,⟨305,xE,th⟩,enT DN,enL Qg,enL Pc,enL NA,enL PV,enL Jf,enL LN,enL Zt]
def Zk(l:BO3)(p:BP)(_k:KT):Option (List RV):=let y1:=bG (dec (p.1,(p.2.1,p.2.2.2.2)));let y2:=hid ((bG (dec p.2.2)).1);let y3:=jN (ah l.1) (hid (y1.1)) (y1.2);let y4:=jN (ah l.2.1) y2 ((bG (dec p.2.2)).2);let y5:=dJ (hid (y3.1)) (hid (y4.1));let y6:=hid ((frF (ah l.2.2)).1);let y7:=dJ (hid (y5.1)) (hid (mA y6));og (decide (ok Rt 100000 (p.1,(p.2.1,p.2.2.2.2)))) (og (decide (ok Rat 100000 l.1∧prI (hid (y1.1)))) (og (decide (ok Rt 100000 p.2.2)) (og (decide (ok Rat 100000 l.2.1∧prI y2)) (og (decide (ok Rat 200000 l.2.2)) (match !(y3.2)with|true=>some [RV.d aoX 0,RV.d .bool false]|false=>(match !(y4.2)with|true=>some [RV.d aoX 0,RV.d .bool false]|false=>(match !((frF (ah l.2.2)).2)with|true=>some [RV.d aoX 0,RV.d .bool false]|false=>(og (decide (prI (hid (y3.1))∧prI (hid (y4.1)))) (match !(y5.2)with|true=>some [RV.d aoX 0,RV.d .bool false]|false=>(og (decide (prI y6)) (og (decide (prI (hid (y5.1))∧prI (hid (mA y6)))) (match !(y7.2)with|true=>some [RV.d aoX 0,RV.d .bool false]|false=>some [RV.d aoX ((sgF (hid (y7.1))).1),RV.d .bool ((sgF (hid (y7.1))).2)]))))))))))))
def ahx:Cn 344 [tO,tP]:=cn fun(l:BO3) (p:BP)=>lf (ok Ln 300 l∧ok Pt 4000 p) [.d aoX ((yf (dec l) (dec p)).1),.d .bool ((yf (dec l) (dec p)).2)] fun h=>by
 refine aA zL (Zk l p) ⟨0,?_⟩
 obtain⟨hl,hp⟩:=h
 obtain⟨l,rfl,bl⟩:=aB hl
 obtain⟨p,rfl,bp⟩:=aB hp
 have dx:(dec ((am p.1,am p.2.1,am p.2.2.2.2):BO3):Rt)=pxR p:=az (pxR p)
 have dy:(dec ((am p.2.2.1,am p.2.2.2.1,am p.2.2.2.2):BO3):Rt)=pyR p:=az (pyR p)
 have dy':(dec (enc p.2.2:BO3):Rt)=pyR p:=az (pyR p)
 have px:Bd (pxR p) 4000:=(inferInstance:Bd ((p.1,p.2.1,p.2.2.2.2):Rt) _).mono (by decide)
 have py:Bd (pyR p) 4000:=(inferInstance:Bd ((p.2.2.1,p.2.2.2.1,p.2.2.2.2):Rt) _).mono (by decide)
 have ox:decide (ok Rt 100000 ((am p.1,am p.2.1,am p.2.2.2.2):BO3))=true:=okd (x:=pxR p) (by decide) (by decide)
 have oy:decide (ok Rt 100000 (enc p.2.2:BO3))=true:=okd (x:=pyR p) (by decide) (by decide)
 have pr:∀r,prI (bG r).1:=xm
 have pt:∀n a k,prI (jN n a k).1:=S7
 have pf:∀q,prI (frF q).1:=RE.frF_pr
 unfold Zk
 simp only[aS,Nat.reduceLeDiff,dx,dy',ox,oy,dT (pr _),dT (pt _ _ _),dT (pf _),dT (RE.addF_pr (pt _ _ _) (pt _ _ _)),dT (RE.negF_pr (pf _))]
 unfold yf
 generalize bG (pxR p)=X
 generalize bG (pyR p)=Y
 generalize jN l.1 X.1 X.2=U
 generalize jN l.2.1 Y.1 Y.2=V
 generalize frF l.2.2=W
 generalize dJ U.1 V.1=S
 generalize dJ S.1 (mA W.1)=D
 generalize sgF D.1=Z
 obtain⟨_,u⟩:=U
 obtain⟨_,v⟩:=V
 obtain⟨_,w⟩:=W
 obtain⟨_,s⟩:=S
 obtain⟨_,d⟩:=D
 cases u<;>cases v<;>cases w<;>try rfl
 cases s<;>cases d<;>rfl
def Z9:Cn 223 [tR,tR]:=cn fun(a b:BR)=>lf (okR a∧okR b) [.d tR (am (ah a+ah b))] fun h=>jL [RV.d tR (hAd a b)] (du zL) h
def ZD:Cn 222 [tR,tR]:=cn fun(a b:BR)=>lf (okR a∧okR b) [.d tR (am (ah a-ah b))] fun h=>jL [RV.d tR (hSu a b)] (du zL) h
def YF:Cn 224 [tR,tR]:=cn fun(a b:BR)=>lf (okR a∧okR b) [.d tR (am (ah a*ah b))] fun h=>jL [RV.d tR (hMu a b)] (du zL) h
def W1(a b:BR)(_k:KT):Option (List RV):=og (decide (ij a b)) (match 0 !=0 with|true=>(og (decide (aH (0:Int))) (some [RV.d tR (hid (am ((0:Int):Rat)))]))|false=>some [RV.d tR (hDi a b)])
def afw:Cn 225 [tR,tR]:=cn fun(a b:BR)=>lf (ij a b) [.d tR (am (ah a/ah b))] fun h=>by
 refine aA zL (W1 a b) ⟨0,?_⟩
 unfold W1
 rw[dT h]
 simp only[bO]
 rfl
def Re:List En:=enT ahx::enL Z9::enL ZD::enL YF::enL afw::zL
def Ys(a b c:BR)(_k:KT):Option (List RV):=og (o1 a) (og (o1 b) (og (o1 c) (match(i64.wrap ((aG (ah b) 0)*(aG (ah c) 0)))==0 with|true=>some [RV.d aoX (aG (ah a) 0)]|false=>(match(aG (ah a) 0)==(i64.wrap ((aG (ah b) 0)*(aG (ah c) 0)))with|true=>some [RV.d aoX (aG (ah a) 0)]|false=>(match(aG (ah a) 0)==0 with|true=>some [RV.d aoX (i64.wrap ((aG (ah b) 0)*(aG (ah c) 0)))]|false=>(og (o2 a a) (og (o2 b b) (og (o2 (hMu b b) c) (og (o2 (hMu a a) (hMu (hMu b b) c)) (some [RV.d aoX (i64.wrap ((aG (ah a) 0)*(aG (ah (hMu a a)) (ah (hMu (hMu b b) c)))))]))))))))))
def afQ:Cn 343 [tR,tR,tR]:=cn fun(a b c:BR)=>lf (ok Rat 240000 a∧ok Rat 170000 b∧ok Rat 30000 c) [.d aoX (gz (ah a) (ah b) (ah c))] fun h=>by
 refine aA Re (Ys a b c) ⟨0,?_⟩
 obtain⟨ha,hb,hc⟩:=h
 obtain⟨a,rfl,ba⟩:=aB ha
 obtain⟨b,rfl,bb⟩:=aB hb
 obtain⟨c,rfl,bc⟩:=aB hc
 unfold Ys
 simp only[aS,Nat.reduceAdd,Nat.reduceLeDiff,qo]
 exact A5 _ _ _
def Yo(a b c f:BR)(_k:KT):Option (List RV):=og (decide (ok Rt 100000 (a,(b,c)))) (og (decide (ok Rat 200000 f)) (match !((bG (dec (a,(b,c)))).2)with|true=>some [RV.d tG (0,0),RV.d .bool false]|false=>(match !((frF (ah f)).2)with|true=>some [RV.d tG (0,0),RV.d .bool false]|false=>(og (decide (prI (hid ((frF (ah f)).1)))) (og (decide (prI (hid ((bG (dec (a,(b,c)))).1))∧prI (hid (mA (hid ((frF (ah f)).1)))))) (some [RV.d tG (hid ((dJ (hid ((bG (dec (a,(b,c)))).1)) (hid (mA (hid ((frF (ah f)).1))))).1)),RV.d .bool ((dJ (hid ((bG (dec (a,(b,c)))).1)) (hid (mA (hid ((frF (ah f)).1))))).2)]))))))
def ag1:Cn 361 [tR,tR,tR,tR]:=cn fun(a b c f:BR)=>lf (ok Rat 100000 a∧ok Rat 100000 b∧ok Rat 100000 c∧ok Rat 100000 f) [.d tG ((ff (ah a,ah b,ah c) (ah f)).1),.d .bool ((ff (ah a,ah b,ah c) (ah f)).2)] fun h=>by
 refine aA Re (Yo a b c f) ⟨0,?_⟩
 obtain⟨ha,hb,hc,hf⟩:=h
 obtain⟨a,rfl,ba⟩:=aB ha
 obtain⟨b,rfl,bb⟩:=aB hb
 obtain⟨c,rfl,bc⟩:=aB hc
 obtain⟨f,rfl,bf⟩:=aB hf
 have dr:(dec ((am a,am b,am c):BO3):Rt)=(a,b,c):=az ((a,b,c):Rt)
 have orr:decide (ok Rt 100000 ((am a,am b,am c):BO3))=true:=okd (x:=((a,b,c):Rt)) (by decide) (by decide)
 unfold Yo
 simp only[aS,Nat.reduceLeDiff,dr,orr,dT (RE.frF_pr _),dT (RE.negF_pr (RE.frF_pr _)),dT (xm _)]
 unfold ff
 generalize bG (a,b,c)=X
 generalize frF f=Y
 obtain⟨_,x⟩:=X
 obtain⟨_,y⟩:=Y
 cases x<;>cases y<;>rfl
def Lh:List En:=enT afQ::enL ag1::Re
def WD(c:BO3)(p:BP)(_k:KT):Option (List RV):=let y1:=ff (ah p.1,ah p.2.1,ah p.2.2.2.2) (ah c.1);let y2:=ff (ah p.2.2.1,ah p.2.2.2.1,ah p.2.2.2.2) (ah c.2.1);let y3:=cH (hid (y1.1)) (hid (y1.1));let y4:=cH (hid (y2.1)) (hid (y2.1));let y5:=dJ (hid (y3.1)) (hid (y4.1));let y6:=hid ((frF (ah c.2.2)).1);let y7:=dJ (hid (y5.1)) (hid (mA y6));og (decide (ok Rat 100000 p.1∧ok Rat 100000 p.2.1∧ok Rat 100000 p.2.2.2.2∧ok Rat 100000 c.1)) (og (decide (ok Rat 100000 p.2.2.1∧ok Rat 100000 p.2.2.2.1∧ok Rat 100000 p.2.2.2.2∧ok Rat 100000 c.2.1)) (og (decide (ok Rat 200000 c.2.2)) (match !(y1.2)with|true=>some [RV.d aoX 0,RV.d .bool false]|false=>(match !(y2.2)with|true=>some [RV.d aoX 0,RV.d .bool false]|false=>(match !((frF (ah c.2.2)).2)with|true=>some [RV.d aoX 0,RV.d .bool false]|false=>(og (decide (prI (hid (y1.1))∧prI (hid (y1.1)))) (og (decide (prI (hid (y2.1))∧prI (hid (y2.1)))) (match !(y3.2)with|true=>some [RV.d aoX 0,RV.d .bool false]|false=>(match !(y4.2)with|true=>some [RV.d aoX 0,RV.d .bool false]|false=>(og (decide (prI (hid (y3.1))∧prI (hid (y4.1)))) (match !(y5.2)with|true=>some [RV.d aoX 0,RV.d .bool false]|false=>(og (decide (prI y6)) (og (decide (prI (hid (y5.1))∧prI (hid (mA y6)))) (match !(y7.2)with|true=>some [RV.d aoX 0,RV.d .bool false]|false=>some [RV.d aoX ((sgF (hid (y7.1))).1),RV.d .bool ((sgF (hid (y7.1))).2)]))))))))))))))
def aiV:Cn 342 [tO,tP]:=cn fun(c:BO3) (p:BP)=>lf (ok Ln 300 c∧ok Pt 4000 p) [.d aoX ((t5 (dec c) (dec p)).1),.d .bool ((t5 (dec c) (dec p)).2)] fun h=>by
 refine aA Lh (WD c p) ⟨0,?_⟩
 obtain⟨hc,hp⟩:=h
 obtain⟨c,rfl,bc⟩:=aB hc
 obtain⟨p,rfl,bp⟩:=aB hp
 have pd:∀r q,prI (ff r q).1:=T8
 have pf:∀q,prI (frF q).1:=RE.frF_pr
 have pm:∀a b,prI (cH a b).1:=r7
 have dx:ff (p.1,p.2.1,p.2.2.2.2) c.1=ff (pxR p) c.1:=rfl
 have dy:ff (p.2.2.1,p.2.2.2.1,p.2.2.2.2) c.2.1=ff (pyR p) c.2.1:=rfl
 unfold WD
 simp only[aS,Nat.reduceLeDiff,dx,dy,dT (pd _ _),dT (pm _ _),dT (pf _),dT (RE.negF_pr (pf _)),dT (RE.addF_pr (pm _ _) (pm _ _))]
 unfold t5
 generalize ff (pxR p) c.1=X
 generalize ff (pyR p) c.2.1=Y
 generalize frF c.2.2=W
 generalize cH X.1 X.1=U
 generalize cH Y.1 Y.1=V
 generalize dJ U.1 V.1=S
 generalize dJ S.1 (mA W.1)=D
 generalize sgF D.1=Z
 obtain⟨_,x⟩:=X
 obtain⟨_,y⟩:=Y
 obtain⟨_,w⟩:=W
 obtain⟨_,u⟩:=U
 obtain⟨_,v⟩:=V
 obtain⟨_,s⟩:=S
 obtain⟨_,d⟩:=D
 cases x<;>cases y<;>cases w<;>try rfl
 cases u<;>cases v<;>try rfl
 cases s<;>cases d<;>rfl
def Xl(l:BO3)(p:BP)(_k:KT):Option (List RV):=og (decide (ok Ln 300 l∧ok Pt 4000 p)) (match(yf (dec l) (dec p)).2 with|true=>some [RV.d aoX ((yf (dec l) (dec p)).1)]|false=>(og (o2 l.1 p.1) (og (o2 l.2.1 p.2.2.1) (og (o2 (hMu l.1 p.1) (hMu l.2.1 p.2.2.1)) (og (o2 (hAd (hMu l.1 p.1) (hMu l.2.1 p.2.2.1)) l.2.2) (og (o2 l.1 p.2.1) (og (o2 l.2.1 p.2.2.2.1) (og (o2 (hMu l.1 p.2.1) (hMu l.2.1 p.2.2.2.1)) (og (decide (ok Rat 240000 (hSu (hAd (hMu l.1 p.1) (hMu l.2.1 p.2.2.1)) l.2.2)∧ok Rat 170000 (hAd (hMu l.1 p.2.1) (hMu l.2.1 p.2.2.2.1))∧ok Rat 30000 p.2.2.2.2)) (some [RV.d aoX (gz (ah (hSu (hAd (hMu l.1 p.1) (hMu l.2.1 p.2.2.1)) l.2.2)) (ah (hAd (hMu l.1 p.2.1) (hMu l.2.1 p.2.2.2.1))) (ah p.2.2.2.2))]))))))))))
def ahz:Cn 308 [tO,tP]:=cn fun(l:BO3) (p:BP)=>lf (ok Ln 300 l∧okP 4000 p) [.d aoX (rX (dec l) (dec p))] fun h=>by
 refine aA Lh (Xl l p) ⟨0,?_⟩
 obtain⟨hl,hp⟩:=h
 obtain⟨l,rfl,bl⟩:=aB hl
 obtain⟨p,rfl,bp,rp⟩:=a9 hp
 unfold Xl
 simp only[aS,Nat.reduceAdd,Nat.reduceLeDiff]
 cases hq:(yf l p).2
 ·rfl
 ·rw[RE.sidL_ok l hq]
def Wa:List En:=enT aiV::Lh
def Yf(c:BO3)(p:BP)(_k:KT):Option (List RV):=og (decide (ok Ln 300 c∧ok Pt 4000 p)) (match(t5 (dec c) (dec p)).2 with|true=>some [RV.d aoX (i64.wrap (0-((t5 (dec c) (dec p)).1)))]|false=>(og (o2 p.1 c.1) (og (o2 p.2.2.1 c.2.1) (og (o2 (hSu p.1 c.1) (hSu p.1 c.1)) (og (o2 (hSu p.2.2.1 c.2.1) (hSu p.2.2.1 c.2.1)) (og (o2 (hMu (hSu p.1 c.1) (hSu p.1 c.1)) (hMu (hSu p.2.2.1 c.2.1) (hSu p.2.2.1 c.2.1))) (og (o2 p.2.1 p.2.1) (og (o2 p.2.2.2.1 p.2.2.2.1) (og (o2 (hMu p.2.1 p.2.1) (hMu p.2.2.2.1 p.2.2.2.1)) (og (o2 p.2.2.2.2 (hAd (hMu p.2.1 p.2.1) (hMu p.2.2.2.1 p.2.2.2.1))) (og (o2 (hAd (hMu (hSu p.1 c.1) (hSu p.1 c.1)) (hMu (hSu p.2.2.1 c.2.1) (hSu p.2.2.1 c.2.1))) (hMu p.2.2.2.2 (hAd (hMu p.2.1 p.2.1) (hMu p.2.2.2.1 p.2.2.2.1)))) (og (o2 (hSu p.1 c.1) p.2.1) (og (o2 (hSu p.2.2.1 c.2.1) p.2.2.2.1) (og (o2 (hMu (hSu p.1 c.1) p.2.1) (hMu (hSu p.2.2.1 c.2.1) p.2.2.2.1)) (og (o2 (hAd (hAd (hMu (hSu p.1 c.1) (hSu p.1 c.1)) (hMu (hSu p.2.2.1 c.2.1) (hSu p.2.2.1 c.2.1))) (hMu p.2.2.2.2 (hAd (hMu p.2.1 p.2.1) (hMu p.2.2.2.1 p.2.2.2.1)))) c.2.2) (og (o2 (hAd (hMu (hSu p.1 c.1) p.2.1) (hMu (hSu p.2.2.1 c.2.1) p.2.2.2.1)) (hAd (hMu (hSu p.1 c.1) p.2.1) (hMu (hSu p.2.2.1 c.2.1) p.2.2.2.1))) (og (decide (ok Rat 240000 (hSu (hAd (hAd (hMu (hSu p.1 c.1) (hSu p.1 c.1)) (hMu (hSu p.2.2.1 c.2.1) (hSu p.2.2.1 c.2.1))) (hMu p.2.2.2.2 (hAd (hMu p.2.1 p.2.1) (hMu p.2.2.2.1 p.2.2.2.1)))) c.2.2)∧ok Rat 170000 (hAd (hAd (hMu (hSu p.1 c.1) p.2.1) (hMu (hSu p.2.2.1 c.2.1) p.2.2.2.1)) (hAd (hMu (hSu p.1 c.1) p.2.1) (hMu (hSu p.2.2.1 c.2.1) p.2.2.2.1)))∧ok Rat 30000 p.2.2.2.2)) (some [RV.d aoX (i64.wrap (0-(gz (ah (hSu (hAd (hAd (hMu (hSu p.1 c.1) (hSu p.1 c.1)) (hMu (hSu p.2.2.1 c.2.1) (hSu p.2.2.1 c.2.1))) (hMu p.2.2.2.2 (hAd (hMu p.2.1 p.2.1) (hMu p.2.2.2.1 p.2.2.2.1)))) c.2.2)) (ah (hAd (hAd (hMu (hSu p.1 c.1) p.2.1) (hMu (hSu p.2.2.1 c.2.1) p.2.2.2.1)) (hAd (hMu (hSu p.1 c.1) p.2.1) (hMu (hSu p.2.2.1 c.2.1) p.2.2.2.1)))) (ah p.2.2.2.2))))]))))))))))))))))))
def agn:Cn 307 [tO,tP]:=cn fun(c:BO3) (p:BP)=>lf (ok Ln 300 c∧okP 4000 p) [.d aoX (oC (dec c) (dec p))] fun h=>by
 refine aA Wa (Yf c p) ⟨0,?_⟩
 obtain⟨hc,hp⟩:=h
 obtain⟨c,rfl,bc⟩:=aB hc
 obtain⟨p,rfl,bp,rp⟩:=a9 hp
 have sb:=lQ (sqA p (ctr c)-c.2.2) (sqB p (ctr c)) p.2.2.2.2
 unfold Yf
 simp only[aS,Nat.reduceAdd,Nat.reduceLeDiff]
 cases hq:(t5 c p).2
 ·unfold oC sqA sqB ctr at*
  dsimp only at sb ⊢
  rw[show(p.2.2.2.2*(p.2.1*p.2.1+p.2.2.2.1*p.2.2.2.1))=(p.2.1*p.2.1+p.2.2.2.1*p.2.2.2.1)*p.2.2.2.2 by grind]
  rw[aT (by omega) (by omega),anD]
 ·have hb: -1≤(t5 c p).1∧(t5 c p).1≤1:=by
   have:=RE.insC_ok c hq
   unfold oC at this
   omega
  dsimp only
  rw[aT (by omega) (by omega),anD,RE.insC_ok c hq]
def ZX(l:BO3)(v:BV)(_k:KT):Option (List RV):=og (o2 l.1 v.1) (og (o2 l.2.1 v.2) (og (o2 (hMu l.1 v.1) (hMu l.2.1 v.2)) (og (o2 (hAd (hMu l.1 v.1) (hMu l.2.1 v.2)) l.2.2) (og (o2 l.1 l.1) (og (o2 l.2.1 l.2.1) (og (o2 (hMu l.1 l.1) (hMu l.2.1 l.2.1)) (og (decide (ij (hSu (hAd (hMu l.1 v.1) (hMu l.2.1 v.2)) l.2.2) (hAd (hMu l.1 l.1) (hMu l.2.1 l.2.1)))) (og (o2 (hDi (hSu (hAd (hMu l.1 v.1) (hMu l.2.1 v.2)) l.2.2) (hAd (hMu l.1 l.1) (hMu l.2.1 l.2.1))) l.1) (og (o2 v.1 (hMu (hDi (hSu (hAd (hMu l.1 v.1) (hMu l.2.1 v.2)) l.2.2) (hAd (hMu l.1 l.1) (hMu l.2.1 l.2.1))) l.1)) (og (o2 (hDi (hSu (hAd (hMu l.1 v.1) (hMu l.2.1 v.2)) l.2.2) (hAd (hMu l.1 l.1) (hMu l.2.1 l.2.1))) l.2.1) (og (o2 v.2 (hMu (hDi (hSu (hAd (hMu l.1 v.1) (hMu l.2.1 v.2)) l.2.2) (hAd (hMu l.1 l.1) (hMu l.2.1 l.2.1))) l.2.1)) (some [RV.d tV (hSu v.1 (hMu (hDi (hSu (hAd (hMu l.1 v.1) (hMu l.2.1 v.2)) l.2.2) (hAd (hMu l.1 l.1) (hMu l.2.1 l.2.1))) l.1),hSu v.2 (hMu (hDi (hSu (hAd (hMu l.1 v.1) (hMu l.2.1 v.2)) l.2.2) (hAd (hMu l.1 l.1) (hMu l.2.1 l.2.1))) l.2.1))]))))))))))))
def N9:Cn 113 [tO,tV]:=cn fun(l:BO3) (v:BV)=>lf (ok Ln 300 l∧ok (Rat×Rat) 200 v∧((dec l:Ln).1≠0∨(dec l:Ln).2.1≠0)) [.d tV (enc (dV (dec l) (dec v)))] fun h=>by
 refine aA Wa (ZX l v) ⟨0,?_⟩
 obtain⟨hl,hv,h0⟩:=h
 obtain⟨l,rfl,bl⟩:=aB hl
 obtain⟨v,rfl,bv⟩:=aB hv
 have hn:l.1*l.1+l.2.1*l.2.1≠0:=j8 (by rw[az]at h0;exact h0)
 unfold ZX
 simp only[aS,Nat.reduceAdd,Nat.reduceLeDiff,hn,ne_eq,ana]
 rfl
theorem TE(n:Int):(if(if n>(-1)then n else(-1))<1 then(if n>(-1)then n else(-1))else 1)=jW n:=by
 unfold jW
 split<;>split<;>(try split)<;>(try split)<;>omega
def yu:List En:=[enT Ef,enT LC,enL aeB,enL ahJ,enT QP,enT ahz,enT agn]
def ZG(c:BCU)(p:BP)(_k:KT):Option (List RV):=match c.1 with|true=>(og (decide (ok Ln 300 c.2.2.1∧okP 4000 p)) (some [RV.d .bool ((oC (dec c.2.2.1) (dec p))==0)]))|false=>(og (decide (ok Ln 300 c.2.1∧okP 4000 p)) (some [RV.d .bool ((rX (dec c.2.1) (dec p))==0)]))
def agh:Cn 226 [tCU,tP]:=cn fun(c:BCU) (p:BP)=>lf (okC 4000 c∧okP 4000 p) [.d .bool (ge (dC c) (dec p))] fun h=>by
 refine aA yu (ZG c p) ⟨0,?_⟩
 obtain⟨hc,hp⟩:=h
 have op:decide (okP 4000 p)=true:=alF hp
 obtain⟨ar,li,ci,cw,fr,to⟩:=c
 obtain⟨c1,c2,_⟩:=hc
 unfold ZG
 cases ar
 ·have e:=(c2 rfl).1
  simp only[anG,dT e,op,anc]
  rfl
 ·have e:=(c1 rfl).1
  simp only[anG,dT e,op,anc]
  rfl
def Zv(c:BO3)(p:BP)(_k:KT):Option (List RV):=og (decide (okP 4000 p)) (og (decide (okT 15000 (hid (enc (yP (dec p))))∧ok Rat 15000 c.2.1)) (match decide ((fN (dec (hid (enc (yP (dec p))))) (ah c.2.1))>0)with|true=>some [RV.d aoX 0]|false=>(match(fN (dec (hid (enc (yP (dec p))))) (ah c.2.1))==0 with|true=>(og (decide (okP 4000 p)) (og (decide (okT 15000 (hid (enc (xP (dec p))))∧ok Rat 15000 c.1)) (match decide ((fN (dec (hid (enc (xP (dec p))))) (ah c.1))>0)with|true=>some [RV.d aoX 0]|false=>some [RV.d aoX 1])))|false=>some [RV.d aoX 1])))
def agd:Cn 327 [tO,tP]:=cn fun(c:BO3) (p:BP)=>lf (ok Ln 300 c∧okP 4000 p) [.d aoX (C8 (dec c) (dec p))] fun h=>by
 refine aA yu (Zv c p) ⟨0,?_⟩
 obtain⟨hc,hp⟩:=h
 obtain⟨c,rfl,bc⟩:=aB hc
 obtain⟨p,rfl,bp,rp⟩:=a9 hp
 unfold Zv C8 upR
 simp only[aS,Nat.reduceLeDiff,aM,aJ]
 cases decide (fN (yP p) c.2.1>0)<;>cases fN (yP p) c.2.1==0<;>cases decide (fN (xP p) c.1>0)<;>rfl
def ah5:Ctx:=CX (ens yu) []
def Zd(n:Int)(_k:KT):Option (List RV):=some [RV.d aoX (if(if n>(-1)then n else(-1))<1 then(if n>(-1)then n else(-1))else 1)]
theorem ag6(n:Int):RS ah5 286 [SI n] (Zd n):=rsX
def aio:Cn 286 [aoX]:=cn fun(n:Int)=>lf True [.d aoX (jW n)] fun _=>by
 refine cZ yu (ag6 _ ⟨0,?_⟩)
 unfold Zd
 rw[TE]
def ae8:Ctx:=CX (ens yu) []
def agF(c:BCU)(_k:KT):Option (List RV):=match c.1 with|true=>some [RV.d tCU (c.1,(c.2.1,(c.2.2.1,(!c.2.2.2.1,(c.2.2.2.2.2,c.2.2.2.2.1)))))]|false=>some [RV.d tCU (c.1,(c.2.1,(c.2.2.1,(false,(c.2.2.2.2.2,c.2.2.2.2.1)))))]
theorem agY(c:BCU):RS ae8 284 [.d tCU c] (agF c):=rsX
def aft:Cn 284 [tCU]:=cn fun(c:BCU)=>lf True [.d tCU (tC c)] fun _=>by
 refine cZ yu (agY _ ⟨0,?_⟩)
 obtain⟨ar,li,ci,cw,fr,to⟩:=c
 cases ar<;>rfl
def If:List En:=enT agh::enT agd::enT aio::enL aft::yu
def XC(c:BO3)(p q:BP)(_k:KT):Option (List RV):=og (decide (ok Ln 300 c∧okP 4000 p)) (og (decide (ok Ln 300 c∧okP 4000 q)) (match(C8 (dec c) (dec p)) !=(C8 (dec c) (dec q))with|true=>some [RV.d aoX (i64.wrap ((C8 (dec c) (dec p))-(C8 (dec c) (dec q))))]|false=>(og (decide (okP 4000 p)) (og (decide (okP 4000 q)) (og (decide (okT 15000 (hid (enc (xP (dec p))))∧okT 15000 (hid (enc (xP (dec q)))))) (match(C8 (dec c) (dec p))==0 with|true=>some [RV.d aoX (i64.wrap (0-(a8 (dec (hid (enc (xP (dec p))))) (dec (hid (enc (xP (dec q))))))))]|false=>some [RV.d aoX (a8 (dec (hid (enc (xP (dec p))))) (dec (hid (enc (xP (dec q))))))]))))))
def afc:Cn 287 [tO,tP,tP]:=cn fun(c:BO3) (p q:BP)=>lf (ok Ln 300 c∧okP 4000 p∧okP 4000 q) [.d aoX (rj a8 (ptd (dec c) (dec p)) (ptd (dec c) (dec q)))] fun h=>by
 refine aA If (XC c p q) ⟨0,?_⟩
 obtain⟨hc,hp,hq⟩:=h
 obtain⟨c,rfl,bc⟩:=aB hc
 obtain⟨p,rfl,bp,rp⟩:=a9 hp
 obtain⟨q,rfl,bq,rq⟩:=a9 hq
 have xb:=wd (xP p) (xP q)
 unfold XC
 simp only[aS,Nat.reduceLeDiff,aM,aJ,aT (x:= -a8 (xP p) (xP q)) (by omega) (by omega),anD]
 unfold rj C8 ptd
 cases upR c p<;>cases upR c q<;>rfl
def aip:Ctx:=CX (ens If) []
def XS(c:BCU)(_k:KT):Option (List RV):=match c.2.2.2.1 with|true=>some [RV.d tCU (hid (tC c))]|false=>some [RV.d tCU c]
theorem ahW(c:BCU):RS aip 190 [.d tCU c] (XS c):=rsX
def Wj:Cn 190 [tCU]:=cn fun(c:BCU)=>lf True [.d tCU (dU c)] fun _=>by
 refine cZ If (ahW _ ⟨0,?_⟩)
 obtain⟨ar,li,ci,cw,fr,to⟩:=c
 unfold XS dU
 cases cw
 ·rfl
 ·simp only[bO];rfl
def Xu:List En:=enT afc::enL Wj::If
def Zo(c:BO3)(f p:BP)(_k:KT):Option (List RV):=og (decide (ok Ln 300 c∧okP 4000 p∧okP 4000 f)) (match(rj a8 (ptd (dec c) (dec p)) (ptd (dec c) (dec f)))==0 with|true=>some [RV.d aoX 0]|false=>(match decide ((rj a8 (ptd (dec c) (dec p)) (ptd (dec c) (dec f)))>0)with|true=>some [RV.d aoX 1]|false=>some [RV.d aoX 2]))
def aiY:Cn 285 [tO,tP,tP]:=cn fun(c:BO3) (f p:BP)=>lf (ok Ln 300 c∧okP 4000 f∧okP 4000 p) [.d aoX (ow a8 (ptd (dec c) (dec f)) (ptd (dec c) (dec p)))] fun h=>by
 refine aA Xu (Zo c f p) ⟨0,?_⟩
 obtain⟨hc,hf,hp⟩:=h
 unfold Zo ow
 rw[dT ⟨hc,hp,hf⟩]
 cases rj a8 (ptd (dec c) (dec p)) (ptd (dec c) (dec f))==0<;>cases decide (rj a8 (ptd (dec c) (dec p)) (ptd (dec c) (dec f))>0)<;>rfl
def Z3:List En:=enT aiY::Xu
def Y0(c:BO3)(f p q:BP)(_k:KT):Option (List RV):=og (decide (ok Ln 300 c∧okP 4000 f∧okP 4000 p)) (og (decide (ok Ln 300 c∧okP 4000 f∧okP 4000 q)) (match(ow a8 (ptd (dec c) (dec f)) (ptd (dec c) (dec p))) !=(ow a8 (ptd (dec c) (dec f)) (ptd (dec c) (dec q)))with|true=>some [RV.d aoX (jW (i64.wrap ((ow a8 (ptd (dec c) (dec f)) (ptd (dec c) (dec p)))-(ow a8 (ptd (dec c) (dec f)) (ptd (dec c) (dec q))))))]|false=>(og (decide (ok Ln 300 c∧okP 4000 p∧okP 4000 q)) (some [RV.d aoX (jW (rj a8 (ptd (dec c) (dec p)) (ptd (dec c) (dec q))))]))))
def R6:Cn 191 [tO,tP,tP,tP]:=cn fun(c:BO3) (f p q:BP)=>lf (ok Ln 300 c∧okP 4000 f∧okP 4000 p∧okP 4000 q) [.d aoX (gC a8 (ptd (dec c) (dec f)) (ptd (dec c) (dec p)) (ptd (dec c) (dec q)))] fun h=>by
 refine aA Z3 (Y0 c f p q) ⟨0,?_⟩
 obtain⟨hc,hf,hp,hq⟩:=h
 unfold Y0 gC bne
 have b1:=HL (p:=ptd (dec c) (dec f)) (q:=ptd (dec c) (dec p))
 have b2:=HL (p:=ptd (dec c) (dec f)) (q:=ptd (dec c) (dec q))
 rw[dT ⟨hc,hf,hp⟩,dT ⟨hc,hf,hq⟩,dT ⟨hc,hp,hq⟩,aT (by omega) (by omega)]
 cases ow a8 (ptd (dec c) (dec f)) (ptd (dec c) (dec p))==ow a8 (ptd (dec c) (dec f)) (ptd (dec c) (dec q))<;>rfl
def aac:List En:=enT R6::Z3
def ZW(c:BCU)(p:BP)(_k:KT):Option (List RV):=match !c.1 with|true=>(og (decide (okP 4000 c.2.2.2.2.1∧okP 4000 p)) (og (decide (okP 4000 p∧okP 4000 c.2.2.2.2.2)) (match(aX (dec c.2.2.2.2.1) (dec p))==0 with|true=>some [RV.d .bool true]|false=>(match(aX (dec p) (dec c.2.2.2.2.2))==0 with|true=>some [RV.d .bool true]|false=>some [RV.d .bool ((aX (dec c.2.2.2.2.1) (dec p))==(aX (dec p) (dec c.2.2.2.2.2)))]))))|false=>(og (decide (ok Ln 300 ((((hid (dU c)).2).2).1)∧okP 4000 ((((((hid (dU c)).2).2).2).2).1)∧okP 4000 p∧okP 4000 ((((((hid (dU c)).2).2).2).2).2))) (some [RV.d .bool (decide ((gC a8 (ptd (dec ((((hid (dU c)).2).2).1)) (dec ((((((hid (dU c)).2).2).2).2).1))) (ptd (dec ((((hid (dU c)).2).2).1)) (dec p)) (ptd (dec ((((hid (dU c)).2).2).1)) (dec ((((((hid (dU c)).2).2).2).2).2))))≤0))]))
def Lb:Cn 89 [tCU,tP]:=cn fun(c:BCU) (p:BP)=>lf (okC 4000 c∧okP 4000 p) [.d .bool (hZ (dC c) (dec p))] fun h=>by
 refine aA aac (ZW c p) ⟨0,?_⟩
 obtain⟨hc,hp⟩:=h
 obtain⟨ar,li,ci,cw,fr,to⟩:=c
 obtain⟨c1,c2,c3,c4⟩:=hc
 unfold ZW hZ
 simp only[bO]
 cases ar
 ·try dsimp only[Bool.not_false]
  rw[dT ⟨c3,hp⟩,dT ⟨hp,c4⟩]
  show _=some [RV.d .bool (uu (aX (dec fr) (dec p)) (aX (dec p) (dec to)))]
  unfold uu
  cases aX (dec fr) (dec p)==0<;>cases aX (dec p) (dec to)==0<;>rfl
 ·have e:=(c1 rfl).1
  cases cw
  ·rw[dT (show ok Ln 300 (dU (true,li,ci,false,fr,to)).2.2.1∧okP 4000 (dU (true,li,ci,false,fr,to)).2.2.2.2.1∧okP 4000 p∧okP 4000 (dU (true,li,ci,false,fr,to)).2.2.2.2.2 from⟨e,c3,hp,c4⟩)]
   rfl
  ·rw[dT (show ok Ln 300 (dU (true,li,ci,true,fr,to)).2.2.1∧okP 4000 (dU (true,li,ci,true,fr,to)).2.2.2.2.1∧okP 4000 p∧okP 4000 (dU (true,li,ci,true,fr,to)).2.2.2.2.2 from⟨e,c4,hp,c3⟩)]
   rfl
def aeK:List En:=enT Lb::aac
def Zn(c:BCU)(p:BP)(_k:KT):Option (List RV):=og (decide (okC 4000 c∧okP 4000 p)) (match ge (dC c) (dec p)with|true=>(og (decide (okC 4000 c∧okP 4000 p)) (some [RV.d .bool (hZ (dC c) (dec p))]))|false=>some [RV.d .bool false])
def HV:Cn 114 [tCU,tP]:=cn fun(c:BCU) (p:BP)=>lf (okC 4000 c∧okP 4000 p) [.d .bool (onP (dC c) (dec p))] fun h=>by
 refine aA aeK (Zn c p) ⟨0,?_⟩
 unfold Zn onP
 rw[dT h]
 cases ge (dC c) (dec p)<;>rfl
theorem cK{j k:Nat}{x:BP}(h:okP j x)(hj:j≤k)(hk:k≤480000):okP k x:=by
 obtain⟨p,rfl,bp,rp⟩:=a9 h
 exact alI (aJ hj hk)
theorem cg{j k:Nat}{c:BCU}(h:okC j c)(hj:j≤k)(hk:k≤480000):okC k c:=⟨h.1,h.2.1,cK h.2.2.1 hj hk,cK h.2.2.2 hj hk⟩
theorem Bv{c:BCU}(hc:okC 580 c){v:Rat×Rat}[bv:Bd v 200]:Bd (me (dC c) v) 15000∧Rdd (me (dC c) v):=by
 obtain⟨ar,li,ci,cw,fr,to⟩:=c
 have h3:=hc.2.2.1
 have h4:=hc.2.2.2
 simp only at h3 h4
 obtain⟨fr,rfl,bf,rf⟩:=a9 h3
 obtain⟨to,rfl,bt,rt⟩:=a9 h4
 have he:Bd (u5 (sqP fr v) (sqP to v)) 15000:=(inferInstance:Bd (u5 (sqP fr v) (sqP to v)) _).mono (by decide)
 cases ar
 ·obtain⟨c2,c3⟩:=hc.2.1 rfl
  simp only at c2 c3
  obtain⟨li,rfl,bl⟩:=aB c2
  unfold me Cg
  simp only[dC,lnC,frC,toC,az,cond_false]
  cases rS (false,li,dec ci,cw,fr,to) (atP v)
  ·exact⟨he,Qi⟩
  ·exact⟨(inferInstance:Bd ((bI (cU v (dV li v)) (cU v (dV li v)),0,0):Rt) _).mono (by decide),adj⟩
 ·obtain⟨c1,hq⟩:=hc.1 rfl
  simp only at c1 hq
  obtain⟨ci,rfl,bc⟩:=aB c1
  rw[az]at hq
  have hC:Cir ci:=⟨hq⟩
  unfold me Cg
  simp only[dC,lnC,frC,toC,ciC,aV,az,cond_true]
  cases fe (true,dec li,ci,cw,fr,to) (cU (ctr ci) v)
  ·exact⟨he,Qi⟩
  ·have b2:Bd (-2:Rat) 3:=cQ (n:= -2) (by decide)
   exact⟨(inferInstance:Bd (mkR (bI (cU (ctr ci) v) (cU (ctr ci) v)+ci.2.2) (-2) (bI (cU (ctr ci) v) (cU (ctr ci) v)*ci.2.2)) _).mono (by decide),tW⟩
def aiZ:List En:=[enL HZ]
def YL(a b:BV)(_k:KT):Option (List RV):=og (o2 b.1 a.1) (og (o2 b.2 a.2) (some [RV.d tV (hSu b.1 a.1,hSu b.2 a.2)]))
def aev:Cn 311 [tV,tV]:=cn fun(a b:BV)=>lf (ok (Rat×Rat) 10000 a∧ok (Rat×Rat) 10000 b) [.d tV (enc (cU (dec a) (dec b)))] fun h=>by
 refine aA aiZ (YL a b) ⟨0,?_⟩
 obtain⟨ha,hb⟩:=h
 obtain⟨a,rfl,ba⟩:=aB ha
 obtain⟨b,rfl,bb⟩:=aB hb
 unfold YL
 simp only[aS,Nat.reduceLeDiff]
 try rfl
def Em:List En:=[⟨41,fC,dQ⟩,⟨109,kG,gD⟩,⟨99,iA,eW⟩,⟨108,gO,eM⟩,⟨305,xE,th⟩,⟨107,iO,fk⟩,⟨106,ie,fc⟩,enL ZT,enL zv,enL Hk,enL Yd,enL Zc,enT HV,enL N9,enT Ef,enT LC,enL Nr,enL HZ,enL L9,enL aev,enL ags,enL PS]
def WR(a b c:BR)(_k:KT):Option (List RV):=og (decide (ok Rat 100000 a∧ok Rat 100000 b∧ok Rat 100000 c∧0≤ah c)) (match 0 !=0 with|true=>(og (o1 a) (some [RV.d tO (hid (enc ((ah a,0,0):Rt)))]))|false=>some [RV.d tO (hid (enc (mkR (ah a) (ah b) (ah c))))])
def Yg:Cn 98 [tR,tR,tR]:=cn fun(a b c:BR)=>lf (ok Rat 100000 a∧ok Rat 100000 b∧ok Rat 100000 c∧0≤ah c) [.d tO (enc (mkR (ah a) (ah b) (ah c)))] fun h=>by
 refine aA Em (WR a b c) ⟨0,?_⟩
 obtain⟨ha,hb,hc,hn⟩:=h
 unfold WR
 rw[dT ⟨ha,hb,hc,hn⟩]
 simp only[bO]
 rfl
def Xx(v:BV)(_k:KT):Option (List RV):=og (o1 v.1) (match(aG (ah v.1) 0)==0 with|true=>(og (o1 v.2) (some [RV.d .bool ((aG (ah v.2) 0)==0)]))|false=>some [RV.d .bool false])
def ahO:Cn 217 [tV]:=cn fun(v:BV)=>lf (ok (Rat×Rat) 100000 v) [.d .bool (zeV (dec v))] fun h=>by
 refine aA Em (Xx v) ⟨0,?_⟩
 have hv:=h
 obtain⟨v,rfl,bv⟩:=aB hv
 unfold Xx
 simp only[aS,Nat.reduceLeDiff,aq]
 unfold zeV
 cases decide (v.1=0)<;>rfl
def agS:Ctx:=CX (ens Em) []
def aei(c:BCU)(_k:KT):Option (List RV):=some [RV.d tV (c.2.2.1.1,c.2.2.1.2.1)]
theorem ahU(c:BCU):RS agS 102 [.d tCU c] (aei c):=rsX
def Zr:Cn 102 [tCU]:=cn fun(c:BCU)=>lf True [.d tV (c.2.2.1.1,c.2.2.1.2.1)] fun _=>by
 exact cZ Em (ahU _ ⟨0,rfl⟩)
def Rq:List En:=enL Yg::enT ahO::enL Zr::Em
def W3(l:BO3)(p:BP)(_k:KT):Option (List RV):=og (o1 l.2.1) (og (o2 (hNe l.2.1) p.1) (og (o2 l.1 p.2.2.1) (og (o2 (hMu (hNe l.2.1) p.1) (hMu l.1 p.2.2.1)) (og (o2 (hNe l.2.1) p.2.1) (og (o2 l.1 p.2.2.2.1) (og (o2 (hMu (hNe l.2.1) p.2.1) (hMu l.1 p.2.2.2.1)) (og (decide (ok Rat 100000 (hAd (hMu (hNe l.2.1) p.1) (hMu l.1 p.2.2.1))∧ok Rat 100000 (hAd (hMu (hNe l.2.1) p.2.1) (hMu l.1 p.2.2.2.1))∧ok Rat 100000 p.2.2.2.2∧0≤ah p.2.2.2.2)) (some [RV.d tO (hid (enc (mkR (ah (hAd (hMu (hNe l.2.1) p.1) (hMu l.1 p.2.2.1))) (ah (hAd (hMu (hNe l.2.1) p.2.1) (hMu l.1 p.2.2.2.1))) (ah p.2.2.2.2))))]))))))))
def agv:Cn 205 [tO,tP]:=cn fun(l:BO3) (p:BP)=>lf (ok Ln 300 l∧okP 4000 p) [.d tO (enc (eP (dec l) (dec p)))] fun h=>by
 refine aA Rq (W3 l p) ⟨0,?_⟩
 obtain⟨hl,hp⟩:=h
 obtain⟨l,rfl,bl⟩:=aB hl
 obtain⟨p,rfl,bp,rp⟩:=a9 hp
 have hn:0≤p.2.2.2.2:=rp.nn
 unfold W3
 simp only[aS,Nat.reduceAdd,Nat.reduceLeDiff,dT hn]
 rfl
def W7(a b:BO3)(_k:KT):Option (List RV):=og (decide (okT 15000 b∧okT 15000 a)) (match decide ((a8 (dec b) (dec a))<0)with|true=>some [RV.d tO b]|false=>some [RV.d tO a])
def ahr:Cn 310 [tO,tO]:=cn fun(a b:BO3)=>lf (okT 15000 a∧okT 15000 b) [.d tO (enc (u5 (dec a) (dec b)))] fun h=>by
 refine aA Rq (W7 a b) ⟨0,?_⟩
 obtain⟨ha,hb⟩:=h
 obtain⟨a,rfl,ba,ra⟩:=gg ha
 obtain⟨b,rfl,bb,rb⟩:=gg hb
 unfold W7 u5
 simp only[aS,Nat.reduceLeDiff,aM]
 cases decide (a8 b a<0)<;>rfl
def OM:List En:=enL agv::enL ahr::Rq
def Zx(c:BCU)(p:BP)(_k:KT):Option (List RV):=og (decide (ok Ln 300 c.2.1∧okP 4000 p)) (og (decide (ok Ln 300 c.2.1∧okP 4000 c.2.2.2.2.1)) (og (decide (ok Ln 300 c.2.1∧okP 4000 c.2.2.2.2.2)) (og (decide (okT 15000 (hid (enc (eP (dec c.2.1) (dec c.2.2.2.2.1))))∧okT 15000 (hid (enc (eP (dec c.2.1) (dec c.2.2.2.2.2)))))) (match decide ((a8 (dec (hid (enc (eP (dec c.2.1) (dec c.2.2.2.2.1))))) (dec (hid (enc (eP (dec c.2.1) (dec c.2.2.2.2.2))))))>0)with|true=>(og (decide (okT 15000 (hid (enc (eP (dec c.2.1) (dec c.2.2.2.2.2))))∧okT 15000 (hid (enc (eP (dec c.2.1) (dec p)))))) (match decide ((a8 (dec (hid (enc (eP (dec c.2.1) (dec c.2.2.2.2.2))))) (dec (hid (enc (eP (dec c.2.1) (dec p))))))≤0)with|true=>(og (decide (okT 15000 (hid (enc (eP (dec c.2.1) (dec p))))∧okT 15000 (hid (enc (eP (dec c.2.1) (dec c.2.2.2.2.1)))))) (some [RV.d .bool (decide ((a8 (dec (hid (enc (eP (dec c.2.1) (dec p))))) (dec (hid (enc (eP (dec c.2.1) (dec c.2.2.2.2.1))))))≤0))]))|false=>some [RV.d .bool false]))|false=>(og (decide (okT 15000 (hid (enc (eP (dec c.2.1) (dec c.2.2.2.2.1))))∧okT 15000 (hid (enc (eP (dec c.2.1) (dec p)))))) (match decide ((a8 (dec (hid (enc (eP (dec c.2.1) (dec c.2.2.2.2.1))))) (dec (hid (enc (eP (dec c.2.1) (dec p))))))≤0)with|true=>(og (decide (okT 15000 (hid (enc (eP (dec c.2.1) (dec p))))∧okT 15000 (hid (enc (eP (dec c.2.1) (dec c.2.2.2.2.2)))))) (some [RV.d .bool (decide ((a8 (dec (hid (enc (eP (dec c.2.1) (dec p))))) (dec (hid (enc (eP (dec c.2.1) (dec c.2.2.2.2.2))))))≤0))]))|false=>some [RV.d .bool false]))))))
def Z7:Cn 94 [tCU,tP]:=cn fun(c:BCU) (p:BP)=>lf (okC 3000 c∧okP 3000 p∧c.1=false) [.d .bool (rS (dC c) (dec p))] fun h=>by
 refine aA OM (Zx c p) ⟨0,?_⟩
 obtain⟨hc,hp,h0⟩:=h
 obtain⟨p,rfl,bp,rp⟩:=a9 hp
 obtain⟨ar,li,ci,cw,fr,to⟩:=c
 simp only at h0
 subst h0
 obtain⟨_,c2,c3,c4⟩:=hc
 obtain⟨c2,_⟩:=c2 rfl
 simp only at c2 c3 c4
 obtain⟨li,rfl,bl⟩:=aB c2
 obtain⟨fr,rfl,bf,rf⟩:=a9 c3
 obtain⟨to,rfl,bt,rt⟩:=a9 c4
 unfold Zx rS
 simp only[dC,lnC,frC,toC,aS,Nat.reduceAdd,Nat.reduceMul,Nat.reduceLeDiff,aM,aJ]
 cases decide (a8 (eP li fr) (eP li to)>0)
 ·cases decide (a8 (eP li fr) (eP li p)≤0)<;>rfl
 ·cases decide (a8 (eP li to) (eP li p)≤0)<;>rfl
def Z1(c:BCU)(v:BV)(_k:KT):Option (List RV):=match !c.1 with|true=>some [RV.d .bool c.1]|false=>(og (decide (ok (Rat×Rat) 100000 v)) (match zeV (dec v)with|true=>some [RV.d .bool c.1]|false=>(og (decide (ok (Rat×Rat) 5000 v∧ok (Rat×Rat) 5000 v)) (og (decide (ij c.2.2.1.2.2 (hid (am (bI (dec v) (dec v)))))) (og (decide (ok Rat 100000 c.2.2.1.1∧ok Rat 100000 v.1∧ok Rat 100000 (hDi c.2.2.1.2.2 (hid (am (bI (dec v) (dec v)))))∧0≤ah (hDi c.2.2.1.2.2 (hid (am (bI (dec v) (dec v))))))) (og (decide (ok Rat 100000 c.2.2.1.2.1∧ok Rat 100000 v.2∧ok Rat 100000 (hDi c.2.2.1.2.2 (hid (am (bI (dec v) (dec v)))))∧0≤ah (hDi c.2.2.1.2.2 (hid (am (bI (dec v) (dec v))))))) (og (decide (okT 15000 (hid (enc (mkR (ah c.2.2.1.1) (ah v.1) (ah (hDi c.2.2.1.2.2 (hid (am (bI (dec v) (dec v)))))))))∧okT 15000 (hid (enc (mkR (ah c.2.2.1.2.1) (ah v.2) (ah (hDi c.2.2.1.2.2 (hid (am (bI (dec v) (dec v)))))))))∧vu (dec (hid (enc (mkR (ah c.2.2.1.1) (ah v.1) (ah (hDi c.2.2.1.2.2 (hid (am (bI (dec v) (dec v)))))))))) (dec (hid (enc (mkR (ah c.2.2.1.2.1) (ah v.2) (ah (hDi c.2.2.1.2.2 (hid (am (bI (dec v) (dec v)))))))))))) (match 0==0 with|true=>(og (decide (okC 4000 c∧okP 4000 (hid (enc (mkP (dec (hid (enc (mkR (ah c.2.2.1.1) (ah v.1) (ah (hDi c.2.2.1.2.2 (hid (am (bI (dec v) (dec v)))))))))) (dec (hid (enc (mkR (ah c.2.2.1.2.1) (ah v.2) (ah (hDi c.2.2.1.2.2 (hid (am (bI (dec v) (dec v))))))))))))))) (some [RV.d .bool (onP (dC c) (dec (hid (enc (mkP (dec (hid (enc (mkR (ah c.2.2.1.1) (ah v.1) (ah (hDi c.2.2.1.2.2 (hid (am (bI (dec v) (dec v)))))))))) (dec (hid (enc (mkR (ah c.2.2.1.2.1) (ah v.2) (ah (hDi c.2.2.1.2.2 (hid (am (bI (dec v) (dec v)))))))))))))))]))|false=>some [RV.d .bool false]))))))))
def YO:Cn 110 [tCU,tV]:=cn fun(c:BCU) (v:BV)=>lf (okC 580 c∧ok (Rat×Rat) 510 v) [.d .bool (fe (dC c) (dec v))] fun h=>by
 refine aA OM (Z1 c v) ⟨0,?_⟩
 obtain⟨hc,hv⟩:=h
 obtain⟨v,rfl,bv⟩:=aB hv
 have hc4:=cg (k:=4000) hc (by decide) (by decide)
 obtain⟨ar,li,ci,cw,fr,to⟩:=c
 cases ar
 ·rfl
 ·obtain⟨c1,_⟩:=hc.1 rfl
  have hq:=(hc.1 rfl).2
  simp only at c1 hq
  obtain⟨ci,rfl,bc⟩:=aB c1
  rw[az]at hq
  have hC:Cir ci:=⟨hq⟩
  have o4:=alF hc4
  have hn:0≤ci.2.2/bI v v:=(acC (c:=ci) (d:=v)).le
  have om:decide (vu (mkR ci.1 v.1 (ci.2.2/bI v v)) (mkR ci.2.1 v.2 (ci.2.2/bI v v)))=true:=dT (qr _ _ _ _ _)
  have ry:decide (okP 4000 (enc (mkP (mkR ci.1 v.1 (ci.2.2/bI v v)) (mkR ci.2.1 v.2 (ci.2.2/bI v v)))))=true:=aJ (x:=qD ci v) (by decide) (by decide)
  unfold Z1 fe
  simp only[aS,Nat.reduceAdd,Nat.reduceLeDiff,aM,Bool.not_true]
  cases hz:zeV v
  ·have hd:=xH hz
   simp only[aS,Nat.reduceAdd,Nat.reduceLeDiff,hd,ne_eq,ana,dT hn,om,o4,ry]
   show _=some [RV.d .bool (onP _ (qD (dec (enc ci)) v))]
   rw[az]
   rfl
  ·rfl
def Rz:List En:=enT Z7::enT YO::OM
def aaD:NT:=[((228,13),{keep:=[4,19],hl:=0}),((228,29),{keep:=[4,39],hl:=0})]
def agz:Ctx:=CX (ens Rz) aaD
def Li(c:BCU)(v:BV)(_k:KT):Option (List RV):=let y1:=hid (enc (atP (dec v)));let y2:=hid (enc (sqP (dec c.2.2.2.2.1) (dec v)));let y3:=hid (enc (sqP (dec c.2.2.2.2.2) (dec v)));let y4:Option (List RV):=match decide (okP 3500 c.2.2.2.2.1∧ok (Rat×Rat) 300 v)with|true=>(og (decide (okP 3500 c.2.2.2.2.2∧ok (Rat×Rat) 300 v)) (og (decide (okT 15000 y2∧okT 15000 y3)) (some [RV.d tO (hid (enc (u5 (dec y2) (dec y3))))])))|false=>none;let y5:=hid (enc (dV (dec c.2.1) (dec v)));let y6:=hid (enc (cU (dec v) (dec y5)));let y7:=hid (am (bI (dec y6) (dec y6)));let y8:=hid ((c.2.2.1.1,c.2.2.1.2.1));let y9:=hid (enc (cU (dec y8) (dec v)));let y10:=hid (am (bI (dec y9) (dec y9)));let y11:=hAd y10 c.2.2.1.2.2;let y12:=hid (am (((-2):Int):Rat));let y13:=hMu y10 c.2.2.1.2.2;match !c.1 with|true=>(og (decide (ok (Rat×Rat) 100000 v)) (og (decide (okC 3000 c∧okP 3000 y1∧c.1=false)) (match !(rS (dC c) (dec y1))with|true=>y4|false=>(og (decide (ok Ln 300 c.2.1∧ok (Rat×Rat) 200 v∧((dec c.2.1:Ln).1≠0∨(dec c.2.1:Ln).2.1≠0))) (og (decide (ok (Rat×Rat) 10000 v∧ok (Rat×Rat) 10000 y5)) (og (decide (ok (Rat×Rat) 5000 y6∧ok (Rat×Rat) 5000 y6)) (og (o1 y7) (some [RV.d tO (hid (enc ((ah y7,0,0):Rt)))]))))))))|false=>(og (decide (ok (Rat×Rat) 10000 y8∧ok (Rat×Rat) 10000 v)) (og (decide (okC 580 c∧ok (Rat×Rat) 510 y9)) (match !(fe (dC c) (dec y9))with|true=>y4|false=>(og (decide (ok (Rat×Rat) 5000 y9∧ok (Rat×Rat) 5000 y9)) (og (o2 y10 c.2.2.1.2.2) (og (decide (aH ((-2):Int))) (og (o2 y10 c.2.2.1.2.2) (og (decide (ok Rat 100000 y11∧ok Rat 100000 y12∧ok Rat 100000 y13∧0≤ah y13)) (some [RV.d tO (hid (enc (mkR (ah y11) (ah y12) (ah y13))))])))))))))
theorem aeT(c:BCU)(v:BV):RS agz 228 [.d tCU c,.d tV v] (Li c v):=rsX
def afY:Cn 228 [tCU,tV]:=cn fun(c:BCU) (v:BV)=>lf (okC 580 c∧ok (Rat×Rat) 200 v) [.d tO (enc (me (dC c) (dec v)))] fun h=>by
 refine cZ Rz (aeT _ _ ⟨0,?_⟩)
 obtain⟨hc,hv⟩:=h
 obtain⟨v,rfl,bv⟩:=aB hv
 have hc4:=cg (k:=3000) hc (by decide) (by decide)
 obtain⟨ar,li,ci,cw,fr,to⟩:=c
 have h3:=hc.2.2.1
 have h4:=hc.2.2.2
 simp only at h3 h4
 obtain⟨fr,rfl,bf,rf⟩:=a9 h3
 obtain⟨to,rfl,bt,rt⟩:=a9 h4
 have o4:=alF hc4
 have o5:=alF hc
 cases ar
 ·obtain⟨c2,c3⟩:=hc.2.1 rfl
  simp only at c2 c3
  obtain⟨li,rfl,bl⟩:=aB c2
  rw[az]at c3
  unfold Li me Cg
  simp only[aS,aC,Nat.reduceAdd,Nat.reduceMul,Nat.reduceLeDiff,aM,aJ,o4,c3,Bool.not_false]
  simp only[dC,lnC,frC,toC,az,cond_false]
  cases rS (false,li,dec ci,cw,fr,to) (atP v)<;>rfl
 ·obtain⟨c1,hq⟩:=hc.1 rfl
  simp only at c1 hq
  obtain⟨ci,rfl,bc⟩:=aB c1
  rw[az]at hq
  have hC:Cir ci:=⟨hq⟩
  have hn:0≤bI (cU (ctr ci) v) (cU (ctr ci) v)*ci.2.2:=(UB (c:=ci) (d:=cU (ctr ci) v)).le
  have e0:((am ci.1,am ci.2.1):BV)=enc (ctr ci):=rfl
  have h2:decide (aH (-2))=true:=by decide
  have b2:Bd ((-2:Int):Rat) 3:=cQ (by decide)
  unfold Li me Cg
  simp only[aS,Nat.reduceAdd,Nat.reduceMul,Nat.reduceLeDiff,aM,aJ,o5,e0,Bool.not_true]
  simp only[dC,lnC,frC,toC,ciC,aV,az,cond_true]
  cases fe (true,dec li,ci,cw,fr,to) (cU (ctr ci) v)
  ·rfl
  ·simp only[aS,dT hn,h2]
   rw[show((-2:Int):Rat)= -2 from rfl]
   rfl
def afG:List En:=enL afY::Rz
def XA(c:BCU)(v:BV)(r:BR)(_k:KT):Option (List RV):=og (o1 r) (match decide ((aG (ah r) 0)<0)with|true=>some [RV.d aoX 1]|false=>(og (decide (okC 580 c∧ok (Rat×Rat) 200 v)) (og (o2 r r) (og (decide (okT 15000 (hid (enc (me (dC c) (dec v))))∧ok Rat 15000 (hMu r r))) (some [RV.d aoX (fN (dec (hid (enc (me (dC c) (dec v))))) (ah (hMu r r)))])))))
def aem:Cn 116 [tCU,tV,tR]:=cn fun(c:BCU) (v:BV) (r:BR)=>lf (okC 580 c∧ok (Rat×Rat) 200 v∧ok Rat 1000 r) [.d aoX (uf (dC c) (dec v) (ah r))] fun h=>by
 refine aA afG (XA c v r) ⟨0,?_⟩
 obtain⟨hc,hv,hr⟩:=h
 obtain⟨v,rfl,bv⟩:=aB hv
 obtain⟨r,rfl,br⟩:=aB hr
 rw[eO,cA,az]
 have od:=Bv hc (v:=v)
 obtain⟨od1,od2⟩:=od
 unfold XA uf
 simp only[aS,Nat.reduceAdd,Nat.reduceLeDiff,aM,au,alF hc]
 cases decide (r<0)<;>rfl
def XK:List En:=[enT lT,enL oK,enL l7,enL ng,enL NN,enL m7,enL oH,enL F3,enL Fo,enL yk,enL E9,enL FS,enL E0,enT G7,enL Pp,enT Aq,enT AA,enL K0,enL Pq,enL Ru,enL ag5]
def abw:Ctx:=CX (ens XK) []
def abK(c:BO3)(_k:KT):Option (List RV):=some [RV.d tV (c.1,c.2.1)]
theorem ac6(c:BO3):RS abw 125 [.d tO c] (abK c):=rsX
def acK:Cn 125 [tO]:=cn fun(c:BO3)=>lf True [.d tV (c.1,c.2.1)] fun _=>by
 exact cZ XK (ac6 _ ⟨0,rfl⟩)
abbrev r00:BR:=((false,[]),(false,[]))
abbrev o00:BO3:=(r00,r00,r00)
abbrev p00:BP:=(r00,r00,r00,r00,r00)
abbrev c00:BCU:=(false,o00,o00,false,p00,p00)
def ou(a b:Rat×Rat):Ln:=(a.2-b.2,b.1-a.1,(a.2-b.2)*a.1+(b.1-a.1)*a.2)
def vG(a b:Rat×Rat):Bool:=decide (a.2-b.2=0)&&decide (b.1-a.1=0)
def Vl(a b:Rat×Rat):BO3:=bif vG a b then o00 else enc (ou a b)
def VZ(a b:Rat×Rat):Int:=bif vG a b then 6 else 0
def dR(a b c:Rat×Rat):Rat:=(b.1-a.1)*(c.2-a.2)-(b.2-a.2)*(c.1-a.1)
def ua(a b c:Rat×Rat):Rat:=(((b.1-a.1)*(b.1-a.1)+(b.2-a.2)*(b.2-a.2))*(c.2-a.2)-((c.1-a.1)*(c.1-a.1)+(c.2-a.2)*(c.2-a.2))*(b.2-a.2))/(dR a b c+dR a b c)
def uP(a b c:Rat×Rat):Rat:=(((c.1-a.1)*(c.1-a.1)+(c.2-a.2)*(c.2-a.2))*(b.1-a.1)-((b.1-a.1)*(b.1-a.1)+(b.2-a.2)*(b.2-a.2))*(c.1-a.1))/(dR a b c+dR a b c)
def oh(a b c:Rat×Rat):Ln:=(a.1+ua a b c,a.2+uP a b c,ua a b c*ua a b c+uP a b c*uP a b c)
def U1(a b c:Rat×Rat):BO3:=bif decide (dR a b c=0)then o00 else enc (oh a b c)
def UX(a b c:Rat×Rat):Int:=bif decide (dR a b c=0)then 6 else 0
def vd(a b c:Rat×Rat):Int:=aG ((b.1-a.1)*(c.2-a.2)) ((b.2-a.2)*(c.1-a.1))
def ic(a b:Rat×Rat):BCU:=bif vG a b then c00 else(false,enc (ou a b),o00,false,enc (atP a),enc (atP b))
def segE(a b:Rat×Rat):Int:=bif vG a b then 6 else 0
def jV(a b c:Rat×Rat):BCU:=bif decide (dR a b c=0)then c00 else(true,o00,enc (oh a b c),decide (vd a b c<0),enc (atP a),enc (atP c))
def arcE(a b c:Rat×Rat):Int:=bif decide (dR a b c=0)then 6 else 0
theorem aap(a b c:Rat×Rat):(vd a b c==0)=decide (dR a b c=0):=by
 unfold vd dR
 rw[aq]
 exact amc.2 (by constructor<;>intro h<;>grind)
instance akd {a b:Rat×Rat} {i j:Nat} [h:Bd a i] [h':Bd b j]:Bd (ou a b) (4*i+2*j+3):=by
 have i1:Bd ((a.2-b.2,b.1-a.1,(a.2-b.2)*a.1+(b.1-a.1)*a.2):Ln) _:=inferInstance
 exact i1.mono (cV (by omega) (cV (by omega) (by omega)))
def HN:List En:=[enT lT,enT rQ,enL oH,enL ng,enL yk,enL Gf,enL Lx,enL AP,enL NR]
def Na(a b:BV)(_k:KT):Option (List RV):=og (o2 a.2 b.2) (og (o2 b.1 a.1) (og (o1 (hSu a.2 b.2)) (match(aG (ah (hSu a.2 b.2)) 0)==0 with|true=>(og (o1 (hSu b.1 a.1)) (match(aG (ah (hSu b.1 a.1)) 0)==0 with|true=>some [RV.d tO (((false,[]),(false,[])),(((false,[]),(false,[])),((false,[]),(false,[])))),RV.d aoX 6]|false=>(og (o2 (hSu a.2 b.2) a.1) (og (o2 (hSu b.1 a.1) a.2) (og (o2 (hMu (hSu a.2 b.2) a.1) (hMu (hSu b.1 a.1) a.2)) (some [RV.d tO (hSu a.2 b.2,(hSu b.1 a.1,hAd (hMu (hSu a.2 b.2) a.1) (hMu (hSu b.1 a.1) a.2))),RV.d aoX 0]))))))|false=>(og (o2 (hSu a.2 b.2) a.1) (og (o2 (hSu b.1 a.1) a.2) (og (o2 (hMu (hSu a.2 b.2) a.1) (hMu (hSu b.1 a.1) a.2)) (some [RV.d tO (hSu a.2 b.2,(hSu b.1 a.1,hAd (hMu (hSu a.2 b.2) a.1) (hMu (hSu b.1 a.1) a.2))),RV.d aoX 0])))))))
def abs:Cn 142 [tV,tV]:=cn fun(a b:BV)=>lf (ok (Rat×Rat) 100 a∧ok (Rat×Rat) 100 b) [.d tO (Vl (dec a) (dec b)),.d aoX (VZ (dec a) (dec b))] fun h=>by
 refine aA HN (Na a b) ⟨0,?_⟩
 obtain⟨ha,hb⟩:=h
 obtain⟨a,rfl,ba⟩:=aB ha
 obtain⟨b,rfl,bb⟩:=aB hb
 unfold Na Vl VZ vG
 simp only[aS,Nat.reduceAdd,Nat.reduceLeDiff,aq]
 cases decide (a.2-b.2=0)<;>cases decide (b.1-a.1=0)<;>rfl
def Wd(a b c:BV)(_k:KT):Option (List RV):=og (o2 b.1 a.1) (og (o2 c.2 a.2) (og (o2 (hSu b.1 a.1) (hSu c.2 a.2)) (og (o2 b.2 a.2) (og (o2 c.1 a.1) (og (o2 (hSu b.2 a.2) (hSu c.1 a.1)) (og (o2 (hMu (hSu b.1 a.1) (hSu c.2 a.2)) (hMu (hSu b.2 a.2) (hSu c.1 a.1))) (some [RV.d aoX (aG (ah (hMu (hSu b.1 a.1) (hSu c.2 a.2))) (ah (hMu (hSu b.2 a.2) (hSu c.1 a.1))))])))))))
def aeD:Cn 143 [tV,tV,tV]:=cn fun(a b c:BV)=>lf (ok (Rat×Rat) 100 a∧ok (Rat×Rat) 100 b∧ok (Rat×Rat) 100 c) [.d aoX (vd (dec a) (dec b) (dec c))] fun h=>by
 refine aA HN (Wd a b c) ⟨0,?_⟩
 obtain⟨ha,hb,hc⟩:=h
 obtain⟨a,rfl,ba⟩:=aB ha
 obtain⟨b,rfl,bb⟩:=aB hb
 obtain⟨c,rfl,bc⟩:=aB hc
 unfold Wd
 simp only[aS,Nat.reduceAdd,Nat.reduceLeDiff]
 rfl
def K4(a b c:BV)(_k:KT):Option (List RV):=let y1:=hMu (hSu b.1 a.1) (hSu c.2 a.2);let y2:=hMu (hSu b.2 a.2) (hSu c.1 a.1);let y3:=hMu (hSu b.1 a.1) (hSu b.1 a.1);let y4:=hMu (hSu b.2 a.2) (hSu b.2 a.2);let y5:=hMu (hSu c.1 a.1) (hSu c.1 a.1);let y6:=hMu (hSu c.2 a.2) (hSu c.2 a.2);let y7:=hMu (hAd y3 y4) (hSu c.2 a.2);let y8:=hMu (hAd y5 y6) (hSu b.2 a.2);let y9:=hAd (hSu y1 y2) (hSu y1 y2);let y10:=hMu (hAd y5 y6) (hSu b.1 a.1);let y11:=hMu (hAd y3 y4) (hSu c.1 a.1);let y12:=hDi (hSu y7 y8) y9;let y13:=hDi (hSu y10 y11) y9;og (o2 b.1 a.1) (og (o2 b.2 a.2) (og (o2 c.1 a.1) (og (o2 c.2 a.2) (og (o2 (hSu b.1 a.1) (hSu c.2 a.2)) (og (o2 (hSu b.2 a.2) (hSu c.1 a.1)) (og (o2 y1 y2) (og (o1 (hSu y1 y2)) (match(aG (ah (hSu y1 y2)) 0)==0 with|true=>some [RV.d tO (((false,[]),(false,[])),(((false,[]),(false,[])),((false,[]),(false,[])))),RV.d aoX 6]|false=>(og (o2 (hSu y1 y2) (hSu y1 y2)) (og (o2 (hSu b.1 a.1) (hSu b.1 a.1)) (og (o2 (hSu b.2 a.2) (hSu b.2 a.2)) (og (o2 y3 y4) (og (o2 (hSu c.1 a.1) (hSu c.1 a.1)) (og (o2 (hSu c.2 a.2) (hSu c.2 a.2)) (og (o2 y5 y6) (og (o2 (hAd y3 y4) (hSu c.2 a.2)) (og (o2 (hAd y5 y6) (hSu b.2 a.2)) (og (o2 y7 y8) (og (decide (ij (hSu y7 y8) y9)) (og (o2 (hAd y5 y6) (hSu b.1 a.1)) (og (o2 (hAd y3 y4) (hSu c.1 a.1)) (og (o2 y10 y11) (og (decide (ij (hSu y10 y11) y9)) (og (o2 a.1 y12) (og (o2 a.2 y13) (og (o2 y12 y12) (og (o2 y13 y13) (og (o2 (hMu y12 y12) (hMu y13 y13)) (some [RV.d tO (hAd a.1 y12,(hAd a.2 y13,hAd (hMu y12 y12) (hMu y13 y13))),RV.d aoX 0])))))))))))))))))))))))))))))
def acg:Cn 144 [tV,tV,tV]:=cn fun(a b c:BV)=>lf (ok (Rat×Rat) 100 a∧ok (Rat×Rat) 100 b∧ok (Rat×Rat) 100 c) [.d tO (U1 (dec a) (dec b) (dec c)),.d aoX (UX (dec a) (dec b) (dec c))] fun h=>by
 refine aA HN (K4 a b c) ⟨0,?_⟩
 obtain⟨ha,hb,hc⟩:=h
 obtain⟨a,rfl,ba⟩:=aB ha
 obtain⟨b,rfl,bb⟩:=aB hb
 obtain⟨c,rfl,bc⟩:=aB hc
 have e0:(b.1-a.1)*(c.2-a.2)-(b.2-a.2)*(c.1-a.1)=dR a b c:=rfl
 have bD:Bd (dR a b c) 805:=inferInstanceAs (Bd ((b.1-a.1)*(c.2-a.2)-(b.2-a.2)*(c.1-a.1)) _)
 have eX:(((b.1-a.1)*(b.1-a.1)+(b.2-a.2)*(b.2-a.2))*(c.2-a.2)-((c.1-a.1)*(c.1-a.1)+(c.2-a.2)*(c.2-a.2))*(b.2-a.2))/(dR a b c+dR a b c)=ua a b c:=rfl
 have eY:(((c.1-a.1)*(c.1-a.1)+(c.2-a.2)*(c.2-a.2))*(b.1-a.1)-((b.1-a.1)*(b.1-a.1)+(b.2-a.2)*(b.2-a.2))*(c.1-a.1))/(dR a b c+dR a b c)=uP a b c:=rfl
 have m1:Bd ((b.1-a.1)*(b.1-a.1)+(b.2-a.2)*(b.2-a.2)) _:=inferInstance
 have m2:Bd ((c.1-a.1)*(c.1-a.1)+(c.2-a.2)*(c.2-a.2)) _:=inferInstance
 have n1:Bd (((b.1-a.1)*(b.1-a.1)+(b.2-a.2)*(b.2-a.2))*(c.2-a.2)-((c.1-a.1)*(c.1-a.1)+(c.2-a.2)*(c.2-a.2))*(b.2-a.2)) _:=inferInstance
 have n2:Bd (((c.1-a.1)*(c.1-a.1)+(c.2-a.2)*(c.2-a.2))*(b.1-a.1)-((b.1-a.1)*(b.1-a.1)+(b.2-a.2)*(b.2-a.2))*(c.1-a.1)) _:=inferInstance
 have bX0:Bd ((((b.1-a.1)*(b.1-a.1)+(b.2-a.2)*(b.2-a.2))*(c.2-a.2)-((c.1-a.1)*(c.1-a.1)+(c.2-a.2)*(c.2-a.2))*(b.2-a.2))/(dR a b c+dR a b c)) _:=inferInstance
 have bX:Bd (ua a b c) 4000:=by rw[←eX];exact bX0.mono (by decide)
 have bY0:Bd ((((c.1-a.1)*(c.1-a.1)+(c.2-a.2)*(c.2-a.2))*(b.1-a.1)-((b.1-a.1)*(b.1-a.1)+(b.2-a.2)*(b.2-a.2))*(c.1-a.1))/(dR a b c+dR a b c)) _:=inferInstance
 have bY:Bd (uP a b c) 4000:=by rw[←eY];exact bY0.mono (by decide)
 unfold K4 U1 UX
 simp only[aS,Nat.reduceAdd,Nat.reduceLeDiff,aq,e0]
 by_cases hd:dR a b c=0
 ·rw[alF hd]
  rfl
 ·have h2:dR a b c+dR a b c≠0:=by grind
  rw[alH hd]
  simp only[aS,Nat.reduceAdd,Nat.reduceLeDiff,h2,ne_eq,ana,eX,eY]
  rfl
def Xh:List En:=enL abs::enT aeD::enL acg::HN
def RX(a b:BV)(_k:KT):Option (List RV):=og (decide (ok (Rat×Rat) 100 a∧ok (Rat×Rat) 100 b)) (match(VZ (dec a) (dec b)) !=0 with|true=>some [RV.d tCU (false,((((false,[]),(false,[])),(((false,[]),(false,[])),((false,[]),(false,[])))),((((false,[]),(false,[])),(((false,[]),(false,[])),((false,[]),(false,[])))),(false,((((false,[]),(false,[])),(((false,[]),(false,[])),(((false,[]),(false,[])),(((false,[]),(false,[])),((false,[]),(false,[])))))),(((false,[]),(false,[])),(((false,[]),(false,[])),(((false,[]),(false,[])),(((false,[]),(false,[])),((false,[]),(false,[]))))))))))),RV.d aoX 6]|false=>(og (decide (ok (Rat×Rat) 100000 a)) (og (decide (ok (Rat×Rat) 100000 b)) (some [RV.d tCU (false,(hid (Vl (dec a) (dec b)),((((false,[]),(false,[])),(((false,[]),(false,[])),((false,[]),(false,[])))),(false,(hid (enc (atP (dec a))),hid (enc (atP (dec b)))))))),RV.d aoX 0]))))
def PH:Cn 54 [tV,tV]:=cn fun(a b:BV)=>lf (ok (Rat×Rat) 100 a∧ok (Rat×Rat) 100 b) [.d tCU (ic (dec a) (dec b)),.d aoX (segE (dec a) (dec b))] fun h=>by
 refine aA Xh (RX a b) ⟨0,?_⟩
 obtain⟨ha,hb⟩:=h
 obtain⟨a,rfl,ba⟩:=aB ha
 obtain⟨b,rfl,bb⟩:=aB hb
 unfold RX ic segE VZ Vl
 simp only[aS,Nat.reduceLeDiff]
 cases vG a b<;>rfl
def Q4(a b c:BV)(_k:KT):Option (List RV):=og (decide (ok (Rat×Rat) 100 a∧ok (Rat×Rat) 100 b∧ok (Rat×Rat) 100 c)) (og (decide (ok (Rat×Rat) 100 a∧ok (Rat×Rat) 100 b∧ok (Rat×Rat) 100 c)) (match(vd (dec a) (dec b) (dec c))==0 with|true=>some [RV.d tCU (false,((((false,[]),(false,[])),(((false,[]),(false,[])),((false,[]),(false,[])))),((((false,[]),(false,[])),(((false,[]),(false,[])),((false,[]),(false,[])))),(false,((((false,[]),(false,[])),(((false,[]),(false,[])),(((false,[]),(false,[])),(((false,[]),(false,[])),((false,[]),(false,[])))))),(((false,[]),(false,[])),(((false,[]),(false,[])),(((false,[]),(false,[])),(((false,[]),(false,[])),((false,[]),(false,[]))))))))))),RV.d aoX 6]|false=>(match(UX (dec a) (dec b) (dec c)) !=0 with|true=>some [RV.d tCU (false,((((false,[]),(false,[])),(((false,[]),(false,[])),((false,[]),(false,[])))),((((false,[]),(false,[])),(((false,[]),(false,[])),((false,[]),(false,[])))),(false,((((false,[]),(false,[])),(((false,[]),(false,[])),(((false,[]),(false,[])),(((false,[]),(false,[])),((false,[]),(false,[])))))),(((false,[]),(false,[])),(((false,[]),(false,[])),(((false,[]),(false,[])),(((false,[]),(false,[])),((false,[]),(false,[]))))))))))),RV.d aoX 6]|false=>(og (decide (ok (Rat×Rat) 100000 a)) (og (decide (ok (Rat×Rat) 100000 c)) (some [RV.d tCU (true,((((false,[]),(false,[])),(((false,[]),(false,[])),((false,[]),(false,[])))),(hid (U1 (dec a) (dec b) (dec c)),(decide ((vd (dec a) (dec b) (dec c))<0),(hid (enc (atP (dec a))),hid (enc (atP (dec c)))))))),RV.d aoX 0]))))))
def P3:Cn 55 [tV,tV,tV]:=cn fun(a b c:BV)=>lf (ok (Rat×Rat) 100 a∧ok (Rat×Rat) 100 b∧ok (Rat×Rat) 100 c) [.d tCU (jV (dec a) (dec b) (dec c)),.d aoX (arcE (dec a) (dec b) (dec c))] fun h=>by
 refine aA Xh (Q4 a b c) ⟨0,?_⟩
 obtain⟨ha,hb,hc⟩:=h
 obtain⟨a,rfl,ba⟩:=aB ha
 obtain⟨b,rfl,bb⟩:=aB hb
 obtain⟨c,rfl,bc⟩:=aB hc
 unfold Q4 jV arcE
 simp only[aS,Nat.reduceLeDiff]
 rw[aap]
 unfold UX U1
 cases decide (dR a b c=0)<;>rfl
def iB(c:Cv):List BP→BP→List BP
 |[],x=>[x]
 |y::r,x=>bif decide (dg c (dec y) (dec x)<0)then y::iB c r x else bif aX (dec y) (dec x)==0 then y::r else x::y::r
def gZ(c:Cv)(l:List BP):List BP:=l.foldl (iB c) []
def wz(c:BCU)(l:List BP):Prop:=okC 4000 c∧l.length≤1000000∧∀x∈l,okP 4000 x
instance (c:BCU) (l:List BP):Decidable (wz c l):=by unfold wz;infer_instance
theorem oJ{c:Cv}{x y:BP}:∀{r:List BP},y∈iB c r x→y∈r∨y=x
 |[],h=>by simp only[iB,an8]at h;exact .inr h
 |z::r,h=>by
  simp only[iB]at h
  cases h1:decide (dg c (dec z) (dec x)<0)<;>rw[h1]at h
  ·cases h2:aX (dec z) (dec x)==0<;>rw[h2]at h
   ·rcases al0.1 h with h|h
    ·exact .inr h
    ·exact .inl h
   ·exact .inl h
  ·rcases al0.1 h with h|h
   ·exact .inl (by simp[h])
   ·rcases oJ h with h|h
    ·exact .inl (alV _ h)
    ·exact .inr h
theorem xX(c:Cv)(x:BP):∀r:List BP,(iB c r x).length≤r.length+1
 |[]=>by simp[iB]
 |z::r=>by
  have:=xX c x r
  simp only[iB]
  cases decide (dg c (dec z) (dec x)<0)
  ·cases aX (dec z) (dec x)==0<;>simp
  ·simp only[cond_true,alY];omega
theorem vP{c:Cv}:∀{l out:List BP} {y:BP},y∈l.foldl (iB c) out→y∈out∨y∈l
 |[],_,_,h=>.inl h
 |x::l,out,y,h=>by
  rcases vP (l:=l) (out:=iB c out x) h with h|h
  ·rcases oJ h with h|h
   ·exact .inl h
   ·exact .inr (by simp[h])
  ·exact .inr (alV _ h)
theorem wu(c:Cv):∀(l out:List BP),(l.foldl (iB c) out).length≤out.length+l.length
 |[],_=>alL _
 |x::l,out=>by
  have h1:=wu c l (iB c out x)
  have h2:=xX c x out
  simp only[anF,alY]
  omega
theorem Kc{α:Type}{l:List α}{k:Nat}(h:k<l.length):l.take (k+1)=l.take k++[l[k]]:=by rw[List.take_succ_eq_append_getElem h]
def W8:List En:=[enT Is,enT G7,enT Fs]
def abL:NT:=[((59,8),{keep:=[1,2,5,6],pure_:=[(5,tP)],hl:=1}),((59,21),{keep:=[1,2,5,6,7],pure_:=[(5,tP)],hl:=1})]
def vn:Ctx:=CX (ens W8) abL
def kR(c:BCU)(l:List BP)(s6:Int)(s5:List BP):Cfg:=⟨59,[.blk 0,.seq 38],[(1,.d (.sl tP) l),(2,.box 0 0),(5,.d (.sl tP) s5),(6,SI s6)],[.box 39 [SB c.1,SB c.2.1.1.1.1,.d aoW c.2.1.1.1.2,SB c.2.1.1.2.1,.d aoW c.2.1.1.2.2,SB c.2.1.2.1.1.1,.d aoW c.2.1.2.1.1.2,SB c.2.1.2.1.2.1,.d aoW c.2.1.2.1.2.2,SB c.2.1.2.2.1.1,.d aoW c.2.1.2.2.1.2,SB c.2.1.2.2.2.1,.d aoW c.2.1.2.2.2.2,SB c.2.2.1.1.1.1,.d aoW c.2.2.1.1.1.2,SB c.2.2.1.1.2.1,.d aoW c.2.2.1.1.2.2,SB c.2.2.1.2.1.1.1,.d aoW c.2.2.1.2.1.1.2,SB c.2.2.1.2.1.2.1,.d aoW c.2.2.1.2.1.2.2,SB c.2.2.1.2.2.1.1,.d aoW c.2.2.1.2.2.1.2,SB c.2.2.1.2.2.2.1,.d aoW c.2.2.1.2.2.2.2,SB c.2.2.2.1,SB c.2.2.2.2.1.1.1.1,.d aoW c.2.2.2.2.1.1.1.2,SB c.2.2.2.2.1.1.2.1,.d aoW c.2.2.2.2.1.1.2.2,SB c.2.2.2.2.1.2.1.1.1,.d aoW c.2.2.2.2.1.2.1.1.2,SB c.2.2.2.2.1.2.1.2.1,.d aoW c.2.2.2.2.1.2.1.2.2,SB c.2.2.2.2.1.2.2.1.1.1,.d aoW c.2.2.2.2.1.2.2.1.1.2,SB c.2.2.2.2.1.2.2.1.2.1,.d aoW c.2.2.2.2.1.2.2.1.2.2,SB c.2.2.2.2.1.2.2.2.1.1.1,.d aoW c.2.2.2.2.1.2.2.2.1.1.2,SB c.2.2.2.2.1.2.2.2.1.2.1,.d aoW c.2.2.2.2.1.2.2.2.1.2.2,SB c.2.2.2.2.1.2.2.2.2.1.1,.d aoW c.2.2.2.2.1.2.2.2.2.1.2,SB c.2.2.2.2.1.2.2.2.2.2.1,.d aoW c.2.2.2.2.1.2.2.2.2.2.2,SB c.2.2.2.2.2.1.1.1,.d aoW c.2.2.2.2.2.1.1.2,SB c.2.2.2.2.2.1.2.1,.d aoW c.2.2.2.2.2.1.2.2,SB c.2.2.2.2.2.2.1.1.1,.d aoW c.2.2.2.2.2.2.1.1.2,SB c.2.2.2.2.2.2.1.2.1,.d aoW c.2.2.2.2.2.2.1.2.2,SB c.2.2.2.2.2.2.2.1.1.1,.d aoW c.2.2.2.2.2.2.2.1.1.2,SB c.2.2.2.2.2.2.2.1.2.1,.d aoW c.2.2.2.2.2.2.2.1.2.2,SB c.2.2.2.2.2.2.2.2.1.1.1,.d aoW c.2.2.2.2.2.2.2.2.1.1.2,SB c.2.2.2.2.2.2.2.2.1.2.1,.d aoW c.2.2.2.2.2.2.2.2.1.2.2,SB c.2.2.2.2.2.2.2.2.2.1.1,.d aoW c.2.2.2.2.2.2.2.2.2.1.2,SB c.2.2.2.2.2.2.2.2.2.2.1,.d aoW c.2.2.2.2.2.2.2.2.2.2.2]],0,[]⟩
def ww(c:BCU)(l s5:List BP)(s6 s7:Int):Cfg:=⟨59,[.blk 2,.seq 30,.blk 1,.seq 37,.lp 8,.blk 0,.seq 38],[(1,.d (.sl tP) l),(2,.box 0 0),(5,.d (.sl tP) s5),(6,SI s6),(7,SI s7)],[.box 39 [SB c.1,SB c.2.1.1.1.1,.d aoW c.2.1.1.1.2,SB c.2.1.1.2.1,.d aoW c.2.1.1.2.2,SB c.2.1.2.1.1.1,.d aoW c.2.1.2.1.1.2,SB c.2.1.2.1.2.1,.d aoW c.2.1.2.1.2.2,SB c.2.1.2.2.1.1,.d aoW c.2.1.2.2.1.2,SB c.2.1.2.2.2.1,.d aoW c.2.1.2.2.2.2,SB c.2.2.1.1.1.1,.d aoW c.2.2.1.1.1.2,SB c.2.2.1.1.2.1,.d aoW c.2.2.1.1.2.2,SB c.2.2.1.2.1.1.1,.d aoW c.2.2.1.2.1.1.2,SB c.2.2.1.2.1.2.1,.d aoW c.2.2.1.2.1.2.2,SB c.2.2.1.2.2.1.1,.d aoW c.2.2.1.2.2.1.2,SB c.2.2.1.2.2.2.1,.d aoW c.2.2.1.2.2.2.2,SB c.2.2.2.1,SB c.2.2.2.2.1.1.1.1,.d aoW c.2.2.2.2.1.1.1.2,SB c.2.2.2.2.1.1.2.1,.d aoW c.2.2.2.2.1.1.2.2,SB c.2.2.2.2.1.2.1.1.1,.d aoW c.2.2.2.2.1.2.1.1.2,SB c.2.2.2.2.1.2.1.2.1,.d aoW c.2.2.2.2.1.2.1.2.2,SB c.2.2.2.2.1.2.2.1.1.1,.d aoW c.2.2.2.2.1.2.2.1.1.2,SB c.2.2.2.2.1.2.2.1.2.1,.d aoW c.2.2.2.2.1.2.2.1.2.2,SB c.2.2.2.2.1.2.2.2.1.1.1,.d aoW c.2.2.2.2.1.2.2.2.1.1.2,SB c.2.2.2.2.1.2.2.2.1.2.1,.d aoW c.2.2.2.2.1.2.2.2.1.2.2,SB c.2.2.2.2.1.2.2.2.2.1.1,.d aoW c.2.2.2.2.1.2.2.2.2.1.2,SB c.2.2.2.2.1.2.2.2.2.2.1,.d aoW c.2.2.2.2.1.2.2.2.2.2.2,SB c.2.2.2.2.2.1.1.1,.d aoW c.2.2.2.2.2.1.1.2,SB c.2.2.2.2.2.1.2.1,.d aoW c.2.2.2.2.2.1.2.2,SB c.2.2.2.2.2.2.1.1.1,.d aoW c.2.2.2.2.2.2.1.1.2,SB c.2.2.2.2.2.2.1.2.1,.d aoW c.2.2.2.2.2.2.1.2.2,SB c.2.2.2.2.2.2.2.1.1.1,.d aoW c.2.2.2.2.2.2.2.1.1.2,SB c.2.2.2.2.2.2.2.1.2.1,.d aoW c.2.2.2.2.2.2.2.1.2.2,SB c.2.2.2.2.2.2.2.2.1.1.1,.d aoW c.2.2.2.2.2.2.2.2.1.1.2,SB c.2.2.2.2.2.2.2.2.1.2.1,.d aoW c.2.2.2.2.2.2.2.2.1.2.2,SB c.2.2.2.2.2.2.2.2.2.1.1,.d aoW c.2.2.2.2.2.2.2.2.2.1.2,SB c.2.2.2.2.2.2.2.2.2.2.1,.d aoW c.2.2.2.2.2.2.2.2.2.2.2]],0,[]⟩
def aff(c:BCU)(l:List BP)(k:KT):Option (List RV):=k 8 (kR c l 0 ([]))
theorem aiy(c:BCU)(l:List BP):RS vn 59 [.d tCU c,.d (.sl tP) l] (aff c l):=rsX
def wL(c:BCU)(l:List BP)(s6:Int)(s5:List BP)(k:KT):Option (List RV):=match decide (s6<(l.length:Int))with|true=>k 21 (ww c l s5 s6 0)|false=>some [RV.d (.sl tP) s5]
theorem DS(c:BCU)(l:List BP)(s6:Int)(s5:List BP):RN vn 8 (kR c l s6 s5) (wL c l s6 s5):=rnX
def uH(c:BCU)(l s5:List BP)(s6 s7:Int)(k:KT):Option (List RV):=match decide (s7<(s5.length:Int))with|true=>(match aR s5 s7 with|some x1=>(match aR l s6 with|some x2=>(og (decide (okC 4000 c∧okP 4000 x1∧okP 4000 x2)) (match decide ((dg (dC c) (dec x1) (dec x2))<0)with|true=>k 21 (ww c l s5 s6 (i64.wrap (s7+1)))|false=>(match decide (s7<(s5.length:Int))with|true=>(match aR s5 s7 with|some x3=>(match aR l s6 with|some x4=>(og (decide (okP 4000 x3∧okP 4000 x4)) (match aX (dec x3) (dec x4)==0 with|true=>k 8 (kR c l (i64.wrap (s6+1)) s5)|false=>(og (decide ((0:Int)≤0∧0≤s7∧s7≤(s5.length:Int))) (match aR l s6 with|some x5=>(og (decide ((0:Int)≤s7∧s7≤(s5.length:Int)∧(s5.length:Int)≤(s5.length:Int))) (dup (.b (.b .l .l) .l) (og (decide ((([]:List BP).length+((s5.take (s7).toNat).drop (0:Int).toNat).length)*320≤140737488355328∧([]:List BP).length+((s5.take (s7).toNat).drop (0:Int).toNat).length≤140737488355328)) (og (decide (((([]:List BP)++((s5.take (s7).toNat).drop (0:Int).toNat)).length+([x5]).length)*320≤140737488355328∧(([]:List BP)++((s5.take (s7).toNat).drop (0:Int).toNat)).length+([x5]).length≤140737488355328)) (og (decide ((((([]:List BP)++((s5.take (s7).toNat).drop (0:Int).toNat))++([x5])).length+((s5.take ((s5.length:Int)).toNat).drop (s7:Int).toNat).length)*320≤140737488355328∧((([]:List BP)++((s5.take (s7).toNat).drop (0:Int).toNat))++([x5])).length+((s5.take ((s5.length:Int)).toNat).drop (s7:Int).toNat).length≤140737488355328)) (k 8 (kR c l (i64.wrap (s6+1)) (((([]:List BP)++((s5.take (s7).toNat).drop (0:Int).toNat))++([x5]))++((s5.take ((s5.length:Int)).toNat).drop (s7:Int).toNat)))))))))|none=>none))))|none=>none)|none=>none)|false=>(og (decide ((0:Int)≤0∧0≤s7∧s7≤(s5.length:Int))) (match aR l s6 with|some x3=>(og (decide ((0:Int)≤s7∧s7≤(s5.length:Int)∧(s5.length:Int)≤(s5.length:Int))) (dup (.b (.b .l .l) .l) (og (decide ((([]:List BP).length+((s5.take (s7).toNat).drop (0:Int).toNat).length)*320≤140737488355328∧([]:List BP).length+((s5.take (s7).toNat).drop (0:Int).toNat).length≤140737488355328)) (og (decide (((([]:List BP)++((s5.take (s7).toNat).drop (0:Int).toNat)).length+([x3]).length)*320≤140737488355328∧(([]:List BP)++((s5.take (s7).toNat).drop (0:Int).toNat)).length+([x3]).length≤140737488355328)) (og (decide ((((([]:List BP)++((s5.take (s7).toNat).drop (0:Int).toNat))++([x3])).length+((s5.take ((s5.length:Int)).toNat).drop (s7:Int).toNat).length)*320≤140737488355328∧((([]:List BP)++((s5.take (s7).toNat).drop (0:Int).toNat))++([x3])).length+((s5.take ((s5.length:Int)).toNat).drop (s7:Int).toNat).length≤140737488355328)) (k 8 (kR c l (i64.wrap (s6+1)) (((([]:List BP)++((s5.take (s7).toNat).drop (0:Int).toNat))++([x3]))++((s5.take ((s5.length:Int)).toNat).drop (s7:Int).toNat)))))))))|none=>none)))))|none=>none)|none=>none)|false=>(match decide (s7<(s5.length:Int))with|true=>(match aR s5 s7 with|some x1=>(match aR l s6 with|some x2=>(og (decide (okP 4000 x1∧okP 4000 x2)) (match aX (dec x1) (dec x2)==0 with|true=>k 8 (kR c l (i64.wrap (s6+1)) s5)|false=>(og (decide ((0:Int)≤0∧0≤s7∧s7≤(s5.length:Int))) (match aR l s6 with|some x3=>(og (decide ((0:Int)≤s7∧s7≤(s5.length:Int)∧(s5.length:Int)≤(s5.length:Int))) (dup (.b (.b .l .l) .l) (og (decide ((([]:List BP).length+((s5.take (s7).toNat).drop (0:Int).toNat).length)*320≤140737488355328∧([]:List BP).length+((s5.take (s7).toNat).drop (0:Int).toNat).length≤140737488355328)) (og (decide (((([]:List BP)++((s5.take (s7).toNat).drop (0:Int).toNat)).length+([x3]).length)*320≤140737488355328∧(([]:List BP)++((s5.take (s7).toNat).drop (0:Int).toNat)).length+([x3]).length≤140737488355328)) (og (decide ((((([]:List BP)++((s5.take (s7).toNat).drop (0:Int).toNat))++([x3])).length+((s5.take ((s5.length:Int)).toNat).drop (s7:Int).toNat).length)*320≤140737488355328∧((([]:List BP)++((s5.take (s7).toNat).drop (0:Int).toNat))++([x3])).length+((s5.take ((s5.length:Int)).toNat).drop (s7:Int).toNat).length≤140737488355328)) (k 8 (kR c l (i64.wrap (s6+1)) (((([]:List BP)++((s5.take (s7).toNat).drop (0:Int).toNat))++([x3]))++((s5.take ((s5.length:Int)).toNat).drop (s7:Int).toNat)))))))))|none=>none))))|none=>none)|none=>none)|false=>(og (decide ((0:Int)≤0∧0≤s7∧s7≤(s5.length:Int))) (match aR l s6 with|some x1=>(og (decide ((0:Int)≤s7∧s7≤(s5.length:Int)∧(s5.length:Int)≤(s5.length:Int))) (dup (.b (.b .l .l) .l) (og (decide ((([]:List BP).length+((s5.take (s7).toNat).drop (0:Int).toNat).length)*320≤140737488355328∧([]:List BP).length+((s5.take (s7).toNat).drop (0:Int).toNat).length≤140737488355328)) (og (decide (((([]:List BP)++((s5.take (s7).toNat).drop (0:Int).toNat)).length+([x1]).length)*320≤140737488355328∧(([]:List BP)++((s5.take (s7).toNat).drop (0:Int).toNat)).length+([x1]).length≤140737488355328)) (og (decide ((((([]:List BP)++((s5.take (s7).toNat).drop (0:Int).toNat))++([x1])).length+((s5.take ((s5.length:Int)).toNat).drop (s7:Int).toNat).length)*320≤140737488355328∧((([]:List BP)++((s5.take (s7).toNat).drop (0:Int).toNat))++([x1])).length+((s5.take ((s5.length:Int)).toNat).drop (s7:Int).toNat).length≤140737488355328)) (k 8 (kR c l (i64.wrap (s6+1)) (((([]:List BP)++((s5.take (s7).toNat).drop (0:Int).toNat))++([x1]))++((s5.take ((s5.length:Int)).toNat).drop (s7:Int).toNat)))))))))|none=>none)))
theorem zb(c:BCU)(l s5:List BP)(s6 s7:Int):RN vn 21 (ww c l s5 s6 s7) (uH c l s5 s6 s7):=rnX
theorem ab8(c:BCU)(l:List BP)(hc:okC 4000 c)(hl:∀x∈l,okP 4000 x)(out:List BP)(ho:∀x∈out,okP 4000 x)(hlen:out.length≤1000000)(i:Nat)(hi:i<l.length)(hi2:i≤1000000)(r:List RV)(h:vn.Runs 8 (kR c l ((i+1:Nat):Int) (iB (dC c) out l[i])) r):
  ∀(j k:Nat),k+j=out.length→iB (dC c) out l[i]=out.take k++iB (dC c) (out.drop k) l[i]→vn.Runs 21 (ww c l out (i:Int) (k:Int)) r:=by
 have e0:i64.wrap ((i:Int)+1)=((i+1:Nat):Int):=bV (by omega)
 have gl:aR l (i:Int)=some l[i]:=by rw[ao,alG hi]
 have hx:=hl _ (amh hi)
 have tl:out.take ((out.length:Int)).toNat=out:=by simp
 have put:∀k:Nat,k≤out.length→iB (dC c) out l[i]=out.take k++[l[i]]++out.drop k→∃n,(match decide ((0:Int)≤0∧0≤(k:Int)∧(k:Int)≤(out.length:Int))with
   |true=>(match aR l (i:Int)with
    |some x5=>(match decide ((0:Int)≤(k:Int)∧(k:Int)≤(out.length:Int)∧(out.length:Int)≤(out.length:Int))with
     |true=>(match decide ((([]:List BP).length+((out.take ((k:Int)).toNat).drop (0:Int).toNat).length)*320≤140737488355328∧([]:List BP).length+((out.take ((k:Int)).toNat).drop (0:Int).toNat).length≤140737488355328)with
      |true=>(match decide (((([]:List BP)++((out.take ((k:Int)).toNat).drop (0:Int).toNat)).length+([x5]).length)*320≤140737488355328∧(([]:List BP)++((out.take ((k:Int)).toNat).drop (0:Int).toNat)).length+([x5]).length≤140737488355328)with
       |true=>(match decide ((((([]:List BP)++((out.take ((k:Int)).toNat).drop (0:Int).toNat))++([x5])).length+((out.take ((out.length:Int)).toNat).drop ((k:Int)).toNat).length)*320≤140737488355328∧((([]:List BP)++((out.take ((k:Int)).toNat).drop (0:Int).toNat))++([x5])).length+((out.take ((out.length:Int)).toNat).drop ((k:Int)).toNat).length≤140737488355328)with
        |true=>vn.k n 8 (kR c l (i64.wrap ((i:Int)+1)) (((([]:List BP)++((out.take ((k:Int)).toNat).drop (0:Int).toNat))++([x5]))++((out.take ((out.length:Int)).toNat).drop ((k:Int)).toNat)))
        |false=>none)
       |false=>none)
      |false=>none)
     |false=>none)
    |none=>none)
   |false=>none)=some r:=by
  intro k hk he
  have e1:((out.take ((k:Int)).toNat).drop (0:Int).toNat)=out.take k:=by simp
  have e2:((out.take ((out.length:Int)).toNat).drop ((k:Int)).toNat)=out.drop k:=by simp
  have l1:(out.take k).length=k:=by simp;omega
  have l2:(out.drop k).length=out.length-k:=by simp
  obtain⟨n,hn⟩:=h
  refine⟨n,?_⟩
  rw[gl,dT (show(0:Int)≤0∧0≤(k:Int)∧(k:Int)≤(out.length:Int) by omega)]
  dsimp only
  rw[dT (show(0:Int)≤(k:Int)∧(k:Int)≤(out.length:Int)∧(out.length:Int)≤(out.length:Int) by omega)]
  simp only[e1,e2,aoD,List.length_nil,amf,alY,l1,l2,aml]
  rw[dT (by omega),dT (by omega),dT (by omega),e0,←he]
  exact hn
 intro j
 induction j with
 |zero=>
  intro k hk he
  have hk:k=out.length:=by omega
  subst hk
  refine zb _ _ _ _ _ ?_
  unfold uH
  rw[b9 (by omega)]
  simp only[eU]
  refine put _ (alL _) ?_
  rw[he]
  simp[iB]
 |succ j ih=>
  intro k hk he
  have hkl:k<out.length:=by omega
  have go:aR out (k:Int)=some out[k]:=by rw[ao,alG hkl]
  have ho1:=ho _ (amh hkl)
  have ek:i64.wrap ((k:Int)+1)=((k+1:Nat):Int):=bV (by omega)
  have hd:out.drop k=out[k]::out.drop (k+1):=al1 hkl
  refine zb _ _ _ _ _ ?_
  unfold uH
  simp only[eU,bH hkl,go,gl,dT (show okC 4000 c∧okP 4000 out[k]∧okP 4000 l[i] from⟨hc,ho1,hx⟩),dT (show okP 4000 out[k]∧okP 4000 l[i] from⟨ho1,hx⟩)]
  rw[hd]at he
  simp only[iB]at he
  cases h1:decide (dg (dC c) (dec out[k]) (dec l[i])<0)<;>rw[h1]at he
  ·simp only[cond_false]at he
   cases h2:aX (dec out[k]) (dec l[i])==0<;>rw[h2]at he
   ·simp only[cond_false]at he
    have:=put k (by omega) (by rw[he,hd];simp)
    simp only[gl]at this
    exact this
   ·simp only[cond_true]at he
    rw[←hd,am3]at he
    obtain⟨n,hn⟩:=h
    refine⟨n,?_⟩
    rw[e0]
    rw[he]at hn
    exact hn
  ·simp only[cond_true]at he
   obtain⟨n,hn⟩:=ih (k+1) (by omega) (by rw[he,Kc hkl,al7];rfl)
   refine⟨n,?_⟩
   rw[ek]
   exact hn
theorem TZ(c:BCU)(l:List BP)(hc:okC 4000 c)(hl:∀x∈l,okP 4000 x)(hle:l.length≤1000000):∀(j i:Nat),i+j=l.length→∀out:List BP,(∀x∈out,okP 4000 x)→out.length≤i→vn.Runs 8 (kR c l (i:Int) out) [.d (.sl tP) ((l.drop i).foldl (iB (dC c)) out)]:=by
 intro j
 induction j with
 |zero=>
  intro i hi out ho hlen
  refine DS _ _ _ _ ⟨0,?_⟩
  unfold wL
  rw[b9 (by omega),o0 (by omega)]
  rfl
 |succ j ih=>
  intro i hi out ho hlen
  have hil:i<l.length:=by omega
  have h2:=ih (i+1) (by omega) (iB (dC c) out l[i]) (fun x hx=>by
   rcases oJ hx with h|h
   ·exact ho x h
   ·rw[h];exact hl _ (amh hil)) (alU (xX _ _ _) (by omega))
  obtain⟨n,hn⟩:=ab8 c l hc hl out ho (by omega) i hil (by omega) _ h2 out.length 0 (by omega) (by simp)
  refine DS _ _ _ _ ⟨n,?_⟩
  unfold wL
  rw[bH hil,gh hil,anF]
  exact hn
def ZE:Cn 59 [tCU,(.sl tP)]:=cn fun(c:BCU) (l:List BP)=>lf (wz c l) [.d (.sl tP) (gZ (dC c) l)] fun h=>by
 obtain⟨hc,hle,hl⟩:=h
 refine cZ W8 (show vn.Res _ _ _ from ?_)
 obtain⟨n,hn⟩:=TZ c l hc hl hle l.length 0 (by omega) [] (fun x hx=>by cases hx) (alL _)
 exact aiy _ _ ⟨n,hn⟩
def BZ(c:BCU)(x y:BP):BCU:=(c.1,c.2.1,c.2.2.1,c.2.2.2.1,x,y)
def wU(c:BCU):List BP→List BCU
 |[]=>[]
 |x::r=>match r with
  |[]=>[]
  |y::_=>BZ c x y::wU c r
def sM(c:BCU)(l:List BP):List BP:=gZ (dC c) ([c.2.2.2.2.1,c.2.2.2.2.2]++l)
def lm(c:BCU)(l:List BP):List BCU:=wU c (sM c l)
def EK(c:BCU)(l:List BP):Prop:=okC 3500 c∧l.length≤900000∧∀x∈l,okP 3500 x∧onR (dC c) (dec x)=true
instance (c:BCU) (l:List BP):Decidable (EK c l):=by unfold EK;infer_instance
theorem Tf{c:BCU}{l:List BP}(h:EK c l):wz c ([c.2.2.2.2.1,c.2.2.2.2.2]++l):=by
 obtain⟨h1,h2,h3⟩:=h
 have h4:=cg (k:=4000) h1 (by decide) (by decide)
 refine⟨h4,by simp;omega,fun x hx=>?_⟩
 rcases amr.1 hx with hx|hx
 ·simp only[al0,amZ,aob]at hx
  rcases hx with rfl|rfl
  ·exact h4.2.2.1
  ·exact h4.2.2.2
 ·exact cK (h3 x hx).1 (by decide) (by decide)
theorem G5(c:BCU)(l:List BP):(sM c l).length≤l.length+2:=by
 have:=wu (dC c) ([c.2.2.2.2.1,c.2.2.2.2.2]++l) []
 unfold sM gZ
 simp at this ⊢
 omega
theorem Cf{c:BCU}{l:List BP}{x:BP}(h:x∈sM c l):x=c.2.2.2.2.1∨x=c.2.2.2.2.2∨x∈l:=by
 rcases vP (out:=[]) h with h|h
 ·cases h
 ·rcases amr.1 h with h|h
  ·simp only[al0,amZ,aob]at h
   rcases h with h|h
   ·exact .inl h
   ·exact .inr (.inl h)
  ·exact .inr (.inr h)
theorem AJ{c p:BCU}:∀{s:List BP},p∈wU c s→∃x y,x∈s∧y∈s∧p=BZ c x y
 |[],h=>by cases h
 |[_],h=>by cases h
 |x::y::r,h=>by
  simp only[wU]at h
  rcases al0.1 h with h|h
  ·exact⟨x,y,by simp,by simp,h⟩
  ·obtain⟨a,b,h1,h2,h3⟩:=AJ (s:=y::r) h
   exact⟨a,b,alV _ h1,alV _ h2,h3⟩
def XL:List En:=[enT Is,enT G7,enT Fs,enL Sq,enT xp,enK ZE]
def aa0:NT:=[((20,6),{keep:=[1,2,6],hl:=1}),((20,31),{keep:=[2,7,8,9],own:=[(8,39,tCU)],hl:=3})]
def zO:Ctx:=CX (ens XL) aa0
def Bl(c:BCU)(l:List BP)(s6:Int):Cfg:=⟨20,[.blk 0,.seq 23],[(1,.d (.sl tP) l),(2,.box 0 0),(6,SI s6)],[.box 39 [SB c.1,SB c.2.1.1.1.1,.d aoW c.2.1.1.1.2,SB c.2.1.1.2.1,.d aoW c.2.1.1.2.2,SB c.2.1.2.1.1.1,.d aoW c.2.1.2.1.1.2,SB c.2.1.2.1.2.1,.d aoW c.2.1.2.1.2.2,SB c.2.1.2.2.1.1,.d aoW c.2.1.2.2.1.2,SB c.2.1.2.2.2.1,.d aoW c.2.1.2.2.2.2,SB c.2.2.1.1.1.1,.d aoW c.2.2.1.1.1.2,SB c.2.2.1.1.2.1,.d aoW c.2.2.1.1.2.2,SB c.2.2.1.2.1.1.1,.d aoW c.2.2.1.2.1.1.2,SB c.2.2.1.2.1.2.1,.d aoW c.2.2.1.2.1.2.2,SB c.2.2.1.2.2.1.1,.d aoW c.2.2.1.2.2.1.2,SB c.2.2.1.2.2.2.1,.d aoW c.2.2.1.2.2.2.2,SB c.2.2.2.1,SB c.2.2.2.2.1.1.1.1,.d aoW c.2.2.2.2.1.1.1.2,SB c.2.2.2.2.1.1.2.1,.d aoW c.2.2.2.2.1.1.2.2,SB c.2.2.2.2.1.2.1.1.1,.d aoW c.2.2.2.2.1.2.1.1.2,SB c.2.2.2.2.1.2.1.2.1,.d aoW c.2.2.2.2.1.2.1.2.2,SB c.2.2.2.2.1.2.2.1.1.1,.d aoW c.2.2.2.2.1.2.2.1.1.2,SB c.2.2.2.2.1.2.2.1.2.1,.d aoW c.2.2.2.2.1.2.2.1.2.2,SB c.2.2.2.2.1.2.2.2.1.1.1,.d aoW c.2.2.2.2.1.2.2.2.1.1.2,SB c.2.2.2.2.1.2.2.2.1.2.1,.d aoW c.2.2.2.2.1.2.2.2.1.2.2,SB c.2.2.2.2.1.2.2.2.2.1.1,.d aoW c.2.2.2.2.1.2.2.2.2.1.2,SB c.2.2.2.2.1.2.2.2.2.2.1,.d aoW c.2.2.2.2.1.2.2.2.2.2.2,SB c.2.2.2.2.2.1.1.1,.d aoW c.2.2.2.2.2.1.1.2,SB c.2.2.2.2.2.1.2.1,.d aoW c.2.2.2.2.2.1.2.2,SB c.2.2.2.2.2.2.1.1.1,.d aoW c.2.2.2.2.2.2.1.1.2,SB c.2.2.2.2.2.2.1.2.1,.d aoW c.2.2.2.2.2.2.1.2.2,SB c.2.2.2.2.2.2.2.1.1.1,.d aoW c.2.2.2.2.2.2.2.1.1.2,SB c.2.2.2.2.2.2.2.1.2.1,.d aoW c.2.2.2.2.2.2.2.1.2.2,SB c.2.2.2.2.2.2.2.2.1.1.1,.d aoW c.2.2.2.2.2.2.2.2.1.1.2,SB c.2.2.2.2.2.2.2.2.1.2.1,.d aoW c.2.2.2.2.2.2.2.2.1.2.2,SB c.2.2.2.2.2.2.2.2.2.1.1,.d aoW c.2.2.2.2.2.2.2.2.2.1.2,SB c.2.2.2.2.2.2.2.2.2.2.1,.d aoW c.2.2.2.2.2.2.2.2.2.2.2]],0,[]⟩
def vK(c:BCU)(l:List BP)(s9:Int)(r2:List BCU):Cfg:=⟨20,[.blk 2,.seq 46],[(2,.box 0 0),(7,.d (.sl tP) (gZ (dC c) (([c.2.2.2.2.1,c.2.2.2.2.2])++l))),(8,.own 2),(9,SI s9)],[.box 39 [SB c.1,SB c.2.1.1.1.1,.d aoW c.2.1.1.1.2,SB c.2.1.1.2.1,.d aoW c.2.1.1.2.2,SB c.2.1.2.1.1.1,.d aoW c.2.1.2.1.1.2,SB c.2.1.2.1.2.1,.d aoW c.2.1.2.1.2.2,SB c.2.1.2.2.1.1,.d aoW c.2.1.2.2.1.2,SB c.2.1.2.2.2.1,.d aoW c.2.1.2.2.2.2,SB c.2.2.1.1.1.1,.d aoW c.2.2.1.1.1.2,SB c.2.2.1.1.2.1,.d aoW c.2.2.1.1.2.2,SB c.2.2.1.2.1.1.1,.d aoW c.2.2.1.2.1.1.2,SB c.2.2.1.2.1.2.1,.d aoW c.2.2.1.2.1.2.2,SB c.2.2.1.2.2.1.1,.d aoW c.2.2.1.2.2.1.2,SB c.2.2.1.2.2.2.1,.d aoW c.2.2.1.2.2.2.2,SB c.2.2.2.1,SB c.2.2.2.2.1.1.1.1,.d aoW c.2.2.2.2.1.1.1.2,SB c.2.2.2.2.1.1.2.1,.d aoW c.2.2.2.2.1.1.2.2,SB c.2.2.2.2.1.2.1.1.1,.d aoW c.2.2.2.2.1.2.1.1.2,SB c.2.2.2.2.1.2.1.2.1,.d aoW c.2.2.2.2.1.2.1.2.2,SB c.2.2.2.2.1.2.2.1.1.1,.d aoW c.2.2.2.2.1.2.2.1.1.2,SB c.2.2.2.2.1.2.2.1.2.1,.d aoW c.2.2.2.2.1.2.2.1.2.2,SB c.2.2.2.2.1.2.2.2.1.1.1,.d aoW c.2.2.2.2.1.2.2.2.1.1.2,SB c.2.2.2.2.1.2.2.2.1.2.1,.d aoW c.2.2.2.2.1.2.2.2.1.2.2,SB c.2.2.2.2.1.2.2.2.2.1.1,.d aoW c.2.2.2.2.1.2.2.2.2.1.2,SB c.2.2.2.2.1.2.2.2.2.2.1,.d aoW c.2.2.2.2.1.2.2.2.2.2.2,SB c.2.2.2.2.2.1.1.1,.d aoW c.2.2.2.2.2.1.1.2,SB c.2.2.2.2.2.1.2.1,.d aoW c.2.2.2.2.2.1.2.2,SB c.2.2.2.2.2.2.1.1.1,.d aoW c.2.2.2.2.2.2.1.1.2,SB c.2.2.2.2.2.2.1.2.1,.d aoW c.2.2.2.2.2.2.1.2.2,SB c.2.2.2.2.2.2.2.1.1.1,.d aoW c.2.2.2.2.2.2.2.1.1.2,SB c.2.2.2.2.2.2.2.1.2.1,.d aoW c.2.2.2.2.2.2.2.1.2.2,SB c.2.2.2.2.2.2.2.2.1.1.1,.d aoW c.2.2.2.2.2.2.2.2.1.1.2,SB c.2.2.2.2.2.2.2.2.1.2.1,.d aoW c.2.2.2.2.2.2.2.2.1.2.2,SB c.2.2.2.2.2.2.2.2.2.1.1,.d aoW c.2.2.2.2.2.2.2.2.2.1.2,SB c.2.2.2.2.2.2.2.2.2.2.1,.d aoW c.2.2.2.2.2.2.2.2.2.2.2],.gone,.row 39 tCU r2],0,[]⟩
def ad2(c:BCU)(l:List BP)(k:KT):Option (List RV):=k 6 (Bl c l 0)
theorem ahh(c:BCU)(l:List BP):RS zO 20 [.d tCU c,.d (.sl tP) l] (ad2 c l):=rsX
def yj(c:BCU)(l:List BP)(s6:Int)(k:KT):Option (List RV):=match decide (s6<(l.length:Int))with|true=>(match aR l s6 with|some x1=>(og (decide (okC 3500 c∧okP 3500 x1)) (match !(onR (dC c) (dec x1))with|true=>some [RV.d (.sl tCU) ([]),RV.d aoX 1]|false=>k 6 (Bl c l (i64.wrap (s6+1)))))|none=>none)|false=>(og (decide ((([c.2.2.2.2.1,c.2.2.2.2.2]).length+l.length)*320≤140737488355328∧([c.2.2.2.2.1,c.2.2.2.2.2]).length+l.length≤140737488355328)) (og (decide (wz c (([c.2.2.2.2.1,c.2.2.2.2.2])++l))) (k 31 (vK c l 1 ([])))))
theorem CP(c:BCU)(l:List BP)(s6:Int):RN zO 6 (Bl c l s6) (yj c l s6):=rnX
def uF(c:BCU)(l:List BP)(s9:Int)(r2:List BCU)(k:KT):Option (List RV):=match decide (s9<((gZ (dC c) (([c.2.2.2.2.1,c.2.2.2.2.2])++l)).length:Int))with|true=>(match aR (gZ (dC c) (([c.2.2.2.2.1,c.2.2.2.2.2])++l)) (i64.wrap (s9-1))with|some x1=>(match aR (gZ (dC c) (([c.2.2.2.2.1,c.2.2.2.2.2])++l)) s9 with|some x2=>dup (.b .l .l) (og (decide ((r2.length+([(c.1,(c.2.1,(c.2.2.1,(c.2.2.2.1,(x1,x2)))))]).length)*1040≤140737488355328∧r2.length+([(c.1,(c.2.1,(c.2.2.1,(c.2.2.2.1,(x1,x2)))))]).length≤140737488355328)) (k 31 (vK c l (i64.wrap (s9+1)) (r2++([(c.1,(c.2.1,(c.2.2.1,(c.2.2.2.1,(x1,x2)))))])))))|none=>none)|none=>none)|false=>some [RV.d (.sl tCU) r2,RV.d aoX 0]
theorem zI(c:BCU)(l:List BP)(s9:Int)(r2:List BCU):RN zO 31 (vK c l s9 r2) (uF c l s9 r2):=rnX
theorem ab7(c:BCU)(l:List BP)(hle:l.length≤900000)(S:List BP)(hS:S=sM c l):∀(j i:Nat),1≤i→i+j=max S.length 1→∀out:List BCU,out.length≤i→zO.Runs 31 (vK c l (i:Int) out) [.d (.sl tCU) (out++wU c (S.drop (i-1))),.d aoX (0:Int)]:=by
 have hSl:=G5 c l
 rw[←hS]at hSl
 have eS:gZ (dC c) ([c.2.2.2.2.1,c.2.2.2.2.2]++l)=S:=hS.symm
 intro j
 induction j with
 |zero=>
  intro i h1 hi out hlen
  refine zI _ _ _ _ ⟨0,?_⟩
  unfold uF
  rw[eS,b9 (by omega)]
  have:wU c (S.drop (i-1))=[]:=by
   have hl:(S.drop (i-1)).length≤1:=by rw[an4];omega
   match S.drop (i-1),hl with
   |[],_=>rfl
   |[_],_=>rfl
   |_::_::_,h=>simp at h
  rw[this,ame]
 |succ j ih=>
  intro i h1 hi out hlen
  have hil:i<S.length:=by omega
  have e1:i64.wrap ((i:Int)-1)=((i-1:Nat):Int):=by rw[aT (by omega) (by omega)];omega
  have e2:i64.wrap ((i:Int)+1)=((i+1:Nat):Int):=bV (by omega)
  have g1:aR S ((i-1:Nat):Int)=some S[i-1]:=by rw[ao,alG (by omega)]
  have g2:aR S (i:Int)=some S[i]:=by rw[ao,alG hil]
  obtain⟨n,hn⟩:=ih (i+1) (by omega) (by omega) (out++[BZ c S[i-1] S[i]]) (by simp;omega)
  refine zI _ _ _ _ ⟨n,?_⟩
  unfold uF
  rw[eS]
  simp only[eU,bH hil,e1,e2,g1,g2]
  rw[dT (by simp;omega)]
  have hd:S.drop (i-1)=S[i-1]::S.drop i:=by
   have:=al1 (l:=S) (i:=i-1) (by omega)
   rw[this,show i-1+1=i by omega]
  have hd2:S.drop i=S[i]::S.drop (i+1):=al1 hil
  rw[hd,hd2]
  rw[show i+1-1=i by omega,hd2,al7]at hn
  exact hn
theorem acb(c:BCU)(l:List BP)(h:EK c l):∀(j i:Nat),i+j=l.length→zO.Runs 6 (Bl c l (i:Int)) [.d (.sl tCU) (lm c l),.d aoX (0:Int)]:=by
 have hs:=Tf h
 obtain⟨hc,hle,hl⟩:=h
 intro j
 induction j with
 |zero=>
  intro i hi
  obtain⟨n,hn⟩:=ab7 c l hle (sM c l) rfl (max (sM c l).length 1-1) 1 (alL _) (by omega) [] (by simp)
  refine CP _ _ _ ⟨n,?_⟩
  unfold yj
  rw[b9 (by omega),dT (by simp;omega),dT hs]
  exact hn
 |succ j ih=>
  intro i hi
  have hil:i<l.length:=by omega
  obtain⟨n,hn⟩:=ih (i+1) (by omega)
  have h1:=hl _ (amh hil)
  refine CP _ _ _ ⟨n,?_⟩
  unfold yj
  rw[bH hil,ao,alG hil,bV (by omega)]
  dsimp only
  rw[dT (show okC 3500 c∧okP 3500 l[i] from⟨hc,h1.1⟩),h1.2]
  exact hn
def agO:Cn 20 [tCU,(.sl tP)]:=cn fun(c:BCU) (l:List BP)=>lf (EK c l) [.d (.sl tCU) (lm c l),.d aoX 0] fun h=>by
 refine cZ XL (show zO.Res _ _ _ from ?_)
 obtain⟨n,hn⟩:=acb c l h l.length 0 (by omega)
 exact ahh _ _ ⟨n,hn⟩
def yL(n d:Int):Prop:=aH n∧aH d∧0<d
instance (n d:Int):Decidable (yL n d):=by unfold yL;infer_instance
def ab3:List En:=[enL AS,enL ZJ]
def RY(n d:Int)(_k:KT):Option (List RV):=match d==0 with|true=>(og (decide (aH (0:Int))) (og (decide (aH (1:Int))) (og (decide (jK (hid (ai (0:Int))) (hid (ai (1:Int))))) (some [RV.d tR (hid (fi (hid (ai (0:Int))) (hid (ai (1:Int)))))]))))|false=>(og (decide (aH n)) (og (decide (aH d)) (og (decide (jK (hid (ai n)) (hid (ai d)))) (some [RV.d tR (hid (fi (hid (ai n)) (hid (ai d))))]))))
def Ao:Cn 40 [aoX,aoX]:=cn fun(n d:Int)=>lf (yL n d) [.d tR (am (Rat.divInt n d))] fun h=>by
 refine aA ab3 (RY n d) ⟨0,?_⟩
 obtain⟨hn,hd,h0⟩:=h
 have hne:(d==0)=false:=by simp;omega
 unfold RY
 rw[hne,dT hn,dT hd]
 simp only[bO]
 rw[dT (show jK (ai n) (ai d) from⟨aU (by have:=j9 hn;omega),aU (by have:=j9 hd;omega),by rw[dec_enc];omega⟩)]
 unfold fi
 rw[dec_enc,dec_enc]
theorem Id{n d:Int}(h1:aH n)(h2:aH d)(h0:0<d):Bd (Rat.divInt n d) 3:=by
 obtain⟨k,rfl⟩:=amO (show 0≤d by omega)
 exact⟨uA (by omega) (j9 h1) (j9 h2)⟩
section
theorem Con.new_d{P:Program}{f:Nat}{args:List SV}{et:TypeId}{e:Ty}{xs:List e.D}(h:Con P f args [.new et e xs]):Con P f args [.d (.sl e) xs]:=by
 intro A w vs hI ha
 refine(h A w vs hI ha).mono ?_
 rintro en w' ⟨v,rfl,hb,css,ho,ha2,hn⟩
 refine⟨v,rfl,hb,?_⟩
 obtain⟨hlen,p,c,hv,h1,h2,h3⟩:=Rd.of_own hn ho
 subst hv
 refine⟨[.slice p xs.length c],⟨p,xs.length,c,css,rfl,rfl,h1,h2,bR (fun _ _ h=>Ty.rd_keep ⟨alL _,fun b _ hb=>hb.1,fun _ _ _=>rfl⟩ h) ha2,fun h0=>?_⟩,rfl⟩
 obtain⟨b,off,rfl,h5,h6⟩:=h3 h0
 refine⟨b,off,rfl,.inr ?_,h5,h6⟩
 rcases ho.2 with⟨h7,_⟩|⟨g,cap,cur,h7,h8,_⟩
 ·cases h7
 ·injection h7 with h7
  injection h7 with h7
  injection h7 with h7
  subst h7
  exact h8
class Bb (q:Rat) (n d:outParam Nat):Prop where
 nu:q.num.natAbs≤2^n
 de:q.den≤2^d
theorem Db{n:Int}{d a b:Nat}(hd:d≠0)(h1:n.natAbs≤2^a)(h2:d≤2^b):(mkRat n d).num.natAbs≤2^a∧(mkRat n d).den≤2^b:=by
 rw[aoH,aoI,al3 hd,al3 hd]
 constructor
 ·refine alU ?_ h1
  refine(IJ n (d.gcd n.natAbs)).resolve_right (fun h=>h ?_)
  exact Int.ofNat_dvd_left.2 (Nat.gcd_dvd_right d n.natAbs)
 ·exact alU (Nat.div_le_self _ _) h2
theorem yx{a b m n:Nat}(h:a≤2^m)(h':b≤2^n):a*b≤2^(m+n):=by
 rw[Nat.pow_add]
 exact anP h h'
theorem aeV{x y m n:Nat}(h:x≤2^m)(h':y≤2^n):x+y≤2^(mx m n+1):=by
 have h1:=alU h (Nat.pow_le_pow_right (by decide) (AI m n))
 have h2:=alU h' (Nat.pow_le_pow_right (by decide) (Bp m n))
 rw[Nat.pow_succ]
 omega
section
variable {a b:Rat} {m n d e:Nat}
instance ajs [h:Bb a m d] [h':Bb b n e]:Bb (a+b) (mx (m+e) (n+d)+1) (d+e):=by
 have d1:=a.den_pos
 have d2:=b.den_pos
 have:=Db (n:=a.num*(b.den:Int)+b.num*(a.den:Int)) (d:=a.den*b.den) (a:=mx (m+e) (n+d)+1) (b:=d+e) (aoj (by omega) (by omega)) (by
  refine alU (Int.natAbs_add_le _ _) ?_
  rw[aov,aov,ane,ane]
  exact aeV (yx h.nu h'.de) (yx h'.nu h.de)) (yx h.de h'.de)
 rw[←Rat.add_def']at this
 exact⟨this.1,this.2⟩
instance akQ [h:Bb a m d]:Bb (-a) m d:=⟨by rw[Rat.neg_num,Int.natAbs_neg];exact h.nu,h.de⟩
instance aky [h:Bb a m d] [h':Bb b n e]:Bb (a-b) (mx (m+e) (n+d)+1) (d+e):=by
 rw[aoa]
 infer_instance
instance akK [h:Bb a m d] [h':Bb b n e]:Bb (a*b) (m+n) (d+e):=by
 have d1:=a.den_pos
 have d2:=b.den_pos
 have:=Db (n:=a.num*b.num) (d:=a.den*b.den) (a:=m+n) (b:=d+e) (aoj (by omega) (by omega)) (by
  rw[aov]
  exact yx h.nu h'.nu) (yx h.de h'.de)
 rw[←Rat.mul_def']at this
 exact⟨this.1,this.2⟩
theorem aaL [h:Bb a m d]:Bb a⁻¹ d m:=by
 by_cases h0:a=0
 ·subst h0
  rw[Rat.inv_zero]
  exact⟨aoc _,Nat.one_le_two_pow⟩
 ·have hn:a.num≠0:=fun e=>h0 (Rat.num_eq_zero.1 e)
  have h1:=h.nu
  have h2:=h.de
  rw[Rat.inv_def]
  rcases anz hn with h3|h3
  ·rw[←Rat.neg_divInt_neg,show-a.num=(((-a.num).toNat:Nat):Int) by omega,an5]
   have:=Db (n:= -(a.den:Int)) (d:=(-a.num).toNat) (a:=d) (b:=m) (by omega) (by rw[Int.natAbs_neg];exact h2) (by omega)
   exact⟨this.1,this.2⟩
  ·rw[show a.num=((a.num.toNat:Nat):Int) by omega,an5]
   have:=Db (n:=(a.den:Int)) (d:=a.num.toNat) (a:=d) (b:=m) (by omega) h2 (by omega)
   exact⟨this.1,this.2⟩
instance ajl [h:Bb a m d] [h':Bb b n e]:Bb (a/b) (m+e) (d+n):=by
 rw[aom]
 have:=aaL (h:=h')
 infer_instance
theorem Xd:∀k:Nat,((2^(29*k):Nat):Int)≤pw k
 |0=>by decide
 |k+1=>by
  have ih:=Xd k
  have e:2^(29*(k+1))=2^(29*k)*536870912:=by
   rw[Nat.mul_add,Nat.pow_add]
  rw[e,b8,anb]
  have:(0:Int)≤pw k:=Int.le_trans (Int.natCast_nonneg _) ih
  omega
theorem Z4{z:Int}{n:Nat}(h:z.natAbs≤2^n):szI z≤n/29+1:=by
 have h1:=Xd (n/29+1)
 have h2:2^n<2^(29*(n/29+1)):=Nat.pow_lt_pow_right (by decide) (by omega)
 exact fh (by omega) (by omega)
theorem oE [h:Bb a m d]{k:Nat}(hm:m/29+1≤k)(hd:d/29+1≤k):Bd a k:=⟨⟨alU (Z4 h.nu) hm,alU (Z4 (z:=(a.den:Int)) h.de) hd⟩⟩
end
theorem Ih{n d:Int}{a b:Nat}(h0:0<d)(h1:n.natAbs≤2^a)(h2:d.natAbs≤2^b):Bb (Rat.divInt n d) a b:=by
 obtain⟨k,rfl⟩:=amO (show 0≤d by omega)
 rw[an5]
 have:=Db (n:=n) (d:=k) (by omega) h1 h2
 exact⟨this.1,this.2⟩
def cL(x:BO3):Prop:=ok Rat 12 x.1∧ok Rat 12 x.2.1∧ok Rat 63 x.2.2∧((dec x:Ln).1≠0∨(dec x:Ln).2.1≠0)
instance (x:BO3):Decidable (cL x):=by unfold cL;infer_instance
def cf(x:BO3):Prop:=ok Rat 4 x.1∧ok Rat 4 x.2.1∧ok Rat 13 x.2.2∧(0:Rat)<(dec x:Ln).2.2
instance (x:BO3):Decidable (cf x):=by unfold cf;infer_instance
class BdL (l:Ln):Prop where
 a:Bd l.1 12
 b:Bd l.2.1 12
 c:Bd l.2.2 63
class BdC (c:Ln):Prop where
 x:Bd c.1 4
 y:Bd c.2.1 4
 q:Bd c.2.2 13
theorem dW{x:BO3}(h:cL x):∃l:Ln,x=enc l∧BdL l∧(l.1≠0∨l.2.1≠0):=by
 obtain⟨h1,h2,h3,h4⟩:=h
 obtain⟨x1,x2,x3⟩:=x
 obtain⟨a,rfl,ba⟩:=aB h1
 obtain⟨b,rfl,bb⟩:=aB h2
 obtain⟨c,rfl,bc⟩:=aB h3
 have e:((enc a,enc b,enc c):BO3)=enc ((a,b,c):Ln):=rfl
 rw[e,az]at h4
 exact⟨(a,b,c),rfl,⟨ba,bb,bc⟩,h4⟩
theorem cJ{x:BO3}(h:cf x):∃c:Ln,x=enc c∧BdC c∧0<c.2.2:=by
 obtain⟨h1,h2,h3,h4⟩:=h
 obtain⟨x1,x2,x3⟩:=x
 obtain⟨a,rfl,ba⟩:=aB h1
 obtain⟨b,rfl,bb⟩:=aB h2
 obtain⟨c,rfl,bc⟩:=aB h3
 have e:((enc a,enc b,enc c):BO3)=enc ((a,b,c):Ln):=rfl
 rw[e,az]at h4
 exact⟨(a,b,c),rfl,⟨ba,bb,bc⟩,h4⟩
theorem kU{l:Ln}[h:BdL l](h0:l.1≠0∨l.2.1≠0):cL (enc l):=by
 have a:=h.a
 have b:=h.b
 have c:=h.c
 exact⟨alI (okd (alL _) (by decide)),alI (okd (alL _) (by decide)),alI (okd (alL _) (by decide)),by rw[az];exact h0⟩
theorem fQ{c:Ln}[h:BdC c](h0:0<c.2.2):cf (enc c):=by
 have a:=h.x
 have b:=h.y
 have c:=h.q
 exact⟨alI (okd (alL _) (by decide)),alI (okd (alL _) (by decide)),alI (okd (alL _) (by decide)),by rw[az];exact h0⟩
section
variable {l c:Ln}
instance aly [h:BdL l]:Bd l.1 12:=h.a
instance alB [h:BdL l]:Bd l.2.1 12:=h.b
instance alz [h:BdL l]:Bd l.2.2 63:=h.c
instance alD [h:BdC c]:Bd c.1 4:=h.x
instance alx [h:BdC c]:Bd c.2.1 4:=h.y
instance alE [h:BdC c]:Bd c.2.2 13:=h.q
theorem acY [h:BdL l]:Bd l 63:=⟨⟨Cod.mono _ _ _ (by decide) h.a.le,Cod.mono _ _ _ (by decide) h.b.le,h.c.le⟩⟩
theorem LY [h:BdC c]:Bd c 13:=⟨⟨Cod.mono _ _ _ (by decide) h.x.le,Cod.mono _ _ _ (by decide) h.y.le,h.q.le⟩⟩
end
def dk(l m:Ln):Rat:=l.1*m.2.1-m.1*l.2.1
def lj(l m:Ln):Rat:=l.2.2*m.2.1-m.2.2*l.2.1
def ln(l m:Ln):Rat:=l.1*m.2.2-m.1*l.2.2
def lk(l m:Ln):List Pt:=bif !decide (dk l m=0)then [atP (lj l m/dk l m,ln l m/dk l m)]else []
def LK(l m:Ln):Int:=bif !decide (dk l m=0)then 0 else bif decide (lj l m=0)&&decide (ln l m=0)then 10 else 0
def cj(l:Ln):Rat:=l.1*l.1+l.2.1*l.2.1
def vlL(l:Ln)(x y:Rat):Rat:=l.1*x+l.2.1*y-l.2.2
def jx(l c:Ln):Rat:=cj l*c.2.2-vlL l c.1 c.2.1*vlL l c.1 c.2.1
def ot(ax bx ay b_ c:Rat):Pt:=bif fM c then atP (ax+bx*rtQ c,ay+b_*rtQ c)else(ax,bx,ay,b_,c)
def ftX(l c:Ln):Rat:=c.1-vlL l c.1 c.2.1/cj l*l.1
def ftY(l c:Ln):Rat:=c.2.1-vlL l c.1 c.2.1/cj l*l.2.1
def tX(l c:Ln):Pt:=ot (ftX l c) (-(l.2.1/cj l)) (ftY l c) (-(-l.1/cj l)) (jx l c)
def se(l c:Ln):Pt:=ot (ftX l c) (l.2.1/cj l) (ftY l c) (-l.1/cj l) (jx l c)
def re(l c:Ln):List Pt:=bif decide (jx l c<0)then []else bif decide (jx l c=0)then [atP (ftX l c,ftY l c)]
 else bif decide (aX (tX l c) (se l c)>0)then [se l c,tX l c]else [tX l c,se l c]
def gM(c d:Ln):Bool:=decide (c.1=d.1)&&decide (c.2.1=d.2.1)
def qB(c:Ln):Rat:=c.1*c.1+c.2.1*c.2.1-c.2.2
def mU(c d:Ln):Ln:=(2*(d.1-c.1),2*(d.2.1-c.2.1),qB d-qB c)
def DI(c d:Ln):List Pt:=bif gM c d then []else re (mU c d) c
def VG(c d:Ln):Int:=bif gM c d then(bif decide (c.2.2=d.2.2)then 10 else 0)else 0
def vJ(c d:Ln):BO3:=bif gM c d then o00 else enc (mU c d)
def Vc(c d:Ln):Int:=bif gM c d then 6 else 0
def lU(l m:Ln):Bool:=decide (l.1*m.2.1=l.2.1*m.1)&&(decide (l.1*m.2.2=l.2.2*m.1)&&decide (l.2.1*m.2.2=l.2.2*m.2.1))
def ni(c d:Ln):Bool:=decide (c.1=d.1)&&(decide (c.2.1=d.2.1)&&decide (c.2.2=d.2.2))
def cC(a b:Cv):Bool:=bif a.1==b.1 then(bif a.1 then ni (ciC a) (ciC b)else lU (lnC a) (lnC b))else false
def pp(a:BCU):Prop:=(a.1=true→cf a.2.2.1)∧(a.1=false→cL a.2.1)
instance (a:BCU):Decidable (pp a):=by unfold pp;infer_instance
def gA(a b:BCU):Prop:=pp a∧pp b
instance (a b:BCU):Decidable (gA a b):=by unfold gA;infer_instance
def vF(a b:Cv):List Pt:=bif a.1&&b.1 then DI (ciC a) (ciC b)else bif a.1 then re (lnC b) (ciC a)else bif b.1 then re (lnC a) (ciC b)else lk (lnC a) (lnC b)
def X0(a b:Cv):Int:=bif a.1&&b.1 then VG (ciC a) (ciC b)else bif a.1 then 0 else bif b.1 then 0 else LK (lnC a) (lnC b)
def jS(c:Ln):Pt:=ot c.1 (-1) c.2.1 0 c.2.2
def jU(c:Ln):Pt:=ot c.1 1 c.2.1 0 c.2.2
theorem uy{ax bx ay b_ c:Rat}(h0:¬(bx=0∧b_=0))(hc:0≤c):Rpd (ot ax bx ay b_ c):=by
 refine⟨?_⟩
 unfold ot
 cases hq:fM c
 ·exact .inr ⟨h0,G3 hc hq,hq⟩
 ·exact .inl ⟨rfl,rfl,rfl⟩
theorem uO{ax bx ay b_ c:Rat}{j k m:Nat}(h1:Bd ax j)(h2:Bd bx k)(h3:Bd ay j)(h4:Bd b_ k)(h5:Bd c m){n:Nat}(hn:j+(k+m)+1≤n):Bd (ot ax bx ay b_ c) n:=by
 have z:bdR n 0:=bJ lR.le (by omega)
 have i1:Bd (ax+bx*rtQ c) _:=inferInstance
 have i2:Bd (ay+b_*rtQ c) _:=inferInstance
 refine⟨?_⟩
 unfold ot
 cases fM c
 ·exact⟨bJ h1.le (by omega),bJ h2.le (by omega),bJ h3.le (by omega),bJ h4.le (by omega),bJ h5.le (by omega)⟩
 ·exact⟨bJ i1.le (by omega),z,bJ i2.le (by omega),z,z⟩
section
variable {l m c d:Ln}
theorem nQ(h:l.1≠0∨l.2.1≠0):cj l≠0:=j8 h
instance ajN [BdL l] [h:BdC c]:Bd (jx l c) 257:=by
 have hx:=h.x
 have hy:=h.y
 have hq:=h.q
 have i1:Bd (cj l) 49:=inferInstanceAs (Bd (l.1*l.1+l.2.1*l.2.1) _)
 have i2:Bd (vlL l c.1 c.2.1) 97:=inferInstanceAs (Bd (l.1*c.1+l.2.1*c.2.1-l.2.2) _)
 exact(inferInstance:Bd (cj l*c.2.2-vlL l c.1 c.2.1*vlL l c.1 c.2.1) _).mono (by decide)
theorem uS [BdL l][h:BdC c]:Bd (ftX l c) 163∧Bd (ftY l c) 163∧Bd (l.2.1/cj l) 61∧Bd (l.1/cj l) 61:=by
 have hx:=h.x
 have hy:=h.y
 have i1:Bd (cj l) 49:=inferInstanceAs (Bd (l.1*l.1+l.2.1*l.2.1) _)
 have i2:Bd (vlL l c.1 c.2.1) 97:=inferInstanceAs (Bd (l.1*c.1+l.2.1*c.2.1-l.2.2) _)
 have i3:Bd (c.1-vlL l c.1 c.2.1/cj l*l.1) _:=inferInstance
 have i4:Bd (c.2.1-vlL l c.1 c.2.1/cj l*l.2.1) _:=inferInstance
 have i5:Bd (l.2.1/cj l) _:=inferInstance
 have i6:Bd (l.1/cj l) _:=inferInstance
 exact⟨i3.mono (by decide),i4.mono (by decide),i5.mono (by decide),i6.mono (by decide)⟩
end
end
end Go.Proofs.YtnkndpoojnflmaaGreat
end
