/- The law CurveMeet returns true. -/
import Derived.Test.YtgddhgcjmddjfaaGreatC20
noncomputable section
namespace Go.Proofs.YtgddhgcjmddjfaaGreat
open Go.RowKit Go.IntKind
def KK:aN:=spN true false [(.sl tP),(.sl tP)] (fun x=>decide (yN x.1 x.2.1)) (fun x=>[RV.d .bool (zx x.1 x.2.1)])
theorem Nh:SpK 23 KK:=spX fun x h=>WT x.1 x.2.1 (atS h)
def afL:Env:=[(10,De),(9,wF),(21,yE),(22,HO),(16,CB),(23,KK)]
theorem Vm:EnvAll Tryz.prog afL:=⟨z7,uG,tY,G9,Aa,Nh,trivial⟩
def PO:Ctx:=CX afL []
def Ch(x y:Pce)(b:Bool×Bool)(_k:KT):Option (List RV):=match decide (qU x)with|true=>(match decide (qU y)with|true=>(match !(lQ x)with|true=>some [RV.d .bool true]|false=>(match !(lQ y)with|true=>some [RV.d .bool true]|false=>(match b.1 with|true=>(match b.2 with|true=>(match decide (eH (hid (da (hid (aG x)))) (hid (da (hid (aG y)))))with|true=>(match decide (eH (hid (da (hid (aG x)))) (hid (da (hid (aG y)))))with|true=>(match(kW (hid (da (hid (aG x)))) (hid (da (hid (aG y)))))==(yx (hid (da (hid (aG x)))) (hid (da (hid (aG y)))))with|true=>(match decide (yN (db (hid (da (hid (aG x)))) (hid (da (hid (aG y))))) (dm (hid (da (hid (aG x)))) (hid (da (hid (aG y))))))with|true=>some [RV.d .bool (zx (db (hid (da (hid (aG x)))) (hid (da (hid (aG y))))) (dm (hid (da (hid (aG x)))) (hid (da (hid (aG y))))))]|false=>none)|false=>some [RV.d .bool false])|false=>none)|false=>none)|false=>(match decide (eH (hid (da (hid (aG x)))) (hid (aG y)))with|true=>(match decide (eH (hid (da (hid (aG x)))) (hid (aG y)))with|true=>(match(kW (hid (da (hid (aG x)))) (hid (aG y)))==(yx (hid (da (hid (aG x)))) (hid (aG y)))with|true=>(match decide (yN (db (hid (da (hid (aG x)))) (hid (aG y))) (dm (hid (da (hid (aG x)))) (hid (aG y))))with|true=>some [RV.d .bool (zx (db (hid (da (hid (aG x)))) (hid (aG y))) (dm (hid (da (hid (aG x)))) (hid (aG y))))]|false=>none)|false=>some [RV.d .bool false])|false=>none)|false=>none))|false=>(match b.2 with|true=>(match decide (eH (hid (aG x)) (hid (da (hid (aG y)))))with|true=>(match decide (eH (hid (aG x)) (hid (da (hid (aG y)))))with|true=>(match(kW (hid (aG x)) (hid (da (hid (aG y)))))==(yx (hid (aG x)) (hid (da (hid (aG y)))))with|true=>(match decide (yN (db (hid (aG x)) (hid (da (hid (aG y))))) (dm (hid (aG x)) (hid (da (hid (aG y))))))with|true=>some [RV.d .bool (zx (db (hid (aG x)) (hid (da (hid (aG y))))) (dm (hid (aG x)) (hid (da (hid (aG y))))))]|false=>none)|false=>some [RV.d .bool false])|false=>none)|false=>none)|false=>(match decide (eH (hid (aG x)) (hid (aG y)))with|true=>(match decide (eH (hid (aG x)) (hid (aG y)))with|true=>(match(kW (hid (aG x)) (hid (aG y)))==(yx (hid (aG x)) (hid (aG y)))with|true=>(match decide (yN (db (hid (aG x)) (hid (aG y))) (dm (hid (aG x)) (hid (aG y))))with|true=>some [RV.d .bool (zx (db (hid (aG x)) (hid (aG y))) (dm (hid (aG x)) (hid (aG y))))]|false=>none)|false=>some [RV.d .bool false])|false=>none)|false=>none)))))|false=>none)|false=>none
theorem OZ(x y:Pce)(b:Bool×Bool):RS PO 5 [.d fi x,.d fi y,.d (.st (.pair .bool .bool)) b] (Ch x y b):=rsX
theorem aaC(x y:Pce)(b:Bool×Bool)(hx:Ty.ok fi x)(hy:Ty.ok fi y)(_:Ty.ok (.st (.pair .bool .bool)) b):Con Tryz.prog 5 [.d fi x,.d fi y,.d (.st (.pair .bool .bool)) b] [.d .bool true]:=by
 have h1:=rQ hx
 have h2:=rQ hy
 have fin:∀c d,gdN c→gdN d→(match decide (eH c d)with|true=>(match decide (eH c d)with|true=>(match kW c d==yx c d with|true=>(match decide (yN (db c d) (dm c d))with|true=>some [RV.d .bool (zx (db c d) (dm c d))]|false=>none)|false=>some [RV.d .bool false])|false=>none)|false=>none)=some [RV.d .bool true]:=by
  intro c d hc hd
  rw[dT (show eH c d from⟨hc.1,hd.1⟩),RX hc hd,awo,dT (RJ ⟨hc.1,hd.1⟩),abu (Ld hc hd)]
 refine aP Vm (OZ _ _ _ ⟨0,?_⟩)
 unfold Ch
 simp only[ak]
 rw[dT h1,dT h2]
 cases ho:lQ x
 ·rfl
 ·cases hp:lQ y
  ·rfl
  ·have gx:=nf h1 ho
   have gy:=nf h2 hp
   obtain⟨b1,b2⟩:=b
   cases b1<;>cases b2
   ·exact fin _ _ gx gy
   ·exact fin _ _ gx gy.rev
   ·exact fin _ _ gx.rev gy
   ·exact fin _ _ gx.rev gy.rev
end Go.Proofs.YtgddhgcjmddjfaaGreat
end
