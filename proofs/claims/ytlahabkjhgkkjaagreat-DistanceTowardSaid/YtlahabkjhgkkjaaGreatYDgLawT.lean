/- The law DistanceToward returns true. -/
import Derived.Test.YtlahabkjhgkkjaaGreatY18
noncomputable section
namespace Go.Proofs.YtlahabkjhgkkjaaGreat
open Go.RowKit Go.IntKind
def fi:aO:=spN false true [y3Y] (fun x=>decide (gJ x.1)) (fun x=>[RV.d tV (hid (enc (cE x.1)))])
theorem fE:SpK 13 fi:=spX fun x h=>by simp only[ak];exact nG x.1 (au0 h)
def agu:Env:=[(11,tb),(12,qr),(13,fi),(24,Hv),(25,HG)]
theorem PV:EnvAll Tryz.prog agu:=⟨mY,oS,fE,E0,FU,trivial⟩
def ask:Ctx:=CX agu []
def afD(x:Pce)(s:Int×Int×Int)(_k:KT):Option (List RV):=match decide (pZ x)with|true=>(match !(o9 x)with|true=>some [RV.d .bool true]|false=>(match decide (gJ s)with|true=>(match decide (okC 500 (hid (dg x))∧ok (Rat×Rat) 510 (hid (enc (cE s))))with|true=>(match decide (gJ s)with|true=>(match decide (gdC (hid (dg x))∧ok (Rat×Rat) 510 (hid (enc (cE s))))with|true=>some [RV.d .bool ((jj (dC (hid (dg x))) (dec (hid (enc (cE s)))))==(jj (dC (hid (dg x))) (dec (hid (enc (cE s))))))]|false=>none)|false=>none)|false=>none)|false=>none))|false=>none
theorem aoH(x:Pce)(s:Int×Int×Int):RS ask 5 [.d ko x,.d y3Y s] (afD x s):=rsX
theorem aau(x:Pce)(s:Int×Int×Int)(hx:Ty.ok ko x)(hs:Ty.ok y3Y s):Con Tryz.prog 5 [.d ko x,.d y3Y s] [.d .bool true]:=by
 have h1:=CK hx
 have h2:=FF hs
 refine aR PV (aoH _ _ ⟨0,?_⟩)
 unfold afD
 rw[dT h1]
 cases ho:o9 x
 ·rfl
 ·have hg:=UM h1 ho
  simp only[ak]
  rw[dT h2,dT (show okC 500 (dg x)∧ok (Rat×Rat) 510 (enc (cE s)) from⟨hg.1,sR h2 (by decide) (by decide)⟩),dT (show gdC (dg x)∧ok (Rat×Rat) 510 (enc (cE s)) from⟨hg,sR h2 (by decide) (by decide)⟩)]
  simp
end Go.Proofs.YtlahabkjhgkkjaaGreat
end
