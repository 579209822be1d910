/- The law DistanceCmp returns true. -/
import Derived.Test.YtlahabkjhgkkjaaGreatY18
noncomputable section
namespace Go.Proofs.YtlahabkjhgkkjaaGreat
open Go.RowKit Go.IntKind
def fi:aO:=spN false true [y3Y] (fun x=>decide (gJ x.1)) (fun x=>[RV.d tV (hid (enc (cE x.1)))])
theorem fE:SpK 13 fi:=spX fun x h=>by simp only[ak];exact nG x.1 (au0 h)
def aeL:Env:=[(11,tb),(12,qr),(13,fi),(22,XI),(21,HM),(23,V7)]
theorem RR:EnvAll Tryz.prog aeL:=⟨mY,oS,fE,YA,E1,TF,trivial⟩
def aoe:Ctx:=CX aeL []
def agX(x:Pce)(s:Int×Int×Int)(n:Int)(_k:KT):Option (List RV):=match decide (pZ x)with|true=>(match !(o9 x)with|true=>some [RV.d .bool true]|false=>(match decide (gJ s)with|true=>(match decide (i8P n)with|true=>(match decide (okC 500 (hid (dg x))∧ok (Rat×Rat) 200 (hid (enc (cE s)))∧ok Rat 1000 (hid (ai (Rat.divInt n 4))))with|true=>(match decide (gJ s)with|true=>(match decide (i8P n)with|true=>(match decide (gdC (hid (dg x))∧ok (Rat×Rat) 200 (hid (enc (cE s)))∧ok Rat 1000 (hid (ai (Rat.divInt n 4))))with|true=>some [RV.d .bool ((ux (dC (hid (dg x))) (dec (hid (enc (cE s)))) (ae (hid (ai (Rat.divInt n 4)))))==(ux (dC (hid (dg x))) (dec (hid (enc (cE s)))) (ae (hid (ai (Rat.divInt n 4))))))]|false=>none)|false=>none)|false=>none)|false=>none)|false=>none)|false=>none))|false=>none
theorem aqh(x:Pce)(s:Int×Int×Int)(n:Int):RS aoe 4 [.d ko x,.d y3Y s,.d (.int .i8) n] (agX x s n):=rsX
theorem aaH(x:Pce)(s:Int×Int×Int)(n:Int)(hx:Ty.ok ko x)(hs:Ty.ok y3Y s)(hn:Ty.ok (.int .i8) n):Con Tryz.prog 4 [.d ko x,.d y3Y s,.d (.int .i8) n] [.d .bool true]:=by
 have h1:=CK hx
 have h2:=FF hs
 have h3:=wT hn
 refine aR RR (aqh _ _ _ ⟨0,?_⟩)
 unfold agX
 rw[dT h1]
 cases ho:o9 x
 ·rfl
 ·have hg:=UM h1 ho
  simp only[ak]
  rw[dT h2,dT h3,dT (show okC 500 (dg x)∧ok (Rat×Rat) 200 (enc (cE s))∧ok Rat 1000 (ai (Rat.divInt n 4)) from⟨hg.1,sR h2 (by decide) (by decide),Ru h3 (by decide) (by decide)⟩),dT (show gdC (dg x)∧ok (Rat×Rat) 200 (enc (cE s))∧ok Rat 1000 (ai (Rat.divInt n 4)) from⟨hg,sR h2 (by decide) (by decide),Ru h3 (by decide) (by decide)⟩)]
  simp
end Go.Proofs.YtlahabkjhgkkjaaGreat
end
