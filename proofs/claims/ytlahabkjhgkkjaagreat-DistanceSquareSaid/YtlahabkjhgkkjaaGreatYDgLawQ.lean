/- The law DistanceSquare returns true. -/
import Derived.Test.YtlahabkjhgkkjaaGreatY18
import Derived.Test.YtlahabkjhgkkjaaGreatYGeH
noncomputable section
namespace Go.Proofs.YtlahabkjhgkkjaaGreat
open Go.RowKit Go.IntKind
def fi:aO:=spN false true [y3Y] (fun x=>decide (gJ x.1)) (fun x=>[RV.d tV (hid (enc (cE x.1)))])
theorem fE:SpK 13 fi:=spX fun x h=>by simp only[ak];exact nG x.1 (au0 h)
def afy:Env:=[(11,tb),(12,qr),(13,fi),(16,tM),(14,AT),(15,wX),(17,vV),(18,Bt),(19,rU),(20,lK)]
theorem Rg:EnvAll Tryz.prog afy:=⟨mY,oS,fE,mR,wL,rH,rM,Ad,nz,i7,trivial⟩
def aoO:Ctx:=CX afy []
def agU(x:Pce)(s:Int×Int×Int)(_k:KT):Option (List RV):=match decide (pZ x)with|true=>(match !(o9 x)with|true=>some [RV.d .bool true]|false=>(match decide (gJ s)with|true=>(match decide (gdC (hid (dg x))∧ok (Rat×Rat) 200 (hid (enc (cE s))))with|true=>(match decide (okC 500 (hid (dg x))∧ok (Rat×Rat) 200 (hid (enc (cE s))))with|true=>(match decide (okT 15000 (hid (enc (cd (dC (hid (dg x))) (dec (hid (enc (cE s)))))))∧okT 15000 (hid (enc (cd (dC (hid (dg x))) (dec (hid (enc (cE s))))))))with|true=>(match bI (dec (hid (enc (cd (dC (hid (dg x))) (dec (hid (enc (cE s)))))))) (dec (hid (enc (cd (dC (hid (dg x))) (dec (hid (enc (cE s))))))))==0 with|true=>(match decide (okC 500 (hid (iK (hid (dg x))))∧ok (Rat×Rat) 200 (hid (enc (cE s))))with|true=>(match decide (okT 15000 (hid (enc (cd (dC (hid (iK (hid (dg x))))) (dec (hid (enc (cE s)))))))∧okT 15000 (hid (enc (cd (dC (hid (dg x))) (dec (hid (enc (cE s))))))))with|true=>(match bI (dec (hid (enc (cd (dC (hid (iK (hid (dg x))))) (dec (hid (enc (cE s)))))))) (dec (hid (enc (cd (dC (hid (dg x))) (dec (hid (enc (cE s))))))))==0 with|true=>(match decide (okT 90000 (hid (enc (cd (dC (hid (dg x))) (dec (hid (enc (cE s))))))))with|true=>(match decide (ok (Rat×Rat) 100000 (hid (enc (cE s))))with|true=>(match decide (okC 3500 (hid (dg x))∧okP 3500 (hid (enc (atP (dec (hid (enc (cE s))))))))with|true=>some [RV.d .bool (((sgR (dec (hid (enc (cd (dC (hid (dg x))) (dec (hid (enc (cE s)))))))))==0)==(onR (dC (hid (dg x))) (dec (hid (enc (atP (dec (hid (enc (cE s))))))))))]|false=>none)|false=>none)|false=>none)|false=>some [RV.d .bool false])|false=>none)|false=>none)|false=>some [RV.d .bool false])|false=>none)|false=>none)|false=>none)|false=>none))|false=>none
theorem apY(x:Pce)(s:Int×Int×Int):RS aoO 3 [.d ko x,.d y3Y s] (agU x s):=rsX
theorem aa1(x:Pce)(s:Int×Int×Int)(hx:Ty.ok ko x)(hs:Ty.ok y3Y s):Con Tryz.prog 3 [.d ko x,.d y3Y s] [.d .bool true]:=by
 have h1:=CK hx
 have h2:=FF hs
 refine aR Rg (apY _ _ ⟨0,?_⟩)
 unfold agU
 rw[dT h1]
 cases ho:o9 x
 ·rfl
 ·have hg:=J9 h1 ho
  have hr:=L5 hg
  have bv6:=CU h2
  have bv:Bd (cE s) 200:=bv6.mono (by decide)
  obtain⟨b1,r1⟩:=dO hg.1.1 (v:=cE s)
  obtain⟨b2,r2⟩:=dO hr.1.1 (v:=cE s)
  have v1:ok (Rat×Rat) 200 (enc (cE s)):=sR h2 (by decide) (by decide)
  have o1:okT 15000 (enc (cd (dC (dg x)) (cE s))):=au0 (bh (by decide) (by decide))
  have o2:okT 15000 (enc (cd (dC (iK (dg x))) (cE s))):=au0 (bh (by decide) (by decide))
  have o3:okT 90000 (enc (cd (dC (dg x)) (cE s))):=au0 (bh (by decide) (by decide))
  have o4:okP 3500 (enc (atP (cE s))):=iG (by decide) (by decide)
  have o5:ok (Rat×Rat) 100000 (enc (cE s)):=sR h2 (by decide) (by decide)
  have e1:=RE.cmpT_same r1 r1 rfl
  have e2:=RE.cmpT_same r2 r1 (RE.dis_rev hg (cE s))
  have e3:=RE.dis_zero hg (v:=cE s)
  simp only[ak,am,dT h2,dT o5,dT (show gdC (dg x)∧ok (Rat×Rat) 200 (enc (cE s)) from⟨hg.gd,v1⟩),dT (show okC 500 (dg x)∧ok (Rat×Rat) 200 (enc (cE s)) from⟨hg.1.1,v1⟩),dT (show okC 500 (iK (dg x))∧ok (Rat×Rat) 200 (enc (cE s)) from⟨hr.1.1,v1⟩),dT (show okT 15000 _∧okT 15000 _ from⟨o1,o1⟩),dT (show okT 15000 _∧okT 15000 _ from⟨o2,o1⟩),dT o3,dT (show okC 3500 (dg x)∧okP 3500 (enc (atP (cE s))) from⟨dK hg.1.1 (by decide) (by decide),o4⟩),e1,e2,e3]
  simp
end Go.Proofs.YtlahabkjhgkkjaaGreat
end
