/- The law DistanceNearest returns true. -/
import Derived.Test.YtlahabkjhgkkjaaGreatY18
import Derived.Test.YtlahabkjhgkkjaaGreatYNeA
noncomputable section
namespace Go.Proofs.YtlahabkjhgkkjaaGreat
open Go.RowKit Go.IntKind
def fi:aO:=spN false true [y3Y] (fun x=>decide (gJ x.1)) (fun x=>[RV.d tV (hid (enc (cE x.1)))])
theorem fE:SpK 13 fi:=spX fun x h=>by simp only[ak];exact nG x.1 (au0 h)
def ahU:Env:=[(11,tb),(34,Bo),(13,fi),(36,CB),(35,J8),(29,uW),(38,Kb),(39,CP),(37,CC),(15,wX)]
theorem Pp:EnvAll Tryz.prog ahU:=⟨mY,yU,fE,Ax,N9,tD,ON,zr,Aq,rH,trivial⟩
def aqI:Ctx:=CX ahU []
def ag9(l:List Dr)(s:Int×Int×Int)(_k:KT):Option (List RV):=let y1:=wA l (6:Int);let y2:=hid (enc (cE s));let y3:=Oj y1 (dec y2);let y4:=o0 y1 (dec y2);let y5:Option (List RV):=match decide (sJ y1 y2)with|true=>(match(y1.length:Int)==0 with|true=>(match(y3.length:Int)==0 with|true=>(match(EQ y1)==1 with|true=>some [RV.d .bool (((((y4.1).2).2).length:Int)==0)]|false=>some [RV.d .bool false])|false=>some [RV.d .bool false])|false=>(match decide (H9 y1 y2)with|true=>(match decide (y3.length≤1000000)with|true=>(match decide (y3=y3)with|true=>(match(EQ y1)==0 with|true=>dup (.b .l (.b .l .l)) (match decide (AU y1 y2)with|true=>(match decide (okT 15000 y4∧okT 15000 y4)with|true=>some [RV.d .bool (bI (dec y4) (dec y4)==0)]|false=>none)|false=>none)|false=>dup (.b .l (.b .l .l)) (some [RV.d .bool false]))|false=>dup (.b .l (.b .l .l)) (some [RV.d .bool false]))|false=>none)|false=>none))|false=>none;match decide (Jg l (6:Int))with|true=>(match !(DG l (6:Int))with|true=>some [RV.d .bool true]|false=>(match decide (gJ s)with|true=>(match decide (y1.length≤100000)with|true=>(match decide (sJ y1 y2)with|true=>cQ (match decide (y1.length≤100000)with|true=>dup (.b .l .l) y5|false=>none) (match decide (y1.length≤100000)with|true=>y5|false=>none)|false=>none)|false=>none)|false=>none))|false=>none
theorem arG(l:List Dr)(s:Int×Int×Int):RS aqI 8 [.d (.sl tDr) l,.d y3Y s] (ag9 l s):=rsX
theorem aby(l:List Dr)(s:Int×Int×Int)(hl:Ty.ok (.sl tDr) l)(hs:Ty.ok y3Y s):Con Tryz.prog 8 [.d (.sl tDr) l,.d y3Y s] [.d .bool true]:=by
 have h1:∀x∈l,pW x:=fun x hx=>K7 (hl.2 x hx)
 have h2:=FF hs
 have hP:Jg l 6:=⟨by decide,by decide,h1⟩
 have hg:=ajY h1 6
 refine aR Pp (arG _ _ ⟨0,?_⟩)
 unfold ag9
 cases hb:DG l 6
 ·simp only[dT hP,Bool.not_false]
 ·have hlen:(wA l 6).length≤6:=by
   unfold DG at hb
   have:=au0 (avL.1 hb).2
   omega
  have bv6:=CU h2
  have bv:Bd (cE s) 200:=bv6.mono (by decide)
  have v1:ok (Rat×Rat) 200 (enc (cE s)):=mr
  generalize wA l 6=L at hg hlen ⊢
  have p1:sJ L (enc (cE s)):=⟨by omega,fun c hc=>(hg c hc).1.1,v1⟩
  have p2:H9 L (enc (cE s)):=⟨by omega,fun c hc=>(hg c hc).gd,v1⟩
  have p3:L.length≤100000:=by omega
  cases L with
  |nil=>
   simp only[au,aP,ak,am,dT hP,dT h2,dT p1,dT p3,Bool.not_true]
   rfl
  |cons c r=>
   have p4:AU (c::r) (enc (cE s)):=⟨p2,by simp⟩
   have f:=Cu (v:=cE s) (c:=c) (r:=r) fun d hd=>(hg d hd).1.1
   have e:o0 (c::r) (cE s)=enc (Ga (cE s) c r):=rfl
   have e1:=RE.cmpT_same f.2 f.2 rfl
   have e2:(((c::r).length:Int)==0)=false:=by simp;omega
   have e3:(Oj (c::r) (cE s)).length≤1000000:=avm (JS _ _ _ _) (by omega)
   have e4:(EQ (c::r)==0)=true:=rfl
   simp only[au,aP,ak,am,dT hP,dT h2,dT p1,dT p2,dT p3,dT p4,Bool.not_true,e,e1,e2,dT e3,e4,dT (show okT 15000 _∧okT 15000 _ from⟨f.t,f.t⟩),ave]
end Go.Proofs.YtlahabkjhgkkjaaGreat
end
