/- The law DistancePoint returns true. -/
import Derived.Test.YtlahabkjhgkkjaaGreatX20
noncomputable section
namespace Go.Proofs.YtlahabkjhgkkjaaGreat
open Go.RowKit Go.IntKind
def agf:Env:=[(11,GI),(12,Bx),(40,t9),(22,Fb),(41,Fx),(42,PR),(17,uV),(43,Ja),(21,Gd)]
theorem R9:EnvAll Tryz.prog agf:=⟨Cx,zz,sF,De,C3,SW,qo,Mv,C0,trivial⟩
def aps:Ctx:=CX agf []
def ae0(x:Pce)(y:Plc)(n:Int)(_k:KT):Option (List RV):=match decide (uq x)with|true=>(match !(wC x)with|true=>some [RV.d .bool true]|false=>(match decide (Ey y)with|true=>(match decide (i8P n)with|true=>(match decide (okC 580 (hid (gk x))∧okP 150 (hid (enc (dU y)))∧ok Rat 1000 (hid (ag (Rat.divInt n 4))))with|true=>(match decide (okC 580 (hid (gk x))∧okP 150 (hid (enc (dU y)))∧ok Rat 1000 (hid (ag (Rat.divInt n 4))))with|true=>(match(RE.poiE (dC (hid (gk x))) (RE.pR (dec (hid (enc (dU y))))) (ae (hid (ag (Rat.divInt n 4))))) !=(RE.poiE (dC (hid (gk x))) (RE.pR (dec (hid (enc (dU y))))) (ae (hid (ag (Rat.divInt n 4)))))with|true=>some [RV.d .bool false]|false=>(match decide (okC 580 (hid (jj (hid (gk x))))∧okP 150 (hid (enc (dU y)))∧ok Rat 1000 (hid (ag (Rat.divInt n 4))))with|true=>(match(RE.poiE (dC (hid (jj (hid (gk x))))) (RE.pR (dec (hid (enc (dU y))))) (ae (hid (ag (Rat.divInt n 4))))) !=(RE.poiE (dC (hid (gk x))) (RE.pR (dec (hid (enc (dU y))))) (ae (hid (ag (Rat.divInt n 4)))))with|true=>some [RV.d .bool false]|false=>(match decide (okP 4000 (hid (enc (dU y))))with|true=>(match !(EC (dec (hid (enc (dU y)))))with|true=>some [RV.d .bool true]|false=>(match decide (okC 500 (hid (gk x))∧ok (Rat×Rat) 200 (hid (Gq (dec (hid (enc (dU y))))))∧ok Rat 1000 (hid (ag (Rat.divInt n 4))))with|true=>some [RV.d .bool ((xq (dC (hid (gk x))) (dec (hid (Gq (dec (hid (enc (dU y))))))) (ae (hid (ag (Rat.divInt n 4)))))==(RE.poiE (dC (hid (gk x))) (RE.pR (dec (hid (enc (dU y))))) (ae (hid (ag (Rat.divInt n 4))))))]|false=>none))|false=>none))|false=>none))|false=>none)|false=>none)|false=>none)|false=>none))|false=>none
theorem aoJ(x:Pce)(y:Plc)(n:Int):RS aps 9 [.d ti x,.d td y,.d (.int .i8) n] (ae0 x y n):=rsX
theorem abp(x:Pce)(y:Plc)(n:Int)(hx:Ty.ok ti x)(hy:Ty.ok td y)(hn:Ty.ok (.int .i8) n):Con Tryz.prog 9 [.d ti x,.d td y,.d (.int .i8) n] [.d .bool true]:=by
 have h1:=P7 hx
 have h2:=I4 hy
 have h3:=oo hn
 refine aP R9 (aoJ _ _ _ ⟨0,?_⟩)
 unfold ae0
 rw[dT h1]
 cases ho:wC x
 ·rfl
 ·have hg:=JI h1 ho
  have hr:=acW hg
  obtain⟨bp,rp⟩:=SC h2
  have oP:okP 150 (enc (dU y)):=at6 (aZ (by decide) (by decide))
  have oP4:okP 4000 (enc (dU y)):=at6 (aZ (by decide) (by decide))
  have oR:ok Rat 1000 (ag (Rat.divInt n 4)):=O7 h3 (by decide) (by decide)
  have c1:=dt (k:=580) hg.1.1 (by decide) (by decide)
  have c2:=dt (k:=580) hr.1.1 (by decide) (by decide)
  have e:∀z:Int,(z !=z)=false:=fun z=>by simp
  have er:=RE.poi_rev (gk x) (RE.pR (dU y)) (Rat.divInt n 4)
  simp only[aj,am,az,dT h2,dT h3,dT (show okC 580 (gk x)∧okP 150 (enc (dU y))∧ok Rat 1000 (ag (Rat.divInt n 4)) from⟨c1,oP,oR⟩),dT (show okC 580 (jj (gk x))∧okP 150 (enc (dU y))∧ok Rat 1000 (ag (Rat.divInt n 4)) from⟨c2,oP,oR⟩),er,e,dT oP4,Bool.not_true]
  cases hf:EC (dU y)
  ·rfl
  ·have bv:Bd (((dU y).1,(dU y).2.2.1):Rat×Rat) 200:=(inferInstance:Bd (((dU y).1,(dU y).2.2.1):Rat×Rat) _).mono (by decide)
   have ev:Gq (dU y)=enc (((dU y).1,(dU y).2.2.1):Rat×Rat):=by
    unfold Gq
    rw[hf];rfl
   have v1:ok (Rat×Rat) 200 (enc (((dU y).1,(dU y).2.2.1):Rat×Rat)):=at6 (okd (by decide) (by decide))
   have ep:=RE.poi_rat hg.e (qc hg.1.1 (v:=((dU y).1,(dU y).2.2.1))).2 (Rat.divInt n 4)
   rw[ev,RE.rap_vE hf,ep]
   simp only[am,dT (show okC 500 (gk x)∧ok (Rat×Rat) 200 (enc (((dU y).1,(dU y).2.2.1):Rat×Rat))∧ok Rat 1000 (ag (Rat.divInt n 4)) from⟨hg.1.1,v1,oR⟩),Bool.not_true,beq_self_eq_true]
end Go.Proofs.YtlahabkjhgkkjaaGreat
end
