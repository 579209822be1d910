/- Segments and arcs through points: the reference's contracts. -/
import Derived.Test.YtgddhgcjmddjfaaGreatC14
import Derived.Test.YtgddhgcjmddjfaaGreatC11
import Derived.Test.YtgddhgcjmddjfaaGreatC12
noncomputable section
namespace Go.Proofs.YtgddhgcjmddjfaaGreat
open Go.RowKit Go.IntKind
theorem aub:type_of% @List.mem_cons_of_mem:=@List.mem_cons_of_mem
theorem avH:type_of% @List.not_mem_nil:=@List.not_mem_nil
theorem awM:type_of% @or_false:=@or_false
abbrev r00:BR:=((false,[]),(false,[]))
abbrev o00:BO3:=(r00,r00,r00)
abbrev p00:BP:=(r00,r00,r00,r00,r00)
abbrev c00:BCU:=(false,o00,o00,false,p00,p00)
def r8(a b:Rat×Rat):Ln:=(a.2-b.2,b.1-a.1,(a.2-b.2)*a.1+(b.1-a.1)*a.2)
def vi(a b:Rat×Rat):Bool:=decide (a.2-b.2=0)&&decide (b.1-a.1=0)
def Aq(a b:Rat×Rat):BO3:=bif vi a b then o00 else enc (r8 a b)
def An(a b:Rat×Rat):Int:=bif vi a b then 6 else 0
def dw(a b c:Rat×Rat):Rat:=(b.1-a.1)*(c.2-a.2)-(b.2-a.2)*(c.1-a.1)
def vL(a b c:Rat×Rat):Rat:=(((b.1-a.1)*(b.1-a.1)+(b.2-a.2)*(b.2-a.2))*(c.2-a.2)-((c.1-a.1)*(c.1-a.1)+(c.2-a.2)*(c.2-a.2))*(b.2-a.2))/(dw a b c+dw a b c)
def vI(a b c:Rat×Rat):Rat:=(((c.1-a.1)*(c.1-a.1)+(c.2-a.2)*(c.2-a.2))*(b.1-a.1)-((b.1-a.1)*(b.1-a.1)+(b.2-a.2)*(b.2-a.2))*(c.1-a.1))/(dw a b c+dw a b c)
def pP(a b c:Rat×Rat):Ln:=(a.1+vL a b c,a.2+vI a b c,vL a b c*vL a b c+vI a b c*vI a b c)
def Ax(a b c:Rat×Rat):BO3:=bif decide (dw a b c=0)then o00 else enc (pP a b c)
def Aw(a b c:Rat×Rat):Int:=bif decide (dw a b c=0)then 6 else 0
def rl(a b c:Rat×Rat):Int:=aS ((b.1-a.1)*(c.2-a.2)) ((b.2-a.2)*(c.1-a.1))
def Fr(a b:Rat×Rat):BCU:=bif vi a b then c00 else(false,enc (r8 a b),o00,false,enc (atP a),enc (atP b))
def pU(a b:Rat×Rat):Int:=bif vi a b then 6 else 0
def Gm(a b c:Rat×Rat):BCU:=bif decide (dw a b c=0)then c00 else(true,o00,enc (pP a b c),decide (rl a b c<0),enc (atP a),enc (atP c))
def pN(a b c:Rat×Rat):Int:=bif decide (dw a b c=0)then 6 else 0
theorem aiE(a b c:Rat×Rat):(rl a b c==0)=decide (dw a b c=0):=by
 unfold rl dw
 rw[aE]
 exact avX.2 (by constructor<;>intro h<;>grind)
instance as1 {a b:Rat×Rat} {i j:Nat} [h:Bd a i] [h':Bd b j]:Bd (r8 a b) (4*i+2*j+3):=by
 have i1:Bd ((a.2-b.2,b.1-a.1,(a.2-b.2)*a.1+(b.1-a.1)*a.2):Ln) _:=inferInstance
 exact i1.mono (kE (by omega) (kE (by omega) (by omega)))
def Gu:Env:=[(69,jI),(92,qE),(168,qv),(86,nC),(38,t3),(133,Dc),(132,Cs),(94,wX),(193,Cz)]
theorem tC:EnvAll Tryz.prog Gu:=⟨gN,mB,mg,jT,qq,BX,Cd,vc,AX,trivial⟩
def al6:Ctx:=CX Gu []
def RR(a b:BV)(_k:KT):Option (List RV):=match decide (okR a.2∧okR b.2)with|true=>(match decide (okR b.1∧okR a.1)with|true=>(match decide (okR (hid (ai (ae a.2-ae b.2))))with|true=>(match(aS (ae (hid (ai (ae a.2-ae b.2)))) 0)==0 with|true=>(match decide (okR (hid (ai (ae b.1-ae a.1))))with|true=>(match(aS (ae (hid (ai (ae b.1-ae a.1)))) 0)==0 with|true=>some [RV.d tO (((false,[]),(false,[])),(((false,[]),(false,[])),((false,[]),(false,[])))),RV.d axf 6]|false=>(match decide (okR (hid (ai (ae a.2-ae b.2)))∧okR a.1)with|true=>(match decide (okR (hid (ai (ae b.1-ae a.1)))∧okR a.2)with|true=>(match decide (okR (hid (ai (ae (hid (ai (ae a.2-ae b.2)))*ae a.1)))∧okR (hid (ai (ae (hid (ai (ae b.1-ae a.1)))*ae a.2))))with|true=>some [RV.d tO (hid (ai (ae a.2-ae b.2)),(hid (ai (ae b.1-ae a.1)),hid (ai (ae (hid (ai (ae (hid (ai (ae a.2-ae b.2)))*ae a.1)))+ae (hid (ai (ae (hid (ai (ae b.1-ae a.1)))*ae a.2))))))),RV.d axf 0]|false=>none)|false=>none)|false=>none))|false=>none)|false=>(match decide (okR (hid (ai (ae a.2-ae b.2)))∧okR a.1)with|true=>(match decide (okR (hid (ai (ae b.1-ae a.1)))∧okR a.2)with|true=>(match decide (okR (hid (ai (ae (hid (ai (ae a.2-ae b.2)))*ae a.1)))∧okR (hid (ai (ae (hid (ai (ae b.1-ae a.1)))*ae a.2))))with|true=>some [RV.d tO (hid (ai (ae a.2-ae b.2)),(hid (ai (ae b.1-ae a.1)),hid (ai (ae (hid (ai (ae (hid (ai (ae a.2-ae b.2)))*ae a.1)))+ae (hid (ai (ae (hid (ai (ae b.1-ae a.1)))*ae a.2))))))),RV.d axf 0]|false=>none)|false=>none)|false=>none))|false=>none)|false=>none)|false=>none
theorem aj1(a b:BV):RS al6 136 [.d tV a,.d tV b] (RR a b):=rsX
theorem UJ(a b:BV)(h:ok (Rat×Rat) 100 a∧ok (Rat×Rat) 100 b):Con Tryz.prog 136 [.d tV a,.d tV b] [.d tO (Aq (dec a) (dec b)),.d axf (An (dec a) (dec b))]:=by
 refine aP tC (aj1 _ _ ⟨0,?_⟩)
 obtain⟨ha,hb⟩:=h
 obtain⟨a,rfl,ba⟩:=aZ ha
 obtain⟨b,rfl,bb⟩:=aZ hb
 unfold RR Aq An vi
 simp only[ak,aq,aI,aL,aF,az,aX,atW,atY,Nat.reduceAdd,Nat.reduceLeDiff,aE]
 cases decide (a.2-b.2=0)<;>cases decide (b.1-a.1=0)<;>rfl
def amT:Ctx:=CX Gu []
def afD(a b c:BV)(_k:KT):Option (List RV):=match decide (okR b.1∧okR a.1)with|true=>(match decide (okR c.2∧okR a.2)with|true=>(match decide (okR (hid (ai (ae b.1-ae a.1)))∧okR (hid (ai (ae c.2-ae a.2))))with|true=>(match decide (okR b.2∧okR a.2)with|true=>(match decide (okR c.1∧okR a.1)with|true=>(match decide (okR (hid (ai (ae b.2-ae a.2)))∧okR (hid (ai (ae c.1-ae a.1))))with|true=>(match decide (okR (hid (ai (ae (hid (ai (ae b.1-ae a.1)))*ae (hid (ai (ae c.2-ae a.2))))))∧okR (hid (ai (ae (hid (ai (ae b.2-ae a.2)))*ae (hid (ai (ae c.1-ae a.1)))))))with|true=>some [RV.d axf (aS (ae (hid (ai (ae (hid (ai (ae b.1-ae a.1)))*ae (hid (ai (ae c.2-ae a.2))))))) (ae (hid (ai (ae (hid (ai (ae b.2-ae a.2)))*ae (hid (ai (ae c.1-ae a.1))))))))]|false=>none)|false=>none)|false=>none)|false=>none)|false=>none)|false=>none)|false=>none
theorem aqR(a b c:BV):RS amT 137 [.d tV a,.d tV b,.d tV c] (afD a b c):=rsX
theorem ach(a b c:BV)(h:ok (Rat×Rat) 100 a∧ok (Rat×Rat) 100 b∧ok (Rat×Rat) 100 c):Con Tryz.prog 137 [.d tV a,.d tV b,.d tV c] [.d axf (rl (dec a) (dec b) (dec c))]:=by
 refine aP tC (aqR _ _ _ ⟨0,?_⟩)
 obtain⟨ha,hb,hc⟩:=h
 obtain⟨a,rfl,ba⟩:=aZ ha
 obtain⟨b,rfl,bb⟩:=aZ hb
 obtain⟨c,rfl,bc⟩:=aZ hc
 unfold afD
 simp only[ak,aq,aI,aL,aF,az,aX,atW,atY,Nat.reduceAdd,Nat.reduceLeDiff]
 rfl
def ak9:Ctx:=CX Gu []
def Tt(a b c:BV)(_k:KT):Option (List RV):=let y1:=hid (ai (ae b.1-ae a.1));let y2:=hid (ai (ae c.2-ae a.2));let y3:=hid (ai (ae b.2-ae a.2));let y4:=hid (ai (ae c.1-ae a.1));let y5:=hid (ai (ae y1*ae y2));let y6:=hid (ai (ae y3*ae y4));let y7:=hid (ai (ae y5-ae y6));let y8:=hid (ai (ae y1*ae y1));let y9:=hid (ai (ae y3*ae y3));let y10:=hid (ai (ae y4*ae y4));let y11:=hid (ai (ae y2*ae y2));let y12:=hid (ai (ae y8+ae y9));let y13:=hid (ai (ae y10+ae y11));let y14:=hid (ai (ae y12*ae y2));let y15:=hid (ai (ae y13*ae y3));let y16:=hid (ai (ae y14-ae y15));let y17:=hid (ai (ae y7+ae y7));let y18:=hid (ai (ae y13*ae y1));let y19:=hid (ai (ae y12*ae y4));let y20:=hid (ai (ae y18-ae y19));let y21:=hid (ai (ae y16/ae y17));let y22:=hid (ai (ae y20/ae y17));let y23:=hid (ai (ae y21*ae y21));let y24:=hid (ai (ae y22*ae y22));match decide (okR b.1∧okR a.1)with|true=>(match decide (okR b.2∧okR a.2)with|true=>(match decide (okR c.1∧okR a.1)with|true=>(match decide (okR c.2∧okR a.2)with|true=>(match decide (okR y1∧okR y2)with|true=>(match decide (okR y3∧okR y4)with|true=>(match decide (okR y5∧okR y6)with|true=>(match decide (okR y7)with|true=>(match(aS (ae y7) 0)==0 with|true=>some [RV.d tO (((false,[]),(false,[])),(((false,[]),(false,[])),((false,[]),(false,[])))),RV.d axf 6]|false=>(match decide (okR y7∧okR y7)with|true=>(match decide (okR y1∧okR y1)with|true=>(match decide (okR y3∧okR y3)with|true=>(match decide (okR y8∧okR y9)with|true=>(match decide (okR y4∧okR y4)with|true=>(match decide (okR y2∧okR y2)with|true=>(match decide (okR y10∧okR y11)with|true=>(match decide (okR y12∧okR y2)with|true=>(match decide (okR y13∧okR y3)with|true=>(match decide (okR y14∧okR y15)with|true=>(match decide (fS y16 y17)with|true=>(match decide (okR y13∧okR y1)with|true=>(match decide (okR y12∧okR y4)with|true=>(match decide (okR y18∧okR y19)with|true=>(match decide (fS y20 y17)with|true=>(match decide (okR a.1∧okR y21)with|true=>(match decide (okR a.2∧okR y22)with|true=>(match decide (okR y21∧okR y21)with|true=>(match decide (okR y22∧okR y22)with|true=>(match decide (okR y23∧okR y24)with|true=>some [RV.d tO (hid (ai (ae a.1+ae y21)),(hid (ai (ae a.2+ae y22)),hid (ai (ae y23+ae y24)))),RV.d axf 0]|false=>none)|false=>none)|false=>none)|false=>none)|false=>none)|false=>none)|false=>none)|false=>none)|false=>none)|false=>none)|false=>none)|false=>none)|false=>none)|false=>none)|false=>none)|false=>none)|false=>none)|false=>none)|false=>none)|false=>none))|false=>none)|false=>none)|false=>none)|false=>none)|false=>none)|false=>none)|false=>none)|false=>none
theorem alZ(a b c:BV):RS ak9 138 [.d tV a,.d tV b,.d tV c] (Tt a b c):=rsX
theorem T0(a b c:BV)(h:ok (Rat×Rat) 100 a∧ok (Rat×Rat) 100 b∧ok (Rat×Rat) 100 c):Con Tryz.prog 138 [.d tV a,.d tV b,.d tV c] [.d tO (Ax (dec a) (dec b) (dec c)),.d axf (Aw (dec a) (dec b) (dec c))]:=by
 refine aP tC (alZ _ _ _ ⟨0,?_⟩)
 obtain⟨ha,hb,hc⟩:=h
 obtain⟨a,rfl,ba⟩:=aZ ha
 obtain⟨b,rfl,bb⟩:=aZ hb
 obtain⟨c,rfl,bc⟩:=aZ hc
 have e0:(b.1-a.1)*(c.2-a.2)-(b.2-a.2)*(c.1-a.1)=dw a b c:=rfl
 have bD:Bd (dw a b c) 805:=inferInstanceAs (Bd ((b.1-a.1)*(c.2-a.2)-(b.2-a.2)*(c.1-a.1)) _)
 have eX:(((b.1-a.1)*(b.1-a.1)+(b.2-a.2)*(b.2-a.2))*(c.2-a.2)-((c.1-a.1)*(c.1-a.1)+(c.2-a.2)*(c.2-a.2))*(b.2-a.2))/(dw a b c+dw a b c)=vL a b c:=rfl
 have eY:(((c.1-a.1)*(c.1-a.1)+(c.2-a.2)*(c.2-a.2))*(b.1-a.1)-((b.1-a.1)*(b.1-a.1)+(b.2-a.2)*(b.2-a.2))*(c.1-a.1))/(dw a b c+dw a b c)=vI a b c:=rfl
 have m1:Bd ((b.1-a.1)*(b.1-a.1)+(b.2-a.2)*(b.2-a.2)) _:=inferInstance
 have m2:Bd ((c.1-a.1)*(c.1-a.1)+(c.2-a.2)*(c.2-a.2)) _:=inferInstance
 have n1:Bd (((b.1-a.1)*(b.1-a.1)+(b.2-a.2)*(b.2-a.2))*(c.2-a.2)-((c.1-a.1)*(c.1-a.1)+(c.2-a.2)*(c.2-a.2))*(b.2-a.2)) _:=inferInstance
 have n2:Bd (((c.1-a.1)*(c.1-a.1)+(c.2-a.2)*(c.2-a.2))*(b.1-a.1)-((b.1-a.1)*(b.1-a.1)+(b.2-a.2)*(b.2-a.2))*(c.1-a.1)) _:=inferInstance
 have bX0:Bd ((((b.1-a.1)*(b.1-a.1)+(b.2-a.2)*(b.2-a.2))*(c.2-a.2)-((c.1-a.1)*(c.1-a.1)+(c.2-a.2)*(c.2-a.2))*(b.2-a.2))/(dw a b c+dw a b c)) _:=inferInstance
 have bX:Bd (vL a b c) 4000:=by rw[←eX];exact bX0.mono (by decide)
 have bY0:Bd ((((c.1-a.1)*(c.1-a.1)+(c.2-a.2)*(c.2-a.2))*(b.1-a.1)-((b.1-a.1)*(b.1-a.1)+(b.2-a.2)*(b.2-a.2))*(c.1-a.1))/(dw a b c+dw a b c)) _:=inferInstance
 have bY:Bd (vI a b c) 4000:=by rw[←eY];exact bY0.mono (by decide)
 unfold Tt Ax Aw
 simp only[ak,aq,aI,aL,aF,az,aX,atW,atY,Nat.reduceAdd,Nat.reduceLeDiff,aE,e0]
 by_cases hd:dw a b c=0
 ·rw[atT hd]
  rfl
 ·have h2:dw a b c+dw a b c≠0:=by grind
  rw[atV hd]
  simp only[aC,Nat.reduceAdd,Nat.reduceLeDiff,cond_false,h2,ne_eq,avN,eX,eY]
  rfl
def M0:aN:=spN false true [tV,tV] (fun x=>decide (ok (Rat×Rat) 100 x.1∧ok (Rat×Rat) 100 x.2.1)) (fun x=>[RV.d tO (hid (Aq (dec x.1) (dec x.2.1))),RV.d axf (An (dec x.1) (dec x.2.1))])
theorem Ps:SpK 136 M0:=spX fun x h=>by simp only[ak];exact UJ x.1 x.2.1 (atS h)
def Xg:aN:=spN true true [tV,tV,tV] (fun x=>decide (ok (Rat×Rat) 100 x.1∧ok (Rat×Rat) 100 x.2.1∧ok (Rat×Rat) 100 x.2.2.1)) (fun x=>[RV.d axf (rl (dec x.1) (dec x.2.1) (dec x.2.2.1))])
theorem UE:SpK 137 Xg:=spX fun x h=>ach x.1 x.2.1 x.2.2.1 (atS h)
def Mz:aN:=spN false true [tV,tV,tV] (fun x=>decide (ok (Rat×Rat) 100 x.1∧ok (Rat×Rat) 100 x.2.1∧ok (Rat×Rat) 100 x.2.2.1)) (fun x=>[RV.d tO (hid (Ax (dec x.1) (dec x.2.1) (dec x.2.2.1))),RV.d axf (Aw (dec x.1) (dec x.2.1) (dec x.2.2.1))])
theorem PX:SpK 138 Mz:=spX fun x h=>by simp only[ak];exact T0 x.1 x.2.1 x.2.2.1 (atS h)
def QJ:Env:=(136,M0)::(137,Xg)::(138,Mz)::Gu
theorem Fo:EnvAll Tryz.prog QJ:=⟨Ps,UE,PX,tC⟩
def aiG:Ctx:=CX QJ []
def Xq(a b:BV)(_k:KT):Option (List RV):=match decide (ok (Rat×Rat) 100 a∧ok (Rat×Rat) 100 b)with|true=>(match(An (dec a) (dec b)) !=0 with|true=>some [RV.d tCU (false,((((false,[]),(false,[])),(((false,[]),(false,[])),((false,[]),(false,[])))),((((false,[]),(false,[])),(((false,[]),(false,[])),((false,[]),(false,[])))),(false,((((false,[]),(false,[])),(((false,[]),(false,[])),(((false,[]),(false,[])),(((false,[]),(false,[])),((false,[]),(false,[])))))),(((false,[]),(false,[])),(((false,[]),(false,[])),(((false,[]),(false,[])),(((false,[]),(false,[])),((false,[]),(false,[]))))))))))),RV.d axf 6]|false=>(match decide (ok (Rat×Rat) 100000 a)with|true=>(match decide (ok (Rat×Rat) 100000 b)with|true=>some [RV.d tCU (false,(hid (Aq (dec a) (dec b)),((((false,[]),(false,[])),(((false,[]),(false,[])),((false,[]),(false,[])))),(false,(hid (enc (atP (dec a))),hid (enc (atP (dec b)))))))),RV.d axf 0]|false=>none)|false=>none))|false=>none
theorem ai0(a b:BV):RS aiG 71 [.d tV a,.d tV b] (Xq a b):=rsX
theorem XR(a b:BV)(h:ok (Rat×Rat) 100 a∧ok (Rat×Rat) 100 b):Con Tryz.prog 71 [.d tV a,.d tV b] [.d tCU (Fr (dec a) (dec b)),.d axf (pU (dec a) (dec b))]:=by
 refine aP Fo (ai0 _ _ ⟨0,?_⟩)
 obtain⟨ha,hb⟩:=h
 obtain⟨a,rfl,ba⟩:=aZ ha
 obtain⟨b,rfl,bb⟩:=aZ hb
 unfold Xq Fr pU An Aq
 simp only[ak,aq,okd,atW,atY,Nat.reduceLeDiff]
 cases vi a b<;>rfl
def alC:Ctx:=CX QJ []
def Tl(a b c:BV)(_k:KT):Option (List RV):=match decide (ok (Rat×Rat) 100 a∧ok (Rat×Rat) 100 b∧ok (Rat×Rat) 100 c)with|true=>(match decide (ok (Rat×Rat) 100 a∧ok (Rat×Rat) 100 b∧ok (Rat×Rat) 100 c)with|true=>(match(rl (dec a) (dec b) (dec c))==0 with|true=>some [RV.d tCU (false,((((false,[]),(false,[])),(((false,[]),(false,[])),((false,[]),(false,[])))),((((false,[]),(false,[])),(((false,[]),(false,[])),((false,[]),(false,[])))),(false,((((false,[]),(false,[])),(((false,[]),(false,[])),(((false,[]),(false,[])),(((false,[]),(false,[])),((false,[]),(false,[])))))),(((false,[]),(false,[])),(((false,[]),(false,[])),(((false,[]),(false,[])),(((false,[]),(false,[])),((false,[]),(false,[]))))))))))),RV.d axf 6]|false=>(match(Aw (dec a) (dec b) (dec c)) !=0 with|true=>some [RV.d tCU (false,((((false,[]),(false,[])),(((false,[]),(false,[])),((false,[]),(false,[])))),((((false,[]),(false,[])),(((false,[]),(false,[])),((false,[]),(false,[])))),(false,((((false,[]),(false,[])),(((false,[]),(false,[])),(((false,[]),(false,[])),(((false,[]),(false,[])),((false,[]),(false,[])))))),(((false,[]),(false,[])),(((false,[]),(false,[])),(((false,[]),(false,[])),(((false,[]),(false,[])),((false,[]),(false,[]))))))))))),RV.d axf 6]|false=>(match decide (ok (Rat×Rat) 100000 a)with|true=>(match decide (ok (Rat×Rat) 100000 c)with|true=>some [RV.d tCU (true,((((false,[]),(false,[])),(((false,[]),(false,[])),((false,[]),(false,[])))),(hid (Ax (dec a) (dec b) (dec c)),(decide ((rl (dec a) (dec b) (dec c))<0),(hid (enc (atP (dec a))),hid (enc (atP (dec c)))))))),RV.d axf 0]|false=>none)|false=>none)))|false=>none)|false=>none
theorem akX(a b c:BV):RS alC 72 [.d tV a,.d tV b,.d tV c] (Tl a b c):=rsX
theorem TA(a b c:BV)(h:ok (Rat×Rat) 100 a∧ok (Rat×Rat) 100 b∧ok (Rat×Rat) 100 c):Con Tryz.prog 72 [.d tV a,.d tV b,.d tV c] [.d tCU (Gm (dec a) (dec b) (dec c)),.d axf (pN (dec a) (dec b) (dec c))]:=by
 refine aP Fo (akX _ _ _ ⟨0,?_⟩)
 obtain⟨ha,hb,hc⟩:=h
 obtain⟨a,rfl,ba⟩:=aZ ha
 obtain⟨b,rfl,bb⟩:=aZ hb
 obtain⟨c,rfl,bc⟩:=aZ hc
 unfold Tl Gm pN
 simp only[ak,aq,okd,atW,atY,Nat.reduceLeDiff]
 rw[aiE]
 unfold Aw Ax
 cases decide (dw a b c=0)<;>rfl
def M4:aN:=spN false true [tV,tV] (fun x=>decide (ok (Rat×Rat) 100 x.1∧ok (Rat×Rat) 100 x.2.1)) (fun x=>[RV.d tCU (hid (Fr (dec x.1) (dec x.2.1))),RV.d axf (pU (dec x.1) (dec x.2.1))])
theorem Nx:SpK 71 M4:=spX fun x h=>by simp only[ak];exact XR x.1 x.2.1 (atS h)
def LW:aN:=spN false true [tV,tV,tV] (fun x=>decide (ok (Rat×Rat) 100 x.1∧ok (Rat×Rat) 100 x.2.1∧ok (Rat×Rat) 100 x.2.2.1)) (fun x=>[RV.d tCU (hid (Gm (dec x.1) (dec x.2.1) (dec x.2.2.1))),RV.d axf (pN (dec x.1) (dec x.2.1) (dec x.2.2.1))])
theorem OX:SpK 72 LW:=spX fun x h=>by simp only[ak];exact TA x.1 x.2.1 x.2.2.1 (atS h)
def fK(c:Cv):List BP→BP→List BP
 |[],x=>[x]
 |y::r,x=>bif decide (cd c (dec y) (dec x)<0)then y::fK c r x else bif aW (dec y) (dec x)==0 then y::r else x::y::r
def gf(c:Cv)(l:List BP):List BP:=l.foldl (fK c) []
def wr(c:BCU)(l:List BP):Prop:=okC 4000 c∧l.length≤1000000∧∀x∈l,okP 4000 x
instance (c:BCU) (l:List BP):Decidable (wr c l):=by unfold wr;infer_instance
theorem oB{c:Cv}{x y:BP}:∀{r:List BP},y∈fK c r x→y∈r∨y=x
 |[],h=>by simp only[fK,au6]at h;exact .inr h
 |z::r,h=>by
  simp only[fK]at h
  cases h1:decide (cd c (dec z) (dec x)<0)<;>rw[h1]at h
  ·cases h2:aW (dec z) (dec x)==0<;>rw[h2]at h
   ·rcases aud.1 h with h|h
    ·exact .inr h
    ·exact .inl h
   ·exact .inl h
  ·rcases aud.1 h with h|h
   ·exact .inl (by simp[h])
   ·rcases oB h with h|h
    ·exact .inl (aub _ h)
    ·exact .inr h
theorem yo(c:Cv)(x:BP):∀r:List BP,(fK c r x).length≤r.length+1
 |[]=>by simp[fK]
 |z::r=>by
  have:=yo c x r
  simp only[fK]
  cases decide (cd c (dec z) (dec x)<0)
  ·cases aW (dec z) (dec x)==0<;>simp
  ·simp only[cond_true,aui];omega
theorem wS{c:Cv}:∀{l out:List BP} {y:BP},y∈l.foldl (fK c) out→y∈out∨y∈l
 |[],_,_,h=>.inl h
 |x::l,out,y,h=>by
  rcases wS (l:=l) (out:=fK c out x) h with h|h
  ·rcases oB h with h|h
   ·exact .inl h
   ·exact .inr (by simp[h])
  ·exact .inr (aub _ h)
theorem wL(c:Cv):∀(l out:List BP),(l.foldl (fK c) out).length≤out.length+l.length
 |[],_=>at5 _
 |x::l,out=>by
  have h1:=wL c l (fK c out x)
  have h2:=yo c x out
  simp only[avP,aui]
  omega
theorem Pr{α:Type}{l:List α}{k:Nat}(h:k<l.length):l.take (k+1)=l.take k++[l[k]]:=by rw[List.take_succ_eq_append_getElem h]
def aeJ:Env:=[(50,vV),(15,uC),(20,wQ)]
theorem Wp:EnvAll Tryz.prog aeJ:=⟨pE,pK,v9,trivial⟩
def ajJ:NT:=[((24,8),{keep:=[1,2,5,6],pure_:=[(5,tP)],hl:=1}),((24,21),{keep:=[1,2,5,6,7],pure_:=[(5,tP)],hl:=1})]
def wh:Ctx:=CX aeJ ajJ
def kN(c:BCU)(l:List BP)(s6:Int)(s5:List BP):Cfg:=⟨24,[.blk 0,.seq 38],[(1,.d (.sl tP) l),(2,.box 0 0),(5,.d (.sl tP) s5),(6,SI s6)],[.box 43 [SB c.1,SB c.2.1.1.1.1,.d axe c.2.1.1.1.2,SB c.2.1.1.2.1,.d axe c.2.1.1.2.2,SB c.2.1.2.1.1.1,.d axe c.2.1.2.1.1.2,SB c.2.1.2.1.2.1,.d axe c.2.1.2.1.2.2,SB c.2.1.2.2.1.1,.d axe c.2.1.2.2.1.2,SB c.2.1.2.2.2.1,.d axe c.2.1.2.2.2.2,SB c.2.2.1.1.1.1,.d axe c.2.2.1.1.1.2,SB c.2.2.1.1.2.1,.d axe c.2.2.1.1.2.2,SB c.2.2.1.2.1.1.1,.d axe c.2.2.1.2.1.1.2,SB c.2.2.1.2.1.2.1,.d axe c.2.2.1.2.1.2.2,SB c.2.2.1.2.2.1.1,.d axe c.2.2.1.2.2.1.2,SB c.2.2.1.2.2.2.1,.d axe c.2.2.1.2.2.2.2,SB c.2.2.2.1,SB c.2.2.2.2.1.1.1.1,.d axe c.2.2.2.2.1.1.1.2,SB c.2.2.2.2.1.1.2.1,.d axe c.2.2.2.2.1.1.2.2,SB c.2.2.2.2.1.2.1.1.1,.d axe c.2.2.2.2.1.2.1.1.2,SB c.2.2.2.2.1.2.1.2.1,.d axe c.2.2.2.2.1.2.1.2.2,SB c.2.2.2.2.1.2.2.1.1.1,.d axe c.2.2.2.2.1.2.2.1.1.2,SB c.2.2.2.2.1.2.2.1.2.1,.d axe c.2.2.2.2.1.2.2.1.2.2,SB c.2.2.2.2.1.2.2.2.1.1.1,.d axe c.2.2.2.2.1.2.2.2.1.1.2,SB c.2.2.2.2.1.2.2.2.1.2.1,.d axe c.2.2.2.2.1.2.2.2.1.2.2,SB c.2.2.2.2.1.2.2.2.2.1.1,.d axe c.2.2.2.2.1.2.2.2.2.1.2,SB c.2.2.2.2.1.2.2.2.2.2.1,.d axe c.2.2.2.2.1.2.2.2.2.2.2,SB c.2.2.2.2.2.1.1.1,.d axe c.2.2.2.2.2.1.1.2,SB c.2.2.2.2.2.1.2.1,.d axe c.2.2.2.2.2.1.2.2,SB c.2.2.2.2.2.2.1.1.1,.d axe c.2.2.2.2.2.2.1.1.2,SB c.2.2.2.2.2.2.1.2.1,.d axe c.2.2.2.2.2.2.1.2.2,SB c.2.2.2.2.2.2.2.1.1.1,.d axe c.2.2.2.2.2.2.2.1.1.2,SB c.2.2.2.2.2.2.2.1.2.1,.d axe c.2.2.2.2.2.2.2.1.2.2,SB c.2.2.2.2.2.2.2.2.1.1.1,.d axe c.2.2.2.2.2.2.2.2.1.1.2,SB c.2.2.2.2.2.2.2.2.1.2.1,.d axe c.2.2.2.2.2.2.2.2.1.2.2,SB c.2.2.2.2.2.2.2.2.2.1.1,.d axe c.2.2.2.2.2.2.2.2.2.1.2,SB c.2.2.2.2.2.2.2.2.2.2.1,.d axe c.2.2.2.2.2.2.2.2.2.2.2]],0,[]⟩
def wM(c:BCU)(l s5:List BP)(s6 s7:Int):Cfg:=⟨24,[.blk 2,.seq 30,.blk 1,.seq 37,.lp 8,.blk 0,.seq 38],[(1,.d (.sl tP) l),(2,.box 0 0),(5,.d (.sl tP) s5),(6,SI s6),(7,SI s7)],[.box 43 [SB c.1,SB c.2.1.1.1.1,.d axe c.2.1.1.1.2,SB c.2.1.1.2.1,.d axe c.2.1.1.2.2,SB c.2.1.2.1.1.1,.d axe c.2.1.2.1.1.2,SB c.2.1.2.1.2.1,.d axe c.2.1.2.1.2.2,SB c.2.1.2.2.1.1,.d axe c.2.1.2.2.1.2,SB c.2.1.2.2.2.1,.d axe c.2.1.2.2.2.2,SB c.2.2.1.1.1.1,.d axe c.2.2.1.1.1.2,SB c.2.2.1.1.2.1,.d axe c.2.2.1.1.2.2,SB c.2.2.1.2.1.1.1,.d axe c.2.2.1.2.1.1.2,SB c.2.2.1.2.1.2.1,.d axe c.2.2.1.2.1.2.2,SB c.2.2.1.2.2.1.1,.d axe c.2.2.1.2.2.1.2,SB c.2.2.1.2.2.2.1,.d axe c.2.2.1.2.2.2.2,SB c.2.2.2.1,SB c.2.2.2.2.1.1.1.1,.d axe c.2.2.2.2.1.1.1.2,SB c.2.2.2.2.1.1.2.1,.d axe c.2.2.2.2.1.1.2.2,SB c.2.2.2.2.1.2.1.1.1,.d axe c.2.2.2.2.1.2.1.1.2,SB c.2.2.2.2.1.2.1.2.1,.d axe c.2.2.2.2.1.2.1.2.2,SB c.2.2.2.2.1.2.2.1.1.1,.d axe c.2.2.2.2.1.2.2.1.1.2,SB c.2.2.2.2.1.2.2.1.2.1,.d axe c.2.2.2.2.1.2.2.1.2.2,SB c.2.2.2.2.1.2.2.2.1.1.1,.d axe c.2.2.2.2.1.2.2.2.1.1.2,SB c.2.2.2.2.1.2.2.2.1.2.1,.d axe c.2.2.2.2.1.2.2.2.1.2.2,SB c.2.2.2.2.1.2.2.2.2.1.1,.d axe c.2.2.2.2.1.2.2.2.2.1.2,SB c.2.2.2.2.1.2.2.2.2.2.1,.d axe c.2.2.2.2.1.2.2.2.2.2.2,SB c.2.2.2.2.2.1.1.1,.d axe c.2.2.2.2.2.1.1.2,SB c.2.2.2.2.2.1.2.1,.d axe c.2.2.2.2.2.1.2.2,SB c.2.2.2.2.2.2.1.1.1,.d axe c.2.2.2.2.2.2.1.1.2,SB c.2.2.2.2.2.2.1.2.1,.d axe c.2.2.2.2.2.2.1.2.2,SB c.2.2.2.2.2.2.2.1.1.1,.d axe c.2.2.2.2.2.2.2.1.1.2,SB c.2.2.2.2.2.2.2.1.2.1,.d axe c.2.2.2.2.2.2.2.1.2.2,SB c.2.2.2.2.2.2.2.2.1.1.1,.d axe c.2.2.2.2.2.2.2.2.1.1.2,SB c.2.2.2.2.2.2.2.2.1.2.1,.d axe c.2.2.2.2.2.2.2.2.1.2.2,SB c.2.2.2.2.2.2.2.2.2.1.1,.d axe c.2.2.2.2.2.2.2.2.2.1.2,SB c.2.2.2.2.2.2.2.2.2.2.1,.d axe c.2.2.2.2.2.2.2.2.2.2.2]],0,[]⟩
def aqM(c:BCU)(l:List BP)(k:KT):Option (List RV):=k 8 (kN c l 0 ([]))
theorem arM(c:BCU)(l:List BP):RS wh 24 [.d tCU c,.d (.sl tP) l] (aqM c l):=rsX
def zV(c:BCU)(l:List BP)(s6:Int)(s5:List BP)(k:KT):Option (List RV):=match decide (s6<(l.length:Int))with|true=>k 21 (wM c l s5 s6 0)|false=>some [RV.d (.sl tP) s5]
theorem Fu(c:BCU)(l:List BP)(s6:Int)(s5:List BP):RN wh 8 (kN c l s6 s5) (zV c l s6 s5):=rnX
def uS(c:BCU)(l s5:List BP)(s6 s7:Int)(k:KT):Option (List RV):=match decide (s7<(s5.length:Int))with|true=>(match bi s5 s7 with|some x1=>(match bi l s6 with|some x2=>(match decide (okC 4000 c∧okP 4000 x1∧okP 4000 x2)with|true=>(match decide ((cd (dC c) (dec x1) (dec x2))<0)with|true=>k 21 (wM c l s5 s6 (i64.wrap (s7+1)))|false=>(match decide (s7<(s5.length:Int))with|true=>(match bi s5 s7 with|some x3=>(match bi l s6 with|some x4=>(match decide (okP 4000 x3∧okP 4000 x4)with|true=>(match aW (dec x3) (dec x4)==0 with|true=>k 8 (kN c l (i64.wrap (s6+1)) s5)|false=>(match decide ((0:Int)≤0∧0≤s7∧s7≤(s5.length:Int))with|true=>(match bi l s6 with|some x5=>(match decide ((0:Int)≤s7∧s7≤(s5.length:Int)∧(s5.length:Int)≤(s5.length:Int))with|true=>dup (.b (.b .l .l) .l) (match decide ((([]:List BP).length+((s5.take (s7).toNat).drop (0:Int).toNat).length)*320≤140737488355328∧([]:List BP).length+((s5.take (s7).toNat).drop (0:Int).toNat).length≤140737488355328)with|true=>(match decide (((([]:List BP)++((s5.take (s7).toNat).drop (0:Int).toNat)).length+([x5]).length)*320≤140737488355328∧(([]:List BP)++((s5.take (s7).toNat).drop (0:Int).toNat)).length+([x5]).length≤140737488355328)with|true=>(match decide ((((([]:List BP)++((s5.take (s7).toNat).drop (0:Int).toNat))++([x5])).length+((s5.take ((s5.length:Int)).toNat).drop (s7:Int).toNat).length)*320≤140737488355328∧((([]:List BP)++((s5.take (s7).toNat).drop (0:Int).toNat))++([x5])).length+((s5.take ((s5.length:Int)).toNat).drop (s7:Int).toNat).length≤140737488355328)with|true=>k 8 (kN c l (i64.wrap (s6+1)) (((([]:List BP)++((s5.take (s7).toNat).drop (0:Int).toNat))++([x5]))++((s5.take ((s5.length:Int)).toNat).drop (s7:Int).toNat)))|false=>none)|false=>none)|false=>none)|false=>none)|none=>none)|false=>none))|false=>none)|none=>none)|none=>none)|false=>(match decide ((0:Int)≤0∧0≤s7∧s7≤(s5.length:Int))with|true=>(match bi l s6 with|some x3=>(match decide ((0:Int)≤s7∧s7≤(s5.length:Int)∧(s5.length:Int)≤(s5.length:Int))with|true=>dup (.b (.b .l .l) .l) (match decide ((([]:List BP).length+((s5.take (s7).toNat).drop (0:Int).toNat).length)*320≤140737488355328∧([]:List BP).length+((s5.take (s7).toNat).drop (0:Int).toNat).length≤140737488355328)with|true=>(match decide (((([]:List BP)++((s5.take (s7).toNat).drop (0:Int).toNat)).length+([x3]).length)*320≤140737488355328∧(([]:List BP)++((s5.take (s7).toNat).drop (0:Int).toNat)).length+([x3]).length≤140737488355328)with|true=>(match decide ((((([]:List BP)++((s5.take (s7).toNat).drop (0:Int).toNat))++([x3])).length+((s5.take ((s5.length:Int)).toNat).drop (s7:Int).toNat).length)*320≤140737488355328∧((([]:List BP)++((s5.take (s7).toNat).drop (0:Int).toNat))++([x3])).length+((s5.take ((s5.length:Int)).toNat).drop (s7:Int).toNat).length≤140737488355328)with|true=>k 8 (kN c l (i64.wrap (s6+1)) (((([]:List BP)++((s5.take (s7).toNat).drop (0:Int).toNat))++([x3]))++((s5.take ((s5.length:Int)).toNat).drop (s7:Int).toNat)))|false=>none)|false=>none)|false=>none)|false=>none)|none=>none)|false=>none)))|false=>none)|none=>none)|none=>none)|false=>(match decide (s7<(s5.length:Int))with|true=>(match bi s5 s7 with|some x1=>(match bi l s6 with|some x2=>(match decide (okP 4000 x1∧okP 4000 x2)with|true=>(match aW (dec x1) (dec x2)==0 with|true=>k 8 (kN c l (i64.wrap (s6+1)) s5)|false=>(match decide ((0:Int)≤0∧0≤s7∧s7≤(s5.length:Int))with|true=>(match bi l s6 with|some x3=>(match decide ((0:Int)≤s7∧s7≤(s5.length:Int)∧(s5.length:Int)≤(s5.length:Int))with|true=>dup (.b (.b .l .l) .l) (match decide ((([]:List BP).length+((s5.take (s7).toNat).drop (0:Int).toNat).length)*320≤140737488355328∧([]:List BP).length+((s5.take (s7).toNat).drop (0:Int).toNat).length≤140737488355328)with|true=>(match decide (((([]:List BP)++((s5.take (s7).toNat).drop (0:Int).toNat)).length+([x3]).length)*320≤140737488355328∧(([]:List BP)++((s5.take (s7).toNat).drop (0:Int).toNat)).length+([x3]).length≤140737488355328)with|true=>(match decide ((((([]:List BP)++((s5.take (s7).toNat).drop (0:Int).toNat))++([x3])).length+((s5.take ((s5.length:Int)).toNat).drop (s7:Int).toNat).length)*320≤140737488355328∧((([]:List BP)++((s5.take (s7).toNat).drop (0:Int).toNat))++([x3])).length+((s5.take ((s5.length:Int)).toNat).drop (s7:Int).toNat).length≤140737488355328)with|true=>k 8 (kN c l (i64.wrap (s6+1)) (((([]:List BP)++((s5.take (s7).toNat).drop (0:Int).toNat))++([x3]))++((s5.take ((s5.length:Int)).toNat).drop (s7:Int).toNat)))|false=>none)|false=>none)|false=>none)|false=>none)|none=>none)|false=>none))|false=>none)|none=>none)|none=>none)|false=>(match decide ((0:Int)≤0∧0≤s7∧s7≤(s5.length:Int))with|true=>(match bi l s6 with|some x1=>(match decide ((0:Int)≤s7∧s7≤(s5.length:Int)∧(s5.length:Int)≤(s5.length:Int))with|true=>dup (.b (.b .l .l) .l) (match decide ((([]:List BP).length+((s5.take (s7).toNat).drop (0:Int).toNat).length)*320≤140737488355328∧([]:List BP).length+((s5.take (s7).toNat).drop (0:Int).toNat).length≤140737488355328)with|true=>(match decide (((([]:List BP)++((s5.take (s7).toNat).drop (0:Int).toNat)).length+([x1]).length)*320≤140737488355328∧(([]:List BP)++((s5.take (s7).toNat).drop (0:Int).toNat)).length+([x1]).length≤140737488355328)with|true=>(match decide ((((([]:List BP)++((s5.take (s7).toNat).drop (0:Int).toNat))++([x1])).length+((s5.take ((s5.length:Int)).toNat).drop (s7:Int).toNat).length)*320≤140737488355328∧((([]:List BP)++((s5.take (s7).toNat).drop (0:Int).toNat))++([x1])).length+((s5.take ((s5.length:Int)).toNat).drop (s7:Int).toNat).length≤140737488355328)with|true=>k 8 (kN c l (i64.wrap (s6+1)) (((([]:List BP)++((s5.take (s7).toNat).drop (0:Int).toNat))++([x1]))++((s5.take ((s5.length:Int)).toNat).drop (s7:Int).toNat)))|false=>none)|false=>none)|false=>none)|false=>none)|none=>none)|false=>none))
theorem Bq(c:BCU)(l s5:List BP)(s6 s7:Int):RN wh 21 (wM c l s5 s6 s7) (uS c l s5 s6 s7):=rnX
theorem akh(c:BCU)(l:List BP)(hc:okC 4000 c)(hl:∀x∈l,okP 4000 x)(out:List BP)(ho:∀x∈out,okP 4000 x)(hlen:out.length≤1000000)(i:Nat)(hi:i<l.length)(hi2:i≤1000000)(r:List RV)(h:wh.Runs 8 (kN c l ((i+1:Nat):Int) (fK (dC c) out l[i])) r):
  ∀(j k:Nat),k+j=out.length→fK (dC c) out l[i]=out.take k++fK (dC c) (out.drop k) l[i]→wh.Runs 21 (wM c l out (i:Int) (k:Int)) r:=by
 have e0:i64.wrap ((i:Int)+1)=((i+1:Nat):Int):=co (by omega)
 have gl:bi l (i:Int)=some l[i]:=by rw[aA,atU hi]
 have hx:=hl _ (auB hi)
 have tl:out.take ((out.length:Int)).toNat=out:=by simp
 have put:∀k:Nat,k≤out.length→fK (dC c) out l[i]=out.take k++[l[i]]++out.drop k→∃n,(match decide ((0:Int)≤0∧0≤(k:Int)∧(k:Int)≤(out.length:Int))with
   |true=>(match bi l (i:Int)with
    |some x5=>(match decide ((0:Int)≤(k:Int)∧(k:Int)≤(out.length:Int)∧(out.length:Int)≤(out.length:Int))with
     |true=>(match decide ((([]:List BP).length+((out.take ((k:Int)).toNat).drop (0:Int).toNat).length)*320≤140737488355328∧([]:List BP).length+((out.take ((k:Int)).toNat).drop (0:Int).toNat).length≤140737488355328)with
      |true=>(match decide (((([]:List BP)++((out.take ((k:Int)).toNat).drop (0:Int).toNat)).length+([x5]).length)*320≤140737488355328∧(([]:List BP)++((out.take ((k:Int)).toNat).drop (0:Int).toNat)).length+([x5]).length≤140737488355328)with
       |true=>(match decide ((((([]:List BP)++((out.take ((k:Int)).toNat).drop (0:Int).toNat))++([x5])).length+((out.take ((out.length:Int)).toNat).drop ((k:Int)).toNat).length)*320≤140737488355328∧((([]:List BP)++((out.take ((k:Int)).toNat).drop (0:Int).toNat))++([x5])).length+((out.take ((out.length:Int)).toNat).drop ((k:Int)).toNat).length≤140737488355328)with
        |true=>wh.k n 8 (kN c l (i64.wrap ((i:Int)+1)) (((([]:List BP)++((out.take ((k:Int)).toNat).drop (0:Int).toNat))++([x5]))++((out.take ((out.length:Int)).toNat).drop ((k:Int)).toNat)))
        |false=>none)
       |false=>none)
      |false=>none)
     |false=>none)
    |none=>none)
   |false=>none)=some r:=by
  intro k hk he
  have e1:((out.take ((k:Int)).toNat).drop (0:Int).toNat)=out.take k:=by simp
  have e2:((out.take ((out.length:Int)).toNat).drop ((k:Int)).toNat)=out.drop k:=by simp
  have l1:(out.take k).length=k:=by simp;omega
  have l2:(out.drop k).length=out.length-k:=by simp
  obtain⟨n,hn⟩:=h
  refine⟨n,?_⟩
  rw[gl,dT (show(0:Int)≤0∧0≤(k:Int)∧(k:Int)≤(out.length:Int) by omega)]
  dsimp only
  rw[dT (show(0:Int)≤(k:Int)∧(k:Int)≤(out.length:Int)∧(out.length:Int)≤(out.length:Int) by omega)]
  simp only[e1,e2,awT,avR,aus,aui,l1,l2,auC]
  rw[dT (by omega),dT (by omega),dT (by omega),e0,←he]
  exact hn
 intro j
 induction j with
 |zero=>
  intro k hk he
  have hk:k=out.length:=by omega
  subst hk
  refine Bq _ _ _ _ _ ?_
  unfold uS
  rw[cz (by omega)]
  simp only[aO]
  refine put _ (at5 _) ?_
  rw[he]
  simp[fK]
 |succ j ih=>
  intro k hk he
  have hkl:k<out.length:=by omega
  have go:bi out (k:Int)=some out[k]:=by rw[aA,atU hkl]
  have ho1:=ho _ (auB hkl)
  have ek:i64.wrap ((k:Int)+1)=((k+1:Nat):Int):=co (by omega)
  have hd:out.drop k=out[k]::out.drop (k+1):=auk hkl
  refine Bq _ _ _ _ _ ?_
  unfold uS
  simp only[aO,bS hkl,go,gl,dT (show okC 4000 c∧okP 4000 out[k]∧okP 4000 l[i] from⟨hc,ho1,hx⟩),dT (show okP 4000 out[k]∧okP 4000 l[i] from⟨ho1,hx⟩)]
  rw[hd]at he
  simp only[fK]at he
  cases h1:decide (cd (dC c) (dec out[k]) (dec l[i])<0)<;>rw[h1]at he
  ·simp only[cond_false]at he
   cases h2:aW (dec out[k]) (dec l[i])==0<;>rw[h2]at he
   ·simp only[cond_false]at he
    have:=put k (by omega) (by rw[he,hd];simp)
    simp only[gl]at this
    exact this
   ·simp only[cond_true]at he
    rw[←hd,avp]at he
    obtain⟨n,hn⟩:=h
    refine⟨n,?_⟩
    rw[e0]
    rw[he]at hn
    exact hn
  ·simp only[cond_true]at he
   obtain⟨n,hn⟩:=ih (k+1) (by omega) (by rw[he,Pr hkl,aut];rfl)
   refine⟨n,?_⟩
   rw[ek]
   exact hn
theorem abZ(c:BCU)(l:List BP)(hc:okC 4000 c)(hl:∀x∈l,okP 4000 x)(hle:l.length≤1000000):∀(j i:Nat),i+j=l.length→∀out:List BP,(∀x∈out,okP 4000 x)→out.length≤i→wh.Runs 8 (kN c l (i:Int) out) [.d (.sl tP) ((l.drop i).foldl (fK (dC c)) out)]:=by
 intro j
 induction j with
 |zero=>
  intro i hi out ho hlen
  refine Fu _ _ _ _ ⟨0,?_⟩
  unfold zV
  rw[cz (by omega),uc (by omega)]
  rfl
 |succ j ih=>
  intro i hi out ho hlen
  have hil:i<l.length:=by omega
  have h2:=ih (i+1) (by omega) (fK (dC c) out l[i]) (fun x hx=>by
   rcases oB hx with h|h
   ·exact ho x h
   ·rw[h];exact hl _ (auB hil)) (auh (yo _ _ _) (by omega))
  obtain⟨n,hn⟩:=akh c l hc hl out ho (by omega) i hil (by omega) _ h2 out.length 0 (by omega) (by simp)
  refine Fu _ _ _ _ ⟨n,?_⟩
  unfold zV
  rw[bS hil,jw hil,avP]
  exact hn
theorem aag(c:BCU)(l:List BP)(h:wr c l):Con Tryz.prog 24 [.d tCU c,.d (.sl tP) l] [.d (.sl tP) (gf (dC c) l)]:=by
 obtain⟨hc,hle,hl⟩:=h
 refine aP Wp (show wh.Res _ _ _ from ?_)
 obtain⟨n,hn⟩:=abZ c l hc hl hle l.length 0 (by omega) [] (fun x hx=>by cases hx) (at5 _)
 exact arM _ _ ⟨n,hn⟩
def JU:aN:=spN false false [tCU,(.sl tP)] (fun x=>decide (wr x.1 x.2.1)) (fun x=>[RV.d (.sl tP) (gf (dC x.1) x.2.1)])
theorem GQ:SpK 24 JU:=spX fun x h=>aag x.1 x.2.1 (atS h)
def pS(c:BCU)(x y:BP):BCU:=(c.1,c.2.1,c.2.2.1,c.2.2.2.1,x,y)
def jP(c:BCU):List BP→List BCU
 |[]=>[]
 |x::r=>match r with
  |[]=>[]
  |y::_=>pS c x y::jP c r
def wq(c:BCU)(l:List BP):List BP:=gf (dC c) ([c.2.2.2.2.1,c.2.2.2.2.2]++l)
def kp(c:BCU)(l:List BP):List BCU:=jP c (wq c l)
def E6(c:BCU)(l:List BP):Prop:=okC 3500 c∧l.length≤900000∧∀x∈l,okP 3500 x∧onR (dC c) (dec x)=true
instance (c:BCU) (l:List BP):Decidable (E6 c l):=by unfold E6;infer_instance
theorem adQ{c:BCU}{l:List BP}(h:E6 c l):wr c ([c.2.2.2.2.1,c.2.2.2.2.2]++l):=by
 obtain⟨h1,h2,h3⟩:=h
 have h4:=cq (k:=4000) h1 (by decide) (by decide)
 refine⟨h4,by simp;omega,fun x hx=>?_⟩
 rcases auo.1 hx with hx|hx
 ·simp only[aud,avH,awM]at hx
  rcases hx with rfl|rfl
  ·exact h4.2.2.1
  ·exact h4.2.2.2
 ·exact cE (h3 x hx).1 (by decide) (by decide)
theorem Mm(c:BCU)(l:List BP):(wq c l).length≤l.length+2:=by
 have:=wL (dC c) ([c.2.2.2.2.1,c.2.2.2.2.2]++l) []
 unfold wq gf
 simp at this ⊢
 omega
theorem MS{c:BCU}{l:List BP}{x:BP}(h:x∈wq c l):x=c.2.2.2.2.1∨x=c.2.2.2.2.2∨x∈l:=by
 rcases wS (out:=[]) h with h|h
 ·cases h
 ·rcases auo.1 h with h|h
  ·simp only[aud,avH,awM]at h
   rcases h with h|h
   ·exact .inl h
   ·exact .inr (.inl h)
  ·exact .inr (.inr h)
theorem Kd{c p:BCU}:∀{s:List BP},p∈jP c s→∃x y,x∈s∧y∈s∧p=pS c x y
 |[],h=>by cases h
 |[_],h=>by cases h
 |x::y::r,h=>by
  simp only[jP]at h
  rcases aud.1 h with h|h
  ·exact⟨x,y,by simp,by simp,h⟩
  ·obtain⟨a,b,h1,h2,h3⟩:=Kd (s:=y::r) h
   exact⟨a,b,aub _ h1,aub _ h2,h3⟩
def aeX:Env:=[(50,vV),(15,uC),(20,wQ),(21,yE),(51,qD),(24,JU)]
theorem Qr:EnvAll Tryz.prog aeX:=⟨pE,pK,v9,tY,mv,GQ,trivial⟩
def ajH:NT:=[((18,6),{keep:=[1,2,6],hl:=1}),((18,31),{keep:=[2,7,8,9],own:=[(8,43,tCU)],hl:=3})]
def Cl:Ctx:=CX aeX ajH
def Dz(c:BCU)(l:List BP)(s6:Int):Cfg:=⟨18,[.blk 0,.seq 23],[(1,.d (.sl tP) l),(2,.box 0 0),(6,SI s6)],[.box 43 [SB c.1,SB c.2.1.1.1.1,.d axe c.2.1.1.1.2,SB c.2.1.1.2.1,.d axe c.2.1.1.2.2,SB c.2.1.2.1.1.1,.d axe c.2.1.2.1.1.2,SB c.2.1.2.1.2.1,.d axe c.2.1.2.1.2.2,SB c.2.1.2.2.1.1,.d axe c.2.1.2.2.1.2,SB c.2.1.2.2.2.1,.d axe c.2.1.2.2.2.2,SB c.2.2.1.1.1.1,.d axe c.2.2.1.1.1.2,SB c.2.2.1.1.2.1,.d axe c.2.2.1.1.2.2,SB c.2.2.1.2.1.1.1,.d axe c.2.2.1.2.1.1.2,SB c.2.2.1.2.1.2.1,.d axe c.2.2.1.2.1.2.2,SB c.2.2.1.2.2.1.1,.d axe c.2.2.1.2.2.1.2,SB c.2.2.1.2.2.2.1,.d axe c.2.2.1.2.2.2.2,SB c.2.2.2.1,SB c.2.2.2.2.1.1.1.1,.d axe c.2.2.2.2.1.1.1.2,SB c.2.2.2.2.1.1.2.1,.d axe c.2.2.2.2.1.1.2.2,SB c.2.2.2.2.1.2.1.1.1,.d axe c.2.2.2.2.1.2.1.1.2,SB c.2.2.2.2.1.2.1.2.1,.d axe c.2.2.2.2.1.2.1.2.2,SB c.2.2.2.2.1.2.2.1.1.1,.d axe c.2.2.2.2.1.2.2.1.1.2,SB c.2.2.2.2.1.2.2.1.2.1,.d axe c.2.2.2.2.1.2.2.1.2.2,SB c.2.2.2.2.1.2.2.2.1.1.1,.d axe c.2.2.2.2.1.2.2.2.1.1.2,SB c.2.2.2.2.1.2.2.2.1.2.1,.d axe c.2.2.2.2.1.2.2.2.1.2.2,SB c.2.2.2.2.1.2.2.2.2.1.1,.d axe c.2.2.2.2.1.2.2.2.2.1.2,SB c.2.2.2.2.1.2.2.2.2.2.1,.d axe c.2.2.2.2.1.2.2.2.2.2.2,SB c.2.2.2.2.2.1.1.1,.d axe c.2.2.2.2.2.1.1.2,SB c.2.2.2.2.2.1.2.1,.d axe c.2.2.2.2.2.1.2.2,SB c.2.2.2.2.2.2.1.1.1,.d axe c.2.2.2.2.2.2.1.1.2,SB c.2.2.2.2.2.2.1.2.1,.d axe c.2.2.2.2.2.2.1.2.2,SB c.2.2.2.2.2.2.2.1.1.1,.d axe c.2.2.2.2.2.2.2.1.1.2,SB c.2.2.2.2.2.2.2.1.2.1,.d axe c.2.2.2.2.2.2.2.1.2.2,SB c.2.2.2.2.2.2.2.2.1.1.1,.d axe c.2.2.2.2.2.2.2.2.1.1.2,SB c.2.2.2.2.2.2.2.2.1.2.1,.d axe c.2.2.2.2.2.2.2.2.1.2.2,SB c.2.2.2.2.2.2.2.2.2.1.1,.d axe c.2.2.2.2.2.2.2.2.2.1.2,SB c.2.2.2.2.2.2.2.2.2.2.1,.d axe c.2.2.2.2.2.2.2.2.2.2.2]],0,[]⟩
def wW(c:BCU)(l:List BP)(s9:Int)(r2:List BCU):Cfg:=⟨18,[.blk 2,.seq 46],[(2,.box 0 0),(7,.d (.sl tP) (gf (dC c) (([c.2.2.2.2.1,c.2.2.2.2.2])++l))),(8,.own 2),(9,SI s9)],[.box 43 [SB c.1,SB c.2.1.1.1.1,.d axe c.2.1.1.1.2,SB c.2.1.1.2.1,.d axe c.2.1.1.2.2,SB c.2.1.2.1.1.1,.d axe c.2.1.2.1.1.2,SB c.2.1.2.1.2.1,.d axe c.2.1.2.1.2.2,SB c.2.1.2.2.1.1,.d axe c.2.1.2.2.1.2,SB c.2.1.2.2.2.1,.d axe c.2.1.2.2.2.2,SB c.2.2.1.1.1.1,.d axe c.2.2.1.1.1.2,SB c.2.2.1.1.2.1,.d axe c.2.2.1.1.2.2,SB c.2.2.1.2.1.1.1,.d axe c.2.2.1.2.1.1.2,SB c.2.2.1.2.1.2.1,.d axe c.2.2.1.2.1.2.2,SB c.2.2.1.2.2.1.1,.d axe c.2.2.1.2.2.1.2,SB c.2.2.1.2.2.2.1,.d axe c.2.2.1.2.2.2.2,SB c.2.2.2.1,SB c.2.2.2.2.1.1.1.1,.d axe c.2.2.2.2.1.1.1.2,SB c.2.2.2.2.1.1.2.1,.d axe c.2.2.2.2.1.1.2.2,SB c.2.2.2.2.1.2.1.1.1,.d axe c.2.2.2.2.1.2.1.1.2,SB c.2.2.2.2.1.2.1.2.1,.d axe c.2.2.2.2.1.2.1.2.2,SB c.2.2.2.2.1.2.2.1.1.1,.d axe c.2.2.2.2.1.2.2.1.1.2,SB c.2.2.2.2.1.2.2.1.2.1,.d axe c.2.2.2.2.1.2.2.1.2.2,SB c.2.2.2.2.1.2.2.2.1.1.1,.d axe c.2.2.2.2.1.2.2.2.1.1.2,SB c.2.2.2.2.1.2.2.2.1.2.1,.d axe c.2.2.2.2.1.2.2.2.1.2.2,SB c.2.2.2.2.1.2.2.2.2.1.1,.d axe c.2.2.2.2.1.2.2.2.2.1.2,SB c.2.2.2.2.1.2.2.2.2.2.1,.d axe c.2.2.2.2.1.2.2.2.2.2.2,SB c.2.2.2.2.2.1.1.1,.d axe c.2.2.2.2.2.1.1.2,SB c.2.2.2.2.2.1.2.1,.d axe c.2.2.2.2.2.1.2.2,SB c.2.2.2.2.2.2.1.1.1,.d axe c.2.2.2.2.2.2.1.1.2,SB c.2.2.2.2.2.2.1.2.1,.d axe c.2.2.2.2.2.2.1.2.2,SB c.2.2.2.2.2.2.2.1.1.1,.d axe c.2.2.2.2.2.2.2.1.1.2,SB c.2.2.2.2.2.2.2.1.2.1,.d axe c.2.2.2.2.2.2.2.1.2.2,SB c.2.2.2.2.2.2.2.2.1.1.1,.d axe c.2.2.2.2.2.2.2.2.1.1.2,SB c.2.2.2.2.2.2.2.2.1.2.1,.d axe c.2.2.2.2.2.2.2.2.1.2.2,SB c.2.2.2.2.2.2.2.2.2.1.1,.d axe c.2.2.2.2.2.2.2.2.2.1.2,SB c.2.2.2.2.2.2.2.2.2.2.1,.d axe c.2.2.2.2.2.2.2.2.2.2.2],.gone,.row 43 tCU r2],0,[]⟩
def aoy(c:BCU)(l:List BP)(k:KT):Option (List RV):=k 6 (Dz c l 0)
theorem arX(c:BCU)(l:List BP):RS Cl 18 [.d tCU c,.d (.sl tP) l] (aoy c l):=rsX
def zS(c:BCU)(l:List BP)(s6:Int)(k:KT):Option (List RV):=match decide (s6<(l.length:Int))with|true=>(match bi l s6 with|some x1=>(match decide (okC 3500 c∧okP 3500 x1)with|true=>(match !(onR (dC c) (dec x1))with|true=>some [RV.d (.sl tCU) ([]),RV.d axf 1]|false=>k 6 (Dz c l (i64.wrap (s6+1))))|false=>none)|none=>none)|false=>(match decide ((([c.2.2.2.2.1,c.2.2.2.2.2]).length+l.length)*320≤140737488355328∧([c.2.2.2.2.1,c.2.2.2.2.2]).length+l.length≤140737488355328)with|true=>(match decide (wr c (([c.2.2.2.2.1,c.2.2.2.2.2])++l))with|true=>k 31 (wW c l 1 ([]))|false=>none)|false=>none)
theorem GN(c:BCU)(l:List BP)(s6:Int):RN Cl 6 (Dz c l s6) (zS c l s6):=rnX
def uH(c:BCU)(l:List BP)(s9:Int)(r2:List BCU)(k:KT):Option (List RV):=match decide (s9<((gf (dC c) (([c.2.2.2.2.1,c.2.2.2.2.2])++l)).length:Int))with|true=>(match bi (gf (dC c) (([c.2.2.2.2.1,c.2.2.2.2.2])++l)) (i64.wrap (s9-1))with|some x1=>(match bi (gf (dC c) (([c.2.2.2.2.1,c.2.2.2.2.2])++l)) s9 with|some x2=>dup (.b .l .l) (match decide ((r2.length+([(c.1,(c.2.1,(c.2.2.1,(c.2.2.2.1,(x1,x2)))))]).length)*1040≤140737488355328∧r2.length+([(c.1,(c.2.1,(c.2.2.1,(c.2.2.2.1,(x1,x2)))))]).length≤140737488355328)with|true=>k 31 (wW c l (i64.wrap (s9+1)) (r2++([(c.1,(c.2.1,(c.2.2.1,(c.2.2.2.1,(x1,x2)))))])))|false=>none)|none=>none)|none=>none)|false=>some [RV.d (.sl tCU) r2,RV.d axf 0]
theorem BJ(c:BCU)(l:List BP)(s9:Int)(r2:List BCU):RN Cl 31 (wW c l s9 r2) (uH c l s9 r2):=rnX
theorem amn(c:BCU)(l:List BP)(hle:l.length≤900000)(S:List BP)(hS:S=wq c l):∀(j i:Nat),1≤i→i+j=max S.length 1→∀out:List BCU,out.length≤i→Cl.Runs 31 (wW c l (i:Int) out) [.d (.sl tCU) (out++jP c (S.drop (i-1))),.d axf (0:Int)]:=by
 have hSl:=Mm c l
 rw[←hS]at hSl
 have eS:gf (dC c) ([c.2.2.2.2.1,c.2.2.2.2.2]++l)=S:=hS.symm
 intro j
 induction j with
 |zero=>
  intro i h1 hi out hlen
  refine BJ _ _ _ _ ⟨0,?_⟩
  unfold uH
  rw[eS,cz (by omega)]
  have:jP c (S.drop (i-1))=[]:=by
   have hl:(S.drop (i-1)).length≤1:=by rw[avT];omega
   match S.drop (i-1),hl with
   |[],_=>rfl
   |[_],_=>rfl
   |_::_::_,h=>simp at h
  rw[this,auz]
 |succ j ih=>
  intro i h1 hi out hlen
  have hil:i<S.length:=by omega
  have e1:i64.wrap ((i:Int)-1)=((i-1:Nat):Int):=by rw[bz (by omega) (by omega)];omega
  have e2:i64.wrap ((i:Int)+1)=((i+1:Nat):Int):=co (by omega)
  have g1:bi S ((i-1:Nat):Int)=some S[i-1]:=by rw[aA,atU (by omega)]
  have g2:bi S (i:Int)=some S[i]:=by rw[aA,atU hil]
  obtain⟨n,hn⟩:=ih (i+1) (by omega) (by omega) (out++[pS c S[i-1] S[i]]) (by simp;omega)
  refine BJ _ _ _ _ ⟨n,?_⟩
  unfold uH
  rw[eS]
  simp only[aO,bS hil,e1,e2,g1,g2]
  rw[dT (by simp;omega)]
  dsimp only
  have hd:S.drop (i-1)=S[i-1]::S.drop i:=by
   have:=auk (l:=S) (i:=i-1) (by omega)
   rw[this,show i-1+1=i by omega]
  have hd2:S.drop i=S[i]::S.drop (i+1):=auk hil
  rw[hd,hd2]
  rw[show i+1-1=i by omega,hd2,aut]at hn
  exact hn
theorem ajP(c:BCU)(l:List BP)(h:E6 c l):∀(j i:Nat),i+j=l.length→Cl.Runs 6 (Dz c l (i:Int)) [.d (.sl tCU) (kp c l),.d axf (0:Int)]:=by
 have hs:=adQ h
 obtain⟨hc,hle,hl⟩:=h
 intro j
 induction j with
 |zero=>
  intro i hi
  obtain⟨n,hn⟩:=amn c l hle (wq c l) rfl (max (wq c l).length 1-1) 1 (at5 _) (by omega) [] (by simp)
  refine GN _ _ _ ⟨n,?_⟩
  unfold zS
  rw[cz (by omega),dT (by simp;omega),dT hs]
  exact hn
 |succ j ih=>
  intro i hi
  have hil:i<l.length:=by omega
  obtain⟨n,hn⟩:=ih (i+1) (by omega)
  have h1:=hl _ (auB hil)
  refine GN _ _ _ ⟨n,?_⟩
  unfold zS
  rw[bS hil,aA,atU hil,co (by omega)]
  dsimp only
  rw[dT (show okC 3500 c∧okP 3500 l[i] from⟨hc,h1.1⟩),h1.2]
  exact hn
theorem ZV(c:BCU)(l:List BP)(h:E6 c l):Con Tryz.prog 18 [.d tCU c,.d (.sl tP) l] [.d (.sl tCU) (kp c l),.d axf 0]:=by
 refine aP Qr (show Cl.Res _ _ _ from ?_)
 obtain⟨n,hn⟩:=ajP c l h l.length 0 (by omega)
 exact arX _ _ ⟨n,hn⟩
def QC:aN:=spN false false [tCU,(.sl tP)] (fun x=>decide (E6 x.1 x.2.1)) (fun x=>[RV.d (.sl tCU) (kp x.1 x.2.1),RV.d axf 0])
theorem Xy:SpK 18 QC:=spX fun x h=>ZV x.1 x.2.1 (atS h)
def eK(n d:Int):Prop:=bO n∧bO d∧0<d
instance (n d:Int):Decidable (eK n d):=by unfold eK;infer_instance
def J4:aN:=spN false true [axf] (fun x=>decide (bO x.1)) (fun x=>[RV.d tI (hid (aj x.1))])
theorem Pf:SpK 81 J4:=spX fun x h=>by simp only[ak];exact G5 x.1 (atS h)
def YK:aN:=spN false true [tI,tI] (fun x=>decide (io x.1 x.2.1)) (fun x=>[RV.d tR (hid (eZ x.1 x.2.1))])
theorem QQ:SpK 88 YK:=spX fun x h=>by simp only[ak];exact KA x.1 x.2.1 (atS h)
def Wa:Env:=[(81,J4),(88,YK)]
theorem PC:EnvAll Tryz.prog Wa:=⟨Pf,QQ,trivial⟩
def aiR:Ctx:=CX Wa []
def Ti(n d:Int)(_k:KT):Option (List RV):=match d==0 with|true=>(match decide (bO (0:Int))with|true=>(match decide (bO (1:Int))with|true=>(match decide (io (hid (aj (0:Int))) (hid (aj (1:Int))))with|true=>some [RV.d tR (hid (eZ (hid (aj (0:Int))) (hid (aj (1:Int)))))]|false=>none)|false=>none)|false=>none)|false=>(match decide (bO n)with|true=>(match decide (bO d)with|true=>(match decide (io (hid (aj n)) (hid (aj d)))with|true=>some [RV.d tR (hid (eZ (hid (aj n)) (hid (aj d))))]|false=>none)|false=>none)|false=>none)
theorem akm(n d:Int):RS aiR 37 [SI n,SI d] (Ti n d):=rsX
theorem UX(n d:Int)(h:eK n d):Con Tryz.prog 37 [.d axf n,.d axf d] [.d tR (ai (Rat.divInt n d))]:=by
 refine aP PC (akm _ _ ⟨0,?_⟩)
 obtain⟨hn,hd,h0⟩:=h
 have hne:(d==0)=false:=by simp;omega
 unfold Ti
 rw[hne,dT hn,dT hd]
 simp only[ak]
 rw[dT (show io (aj n) (aj d) from⟨bK (by have:=jJ hn;omega),bK (by have:=jJ hd;omega),by rw[dec_enc];omega⟩)]
 unfold eZ
 rw[dec_enc,dec_enc]
def uo:aN:=spN false true [axf,axf] (fun x=>decide (eK x.1 x.2.1)) (fun x=>[RV.d tR (hid (ai (Rat.divInt x.1 x.2.1)))])
theorem qc:SpK 37 uo:=spX fun x h=>by simp only[ak];exact UX x.1 x.2.1 (atS h)
theorem D5{n d:Int}(h1:bO n)(h2:bO d)(h0:0<d):Bd (Rat.divInt n d) 3:=by
 obtain⟨k,rfl⟩:=avf (show 0≤d by omega)
 exact⟨vg (by omega) (jJ h1) (jJ h2)⟩
section
theorem Con.new_d{P:Program}{f:Nat}{args:List SV}{et:TypeId}{e:Ty}{xs:List e.D}(h:Con P f args [.new et e xs]):Con P f args [.d (.sl e) xs]:=by
 intro A w vs hI ha
 refine(h A w vs hI ha).mono ?_
 rintro en w' ⟨v,rfl,hb,css,ho,ha2,hn⟩
 refine⟨v,rfl,hb,?_⟩
 obtain⟨hlen,p,c,hv,h1,h2,h3⟩:=Rd.of_own hn ho
 subst hv
 refine⟨[.slice p xs.length c],⟨p,xs.length,c,css,rfl,rfl,h1,h2,cg (fun _ _ h=>Ty.rd_keep ⟨at5 _,fun b _ hb=>hb.1,fun _ _ _=>rfl⟩ h) ha2,fun h0=>?_⟩,rfl⟩
 obtain⟨b,off,rfl,h5,h6⟩:=h3 h0
 refine⟨b,off,rfl,.inr ?_,h5,h6⟩
 rcases ho.2 with⟨h7,_⟩|⟨g,cap,cur,h7,h8,_⟩
 ·cases h7
 ·injection h7 with h7
  injection h7 with h7
  injection h7 with h7
  subst h7
  exact h8
class Bb (q:Rat) (n d:outParam Nat):Prop where
 nu:q.num.natAbs≤2^n
 de:q.den≤2^d
theorem FY{n:Int}{d a b:Nat}(hd:d≠0)(h1:n.natAbs≤2^a)(h2:d≤2^b):(mkRat n d).num.natAbs≤2^a∧(mkRat n d).den≤2^b:=by
 rw[awX,awY,aum hd,aum hd]
 constructor
 ·refine auh ?_ h1
  refine(KR n (d.gcd n.natAbs)).resolve_right (fun h=>h ?_)
  exact Int.ofNat_dvd_left.2 (Nat.gcd_dvd_right d n.natAbs)
 ·exact auh (Nat.div_le_self _ _) h2
theorem zd{a b m n:Nat}(h:a≤2^m)(h':b≤2^n):a*b≤2^(m+n):=by
 rw[Nat.pow_add]
 exact av7 h h'
theorem arS{x y m n:Nat}(h:x≤2^m)(h':y≤2^n):x+y≤2^(mx m n+1):=by
 have h1:=auh h (Nat.pow_le_pow_right (by decide) (Jh m n))
 have h2:=auh h' (Nat.pow_le_pow_right (by decide) (HZ m n))
 rw[Nat.pow_succ]
 omega
section
variable {a b:Rat} {m n d e:Nat}
instance atc [h:Bb a m d] [h':Bb b n e]:Bb (a+b) (mx (m+e) (n+d)+1) (d+e):=by
 have d1:=a.den_pos
 have d2:=b.den_pos
 have:=FY (n:=a.num*(b.den:Int)+b.num*(a.den:Int)) (d:=a.den*b.den) (a:=mx (m+e) (n+d)+1) (b:=d+e) (awy (by omega) (by omega)) (by
  refine auh (Int.natAbs_add_le _ _) ?_
  rw[awK,awK,avn,avn]
  exact arS (zd h.nu h'.de) (zd h'.nu h.de)) (zd h.de h'.de)
 rw[←Rat.add_def']at this
 exact⟨this.1,this.2⟩
instance atg [h:Bb a m d]:Bb (-a) m d:=⟨by rw[Rat.neg_num,Int.natAbs_neg];exact h.nu,h.de⟩
instance asW [h:Bb a m d] [h':Bb b n e]:Bb (a-b) (mx (m+e) (n+d)+1) (d+e):=by
 rw[awt]
 infer_instance
instance asY [h:Bb a m d] [h':Bb b n e]:Bb (a*b) (m+n) (d+e):=by
 have d1:=a.den_pos
 have d2:=b.den_pos
 have:=FY (n:=a.num*b.num) (d:=a.den*b.den) (a:=m+n) (b:=d+e) (awy (by omega) (by omega)) (by
  rw[awK]
  exact zd h.nu h'.nu) (zd h.de h'.de)
 rw[←Rat.mul_def']at this
 exact⟨this.1,this.2⟩
theorem amd [h:Bb a m d]:Bb a⁻¹ d m:=by
 by_cases h0:a=0
 ·subst h0
  rw[Rat.inv_zero]
  exact⟨awg _,Nat.one_le_two_pow⟩
 ·have hn:a.num≠0:=fun e=>h0 (Rat.num_eq_zero.1 e)
  have h1:=h.nu
  have h2:=h.de
  rw[Rat.inv_def]
  rcases avS hn with h3|h3
  ·rw[←Rat.neg_divInt_neg,show-a.num=(((-a.num).toNat:Nat):Int) by omega,awn]
   have:=FY (n:= -(a.den:Int)) (d:=(-a.num).toNat) (a:=d) (b:=m) (by omega) (by rw[Int.natAbs_neg];exact h2) (by omega)
   exact⟨this.1,this.2⟩
  ·rw[show a.num=((a.num.toNat:Nat):Int) by omega,awn]
   have:=FY (n:=(a.den:Int)) (d:=a.num.toNat) (a:=d) (b:=m) (by omega) h2 (by omega)
   exact⟨this.1,this.2⟩
instance atl [h:Bb a m d] [h':Bb b n e]:Bb (a/b) (m+e) (d+n):=by
 rw[aw4]
 have:=amd (h:=h')
 infer_instance
theorem agl:∀k:Nat,((2^(29*k):Nat):Int)≤pw k
 |0=>by decide
 |k+1=>by
  have ih:=agl k
  have e:2^(29*(k+1))=2^(29*k)*536870912:=by
   rw[Nat.mul_add,Nat.pow_add]
  rw[e,cB,avq]
  have:(0:Int)≤pw k:=Int.le_trans (Int.natCast_nonneg _) ih
  omega
theorem aez{z:Int}{n:Nat}(h:z.natAbs≤2^n):szI z≤n/29+1:=by
 have h1:=agl (n/29+1)
 have h2:2^n<2^(29*(n/29+1)):=Nat.pow_lt_pow_right (by decide) (by omega)
 exact fu (by omega) (by omega)
theorem GI [h:Bb a m d]{k:Nat}(hm:m/29+1≤k)(hd:d/29+1≤k):Bd a k:=⟨⟨auh (aez h.nu) hm,auh (aez (z:=(a.den:Int)) h.de) hd⟩⟩
end
theorem aaA{n d:Int}{a b:Nat}(h0:0<d)(h1:n.natAbs≤2^a)(h2:d.natAbs≤2^b):Bb (Rat.divInt n d) a b:=by
 obtain⟨k,rfl⟩:=avf (show 0≤d by omega)
 rw[awn]
 have:=FY (n:=n) (d:=k) (by omega) h1 h2
 exact⟨this.1,this.2⟩
def cG(x:BO3):Prop:=ok Rat 12 x.1∧ok Rat 12 x.2.1∧ok Rat 63 x.2.2∧((dec x:Ln).1≠0∨(dec x:Ln).2.1≠0)
instance (x:BO3):Decidable (cG x):=by unfold cG;infer_instance
def bZ(x:BO3):Prop:=ok Rat 4 x.1∧ok Rat 4 x.2.1∧ok Rat 13 x.2.2∧(0:Rat)<(dec x:Ln).2.2
instance (x:BO3):Decidable (bZ x):=by unfold bZ;infer_instance
class BdL (l:Ln):Prop where
 a:Bd l.1 12
 b:Bd l.2.1 12
 c:Bd l.2.2 63
class BdC (c:Ln):Prop where
 x:Bd c.1 4
 y:Bd c.2.1 4
 q:Bd c.2.2 13
theorem eE{x:BO3}(h:cG x):∃l:Ln,x=enc l∧BdL l∧(l.1≠0∨l.2.1≠0):=by
 obtain⟨h1,h2,h3,h4⟩:=h
 obtain⟨x1,x2,x3⟩:=x
 obtain⟨a,rfl,ba⟩:=aZ h1
 obtain⟨b,rfl,bb⟩:=aZ h2
 obtain⟨c,rfl,bc⟩:=aZ h3
 have e:((enc a,enc b,enc c):BO3)=enc ((a,b,c):Ln):=rfl
 rw[e,aq]at h4
 exact⟨(a,b,c),rfl,⟨ba,bb,bc⟩,h4⟩
theorem dk{x:BO3}(h:bZ x):∃c:Ln,x=enc c∧BdC c∧0<c.2.2:=by
 obtain⟨h1,h2,h3,h4⟩:=h
 obtain⟨x1,x2,x3⟩:=x
 obtain⟨a,rfl,ba⟩:=aZ h1
 obtain⟨b,rfl,bb⟩:=aZ h2
 obtain⟨c,rfl,bc⟩:=aZ h3
 have e:((enc a,enc b,enc c):BO3)=enc ((a,b,c):Ln):=rfl
 rw[e,aq]at h4
 exact⟨(a,b,c),rfl,⟨ba,bb,bc⟩,h4⟩
theorem kw{l:Ln}[h:BdL l](h0:l.1≠0∨l.2.1≠0):cG (enc l):=by
 have a:=h.a
 have b:=h.b
 have c:=h.c
 exact⟨atS (okd (at5 _) (by decide)),atS (okd (at5 _) (by decide)),atS (okd (at5 _) (by decide)),by rw[aq];exact h0⟩
theorem gM{c:Ln}[h:BdC c](h0:0<c.2.2):bZ (enc c):=by
 have a:=h.x
 have b:=h.y
 have c:=h.q
 exact⟨atS (okd (at5 _) (by decide)),atS (okd (at5 _) (by decide)),atS (okd (at5 _) (by decide)),by rw[aq];exact h0⟩
section
variable {l c:Ln}
instance atJ [h:BdL l]:Bd l.1 12:=h.a
instance atO [h:BdL l]:Bd l.2.1 12:=h.b
instance atK [h:BdL l]:Bd l.2.2 63:=h.c
instance atN [h:BdC c]:Bd c.1 4:=h.x
instance atM [h:BdC c]:Bd c.2.1 4:=h.y
instance atL [h:BdC c]:Bd c.2.2 13:=h.q
theorem alE [h:BdL l]:Bd l 63:=⟨⟨Cod.mono _ _ _ (by decide) h.a.le,Cod.mono _ _ _ (by decide) h.b.le,h.c.le⟩⟩
theorem Jr [h:BdC c]:Bd c 13:=⟨⟨Cod.mono _ _ _ (by decide) h.x.le,Cod.mono _ _ _ (by decide) h.y.le,h.q.le⟩⟩
end
def fH(l m:Ln):Rat:=l.1*m.2.1-m.1*l.2.1
def oo(l m:Ln):Rat:=l.2.2*m.2.1-m.2.2*l.2.1
def oO(l m:Ln):Rat:=l.1*m.2.2-m.1*l.2.2
def n8(l m:Ln):List Pt:=bif !decide (fH l m=0)then [atP (oo l m/fH l m,oO l m/fH l m)]else []
def Pk(l m:Ln):Int:=bif !decide (fH l m=0)then 0 else bif decide (oo l m=0)&&decide (oO l m=0)then 10 else 0
def cY(l:Ln):Rat:=l.1*l.1+l.2.1*l.2.1
def vlL(l:Ln)(x y:Rat):Rat:=l.1*x+l.2.1*y-l.2.2
def iE(l c:Ln):Rat:=cY l*c.2.2-vlL l c.1 c.2.1*vlL l c.1 c.2.1
def ny(ax bx ay b_ c:Rat):Pt:=bif fy c then atP (ax+bx*rtQ c,ay+b_*rtQ c)else(ax,bx,ay,b_,c)
def ftX(l c:Ln):Rat:=c.1-vlL l c.1 c.2.1/cY l*l.1
def ftY(l c:Ln):Rat:=c.2.1-vlL l c.1 c.2.1/cY l*l.2.1
def tJ(l c:Ln):Pt:=ny (ftX l c) (-(l.2.1/cY l)) (ftY l c) (-(-l.1/cY l)) (iE l c)
def uf(l c:Ln):Pt:=ny (ftX l c) (l.2.1/cY l) (ftY l c) (-l.1/cY l) (iE l c)
def qY(l c:Ln):List Pt:=bif decide (iE l c<0)then []else bif decide (iE l c=0)then [atP (ftX l c,ftY l c)]
 else bif decide (aW (tJ l c) (uf l c)>0)then [uf l c,tJ l c]else [tJ l c,uf l c]
def gZ(c d:Ln):Bool:=decide (c.1=d.1)&&decide (c.2.1=d.2.1)
def rg(c:Ln):Rat:=c.1*c.1+c.2.1*c.2.1-c.2.2
def n6(c d:Ln):Ln:=(2*(d.1-c.1),2*(d.2.1-c.2.1),rg d-rg c)
def yi(c d:Ln):List Pt:=bif gZ c d then []else qY (n6 c d) c
def XK(c d:Ln):Int:=bif gZ c d then(bif decide (c.2.2=d.2.2)then 10 else 0)else 0
def ul(c d:Ln):BO3:=bif gZ c d then o00 else enc (n6 c d)
def Om(c d:Ln):Int:=bif gZ c d then 6 else 0
def oh(l m:Ln):Bool:=decide (l.1*m.2.1=l.2.1*m.1)&&(decide (l.1*m.2.2=l.2.2*m.1)&&decide (l.2.1*m.2.2=l.2.2*m.2.1))
def qX(c d:Ln):Bool:=decide (c.1=d.1)&&(decide (c.2.1=d.2.1)&&decide (c.2.2=d.2.2))
def c7(a b:Cv):Bool:=bif a.1==b.1 then(bif a.1 then qX (ciC a) (ciC b)else oh (lnC a) (lnC b))else false
def Ay(a:BCU):Prop:=(a.1=true→bZ a.2.2.1)∧(a.1=false→cG a.2.1)
instance (a:BCU):Decidable (Ay a):=by unfold Ay;infer_instance
def fj(a b:BCU):Prop:=Ay a∧Ay b
instance (a b:BCU):Decidable (fj a b):=by unfold fj;infer_instance
def mI(a b:Cv):List Pt:=bif a.1&&b.1 then yi (ciC a) (ciC b)else bif a.1 then qY (lnC b) (ciC a)else bif b.1 then qY (lnC a) (ciC b)else n8 (lnC a) (lnC b)
def Zu(a b:Cv):Int:=bif a.1&&b.1 then XK (ciC a) (ciC b)else bif a.1 then 0 else bif b.1 then 0 else Pk (lnC a) (lnC b)
def ri(c:Ln):Pt:=ny c.1 (-1) c.2.1 0 c.2.2
def re(c:Ln):Pt:=ny c.1 1 c.2.1 0 c.2.2
theorem Dw{ax bx ay b_ c:Rat}(h0:¬(bx=0∧b_=0))(hc:0≤c):Rpd (ny ax bx ay b_ c):=by
 refine⟨?_⟩
 unfold ny
 cases hq:fy c
 ·exact .inr ⟨h0,JZ hc hq,hq⟩
 ·exact .inl ⟨rfl,rfl,rfl⟩
theorem Eg{ax bx ay b_ c:Rat}{j k m:Nat}(h1:Bd ax j)(h2:Bd bx k)(h3:Bd ay j)(h4:Bd b_ k)(h5:Bd c m){n:Nat}(hn:j+(k+m)+1≤n):Bd (ny ax bx ay b_ c) n:=by
 have z:bdR n 0:=cK ue.le (by omega)
 have i1:Bd (ax+bx*rtQ c) _:=inferInstance
 have i2:Bd (ay+b_*rtQ c) _:=inferInstance
 refine⟨?_⟩
 unfold ny
 cases fy c
 ·exact⟨cK h1.le (by omega),cK h2.le (by omega),cK h3.le (by omega),cK h4.le (by omega),cK h5.le (by omega)⟩
 ·exact⟨cK i1.le (by omega),z,cK i2.le (by omega),z,z⟩
section
variable {l m c d:Ln}
theorem pH(h:l.1≠0∨l.2.1≠0):cY l≠0:=LL h
instance as0 [BdL l] [h:BdC c]:Bd (iE l c) 257:=by
 have hx:=h.x
 have hy:=h.y
 have hq:=h.q
 have i1:Bd (cY l) 49:=inferInstanceAs (Bd (l.1*l.1+l.2.1*l.2.1) _)
 have i2:Bd (vlL l c.1 c.2.1) 97:=inferInstanceAs (Bd (l.1*c.1+l.2.1*c.2.1-l.2.2) _)
 exact(inferInstance:Bd (cY l*c.2.2-vlL l c.1 c.2.1*vlL l c.1 c.2.1) _).mono (by decide)
theorem v8 [BdL l][h:BdC c]:Bd (ftX l c) 163∧Bd (ftY l c) 163∧Bd (l.2.1/cY l) 61∧Bd (l.1/cY l) 61:=by
 have hx:=h.x
 have hy:=h.y
 have i1:Bd (cY l) 49:=inferInstanceAs (Bd (l.1*l.1+l.2.1*l.2.1) _)
 have i2:Bd (vlL l c.1 c.2.1) 97:=inferInstanceAs (Bd (l.1*c.1+l.2.1*c.2.1-l.2.2) _)
 have i3:Bd (c.1-vlL l c.1 c.2.1/cY l*l.1) _:=inferInstance
 have i4:Bd (c.2.1-vlL l c.1 c.2.1/cY l*l.2.1) _:=inferInstance
 have i5:Bd (l.2.1/cY l) _:=inferInstance
 have i6:Bd (l.1/cY l) _:=inferInstance
 exact⟨i3.mono (by decide),i4.mono (by decide),i5.mono (by decide),i6.mono (by decide)⟩
end
end
end Go.Proofs.YtgddhgcjmddjfaaGreat
end
