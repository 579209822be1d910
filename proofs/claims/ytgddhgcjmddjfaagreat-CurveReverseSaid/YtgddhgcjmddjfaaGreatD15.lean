/- Segments and arcs through points: the reference's contracts. -/
import Derived.Test.YtgddhgcjmddjfaaGreatD14
import Derived.Test.YtgddhgcjmddjfaaGreatD11
import Derived.Test.YtgddhgcjmddjfaaGreatD12
noncomputable section
namespace Go.Proofs.YtgddhgcjmddjfaaGreat
open Go.RowKit Go.IntKind
theorem au4:type_of% @List.mem_cons_of_mem:=@List.mem_cons_of_mem
theorem awi:type_of% @List.not_mem_nil:=@List.not_mem_nil
theorem axz:type_of% @or_false:=@or_false
abbrev r00:BR:=((false,[]),(false,[]))
abbrev o00:BO3:=(r00,r00,r00)
abbrev p00:BP:=(r00,r00,r00,r00,r00)
abbrev c00:BCU:=(false,o00,o00,false,p00,p00)
def r7(a b:Rat×Rat):Ln:=(a.2-b.2,b.1-a.1,(a.2-b.2)*a.1+(b.1-a.1)*a.2)
def uf(a b:Rat×Rat):Bool:=decide (a.2-b.2=0)&&decide (b.1-a.1=0)
def AC(a b:Rat×Rat):BO3:=bif uf a b then o00 else enc (r7 a b)
def AJ(a b:Rat×Rat):Int:=bif uf a b then 6 else 0
def dq(a b c:Rat×Rat):Rat:=(b.1-a.1)*(c.2-a.2)-(b.2-a.2)*(c.1-a.1)
def wa(a b c:Rat×Rat):Rat:=(((b.1-a.1)*(b.1-a.1)+(b.2-a.2)*(b.2-a.2))*(c.2-a.2)-((c.1-a.1)*(c.1-a.1)+(c.2-a.2)*(c.2-a.2))*(b.2-a.2))/(dq a b c+dq a b c)
def u9(a b c:Rat×Rat):Rat:=(((c.1-a.1)*(c.1-a.1)+(c.2-a.2)*(c.2-a.2))*(b.1-a.1)-((b.1-a.1)*(b.1-a.1)+(b.2-a.2)*(b.2-a.2))*(c.1-a.1))/(dq a b c+dq a b c)
def pQ(a b c:Rat×Rat):Ln:=(a.1+wa a b c,a.2+u9 a b c,wa a b c*wa a b c+u9 a b c*u9 a b c)
def AI(a b c:Rat×Rat):BO3:=bif decide (dq a b c=0)then o00 else enc (pQ a b c)
def AE(a b c:Rat×Rat):Int:=bif decide (dq a b c=0)then 6 else 0
def rH(a b c:Rat×Rat):Int:=aR ((b.1-a.1)*(c.2-a.2)) ((b.2-a.2)*(c.1-a.1))
def AA(a b:Rat×Rat):BCU:=bif uf a b then c00 else(false,enc (r7 a b),o00,false,enc (atP a),enc (atP b))
def oI(a b:Rat×Rat):Int:=bif uf a b then 6 else 0
def As(a b c:Rat×Rat):BCU:=bif decide (dq a b c=0)then c00 else(true,o00,enc (pQ a b c),decide (rH a b c<0),enc (atP a),enc (atP c))
def oK(a b c:Rat×Rat):Int:=bif decide (dq a b c=0)then 6 else 0
theorem aj6(a b c:Rat×Rat):(rH a b c==0)=decide (dq a b c=0):=by
 unfold rH dq
 rw[aE]
 exact awl.2 (by constructor<;>intro h<;>grind)
instance atv {a b:Rat×Rat} {i j:Nat} [h:Bd a i] [h':Bd b j]:Bd (r7 a b) (4*i+2*j+3):=by
 have i1:Bd ((a.2-b.2,b.1-a.1,(a.2-b.2)*a.1+(b.1-a.1)*a.2):Ln) _:=inferInstance
 exact i1.mono (kN (by omega) (kN (by omega) (by omega)))
def Fc:Env:=[(69,jS),(92,rg),(168,qs),(86,ng),(38,uj),(133,Dc),(132,DR),(94,xh),(193,ED)]
theorem tH:EnvAll Tryz.prog Fc:=⟨gU,mX,mM,j8,qr,BT,Bv,uS,Cd,trivial⟩
def aiB:Ctx:=CX Fc []
def Z4(a b:BV)(_k:KT):OLR:=match decide (okR a.2∧okR b.2)with|true=>(match decide (okR b.1∧okR a.1)with|true=>(match decide (okR (hid (ai (ae a.2-ae b.2))))with|true=>(match(aR (ae (hid (ai (ae a.2-ae b.2)))) 0)==0 with|true=>(match decide (okR (hid (ai (ae b.1-ae a.1))))with|true=>(match(aR (ae (hid (ai (ae b.1-ae a.1)))) 0)==0 with|true=>some [RV.d tO (((false,[]),(false,[])),(((false,[]),(false,[])),((false,[]),(false,[])))),RV.d ayb 6]|false=>(match decide (okR (hid (ai (ae a.2-ae b.2)))∧okR a.1)with|true=>(match decide (okR (hid (ai (ae b.1-ae a.1)))∧okR a.2)with|true=>(match decide (okR (hid (ai (ae (hid (ai (ae a.2-ae b.2)))*ae a.1)))∧okR (hid (ai (ae (hid (ai (ae b.1-ae a.1)))*ae a.2))))with|true=>some [RV.d tO (hid (ai (ae a.2-ae b.2)),(hid (ai (ae b.1-ae a.1)),hid (ai (ae (hid (ai (ae (hid (ai (ae a.2-ae b.2)))*ae a.1)))+ae (hid (ai (ae (hid (ai (ae b.1-ae a.1)))*ae a.2))))))),RV.d ayb 0]|false=>none)|false=>none)|false=>none))|false=>none)|false=>(match decide (okR (hid (ai (ae a.2-ae b.2)))∧okR a.1)with|true=>(match decide (okR (hid (ai (ae b.1-ae a.1)))∧okR a.2)with|true=>(match decide (okR (hid (ai (ae (hid (ai (ae a.2-ae b.2)))*ae a.1)))∧okR (hid (ai (ae (hid (ai (ae b.1-ae a.1)))*ae a.2))))with|true=>some [RV.d tO (hid (ai (ae a.2-ae b.2)),(hid (ai (ae b.1-ae a.1)),hid (ai (ae (hid (ai (ae (hid (ai (ae a.2-ae b.2)))*ae a.1)))+ae (hid (ai (ae (hid (ai (ae b.1-ae a.1)))*ae a.2))))))),RV.d ayb 0]|false=>none)|false=>none)|false=>none))|false=>none)|false=>none)|false=>none
theorem aij(a b:BV):RS aiB 136 [.d tV a,.d tV b] (Z4 a b):=rsX
theorem S6(a b:BV)(h:ok (Rat×Rat) 100 a∧ok (Rat×Rat) 100 b):Con Tryz.prog 136 [.d tV a,.d tV b] [.d tO (AC (dec a) (dec b)),.d ayb (AJ (dec a) (dec b))]:=by
 refine aO tH (aij _ _ ⟨0,?_⟩)
 obtain⟨ha,hb⟩:=h
 obtain⟨a,rfl,ba⟩:=aY ha
 obtain⟨b,rfl,bb⟩:=aY hb
 unfold Z4 AC AJ uf
 simp only[am,aq,aH,aI,aF,az,aZ,auR,auT,Nat.reduceAdd,Nat.reduceLeDiff,aE]
 cases decide (a.2-b.2=0)<;>cases decide (b.1-a.1=0)<;>rfl
def arz:Ctx:=CX Fc []
def agW(a b c:BV)(_k:KT):OLR:=match decide (okR b.1∧okR a.1)with|true=>(match decide (okR c.2∧okR a.2)with|true=>(match decide (okR (hid (ai (ae b.1-ae a.1)))∧okR (hid (ai (ae c.2-ae a.2))))with|true=>(match decide (okR b.2∧okR a.2)with|true=>(match decide (okR c.1∧okR a.1)with|true=>(match decide (okR (hid (ai (ae b.2-ae a.2)))∧okR (hid (ai (ae c.1-ae a.1))))with|true=>(match decide (okR (hid (ai (ae (hid (ai (ae b.1-ae a.1)))*ae (hid (ai (ae c.2-ae a.2))))))∧okR (hid (ai (ae (hid (ai (ae b.2-ae a.2)))*ae (hid (ai (ae c.1-ae a.1)))))))with|true=>some [RV.d ayb (aR (ae (hid (ai (ae (hid (ai (ae b.1-ae a.1)))*ae (hid (ai (ae c.2-ae a.2))))))) (ae (hid (ai (ae (hid (ai (ae b.2-ae a.2)))*ae (hid (ai (ae c.1-ae a.1))))))))]|false=>none)|false=>none)|false=>none)|false=>none)|false=>none)|false=>none)|false=>none
theorem arY(a b c:BV):RS arz 137 [.d tV a,.d tV b,.d tV c] (agW a b c):=rsX
theorem adf(a b c:BV)(h:ok (Rat×Rat) 100 a∧ok (Rat×Rat) 100 b∧ok (Rat×Rat) 100 c):Con Tryz.prog 137 [.d tV a,.d tV b,.d tV c] [.d ayb (rH (dec a) (dec b) (dec c))]:=by
 refine aO tH (arY _ _ _ ⟨0,?_⟩)
 obtain⟨ha,hb,hc⟩:=h
 obtain⟨a,rfl,ba⟩:=aY ha
 obtain⟨b,rfl,bb⟩:=aY hb
 obtain⟨c,rfl,bc⟩:=aY hc
 unfold agW
 simp only[am,aq,aH,aI,aF,az,aZ,auR,auT,Nat.reduceAdd,Nat.reduceLeDiff]
 rfl
def amZ:Ctx:=CX Fc []
def R8(a b c:BV)(_k:KT):OLR:=let y1:=hid (ai (ae b.1-ae a.1));let y2:=hid (ai (ae c.2-ae a.2));let y3:=hid (ai (ae b.2-ae a.2));let y4:=hid (ai (ae c.1-ae a.1));let y5:=hid (ai (ae y1*ae y2));let y6:=hid (ai (ae y3*ae y4));let y7:=hid (ai (ae y5-ae y6));let y8:=hid (ai (ae y1*ae y1));let y9:=hid (ai (ae y3*ae y3));let y10:=hid (ai (ae y4*ae y4));let y11:=hid (ai (ae y2*ae y2));let y12:=hid (ai (ae y8+ae y9));let y13:=hid (ai (ae y10+ae y11));let y14:=hid (ai (ae y12*ae y2));let y15:=hid (ai (ae y13*ae y3));let y16:=hid (ai (ae y14-ae y15));let y17:=hid (ai (ae y7+ae y7));let y18:=hid (ai (ae y13*ae y1));let y19:=hid (ai (ae y12*ae y4));let y20:=hid (ai (ae y18-ae y19));let y21:=hid (ai (ae y16/ae y17));let y22:=hid (ai (ae y20/ae y17));let y23:=hid (ai (ae y21*ae y21));let y24:=hid (ai (ae y22*ae y22));match decide (okR b.1∧okR a.1)with|true=>(match decide (okR b.2∧okR a.2)with|true=>(match decide (okR c.1∧okR a.1)with|true=>(match decide (okR c.2∧okR a.2)with|true=>(match decide (okR y1∧okR y2)with|true=>(match decide (okR y3∧okR y4)with|true=>(match decide (okR y5∧okR y6)with|true=>(match decide (okR y7)with|true=>(match(aR (ae y7) 0)==0 with|true=>some [RV.d tO (((false,[]),(false,[])),(((false,[]),(false,[])),((false,[]),(false,[])))),RV.d ayb 6]|false=>(match decide (okR y7∧okR y7)with|true=>(match decide (okR y1∧okR y1)with|true=>(match decide (okR y3∧okR y3)with|true=>(match decide (okR y8∧okR y9)with|true=>(match decide (okR y4∧okR y4)with|true=>(match decide (okR y2∧okR y2)with|true=>(match decide (okR y10∧okR y11)with|true=>(match decide (okR y12∧okR y2)with|true=>(match decide (okR y13∧okR y3)with|true=>(match decide (okR y14∧okR y15)with|true=>(match decide (gb y16 y17)with|true=>(match decide (okR y13∧okR y1)with|true=>(match decide (okR y12∧okR y4)with|true=>(match decide (okR y18∧okR y19)with|true=>(match decide (gb y20 y17)with|true=>(match decide (okR a.1∧okR y21)with|true=>(match decide (okR a.2∧okR y22)with|true=>(match decide (okR y21∧okR y21)with|true=>(match decide (okR y22∧okR y22)with|true=>(match decide (okR y23∧okR y24)with|true=>some [RV.d tO (hid (ai (ae a.1+ae y21)),(hid (ai (ae a.2+ae y22)),hid (ai (ae y23+ae y24)))),RV.d ayb 0]|false=>none)|false=>none)|false=>none)|false=>none)|false=>none)|false=>none)|false=>none)|false=>none)|false=>none)|false=>none)|false=>none)|false=>none)|false=>none)|false=>none)|false=>none)|false=>none)|false=>none)|false=>none)|false=>none)|false=>none))|false=>none)|false=>none)|false=>none)|false=>none)|false=>none)|false=>none)|false=>none)|false=>none
theorem akd(a b c:BV):RS amZ 138 [.d tV a,.d tV b,.d tV c] (R8 a b c):=rsX
theorem Q7(a b c:BV)(h:ok (Rat×Rat) 100 a∧ok (Rat×Rat) 100 b∧ok (Rat×Rat) 100 c):Con Tryz.prog 138 [.d tV a,.d tV b,.d tV c] [.d tO (AI (dec a) (dec b) (dec c)),.d ayb (AE (dec a) (dec b) (dec c))]:=by
 refine aO tH (akd _ _ _ ⟨0,?_⟩)
 obtain⟨ha,hb,hc⟩:=h
 obtain⟨a,rfl,ba⟩:=aY ha
 obtain⟨b,rfl,bb⟩:=aY hb
 obtain⟨c,rfl,bc⟩:=aY hc
 have e0:(b.1-a.1)*(c.2-a.2)-(b.2-a.2)*(c.1-a.1)=dq a b c:=rfl
 have bD:Bd (dq a b c) 805:=inferInstanceAs (Bd ((b.1-a.1)*(c.2-a.2)-(b.2-a.2)*(c.1-a.1)) _)
 have eX:(((b.1-a.1)*(b.1-a.1)+(b.2-a.2)*(b.2-a.2))*(c.2-a.2)-((c.1-a.1)*(c.1-a.1)+(c.2-a.2)*(c.2-a.2))*(b.2-a.2))/(dq a b c+dq a b c)=wa a b c:=rfl
 have eY:(((c.1-a.1)*(c.1-a.1)+(c.2-a.2)*(c.2-a.2))*(b.1-a.1)-((b.1-a.1)*(b.1-a.1)+(b.2-a.2)*(b.2-a.2))*(c.1-a.1))/(dq a b c+dq a b c)=u9 a b c:=rfl
 have m1:Bd ((b.1-a.1)*(b.1-a.1)+(b.2-a.2)*(b.2-a.2)) _:=inferInstance
 have m2:Bd ((c.1-a.1)*(c.1-a.1)+(c.2-a.2)*(c.2-a.2)) _:=inferInstance
 have n1:Bd (((b.1-a.1)*(b.1-a.1)+(b.2-a.2)*(b.2-a.2))*(c.2-a.2)-((c.1-a.1)*(c.1-a.1)+(c.2-a.2)*(c.2-a.2))*(b.2-a.2)) _:=inferInstance
 have n2:Bd (((c.1-a.1)*(c.1-a.1)+(c.2-a.2)*(c.2-a.2))*(b.1-a.1)-((b.1-a.1)*(b.1-a.1)+(b.2-a.2)*(b.2-a.2))*(c.1-a.1)) _:=inferInstance
 have bX0:Bd ((((b.1-a.1)*(b.1-a.1)+(b.2-a.2)*(b.2-a.2))*(c.2-a.2)-((c.1-a.1)*(c.1-a.1)+(c.2-a.2)*(c.2-a.2))*(b.2-a.2))/(dq a b c+dq a b c)) _:=inferInstance
 have bX:Bd (wa a b c) 4000:=by rw[←eX];exact bX0.mono (by decide)
 have bY0:Bd ((((c.1-a.1)*(c.1-a.1)+(c.2-a.2)*(c.2-a.2))*(b.1-a.1)-((b.1-a.1)*(b.1-a.1)+(b.2-a.2)*(b.2-a.2))*(c.1-a.1))/(dq a b c+dq a b c)) _:=inferInstance
 have bY:Bd (u9 a b c) 4000:=by rw[←eY];exact bY0.mono (by decide)
 unfold R8 AI AE
 simp only[am,aq,aH,aI,aF,az,aZ,auR,auT,Nat.reduceAdd,Nat.reduceLeDiff,aE,e0]
 by_cases hd:dq a b c=0
 ·rw[auO hd]
  rfl
 ·have h2:dq a b c+dq a b c≠0:=by grind
  rw[auQ hd]
  simp only[aC,Nat.reduceAdd,Nat.reduceLeDiff,cond_false,h2,ne_eq,awI,eX,eY]
  rfl
def Mm:aM:=spN false true [tV,tV] (fun x=>decide (ok (Rat×Rat) 100 x.1∧ok (Rat×Rat) 100 x.2.1)) (fun x=>[RV.d tO (hid (AC (dec x.1) (dec x.2.1))),RV.d ayb (AJ (dec x.1) (dec x.2.1))])
theorem Ou:SpK 136 Mm:=spX fun x h=>by simp only[am];exact S6 x.1 x.2.1 (auN h)
def Rb:aM:=spN true true [tV,tV,tV] (fun x=>decide (ok (Rat×Rat) 100 x.1∧ok (Rat×Rat) 100 x.2.1∧ok (Rat×Rat) 100 x.2.2.1)) (fun x=>[RV.d ayb (rH (dec x.1) (dec x.2.1) (dec x.2.2.1))])
theorem Yt:SpK 137 Rb:=spX fun x h=>adf x.1 x.2.1 x.2.2.1 (auN h)
def K1:aM:=spN false true [tV,tV,tV] (fun x=>decide (ok (Rat×Rat) 100 x.1∧ok (Rat×Rat) 100 x.2.1∧ok (Rat×Rat) 100 x.2.2.1)) (fun x=>[RV.d tO (hid (AI (dec x.1) (dec x.2.1) (dec x.2.2.1))),RV.d ayb (AE (dec x.1) (dec x.2.1) (dec x.2.2.1))])
theorem Pc:SpK 138 K1:=spX fun x h=>by simp only[am];exact Q7 x.1 x.2.1 x.2.2.1 (auN h)
def VM:Env:=(136,Mm)::(137,Rb)::(138,K1)::Fc
theorem Gd:EnvAll Tryz.prog VM:=⟨Ou,Yt,Pc,tH⟩
def alx:Ctx:=CX VM []
def WS(a b:BV)(_k:KT):OLR:=match decide (ok (Rat×Rat) 100 a∧ok (Rat×Rat) 100 b)with|true=>(match(AJ (dec a) (dec b)) !=0 with|true=>some [RV.d tCU (false,((((false,[]),(false,[])),(((false,[]),(false,[])),((false,[]),(false,[])))),((((false,[]),(false,[])),(((false,[]),(false,[])),((false,[]),(false,[])))),(false,((((false,[]),(false,[])),(((false,[]),(false,[])),(((false,[]),(false,[])),(((false,[]),(false,[])),((false,[]),(false,[])))))),(((false,[]),(false,[])),(((false,[]),(false,[])),(((false,[]),(false,[])),(((false,[]),(false,[])),((false,[]),(false,[]))))))))))),RV.d ayb 6]|false=>(match decide (ok (Rat×Rat) 100000 a)with|true=>(match decide (ok (Rat×Rat) 100000 b)with|true=>some [RV.d tCU (false,(hid (AC (dec a) (dec b)),((((false,[]),(false,[])),(((false,[]),(false,[])),((false,[]),(false,[])))),(false,(hid (enc (atP (dec a))),hid (enc (atP (dec b)))))))),RV.d ayb 0]|false=>none)|false=>none))|false=>none
theorem akX(a b:BV):RS alx 71 [.d tV a,.d tV b] (WS a b):=rsX
theorem W6(a b:BV)(h:ok (Rat×Rat) 100 a∧ok (Rat×Rat) 100 b):Con Tryz.prog 71 [.d tV a,.d tV b] [.d tCU (AA (dec a) (dec b)),.d ayb (oI (dec a) (dec b))]:=by
 refine aO Gd (akX _ _ ⟨0,?_⟩)
 obtain⟨ha,hb⟩:=h
 obtain⟨a,rfl,ba⟩:=aY ha
 obtain⟨b,rfl,bb⟩:=aY hb
 unfold WS AA oI AJ AC
 simp only[am,aq,okd,auR,auT,Nat.reduceLeDiff]
 cases uf a b<;>rfl
def amr:Ctx:=CX VM []
def Q0(a b c:BV)(_k:KT):OLR:=match decide (ok (Rat×Rat) 100 a∧ok (Rat×Rat) 100 b∧ok (Rat×Rat) 100 c)with|true=>(match decide (ok (Rat×Rat) 100 a∧ok (Rat×Rat) 100 b∧ok (Rat×Rat) 100 c)with|true=>(match(rH (dec a) (dec b) (dec c))==0 with|true=>some [RV.d tCU (false,((((false,[]),(false,[])),(((false,[]),(false,[])),((false,[]),(false,[])))),((((false,[]),(false,[])),(((false,[]),(false,[])),((false,[]),(false,[])))),(false,((((false,[]),(false,[])),(((false,[]),(false,[])),(((false,[]),(false,[])),(((false,[]),(false,[])),((false,[]),(false,[])))))),(((false,[]),(false,[])),(((false,[]),(false,[])),(((false,[]),(false,[])),(((false,[]),(false,[])),((false,[]),(false,[]))))))))))),RV.d ayb 6]|false=>(match(AE (dec a) (dec b) (dec c)) !=0 with|true=>some [RV.d tCU (false,((((false,[]),(false,[])),(((false,[]),(false,[])),((false,[]),(false,[])))),((((false,[]),(false,[])),(((false,[]),(false,[])),((false,[]),(false,[])))),(false,((((false,[]),(false,[])),(((false,[]),(false,[])),(((false,[]),(false,[])),(((false,[]),(false,[])),((false,[]),(false,[])))))),(((false,[]),(false,[])),(((false,[]),(false,[])),(((false,[]),(false,[])),(((false,[]),(false,[])),((false,[]),(false,[]))))))))))),RV.d ayb 6]|false=>(match decide (ok (Rat×Rat) 100000 a)with|true=>(match decide (ok (Rat×Rat) 100000 c)with|true=>some [RV.d tCU (true,((((false,[]),(false,[])),(((false,[]),(false,[])),((false,[]),(false,[])))),(hid (AI (dec a) (dec b) (dec c)),(decide ((rH (dec a) (dec b) (dec c))<0),(hid (enc (atP (dec a))),hid (enc (atP (dec c)))))))),RV.d ayb 0]|false=>none)|false=>none)))|false=>none)|false=>none
theorem ajT(a b c:BV):RS amr 72 [.d tV a,.d tV b,.d tV c] (Q0 a b c):=rsX
theorem SP(a b c:BV)(h:ok (Rat×Rat) 100 a∧ok (Rat×Rat) 100 b∧ok (Rat×Rat) 100 c):Con Tryz.prog 72 [.d tV a,.d tV b,.d tV c] [.d tCU (As (dec a) (dec b) (dec c)),.d ayb (oK (dec a) (dec b) (dec c))]:=by
 refine aO Gd (ajT _ _ _ ⟨0,?_⟩)
 obtain⟨ha,hb,hc⟩:=h
 obtain⟨a,rfl,ba⟩:=aY ha
 obtain⟨b,rfl,bb⟩:=aY hb
 obtain⟨c,rfl,bc⟩:=aY hc
 unfold Q0 As oK
 simp only[am,aq,okd,auR,auT,Nat.reduceLeDiff]
 rw[aj6]
 unfold AE AI
 cases decide (dq a b c=0)<;>rfl
def M2:aM:=spN false true [tV,tV] (fun x=>decide (ok (Rat×Rat) 100 x.1∧ok (Rat×Rat) 100 x.2.1)) (fun x=>[RV.d tCU (hid (AA (dec x.1) (dec x.2.1))),RV.d ayb (oI (dec x.1) (dec x.2.1))])
theorem PT:SpK 71 M2:=spX fun x h=>by simp only[am];exact W6 x.1 x.2.1 (auN h)
def Na:aM:=spN false true [tV,tV,tV] (fun x=>decide (ok (Rat×Rat) 100 x.1∧ok (Rat×Rat) 100 x.2.1∧ok (Rat×Rat) 100 x.2.2.1)) (fun x=>[RV.d tCU (hid (As (dec x.1) (dec x.2.1) (dec x.2.2.1))),RV.d ayb (oK (dec x.1) (dec x.2.1) (dec x.2.2.1))])
theorem P9:SpK 72 Na:=spX fun x h=>by simp only[am];exact SP x.1 x.2.1 x.2.2.1 (auN h)
def fM(c:Cv):List BP→BP→List BP
 |[],x=>[x]
 |y::r,x=>bif decide (cj c (dec y) (dec x)<0)then y::fM c r x else bif aV (dec y) (dec x)==0 then y::r else x::y::r
def eU(c:Cv)(l:List BP):List BP:=l.foldl (fM c) []
def rP(c:BCU)(l:List BP):Prop:=okC 4000 c∧l.length≤1000000∧∀x∈l,okP 4000 x
instance (c:BCU) (l:List BP):Decidable (rP c l):=by unfold rP;infer_instance
theorem qf{c:Cv}{x y:BP}:∀{r:List BP},y∈fM c r x→y∈r∨y=x
 |[],h=>by simp only[fM,avR]at h;exact .inr h
 |z::r,h=>by
  simp only[fM]at h
  cases h1:decide (cj c (dec z) (dec x)<0)<;>rw[h1]at h
  ·cases h2:aV (dec z) (dec x)==0<;>rw[h2]at h
   ·rcases au5.1 h with h|h
    ·exact .inr h
    ·exact .inl h
   ·exact .inl h
  ·rcases au5.1 h with h|h
   ·exact .inl (by simp[h])
   ·rcases qf h with h|h
    ·exact .inl (au4 _ h)
    ·exact .inr h
theorem z8(c:Cv)(x:BP):∀r:List BP,(fM c r x).length≤r.length+1
 |[]=>by simp[fM]
 |z::r=>by
  have:=z8 c x r
  simp only[fM]
  cases decide (cj c (dec z) (dec x)<0)
  ·cases aV (dec z) (dec x)==0<;>simp
  ·simp only[cond_true,avc];omega
theorem wZ{c:Cv}:∀{l out:List BP} {y:BP},y∈l.foldl (fM c) out→y∈out∨y∈l
 |[],_,_,h=>.inl h
 |x::l,out,y,h=>by
  rcases wZ (l:=l) (out:=fM c out x) h with h|h
  ·rcases qf h with h|h
   ·exact .inl h
   ·exact .inr (by simp[h])
  ·exact .inr (au4 _ h)
theorem tK(c:Cv):∀(l out:List BP),(l.foldl (fM c) out).length≤out.length+l.length
 |[],_=>auY _
 |x::l,out=>by
  have h1:=tK c l (fM c out x)
  have h2:=z8 c x out
  simp only[awK,avc]
  omega
theorem NL{α:Type}{l:List α}{k:Nat}(h:k<l.length):l.take (k+1)=l.take k++[l[k]]:=by rw[List.take_succ_eq_append_getElem h]
def ah7:Env:=[(50,xU),(15,Dy),(20,n5)]
theorem Sd:EnvAll Tryz.prog ah7:=⟨tW,zC,ko,trivial⟩
def ajq:NT:=[((24,8),{keep:=[1,2,5,6],pure_:=[(5,tP)],hl:=1}),((24,21),{keep:=[1,2,5,6,7],pure_:=[(5,tP)],hl:=1})]
def wx:Ctx:=CX ah7 ajq
def k9(c:BCU)(l:List BP)(s6:Int)(s5:List BP):Cfg:=⟨24,[.blk 0,.seq 38],[(1,.d (.sl tP) l),(2,.box 0 0),(5,.d (.sl tP) s5),(6,SI s6)],[.box 43 [SB c.1,SB c.2.1.1.1.1,.d aya c.2.1.1.1.2,SB c.2.1.1.2.1,.d aya c.2.1.1.2.2,SB c.2.1.2.1.1.1,.d aya c.2.1.2.1.1.2,SB c.2.1.2.1.2.1,.d aya c.2.1.2.1.2.2,SB c.2.1.2.2.1.1,.d aya c.2.1.2.2.1.2,SB c.2.1.2.2.2.1,.d aya c.2.1.2.2.2.2,SB c.2.2.1.1.1.1,.d aya c.2.2.1.1.1.2,SB c.2.2.1.1.2.1,.d aya c.2.2.1.1.2.2,SB c.2.2.1.2.1.1.1,.d aya c.2.2.1.2.1.1.2,SB c.2.2.1.2.1.2.1,.d aya c.2.2.1.2.1.2.2,SB c.2.2.1.2.2.1.1,.d aya c.2.2.1.2.2.1.2,SB c.2.2.1.2.2.2.1,.d aya c.2.2.1.2.2.2.2,SB c.2.2.2.1,SB c.2.2.2.2.1.1.1.1,.d aya c.2.2.2.2.1.1.1.2,SB c.2.2.2.2.1.1.2.1,.d aya c.2.2.2.2.1.1.2.2,SB c.2.2.2.2.1.2.1.1.1,.d aya c.2.2.2.2.1.2.1.1.2,SB c.2.2.2.2.1.2.1.2.1,.d aya c.2.2.2.2.1.2.1.2.2,SB c.2.2.2.2.1.2.2.1.1.1,.d aya c.2.2.2.2.1.2.2.1.1.2,SB c.2.2.2.2.1.2.2.1.2.1,.d aya c.2.2.2.2.1.2.2.1.2.2,SB c.2.2.2.2.1.2.2.2.1.1.1,.d aya c.2.2.2.2.1.2.2.2.1.1.2,SB c.2.2.2.2.1.2.2.2.1.2.1,.d aya c.2.2.2.2.1.2.2.2.1.2.2,SB c.2.2.2.2.1.2.2.2.2.1.1,.d aya c.2.2.2.2.1.2.2.2.2.1.2,SB c.2.2.2.2.1.2.2.2.2.2.1,.d aya c.2.2.2.2.1.2.2.2.2.2.2,SB c.2.2.2.2.2.1.1.1,.d aya c.2.2.2.2.2.1.1.2,SB c.2.2.2.2.2.1.2.1,.d aya c.2.2.2.2.2.1.2.2,SB c.2.2.2.2.2.2.1.1.1,.d aya c.2.2.2.2.2.2.1.1.2,SB c.2.2.2.2.2.2.1.2.1,.d aya c.2.2.2.2.2.2.1.2.2,SB c.2.2.2.2.2.2.2.1.1.1,.d aya c.2.2.2.2.2.2.2.1.1.2,SB c.2.2.2.2.2.2.2.1.2.1,.d aya c.2.2.2.2.2.2.2.1.2.2,SB c.2.2.2.2.2.2.2.2.1.1.1,.d aya c.2.2.2.2.2.2.2.2.1.1.2,SB c.2.2.2.2.2.2.2.2.1.2.1,.d aya c.2.2.2.2.2.2.2.2.1.2.2,SB c.2.2.2.2.2.2.2.2.2.1.1,.d aya c.2.2.2.2.2.2.2.2.2.1.2,SB c.2.2.2.2.2.2.2.2.2.2.1,.d aya c.2.2.2.2.2.2.2.2.2.2.2]],0,[]⟩
def wR(c:BCU)(l s5:List BP)(s6 s7:Int):Cfg:=⟨24,[.blk 2,.seq 30,.blk 1,.seq 37,.lp 8,.blk 0,.seq 38],[(1,.d (.sl tP) l),(2,.box 0 0),(5,.d (.sl tP) s5),(6,SI s6),(7,SI s7)],[.box 43 [SB c.1,SB c.2.1.1.1.1,.d aya c.2.1.1.1.2,SB c.2.1.1.2.1,.d aya c.2.1.1.2.2,SB c.2.1.2.1.1.1,.d aya c.2.1.2.1.1.2,SB c.2.1.2.1.2.1,.d aya c.2.1.2.1.2.2,SB c.2.1.2.2.1.1,.d aya c.2.1.2.2.1.2,SB c.2.1.2.2.2.1,.d aya c.2.1.2.2.2.2,SB c.2.2.1.1.1.1,.d aya c.2.2.1.1.1.2,SB c.2.2.1.1.2.1,.d aya c.2.2.1.1.2.2,SB c.2.2.1.2.1.1.1,.d aya c.2.2.1.2.1.1.2,SB c.2.2.1.2.1.2.1,.d aya c.2.2.1.2.1.2.2,SB c.2.2.1.2.2.1.1,.d aya c.2.2.1.2.2.1.2,SB c.2.2.1.2.2.2.1,.d aya c.2.2.1.2.2.2.2,SB c.2.2.2.1,SB c.2.2.2.2.1.1.1.1,.d aya c.2.2.2.2.1.1.1.2,SB c.2.2.2.2.1.1.2.1,.d aya c.2.2.2.2.1.1.2.2,SB c.2.2.2.2.1.2.1.1.1,.d aya c.2.2.2.2.1.2.1.1.2,SB c.2.2.2.2.1.2.1.2.1,.d aya c.2.2.2.2.1.2.1.2.2,SB c.2.2.2.2.1.2.2.1.1.1,.d aya c.2.2.2.2.1.2.2.1.1.2,SB c.2.2.2.2.1.2.2.1.2.1,.d aya c.2.2.2.2.1.2.2.1.2.2,SB c.2.2.2.2.1.2.2.2.1.1.1,.d aya c.2.2.2.2.1.2.2.2.1.1.2,SB c.2.2.2.2.1.2.2.2.1.2.1,.d aya c.2.2.2.2.1.2.2.2.1.2.2,SB c.2.2.2.2.1.2.2.2.2.1.1,.d aya c.2.2.2.2.1.2.2.2.2.1.2,SB c.2.2.2.2.1.2.2.2.2.2.1,.d aya c.2.2.2.2.1.2.2.2.2.2.2,SB c.2.2.2.2.2.1.1.1,.d aya c.2.2.2.2.2.1.1.2,SB c.2.2.2.2.2.1.2.1,.d aya c.2.2.2.2.2.1.2.2,SB c.2.2.2.2.2.2.1.1.1,.d aya c.2.2.2.2.2.2.1.1.2,SB c.2.2.2.2.2.2.1.2.1,.d aya c.2.2.2.2.2.2.1.2.2,SB c.2.2.2.2.2.2.2.1.1.1,.d aya c.2.2.2.2.2.2.2.1.1.2,SB c.2.2.2.2.2.2.2.1.2.1,.d aya c.2.2.2.2.2.2.2.1.2.2,SB c.2.2.2.2.2.2.2.2.1.1.1,.d aya c.2.2.2.2.2.2.2.2.1.1.2,SB c.2.2.2.2.2.2.2.2.1.2.1,.d aya c.2.2.2.2.2.2.2.2.1.2.2,SB c.2.2.2.2.2.2.2.2.2.1.1,.d aya c.2.2.2.2.2.2.2.2.2.1.2,SB c.2.2.2.2.2.2.2.2.2.2.1,.d aya c.2.2.2.2.2.2.2.2.2.2.2]],0,[]⟩
def apN(c:BCU)(l:List BP)(k:KT):OLR:=k 8 (k9 c l 0 ([]))
theorem aqS(c:BCU)(l:List BP):RS wx 24 [.d tCU c,.d (.sl tP) l] (apN c l):=rsX
def z9(c:BCU)(l:List BP)(s6:Int)(s5:List BP)(k:KT):OLR:=match decide (s6<(l.length:Int))with|true=>k 21 (wR c l s5 s6 0)|false=>some [RV.d (.sl tP) s5]
theorem GV(c:BCU)(l:List BP)(s6:Int)(s5:List BP):RN wx 8 (k9 c l s6 s5) (z9 c l s6 s5):=rnX
def vF(c:BCU)(l s5:List BP)(s6 s7:Int)(k:KT):OLR:=match decide (s7<(s5.length:Int))with|true=>(match bi s5 s7 with|some x1=>(match bi l s6 with|some x2=>(match decide (okC 4000 c∧okP 4000 x1∧okP 4000 x2)with|true=>(match decide ((cj (dC c) (dec x1) (dec x2))<0)with|true=>k 21 (wR c l s5 s6 (i64.wrap (s7+1)))|false=>(match decide (s7<(s5.length:Int))with|true=>(match bi s5 s7 with|some x3=>(match bi l s6 with|some x4=>(match decide (okP 4000 x3∧okP 4000 x4)with|true=>(match aV (dec x3) (dec x4)==0 with|true=>k 8 (k9 c l (i64.wrap (s6+1)) s5)|false=>(match decide ((0:Int)≤0∧0≤s7∧s7≤(s5.length:Int))with|true=>(match bi l s6 with|some x5=>(match decide ((0:Int)≤s7∧s7≤(s5.length:Int)∧(s5.length:Int)≤(s5.length:Int))with|true=>dup (.b (.b .l .l) .l) (match decide ((([]:List BP).length+((s5.take (s7).toNat).drop (0:Int).toNat).length)*320≤140737488355328∧([]:List BP).length+((s5.take (s7).toNat).drop (0:Int).toNat).length≤140737488355328)with|true=>(match decide (((([]:List BP)++((s5.take (s7).toNat).drop (0:Int).toNat)).length+([x5]).length)*320≤140737488355328∧(([]:List BP)++((s5.take (s7).toNat).drop (0:Int).toNat)).length+([x5]).length≤140737488355328)with|true=>(match decide ((((([]:List BP)++((s5.take (s7).toNat).drop (0:Int).toNat))++([x5])).length+((s5.take ((s5.length:Int)).toNat).drop (s7:Int).toNat).length)*320≤140737488355328∧((([]:List BP)++((s5.take (s7).toNat).drop (0:Int).toNat))++([x5])).length+((s5.take ((s5.length:Int)).toNat).drop (s7:Int).toNat).length≤140737488355328)with|true=>k 8 (k9 c l (i64.wrap (s6+1)) (((([]:List BP)++((s5.take (s7).toNat).drop (0:Int).toNat))++([x5]))++((s5.take ((s5.length:Int)).toNat).drop (s7:Int).toNat)))|false=>none)|false=>none)|false=>none)|false=>none)|none=>none)|false=>none))|false=>none)|none=>none)|none=>none)|false=>(match decide ((0:Int)≤0∧0≤s7∧s7≤(s5.length:Int))with|true=>(match bi l s6 with|some x3=>(match decide ((0:Int)≤s7∧s7≤(s5.length:Int)∧(s5.length:Int)≤(s5.length:Int))with|true=>dup (.b (.b .l .l) .l) (match decide ((([]:List BP).length+((s5.take (s7).toNat).drop (0:Int).toNat).length)*320≤140737488355328∧([]:List BP).length+((s5.take (s7).toNat).drop (0:Int).toNat).length≤140737488355328)with|true=>(match decide (((([]:List BP)++((s5.take (s7).toNat).drop (0:Int).toNat)).length+([x3]).length)*320≤140737488355328∧(([]:List BP)++((s5.take (s7).toNat).drop (0:Int).toNat)).length+([x3]).length≤140737488355328)with|true=>(match decide ((((([]:List BP)++((s5.take (s7).toNat).drop (0:Int).toNat))++([x3])).length+((s5.take ((s5.length:Int)).toNat).drop (s7:Int).toNat).length)*320≤140737488355328∧((([]:List BP)++((s5.take (s7).toNat).drop (0:Int).toNat))++([x3])).length+((s5.take ((s5.length:Int)).toNat).drop (s7:Int).toNat).length≤140737488355328)with|true=>k 8 (k9 c l (i64.wrap (s6+1)) (((([]:List BP)++((s5.take (s7).toNat).drop (0:Int).toNat))++([x3]))++((s5.take ((s5.length:Int)).toNat).drop (s7:Int).toNat)))|false=>none)|false=>none)|false=>none)|false=>none)|none=>none)|false=>none)))|false=>none)|none=>none)|none=>none)|false=>(match decide (s7<(s5.length:Int))with|true=>(match bi s5 s7 with|some x1=>(match bi l s6 with|some x2=>(match decide (okP 4000 x1∧okP 4000 x2)with|true=>(match aV (dec x1) (dec x2)==0 with|true=>k 8 (k9 c l (i64.wrap (s6+1)) s5)|false=>(match decide ((0:Int)≤0∧0≤s7∧s7≤(s5.length:Int))with|true=>(match bi l s6 with|some x3=>(match decide ((0:Int)≤s7∧s7≤(s5.length:Int)∧(s5.length:Int)≤(s5.length:Int))with|true=>dup (.b (.b .l .l) .l) (match decide ((([]:List BP).length+((s5.take (s7).toNat).drop (0:Int).toNat).length)*320≤140737488355328∧([]:List BP).length+((s5.take (s7).toNat).drop (0:Int).toNat).length≤140737488355328)with|true=>(match decide (((([]:List BP)++((s5.take (s7).toNat).drop (0:Int).toNat)).length+([x3]).length)*320≤140737488355328∧(([]:List BP)++((s5.take (s7).toNat).drop (0:Int).toNat)).length+([x3]).length≤140737488355328)with|true=>(match decide ((((([]:List BP)++((s5.take (s7).toNat).drop (0:Int).toNat))++([x3])).length+((s5.take ((s5.length:Int)).toNat).drop (s7:Int).toNat).length)*320≤140737488355328∧((([]:List BP)++((s5.take (s7).toNat).drop (0:Int).toNat))++([x3])).length+((s5.take ((s5.length:Int)).toNat).drop (s7:Int).toNat).length≤140737488355328)with|true=>k 8 (k9 c l (i64.wrap (s6+1)) (((([]:List BP)++((s5.take (s7).toNat).drop (0:Int).toNat))++([x3]))++((s5.take ((s5.length:Int)).toNat).drop (s7:Int).toNat)))|false=>none)|false=>none)|false=>none)|false=>none)|none=>none)|false=>none))|false=>none)|none=>none)|none=>none)|false=>(match decide ((0:Int)≤0∧0≤s7∧s7≤(s5.length:Int))with|true=>(match bi l s6 with|some x1=>(match decide ((0:Int)≤s7∧s7≤(s5.length:Int)∧(s5.length:Int)≤(s5.length:Int))with|true=>dup (.b (.b .l .l) .l) (match decide ((([]:List BP).length+((s5.take (s7).toNat).drop (0:Int).toNat).length)*320≤140737488355328∧([]:List BP).length+((s5.take (s7).toNat).drop (0:Int).toNat).length≤140737488355328)with|true=>(match decide (((([]:List BP)++((s5.take (s7).toNat).drop (0:Int).toNat)).length+([x1]).length)*320≤140737488355328∧(([]:List BP)++((s5.take (s7).toNat).drop (0:Int).toNat)).length+([x1]).length≤140737488355328)with|true=>(match decide ((((([]:List BP)++((s5.take (s7).toNat).drop (0:Int).toNat))++([x1])).length+((s5.take ((s5.length:Int)).toNat).drop (s7:Int).toNat).length)*320≤140737488355328∧((([]:List BP)++((s5.take (s7).toNat).drop (0:Int).toNat))++([x1])).length+((s5.take ((s5.length:Int)).toNat).drop (s7:Int).toNat).length≤140737488355328)with|true=>k 8 (k9 c l (i64.wrap (s6+1)) (((([]:List BP)++((s5.take (s7).toNat).drop (0:Int).toNat))++([x1]))++((s5.take ((s5.length:Int)).toNat).drop (s7:Int).toNat)))|false=>none)|false=>none)|false=>none)|false=>none)|none=>none)|false=>none))
theorem Cx(c:BCU)(l s5:List BP)(s6 s7:Int):RN wx 21 (wR c l s5 s6 s7) (vF c l s5 s6 s7):=rnX
theorem alf(c:BCU)(l:List BP)(hc:okC 4000 c)(hl:∀x∈l,okP 4000 x)(out:List BP)(ho:∀x∈out,okP 4000 x)(hlen:out.length≤1000000)(i:Nat)(hi:i<l.length)(hi2:i≤1000000)(r:List RV)(h:wx.Runs 8 (k9 c l ((i+1:Nat):Int) (fM (dC c) out l[i])) r):
  ∀(j k:Nat),k+j=out.length→fM (dC c) out l[i]=out.take k++fM (dC c) (out.drop k) l[i]→wx.Runs 21 (wR c l out (i:Int) (k:Int)) r:=by
 have e0:i64.wrap ((i:Int)+1)=((i+1:Nat):Int):=cr (by omega)
 have gl:bi l (i:Int)=some l[i]:=by rw[aA,auP hi]
 have hx:=hl _ (avu hi)
 have tl:out.take ((out.length:Int)).toNat=out:=by simp
 have put:∀k:Nat,k≤out.length→fM (dC c) out l[i]=out.take k++[l[i]]++out.drop k→∃n,(match decide ((0:Int)≤0∧0≤(k:Int)∧(k:Int)≤(out.length:Int))with
   |true=>(match bi l (i:Int)with
    |some x5=>(match decide ((0:Int)≤(k:Int)∧(k:Int)≤(out.length:Int)∧(out.length:Int)≤(out.length:Int))with
     |true=>(match decide ((([]:List BP).length+((out.take ((k:Int)).toNat).drop (0:Int).toNat).length)*320≤140737488355328∧([]:List BP).length+((out.take ((k:Int)).toNat).drop (0:Int).toNat).length≤140737488355328)with
      |true=>(match decide (((([]:List BP)++((out.take ((k:Int)).toNat).drop (0:Int).toNat)).length+([x5]).length)*320≤140737488355328∧(([]:List BP)++((out.take ((k:Int)).toNat).drop (0:Int).toNat)).length+([x5]).length≤140737488355328)with
       |true=>(match decide ((((([]:List BP)++((out.take ((k:Int)).toNat).drop (0:Int).toNat))++([x5])).length+((out.take ((out.length:Int)).toNat).drop ((k:Int)).toNat).length)*320≤140737488355328∧((([]:List BP)++((out.take ((k:Int)).toNat).drop (0:Int).toNat))++([x5])).length+((out.take ((out.length:Int)).toNat).drop ((k:Int)).toNat).length≤140737488355328)with
        |true=>wx.k n 8 (k9 c l (i64.wrap ((i:Int)+1)) (((([]:List BP)++((out.take ((k:Int)).toNat).drop (0:Int).toNat))++([x5]))++((out.take ((out.length:Int)).toNat).drop ((k:Int)).toNat)))
        |false=>none)
       |false=>none)
      |false=>none)
     |false=>none)
    |none=>none)
   |false=>none)=some r:=by
  intro k hk he
  have e1:((out.take ((k:Int)).toNat).drop (0:Int).toNat)=out.take k:=by simp
  have e2:((out.take ((out.length:Int)).toNat).drop ((k:Int)).toNat)=out.drop k:=by simp
  have l1:(out.take k).length=k:=by simp;omega
  have l2:(out.drop k).length=out.length-k:=by simp
  obtain⟨n,hn⟩:=h
  refine⟨n,?_⟩
  rw[gl,dT (show(0:Int)≤0∧0≤(k:Int)∧(k:Int)≤(out.length:Int) by omega)]
  dsimp only
  rw[dT (show(0:Int)≤(k:Int)∧(k:Int)≤(out.length:Int)∧(out.length:Int)≤(out.length:Int) by omega)]
  simp only[e1,e2,axM,axQ,avv,avc,l1,l2,avw]
  rw[dT (by omega),dT (by omega),dT (by omega),e0,←he]
  exact hn
 intro j
 induction j with
 |zero=>
  intro k hk he
  have hk:k=out.length:=by omega
  subst hk
  refine Cx _ _ _ _ _ ?_
  unfold vF
  rw[cz (by omega)]
  simp only[aN]
  refine put _ (auY _) ?_
  rw[he]
  simp[fM]
 |succ j ih=>
  intro k hk he
  have hkl:k<out.length:=by omega
  have go:bi out (k:Int)=some out[k]:=by rw[aA,auP hkl]
  have ho1:=ho _ (avu hkl)
  have ek:i64.wrap ((k:Int)+1)=((k+1:Nat):Int):=cr (by omega)
  have hd:out.drop k=out[k]::out.drop (k+1):=avd hkl
  refine Cx _ _ _ _ _ ?_
  unfold vF
  simp only[aN,cd hkl,go,gl,dT (show okC 4000 c∧okP 4000 out[k]∧okP 4000 l[i] from⟨hc,ho1,hx⟩),dT (show okP 4000 out[k]∧okP 4000 l[i] from⟨ho1,hx⟩)]
  rw[hd]at he
  simp only[fM]at he
  cases h1:decide (cj (dC c) (dec out[k]) (dec l[i])<0)<;>rw[h1]at he
  ·simp only[cond_false]at he
   cases h2:aV (dec out[k]) (dec l[i])==0<;>rw[h2]at he
   ·simp only[cond_false]at he
    have:=put k (by omega) (by rw[he,hd];simp)
    simp only[gl]at this
    exact this
   ·simp only[cond_true]at he
    rw[←hd,awg]at he
    obtain⟨n,hn⟩:=h
    refine⟨n,?_⟩
    rw[e0]
    rw[he]at hn
    exact hn
  ·simp only[cond_true]at he
   obtain⟨n,hn⟩:=ih (k+1) (by omega) (by rw[he,NL hkl,avl];rfl)
   refine⟨n,?_⟩
   rw[ek]
   exact hn
theorem ac1(c:BCU)(l:List BP)(hc:okC 4000 c)(hl:∀x∈l,okP 4000 x)(hle:l.length≤1000000):∀(j i:Nat),i+j=l.length→∀out:List BP,(∀x∈out,okP 4000 x)→out.length≤i→wx.Runs 8 (k9 c l (i:Int) out) [.d (.sl tP) ((l.drop i).foldl (fM (dC c)) out)]:=by
 intro j
 induction j with
 |zero=>
  intro i hi out ho hlen
  refine GV _ _ _ _ ⟨0,?_⟩
  unfold z9
  rw[cz (by omega),tw (by omega)]
  rfl
 |succ j ih=>
  intro i hi out ho hlen
  have hil:i<l.length:=by omega
  have h2:=ih (i+1) (by omega) (fM (dC c) out l[i]) (fun x hx=>by
   rcases qf hx with h|h
   ·exact ho x h
   ·rw[h];exact hl _ (avu hil)) (ava (z8 _ _ _) (by omega))
  obtain⟨n,hn⟩:=alf c l hc hl out ho (by omega) i hil (by omega) _ h2 out.length 0 (by omega) (by simp)
  refine GV _ _ _ _ ⟨n,?_⟩
  unfold z9
  rw[cd hil,ju hil,awK]
  exact hn
theorem acL(c:BCU)(l:List BP)(h:rP c l):Con Tryz.prog 24 [.d tCU c,.d (.sl tP) l] [.d (.sl tP) (eU (dC c) l)]:=by
 obtain⟨hc,hle,hl⟩:=h
 refine aO Sd (show wx.Res _ _ _ from ?_)
 obtain⟨n,hn⟩:=ac1 c l hc hl hle l.length 0 (by omega) [] (fun x hx=>by cases hx) (auY _)
 exact aqS _ _ ⟨n,hn⟩
def CT:aM:=spN false false [tCU,(.sl tP)] (fun x=>decide (rP x.1 x.2.1)) (fun x=>[RV.d (.sl tP) (eU (dC x.1) x.2.1)])
theorem yd:SpK 24 CT:=spX fun x h=>acL x.1 x.2.1 (auN h)
def pg(c:BCU)(x y:BP):BCU:=(c.1,c.2.1,c.2.2.1,c.2.2.2.1,x,y)
def jG(c:BCU):List BP→List BCU
 |[]=>[]
 |x::r=>match r with
  |[]=>[]
  |y::_=>pg c x y::jG c r
def vD(c:BCU)(l:List BP):List BP:=eU (dC c) ([c.2.2.2.2.1,c.2.2.2.2.2]++l)
def kJ(c:BCU)(l:List BP):List BCU:=jG c (vD c l)
def HM(c:BCU)(l:List BP):Prop:=okC 3500 c∧l.length≤900000∧∀x∈l,okP 3500 x∧onR (dC c) (dec x)=true
instance (c:BCU) (l:List BP):Decidable (HM c l):=by unfold HM;infer_instance
theorem ab9{c:BCU}{l:List BP}(h:HM c l):rP c ([c.2.2.2.2.1,c.2.2.2.2.2]++l):=by
 obtain⟨h1,h2,h3⟩:=h
 have h4:=ck (k:=4000) h1 (by decide) (by decide)
 refine⟨h4,by simp;omega,fun x hx=>?_⟩
 rcases avj.1 hx with hx|hx
 ·simp only[au5,awi,axz]at hx
  rcases hx with rfl|rfl
  ·exact h4.2.2.1
  ·exact h4.2.2.2
 ·exact db (h3 x hx).1 (by decide) (by decide)
theorem KH(c:BCU)(l:List BP):(vD c l).length≤l.length+2:=by
 have:=tK (dC c) ([c.2.2.2.2.1,c.2.2.2.2.2]++l) []
 unfold vD eU
 simp at this ⊢
 omega
theorem Mg{c:BCU}{l:List BP}{x:BP}(h:x∈vD c l):x=c.2.2.2.2.1∨x=c.2.2.2.2.2∨x∈l:=by
 rcases wZ (out:=[]) h with h|h
 ·cases h
 ·rcases avj.1 h with h|h
  ·simp only[au5,awi,axz]at h
   rcases h with h|h
   ·exact .inl h
   ·exact .inr (.inl h)
  ·exact .inr (.inr h)
theorem Ed{c p:BCU}:∀{s:List BP},p∈jG c s→∃x y,x∈s∧y∈s∧p=pg c x y
 |[],h=>by cases h
 |[_],h=>by cases h
 |x::y::r,h=>by
  simp only[jG]at h
  rcases au5.1 h with h|h
  ·exact⟨x,y,by simp,by simp,h⟩
  ·obtain⟨a,b,h1,h2,h3⟩:=Ed (s:=y::r) h
   exact⟨a,b,au4 _ h1,au4 _ h2,h3⟩
def ahN:Env:=[(50,xU),(15,Dy),(20,n5),(21,zQ),(51,qT),(24,CT)]
theorem ZA:EnvAll Tryz.prog ahN:=⟨tW,zC,ko,tZ,mL,yd,trivial⟩
def alu:NT:=[((18,6),{keep:=[1,2,6],hl:=1}),((18,31),{keep:=[2,7,8,9],own:=[(8,43,tCU)],hl:=3})]
def BW:Ctx:=CX ahN alu
def Dq(c:BCU)(l:List BP)(s6:Int):Cfg:=⟨18,[.blk 0,.seq 23],[(1,.d (.sl tP) l),(2,.box 0 0),(6,SI s6)],[.box 43 [SB c.1,SB c.2.1.1.1.1,.d aya c.2.1.1.1.2,SB c.2.1.1.2.1,.d aya c.2.1.1.2.2,SB c.2.1.2.1.1.1,.d aya c.2.1.2.1.1.2,SB c.2.1.2.1.2.1,.d aya c.2.1.2.1.2.2,SB c.2.1.2.2.1.1,.d aya c.2.1.2.2.1.2,SB c.2.1.2.2.2.1,.d aya c.2.1.2.2.2.2,SB c.2.2.1.1.1.1,.d aya c.2.2.1.1.1.2,SB c.2.2.1.1.2.1,.d aya c.2.2.1.1.2.2,SB c.2.2.1.2.1.1.1,.d aya c.2.2.1.2.1.1.2,SB c.2.2.1.2.1.2.1,.d aya c.2.2.1.2.1.2.2,SB c.2.2.1.2.2.1.1,.d aya c.2.2.1.2.2.1.2,SB c.2.2.1.2.2.2.1,.d aya c.2.2.1.2.2.2.2,SB c.2.2.2.1,SB c.2.2.2.2.1.1.1.1,.d aya c.2.2.2.2.1.1.1.2,SB c.2.2.2.2.1.1.2.1,.d aya c.2.2.2.2.1.1.2.2,SB c.2.2.2.2.1.2.1.1.1,.d aya c.2.2.2.2.1.2.1.1.2,SB c.2.2.2.2.1.2.1.2.1,.d aya c.2.2.2.2.1.2.1.2.2,SB c.2.2.2.2.1.2.2.1.1.1,.d aya c.2.2.2.2.1.2.2.1.1.2,SB c.2.2.2.2.1.2.2.1.2.1,.d aya c.2.2.2.2.1.2.2.1.2.2,SB c.2.2.2.2.1.2.2.2.1.1.1,.d aya c.2.2.2.2.1.2.2.2.1.1.2,SB c.2.2.2.2.1.2.2.2.1.2.1,.d aya c.2.2.2.2.1.2.2.2.1.2.2,SB c.2.2.2.2.1.2.2.2.2.1.1,.d aya c.2.2.2.2.1.2.2.2.2.1.2,SB c.2.2.2.2.1.2.2.2.2.2.1,.d aya c.2.2.2.2.1.2.2.2.2.2.2,SB c.2.2.2.2.2.1.1.1,.d aya c.2.2.2.2.2.1.1.2,SB c.2.2.2.2.2.1.2.1,.d aya c.2.2.2.2.2.1.2.2,SB c.2.2.2.2.2.2.1.1.1,.d aya c.2.2.2.2.2.2.1.1.2,SB c.2.2.2.2.2.2.1.2.1,.d aya c.2.2.2.2.2.2.1.2.2,SB c.2.2.2.2.2.2.2.1.1.1,.d aya c.2.2.2.2.2.2.2.1.1.2,SB c.2.2.2.2.2.2.2.1.2.1,.d aya c.2.2.2.2.2.2.2.1.2.2,SB c.2.2.2.2.2.2.2.2.1.1.1,.d aya c.2.2.2.2.2.2.2.2.1.1.2,SB c.2.2.2.2.2.2.2.2.1.2.1,.d aya c.2.2.2.2.2.2.2.2.1.2.2,SB c.2.2.2.2.2.2.2.2.2.1.1,.d aya c.2.2.2.2.2.2.2.2.2.1.2,SB c.2.2.2.2.2.2.2.2.2.2.1,.d aya c.2.2.2.2.2.2.2.2.2.2.2]],0,[]⟩
def xd(c:BCU)(l:List BP)(s9:Int)(r2:List BCU):Cfg:=⟨18,[.blk 2,.seq 46],[(2,.box 0 0),(7,.d (.sl tP) (eU (dC c) (([c.2.2.2.2.1,c.2.2.2.2.2])++l))),(8,.own 2),(9,SI s9)],[.box 43 [SB c.1,SB c.2.1.1.1.1,.d aya c.2.1.1.1.2,SB c.2.1.1.2.1,.d aya c.2.1.1.2.2,SB c.2.1.2.1.1.1,.d aya c.2.1.2.1.1.2,SB c.2.1.2.1.2.1,.d aya c.2.1.2.1.2.2,SB c.2.1.2.2.1.1,.d aya c.2.1.2.2.1.2,SB c.2.1.2.2.2.1,.d aya c.2.1.2.2.2.2,SB c.2.2.1.1.1.1,.d aya c.2.2.1.1.1.2,SB c.2.2.1.1.2.1,.d aya c.2.2.1.1.2.2,SB c.2.2.1.2.1.1.1,.d aya c.2.2.1.2.1.1.2,SB c.2.2.1.2.1.2.1,.d aya c.2.2.1.2.1.2.2,SB c.2.2.1.2.2.1.1,.d aya c.2.2.1.2.2.1.2,SB c.2.2.1.2.2.2.1,.d aya c.2.2.1.2.2.2.2,SB c.2.2.2.1,SB c.2.2.2.2.1.1.1.1,.d aya c.2.2.2.2.1.1.1.2,SB c.2.2.2.2.1.1.2.1,.d aya c.2.2.2.2.1.1.2.2,SB c.2.2.2.2.1.2.1.1.1,.d aya c.2.2.2.2.1.2.1.1.2,SB c.2.2.2.2.1.2.1.2.1,.d aya c.2.2.2.2.1.2.1.2.2,SB c.2.2.2.2.1.2.2.1.1.1,.d aya c.2.2.2.2.1.2.2.1.1.2,SB c.2.2.2.2.1.2.2.1.2.1,.d aya c.2.2.2.2.1.2.2.1.2.2,SB c.2.2.2.2.1.2.2.2.1.1.1,.d aya c.2.2.2.2.1.2.2.2.1.1.2,SB c.2.2.2.2.1.2.2.2.1.2.1,.d aya c.2.2.2.2.1.2.2.2.1.2.2,SB c.2.2.2.2.1.2.2.2.2.1.1,.d aya c.2.2.2.2.1.2.2.2.2.1.2,SB c.2.2.2.2.1.2.2.2.2.2.1,.d aya c.2.2.2.2.1.2.2.2.2.2.2,SB c.2.2.2.2.2.1.1.1,.d aya c.2.2.2.2.2.1.1.2,SB c.2.2.2.2.2.1.2.1,.d aya c.2.2.2.2.2.1.2.2,SB c.2.2.2.2.2.2.1.1.1,.d aya c.2.2.2.2.2.2.1.1.2,SB c.2.2.2.2.2.2.1.2.1,.d aya c.2.2.2.2.2.2.1.2.2,SB c.2.2.2.2.2.2.2.1.1.1,.d aya c.2.2.2.2.2.2.2.1.1.2,SB c.2.2.2.2.2.2.2.1.2.1,.d aya c.2.2.2.2.2.2.2.1.2.2,SB c.2.2.2.2.2.2.2.2.1.1.1,.d aya c.2.2.2.2.2.2.2.2.1.1.2,SB c.2.2.2.2.2.2.2.2.1.2.1,.d aya c.2.2.2.2.2.2.2.2.1.2.2,SB c.2.2.2.2.2.2.2.2.2.1.1,.d aya c.2.2.2.2.2.2.2.2.2.1.2,SB c.2.2.2.2.2.2.2.2.2.2.1,.d aya c.2.2.2.2.2.2.2.2.2.2.2],.gone,.row 43 tCU r2],0,[]⟩
def apS(c:BCU)(l:List BP)(k:KT):OLR:=k 6 (Dq c l 0)
theorem aqr(c:BCU)(l:List BP):RS BW 18 [.d tCU c,.d (.sl tP) l] (apS c l):=rsX
def zM(c:BCU)(l:List BP)(s6:Int)(k:KT):OLR:=match decide (s6<(l.length:Int))with|true=>(match bi l s6 with|some x1=>(match decide (okC 3500 c∧okP 3500 x1)with|true=>(match !(onR (dC c) (dec x1))with|true=>some [RV.d (.sl tCU) ([]),RV.d ayb 1]|false=>k 6 (Dq c l (i64.wrap (s6+1))))|false=>none)|none=>none)|false=>(match decide ((([c.2.2.2.2.1,c.2.2.2.2.2]).length+l.length)*320≤140737488355328∧([c.2.2.2.2.1,c.2.2.2.2.2]).length+l.length≤140737488355328)with|true=>(match decide (rP c (([c.2.2.2.2.1,c.2.2.2.2.2])++l))with|true=>k 31 (xd c l 1 ([]))|false=>none)|false=>none)
theorem HO(c:BCU)(l:List BP)(s6:Int):RN BW 6 (Dq c l s6) (zM c l s6):=rnX
def u5(c:BCU)(l:List BP)(s9:Int)(r2:List BCU)(k:KT):OLR:=match decide (s9<((eU (dC c) (([c.2.2.2.2.1,c.2.2.2.2.2])++l)).length:Int))with|true=>(match bi (eU (dC c) (([c.2.2.2.2.1,c.2.2.2.2.2])++l)) (i64.wrap (s9-1))with|some x1=>(match bi (eU (dC c) (([c.2.2.2.2.1,c.2.2.2.2.2])++l)) s9 with|some x2=>dup (.b .l .l) (match decide ((r2.length+([(c.1,(c.2.1,(c.2.2.1,(c.2.2.2.1,(x1,x2)))))]).length)*1040≤140737488355328∧r2.length+([(c.1,(c.2.1,(c.2.2.1,(c.2.2.2.1,(x1,x2)))))]).length≤140737488355328)with|true=>k 31 (xd c l (i64.wrap (s9+1)) (r2++([(c.1,(c.2.1,(c.2.2.1,(c.2.2.2.1,(x1,x2)))))])))|false=>none)|none=>none)|none=>none)|false=>some [RV.d (.sl tCU) r2,RV.d ayb 0]
theorem Cp(c:BCU)(l:List BP)(s9:Int)(r2:List BCU):RN BW 31 (xd c l s9 r2) (u5 c l s9 r2):=rnX
theorem ain(c:BCU)(l:List BP)(hle:l.length≤900000)(S:List BP)(hS:S=vD c l):∀(j i:Nat),1≤i→i+j=max S.length 1→∀out:List BCU,out.length≤i→BW.Runs 31 (xd c l (i:Int) out) [.d (.sl tCU) (out++jG c (S.drop (i-1))),.d ayb (0:Int)]:=by
 have hSl:=KH c l
 rw[←hS]at hSl
 have eS:eU (dC c) ([c.2.2.2.2.1,c.2.2.2.2.2]++l)=S:=hS.symm
 intro j
 induction j with
 |zero=>
  intro i h1 hi out hlen
  refine Cp _ _ _ _ ⟨0,?_⟩
  unfold u5
  rw[eS,cz (by omega)]
  have:jG c (S.drop (i-1))=[]:=by
   have hl:(S.drop (i-1)).length≤1:=by rw[awO];omega
   match S.drop (i-1),hl with
   |[],_=>rfl
   |[_],_=>rfl
   |_::_::_,h=>simp at h
  rw[this,avs]
 |succ j ih=>
  intro i h1 hi out hlen
  have hil:i<S.length:=by omega
  have e1:i64.wrap ((i:Int)-1)=((i-1:Nat):Int):=by rw[bz (by omega) (by omega)];omega
  have e2:i64.wrap ((i:Int)+1)=((i+1:Nat):Int):=cr (by omega)
  have g1:bi S ((i-1:Nat):Int)=some S[i-1]:=by rw[aA,auP (by omega)]
  have g2:bi S (i:Int)=some S[i]:=by rw[aA,auP hil]
  obtain⟨n,hn⟩:=ih (i+1) (by omega) (by omega) (out++[pg c S[i-1] S[i]]) (by simp;omega)
  refine Cp _ _ _ _ ⟨n,?_⟩
  unfold u5
  rw[eS]
  simp only[aN,cd hil,e1,e2,g1,g2]
  rw[dT (by simp;omega)]
  dsimp only
  have hd:S.drop (i-1)=S[i-1]::S.drop i:=by
   have:=avd (l:=S) (i:=i-1) (by omega)
   rw[this,show i-1+1=i by omega]
  have hd2:S.drop i=S[i]::S.drop (i+1):=avd hil
  rw[hd,hd2]
  rw[show i+1-1=i by omega,hd2,avl]at hn
  exact hn
theorem ai0(c:BCU)(l:List BP)(h:HM c l):∀(j i:Nat),i+j=l.length→BW.Runs 6 (Dq c l (i:Int)) [.d (.sl tCU) (kJ c l),.d ayb (0:Int)]:=by
 have hs:=ab9 h
 obtain⟨hc,hle,hl⟩:=h
 intro j
 induction j with
 |zero=>
  intro i hi
  obtain⟨n,hn⟩:=ain c l hle (vD c l) rfl (max (vD c l).length 1-1) 1 (auY _) (by omega) [] (by simp)
  refine HO _ _ _ ⟨n,?_⟩
  unfold zM
  rw[cz (by omega),dT (by simp;omega),dT hs]
  exact hn
 |succ j ih=>
  intro i hi
  have hil:i<l.length:=by omega
  obtain⟨n,hn⟩:=ih (i+1) (by omega)
  have h1:=hl _ (avu hil)
  refine HO _ _ _ ⟨n,?_⟩
  unfold zM
  rw[cd hil,aA,auP hil,cr (by omega)]
  dsimp only
  rw[dT (show okC 3500 c∧okP 3500 l[i] from⟨hc,h1.1⟩),h1.2]
  exact hn
theorem adB(c:BCU)(l:List BP)(h:HM c l):Con Tryz.prog 18 [.d tCU c,.d (.sl tP) l] [.d (.sl tCU) (kJ c l),.d ayb 0]:=by
 refine aO ZA (show BW.Res _ _ _ from ?_)
 obtain⟨n,hn⟩:=ai0 c l h l.length 0 (by omega)
 exact aqr _ _ ⟨n,hn⟩
def Sw:aM:=spN false false [tCU,(.sl tP)] (fun x=>decide (HM x.1 x.2.1)) (fun x=>[RV.d (.sl tCU) (kJ x.1 x.2.1),RV.d ayb 0])
theorem TC:SpK 18 Sw:=spX fun x h=>adB x.1 x.2.1 (auN h)
def fw(n d:Int):Prop:=bU n∧bU d∧0<d
instance (n d:Int):Decidable (fw n d):=by unfold fw;infer_instance
def Li:aM:=spN false true [ayb] (fun x=>decide (bU x.1)) (fun x=>[RV.d tI (hid (aj x.1))])
theorem P5:SpK 81 Li:=spX fun x h=>by simp only[am];exact Fz x.1 (auN h)
def YV:aM:=spN false true [tI,tI] (fun x=>decide (iv x.1 x.2.1)) (fun x=>[RV.d tR (hid (fe x.1 x.2.1))])
theorem aaf:SpK 88 YV:=spX fun x h=>by simp only[am];exact Mv x.1 x.2.1 (auN h)
def RQ:Env:=[(81,Li),(88,YV)]
theorem PR:EnvAll Tryz.prog RQ:=⟨P5,aaf,trivial⟩
def ajb:Ctx:=CX RQ []
def RZ(n d:Int)(_k:KT):OLR:=match d==0 with|true=>(match decide (bU (0:Int))with|true=>(match decide (bU (1:Int))with|true=>(match decide (iv (hid (aj (0:Int))) (hid (aj (1:Int))))with|true=>some [RV.d tR (hid (fe (hid (aj (0:Int))) (hid (aj (1:Int)))))]|false=>none)|false=>none)|false=>none)|false=>(match decide (bU n)with|true=>(match decide (bU d)with|true=>(match decide (iv (hid (aj n)) (hid (aj d)))with|true=>some [RV.d tR (hid (fe (hid (aj n)) (hid (aj d))))]|false=>none)|false=>none)|false=>none)
theorem ajn(n d:Int):RS ajb 37 [SI n,SI d] (RZ n d):=rsX
theorem YJ(n d:Int)(h:fw n d):Con Tryz.prog 37 [.d ayb n,.d ayb d] [.d tR (ai (Rat.divInt n d))]:=by
 refine aO PR (ajn _ _ ⟨0,?_⟩)
 obtain⟨hn,hd,h0⟩:=h
 have hne:(d==0)=false:=by simp;omega
 unfold RZ
 rw[hne,dT hn,dT hd]
 simp only[am]
 rw[dT (show iv (aj n) (aj d) from⟨bK (by have:=jQ hn;omega),bK (by have:=jQ hd;omega),by rw[dec_enc];omega⟩)]
 unfold fe
 rw[dec_enc,dec_enc]
def xf:aM:=spN false true [ayb,ayb] (fun x=>decide (fw x.1 x.2.1)) (fun x=>[RV.d tR (hid (ai (Rat.divInt x.1 x.2.1)))])
theorem uO:SpK 37 xf:=spX fun x h=>by simp only[am];exact YJ x.1 x.2.1 (auN h)
theorem aeP{n d:Int}(h1:bU n)(h2:bU d)(h0:0<d):Bd (Rat.divInt n d) 3:=by
 obtain⟨k,rfl⟩:=av7 (show 0≤d by omega)
 exact⟨uT (by omega) (jQ h1) (jQ h2)⟩
section
theorem Con.new_d{P:Program}{f:Nat}{args:List SV}{et:TypeId}{e:Ty}{xs:List e.D}(h:Con P f args [.new et e xs]):Con P f args [.d (.sl e) xs]:=by
 intro A w vs hI ha
 refine(h A w vs hI ha).mono ?_
 rintro en w' ⟨v,rfl,hb,css,ho,ha2,hn⟩
 refine⟨v,rfl,hb,?_⟩
 obtain⟨hlen,p,c,hv,h1,h2,h3⟩:=Rd.of_own hn ho
 subst hv
 refine⟨[.slice p xs.length c],⟨p,xs.length,c,css,rfl,rfl,h1,h2,co (fun _ _ h=>Ty.rd_keep ⟨auY _,fun b _ hb=>hb.1,fun _ _ _=>rfl⟩ h) ha2,fun h0=>?_⟩,rfl⟩
 obtain⟨b,off,rfl,h5,h6⟩:=h3 h0
 refine⟨b,off,rfl,.inr ?_,h5,h6⟩
 rcases ho.2 with⟨h7,_⟩|⟨g,cap,cur,h7,h8,_⟩
 ·cases h7
 ·injection h7 with h7
  injection h7 with h7
  injection h7 with h7
  subst h7
  exact h8
class Bb (q:Rat) (n d:outParam Nat):Prop where
 nu:q.num.natAbs≤2^n
 de:q.den≤2^d
theorem Fh{n:Int}{d a b:Nat}(hd:d≠0)(h1:n.natAbs≤2^a)(h2:d≤2^b):(mkRat n d).num.natAbs≤2^a∧(mkRat n d).den≤2^b:=by
 rw[axR,axS,avf hd,avf hd]
 constructor
 ·refine ava ?_ h1
  refine(L4 n (d.gcd n.natAbs)).resolve_right (fun h=>h ?_)
  exact Int.ofNat_dvd_left.2 (Nat.gcd_dvd_right d n.natAbs)
 ·exact ava (Nat.div_le_self _ _) h2
theorem yH{a b m n:Nat}(h:a≤2^m)(h':b≤2^n):a*b≤2^(m+n):=by
 rw[Nat.pow_add]
 exact aw1 h h'
theorem aqm{x y m n:Nat}(h:x≤2^m)(h':y≤2^n):x+y≤2^(mx m n+1):=by
 have h1:=ava h (Nat.pow_le_pow_right (by decide) (IY m n))
 have h2:=ava h' (Nat.pow_le_pow_right (by decide) (Iw m n))
 rw[Nat.pow_succ]
 omega
section
variable {a b:Rat} {m n d e:Nat}
instance atY [h:Bb a m d] [h':Bb b n e]:Bb (a+b) (mx (m+e) (n+d)+1) (d+e):=by
 have d1:=a.den_pos
 have d2:=b.den_pos
 have:=Fh (n:=a.num*(b.den:Int)+b.num*(a.den:Int)) (d:=a.den*b.den) (a:=mx (m+e) (n+d)+1) (b:=d+e) (axt (by omega) (by omega)) (by
  refine ava (Int.natAbs_add_le _ _) ?_
  rw[axE,axE,awf,awf]
  exact aqm (yH h.nu h'.de) (yH h'.nu h.de)) (yH h.de h'.de)
 rw[←Rat.add_def']at this
 exact⟨this.1,this.2⟩
instance auf [h:Bb a m d]:Bb (-a) m d:=⟨by rw[Rat.neg_num,Int.natAbs_neg];exact h.nu,h.de⟩
instance att [h:Bb a m d] [h':Bb b n e]:Bb (a-b) (mx (m+e) (n+d)+1) (d+e):=by
 rw[axo]
 infer_instance
instance auc [h:Bb a m d] [h':Bb b n e]:Bb (a*b) (m+n) (d+e):=by
 have d1:=a.den_pos
 have d2:=b.den_pos
 have:=Fh (n:=a.num*b.num) (d:=a.den*b.den) (a:=m+n) (b:=d+e) (axt (by omega) (by omega)) (by
  rw[axE]
  exact yH h.nu h'.nu) (yH h.de h'.de)
 rw[←Rat.mul_def']at this
 exact⟨this.1,this.2⟩
theorem aki [h:Bb a m d]:Bb a⁻¹ d m:=by
 by_cases h0:a=0
 ·subst h0
  rw[Rat.inv_zero]
  exact⟨axb _,Nat.one_le_two_pow⟩
 ·have hn:a.num≠0:=fun e=>h0 (Rat.num_eq_zero.1 e)
  have h1:=h.nu
  have h2:=h.de
  rw[Rat.inv_def]
  rcases awN hn with h3|h3
  ·rw[←Rat.neg_divInt_neg,show-a.num=(((-a.num).toNat:Nat):Int) by omega,axj]
   have:=Fh (n:= -(a.den:Int)) (d:=(-a.num).toNat) (a:=d) (b:=m) (by omega) (by rw[Int.natAbs_neg];exact h2) (by omega)
   exact⟨this.1,this.2⟩
  ·rw[show a.num=((a.num.toNat:Nat):Int) by omega,axj]
   have:=Fh (n:=(a.den:Int)) (d:=a.num.toNat) (a:=d) (b:=m) (by omega) h2 (by omega)
   exact⟨this.1,this.2⟩
instance atu [h:Bb a m d] [h':Bb b n e]:Bb (a/b) (m+e) (d+n):=by
 rw[axZ]
 have:=aki (h:=h')
 infer_instance
theorem agG:∀k:Nat,((2^(29*k):Nat):Int)≤pw k
 |0=>by decide
 |k+1=>by
  have ih:=agG k
  have e:2^(29*(k+1))=2^(29*k)*536870912:=by
   rw[Nat.mul_add,Nat.pow_add]
  rw[e,cD,awh]
  have:(0:Int)≤pw k:=Int.le_trans (Int.natCast_nonneg _) ih
  omega
theorem ae7{z:Int}{n:Nat}(h:z.natAbs≤2^n):szI z≤n/29+1:=by
 have h1:=agG (n/29+1)
 have h2:2^n<2^(29*(n/29+1)):=Nat.pow_lt_pow_right (by decide) (by omega)
 exact fu (by omega) (by omega)
theorem Fj [h:Bb a m d]{k:Nat}(hm:m/29+1≤k)(hd:d/29+1≤k):Bd a k:=⟨⟨ava (ae7 h.nu) hm,ava (ae7 (z:=(a.den:Int)) h.de) hd⟩⟩
end
theorem acW{n d:Int}{a b:Nat}(h0:0<d)(h1:n.natAbs≤2^a)(h2:d.natAbs≤2^b):Bb (Rat.divInt n d) a b:=by
 obtain⟨k,rfl⟩:=av7 (show 0≤d by omega)
 rw[axj]
 have:=Fh (n:=n) (d:=k) (by omega) h1 h2
 exact⟨this.1,this.2⟩
def cG(x:BO3):Prop:=ok Rat 12 x.1∧ok Rat 12 x.2.1∧ok Rat 63 x.2.2∧((dec x:Ln).1≠0∨(dec x:Ln).2.1≠0)
instance (x:BO3):Decidable (cG x):=by unfold cG;infer_instance
def bW(x:BO3):Prop:=ok Rat 4 x.1∧ok Rat 4 x.2.1∧ok Rat 13 x.2.2∧(0:Rat)<(dec x:Ln).2.2
instance (x:BO3):Decidable (bW x):=by unfold bW;infer_instance
class BdL (l:Ln):Prop where
 a:Bd l.1 12
 b:Bd l.2.1 12
 c:Bd l.2.2 63
class BdC (c:Ln):Prop where
 x:Bd c.1 4
 y:Bd c.2.1 4
 q:Bd c.2.2 13
theorem eI{x:BO3}(h:cG x):∃l:Ln,x=enc l∧BdL l∧(l.1≠0∨l.2.1≠0):=by
 obtain⟨h1,h2,h3,h4⟩:=h
 obtain⟨x1,x2,x3⟩:=x
 obtain⟨a,rfl,ba⟩:=aY h1
 obtain⟨b,rfl,bb⟩:=aY h2
 obtain⟨c,rfl,bc⟩:=aY h3
 have e:((enc a,enc b,enc c):BO3)=enc ((a,b,c):Ln):=rfl
 rw[e,aq]at h4
 exact⟨(a,b,c),rfl,⟨ba,bb,bc⟩,h4⟩
theorem dh{x:BO3}(h:bW x):∃c:Ln,x=enc c∧BdC c∧0<c.2.2:=by
 obtain⟨h1,h2,h3,h4⟩:=h
 obtain⟨x1,x2,x3⟩:=x
 obtain⟨a,rfl,ba⟩:=aY h1
 obtain⟨b,rfl,bb⟩:=aY h2
 obtain⟨c,rfl,bc⟩:=aY h3
 have e:((enc a,enc b,enc c):BO3)=enc ((a,b,c):Ln):=rfl
 rw[e,aq]at h4
 exact⟨(a,b,c),rfl,⟨ba,bb,bc⟩,h4⟩
theorem ku{l:Ln}[h:BdL l](h0:l.1≠0∨l.2.1≠0):cG (enc l):=by
 have a:=h.a
 have b:=h.b
 have c:=h.c
 exact⟨auN (okd (auY _) (by decide)),auN (okd (auY _) (by decide)),auN (okd (auY _) (by decide)),by rw[aq];exact h0⟩
theorem gL{c:Ln}[h:BdC c](h0:0<c.2.2):bW (enc c):=by
 have a:=h.x
 have b:=h.y
 have c:=h.q
 exact⟨auN (okd (auY _) (by decide)),auN (okd (auY _) (by decide)),auN (okd (auY _) (by decide)),by rw[aq];exact h0⟩
section
variable {l c:Ln}
instance auG [h:BdL l]:Bd l.1 12:=h.a
instance auL [h:BdL l]:Bd l.2.1 12:=h.b
instance auI [h:BdL l]:Bd l.2.2 63:=h.c
instance auK [h:BdC c]:Bd c.1 4:=h.x
instance auH [h:BdC c]:Bd c.2.1 4:=h.y
instance auJ [h:BdC c]:Bd c.2.2 13:=h.q
theorem aiW [h:BdL l]:Bd l 63:=⟨⟨Cod.mono _ _ _ (by decide) h.a.le,Cod.mono _ _ _ (by decide) h.b.le,h.c.le⟩⟩
theorem I5 [h:BdC c]:Bd c 13:=⟨⟨Cod.mono _ _ _ (by decide) h.x.le,Cod.mono _ _ _ (by decide) h.y.le,h.q.le⟩⟩
end
def fd(l m:Ln):Rat:=l.1*m.2.1-m.1*l.2.1
def ma(l m:Ln):Rat:=l.2.2*m.2.1-m.2.2*l.2.1
def l7(l m:Ln):Rat:=l.1*m.2.2-m.1*l.2.2
def lz(l m:Ln):List Pt:=bif !decide (fd l m=0)then [atP (ma l m/fd l m,l7 l m/fd l m)]else []
def NJ(l m:Ln):Int:=bif !decide (fd l m=0)then 0 else bif decide (ma l m=0)&&decide (l7 l m=0)then 10 else 0
def cK(l:Ln):Rat:=l.1*l.1+l.2.1*l.2.1
def vlL(l:Ln)(x y:Rat):Rat:=l.1*x+l.2.1*y-l.2.2
def iG(l c:Ln):Rat:=cK l*c.2.2-vlL l c.1 c.2.1*vlL l c.1 c.2.1
def nq(ax bx ay b_ c:Rat):Pt:=bif fF c then atP (ax+bx*rtQ c,ay+b_*rtQ c)else(ax,bx,ay,b_,c)
def ftX(l c:Ln):Rat:=c.1-vlL l c.1 c.2.1/cK l*l.1
def ftY(l c:Ln):Rat:=c.2.1-vlL l c.1 c.2.1/cK l*l.2.1
def sW(l c:Ln):Pt:=nq (ftX l c) (-(l.2.1/cK l)) (ftY l c) (-(-l.1/cK l)) (iG l c)
def t7(l c:Ln):Pt:=nq (ftX l c) (l.2.1/cK l) (ftY l c) (-l.1/cK l) (iG l c)
def rA(l c:Ln):List Pt:=bif decide (iG l c<0)then []else bif decide (iG l c=0)then [atP (ftX l c,ftY l c)]
 else bif decide (aV (sW l c) (t7 l c)>0)then [t7 l c,sW l c]else [sW l c,t7 l c]
def gi(c d:Ln):Bool:=decide (c.1=d.1)&&decide (c.2.1=d.2.1)
def oW(c:Ln):Rat:=c.1*c.1+c.2.1*c.2.1-c.2.2
def ms(c d:Ln):Ln:=(2*(d.1-c.1),2*(d.2.1-c.2.1),oW d-oW c)
def Dv(c d:Ln):List Pt:=bif gi c d then []else rA (ms c d) c
def ZL(c d:Ln):Int:=bif gi c d then(bif decide (c.2.2=d.2.2)then 10 else 0)else 0
def uy(c d:Ln):BO3:=bif gi c d then o00 else enc (ms c d)
def On(c d:Ln):Int:=bif gi c d then 6 else 0
def n7(l m:Ln):Bool:=decide (l.1*m.2.1=l.2.1*m.1)&&(decide (l.1*m.2.2=l.2.2*m.1)&&decide (l.2.1*m.2.2=l.2.2*m.2.1))
def pM(c d:Ln):Bool:=decide (c.1=d.1)&&(decide (c.2.1=d.2.1)&&decide (c.2.2=d.2.2))
def cL(a b:Cv):Bool:=bif a.1==b.1 then(bif a.1 then pM (ciC a) (ciC b)else n7 (lnC a) (lnC b))else false
def Az(a:BCU):Prop:=(a.1=true→bW a.2.2.1)∧(a.1=false→cG a.2.1)
instance (a:BCU):Decidable (Az a):=by unfold Az;infer_instance
def fi(a b:BCU):Prop:=Az a∧Az b
instance (a b:BCU):Decidable (fi a b):=by unfold fi;infer_instance
def wh(a b:Cv):List Pt:=bif a.1&&b.1 then Dv (ciC a) (ciC b)else bif a.1 then rA (lnC b) (ciC a)else bif b.1 then rA (lnC a) (ciC b)else lz (lnC a) (lnC b)
def VZ(a b:Cv):Int:=bif a.1&&b.1 then ZL (ciC a) (ciC b)else bif a.1 then 0 else bif b.1 then 0 else NJ (lnC a) (lnC b)
def ro(c:Ln):Pt:=nq c.1 (-1) c.2.1 0 c.2.2
def rB(c:Ln):Pt:=nq c.1 1 c.2.1 0 c.2.2
theorem Eb{ax bx ay b_ c:Rat}(h0:¬(bx=0∧b_=0))(hc:0≤c):Rpd (nq ax bx ay b_ c):=by
 refine⟨?_⟩
 unfold nq
 cases hq:fF c
 ·exact .inr ⟨h0,Nf hc hq,hq⟩
 ·exact .inl ⟨rfl,rfl,rfl⟩
theorem Eo{ax bx ay b_ c:Rat}{j k m:Nat}(h1:Bd ax j)(h2:Bd bx k)(h3:Bd ay j)(h4:Bd b_ k)(h5:Bd c m){n:Nat}(hn:j+(k+m)+1≤n):Bd (nq ax bx ay b_ c) n:=by
 have z:bdR n 0:=cN uA.le (by omega)
 have i1:Bd (ax+bx*rtQ c) _:=inferInstance
 have i2:Bd (ay+b_*rtQ c) _:=inferInstance
 refine⟨?_⟩
 unfold nq
 cases fF c
 ·exact⟨cN h1.le (by omega),cN h2.le (by omega),cN h3.le (by omega),cN h4.le (by omega),cN h5.le (by omega)⟩
 ·exact⟨cN i1.le (by omega),z,cN i2.le (by omega),z,z⟩
section
variable {l m c d:Ln}
theorem nw(h:l.1≠0∨l.2.1≠0):cK l≠0:=KB h
instance aum [BdL l] [h:BdC c]:Bd (iG l c) 257:=by
 have hx:=h.x
 have hy:=h.y
 have hq:=h.q
 have i1:Bd (cK l) 49:=inferInstanceAs (Bd (l.1*l.1+l.2.1*l.2.1) _)
 have i2:Bd (vlL l c.1 c.2.1) 97:=inferInstanceAs (Bd (l.1*c.1+l.2.1*c.2.1-l.2.2) _)
 exact(inferInstance:Bd (cK l*c.2.2-vlL l c.1 c.2.1*vlL l c.1 c.2.1) _).mono (by decide)
theorem vk [BdL l][h:BdC c]:Bd (ftX l c) 163∧Bd (ftY l c) 163∧Bd (l.2.1/cK l) 61∧Bd (l.1/cK l) 61:=by
 have hx:=h.x
 have hy:=h.y
 have i1:Bd (cK l) 49:=inferInstanceAs (Bd (l.1*l.1+l.2.1*l.2.1) _)
 have i2:Bd (vlL l c.1 c.2.1) 97:=inferInstanceAs (Bd (l.1*c.1+l.2.1*c.2.1-l.2.2) _)
 have i3:Bd (c.1-vlL l c.1 c.2.1/cK l*l.1) _:=inferInstance
 have i4:Bd (c.2.1-vlL l c.1 c.2.1/cK l*l.2.1) _:=inferInstance
 have i5:Bd (l.2.1/cK l) _:=inferInstance
 have i6:Bd (l.1/cK l) _:=inferInstance
 exact⟨i3.mono (by decide),i4.mono (by decide),i5.mono (by decide),i6.mono (by decide)⟩
end
end
end Go.Proofs.YtgddhgcjmddjfaaGreat
end
