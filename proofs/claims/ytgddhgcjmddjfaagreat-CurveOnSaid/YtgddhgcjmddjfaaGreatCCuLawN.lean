/- The law CurveOn returns true. -/
import Derived.Test.YtgddhgcjmddjfaaGreatC20
import Derived.Test.YtgddhgcjmddjfaaGreatCPlC
noncomputable section
namespace Go.Proofs.YtgddhgcjmddjfaaGreat
open Go.RowKit Go.IntKind
def afo:Env:=[(10,De),(9,wF),(11,Nf),(14,vX),(15,uC),(12,I4),(13,EA)]
theorem S2:EnvAll Tryz.prog afo:=⟨z7,uG,Pj,oV,pK,G6,BN,trivial⟩
def Qt:NT:=[((3,28),{keep:=[7,9,61,62,63],hl:=6})]
def xq:Ctx:=CX afo Qt
def mb(x y:Pce)(p:Plc)(s62:Int)(r5:List BP)(s63:Int):Cfg:=⟨3,[.blk 0,.seq 47],[(7,.box 3 0),(9,.box 4 0),(61,.own 5),(62,SI s62),(63,SI s63)],[.box 26 (Ty.split fi x),.box 26 (Ty.split fi y),.box 30 (Ty.split DC p),.box 43 (Ty.split tCU (hid (aG x))),.box 43 (Ty.split tCU (hid (aG y))),.row 41 tP r5],0,[]⟩
def sN(x y:Pce)(p:Plc)(k:KT):Option (List RV):=match decide (qU x)with|true=>(match decide (qU y)with|true=>(match !(lQ x)with|true=>some [RV.d .bool true]|false=>(match !(lQ y)with|true=>some [RV.d .bool true]|false=>(match decide (Ig p)with|true=>(match decide (fj (hid (aG x)) (hid (aG y)))with|true=>(match !(c7 (dC (hid (aG x))) (dC (hid (aG y))))with|true=>(match decide (fj (hid (aG x)) (hid (aG y)))with|true=>(match decide ((([hid (enc (tu p)),(((((hid (aG x)).2).2).2).2).1,(((((hid (aG x)).2).2).2).2).2,(((((hid (aG y)).2).2).2).2).1,(((((hid (aG y)).2).2).2).2).2]).length+((mI (dC (hid (aG x))) (dC (hid (aG y)))).map enc).length)*320≤140737488355328∧([hid (enc (tu p)),(((((hid (aG x)).2).2).2).2).1,(((((hid (aG x)).2).2).2).2).2,(((((hid (aG y)).2).2).2).2).1,(((((hid (aG y)).2).2).2).2).2]).length+((mI (dC (hid (aG x))) (dC (hid (aG y)))).map enc).length≤140737488355328)with|true=>k 28 (mb x y p ((([hid (enc (tu p)),(((((hid (aG x)).2).2).2).2).1,(((((hid (aG x)).2).2).2).2).2,(((((hid (aG y)).2).2).2).2).1,(((((hid (aG y)).2).2).2).2).2])++((mI (dC (hid (aG x))) (dC (hid (aG y)))).map enc)).length:Int) (([hid (enc (tu p)),(((((hid (aG x)).2).2).2).2).1,(((((hid (aG x)).2).2).2).2).2,(((((hid (aG y)).2).2).2).2).1,(((((hid (aG y)).2).2).2).2).2])++((mI (dC (hid (aG x))) (dC (hid (aG y)))).map enc)) 0)|false=>none)|false=>none)|false=>k 28 (mb x y p (([hid (enc (tu p)),(((((hid (aG x)).2).2).2).2).1,(((((hid (aG x)).2).2).2).2).2,(((((hid (aG y)).2).2).2).2).1,(((((hid (aG y)).2).2).2).2).2]).length:Int) ([hid (enc (tu p)),(((((hid (aG x)).2).2).2).2).1,(((((hid (aG x)).2).2).2).2).2,(((((hid (aG y)).2).2).2).2).1,(((((hid (aG y)).2).2).2).2).2]) 0))|false=>none)|false=>none)))|false=>none)|false=>none
theorem wD(x y:Pce)(p:Plc):RS xq 3 [.d fi x,.d fi y,.d DC p] (sN x y p):=rsX
def oE(x y:Pce)(p:Plc)(s62:Int)(r5:List BP)(s63:Int)(k:KT):Option (List RV):=match decide (s63<s62)with|true=>(match bi r5 s63 with|some _=>(match true,r5[(s63).toNat]? with|true,some x1=>(match decide (okC 4000 (hid (aG x))∧okP 4000 x1)with|true=>(match decide (okC 3500 (hid (aG x))∧okP 3500 x1)with|true=>(match !((onP (dC (hid (aG x))) (dec x1))==(onR (dC (hid (aG x))) (dec x1)))with|true=>some [RV.d .bool false]|false=>(match decide (okC 4000 (hid (aG y))∧okP 4000 x1)with|true=>(match decide (okC 3500 (hid (aG y))∧okP 3500 x1)with|true=>(match !((onP (dC (hid (aG y))) (dec x1))==(onR (dC (hid (aG y))) (dec x1)))with|true=>some [RV.d .bool false]|false=>k 28 (mb x y p s62 r5 (i64.wrap (s63+1))))|false=>none)|false=>none))|false=>none)|false=>none)|_,_=>none)|none=>none)|false=>(match decide (okC 4000 (hid (aG x))∧okP 4000 ((((((hid (aG x)).2).2).2).2).1))with|true=>(match onP (dC (hid (aG x))) (dec ((((((hid (aG x)).2).2).2).2).1))with|true=>(match decide (okC 4000 (hid (aG x))∧okP 4000 ((((((hid (aG x)).2).2).2).2).2))with|true=>some [RV.d .bool (onP (dC (hid (aG x))) (dec ((((((hid (aG x)).2).2).2).2).2)))]|false=>none)|false=>some [RV.d .bool false])|false=>none)
theorem wc(x y:Pce)(p:Plc)(s62:Int)(r5:List BP)(s63:Int):RN xq 28 (mb x y p s62 r5 s63) (oE x y p s62 r5 s63):=rnX
theorem SA(x y:Pce)(p:Plc)(hc:gdN (aG x))(hd:gdN (aG y))(X:List BP)(hl:X.length≤100)(hok:∀q∈X,okP 500 q):∀(j i:Nat),i+j=X.length→xq.Runs 28 (mb x y p (X.length:Int) X (i:Int)) [.d .bool true]:=by
 have c4:=cq (k:=4000) hc.1.1 (by decide) (by decide)
 have c3:=cq (k:=3500) hc.1.1 (by decide) (by decide)
 have d4:=cq (k:=4000) hd.1.1 (by decide) (by decide)
 have d3:=cq (k:=3500) hd.1.1 (by decide) (by decide)
 intro j
 induction j with
 |zero=>
  intro i hi
  have o1:onP (dC (aG x)) (dec (aG x).2.2.2.2.1)=true:=(dR hc.crp hc.crp.f.1).trans (Cq hc).1
  have o2:onP (dC (aG x)) (dec (aG x).2.2.2.2.2)=true:=(dR hc.crp hc.crp.t.1).trans (Cq hc).2
  refine wc _ _ _ _ _ _ ⟨0,?_⟩
  unfold oE
  simp only[ak]
  rw[dF (show ¬(i:Int)<(X.length:Int) by omega)]
  dsimp only
  rw[dT (show okC 4000 (aG x)∧okP 4000 (aG x).2.2.2.2.1 from⟨c4,c4.2.2.1⟩),o1,dT (show okC 4000 (aG x)∧okP 4000 (aG x).2.2.2.2.2 from⟨c4,c4.2.2.2⟩),o2]
 |succ j ih=>
  intro i hi
  have hil:i<X.length:=by omega
  have hq:=hok _ (auB hil)
  have q4:=cE (k:=4000) hq (by decide) (by decide)
  have q3:=cE (k:=3500) hq (by decide) (by decide)
  obtain⟨n,hn⟩:=ih (i+1) (by omega)
  refine wc _ _ _ _ _ _ ⟨n,?_⟩
  unfold oE
  simp only[ak]
  rw[bS hil,aA,atU hil,show((i:Nat):Int).toNat=i by omega,atU hil,co (k:=i) (by omega)]
  dsimp only
  rw[dT (show okC 4000 (aG x)∧okP 4000 X[i] from⟨c4,q4⟩),dT (show okC 3500 (aG x)∧okP 3500 X[i] from⟨c3,q3⟩),dT (show okC 4000 (aG y)∧okP 4000 X[i] from⟨d4,q4⟩),dT (show okC 3500 (aG y)∧okP 3500 X[i] from⟨d3,q3⟩),dR hc.crp (gc hq),dR hd.crp (gc hq),awo,awo]
  exact hn
theorem ad6(x y:Pce)(p:Plc)(hx:Ty.ok fi x)(hy:Ty.ok fi y)(hp:Ty.ok DC p):Con Tryz.prog 3 [.d fi x,.d fi y,.d DC p] [.d .bool true]:=by
 have h1:=rQ hx
 have h2:=rQ hy
 have h3:=aab hp
 refine aP S2 (show xq.Res _ _ _ from ?_)
 cases ho:lQ x
 ·refine wD _ _ _ ⟨0,?_⟩
  unfold sN
  rw[dT h1,dT h2,ho]
  rfl
 ·cases hq:lQ y
  ·refine wD _ _ _ ⟨0,?_⟩
   unfold sN
   rw[dT h1,dT h2,ho,hq]
   rfl
  ·have hc:=nf h1 ho
   have hd:=nf h2 hq
   have sp:fj (aG x) (aG y):=⟨hc.1.2,hd.1.2⟩
   obtain⟨bp,rp⟩:=aj0 h3
   have op:okP 500 (enc (tu p)):=atS (bG (by decide) (by decide))
   have five:∀q,q∈[enc (tu p),(aG x).2.2.2.2.1,(aG x).2.2.2.2.2,(aG y).2.2.2.2.1,(aG y).2.2.2.2.2]→okP 500 q:=fun q hq=>by
    simp only[aud,avH,awM]at hq
    rcases hq with e|e|e|e|e<;>rw[e]
    ·exact op
    ·exact hc.fr
    ·exact hc.to
    ·exact hd.fr
    ·exact hd.to
   obtain⟨g1,g2⟩:=KM sp
   cases hs:c7 (dC (aG x)) (dC (aG y))
   ·obtain⟨n,hn⟩:=SA x y p hc hd ([enc (tu p),(aG x).2.2.2.2.1,(aG x).2.2.2.2.2,(aG y).2.2.2.2.1,(aG y).2.2.2.2.2]++(mI (dC (aG x)) (dC (aG y))).map enc) (by simp only[aus,aui,avR,avh];omega) (fun q hq=>by
     rcases auo.1 hq with e|e
     ·exact five q e
     ·obtain⟨v,hv,rfl⟩:=au7.1 e
      obtain⟨b,r⟩:=g2 v hv
      exact atS (bG (j:=490) (by decide) (by decide))) _ 0 (auC _)
    refine wD _ _ _ ⟨n,?_⟩
    unfold sN
    simp only[ak]
    rw[dT h1,dT h2,ho,hq,dT h3,dT sp,hs]
    dsimp only[Bool.not_true,Bool.not_false]
    rw[th (by simp only[aui,avR,avh];omega) (by omega)]
    exact hn
   ·obtain⟨n,hn⟩:=SA x y p hc hd [enc (tu p),(aG x).2.2.2.2.1,(aG x).2.2.2.2.2,(aG y).2.2.2.2.1,(aG y).2.2.2.2.2] (by simp) five _ 0 (auC _)
    refine wD _ _ _ ⟨n,?_⟩
    unfold sN
    simp only[ak]
    rw[dT h1,dT h2,ho,hq,dT h3,dT sp,hs]
    exact hn
end Go.Proofs.YtgddhgcjmddjfaaGreat
end
