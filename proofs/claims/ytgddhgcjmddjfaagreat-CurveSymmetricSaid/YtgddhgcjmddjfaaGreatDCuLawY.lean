/- The law CurveSymmetric returns true. -/
import Derived.Test.YtgddhgcjmddjfaaGreatD20
noncomputable section
namespace Go.Proofs.YtgddhgcjmddjfaaGreat
open Go.RowKit Go.IntKind
theorem aik{c d:BCU}(hc:gdN c)(hd:gdN d):∀p∈bL c d,onP (dC c) (dec p)=true∧onP (dC d) (dec p)=true:=fun p hp=>by
 obtain⟨r,o1,o2⟩:=xn hc hd p hp
 exact⟨by rw[ff hc.crp r];exact o1,by rw[ff hd.crp r];exact o2⟩
theorem W3{a b:List BP}(ha:∀x∈a,okP 4000 x)(hb:∀x∈b,okP 4000 x)(h:a.length≤1000):yW a b:=⟨by omega,ha,hb⟩
def LG:aM:=spN true false [(.sl tP),(.sl tP)] (fun x=>decide (yW x.1 x.2.1)) (fun x=>[RV.d .bool (GK x.1 x.2.1)])
theorem Pu:SpK 23 LG:=spX fun x h=>WP x.1 x.2.1 (auN h)
def ahP:Env:=[(10,Ix),(9,Dw),(22,ES),(24,CT),(23,LG),(14,xL),(25,C4)]
theorem SS:EnvAll Tryz.prog ahP:=⟨HJ,AN,xC,yd,Pu,sT,A5,trivial⟩
def wF:NT:=[((6,32),{keep:=[5,7,90,91,92],hl:=4})]
def ia:Ctx:=CX ahP wF
def fq(x y:Pce)(s92:Int):Cfg:=⟨6,[.blk 0,.seq 51],[(5,.box 2 0),(7,.box 3 0),(90,.d (.sl tP) (bL (hid (aU x)) (hid (aU y)))),(91,SI ((bL (hid (aU x)) (hid (aU y))).length:Int)),(92,SI s92)],[.box 26 (Ty.split ls x),.box 26 (Ty.split ls y),.box 43 (Ty.split tCU (hid (aU x))),.box 43 (Ty.split tCU (hid (aU y)))],0,[]⟩
def ir(x y:Pce)(k:KT):OLR:=match decide (uD x)with|true=>(match decide (uD y)with|true=>(match !(rC x)with|true=>some [RV.d .bool true]|false=>(match !(rC y)with|true=>some [RV.d .bool true]|false=>(match decide (dQ (hid (aU x)) (hid (aU y)))with|true=>(match decide (dQ (hid (aU y)) (hid (aU x)))with|true=>(match decide (dQ (hid (aU x)) (hid (aU x)))with|true=>(match !((gZ (hid (aU x)) (hid (aU y)))==(gZ (hid (aU y)) (hid (aU x))))with|true=>some [RV.d .bool false]|false=>(match decide (rP (hid (aU x)) (bL (hid (aU y)) (hid (aU x))))with|true=>(match decide (rP (hid (aU x)) (bL (hid (aU x)) (hid (aU y))))with|true=>(match decide (yW (eU (dC (hid (aU x))) (bL (hid (aU y)) (hid (aU x)))) (eU (dC (hid (aU x))) (bL (hid (aU x)) (hid (aU y)))))with|true=>(match !(GK (eU (dC (hid (aU x))) (bL (hid (aU y)) (hid (aU x)))) (eU (dC (hid (aU x))) (bL (hid (aU x)) (hid (aU y)))))with|true=>dup (.b .l .l) (some [RV.d .bool false])|false=>(match((bL (hid (aU x)) (hid (aU y))).length:Int) !=((bL (hid (aU y)) (hid (aU x))).length:Int)with|true=>dup (.b .l .l) (some [RV.d .bool false])|false=>(match !(gZ (hid (aU x)) (hid (aU x)))with|true=>dup (.b .l .l) (some [RV.d .bool false])|false=>dup (.b .l .l) (match decide (yW (bL (hid (aU x)) (hid (aU x))) ([(((((hid (aU x)).2).2).2).2).1,(((((hid (aU x)).2).2).2).2).2]))with|true=>(match !(GK (bL (hid (aU x)) (hid (aU x))) ([(((((hid (aU x)).2).2).2).2).1,(((((hid (aU x)).2).2).2).2).2]))with|true=>some [RV.d .bool false]|false=>k 32 (fq x y 0))|false=>none))))|false=>none)|false=>none)|false=>none))|false=>none)|false=>none)|false=>none)))|false=>none)|false=>none
theorem ll(x y:Pce):RS ia 6 [.d ls x,.d ls y] (ir x y):=rsX
def gM(x y:Pce)(s92:Int)(k:KT):OLR:=match decide (s92<((bL (hid (aU x)) (hid (aU y))).length:Int))with|true=>(match bi (bL (hid (aU x)) (hid (aU y))) s92 with|some x1=>(match decide (okC 4000 (hid (aU x))∧okP 4000 x1)with|true=>(match !(onP (dC (hid (aU x))) (dec x1))with|true=>some [RV.d .bool false]|false=>(match decide (okC 4000 (hid (aU y))∧okP 4000 x1)with|true=>(match !(onP (dC (hid (aU y))) (dec x1))with|true=>some [RV.d .bool false]|false=>(match !((hid (aU x)).1)with|true=>(match decide (ok Ln 300 (((hid (aU x)).2).1)∧okP 4000 x1)with|true=>(match(pN (dec (((hid (aU x)).2).1)) (dec x1)) !=0 with|true=>some [RV.d .bool false]|false=>k 32 (fq x y (i64.wrap (s92+1))))|false=>none)|false=>k 32 (fq x y (i64.wrap (s92+1)))))|false=>none))|false=>none)|none=>none)|false=>some [RV.d .bool true]
theorem kB(x y:Pce)(s92:Int):RN ia 32 (fq x y s92) (gM x y s92):=rnX
theorem alr(x y:Pce)(hc:gdN (aU x))(hd:gdN (aU y)):∀(j i:Nat),i+j=(bL (aU x) (aU y)).length→ia.Runs 32 (fq x y (i:Int)) [.d .bool true]:=by
 obtain⟨hm1,hm2⟩:=lI (show dQ (aU x) (aU y) from⟨hc.1,hd.1⟩)
 have c4:=ck (k:=4000) hc.1.1 (by decide) (by decide)
 have d4:=ck (k:=4000) hd.1.1 (by decide) (by decide)
 intro j
 induction j with
 |zero=>
  intro i hi
  refine kB _ _ _ ⟨0,?_⟩
  unfold gM
  simp only[am]
  rw[cz (by omega)]
 |succ j ih=>
  intro i hi
  have hil:i<(bL (aU x) (aU y)).length:=by omega
  have hp:=avu hil
  have ho:=hm2 _ hp
  obtain⟨o1,o2⟩:=aik hc hd _ hp
  obtain⟨n,hn⟩:=ih (i+1) (by omega)
  refine kB _ _ _ ⟨n,?_⟩
  unfold gM
  simp only[am]
  rw[cd hil,aA,auP hil,cr (by omega)]
  dsimp only
  rw[dT (show okC 4000 (aU x)∧okP 4000 (bL (aU x) (aU y))[i] from⟨c4,ho⟩),dT (show okC 4000 (aU y)∧okP 4000 (bL (aU x) (aU y))[i] from⟨d4,ho⟩),o1,o2]
  cases ha:(aU x).1
  ·have hs:=(au6.1 o1).1
   unfold em at hs
   rw[show(dC (aU x)).1=false from ha,cond_false]at hs
   have hs:pN (dec (aU x).2.1) (dec (bL (aU x) (aU y))[i])=0:=avQ.1 hs
   dsimp only[Bool.not_true,Bool.not_false]
   rw[dT (show ok Ln 300 (aU x).2.1∧okP 4000 (bL (aU x) (aU y))[i] from⟨(c4.2.1 ha).1,ho⟩),hs]
   exact hn
  ·exact hn
theorem aaM(x y:Pce)(hx:Ty.ok ls x)(hy:Ty.ok ls y):Con Tryz.prog 6 [.d ls x,.d ls y] [.d .bool true]:=by
 have h1:=EN hx
 have h2:=EN hy
 refine aO SS (show ia.Res _ _ _ from ?_)
 cases ho:rC x
 ·refine ll _ _ ⟨0,?_⟩
  unfold ir
  rw[dT h1,dT h2,ho]
  rfl
 ·cases hp:rC y
  ·refine ll _ _ ⟨0,?_⟩
   unfold ir
   rw[dT h1,dT h2,ho,hp]
   rfl
  ·have hc:=wM h1 ho
   have hd:=wM h2 hp
   obtain⟨n,hn⟩:=alr x y hc hd _ 0 (avw _)
   refine ll _ _ ⟨n,?_⟩
   have m1:dQ (aU x) (aU y):=⟨hc.1,hd.1⟩
   have m2:dQ (aU y) (aU x):=⟨hd.1,hc.1⟩
   have m3:dQ (aU x) (aU x):=⟨hc.1,hc.1⟩
   obtain⟨k1,k2⟩:=lI m1
   obtain⟨k3,k4⟩:=lI m2
   obtain⟨k5,k6⟩:=lI m3
   have c4:=ck (k:=4000) hc.1.1 (by decide) (by decide)
   have q1:=J2 (dC (aU x)) (bL (aU y) (aU x))
   have p1:yW (eU (dC (aU x)) (bL (aU y) (aU x))) (eU (dC (aU x)) (bL (aU x) (aU y))):=W3 (fun z hz=>k4 z (gz hz)) (fun z hz=>k2 z (gz hz)) (by omega)
   have p2:yW (bL (aU x) (aU x)) [(aU x).2.2.2.2.1,(aU x).2.2.2.2.2]:=W3 k6 (fun z hz=>by
    have:z=(aU x).2.2.2.2.1∨z=(aU x).2.2.2.2.2:=by simpa using hz
    rcases this with e|e<;>rw[e]
    ·exact c4.2.2.1
    ·exact c4.2.2.2) (by omega)
   unfold ir
   simp only[am,aN]
   rw[dT h1,dT h2,ho,hp,dT m1,dT m2,dT m3,T9 hc hd,awW,dT (HY hc.1.1 m2),dT (HY hc.1.1 m1),dT p1,MT (Ij hc hd),ac9 hc hd,bne_self_eq_false,Ti hc,dT p2,MT (Fy hc)]
   exact hn
end Go.Proofs.YtgddhgcjmddjfaaGreat
end
