/- The law CurveReverse returns true. -/
import Derived.Test.YtgddhgcjmddjfaaGreatD20
import Derived.Test.YtgddhgcjmddjfaaGreatDCvY
noncomputable section
namespace Go.Proofs.YtgddhgcjmddjfaaGreat
open Go.RowKit Go.IntKind
def Lc:aM:=spN true true [tCU,tCU] (fun x=>decide (dQ x.1 x.2.1)) (fun x=>[RV.d .bool (Ay (dC x.1)&&rv (dC x.1) (dC x.2.1))])
theorem OY:SpK 19 Lc:=spX fun x h=>XW x.1 x.2.1 (auN h)
def ae9:Env:=[(10,Ix),(9,Dw),(26,Jl),(21,zQ),(19,Lc),(22,ES),(27,S3),(20,n5)]
theorem TS:EnvAll Tryz.prog ae9:=⟨HJ,AN,EY,tZ,OY,xC,Tm,ko,trivial⟩
def AD:NT:=[((7,40),{keep:=[10,12,78,79],hl:=0})]
def jX:Ctx:=CX ae9 AD
def ii(x y:Pce)(s79:Int):Cfg:=⟨7,[.blk 0,.seq 59],[(10,.d (.sl tP) (bL (hid (aU x)) (hid (aU y)))),(12,.d (.sl tP) (bL (hid (cH (hid (aU x)))) (hid (aU y)))),(78,SI ((bL (hid (aU x)) (hid (aU y))).length:Int)),(79,SI s79)],[],0,[]⟩
def jR(x y:Pce)(k:KT):OLR:=match decide (uD x)with|true=>(match decide (uD y)with|true=>(match !(rC x)with|true=>some [RV.d .bool true]|false=>(match !(rC y)with|true=>some [RV.d .bool true]|false=>(match decide (dQ (hid (cH (hid (aU x)))) (hid (cH (hid (aU x)))))with|true=>(match !(Ay (dC (hid (cH (hid (aU x)))))&&rv (dC (hid (cH (hid (aU x))))) (dC (hid (cH (hid (aU x))))))with|true=>some [RV.d .bool false]|false=>(match decide (dQ (hid (cH (hid (cH (hid (aU x)))))) (hid (aU x)))with|true=>(match !(rv (dC (hid (cH (hid (cH (hid (aU x))))))) (dC (hid (aU x))))with|true=>some [RV.d .bool false]|false=>(match decide (dQ (hid (cH (hid (aU x)))) (hid (aU x)))with|true=>(match rv (dC (hid (cH (hid (aU x))))) (dC (hid (aU x)))with|true=>some [RV.d .bool false]|false=>(match decide (dQ (hid (aU x)) (hid (aU y)))with|true=>(match decide (dQ (hid (cH (hid (aU x)))) (hid (aU y)))with|true=>(match !((gZ (hid (aU x)) (hid (aU y)))==(gZ (hid (cH (hid (aU x)))) (hid (aU y))))with|true=>some [RV.d .bool false]|false=>(match((bL (hid (aU x)) (hid (aU y))).length:Int) !=((bL (hid (cH (hid (aU x)))) (hid (aU y))).length:Int)with|true=>some [RV.d .bool false]|false=>k 40 (ii x y 0)))|false=>none)|false=>none))|false=>none))|false=>none))|false=>none)))|false=>none)|false=>none
theorem nM(x y:Pce):RS jX 7 [.d ls x,.d ls y] (jR x y):=rsX
def iD(x y:Pce)(s79:Int)(k:KT):OLR:=match decide (s79<((bL (hid (aU x)) (hid (aU y))).length:Int))with|true=>(match bi (bL (hid (aU x)) (hid (aU y))) s79 with|some x1=>(match bi (bL (hid (cH (hid (aU x)))) (hid (aU y))) (i64.wrap ((i64.wrap (((bL (hid (cH (hid (aU x)))) (hid (aU y))).length:Int)-1))-s79))with|some x2=>(match decide (okP 4000 x1∧okP 4000 x2)with|true=>(match !(aV (dec x1) (dec x2)==0)with|true=>some [RV.d .bool false]|false=>k 40 (ii x y (i64.wrap (s79+1))))|false=>none)|none=>none)|none=>none)|false=>some [RV.d .bool true]
theorem mj(x y:Pce)(s79:Int):RN jX 40 (ii x y s79) (iD x y s79):=rnX
theorem al0(x y:Pce)(hc:gdN (aU x))(hd:gdN (aU y)):∀(j i:Nat),i+j=(bL (aU x) (aU y)).length→jX.Runs 40 (ii x y (i:Int)) [.d .bool true]:=by
 obtain⟨k1,k2⟩:=lI (show dQ (aU x) (aU y) from⟨hc.1,hd.1⟩)
 obtain⟨k3,k4⟩:=lI (show dQ (cH (aU x)) (aU y) from⟨hc.rev.1,hd.1⟩)
 obtain⟨e1,e2⟩:=Ku hc hd
 rw[List.length_reverse]at e1
 intro j
 induction j with
 |zero=>
  intro i hi
  refine mj _ _ _ ⟨0,?_⟩
  unfold iD
  simp only[am]
  rw[cz (by omega)]
 |succ j ih=>
  intro i hi
  have hil:i<(bL (aU x) (aU y)).length:=by omega
  have hr:(bL (cH (aU x)) (aU y)).length-1-i<(bL (cH (aU x)) (aU y)).length:=by omega
  have o1:=k2 _ (avu hil)
  have o2:=k4 _ (avu hr)
  have ew:i64.wrap (i64.wrap (((bL (cH (aU x)) (aU y)).length:Int)-1)-(i:Int))=(((bL (cH (aU x)) (aU y)).length-1-i:Nat):Int):=by
   rw[bz (x:=((bL (cH (aU x)) (aU y)).length:Int)-1) (by omega) (by omega),bz (by omega) (by omega)]
   omega
  have eq:(aV (dec (bL (aU x) (aU y))[i]) (dec (bL (cH (aU x)) (aU y))[(bL (cH (aU x)) (aU y)).length-1-i])==0)=true:=by
   refine avQ.2 (e2 ((bL (cH (aU x)) (aU y)).length-1-i) _ _ ?_ (auP hr))
   rw[List.getElem?_reverse (by omega),show(bL (aU x) (aU y)).length-1-((bL (cH (aU x)) (aU y)).length-1-i)=i by omega,auP hil]
  obtain⟨n,hn⟩:=ih (i+1) (by omega)
  refine mj _ _ _ ⟨n,?_⟩
  unfold iD
  simp only[am]
  rw[cd hil,aA,auP hil,ew,aA,auP hr,cr (k:=i) (by omega)]
  dsimp only
  rw[dT (show okP 4000 (bL (aU x) (aU y))[i]∧okP 4000 (bL (cH (aU x)) (aU y))[(bL (cH (aU x)) (aU y)).length-1-i] from⟨o1,o2⟩),eq]
  exact hn
theorem acN(x y:Pce)(hx:Ty.ok ls x)(hy:Ty.ok ls y):Con Tryz.prog 7 [.d ls x,.d ls y] [.d .bool true]:=by
 have h1:=EN hx
 have h2:=EN hy
 refine aO TS (show jX.Res _ _ _ from ?_)
 cases ho:rC x
 ·refine nM _ _ ⟨0,?_⟩
  unfold jR
  rw[dT h1,dT h2,ho]
  rfl
 ·cases hp:rC y
  ·refine nM _ _ ⟨0,?_⟩
   unfold jR
   rw[dT h1,dT h2,ho,hp]
   rfl
  ·have hc:=wM h1 ho
   have hd:=wM h2 hp
   have hw:=ajc h1 ho
   have hr:=hc.rev
   have hwr:(cH (aU x)).1=false→(cH (aU x)).2.2.2.1=false:=fun e=>by
    show((aU x).1&&!(aU x).2.2.2.1)=false
    rw[show(aU x).1=false from e]
    rfl
   obtain⟨e1,_⟩:=Ku hc hd
   rw[List.length_reverse]at e1
   obtain⟨n,hn⟩:=al0 x y hc hd _ 0 (avw _)
   refine nM _ _ ⟨n,?_⟩
   unfold jR
   simp only[am]
   rw[dT h1,dT h2,ho,hp,dT (show dQ (cH (aU x)) (cH (aU x)) from⟨hr.1,hr.1⟩),ajF hr hwr,H4 hr,Mk hw,dT (show dQ (aU x) (aU x) from⟨hc.1,hc.1⟩),H4 hc,dT (show dQ (cH (aU x)) (aU x) from⟨hr.1,hc.1⟩),adQ hc,dT (show dQ (aU x) (aU y) from⟨hc.1,hd.1⟩),dT (show dQ (cH (aU x)) (aU y) from⟨hr.1,hd.1⟩),aaY hc hd hw,awW,e1,bne_self_eq_false]
   exact hn
end Go.Proofs.YtgddhgcjmddjfaaGreat
end
