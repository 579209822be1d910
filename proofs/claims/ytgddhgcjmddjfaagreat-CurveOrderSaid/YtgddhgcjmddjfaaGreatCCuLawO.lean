/- The law CurveOrder returns true. -/
import Derived.Test.YtgddhgcjmddjfaaGreatC20
noncomputable section
namespace Go.Proofs.YtgddhgcjmddjfaaGreat
open Go.RowKit Go.IntKind
section
theorem acO{c:BCU}(hc:gdN c){p q:BP}(hp:Rpd (dec p:Pt))(hq:Rpd (dec q:Pt)):odV (onP (dC c) (dec p)) (onP (dC c) (dec q)) (rh (dC c) (dec p) (dec q))=odV (onR (dC c) (dec p)) (onR (dC c) (dec q)) (cd (dC c) (dec p) (dec q))∧
  odE (onP (dC c) (dec p)) (onP (dC c) (dec q))=odE (onR (dC c) (dec p)) (onR (dC c) (dec q)):=by
 have e1:=dR hc.crp hp
 have e2:=dR hc.crp hq
 refine⟨?_,by rw[e1,e2]⟩
 cases o1:onP (dC c) (dec p)
 ·rw[←e1,o1];rfl
 ·cases o2:onP (dC c) (dec q)
  ·rw[←e1,←e2,o1,o2];rfl
  ·rw[←e1,←e2,o1,o2,RE.ord_eq hc.crp hc.ne hp hq o1 o2]
def ae8:Env:=[(10,De),(9,wF),(16,CB),(28,T4),(29,Sx)]
theorem SD:EnvAll Tryz.prog ae8:=⟨z7,uG,Aa,Zd,RI,trivial⟩
def EZ:NT:=[((8,28),{keep:=[7,13,80,81,82],hl:=7}),((8,42),{keep:=[7,13,19,80,81,82,86,87,88],hl:=8})]
def gK:Ctx:=CX ae8 EZ
def ie(x y z:Pce)(s82:Int):Cfg:=⟨8,[.blk 0,.seq 66],[(7,.box 3 0),(13,.own 6),(80,.own 6),(81,SI (((([(((((hid (aG x)).2).2).2).2).1,(((((hid (aG x)).2).2).2).2).2,(((((hid (aG y)).2).2).2).2).1])++(dm (hid (aG x)) (hid (aG y))))++(dm (hid (aG x)) (hid (aG z)))).length:Int)),(82,SI s82)],[.box 26 (Ty.split fi x),.box 26 (Ty.split fi y),.box 26 (Ty.split fi z),.box 43 (Ty.split tCU (hid (aG x))),.box 43 (Ty.split tCU (hid (aG y))),.box 43 (Ty.split tCU (hid (aG z))),.row 41 tP ((([(((((hid (aG x)).2).2).2).2).1,(((((hid (aG x)).2).2).2).2).2,(((((hid (aG y)).2).2).2).2).1])++(dm (hid (aG x)) (hid (aG y))))++(dm (hid (aG x)) (hid (aG z))))],0,[]⟩
def jK(x y z:Pce)(s82:Int)(x1:BP)(s88:Int):Cfg:=⟨8,[.blk 2,.blk 1,.seq 65,.lp 28,.blk 0,.seq 66],[(7,.box 3 0),(13,.own 6),(19,.box 7 0),(80,.own 6),(81,SI (((([(((((hid (aG x)).2).2).2).2).1,(((((hid (aG x)).2).2).2).2).2,(((((hid (aG y)).2).2).2).2).1])++(dm (hid (aG x)) (hid (aG y))))++(dm (hid (aG x)) (hid (aG z)))).length:Int)),(82,SI s82),(86,.own 6),(87,SI (((([(((((hid (aG x)).2).2).2).2).1,(((((hid (aG x)).2).2).2).2).2,(((((hid (aG y)).2).2).2).2).1])++(dm (hid (aG x)) (hid (aG y))))++(dm (hid (aG x)) (hid (aG z)))).length:Int)),(88,SI s88)],[.box 26 (Ty.split fi x),.box 26 (Ty.split fi y),.box 26 (Ty.split fi z),.box 43 (Ty.split tCU (hid (aG x))),.box 43 (Ty.split tCU (hid (aG y))),.box 43 (Ty.split tCU (hid (aG z))),.row 41 tP ((([(((((hid (aG x)).2).2).2).2).1,(((((hid (aG x)).2).2).2).2).2,(((((hid (aG y)).2).2).2).2).1])++(dm (hid (aG x)) (hid (aG y))))++(dm (hid (aG x)) (hid (aG z)))),.box 41 (Ty.split tP x1)],0,[]⟩
def kr(x y z:Pce)(k:KT):Option (List RV):=match decide (qU x)with|true=>(match decide (qU y)with|true=>(match decide (qU z)with|true=>(match !(lQ x)with|true=>some [RV.d .bool true]|false=>(match !(lQ y)with|true=>some [RV.d .bool true]|false=>(match !(lQ z)with|true=>some [RV.d .bool true]|false=>(match decide (eH (hid (aG x)) (hid (aG y)))with|true=>(match decide (eH (hid (aG x)) (hid (aG z)))with|true=>(match decide ((([(((((hid (aG x)).2).2).2).2).1,(((((hid (aG x)).2).2).2).2).2,(((((hid (aG y)).2).2).2).2).1]).length+(dm (hid (aG x)) (hid (aG y))).length)*320≤140737488355328∧([(((((hid (aG x)).2).2).2).2).1,(((((hid (aG x)).2).2).2).2).2,(((((hid (aG y)).2).2).2).2).1]).length+(dm (hid (aG x)) (hid (aG y))).length≤140737488355328)with|true=>(match decide (((([(((((hid (aG x)).2).2).2).2).1,(((((hid (aG x)).2).2).2).2).2,(((((hid (aG y)).2).2).2).2).1])++(dm (hid (aG x)) (hid (aG y)))).length+(dm (hid (aG x)) (hid (aG z))).length)*320≤140737488355328∧(([(((((hid (aG x)).2).2).2).2).1,(((((hid (aG x)).2).2).2).2).2,(((((hid (aG y)).2).2).2).2).1])++(dm (hid (aG x)) (hid (aG y)))).length+(dm (hid (aG x)) (hid (aG z))).length≤140737488355328)with|true=>k 28 (ie x y z 0)|false=>none)|false=>none)|false=>none)|false=>none))))|false=>none)|false=>none)|false=>none
theorem mW(x y z:Pce):RS gK 8 [.d fi x,.d fi y,.d fi z] (kr x y z):=rsX
def kU(x y z:Pce)(s82:Int)(k:KT):Option (List RV):=match decide (s82<(((([(((((hid (aG x)).2).2).2).2).1,(((((hid (aG x)).2).2).2).2).2,(((((hid (aG y)).2).2).2).2).1])++(dm (hid (aG x)) (hid (aG y))))++(dm (hid (aG x)) (hid (aG z)))).length:Int))with|true=>(match bi ((([(((((hid (aG x)).2).2).2).2).1,(((((hid (aG x)).2).2).2).2).2,(((((hid (aG y)).2).2).2).2).1])++(dm (hid (aG x)) (hid (aG y))))++(dm (hid (aG x)) (hid (aG z)))) s82 with|some _=>(match true,((([(((((hid (aG x)).2).2).2).2).1,(((((hid (aG x)).2).2).2).2).2,(((((hid (aG y)).2).2).2).2).1])++(dm (hid (aG x)) (hid (aG y))))++(dm (hid (aG x)) (hid (aG z))))[(s82).toNat]? with|true,some x1=>k 42 (jK x y z s82 x1 0)|_,_=>none)|none=>none)|false=>some [RV.d .bool true]
theorem oH(x y z:Pce)(s82:Int):RN gK 28 (ie x y z s82) (kU x y z s82):=rnX
def ki(x y z:Pce)(s82:Int)(x1:BP)(s88:Int)(k:KT):Option (List RV):=match decide (s88<(((([(((((hid (aG x)).2).2).2).2).1,(((((hid (aG x)).2).2).2).2).2,(((((hid (aG y)).2).2).2).2).1])++(dm (hid (aG x)) (hid (aG y))))++(dm (hid (aG x)) (hid (aG z)))).length:Int))with|true=>(match bi ((([(((((hid (aG x)).2).2).2).2).1,(((((hid (aG x)).2).2).2).2).2,(((((hid (aG y)).2).2).2).2).1])++(dm (hid (aG x)) (hid (aG y))))++(dm (hid (aG x)) (hid (aG z)))) s88 with|some _=>(match true,((([(((((hid (aG x)).2).2).2).2).1,(((((hid (aG x)).2).2).2).2).2,(((((hid (aG y)).2).2).2).2).1])++(dm (hid (aG x)) (hid (aG y))))++(dm (hid (aG x)) (hid (aG z))))[(s88).toNat]? with|true,some x2=>(match decide (okC 4000 (hid (aG x))∧okP 4000 x1∧okP 4000 x2)with|true=>(match decide (okC 3500 (hid (aG x))∧okP 3500 x1∧okP 3500 x2)with|true=>(match(odV (onP (dC (hid (aG x))) (dec x1)) (onP (dC (hid (aG x))) (dec x2)) (rh (dC (hid (aG x))) (dec x1) (dec x2))) !=(odV (onR (dC (hid (aG x))) (dec x1)) (onR (dC (hid (aG x))) (dec x2)) (cd (dC (hid (aG x))) (dec x1) (dec x2)))with|true=>some [RV.d .bool false]|false=>(match(odE (onP (dC (hid (aG x))) (dec x1)) (onP (dC (hid (aG x))) (dec x2))) !=(odE (onR (dC (hid (aG x))) (dec x1)) (onR (dC (hid (aG x))) (dec x2)))with|true=>some [RV.d .bool false]|false=>k 42 (jK x y z s82 x1 (i64.wrap (s88+1)))))|false=>none)|false=>none)|_,_=>none)|none=>none)|false=>k 28 (ie x y z (i64.wrap (s82+1)))
theorem pI(x y z:Pce)(s82:Int)(x1:BP)(s88:Int):RN gK 42 (jK x y z s82 x1 s88) (ki x y z s82 x1 s88):=rnX
section
variable (x y z:Pce) (hc:gdN (aG x)) (X:List BP) (hX:((([(((((hid (aG x)).2).2).2).2).1,(((((hid (aG x)).2).2).2).2).2,(((((hid (aG y)).2).2).2).2).1])++(dm (hid (aG x)) (hid (aG y))))++(dm (hid (aG x)) (hid (aG z))))=X) (hl:X.length≤100) (hok:∀q∈X,okP 500 q)
include hc hX hl hok
theorem ak3(i:Nat)(hi:i<X.length)(p:BP)(hp:okP 500 p)(hnext:gK.Runs 28 (ie x y z ((i+1:Nat):Int)) [.d .bool true]):∀(j k:Nat),k+j=X.length→gK.Runs 42 (jK x y z (i:Int) p (k:Int)) [.d .bool true]:=by
 have c4:=cq (k:=4000) hc.1.1 (by decide) (by decide)
 have c3:=cq (k:=3500) hc.1.1 (by decide) (by decide)
 have p4:=cE (k:=4000) hp (by decide) (by decide)
 have p3:=cE (k:=3500) hp (by decide) (by decide)
 have rp:=gc hp
 intro j
 induction j with
 |zero=>
  intro k hk
  obtain⟨n,hn⟩:=hnext
  refine pI _ _ _ _ _ _ ⟨n,?_⟩
  unfold ki
  rw[hX,cz (by omega),co (k:=i) (by omega)]
  exact hn
 |succ j ih=>
  intro k hk
  have hkl:k<X.length:=by omega
  have hq:=hok _ (auB hkl)
  have q4:=cE (k:=4000) hq (by decide) (by decide)
  have q3:=cE (k:=3500) hq (by decide) (by decide)
  obtain⟨e1,e2⟩:=acO hc rp (gc hq)
  obtain⟨n,hn⟩:=ih (k+1) (by omega)
  refine pI _ _ _ _ _ _ ⟨n,?_⟩
  unfold ki
  rw[hX,bS hkl,aA,atU hkl,show((k:Nat):Int).toNat=k by omega,atU hkl,co (k:=k) (by omega)]
  simp only[ak]
  rw[dT (show okC 4000 (aG x)∧okP 4000 p∧okP 4000 X[k] from⟨c4,p4,q4⟩),dT (show okC 3500 (aG x)∧okP 3500 p∧okP 3500 X[k] from⟨c3,p3,q3⟩),e1,e2,bne_self_eq_false,bne_self_eq_false]
  exact hn
theorem alW:∀(j i:Nat),i+j=X.length→gK.Runs 28 (ie x y z (i:Int)) [.d .bool true]:=by
 intro j
 induction j with
 |zero=>
  intro i hi
  refine oH _ _ _ _ ⟨0,?_⟩
  unfold kU
  rw[hX,cz (by omega)]
 |succ j ih=>
  intro i hi
  have hil:i<X.length:=by omega
  have hq:=hok _ (auB hil)
  obtain⟨n,hn⟩:=ak3 x y z hc X hX hl hok i hil X[i] hq (ih (i+1) (by omega)) X.length 0 (auC _)
  refine oH _ _ _ _ ⟨n,?_⟩
  unfold kU
  rw[hX,bS hil,aA,atU hil,show((i:Nat):Int).toNat=i by omega,atU hil]
  exact hn
end
theorem adP(x y z:Pce)(hx:Ty.ok fi x)(hy:Ty.ok fi y)(hz:Ty.ok fi z):Con Tryz.prog 8 [.d fi x,.d fi y,.d fi z] [.d .bool true]:=by
 have h1:=rQ hx
 have h2:=rQ hy
 have h3:=rQ hz
 refine aP SD (show gK.Res _ _ _ from ?_)
 cases ho:lQ x
 ·refine mW _ _ _ ⟨0,?_⟩
  unfold kr
  rw[dT h1,dT h2,dT h3,ho]
  rfl
 ·cases hp:lQ y
  ·refine mW _ _ _ ⟨0,?_⟩
   unfold kr
   rw[dT h1,dT h2,dT h3,ho,hp]
   rfl
  ·cases hq:lQ z
   ·refine mW _ _ _ ⟨0,?_⟩
    unfold kr
    rw[dT h1,dT h2,dT h3,ho,hp,hq]
    rfl
   ·have hc:=nf h1 ho
    have hd:=nf h2 hp
    have he:=nf h3 hq
    have m1:eH (aG x) (aG y):=⟨hc.1,hd.1⟩
    have m2:eH (aG x) (aG z):=⟨hc.1,he.1⟩
    obtain⟨k1,k2⟩:=sJ m1
    obtain⟨k3,k4⟩:=sJ m2
    obtain⟨n,hn⟩:=alW x y z hc _ rfl (by simp only[ak,aus,aui,avR];omega) (fun q hq=>by
     simp only[ak,auo,aud,avH,awM]at hq
     rcases hq with((e|e|e)|e)|e
     ·rw[e];exact hc.fr
     ·rw[e];exact hc.to
     ·rw[e];exact hd.fr
     ·exact(k2 q e).1
     ·exact(k4 q e).1) _ 0 (auC _)
    refine mW _ _ _ ⟨n,?_⟩
    unfold kr
    rw[dT h1,dT h2,dT h3,ho,hp,hq]
    dsimp only[Bool.not_true]
    have a1:∀a b:Nat,a≤100→b≤100→decide ((a+b)*320≤140737488355328∧a+b≤140737488355328)=true:=fun a b h h'=>th (by omega) (by omega)
    rw[dT (show eH (hid (aG x)) (hid (aG y)) by rw[ak,ak];exact m1),dT (show eH (hid (aG x)) (hid (aG z)) by rw[ak,ak];exact m2)]
    dsimp only
    rw[a1 _ _ (by simp) (by rw[ak,ak];omega)]
    dsimp only
    rw[a1 _ _ (by simp only[ak,aus,aui,avR];omega) (by rw[ak,ak];omega)]
    exact hn
end
end Go.Proofs.YtgddhgcjmddjfaaGreat
end
