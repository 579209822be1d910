/- Common points of curves: the reference's Meet. -/
import Derived.Test.YtgddhgcjmddjfaaGreatC16
import Derived.Test.YtgddhgcjmddjfaaGreatC14
import Derived.Test.YtgddhgcjmddjfaaGreatC15
noncomputable section
namespace Go.Proofs.YtgddhgcjmddjfaaGreat
open Go.RowKit Go.IntKind
theorem ava:type_of% @List.mem_filter:=@List.mem_filter
theorem avI:type_of% @List.filter_cons:=@List.filter_cons
theorem awF:type_of% @List.filter_nil:=@List.filter_nil
def mG(c:BCU):Prop:=okC 500 c∧Ay c
instance (c:BCU):Decidable (mG c):=by unfold mG;infer_instance
def eH(c d:BCU):Prop:=mG c∧mG d
instance (c d:BCU):Decidable (eH c d):=by unfold eH;infer_instance
def rP(c d:BCU):List BP:=bif !c7 (dC c) (dC d)then(mI (dC c) (dC d)).map enc else [c.2.2.2.2.1,c.2.2.2.2.2,d.2.2.2.2.1,d.2.2.2.2.2]
def PI(c d:BCU):List BP:=(rP c d).filter fun p=>onR (dC c) (dec p)&&onR (dC d) (dec p)
def dm(c d:BCU):List BP:=gf (dC c) (PI c d)
def Fd(c d:BCU):Bool:=bif c.1&&(d.1&&(c.2.2.2.1 !=d.2.2.2.1))then true else !c.1&&(aW (dec c.2.2.2.2.1) (dec c.2.2.2.2.2) !=aW (dec d.2.2.2.2.1) (dec d.2.2.2.2.2))
def jC(c d:BCU):BCU:=bif Fd c d then da d else d
def oK(c:Cv):List BP→Bool
 |[]=>false
 |x::r=>match r with
  |[]=>false
  |y::_=>decide (cd c (dec x) (dec y)<0)||oK c r
def yx(c d:BCU):Bool:=c7 (dC c) (dC d)&&oK (dC (jC c d)) (dm c d)
def Vx:aN:=spN false true [tO,tO] (fun x=>decide (bZ x.1∧bZ x.2.1)) (fun x=>[RV.d (.sl tP) ((yi (dec x.1) (dec x.2.1)).map enc),RV.d axf (XK (dec x.1) (dec x.2.1))])
theorem Qe:SpK 44 Vx:=spX fun x h=>acn x.1 x.2.1 (atS h)
def Mj:aN:=spN true true [tO,tO] (fun x=>decide (cG x.1∧cG x.2.1)) (fun x=>[RV.d .bool (oh (dec x.1) (dec x.2.1))])
theorem Ov:SpK 43 Mj:=spX fun x h=>Xu x.1 x.2.1 (atS h)
def KN:aN:=spN true true [tO,tO] (fun x=>decide (bZ x.1∧bZ x.2.1)) (fun x=>[RV.d .bool (qX (dec x.1) (dec x.2.1))])
theorem Ox:SpK 42 KN:=spX fun x h=>Vb x.1 x.2.1 (atS h)
def LR:Env:=[(44,Vx),(45,HQ),(46,IY),(43,Mj),(42,KN),(50,vV),(15,uC),(24,JU),(21,yE),(51,qD)]
theorem zW:EnvAll Tryz.prog LR:=⟨Qe,GF,EO,Ov,Ox,pE,pK,GQ,tY,mv,trivial⟩
def ahR:Ctx:=CX LR []
def WS(a b:BCU)(_k:KT):Option (List RV):=match a.1 with|true=>(match b.1 with|true=>(match decide (bZ a.2.2.1∧bZ b.2.2.1)with|true=>some [RV.d (.sl tP) ((yi (dec a.2.2.1) (dec b.2.2.1)).map enc),RV.d axf (XK (dec a.2.2.1) (dec b.2.2.1))]|false=>none)|false=>(match a.1 with|true=>(match decide (cG b.2.1∧bZ a.2.2.1)with|true=>some [RV.d (.sl tP) ((qY (dec b.2.1) (dec a.2.2.1)).map enc),RV.d axf 0]|false=>none)|false=>(match b.1 with|true=>(match decide (cG a.2.1∧bZ b.2.2.1)with|true=>some [RV.d (.sl tP) ((qY (dec a.2.1) (dec b.2.2.1)).map enc),RV.d axf 0]|false=>none)|false=>(match decide (cG a.2.1∧cG b.2.1)with|true=>some [RV.d (.sl tP) ((n8 (dec a.2.1) (dec b.2.1)).map enc),RV.d axf (Pk (dec a.2.1) (dec b.2.1))]|false=>none))))|false=>(match a.1 with|true=>(match decide (cG b.2.1∧bZ a.2.2.1)with|true=>some [RV.d (.sl tP) ((qY (dec b.2.1) (dec a.2.2.1)).map enc),RV.d axf 0]|false=>none)|false=>(match b.1 with|true=>(match decide (cG a.2.1∧bZ b.2.2.1)with|true=>some [RV.d (.sl tP) ((qY (dec a.2.1) (dec b.2.2.1)).map enc),RV.d axf 0]|false=>none)|false=>(match decide (cG a.2.1∧cG b.2.1)with|true=>some [RV.d (.sl tP) ((n8 (dec a.2.1) (dec b.2.1)).map enc),RV.d axf (Pk (dec a.2.1) (dec b.2.1))]|false=>none)))
theorem aku(a b:BCU):RS ahR 13 [.d tCU a,.d tCU b] (WS a b):=rsX
theorem YB(a b:BCU)(h:fj a b):Con Tryz.prog 13 [.d tCU a,.d tCU b] [.d (.sl tP) ((mI (dC a) (dC b)).map enc),.d axf (Zu (dC a) (dC b))]:=by
 refine aP zW (aku _ _ ⟨0,?_⟩)
 obtain⟨⟨a1,a2⟩,b1,b2⟩:=h
 unfold WS mI Zu yi
 obtain⟨aa,al,ac,aw,af,at_⟩:=a
 obtain⟨ba,bl,bc,bw,bf,bt⟩:=b
 cases aa<;>cases ba
 ·have h1:=a2 rfl
  have h2:=b2 rfl
  simp only[dT (show cG al∧cG bl from⟨h1,h2⟩)]
  rfl
 ·have h1:=a2 rfl
  have h2:=b1 rfl
  simp only[dT (show cG al∧bZ bc from⟨h1,h2⟩)]
  rfl
 ·have h1:=a1 rfl
  have h2:=b2 rfl
  simp only[dT (show cG bl∧bZ ac from⟨h2,h1⟩)]
  rfl
 ·have h1:=a1 rfl
  have h2:=b1 rfl
  simp only[dT (show bZ ac∧bZ bc from⟨h1,h2⟩)]
  rfl
def anm:Ctx:=CX LR []
def ag0(a b:BCU)(_k:KT):Option (List RV):=match !(a.1==b.1)with|true=>some [RV.d .bool false]|false=>(match a.1 with|true=>(match decide (bZ a.2.2.1∧bZ b.2.2.1)with|true=>some [RV.d .bool (qX (dec a.2.2.1) (dec b.2.2.1))]|false=>none)|false=>(match decide (cG a.2.1∧cG b.2.1)with|true=>some [RV.d .bool (oh (dec a.2.1) (dec b.2.1))]|false=>none))
theorem anp(a b:BCU):RS anm 12 [.d tCU a,.d tCU b] (ag0 a b):=rsX
theorem aaJ(a b:BCU)(h:fj a b):Con Tryz.prog 12 [.d tCU a,.d tCU b] [.d .bool (c7 (dC a) (dC b))]:=by
 refine aP zW (anp _ _ ⟨0,?_⟩)
 obtain⟨⟨a1,a2⟩,b1,b2⟩:=h
 unfold ag0 c7
 obtain⟨aa,al,ac,aw,af,at_⟩:=a
 obtain⟨ba,bl,bc,bw,bf,bt⟩:=b
 cases aa<;>cases ba
 ·have h1:=a2 rfl
  have h2:=b2 rfl
  simp only[dT (show cG al∧cG bl from⟨h1,h2⟩)]
  rfl
 ·rfl
 ·rfl
 ·have h1:=a1 rfl
  have h2:=b1 rfl
  simp only[dT (show bZ ac∧bZ bc from⟨h1,h2⟩)]
  rfl
def EA:aN:=spN false true [tCU,tCU] (fun x=>decide (fj x.1 x.2.1)) (fun x=>[RV.d (.sl tP) ((mI (dC x.1) (dC x.2.1)).map enc),RV.d axf (Zu (dC x.1) (dC x.2.1))])
theorem BN:SpK 13 EA:=spX fun x h=>YB x.1 x.2.1 (atS h)
def I4:aN:=spN true true [tCU,tCU] (fun x=>decide (fj x.1 x.2.1)) (fun x=>[RV.d .bool (c7 (dC x.1) (dC x.2.1))])
theorem G6:SpK 12 I4:=spX fun x h=>aaJ x.1 x.2.1 (atS h)
def ae2:Env:=(13,EA)::(12,I4)::LR
theorem Rq:EnvAll Tryz.prog ae2:=⟨BN,G6,zW⟩
def alm:NT:=[((16,18),{keep:=[2,3,6,7,8,9],own:=[(8,41,tP)],hl:=4}),((16,47),{keep:=[3,6,8,10,11],hl:=2})]
def t4:Ctx:=CX ae2 alm
def qf(c d:BCU)(s9:Int)(r3:List BP):Cfg:=⟨16,[.blk 0,.seq 33],[(2,.box 0 0),(3,.box 1 0),(6,SB (c7 (dC c) (dC d))),(7,.d (.sl tP) ((mI (dC c) (dC d)).map enc)),(8,.own 3),(9,SI s9)],[.box 43 (Ty.split tCU c),.box 43 (Ty.split tCU d),.row 41 tP ([c.2.2.2.2.1,c.2.2.2.2.2,d.2.2.2.2.1,d.2.2.2.2.2]),.row 41 tP r3],0,[]⟩
def ka(c d:BCU)(s9:Int)(r3:List BP):Cfg:=⟨16,[.blk 0,.seq 33],[(2,.box 0 0),(3,.box 1 0),(6,SB (c7 (dC c) (dC d))),(7,.own 2),(8,.own 3),(9,SI s9)],[.box 43 (Ty.split tCU c),.box 43 (Ty.split tCU d),.row 41 tP ([c.2.2.2.2.1,c.2.2.2.2.2,d.2.2.2.2.1,d.2.2.2.2.2]),.row 41 tP r3],0,[]⟩
def dg(c d:BCU)(r3:List BP)(B1:BCU)(s10:Bool)(s11:Int):Cfg:=⟨16,[.blk 2,.seq 58],[(3,.box 1 0),(6,SB (c7 (dC c) (dC d))),(8,.d (.sl tP) (gf (dC c) r3)),(10,SB s10),(11,SI s11)],[.box 43 (Ty.split tCU c),.box 43 (Ty.split tCU B1)],0,[]⟩
def U0(c d:BCU)(k:KT):Option (List RV):=match decide (fj c d)with|true=>(match !(c7 (dC c) (dC d))with|true=>(match decide (fj c d)with|true=>k 18 (qf c d 0 ([]))|false=>none)|false=>k 18 (ka c d 0 ([])))|false=>none
theorem afr(c d:BCU):RS t4 16 [.d tCU c,.d tCU d] (U0 c d):=rsX
def qn(c d:BCU)(s9:Int)(r3:List BP)(k:KT):Option (List RV):=match decide (s9<(((mI (dC c) (dC d)).map enc).length:Int))with|true=>(match bi ((mI (dC c) (dC d)).map enc) s9 with|some x1=>(match decide (okC 3500 c∧okP 3500 x1)with|true=>(match onR (dC c) (dec x1)with|true=>(match bi ((mI (dC c) (dC d)).map enc) s9 with|some x2=>(match decide (okC 3500 d∧okP 3500 x2)with|true=>(match onR (dC d) (dec x2)with|true=>(match bi ((mI (dC c) (dC d)).map enc) s9 with|some x3=>(match decide ((r3.length+([x3]).length)*320≤140737488355328∧r3.length+([x3]).length≤140737488355328)with|true=>k 18 (qf c d (i64.wrap (s9+1)) (r3++([x3])))|false=>none)|none=>none)|false=>k 18 (qf c d (i64.wrap (s9+1)) r3))|false=>none)|none=>none)|false=>k 18 (qf c d (i64.wrap (s9+1)) r3))|false=>none)|none=>none)|false=>(match decide (wr c r3)with|true=>(match c.1 with|true=>(match d.1 with|true=>(match !(c.2.2.2.1==d.2.2.2.1)with|true=>k 47 (dg c d r3 (hid (da d)) false 1)|false=>(match !c.1 with|true=>(match decide (okP 4000 c.2.2.2.2.1∧okP 4000 c.2.2.2.2.2)with|true=>(match decide (okP 4000 d.2.2.2.2.1∧okP 4000 d.2.2.2.2.2)with|true=>(match(aW (dec c.2.2.2.2.1) (dec c.2.2.2.2.2)) !=(aW (dec d.2.2.2.2.1) (dec d.2.2.2.2.2))with|true=>k 47 (dg c d r3 (hid (da d)) false 1)|false=>k 47 (dg c d r3 d false 1))|false=>none)|false=>none)|false=>k 47 (dg c d r3 d false 1)))|false=>(match !c.1 with|true=>(match decide (okP 4000 c.2.2.2.2.1∧okP 4000 c.2.2.2.2.2)with|true=>(match decide (okP 4000 d.2.2.2.2.1∧okP 4000 d.2.2.2.2.2)with|true=>(match(aW (dec c.2.2.2.2.1) (dec c.2.2.2.2.2)) !=(aW (dec d.2.2.2.2.1) (dec d.2.2.2.2.2))with|true=>k 47 (dg c d r3 (hid (da d)) false 1)|false=>k 47 (dg c d r3 d false 1))|false=>none)|false=>none)|false=>k 47 (dg c d r3 d false 1)))|false=>(match !c.1 with|true=>(match decide (okP 4000 c.2.2.2.2.1∧okP 4000 c.2.2.2.2.2)with|true=>(match decide (okP 4000 d.2.2.2.2.1∧okP 4000 d.2.2.2.2.2)with|true=>(match(aW (dec c.2.2.2.2.1) (dec c.2.2.2.2.2)) !=(aW (dec d.2.2.2.2.1) (dec d.2.2.2.2.2))with|true=>k 47 (dg c d r3 (hid (da d)) false 1)|false=>k 47 (dg c d r3 d false 1))|false=>none)|false=>none)|false=>k 47 (dg c d r3 d false 1)))|false=>none)
theorem vt(c d:BCU)(s9:Int)(r3:List BP):RN t4 18 (qf c d s9 r3) (qn c d s9 r3):=rnX
def lG(c d:BCU)(s9:Int)(r3:List BP)(k:KT):Option (List RV):=match decide (s9<(([c.2.2.2.2.1,c.2.2.2.2.2,d.2.2.2.2.1,d.2.2.2.2.2]).length:Int))with|true=>(match bi ([c.2.2.2.2.1,c.2.2.2.2.2,d.2.2.2.2.1,d.2.2.2.2.2]) s9 with|some _=>(match true,([c.2.2.2.2.1,c.2.2.2.2.2,d.2.2.2.2.1,d.2.2.2.2.2])[(s9).toNat]? with|true,some x1=>(match decide (okC 3500 c∧okP 3500 x1)with|true=>(match onR (dC c) (dec x1)with|true=>(match bi ([c.2.2.2.2.1,c.2.2.2.2.2,d.2.2.2.2.1,d.2.2.2.2.2]) s9 with|some _=>(match true,([c.2.2.2.2.1,c.2.2.2.2.2,d.2.2.2.2.1,d.2.2.2.2.2])[(s9).toNat]? with|true,some x2=>(match decide (okC 3500 d∧okP 3500 x2)with|true=>(match onR (dC d) (dec x2)with|true=>(match bi ([c.2.2.2.2.1,c.2.2.2.2.2,d.2.2.2.2.1,d.2.2.2.2.2]) s9 with|some _=>(match true,([c.2.2.2.2.1,c.2.2.2.2.2,d.2.2.2.2.1,d.2.2.2.2.2])[(s9).toNat]? with|true,some x3=>(match decide ((r3.length+([x3]).length)*320≤140737488355328∧r3.length+([x3]).length≤140737488355328)with|true=>k 18 (ka c d (i64.wrap (s9+1)) (r3++([x3])))|false=>none)|_,_=>none)|none=>none)|false=>k 18 (ka c d (i64.wrap (s9+1)) r3))|false=>none)|_,_=>none)|none=>none)|false=>k 18 (ka c d (i64.wrap (s9+1)) r3))|false=>none)|_,_=>none)|none=>none)|false=>(match decide (wr c r3)with|true=>(match c.1 with|true=>(match d.1 with|true=>(match !(c.2.2.2.1==d.2.2.2.1)with|true=>k 47 (dg c d r3 (hid (da d)) false 1)|false=>(match !c.1 with|true=>(match decide (okP 4000 c.2.2.2.2.1∧okP 4000 c.2.2.2.2.2)with|true=>(match decide (okP 4000 d.2.2.2.2.1∧okP 4000 d.2.2.2.2.2)with|true=>(match(aW (dec c.2.2.2.2.1) (dec c.2.2.2.2.2)) !=(aW (dec d.2.2.2.2.1) (dec d.2.2.2.2.2))with|true=>k 47 (dg c d r3 (hid (da d)) false 1)|false=>k 47 (dg c d r3 d false 1))|false=>none)|false=>none)|false=>k 47 (dg c d r3 d false 1)))|false=>(match !c.1 with|true=>(match decide (okP 4000 c.2.2.2.2.1∧okP 4000 c.2.2.2.2.2)with|true=>(match decide (okP 4000 d.2.2.2.2.1∧okP 4000 d.2.2.2.2.2)with|true=>(match(aW (dec c.2.2.2.2.1) (dec c.2.2.2.2.2)) !=(aW (dec d.2.2.2.2.1) (dec d.2.2.2.2.2))with|true=>k 47 (dg c d r3 (hid (da d)) false 1)|false=>k 47 (dg c d r3 d false 1))|false=>none)|false=>none)|false=>k 47 (dg c d r3 d false 1)))|false=>(match !c.1 with|true=>(match decide (okP 4000 c.2.2.2.2.1∧okP 4000 c.2.2.2.2.2)with|true=>(match decide (okP 4000 d.2.2.2.2.1∧okP 4000 d.2.2.2.2.2)with|true=>(match(aW (dec c.2.2.2.2.1) (dec c.2.2.2.2.2)) !=(aW (dec d.2.2.2.2.1) (dec d.2.2.2.2.2))with|true=>k 47 (dg c d r3 (hid (da d)) false 1)|false=>k 47 (dg c d r3 d false 1))|false=>none)|false=>none)|false=>k 47 (dg c d r3 d false 1)))|false=>none)
theorem pq(c d:BCU)(s9:Int)(r3:List BP):RN t4 18 (ka c d s9 r3) (lG c d s9 r3):=rnX
def qH(c d:BCU)(r3:List BP)(B1:BCU)(s10:Bool)(s11:Int)(k:KT):Option (List RV):=match c7 (dC c) (dC d)with|true=>(match decide (s11<((gf (dC c) r3).length:Int))with|true=>(match s10 with|true=>k 47 (dg c d r3 B1 true (i64.wrap (s11+1)))|false=>(match bi (gf (dC c) r3) (i64.wrap (s11-1))with|some x1=>(match bi (gf (dC c) r3) s11 with|some x2=>(match decide (okC 4000 B1∧okP 4000 x1∧okP 4000 x2)with|true=>k 47 (dg c d r3 B1 (decide ((cd (dC B1) (dec x1) (dec x2))<0)) (i64.wrap (s11+1)))|false=>none)|none=>none)|none=>none))|false=>some [RV.d (.sl tP) (gf (dC c) r3),RV.d .bool s10])|false=>some [RV.d (.sl tP) (gf (dC c) r3),RV.d .bool s10]
theorem uR(c d:BCU)(r3:List BP)(B1:BCU)(s10:Bool)(s11:Int):RN t4 47 (dg c d r3 B1 s10 s11) (qH c d r3 B1 s10 s11):=rnX
theorem Xj{c:Cv}{S:List BP}{i:Nat}(h1:1≤i)(hi:i<S.length):oK c (S.drop (i-1))=(decide (cd c (dec S[i-1]) (dec S[i])<0)||oK c (S.drop i)):=by
 have hd:S.drop (i-1)=S[i-1]::S.drop i:=by
  have:=auk (l:=S) (i:=i-1) (by omega)
  rw[this,show i-1+1=i by omega]
 have hd2:S.drop i=S[i]::S.drop (i+1):=auk hi
 rw[hd,hd2]
 rfl
theorem adl{c:Cv}{S:List BP}(h:S.length≤1):oK c S=false:=by
 match S,h with
 |[],_=>rfl
 |[_],_=>rfl
theorem ai2(c d:BCU)(r3 S:List BP)(hS:gf (dC c) r3=S)(hl:S.length≤1000000)(ho:∀x∈S,okP 4000 x)(B:BCU)(hB:okC 4000 B):∀(j i:Nat),1≤i→i+j=max S.length 1→∀s:Bool,
  t4.Runs 47 (dg c d r3 B s (i:Int)) [.d (.sl tP) S,.d .bool (bif c7 (dC c) (dC d)then s||oK (dC B) (S.drop (i-1))else s)]:=by
 intro j
 induction j with
 |zero=>
  intro i h1 hi s
  refine uR _ _ _ _ _ _ ⟨0,?_⟩
  unfold qH
  rw[hS,cz (by omega),adl (by rw[avT];omega),Bool.or_false]
  cases c7 (dC c) (dC d)<;>rfl
 |succ j ih=>
  intro i h1 hi s
  have hil:i<S.length:=by omega
  have e1:i64.wrap ((i:Int)-1)=((i-1:Nat):Int):=by rw[bz (by omega) (by omega)];omega
  have e2:i64.wrap ((i:Int)+1)=((i+1:Nat):Int):=co (by omega)
  have g1:bi S ((i-1:Nat):Int)=some S[i-1]:=by rw[aA,atU (by omega)]
  have g2:bi S (i:Int)=some S[i]:=by rw[aA,atU hil]
  cases hs:c7 (dC c) (dC d)
  ·refine uR _ _ _ _ _ _ ⟨0,?_⟩
   unfold qH
   rw[hS,hs]
   rfl
  ·obtain⟨n,hn⟩:=ih (i+1) (by omega) (by omega) (s||decide (cd (dC B) (dec S[i-1]) (dec S[i])<0))
   refine uR _ _ _ _ _ _ ⟨n,?_⟩
   unfold qH
   rw[hS,hs,bS hil,e1,e2,g1,g2]
   dsimp only
   rw[dT (show okC 4000 B∧okP 4000 S[i-1]∧okP 4000 S[i] from⟨hB,ho _ (auB _),ho _ (auB _)⟩)]
   rw[hs,Nat.add_sub_cancel,Bool.or_assoc,←Xj h1 hil]at hn
   cases s
   ·exact hn
   ·simp only[Bool.true_or,cond_true]at hn ⊢
    exact hn
theorem Mo{c:Cv}{l:List BP}{p:BP→Prop}(h:∀x∈l,p x):∀x∈gf c l,p x:=fun x hx=>by
 rcases wS hx with h'|h'
 ·cases h'
 ·exact h x h'
theorem J0(c d:BCU)(h:eH c d)(r3:List BP)(hl:r3.length≤100)(ho:∀x∈r3,okP 500 x):∃n,(match decide (wr c r3)with
  |true=>t4.k n 47 (dg c d r3 (jC c d) false 1)
  |false=>none)=some [.d (.sl tP) (gf (dC c) r3),.d .bool (c7 (dC c) (dC d)&&oK (dC (jC c d)) (gf (dC c) r3))]:=by
 have hs:wr c r3:=⟨cq h.1.1 (by decide) (by decide),by omega,fun x hx=>cE (ho x hx) (by decide) (by decide)⟩
 have hR:okC 4000 (jC c d):=by
  unfold jC
  have:=cq (k:=4000) h.2.1 (by decide) (by decide)
  cases Fd c d
  ·exact this
  ·exact IM 4000 this
 have hlen:=wL (dC c) r3 []
 obtain⟨n,hn⟩:=ai2 c d r3 _ rfl (by simp at hlen;unfold gf;omega) (Mo (fun x hx=>cE (ho x hx) (by decide) (by decide))) (jC c d) hR (max (gf (dC c) r3).length 1-1) 1 (at5 _) (by omega) false
 refine⟨n,?_⟩
 rw[dT hs]
 refine hn.trans ?_
 cases c7 (dC c) (dC d)<;>rfl
theorem DJ{l c:Ln}[BdL l][BdC c](hl:l.1≠0∨l.2.1≠0):(qY l c).length≤2∧∀p∈qY l c,Bd p 490∧Rpd p:=by
 unfold qY
 by_cases h0:iE l c<0
 ·rw[atT h0]
  exact⟨by simp,fun p hp=>by cases hp⟩
 ·rw[atV h0]
  by_cases h1:iE l c=0
  ·rw[atT h1]
   obtain⟨f1,f2,_,_⟩:=v8 (l:=l) (c:=c)
   refine⟨by simp,fun p hp=>?_⟩
   have:p=atP (ftX l c,ftY l c):=by simpa using hp
   rw[this]
   exact⟨(inferInstance:Bd (atP (ftX l c,ftY l c)) _).mono (by decide),inferInstance⟩
  ·rw[atV h1]
   obtain⟨p1,p2⟩:=TN (c:=c) hl (show 0≤iE l c by grind)
   obtain⟨q1,q2⟩:=R7 (l:=l) (c:=c)
   cases decide (aW (tJ l c) (uf l c)>0)
   ·refine⟨by simp,fun p hp=>?_⟩
    have:p=tJ l c∨p=uf l c:=by simpa using hp
    rcases this with e|e<;>rw[e]
    ·exact⟨q1,p1⟩
    ·exact⟨q2,p2⟩
   ·refine⟨by simp,fun p hp=>?_⟩
    have:p=uf l c∨p=tJ l c:=by simpa using hp
    rcases this with e|e<;>rw[e]
    ·exact⟨q2,p2⟩
    ·exact⟨q1,p1⟩
theorem wJ{l m:Ln}[BdL l][BdL m]:(n8 l m).length≤2∧∀p∈n8 l m,Bd p 490∧Rpd p:=by
 unfold n8
 cases decide (fH l m=0)
 ·have bc:Bd (fH l m) 49:=inferInstanceAs (Bd (l.1*m.2.1-m.1*l.2.1) _)
  have bx:Bd (oo l m) 151:=inferInstanceAs (Bd (l.2.2*m.2.1-m.2.2*l.2.1) _)
  have b_:Bd (oO l m) 151:=inferInstanceAs (Bd (l.1*m.2.2-m.1*l.2.2) _)
  refine⟨by simp,fun p hp=>?_⟩
  have:p=atP (oo l m/fH l m,oO l m/fH l m):=by simpa using hp
  rw[this]
  exact⟨(inferInstance:Bd (atP (oo l m/fH l m,oO l m/fH l m)) _).mono (by decide),inferInstance⟩
 ·exact⟨by simp,fun p hp=>by cases hp⟩
theorem KM{c d:BCU}(h:fj c d):(mI (dC c) (dC d)).length≤2∧∀p∈mI (dC c) (dC d),Bd p 490∧Rpd p:=by
 obtain⟨⟨a1,a2⟩,b1,b2⟩:=h
 obtain⟨aa,al,ac,aw,af,at_⟩:=c
 obtain⟨ba,bl,bc,bw,bf,bt⟩:=d
 have ex1:∀x:BO3,cG x→BdL (dec x)∧((dec x:Ln).1≠0∨(dec x:Ln).2.1≠0):=fun x h=>by
  obtain⟨l,rfl,bl,nl⟩:=eE h
  rw[aq]
  exact⟨bl,nl⟩
 have ex2:∀x:BO3,bZ x→BdC (dec x):=fun x h=>by
  obtain⟨l,rfl,bl,nl⟩:=dk h
  rw[aq]
  exact bl
 unfold mI
 cases aa<;>cases ba
 ·obtain⟨i1,_⟩:=ex1 _ (a2 rfl)
  obtain⟨i2,_⟩:=ex1 _ (b2 rfl)
  exact wJ (l:=dec al) (m:=dec bl)
 ·obtain⟨i1,n1⟩:=ex1 _ (a2 rfl)
  have i2:=ex2 _ (b1 rfl)
  exact DJ (l:=dec al) (c:=dec bc) n1
 ·have i1:=ex2 _ (a1 rfl)
  obtain⟨i2,n2⟩:=ex1 _ (b2 rfl)
  exact DJ (l:=dec bl) (c:=dec ac) n2
 ·have i1:=ex2 _ (a1 rfl)
  have i2:=ex2 _ (b1 rfl)
  show(yi (dec ac) (dec bc)).length≤2∧∀p∈yi (dec ac) (dec bc),Bd p 490∧Rpd p
  unfold yi
  cases hc:gZ (dec ac) (dec bc)
  ·have i3:BdL (n6 (dec ac) (dec bc)):=yY
   exact DJ (Em hc)
  ·exact⟨by simp,fun p hp=>by cases hp⟩
theorem C2{c d:BCU}(h:eH c d):(rP c d).length≤4∧∀x∈rP c d,okP 500 x:=by
 obtain⟨⟨h1,h2⟩,h3,h4⟩:=h
 unfold rP
 cases c7 (dC c) (dC d)
 ·obtain⟨g1,g2⟩:=KM (show fj c d from⟨h2,h4⟩)
  refine⟨by simp only[Bool.not_false,cond_true,avh];omega,fun x hx=>?_⟩
  obtain⟨p,hp,rfl⟩:=au7.1 hx
  obtain⟨b,r⟩:=g2 p hp
  exact atS (bG (j:=490) (by decide) (by decide))
 ·refine⟨by simp,fun x hx=>?_⟩
  have:x=c.2.2.2.2.1∨x=c.2.2.2.2.2∨x=d.2.2.2.2.1∨x=d.2.2.2.2.2:=by simpa using hx
  rcases this with e|e|e|e<;>rw[e]
  ·exact h1.2.2.1
  ·exact h1.2.2.2
  ·exact h3.2.2.1
  ·exact h3.2.2.2
def mM(c d:BCU)(p:BP):Bool:=onR (dC c) (dec p)&&onR (dC d) (dec p)
theorem H5(c d:BCU)(h:eH c d)(L:List BP)(hL:(mI (dC c) (dC d)).map enc=L)(h4:L.length≤4)(ho:∀x∈L,okP 500 x):∀(j i:Nat),i+j=L.length→∀r3:List BP,r3.length≤i→(∀x∈r3,okP 500 x)→
  t4.Runs 18 (qf c d (i:Int) r3) [.d (.sl tP) (gf (dC c) (r3++(L.drop i).filter (mM c d))),.d .bool (c7 (dC c) (dC d)&&oK (dC (jC c d)) (gf (dC c) (r3++(L.drop i).filter (mM c d))))]:=by
 intro j
 induction j with
 |zero=>
  intro i hi r3 hr h3
  obtain⟨n,hn⟩:=J0 c d h r3 (by omega) h3
  refine vt _ _ _ _ ⟨n,?_⟩
  have hd:L.drop i=[]:=awI.2 (by omega)
  rw[hd,awF,auz,←hn]
  unfold qn
  rw[hL,cz (by omega)]
  have hs:wr c r3:=⟨cq h.1.1 (by decide) (by decide),by omega,fun x hx=>cE (h3 x hx) (by decide) (by decide)⟩
  have o1:decide (okP 4000 c.2.2.2.2.1∧okP 4000 c.2.2.2.2.2)=true:=atT ⟨cE h.1.1.2.2.1 (by decide) (by decide),cE h.1.1.2.2.2 (by decide) (by decide)⟩
  have o2:decide (okP 4000 d.2.2.2.2.1∧okP 4000 d.2.2.2.2.2)=true:=atT ⟨cE h.2.1.2.2.1 (by decide) (by decide),cE h.2.1.2.2.2 (by decide) (by decide)⟩
  rw[dT hs,o1,o2]
  dsimp only
  unfold jC Fd bne
  simp only[ak]
  cases c.1<;>cases d.1<;>cases(c.2.2.2.1==d.2.2.2.1)<;>cases(aW (dec c.2.2.2.2.1) (dec c.2.2.2.2.2)==aW (dec d.2.2.2.2.1) (dec d.2.2.2.2.2))<;>rfl
 |succ j ih=>
  intro i hi r3 hr h3
  have hil:i<L.length:=by omega
  have e2:i64.wrap ((i:Int)+1)=((i+1:Nat):Int):=co (by omega)
  have g2:bi L (i:Int)=some L[i]:=by rw[aA,atU hil]
  have g3:L[((i:Int)).toNat]?=some L[i]:=by rw[show((i:Int)).toNat=i by omega,atU hil]
  have hx:=ho _ (auB hil)
  have hd:L.drop i=L[i]::L.drop (i+1):=auk hil
  have ox:=cE (k:=3500) hx (by decide) (by decide)
  have o1:decide (okC 3500 c∧okP 3500 L[i])=true:=atT ⟨cq h.1.1 (by decide) (by decide),ox⟩
  have o2:decide (okC 3500 d∧okP 3500 L[i])=true:=atT ⟨cq h.2.1 (by decide) (by decide),ox⟩
  have hf:(L.drop i).filter (mM c d)=bif mM c d L[i]then L[i]::(L.drop (i+1)).filter (mM c d)else(L.drop (i+1)).filter (mM c d):=by
   rw[hd,avI]
   cases mM c d L[i]<;>rfl
  cases hb:mM c d L[i]
  ·rw[hb]at hf
   obtain⟨n,hn⟩:=ih (i+1) (by omega) r3 (by omega) h3
   refine vt _ _ _ _ ⟨n,?_⟩
   rw[hf]
   dsimp only[cond_false]
   rw[←hn]
   unfold mM at hb
   unfold qn
   rw[hL,bS hil,g2,e2]
   dsimp only
   try rw[g3]
   try dsimp only
   rw[o1,o2]
   dsimp only
   cases h1:onR (dC c) (dec L[i])
   ·rfl
   ·rw[h1,atX]at hb
    rw[hb]
  ·rw[hb]at hf
   obtain⟨n,hn⟩:=ih (i+1) (by omega) (r3++[L[i]]) (by simp;omega) (fun x hx'=>by
    rcases auo.1 hx' with h'|h'
    ·exact h3 x h'
    ·have:x=L[i]:=by simpa using h'
     rw[this];exact hx)
   refine vt _ _ _ _ ⟨n,?_⟩
   rw[hf]
   dsimp only[cond_true]
   rw[aut]at hn
   refine Eq.trans ?_ hn
   unfold mM at hb
   obtain⟨h1,h2⟩:=auc.1 hb
   unfold qn
   rw[hL,bS hil,g2,e2]
   dsimp only
   try rw[g3]
   try dsimp only
   rw[o1,o2,h1,h2]
   dsimp only
   rw[dT (by simp;omega)]
theorem C0(c d:BCU)(h:eH c d)(L:List BP)(hL:[c.2.2.2.2.1,c.2.2.2.2.2,d.2.2.2.2.1,d.2.2.2.2.2]=L)(h4:L.length≤4)(ho:∀x∈L,okP 500 x):∀(j i:Nat),i+j=L.length→∀r3:List BP,r3.length≤i→(∀x∈r3,okP 500 x)→
  t4.Runs 18 (ka c d (i:Int) r3) [.d (.sl tP) (gf (dC c) (r3++(L.drop i).filter (mM c d))),.d .bool (c7 (dC c) (dC d)&&oK (dC (jC c d)) (gf (dC c) (r3++(L.drop i).filter (mM c d))))]:=by
 intro j
 induction j with
 |zero=>
  intro i hi r3 hr h3
  obtain⟨n,hn⟩:=J0 c d h r3 (by omega) h3
  refine pq _ _ _ _ ⟨n,?_⟩
  have hd:L.drop i=[]:=awI.2 (by omega)
  rw[hd,awF,auz,←hn]
  unfold lG
  rw[hL,cz (by omega)]
  have hs:wr c r3:=⟨cq h.1.1 (by decide) (by decide),by omega,fun x hx=>cE (h3 x hx) (by decide) (by decide)⟩
  have o1:decide (okP 4000 c.2.2.2.2.1∧okP 4000 c.2.2.2.2.2)=true:=atT ⟨cE h.1.1.2.2.1 (by decide) (by decide),cE h.1.1.2.2.2 (by decide) (by decide)⟩
  have o2:decide (okP 4000 d.2.2.2.2.1∧okP 4000 d.2.2.2.2.2)=true:=atT ⟨cE h.2.1.2.2.1 (by decide) (by decide),cE h.2.1.2.2.2 (by decide) (by decide)⟩
  rw[dT hs,o1,o2]
  dsimp only
  unfold jC Fd bne
  simp only[ak]
  cases c.1<;>cases d.1<;>cases(c.2.2.2.1==d.2.2.2.1)<;>cases(aW (dec c.2.2.2.2.1) (dec c.2.2.2.2.2)==aW (dec d.2.2.2.2.1) (dec d.2.2.2.2.2))<;>rfl
 |succ j ih=>
  intro i hi r3 hr h3
  have hil:i<L.length:=by omega
  have e2:i64.wrap ((i:Int)+1)=((i+1:Nat):Int):=co (by omega)
  have g2:bi L (i:Int)=some L[i]:=by rw[aA,atU hil]
  have g3:L[((i:Int)).toNat]?=some L[i]:=by rw[show((i:Int)).toNat=i by omega,atU hil]
  have hx:=ho _ (auB hil)
  have hd:L.drop i=L[i]::L.drop (i+1):=auk hil
  have ox:=cE (k:=3500) hx (by decide) (by decide)
  have o1:decide (okC 3500 c∧okP 3500 L[i])=true:=atT ⟨cq h.1.1 (by decide) (by decide),ox⟩
  have o2:decide (okC 3500 d∧okP 3500 L[i])=true:=atT ⟨cq h.2.1 (by decide) (by decide),ox⟩
  have hf:(L.drop i).filter (mM c d)=bif mM c d L[i]then L[i]::(L.drop (i+1)).filter (mM c d)else(L.drop (i+1)).filter (mM c d):=by
   rw[hd,avI]
   cases mM c d L[i]<;>rfl
  cases hb:mM c d L[i]
  ·rw[hb]at hf
   obtain⟨n,hn⟩:=ih (i+1) (by omega) r3 (by omega) h3
   refine pq _ _ _ _ ⟨n,?_⟩
   rw[hf]
   dsimp only[cond_false]
   rw[←hn]
   unfold mM at hb
   unfold lG
   rw[hL,bS hil,g2,e2]
   dsimp only
   try rw[g3]
   try dsimp only
   rw[o1,o2]
   dsimp only
   cases h1:onR (dC c) (dec L[i])
   ·rfl
   ·rw[h1,atX]at hb
    rw[hb]
  ·rw[hb]at hf
   obtain⟨n,hn⟩:=ih (i+1) (by omega) (r3++[L[i]]) (by simp;omega) (fun x hx'=>by
    rcases auo.1 hx' with h'|h'
    ·exact h3 x h'
    ·have:x=L[i]:=by simpa using h'
     rw[this];exact hx)
   refine pq _ _ _ _ ⟨n,?_⟩
   rw[hf]
   dsimp only[cond_true]
   rw[aut]at hn
   refine Eq.trans ?_ hn
   unfold mM at hb
   obtain⟨h1,h2⟩:=auc.1 hb
   unfold lG
   rw[hL,bS hil,g2,e2]
   dsimp only
   try rw[g3]
   try dsimp only
   rw[o1,o2,h1,h2]
   dsimp only
   rw[dT (by simp;omega)]
theorem ZY(c d:BCU)(h:eH c d):Con Tryz.prog 16 [.d tCU c,.d tCU d] [.d (.sl tP) (dm c d),.d .bool (yx c d)]:=by
 obtain⟨h4,ho⟩:=C2 h
 have hsp:fj c d:=⟨h.1.2,h.2.2⟩
 refine aP Rq (show t4.Res _ _ _ from ?_)
 unfold rP at h4 ho
 unfold dm yx dm PI rP
 cases hs:c7 (dC c) (dC d)
 ·rw[hs]at h4 ho
  obtain⟨n,hn⟩:=H5 c d h _ rfl h4 ho _ 0 (auC _) [] (at5 _) (fun x hx=>by cases hx)
  refine afr _ _ ⟨n,?_⟩
  unfold U0
  rw[dT hsp,hs]
  rw[hs]at hn
  exact hn
 ·rw[hs]at h4 ho
  obtain⟨n,hn⟩:=C0 c d h _ rfl h4 ho _ 0 (auC _) [] (at5 _) (fun x hx=>by cases hx)
  refine afr _ _ ⟨n,?_⟩
  unfold U0
  rw[dT hsp,hs]
  rw[hs]at hn
  exact hn
def CB:aN:=spN false true [tCU,tCU] (fun x=>decide (eH x.1 x.2.1)) (fun x=>[RV.d (.sl tP) (dm x.1 x.2.1),RV.d .bool (yx x.1 x.2.1)])
theorem Aa:SpK 16 CB:=spX fun x h=>ZY x.1 x.2.1 (atS h)
def i8P(n:Int):Prop:= -128≤n∧n≤127
instance (n:Int):Decidable (i8P n):=by unfold i8P;infer_instance
def u8P(n:Int):Prop:=0≤n∧n≤255
instance (n:Int):Decidable (u8P n):=by unfold u8P;infer_instance
def atQ(n u:Int):Rat:=Rat.divInt n (u%4+1)
def Jo(c:BO3):List BCU:=[(true,o00,c,false,enc (ri (dec c)),enc (re (dec c))),(true,o00,c,false,enc (re (dec c)),enc (ri (dec c)))]
abbrev tDr:Ty:=.st (.pair (.int .u8) (.pair (.int .u8) (.pair (.int .i8) (.pair (.int .i8) (.pair (.int .i8) (.pair (.int .i8) (.pair (.int .i8) (.int .i8))))))))
abbrev fi:Ty:=.st (.pair tDr (.pair tDr (.int .u8)))
abbrev Dr:=Int×Int×Int×Int×Int×Int×Int×Int
abbrev Pce:=Dr×Dr×Int
def AB(x:Dr):Prop:=u8P x.1∧u8P x.2.1∧i8P x.2.2.1∧i8P x.2.2.2.1∧i8P x.2.2.2.2.1∧i8P x.2.2.2.2.2.1∧i8P x.2.2.2.2.2.2.1∧i8P x.2.2.2.2.2.2.2
instance (x:Dr):Decidable (AB x):=by unfold AB;infer_instance
def drA(x:Dr):Rat×Rat:=(atQ x.2.2.1 x.2.1,atQ x.2.2.2.1 x.2.1)
def drB(x:Dr):Rat×Rat:=(atQ x.2.2.2.2.1 x.2.1,atQ x.2.2.2.2.2.1 x.2.1)
def drC(x:Dr):Rat×Rat:=(atQ x.2.2.2.2.2.2.1 x.2.1,atQ x.2.2.2.2.2.2.2 x.2.1)
def drQ(x:Dr):Ln:=((drA x).1,(drA x).2,(drB x).1)
def ofL(x:Dr):List BCU:=
 bif x.1%3==2 then(bif decide ((drB x).1≤0)then []else Jo (enc (drQ x)))
 else bif x.1%3==1 then(bif pN (drA x) (drB x) (drC x) !=0 then []else [Gm (drA x) (drB x) (drC x)])
 else bif pU (drA x) (drB x) !=0 then []else [Fr (drA x) (drB x)]
theorem MF{u k:Int}(h:u8P u):Int.tmod u k=u%k:=Int.tmod_eq_emod_of_nonneg h.1
theorem za{n u:Int}(h:i8P n)(_h':u8P u):Bb (atQ n u) 7 2:=by
 unfold atQ
 obtain⟨h1,h2⟩:=h
 exact aaA (by omega) (by show n.natAbs≤128;omega) (by show(u%4+1).natAbs≤4;omega)
theorem Con.dd{P:Program}{f:Nat}{args:List SV}{et:TypeId}{e:Ty}{xs:List e.D}{r:RV}(h:Con P f args [r])(hr:r=.new et e xs∨r=.d (.sl e) xs):Con P f args [.d (.sl e) xs]:=by
 rcases hr with rfl|rfl
 ·exact Con.new_d h
 ·exact h
def Mk:Env:=[(37,uo),(135,JG),(69,jI),(71,M4),(72,LW)]
theorem z5:EnvAll Tryz.prog Mk:=⟨qc,Gv,gN,Nx,OX,trivial⟩
def aoF:Ctx:=CX Mk []
def afQ(n u:Int)(_k:KT):Option (List RV):=match decide (eK (i64.wrap n) (i64.wrap ((i64.wrap (Int.tmod u 4))+1)))with|true=>some [RV.d tR (hid (ai (Rat.divInt (i64.wrap n) (i64.wrap ((i64.wrap (Int.tmod u 4))+1)))))]|false=>none
theorem aoL(n u:Int):RS aoF 68 [.d (.int .i8) n,.d (.int .u8) u] (afQ n u):=rsX
theorem aaH(n u:Int)(h:i8P n∧u8P u):Con Tryz.prog 68 [.d (.int .i8) n,.d (.int .u8) u] [.d tR (ai (atQ n u))]:=by
 refine aP z5 (aoL _ _ ⟨0,?_⟩)
 obtain⟨hn,hu⟩:=h
 have e0:=MF (k:=4) hu
 obtain⟨n1,n2⟩:=hn
 unfold afQ
 rw[e0,bz (x:=n) (by omega) (by omega),bz (x:=u%4) (by omega) (by omega),bz (x:=u%4+1) (by omega) (by omega),dT (show eK n (u%4+1) from⟨⟨by omega,by omega⟩,⟨by omega,by omega⟩,by omega⟩)]
 simp only[ak]
 rfl
def anZ:Ctx:=CX Mk []
def afd(c:BO3)(_k:KT):Option (List RV):=match decide (bZ c)with|true=>some [RV.new 43 tCU ([(true,((((false,[]),(false,[])),(((false,[]),(false,[])),((false,[]),(false,[])))),(c,(false,(hid (enc (ri (dec c))),hid (enc (re (dec c)))))))),(true,((((false,[]),(false,[])),(((false,[]),(false,[])),((false,[]),(false,[])))),(c,(false,(hid (enc (re (dec c))),hid (enc (ri (dec c))))))))])]|false=>none
theorem aqB(c:BO3):RS anZ 70 [.d tO c] (afd c):=rsX
theorem aea(c:BO3)(h:bZ c):Con Tryz.prog 70 [.d tO c] [.d (.sl tCU) (Jo c)]:=by
 refine Con.new_d (et:=43) (aP z5 (aqB _ ⟨0,?_⟩))
 unfold afd
 rw[dT h]
 simp only[ak]
 rfl
def Vp:aN:=spN false true [(.int .i8),(.int .u8)] (fun x=>decide (i8P x.1∧u8P x.2.1)) (fun x=>[RV.d tR (hid (ai (atQ x.1 x.2.1)))])
theorem Vu:SpK 68 Vp:=spX fun x h=>by simp only[ak];exact aaH x.1 x.2.1 (atS h)
def Rl:aN:=spN false true [tO] (fun x=>decide (bZ x.1)) (fun x=>[RV.d (.sl tCU) (Jo x.1)])
theorem SZ:SpK 70 Rl:=spX fun x h=>aea x.1 (atS h)
def aeB:Env:=(68,Vp)::(70,Rl)::Mk
theorem V0:EnvAll Tryz.prog aeB:=⟨Vu,SZ,z5⟩
def afj:Ctx:=CX aeB []
def SG(x:Dr)(_k:KT):Option (List RV):=match decide (i8P x.2.2.1∧u8P x.2.1)with|true=>(match decide (i8P x.2.2.2.1∧u8P x.2.1)with|true=>(match decide (i8P x.2.2.2.2.1∧u8P x.2.1)with|true=>(match decide (i8P x.2.2.2.2.2.1∧u8P x.2.1)with|true=>(match(Int.tmod x.1 3)==2 with|true=>(match decide (i8P x.2.2.2.2.1∧u8P x.2.1)with|true=>(match decide (okR (hid (ai (atQ x.2.2.2.2.1 x.2.1))))with|true=>(match decide ((aS (ae (hid (ai (atQ x.2.2.2.2.1 x.2.1)))) 0)≤0)with|true=>some [RV.new 43 tCU []]|false=>(match decide (bZ (hid (ai (atQ x.2.2.1 x.2.1)),(hid (ai (atQ x.2.2.2.1 x.2.1)),hid (ai (atQ x.2.2.2.2.1 x.2.1)))))with|true=>some [RV.d (.sl tCU) (Jo (hid (ai (atQ x.2.2.1 x.2.1)),(hid (ai (atQ x.2.2.2.1 x.2.1)),hid (ai (atQ x.2.2.2.2.1 x.2.1)))))]|false=>none))|false=>none)|false=>none)|false=>(match decide (ok (Rat×Rat) 100 (hid (ai (atQ x.2.2.1 x.2.1)),hid (ai (atQ x.2.2.2.1 x.2.1)))∧ok (Rat×Rat) 100 (hid (ai (atQ x.2.2.2.2.1 x.2.1)),hid (ai (atQ x.2.2.2.2.2.1 x.2.1))))with|true=>(match(Int.tmod x.1 3)==1 with|true=>(match decide (i8P x.2.2.2.2.2.2.1∧u8P x.2.1)with|true=>(match decide (i8P x.2.2.2.2.2.2.2∧u8P x.2.1)with|true=>(match decide (ok (Rat×Rat) 100 (hid (ai (atQ x.2.2.1 x.2.1)),hid (ai (atQ x.2.2.2.1 x.2.1)))∧ok (Rat×Rat) 100 (hid (ai (atQ x.2.2.2.2.1 x.2.1)),hid (ai (atQ x.2.2.2.2.2.1 x.2.1)))∧ok (Rat×Rat) 100 (hid (ai (atQ x.2.2.2.2.2.2.1 x.2.1)),hid (ai (atQ x.2.2.2.2.2.2.2 x.2.1))))with|true=>(match(pN (dec (hid (ai (atQ x.2.2.1 x.2.1)),hid (ai (atQ x.2.2.2.1 x.2.1)))) (dec (hid (ai (atQ x.2.2.2.2.1 x.2.1)),hid (ai (atQ x.2.2.2.2.2.1 x.2.1)))) (dec (hid (ai (atQ x.2.2.2.2.2.2.1 x.2.1)),hid (ai (atQ x.2.2.2.2.2.2.2 x.2.1))))) !=0 with|true=>some [RV.new 43 tCU []]|false=>some [RV.new 43 tCU ([hid (Gm (dec (hid (ai (atQ x.2.2.1 x.2.1)),hid (ai (atQ x.2.2.2.1 x.2.1)))) (dec (hid (ai (atQ x.2.2.2.2.1 x.2.1)),hid (ai (atQ x.2.2.2.2.2.1 x.2.1)))) (dec (hid (ai (atQ x.2.2.2.2.2.2.1 x.2.1)),hid (ai (atQ x.2.2.2.2.2.2.2 x.2.1)))))])])|false=>none)|false=>none)|false=>none)|false=>(match(pU (dec (hid (ai (atQ x.2.2.1 x.2.1)),hid (ai (atQ x.2.2.2.1 x.2.1)))) (dec (hid (ai (atQ x.2.2.2.2.1 x.2.1)),hid (ai (atQ x.2.2.2.2.2.1 x.2.1))))) !=0 with|true=>some [RV.new 43 tCU []]|false=>some [RV.new 43 tCU ([hid (Fr (dec (hid (ai (atQ x.2.2.1 x.2.1)),hid (ai (atQ x.2.2.2.1 x.2.1)))) (dec (hid (ai (atQ x.2.2.2.2.1 x.2.1)),hid (ai (atQ x.2.2.2.2.2.1 x.2.1)))))])]))|false=>none))|false=>none)|false=>none)|false=>none)|false=>none
theorem ard(x:Dr):RS afj 30 [.d tDr x] (SG x):=rsX
theorem acS(x:Dr)(h:AB x):Con Tryz.prog 30 [.d tDr x] [.d (.sl tCU) (ofL x)]:=by
 obtain⟨h1,h2,hA,hB,hC,hD,hE,hF⟩:=h
 have at_bd:∀n,i8P n→Bd (atQ n x.2.1) 1:=fun n hn=>GI (h:=za hn h2) (by decide) (by decide)
 have bA:=at_bd _ hA
 have bB:=at_bd _ hB
 have bC:=at_bd _ hC
 have bD:=at_bd _ hD
 have bE:=at_bd _ hE
 have bF:=at_bd _ hF
 have vA:Bd (drA x) 1:=inferInstanceAs (Bd (atQ x.2.2.1 x.2.1,atQ x.2.2.2.1 x.2.1) _)
 have vB:Bd (drB x) 1:=inferInstanceAs (Bd (atQ x.2.2.2.2.1 x.2.1,atQ x.2.2.2.2.2.1 x.2.1) _)
 have vC:Bd (drC x) 1:=inferInstanceAs (Bd (atQ x.2.2.2.2.2.2.1 x.2.1,atQ x.2.2.2.2.2.2.2 x.2.1) _)
 have eA:((ai (atQ x.2.2.1 x.2.1),ai (atQ x.2.2.2.1 x.2.1)):BV)=enc (drA x):=rfl
 have eB:((ai (atQ x.2.2.2.2.1 x.2.1),ai (atQ x.2.2.2.2.2.1 x.2.1)):BV)=enc (drB x):=rfl
 have eC:((ai (atQ x.2.2.2.2.2.2.1 x.2.1),ai (atQ x.2.2.2.2.2.2.2 x.2.1)):BV)=enc (drC x):=rfl
 have eQ:((ai (atQ x.2.2.1 x.2.1),ai (atQ x.2.2.2.1 x.2.1),ai (atQ x.2.2.2.2.1 x.2.1)):BO3)=enc (drQ x):=rfl
 have tm:=MF (k:=3) h1
 have run:∀r:RV,SG x (afj.k 0)=some [r]→(r=.new 43 tCU (ofL x)∨r=.d (.sl tCU) (ofL x))→Con Tryz.prog 30 [.d tDr x] [.d (.sl tCU) (ofL x)]:=fun r e g=>Con.dd (aP V0 (ard _ ⟨0,e⟩)) g
 unfold SG at run
 unfold ofL at run ⊢
 simp only[ak,aq,az,okd,aX,atW,atY,Nat.reduceLeDiff,tm,eQ,eA,eB,eC,dT (show i8P _∧u8P _ from⟨hA,h2⟩),dT (show i8P _∧u8P _ from⟨hB,h2⟩),dT (show i8P _∧u8P _ from⟨hC,h2⟩),dT (show i8P _∧u8P _ from⟨hD,h2⟩),dT (show i8P _∧u8P _ from⟨hE,h2⟩),dT (show i8P _∧u8P _ from⟨hF,h2⟩)]at run
 cases h3:x.1%3==2
 ·simp only[h3,cond_false]at run ⊢
  cases h4:x.1%3==1
  ·simp only[h4,cond_false]at run ⊢
   cases h5:pU (drA x) (drB x) !=0
   ·simp only[h5,cond_false]at run ⊢
    exact run _ rfl (.inl rfl)
   ·simp only[h5,cond_true]at run ⊢
    exact run _ rfl (.inl rfl)
  ·simp only[h4,cond_true]at run ⊢
   cases h5:pN (drA x) (drB x) (drC x) !=0
   ·simp only[h5,cond_false]at run ⊢
    exact run _ rfl (.inl rfl)
   ·simp only[h5,cond_true]at run ⊢
    exact run _ rfl (.inl rfl)
 ·simp only[h3,cond_true]at run ⊢
  have e1:(drB x).1=atQ x.2.2.2.2.1 x.2.1:=rfl
  by_cases h5:(drB x).1≤0
  ·rw[atT h5]at run ⊢
   refine run _ ?_ (.inl rfl)
   rw[HB,←e1,atT h5]
   rfl
  ·rw[atV h5]at run ⊢
   have ok:bZ (enc (drQ x)):=gM (h:=⟨bA.mono (by decide),bB.mono (by decide),bC.mono (by decide)⟩) (show 0<(drB x).1 by grind)
   refine run _ ?_ (.inr rfl)
   rw[HB,←e1,atV h5]
   simp only[atT ok]
   rfl
def Wi:aN:=spN false true [tDr] (fun x=>decide (AB x.1)) (fun x=>[RV.d (.sl tCU) (ofL x.1)])
theorem WR:SpK 30 Wi:=spX fun x h=>acS x.1 (atS h)
def l0B:BO3:=enc ((0,0,0):Ln)
def c0M:BCU:=(false,l0B,l0B,false,p00,p00)
def Pd(a b:Rat×Rat):BCU:=bif vi a b then c00 else(false,enc (r8 a b),l0B,false,enc (atP a),enc (atP b))
def OG(a b c:Rat×Rat):BCU:=bif decide (dw a b c=0)then c00 else(true,l0B,enc (pP a b c),!decide (rl a b c>0),enc (atP a),enc (atP c))
def VC(c:BO3):List BCU:=[(true,l0B,c,false,enc (sT (dec c)),enc (tW (dec c))),(true,l0B,c,false,enc (tW (dec c)),enc (sT (dec c)))]
def Sd:Env:=[(147,kJ),(151,ke)]
theorem Fy:EnvAll Tryz.prog Sd:=⟨gj,gu,trivial⟩
def aoo:Ctx:=CX Sd []
def ahs(a:BR)(_k:KT):Option (List RV):=match decide (okR a)with|true=>some [RV.d .bool ((aS (ae a) 0)==0)]|false=>none
theorem aop(a:BR):RS aoo 141 [.d tR a] (ahs a):=rsX
theorem adp(a:BR)(h:okR a):Con Tryz.prog 141 [.d tR a] [.d .bool (decide (ae a=0))]:=by
 refine aP Fy (aop _ ⟨0,?_⟩)
 unfold ahs
 rw[dT h]
 simp only[aE]
def aqm:Ctx:=CX Sd []
def af8(_k:KT):Option (List RV):=match decide (bO (0:Int))with|true=>some [RV.d tCU (false,((hid (ai ((0:Int):Rat)),(hid (ai ((0:Int):Rat)),hid (ai ((0:Int):Rat)))),((hid (ai ((0:Int):Rat)),(hid (ai ((0:Int):Rat)),hid (ai ((0:Int):Rat)))),(false,((((false,[]),(false,[])),(((false,[]),(false,[])),(((false,[]),(false,[])),(((false,[]),(false,[])),((false,[]),(false,[])))))),(((false,[]),(false,[])),(((false,[]),(false,[])),(((false,[]),(false,[])),(((false,[]),(false,[])),((false,[]),(false,[])))))))))))]|false=>none
theorem arD:RS aqm 77 [] (af8):=rsX
theorem aaj:Con Tryz.prog 77 [] [.d tCU c0M]:=by
 refine aP Fy (arD ⟨0,?_⟩)
 unfold af8 c0M l0B
 rw[dT (show bO 0 by decide)]
 simp only[ak]
 rfl
def RG:aN:=spN true true [tR] (fun x=>decide (okR x.1)) (fun x=>[RV.d .bool (decide (ae x.1=0))])
theorem Qo:SpK 141 RG:=spX fun x h=>adp x.1 (atS h)
def UK:Env:=[(142,Ei),(139,Ee),(140,DG),(143,HX),(141,RG)]
theorem Gd:EnvAll Tryz.prog UK:=⟨Ak,zi,xR,Gr,Qo,trivial⟩
def arb:Ctx:=CX UK []
def aht(a b:BV)(_k:KT):Option (List RV):=match decide (okR a.2∧okR b.2)with|true=>(match decide (okR b.1∧okR a.1)with|true=>(match decide (okR (hid (ai (ae a.2-ae b.2))))with|true=>(match decide (ae (hid (ai (ae a.2-ae b.2)))=0)with|true=>(match decide (okR (hid (ai (ae b.1-ae a.1))))with|true=>(match decide (ae (hid (ai (ae b.1-ae a.1)))=0)with|true=>some [RV.d tO (((false,[]),(false,[])),(((false,[]),(false,[])),((false,[]),(false,[])))),RV.d axf 6]|false=>(match decide (okR (hid (ai (ae a.2-ae b.2)))∧okR a.1)with|true=>(match decide (okR (hid (ai (ae b.1-ae a.1)))∧okR a.2)with|true=>(match decide (okR (hid (ai (ae (hid (ai (ae a.2-ae b.2)))*ae a.1)))∧okR (hid (ai (ae (hid (ai (ae b.1-ae a.1)))*ae a.2))))with|true=>some [RV.d tO (hid (ai (ae a.2-ae b.2)),(hid (ai (ae b.1-ae a.1)),hid (ai (ae (hid (ai (ae (hid (ai (ae a.2-ae b.2)))*ae a.1)))+ae (hid (ai (ae (hid (ai (ae b.1-ae a.1)))*ae a.2))))))),RV.d axf 0]|false=>none)|false=>none)|false=>none))|false=>none)|false=>(match decide (okR (hid (ai (ae a.2-ae b.2)))∧okR a.1)with|true=>(match decide (okR (hid (ai (ae b.1-ae a.1)))∧okR a.2)with|true=>(match decide (okR (hid (ai (ae (hid (ai (ae a.2-ae b.2)))*ae a.1)))∧okR (hid (ai (ae (hid (ai (ae b.1-ae a.1)))*ae a.2))))with|true=>some [RV.d tO (hid (ai (ae a.2-ae b.2)),(hid (ai (ae b.1-ae a.1)),hid (ai (ae (hid (ai (ae (hid (ai (ae a.2-ae b.2)))*ae a.1)))+ae (hid (ai (ae (hid (ai (ae b.1-ae a.1)))*ae a.2))))))),RV.d axf 0]|false=>none)|false=>none)|false=>none))|false=>none)|false=>none)|false=>none
theorem ana(a b:BV):RS arb 79 [.d tV a,.d tV b] (aht a b):=rsX
theorem abS(a b:BV)(h:ok (Rat×Rat) 100 a∧ok (Rat×Rat) 100 b):Con Tryz.prog 79 [.d tV a,.d tV b] [.d tO (Aq (dec a) (dec b)),.d axf (An (dec a) (dec b))]:=by
 refine aP Gd (ana _ _ ⟨0,?_⟩)
 obtain⟨ha,hb⟩:=h
 obtain⟨a,rfl,ba⟩:=aZ ha
 obtain⟨b,rfl,bb⟩:=aZ hb
 unfold aht Aq An vi
 simp only[ak,aq,aI,aL,aF,az,aX,atW,atY,Nat.reduceAdd,Nat.reduceLeDiff]
 cases decide (a.2-b.2=0)<;>cases decide (b.1-a.1=0)<;>rfl
def api:Ctx:=CX UK []
def aff(a b c:BV)(_k:KT):Option (List RV):=let y1:=hid (ai (ae b.1-ae a.1));let y2:=hid (ai (ae c.2-ae a.2));let y3:=hid (ai (ae b.2-ae a.2));let y4:=hid (ai (ae c.1-ae a.1));let y5:=hid (ai (ae y1*ae y2));let y6:=hid (ai (ae y3*ae y4));let y7:=hid (ai (ae y5-ae y6));let y8:=hid (ai (ae y1*ae y1));let y9:=hid (ai (ae y3*ae y3));let y10:=hid (ai (ae y4*ae y4));let y11:=hid (ai (ae y2*ae y2));let y12:=hid (ai (ae y8+ae y9));let y13:=hid (ai (ae y10+ae y11));let y14:=hid (ai (ae y12*ae y2));let y15:=hid (ai (ae y13*ae y3));let y16:=hid (ai (ae y14-ae y15));let y17:=hid (ai (ae y7+ae y7));let y18:=hid (ai (ae y13*ae y1));let y19:=hid (ai (ae y12*ae y4));let y20:=hid (ai (ae y18-ae y19));let y21:=hid (ai (ae y16/ae y17));let y22:=hid (ai (ae y20/ae y17));let y23:=hid (ai (ae y21*ae y21));let y24:=hid (ai (ae y22*ae y22));match decide (okR b.1∧okR a.1)with|true=>(match decide (okR b.2∧okR a.2)with|true=>(match decide (okR c.1∧okR a.1)with|true=>(match decide (okR c.2∧okR a.2)with|true=>(match decide (okR y1∧okR y2)with|true=>(match decide (okR y3∧okR y4)with|true=>(match decide (okR y5∧okR y6)with|true=>(match decide (okR y7)with|true=>(match decide (ae y7=0)with|true=>some [RV.d tO (((false,[]),(false,[])),(((false,[]),(false,[])),((false,[]),(false,[])))),RV.d axf 6]|false=>(match decide (okR y7∧okR y7)with|true=>(match decide (okR y1∧okR y1)with|true=>(match decide (okR y3∧okR y3)with|true=>(match decide (okR y8∧okR y9)with|true=>(match decide (okR y4∧okR y4)with|true=>(match decide (okR y2∧okR y2)with|true=>(match decide (okR y10∧okR y11)with|true=>(match decide (okR y12∧okR y2)with|true=>(match decide (okR y13∧okR y3)with|true=>(match decide (okR y14∧okR y15)with|true=>(match decide (fS y16 y17)with|true=>(match decide (okR y13∧okR y1)with|true=>(match decide (okR y12∧okR y4)with|true=>(match decide (okR y18∧okR y19)with|true=>(match decide (fS y20 y17)with|true=>(match decide (okR a.1∧okR y21)with|true=>(match decide (okR a.2∧okR y22)with|true=>(match decide (okR y21∧okR y21)with|true=>(match decide (okR y22∧okR y22)with|true=>(match decide (okR y23∧okR y24)with|true=>some [RV.d tO (hid (ai (ae a.1+ae y21)),(hid (ai (ae a.2+ae y22)),hid (ai (ae y23+ae y24)))),RV.d axf 0]|false=>none)|false=>none)|false=>none)|false=>none)|false=>none)|false=>none)|false=>none)|false=>none)|false=>none)|false=>none)|false=>none)|false=>none)|false=>none)|false=>none)|false=>none)|false=>none)|false=>none)|false=>none)|false=>none)|false=>none))|false=>none)|false=>none)|false=>none)|false=>none)|false=>none)|false=>none)|false=>none)|false=>none
theorem anw(a b c:BV):RS api 73 [.d tV a,.d tV b,.d tV c] (aff a b c):=rsX
theorem ab0(a b c:BV)(h:ok (Rat×Rat) 100 a∧ok (Rat×Rat) 100 b∧ok (Rat×Rat) 100 c):Con Tryz.prog 73 [.d tV a,.d tV b,.d tV c] [.d tO (Ax (dec a) (dec b) (dec c)),.d axf (Aw (dec a) (dec b) (dec c))]:=by
 refine aP Gd (anw _ _ _ ⟨0,?_⟩)
 obtain⟨ha,hb,hc⟩:=h
 obtain⟨a,rfl,ba⟩:=aZ ha
 obtain⟨b,rfl,bb⟩:=aZ hb
 obtain⟨c,rfl,bc⟩:=aZ hc
 have e0:(b.1-a.1)*(c.2-a.2)-(b.2-a.2)*(c.1-a.1)=dw a b c:=rfl
 have bD:Bd (dw a b c) 805:=inferInstanceAs (Bd ((b.1-a.1)*(c.2-a.2)-(b.2-a.2)*(c.1-a.1)) _)
 have eX:(((b.1-a.1)*(b.1-a.1)+(b.2-a.2)*(b.2-a.2))*(c.2-a.2)-((c.1-a.1)*(c.1-a.1)+(c.2-a.2)*(c.2-a.2))*(b.2-a.2))/(dw a b c+dw a b c)=vL a b c:=rfl
 have eY:(((c.1-a.1)*(c.1-a.1)+(c.2-a.2)*(c.2-a.2))*(b.1-a.1)-((b.1-a.1)*(b.1-a.1)+(b.2-a.2)*(b.2-a.2))*(c.1-a.1))/(dw a b c+dw a b c)=vI a b c:=rfl
 have m1:Bd ((b.1-a.1)*(b.1-a.1)+(b.2-a.2)*(b.2-a.2)) _:=inferInstance
 have m2:Bd ((c.1-a.1)*(c.1-a.1)+(c.2-a.2)*(c.2-a.2)) _:=inferInstance
 have n1:Bd (((b.1-a.1)*(b.1-a.1)+(b.2-a.2)*(b.2-a.2))*(c.2-a.2)-((c.1-a.1)*(c.1-a.1)+(c.2-a.2)*(c.2-a.2))*(b.2-a.2)) _:=inferInstance
 have n2:Bd (((c.1-a.1)*(c.1-a.1)+(c.2-a.2)*(c.2-a.2))*(b.1-a.1)-((b.1-a.1)*(b.1-a.1)+(b.2-a.2)*(b.2-a.2))*(c.1-a.1)) _:=inferInstance
 have bX0:Bd ((((b.1-a.1)*(b.1-a.1)+(b.2-a.2)*(b.2-a.2))*(c.2-a.2)-((c.1-a.1)*(c.1-a.1)+(c.2-a.2)*(c.2-a.2))*(b.2-a.2))/(dw a b c+dw a b c)) _:=inferInstance
 have bX:Bd (vL a b c) 4000:=by rw[←eX];exact bX0.mono (by decide)
 have bY0:Bd ((((c.1-a.1)*(c.1-a.1)+(c.2-a.2)*(c.2-a.2))*(b.1-a.1)-((b.1-a.1)*(b.1-a.1)+(b.2-a.2)*(b.2-a.2))*(c.1-a.1))/(dw a b c+dw a b c)) _:=inferInstance
 have bY:Bd (vI a b c) 4000:=by rw[←eY];exact bY0.mono (by decide)
 unfold aff Ax Aw
 simp only[ak,aq,aI,aL,aF,az,aX,atW,atY,Nat.reduceAdd,Nat.reduceLeDiff,e0]
 by_cases hd:dw a b c=0
 ·rw[atT hd]
  rfl
 ·have h2:dw a b c+dw a b c≠0:=by grind
  rw[atV hd]
  simp only[aC,Nat.reduceAdd,Nat.reduceLeDiff,cond_false,h2,ne_eq,avN,eX,eY]
  rfl
def Sk:aN:=spN false true [] (fun _=>true) (fun _=>[RV.d tCU (hid (c0M))])
theorem WM:SpK 77 Sk:=spX fun _ _=>by simp only[ak];exact aaj
def Zl:aN:=spN false true [tV,tV] (fun x=>decide (ok (Rat×Rat) 100 x.1∧ok (Rat×Rat) 100 x.2.1)) (fun x=>[RV.d tO (hid (Aq (dec x.1) (dec x.2.1))),RV.d axf (An (dec x.1) (dec x.2.1))])
theorem Ri:SpK 79 Zl:=spX fun x h=>by simp only[ak];exact abS x.1 x.2.1 (atS h)
def Wq:aN:=spN false true [tV,tV,tV] (fun x=>decide (ok (Rat×Rat) 100 x.1∧ok (Rat×Rat) 100 x.2.1∧ok (Rat×Rat) 100 x.2.2.1)) (fun x=>[RV.d tO (hid (Ax (dec x.1) (dec x.2.1) (dec x.2.2.1))),RV.d axf (Aw (dec x.1) (dec x.2.1) (dec x.2.2.1))])
theorem VW:SpK 73 Wq:=spX fun x h=>by simp only[ak];exact ab0 x.1 x.2.1 x.2.2.1 (atS h)
def Lf:Env:=[(74,lS),(76,ky),(75,m6),(78,CY),(77,Sk),(79,Zl),(73,Wq),(80,IQ)]
theorem zA:EnvAll Tryz.prog Lf:=⟨ic,gh,jo,zK,WM,Ri,VW,Fk,trivial⟩
def amj:Ctx:=CX Lf []
def QN(a b:BV)(_k:KT):Option (List RV):=match decide (ok (Rat×Rat) 100 a∧ok (Rat×Rat) 100 b)with|true=>(match(An (dec a) (dec b)) !=0 with|true=>some [RV.d tCU (false,((((false,[]),(false,[])),(((false,[]),(false,[])),((false,[]),(false,[])))),((((false,[]),(false,[])),(((false,[]),(false,[])),((false,[]),(false,[])))),(false,((((false,[]),(false,[])),(((false,[]),(false,[])),(((false,[]),(false,[])),(((false,[]),(false,[])),((false,[]),(false,[])))))),(((false,[]),(false,[])),(((false,[]),(false,[])),(((false,[]),(false,[])),(((false,[]),(false,[])),((false,[]),(false,[]))))))))))),RV.d axf 6]|false=>(match decide (ok (Rat×Rat) 100000 a)with|true=>(match decide (ok (Rat×Rat) 100000 b)with|true=>some [RV.d tCU (false,(hid (Aq (dec a) (dec b)),((((hid (c0M)).2).2).1,(false,(hid (enc (atP (dec a))),hid (enc (atP (dec b)))))))),RV.d axf 0]|false=>none)|false=>none))|false=>none
theorem akT(a b:BV):RS amj 33 [.d tV a,.d tV b] (QN a b):=rsX
theorem UV(a b:BV)(h:ok (Rat×Rat) 100 a∧ok (Rat×Rat) 100 b):Con Tryz.prog 33 [.d tV a,.d tV b] [.d tCU (Pd (dec a) (dec b)),.d axf (pU (dec a) (dec b))]:=by
 refine aP zA (akT _ _ ⟨0,?_⟩)
 obtain⟨ha,hb⟩:=h
 obtain⟨a,rfl,ba⟩:=aZ ha
 obtain⟨b,rfl,bb⟩:=aZ hb
 unfold QN Pd pU An Aq
 simp only[ak,aq,okd,atW,atY,Nat.reduceLeDiff]
 cases vi a b<;>rfl
def ajK:Ctx:=CX Lf []
def Ws(a b c:BV)(_k:KT):Option (List RV):=match decide (ok (Rat×Rat) 100 a∧ok (Rat×Rat) 100 b∧ok (Rat×Rat) 100 c)with|true=>(match(Aw (dec a) (dec b) (dec c)) !=0 with|true=>some [RV.d tCU (false,((((false,[]),(false,[])),(((false,[]),(false,[])),((false,[]),(false,[])))),((((false,[]),(false,[])),(((false,[]),(false,[])),((false,[]),(false,[])))),(false,((((false,[]),(false,[])),(((false,[]),(false,[])),(((false,[]),(false,[])),(((false,[]),(false,[])),((false,[]),(false,[])))))),(((false,[]),(false,[])),(((false,[]),(false,[])),(((false,[]),(false,[])),(((false,[]),(false,[])),((false,[]),(false,[]))))))))))),RV.d axf 6]|false=>(match decide (okR b.1∧okR a.1)with|true=>(match decide (okR b.2∧okR a.2)with|true=>(match decide (okR c.1∧okR a.1)with|true=>(match decide (okR c.2∧okR a.2)with|true=>(match decide (okR (hid (ai (ae b.1-ae a.1)))∧okR (hid (ai (ae c.2-ae a.2))))with|true=>(match decide (okR (hid (ai (ae b.2-ae a.2)))∧okR (hid (ai (ae c.1-ae a.1))))with|true=>(match decide (okR (hid (ai (ae (hid (ai (ae b.1-ae a.1)))*ae (hid (ai (ae c.2-ae a.2))))))∧okR (hid (ai (ae (hid (ai (ae b.2-ae a.2)))*ae (hid (ai (ae c.1-ae a.1)))))))with|true=>(match decide (ok (Rat×Rat) 100000 a)with|true=>(match decide (ok (Rat×Rat) 100000 c)with|true=>some [RV.d tCU (true,(((hid (c0M)).2).1,(hid (Ax (dec a) (dec b) (dec c)),(!(decide ((aS (ae (hid (ai (ae (hid (ai (ae b.1-ae a.1)))*ae (hid (ai (ae c.2-ae a.2))))))) (ae (hid (ai (ae (hid (ai (ae b.2-ae a.2)))*ae (hid (ai (ae c.1-ae a.1))))))))>0)),(hid (enc (atP (dec a))),hid (enc (atP (dec c)))))))),RV.d axf 0]|false=>none)|false=>none)|false=>none)|false=>none)|false=>none)|false=>none)|false=>none)|false=>none)|false=>none))|false=>none
theorem akt(a b c:BV):RS ajK 31 [.d tV a,.d tV b,.d tV c] (Ws a b c):=rsX
theorem Vh(a b c:BV)(h:ok (Rat×Rat) 100 a∧ok (Rat×Rat) 100 b∧ok (Rat×Rat) 100 c):Con Tryz.prog 31 [.d tV a,.d tV b,.d tV c] [.d tCU (OG (dec a) (dec b) (dec c)),.d axf (pN (dec a) (dec b) (dec c))]:=by
 refine aP zA (akt _ _ _ ⟨0,?_⟩)
 obtain⟨ha,hb,hc⟩:=h
 obtain⟨a,rfl,ba⟩:=aZ ha
 obtain⟨b,rfl,bb⟩:=aZ hb
 obtain⟨c,rfl,bc⟩:=aZ hc
 unfold Ws OG pN rl
 simp only[ak,aq,aI,aL,aF,az,okd,aX,atW,atY,Nat.reduceAdd,Nat.reduceLeDiff,aM]
 unfold Aw Ax
 cases decide (dw a b c=0)<;>rfl
def ar9:Ctx:=CX Lf []
def agi(c:BO3)(_k:KT):Option (List RV):=match decide (bZ c)with|true=>dup (.b .l .l) (some [RV.new 43 tCU ([(true,(((hid (c0M)).2).1,(c,(false,(hid (enc (sT (dec c))),hid (enc (tW (dec c)))))))),(true,(((hid (c0M)).2).1,(c,(false,(hid (enc (tW (dec c))),hid (enc (sT (dec c))))))))])])|false=>none
theorem aqb(c:BO3):RS ar9 34 [.d tO c] (agi c):=rsX
theorem abl(c:BO3)(h:bZ c):Con Tryz.prog 34 [.d tO c] [.d (.sl tCU) (VC c)]:=by
 refine Con.new_d (et:=43) (aP zA (aqb _ ⟨0,?_⟩))
 unfold agi
 rw[dT h]
 simp only[ak,aO]
 rfl
def KS:aN:=spN false true [tV,tV] (fun x=>decide (ok (Rat×Rat) 100 x.1∧ok (Rat×Rat) 100 x.2.1)) (fun x=>[RV.d tCU (hid (Pd (dec x.1) (dec x.2.1))),RV.d axf (pU (dec x.1) (dec x.2.1))])
theorem Po:SpK 33 KS:=spX fun x h=>by simp only[ak];exact UV x.1 x.2.1 (atS h)
def Mh:aN:=spN false true [tV,tV,tV] (fun x=>decide (ok (Rat×Rat) 100 x.1∧ok (Rat×Rat) 100 x.2.1∧ok (Rat×Rat) 100 x.2.2.1)) (fun x=>[RV.d tCU (hid (OG (dec x.1) (dec x.2.1) (dec x.2.2.1))),RV.d axf (pN (dec x.1) (dec x.2.1) (dec x.2.2.1))])
theorem N9:SpK 31 Mh:=spX fun x h=>by simp only[ak];exact Vh x.1 x.2.1 x.2.2.1 (atS h)
def Xt:aN:=spN false true [tO] (fun x=>decide (bZ x.1)) (fun x=>[RV.d (.sl tCU) (VC x.1)])
theorem Xz:SpK 34 Xt:=spX fun x h=>abl x.1 (atS h)
section
namespace RE
abbrev PE:=RE×RE
def crs(u w:PE):RE:=u.1*w.2-u.2*w.1
def atv(a b c:Int):Bool:=bif decide (0≤a)then decide (0≤b)&&decide (0≤c)else !(decide (c<0)&&decide (b<0))
theorem sub_zero(x:RE):x-0=x:=by
 induction x using atR
 exact snd fun n=>by
  simp only[RL.add,RL.neg,RL.const]
  grind
theorem zero_sub(x:RE):0-x= -x:=by
 induction x using atR
 exact snd fun n=>by
  simp only[RL.add,RL.neg,RL.const]
  grind
section
variable {u w:PE} {Q:RE} {L:List RE}
end
def frm(c:Ln)(p:PE):PE:=(p.1-of c.1,p.2-of c.2.1)
def ate(u w z:PE):Bool:=atv (sg (crs u w)) (sg (crs u z)) (sg (crs z w))
def wx(c:Ln)(p:PE):Prop:=(frm c p).1*(frm c p).1+(frm c p).2*(frm c p).2=of c.2.2
def sK(l:Ln)(p:PE):Prop:=of l.1*p.1+of l.2.1*p.2=of l.2.2
def tE(l:Ln)(p:PE):RE:= -of l.2.1*p.1+of l.1*p.2
def pN(c:Ln)(F T p:PE):Prop:=wx c p∧ate (frm c F) (frm c T) (frm c p)=true
def btE(a b x:RE):Prop:=(a≤x∧x≤b)∨(b≤x∧x≤a)
def pU(l:Ln)(F T p:PE):Prop:=sK l p∧btE (tE l F) (tE l T) (tE l p)
structure GdE (c:Cv):Prop where
 f:Rpd (frC c)
 t:Rpd (toC c)
 ne:pR (frC c)≠pR (toC c)
 q:c.1=true→0<(ciC c).2.2∧onCi (ciC c) (frC c)∧onCi (ciC c) (toC c)
 l:c.1=false→((lnC c).1≠0∨(lnC c).2.1≠0)∧aiY (lnC c) (frC c)∧aiY (lnC c) (toC c)
theorem wU{c:Ln}{p:Pt}[Rpd p]:(m9 c p==0)=true↔wx c (pR p):=by
 rw[avb]
 refine⟨fun h=>ins_on h,fun h=>?_⟩
 rw[Er]
 have:(pX p-of c.1)*(pX p-of c.1)+(pY p-of c.2.1)*(pY p-of c.2.1)=of c.2.2:=h
 rw[this,ql,fV]
 rfl
theorem Ku{l:Ln}{p:Pt}[Rpd p]:(rE l p==0)=true↔sK l (pR p):=by
 rw[avb]
 refine⟨fun h=>IA h,fun h=>?_⟩
 rw[D2]
 have:of l.1*pX p+of l.2.1*pY p=of l.2.2:=h
 rw[this,ql,fV]
end RE
end
instance anG:Bd (-1:Rat) 3:=ff (n:= -1) (by decide)
theorem Dl{v:Rat×Rat}{j k:Nat}[h:Bd v j](hj:mx j (mx 1 (mx j (mx 1 1)))≤k)(hk:k≤480000):okP k (enc (atP v)):=atS (bG (x:=atP v) hj hk)
section
namespace RE
theorem cmpP_0{p q:Pt}[Rpd p][Rpd q]:aW p q=0↔pR p=pR q:=by
 rw[lC]
 obtain⟨h1,h2,h3⟩:=hZ (pR p) (pR q)
 rcases jD.tri (pR p) (pR q)with h|h|h
 ·rw[h1 h]
  exact⟨fun e=>absurd e (by decide),fun e=>absurd h (by rw[e];exact jD.irr _)⟩
 ·exact⟨fun _=>h,fun _=>h2 h⟩
 ·rw[h3 h]
  exact⟨fun e=>absurd e (by decide),fun e=>absurd h (by rw[e];exact jD.irr _)⟩
theorem z9(v:Rat×Rat):pR (atP v)=(of v.1,of v.2):=aw8 (apQ v) (arC v)
theorem SE{ax bx c:Rat}(h:fy c=true):of (ax+bx*rtQ c)=v2 ax bx c:=by
 unfold v2
 rw[of_add,ck,Qs h]
theorem u6(ax bx ay b_ c:Rat):pR (ny ax bx ay b_ c)=(v2 ax bx c,v2 ay b_ c):=by
 unfold ny
 cases h:fy c
 ·rfl
 ·exact(z9 _).trans (aw8 (SE h) (SE h))
theorem ajk(a b r:RE):(a+ -1*r-a)*(a+ -1*r-a)+(b+0*r-b)*(b+0*r-b)=r*r:=by
 induction a using atR
 induction b using atR
 induction r using atR
 exact snd fun n=>by
  simp only[RL.add,RL.mul,RL.neg,RL.const]
  grind
theorem acq(a b r:RE):(a+1*r-a)*(a+1*r-a)+(b+0*r-b)*(b+0*r-b)=r*r:=by
 induction a using atR
 induction b using atR
 induction r using atR
 exact snd fun n=>by
  simp only[RL.add,RL.mul,RL.neg,RL.const]
  grind
theorem Pm(a r:RE):of 2*((r-(0)))+((a+ -1*r-(a+1*r)))=0:=by
 induction a using atR
 induction r using atR
 exact snd fun n=>by
  simp only[RL.add,RL.mul,RL.neg,RL.const]
  grind
theorem aaz(a r:RE)(h1:a+ -1*r=a+1*r):r≤0:=fun hg=>far (aU (xf (by decide+kernel:(0:Rat)<2) (a8 hg)) (aR (ji h1))) (Pm a r)
theorem NV(a r:RE):of 2*((0-(r)))+((a+1*r-(a+ -1*r)))=0:=by
 induction a using atR
 induction r using atR
 exact snd fun n=>by
  simp only[RL.add,RL.mul,RL.neg,RL.const]
  grind
theorem ac9(a r:RE)(h1:a+ -1*r=a+1*r):0≤r:=fun hg=>far (aU (xf (by decide+kernel:(0:Rat)<2) (a8 hg)) (aR (jH h1))) (NV a r)
theorem alG(a r:RE)(h1:a+ -1*r=a+1*r):r=0:=le_antisymm (aaz a r h1) (ac9 a r h1)
theorem akO{c:Ln}(h:0<c.2.2):wx c (pR (ri c))∧wx c (pR (re c)):=by
 have hr:=ro (show 0≤c.2.2 by grind)
 unfold ri re
 rw[u6,u6]
 exact⟨(ajk _ _ _).trans hr,(acq _ _ _).trans hr⟩
theorem acI{c:Ln}(h:0<c.2.2):pR (ri c)≠pR (re c):=by
 unfold ri re
 rw[u6,u6]
 intro e
 have e1:=alG _ _ (congrArg Prod.fst e)
 have hr:=ro (show 0≤c.2.2 by grind)
 rw[e1,mul_zero]at hr
 have:=Id hr
 grind
theorem QI{l:Ln}{v:Rat×Rat}(h:l.1*v.1+l.2.1*v.2=l.2.2):(rE l (atP v)==0)=true:=by
 rw[Ku,z9]
 exact congrArg of h
theorem Wd{c:Ln}{v:Rat×Rat}(h:(v.1-c.1)*(v.1-c.1)+(v.2-c.2.1)*(v.2-c.2.1)=c.2.2):(m9 c (atP v)==0)=true:=by
 rw[wU,z9]
 unfold wx frm
 dsimp only
 rw[←of_sub,←of_sub]
 exact congrArg of h
theorem afS{v w:Rat×Rat}(h:v≠w):aW (atP v) (atP w)≠0:=fun e=>h (by
 have:=cmpP_0.1 e
 rw[z9,z9]at this
 exact aw8 (Id (congrArg Prod.fst this)) (Id (congrArg Prod.snd this)))
end RE
open RE
def gdN(c:BCU):Prop:=mG c∧fE (dC c) (frC (dC c))=true∧fE (dC c) (toC (dC c))=true∧aW (frC (dC c)) (toC (dC c))≠0
theorem gdN.gd{c:BCU}(h:gdN c):gdC c:=⟨h.1.1,h.2.1,h.2.2.1⟩
theorem akK{a b:Rat×Rat}[ba:Bd a 1][bb:Bd b 1](h:vi a b=false):gdN (Fr a b):=by
 have hz:(r8 a b).1≠0∨(r8 a b).2.1≠0:=by
  unfold vi at h
  by_cases e:a.2-b.2=0
  ·rw[atT e,atX]at h
   exact .inr (au4 h)
  ·exact .inl e
 have hne:a≠b:=fun e=>by
  subst e
  unfold r8 at hz
  rcases hz with h|h<;>exact h (by show _-_=(0:Rat);grind)
 have b1:Bd (r8 a b).1 12:=(inferInstance:Bd (a.2-b.2) _).mono (by decide)
 have b2:Bd (r8 a b).2.1 12:=(inferInstance:Bd (b.1-a.1) _).mono (by decide)
 have b3:Bd (r8 a b).2.2 63:=(inferInstance:Bd ((a.2-b.2)*a.1+(b.1-a.1)*a.2) _).mono (by decide)
 have hl:=kw (h:=⟨b1,b2,b3⟩) hz
 have hL:abf (enc (r8 a b)):=⟨atS (okd (x:=r8 a b) (by decide) (by decide)),by rw[aq];exact hz⟩
 unfold Fr
 rw[h]
 refine⟨⟨⟨fun e=>(by cases e),fun _=>hL,Dl (by decide) (by decide),Dl (by decide) (by decide)⟩,fun e=>(by cases e),fun _=>hl⟩,?_⟩
 simp only[dC,fE,frC,toC,lnC,aq,cond_false]
 exact⟨QI (by unfold r8;grind),QI (by unfold r8;grind),afS hne⟩
theorem alN{c:Ln}[bc:BdC c](h:0<c.2.2):∀d∈Jo (enc c),gdN d:=by
 have hs:=gM h
 have bx:=bc.x
 have b_:=bc.y
 have bq:=bc.q
 have b0:Bd (0:Rat) 3:=ff (n:=0) (by decide)
 have b1:Bd (1:Rat) 3:=ff (n:=1) (by decide)
 have hC:AC (enc c):=⟨atS (okd (h:=Jr (c:=c)) (by decide) (by decide)),by rw[aq];exact h⟩
 have q0:(0:Rat)≤c.2.2:=by grind
 have pl:Rpd (ri c):=Dw (fun e=>absurd e.1 (by decide)) q0
 have pr:Rpd (re c):=Dw (fun e=>absurd e.1 (by decide)) q0
 have bl:Bd (ri c) 490:=Eg (bx.mono (by decide:4≤4)) (anG.mono (by decide:3≤3)) b_ b0 bq (by decide)
 have br:Bd (re c) 490:=Eg (bx.mono (by decide:4≤4)) b1 b_ b0 bq (by decide)
 have ol:okP 500 (enc (ri c)):=atS (bG (by decide) (by decide))
 have or_:okP 500 (enc (re c)):=atS (bG (by decide) (by decide))
 obtain⟨nl,nr_⟩:=akO h
 have nl:=wU.2 nl
 have nr_:=wU.2 nr_
 have ne:=acI h
 intro d hd
 have:d=(true,o00,enc c,false,enc (ri c),enc (re c))∨d=(true,o00,enc c,false,enc (re c),enc (ri c)):=by
  unfold Jo at hd
  rw[aq]at hd
  simpa using hd
 rcases this with e|e<;>rw[e]
 ·refine⟨⟨⟨fun _=>hC,fun e=>(by cases e),ol,or_⟩,fun _=>hs,fun e=>(by cases e)⟩,?_⟩
  simp only[dC,fE,frC,toC,ciC,aq,cond_true]
  exact⟨nl,nr_,fun e=>ne (cmpP_0.1 e)⟩
 ·refine⟨⟨⟨fun _=>hC,fun e=>(by cases e),or_,ol⟩,fun _=>hs,fun e=>(by cases e)⟩,?_⟩
  simp only[dC,fE,frC,toC,ciC,aq,cond_true]
  exact⟨nr_,nl,fun e=>ne (cmpP_0.1 e).symm⟩
theorem aiJ{a b c:Rat×Rat}(h:dw a b c≠0):(c.1-(pP a b c).1)*(c.1-(pP a b c).1)+(c.2-(pP a b c).2.1)*(c.2-(pP a b c).2.1)=(pP a b c).2.2:=by
 have h2:dw a b c+dw a b c≠0:=by grind
 have eX:vL a b c*(dw a b c+dw a b c)=_:=avo h2
 have eY:vI a b c*(dw a b c+dw a b c)=_:=avo h2
 unfold pP
 dsimp only
 generalize vL a b c=X at*
 generalize vI a b c=Y at*
 have k:dw a b c*(2*((c.1-a.1)*X+(c.2-a.2)*Y)-((c.1-a.1)*(c.1-a.1)+(c.2-a.2)*(c.2-a.2)))=0:=by
  unfold dw at*
  grind
 rcases awE.1 k with g|g
 ·exact absurd g h
 ·grind
theorem anK{a b c:Rat×Rat}(h:dw a b c≠0)(e:a=c):False:=by
 subst e
 refine h ?_
 unfold dw
 grind
theorem ajE{a b c:Rat×Rat}[a1:Bb a.1 7 2][a2:Bb a.2 7 2][b1:Bb b.1 7 2][b2:Bb b.2 7 2][c1:Bb c.1 7 2][c2:Bb c.2 7 2]:BdC (pP a b c):=by
 have d:Bb ((b.1-a.1)*(c.2-a.2)-(b.2-a.2)*(c.1-a.1)) _ _:=inferInstance
 have d:Bb (dw a b c) _ _:=d
 have X:Bb ((((b.1-a.1)*(b.1-a.1)+(b.2-a.2)*(b.2-a.2))*(c.2-a.2)-((c.1-a.1)*(c.1-a.1)+(c.2-a.2)*(c.2-a.2))*(b.2-a.2))/(dw a b c+dw a b c)) _ _:=inferInstance
 have X:Bb (vL a b c) _ _:=X
 have Y:Bb ((((c.1-a.1)*(c.1-a.1)+(c.2-a.2)*(c.2-a.2))*(b.1-a.1)-((b.1-a.1)*(b.1-a.1)+(b.2-a.2)*(b.2-a.2))*(c.1-a.1))/(dw a b c+dw a b c)) _ _:=inferInstance
 have Y:Bb (vI a b c) _ _:=Y
 have x1:Bb (a.1+vL a b c) _ _:=inferInstance
 have x2:Bb (a.2+vI a b c) _ _:=inferInstance
 have x3:Bb (vL a b c*vL a b c+vI a b c*vI a b c) _ _:=inferInstance
 exact⟨GI (h:=x1) (by decide) (by decide),GI (h:=x2) (by decide) (by decide),GI (h:=x3) (by decide) (by decide)⟩
theorem Ci{x y:Rat}(h:¬(x=0∧y=0)):0<x*x+y*y:=by
 have nn:∀a:Rat,0≤a*a:=fun a=>by
  rcases(by grind:0≤a∨0≤ -a)with h|h
  ·exact auP h h
  ·have:=auP h h;grind
 have h1:=nn x
 have h2:=nn y
 rcases(by grind:0<x*x+y*y∨(x*x=0∧y*y=0))with g|⟨g1,g2⟩
 ·exact g
 ·exact absurd ⟨by simpa using awE.1 g1,by simpa using awE.1 g2⟩ h
theorem ah4{a b c:Rat×Rat}[Bd a 1][Bd c 1][bc:BdC (pP a b c)](h:dw a b c≠0):gdN (Gm a b c):=by
 have hon:=aiJ h
 have hne:a≠c:=fun e=>anK h e
 have hq:0<(pP a b c).2.2:=by
  refine Ci fun⟨e1,e2⟩=>hne ?_
  unfold pP at hon
  dsimp only at hon
  rw[e1,e2]at hon
  by_cases g:c.1-(a.1+0)=0∧c.2-(a.2+0)=0
  ·obtain⟨g1,g2⟩:=g
   exact aw8 (by grind) (by grind)
  ·have:=Ci g
   grind
 have hs:=gM (h:=bc) hq
 have bx:=bc.x
 have b_:=bc.y
 have bq:=bc.q
 have hC:AC (enc (pP a b c)):=⟨atS (okd (h:=Jr (c:=pP a b c)) (by decide) (by decide)),by rw[aq];exact hq⟩
 unfold Gm
 rw[atV h]
 refine⟨⟨⟨fun _=>hC,fun e=>(by cases e),Dl (by decide) (by decide),Dl (by decide) (by decide)⟩,fun _=>hs,fun e=>(by cases e)⟩,?_⟩
 simp only[dC,fE,frC,toC,ciC,aq,cond_true,cond_false]
 refine⟨Wd ?_,Wd hon,afS hne⟩
 unfold pP
 grind
theorem HD{x:Dr}(h:AB x):∀c∈ofL x,gdN c:=by
 obtain⟨h1,h2,hA,hB,hC,hD,hE,hF⟩:=h
 have a1:Bb (drA x).1 7 2:=za hA h2
 have a2:Bb (drA x).2 7 2:=za hB h2
 have b1:Bb (drB x).1 7 2:=za hC h2
 have b2:Bb (drB x).2 7 2:=za hD h2
 have c1:Bb (drC x).1 7 2:=za hE h2
 have c2:Bb (drC x).2 7 2:=za hF h2
 have l:∀{q:Rat},Bb q 7 2→Bd q 1:=fun h=>GI (h:=h) (by decide) (by decide)
 have m:∀v:Rat×Rat,Bb v.1 7 2→Bb v.2 7 2→Bd v 1:=fun v g g'=>by
  have:=l g
  have:=l g'
  exact inferInstanceAs (Bd (v.1,v.2) _)
 have vA:=m _ a1 a2
 have vB:=m _ b1 b2
 have vC:=m _ c1 c2
 intro c hc
 unfold ofL at hc
 cases h3:x.1%3==2
 ·rw[h3,cond_false]at hc
  cases h4:x.1%3==1
  ·rw[h4,cond_false]at hc
   cases h5:vi (drA x) (drB x)
   ·have:pU (drA x) (drB x)=0:=by unfold pU;rw[h5];rfl
    rw[this]at hc
    have:c=Fr (drA x) (drB x):=by simpa using hc
    rw[this]
    exact akK h5
   ·have:pU (drA x) (drB x)=6:=by unfold pU;rw[h5];rfl
    rw[this]at hc
    cases hc
  ·rw[h4,cond_true]at hc
   by_cases h5:dw (drA x) (drB x) (drC x)=0
   ·have:pN (drA x) (drB x) (drC x)=6:=by unfold pN;rw[atT h5];rfl
    rw[this]at hc
    cases hc
   ·have:pN (drA x) (drB x) (drC x)=0:=by unfold pN;rw[atV h5];rfl
    rw[this]at hc
    have:c=Gm (drA x) (drB x) (drC x):=by simpa using hc
    rw[this]
    have:=ajE (a:=drA x) (b:=drB x) (c:=drC x)
    exact ah4 h5
 ·rw[h3,cond_true]at hc
  by_cases h5:(drB x).1≤0
  ·rw[atT h5]at hc
   cases hc
  ·rw[atV h5]at hc
   have bq:BdC (drQ x):=⟨(l a1).mono (by decide),(l a2).mono (by decide),(l b1).mono (by decide)⟩
   exact alN (c:=drQ x) (show 0<(drB x).1 by grind) c hc
end
def lF(c:BCU)(l:List BCU):List BP:=(l.map (dm c)).flatten
def qU(x:Pce):Prop:=AB x.1∧AB x.2.1∧u8P x.2.2
instance (x:Pce):Decidable (qU x):=by unfold qU;infer_instance
def JQ(x:Pce):List BCU:=match ofL x.1 with
 |[]=>[]
 |c::_=>kp c (lF c (ofL x.2.1))
def lQ(x:Pce):Bool:=!(ofL x.1).isEmpty
def aG(x:Pce):BCU:=bif lQ x then(JQ x).getD (x.2.2%((JQ x).length:Int)).toNat c00 else c00
def agJ:Env:=[(30,Wi),(16,CB),(18,QC)]
theorem U9:EnvAll Tryz.prog agJ:=⟨WR,Aa,Xy,trivial⟩
def aes:NT:=[((9,18),{keep:=[1,2,4,5,6,7],own:=[(6,41,tP)],hl:=3})]
def ID:Ctx:=CX agJ aes
def sM(x:Pce)(s7:Int)(r2:List BP):Cfg:=⟨9,[.blk 0,.seq 31],[(1,.box 0 0),(2,.box 1 0),(4,.d (.sl tCU) (ofL x.1)),(5,.d (.sl tCU) (ofL x.2.1)),(6,.own 2),(7,SI s7)],[.box 26 [.d (.int .u8) x.1.1,.d (.int .u8) x.1.2.1,.d (.int .i8) x.1.2.2.1,.d (.int .i8) x.1.2.2.2.1,.d (.int .i8) x.1.2.2.2.2.1,.d (.int .i8) x.1.2.2.2.2.2.1,.d (.int .i8) x.1.2.2.2.2.2.2.1,.d (.int .i8) x.1.2.2.2.2.2.2.2,.d (.int .u8) x.2.1.1,.d (.int .u8) x.2.1.2.1,.d (.int .i8) x.2.1.2.2.1,.d (.int .i8) x.2.1.2.2.2.1,.d (.int .i8) x.2.1.2.2.2.2.1,.d (.int .i8) x.2.1.2.2.2.2.2.1,.d (.int .i8) x.2.1.2.2.2.2.2.2.1,.d (.int .i8) x.2.1.2.2.2.2.2.2.2,.d (.int .u8) x.2.2],.box 43 [SB false,SB false,.nil,SB false,.nil,SB false,.nil,SB false,.nil,SB false,.nil,SB false,.nil,SB false,.nil,SB false,.nil,SB false,.nil,SB false,.nil,SB false,.nil,SB false,.nil,SB false,SB false,.nil,SB false,.nil,SB false,.nil,SB false,.nil,SB false,.nil,SB false,.nil,SB false,.nil,SB false,.nil,SB false,.nil,SB false,.nil,SB false,.nil,SB false,.nil,SB false,.nil,SB false,.nil,SB false,.nil,SB false,.nil,SB false,.nil,SB false,.nil,SB false,.nil,SB false,.nil],.row 41 tP r2],0,[]⟩
def Ua(x:Pce)(k:KT):Option (List RV):=match decide (AB x.1)with|true=>(match decide (AB x.2.1)with|true=>(match((ofL x.1).length:Int)==0 with|true=>some [RV.d tCU (false,((((false,[]),(false,[])),(((false,[]),(false,[])),((false,[]),(false,[])))),((((false,[]),(false,[])),(((false,[]),(false,[])),((false,[]),(false,[])))),(false,((((false,[]),(false,[])),(((false,[]),(false,[])),(((false,[]),(false,[])),(((false,[]),(false,[])),((false,[]),(false,[])))))),(((false,[]),(false,[])),(((false,[]),(false,[])),(((false,[]),(false,[])),(((false,[]),(false,[])),((false,[]),(false,[]))))))))))),RV.d .bool false]|false=>k 18 (sM x 0 ([])))|false=>none)|false=>none
theorem aiI(x:Pce):RS ID 9 [.d fi x] (Ua x):=rsX
def se(x:Pce)(s7:Int)(r2:List BP)(k:KT):Option (List RV):=match decide (s7<((ofL x.2.1).length:Int))with|true=>(match bi (ofL x.1) 0 with|some x1=>(match bi (ofL x.2.1) s7 with|some x2=>(match decide (eH x1 x2)with|true=>(match decide ((r2.length+(dm x1 x2).length)*320≤140737488355328∧r2.length+(dm x1 x2).length≤140737488355328)with|true=>k 18 (sM x (i64.wrap (s7+1)) (r2++(dm x1 x2)))|false=>none)|false=>none)|none=>none)|none=>none)|false=>(match bi (ofL x.1) 0 with|some x1=>(match decide (E6 x1 r2)with|true=>(match decide (((kp x1 r2).length:Int)=(0:Int))with|true=>none|false=>(match bi (kp x1 r2) (Int.tmod (i64.wrap x.2.2) ((kp x1 r2).length:Int))with|some x2=>some [RV.d tCU x2,RV.d .bool true]|none=>none))|false=>none)|none=>none)
theorem zE(x:Pce)(s7:Int)(r2:List BP):RN ID 18 (sM x s7 r2) (se x s7 r2):=rnX
theorem sJ{c d:BCU}(h:eH c d):(dm c d).length≤4∧∀x∈dm c d,okP 500 x∧onR (dC c) (dec x)=true∧onR (dC d) (dec x)=true:=by
 obtain⟨h1,h2⟩:=C2 h
 unfold dm PI
 have h3:=wL (dC c) ((rP c d).filter fun p=>onR (dC c) (dec p)&&onR (dC d) (dec p)) []
 have h4:=List.length_filter_le (fun p=>onR (dC c) (dec p)&&onR (dC d) (dec p)) (rP c d)
 refine⟨by
  unfold gf
  rw[avR,auC]at h3
  exact auh h3 (auh h4 h1),Mo fun x hx=>?_⟩
 obtain⟨g1,g2⟩:=ava.1 hx
 obtain⟨g3,g4⟩:=auc.1 g2
 exact⟨h2 x g1,g3,g4⟩
theorem Sb(c:Cv)(x:BP):∀r:List BP,r.length≤(fK c r x).length
 |[]=>by simp
 |z::r=>by
  have:=Sb c x r
  simp only[fK]
  cases decide (cd c (dec z) (dec x)<0)
  ·cases aW (dec z) (dec x)==0<;>simp
  ·simp only[cond_true,aui];omega
theorem Vr(c:Cv):∀(l out:List BP),out.length≤(l.foldl (fK c) out).length
 |[],_=>at5 _
 |x::l,out=>auh (Sb c x out) (Vr c l _)
theorem Le(c:BCU):∀s:List BP,(jP c s).length=s.length-1
 |[]=>rfl
 |[_]=>rfl
 |x::y::r=>by
  have:=Le c (y::r)
  simp only[jP,aui]at this ⊢
  omega
theorem acA{c:BCU}(h:aW (dec c.2.2.2.2.1) (dec c.2.2.2.2.2)≠0)(l:List BP):2≤(wq c l).length:=by
 unfold wq gf
 refine auh ?_ (Vr (dC c) l _)
 simp only[fK]
 rw[av0.2 h]
 cases decide (cd (dC c) (dec c.2.2.2.2.1) (dec c.2.2.2.2.2)<0)<;>exact at5 _
theorem LF{c:BCU}(h:gdN c)(l:List BP):1≤(kp c l).length∧(kp c l).length≤l.length+1:=by
 have h1:=acA h.2.2.2 l
 have h2:=Mm c l
 unfold kp
 rw[Le]
 omega
theorem adh{c:BCU}(h:gdN c){l:List BP}(hl:l.length≤900000)(ho:∀p∈l,okP 500 p∧onR (dC c) (dec p)=true):E6 c l:=
 ⟨cq h.1.1 (by decide) (by decide),hl,fun x hx=>⟨cE (ho x hx).1 (by decide) (by decide),(ho x hx).2⟩⟩
def gdM(c:BCU):Prop:=mG c∧fE (dC c) (frC (dC c))=true∧fE (dC c) (toC (dC c))=true
theorem gdM.gd{c:BCU}(h:gdM c):gdC c:=⟨h.1.1,h.2.1,h.2.2⟩
theorem gdN.m{c:BCU}(h:gdN c):gdM c:=⟨h.1,h.2.1,h.2.2.1⟩
theorem alB{c:BCU}(h:gdN c){l:List BP}(ho:∀p∈l,okP 500 p∧onR (dC c) (dec p)=true):∀p∈kp c l,gdM p:=by
 intro p hp
 obtain⟨x,y,hx,hy,e⟩:=Kd hp
 have f:∀z,z∈wq c l→okP 500 z∧fE (dC c) (dec z)=true:=fun z hz=>by
  rcases MS hz with e|e|e
  ·rw[e];exact⟨h.1.1.2.2.1,h.2.1⟩
  ·rw[e];exact⟨h.1.1.2.2.2,h.2.2.1⟩
  ·exact⟨(ho z e).1,(auc.1 (ho z e).2).1⟩
 obtain⟨x1,x2⟩:=f x hx
 obtain⟨y1,y2⟩:=f y hy
 rw[e]
 exact⟨⟨⟨h.1.1.1,h.1.1.2.1,x1,y1⟩,h.1.2⟩,x2,y2⟩
theorem ako(x:Dr):(ofL x).length≤2:=by
 unfold ofL
 cases x.1%3==2
 ·cases x.1%3==1
  ·cases pU (drA x) (drB x) !=0<;>simp
  ·cases pN (drA x) (drB x) (drC x) !=0<;>simp
 ·cases decide ((drB x).1≤0)
  ·unfold Jo;simp
  ·simp
theorem Ww{c:BCU}(h:gdN c):∀{l:List BCU},(∀d∈l,gdN d)→(lF c l).length≤4*l.length∧∀p∈lF c l,okP 500 p∧onR (dC c) (dec p)=true
 |[],_=>⟨at5 _,fun p hp=>by cases hp⟩
 |d::r,hd=>by
  obtain⟨i1,i2⟩:=Ww h (l:=r) (fun e he=>hd e (aub _ he))
  obtain⟨m1,m2⟩:=sJ (show eH c d from⟨h.1,(hd d (by simp)).1⟩)
  have e:lF c (d::r)=dm c d++lF c r:=rfl
  rw[e]
  refine⟨by rw[aus,aui];omega,fun p hp=>?_⟩
  rcases auo.1 hp with g|g
  ·exact⟨(m2 p g).1,(m2 p g).2.1⟩
  ·exact i2 p g
def afx(x:Pce)(l:List BCU):BCU:=l.getD (x.2.2%(l.length:Int)).toNat c00
theorem abL(x:Pce)(h:qU x)(c:BCU)(hc:gdN c)(g0:bi (ofL x.1) 0=some c)(B:List BCU)(hB:ofL x.2.1=B)(gB:∀d∈B,gdN d)(lB:B.length≤2):∀(j i:Nat),i+j=B.length→∀r2:List BP,r2.length≤4*i→(∀p∈r2,okP 500 p∧onR (dC c) (dec p)=true)→
  ID.Runs 18 (sM x (i:Int) r2) [.d tCU (afx x (kp c (r2++lF c (B.drop i)))),.d .bool true]:=by
 intro j
 induction j with
 |zero=>
  intro i hi r2 hr ho
  refine zE _ _ _ ⟨0,?_⟩
  obtain⟨l1,l2⟩:=LF hc r2
  have hs:=adh hc (l:=r2) (by omega) ho
  obtain⟨u1,u2⟩:=h.2.2
  have e1:Int.tmod (i64.wrap x.2.2) ((kp c r2).length:Int)=x.2.2%((kp c r2).length:Int):=by
   rw[bz (by omega) (by omega),Int.tmod_eq_emod_of_nonneg u1]
  have m0:=avc x.2.2 (show((kp c r2).length:Int)≠0 by omega)
  have m1:=auJ x.2.2 (show 0<((kp c r2).length:Int) by omega)
  obtain⟨k,hk⟩:=avf m0
  have hkl:k<(kp c r2).length:=by omega
  have hd:B.drop i=[]:=awI.2 (by omega)
  have hcut:lF c []=[]:=rfl
  unfold se
  rw[hB,cz (by omega),g0]
  dsimp only
  rw[dT hs,dF (show ¬((kp c r2).length:Int)=0 by omega),e1,hk,aA,atU hkl,hd,hcut,auz]
  unfold afx
  rw[hk,avM,List.getD_eq_getElem?_getD,atU hkl]
  rfl
 |succ j ih=>
  intro i hi r2 hr ho
  have hil:i<B.length:=by omega
  have hm:eH c B[i]:=⟨hc.1,(gB _ (auB hil)).1⟩
  obtain⟨m1,m2⟩:=sJ hm
  obtain⟨n,hn⟩:=ih (i+1) (by omega) (r2++dm c B[i]) (by rw[aus];omega) (fun p hp=>by
   rcases auo.1 hp with g|g
   ·exact ho p g
   ·exact⟨(m2 p g).1,(m2 p g).2.1⟩)
  have hd:B.drop i=B[i]::B.drop (i+1):=auk hil
  have hcut:lF c (B[i]::B.drop (i+1))=dm c B[i]++lF c (B.drop (i+1)):=rfl
  refine zE _ _ _ ⟨n,?_⟩
  unfold se
  rw[hB,bS hil,g0,aA,atU hil]
  dsimp only
  rw[dT hm,dT (by omega),co (by omega),hd,hcut,←aut]
  exact hn
theorem TZ(x:Pce)(h:qU x):Con Tryz.prog 9 [.d fi x] [.d tCU (aG x),.d .bool (lQ x)]:=by
 have hB:=HD h.2.1
 have hA:=HD h.1
 refine aP U9 (aiI _ ?_)
 unfold Ua aG lQ
 rw[dT h.1,dT h.2.1]
 cases hl:ofL x.1 with
 |nil=>exact⟨0,rfl⟩
 |cons c r=>
  rw[hl]at hA
  obtain⟨n,hn⟩:=abL x h c (hA c (by simp)) (by rw[hl];rfl) _ rfl hB (ako _) _ 0 (auC _) [] (at5 _) (fun p hp=>by cases hp)
  refine⟨n,?_⟩
  have e:(((c::r).length:Int)==0)=false:=by simp;omega
  rw[e]
  unfold JQ
  rw[hl]
  exact hn
def wF:aN:=spN false true [fi] (fun x=>decide (qU x.1)) (fun x=>[RV.d tCU (hid (aG x.1)),RV.d .bool (lQ x.1)])
theorem uG:SpK 9 wF:=spX fun x h=>by simp only[ak];exact TZ x.1 (atS h)
theorem abB{x:Pce}(h:qU x)(ho:lQ x=true):aG x∈JQ x:=by
 have hA:=HD h.1
 unfold aG JQ
 rw[ho]
 unfold lQ at ho
 cases hl:ofL x.1 with
 |nil=>rw[hl]at ho;cases ho
 |cons c r=>
  rw[hl]at hA
  obtain⟨l1,l2⟩:=LF (hA c (by simp)) (lF c (ofL x.2.1))
  have m0:=avc x.2.2 (show((kp c (lF c (ofL x.2.1))).length:Int)≠0 by omega)
  have m1:=auJ x.2.2 (show 0<((kp c (lF c (ofL x.2.1))).length:Int) by omega)
  have hk:(x.2.2%((kp c (lF c (ofL x.2.1))).length:Int)).toNat<(kp c (lF c (ofL x.2.1))).length:=by omega
  simp only[cond_true]
  rw[List.getD_eq_getElem?_getD,atU hk]
  exact auB hk
end Go.Proofs.YtgddhgcjmddjfaaGreat
end
