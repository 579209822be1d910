/- Common points of curves: the reference's Meet. -/
import Derived.Test.YtgddhgcjmddjfaaGreatD16
import Derived.Test.YtgddhgcjmddjfaaGreatD14
import Derived.Test.YtgddhgcjmddjfaaGreatD15
noncomputable section
namespace Go.Proofs.YtgddhgcjmddjfaaGreat
open Go.RowKit Go.IntKind
theorem awk:type_of% @List.mem_filter:=@List.mem_filter
theorem awD:type_of% @List.filter_cons:=@List.filter_cons
theorem axy:type_of% @List.filter_nil:=@List.filter_nil
def mG(c:BCU):Prop:=okC 500 c∧Az c
instance (c:BCU):Decidable (mG c):=by unfold mG;infer_instance
def dQ(c d:BCU):Prop:=mG c∧mG d
instance (c d:BCU):Decidable (dQ c d):=by unfold dQ;infer_instance
def Hu(c d:BCU):List BP:=bif !cL (dC c) (dC d)then(wh (dC c) (dC d)).map enc else [c.2.2.2.2.1,c.2.2.2.2.2,d.2.2.2.2.1,d.2.2.2.2.2]
def alk(c d:BCU):List BP:=(Hu c d).filter fun p=>onR (dC c) (dec p)&&onR (dC d) (dec p)
def rE(c d:BCU):List BP:=eU (dC c) (alk c d)
def qh(c d:BCU):Bool:=bif c.1&&(d.1&&(c.2.2.2.1 !=d.2.2.2.1))then true else !c.1&&(aV (dec c.2.2.2.2.1) (dec c.2.2.2.2.2) !=aV (dec d.2.2.2.2.1) (dec d.2.2.2.2.2))
def ip(c d:BCU):BCU:=bif qh c d then cH d else d
def p7(c:Cv):List BP→Bool
 |[]=>false
 |x::r=>match r with
  |[]=>false
  |y::_=>decide (cj c (dec x) (dec y)<0)||p7 c r
def akj(c d:BCU):Bool:=cL (dC c) (dC d)&&p7 (dC (ip c d)) (rE c d)
def YW:aM:=spN false true [tO,tO] (fun x=>decide (bW x.1∧bW x.2.1)) (fun x=>[RV.d (.sl tP) ((Dv (dec x.1) (dec x.2.1)).map enc),RV.d ayb (ZL (dec x.1) (dec x.2.1))])
theorem U7:SpK 44 YW:=spX fun x h=>aeQ x.1 x.2.1 (auN h)
def NC:aM:=spN true true [tO,tO] (fun x=>decide (cG x.1∧cG x.2.1)) (fun x=>[RV.d .bool (n7 (dec x.1) (dec x.2.1))])
theorem OR:SpK 43 NC:=spX fun x h=>VQ x.1 x.2.1 (auN h)
def My:aM:=spN true true [tO,tO] (fun x=>decide (bW x.1∧bW x.2.1)) (fun x=>[RV.d .bool (pM (dec x.1) (dec x.2.1))])
theorem OL:SpK 42 My:=spX fun x h=>QN x.1 x.2.1 (auN h)
def L8:Env:=[(44,YW),(45,Kc),(46,Ip),(43,NC),(42,My),(50,xU),(15,Dy),(24,CT),(21,zQ),(51,qT)]
theorem xY:EnvAll Tryz.prog L8:=⟨U7,FI,FS,OR,OL,tW,zC,yd,tZ,mL,trivial⟩
def akT:Ctx:=CX L8 []
def Xp(a b:BCU)(_k:KT):OLR:=match a.1 with|true=>(match b.1 with|true=>(match decide (bW a.2.2.1∧bW b.2.2.1)with|true=>some [RV.d (.sl tP) ((Dv (dec a.2.2.1) (dec b.2.2.1)).map enc),RV.d ayb (ZL (dec a.2.2.1) (dec b.2.2.1))]|false=>none)|false=>(match a.1 with|true=>(match decide (cG b.2.1∧bW a.2.2.1)with|true=>some [RV.d (.sl tP) ((rA (dec b.2.1) (dec a.2.2.1)).map enc),RV.d ayb 0]|false=>none)|false=>(match b.1 with|true=>(match decide (cG a.2.1∧bW b.2.2.1)with|true=>some [RV.d (.sl tP) ((rA (dec a.2.1) (dec b.2.2.1)).map enc),RV.d ayb 0]|false=>none)|false=>(match decide (cG a.2.1∧cG b.2.1)with|true=>some [RV.d (.sl tP) ((lz (dec a.2.1) (dec b.2.1)).map enc),RV.d ayb (NJ (dec a.2.1) (dec b.2.1))]|false=>none))))|false=>(match a.1 with|true=>(match decide (cG b.2.1∧bW a.2.2.1)with|true=>some [RV.d (.sl tP) ((rA (dec b.2.1) (dec a.2.2.1)).map enc),RV.d ayb 0]|false=>none)|false=>(match b.1 with|true=>(match decide (cG a.2.1∧bW b.2.2.1)with|true=>some [RV.d (.sl tP) ((rA (dec a.2.1) (dec b.2.2.1)).map enc),RV.d ayb 0]|false=>none)|false=>(match decide (cG a.2.1∧cG b.2.1)with|true=>some [RV.d (.sl tP) ((lz (dec a.2.1) (dec b.2.1)).map enc),RV.d ayb (NJ (dec a.2.1) (dec b.2.1))]|false=>none)))
theorem ai4(a b:BCU):RS akT 13 [.d tCU a,.d tCU b] (Xp a b):=rsX
theorem Ry(a b:BCU)(h:fi a b):Con Tryz.prog 13 [.d tCU a,.d tCU b] [.d (.sl tP) ((wh (dC a) (dC b)).map enc),.d ayb (VZ (dC a) (dC b))]:=by
 refine aO xY (ai4 _ _ ⟨0,?_⟩)
 obtain⟨⟨a1,a2⟩,b1,b2⟩:=h
 unfold Xp wh VZ Dv
 obtain⟨aa,al,ac,aw,af,at_⟩:=a
 obtain⟨ba,bl,bc,bw,bf,bt⟩:=b
 cases aa<;>cases ba
 ·have h1:=a2 rfl
  have h2:=b2 rfl
  simp only[dT (show cG al∧cG bl from⟨h1,h2⟩)]
  rfl
 ·have h1:=a2 rfl
  have h2:=b1 rfl
  simp only[dT (show cG al∧bW bc from⟨h1,h2⟩)]
  rfl
 ·have h1:=a1 rfl
  have h2:=b2 rfl
  simp only[dT (show cG bl∧bW ac from⟨h2,h1⟩)]
  rfl
 ·have h1:=a1 rfl
  have h2:=b1 rfl
  simp only[dT (show bW ac∧bW bc from⟨h1,h2⟩)]
  rfl
def anz:Ctx:=CX L8 []
def afW(a b:BCU)(_k:KT):OLR:=match !(a.1==b.1)with|true=>some [RV.d .bool false]|false=>(match a.1 with|true=>(match decide (bW a.2.2.1∧bW b.2.2.1)with|true=>some [RV.d .bool (pM (dec a.2.2.1) (dec b.2.2.1))]|false=>none)|false=>(match decide (cG a.2.1∧cG b.2.1)with|true=>some [RV.d .bool (n7 (dec a.2.1) (dec b.2.1))]|false=>none))
theorem aoI(a b:BCU):RS anz 12 [.d tCU a,.d tCU b] (afW a b):=rsX
theorem acs(a b:BCU)(h:fi a b):Con Tryz.prog 12 [.d tCU a,.d tCU b] [.d .bool (cL (dC a) (dC b))]:=by
 refine aO xY (aoI _ _ ⟨0,?_⟩)
 obtain⟨⟨a1,a2⟩,b1,b2⟩:=h
 unfold afW cL
 obtain⟨aa,al,ac,aw,af,at_⟩:=a
 obtain⟨ba,bl,bc,bw,bf,bt⟩:=b
 cases aa<;>cases ba
 ·have h1:=a2 rfl
  have h2:=b2 rfl
  simp only[dT (show cG al∧cG bl from⟨h1,h2⟩)]
  rfl
 ·rfl
 ·rfl
 ·have h1:=a1 rfl
  have h2:=b1 rfl
  simp only[dT (show bW ac∧bW bc from⟨h1,h2⟩)]
  rfl
def Nz:aM:=spN false true [tCU,tCU] (fun x=>decide (fi x.1 x.2.1)) (fun x=>[RV.d (.sl tP) ((wh (dC x.1) (dC x.2.1)).map enc),RV.d ayb (VZ (dC x.1) (dC x.2.1))])
theorem OX:SpK 13 Nz:=spX fun x h=>Ry x.1 x.2.1 (auN h)
def Ji:aM:=spN true true [tCU,tCU] (fun x=>decide (fi x.1 x.2.1)) (fun x=>[RV.d .bool (cL (dC x.1) (dC x.2.1))])
theorem Gu:SpK 12 Ji:=spX fun x h=>acs x.1 x.2.1 (auN h)
def aga:Env:=(13,Nz)::(12,Ji)::L8
theorem Vd:EnvAll Tryz.prog aga:=⟨OX,Gu,xY⟩
def amT:NT:=[((16,18),{keep:=[2,3,6,7,8,9],own:=[(8,41,tP)],hl:=4}),((16,47),{keep:=[3,6,8,10,11],hl:=2})]
def uc:Ctx:=CX aga amT
def qz(c d:BCU)(s9:Int)(r3:List BP):Cfg:=⟨16,[.blk 0,.seq 33],[(2,.box 0 0),(3,.box 1 0),(6,SB (cL (dC c) (dC d))),(7,.d (.sl tP) ((wh (dC c) (dC d)).map enc)),(8,.own 3),(9,SI s9)],[.box 43 (Ty.split tCU c),.box 43 (Ty.split tCU d),.row 41 tP ([c.2.2.2.2.1,c.2.2.2.2.2,d.2.2.2.2.1,d.2.2.2.2.2]),.row 41 tP r3],0,[]⟩
def kj(c d:BCU)(s9:Int)(r3:List BP):Cfg:=⟨16,[.blk 0,.seq 33],[(2,.box 0 0),(3,.box 1 0),(6,SB (cL (dC c) (dC d))),(7,.own 2),(8,.own 3),(9,SI s9)],[.box 43 (Ty.split tCU c),.box 43 (Ty.split tCU d),.row 41 tP ([c.2.2.2.2.1,c.2.2.2.2.2,d.2.2.2.2.1,d.2.2.2.2.2]),.row 41 tP r3],0,[]⟩
def dk(c d:BCU)(r3:List BP)(B1:BCU)(s10:Bool)(s11:Int):Cfg:=⟨16,[.blk 2,.seq 58],[(3,.box 1 0),(6,SB (cL (dC c) (dC d))),(8,.d (.sl tP) (eU (dC c) r3)),(10,SB s10),(11,SI s11)],[.box 43 (Ty.split tCU c),.box 43 (Ty.split tCU B1)],0,[]⟩
def Q4(c d:BCU)(k:KT):OLR:=match decide (fi c d)with|true=>(match !(cL (dC c) (dC d))with|true=>(match decide (fi c d)with|true=>k 18 (qz c d 0 ([]))|false=>none)|false=>k 18 (kj c d 0 ([])))|false=>none
theorem ah9(c d:BCU):RS uc 16 [.d tCU c,.d tCU d] (Q4 c d):=rsX
def qP(c d:BCU)(s9:Int)(r3:List BP)(k:KT):OLR:=match decide (s9<(((wh (dC c) (dC d)).map enc).length:Int))with|true=>(match bi ((wh (dC c) (dC d)).map enc) s9 with|some x1=>(match decide (okC 3500 c∧okP 3500 x1)with|true=>(match onR (dC c) (dec x1)with|true=>(match bi ((wh (dC c) (dC d)).map enc) s9 with|some x2=>(match decide (okC 3500 d∧okP 3500 x2)with|true=>(match onR (dC d) (dec x2)with|true=>(match bi ((wh (dC c) (dC d)).map enc) s9 with|some x3=>(match decide ((r3.length+([x3]).length)*320≤140737488355328∧r3.length+([x3]).length≤140737488355328)with|true=>k 18 (qz c d (i64.wrap (s9+1)) (r3++([x3])))|false=>none)|none=>none)|false=>k 18 (qz c d (i64.wrap (s9+1)) r3))|false=>none)|none=>none)|false=>k 18 (qz c d (i64.wrap (s9+1)) r3))|false=>none)|none=>none)|false=>(match decide (rP c r3)with|true=>(match c.1 with|true=>(match d.1 with|true=>(match !(c.2.2.2.1==d.2.2.2.1)with|true=>k 47 (dk c d r3 (hid (cH d)) false 1)|false=>(match !c.1 with|true=>(match decide (okP 4000 c.2.2.2.2.1∧okP 4000 c.2.2.2.2.2)with|true=>(match decide (okP 4000 d.2.2.2.2.1∧okP 4000 d.2.2.2.2.2)with|true=>(match(aV (dec c.2.2.2.2.1) (dec c.2.2.2.2.2)) !=(aV (dec d.2.2.2.2.1) (dec d.2.2.2.2.2))with|true=>k 47 (dk c d r3 (hid (cH d)) false 1)|false=>k 47 (dk c d r3 d false 1))|false=>none)|false=>none)|false=>k 47 (dk c d r3 d false 1)))|false=>(match !c.1 with|true=>(match decide (okP 4000 c.2.2.2.2.1∧okP 4000 c.2.2.2.2.2)with|true=>(match decide (okP 4000 d.2.2.2.2.1∧okP 4000 d.2.2.2.2.2)with|true=>(match(aV (dec c.2.2.2.2.1) (dec c.2.2.2.2.2)) !=(aV (dec d.2.2.2.2.1) (dec d.2.2.2.2.2))with|true=>k 47 (dk c d r3 (hid (cH d)) false 1)|false=>k 47 (dk c d r3 d false 1))|false=>none)|false=>none)|false=>k 47 (dk c d r3 d false 1)))|false=>(match !c.1 with|true=>(match decide (okP 4000 c.2.2.2.2.1∧okP 4000 c.2.2.2.2.2)with|true=>(match decide (okP 4000 d.2.2.2.2.1∧okP 4000 d.2.2.2.2.2)with|true=>(match(aV (dec c.2.2.2.2.1) (dec c.2.2.2.2.2)) !=(aV (dec d.2.2.2.2.1) (dec d.2.2.2.2.2))with|true=>k 47 (dk c d r3 (hid (cH d)) false 1)|false=>k 47 (dk c d r3 d false 1))|false=>none)|false=>none)|false=>k 47 (dk c d r3 d false 1)))|false=>none)
theorem uI(c d:BCU)(s9:Int)(r3:List BP):RN uc 18 (qz c d s9 r3) (qP c d s9 r3):=rnX
def lP(c d:BCU)(s9:Int)(r3:List BP)(k:KT):OLR:=match decide (s9<(([c.2.2.2.2.1,c.2.2.2.2.2,d.2.2.2.2.1,d.2.2.2.2.2]).length:Int))with|true=>(match bi ([c.2.2.2.2.1,c.2.2.2.2.2,d.2.2.2.2.1,d.2.2.2.2.2]) s9 with|some _=>(match true,([c.2.2.2.2.1,c.2.2.2.2.2,d.2.2.2.2.1,d.2.2.2.2.2])[(s9).toNat]? with|true,some x1=>(match decide (okC 3500 c∧okP 3500 x1)with|true=>(match onR (dC c) (dec x1)with|true=>(match bi ([c.2.2.2.2.1,c.2.2.2.2.2,d.2.2.2.2.1,d.2.2.2.2.2]) s9 with|some _=>(match true,([c.2.2.2.2.1,c.2.2.2.2.2,d.2.2.2.2.1,d.2.2.2.2.2])[(s9).toNat]? with|true,some x2=>(match decide (okC 3500 d∧okP 3500 x2)with|true=>(match onR (dC d) (dec x2)with|true=>(match bi ([c.2.2.2.2.1,c.2.2.2.2.2,d.2.2.2.2.1,d.2.2.2.2.2]) s9 with|some _=>(match true,([c.2.2.2.2.1,c.2.2.2.2.2,d.2.2.2.2.1,d.2.2.2.2.2])[(s9).toNat]? with|true,some x3=>(match decide ((r3.length+([x3]).length)*320≤140737488355328∧r3.length+([x3]).length≤140737488355328)with|true=>k 18 (kj c d (i64.wrap (s9+1)) (r3++([x3])))|false=>none)|_,_=>none)|none=>none)|false=>k 18 (kj c d (i64.wrap (s9+1)) r3))|false=>none)|_,_=>none)|none=>none)|false=>k 18 (kj c d (i64.wrap (s9+1)) r3))|false=>none)|_,_=>none)|none=>none)|false=>(match decide (rP c r3)with|true=>(match c.1 with|true=>(match d.1 with|true=>(match !(c.2.2.2.1==d.2.2.2.1)with|true=>k 47 (dk c d r3 (hid (cH d)) false 1)|false=>(match !c.1 with|true=>(match decide (okP 4000 c.2.2.2.2.1∧okP 4000 c.2.2.2.2.2)with|true=>(match decide (okP 4000 d.2.2.2.2.1∧okP 4000 d.2.2.2.2.2)with|true=>(match(aV (dec c.2.2.2.2.1) (dec c.2.2.2.2.2)) !=(aV (dec d.2.2.2.2.1) (dec d.2.2.2.2.2))with|true=>k 47 (dk c d r3 (hid (cH d)) false 1)|false=>k 47 (dk c d r3 d false 1))|false=>none)|false=>none)|false=>k 47 (dk c d r3 d false 1)))|false=>(match !c.1 with|true=>(match decide (okP 4000 c.2.2.2.2.1∧okP 4000 c.2.2.2.2.2)with|true=>(match decide (okP 4000 d.2.2.2.2.1∧okP 4000 d.2.2.2.2.2)with|true=>(match(aV (dec c.2.2.2.2.1) (dec c.2.2.2.2.2)) !=(aV (dec d.2.2.2.2.1) (dec d.2.2.2.2.2))with|true=>k 47 (dk c d r3 (hid (cH d)) false 1)|false=>k 47 (dk c d r3 d false 1))|false=>none)|false=>none)|false=>k 47 (dk c d r3 d false 1)))|false=>(match !c.1 with|true=>(match decide (okP 4000 c.2.2.2.2.1∧okP 4000 c.2.2.2.2.2)with|true=>(match decide (okP 4000 d.2.2.2.2.1∧okP 4000 d.2.2.2.2.2)with|true=>(match(aV (dec c.2.2.2.2.1) (dec c.2.2.2.2.2)) !=(aV (dec d.2.2.2.2.1) (dec d.2.2.2.2.2))with|true=>k 47 (dk c d r3 (hid (cH d)) false 1)|false=>k 47 (dk c d r3 d false 1))|false=>none)|false=>none)|false=>k 47 (dk c d r3 d false 1)))|false=>none)
theorem oV(c d:BCU)(s9:Int)(r3:List BP):RN uc 18 (kj c d s9 r3) (lP c d s9 r3):=rnX
def ql(c d:BCU)(r3:List BP)(B1:BCU)(s10:Bool)(s11:Int)(k:KT):OLR:=match cL (dC c) (dC d)with|true=>(match decide (s11<((eU (dC c) r3).length:Int))with|true=>(match s10 with|true=>k 47 (dk c d r3 B1 true (i64.wrap (s11+1)))|false=>(match bi (eU (dC c) r3) (i64.wrap (s11-1))with|some x1=>(match bi (eU (dC c) r3) s11 with|some x2=>(match decide (okC 4000 B1∧okP 4000 x1∧okP 4000 x2)with|true=>k 47 (dk c d r3 B1 (decide ((cj (dC B1) (dec x1) (dec x2))<0)) (i64.wrap (s11+1)))|false=>none)|none=>none)|none=>none))|false=>some [RV.d (.sl tP) (eU (dC c) r3),RV.d .bool s10])|false=>some [RV.d (.sl tP) (eU (dC c) r3),RV.d .bool s10]
theorem uJ(c d:BCU)(r3:List BP)(B1:BCU)(s10:Bool)(s11:Int):RN uc 47 (dk c d r3 B1 s10 s11) (ql c d r3 B1 s10 s11):=rnX
theorem XJ{c:Cv}{S:List BP}{i:Nat}(h1:1≤i)(hi:i<S.length):p7 c (S.drop (i-1))=(decide (cj c (dec S[i-1]) (dec S[i])<0)||p7 c (S.drop i)):=by
 have hd:S.drop (i-1)=S[i-1]::S.drop i:=by
  have:=avd (l:=S) (i:=i-1) (by omega)
  rw[this,show i-1+1=i by omega]
 have hd2:S.drop i=S[i]::S.drop (i+1):=avd hi
 rw[hd,hd2]
 rfl
theorem acM{c:Cv}{S:List BP}(h:S.length≤1):p7 c S=false:=by
 match S,h with
 |[],_=>rfl
 |[_],_=>rfl
theorem al1(c d:BCU)(r3 S:List BP)(hS:eU (dC c) r3=S)(hl:S.length≤1000000)(ho:∀x∈S,okP 4000 x)(B:BCU)(hB:okC 4000 B):∀(j i:Nat),1≤i→i+j=max S.length 1→∀s:Bool,
  uc.Runs 47 (dk c d r3 B s (i:Int)) [.d (.sl tP) S,.d .bool (bif cL (dC c) (dC d)then s||p7 (dC B) (S.drop (i-1))else s)]:=by
 intro j
 induction j with
 |zero=>
  intro i h1 hi s
  refine uJ _ _ _ _ _ _ ⟨0,?_⟩
  unfold ql
  rw[hS,cz (by omega),acM (by rw[awO];omega),Bool.or_false]
  cases cL (dC c) (dC d)<;>rfl
 |succ j ih=>
  intro i h1 hi s
  have hil:i<S.length:=by omega
  have e1:i64.wrap ((i:Int)-1)=((i-1:Nat):Int):=by rw[bz (by omega) (by omega)];omega
  have e2:i64.wrap ((i:Int)+1)=((i+1:Nat):Int):=cr (by omega)
  have g1:bi S ((i-1:Nat):Int)=some S[i-1]:=by rw[aA,auP (by omega)]
  have g2:bi S (i:Int)=some S[i]:=by rw[aA,auP hil]
  cases hs:cL (dC c) (dC d)
  ·refine uJ _ _ _ _ _ _ ⟨0,?_⟩
   unfold ql
   rw[hS,hs]
   rfl
  ·obtain⟨n,hn⟩:=ih (i+1) (by omega) (by omega) (s||decide (cj (dC B) (dec S[i-1]) (dec S[i])<0))
   refine uJ _ _ _ _ _ _ ⟨n,?_⟩
   unfold ql
   rw[hS,hs,cd hil,e1,e2,g1,g2]
   dsimp only
   rw[dT (show okC 4000 B∧okP 4000 S[i-1]∧okP 4000 S[i] from⟨hB,ho _ (avu _),ho _ (avu _)⟩)]
   rw[hs,Nat.add_sub_cancel,Bool.or_assoc,←XJ h1 hil]at hn
   cases s
   ·exact hn
   ·simp only[Bool.true_or,cond_true]at hn ⊢
    exact hn
theorem Lm{c:Cv}{l:List BP}{p:BP→Prop}(h:∀x∈l,p x):∀x∈eU c l,p x:=fun x hx=>by
 rcases wZ hx with h'|h'
 ·cases h'
 ·exact h x h'
theorem MH(c d:BCU)(h:dQ c d)(r3:List BP)(hl:r3.length≤100)(ho:∀x∈r3,okP 500 x):∃n,(match decide (rP c r3)with
  |true=>uc.k n 47 (dk c d r3 (ip c d) false 1)
  |false=>none)=some [.d (.sl tP) (eU (dC c) r3),.d .bool (cL (dC c) (dC d)&&p7 (dC (ip c d)) (eU (dC c) r3))]:=by
 have hs:rP c r3:=⟨ck h.1.1 (by decide) (by decide),by omega,fun x hx=>db (ho x hx) (by decide) (by decide)⟩
 have hR:okC 4000 (ip c d):=by
  unfold ip
  have:=ck (k:=4000) h.2.1 (by decide) (by decide)
  cases qh c d
  ·exact this
  ·exact Jz 4000 this
 have hlen:=tK (dC c) r3 []
 obtain⟨n,hn⟩:=al1 c d r3 _ rfl (by simp at hlen;unfold eU;omega) (Lm (fun x hx=>db (ho x hx) (by decide) (by decide))) (ip c d) hR (max (eU (dC c) r3).length 1-1) 1 (auY _) (by omega) false
 refine⟨n,?_⟩
 rw[dT hs]
 refine hn.trans ?_
 cases cL (dC c) (dC d)<;>rfl
theorem CB{l c:Ln}[BdL l][BdC c](hl:l.1≠0∨l.2.1≠0):(rA l c).length≤2∧∀p∈rA l c,Bd p 490∧Rpd p:=by
 unfold rA
 by_cases h0:iG l c<0
 ·rw[auO h0]
  exact⟨by simp,fun p hp=>by cases hp⟩
 ·rw[auQ h0]
  by_cases h1:iG l c=0
  ·rw[auO h1]
   obtain⟨f1,f2,_,_⟩:=vk (l:=l) (c:=c)
   refine⟨by simp,fun p hp=>?_⟩
   have:p=atP (ftX l c,ftY l c):=by simpa using hp
   rw[this]
   exact⟨(inferInstance:Bd (atP (ftX l c,ftY l c)) _).mono (by decide),inferInstance⟩
  ·rw[auQ h1]
   obtain⟨p1,p2⟩:=YY (c:=c) hl (show 0≤iG l c by grind)
   obtain⟨q1,q2⟩:=YM (l:=l) (c:=c)
   cases decide (aV (sW l c) (t7 l c)>0)
   ·refine⟨by simp,fun p hp=>?_⟩
    have:p=sW l c∨p=t7 l c:=by simpa using hp
    rcases this with e|e<;>rw[e]
    ·exact⟨q1,p1⟩
    ·exact⟨q2,p2⟩
   ·refine⟨by simp,fun p hp=>?_⟩
    have:p=t7 l c∨p=sW l c:=by simpa using hp
    rcases this with e|e<;>rw[e]
    ·exact⟨q2,p2⟩
    ·exact⟨q1,p1⟩
theorem xz{l m:Ln}[BdL l][BdL m]:(lz l m).length≤2∧∀p∈lz l m,Bd p 490∧Rpd p:=by
 unfold lz
 cases decide (fd l m=0)
 ·have bc:Bd (fd l m) 49:=inferInstanceAs (Bd (l.1*m.2.1-m.1*l.2.1) _)
  have bx:Bd (ma l m) 151:=inferInstanceAs (Bd (l.2.2*m.2.1-m.2.2*l.2.1) _)
  have b_:Bd (l7 l m) 151:=inferInstanceAs (Bd (l.1*m.2.2-m.1*l.2.2) _)
  refine⟨by simp,fun p hp=>?_⟩
  have:p=atP (ma l m/fd l m,l7 l m/fd l m):=by simpa using hp
  rw[this]
  exact⟨(inferInstance:Bd (atP (ma l m/fd l m,l7 l m/fd l m)) _).mono (by decide),inferInstance⟩
 ·exact⟨by simp,fun p hp=>by cases hp⟩
theorem acq{c d:BCU}(h:fi c d):(wh (dC c) (dC d)).length≤2∧∀p∈wh (dC c) (dC d),Bd p 490∧Rpd p:=by
 obtain⟨⟨a1,a2⟩,b1,b2⟩:=h
 obtain⟨aa,al,ac,aw,af,at_⟩:=c
 obtain⟨ba,bl,bc,bw,bf,bt⟩:=d
 have ex1:∀x:BO3,cG x→BdL (dec x)∧((dec x:Ln).1≠0∨(dec x:Ln).2.1≠0):=fun x h=>by
  obtain⟨l,rfl,bl,nl⟩:=eI h
  rw[aq]
  exact⟨bl,nl⟩
 have ex2:∀x:BO3,bW x→BdC (dec x):=fun x h=>by
  obtain⟨l,rfl,bl,nl⟩:=dh h
  rw[aq]
  exact bl
 unfold wh
 cases aa<;>cases ba
 ·obtain⟨i1,_⟩:=ex1 _ (a2 rfl)
  obtain⟨i2,_⟩:=ex1 _ (b2 rfl)
  exact xz (l:=dec al) (m:=dec bl)
 ·obtain⟨i1,n1⟩:=ex1 _ (a2 rfl)
  have i2:=ex2 _ (b1 rfl)
  exact CB (l:=dec al) (c:=dec bc) n1
 ·have i1:=ex2 _ (a1 rfl)
  obtain⟨i2,n2⟩:=ex1 _ (b2 rfl)
  exact CB (l:=dec bl) (c:=dec ac) n2
 ·have i1:=ex2 _ (a1 rfl)
  have i2:=ex2 _ (b1 rfl)
  show(Dv (dec ac) (dec bc)).length≤2∧∀p∈Dv (dec ac) (dec bc),Bd p 490∧Rpd p
  unfold Dv
  cases hc:gi (dec ac) (dec bc)
  ·have i3:BdL (ms (dec ac) (dec bc)):=xV
   exact CB (xQ hc)
  ·exact⟨by simp,fun p hp=>by cases hp⟩
theorem Kk{c d:BCU}(h:dQ c d):(Hu c d).length≤4∧∀x∈Hu c d,okP 500 x:=by
 obtain⟨⟨h1,h2⟩,h3,h4⟩:=h
 unfold Hu
 cases cL (dC c) (dC d)
 ·obtain⟨g1,g2⟩:=acq (show fi c d from⟨h2,h4⟩)
  refine⟨by simp only[Bool.not_false,cond_true,awj];omega,fun x hx=>?_⟩
  obtain⟨p,hp,rfl⟩:=awc.1 hx
  obtain⟨b,r⟩:=g2 p hp
  exact auN (bG (j:=490) (by decide) (by decide))
 ·refine⟨by simp,fun x hx=>?_⟩
  have:x=c.2.2.2.2.1∨x=c.2.2.2.2.2∨x=d.2.2.2.2.1∨x=d.2.2.2.2.2:=by simpa using hx
  rcases this with e|e|e|e<;>rw[e]
  ·exact h1.2.2.1
  ·exact h1.2.2.2
  ·exact h3.2.2.1
  ·exact h3.2.2.2
def m7(c d:BCU)(p:BP):Bool:=onR (dC c) (dec p)&&onR (dC d) (dec p)
theorem Ig(c d:BCU)(h:dQ c d)(L:List BP)(hL:(wh (dC c) (dC d)).map enc=L)(h4:L.length≤4)(ho:∀x∈L,okP 500 x):∀(j i:Nat),i+j=L.length→∀r3:List BP,r3.length≤i→(∀x∈r3,okP 500 x)→
  uc.Runs 18 (qz c d (i:Int) r3) [.d (.sl tP) (eU (dC c) (r3++(L.drop i).filter (m7 c d))),.d .bool (cL (dC c) (dC d)&&p7 (dC (ip c d)) (eU (dC c) (r3++(L.drop i).filter (m7 c d))))]:=by
 intro j
 induction j with
 |zero=>
  intro i hi r3 hr h3
  obtain⟨n,hn⟩:=MH c d h r3 (by omega) h3
  refine uI _ _ _ _ ⟨n,?_⟩
  have hd:L.drop i=[]:=axC.2 (by omega)
  rw[hd,axy,avs,←hn]
  unfold qP
  rw[hL,cz (by omega)]
  have hs:rP c r3:=⟨ck h.1.1 (by decide) (by decide),by omega,fun x hx=>db (h3 x hx) (by decide) (by decide)⟩
  have o1:decide (okP 4000 c.2.2.2.2.1∧okP 4000 c.2.2.2.2.2)=true:=auO ⟨db h.1.1.2.2.1 (by decide) (by decide),db h.1.1.2.2.2 (by decide) (by decide)⟩
  have o2:decide (okP 4000 d.2.2.2.2.1∧okP 4000 d.2.2.2.2.2)=true:=auO ⟨db h.2.1.2.2.1 (by decide) (by decide),db h.2.1.2.2.2 (by decide) (by decide)⟩
  rw[dT hs,o1,o2]
  dsimp only
  unfold ip qh bne
  simp only[am]
  cases c.1<;>cases d.1<;>cases(c.2.2.2.1==d.2.2.2.1)<;>cases(aV (dec c.2.2.2.2.1) (dec c.2.2.2.2.2)==aV (dec d.2.2.2.2.1) (dec d.2.2.2.2.2))<;>rfl
 |succ j ih=>
  intro i hi r3 hr h3
  have hil:i<L.length:=by omega
  have e2:i64.wrap ((i:Int)+1)=((i+1:Nat):Int):=cr (by omega)
  have g2:bi L (i:Int)=some L[i]:=by rw[aA,auP hil]
  have g3:L[((i:Int)).toNat]?=some L[i]:=by rw[show((i:Int)).toNat=i by omega,auP hil]
  have hx:=ho _ (avu hil)
  have hd:L.drop i=L[i]::L.drop (i+1):=avd hil
  have ox:=db (k:=3500) hx (by decide) (by decide)
  have o1:decide (okC 3500 c∧okP 3500 L[i])=true:=auO ⟨ck h.1.1 (by decide) (by decide),ox⟩
  have o2:decide (okC 3500 d∧okP 3500 L[i])=true:=auO ⟨ck h.2.1 (by decide) (by decide),ox⟩
  have hf:(L.drop i).filter (m7 c d)=bif m7 c d L[i]then L[i]::(L.drop (i+1)).filter (m7 c d)else(L.drop (i+1)).filter (m7 c d):=by
   rw[hd,awD]
   cases m7 c d L[i]<;>rfl
  cases hb:m7 c d L[i]
  ·rw[hb]at hf
   obtain⟨n,hn⟩:=ih (i+1) (by omega) r3 (by omega) h3
   refine uI _ _ _ _ ⟨n,?_⟩
   rw[hf]
   dsimp only[cond_false]
   rw[←hn]
   unfold m7 at hb
   unfold qP
   rw[hL,cd hil,g2,e2]
   dsimp only
   try rw[g3]
   try dsimp only
   rw[o1,o2]
   dsimp only
   cases h1:onR (dC c) (dec L[i])
   ·rfl
   ·rw[h1,auS]at hb
    rw[hb]
  ·rw[hb]at hf
   obtain⟨n,hn⟩:=ih (i+1) (by omega) (r3++[L[i]]) (by simp;omega) (fun x hx'=>by
    rcases avj.1 hx' with h'|h'
    ·exact h3 x h'
    ·have:x=L[i]:=by simpa using h'
     rw[this];exact hx)
   refine uI _ _ _ _ ⟨n,?_⟩
   rw[hf]
   dsimp only[cond_true]
   rw[avl]at hn
   refine Eq.trans ?_ hn
   unfold m7 at hb
   obtain⟨h1,h2⟩:=au6.1 hb
   unfold qP
   rw[hL,cd hil,g2,e2]
   dsimp only
   try rw[g3]
   try dsimp only
   rw[o1,o2,h1,h2]
   dsimp only
   rw[dT (by simp;omega)]
theorem Dh(c d:BCU)(h:dQ c d)(L:List BP)(hL:[c.2.2.2.2.1,c.2.2.2.2.2,d.2.2.2.2.1,d.2.2.2.2.2]=L)(h4:L.length≤4)(ho:∀x∈L,okP 500 x):∀(j i:Nat),i+j=L.length→∀r3:List BP,r3.length≤i→(∀x∈r3,okP 500 x)→
  uc.Runs 18 (kj c d (i:Int) r3) [.d (.sl tP) (eU (dC c) (r3++(L.drop i).filter (m7 c d))),.d .bool (cL (dC c) (dC d)&&p7 (dC (ip c d)) (eU (dC c) (r3++(L.drop i).filter (m7 c d))))]:=by
 intro j
 induction j with
 |zero=>
  intro i hi r3 hr h3
  obtain⟨n,hn⟩:=MH c d h r3 (by omega) h3
  refine oV _ _ _ _ ⟨n,?_⟩
  have hd:L.drop i=[]:=axC.2 (by omega)
  rw[hd,axy,avs,←hn]
  unfold lP
  rw[hL,cz (by omega)]
  have hs:rP c r3:=⟨ck h.1.1 (by decide) (by decide),by omega,fun x hx=>db (h3 x hx) (by decide) (by decide)⟩
  have o1:decide (okP 4000 c.2.2.2.2.1∧okP 4000 c.2.2.2.2.2)=true:=auO ⟨db h.1.1.2.2.1 (by decide) (by decide),db h.1.1.2.2.2 (by decide) (by decide)⟩
  have o2:decide (okP 4000 d.2.2.2.2.1∧okP 4000 d.2.2.2.2.2)=true:=auO ⟨db h.2.1.2.2.1 (by decide) (by decide),db h.2.1.2.2.2 (by decide) (by decide)⟩
  rw[dT hs,o1,o2]
  dsimp only
  unfold ip qh bne
  simp only[am]
  cases c.1<;>cases d.1<;>cases(c.2.2.2.1==d.2.2.2.1)<;>cases(aV (dec c.2.2.2.2.1) (dec c.2.2.2.2.2)==aV (dec d.2.2.2.2.1) (dec d.2.2.2.2.2))<;>rfl
 |succ j ih=>
  intro i hi r3 hr h3
  have hil:i<L.length:=by omega
  have e2:i64.wrap ((i:Int)+1)=((i+1:Nat):Int):=cr (by omega)
  have g2:bi L (i:Int)=some L[i]:=by rw[aA,auP hil]
  have g3:L[((i:Int)).toNat]?=some L[i]:=by rw[show((i:Int)).toNat=i by omega,auP hil]
  have hx:=ho _ (avu hil)
  have hd:L.drop i=L[i]::L.drop (i+1):=avd hil
  have ox:=db (k:=3500) hx (by decide) (by decide)
  have o1:decide (okC 3500 c∧okP 3500 L[i])=true:=auO ⟨ck h.1.1 (by decide) (by decide),ox⟩
  have o2:decide (okC 3500 d∧okP 3500 L[i])=true:=auO ⟨ck h.2.1 (by decide) (by decide),ox⟩
  have hf:(L.drop i).filter (m7 c d)=bif m7 c d L[i]then L[i]::(L.drop (i+1)).filter (m7 c d)else(L.drop (i+1)).filter (m7 c d):=by
   rw[hd,awD]
   cases m7 c d L[i]<;>rfl
  cases hb:m7 c d L[i]
  ·rw[hb]at hf
   obtain⟨n,hn⟩:=ih (i+1) (by omega) r3 (by omega) h3
   refine oV _ _ _ _ ⟨n,?_⟩
   rw[hf]
   dsimp only[cond_false]
   rw[←hn]
   unfold m7 at hb
   unfold lP
   rw[hL,cd hil,g2,e2]
   dsimp only
   try rw[g3]
   try dsimp only
   rw[o1,o2]
   dsimp only
   cases h1:onR (dC c) (dec L[i])
   ·rfl
   ·rw[h1,auS]at hb
    rw[hb]
  ·rw[hb]at hf
   obtain⟨n,hn⟩:=ih (i+1) (by omega) (r3++[L[i]]) (by simp;omega) (fun x hx'=>by
    rcases avj.1 hx' with h'|h'
    ·exact h3 x h'
    ·have:x=L[i]:=by simpa using h'
     rw[this];exact hx)
   refine oV _ _ _ _ ⟨n,?_⟩
   rw[hf]
   dsimp only[cond_true]
   rw[avl]at hn
   refine Eq.trans ?_ hn
   unfold m7 at hb
   obtain⟨h1,h2⟩:=au6.1 hb
   unfold lP
   rw[hL,cd hil,g2,e2]
   dsimp only
   try rw[g3]
   try dsimp only
   rw[o1,o2,h1,h2]
   dsimp only
   rw[dT (by simp;omega)]
theorem aa9(c d:BCU)(h:dQ c d):Con Tryz.prog 16 [.d tCU c,.d tCU d] [.d (.sl tP) (rE c d),.d .bool (akj c d)]:=by
 obtain⟨h4,ho⟩:=Kk h
 have hsp:fi c d:=⟨h.1.2,h.2.2⟩
 refine aO Vd (show uc.Res _ _ _ from ?_)
 unfold Hu at h4 ho
 unfold rE akj rE alk Hu
 cases hs:cL (dC c) (dC d)
 ·rw[hs]at h4 ho
  obtain⟨n,hn⟩:=Ig c d h _ rfl h4 ho _ 0 (avw _) [] (auY _) (fun x hx=>by cases hx)
  refine ah9 _ _ ⟨n,?_⟩
  unfold Q4
  rw[dT hsp,hs]
  rw[hs]at hn
  exact hn
 ·rw[hs]at h4 ho
  obtain⟨n,hn⟩:=Dh c d h _ rfl h4 ho _ 0 (avw _) [] (auY _) (fun x hx=>by cases hx)
  refine ah9 _ _ ⟨n,?_⟩
  unfold Q4
  rw[dT hsp,hs]
  rw[hs]at hn
  exact hn
def Sf:aM:=spN false true [tCU,tCU] (fun x=>decide (dQ x.1 x.2.1)) (fun x=>[RV.d (.sl tP) (rE x.1 x.2.1),RV.d .bool (akj x.1 x.2.1)])
theorem W8:SpK 16 Sf:=spX fun x h=>aa9 x.1 x.2.1 (auN h)
def i8P(n:Int):Prop:= -128≤n∧n≤127
instance (n:Int):Decidable (i8P n):=by unfold i8P;infer_instance
def u8P(n:Int):Prop:=0≤n∧n≤255
instance (n:Int):Decidable (u8P n):=by unfold u8P;infer_instance
def atQ(n u:Int):Rat:=Rat.divInt n (u%4+1)
def Ea(c:BO3):List BCU:=[(true,o00,c,false,enc (ro (dec c)),enc (rB (dec c))),(true,o00,c,false,enc (rB (dec c)),enc (ro (dec c)))]
abbrev tDr:Ty:=.st (.pair (.int .u8) (.pair (.int .u8) (.pair (.int .i8) (.pair (.int .i8) (.pair (.int .i8) (.pair (.int .i8) (.pair (.int .i8) (.int .i8))))))))
abbrev ls:Ty:=.st (.pair tDr (.pair tDr (.int .u8)))
abbrev Dr:=Int×Int×Int×Int×Int×Int×Int×Int
abbrev Pce:=Dr×Dr×Int
def AG(x:Dr):Prop:=u8P x.1∧u8P x.2.1∧i8P x.2.2.1∧i8P x.2.2.2.1∧i8P x.2.2.2.2.1∧i8P x.2.2.2.2.2.1∧i8P x.2.2.2.2.2.2.1∧i8P x.2.2.2.2.2.2.2
instance (x:Dr):Decidable (AG x):=by unfold AG;infer_instance
def drA(x:Dr):Rat×Rat:=(atQ x.2.2.1 x.2.1,atQ x.2.2.2.1 x.2.1)
def drB(x:Dr):Rat×Rat:=(atQ x.2.2.2.2.1 x.2.1,atQ x.2.2.2.2.2.1 x.2.1)
def drC(x:Dr):Rat×Rat:=(atQ x.2.2.2.2.2.2.1 x.2.1,atQ x.2.2.2.2.2.2.2 x.2.1)
def drQ(x:Dr):Ln:=((drA x).1,(drA x).2,(drB x).1)
def ofL(x:Dr):List BCU:=
 bif x.1%3==2 then(bif decide ((drB x).1≤0)then []else Ea (enc (drQ x)))
 else bif x.1%3==1 then(bif oK (drA x) (drB x) (drC x) !=0 then []else [As (drA x) (drB x) (drC x)])
 else bif oI (drA x) (drB x) !=0 then []else [AA (drA x) (drB x)]
theorem Lt{u k:Int}(h:u8P u):Int.tmod u k=u%k:=Int.tmod_eq_emod_of_nonneg h.1
theorem zi{n u:Int}(h:i8P n)(_h':u8P u):Bb (atQ n u) 7 2:=by
 unfold atQ
 obtain⟨h1,h2⟩:=h
 exact acW (by omega) (by show n.natAbs≤128;omega) (by show(u%4+1).natAbs≤4;omega)
theorem Con.dd{P:Program}{f:Nat}{args:List SV}{et:TypeId}{e:Ty}{xs:List e.D}{r:RV}(h:Con P f args [r])(hr:r=.new et e xs∨r=.d (.sl e) xs):Con P f args [.d (.sl e) xs]:=by
 rcases hr with rfl|rfl
 ·exact Con.new_d h
 ·exact h
def LB:Env:=[(37,xf),(135,Jv),(69,jS),(71,M2),(72,Na)]
theorem xZ:EnvAll Tryz.prog LB:=⟨uO,Gv,gU,PT,P9,trivial⟩
def asO:Ctx:=CX LB []
def aft(n u:Int)(_k:KT):OLR:=match decide (fw (i64.wrap n) (i64.wrap ((i64.wrap (Int.tmod u 4))+1)))with|true=>some [RV.d tR (hid (ai (Rat.divInt (i64.wrap n) (i64.wrap ((i64.wrap (Int.tmod u 4))+1)))))]|false=>none
theorem aoi(n u:Int):RS asO 68 [.d (.int .i8) n,.d (.int .u8) u] (aft n u):=rsX
theorem abq(n u:Int)(h:i8P n∧u8P u):Con Tryz.prog 68 [.d (.int .i8) n,.d (.int .u8) u] [.d tR (ai (atQ n u))]:=by
 refine aO xZ (aoi _ _ ⟨0,?_⟩)
 obtain⟨hn,hu⟩:=h
 have e0:=Lt (k:=4) hu
 obtain⟨n1,n2⟩:=hn
 unfold aft
 rw[e0,bz (x:=n) (by omega) (by omega),bz (x:=u%4) (by omega) (by omega),bz (x:=u%4+1) (by omega) (by omega),dT (show fw n (u%4+1) from⟨⟨by omega,by omega⟩,⟨by omega,by omega⟩,by omega⟩)]
 simp only[am]
 rfl
def ap2:Ctx:=CX LB []
def ahU(c:BO3)(_k:KT):OLR:=match decide (bW c)with|true=>some [RV.new 43 tCU ([(true,((((false,[]),(false,[])),(((false,[]),(false,[])),((false,[]),(false,[])))),(c,(false,(hid (enc (ro (dec c))),hid (enc (rB (dec c)))))))),(true,((((false,[]),(false,[])),(((false,[]),(false,[])),((false,[]),(false,[])))),(c,(false,(hid (enc (rB (dec c))),hid (enc (ro (dec c))))))))])]|false=>none
theorem anc(c:BO3):RS ap2 70 [.d tO c] (ahU c):=rsX
theorem adt(c:BO3)(h:bW c):Con Tryz.prog 70 [.d tO c] [.d (.sl tCU) (Ea c)]:=by
 refine Con.new_d (et:=43) (aO xZ (anc _ ⟨0,?_⟩))
 unfold ahU
 rw[dT h]
 simp only[am]
 rfl
def YN:aM:=spN false true [(.int .i8),(.int .u8)] (fun x=>decide (i8P x.1∧u8P x.2.1)) (fun x=>[RV.d tR (hid (ai (atQ x.1 x.2.1)))])
theorem Wi:SpK 68 YN:=spX fun x h=>by simp only[am];exact abq x.1 x.2.1 (auN h)
def ZG:aM:=spN false true [tO] (fun x=>decide (bW x.1)) (fun x=>[RV.d (.sl tCU) (Ea x.1)])
theorem SF:SpK 70 ZG:=spX fun x h=>adt x.1 (auN h)
def ahm:Env:=(68,YN)::(70,ZG)::LB
theorem Rn:EnvAll Tryz.prog ahm:=⟨Wi,SF,xZ⟩
def ag3:Ctx:=CX ahm []
def Xz(x:Dr)(_k:KT):OLR:=match decide (i8P x.2.2.1∧u8P x.2.1)with|true=>(match decide (i8P x.2.2.2.1∧u8P x.2.1)with|true=>(match decide (i8P x.2.2.2.2.1∧u8P x.2.1)with|true=>(match decide (i8P x.2.2.2.2.2.1∧u8P x.2.1)with|true=>(match(Int.tmod x.1 3)==2 with|true=>(match decide (i8P x.2.2.2.2.1∧u8P x.2.1)with|true=>(match decide (okR (hid (ai (atQ x.2.2.2.2.1 x.2.1))))with|true=>(match decide ((aR (ae (hid (ai (atQ x.2.2.2.2.1 x.2.1)))) 0)≤0)with|true=>some [RV.new 43 tCU []]|false=>(match decide (bW (hid (ai (atQ x.2.2.1 x.2.1)),(hid (ai (atQ x.2.2.2.1 x.2.1)),hid (ai (atQ x.2.2.2.2.1 x.2.1)))))with|true=>some [RV.d (.sl tCU) (Ea (hid (ai (atQ x.2.2.1 x.2.1)),(hid (ai (atQ x.2.2.2.1 x.2.1)),hid (ai (atQ x.2.2.2.2.1 x.2.1)))))]|false=>none))|false=>none)|false=>none)|false=>(match decide (ok (Rat×Rat) 100 (hid (ai (atQ x.2.2.1 x.2.1)),hid (ai (atQ x.2.2.2.1 x.2.1)))∧ok (Rat×Rat) 100 (hid (ai (atQ x.2.2.2.2.1 x.2.1)),hid (ai (atQ x.2.2.2.2.2.1 x.2.1))))with|true=>(match(Int.tmod x.1 3)==1 with|true=>(match decide (i8P x.2.2.2.2.2.2.1∧u8P x.2.1)with|true=>(match decide (i8P x.2.2.2.2.2.2.2∧u8P x.2.1)with|true=>(match decide (ok (Rat×Rat) 100 (hid (ai (atQ x.2.2.1 x.2.1)),hid (ai (atQ x.2.2.2.1 x.2.1)))∧ok (Rat×Rat) 100 (hid (ai (atQ x.2.2.2.2.1 x.2.1)),hid (ai (atQ x.2.2.2.2.2.1 x.2.1)))∧ok (Rat×Rat) 100 (hid (ai (atQ x.2.2.2.2.2.2.1 x.2.1)),hid (ai (atQ x.2.2.2.2.2.2.2 x.2.1))))with|true=>(match(oK (dec (hid (ai (atQ x.2.2.1 x.2.1)),hid (ai (atQ x.2.2.2.1 x.2.1)))) (dec (hid (ai (atQ x.2.2.2.2.1 x.2.1)),hid (ai (atQ x.2.2.2.2.2.1 x.2.1)))) (dec (hid (ai (atQ x.2.2.2.2.2.2.1 x.2.1)),hid (ai (atQ x.2.2.2.2.2.2.2 x.2.1))))) !=0 with|true=>some [RV.new 43 tCU []]|false=>some [RV.new 43 tCU ([hid (As (dec (hid (ai (atQ x.2.2.1 x.2.1)),hid (ai (atQ x.2.2.2.1 x.2.1)))) (dec (hid (ai (atQ x.2.2.2.2.1 x.2.1)),hid (ai (atQ x.2.2.2.2.2.1 x.2.1)))) (dec (hid (ai (atQ x.2.2.2.2.2.2.1 x.2.1)),hid (ai (atQ x.2.2.2.2.2.2.2 x.2.1)))))])])|false=>none)|false=>none)|false=>none)|false=>(match(oI (dec (hid (ai (atQ x.2.2.1 x.2.1)),hid (ai (atQ x.2.2.2.1 x.2.1)))) (dec (hid (ai (atQ x.2.2.2.2.1 x.2.1)),hid (ai (atQ x.2.2.2.2.2.1 x.2.1))))) !=0 with|true=>some [RV.new 43 tCU []]|false=>some [RV.new 43 tCU ([hid (AA (dec (hid (ai (atQ x.2.2.1 x.2.1)),hid (ai (atQ x.2.2.2.1 x.2.1)))) (dec (hid (ai (atQ x.2.2.2.2.1 x.2.1)),hid (ai (atQ x.2.2.2.2.2.1 x.2.1)))))])]))|false=>none))|false=>none)|false=>none)|false=>none)|false=>none
theorem aqH(x:Dr):RS ag3 30 [.d tDr x] (Xz x):=rsX
theorem aat(x:Dr)(h:AG x):Con Tryz.prog 30 [.d tDr x] [.d (.sl tCU) (ofL x)]:=by
 obtain⟨h1,h2,hA,hB,hC,hD,hE,hF⟩:=h
 have at_bd:∀n,i8P n→Bd (atQ n x.2.1) 1:=fun n hn=>Fj (h:=zi hn h2) (by decide) (by decide)
 have bA:=at_bd _ hA
 have bB:=at_bd _ hB
 have bC:=at_bd _ hC
 have bD:=at_bd _ hD
 have bE:=at_bd _ hE
 have bF:=at_bd _ hF
 have vA:Bd (drA x) 1:=inferInstanceAs (Bd (atQ x.2.2.1 x.2.1,atQ x.2.2.2.1 x.2.1) _)
 have vB:Bd (drB x) 1:=inferInstanceAs (Bd (atQ x.2.2.2.2.1 x.2.1,atQ x.2.2.2.2.2.1 x.2.1) _)
 have vC:Bd (drC x) 1:=inferInstanceAs (Bd (atQ x.2.2.2.2.2.2.1 x.2.1,atQ x.2.2.2.2.2.2.2 x.2.1) _)
 have eA:((ai (atQ x.2.2.1 x.2.1),ai (atQ x.2.2.2.1 x.2.1)):BV)=enc (drA x):=rfl
 have eB:((ai (atQ x.2.2.2.2.1 x.2.1),ai (atQ x.2.2.2.2.2.1 x.2.1)):BV)=enc (drB x):=rfl
 have eC:((ai (atQ x.2.2.2.2.2.2.1 x.2.1),ai (atQ x.2.2.2.2.2.2.2 x.2.1)):BV)=enc (drC x):=rfl
 have eQ:((ai (atQ x.2.2.1 x.2.1),ai (atQ x.2.2.2.1 x.2.1),ai (atQ x.2.2.2.2.1 x.2.1)):BO3)=enc (drQ x):=rfl
 have tm:=Lt (k:=3) h1
 have run:∀r:RV,Xz x (ag3.k 0)=some [r]→(r=.new 43 tCU (ofL x)∨r=.d (.sl tCU) (ofL x))→Con Tryz.prog 30 [.d tDr x] [.d (.sl tCU) (ofL x)]:=fun r e g=>Con.dd (aO Rn (aqH _ ⟨0,e⟩)) g
 unfold Xz at run
 unfold ofL at run ⊢
 simp only[am,aq,az,okd,aZ,auR,auT,Nat.reduceLeDiff,tm,eQ,eA,eB,eC,dT (show i8P _∧u8P _ from⟨hA,h2⟩),dT (show i8P _∧u8P _ from⟨hB,h2⟩),dT (show i8P _∧u8P _ from⟨hC,h2⟩),dT (show i8P _∧u8P _ from⟨hD,h2⟩),dT (show i8P _∧u8P _ from⟨hE,h2⟩),dT (show i8P _∧u8P _ from⟨hF,h2⟩)]at run
 cases h3:x.1%3==2
 ·simp only[h3,cond_false]at run ⊢
  cases h4:x.1%3==1
  ·simp only[h4,cond_false]at run ⊢
   cases h5:oI (drA x) (drB x) !=0
   ·simp only[h5,cond_false]at run ⊢
    exact run _ rfl (.inl rfl)
   ·simp only[h5,cond_true]at run ⊢
    exact run _ rfl (.inl rfl)
  ·simp only[h4,cond_true]at run ⊢
   cases h5:oK (drA x) (drB x) (drC x) !=0
   ·simp only[h5,cond_false]at run ⊢
    exact run _ rfl (.inl rfl)
   ·simp only[h5,cond_true]at run ⊢
    exact run _ rfl (.inl rfl)
 ·simp only[h3,cond_true]at run ⊢
  have e1:(drB x).1=atQ x.2.2.2.2.1 x.2.1:=rfl
  by_cases h5:(drB x).1≤0
  ·rw[auO h5]at run ⊢
   refine run _ ?_ (.inl rfl)
   rw[Gf,←e1,auO h5]
   rfl
  ·rw[auQ h5]at run ⊢
   have ok:bW (enc (drQ x)):=gL (h:=⟨bA.mono (by decide),bB.mono (by decide),bC.mono (by decide)⟩) (show 0<(drB x).1 by grind)
   refine run _ ?_ (.inr rfl)
   rw[Gf,←e1,auQ h5]
   simp only[auO ok]
   rfl
def UL:aM:=spN false true [tDr] (fun x=>decide (AG x.1)) (fun x=>[RV.d (.sl tCU) (ofL x.1)])
theorem Sq:SpK 30 UL:=spX fun x h=>aat x.1 (auN h)
def l0B:BO3:=enc ((0,0,0):Ln)
def c0M:BCU:=(false,l0B,l0B,false,p00,p00)
def Ol(a b:Rat×Rat):BCU:=bif uf a b then c00 else(false,enc (r7 a b),l0B,false,enc (atP a),enc (atP b))
def P3(a b c:Rat×Rat):BCU:=bif decide (dq a b c=0)then c00 else(true,l0B,enc (pQ a b c),!decide (rH a b c>0),enc (atP a),enc (atP c))
def YR(c:BO3):List BCU:=[(true,l0B,c,false,enc (td (dec c)),enc (tF (dec c))),(true,l0B,c,false,enc (tF (dec c)),enc (td (dec c)))]
def Tz:Env:=[(147,kX),(151,lg)]
theorem F8:EnvAll Tryz.prog Tz:=⟨gG,gj,trivial⟩
def anE:Ctx:=CX Tz []
def afa(a:BR)(_k:KT):OLR:=match decide (okR a)with|true=>some [RV.d .bool ((aR (ae a) 0)==0)]|false=>none
theorem asr(a:BR):RS anE 141 [.d tR a] (afa a):=rsX
theorem acr(a:BR)(h:okR a):Con Tryz.prog 141 [.d tR a] [.d .bool (decide (ae a=0))]:=by
 refine aO F8 (asr _ ⟨0,?_⟩)
 unfold afa
 rw[dT h]
 simp only[aE]
def anT:Ctx:=CX Tz []
def afm(_k:KT):OLR:=match decide (bU (0:Int))with|true=>some [RV.d tCU (false,((hid (ai ((0:Int):Rat)),(hid (ai ((0:Int):Rat)),hid (ai ((0:Int):Rat)))),((hid (ai ((0:Int):Rat)),(hid (ai ((0:Int):Rat)),hid (ai ((0:Int):Rat)))),(false,((((false,[]),(false,[])),(((false,[]),(false,[])),(((false,[]),(false,[])),(((false,[]),(false,[])),((false,[]),(false,[])))))),(((false,[]),(false,[])),(((false,[]),(false,[])),(((false,[]),(false,[])),(((false,[]),(false,[])),((false,[]),(false,[])))))))))))]|false=>none
theorem asu:RS anT 77 [] (afm):=rsX
theorem acj:Con Tryz.prog 77 [] [.d tCU c0M]:=by
 refine aO F8 (asu ⟨0,?_⟩)
 unfold afm c0M l0B
 rw[dT (show bU 0 by decide)]
 simp only[am]
 rfl
def XC:aM:=spN true true [tR] (fun x=>decide (okR x.1)) (fun x=>[RV.d .bool (decide (ae x.1=0))])
theorem ZQ:SpK 141 XC:=spX fun x h=>acr x.1 (auN h)
def Sm:Env:=[(142,DD),(139,CY),(140,CO),(143,Jt),(141,XC)]
theorem Gi:EnvAll Tryz.prog Sm:=⟨yV,zJ,yF,Fp,ZQ,trivial⟩
def arP:Ctx:=CX Sm []
def ah2(a b:BV)(_k:KT):OLR:=match decide (okR a.2∧okR b.2)with|true=>(match decide (okR b.1∧okR a.1)with|true=>(match decide (okR (hid (ai (ae a.2-ae b.2))))with|true=>(match decide (ae (hid (ai (ae a.2-ae b.2)))=0)with|true=>(match decide (okR (hid (ai (ae b.1-ae a.1))))with|true=>(match decide (ae (hid (ai (ae b.1-ae a.1)))=0)with|true=>some [RV.d tO (((false,[]),(false,[])),(((false,[]),(false,[])),((false,[]),(false,[])))),RV.d ayb 6]|false=>(match decide (okR (hid (ai (ae a.2-ae b.2)))∧okR a.1)with|true=>(match decide (okR (hid (ai (ae b.1-ae a.1)))∧okR a.2)with|true=>(match decide (okR (hid (ai (ae (hid (ai (ae a.2-ae b.2)))*ae a.1)))∧okR (hid (ai (ae (hid (ai (ae b.1-ae a.1)))*ae a.2))))with|true=>some [RV.d tO (hid (ai (ae a.2-ae b.2)),(hid (ai (ae b.1-ae a.1)),hid (ai (ae (hid (ai (ae (hid (ai (ae a.2-ae b.2)))*ae a.1)))+ae (hid (ai (ae (hid (ai (ae b.1-ae a.1)))*ae a.2))))))),RV.d ayb 0]|false=>none)|false=>none)|false=>none))|false=>none)|false=>(match decide (okR (hid (ai (ae a.2-ae b.2)))∧okR a.1)with|true=>(match decide (okR (hid (ai (ae b.1-ae a.1)))∧okR a.2)with|true=>(match decide (okR (hid (ai (ae (hid (ai (ae a.2-ae b.2)))*ae a.1)))∧okR (hid (ai (ae (hid (ai (ae b.1-ae a.1)))*ae a.2))))with|true=>some [RV.d tO (hid (ai (ae a.2-ae b.2)),(hid (ai (ae b.1-ae a.1)),hid (ai (ae (hid (ai (ae (hid (ai (ae a.2-ae b.2)))*ae a.1)))+ae (hid (ai (ae (hid (ai (ae b.1-ae a.1)))*ae a.2))))))),RV.d ayb 0]|false=>none)|false=>none)|false=>none))|false=>none)|false=>none)|false=>none
theorem aob(a b:BV):RS arP 79 [.d tV a,.d tV b] (ah2 a b):=rsX
theorem aaH(a b:BV)(h:ok (Rat×Rat) 100 a∧ok (Rat×Rat) 100 b):Con Tryz.prog 79 [.d tV a,.d tV b] [.d tO (AC (dec a) (dec b)),.d ayb (AJ (dec a) (dec b))]:=by
 refine aO Gi (aob _ _ ⟨0,?_⟩)
 obtain⟨ha,hb⟩:=h
 obtain⟨a,rfl,ba⟩:=aY ha
 obtain⟨b,rfl,bb⟩:=aY hb
 unfold ah2 AC AJ uf
 simp only[am,aq,aH,aI,aF,az,aZ,auR,auT,Nat.reduceAdd,Nat.reduceLeDiff]
 cases decide (a.2-b.2=0)<;>cases decide (b.1-a.1=0)<;>rfl
def am4:Ctx:=CX Sm []
def af7(a b c:BV)(_k:KT):OLR:=let y1:=hid (ai (ae b.1-ae a.1));let y2:=hid (ai (ae c.2-ae a.2));let y3:=hid (ai (ae b.2-ae a.2));let y4:=hid (ai (ae c.1-ae a.1));let y5:=hid (ai (ae y1*ae y2));let y6:=hid (ai (ae y3*ae y4));let y7:=hid (ai (ae y5-ae y6));let y8:=hid (ai (ae y1*ae y1));let y9:=hid (ai (ae y3*ae y3));let y10:=hid (ai (ae y4*ae y4));let y11:=hid (ai (ae y2*ae y2));let y12:=hid (ai (ae y8+ae y9));let y13:=hid (ai (ae y10+ae y11));let y14:=hid (ai (ae y12*ae y2));let y15:=hid (ai (ae y13*ae y3));let y16:=hid (ai (ae y14-ae y15));let y17:=hid (ai (ae y7+ae y7));let y18:=hid (ai (ae y13*ae y1));let y19:=hid (ai (ae y12*ae y4));let y20:=hid (ai (ae y18-ae y19));let y21:=hid (ai (ae y16/ae y17));let y22:=hid (ai (ae y20/ae y17));let y23:=hid (ai (ae y21*ae y21));let y24:=hid (ai (ae y22*ae y22));match decide (okR b.1∧okR a.1)with|true=>(match decide (okR b.2∧okR a.2)with|true=>(match decide (okR c.1∧okR a.1)with|true=>(match decide (okR c.2∧okR a.2)with|true=>(match decide (okR y1∧okR y2)with|true=>(match decide (okR y3∧okR y4)with|true=>(match decide (okR y5∧okR y6)with|true=>(match decide (okR y7)with|true=>(match decide (ae y7=0)with|true=>some [RV.d tO (((false,[]),(false,[])),(((false,[]),(false,[])),((false,[]),(false,[])))),RV.d ayb 6]|false=>(match decide (okR y7∧okR y7)with|true=>(match decide (okR y1∧okR y1)with|true=>(match decide (okR y3∧okR y3)with|true=>(match decide (okR y8∧okR y9)with|true=>(match decide (okR y4∧okR y4)with|true=>(match decide (okR y2∧okR y2)with|true=>(match decide (okR y10∧okR y11)with|true=>(match decide (okR y12∧okR y2)with|true=>(match decide (okR y13∧okR y3)with|true=>(match decide (okR y14∧okR y15)with|true=>(match decide (gb y16 y17)with|true=>(match decide (okR y13∧okR y1)with|true=>(match decide (okR y12∧okR y4)with|true=>(match decide (okR y18∧okR y19)with|true=>(match decide (gb y20 y17)with|true=>(match decide (okR a.1∧okR y21)with|true=>(match decide (okR a.2∧okR y22)with|true=>(match decide (okR y21∧okR y21)with|true=>(match decide (okR y22∧okR y22)with|true=>(match decide (okR y23∧okR y24)with|true=>some [RV.d tO (hid (ai (ae a.1+ae y21)),(hid (ai (ae a.2+ae y22)),hid (ai (ae y23+ae y24)))),RV.d ayb 0]|false=>none)|false=>none)|false=>none)|false=>none)|false=>none)|false=>none)|false=>none)|false=>none)|false=>none)|false=>none)|false=>none)|false=>none)|false=>none)|false=>none)|false=>none)|false=>none)|false=>none)|false=>none)|false=>none)|false=>none))|false=>none)|false=>none)|false=>none)|false=>none)|false=>none)|false=>none)|false=>none)|false=>none
theorem anY(a b c:BV):RS am4 73 [.d tV a,.d tV b,.d tV c] (af7 a b c):=rsX
theorem aep(a b c:BV)(h:ok (Rat×Rat) 100 a∧ok (Rat×Rat) 100 b∧ok (Rat×Rat) 100 c):Con Tryz.prog 73 [.d tV a,.d tV b,.d tV c] [.d tO (AI (dec a) (dec b) (dec c)),.d ayb (AE (dec a) (dec b) (dec c))]:=by
 refine aO Gi (anY _ _ _ ⟨0,?_⟩)
 obtain⟨ha,hb,hc⟩:=h
 obtain⟨a,rfl,ba⟩:=aY ha
 obtain⟨b,rfl,bb⟩:=aY hb
 obtain⟨c,rfl,bc⟩:=aY hc
 have e0:(b.1-a.1)*(c.2-a.2)-(b.2-a.2)*(c.1-a.1)=dq a b c:=rfl
 have bD:Bd (dq a b c) 805:=inferInstanceAs (Bd ((b.1-a.1)*(c.2-a.2)-(b.2-a.2)*(c.1-a.1)) _)
 have eX:(((b.1-a.1)*(b.1-a.1)+(b.2-a.2)*(b.2-a.2))*(c.2-a.2)-((c.1-a.1)*(c.1-a.1)+(c.2-a.2)*(c.2-a.2))*(b.2-a.2))/(dq a b c+dq a b c)=wa a b c:=rfl
 have eY:(((c.1-a.1)*(c.1-a.1)+(c.2-a.2)*(c.2-a.2))*(b.1-a.1)-((b.1-a.1)*(b.1-a.1)+(b.2-a.2)*(b.2-a.2))*(c.1-a.1))/(dq a b c+dq a b c)=u9 a b c:=rfl
 have m1:Bd ((b.1-a.1)*(b.1-a.1)+(b.2-a.2)*(b.2-a.2)) _:=inferInstance
 have m2:Bd ((c.1-a.1)*(c.1-a.1)+(c.2-a.2)*(c.2-a.2)) _:=inferInstance
 have n1:Bd (((b.1-a.1)*(b.1-a.1)+(b.2-a.2)*(b.2-a.2))*(c.2-a.2)-((c.1-a.1)*(c.1-a.1)+(c.2-a.2)*(c.2-a.2))*(b.2-a.2)) _:=inferInstance
 have n2:Bd (((c.1-a.1)*(c.1-a.1)+(c.2-a.2)*(c.2-a.2))*(b.1-a.1)-((b.1-a.1)*(b.1-a.1)+(b.2-a.2)*(b.2-a.2))*(c.1-a.1)) _:=inferInstance
 have bX0:Bd ((((b.1-a.1)*(b.1-a.1)+(b.2-a.2)*(b.2-a.2))*(c.2-a.2)-((c.1-a.1)*(c.1-a.1)+(c.2-a.2)*(c.2-a.2))*(b.2-a.2))/(dq a b c+dq a b c)) _:=inferInstance
 have bX:Bd (wa a b c) 4000:=by rw[←eX];exact bX0.mono (by decide)
 have bY0:Bd ((((c.1-a.1)*(c.1-a.1)+(c.2-a.2)*(c.2-a.2))*(b.1-a.1)-((b.1-a.1)*(b.1-a.1)+(b.2-a.2)*(b.2-a.2))*(c.1-a.1))/(dq a b c+dq a b c)) _:=inferInstance
 have bY:Bd (u9 a b c) 4000:=by rw[←eY];exact bY0.mono (by decide)
 unfold af7 AI AE
 simp only[am,aq,aH,aI,aF,az,aZ,auR,auT,Nat.reduceAdd,Nat.reduceLeDiff,e0]
 by_cases hd:dq a b c=0
 ·rw[auO hd]
  rfl
 ·have h2:dq a b c+dq a b c≠0:=by grind
  rw[auQ hd]
  simp only[aC,Nat.reduceAdd,Nat.reduceLeDiff,cond_false,h2,ne_eq,awI,eX,eY]
  rfl
def X3:aM:=spN false true [] (fun _=>true) (fun _=>[RV.d tCU (hid (c0M))])
theorem Sa:SpK 77 X3:=spX fun _ _=>by simp only[am];exact acj
def Yw:aM:=spN false true [tV,tV] (fun x=>decide (ok (Rat×Rat) 100 x.1∧ok (Rat×Rat) 100 x.2.1)) (fun x=>[RV.d tO (hid (AC (dec x.1) (dec x.2.1))),RV.d ayb (AJ (dec x.1) (dec x.2.1))])
theorem Q9:SpK 79 Yw:=spX fun x h=>by simp only[am];exact aaH x.1 x.2.1 (auN h)
def Wc:aM:=spN false true [tV,tV,tV] (fun x=>decide (ok (Rat×Rat) 100 x.1∧ok (Rat×Rat) 100 x.2.1∧ok (Rat×Rat) 100 x.2.2.1)) (fun x=>[RV.d tO (hid (AI (dec x.1) (dec x.2.1) (dec x.2.2.1))),RV.d ayb (AE (dec x.1) (dec x.2.1) (dec x.2.2.1))])
theorem Ud:SpK 73 Wc:=spX fun x h=>by simp only[am];exact aep x.1 x.2.1 x.2.2.1 (auN h)
def Mj:Env:=[(74,l4),(76,kC),(75,n6),(78,CK),(77,X3),(79,Yw),(73,Wc),(80,Jw)]
theorem Aa:EnvAll Tryz.prog Mj:=⟨il,gk,jE,yL,Sa,Q9,Ud,Gr,trivial⟩
def amy:Ctx:=CX Mj []
def Us(a b:BV)(_k:KT):OLR:=match decide (ok (Rat×Rat) 100 a∧ok (Rat×Rat) 100 b)with|true=>(match(AJ (dec a) (dec b)) !=0 with|true=>some [RV.d tCU (false,((((false,[]),(false,[])),(((false,[]),(false,[])),((false,[]),(false,[])))),((((false,[]),(false,[])),(((false,[]),(false,[])),((false,[]),(false,[])))),(false,((((false,[]),(false,[])),(((false,[]),(false,[])),(((false,[]),(false,[])),(((false,[]),(false,[])),((false,[]),(false,[])))))),(((false,[]),(false,[])),(((false,[]),(false,[])),(((false,[]),(false,[])),(((false,[]),(false,[])),((false,[]),(false,[]))))))))))),RV.d ayb 6]|false=>(match decide (ok (Rat×Rat) 100000 a)with|true=>(match decide (ok (Rat×Rat) 100000 b)with|true=>some [RV.d tCU (false,(hid (AC (dec a) (dec b)),((((hid (c0M)).2).2).1,(false,(hid (enc (atP (dec a))),hid (enc (atP (dec b)))))))),RV.d ayb 0]|false=>none)|false=>none))|false=>none
theorem am1(a b:BV):RS amy 33 [.d tV a,.d tV b] (Us a b):=rsX
theorem XK(a b:BV)(h:ok (Rat×Rat) 100 a∧ok (Rat×Rat) 100 b):Con Tryz.prog 33 [.d tV a,.d tV b] [.d tCU (Ol (dec a) (dec b)),.d ayb (oI (dec a) (dec b))]:=by
 refine aO Aa (am1 _ _ ⟨0,?_⟩)
 obtain⟨ha,hb⟩:=h
 obtain⟨a,rfl,ba⟩:=aY ha
 obtain⟨b,rfl,bb⟩:=aY hb
 unfold Us Ol oI AJ AC
 simp only[am,aq,okd,auR,auT,Nat.reduceLeDiff]
 cases uf a b<;>rfl
def aip:Ctx:=CX Mj []
def Rs(a b c:BV)(_k:KT):OLR:=match decide (ok (Rat×Rat) 100 a∧ok (Rat×Rat) 100 b∧ok (Rat×Rat) 100 c)with|true=>(match(AE (dec a) (dec b) (dec c)) !=0 with|true=>some [RV.d tCU (false,((((false,[]),(false,[])),(((false,[]),(false,[])),((false,[]),(false,[])))),((((false,[]),(false,[])),(((false,[]),(false,[])),((false,[]),(false,[])))),(false,((((false,[]),(false,[])),(((false,[]),(false,[])),(((false,[]),(false,[])),(((false,[]),(false,[])),((false,[]),(false,[])))))),(((false,[]),(false,[])),(((false,[]),(false,[])),(((false,[]),(false,[])),(((false,[]),(false,[])),((false,[]),(false,[]))))))))))),RV.d ayb 6]|false=>(match decide (okR b.1∧okR a.1)with|true=>(match decide (okR b.2∧okR a.2)with|true=>(match decide (okR c.1∧okR a.1)with|true=>(match decide (okR c.2∧okR a.2)with|true=>(match decide (okR (hid (ai (ae b.1-ae a.1)))∧okR (hid (ai (ae c.2-ae a.2))))with|true=>(match decide (okR (hid (ai (ae b.2-ae a.2)))∧okR (hid (ai (ae c.1-ae a.1))))with|true=>(match decide (okR (hid (ai (ae (hid (ai (ae b.1-ae a.1)))*ae (hid (ai (ae c.2-ae a.2))))))∧okR (hid (ai (ae (hid (ai (ae b.2-ae a.2)))*ae (hid (ai (ae c.1-ae a.1)))))))with|true=>(match decide (ok (Rat×Rat) 100000 a)with|true=>(match decide (ok (Rat×Rat) 100000 c)with|true=>some [RV.d tCU (true,(((hid (c0M)).2).1,(hid (AI (dec a) (dec b) (dec c)),(!(decide ((aR (ae (hid (ai (ae (hid (ai (ae b.1-ae a.1)))*ae (hid (ai (ae c.2-ae a.2))))))) (ae (hid (ai (ae (hid (ai (ae b.2-ae a.2)))*ae (hid (ai (ae c.1-ae a.1))))))))>0)),(hid (enc (atP (dec a))),hid (enc (atP (dec c)))))))),RV.d ayb 0]|false=>none)|false=>none)|false=>none)|false=>none)|false=>none)|false=>none)|false=>none)|false=>none)|false=>none))|false=>none
theorem aiD(a b c:BV):RS aip 31 [.d tV a,.d tV b,.d tV c] (Rs a b c):=rsX
theorem Wy(a b c:BV)(h:ok (Rat×Rat) 100 a∧ok (Rat×Rat) 100 b∧ok (Rat×Rat) 100 c):Con Tryz.prog 31 [.d tV a,.d tV b,.d tV c] [.d tCU (P3 (dec a) (dec b) (dec c)),.d ayb (oK (dec a) (dec b) (dec c))]:=by
 refine aO Aa (aiD _ _ _ ⟨0,?_⟩)
 obtain⟨ha,hb,hc⟩:=h
 obtain⟨a,rfl,ba⟩:=aY ha
 obtain⟨b,rfl,bb⟩:=aY hb
 obtain⟨c,rfl,bc⟩:=aY hc
 unfold Rs P3 oK rH
 simp only[am,aq,aH,aI,aF,az,okd,aZ,auR,auT,Nat.reduceAdd,Nat.reduceLeDiff,aL]
 unfold AE AI
 cases decide (dq a b c=0)<;>rfl
def ar4:Ctx:=CX Mj []
def ag0(c:BO3)(_k:KT):OLR:=match decide (bW c)with|true=>dup (.b .l .l) (some [RV.new 43 tCU ([(true,(((hid (c0M)).2).1,(c,(false,(hid (enc (td (dec c))),hid (enc (tF (dec c)))))))),(true,(((hid (c0M)).2).1,(c,(false,(hid (enc (tF (dec c))),hid (enc (td (dec c))))))))])])|false=>none
theorem apt(c:BO3):RS ar4 34 [.d tO c] (ag0 c):=rsX
theorem ab0(c:BO3)(h:bW c):Con Tryz.prog 34 [.d tO c] [.d (.sl tCU) (YR c)]:=by
 refine Con.new_d (et:=43) (aO Aa (apt _ ⟨0,?_⟩))
 unfold ag0
 rw[dT h]
 simp only[am,aN]
 rfl
def Mt:aM:=spN false true [tV,tV] (fun x=>decide (ok (Rat×Rat) 100 x.1∧ok (Rat×Rat) 100 x.2.1)) (fun x=>[RV.d tCU (hid (Ol (dec x.1) (dec x.2.1))),RV.d ayb (oI (dec x.1) (dec x.2.1))])
theorem Pv:SpK 33 Mt:=spX fun x h=>by simp only[am];exact XK x.1 x.2.1 (auN h)
def Ma:aM:=spN false true [tV,tV,tV] (fun x=>decide (ok (Rat×Rat) 100 x.1∧ok (Rat×Rat) 100 x.2.1∧ok (Rat×Rat) 100 x.2.2.1)) (fun x=>[RV.d tCU (hid (P3 (dec x.1) (dec x.2.1) (dec x.2.2.1))),RV.d ayb (oK (dec x.1) (dec x.2.1) (dec x.2.2.1))])
theorem Qj:SpK 31 Ma:=spX fun x h=>by simp only[am];exact Wy x.1 x.2.1 x.2.2.1 (auN h)
def Tg:aM:=spN false true [tO] (fun x=>decide (bW x.1)) (fun x=>[RV.d (.sl tCU) (YR x.1)])
theorem XR:SpK 34 Tg:=spX fun x h=>ab0 x.1 (auN h)
section
namespace RE
abbrev PE:=RE×RE
def crs(u w:PE):RE:=u.1*w.2-u.2*w.1
def atk(a b c:Int):Bool:=bif decide (0≤a)then decide (0≤b)&&decide (0≤c)else !(decide (c<0)&&decide (b<0))
theorem sub_zero(x:RE):x-0=x:=by
 induction x using auM
 exact snd fun n=>by
  simp only[RL.add,RL.neg,RL.const]
  grind
theorem zero_sub(x:RE):0-x= -x:=by
 induction x using auM
 exact snd fun n=>by
  simp only[RL.add,RL.neg,RL.const]
  grind
theorem D7(x y:RE):((x-(y)))+((0-(x-y)))=0:=by
 induction x using auM
 induction y using auM
 exact snd fun n=>by
  simp only[RL.add,RL.neg,RL.const]
  grind
theorem J8(x y:RE)(h1:x-y=0):x≤y:=fun hg=>far (aT (aX hg) (aQ (jw h1))) (D7 x y)
theorem C9(x y:RE):((y-(x)))+((x-y-(0)))=0:=by
 induction x using auM
 induction y using auM
 exact snd fun n=>by
  simp only[RL.add,RL.neg,RL.const]
  grind
theorem IX(x y:RE)(h1:x-y=0):y≤x:=fun hg=>far (aT (aX hg) (aQ (iy h1))) (C9 x y)
theorem Cc(x y:RE)(h1:x-y=0):x=y:=le_antisymm (J8 x y h1) (IX x y h1)
section
variable {u w:PE} {Q:RE} {L:List RE}
end
def frm(c:Ln)(p:PE):PE:=(p.1-of c.1,p.2-of c.2.1)
def atV(u w z:PE):Bool:=atk (sg (crs u w)) (sg (crs u z)) (sg (crs z w))
def pz(c:Ln)(p:PE):Prop:=(frm c p).1*(frm c p).1+(frm c p).2*(frm c p).2=of c.2.2
def oJ(l:Ln)(p:PE):Prop:=of l.1*p.1+of l.2.1*p.2=of l.2.2
def tE(l:Ln)(p:PE):RE:= -of l.2.1*p.1+of l.1*p.2
def oK(c:Ln)(F T p:PE):Prop:=pz c p∧atV (frm c F) (frm c T) (frm c p)=true
def btE(a b x:RE):Prop:=(a≤x∧x≤b)∨(b≤x∧x≤a)
def oI(l:Ln)(F T p:PE):Prop:=oJ l p∧btE (tE l F) (tE l T) (tE l p)
structure GdE (c:Cv):Prop where
 f:Rpd (frC c)
 t:Rpd (toC c)
 ne:pR (frC c)≠pR (toC c)
 q:c.1=true→0<(ciC c).2.2∧onCi (ciC c) (frC c)∧onCi (ciC c) (toC c)
 l:c.1=false→((lnC c).1≠0∨(lnC c).2.1≠0)∧aih (lnC c) (frC c)∧aih (lnC c) (toC c)
theorem wX{c:Ln}{p:Pt}[Rpd p]:(nS c p==0)=true↔pz c (pR p):=by
 rw[avQ]
 refine⟨fun h=>ins_on h,fun h=>?_⟩
 rw[Ei]
 have:(pX p-of c.1)*(pX p-of c.1)+(pY p-of c.2.1)*(pY p-of c.2.1)=of c.2.2:=h
 rw[this,qZ,eP]
 rfl
theorem L7{l:Ln}{p:Pt}[Rpd p]:(pN l p==0)=true↔oJ l (pR p):=by
 rw[avQ]
 refine⟨fun h=>Ja h,fun h=>?_⟩
 rw[DU]
 have:of l.1*pX p+of l.2.1*pY p=of l.2.2:=h
 rw[this,qZ,eP]
end RE
end
instance aoe:Bd (-1:Rat) 3:=fS (n:= -1) (by decide)
theorem Dn{v:Rat×Rat}{j k:Nat}[h:Bd v j](hj:mx j (mx 1 (mx j (mx 1 1)))≤k)(hk:k≤480000):okP k (enc (atP v)):=auN (bG (x:=atP v) hj hk)
section
namespace RE
theorem cmpP_0{p q:Pt}[Rpd p][Rpd q]:aV p q=0↔pR p=pR q:=by
 rw[lQ]
 obtain⟨h1,h2,h3⟩:=ij (pR p) (pR q)
 rcases jM.tri (pR p) (pR q)with h|h|h
 ·rw[h1 h]
  exact⟨fun e=>absurd e (by decide),fun e=>absurd h (by rw[e];exact jM.irr _)⟩
 ·exact⟨fun _=>h,fun _=>h2 h⟩
 ·rw[h3 h]
  exact⟨fun e=>absurd e (by decide),fun e=>absurd h (by rw[e];exact jM.irr _)⟩
theorem wv(v:Rat×Rat):pR (atP v)=(of v.1,of v.2):=axg (aru v) (ar0 v)
theorem V1{ax bx c:Rat}(h:fF c=true):of (ax+bx*rtQ c)=v2 ax bx c:=by
 unfold v2
 rw[of_add,bR,VF h]
theorem vi(ax bx ay b_ c:Rat):pR (nq ax bx ay b_ c)=(v2 ax bx c,v2 ay b_ c):=by
 unfold nq
 cases h:fF c
 ·rfl
 ·exact(wv _).trans (axg (V1 h) (V1 h))
theorem akA(a b r:RE):(a+ -1*r-a)*(a+ -1*r-a)+(b+0*r-b)*(b+0*r-b)=r*r:=by
 induction a using auM
 induction b using auM
 induction r using auM
 exact snd fun n=>by
  simp only[RL.add,RL.mul,RL.neg,RL.const]
  grind
theorem acS(a b r:RE):(a+1*r-a)*(a+1*r-a)+(b+0*r-b)*(b+0*r-b)=r*r:=by
 induction a using auM
 induction b using auM
 induction r using auM
 exact snd fun n=>by
  simp only[RL.add,RL.mul,RL.neg,RL.const]
  grind
theorem Ps(a r:RE):of 2*((r-(0)))+((a+ -1*r-(a+1*r)))=0:=by
 induction a using auM
 induction r using auM
 exact snd fun n=>by
  simp only[RL.add,RL.mul,RL.neg,RL.const]
  grind
theorem aaT(a r:RE)(h1:a+ -1*r=a+1*r):r≤0:=fun hg=>far (aT (w7 (by decide+kernel:(0:Rat)<2) (aX hg)) (aQ (iy h1))) (Ps a r)
theorem NH(a r:RE):of 2*((0-(r)))+((a+1*r-(a+ -1*r)))=0:=by
 induction a using auM
 induction r using auM
 exact snd fun n=>by
  simp only[RL.add,RL.mul,RL.neg,RL.const]
  grind
theorem ac6(a r:RE)(h1:a+ -1*r=a+1*r):0≤r:=fun hg=>far (aT (w7 (by decide+kernel:(0:Rat)<2) (aX hg)) (aQ (jw h1))) (NH a r)
theorem amj(a r:RE)(h1:a+ -1*r=a+1*r):r=0:=le_antisymm (aaT a r h1) (ac6 a r h1)
theorem alL{c:Ln}(h:0<c.2.2):pz c (pR (ro c))∧pz c (pR (rB c)):=by
 have hr:=pV (show 0≤c.2.2 by grind)
 unfold ro rB
 rw[vi,vi]
 exact⟨(akA _ _ _).trans hr,(acS _ _ _).trans hr⟩
theorem aca{c:Ln}(h:0<c.2.2):pR (ro c)≠pR (rB c):=by
 unfold ro rB
 rw[vi,vi]
 intro e
 have e1:=amj _ _ (congrArg Prod.fst e)
 have hr:=pV (show 0≤c.2.2 by grind)
 rw[e1,mul_zero]at hr
 have:=Jy hr
 grind
theorem RG{l:Ln}{v:Rat×Rat}(h:l.1*v.1+l.2.1*v.2=l.2.2):(pN l (atP v)==0)=true:=by
 rw[L7,wv]
 exact congrArg of h
theorem Wd{c:Ln}{v:Rat×Rat}(h:(v.1-c.1)*(v.1-c.1)+(v.2-c.2.1)*(v.2-c.2.1)=c.2.2):(nS c (atP v)==0)=true:=by
 rw[wX,wv]
 unfold pz frm
 dsimp only
 rw[←of_sub,←of_sub]
 exact congrArg of h
theorem agl{v w:Rat×Rat}(h:v≠w):aV (atP v) (atP w)≠0:=fun e=>h (by
 have:=cmpP_0.1 e
 rw[wv,wv]at this
 exact axg (Jy (congrArg Prod.fst this)) (Jy (congrArg Prod.snd this)))
end RE
open RE
def gdN(c:BCU):Prop:=mG c∧em (dC c) (frC (dC c))=true∧em (dC c) (toC (dC c))=true∧aV (frC (dC c)) (toC (dC c))≠0
theorem gdN.gd{c:BCU}(h:gdN c):gdC c:=⟨h.1.1,h.2.1,h.2.2.1⟩
theorem akn{a b:Rat×Rat}[ba:Bd a 1][bb:Bd b 1](h:uf a b=false):gdN (AA a b):=by
 have hz:(r7 a b).1≠0∨(r7 a b).2.1≠0:=by
  unfold uf at h
  by_cases e:a.2-b.2=0
  ·rw[auO e,auS]at h
   exact .inr (av0 h)
  ·exact .inl e
 have hne:a≠b:=fun e=>by
  subst e
  unfold r7 at hz
  rcases hz with h|h<;>exact h (by show _-_=(0:Rat);grind)
 have b1:Bd (r7 a b).1 12:=(inferInstance:Bd (a.2-b.2) _).mono (by decide)
 have b2:Bd (r7 a b).2.1 12:=(inferInstance:Bd (b.1-a.1) _).mono (by decide)
 have b3:Bd (r7 a b).2.2 63:=(inferInstance:Bd ((a.2-b.2)*a.1+(b.1-a.1)*a.2) _).mono (by decide)
 have hl:=ku (h:=⟨b1,b2,b3⟩) hz
 have hL:Hr (enc (r7 a b)):=⟨auN (okd (x:=r7 a b) (by decide) (by decide)),by rw[aq];exact hz⟩
 unfold AA
 rw[h]
 refine⟨⟨⟨fun e=>(by cases e),fun _=>hL,Dn (by decide) (by decide),Dn (by decide) (by decide)⟩,fun e=>(by cases e),fun _=>hl⟩,?_⟩
 simp only[dC,em,frC,toC,lnC,aq,cond_false]
 exact⟨RG (by unfold r7;grind),RG (by unfold r7;grind),agl hne⟩
theorem amA{c:Ln}[bc:BdC c](h:0<c.2.2):∀d∈Ea (enc c),gdN d:=by
 have hs:=gL h
 have bx:=bc.x
 have b_:=bc.y
 have bq:=bc.q
 have b0:Bd (0:Rat) 3:=fS (n:=0) (by decide)
 have b1:Bd (1:Rat) 3:=fS (n:=1) (by decide)
 have hC:uo (enc c):=⟨auN (okd (h:=I5 (c:=c)) (by decide) (by decide)),by rw[aq];exact h⟩
 have q0:(0:Rat)≤c.2.2:=by grind
 have pl:Rpd (ro c):=Eb (fun e=>absurd e.1 (by decide)) q0
 have pr:Rpd (rB c):=Eb (fun e=>absurd e.1 (by decide)) q0
 have bl:Bd (ro c) 490:=Eo (bx.mono (by decide:4≤4)) (aoe.mono (by decide:3≤3)) b_ b0 bq (by decide)
 have br:Bd (rB c) 490:=Eo (bx.mono (by decide:4≤4)) b1 b_ b0 bq (by decide)
 have ol:okP 500 (enc (ro c)):=auN (bG (by decide) (by decide))
 have or_:okP 500 (enc (rB c)):=auN (bG (by decide) (by decide))
 obtain⟨nl,nr_⟩:=alL h
 have nl:=wX.2 nl
 have nr_:=wX.2 nr_
 have ne:=aca h
 intro d hd
 have:d=(true,o00,enc c,false,enc (ro c),enc (rB c))∨d=(true,o00,enc c,false,enc (rB c),enc (ro c)):=by
  unfold Ea at hd
  rw[aq]at hd
  simpa using hd
 rcases this with e|e<;>rw[e]
 ·refine⟨⟨⟨fun _=>hC,fun e=>(by cases e),ol,or_⟩,fun _=>hs,fun e=>(by cases e)⟩,?_⟩
  simp only[dC,em,frC,toC,ciC,aq,cond_true]
  exact⟨nl,nr_,fun e=>ne (cmpP_0.1 e)⟩
 ·refine⟨⟨⟨fun _=>hC,fun e=>(by cases e),or_,ol⟩,fun _=>hs,fun e=>(by cases e)⟩,?_⟩
  simp only[dC,em,frC,toC,ciC,aq,cond_true]
  exact⟨nr_,nl,fun e=>ne (cmpP_0.1 e).symm⟩
theorem akb{a b c:Rat×Rat}(h:dq a b c≠0):(c.1-(pQ a b c).1)*(c.1-(pQ a b c).1)+(c.2-(pQ a b c).2.1)*(c.2-(pQ a b c).2.1)=(pQ a b c).2.2:=by
 have h2:dq a b c+dq a b c≠0:=by grind
 have eX:wa a b c*(dq a b c+dq a b c)=_:=avN h2
 have eY:u9 a b c*(dq a b c+dq a b c)=_:=avN h2
 unfold pQ
 dsimp only
 generalize wa a b c=X at*
 generalize u9 a b c=Y at*
 have k:dq a b c*(2*((c.1-a.1)*X+(c.2-a.2)*Y)-((c.1-a.1)*(c.1-a.1)+(c.2-a.2)*(c.2-a.2)))=0:=by
  unfold dq at*
  grind
 rcases aw9.1 k with g|g
 ·exact absurd g h
 ·grind
theorem aqW{a b c:Rat×Rat}(h:dq a b c≠0)(e:a=c):False:=by
 subst e
 refine h ?_
 unfold dq
 grind
theorem amK{a b c:Rat×Rat}[a1:Bb a.1 7 2][a2:Bb a.2 7 2][b1:Bb b.1 7 2][b2:Bb b.2 7 2][c1:Bb c.1 7 2][c2:Bb c.2 7 2]:BdC (pQ a b c):=by
 have d:Bb ((b.1-a.1)*(c.2-a.2)-(b.2-a.2)*(c.1-a.1)) _ _:=inferInstance
 have d:Bb (dq a b c) _ _:=d
 have X:Bb ((((b.1-a.1)*(b.1-a.1)+(b.2-a.2)*(b.2-a.2))*(c.2-a.2)-((c.1-a.1)*(c.1-a.1)+(c.2-a.2)*(c.2-a.2))*(b.2-a.2))/(dq a b c+dq a b c)) _ _:=inferInstance
 have X:Bb (wa a b c) _ _:=X
 have Y:Bb ((((c.1-a.1)*(c.1-a.1)+(c.2-a.2)*(c.2-a.2))*(b.1-a.1)-((b.1-a.1)*(b.1-a.1)+(b.2-a.2)*(b.2-a.2))*(c.1-a.1))/(dq a b c+dq a b c)) _ _:=inferInstance
 have Y:Bb (u9 a b c) _ _:=Y
 have x1:Bb (a.1+wa a b c) _ _:=inferInstance
 have x2:Bb (a.2+u9 a b c) _ _:=inferInstance
 have x3:Bb (wa a b c*wa a b c+u9 a b c*u9 a b c) _ _:=inferInstance
 exact⟨Fj (h:=x1) (by decide) (by decide),Fj (h:=x2) (by decide) (by decide),Fj (h:=x3) (by decide) (by decide)⟩
theorem A0{x y:Rat}(h:¬(x=0∧y=0)):0<x*x+y*y:=by
 have nn:∀a:Rat,0≤a*a:=fun a=>by
  rcases(by grind:0≤a∨0≤ -a)with h|h
  ·exact avI h h
  ·have:=avI h h;grind
 have h1:=nn x
 have h2:=nn y
 rcases(by grind:0<x*x+y*y∨(x*x=0∧y*y=0))with g|⟨g1,g2⟩
 ·exact g
 ·exact absurd ⟨by simpa using aw9.1 g1,by simpa using aw9.1 g2⟩ h
theorem alZ{a b c:Rat×Rat}[Bd a 1][Bd c 1][bc:BdC (pQ a b c)](h:dq a b c≠0):gdN (As a b c):=by
 have hon:=akb h
 have hne:a≠c:=fun e=>aqW h e
 have hq:0<(pQ a b c).2.2:=by
  refine A0 fun⟨e1,e2⟩=>hne ?_
  unfold pQ at hon
  dsimp only at hon
  rw[e1,e2]at hon
  by_cases g:c.1-(a.1+0)=0∧c.2-(a.2+0)=0
  ·obtain⟨g1,g2⟩:=g
   exact axg (by grind) (by grind)
  ·have:=A0 g
   grind
 have hs:=gL (h:=bc) hq
 have bx:=bc.x
 have b_:=bc.y
 have bq:=bc.q
 have hC:uo (enc (pQ a b c)):=⟨auN (okd (h:=I5 (c:=pQ a b c)) (by decide) (by decide)),by rw[aq];exact hq⟩
 unfold As
 rw[auQ h]
 refine⟨⟨⟨fun _=>hC,fun e=>(by cases e),Dn (by decide) (by decide),Dn (by decide) (by decide)⟩,fun _=>hs,fun e=>(by cases e)⟩,?_⟩
 simp only[dC,em,frC,toC,ciC,aq,cond_true,cond_false]
 refine⟨Wd ?_,Wd hon,agl hne⟩
 unfold pQ
 grind
theorem Fd{x:Dr}(h:AG x):∀c∈ofL x,gdN c:=by
 obtain⟨h1,h2,hA,hB,hC,hD,hE,hF⟩:=h
 have a1:Bb (drA x).1 7 2:=zi hA h2
 have a2:Bb (drA x).2 7 2:=zi hB h2
 have b1:Bb (drB x).1 7 2:=zi hC h2
 have b2:Bb (drB x).2 7 2:=zi hD h2
 have c1:Bb (drC x).1 7 2:=zi hE h2
 have c2:Bb (drC x).2 7 2:=zi hF h2
 have l:∀{q:Rat},Bb q 7 2→Bd q 1:=fun h=>Fj (h:=h) (by decide) (by decide)
 have m:∀v:Rat×Rat,Bb v.1 7 2→Bb v.2 7 2→Bd v 1:=fun v g g'=>by
  have:=l g
  have:=l g'
  exact inferInstanceAs (Bd (v.1,v.2) _)
 have vA:=m _ a1 a2
 have vB:=m _ b1 b2
 have vC:=m _ c1 c2
 intro c hc
 unfold ofL at hc
 cases h3:x.1%3==2
 ·rw[h3,cond_false]at hc
  cases h4:x.1%3==1
  ·rw[h4,cond_false]at hc
   cases h5:uf (drA x) (drB x)
   ·have:oI (drA x) (drB x)=0:=by unfold oI;rw[h5];rfl
    rw[this]at hc
    have:c=AA (drA x) (drB x):=by simpa using hc
    rw[this]
    exact akn h5
   ·have:oI (drA x) (drB x)=6:=by unfold oI;rw[h5];rfl
    rw[this]at hc
    cases hc
  ·rw[h4,cond_true]at hc
   by_cases h5:dq (drA x) (drB x) (drC x)=0
   ·have:oK (drA x) (drB x) (drC x)=6:=by unfold oK;rw[auO h5];rfl
    rw[this]at hc
    cases hc
   ·have:oK (drA x) (drB x) (drC x)=0:=by unfold oK;rw[auQ h5];rfl
    rw[this]at hc
    have:c=As (drA x) (drB x) (drC x):=by simpa using hc
    rw[this]
    have:=amK (a:=drA x) (b:=drB x) (c:=drC x)
    exact alZ h5
 ·rw[h3,cond_true]at hc
  by_cases h5:(drB x).1≤0
  ·rw[auO h5]at hc
   cases hc
  ·rw[auQ h5]at hc
   have bq:BdC (drQ x):=⟨(l a1).mono (by decide),(l a2).mono (by decide),(l b1).mono (by decide)⟩
   exact amA (c:=drQ x) (show 0<(drB x).1 by grind) c hc
end
def kI(c:BCU)(l:List BCU):List BP:=(l.map (rE c)).flatten
def uD(x:Pce):Prop:=AG x.1∧AG x.2.1∧u8P x.2.2
instance (x:Pce):Decidable (uD x):=by unfold uD;infer_instance
def Fl(x:Pce):List BCU:=match ofL x.1 with
 |[]=>[]
 |c::_=>kJ c (kI c (ofL x.2.1))
def rC(x:Pce):Bool:=!(ofL x.1).isEmpty
def aU(x:Pce):BCU:=bif rC x then(Fl x).getD (x.2.2%((Fl x).length:Int)).toNat c00 else c00
def afh:Env:=[(30,UL),(16,Sf),(18,Sw)]
theorem VE:EnvAll Tryz.prog afh:=⟨Sq,W8,TC,trivial⟩
def abc:NT:=[((9,18),{keep:=[1,2,4,5,6,7],own:=[(6,41,tP)],hl:=3})]
def JK:Ctx:=CX afh abc
def uq(x:Pce)(s7:Int)(r2:List BP):Cfg:=⟨9,[.blk 0,.seq 31],[(1,.box 0 0),(2,.box 1 0),(4,.d (.sl tCU) (ofL x.1)),(5,.d (.sl tCU) (ofL x.2.1)),(6,.own 2),(7,SI s7)],[.box 26 [.d (.int .u8) x.1.1,.d (.int .u8) x.1.2.1,.d (.int .i8) x.1.2.2.1,.d (.int .i8) x.1.2.2.2.1,.d (.int .i8) x.1.2.2.2.2.1,.d (.int .i8) x.1.2.2.2.2.2.1,.d (.int .i8) x.1.2.2.2.2.2.2.1,.d (.int .i8) x.1.2.2.2.2.2.2.2,.d (.int .u8) x.2.1.1,.d (.int .u8) x.2.1.2.1,.d (.int .i8) x.2.1.2.2.1,.d (.int .i8) x.2.1.2.2.2.1,.d (.int .i8) x.2.1.2.2.2.2.1,.d (.int .i8) x.2.1.2.2.2.2.2.1,.d (.int .i8) x.2.1.2.2.2.2.2.2.1,.d (.int .i8) x.2.1.2.2.2.2.2.2.2,.d (.int .u8) x.2.2],.box 43 [SB false,SB false,.nil,SB false,.nil,SB false,.nil,SB false,.nil,SB false,.nil,SB false,.nil,SB false,.nil,SB false,.nil,SB false,.nil,SB false,.nil,SB false,.nil,SB false,.nil,SB false,SB false,.nil,SB false,.nil,SB false,.nil,SB false,.nil,SB false,.nil,SB false,.nil,SB false,.nil,SB false,.nil,SB false,.nil,SB false,.nil,SB false,.nil,SB false,.nil,SB false,.nil,SB false,.nil,SB false,.nil,SB false,.nil,SB false,.nil,SB false,.nil,SB false,.nil,SB false,.nil],.row 41 tP r2],0,[]⟩
def Q1(x:Pce)(k:KT):OLR:=match decide (AG x.1)with|true=>(match decide (AG x.2.1)with|true=>(match((ofL x.1).length:Int)==0 with|true=>some [RV.d tCU (false,((((false,[]),(false,[])),(((false,[]),(false,[])),((false,[]),(false,[])))),((((false,[]),(false,[])),(((false,[]),(false,[])),((false,[]),(false,[])))),(false,((((false,[]),(false,[])),(((false,[]),(false,[])),(((false,[]),(false,[])),(((false,[]),(false,[])),((false,[]),(false,[])))))),(((false,[]),(false,[])),(((false,[]),(false,[])),(((false,[]),(false,[])),(((false,[]),(false,[])),((false,[]),(false,[]))))))))))),RV.d .bool false]|false=>k 18 (uq x 0 ([])))|false=>none)|false=>none
theorem ajy(x:Pce):RS JK 9 [.d ls x] (Q1 x):=rsX
def so(x:Pce)(s7:Int)(r2:List BP)(k:KT):OLR:=match decide (s7<((ofL x.2.1).length:Int))with|true=>(match bi (ofL x.1) 0 with|some x1=>(match bi (ofL x.2.1) s7 with|some x2=>(match decide (dQ x1 x2)with|true=>(match decide ((r2.length+(rE x1 x2).length)*320≤140737488355328∧r2.length+(rE x1 x2).length≤140737488355328)with|true=>k 18 (uq x (i64.wrap (s7+1)) (r2++(rE x1 x2)))|false=>none)|false=>none)|none=>none)|none=>none)|false=>(match bi (ofL x.1) 0 with|some x1=>(match decide (HM x1 r2)with|true=>(match decide (((kJ x1 r2).length:Int)=(0:Int))with|true=>none|false=>(match bi (kJ x1 r2) (Int.tmod (i64.wrap x.2.2) ((kJ x1 r2).length:Int))with|some x2=>some [RV.d tCU x2,RV.d .bool true]|none=>none))|false=>none)|none=>none)
theorem ya(x:Pce)(s7:Int)(r2:List BP):RN JK 18 (uq x s7 r2) (so x s7 r2):=rnX
theorem Dm{c d:BCU}(h:dQ c d):(rE c d).length≤4∧∀x∈rE c d,okP 500 x∧onR (dC c) (dec x)=true∧onR (dC d) (dec x)=true:=by
 obtain⟨h1,h2⟩:=Kk h
 unfold rE alk
 have h3:=tK (dC c) ((Hu c d).filter fun p=>onR (dC c) (dec p)&&onR (dC d) (dec p)) []
 have h4:=List.length_filter_le (fun p=>onR (dC c) (dec p)&&onR (dC d) (dec p)) (Hu c d)
 refine⟨by
  unfold eU
  rw[axQ,avw]at h3
  exact ava h3 (ava h4 h1),Lm fun x hx=>?_⟩
 obtain⟨g1,g2⟩:=awk.1 hx
 obtain⟨g3,g4⟩:=au6.1 g2
 exact⟨h2 x g1,g3,g4⟩
theorem Zl(c:Cv)(x:BP):∀r:List BP,r.length≤(fM c r x).length
 |[]=>by simp
 |z::r=>by
  have:=Zl c x r
  simp only[fM]
  cases decide (cj c (dec z) (dec x)<0)
  ·cases aV (dec z) (dec x)==0<;>simp
  ·simp only[cond_true,avc];omega
theorem Vl(c:Cv):∀(l out:List BP),out.length≤(l.foldl (fM c) out).length
 |[],_=>auY _
 |x::l,out=>ava (Zl c x out) (Vl c l _)
theorem Lg(c:BCU):∀s:List BP,(jG c s).length=s.length-1
 |[]=>rfl
 |[_]=>rfl
 |x::y::r=>by
  have:=Lg c (y::r)
  simp only[jG,avc]at this ⊢
  omega
theorem aea{c:BCU}(h:aV (dec c.2.2.2.2.1) (dec c.2.2.2.2.2)≠0)(l:List BP):2≤(vD c l).length:=by
 unfold vD eU
 refine ava ?_ (Vl (dC c) l _)
 simp only[fM]
 rw[awo.2 h]
 cases decide (cj (dC c) (dec c.2.2.2.2.1) (dec c.2.2.2.2.2)<0)<;>exact auY _
theorem Lw{c:BCU}(h:gdN c)(l:List BP):1≤(kJ c l).length∧(kJ c l).length≤l.length+1:=by
 have h1:=aea h.2.2.2 l
 have h2:=KH c l
 unfold kJ
 rw[Lg]
 omega
theorem acF{c:BCU}(h:gdN c){l:List BP}(hl:l.length≤900000)(ho:∀p∈l,okP 500 p∧onR (dC c) (dec p)=true):HM c l:=
 ⟨ck h.1.1 (by decide) (by decide),hl,fun x hx=>⟨db (ho x hx).1 (by decide) (by decide),(ho x hx).2⟩⟩
def gdM(c:BCU):Prop:=mG c∧em (dC c) (frC (dC c))=true∧em (dC c) (toC (dC c))=true
theorem gdM.gd{c:BCU}(h:gdM c):gdC c:=⟨h.1.1,h.2.1,h.2.2⟩
theorem gdN.m{c:BCU}(h:gdN c):gdM c:=⟨h.1,h.2.1,h.2.2.1⟩
theorem ala{c:BCU}(h:gdN c){l:List BP}(ho:∀p∈l,okP 500 p∧onR (dC c) (dec p)=true):∀p∈kJ c l,gdM p:=by
 intro p hp
 obtain⟨x,y,hx,hy,e⟩:=Ed hp
 have f:∀z,z∈vD c l→okP 500 z∧em (dC c) (dec z)=true:=fun z hz=>by
  rcases Mg hz with e|e|e
  ·rw[e];exact⟨h.1.1.2.2.1,h.2.1⟩
  ·rw[e];exact⟨h.1.1.2.2.2,h.2.2.1⟩
  ·exact⟨(ho z e).1,(au6.1 (ho z e).2).1⟩
 obtain⟨x1,x2⟩:=f x hx
 obtain⟨y1,y2⟩:=f y hy
 rw[e]
 exact⟨⟨⟨h.1.1.1,h.1.1.2.1,x1,y1⟩,h.1.2⟩,x2,y2⟩
theorem aiF(x:Dr):(ofL x).length≤2:=by
 unfold ofL
 cases x.1%3==2
 ·cases x.1%3==1
  ·cases oI (drA x) (drB x) !=0<;>simp
  ·cases oK (drA x) (drB x) (drC x) !=0<;>simp
 ·cases decide ((drB x).1≤0)
  ·unfold Ea;simp
  ·simp
theorem T8{c:BCU}(h:gdN c):∀{l:List BCU},(∀d∈l,gdN d)→(kI c l).length≤4*l.length∧∀p∈kI c l,okP 500 p∧onR (dC c) (dec p)=true
 |[],_=>⟨auY _,fun p hp=>by cases hp⟩
 |d::r,hd=>by
  obtain⟨i1,i2⟩:=T8 h (l:=r) (fun e he=>hd e (au4 _ he))
  obtain⟨m1,m2⟩:=Dm (show dQ c d from⟨h.1,(hd d (by simp)).1⟩)
  have e:kI c (d::r)=rE c d++kI c r:=rfl
  rw[e]
  refine⟨by rw[avv,avc];omega,fun p hp=>?_⟩
  rcases avj.1 hp with g|g
  ·exact⟨(m2 p g).1,(m2 p g).2.1⟩
  ·exact i2 p g
def ahu(x:Pce)(l:List BCU):BCU:=l.getD (x.2.2%(l.length:Int)).toNat c00
theorem aer(x:Pce)(h:uD x)(c:BCU)(hc:gdN c)(g0:bi (ofL x.1) 0=some c)(B:List BCU)(hB:ofL x.2.1=B)(gB:∀d∈B,gdN d)(lB:B.length≤2):∀(j i:Nat),i+j=B.length→∀r2:List BP,r2.length≤4*i→(∀p∈r2,okP 500 p∧onR (dC c) (dec p)=true)→
  JK.Runs 18 (uq x (i:Int) r2) [.d tCU (ahu x (kJ c (r2++kI c (B.drop i)))),.d .bool true]:=by
 intro j
 induction j with
 |zero=>
  intro i hi r2 hr ho
  refine ya _ _ _ ⟨0,?_⟩
  obtain⟨l1,l2⟩:=Lw hc r2
  have hs:=acF hc (l:=r2) (by omega) ho
  obtain⟨u1,u2⟩:=h.2.2
  have e1:Int.tmod (i64.wrap x.2.2) ((kJ c r2).length:Int)=x.2.2%((kJ c r2).length:Int):=by
   rw[bz (by omega) (by omega),Int.tmod_eq_emod_of_nonneg u1]
  have m0:=av4 x.2.2 (show((kJ c r2).length:Int)≠0 by omega)
  have m1:=avC x.2.2 (show 0<((kJ c r2).length:Int) by omega)
  obtain⟨k,hk⟩:=av7 m0
  have hkl:k<(kJ c r2).length:=by omega
  have hd:B.drop i=[]:=axC.2 (by omega)
  have hcut:kI c []=[]:=rfl
  unfold so
  rw[hB,cz (by omega),g0]
  dsimp only
  rw[dT hs,dF (show ¬((kJ c r2).length:Int)=0 by omega),e1,hk,aA,auP hkl,hd,hcut,avs]
  unfold ahu
  rw[hk,awH,List.getD_eq_getElem?_getD,auP hkl]
  rfl
 |succ j ih=>
  intro i hi r2 hr ho
  have hil:i<B.length:=by omega
  have hm:dQ c B[i]:=⟨hc.1,(gB _ (avu hil)).1⟩
  obtain⟨m1,m2⟩:=Dm hm
  obtain⟨n,hn⟩:=ih (i+1) (by omega) (r2++rE c B[i]) (by rw[avv];omega) (fun p hp=>by
   rcases avj.1 hp with g|g
   ·exact ho p g
   ·exact⟨(m2 p g).1,(m2 p g).2.1⟩)
  have hd:B.drop i=B[i]::B.drop (i+1):=avd hil
  have hcut:kI c (B[i]::B.drop (i+1))=rE c B[i]++kI c (B.drop (i+1)):=rfl
  refine ya _ _ _ ⟨n,?_⟩
  unfold so
  rw[hB,cd hil,g0,aA,auP hil]
  dsimp only
  rw[dT hm,dT (by omega),cr (by omega),hd,hcut,←avl]
  exact hn
theorem ZM(x:Pce)(h:uD x):Con Tryz.prog 9 [.d ls x] [.d tCU (aU x),.d .bool (rC x)]:=by
 have hB:=Fd h.2.1
 have hA:=Fd h.1
 refine aO VE (ajy _ ?_)
 unfold Q1 aU rC
 rw[dT h.1,dT h.2.1]
 cases hl:ofL x.1 with
 |nil=>exact⟨0,rfl⟩
 |cons c r=>
  rw[hl]at hA
  obtain⟨n,hn⟩:=aer x h c (hA c (by simp)) (by rw[hl];rfl) _ rfl hB (aiF _) _ 0 (avw _) [] (auY _) (fun p hp=>by cases hp)
  refine⟨n,?_⟩
  have e:(((c::r).length:Int)==0)=false:=by simp;omega
  rw[e]
  unfold Fl
  rw[hl]
  exact hn
def Dw:aM:=spN false true [ls] (fun x=>decide (uD x.1)) (fun x=>[RV.d tCU (hid (aU x.1)),RV.d .bool (rC x.1)])
theorem AN:SpK 9 Dw:=spX fun x h=>by simp only[am];exact ZM x.1 (auN h)
theorem Nh{x:Pce}(h:uD x)(ho:rC x=true):aU x∈Fl x:=by
 have hA:=Fd h.1
 unfold aU Fl
 rw[ho]
 unfold rC at ho
 cases hl:ofL x.1 with
 |nil=>rw[hl]at ho;cases ho
 |cons c r=>
  rw[hl]at hA
  obtain⟨l1,l2⟩:=Lw (hA c (by simp)) (kI c (ofL x.2.1))
  have m0:=av4 x.2.2 (show((kJ c (kI c (ofL x.2.1))).length:Int)≠0 by omega)
  have m1:=avC x.2.2 (show 0<((kJ c (kI c (ofL x.2.1))).length:Int) by omega)
  have hk:(x.2.2%((kJ c (kI c (ofL x.2.1))).length:Int)).toNat<(kJ c (kI c (ofL x.2.1))).length:=by omega
  simp only[cond_true]
  rw[List.getD_eq_getElem?_getD,auP hk]
  exact avu hk
end Go.Proofs.YtgddhgcjmddjfaaGreat
end
