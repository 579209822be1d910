/- The reference's integers: FromInt64, Sign, Cmp, Add, Neg, Sub, Mul, by. -/
import Derived.Test.YtgddhgcjmddjfaaGreatD9
import Derived.Test.YtgddhgcjmddjfaaGreatD8
noncomputable section
namespace Go.Proofs.YtgddhgcjmddjfaaGreat
open Go.RowKit Go.IntKind
theorem t8{x:BI}(h:okI x):hU x.2:=⟨h.1.1,by have:=h.2.2;omega⟩
theorem ad2(a b:Int):decide (cJ a b≥0)=decide (b≤a):=by
 rcases awT a b with h|h|h
 ·rw[df h,auQ (show ¬b≤a by omega)];rfl
 ·subst h;rw[dU,auO (Int.le_refl a)];rfl
 ·rw[c8 h,auO (show b≤a by omega)];rfl
theorem zF(a b:Int):decide (cJ a b>0)=decide (b<a):=by
 rcases awT a b with h|h|h
 ·rw[df h,auQ (show ¬b<a by omega)];rfl
 ·subst h;rw[dU,auQ (show ¬a<a by omega)];rfl
 ·rw[c8 h,auO h];rfl
def wS:aM:=spN false false [.bool,aya] (fun x=>decide (bj x.2.1)) (fun x=>[RV.d y2Y (aj (cC x.1 (val x.2.1)))])
theorem uK:SpK 154 wS:=spX fun x h=>QB x.1 x.2.1 (auN h)
def Ny:aM:=spN false false [aya,aya] (fun x=>decide (hU x.1∧hU x.2.1)) (fun x=>[RV.d aya (ah (val x.1+val x.2.1).toNat)])
theorem PP:SpK 212 Ny:=spX fun x h=>Tw x.1 x.2.1 (auN h)
def xk:aM:=spN false false [aya,aya] (fun x=>decide (nP x.1 x.2.1)) (fun x=>[RV.d aya (ah (val x.1-val x.2.1).toNat)])
theorem uQ:SpK 214 xk:=spX fun x h=>U3 x.1 x.2.1 (auN h)
def MX:aM:=spN false false [aya,aya] (fun x=>decide (hU x.1∧hU x.2.1)) (fun x=>[RV.d aya (ah (val x.1*val x.2.1).toNat)])
theorem ON:SpK 211 MX:=spX fun x h=>Vt x.1 x.2.1 (auN h)
def nH:Env:=[(209,qH),(155,ua),(216,uw),(213,qC),(154,wS),(212,Ny),(214,xk),(211,MX)]
theorem gY:EnvAll Tryz.prog nH:=⟨mZ,qV,rj,mn,uK,PP,uQ,ON,trivial⟩
def ajs:Ctx:=CX nH []
def TQ(n:Int)(_k:KT):OLR:=match decide (n<0)with|true=>(match decide (gP (u64.wrap (0-(u64.wrap n))))with|true=>(match decide (bj (ah (u64.wrap (0-(u64.wrap n))).toNat))with|true=>some [RV.d y2Y (aj (cC true (val (ah (u64.wrap (0-(u64.wrap n))).toNat))))]|false=>none)|false=>none)|false=>(match decide (gP (u64.wrap n))with|true=>(match decide (bj (ah (u64.wrap n).toNat))with|true=>some [RV.d y2Y (aj (cC false (val (ah (u64.wrap n).toNat))))]|false=>none)|false=>none)
theorem akZ(n:Int):RS ajs 81 [SI n] (TQ n):=rsX
def al4:Ctx:=CX nH []
def XG(x:Bool×List Int)(_k:KT):OLR:=match(x.2.length:Int)==0 with|true=>some [RV.d ayb 0]|false=>(match x.1 with|true=>some [RV.d ayb (-1)]|false=>some [RV.d ayb 1])
theorem aj2(x:Bool×List Int):RS al4 134 [.d y2Y x] (XG x):=rsX
def ajz:Ctx:=CX nH []
def X7(x y:Bool×List Int)(_k:KT):OLR:=match !(x.1==y.1)with|true=>(match x.1 with|true=>some [RV.d ayb (-1)]|false=>some [RV.d ayb 1])|false=>(match x.1 with|true=>(match decide (rG y.2 x.2)with|true=>some [RV.d ayb (cJ (val y.2) (val x.2))]|false=>none)|false=>(match decide (rG x.2 y.2)with|true=>some [RV.d ayb (cJ (val x.2) (val y.2))]|false=>none))
theorem akl(x y:Bool×List Int):RS ajz 165 [.d y2Y x,.d y2Y y] (X7 x y):=rsX
def amQ:Ctx:=CX nH []
def UE(x y:Bool×List Int)(_k:KT):OLR:=match x.1==y.1 with|true=>(match decide (hU x.2∧hU y.2)with|true=>(match decide (bj (ah (val x.2+val y.2).toNat))with|true=>some [RV.d y2Y (aj (cC x.1 (val (ah (val x.2+val y.2).toNat))))]|false=>none)|false=>none)|false=>(match decide (rG x.2 y.2)with|true=>(match decide ((cJ (val x.2) (val y.2))≥0)with|true=>(match decide (nP x.2 y.2)with|true=>(match decide (bj (ah (val x.2-val y.2).toNat))with|true=>some [RV.d y2Y (aj (cC x.1 (val (ah (val x.2-val y.2).toNat))))]|false=>none)|false=>none)|false=>(match decide (nP y.2 x.2)with|true=>(match decide (bj (ah (val y.2-val x.2).toNat))with|true=>some [RV.d y2Y (aj (cC y.1 (val (ah (val y.2-val x.2).toNat))))]|false=>none)|false=>none))|false=>none)
theorem aj5(x y:Bool×List Int):RS amQ 159 [.d y2Y x,.d y2Y y] (UE x y):=rsX
def alN:Ctx:=CX nH []
def X1(x:Bool×List Int)(_k:KT):OLR:=match decide (bj x.2)with|true=>some [RV.d y2Y (aj (cC (!x.1) (val x.2)))]|false=>none
theorem amI(x:Bool×List Int):RS alN 160 [.d y2Y x] (X1 x):=rsX
def akO:Ctx:=CX nH []
def Y6(x y:Bool×List Int)(_k:KT):OLR:=match decide (hU x.2∧hU y.2)with|true=>(match decide (bj (ah (val x.2*val y.2).toNat))with|true=>some [RV.d y2Y (aj (cC (!(x.1==y.1)) (val (ah (val x.2*val y.2).toNat))))]|false=>none)|false=>none
theorem akr(x y:Bool×List Int):RS akO 158 [.d y2Y x,.d y2Y y] (Y6 x y):=rsX
def apD:Ctx:=CX nH []
def ae4(a:List Int)(n:Int)(_k:KT):OLR:=match decide (bj ([n]))with|true=>(match decide (hU a∧hU (ah (val ([n])).toNat))with|true=>some [RV.d aya (ah (val a*val (ah (val ([n])).toNat)).toNat)]|false=>none)|false=>none
theorem aqi(a:List Int)(n:Int):RS apD 253 [.d aya a,.d ayc n] (ae4 a n):=rsX
theorem Fz(n:Int)(h:bU n):Con Tryz.prog 81 [.d ayb n] [.d y2Y (aj n)]:=by
 refine aO gY (akZ _ ⟨0,?_⟩)
 have h1:=h.1
 have h2:=h.2
 unfold TQ
 by_cases hn:n<0
 ·have e:u64.wrap (0-u64.wrap n)= -n:=by rw[avP,avP];omega
  have hl:(ah (-n).toNat).length≤3:=cU (by omega) (axn (show-n<18446744073709551616 by omega) (by decide))
  rw[auO hn]
  dsimp only
  rw[e,auO (show gP (-n) from⟨by omega,by omega⟩),auO (cY (n:=(-n).toNat) (by omega)),cq (v:= -n) (by omega)]
  dsimp only
  rw[show cC true (-n)=n by unfold cC;simp]
 ·have e:u64.wrap n=n:=b8 (by omega) (by omega)
  have hl:(ah n.toNat).length≤3:=cU (by omega) (axn (show n<18446744073709551616 by omega) (by decide))
  rw[auQ hn]
  dsimp only
  rw[e,auO (show gP n from⟨by omega,by omega⟩),auO (cY (n:=n.toNat) (by omega)),cq (v:=n) (by omega)]
  rfl
theorem GU(x:Bool×List Int)(h:okI x):Con Tryz.prog 134 [.d y2Y x] [.d ayb (cJ (ag x) 0)]:=by
 refine aO gY (aj2 _ ⟨0,?_⟩)
 obtain⟨h0,h1,h2⟩:=cS h
 unfold XG
 rw[cg]
 unfold cC
 by_cases he:x.2=[]
 ·have e0:=h2.1 he
  have ex:x.1=false:=by
   cases hx:x.1
   ·rfl
   ·have:=h1 hx;omega
  rw[ex,e0,he]
  rfl
 ·have hp:0<val x.2:=eW h.1 he
  have:=avF.2 he
  rw[show((x.2.length:Int)==0)=false by simp;omega]
  cases x.1
  ·simp only[cond_false];rw[c8 hp]
  ·simp only[cond_true];rw[df (by omega)]
theorem YS(x y:Bool×List Int)(h:okI x∧okI y):Con Tryz.prog 165 [.d y2Y x,.d y2Y y] [.d ayb (cJ (ag x) (ag y))]:=by
 refine aO gY (akl _ _ ⟨0,?_⟩)
 obtain⟨hx,hy⟩:=h
 obtain⟨x0,x1,x2⟩:=cS hx
 obtain⟨y0,y1,y2⟩:=cS hy
 have sx:=hx.2.2
 have sy:=hy.2.2
 unfold X7
 rw[cg,cg,auO (show rG y.2 x.2 from⟨⟨hy.1,by omega⟩,hx.1,by omega⟩),auO (show rG x.2 y.2 from⟨⟨hx.1,by omega⟩,hy.1,by omega⟩)]
 unfold cC
 cases ex:x.1<;>cases ey:y.1
 ·rfl
 ·have:=y1 ey
  simp only[cond_true,cond_false]
  rw[show cJ (val x.2) (-val y.2)=1 from c8 (by omega)]
  rfl
 ·have:=x1 ex
  simp only[cond_true,cond_false]
  rw[show cJ (-val x.2) (val y.2)= -1 from df (by omega)]
  rfl
 ·simp only[cond_true]
  rw[Nx x0 y0]
  rfl
theorem Up(x y:Bool×List Int)(h:okI x∧okI y):Con Tryz.prog 159 [.d y2Y x,.d y2Y y] [.d y2Y (aj (ag x+ag y))]:=by
 refine aO gY (aj5 _ _ ⟨0,?_⟩)
 obtain⟨hx,hy⟩:=h
 obtain⟨x0,x1,x2⟩:=cS hx
 obtain⟨y0,y1,y2⟩:=cS hy
 have lx:=fV hx
 have ly:=fV hy
 have tx:=t8 hx
 have ty:=t8 hy
 have sx:=hx.2.2
 have sy:=hy.2.2
 have bx:=cA hx.1.1
 have by':=cA hy.1.1
 have px:=dt (show x.2.length≤1000000 by omega)
 have py:=dt (show y.2.length≤1000000 by omega)
 have l1:(ah (val x.2+val y.2).toNat).length≤1000001:=cU (by omega) (by rw[cD];omega)
 have l2:(ah (val x.2-val y.2).toNat).length≤1000000:=dw (by have:=ct 1000000;omega)
 have l3:(ah (val y.2-val x.2).toNat).length≤1000000:=dw (by have:=ct 1000000;omega)
 unfold UE
 rw[cg,cg,auO (show hU x.2∧hU y.2 from⟨tx,ty⟩),auO (cY (n:=(val x.2+val y.2).toNat) (by omega)),auO (cY (n:=(val x.2-val y.2).toNat) (by omega)),auO (cY (n:=(val y.2-val x.2).toNat) (by omega)),cq (v:=val x.2+val y.2) (by omega),
  auO (show rG x.2 y.2 from⟨⟨hx.1,by omega⟩,hy.1,by omega⟩),ad2]
 cases hs:x.1==y.1
 ·dsimp only
  rcases avt (val x.2) (val y.2)with hc|hc
  ·rw[auQ (show ¬val y.2≤val x.2 by omega),auO (show nP y.2 x.2 from⟨ly,lx,by omega⟩),cq (v:=val y.2-val x.2) (by omega)]
   dsimp only
   unfold cC
   cases ex:x.1<;>cases ey:y.1<;>simp_all<;>congr 2<;>omega
  ·rw[auO hc,auO (show nP x.2 y.2 from⟨lx,ly,hc⟩),cq (v:=val x.2-val y.2) (by omega)]
   dsimp only
   unfold cC
   cases ex:x.1<;>cases ey:y.1<;>simp_all<;>congr 2<;>omega
 ·dsimp only
  have e:=avQ.1 hs
  rw[←e]
  unfold cC
  cases x.1
  ·rfl
  ·simp only[cond_true]
   rw[show-(val x.2+val y.2)= -val x.2+ -val y.2 by omega]
theorem SJ(x:Bool×List Int)(h:okI x):Con Tryz.prog 160 [.d y2Y x] [.d y2Y (aj (-ag x))]:=by
 refine aO gY (amI _ ⟨0,?_⟩)
 unfold X1
 rw[cg,auO (fV h)]
 unfold cC
 cases x.1<;>simp
theorem F7(x y:Bool×List Int)(h:okI x∧okI y):Con Tryz.prog 158 [.d y2Y x,.d y2Y y] [.d y2Y (aj (ag x*ag y))]:=by
 refine aO gY (akr _ _ ⟨0,?_⟩)
 obtain⟨hx,hy⟩:=h
 obtain⟨x0,x1,x2⟩:=cS hx
 obtain⟨y0,y1,y2⟩:=cS hy
 have bx:=cA hx.1.1
 have by':=cA hy.1.1
 have sx:=hx.2.2
 have sy:=hy.2.2
 have hm:0≤val x.2*val y.2:=avX x0 y0
 have l1:(ah (val x.2*val y.2).toNat).length≤x.2.length+y.2.length:=cU hm (by
  rw[fI]
  have p1:=ct x.2.length
  have p2:=ct y.2.length
  have:=aw2 (show val x.2≤pw x.2.length-1 by omega) (show val y.2≤pw y.2.length-1 by omega) y0 (by omega)
  grind)
 unfold Y6
 rw[cg,cg,auO (show hU x.2∧hU y.2 from⟨t8 hx,t8 hy⟩),auO (cY (n:=(val x.2*val y.2).toNat) (by omega)),cq hm]
 unfold cC
 cases x.1<;>cases y.1<;>simp[Int.neg_mul,axY]
def byP(a:List Int)(n:Int):Prop:=hU a∧0≤n∧n<1000000000
instance (a:List Int) (n:Int):Decidable (byP a n):=by unfold byP;infer_instance
theorem adw(a:List Int)(n:Int)(h:byP a n):Con Tryz.prog 253 [.d aya a,.d ayc n] [.d aya (ah (val a*n).toNat)]:=by
 refine aO gY (aqi _ _ ⟨0,?_⟩)
 obtain⟨ha,h1,h2⟩:=h
 have hl:(ah n.toNat).length≤1:=cU (by omega) (by show n<pw 1;simp[pw];exact h2)
 have e:val [n]=n:=by simp[val]
 unfold ae4
 rw[e,auO (show bj [n] from⟨Lim.cons ⟨by omega,h2⟩ Lim.nil,by simp⟩),auO (show hU a∧hU (ah n.toNat) from⟨ha,cB _,by omega⟩),cq (by omega)]
def tT:aM:=spN false false [y2Y,y2Y] (fun x=>decide (okI x.1∧okI x.2.1)) (fun x=>[RV.d y2Y (aj (ag x.1+ag x.2.1))])
theorem qp:SpK 159 tT:=spX fun x h=>Up x.1 x.2.1 (auN h)
def EI:aM:=spN false false [y2Y] (fun x=>decide (okI x.1)) (fun x=>[RV.d y2Y (aj (-ag x.1))])
theorem AQ:SpK 160 EI:=spX fun x h=>SJ x.1 (auN h)
def Vu:Env:=(159,tT)::(160,EI)::nH
theorem Pg:EnvAll Tryz.prog Vu:=⟨qp,AQ,gY⟩
def ale:Ctx:=CX Vu []
def ZE(x y:Bool×List Int)(_k:KT):OLR:=match decide (okI y)with|true=>(match decide (okI x∧okI (aj (-ag y)))with|true=>some [RV.d y2Y (aj (ag x+ag (aj (-ag y))))]|false=>none)|false=>none
theorem amE(x y:Bool×List Int):RS ale 217 [.d y2Y x,.d y2Y y] (ZE x y):=rsX
theorem Va(x y:Bool×List Int)(h:okI x∧okI y):Con Tryz.prog 217 [.d y2Y x,.d y2Y y] [.d y2Y (aj (ag x-ag y))]:=by
 refine aO Pg (amE _ _ ⟨0,?_⟩)
 obtain⟨hx,hy⟩:=h
 unfold ZE
 rw[auO hy,auO (show okI x∧okI (aj (-ag y)) from⟨hx,bK (by rw[iX];exact iO hy)⟩),dec_enc,Int.sub_eq_add_neg]
section
def EF(a b:List Int):Prop:=(can a∧a.length≤1000000)∧(can b∧b.length≤1000000)∧b≠[]
instance (a b:List Int):Decidable (EF a b):=by unfold EF;infer_instance
def IS:aM:=spN false false [aya,ayc] (fun x=>decide (byP x.1 x.2.1)) (fun x=>[RV.d aya (ah (val x.1*x.2.1).toNat)])
theorem FV:SpK 253 IS:=spX fun x h=>adw x.1 x.2.1 (auN h)
def Wz:Env:=[(209,qH),(155,ua),(216,uw),(213,qC),(253,IS),(214,xk)]
theorem OB:EnvAll Tryz.prog Wz:=⟨mZ,qV,rj,mn,FV,uQ,trivial⟩
def ab3:NT:=[((215,30),{keep:=[8,9,10,11,12,13,14],pure_:=[(11,.int .u32)],hl:=1}),((215,67),{keep:=[8,9,10,11,12,13,14,16,17],pure_:=[(17,.int .u32)],hl:=1}),((215,90),{keep:=[8,11,12,18,19,20],hl:=2})]
def jI:Ctx:=CX Wz ab3
def kR(a b:List Int)(x1 x2:Int)(s11:List Int)(s14:Int)(r0:List Int):Cfg:=⟨215,[.blk 0,.seq 82],[(8,.d ayc (u32.wrap (u64.wrap (Int.tdiv 1000000000 (u64.wrap ((u64.wrap x1)+1)))))),(9,.d aya (ah (val b*(u32.wrap (u64.wrap (Int.tdiv 1000000000 (u64.wrap ((u64.wrap x1)+1)))))).toNat)),(10,.d (.int .u64) (u64.wrap x2)),(11,.d aya s11),(12,.osl 0 1 ((0:Int).toNat) ((((ah (val a*(u32.wrap (u64.wrap (Int.tdiv 1000000000 (u64.wrap ((u64.wrap x1)+1)))))).toNat).length:Int):Int).toNat-(0:Int).toNat)),(13,.d aya (ah (val a*(u32.wrap (u64.wrap (Int.tdiv 1000000000 (u64.wrap ((u64.wrap x1)+1)))))).toNat)),(14,SI s14)],[.row 180 ayc r0],0,[]⟩
def fp(a b:List Int)(x1 x2:Int)(s11:List Int)(s14:Int)(r0:List Int)(x3 s16:Int)(s17:List Int):Cfg:=⟨215,[.blk 2,.seq 78,.blk 1,.seq 81,.lp 30,.blk 0,.seq 82],[(8,.d ayc (u32.wrap (u64.wrap (Int.tdiv 1000000000 (u64.wrap ((u64.wrap x1)+1)))))),(9,.d aya (ah (val b*(u32.wrap (u64.wrap (Int.tdiv 1000000000 (u64.wrap ((u64.wrap x1)+1)))))).toNat)),(10,.d (.int .u64) (u64.wrap x2)),(11,.d aya (ah (val (([x3])++s11)).toNat)),(12,.osl 0 1 ((0:Int).toNat) ((((ah (val a*(u32.wrap (u64.wrap (Int.tdiv 1000000000 (u64.wrap ((u64.wrap x1)+1)))))).toNat).length:Int):Int).toNat-(0:Int).toNat)),(13,.d aya (ah (val a*(u32.wrap (u64.wrap (Int.tdiv 1000000000 (u64.wrap ((u64.wrap x1)+1)))))).toNat)),(14,SI s14),(16,.d (.int .u64) s16),(17,.d aya s17)],[.row 180 ayc r0],0,[]⟩
def th(a:List Int)(x1:Int)(s11 r0:List Int)(s18 s20:Int)(r1:List Int):Cfg:=⟨215,[.blk 4,.seq 105],[(8,.d ayc (u32.wrap (u64.wrap (Int.tdiv 1000000000 (u64.wrap ((u64.wrap x1)+1)))))),(11,.d aya s11),(12,.osl 0 1 ((0:Int).toNat) ((((ah (val a*(u32.wrap (u64.wrap (Int.tdiv 1000000000 (u64.wrap ((u64.wrap x1)+1)))))).toNat).length:Int):Int).toNat-(0:Int).toNat)),(18,.d (.int .u64) s18),(19,.own 1),(20,SI s20)],[.row 180 ayc r0,.row 180 ayc r1],0,[]⟩
def Jr(a b:List Int)(k:KT):OLR:=match decide ((a.length:Int)≤2)with|true=>(match decide ((b.length:Int)≤2)with|true=>(match decide (rZ a)with|true=>(match decide (rZ b)with|true=>(match decide (val b=(0:Int))with|true=>none|false=>(match decide (val b=(0:Int))with|true=>none|false=>(match decide (gP (u64.wrap (Int.tdiv (val a) (val b))))with|true=>(match decide (gP (Int.tmod (val a) (val b)))with|true=>some [RV.d aya (ah (u64.wrap (Int.tdiv (val a) (val b))).toNat),RV.d aya (ah (Int.tmod (val a) (val b)).toNat)]|false=>none)|false=>none)))|false=>none)|false=>none)|false=>(match bi b (i64.wrap ((b.length:Int)-1))with|some x1=>(match decide (u64.wrap ((u64.wrap x1)+1)=(0:Int))with|true=>none|false=>(match decide (byP b (u32.wrap (u64.wrap (Int.tdiv 1000000000 (u64.wrap ((u64.wrap x1)+1))))))with|true=>(match bi (ah (val b*(u32.wrap (u64.wrap (Int.tdiv 1000000000 (u64.wrap ((u64.wrap x1)+1)))))).toNat) (i64.wrap (((ah (val b*(u32.wrap (u64.wrap (Int.tdiv 1000000000 (u64.wrap ((u64.wrap x1)+1)))))).toNat).length:Int)-1))with|some x2=>(match decide ((0:Int)≤i64.wrap ((a.length:Int)+1)∧(i64.wrap ((a.length:Int)+1))*((4:Nat):Int)≤140737488355328∧i64.wrap ((a.length:Int)+1)≤140737488355328)with|true=>(match decide (byP a (u32.wrap (u64.wrap (Int.tdiv 1000000000 (u64.wrap ((u64.wrap x1)+1))))))with|true=>(match decide ((0:Int)≤0∧0≤((ah (val a*(u32.wrap (u64.wrap (Int.tdiv 1000000000 (u64.wrap ((u64.wrap x1)+1)))))).toNat).length:Int)∧((ah (val a*(u32.wrap (u64.wrap (Int.tdiv 1000000000 (u64.wrap ((u64.wrap x1)+1)))))).toNat).length:Int)≤((List.replicate (i64.wrap ((a.length:Int)+1)).toNat (0:Int)).length:Int))with|true=>k 30 (kR a b x1 x2 ([]) (i64.wrap (((ah (val a*(u32.wrap (u64.wrap (Int.tdiv 1000000000 (u64.wrap ((u64.wrap x1)+1)))))).toNat).length:Int)-1)) (List.replicate (i64.wrap ((a.length:Int)+1)).toNat (0:Int)))|false=>none)|false=>none)|false=>none)|none=>none)|false=>none))|none=>none))|false=>(match bi b (i64.wrap ((b.length:Int)-1))with|some x1=>(match decide (u64.wrap ((u64.wrap x1)+1)=(0:Int))with|true=>none|false=>(match decide (byP b (u32.wrap (u64.wrap (Int.tdiv 1000000000 (u64.wrap ((u64.wrap x1)+1))))))with|true=>(match bi (ah (val b*(u32.wrap (u64.wrap (Int.tdiv 1000000000 (u64.wrap ((u64.wrap x1)+1)))))).toNat) (i64.wrap (((ah (val b*(u32.wrap (u64.wrap (Int.tdiv 1000000000 (u64.wrap ((u64.wrap x1)+1)))))).toNat).length:Int)-1))with|some x2=>(match decide ((0:Int)≤i64.wrap ((a.length:Int)+1)∧(i64.wrap ((a.length:Int)+1))*((4:Nat):Int)≤140737488355328∧i64.wrap ((a.length:Int)+1)≤140737488355328)with|true=>(match decide (byP a (u32.wrap (u64.wrap (Int.tdiv 1000000000 (u64.wrap ((u64.wrap x1)+1))))))with|true=>(match decide ((0:Int)≤0∧0≤((ah (val a*(u32.wrap (u64.wrap (Int.tdiv 1000000000 (u64.wrap ((u64.wrap x1)+1)))))).toNat).length:Int)∧((ah (val a*(u32.wrap (u64.wrap (Int.tdiv 1000000000 (u64.wrap ((u64.wrap x1)+1)))))).toNat).length:Int)≤((List.replicate (i64.wrap ((a.length:Int)+1)).toNat (0:Int)).length:Int))with|true=>k 30 (kR a b x1 x2 ([]) (i64.wrap (((ah (val a*(u32.wrap (u64.wrap (Int.tdiv 1000000000 (u64.wrap ((u64.wrap x1)+1)))))).toNat).length:Int)-1)) (List.replicate (i64.wrap ((a.length:Int)+1)).toNat (0:Int)))|false=>none)|false=>none)|false=>none)|none=>none)|false=>none))|none=>none)
theorem VA(a b:List Int):RS jI 215 [.d aya a,.d aya b] (Jr a b):=rsX
def kW(a b:List Int)(x1 x2:Int)(s11:List Int)(s14:Int)(r0:List Int)(k:KT):OLR:=match decide (s14≥0)with|true=>(match bi (ah (val a*(u32.wrap (u64.wrap (Int.tdiv 1000000000 (u64.wrap ((u64.wrap x1)+1)))))).toNat) s14 with|some x3=>(match decide ((([x3]).length+s11.length)*4≤140737488355328∧([x3]).length+s11.length≤140737488355328)with|true=>(match decide (bj (([x3])++s11))with|true=>(match decide (((ah (val (([x3])++s11)).toNat).length:Int)>((ah (val b*(u32.wrap (u64.wrap (Int.tdiv 1000000000 (u64.wrap ((u64.wrap x1)+1)))))).toNat).length:Int))with|true=>(match bi (ah (val (([x3])++s11)).toNat) ((ah (val b*(u32.wrap (u64.wrap (Int.tdiv 1000000000 (u64.wrap ((u64.wrap x1)+1)))))).toNat).length:Int)with|some x4=>(match decide (((ah (val (([x3])++s11)).toNat).length:Int)≥((ah (val b*(u32.wrap (u64.wrap (Int.tdiv 1000000000 (u64.wrap ((u64.wrap x1)+1)))))).toNat).length:Int))with|true=>(match bi (ah (val (([x3])++s11)).toNat) (i64.wrap (((ah (val b*(u32.wrap (u64.wrap (Int.tdiv 1000000000 (u64.wrap ((u64.wrap x1)+1)))))).toNat).length:Int)-1))with|some x5=>(match decide (u64.wrap x2=(0:Int))with|true=>none|false=>(match decide ((u64.wrap (Int.tdiv (u64.wrap ((u64.wrap ((u64.wrap x4)*1000000000))+(u64.wrap x5))) (u64.wrap x2)))>999999999)with|true=>(match decide (byP (ah (val b*(u32.wrap (u64.wrap (Int.tdiv 1000000000 (u64.wrap ((u64.wrap x1)+1)))))).toNat) (u32.wrap 999999999))with|true=>k 67 (fp a b x1 x2 s11 s14 r0 x3 999999999 (ah (val (ah (val b*(u32.wrap (u64.wrap (Int.tdiv 1000000000 (u64.wrap ((u64.wrap x1)+1)))))).toNat)*(u32.wrap 999999999)).toNat))|false=>none)|false=>(match decide (byP (ah (val b*(u32.wrap (u64.wrap (Int.tdiv 1000000000 (u64.wrap ((u64.wrap x1)+1)))))).toNat) (u32.wrap (u64.wrap (Int.tdiv (u64.wrap ((u64.wrap ((u64.wrap x4)*1000000000))+(u64.wrap x5))) (u64.wrap x2)))))with|true=>k 67 (fp a b x1 x2 s11 s14 r0 x3 (u64.wrap (Int.tdiv (u64.wrap ((u64.wrap ((u64.wrap x4)*1000000000))+(u64.wrap x5))) (u64.wrap x2))) (ah (val (ah (val b*(u32.wrap (u64.wrap (Int.tdiv 1000000000 (u64.wrap ((u64.wrap x1)+1)))))).toNat)*(u32.wrap (u64.wrap (Int.tdiv (u64.wrap ((u64.wrap ((u64.wrap x4)*1000000000))+(u64.wrap x5))) (u64.wrap x2))))).toNat))|false=>none)))|none=>none)|false=>(match decide (u64.wrap x2=(0:Int))with|true=>none|false=>(match decide ((u64.wrap (Int.tdiv (u64.wrap ((u64.wrap x4)*1000000000)) (u64.wrap x2)))>999999999)with|true=>(match decide (byP (ah (val b*(u32.wrap (u64.wrap (Int.tdiv 1000000000 (u64.wrap ((u64.wrap x1)+1)))))).toNat) (u32.wrap 999999999))with|true=>k 67 (fp a b x1 x2 s11 s14 r0 x3 999999999 (ah (val (ah (val b*(u32.wrap (u64.wrap (Int.tdiv 1000000000 (u64.wrap ((u64.wrap x1)+1)))))).toNat)*(u32.wrap 999999999)).toNat))|false=>none)|false=>(match decide (byP (ah (val b*(u32.wrap (u64.wrap (Int.tdiv 1000000000 (u64.wrap ((u64.wrap x1)+1)))))).toNat) (u32.wrap (u64.wrap (Int.tdiv (u64.wrap ((u64.wrap x4)*1000000000)) (u64.wrap x2)))))with|true=>k 67 (fp a b x1 x2 s11 s14 r0 x3 (u64.wrap (Int.tdiv (u64.wrap ((u64.wrap x4)*1000000000)) (u64.wrap x2))) (ah (val (ah (val b*(u32.wrap (u64.wrap (Int.tdiv 1000000000 (u64.wrap ((u64.wrap x1)+1)))))).toNat)*(u32.wrap (u64.wrap (Int.tdiv (u64.wrap ((u64.wrap x4)*1000000000)) (u64.wrap x2))))).toNat))|false=>none))))|none=>none)|false=>(match decide (((ah (val (([x3])++s11)).toNat).length:Int)≥((ah (val b*(u32.wrap (u64.wrap (Int.tdiv 1000000000 (u64.wrap ((u64.wrap x1)+1)))))).toNat).length:Int))with|true=>(match bi (ah (val (([x3])++s11)).toNat) (i64.wrap (((ah (val b*(u32.wrap (u64.wrap (Int.tdiv 1000000000 (u64.wrap ((u64.wrap x1)+1)))))).toNat).length:Int)-1))with|some x4=>(match decide (u64.wrap x2=(0:Int))with|true=>none|false=>(match decide ((u64.wrap (Int.tdiv (u64.wrap (0+(u64.wrap x4))) (u64.wrap x2)))>999999999)with|true=>(match decide (byP (ah (val b*(u32.wrap (u64.wrap (Int.tdiv 1000000000 (u64.wrap ((u64.wrap x1)+1)))))).toNat) (u32.wrap 999999999))with|true=>k 67 (fp a b x1 x2 s11 s14 r0 x3 999999999 (ah (val (ah (val b*(u32.wrap (u64.wrap (Int.tdiv 1000000000 (u64.wrap ((u64.wrap x1)+1)))))).toNat)*(u32.wrap 999999999)).toNat))|false=>none)|false=>(match decide (byP (ah (val b*(u32.wrap (u64.wrap (Int.tdiv 1000000000 (u64.wrap ((u64.wrap x1)+1)))))).toNat) (u32.wrap (u64.wrap (Int.tdiv (u64.wrap (0+(u64.wrap x4))) (u64.wrap x2)))))with|true=>k 67 (fp a b x1 x2 s11 s14 r0 x3 (u64.wrap (Int.tdiv (u64.wrap (0+(u64.wrap x4))) (u64.wrap x2))) (ah (val (ah (val b*(u32.wrap (u64.wrap (Int.tdiv 1000000000 (u64.wrap ((u64.wrap x1)+1)))))).toNat)*(u32.wrap (u64.wrap (Int.tdiv (u64.wrap (0+(u64.wrap x4))) (u64.wrap x2))))).toNat))|false=>none)))|none=>none)|false=>(match decide (u64.wrap x2=(0:Int))with|true=>none|false=>(match decide ((u64.wrap (Int.tdiv 0 (u64.wrap x2)))>999999999)with|true=>(match decide (byP (ah (val b*(u32.wrap (u64.wrap (Int.tdiv 1000000000 (u64.wrap ((u64.wrap x1)+1)))))).toNat) (u32.wrap 999999999))with|true=>k 67 (fp a b x1 x2 s11 s14 r0 x3 999999999 (ah (val (ah (val b*(u32.wrap (u64.wrap (Int.tdiv 1000000000 (u64.wrap ((u64.wrap x1)+1)))))).toNat)*(u32.wrap 999999999)).toNat))|false=>none)|false=>(match decide (byP (ah (val b*(u32.wrap (u64.wrap (Int.tdiv 1000000000 (u64.wrap ((u64.wrap x1)+1)))))).toNat) (u32.wrap (u64.wrap (Int.tdiv 0 (u64.wrap x2)))))with|true=>k 67 (fp a b x1 x2 s11 s14 r0 x3 (u64.wrap (Int.tdiv 0 (u64.wrap x2))) (ah (val (ah (val b*(u32.wrap (u64.wrap (Int.tdiv 1000000000 (u64.wrap ((u64.wrap x1)+1)))))).toNat)*(u32.wrap (u64.wrap (Int.tdiv 0 (u64.wrap x2))))).toNat))|false=>none)))))|false=>none)|false=>none)|none=>none)|false=>(match decide ((0:Int)≤(s11.length:Int)∧(s11.length:Int)*((4:Nat):Int)≤140737488355328∧(s11.length:Int)≤140737488355328)with|true=>k 90 (th a x1 s11 r0 0 (i64.wrap ((s11.length:Int)-1)) (List.replicate ((s11.length:Int)).toNat (0:Int)))|false=>none)
theorem nR(a b:List Int)(x1 x2:Int)(s11:List Int)(s14:Int)(r0:List Int):RN jI 30 (kR a b x1 x2 s11 s14 r0) (kW a b x1 x2 s11 s14 r0):=rnX
def nh(a b:List Int)(x1 x2:Int)(s11:List Int)(s14:Int)(r0:List Int)(x3 s16:Int)(s17:List Int)(k:KT):OLR:=match decide (rG s17 (ah (val (([x3])++s11)).toNat))with|true=>(match decide ((cJ (val s17) (val (ah (val (([x3])++s11)).toNat)))>0)with|true=>(match decide (nP s17 (ah (val b*(u32.wrap (u64.wrap (Int.tdiv 1000000000 (u64.wrap ((u64.wrap x1)+1)))))).toNat))with|true=>k 67 (fp a b x1 x2 s11 s14 r0 x3 (u64.wrap (s16-1)) (ah (val s17-val (ah (val b*(u32.wrap (u64.wrap (Int.tdiv 1000000000 (u64.wrap ((u64.wrap x1)+1)))))).toNat)).toNat))|false=>none)|false=>(match decide (nP (ah (val (([x3])++s11)).toNat) s17)with|true=>(match true,decide ((0:Int)≤s14∧s14<(((((ah (val a*(u32.wrap (u64.wrap (Int.tdiv 1000000000 (u64.wrap ((u64.wrap x1)+1)))))).toNat).length:Int):Int).toNat-(0:Int).toNat:Nat):Int))with|true,true=>(match true,r0[(0:Int).toNat+(s14).toNat]? with|true,some _=>k 30 (kR a b x1 x2 (ah (val (ah (val (([x3])++s11)).toNat)-val s17).toNat) (i64.wrap (s14-1)) (r0.set ((0:Int).toNat+(s14).toNat) (u32.wrap s16)))|_,_=>none)|_,_=>none)|false=>none))|false=>none
theorem rV(a b:List Int)(x1 x2:Int)(s11:List Int)(s14:Int)(r0:List Int)(x3 s16:Int)(s17:List Int):RN jI 67 (fp a b x1 x2 s11 s14 r0 x3 s16 s17) (nh a b x1 x2 s11 s14 r0 x3 s16 s17):=rnX
def sH(a:List Int)(x1:Int)(s11 r0:List Int)(s18 s20:Int)(r1:List Int)(k:KT):OLR:=match decide (s20≥0)with|true=>(match bi s11 s20 with|some x2=>(match decide (u64.wrap (u32.wrap (u64.wrap (Int.tdiv 1000000000 (u64.wrap ((u64.wrap x1)+1)))))=(0:Int))with|true=>none|false=>(match bi r1 s20 with|some _=>(match true,r1[(s20).toNat]? with|true,some _=>(match decide (u64.wrap (u32.wrap (u64.wrap (Int.tdiv 1000000000 (u64.wrap ((u64.wrap x1)+1)))))=(0:Int))with|true=>none|false=>k 90 (th a x1 s11 r0 (Int.tmod (u64.wrap ((u64.wrap (s18*1000000000))+(u64.wrap x2))) (u64.wrap (u32.wrap (u64.wrap (Int.tdiv 1000000000 (u64.wrap ((u64.wrap x1)+1))))))) (i64.wrap (s20-1)) (r1.set ((s20).toNat) (u32.wrap (u64.wrap (Int.tdiv (u64.wrap ((u64.wrap (s18*1000000000))+(u64.wrap x2))) (u64.wrap (u32.wrap (u64.wrap (Int.tdiv 1000000000 (u64.wrap ((u64.wrap x1)+1))))))))))))|_,_=>none)|none=>none))|none=>none)|false=>(match decide (bj ((r0.drop ((0:Int).toNat)).take ((((ah (val a*(u32.wrap (u64.wrap (Int.tdiv 1000000000 (u64.wrap ((u64.wrap x1)+1)))))).toNat).length:Int):Int).toNat-(0:Int).toNat)))with|true=>(match decide (bj r1)with|true=>some [RV.d aya (ah (val ((r0.drop ((0:Int).toNat)).take ((((ah (val a*(u32.wrap (u64.wrap (Int.tdiv 1000000000 (u64.wrap ((u64.wrap x1)+1)))))).toNat).length:Int):Int).toNat-(0:Int).toNat))).toNat),RV.d aya (ah (val r1).toNat)]|false=>none)|false=>none)
theorem zy(a:List Int)(x1:Int)(s11 r0:List Int)(s18 s20:Int)(r1:List Int):RN jI 90 (th a x1 s11 r0 s18 s20 r1) (sH a x1 s11 r0 s18 s20 r1):=rnX
def qsc(x1:Int):Int:=u32.wrap (u64.wrap (Int.tdiv 1000000000 (u64.wrap ((u64.wrap x1)+1))))
theorem gn(x1:Int):u32.wrap (u64.wrap (Int.tdiv 1000000000 (u64.wrap ((u64.wrap x1)+1))))=qsc x1:=by
 have h:∀y,qsc x1=y→y=qsc x1:=fun y e=>e.symm
 exact h _ rfl
theorem akL{x:Int}(h1:1≤x)(h2:x<1000000000):qsc x=1000000000/(x+1)∧1≤qsc x∧qsc x<1000000000:=by
 have h3:1≤1000000000/(x+1):=Int.le_ediv_of_mul_le (by omega) (by omega)
 have h4:1000000000/(x+1)<1000000000:=awu (by omega) (by omega)
 unfold qsc
 rw[b8 (x:=x) (by omega) (by omega),b8 (x:=x+1) (by omega) (by omega),gu (by omega),b8 (by omega) (by omega),dm (by omega) (by omega)]
 exact⟨rfl,h3,h4⟩
theorem I7{v:Int}(h:0<v):∃(n:Nat) (x:Int),(ah v.toNat).length=n+1∧(ah v.toNat)[n]?=some x∧1≤x∧x<1000000000∧x*pw n≤v:=by
 have hne:ah v.toNat≠[]:=fun e=>by rw[gT]at e;omega
 rcases List.eq_nil_or_concat (ah v.toNat)with h0|⟨l,x,hx⟩
 ·exact absurd h0 hne
 ·have hv:=bZ v.toNat
  have hc:=eh v.toNat
  have hl:=cB v.toNat
  rw[List.concat_eq_append]at hx
  rw[hx]at hv hc hl
  have hxx:=hl x (by simp)
  have hx0:x≠0:=fun e=>hc.2 (by simp[e])
  have hln:=bg (l:=l) (fun y hy=>hl y (by simp[hy]))
  rw[dH]at hv
  simp only[val]at hv
  refine⟨l.length,x,by rw[hx];simp,by rw[hx];simp,by omega,hxx.2,?_⟩
  rw[awC]
  rw[axa,axK]at hv
  omega
section
variable (a b:List Int) (x1 x2:Int) (V:Int) (hV:val b*qsc x1=V) (hs:1≤qsc x1∧qsc x1<1000000000) (hp:0<V) (hra:(ah (val a*qsc x1).toNat).length≤a.length+1) (ha:Lim a∧a.length≤1000000) (hL:(ah V.toNat).length≤1000001)
theorem Xa(hs:1≤qsc x1∧qsc x1<1000000000)(l r0:List Int)(hl:Lim l∧l.length≤2000000)(hr0:bj r0)(hz0:∀k (hk:k<r0.length),(ah (val a*qsc x1).toNat).length≤k→r0[k]=0):∀(n:Nat) (c:Int) (r:List Int),n≤l.length→0≤c→c<qsc x1→Lim r→r.length=l.length→(∀k (hk:k<r.length),k<n→r[k]=0)→qsc x1*val r+pw n*c+val (l.take n)=val l→
  jI.Runs 90 (th a x1 l r0 c ((n:Int)-1) r) [.d aya (ah (val r0).toNat),.d aya (ah (val l/qsc x1).toNat)]:=by
 have hsa:=hl.2
 have e64:u64.wrap (qsc x1)=qsc x1:=b8 (by omega) (by omega)
 intro n
 induction n with
 |zero=>
  intro c r hn c0 c1 hr hlen hz hv
  simp only[nW,List.take_zero,val,axX,axK]at hv
  have e2:val l/qsc x1=val r:=by
   rw[←hv,axL,awL _ _ (by omega),awd c0 c1]
   omega
  have e3:=yy hz0
  have e4:bj (r0.take (ah (val a*qsc x1).toNat).length):=⟨hr0.1.take _,by have:=hr0.2;rw[avz];omega⟩
  refine zy _ _ _ _ _ _ _ ⟨0,?_⟩
  unfold sH
  simp only[gn,Int.toNat_zero,awH,awv,axJ]
  rw[dF (by omega)]
  dsimp only
  rw[dT e4,dT (show bj r from⟨hr,by omega⟩),e3,e2]
 |succ n ih=>
  intro c r hn c0 c1 hr hlen hz hv
  have hna:n<l.length:=by omega
  have hnr:n<r.length:=by omega
  have xa:=hl.1.get hna
  have hr0':=hz n hnr (by omega)
  have hcb:0≤c*1000000000+l[n]:=by omega
  have m0:=av4 (c*1000000000+l[n]) (show qsc x1≠0 by omega)
  have m1:=avC (c*1000000000+l[n]) (show 0<qsc x1 by omega)
  have md:=avK (c*1000000000+l[n]) (qsc x1)
  have d0:0≤(c*1000000000+l[n])/qsc x1:=av2 hcb (by omega)
  have d1:(c*1000000000+l[n])/qsc x1<1000000000:=by
   refine awu (by omega) ?_
   have:=avb (show c+1≤qsc x1 by omega) (show(0:Int)≤1000000000 by decide)
   rw[awC 1000000000 (qsc x1)]
   omega
  obtain⟨q,hq⟩:=ih ((c*1000000000+l[n])%qsc x1) (r.set n ((c*1000000000+l[n])/qsc x1)) (by omega) m0 m1 (hr.set n ⟨d0,d1⟩) (by simpa using hlen)
   (fun k hk hkn=>by rw[awn (by omega)];exact hz k (by simpa using hk) (by omega)) (by
    rw[fx hnr,hr0']
    rw[bJ hna,cD]at hv
    grind)
  refine zy _ _ _ _ _ _ _ ⟨q,?_⟩
  unfold sH
  simp only[gn]
  rw[show((n+1:Nat):Int)-1=(n:Int) by omega,dT (by omega),aA l n,auP hna,e64,dF (show ¬qsc x1=0 by omega),aA r n,aP,auP hnr]
  dsimp only
  rw[b8 (x:=c*1000000000) (by omega) (by omega),b8 (x:=l[n]) (by omega) (by omega),b8 (x:=c*1000000000+l[n]) (by omega) (by omega),gu hcb,jA hcb,b8 (x:=(c*1000000000+l[n])/qsc x1) (by omega) (by omega),dm (x:=(c*1000000000+l[n])/qsc x1) (by omega) (by omega),bz (x:=(n:Int)-1) (by omega) (by omega)]
  exact hq
include hV hp hL in
theorem Jj{res:List RV}(i:Nat)(hi:i<(ah (val a*qsc x1).toNat).length)(r0 l:List Int)(hlr:r0.length=a.length+1)(hra:(ah (val a*qsc x1).toNat).length≤a.length+1)(x3 W:Int)(hW:val ([x3]++l)=W)(W0:0≤W)(hWl:(ah W.toNat).length≤1000002)
  (hout:jI.Runs 30 (kR a b x1 x2 (ah (W%V).toNat) ((i:Int)-1) (r0.set i (W/V))) res) (hi':(ah (val a*qsc x1).toNat).length≤2000000):
  ∀(d:Nat),d≤999999999→W<V*((d:Int)+1)→jI.Runs 67 (fp a b x1 x2 l (i:Int) r0 x3 (d:Int) (ah (V*(d:Int)).toNat)) res:=by
 intro d
 have hsz:∀e:Nat,e≤999999999→(ah (V*(e:Int)).toNat).length≤1000002:=fun e he=>by
  refine cU (avX (by omega) (by omega)) ?_
  have h1:V<pw 1000001:=by
   have:=cA (cB V.toNat)
   rw[bZ]at this
   have:=dt hL
   omega
  rw[cD 1000001]
  have h2:V*(e:Int)≤V*999999999:=au3 (by omega) (by omega)
  omega
 induction d with
 |zero=>
  intro _ hd
  obtain⟨q,hq⟩:=hout
  have hWV:W<V:=by simpa using hd
  rw[aw7 W0 hWV,awd W0 hWV]at hq
  refine rV _ _ _ _ _ _ _ _ _ _ ⟨q,?_⟩
  unfold nh
  simp only[gn,hV,hW]
  rw[show(V*((0:Nat):Int)).toNat=0 by simp,dT (show rG (ah 0) (ah W.toNat) from⟨⟨eh _,by decide⟩,eh _,by omega⟩),cq W0,zF,show val (ah 0)=0 from rfl,dF (show ¬W<0 by omega),dT (show nP (ah W.toNat) (ah 0) from⟨cY (by omega),cY (by decide),by rw[cq W0];exact W0⟩)]
  dsimp only
  rw[dT (show(0:Int)≤(i:Int)∧(i:Int)<((((ah (val a*qsc x1).toNat).length:Int).toNat-(0:Int).toNat:Nat):Int) by constructor<;>simp<;>omega)]
  rw[show(0:Int).toNat+((i:Int)).toNat=i by simp,auP (by omega)]
  dsimp only
  rw[Int.sub_zero,bz (by omega) (by omega)]
  exact hq
 |succ d ih=>
  intro hd1 hd
  have hc:((d+1:Nat):Int)=(d:Int)+1:=by omega
  rw[hc]at hd
  have hV1:0≤V*((d:Int)+1):=avX (by omega) (by omega)
  have hV0:0≤V*(d:Int):=avX (by omega) (by omega)
  have hVd:V*((d:Int)+1)-V=V*(d:Int):=by grind
  have hs1:=hsz (d+1) (by omega)
  rw[hc]at hs1
  have k1:=bZ V.toNat
  by_cases hg:W<V*((d:Int)+1)
  ·obtain⟨q,hq⟩:=ih (by omega) hg
   refine rV _ _ _ _ _ _ _ _ _ _ ⟨q,?_⟩
   unfold nh
   simp only[gn,hV,hW]
   rw[hc,dT (show rG (ah (V*((d:Int)+1)).toNat) (ah W.toNat) from⟨⟨eh _,by omega⟩,eh _,by omega⟩),cq W0,cq hV1,zF,dT hg,dT (show nP (ah (V*((d:Int)+1)).toNat) (ah V.toNat) from⟨cY (by omega),cY (by omega),by rw[cq hV1,cq (by omega)];omega⟩),cq (v:=V) (by omega),hVd,b8 (by omega) (by omega),show(d:Int)+1-1=(d:Int) by omega]
   exact hq
  ·obtain⟨q,hq⟩:=hout
   have e1:W/V=(d:Int)+1:=by
    have:W=(W-V*((d:Int)+1))+V*((d:Int)+1):=by omega
    rw[this,awL _ _ (by omega),awd (by omega) (by grind)]
    omega
   have e2:W%V=W-V*((d:Int)+1):=by
    have:=avK W V
    rw[e1]at this
    omega
   rw[e1,e2]at hq
   refine rV _ _ _ _ _ _ _ _ _ _ ⟨q,?_⟩
   unfold nh
   simp only[gn,hV,hW]
   rw[hc,dT (show rG (ah (V*((d:Int)+1)).toNat) (ah W.toNat) from⟨⟨eh _,by omega⟩,eh _,by omega⟩),cq W0,cq hV1,zF,dF hg,dT (show nP (ah W.toNat) (ah (V*((d:Int)+1)).toNat) from⟨cY (by omega),cY (by omega),by rw[cq hV1,cq W0];omega⟩)]
   dsimp only
   rw[dT (show(0:Int)≤(i:Int)∧(i:Int)<((((ah (val a*qsc x1).toNat).length:Int).toNat-(0:Int).toNat:Nat):Int) by constructor<;>simp<;>omega)]
   rw[show(0:Int).toNat+((i:Int)).toNat=i by simp,auP (by omega)]
   dsimp only
   rw[bz (by omega) (by omega),dm (by omega) (by omega)]
   exact hq
end
end
section
def qN(k:Nat→Cfg→OLR)(a b:List Int)(x1 x2:Int)(s11:List Int)(s14:Int)(r0:List Int)(x3 H:Int):OLR:=match decide (u64.wrap x2=(0:Int))with|true=>none|false=>(match decide ((u64.wrap (Int.tdiv H (u64.wrap x2)))>999999999)with|true=>(match decide (byP (ah (val b*(u32.wrap (u64.wrap (Int.tdiv 1000000000 (u64.wrap ((u64.wrap x1)+1)))))).toNat) (u32.wrap 999999999))with|true=>k 67 (fp a b x1 x2 s11 s14 r0 x3 999999999 (ah (val (ah (val b*(u32.wrap (u64.wrap (Int.tdiv 1000000000 (u64.wrap ((u64.wrap x1)+1)))))).toNat)*(u32.wrap 999999999)).toNat))|false=>none)|false=>(match decide (byP (ah (val b*(u32.wrap (u64.wrap (Int.tdiv 1000000000 (u64.wrap ((u64.wrap x1)+1)))))).toNat) (u32.wrap (u64.wrap (Int.tdiv H (u64.wrap x2)))))with|true=>k 67 (fp a b x1 x2 s11 s14 r0 x3 (u64.wrap (Int.tdiv H (u64.wrap x2))) (ah (val (ah (val b*(u32.wrap (u64.wrap (Int.tdiv 1000000000 (u64.wrap ((u64.wrap x1)+1)))))).toNat)*(u32.wrap (u64.wrap (Int.tdiv H (u64.wrap x2))))).toNat))|false=>none))
theorem Vs{W V H x p d:Int}(hx:1≤x)(hW:W<(H+1)*p)(hp:0<p)(hV:x*p≤V)(hd:H/x=d)(h0:0≤H):W<V*(d+1):=by
 have h1:=avK H x
 have h2:=avC H (show 0<x by omega)
 have h3:0≤d:=by rw[←hd];exact av2 h0 (by omega)
 rw[hd]at h1
 have h4:H+1≤x*(d+1):=by grind
 have h5:=avb h4 (avA hp)
 have h6:=avb hV (show 0≤d+1 by omega)
 grind
theorem aiy{A B s R q:Int}(hs:0<s)(h:A*s=R+B*s*q)(h0:0≤R)(h1:R<B*s):A/B=q∧A%B=R/s:=by
 have e:R=s*(A-B*q):=by grind
 have hm:R/s=A-B*q:=by rw[e];exact aw8 _ (by omega)
 have m0:0≤A-B*q:=by
  apply ave
  intro hc
  have:=au3 (show A-B*q≤ -1 by omega) (avA hs)
  omega
 have m1:A-B*q<B:=by
  apply ave
  intro hc
  have:=au3 (show B≤A-B*q by omega) (avA hs)
  grind
 have hA:A=(A-B*q)+B*q:=by omega
 constructor
 ·rw[hA,awL _ _ (by omega),awd (by omega) (by omega)];omega
 ·rw[hm,hA,awV,aw7 (by omega) (by omega)];omega
section
variable (a b:List Int) (x1 x2:Int) (V:Int) (hV:val b*qsc x1=V) (hs:1≤qsc x1∧qsc x1<1000000000) (hp:0<V) (hra:(ah (val a*qsc x1).toNat).length≤a.length+1) (ha:Lim a∧a.length≤1000000) (hL:(ah V.toNat).length≤1000001)
include hV hs hp hra ha hL in
theorem JC(n:Nat)(hn:(ah V.toNat).length=n+1)(hx2:1≤x2∧x2<1000000000)(hxp:x2*pw n≤V):∀(i:Nat) (R:Int) (r0:List Int),i≤(ah (val a*qsc x1).toNat).length→0≤R→R<V→r0.length=a.length+1→Lim r0→
  (∀k (hk:k<r0.length),k<i→r0[k]=0)→(∀k (hk:k<r0.length),(ah (val a*qsc x1).toNat).length≤k→r0[k]=0)→val a*qsc x1=pw i*R+val ((ah (val a*qsc x1).toNat).take i)+V*val r0→
  jI.Runs 30 (kR a b x1 x2 (ah R.toNat) ((i:Int)-1) r0) [.d aya (ah (val a/val b).toNat),.d aya (ah (val a%val b).toNat)]:=by
 have hVp:V<pw 1000001:=by
  have:=cA (cB V.toNat)
  rw[bZ]at this
  have:=dt hL
  omega
 have ha2:=ha.2
 intro i
 induction i with
 |zero=>
  intro R r0 _ R0 RV hlr hl _ hz he
  simp only[nW,List.take_zero,val,axX,axK]at he
  rw[←hV]at he
  obtain⟨e1,e2⟩:=aiy (by omega) he R0 (by rw[hV];exact RV)
  have hRl:(ah R.toNat).length≤1000001:=cU R0 (by omega)
  obtain⟨q,hq⟩:=Xa a x1 hs (ah R.toNat) r0 ⟨cB _,by omega⟩ ⟨hl,by omega⟩ hz (ah R.toNat).length 0 (List.replicate (ah R.toNat).length 0) (auY _) (by omega) (by omega) (Lim.rep _) (by simp) (fun k hk _=>by simp) (by simp[gI])
  rw[cq R0,←e2,←e1]at hq
  refine nR _ _ _ _ _ _ _ ⟨q,?_⟩
  unfold kW
  rw[dF (by omega)]
  dsimp only
  rw[dT (show(0:Int)≤((ah R.toNat).length:Int)∧((ah R.toNat).length:Int)*((4:Nat):Int)≤140737488355328∧((ah R.toNat).length:Int)≤140737488355328 from⟨by omega,by omega,by omega⟩),aP,bz (by omega) (by omega)]
  exact hq
 |succ i ih=>
  intro R r0 hi R0 RV hlr hl hz hz2 he
  have hiU:i<(ah (val a*qsc x1).toNat).length:=by omega
  have hx:=(cB (val a*qsc x1).toNat).get hiU
  have hir:i<r0.length:=by omega
  have hr0:=hz i hir (by omega)
  have hWv:val ([(ah (val a*qsc x1).toNat)[i]]++ah R.toNat)=(ah (val a*qsc x1).toNat)[i]+1000000000*R:=by
   rw[dH,cq R0]
   simp[val,pw]
  generalize hxi:(ah (val a*qsc x1).toNat)[i]=x at hx hWv
  have W0:0≤x+1000000000*R:=by omega
  have WV:x+1000000000*R<1000000000*V:=by omega
  have hWl:(ah (x+1000000000*R).toNat).length≤n+2:=by
   refine cU W0 ?_
   have:=cA (cB V.toNat)
   rw[bZ,hn]at this
   rw[cD (n+1)]
   omega
  have hRl:(ah R.toNat).length≤1000001:=cU R0 (by omega)
  have q0:0≤(x+1000000000*R)/V:=av2 W0 (by omega)
  have q1:(x+1000000000*R)/V<1000000000:=awu hp (by omega)
  have m0:=av4 (x+1000000000*R) (show V≠0 by omega)
  have m1:=avC (x+1000000000*R) hp
  have md:=avK (x+1000000000*R) V
  have hout:=ih ((x+1000000000*R)%V) (r0.set i ((x+1000000000*R)/V)) (by omega) m0 m1 (by simpa using hlr) (hl.set i ⟨q0,q1⟩)
   (fun k hk hk'=>by rw[awn (by omega)];exact hz k (by simpa using hk) (by omega))
   (fun k hk hk'=>by rw[awn (by omega)];exact hz2 k (by simpa using hk) hk') (by
    rw[fx hir,hr0]
    rw[bJ hiU,cD,hxi]at he
    grind)
  have hdig:=Jj a b x1 x2 V hV hp hL i hiU r0 (ah R.toNat) hlr hra x (x+1000000000*R) hWv W0 (by omega) hout (by omega)
  have htail:∀H:Int,0≤H→H<1000000000000000000→x+1000000000*R<(H+1)*pw n→∃q,qN (jI.k q) a b x1 x2 (ah R.toNat) ((i:Int)) r0 x H=some [.d aya (ah (val a/val b).toNat),.d aya (ah (val a%val b).toNat)]:=by
   intro H H0 H1 HW
   have d0:0≤H/x2:=av2 H0 (by omega)
   have d1:H/x2≤H:=awR _ H0
   have hbyV:∀d:Int,0≤d→d<1000000000→byP (ah V.toNat) d:=fun d h1 h2=>⟨⟨cB _,by omega⟩,h1,h2⟩
   by_cases hc:H/x2>999999999
   ·obtain⟨q,hq⟩:=hdig 999999999 (auY _) (by rw[show V*(((999999999:Nat):Int)+1)=1000000000*V by omega];exact WV)
    refine⟨q,?_⟩
    unfold qN
    simp only[gn,hV]
    rw[b8 (x:=x2) (by omega) (by omega),dF (show ¬x2=0 by omega),gu H0,b8 (x:=H/x2) (by omega) (by omega),dT hc,dm (x:=999999999) (by decide) (by decide),dT (hbyV 999999999 (by decide) (by decide)),cq (v:=V) (by omega)]
    exact hq
   ·obtain⟨q,hq⟩:=hdig (H/x2).toNat (by omega) (by rw[show(((H/x2).toNat:Nat):Int)=H/x2 by omega];exact Vs hx2.1 HW (ct n) hxp rfl H0)
    rw[show(((H/x2).toNat:Nat):Int)=H/x2 by omega]at hq
    refine⟨q,?_⟩
    unfold qN
    simp only[gn,hV]
    rw[b8 (x:=x2) (by omega) (by omega),dF (show ¬x2=0 by omega),gu H0,b8 (x:=H/x2) (by omega) (by omega),dF hc,dm (x:=H/x2) (by omega) (by omega),dT (hbyV (H/x2) (by omega) (by omega)),cq (v:=V) (by omega)]
    exact hq
  have hWlim:=cB (x+1000000000*R).toNat
  have hWval:=cq W0
  have hsplit:=fX (ah (x+1000000000*R).toNat) n
  have htl:=cA (hWlim.take n)
  have hpre:∀H,val ((ah (x+1000000000*R).toNat).drop n)=H→x+1000000000*R<(H+1)*pw n:=by
   intro H hH
   rw[hH,hWval]at hsplit
   have hm:(ah (x+1000000000*R).toNat |>.take n).length≤n:=by rw[avz];omega
   have:=dt hm
   rcases avo n (ah (x+1000000000*R).toNat).length with h|h
   ·rw[avy (by omega)]at hsplit
    rw[Int.add_mul,awC H,axX]
    omega
   ·rw[avU h]at hH
    have hH0:H=0:=by rw[←hH];rfl
    subst hH0
    rw[axa]at hsplit
    omega
  have hstep:∀(H:Int) (q:Nat),qN (jI.k q) a b x1 x2 (ah R.toNat) ((i:Int)) r0 x H=some [.d aya (ah (val a/val b).toNat),.d aya (ah (val a%val b).toNat)]→True:=fun _ _ _=>trivial
  have hap:(([x]:List Int).length+(ah R.toNat).length)*4≤140737488355328∧([x]:List Int).length+(ah R.toNat).length≤140737488355328:=by simp only[avk];omega
  have hlS:bj ([x]++ah R.toNat):=⟨(Lim.cons ⟨hx.1,hx.2⟩ Lim.nil).append (cB _),by simp only[avv,avk];omega⟩
  have hw1:i64.wrap (((n+1:Nat):Int)-1)=((n:Nat):Int):=by rw[bz (by omega) (by omega)];omega
  rcases Nat.lt_trichotomy (ah (x+1000000000*R).toNat).length (n+1)with hc|hc|hc
  ·obtain⟨q,hq⟩:=htail 0 (by omega) (by omega) (hpre 0 (by rw[avU (by omega)];rfl))
   refine nR _ _ _ _ _ _ _ ⟨q,?_⟩
   unfold kW
   rw[dT (show((i+1:Nat):Int)-1≥0 by omega),show((i+1:Nat):Int)-1=(i:Int) by omega,gn,aA,auP hiU,hxi]
   dsimp only
   rw[dT hap,dT hlS,hWv,hV,hn]
   dsimp only
   rw[dF (show ¬((ah (x+1000000000*R).toNat).length:Int)>((n+1:Nat):Int) by omega),dF (show ¬((ah (x+1000000000*R).toNat).length:Int)≥((n+1:Nat):Int) by omega)]
   rw[←hV]
   exact hq
  ·have hget:(ah (x+1000000000*R).toNat)[n]?=some (ah (x+1000000000*R).toNat)[n]:=auP (by omega)
   have hxn:=hWlim.get (show n<(ah (x+1000000000*R).toNat).length by omega)
   have hdrop:val ((ah (x+1000000000*R).toNat).drop n)=(ah (x+1000000000*R).toNat)[n]:=by
    rw[ju (by omega),avU (by omega)]
    simp[val]
   obtain⟨q,hq⟩:=htail (ah (x+1000000000*R).toNat)[n] hxn.1 (by omega) (hpre _ hdrop)
   refine nR _ _ _ _ _ _ _ ⟨q,?_⟩
   unfold kW
   rw[dT (show((i+1:Nat):Int)-1≥0 by omega),show((i+1:Nat):Int)-1=(i:Int) by omega,gn,aA,auP hiU,hxi]
   dsimp only
   rw[dT hap,dT hlS,hWv,hV,hn]
   dsimp only
   rw[dF (show ¬((ah (x+1000000000*R).toNat).length:Int)>((n+1:Nat):Int) by omega),dT (show((ah (x+1000000000*R).toNat).length:Int)≥((n+1:Nat):Int) by omega),hw1,aA (ah (x+1000000000*R).toNat) n,hget]
   dsimp only
   rw[Int.zero_add,b8 (x:=(ah (x+1000000000*R).toNat)[n]) (by omega) (by omega),b8 (x:=(ah (x+1000000000*R).toNat)[n]) (by omega) (by omega)]
   rw[←hV]
   exact hq
  ·have hget:(ah (x+1000000000*R).toNat)[n]?=some (ah (x+1000000000*R).toNat)[n]:=auP (by omega)
   have hget1:(ah (x+1000000000*R).toNat)[n+1]?=some (ah (x+1000000000*R).toNat)[n+1]:=auP (by omega)
   have hxn:=hWlim.get (show n<(ah (x+1000000000*R).toNat).length by omega)
   have hxn1:=hWlim.get (show n+1<(ah (x+1000000000*R).toNat).length by omega)
   have hdrop:val ((ah (x+1000000000*R).toNat).drop n)=(ah (x+1000000000*R).toNat)[n+1]*1000000000+(ah (x+1000000000*R).toNat)[n]:=by
    rw[ju (by omega),ju (by omega),avU (by omega)]
    simp only[val]
    omega
   obtain⟨q,hq⟩:=htail ((ah (x+1000000000*R).toNat)[n+1]*1000000000+(ah (x+1000000000*R).toNat)[n]) (by omega) (by omega) (hpre _ hdrop)
   refine nR _ _ _ _ _ _ _ ⟨q,?_⟩
   unfold kW
   rw[dT (show((i+1:Nat):Int)-1≥0 by omega),show((i+1:Nat):Int)-1=(i:Int) by omega,gn,aA,auP hiU,hxi]
   dsimp only
   rw[dT hap,dT hlS,hWv,hV,hn]
   dsimp only
   rw[dT (show((ah (x+1000000000*R).toNat).length:Int)>((n+1:Nat):Int) by omega),aA (ah (x+1000000000*R).toNat) (n+1),hget1]
   dsimp only
   rw[dT (show((ah (x+1000000000*R).toNat).length:Int)≥((n+1:Nat):Int) by omega),hw1,aA (ah (x+1000000000*R).toNat) n,hget]
   dsimp only
   rw[b8 (x:=(ah (x+1000000000*R).toNat)[n+1]) (by omega) (by omega),b8 (x:=(ah (x+1000000000*R).toNat)[n+1]*1000000000) (by omega) (by omega),b8 (x:=(ah (x+1000000000*R).toNat)[n]) (by omega) (by omega),b8 (x:=(ah (x+1000000000*R).toNat)[n+1]*1000000000+(ah (x+1000000000*R).toNat)[n]) (by omega) (by omega)]
   rw[←hV]
   exact hq
end
end
theorem Vz(a b:List Int)(h:EF a b):Con Tryz.prog 215 [.d aya a,.d aya b] [.d aya (ah (val a/val b).toNat),.d aya (ah (val a%val b).toNat)]:=by
 refine aO OB (show jI.Res _ _ _ from ?_)
 obtain⟨⟨ha,sa⟩,⟨hb,sb⟩,hne⟩:=h
 have a0:=bg ha.1
 have b0:0<val b:=eW hb hne
 have hlen:=avF.2 hne
 have la:=cA ha.1
 have lb:=cA hb.1
 by_cases hsm:a.length≤2∧b.length≤2
 ·have p2:pw 2=1000000000000000000:=by decide
  have m1:=dt hsm.1
  have m2:=dt hsm.2
  have q0:0≤val a/val b:=av2 a0 (by omega)
  have q1:val a/val b≤val a:=awR _ a0
  have r0:=av4 (val a) (show val b≠0 by omega)
  have r1:=avC (val a) b0
  refine VA _ _ ⟨0,?_⟩
  unfold Jr
  rw[dT (show(a.length:Int)≤2 by omega),dT (show(b.length:Int)≤2 by omega),dT (show rZ a from⟨⟨ha.1,by omega⟩,by omega⟩),dT (show rZ b from⟨⟨hb.1,by omega⟩,by omega⟩),dF (show ¬val b=0 by omega),gu a0,jA a0,b8 (x:=val a/val b) q0 (by omega),dT (show gP (val a/val b) from⟨q0,by omega⟩),dT (show gP (val a%val b) from⟨r0,by omega⟩)]
 ·obtain⟨n,hn⟩:∃n,b.length=n+1:=⟨b.length-1,by omega⟩
  have hbn:n<b.length:=by omega
  have ht:=wc hb hn
  have hbl:=hb.1.get hbn
  obtain⟨hs0,hs1,hs2⟩:=akL (x:=b[n]) ht hbl.2
  have hVp:0<val b*qsc b[n]:=Int.mul_pos b0 (by omega)
  have hVl:(ah (val b*qsc b[n]).toNat).length≤1000001:=by
   refine cU (by omega) ?_
   have h1:val b*qsc b[n]≤val b*999999999:=au3 (by omega) (by omega)
   have h2:=dt sb
   rw[cD 1000000]
   omega
  have hUl:(ah (val a*qsc b[n]).toNat).length≤a.length+1:=by
   refine cU (avX a0 (by omega)) ?_
   have h1:val a*qsc b[n]≤val a*999999999:=au3 (by omega) (by omega)
   rw[cD]
   omega
  obtain⟨m,x2,hm,hg,hx1,hx2,hxp⟩:=I7 hVp
  obtain⟨q,hq⟩:=JC a b b[n] x2 (val b*qsc b[n]) rfl ⟨hs1,hs2⟩ hVp hUl ⟨ha.1,sa⟩ hVl m hm ⟨hx1,hx2⟩ hxp (ah (val a*qsc b[n]).toNat).length 0 (List.replicate (a.length+1) 0) (auY _) (by omega) hVp (by simp) (Lim.rep _) (fun k hk _=>by simp) (fun k hk _=>by simp) (by
   rw[av8,cq (avX a0 (by omega)),gI];omega)
  refine VA _ _ ⟨q,?_⟩
  have hw1:i64.wrap ((b.length:Int)-1)=(n:Int):=by rw[bz (by omega) (by omega)];omega
  have hx1w:¬u64.wrap (u64.wrap b[n]+1)=0:=by rw[b8 (x:=b[n]) (by omega) (by omega),b8 (by omega) (by omega)];omega
  have hbyb:byP b (qsc b[n]):=⟨⟨hb.1,by omega⟩,by omega,hs2⟩
  have hbya:byP a (qsc b[n]):=⟨⟨ha.1,by omega⟩,by omega,hs2⟩
  have hw2:i64.wrap (((m+1:Nat):Int)-1)=(m:Int):=by rw[bz (by omega) (by omega)];omega
  have hsub:(match bi b (i64.wrap ((b.length:Int)-1))with|some x1=>(match decide (u64.wrap ((u64.wrap x1)+1)=(0:Int))with|true=>none|false=>(match decide (byP b (qsc x1))with|true=>(match bi (ah (val b*(qsc x1)).toNat) (i64.wrap (((ah (val b*(qsc x1)).toNat).length:Int)-1))with|some x2=>(match decide ((0:Int)≤i64.wrap ((a.length:Int)+1)∧(i64.wrap ((a.length:Int)+1))*((4:Nat):Int)≤140737488355328∧i64.wrap ((a.length:Int)+1)≤140737488355328)with|true=>(match decide (byP a (qsc x1))with|true=>(match decide ((0:Int)≤0∧0≤((ah (val a*(qsc x1)).toNat).length:Int)∧((ah (val a*(qsc x1)).toNat).length:Int)≤((List.replicate (i64.wrap ((a.length:Int)+1)).toNat (0:Int)).length:Int))with|true=>(jI.k q) 30 (kR a b x1 x2 ([]) (i64.wrap (((ah (val a*(qsc x1)).toNat).length:Int)-1)) (List.replicate (i64.wrap ((a.length:Int)+1)).toNat (0:Int)))|false=>none)|false=>none)|false=>none)|none=>none)|false=>none))|none=>none)=some [.d aya (ah (val a/val b).toNat),.d aya (ah (val a%val b).toNat)]:=by
   rw[hw1,aA,auP hbn]
   dsimp only
   rw[dF hx1w,dT hbyb,hm,hw2,aA,hg]
   dsimp only
   rw[cr (k:=a.length) (by omega),tY (n:=a.length+1) (by omega),dT hbya,aP,axp,dT (show(0:Int)≤0∧(0:Int)≤((ah (val a*qsc b[n]).toNat).length:Int)∧((ah (val a*qsc b[n]).toNat).length:Int)≤((a.length+1:Nat):Int) from⟨by omega,by omega,by omega⟩),bz (x:=((ah (val a*qsc b[n]).toNat).length:Int)-1) (by omega) (by omega)]
   exact hq
  unfold Jr
  by_cases h1:a.length≤2
  ·rw[dT (show(a.length:Int)≤2 by omega),dF (show ¬(b.length:Int)≤2 by omega)]
   exact hsub
  ·rw[dF (show ¬(a.length:Int)≤2 by omega)]
   exact hsub
def Ko:aM:=spN false false [aya,aya] (fun x=>decide (EF x.1 x.2.1)) (fun x=>[RV.d aya (ah (val x.1/val x.2.1).toNat),RV.d aya (ah (val x.1%val x.2.1).toNat)])
theorem N7:SpK 215 Ko:=spX fun x h=>Vz x.1 x.2.1 (auN h)
def wU:aM:=spN false false [ayb] (fun x=>decide (bU x.1)) (fun x=>[RV.d y2Y (aj x.1)])
theorem uR:SpK 81 wU:=spX fun x h=>Fz x.1 (auN h)
def MQ:aM:=spN false false [y2Y,y2Y] (fun x=>decide (okI x.1∧okI x.2.1)) (fun x=>[RV.d y2Y (aj (ag x.1-ag x.2.1))])
theorem Oz:SpK 217 MQ:=spX fun x h=>Va x.1 x.2.1 (auN h)
def Jq:Env:=[(209,qH),(155,ua),(216,uw),(213,qC),(253,IS),(214,xk),(215,Ko),(81,wU),(217,MQ),(154,wS),(159,tT)]
theorem Bi:EnvAll Tryz.prog Jq:=⟨mZ,qV,rj,mn,FV,uQ,N7,uR,Oz,uK,qp,trivial⟩
def ai6:Ctx:=CX Jq []
def ZC(x y:Bool×List Int)(_k:KT):OLR:=let y1:=ah (val x.2/val y.2).toNat;let y2:=ah (val x.2%val y.2).toNat;let y3:=aj (cC (!(x.1==y.1)) (val y1));let y4:=aj (cC x.1 (val y2));let y5:OLR:=match decide ((y2.length:Int)>0)with|true=>(match !(x.1==y.1)with|true=>(match decide (bU (1:Int))with|true=>(match decide (okI y3∧okI (aj (1:Int)))with|true=>(match decide (okI y4∧okI y)with|true=>dup (.b .l .l) (some [RV.d y2Y (aj (ag y3-ag (aj (1:Int)))),RV.d y2Y (aj (ag y4+ag y)),RV.d ayb 0])|false=>none)|false=>none)|false=>none)|false=>dup (.b .l .l) (some [RV.d y2Y y3,RV.d y2Y y4,RV.d ayb 0]))|false=>dup (.b .l .l) (some [RV.d y2Y y3,RV.d y2Y y4,RV.d ayb 0]);let y6:OLR:=match decide (bj y2)with|true=>y5|false=>none;match(y.2.length:Int)==0 with|true=>some [RV.d y2Y (false,[]),RV.d y2Y (false,[]),RV.d ayb 6]|false=>(match decide (EF x.2 y.2)with|true=>dl (match decide (bj y1)with|true=>dl (match decide (bj y2)with|true=>dup (.b .l .l) y5|false=>none) (dup (.b (.b .l .l) (.b .l .l)) y6)|false=>none) (dup (.b .l .l) (dl (match decide (bj y1)with|true=>dup (.b .l .l) y6|false=>none) (match decide (bj y1)with|true=>y6|false=>none)))|false=>none)
theorem aiH(x y:Bool×List Int):RS ai6 162 [.d y2Y x,.d y2Y y] (ZC x y):=rsX
def aaq:NT:=[((161,6),{keep:=[4,5,6],pure_:=[(5,.int .u32),(6,.int .u32)],hl:=3}),((161,29),{keep:=[4,9,10],hl:=3})]
def vc:Ctx:=CX Jq aaq
def sN(x y:Bool×List Int)(s5 s6:List Int):Cfg:=⟨161,[.blk 0,.seq 17],[(4,.box 2 0),(5,.d aya s5),(6,.d aya s6)],[.box 33 [SB x.1,.d aya x.2],.box 33 [SB y.1,.d aya y.2],.box 33 [SB false,.nil]],0,[]⟩
def oO(x y:Bool×List Int)(s9 s10:Int):Cfg:=⟨161,[.blk 2,.seq 38],[(4,.box 2 0),(9,.d (.int .u64) s9),(10,.d (.int .u64) s10)],[.box 33 [SB x.1,.d aya x.2],.box 33 [SB y.1,.d aya y.2],.box 33 [SB false,.nil]],0,[]⟩
def aiL(x y:Bool×List Int)(k:KT):OLR:=k 6 (sN x y x.2 y.2)
theorem ak8(x y:Bool×List Int):RS vc 161 [.d y2Y x,.d y2Y y] (aiL x y):=rsX
def qB(x y:Bool×List Int)(s5 s6:List Int)(k:KT):OLR:=match decide ((s6.length:Int)>0)with|true=>(match decide ((s5.length:Int)>2)with|true=>(match decide (EF s5 s6)with|true=>k 6 (sN x y s6 (ah (val s5%val s6).toNat))|false=>none)|false=>(match decide ((s6.length:Int)>2)with|true=>(match decide (EF s5 s6)with|true=>k 6 (sN x y s6 (ah (val s5%val s6).toNat))|false=>none)|false=>(match(s6.length:Int)==0 with|true=>(match decide (bj s5)with|true=>some [RV.d y2Y (aj (cC false (val s5)))]|false=>none)|false=>(match decide (rZ s5)with|true=>(match decide (rZ s6)with|true=>k 29 (oO x y (val s5) (val s6))|false=>none)|false=>none))))|false=>(match(s6.length:Int)==0 with|true=>(match decide (bj s5)with|true=>some [RV.d y2Y (aj (cC false (val s5)))]|false=>none)|false=>(match decide (rZ s5)with|true=>(match decide (rZ s6)with|true=>k 29 (oO x y (val s5) (val s6))|false=>none)|false=>none))
theorem vP(x y:Bool×List Int)(s5 s6:List Int):RL vc 6 (sN x y s5 s6) (qB x y s5 s6):=rlX
def sE(x y:Bool×List Int)(s9 s10:Int)(k:KT):OLR:=match decide (s10>0)with|true=>(match decide (s10=(0:Int))with|true=>none|false=>k 29 (oO x y s10 (Int.tmod s9 s10)))|false=>(match decide (gP s9)with|true=>(match decide (bj (ah s9.toNat))with|true=>some [RV.d y2Y (aj (cC false (val (ah s9.toNat))))]|false=>none)|false=>none)
theorem zx(x y:Bool×List Int)(s9 s10:Int):RL vc 29 (oO x y s9 s10) (sE x y s9 s10):=rlX
theorem WL(x y:Bool×List Int)(h:fy x y):Con Tryz.prog 162 [.d y2Y x,.d y2Y y] [.d y2Y (aj (ag x/ag y)),.d y2Y (aj (ag x%ag y)),.d ayb 0]:=by
 refine aO Bi (aiH _ _ ⟨0,?_⟩)
 obtain⟨hx,hy,hp⟩:=h
 obtain⟨x0,x1,x2⟩:=cS hx
 obtain⟨y0,y1,y2⟩:=cS hy
 have sx:=hx.2.2
 have sy:=hy.2.2
 have ey:y.1=false:=by
  cases e:y.1
  ·rfl
  ·rw[cg,e]at hp
   simp only[cC,cond_true]at hp
   omega
 have dy:ag y=val y.2:=by rw[cg,ey];rfl
 rw[dy]at hp
 have hne:y.2≠[]:=fun e=>by rw[y2]at e;omega
 have hprt:EF x.2 y.2:=⟨⟨hx.1,sx⟩,⟨hy.1,sy⟩,hne⟩
 have hylen:=avF.2 hne
 have r0:=av4 (val x.2) (show val y.2≠0 by omega)
 have r1:=avC (val x.2) hp
 have q0:0≤val x.2/val y.2:=av2 x0 y0
 have q1:val x.2/val y.2≤val x.2:=awR _ x0
 have vx:=cA hx.1.1
 have vy:=cA hy.1.1
 have mx:=dt sx
 have my:=dt sy
 have szq:szI (val x.2/val y.2)≤1000000:=fu (by have:=ct 1000000;omega) (by omega)
 have szr:szI (val x.2%val y.2)≤1000000:=fu (by have:=ct 1000000;omega) (by omega)
 have lq:(ah (val x.2/val y.2).toNat).length≤1000000:=cU q0 (by omega)
 have lr:(ah (val x.2%val y.2).toNat).length≤1000000:=cU r0 (by omega)
 unfold ZC
 simp only[aN]
 rw[show((y.2.length:Int)==0)=false by simp;omega,dT hprt,dT (cY (n:=(val x.2/val y.2).toNat) (by omega)),dT (cY (n:=(val x.2%val y.2).toNat) (by omega)),dT (show bU 1 by decide),cq q0,cq r0,
  dT (show okI (aj (cC (!(x.1==y.1)) (val x.2/val y.2)))∧okI (aj (1:Int)) from⟨bK (by rw[Eh];exact szq),qQ⟩),dT (show okI (aj (cC x.1 (val x.2%val y.2)))∧okI y from⟨bK (by rw[Eh];exact szr),hy⟩)]
 simp only[dec_enc,dy,au]
 rw[cg x,ey]
 have hlen:(((ah (val x.2%val y.2).toNat).length:Int)>0)↔0<val x.2%val y.2:=by
  constructor
  ·intro hl
   rcases avt 0 (val x.2%val y.2)with h|h
   ·exact h
   ·rw[show(val x.2%val y.2).toNat=0 by omega,fv]at hl
    simp at hl
  ·intro hl
   have:ah (val x.2%val y.2).toNat≠[]:=fun e=>by rw[gT]at e;omega
   have:=avF.2 this
   omega
 obtain⟨n1,n2⟩:=MR (a:=val x.2) (b:=val y.2) x0 hp
 rcases avt 0 (val x.2%val y.2)with hr|hr
 ·rw[dT (hlen.2 hr)]
  cases x.1
  ·rfl
  ·obtain⟨e1,e2⟩:=n2 hr
   simp only[cC,cond_true,Bool.not_false,show((true==false):Bool)=false from rfl]
   rw[e1,e2]
 ·rw[dF (fun h'=>by have:=hlen.1 h';omega)]
  dsimp only
  have e0:val x.2%val y.2=0:=by omega
  cases x.1
  ·simp only[cC,cond_false,show((false==false):Bool)=true from rfl,Bool.not_true]
  ·obtain⟨e1,e2⟩:=n1 e0
   simp only[cC,cond_true,Bool.not_false,show((true==false):Bool)=false from rfl]
   rw[e1,e2,e0]
   rfl
theorem Oq(x y:BI)(B:Nat)(hB:(B:Int)<18446744073709551616):∀(v u:Nat),u≤B→v≤B→vc.RunsE 29 (oO x y (u:Int) (v:Int)) [.d y2Y (aj ((Nat.gcd u v:Nat):Int))]:=by
 intro v
 induction v using Nat.strongRecOn with
 |ind v ih=>
  intro u hu hv
  rcases avB v with h0|h0
  ·refine zx _ _ _ _ ⟨0,fun n _=>?_⟩
   have hp:gP (u:Int):=⟨by omega,by omega⟩
   have hl:(ah u).length≤3:=dw (axn (show(u:Int)<18446744073709551616 by omega) (by decide))
   unfold sE
   rw[dF (show ¬(v:Int)>0 by omega),dT hp,awH,dT (cY (n:=u) (by omega)),bZ,show Nat.gcd u v=u by rw[h0];exact Nat.gcd_zero_right u]
   rfl
  ·obtain⟨n0,hn⟩:=ih (u%v) (axI _ h0) v hv (ava (Nat.le_of_lt (axI _ h0)) hv)
   refine zx _ _ _ _ ⟨n0,fun n hn'=>?_⟩
   unfold sE
   rw[dT (show(v:Int)>0 by omega),dF (show ¬(v:Int)=0 by omega),jA (by omega)]
   dsimp only
   rw[show((u:Int)%(v:Int))=((u%v:Nat):Int) by simp,awZ u v,Nat.gcd_rec v u,awZ]
   exact hn n hn'
theorem Lv{u:Nat}(h:(ah u).length≤2):(u:Int)<1000000000000000000:=by
 have h1:=cA (cB u)
 rw[bZ]at h1
 have h2:=dt h
 have:pw 2=1000000000000000000:=by decide
 omega
theorem PK(x y:BI):∀(v u:Nat),(ah u).length≤1000000→(ah v).length≤1000000→
  vc.RunsE 6 (sN x y (ah u) (ah v)) [.d y2Y (aj ((Nat.gcd u v:Nat):Int))]:=by
 intro v
 induction v using Nat.strongRecOn with
 |ind v ih=>
  intro u hu hv
  rcases avB v with h0|h0
  ·refine vP _ _ _ _ ⟨0,fun n _=>?_⟩
   unfold qB
   rw[h0,Nat.gcd_zero_right,dF (show ¬((ah 0).length:Int)>0 by decide),show(((ah 0).length:Int)==0)=true by decide]
   dsimp only
   rw[dT (cY (n:=u) (by omega)),bZ]
   rfl
  ·have hne:ah v≠[]:=fun e=>by rw[gT]at e;omega
   have hl:=avF.2 hne
   have hm:=axI u h0
   have hms:(ah (u%v)).length≤1000000:=dw (by
    have:=cA (cB v)
    rw[bZ]at this
    have:=dt hv
    omega)
   have hz:(((ah v).length:Int)==0)=false:=by simp;omega
   have hprt:EF (ah u) (ah v):=⟨⟨eh _,hu⟩,⟨eh _,hv⟩,hne⟩
   have hmod:(val (ah u)%val (ah v)).toNat=u%v:=by rw[bZ,bZ];omega
   by_cases hsm:(ah u).length≤2∧(ah v).length≤2
   ·have lu:=Lv hsm.1
    have lv:=Lv hsm.2
    obtain⟨n0,hn⟩:=Oq x y 1000000000000000000 (by decide) v u (by omega) (by omega)
    refine vP _ _ _ _ ⟨n0,fun n hn'=>?_⟩
    unfold qB
    rw[dT (show((ah v).length:Int)>0 by omega),dF (show ¬((ah u).length:Int)>2 by omega),dF (show ¬((ah v).length:Int)>2 by omega),hz,dT (show rZ (ah u) from⟨cY (by omega),by rw[bZ];omega⟩),dT (show rZ (ah v) from⟨cY (by omega),by rw[bZ];omega⟩),bZ,bZ]
    exact hn n hn'
   ·obtain⟨n0,hn⟩:=ih (u%v) hm v hv hms
    refine vP _ _ _ _ ⟨n0,fun n hn'=>?_⟩
    have:=hn n hn'
    rw[show Nat.gcd v (u%v)=Nat.gcd u v by rw[awZ u v,Nat.gcd_rec v u,awZ]]at this
    unfold qB
    rw[dT (show((ah v).length:Int)>0 by omega),dT hprt,hmod]
    by_cases h2:(ah u).length≤2
    ·rw[dF (show ¬((ah u).length:Int)>2 by omega),dT (show((ah v).length:Int)>2 by omega)]
     exact this
    ·rw[dT (show((ah u).length:Int)>2 by omega)]
     exact this
theorem EZ(x y:Bool×List Int)(h:okI x∧okI y):Con Tryz.prog 161 [.d y2Y x,.d y2Y y] [.d y2Y (aj ((Int.gcd (ag x) (ag y):Nat):Int))]:=by
 refine aO Bi (show vc.Res _ _ _ from ?_)
 obtain⟨hx,hy⟩:=h
 obtain⟨x0,_,_⟩:=cS hx
 obtain⟨y0,_,_⟩:=cS hy
 have ex:((ag x).natAbs:Int)=val x.2:=by rw[cg];unfold cC;cases x.1<;>simp<;>omega
 have ey:((ag y).natAbs:Int)=val y.2:=by rw[cg];unfold cC;cases y.1<;>simp<;>omega
 have cx:=oY hx.1
 have cy:=oY hy.1
 rw[show(val x.2).toNat=(ag x).natAbs by omega]at cx
 rw[show(val y.2).toNat=(ag y).natAbs by omega]at cy
 obtain⟨n1,h1⟩:=PK x y (ag y).natAbs (ag x).natAbs (by rw[←cx];exact hx.2.2) (by rw[←cy];exact hy.2.2)
 rw[←cx,←cy]at h1
 exact ak8 _ _ ⟨n1,h1 n1 (auY _)⟩
section
abbrev tI:Ty:=.st (.pair .bool aya)
abbrev tR:Ty:=.st (.pair tI tI)
abbrev tV:Ty:=.st (.pair tR tR)
abbrev tO:Ty:=.st (.pair tR (.pair tR tR))
abbrev tP:Ty:=.st (.pair tR (.pair tR (.pair tR (.pair tR tR))))
abbrev tQ:Ty:=.st (.pair tR (.pair tR (.pair tR (.pair tR (.pair tR tR)))))
abbrev tG:Ty:=.st (.pair ayb ayb)
abbrev BV:=BR×BR
abbrev BO3:=BR×BR×BR
abbrev BP:=BR×BR×BR×BR×BR
abbrev BQ:=BR×BR×BR×BR×BR×BR
def hid{α:Type}(x:α):α:=Classical.choose (⟨x,rfl⟩:∃y,y=x)
theorem am{α:Type}(x:α):hid x=x:=av6 (⟨x,rfl⟩:∃y,y=x)
class Cod (α:Type) (A:outParam Type) where
 enc:α→A
 dec:A→α
 bd:Nat→α→Prop
 ok:Nat→A→Prop
 okD:∀k x,Decidable (ok k x)
 mono:∀j k x,j≤k→bd j x→bd k x
 dec_enc:∀x,dec (enc x)=x
 ok_enc:∀k x,k≤480000→bd k x→ok k (enc x)
 ok_dec:∀k x,ok k x→x=enc (dec x)∧bd k (dec x)
def enc{α A:Type}[Cod α A](x:α):A:=Cod.enc x
def dec{α A:Type}[Cod α A](x:A):α:=Cod.dec x
def ok(α:Type){A:Type}[Cod α A](k:Nat)(x:A):Prop:=Cod.ok (α:=α) k x
instance (α A:Type) [Cod α A] (k:Nat) (x:A):Decidable (ok α k x):=Cod.okD k x
theorem aq{α A:Type}[Cod α A](x:α):dec (enc x)=x:=Cod.dec_enc x
class Bd {α A:Type} [Cod α A] (x:α) (k:outParam Nat):Prop where le:Cod.bd k x
theorem aY{α A:Type}[Cod α A]{k:Nat}{x:A}(h:ok α k x):∃v:α,x=enc v∧Bd v k:=⟨_,(Cod.ok_dec k x h).1,⟨(Cod.ok_dec k x h).2⟩⟩
theorem okd{α A:Type}[Cod α A]{x:α}{j k:Nat}[h:Bd x j](hj:j≤k)(hk:k≤480000):decide (ok α k (enc x))=true:=
 auO (Cod.ok_enc k x hk (Cod.mono j k x hj h.le))
instance atm:Cod Rat BR where
 enc:=ai
 dec:=ae
 bd:=bdR
 ok k x:=okR x∧x.1.2.length≤k∧x.2.2.length≤k
 okD _ _:=instDecidableAnd
 mono _ _ _ hk h:=cN h hk
 dec_enc:=az
 ok_enc k _ hk h:=⟨rm h hk,h.1,h.2⟩
 ok_dec k x h:=by
  obtain⟨h1,h2,h3⟩:=h
  refine⟨Xm h1,?_⟩
  obtain⟨e1,e2⟩:=da h1
  unfold bdR szI
  rw[e1,e2]
  rw[ik h1.1]at h2
  rw[ik h1.2.1]at h3
  exact⟨h2,h3⟩
instance aug:Cod Int Int where
 enc x:=x
 dec x:=x
 bd _ x:=bU x
 ok _ x:=bU x
 okD _ _:=inferInstance
 mono _ _ _ _ h:=h
 dec_enc _:=rfl
 ok_enc _ _ _ h:=h
 ok_dec _ _ h:=⟨rfl,h⟩
instance atb:Cod Bool Bool where
 enc x:=x
 dec x:=x
 bd _ _:=True
 ok _ _:=True
 okD _ _:=inferInstance
 mono _ _ _ _ h:=h
 dec_enc _:=rfl
 ok_enc _ _ _ h:=h
 ok_dec _ _ h:=⟨rfl,h⟩
instance atg (α β A B:Type) [Cod α A] [Cod β B]:Cod (α×β) (A×B) where
 enc x:=(enc x.1,enc x.2)
 dec x:=(dec x.1,dec x.2)
 bd k x:=Cod.bd k x.1∧Cod.bd k x.2
 ok k x:=ok α k x.1∧ok β k x.2
 okD _ _:=instDecidableAnd
 mono _ _ _ hk h:=⟨Cod.mono _ _ _ hk h.1,Cod.mono _ _ _ hk h.2⟩
 dec_enc x:=by rw[aq,aq]
 ok_enc k _ hk h:=⟨Cod.ok_enc _ _ hk h.1,Cod.ok_enc _ _ hk h.2⟩
 ok_dec k x h:=⟨axg (Cod.ok_dec k x.1 h.1).1 (Cod.ok_dec k x.2 h.2).1,(Cod.ok_dec k x.1 h.1).2,(Cod.ok_dec k x.2 h.2).2⟩
theorem nr{α:Type}{a b:α}(h:a=b):a=b:=h
theorem aH{α β A B:Type}[Cod α A][Cod β B](x:α×β):(enc x).1=enc x.1:=nr rfl
theorem aI{α β A B:Type}[Cod α A][Cod β B](x:α×β):(enc x).2=enc x.2:=nr rfl
theorem aS{α β A B:Type}[Cod α A][Cod β B](x:α)(y:β):enc (x,y)=(enc x,enc y):=nr rfl
theorem aF(q:Rat):enc q=ai q:=nr rfl
theorem aJ(x:BR):dec x=ae x:=nr rfl
theorem aK(q:Int):enc q=q:=nr rfl
theorem aB(q:Bool):enc q=q:=nr rfl
theorem aZ{q:Rat}{j:Nat}[h:Bd q j](hj:j≤480000):decide (okR (ai q))=true:=auO (rm h.le hj)
def mx(j k:Nat):Nat:=bif decide (j≤k)then k else j
theorem IY(j k:Nat):j≤mx j k:=by
 unfold mx
 by_cases h:j≤k
 ·rw[auO h];exact h
 ·rw[auQ h];exact auY _
theorem Iw(j k:Nat):k≤mx j k:=by
 unfold mx
 by_cases h:j≤k
 ·rw[auO h];exact auY _
 ·rw[auQ h];show k≤j;omega
theorem aD{q:Rat}{j k:Nat}[h:Bd q j](hj:j≤k)(hk:k≤480000):decide (ok Rat k (ai q))=true:=okd (x:=q) hj hk
section
variable {α β A B:Type} [Cod α A] [Cod β B]
instance atT {x:α×β} {k:Nat} [h:Bd x k]:Bd x.1 k:=⟨h.le.1⟩
instance atZ {x:α×β} {k:Nat} [h:Bd x k]:Bd x.2 k:=⟨h.le.2⟩
instance auC {x:α} {y:β} {j k:Nat} [h:Bd x j] [h':Bd y k]:Bd (x,y) (mx j k):=⟨Cod.mono _ _ _ (IY _ _) h.le,Cod.mono _ _ _ (Iw _ _) h'.le⟩
instance ate {b:Bool} {x y:α} {j k:Nat} [h:Bd x j] [h':Bd y k]:Bd (bif b then x else y) (mx j k):=by
 refine⟨?_⟩
 cases b
 ·exact Cod.mono _ _ _ (Iw _ _) h'.le
 ·exact Cod.mono _ _ _ (IY _ _) h.le
theorem Bd.mono{x:α}{j k:Nat}(h:Bd x j)(hk:j≤k):Bd x k:=⟨Cod.mono _ _ _ hk h.le⟩
end
section
variable {a b:Rat} {j k:Nat}
instance at9 [h:Bd a j] [h':Bd b k]:Bd (a+b) (j+k+1):=⟨KR h.le h'.le⟩
instance atW [h:Bd a j] [h':Bd b k]:Bd (a-b) (j+k+1):=⟨adp h.le h'.le⟩
instance atE [h:Bd a j] [h':Bd b k]:Bd (a*b) (j+k):=⟨MK h.le h'.le⟩
instance atX [h:Bd a j]:Bd (-a) j:=⟨wQ h.le⟩
theorem sD(h:bdR k b):1≤k:=by
 have h1:=h.2
 have h2:=JP (b.den:Int)
 have h3:=b.den_pos
 rcases avB k with e|e
 ·subst e
  have:szI (b.den:Int)=0:=by omega
  rw[this]at h2
  have:pw 0=1:=rfl
  omega
 ·exact e
instance atl [h:Bd a j] [h':Bd b k]:Bd (a/b) (j+k):=by
 refine⟨?_⟩
 by_cases h0:b=0
 ·subst h0
  rw[axZ,Rat.inv_zero,Rat.mul_zero]
  have:=sD h'.le
  exact cN (j:=1) ⟨by decide+kernel,by decide+kernel⟩ (by omega)
 ·exact abA h.le h'.le h0
end
theorem fS{n:Int}(h:bU n):Bd (n:Rat) 3:=by
 refine⟨?_⟩
 show bdR 3 (n:Rat)
 refine⟨?_,?_⟩
 ·rw[Rat.num_intCast]
  have:pw 3=1000000000000000000000000000:=by decide
  exact fu (by have:=h.1;omega) (by have:=h.2;omega)
 ·rw[Rat.den_intCast]
  exact fu (by decide) (by decide)
instance uA:Bd (0:Rat) 1:=⟨⟨by decide+kernel,by decide+kernel⟩⟩
theorem fk{x:BR}(h:okR x):∃q:Rat,x=ai q∧Bd q 480000:=⟨ae x,Xm h,⟨Ez h⟩⟩
def arR(a b:Rat×Rat):Rat:=a.1*b.1+a.2*b.2
end
end Go.Proofs.YtgddhgcjmddjfaaGreat
end
