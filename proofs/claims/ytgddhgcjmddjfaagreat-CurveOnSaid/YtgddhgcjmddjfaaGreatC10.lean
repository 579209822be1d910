/- The reference's integers: FromInt64, Sign, Cmp, Add, Neg, Sub, Mul, by. -/
import Derived.Test.YtgddhgcjmddjfaaGreatC9
import Derived.Test.YtgddhgcjmddjfaaGreatC8
noncomputable section
namespace Go.Proofs.YtgddhgcjmddjfaaGreat
open Go.RowKit Go.IntKind
theorem td{x:BI}(h:okI x):gV x.2:=⟨h.1.1,by have:=h.2.2;omega⟩
theorem aec(a b:Int):decide (cH a b≥0)=decide (b≤a):=by
 rcases avZ a b with h|h|h
 ·rw[df h,atV (show ¬b≤a by omega)];rfl
 ·subst h;rw[dV,atT (Int.le_refl a)];rfl
 ·rw[cZ h,atT (show b≤a by omega)];rfl
theorem zk(a b:Int):decide (cH a b>0)=decide (b<a):=by
 rcases avZ a b with h|h|h
 ·rw[df h,atV (show ¬b<a by omega)];rfl
 ·subst h;rw[dV,atV (show ¬a<a by omega)];rfl
 ·rw[cZ h,atT h];rfl
def wE:aN:=spN false false [.bool,axe] (fun x=>decide (bj x.2.1)) (fun x=>[RV.d y2Y (aj (cC x.1 (val x.2.1)))])
theorem vW:SpK 154 wE:=spX fun x h=>Us x.1 x.2.1 (atS h)
def KV:aN:=spN false false [axe,axe] (fun x=>decide (gV x.1∧gV x.2.1)) (fun x=>[RV.d axe (ah (val x.1+val x.2.1).toNat)])
theorem PK:SpK 212 KV:=spX fun x h=>TE x.1 x.2.1 (atS h)
def wO:aN:=spN false false [axe,axe] (fun x=>decide (nH x.1 x.2.1)) (fun x=>[RV.d axe (ah (val x.1-val x.2.1).toNat)])
theorem vp:SpK 214 wO:=spX fun x h=>Wx x.1 x.2.1 (atS h)
def Ko:aN:=spN false false [axe,axe] (fun x=>decide (gV x.1∧gV x.2.1)) (fun x=>[RV.d axe (ah (val x.1*val x.2.1).toNat)])
theorem OL:SpK 211 Ko:=spX fun x h=>R6 x.1 x.2.1 (atS h)
def nh:Env:=[(209,qR),(155,tv),(216,ua),(213,qC),(154,wE),(212,KV),(214,wO),(211,Ko)]
theorem gR:EnvAll Tryz.prog nh:=⟨l9,qI,qd,lY,vW,PK,vp,OL,trivial⟩
def aiH:Ctx:=CX nh []
def VJ(n:Int)(_k:KT):Option (List RV):=match decide (n<0)with|true=>(match decide (gL (u64.wrap (0-(u64.wrap n))))with|true=>(match decide (bj (ah (u64.wrap (0-(u64.wrap n))).toNat))with|true=>some [RV.d y2Y (aj (cC true (val (ah (u64.wrap (0-(u64.wrap n))).toNat))))]|false=>none)|false=>none)|false=>(match decide (gL (u64.wrap n))with|true=>(match decide (bj (ah (u64.wrap n).toNat))with|true=>some [RV.d y2Y (aj (cC false (val (ah (u64.wrap n).toNat))))]|false=>none)|false=>none)
theorem akr(n:Int):RS aiH 81 [SI n] (VJ n):=rsX
def aiy:Ctx:=CX nh []
def Vc(x:Bool×List Int)(_k:KT):Option (List RV):=match(x.2.length:Int)==0 with|true=>some [RV.d axf 0]|false=>(match x.1 with|true=>some [RV.d axf (-1)]|false=>some [RV.d axf 1])
theorem aj2(x:Bool×List Int):RS aiy 134 [.d y2Y x] (Vc x):=rsX
def ale:Ctx:=CX nh []
def VT(x y:Bool×List Int)(_k:KT):Option (List RV):=match !(x.1==y.1)with|true=>(match x.1 with|true=>some [RV.d axf (-1)]|false=>some [RV.d axf 1])|false=>(match x.1 with|true=>(match decide (qZ y.2 x.2)with|true=>some [RV.d axf (cH (val y.2) (val x.2))]|false=>none)|false=>(match decide (qZ x.2 y.2)with|true=>some [RV.d axf (cH (val x.2) (val y.2))]|false=>none))
theorem ajd(x y:Bool×List Int):RS ale 165 [.d y2Y x,.d y2Y y] (VT x y):=rsX
def aic:Ctx:=CX nh []
def Xw(x y:Bool×List Int)(_k:KT):Option (List RV):=match x.1==y.1 with|true=>(match decide (gV x.2∧gV y.2)with|true=>(match decide (bj (ah (val x.2+val y.2).toNat))with|true=>some [RV.d y2Y (aj (cC x.1 (val (ah (val x.2+val y.2).toNat))))]|false=>none)|false=>none)|false=>(match decide (qZ x.2 y.2)with|true=>(match decide ((cH (val x.2) (val y.2))≥0)with|true=>(match decide (nH x.2 y.2)with|true=>(match decide (bj (ah (val x.2-val y.2).toNat))with|true=>some [RV.d y2Y (aj (cC x.1 (val (ah (val x.2-val y.2).toNat))))]|false=>none)|false=>none)|false=>(match decide (nH y.2 x.2)with|true=>(match decide (bj (ah (val y.2-val x.2).toNat))with|true=>some [RV.d y2Y (aj (cC y.1 (val (ah (val y.2-val x.2).toNat))))]|false=>none)|false=>none))|false=>none)
theorem amb(x y:Bool×List Int):RS aic 159 [.d y2Y x,.d y2Y y] (Xw x y):=rsX
def aiO:Ctx:=CX nh []
def Uj(x:Bool×List Int)(_k:KT):Option (List RV):=match decide (bj x.2)with|true=>some [RV.d y2Y (aj (cC (!x.1) (val x.2)))]|false=>none
theorem akJ(x:Bool×List Int):RS aiO 160 [.d y2Y x] (Uj x):=rsX
def ajQ:Ctx:=CX nh []
def Qj(x y:Bool×List Int)(_k:KT):Option (List RV):=match decide (gV x.2∧gV y.2)with|true=>(match decide (bj (ah (val x.2*val y.2).toNat))with|true=>some [RV.d y2Y (aj (cC (!(x.1==y.1)) (val (ah (val x.2*val y.2).toNat))))]|false=>none)|false=>none
theorem alr(x y:Bool×List Int):RS ajQ 158 [.d y2Y x,.d y2Y y] (Qj x y):=rsX
def aoc:Ctx:=CX nh []
def ahD(a:List Int)(n:Int)(_k:KT):Option (List RV):=match decide (bj ([n]))with|true=>(match decide (gV a∧gV (ah (val ([n])).toNat))with|true=>some [RV.d axe (ah (val a*val (ah (val ([n])).toNat)).toNat)]|false=>none)|false=>none
theorem anI(a:List Int)(n:Int):RS aoc 253 [.d axe a,.d axg n] (ahD a n):=rsX
theorem G5(n:Int)(h:bO n):Con Tryz.prog 81 [.d axf n] [.d y2Y (aj n)]:=by
 refine aP gR (akr _ ⟨0,?_⟩)
 have h1:=h.1
 have h2:=h.2
 unfold VJ
 by_cases hn:n<0
 ·have e:u64.wrap (0-u64.wrap n)= -n:=by rw[auU,auU];omega
  have hl:(ah (-n).toNat).length≤3:=cO (by omega) (aws (show-n<18446744073709551616 by omega) (by decide))
  rw[atT hn]
  dsimp only
  rw[e,atT (show gL (-n) from⟨by omega,by omega⟩),atT (cS (n:=(-n).toNat) (by omega)),cp (v:= -n) (by omega)]
  dsimp only
  rw[show cC true (-n)=n by unfold cC;simp]
 ·have e:u64.wrap n=n:=bU (by omega) (by omega)
  have hl:(ah n.toNat).length≤3:=cO (by omega) (aws (show n<18446744073709551616 by omega) (by decide))
  rw[atV hn]
  dsimp only
  rw[e,atT (show gL n from⟨by omega,by omega⟩),atT (cS (n:=n.toNat) (by omega)),cp (v:=n) (by omega)]
  rfl
theorem Hq(x:Bool×List Int)(h:okI x):Con Tryz.prog 134 [.d y2Y x] [.d axf (cH (ag x) 0)]:=by
 refine aP gR (aj2 _ ⟨0,?_⟩)
 obtain⟨h0,h1,h2⟩:=cN h
 unfold Vc
 rw[ce]
 unfold cC
 by_cases he:x.2=[]
 ·have e0:=h2.1 he
  have ex:x.1=false:=by
   cases hx:x.1
   ·rfl
   ·have:=h1 hx;omega
  rw[ex,e0,he]
  rfl
 ·have hp:0<val x.2:=eM h.1 he
  have:=auM.2 he
  rw[show((x.2.length:Int)==0)=false by simp;omega]
  cases x.1
  ·simp only[cond_false];rw[cZ hp]
  ·simp only[cond_true];rw[df (by omega)]
theorem Vi(x y:Bool×List Int)(h:okI x∧okI y):Con Tryz.prog 165 [.d y2Y x,.d y2Y y] [.d axf (cH (ag x) (ag y))]:=by
 refine aP gR (ajd _ _ ⟨0,?_⟩)
 obtain⟨hx,hy⟩:=h
 obtain⟨x0,x1,x2⟩:=cN hx
 obtain⟨y0,y1,y2⟩:=cN hy
 have sx:=hx.2.2
 have sy:=hy.2.2
 unfold VT
 rw[ce,ce,atT (show qZ y.2 x.2 from⟨⟨hy.1,by omega⟩,hx.1,by omega⟩),atT (show qZ x.2 y.2 from⟨⟨hx.1,by omega⟩,hy.1,by omega⟩)]
 unfold cC
 cases ex:x.1<;>cases ey:y.1
 ·rfl
 ·have:=y1 ey
  simp only[cond_true,cond_false]
  rw[show cH (val x.2) (-val y.2)=1 from cZ (by omega)]
  rfl
 ·have:=x1 ex
  simp only[cond_true,cond_false]
  rw[show cH (-val x.2) (val y.2)= -1 from df (by omega)]
  rfl
 ·simp only[cond_true]
  rw[MQ x0 y0]
  rfl
theorem S8(x y:Bool×List Int)(h:okI x∧okI y):Con Tryz.prog 159 [.d y2Y x,.d y2Y y] [.d y2Y (aj (ag x+ag y))]:=by
 refine aP gR (amb _ _ ⟨0,?_⟩)
 obtain⟨hx,hy⟩:=h
 obtain⟨x0,x1,x2⟩:=cN hx
 obtain⟨y0,y1,y2⟩:=cN hy
 have lx:=fQ hx
 have ly:=fQ hy
 have tx:=td hx
 have ty:=td hy
 have sx:=hx.2.2
 have sy:=hy.2.2
 have bx:=cr hx.1.1
 have by':=cr hy.1.1
 have px:=du (show x.2.length≤1000000 by omega)
 have py:=du (show y.2.length≤1000000 by omega)
 have l1:(ah (val x.2+val y.2).toNat).length≤1000001:=cO (by omega) (by rw[cB];omega)
 have l2:(ah (val x.2-val y.2).toNat).length≤1000000:=dt (by have:=ct 1000000;omega)
 have l3:(ah (val y.2-val x.2).toNat).length≤1000000:=dt (by have:=ct 1000000;omega)
 unfold Xw
 rw[ce,ce,atT (show gV x.2∧gV y.2 from⟨tx,ty⟩),atT (cS (n:=(val x.2+val y.2).toNat) (by omega)),atT (cS (n:=(val x.2-val y.2).toNat) (by omega)),atT (cS (n:=(val y.2-val x.2).toNat) (by omega)),cp (v:=val x.2+val y.2) (by omega),
  atT (show qZ x.2 y.2 from⟨⟨hx.1,by omega⟩,hy.1,by omega⟩),aec]
 cases hs:x.1==y.1
 ·dsimp only
  rcases auA (val x.2) (val y.2)with hc|hc
  ·rw[atV (show ¬val y.2≤val x.2 by omega),atT (show nH y.2 x.2 from⟨ly,lx,by omega⟩),cp (v:=val y.2-val x.2) (by omega)]
   dsimp only
   unfold cC
   cases ex:x.1<;>cases ey:y.1<;>simp_all<;>congr 2<;>omega
  ·rw[atT hc,atT (show nH x.2 y.2 from⟨lx,ly,hc⟩),cp (v:=val x.2-val y.2) (by omega)]
   dsimp only
   unfold cC
   cases ex:x.1<;>cases ey:y.1<;>simp_all<;>congr 2<;>omega
 ·dsimp only
  have e:=avb.1 hs
  rw[←e]
  unfold cC
  cases x.1
  ·rfl
  ·simp only[cond_true]
   rw[show-(val x.2+val y.2)= -val x.2+ -val y.2 by omega]
theorem XS(x:Bool×List Int)(h:okI x):Con Tryz.prog 160 [.d y2Y x] [.d y2Y (aj (-ag x))]:=by
 refine aP gR (akJ _ ⟨0,?_⟩)
 unfold Uj
 rw[ce,atT (fQ h)]
 unfold cC
 cases x.1<;>simp
theorem HM(x y:Bool×List Int)(h:okI x∧okI y):Con Tryz.prog 158 [.d y2Y x,.d y2Y y] [.d y2Y (aj (ag x*ag y))]:=by
 refine aP gR (alr _ _ ⟨0,?_⟩)
 obtain⟨hx,hy⟩:=h
 obtain⟨x0,x1,x2⟩:=cN hx
 obtain⟨y0,y1,y2⟩:=cN hy
 have bx:=cr hx.1.1
 have by':=cr hy.1.1
 have sx:=hx.2.2
 have sy:=hy.2.2
 have hm:0≤val x.2*val y.2:=au1 x0 y0
 have l1:(ah (val x.2*val y.2).toNat).length≤x.2.length+y.2.length:=cO hm (by
  rw[fB]
  have p1:=ct x.2.length
  have p2:=ct y.2.length
  have:=av8 (show val x.2≤pw x.2.length-1 by omega) (show val y.2≤pw y.2.length-1 by omega) y0 (by omega)
  grind)
 unfold Qj
 rw[ce,ce,atT (show gV x.2∧gV y.2 from⟨td hx,td hy⟩),atT (cS (n:=(val x.2*val y.2).toNat) (by omega)),cp hm]
 unfold cC
 cases x.1<;>cases y.1<;>simp[Int.neg_mul,aw3]
def byP(a:List Int)(n:Int):Prop:=gV a∧0≤n∧n<1000000000
instance (a:List Int) (n:Int):Decidable (byP a n):=by unfold byP;infer_instance
theorem aae(a:List Int)(n:Int)(h:byP a n):Con Tryz.prog 253 [.d axe a,.d axg n] [.d axe (ah (val a*n).toNat)]:=by
 refine aP gR (anI _ _ ⟨0,?_⟩)
 obtain⟨ha,h1,h2⟩:=h
 have hl:(ah n.toNat).length≤1:=cO (by omega) (by show n<pw 1;simp[pw];exact h2)
 have e:val [n]=n:=by simp[val]
 unfold ahD
 rw[e,atT (show bj [n] from⟨Lim.cons ⟨by omega,h2⟩ Lim.nil,by simp⟩),atT (show gV a∧gV (ah n.toNat) from⟨ha,cA _,by omega⟩),cp (by omega)]
def sY:aN:=spN false false [y2Y,y2Y] (fun x=>decide (okI x.1∧okI x.2.1)) (fun x=>[RV.d y2Y (aj (ag x.1+ag x.2.1))])
theorem qh:SpK 159 sY:=spX fun x h=>S8 x.1 x.2.1 (atS h)
def Cx:aN:=spN false false [y2Y] (fun x=>decide (okI x.1)) (fun x=>[RV.d y2Y (aj (-ag x.1))])
theorem B0:SpK 160 Cx:=spX fun x h=>XS x.1 (atS h)
def Zz:Env:=(159,sY)::(160,Cx)::nh
theorem NE:EnvAll Tryz.prog Zz:=⟨qh,B0,gR⟩
def aka:Ctx:=CX Zz []
def W9(x y:Bool×List Int)(_k:KT):Option (List RV):=match decide (okI y)with|true=>(match decide (okI x∧okI (aj (-ag y)))with|true=>some [RV.d y2Y (aj (ag x+ag (aj (-ag y))))]|false=>none)|false=>none
theorem ai4(x y:Bool×List Int):RS aka 217 [.d y2Y x,.d y2Y y] (W9 x y):=rsX
theorem YT(x y:Bool×List Int)(h:okI x∧okI y):Con Tryz.prog 217 [.d y2Y x,.d y2Y y] [.d y2Y (aj (ag x-ag y))]:=by
 refine aP NE (ai4 _ _ ⟨0,?_⟩)
 obtain⟨hx,hy⟩:=h
 unfold W9
 rw[atT hy,atT (show okI x∧okI (aj (-ag y)) from⟨hx,bK (by rw[iY];exact iI hy)⟩),dec_enc,Int.sub_eq_add_neg]
section
def CZ(a b:List Int):Prop:=(can a∧a.length≤1000000)∧(can b∧b.length≤1000000)∧b≠[]
instance (a b:List Int):Decidable (CZ a b):=by unfold CZ;infer_instance
def Jj:aN:=spN false false [axe,axg] (fun x=>decide (byP x.1 x.2.1)) (fun x=>[RV.d axe (ah (val x.1*x.2.1).toNat)])
theorem FX:SpK 253 Jj:=spX fun x h=>aae x.1 x.2.1 (atS h)
def Zp:Env:=[(209,qR),(155,tv),(216,ua),(213,qC),(253,Jj),(214,wO)]
theorem NA:EnvAll Tryz.prog Zp:=⟨l9,qI,qd,lY,FX,vp,trivial⟩
def acY:NT:=[((215,30),{keep:=[8,9,10,11,12,13,14],pure_:=[(11,.int .u32)],hl:=1}),((215,67),{keep:=[8,9,10,11,12,13,14,16,17],pure_:=[(17,.int .u32)],hl:=1}),((215,90),{keep:=[8,11,12,18,19,20],hl:=2})]
def jz:Ctx:=CX Zp acY
def kx(a b:List Int)(x1 x2:Int)(s11:List Int)(s14:Int)(r0:List Int):Cfg:=⟨215,[.blk 0,.seq 82],[(8,.d axg (u32.wrap (u64.wrap (Int.tdiv 1000000000 (u64.wrap ((u64.wrap x1)+1)))))),(9,.d axe (ah (val b*(u32.wrap (u64.wrap (Int.tdiv 1000000000 (u64.wrap ((u64.wrap x1)+1)))))).toNat)),(10,.d (.int .u64) (u64.wrap x2)),(11,.d axe s11),(12,.osl 0 1 ((0:Int).toNat) ((((ah (val a*(u32.wrap (u64.wrap (Int.tdiv 1000000000 (u64.wrap ((u64.wrap x1)+1)))))).toNat).length:Int):Int).toNat-(0:Int).toNat)),(13,.d axe (ah (val a*(u32.wrap (u64.wrap (Int.tdiv 1000000000 (u64.wrap ((u64.wrap x1)+1)))))).toNat)),(14,SI s14)],[.row 180 axg r0],0,[]⟩
def fh(a b:List Int)(x1 x2:Int)(s11:List Int)(s14:Int)(r0:List Int)(x3 s16:Int)(s17:List Int):Cfg:=⟨215,[.blk 2,.seq 78,.blk 1,.seq 81,.lp 30,.blk 0,.seq 82],[(8,.d axg (u32.wrap (u64.wrap (Int.tdiv 1000000000 (u64.wrap ((u64.wrap x1)+1)))))),(9,.d axe (ah (val b*(u32.wrap (u64.wrap (Int.tdiv 1000000000 (u64.wrap ((u64.wrap x1)+1)))))).toNat)),(10,.d (.int .u64) (u64.wrap x2)),(11,.d axe (ah (val (([x3])++s11)).toNat)),(12,.osl 0 1 ((0:Int).toNat) ((((ah (val a*(u32.wrap (u64.wrap (Int.tdiv 1000000000 (u64.wrap ((u64.wrap x1)+1)))))).toNat).length:Int):Int).toNat-(0:Int).toNat)),(13,.d axe (ah (val a*(u32.wrap (u64.wrap (Int.tdiv 1000000000 (u64.wrap ((u64.wrap x1)+1)))))).toNat)),(14,SI s14),(16,.d (.int .u64) s16),(17,.d axe s17)],[.row 180 axg r0],0,[]⟩
def tD(a:List Int)(x1:Int)(s11 r0:List Int)(s18 s20:Int)(r1:List Int):Cfg:=⟨215,[.blk 4,.seq 105],[(8,.d axg (u32.wrap (u64.wrap (Int.tdiv 1000000000 (u64.wrap ((u64.wrap x1)+1)))))),(11,.d axe s11),(12,.osl 0 1 ((0:Int).toNat) ((((ah (val a*(u32.wrap (u64.wrap (Int.tdiv 1000000000 (u64.wrap ((u64.wrap x1)+1)))))).toNat).length:Int):Int).toNat-(0:Int).toNat)),(18,.d (.int .u64) s18),(19,.own 1),(20,SI s20)],[.row 180 axg r0,.row 180 axg r1],0,[]⟩
def JT(a b:List Int)(k:KT):Option (List RV):=match decide ((a.length:Int)≤2)with|true=>(match decide ((b.length:Int)≤2)with|true=>(match decide (r9 a)with|true=>(match decide (r9 b)with|true=>(match decide (val b=(0:Int))with|true=>none|false=>(match decide (val b=(0:Int))with|true=>none|false=>(match decide (gL (u64.wrap (Int.tdiv (val a) (val b))))with|true=>(match decide (gL (Int.tmod (val a) (val b)))with|true=>some [RV.d axe (ah (u64.wrap (Int.tdiv (val a) (val b))).toNat),RV.d axe (ah (Int.tmod (val a) (val b)).toNat)]|false=>none)|false=>none)))|false=>none)|false=>none)|false=>(match bi b (i64.wrap ((b.length:Int)-1))with|some x1=>(match decide (u64.wrap ((u64.wrap x1)+1)=(0:Int))with|true=>none|false=>(match decide (byP b (u32.wrap (u64.wrap (Int.tdiv 1000000000 (u64.wrap ((u64.wrap x1)+1))))))with|true=>(match bi (ah (val b*(u32.wrap (u64.wrap (Int.tdiv 1000000000 (u64.wrap ((u64.wrap x1)+1)))))).toNat) (i64.wrap (((ah (val b*(u32.wrap (u64.wrap (Int.tdiv 1000000000 (u64.wrap ((u64.wrap x1)+1)))))).toNat).length:Int)-1))with|some x2=>(match decide ((0:Int)≤i64.wrap ((a.length:Int)+1)∧(i64.wrap ((a.length:Int)+1))*((4:Nat):Int)≤140737488355328∧i64.wrap ((a.length:Int)+1)≤140737488355328)with|true=>(match decide (byP a (u32.wrap (u64.wrap (Int.tdiv 1000000000 (u64.wrap ((u64.wrap x1)+1))))))with|true=>(match decide ((0:Int)≤0∧0≤((ah (val a*(u32.wrap (u64.wrap (Int.tdiv 1000000000 (u64.wrap ((u64.wrap x1)+1)))))).toNat).length:Int)∧((ah (val a*(u32.wrap (u64.wrap (Int.tdiv 1000000000 (u64.wrap ((u64.wrap x1)+1)))))).toNat).length:Int)≤((List.replicate (i64.wrap ((a.length:Int)+1)).toNat (0:Int)).length:Int))with|true=>k 30 (kx a b x1 x2 ([]) (i64.wrap (((ah (val a*(u32.wrap (u64.wrap (Int.tdiv 1000000000 (u64.wrap ((u64.wrap x1)+1)))))).toNat).length:Int)-1)) (List.replicate (i64.wrap ((a.length:Int)+1)).toNat (0:Int)))|false=>none)|false=>none)|false=>none)|none=>none)|false=>none))|none=>none))|false=>(match bi b (i64.wrap ((b.length:Int)-1))with|some x1=>(match decide (u64.wrap ((u64.wrap x1)+1)=(0:Int))with|true=>none|false=>(match decide (byP b (u32.wrap (u64.wrap (Int.tdiv 1000000000 (u64.wrap ((u64.wrap x1)+1))))))with|true=>(match bi (ah (val b*(u32.wrap (u64.wrap (Int.tdiv 1000000000 (u64.wrap ((u64.wrap x1)+1)))))).toNat) (i64.wrap (((ah (val b*(u32.wrap (u64.wrap (Int.tdiv 1000000000 (u64.wrap ((u64.wrap x1)+1)))))).toNat).length:Int)-1))with|some x2=>(match decide ((0:Int)≤i64.wrap ((a.length:Int)+1)∧(i64.wrap ((a.length:Int)+1))*((4:Nat):Int)≤140737488355328∧i64.wrap ((a.length:Int)+1)≤140737488355328)with|true=>(match decide (byP a (u32.wrap (u64.wrap (Int.tdiv 1000000000 (u64.wrap ((u64.wrap x1)+1))))))with|true=>(match decide ((0:Int)≤0∧0≤((ah (val a*(u32.wrap (u64.wrap (Int.tdiv 1000000000 (u64.wrap ((u64.wrap x1)+1)))))).toNat).length:Int)∧((ah (val a*(u32.wrap (u64.wrap (Int.tdiv 1000000000 (u64.wrap ((u64.wrap x1)+1)))))).toNat).length:Int)≤((List.replicate (i64.wrap ((a.length:Int)+1)).toNat (0:Int)).length:Int))with|true=>k 30 (kx a b x1 x2 ([]) (i64.wrap (((ah (val a*(u32.wrap (u64.wrap (Int.tdiv 1000000000 (u64.wrap ((u64.wrap x1)+1)))))).toNat).length:Int)-1)) (List.replicate (i64.wrap ((a.length:Int)+1)).toNat (0:Int)))|false=>none)|false=>none)|false=>none)|none=>none)|false=>none))|none=>none)
theorem TQ(a b:List Int):RS jz 215 [.d axe a,.d axe b] (JT a b):=rsX
def kH(a b:List Int)(x1 x2:Int)(s11:List Int)(s14:Int)(r0:List Int)(k:KT):Option (List RV):=match decide (s14≥0)with|true=>(match bi (ah (val a*(u32.wrap (u64.wrap (Int.tdiv 1000000000 (u64.wrap ((u64.wrap x1)+1)))))).toNat) s14 with|some x3=>(match decide ((([x3]).length+s11.length)*4≤140737488355328∧([x3]).length+s11.length≤140737488355328)with|true=>(match decide (bj (([x3])++s11))with|true=>(match decide (((ah (val (([x3])++s11)).toNat).length:Int)>((ah (val b*(u32.wrap (u64.wrap (Int.tdiv 1000000000 (u64.wrap ((u64.wrap x1)+1)))))).toNat).length:Int))with|true=>(match bi (ah (val (([x3])++s11)).toNat) ((ah (val b*(u32.wrap (u64.wrap (Int.tdiv 1000000000 (u64.wrap ((u64.wrap x1)+1)))))).toNat).length:Int)with|some x4=>(match decide (((ah (val (([x3])++s11)).toNat).length:Int)≥((ah (val b*(u32.wrap (u64.wrap (Int.tdiv 1000000000 (u64.wrap ((u64.wrap x1)+1)))))).toNat).length:Int))with|true=>(match bi (ah (val (([x3])++s11)).toNat) (i64.wrap (((ah (val b*(u32.wrap (u64.wrap (Int.tdiv 1000000000 (u64.wrap ((u64.wrap x1)+1)))))).toNat).length:Int)-1))with|some x5=>(match decide (u64.wrap x2=(0:Int))with|true=>none|false=>(match decide ((u64.wrap (Int.tdiv (u64.wrap ((u64.wrap ((u64.wrap x4)*1000000000))+(u64.wrap x5))) (u64.wrap x2)))>999999999)with|true=>(match decide (byP (ah (val b*(u32.wrap (u64.wrap (Int.tdiv 1000000000 (u64.wrap ((u64.wrap x1)+1)))))).toNat) (u32.wrap 999999999))with|true=>k 67 (fh a b x1 x2 s11 s14 r0 x3 999999999 (ah (val (ah (val b*(u32.wrap (u64.wrap (Int.tdiv 1000000000 (u64.wrap ((u64.wrap x1)+1)))))).toNat)*(u32.wrap 999999999)).toNat))|false=>none)|false=>(match decide (byP (ah (val b*(u32.wrap (u64.wrap (Int.tdiv 1000000000 (u64.wrap ((u64.wrap x1)+1)))))).toNat) (u32.wrap (u64.wrap (Int.tdiv (u64.wrap ((u64.wrap ((u64.wrap x4)*1000000000))+(u64.wrap x5))) (u64.wrap x2)))))with|true=>k 67 (fh a b x1 x2 s11 s14 r0 x3 (u64.wrap (Int.tdiv (u64.wrap ((u64.wrap ((u64.wrap x4)*1000000000))+(u64.wrap x5))) (u64.wrap x2))) (ah (val (ah (val b*(u32.wrap (u64.wrap (Int.tdiv 1000000000 (u64.wrap ((u64.wrap x1)+1)))))).toNat)*(u32.wrap (u64.wrap (Int.tdiv (u64.wrap ((u64.wrap ((u64.wrap x4)*1000000000))+(u64.wrap x5))) (u64.wrap x2))))).toNat))|false=>none)))|none=>none)|false=>(match decide (u64.wrap x2=(0:Int))with|true=>none|false=>(match decide ((u64.wrap (Int.tdiv (u64.wrap ((u64.wrap x4)*1000000000)) (u64.wrap x2)))>999999999)with|true=>(match decide (byP (ah (val b*(u32.wrap (u64.wrap (Int.tdiv 1000000000 (u64.wrap ((u64.wrap x1)+1)))))).toNat) (u32.wrap 999999999))with|true=>k 67 (fh a b x1 x2 s11 s14 r0 x3 999999999 (ah (val (ah (val b*(u32.wrap (u64.wrap (Int.tdiv 1000000000 (u64.wrap ((u64.wrap x1)+1)))))).toNat)*(u32.wrap 999999999)).toNat))|false=>none)|false=>(match decide (byP (ah (val b*(u32.wrap (u64.wrap (Int.tdiv 1000000000 (u64.wrap ((u64.wrap x1)+1)))))).toNat) (u32.wrap (u64.wrap (Int.tdiv (u64.wrap ((u64.wrap x4)*1000000000)) (u64.wrap x2)))))with|true=>k 67 (fh a b x1 x2 s11 s14 r0 x3 (u64.wrap (Int.tdiv (u64.wrap ((u64.wrap x4)*1000000000)) (u64.wrap x2))) (ah (val (ah (val b*(u32.wrap (u64.wrap (Int.tdiv 1000000000 (u64.wrap ((u64.wrap x1)+1)))))).toNat)*(u32.wrap (u64.wrap (Int.tdiv (u64.wrap ((u64.wrap x4)*1000000000)) (u64.wrap x2))))).toNat))|false=>none))))|none=>none)|false=>(match decide (((ah (val (([x3])++s11)).toNat).length:Int)≥((ah (val b*(u32.wrap (u64.wrap (Int.tdiv 1000000000 (u64.wrap ((u64.wrap x1)+1)))))).toNat).length:Int))with|true=>(match bi (ah (val (([x3])++s11)).toNat) (i64.wrap (((ah (val b*(u32.wrap (u64.wrap (Int.tdiv 1000000000 (u64.wrap ((u64.wrap x1)+1)))))).toNat).length:Int)-1))with|some x4=>(match decide (u64.wrap x2=(0:Int))with|true=>none|false=>(match decide ((u64.wrap (Int.tdiv (u64.wrap (0+(u64.wrap x4))) (u64.wrap x2)))>999999999)with|true=>(match decide (byP (ah (val b*(u32.wrap (u64.wrap (Int.tdiv 1000000000 (u64.wrap ((u64.wrap x1)+1)))))).toNat) (u32.wrap 999999999))with|true=>k 67 (fh a b x1 x2 s11 s14 r0 x3 999999999 (ah (val (ah (val b*(u32.wrap (u64.wrap (Int.tdiv 1000000000 (u64.wrap ((u64.wrap x1)+1)))))).toNat)*(u32.wrap 999999999)).toNat))|false=>none)|false=>(match decide (byP (ah (val b*(u32.wrap (u64.wrap (Int.tdiv 1000000000 (u64.wrap ((u64.wrap x1)+1)))))).toNat) (u32.wrap (u64.wrap (Int.tdiv (u64.wrap (0+(u64.wrap x4))) (u64.wrap x2)))))with|true=>k 67 (fh a b x1 x2 s11 s14 r0 x3 (u64.wrap (Int.tdiv (u64.wrap (0+(u64.wrap x4))) (u64.wrap x2))) (ah (val (ah (val b*(u32.wrap (u64.wrap (Int.tdiv 1000000000 (u64.wrap ((u64.wrap x1)+1)))))).toNat)*(u32.wrap (u64.wrap (Int.tdiv (u64.wrap (0+(u64.wrap x4))) (u64.wrap x2))))).toNat))|false=>none)))|none=>none)|false=>(match decide (u64.wrap x2=(0:Int))with|true=>none|false=>(match decide ((u64.wrap (Int.tdiv 0 (u64.wrap x2)))>999999999)with|true=>(match decide (byP (ah (val b*(u32.wrap (u64.wrap (Int.tdiv 1000000000 (u64.wrap ((u64.wrap x1)+1)))))).toNat) (u32.wrap 999999999))with|true=>k 67 (fh a b x1 x2 s11 s14 r0 x3 999999999 (ah (val (ah (val b*(u32.wrap (u64.wrap (Int.tdiv 1000000000 (u64.wrap ((u64.wrap x1)+1)))))).toNat)*(u32.wrap 999999999)).toNat))|false=>none)|false=>(match decide (byP (ah (val b*(u32.wrap (u64.wrap (Int.tdiv 1000000000 (u64.wrap ((u64.wrap x1)+1)))))).toNat) (u32.wrap (u64.wrap (Int.tdiv 0 (u64.wrap x2)))))with|true=>k 67 (fh a b x1 x2 s11 s14 r0 x3 (u64.wrap (Int.tdiv 0 (u64.wrap x2))) (ah (val (ah (val b*(u32.wrap (u64.wrap (Int.tdiv 1000000000 (u64.wrap ((u64.wrap x1)+1)))))).toNat)*(u32.wrap (u64.wrap (Int.tdiv 0 (u64.wrap x2))))).toNat))|false=>none)))))|false=>none)|false=>none)|none=>none)|false=>(match decide ((0:Int)≤(s11.length:Int)∧(s11.length:Int)*((4:Nat):Int)≤140737488355328∧(s11.length:Int)≤140737488355328)with|true=>k 90 (tD a x1 s11 r0 0 (i64.wrap ((s11.length:Int)-1)) (List.replicate ((s11.length:Int)).toNat (0:Int)))|false=>none)
theorem nR(a b:List Int)(x1 x2:Int)(s11:List Int)(s14:Int)(r0:List Int):RN jz 30 (kx a b x1 x2 s11 s14 r0) (kH a b x1 x2 s11 s14 r0):=rnX
def mS(a b:List Int)(x1 x2:Int)(s11:List Int)(s14:Int)(r0:List Int)(x3 s16:Int)(s17:List Int)(k:KT):Option (List RV):=match decide (qZ s17 (ah (val (([x3])++s11)).toNat))with|true=>(match decide ((cH (val s17) (val (ah (val (([x3])++s11)).toNat)))>0)with|true=>(match decide (nH s17 (ah (val b*(u32.wrap (u64.wrap (Int.tdiv 1000000000 (u64.wrap ((u64.wrap x1)+1)))))).toNat))with|true=>k 67 (fh a b x1 x2 s11 s14 r0 x3 (u64.wrap (s16-1)) (ah (val s17-val (ah (val b*(u32.wrap (u64.wrap (Int.tdiv 1000000000 (u64.wrap ((u64.wrap x1)+1)))))).toNat)).toNat))|false=>none)|false=>(match decide (nH (ah (val (([x3])++s11)).toNat) s17)with|true=>(match true,decide ((0:Int)≤s14∧s14<(((((ah (val a*(u32.wrap (u64.wrap (Int.tdiv 1000000000 (u64.wrap ((u64.wrap x1)+1)))))).toNat).length:Int):Int).toNat-(0:Int).toNat:Nat):Int))with|true,true=>(match true,r0[(0:Int).toNat+(s14).toNat]? with|true,some _=>k 30 (kx a b x1 x2 (ah (val (ah (val (([x3])++s11)).toNat)-val s17).toNat) (i64.wrap (s14-1)) (r0.set ((0:Int).toNat+(s14).toNat) (u32.wrap s16)))|_,_=>none)|_,_=>none)|false=>none))|false=>none
theorem rJ(a b:List Int)(x1 x2:Int)(s11:List Int)(s14:Int)(r0:List Int)(x3 s16:Int)(s17:List Int):RN jz 67 (fh a b x1 x2 s11 s14 r0 x3 s16 s17) (mS a b x1 x2 s11 s14 r0 x3 s16 s17):=rnX
def sB(a:List Int)(x1:Int)(s11 r0:List Int)(s18 s20:Int)(r1:List Int)(k:KT):Option (List RV):=match decide (s20≥0)with|true=>(match bi s11 s20 with|some x2=>(match decide (u64.wrap (u32.wrap (u64.wrap (Int.tdiv 1000000000 (u64.wrap ((u64.wrap x1)+1)))))=(0:Int))with|true=>none|false=>(match bi r1 s20 with|some _=>(match true,r1[(s20).toNat]? with|true,some _=>(match decide (u64.wrap (u32.wrap (u64.wrap (Int.tdiv 1000000000 (u64.wrap ((u64.wrap x1)+1)))))=(0:Int))with|true=>none|false=>k 90 (tD a x1 s11 r0 (Int.tmod (u64.wrap ((u64.wrap (s18*1000000000))+(u64.wrap x2))) (u64.wrap (u32.wrap (u64.wrap (Int.tdiv 1000000000 (u64.wrap ((u64.wrap x1)+1))))))) (i64.wrap (s20-1)) (r1.set ((s20).toNat) (u32.wrap (u64.wrap (Int.tdiv (u64.wrap ((u64.wrap (s18*1000000000))+(u64.wrap x2))) (u64.wrap (u32.wrap (u64.wrap (Int.tdiv 1000000000 (u64.wrap ((u64.wrap x1)+1))))))))))))|_,_=>none)|none=>none))|none=>none)|false=>(match decide (bj ((r0.drop ((0:Int).toNat)).take ((((ah (val a*(u32.wrap (u64.wrap (Int.tdiv 1000000000 (u64.wrap ((u64.wrap x1)+1)))))).toNat).length:Int):Int).toNat-(0:Int).toNat)))with|true=>(match decide (bj r1)with|true=>some [RV.d axe (ah (val ((r0.drop ((0:Int).toNat)).take ((((ah (val a*(u32.wrap (u64.wrap (Int.tdiv 1000000000 (u64.wrap ((u64.wrap x1)+1)))))).toNat).length:Int):Int).toNat-(0:Int).toNat))).toNat),RV.d axe (ah (val r1).toNat)]|false=>none)|false=>none)
theorem zH(a:List Int)(x1:Int)(s11 r0:List Int)(s18 s20:Int)(r1:List Int):RN jz 90 (tD a x1 s11 r0 s18 s20 r1) (sB a x1 s11 r0 s18 s20 r1):=rnX
def qsc(x1:Int):Int:=u32.wrap (u64.wrap (Int.tdiv 1000000000 (u64.wrap ((u64.wrap x1)+1))))
theorem gC(x1:Int):u32.wrap (u64.wrap (Int.tdiv 1000000000 (u64.wrap ((u64.wrap x1)+1))))=qsc x1:=by
 have h:∀y,qsc x1=y→y=qsc x1:=fun y e=>e.symm
 exact h _ rfl
theorem ain{x:Int}(h1:1≤x)(h2:x<1000000000):qsc x=1000000000/(x+1)∧1≤qsc x∧qsc x<1000000000:=by
 have h3:1≤1000000000/(x+1):=Int.le_ediv_of_mul_le (by omega) (by omega)
 have h4:1000000000/(x+1)<1000000000:=avy (by omega) (by omega)
 unfold qsc
 rw[bU (x:=x) (by omega) (by omega),bU (x:=x+1) (by omega) (by omega),gi (by omega),bU (by omega) (by omega),dp (by omega) (by omega)]
 exact⟨rfl,h3,h4⟩
theorem Js{v:Int}(h:0<v):∃(n:Nat) (x:Int),(ah v.toNat).length=n+1∧(ah v.toNat)[n]?=some x∧1≤x∧x<1000000000∧x*pw n≤v:=by
 have hne:ah v.toNat≠[]:=fun e=>by rw[gS]at e;omega
 rcases List.eq_nil_or_concat (ah v.toNat)with h0|⟨l,x,hx⟩
 ·exact absurd h0 hne
 ·have hv:=bW v.toNat
  have hc:=eh v.toNat
  have hl:=cA v.toNat
  rw[List.concat_eq_append]at hx
  rw[hx]at hv hc hl
  have hxx:=hl x (by simp)
  have hx0:x≠0:=fun e=>hc.2 (by simp[e])
  have hln:=bg (l:=l) (fun y hy=>hl y (by simp[hy]))
  rw[dH]at hv
  simp only[val]at hv
  refine⟨l.length,x,by rw[hx];simp,by rw[hx];simp,by omega,hxx.2,?_⟩
  rw[avG]
  rw[awf,awR]at hv
  omega
section
variable (a b:List Int) (x1 x2:Int) (V:Int) (hV:val b*qsc x1=V) (hs:1≤qsc x1∧qsc x1<1000000000) (hp:0<V) (hra:(ah (val a*qsc x1).toNat).length≤a.length+1) (ha:Lim a∧a.length≤1000000) (hL:(ah V.toNat).length≤1000001)
theorem VY(hs:1≤qsc x1∧qsc x1<1000000000)(l r0:List Int)(hl:Lim l∧l.length≤2000000)(hr0:bj r0)(hz0:∀k (hk:k<r0.length),(ah (val a*qsc x1).toNat).length≤k→r0[k]=0):∀(n:Nat) (c:Int) (r:List Int),n≤l.length→0≤c→c<qsc x1→Lim r→r.length=l.length→(∀k (hk:k<r.length),k<n→r[k]=0)→qsc x1*val r+pw n*c+val (l.take n)=val l→
  jz.Runs 90 (tD a x1 l r0 c ((n:Int)-1) r) [.d axe (ah (val r0).toNat),.d axe (ah (val l/qsc x1).toNat)]:=by
 have hsa:=hl.2
 have e64:u64.wrap (qsc x1)=qsc x1:=bU (by omega) (by omega)
 intro n
 induction n with
 |zero=>
  intro c r hn c0 c1 hr hlen hz hv
  simp only[nI,List.take_zero,val,aw2,awR]at hv
  have e2:val l/qsc x1=val r:=by
   rw[←hv,awS,avQ _ _ (by omega),avl c0 c1]
   omega
  have e3:=yv hz0
  have e4:bj (r0.take (ah (val a*qsc x1).toNat).length):=⟨hr0.1.take _,by have:=hr0.2;rw[auG];omega⟩
  refine zH _ _ _ _ _ _ _ ⟨0,?_⟩
  unfold sB
  simp only[gC,Int.toNat_zero,avM,avz,awQ]
  rw[dF (by omega)]
  dsimp only
  rw[dT e4,dT (show bj r from⟨hr,by omega⟩),e3,e2]
 |succ n ih=>
  intro c r hn c0 c1 hr hlen hz hv
  have hna:n<l.length:=by omega
  have hnr:n<r.length:=by omega
  have xa:=hl.1.get hna
  have hr0':=hz n hnr (by omega)
  have hcb:0≤c*1000000000+l[n]:=by omega
  have m0:=avc (c*1000000000+l[n]) (show qsc x1≠0 by omega)
  have m1:=auJ (c*1000000000+l[n]) (show 0<qsc x1 by omega)
  have md:=auR (c*1000000000+l[n]) (qsc x1)
  have d0:0≤(c*1000000000+l[n])/qsc x1:=au8 hcb (by omega)
  have d1:(c*1000000000+l[n])/qsc x1<1000000000:=by
   refine avy (by omega) ?_
   have:=auj (show c+1≤qsc x1 by omega) (show(0:Int)≤1000000000 by decide)
   rw[avG 1000000000 (qsc x1)]
   omega
  obtain⟨q,hq⟩:=ih ((c*1000000000+l[n])%qsc x1) (r.set n ((c*1000000000+l[n])/qsc x1)) (by omega) m0 m1 (hr.set n ⟨d0,d1⟩) (by simpa using hlen)
   (fun k hk hkn=>by rw[avs (by omega)];exact hz k (by simpa using hk) (by omega)) (by
    rw[fp hnr,hr0']
    rw[bJ hna,cB]at hv
    grind)
  refine zH _ _ _ _ _ _ _ ⟨q,?_⟩
  unfold sB
  simp only[gC]
  rw[show((n+1:Nat):Int)-1=(n:Int) by omega,dT (by omega),aA l n,atU hna,e64,dF (show ¬qsc x1=0 by omega),aA r n,aQ,atU hnr]
  dsimp only
  rw[bU (x:=c*1000000000) (by omega) (by omega),bU (x:=l[n]) (by omega) (by omega),bU (x:=c*1000000000+l[n]) (by omega) (by omega),gi hcb,jk hcb,bU (x:=(c*1000000000+l[n])/qsc x1) (by omega) (by omega),dp (x:=(c*1000000000+l[n])/qsc x1) (by omega) (by omega),bz (x:=(n:Int)-1) (by omega) (by omega)]
  exact hq
include hV hp hL in
theorem Je{res:List RV}(i:Nat)(hi:i<(ah (val a*qsc x1).toNat).length)(r0 l:List Int)(hlr:r0.length=a.length+1)(hra:(ah (val a*qsc x1).toNat).length≤a.length+1)(x3 W:Int)(hW:val ([x3]++l)=W)(W0:0≤W)(hWl:(ah W.toNat).length≤1000002)
  (hout:jz.Runs 30 (kx a b x1 x2 (ah (W%V).toNat) ((i:Int)-1) (r0.set i (W/V))) res) (hi':(ah (val a*qsc x1).toNat).length≤2000000):
  ∀(d:Nat),d≤999999999→W<V*((d:Int)+1)→jz.Runs 67 (fh a b x1 x2 l (i:Int) r0 x3 (d:Int) (ah (V*(d:Int)).toNat)) res:=by
 intro d
 have hsz:∀e:Nat,e≤999999999→(ah (V*(e:Int)).toNat).length≤1000002:=fun e he=>by
  refine cO (au1 (by omega) (by omega)) ?_
  have h1:V<pw 1000001:=by
   have:=cr (cA V.toNat)
   rw[bW]at this
   have:=du hL
   omega
  rw[cB 1000001]
  have h2:V*(e:Int)≤V*999999999:=aua (by omega) (by omega)
  omega
 induction d with
 |zero=>
  intro _ hd
  obtain⟨q,hq⟩:=hout
  have hWV:W<V:=by simpa using hd
  rw[awd W0 hWV,avl W0 hWV]at hq
  refine rJ _ _ _ _ _ _ _ _ _ _ ⟨q,?_⟩
  unfold mS
  simp only[gC,hV,hW]
  rw[show(V*((0:Nat):Int)).toNat=0 by simp,dT (show qZ (ah 0) (ah W.toNat) from⟨⟨eh _,by decide⟩,eh _,by omega⟩),cp W0,zk,show val (ah 0)=0 from rfl,dF (show ¬W<0 by omega),dT (show nH (ah W.toNat) (ah 0) from⟨cS (by omega),cS (by decide),by rw[cp W0];exact W0⟩)]
  dsimp only
  rw[dT (show(0:Int)≤(i:Int)∧(i:Int)<((((ah (val a*qsc x1).toNat).length:Int).toNat-(0:Int).toNat:Nat):Int) by constructor<;>simp<;>omega)]
  rw[show(0:Int).toNat+((i:Int)).toNat=i by simp,atU (by omega)]
  dsimp only
  rw[Int.sub_zero,bz (by omega) (by omega)]
  exact hq
 |succ d ih=>
  intro hd1 hd
  have hc:((d+1:Nat):Int)=(d:Int)+1:=by omega
  rw[hc]at hd
  have hV1:0≤V*((d:Int)+1):=au1 (by omega) (by omega)
  have hV0:0≤V*(d:Int):=au1 (by omega) (by omega)
  have hVd:V*((d:Int)+1)-V=V*(d:Int):=by grind
  have hs1:=hsz (d+1) (by omega)
  rw[hc]at hs1
  have k1:=bW V.toNat
  by_cases hg:W<V*((d:Int)+1)
  ·obtain⟨q,hq⟩:=ih (by omega) hg
   refine rJ _ _ _ _ _ _ _ _ _ _ ⟨q,?_⟩
   unfold mS
   simp only[gC,hV,hW]
   rw[hc,dT (show qZ (ah (V*((d:Int)+1)).toNat) (ah W.toNat) from⟨⟨eh _,by omega⟩,eh _,by omega⟩),cp W0,cp hV1,zk,dT hg,dT (show nH (ah (V*((d:Int)+1)).toNat) (ah V.toNat) from⟨cS (by omega),cS (by omega),by rw[cp hV1,cp (by omega)];omega⟩),cp (v:=V) (by omega),hVd,bU (by omega) (by omega),show(d:Int)+1-1=(d:Int) by omega]
   exact hq
  ·obtain⟨q,hq⟩:=hout
   have e1:W/V=(d:Int)+1:=by
    have:W=(W-V*((d:Int)+1))+V*((d:Int)+1):=by omega
    rw[this,avQ _ _ (by omega),avl (by omega) (by grind)]
    omega
   have e2:W%V=W-V*((d:Int)+1):=by
    have:=auR W V
    rw[e1]at this
    omega
   rw[e1,e2]at hq
   refine rJ _ _ _ _ _ _ _ _ _ _ ⟨q,?_⟩
   unfold mS
   simp only[gC,hV,hW]
   rw[hc,dT (show qZ (ah (V*((d:Int)+1)).toNat) (ah W.toNat) from⟨⟨eh _,by omega⟩,eh _,by omega⟩),cp W0,cp hV1,zk,dF hg,dT (show nH (ah W.toNat) (ah (V*((d:Int)+1)).toNat) from⟨cS (by omega),cS (by omega),by rw[cp hV1,cp W0];omega⟩)]
   dsimp only
   rw[dT (show(0:Int)≤(i:Int)∧(i:Int)<((((ah (val a*qsc x1).toNat).length:Int).toNat-(0:Int).toNat:Nat):Int) by constructor<;>simp<;>omega)]
   rw[show(0:Int).toNat+((i:Int)).toNat=i by simp,atU (by omega)]
   dsimp only
   rw[bz (by omega) (by omega),dp (by omega) (by omega)]
   exact hq
end
end
section
def qJ(k:Nat→Cfg→Option (List RV))(a b:List Int)(x1 x2:Int)(s11:List Int)(s14:Int)(r0:List Int)(x3 H:Int):Option (List RV):=match decide (u64.wrap x2=(0:Int))with|true=>none|false=>(match decide ((u64.wrap (Int.tdiv H (u64.wrap x2)))>999999999)with|true=>(match decide (byP (ah (val b*(u32.wrap (u64.wrap (Int.tdiv 1000000000 (u64.wrap ((u64.wrap x1)+1)))))).toNat) (u32.wrap 999999999))with|true=>k 67 (fh a b x1 x2 s11 s14 r0 x3 999999999 (ah (val (ah (val b*(u32.wrap (u64.wrap (Int.tdiv 1000000000 (u64.wrap ((u64.wrap x1)+1)))))).toNat)*(u32.wrap 999999999)).toNat))|false=>none)|false=>(match decide (byP (ah (val b*(u32.wrap (u64.wrap (Int.tdiv 1000000000 (u64.wrap ((u64.wrap x1)+1)))))).toNat) (u32.wrap (u64.wrap (Int.tdiv H (u64.wrap x2)))))with|true=>k 67 (fh a b x1 x2 s11 s14 r0 x3 (u64.wrap (Int.tdiv H (u64.wrap x2))) (ah (val (ah (val b*(u32.wrap (u64.wrap (Int.tdiv 1000000000 (u64.wrap ((u64.wrap x1)+1)))))).toNat)*(u32.wrap (u64.wrap (Int.tdiv H (u64.wrap x2))))).toNat))|false=>none))
theorem Th{W V H x p d:Int}(hx:1≤x)(hW:W<(H+1)*p)(hp:0<p)(hV:x*p≤V)(hd:H/x=d)(h0:0≤H):W<V*(d+1):=by
 have h1:=auR H x
 have h2:=auJ H (show 0<x by omega)
 have h3:0≤d:=by rw[←hd];exact au8 h0 (by omega)
 rw[hd]at h1
 have h4:H+1≤x*(d+1):=by grind
 have h5:=auj h4 (auH hp)
 have h6:=auj hV (show 0≤d+1 by omega)
 grind
theorem alh{A B s R q:Int}(hs:0<s)(h:A*s=R+B*s*q)(h0:0≤R)(h1:R<B*s):A/B=q∧A%B=R/s:=by
 have e:R=s*(A-B*q):=by grind
 have hm:R/s=A-B*q:=by rw[e];exact awe _ (by omega)
 have m0:0≤A-B*q:=by
  apply aul
  intro hc
  have:=aua (show A-B*q≤ -1 by omega) (auH hs)
  omega
 have m1:A-B*q<B:=by
  apply aul
  intro hc
  have:=aua (show B≤A-B*q by omega) (auH hs)
  grind
 have hA:A=(A-B*q)+B*q:=by omega
 constructor
 ·rw[hA,avQ _ _ (by omega),avl (by omega) (by omega)];omega
 ·rw[hm,hA,av2,awd (by omega) (by omega)];omega
section
variable (a b:List Int) (x1 x2:Int) (V:Int) (hV:val b*qsc x1=V) (hs:1≤qsc x1∧qsc x1<1000000000) (hp:0<V) (hra:(ah (val a*qsc x1).toNat).length≤a.length+1) (ha:Lim a∧a.length≤1000000) (hL:(ah V.toNat).length≤1000001)
include hV hs hp hra ha hL in
theorem Jx(n:Nat)(hn:(ah V.toNat).length=n+1)(hx2:1≤x2∧x2<1000000000)(hxp:x2*pw n≤V):∀(i:Nat) (R:Int) (r0:List Int),i≤(ah (val a*qsc x1).toNat).length→0≤R→R<V→r0.length=a.length+1→Lim r0→
  (∀k (hk:k<r0.length),k<i→r0[k]=0)→(∀k (hk:k<r0.length),(ah (val a*qsc x1).toNat).length≤k→r0[k]=0)→val a*qsc x1=pw i*R+val ((ah (val a*qsc x1).toNat).take i)+V*val r0→
  jz.Runs 30 (kx a b x1 x2 (ah R.toNat) ((i:Int)-1) r0) [.d axe (ah (val a/val b).toNat),.d axe (ah (val a%val b).toNat)]:=by
 have hVp:V<pw 1000001:=by
  have:=cr (cA V.toNat)
  rw[bW]at this
  have:=du hL
  omega
 have ha2:=ha.2
 intro i
 induction i with
 |zero=>
  intro R r0 _ R0 RV hlr hl _ hz he
  simp only[nI,List.take_zero,val,aw2,awR]at he
  rw[←hV]at he
  obtain⟨e1,e2⟩:=alh (by omega) he R0 (by rw[hV];exact RV)
  have hRl:(ah R.toNat).length≤1000001:=cO R0 (by omega)
  obtain⟨q,hq⟩:=VY a x1 hs (ah R.toNat) r0 ⟨cA _,by omega⟩ ⟨hl,by omega⟩ hz (ah R.toNat).length 0 (List.replicate (ah R.toNat).length 0) (at5 _) (by omega) (by omega) (Lim.rep _) (by simp) (fun k hk _=>by simp) (by simp[gG])
  rw[cp R0,←e2,←e1]at hq
  refine nR _ _ _ _ _ _ _ ⟨q,?_⟩
  unfold kH
  rw[dF (by omega)]
  dsimp only
  rw[dT (show(0:Int)≤((ah R.toNat).length:Int)∧((ah R.toNat).length:Int)*((4:Nat):Int)≤140737488355328∧((ah R.toNat).length:Int)≤140737488355328 from⟨by omega,by omega,by omega⟩),aQ,bz (by omega) (by omega)]
  exact hq
 |succ i ih=>
  intro R r0 hi R0 RV hlr hl hz hz2 he
  have hiU:i<(ah (val a*qsc x1).toNat).length:=by omega
  have hx:=(cA (val a*qsc x1).toNat).get hiU
  have hir:i<r0.length:=by omega
  have hr0:=hz i hir (by omega)
  have hWv:val ([(ah (val a*qsc x1).toNat)[i]]++ah R.toNat)=(ah (val a*qsc x1).toNat)[i]+1000000000*R:=by
   rw[dH,cp R0]
   simp[val,pw]
  generalize hxi:(ah (val a*qsc x1).toNat)[i]=x at hx hWv
  have W0:0≤x+1000000000*R:=by omega
  have WV:x+1000000000*R<1000000000*V:=by omega
  have hWl:(ah (x+1000000000*R).toNat).length≤n+2:=by
   refine cO W0 ?_
   have:=cr (cA V.toNat)
   rw[bW,hn]at this
   rw[cB (n+1)]
   omega
  have hRl:(ah R.toNat).length≤1000001:=cO R0 (by omega)
  have q0:0≤(x+1000000000*R)/V:=au8 W0 (by omega)
  have q1:(x+1000000000*R)/V<1000000000:=avy hp (by omega)
  have m0:=avc (x+1000000000*R) (show V≠0 by omega)
  have m1:=auJ (x+1000000000*R) hp
  have md:=auR (x+1000000000*R) V
  have hout:=ih ((x+1000000000*R)%V) (r0.set i ((x+1000000000*R)/V)) (by omega) m0 m1 (by simpa using hlr) (hl.set i ⟨q0,q1⟩)
   (fun k hk hk'=>by rw[avs (by omega)];exact hz k (by simpa using hk) (by omega))
   (fun k hk hk'=>by rw[avs (by omega)];exact hz2 k (by simpa using hk) hk') (by
    rw[fp hir,hr0]
    rw[bJ hiU,cB,hxi]at he
    grind)
  have hdig:=Je a b x1 x2 V hV hp hL i hiU r0 (ah R.toNat) hlr hra x (x+1000000000*R) hWv W0 (by omega) hout (by omega)
  have htail:∀H:Int,0≤H→H<1000000000000000000→x+1000000000*R<(H+1)*pw n→∃q,qJ (jz.k q) a b x1 x2 (ah R.toNat) ((i:Int)) r0 x H=some [.d axe (ah (val a/val b).toNat),.d axe (ah (val a%val b).toNat)]:=by
   intro H H0 H1 HW
   have d0:0≤H/x2:=au8 H0 (by omega)
   have d1:H/x2≤H:=avW _ H0
   have hbyV:∀d:Int,0≤d→d<1000000000→byP (ah V.toNat) d:=fun d h1 h2=>⟨⟨cA _,by omega⟩,h1,h2⟩
   by_cases hc:H/x2>999999999
   ·obtain⟨q,hq⟩:=hdig 999999999 (at5 _) (by rw[show V*(((999999999:Nat):Int)+1)=1000000000*V by omega];exact WV)
    refine⟨q,?_⟩
    unfold qJ
    simp only[gC,hV]
    rw[bU (x:=x2) (by omega) (by omega),dF (show ¬x2=0 by omega),gi H0,bU (x:=H/x2) (by omega) (by omega),dT hc,dp (x:=999999999) (by decide) (by decide),dT (hbyV 999999999 (by decide) (by decide)),cp (v:=V) (by omega)]
    exact hq
   ·obtain⟨q,hq⟩:=hdig (H/x2).toNat (by omega) (by rw[show(((H/x2).toNat:Nat):Int)=H/x2 by omega];exact Th hx2.1 HW (ct n) hxp rfl H0)
    rw[show(((H/x2).toNat:Nat):Int)=H/x2 by omega]at hq
    refine⟨q,?_⟩
    unfold qJ
    simp only[gC,hV]
    rw[bU (x:=x2) (by omega) (by omega),dF (show ¬x2=0 by omega),gi H0,bU (x:=H/x2) (by omega) (by omega),dF hc,dp (x:=H/x2) (by omega) (by omega),dT (hbyV (H/x2) (by omega) (by omega)),cp (v:=V) (by omega)]
    exact hq
  have hWlim:=cA (x+1000000000*R).toNat
  have hWval:=cp W0
  have hsplit:=fZ (ah (x+1000000000*R).toNat) n
  have htl:=cr (hWlim.take n)
  have hpre:∀H,val ((ah (x+1000000000*R).toNat).drop n)=H→x+1000000000*R<(H+1)*pw n:=by
   intro H hH
   rw[hH,hWval]at hsplit
   have hm:(ah (x+1000000000*R).toNat |>.take n).length≤n:=by rw[auG];omega
   have:=du hm
   rcases auw n (ah (x+1000000000*R).toNat).length with h|h
   ·rw[auF (by omega)]at hsplit
    rw[Int.add_mul,avG H,aw2]
    omega
   ·rw[auY h]at hH
    have hH0:H=0:=by rw[←hH];rfl
    subst hH0
    rw[awf]at hsplit
    omega
  have hstep:∀(H:Int) (q:Nat),qJ (jz.k q) a b x1 x2 (ah R.toNat) ((i:Int)) r0 x H=some [.d axe (ah (val a/val b).toNat),.d axe (ah (val a%val b).toNat)]→True:=fun _ _ _=>trivial
  have hap:(([x]:List Int).length+(ah R.toNat).length)*4≤140737488355328∧([x]:List Int).length+(ah R.toNat).length≤140737488355328:=by simp only[aur];omega
  have hlS:bj ([x]++ah R.toNat):=⟨(Lim.cons ⟨hx.1,hx.2⟩ Lim.nil).append (cA _),by simp only[aus,aur];omega⟩
  have hw1:i64.wrap (((n+1:Nat):Int)-1)=((n:Nat):Int):=by rw[bz (by omega) (by omega)];omega
  rcases Nat.lt_trichotomy (ah (x+1000000000*R).toNat).length (n+1)with hc|hc|hc
  ·obtain⟨q,hq⟩:=htail 0 (by omega) (by omega) (hpre 0 (by rw[auY (by omega)];rfl))
   refine nR _ _ _ _ _ _ _ ⟨q,?_⟩
   unfold kH
   rw[dT (show((i+1:Nat):Int)-1≥0 by omega),show((i+1:Nat):Int)-1=(i:Int) by omega,gC,aA,atU hiU,hxi]
   dsimp only
   rw[dT hap,dT hlS,hWv,hV,hn]
   dsimp only
   rw[dF (show ¬((ah (x+1000000000*R).toNat).length:Int)>((n+1:Nat):Int) by omega),dF (show ¬((ah (x+1000000000*R).toNat).length:Int)≥((n+1:Nat):Int) by omega)]
   rw[←hV]
   exact hq
  ·have hget:(ah (x+1000000000*R).toNat)[n]?=some (ah (x+1000000000*R).toNat)[n]:=atU (by omega)
   have hxn:=hWlim.get (show n<(ah (x+1000000000*R).toNat).length by omega)
   have hdrop:val ((ah (x+1000000000*R).toNat).drop n)=(ah (x+1000000000*R).toNat)[n]:=by
    rw[jw (by omega),auY (by omega)]
    simp[val]
   obtain⟨q,hq⟩:=htail (ah (x+1000000000*R).toNat)[n] hxn.1 (by omega) (hpre _ hdrop)
   refine nR _ _ _ _ _ _ _ ⟨q,?_⟩
   unfold kH
   rw[dT (show((i+1:Nat):Int)-1≥0 by omega),show((i+1:Nat):Int)-1=(i:Int) by omega,gC,aA,atU hiU,hxi]
   dsimp only
   rw[dT hap,dT hlS,hWv,hV,hn]
   dsimp only
   rw[dF (show ¬((ah (x+1000000000*R).toNat).length:Int)>((n+1:Nat):Int) by omega),dT (show((ah (x+1000000000*R).toNat).length:Int)≥((n+1:Nat):Int) by omega),hw1,aA (ah (x+1000000000*R).toNat) n,hget]
   dsimp only
   rw[Int.zero_add,bU (x:=(ah (x+1000000000*R).toNat)[n]) (by omega) (by omega),bU (x:=(ah (x+1000000000*R).toNat)[n]) (by omega) (by omega)]
   rw[←hV]
   exact hq
  ·have hget:(ah (x+1000000000*R).toNat)[n]?=some (ah (x+1000000000*R).toNat)[n]:=atU (by omega)
   have hget1:(ah (x+1000000000*R).toNat)[n+1]?=some (ah (x+1000000000*R).toNat)[n+1]:=atU (by omega)
   have hxn:=hWlim.get (show n<(ah (x+1000000000*R).toNat).length by omega)
   have hxn1:=hWlim.get (show n+1<(ah (x+1000000000*R).toNat).length by omega)
   have hdrop:val ((ah (x+1000000000*R).toNat).drop n)=(ah (x+1000000000*R).toNat)[n+1]*1000000000+(ah (x+1000000000*R).toNat)[n]:=by
    rw[jw (by omega),jw (by omega),auY (by omega)]
    simp only[val]
    omega
   obtain⟨q,hq⟩:=htail ((ah (x+1000000000*R).toNat)[n+1]*1000000000+(ah (x+1000000000*R).toNat)[n]) (by omega) (by omega) (hpre _ hdrop)
   refine nR _ _ _ _ _ _ _ ⟨q,?_⟩
   unfold kH
   rw[dT (show((i+1:Nat):Int)-1≥0 by omega),show((i+1:Nat):Int)-1=(i:Int) by omega,gC,aA,atU hiU,hxi]
   dsimp only
   rw[dT hap,dT hlS,hWv,hV,hn]
   dsimp only
   rw[dT (show((ah (x+1000000000*R).toNat).length:Int)>((n+1:Nat):Int) by omega),aA (ah (x+1000000000*R).toNat) (n+1),hget1]
   dsimp only
   rw[dT (show((ah (x+1000000000*R).toNat).length:Int)≥((n+1:Nat):Int) by omega),hw1,aA (ah (x+1000000000*R).toNat) n,hget]
   dsimp only
   rw[bU (x:=(ah (x+1000000000*R).toNat)[n+1]) (by omega) (by omega),bU (x:=(ah (x+1000000000*R).toNat)[n+1]*1000000000) (by omega) (by omega),bU (x:=(ah (x+1000000000*R).toNat)[n]) (by omega) (by omega),bU (x:=(ah (x+1000000000*R).toNat)[n+1]*1000000000+(ah (x+1000000000*R).toNat)[n]) (by omega) (by omega)]
   rw[←hV]
   exact hq
end
end
theorem Tb(a b:List Int)(h:CZ a b):Con Tryz.prog 215 [.d axe a,.d axe b] [.d axe (ah (val a/val b).toNat),.d axe (ah (val a%val b).toNat)]:=by
 refine aP NA (show jz.Res _ _ _ from ?_)
 obtain⟨⟨ha,sa⟩,⟨hb,sb⟩,hne⟩:=h
 have a0:=bg ha.1
 have b0:0<val b:=eM hb hne
 have hlen:=auM.2 hne
 have la:=cr ha.1
 have lb:=cr hb.1
 by_cases hsm:a.length≤2∧b.length≤2
 ·have p2:pw 2=1000000000000000000:=by decide
  have m1:=du hsm.1
  have m2:=du hsm.2
  have q0:0≤val a/val b:=au8 a0 (by omega)
  have q1:val a/val b≤val a:=avW _ a0
  have r0:=avc (val a) (show val b≠0 by omega)
  have r1:=auJ (val a) b0
  refine TQ _ _ ⟨0,?_⟩
  unfold JT
  rw[dT (show(a.length:Int)≤2 by omega),dT (show(b.length:Int)≤2 by omega),dT (show r9 a from⟨⟨ha.1,by omega⟩,by omega⟩),dT (show r9 b from⟨⟨hb.1,by omega⟩,by omega⟩),dF (show ¬val b=0 by omega),gi a0,jk a0,bU (x:=val a/val b) q0 (by omega),dT (show gL (val a/val b) from⟨q0,by omega⟩),dT (show gL (val a%val b) from⟨r0,by omega⟩)]
 ·obtain⟨n,hn⟩:∃n,b.length=n+1:=⟨b.length-1,by omega⟩
  have hbn:n<b.length:=by omega
  have ht:=vM hb hn
  have hbl:=hb.1.get hbn
  obtain⟨hs0,hs1,hs2⟩:=ain (x:=b[n]) ht hbl.2
  have hVp:0<val b*qsc b[n]:=Int.mul_pos b0 (by omega)
  have hVl:(ah (val b*qsc b[n]).toNat).length≤1000001:=by
   refine cO (by omega) ?_
   have h1:val b*qsc b[n]≤val b*999999999:=aua (by omega) (by omega)
   have h2:=du sb
   rw[cB 1000000]
   omega
  have hUl:(ah (val a*qsc b[n]).toNat).length≤a.length+1:=by
   refine cO (au1 a0 (by omega)) ?_
   have h1:val a*qsc b[n]≤val a*999999999:=aua (by omega) (by omega)
   rw[cB]
   omega
  obtain⟨m,x2,hm,hg,hx1,hx2,hxp⟩:=Js hVp
  obtain⟨q,hq⟩:=Jx a b b[n] x2 (val b*qsc b[n]) rfl ⟨hs1,hs2⟩ hVp hUl ⟨ha.1,sa⟩ hVl m hm ⟨hx1,hx2⟩ hxp (ah (val a*qsc b[n]).toNat).length 0 (List.replicate (a.length+1) 0) (at5 _) (by omega) hVp (by simp) (Lim.rep _) (fun k hk _=>by simp) (fun k hk _=>by simp) (by
   rw[avg,cp (au1 a0 (by omega)),gG];omega)
  refine TQ _ _ ⟨q,?_⟩
  have hw1:i64.wrap ((b.length:Int)-1)=(n:Int):=by rw[bz (by omega) (by omega)];omega
  have hx1w:¬u64.wrap (u64.wrap b[n]+1)=0:=by rw[bU (x:=b[n]) (by omega) (by omega),bU (by omega) (by omega)];omega
  have hbyb:byP b (qsc b[n]):=⟨⟨hb.1,by omega⟩,by omega,hs2⟩
  have hbya:byP a (qsc b[n]):=⟨⟨ha.1,by omega⟩,by omega,hs2⟩
  have hw2:i64.wrap (((m+1:Nat):Int)-1)=(m:Int):=by rw[bz (by omega) (by omega)];omega
  have hsub:(match bi b (i64.wrap ((b.length:Int)-1))with|some x1=>(match decide (u64.wrap ((u64.wrap x1)+1)=(0:Int))with|true=>none|false=>(match decide (byP b (qsc x1))with|true=>(match bi (ah (val b*(qsc x1)).toNat) (i64.wrap (((ah (val b*(qsc x1)).toNat).length:Int)-1))with|some x2=>(match decide ((0:Int)≤i64.wrap ((a.length:Int)+1)∧(i64.wrap ((a.length:Int)+1))*((4:Nat):Int)≤140737488355328∧i64.wrap ((a.length:Int)+1)≤140737488355328)with|true=>(match decide (byP a (qsc x1))with|true=>(match decide ((0:Int)≤0∧0≤((ah (val a*(qsc x1)).toNat).length:Int)∧((ah (val a*(qsc x1)).toNat).length:Int)≤((List.replicate (i64.wrap ((a.length:Int)+1)).toNat (0:Int)).length:Int))with|true=>(jz.k q) 30 (kx a b x1 x2 ([]) (i64.wrap (((ah (val a*(qsc x1)).toNat).length:Int)-1)) (List.replicate (i64.wrap ((a.length:Int)+1)).toNat (0:Int)))|false=>none)|false=>none)|false=>none)|none=>none)|false=>none))|none=>none)=some [.d axe (ah (val a/val b).toNat),.d axe (ah (val a%val b).toNat)]:=by
   rw[hw1,aA,atU hbn]
   dsimp only
   rw[dF hx1w,dT hbyb,hm,hw2,aA,hg]
   dsimp only
   rw[co (k:=a.length) (by omega),uq (n:=a.length+1) (by omega),dT hbya,aQ,awu,dT (show(0:Int)≤0∧(0:Int)≤((ah (val a*qsc b[n]).toNat).length:Int)∧((ah (val a*qsc b[n]).toNat).length:Int)≤((a.length+1:Nat):Int) from⟨by omega,by omega,by omega⟩),bz (x:=((ah (val a*qsc b[n]).toNat).length:Int)-1) (by omega) (by omega)]
   exact hq
  unfold JT
  by_cases h1:a.length≤2
  ·rw[dT (show(a.length:Int)≤2 by omega),dF (show ¬(b.length:Int)≤2 by omega)]
   exact hsub
  ·rw[dF (show ¬(a.length:Int)≤2 by omega)]
   exact hsub
def Lt:aN:=spN false false [axe,axe] (fun x=>decide (CZ x.1 x.2.1)) (fun x=>[RV.d axe (ah (val x.1/val x.2.1).toNat),RV.d axe (ah (val x.1%val x.2.1).toNat)])
theorem OJ:SpK 215 Lt:=spX fun x h=>Tb x.1 x.2.1 (atS h)
def wN:aN:=spN false false [axf] (fun x=>decide (bO x.1)) (fun x=>[RV.d y2Y (aj x.1)])
theorem uy:SpK 81 wN:=spX fun x h=>G5 x.1 (atS h)
def K7:aN:=spN false false [y2Y,y2Y] (fun x=>decide (okI x.1∧okI x.2.1)) (fun x=>[RV.d y2Y (aj (ag x.1-ag x.2.1))])
theorem Np:SpK 217 K7:=spX fun x h=>YT x.1 x.2.1 (atS h)
def JJ:Env:=[(209,qR),(155,tv),(216,ua),(213,qC),(253,Jj),(214,wO),(215,Lt),(81,wN),(217,K7),(154,wE),(159,sY)]
theorem BW:EnvAll Tryz.prog JJ:=⟨l9,qI,qd,lY,FX,vp,OJ,uy,Np,vW,qh,trivial⟩
def akF:Ctx:=CX JJ []
def XV(x y:Bool×List Int)(_k:KT):Option (List RV):=let y1:=ah (val x.2/val y.2).toNat;let y2:=ah (val x.2%val y.2).toNat;let y3:=aj (cC (!(x.1==y.1)) (val y1));let y4:=aj (cC x.1 (val y2));let y5:Option (List RV):=match decide ((y2.length:Int)>0)with|true=>(match !(x.1==y.1)with|true=>(match decide (bO (1:Int))with|true=>(match decide (okI y3∧okI (aj (1:Int)))with|true=>(match decide (okI y4∧okI y)with|true=>dup (.b .l .l) (some [RV.d y2Y (aj (ag y3-ag (aj (1:Int)))),RV.d y2Y (aj (ag y4+ag y)),RV.d axf 0])|false=>none)|false=>none)|false=>none)|false=>dup (.b .l .l) (some [RV.d y2Y y3,RV.d y2Y y4,RV.d axf 0]))|false=>dup (.b .l .l) (some [RV.d y2Y y3,RV.d y2Y y4,RV.d axf 0]);let y6:Option (List RV):=match decide (bj y2)with|true=>y5|false=>none;match(y.2.length:Int)==0 with|true=>some [RV.d y2Y (false,[]),RV.d y2Y (false,[]),RV.d axf 6]|false=>(match decide (CZ x.2 y.2)with|true=>dl (match decide (bj y1)with|true=>dl (match decide (bj y2)with|true=>dup (.b .l .l) y5|false=>none) (dup (.b (.b .l .l) (.b .l .l)) y6)|false=>none) (dup (.b .l .l) (dl (match decide (bj y1)with|true=>dup (.b .l .l) y6|false=>none) (match decide (bj y1)with|true=>y6|false=>none)))|false=>none)
theorem alq(x y:Bool×List Int):RS akF 162 [.d y2Y x,.d y2Y y] (XV x y):=rsX
def aci:NT:=[((161,6),{keep:=[4,5,6],pure_:=[(5,.int .u32),(6,.int .u32)],hl:=3}),((161,29),{keep:=[4,9,10],hl:=3})]
def uz:Ctx:=CX JJ aci
def ta(x y:Bool×List Int)(s5 s6:List Int):Cfg:=⟨161,[.blk 0,.seq 17],[(4,.box 2 0),(5,.d axe s5),(6,.d axe s6)],[.box 33 [SB x.1,.d axe x.2],.box 33 [SB y.1,.d axe y.2],.box 33 [SB false,.nil]],0,[]⟩
def pW(x y:Bool×List Int)(s9 s10:Int):Cfg:=⟨161,[.blk 2,.seq 38],[(4,.box 2 0),(9,.d (.int .u64) s9),(10,.d (.int .u64) s10)],[.box 33 [SB x.1,.d axe x.2],.box 33 [SB y.1,.d axe y.2],.box 33 [SB false,.nil]],0,[]⟩
def aln(x y:Bool×List Int)(k:KT):Option (List RV):=k 6 (ta x y x.2 y.2)
theorem akI(x y:Bool×List Int):RS uz 161 [.d y2Y x,.d y2Y y] (aln x y):=rsX
def qz(x y:Bool×List Int)(s5 s6:List Int)(k:KT):Option (List RV):=match decide ((s6.length:Int)>0)with|true=>(match decide ((s5.length:Int)>2)with|true=>(match decide (CZ s5 s6)with|true=>k 6 (ta x y s6 (ah (val s5%val s6).toNat))|false=>none)|false=>(match decide ((s6.length:Int)>2)with|true=>(match decide (CZ s5 s6)with|true=>k 6 (ta x y s6 (ah (val s5%val s6).toNat))|false=>none)|false=>(match(s6.length:Int)==0 with|true=>(match decide (bj s5)with|true=>some [RV.d y2Y (aj (cC false (val s5)))]|false=>none)|false=>(match decide (r9 s5)with|true=>(match decide (r9 s6)with|true=>k 29 (pW x y (val s5) (val s6))|false=>none)|false=>none))))|false=>(match(s6.length:Int)==0 with|true=>(match decide (bj s5)with|true=>some [RV.d y2Y (aj (cC false (val s5)))]|false=>none)|false=>(match decide (r9 s5)with|true=>(match decide (r9 s6)with|true=>k 29 (pW x y (val s5) (val s6))|false=>none)|false=>none))
theorem vZ(x y:Bool×List Int)(s5 s6:List Int):RL uz 6 (ta x y s5 s6) (qz x y s5 s6):=rlX
def rV(x y:Bool×List Int)(s9 s10:Int)(k:KT):Option (List RV):=match decide (s10>0)with|true=>(match decide (s10=(0:Int))with|true=>none|false=>k 29 (pW x y s10 (Int.tmod s9 s10)))|false=>(match decide (gL s9)with|true=>(match decide (bj (ah s9.toNat))with|true=>some [RV.d y2Y (aj (cC false (val (ah s9.toNat))))]|false=>none)|false=>none)
theorem zY(x y:Bool×List Int)(s9 s10:Int):RL uz 29 (pW x y s9 s10) (rV x y s9 s10):=rlX
theorem Ur(x y:Bool×List Int)(h:fv x y):Con Tryz.prog 162 [.d y2Y x,.d y2Y y] [.d y2Y (aj (ag x/ag y)),.d y2Y (aj (ag x%ag y)),.d axf 0]:=by
 refine aP BW (alq _ _ ⟨0,?_⟩)
 obtain⟨hx,hy,hp⟩:=h
 obtain⟨x0,x1,x2⟩:=cN hx
 obtain⟨y0,y1,y2⟩:=cN hy
 have sx:=hx.2.2
 have sy:=hy.2.2
 have ey:y.1=false:=by
  cases e:y.1
  ·rfl
  ·rw[ce,e]at hp
   simp only[cC,cond_true]at hp
   omega
 have dy:ag y=val y.2:=by rw[ce,ey];rfl
 rw[dy]at hp
 have hne:y.2≠[]:=fun e=>by rw[y2]at e;omega
 have hprt:CZ x.2 y.2:=⟨⟨hx.1,sx⟩,⟨hy.1,sy⟩,hne⟩
 have hylen:=auM.2 hne
 have r0:=avc (val x.2) (show val y.2≠0 by omega)
 have r1:=auJ (val x.2) hp
 have q0:0≤val x.2/val y.2:=au8 x0 y0
 have q1:val x.2/val y.2≤val x.2:=avW _ x0
 have vx:=cr hx.1.1
 have vy:=cr hy.1.1
 have mx:=du sx
 have my:=du sy
 have szq:szI (val x.2/val y.2)≤1000000:=fu (by have:=ct 1000000;omega) (by omega)
 have szr:szI (val x.2%val y.2)≤1000000:=fu (by have:=ct 1000000;omega) (by omega)
 have lq:(ah (val x.2/val y.2).toNat).length≤1000000:=cO q0 (by omega)
 have lr:(ah (val x.2%val y.2).toNat).length≤1000000:=cO r0 (by omega)
 unfold XV
 simp only[aO]
 rw[show((y.2.length:Int)==0)=false by simp;omega,dT hprt,dT (cS (n:=(val x.2/val y.2).toNat) (by omega)),dT (cS (n:=(val x.2%val y.2).toNat) (by omega)),dT (show bO 1 by decide),cp q0,cp r0,
  dT (show okI (aj (cC (!(x.1==y.1)) (val x.2/val y.2)))∧okI (aj (1:Int)) from⟨bK (by rw[CT];exact szq),qu⟩),dT (show okI (aj (cC x.1 (val x.2%val y.2)))∧okI y from⟨bK (by rw[CT];exact szr),hy⟩)]
 simp only[dec_enc,dy,au]
 rw[ce x,ey]
 have hlen:(((ah (val x.2%val y.2).toNat).length:Int)>0)↔0<val x.2%val y.2:=by
  constructor
  ·intro hl
   rcases auA 0 (val x.2%val y.2)with h|h
   ·exact h
   ·rw[show(val x.2%val y.2).toNat=0 by omega,fq]at hl
    simp at hl
  ·intro hl
   have:ah (val x.2%val y.2).toNat≠[]:=fun e=>by rw[gS]at e;omega
   have:=auM.2 this
   omega
 obtain⟨n1,n2⟩:=Mu (a:=val x.2) (b:=val y.2) x0 hp
 rcases auA 0 (val x.2%val y.2)with hr|hr
 ·rw[dT (hlen.2 hr)]
  cases x.1
  ·rfl
  ·obtain⟨e1,e2⟩:=n2 hr
   simp only[cC,cond_true,Bool.not_false,show((true==false):Bool)=false from rfl]
   rw[e1,e2]
 ·rw[dF (fun h'=>by have:=hlen.1 h';omega)]
  dsimp only
  have e0:val x.2%val y.2=0:=by omega
  cases x.1
  ·simp only[cC,cond_false,show((false==false):Bool)=true from rfl,Bool.not_true]
  ·obtain⟨e1,e2⟩:=n1 e0
   simp only[cC,cond_true,Bool.not_false,show((true==false):Bool)=false from rfl]
   rw[e1,e2,e0]
   rfl
theorem Oh(x y:BI)(B:Nat)(hB:(B:Int)<18446744073709551616):∀(v u:Nat),u≤B→v≤B→uz.RunsE 29 (pW x y (u:Int) (v:Int)) [.d y2Y (aj ((Nat.gcd u v:Nat):Int))]:=by
 intro v
 induction v using Nat.strongRecOn with
 |ind v ih=>
  intro u hu hv
  rcases auI v with h0|h0
  ·refine zY _ _ _ _ ⟨0,fun n _=>?_⟩
   have hp:gL (u:Int):=⟨by omega,by omega⟩
   have hl:(ah u).length≤3:=dt (aws (show(u:Int)<18446744073709551616 by omega) (by decide))
   unfold rV
   rw[dF (show ¬(v:Int)>0 by omega),dT hp,avM,dT (cS (n:=u) (by omega)),bW,show Nat.gcd u v=u by rw[h0];exact Nat.gcd_zero_right u]
   rfl
  ·obtain⟨n0,hn⟩:=ih (u%v) (awP _ h0) v hv (auh (Nat.le_of_lt (awP _ h0)) hv)
   refine zY _ _ _ _ ⟨n0,fun n hn'=>?_⟩
   unfold rV
   rw[dT (show(v:Int)>0 by omega),dF (show ¬(v:Int)=0 by omega),jk (by omega)]
   dsimp only
   rw[show((u:Int)%(v:Int))=((u%v:Nat):Int) by simp,av5 u v,Nat.gcd_rec v u,av5]
   exact hn n hn'
theorem J7{u:Nat}(h:(ah u).length≤2):(u:Int)<1000000000000000000:=by
 have h1:=cr (cA u)
 rw[bW]at h1
 have h2:=du h
 have:pw 2=1000000000000000000:=by decide
 omega
theorem OH(x y:BI):∀(v u:Nat),(ah u).length≤1000000→(ah v).length≤1000000→
  uz.RunsE 6 (ta x y (ah u) (ah v)) [.d y2Y (aj ((Nat.gcd u v:Nat):Int))]:=by
 intro v
 induction v using Nat.strongRecOn with
 |ind v ih=>
  intro u hu hv
  rcases auI v with h0|h0
  ·refine vZ _ _ _ _ ⟨0,fun n _=>?_⟩
   unfold qz
   rw[h0,Nat.gcd_zero_right,dF (show ¬((ah 0).length:Int)>0 by decide),show(((ah 0).length:Int)==0)=true by decide]
   dsimp only
   rw[dT (cS (n:=u) (by omega)),bW]
   rfl
  ·have hne:ah v≠[]:=fun e=>by rw[gS]at e;omega
   have hl:=auM.2 hne
   have hm:=awP u h0
   have hms:(ah (u%v)).length≤1000000:=dt (by
    have:=cr (cA v)
    rw[bW]at this
    have:=du hv
    omega)
   have hz:(((ah v).length:Int)==0)=false:=by simp;omega
   have hprt:CZ (ah u) (ah v):=⟨⟨eh _,hu⟩,⟨eh _,hv⟩,hne⟩
   have hmod:(val (ah u)%val (ah v)).toNat=u%v:=by rw[bW,bW];omega
   by_cases hsm:(ah u).length≤2∧(ah v).length≤2
   ·have lu:=J7 hsm.1
    have lv:=J7 hsm.2
    obtain⟨n0,hn⟩:=Oh x y 1000000000000000000 (by decide) v u (by omega) (by omega)
    refine vZ _ _ _ _ ⟨n0,fun n hn'=>?_⟩
    unfold qz
    rw[dT (show((ah v).length:Int)>0 by omega),dF (show ¬((ah u).length:Int)>2 by omega),dF (show ¬((ah v).length:Int)>2 by omega),hz,dT (show r9 (ah u) from⟨cS (by omega),by rw[bW];omega⟩),dT (show r9 (ah v) from⟨cS (by omega),by rw[bW];omega⟩),bW,bW]
    exact hn n hn'
   ·obtain⟨n0,hn⟩:=ih (u%v) hm v hv hms
    refine vZ _ _ _ _ ⟨n0,fun n hn'=>?_⟩
    have:=hn n hn'
    rw[show Nat.gcd v (u%v)=Nat.gcd u v by rw[av5 u v,Nat.gcd_rec v u,av5]]at this
    unfold qz
    rw[dT (show((ah v).length:Int)>0 by omega),dT hprt,hmod]
    by_cases h2:(ah u).length≤2
    ·rw[dF (show ¬((ah u).length:Int)>2 by omega),dT (show((ah v).length:Int)>2 by omega)]
     exact this
    ·rw[dT (show((ah u).length:Int)>2 by omega)]
     exact this
theorem HI(x y:Bool×List Int)(h:okI x∧okI y):Con Tryz.prog 161 [.d y2Y x,.d y2Y y] [.d y2Y (aj ((Int.gcd (ag x) (ag y):Nat):Int))]:=by
 refine aP BW (show uz.Res _ _ _ from ?_)
 obtain⟨hx,hy⟩:=h
 obtain⟨x0,_,_⟩:=cN hx
 obtain⟨y0,_,_⟩:=cN hy
 have ex:((ag x).natAbs:Int)=val x.2:=by rw[ce];unfold cC;cases x.1<;>simp<;>omega
 have ey:((ag y).natAbs:Int)=val y.2:=by rw[ce];unfold cC;cases y.1<;>simp<;>omega
 have cx:=oG hx.1
 have cy:=oG hy.1
 rw[show(val x.2).toNat=(ag x).natAbs by omega]at cx
 rw[show(val y.2).toNat=(ag y).natAbs by omega]at cy
 obtain⟨n1,h1⟩:=OH x y (ag y).natAbs (ag x).natAbs (by rw[←cx];exact hx.2.2) (by rw[←cy];exact hy.2.2)
 rw[←cx,←cy]at h1
 exact akI _ _ ⟨n1,h1 n1 (at5 _)⟩
section
abbrev tI:Ty:=.st (.pair .bool axe)
abbrev tR:Ty:=.st (.pair tI tI)
abbrev tV:Ty:=.st (.pair tR tR)
abbrev tO:Ty:=.st (.pair tR (.pair tR tR))
abbrev tP:Ty:=.st (.pair tR (.pair tR (.pair tR (.pair tR tR))))
abbrev tQ:Ty:=.st (.pair tR (.pair tR (.pair tR (.pair tR (.pair tR tR)))))
abbrev tG:Ty:=.st (.pair axf axf)
abbrev BV:=BR×BR
abbrev BO3:=BR×BR×BR
abbrev BP:=BR×BR×BR×BR×BR
abbrev BQ:=BR×BR×BR×BR×BR×BR
def hid{α:Type}(x:α):α:=Classical.choose (⟨x,rfl⟩:∃y,y=x)
theorem ak{α:Type}(x:α):hid x=x:=ave (⟨x,rfl⟩:∃y,y=x)
class Cod (α:Type) (A:outParam Type) where
 enc:α→A
 dec:A→α
 bd:Nat→α→Prop
 ok:Nat→A→Prop
 okD:∀k x,Decidable (ok k x)
 mono:∀j k x,j≤k→bd j x→bd k x
 dec_enc:∀x,dec (enc x)=x
 ok_enc:∀k x,k≤480000→bd k x→ok k (enc x)
 ok_dec:∀k x,ok k x→x=enc (dec x)∧bd k (dec x)
def enc{α A:Type}[Cod α A](x:α):A:=Cod.enc x
def dec{α A:Type}[Cod α A](x:A):α:=Cod.dec x
def ok(α:Type){A:Type}[Cod α A](k:Nat)(x:A):Prop:=Cod.ok (α:=α) k x
instance (α A:Type) [Cod α A] (k:Nat) (x:A):Decidable (ok α k x):=Cod.okD k x
theorem aq{α A:Type}[Cod α A](x:α):dec (enc x)=x:=Cod.dec_enc x
class Bd {α A:Type} [Cod α A] (x:α) (k:outParam Nat):Prop where le:Cod.bd k x
theorem aZ{α A:Type}[Cod α A]{k:Nat}{x:A}(h:ok α k x):∃v:α,x=enc v∧Bd v k:=⟨_,(Cod.ok_dec k x h).1,⟨(Cod.ok_dec k x h).2⟩⟩
theorem okd{α A:Type}[Cod α A]{x:α}{j k:Nat}[h:Bd x j](hj:j≤k)(hk:k≤480000):decide (ok α k (enc x))=true:=
 atT (Cod.ok_enc k x hk (Cod.mono j k x hj h.le))
instance as4:Cod Rat BR where
 enc:=ai
 dec:=ae
 bd:=bdR
 ok k x:=okR x∧x.1.2.length≤k∧x.2.2.length≤k
 okD _ _:=instDecidableAnd
 mono _ _ _ hk h:=cK h hk
 dec_enc:=az
 ok_enc k _ hk h:=⟨qp h hk,h.1,h.2⟩
 ok_dec k x h:=by
  obtain⟨h1,h2,h3⟩:=h
  refine⟨Yu h1,?_⟩
  obtain⟨e1,e2⟩:=c8 h1
  unfold bdR szI
  rw[e1,e2]
  rw[ij h1.1]at h2
  rw[ij h1.2.1]at h3
  exact⟨h2,h3⟩
instance as2:Cod Int Int where
 enc x:=x
 dec x:=x
 bd _ x:=bO x
 ok _ x:=bO x
 okD _ _:=inferInstance
 mono _ _ _ _ h:=h
 dec_enc _:=rfl
 ok_enc _ _ _ h:=h
 ok_dec _ _ h:=⟨rfl,h⟩
instance asq:Cod Bool Bool where
 enc x:=x
 dec x:=x
 bd _ _:=True
 ok _ _:=True
 okD _ _:=inferInstance
 mono _ _ _ _ h:=h
 dec_enc _:=rfl
 ok_enc _ _ _ h:=h
 ok_dec _ _ h:=⟨rfl,h⟩
instance asu (α β A B:Type) [Cod α A] [Cod β B]:Cod (α×β) (A×B) where
 enc x:=(enc x.1,enc x.2)
 dec x:=(dec x.1,dec x.2)
 bd k x:=Cod.bd k x.1∧Cod.bd k x.2
 ok k x:=ok α k x.1∧ok β k x.2
 okD _ _:=instDecidableAnd
 mono _ _ _ hk h:=⟨Cod.mono _ _ _ hk h.1,Cod.mono _ _ _ hk h.2⟩
 dec_enc x:=by rw[aq,aq]
 ok_enc k _ hk h:=⟨Cod.ok_enc _ _ hk h.1,Cod.ok_enc _ _ hk h.2⟩
 ok_dec k x h:=⟨aw8 (Cod.ok_dec k x.1 h.1).1 (Cod.ok_dec k x.2 h.2).1,(Cod.ok_dec k x.1 h.1).2,(Cod.ok_dec k x.2 h.2).2⟩
theorem nr{α:Type}{a b:α}(h:a=b):a=b:=h
theorem aI{α β A B:Type}[Cod α A][Cod β B](x:α×β):(enc x).1=enc x.1:=nr rfl
theorem aL{α β A B:Type}[Cod α A][Cod β B](x:α×β):(enc x).2=enc x.2:=nr rfl
theorem aT{α β A B:Type}[Cod α A][Cod β B](x:α)(y:β):enc (x,y)=(enc x,enc y):=nr rfl
theorem aF(q:Rat):enc q=ai q:=nr rfl
theorem aK(x:BR):dec x=ae x:=nr rfl
theorem aJ(q:Int):enc q=q:=nr rfl
theorem aB(q:Bool):enc q=q:=nr rfl
theorem aX{q:Rat}{j:Nat}[h:Bd q j](hj:j≤480000):decide (okR (ai q))=true:=atT (qp h.le hj)
def mx(j k:Nat):Nat:=bif decide (j≤k)then k else j
theorem Jh(j k:Nat):j≤mx j k:=by
 unfold mx
 by_cases h:j≤k
 ·rw[atT h];exact h
 ·rw[atV h];exact at5 _
theorem HZ(j k:Nat):k≤mx j k:=by
 unfold mx
 by_cases h:j≤k
 ·rw[atT h];exact at5 _
 ·rw[atV h];show k≤j;omega
theorem aD{q:Rat}{j k:Nat}[h:Bd q j](hj:j≤k)(hk:k≤480000):decide (ok Rat k (ai q))=true:=okd (x:=q) hj hk
section
variable {α β A B:Type} [Cod α A] [Cod β B]
instance ath {x:α×β} {k:Nat} [h:Bd x k]:Bd x.1 k:=⟨h.le.1⟩
instance asK {x:α×β} {k:Nat} [h:Bd x k]:Bd x.2 k:=⟨h.le.2⟩
instance atw {x:α} {y:β} {j k:Nat} [h:Bd x j] [h':Bd y k]:Bd (x,y) (mx j k):=⟨Cod.mono _ _ _ (Jh _ _) h.le,Cod.mono _ _ _ (HZ _ _) h'.le⟩
instance asz {b:Bool} {x y:α} {j k:Nat} [h:Bd x j] [h':Bd y k]:Bd (bif b then x else y) (mx j k):=by
 refine⟨?_⟩
 cases b
 ·exact Cod.mono _ _ _ (HZ _ _) h'.le
 ·exact Cod.mono _ _ _ (Jh _ _) h.le
theorem Bd.mono{x:α}{j k:Nat}(h:Bd x j)(hk:j≤k):Bd x k:=⟨Cod.mono _ _ _ hk h.le⟩
end
section
variable {a b:Rat} {j k:Nat}
instance atb [h:Bd a j] [h':Bd b k]:Bd (a+b) (j+k+1):=⟨KH h.le h'.le⟩
instance att [h:Bd a j] [h':Bd b k]:Bd (a-b) (j+k+1):=⟨ac6 h.le h'.le⟩
instance asH [h:Bd a j] [h':Bd b k]:Bd (a*b) (j+k):=⟨Kp h.le h'.le⟩
instance ata [h:Bd a j]:Bd (-a) j:=⟨wB h.le⟩
theorem sd(h:bdR k b):1≤k:=by
 have h1:=h.2
 have h2:=Iq (b.den:Int)
 have h3:=b.den_pos
 rcases auI k with e|e
 ·subst e
  have:szI (b.den:Int)=0:=by omega
  rw[this]at h2
  have:pw 0=1:=rfl
  omega
 ·exact e
instance asG [h:Bd a j] [h':Bd b k]:Bd (a/b) (j+k):=by
 refine⟨?_⟩
 by_cases h0:b=0
 ·subst h0
  rw[aw4,Rat.inv_zero,Rat.mul_zero]
  have:=sd h'.le
  exact cK (j:=1) ⟨by decide+kernel,by decide+kernel⟩ (by omega)
 ·exact acF h.le h'.le h0
end
theorem ff{n:Int}(h:bO n):Bd (n:Rat) 3:=by
 refine⟨?_⟩
 show bdR 3 (n:Rat)
 refine⟨?_,?_⟩
 ·rw[Rat.num_intCast]
  have:pw 3=1000000000000000000000000000:=by decide
  exact fu (by have:=h.1;omega) (by have:=h.2;omega)
 ·rw[Rat.den_intCast]
  exact fu (by decide) (by decide)
instance ue:Bd (0:Rat) 1:=⟨⟨by decide+kernel,by decide+kernel⟩⟩
theorem fe{x:BR}(h:okR x):∃q:Rat,x=ai q∧Bd q 480000:=⟨ae x,Yu h,⟨Cy h⟩⟩
def aqE(a b:Rat×Rat):Rat:=a.1*b.1+a.2*b.2
end
end Go.Proofs.YtgddhgcjmddjfaaGreat
end
