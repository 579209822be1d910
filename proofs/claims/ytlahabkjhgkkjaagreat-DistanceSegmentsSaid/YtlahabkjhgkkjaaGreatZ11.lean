/- The reference's integers: FromInt64, Sign, Cmp, Add, Neg, Sub, Mul, by. -/
import Derived.Test.YtlahabkjhgkkjaaGreatZ10
import Derived.Test.YtlahabkjhgkkjaaGreatZ9
namespace Go.Proofs.YtlahabkjhgkkjaaGreat
open Go.RowKit
theorem nN{x:BI}(h:okI x):fv x.2:=⟨h.1.1,by have:=h.2.2;omega⟩
theorem VA(a b:Int):decide (b8 a b≥0)=decide (b≤a):=by
 rcases Int.lt_trichotomy a b with h|h|h
 ·rw[cF h,decide_eq_false (show ¬b≤a by omega)];rfl
 ·subst h;rw[cV,decide_eq_true (Int.le_refl a)];rfl
 ·rw[cz h,decide_eq_true (show b≤a by omega)];rfl
theorem sd(a b:Int):decide (b8 a b>0)=decide (b<a):=by
 rcases Int.lt_trichotomy a b with h|h|h
 ·rw[cF h,decide_eq_false (show ¬b<a by omega)];rfl
 ·subst h;rw[cV,decide_eq_false (show ¬a<a by omega)];rfl
 ·rw[cz h,decide_eq_true h];rfl
def nY:aL:=spN false false [.bool,(.sl (.int .u32))] (fun x=>decide (a8 x.2.1)) (fun x=>[RV.d (.st (.pair .bool (.sl (.int .u32)))) (ag (bV x.1 (val x.2.1)))])
theorem pq:af Tryz.prog 188=true∧ao Tryz.prog 188 nY∧∀g,nY.mut_=some g→aK Tryz.prog 188 g:=aq (by kernel_rfl) fun x h=>QP x.1 x.2.1 (of_decide_eq_true h)
def zl:aL:=spN false false [(.sl (.int .u32)),(.sl (.int .u32))] (fun x=>decide (fv x.1∧fv x.2.1)) (fun x=>[RV.d (.sl (.int .u32)) (ac (val x.1+val x.2.1).toNat)])
theorem Me:af Tryz.prog 255=true∧ao Tryz.prog 255 zl∧∀g,zl.mut_=some g→aK Tryz.prog 255 g:=aq (by kernel_rfl) fun x h=>Ri x.1 x.2.1 (of_decide_eq_true h)
def oU:aL:=spN false false [(.sl (.int .u32)),(.sl (.int .u32))] (fun x=>decide (kK x.1 x.2.1)) (fun x=>[RV.d (.sl (.int .u32)) (ac (val x.1-val x.2.1).toNat)])
theorem pD:af Tryz.prog 250=true∧ao Tryz.prog 250 oU∧∀g,oU.mut_=some g→aK Tryz.prog 250 g:=aq (by kernel_rfl) fun x h=>PV x.1 x.2.1 (of_decide_eq_true h)
def xe:aL:=spN false false [(.sl (.int .u32)),(.sl (.int .u32))] (fun x=>decide (fv x.1∧fv x.2.1)) (fun x=>[RV.d (.sl (.int .u32)) (ac (val x.1*val x.2.1).toNat)])
theorem Nh:af Tryz.prog 251=true∧ao Tryz.prog 251 xe∧∀g,xe.mut_=some g→aK Tryz.prog 251 g:=aq (by kernel_rfl) fun x h=>Vg x.1 x.2.1 (of_decide_eq_true h)
def eG:Env:=[(185,kN),(190,mO),(189,mF),(186,kL),(188,nY),(255,zl),(250,oU),(251,xe)]
theorem ff:EnvAll Tryz.prog eG:=⟨jy,mE,mv,jD,pq,Me,pD,Nh,trivial⟩
noncomputable def Hy:Ctx:=⟨Tryz.prog,ft,tys,eG,[]⟩
noncomputable def AR(_k:KT)(n:Int):Option (List RV):=match decide (n<0)with|true=>(match decide (fe (IntKind.u64.wrap (0-(IntKind.u64.wrap n))))with|true=>(match decide (a8 (ac (IntKind.u64.wrap (0-(IntKind.u64.wrap n))).toNat))with|true=>some [RV.d (.st (.pair .bool (.sl (.int .u32)))) (ag (bV true (val (ac (IntKind.u64.wrap (0-(IntKind.u64.wrap n))).toNat))))]|false=>none)|false=>none)|false=>(match decide (fe (IntKind.u64.wrap n))with|true=>(match decide (a8 (ac (IntKind.u64.wrap n).toNat))with|true=>some [RV.d (.st (.pair .bool (.sl (.int .u32)))) (ag (bV false (val (ac (IntKind.u64.wrap n).toNat))))]|false=>none)|false=>none)
theorem abw(n:Int){rX:List RV}(hX:∃nX,AR (Hy.k nX) n=some rX):Hy.Res 134 [SI n] rX:=aO (t:=fun k=>AR k n) (fun k=>show go2 Tryz.prog ft tys eG [] k 4000 (az 134 [SI n]) (.node 0)=AR k n by kernel_rfl) hX
noncomputable def HZ:Ctx:=⟨Tryz.prog,ft,tys,eG,[]⟩
noncomputable def xO(_k:KT)(x:Bool×List Int):Option (List RV):=match(x.2.length:Int)==0 with|true=>some [RV.d (.int .i64) 0]|false=>(match x.1 with|true=>some [RV.d (.int .i64) (-1)]|false=>some [RV.d (.int .i64) 1])
theorem ZN(x:Bool×List Int){rX:List RV}(hX:∃nX,xO (HZ.k nX) x=some rX):HZ.Res 101 [.d (.st (.pair .bool (.sl (.int .u32)))) x] rX:=aO (t:=fun k=>xO k x) (fun k=>show go2 Tryz.prog ft tys eG [] k 4000 (az 101 [.d (.st (.pair .bool (.sl (.int .u32)))) x]) (.node 0)=xO k x by kernel_rfl) hX
noncomputable def EU:Ctx:=⟨Tryz.prog,ft,tys,eG,[]⟩
noncomputable def AF(_k:KT)(x:Bool×List Int)(y:Bool×List Int):Option (List RV):=match !(x.1==y.1)with|true=>(match x.1 with|true=>some [RV.d (.int .i64) (-1)]|false=>some [RV.d (.int .i64) 1])|false=>(match x.1 with|true=>(match decide (mW y.2 x.2)with|true=>some [RV.d (.int .i64) (b8 (val y.2) (val x.2))]|false=>none)|false=>(match decide (mW x.2 y.2)with|true=>some [RV.d (.int .i64) (b8 (val x.2) (val y.2))]|false=>none))
theorem aaU(x:Bool×List Int)(y:Bool×List Int){rX:List RV}(hX:∃nX,AF (EU.k nX) x y=some rX):EU.Res 192 [.d (.st (.pair .bool (.sl (.int .u32)))) x,.d (.st (.pair .bool (.sl (.int .u32)))) y] rX:=aO (t:=fun k=>AF k x y) (fun k=>show go2 Tryz.prog ft tys eG [] k 4000 (az 192 [.d (.st (.pair .bool (.sl (.int .u32)))) x,.d (.st (.pair .bool (.sl (.int .u32)))) y]) (.node 0)=AF k x y by kernel_rfl) hX
noncomputable def Hp:Ctx:=⟨Tryz.prog,ft,tys,eG,[]⟩
noncomputable def yn(_k:KT)(x:Bool×List Int)(y:Bool×List Int):Option (List RV):=match x.1==y.1 with|true=>(match decide (fv x.2∧fv y.2)with|true=>(match decide (a8 (ac (val x.2+val y.2).toNat))with|true=>some [RV.d (.st (.pair .bool (.sl (.int .u32)))) (ag (bV x.1 (val (ac (val x.2+val y.2).toNat))))]|false=>none)|false=>none)|false=>(match decide (mW x.2 y.2)with|true=>(match decide ((b8 (val x.2) (val y.2))≥0)with|true=>(match decide (kK x.2 y.2)with|true=>(match decide (a8 (ac (val x.2-val y.2).toNat))with|true=>some [RV.d (.st (.pair .bool (.sl (.int .u32)))) (ag (bV x.1 (val (ac (val x.2-val y.2).toNat))))]|false=>none)|false=>none)|false=>(match decide (kK y.2 x.2)with|true=>(match decide (a8 (ac (val y.2-val x.2).toNat))with|true=>some [RV.d (.st (.pair .bool (.sl (.int .u32)))) (ag (bV y.1 (val (ac (val y.2-val x.2).toNat))))]|false=>none)|false=>none))|false=>none)
theorem Z0(x:Bool×List Int)(y:Bool×List Int){rX:List RV}(hX:∃nX,yn (Hp.k nX) x y=some rX):Hp.Res 212 [.d (.st (.pair .bool (.sl (.int .u32)))) x,.d (.st (.pair .bool (.sl (.int .u32)))) y] rX:=aO (t:=fun k=>yn k x y) (fun k=>show go2 Tryz.prog ft tys eG [] k 4000 (az 212 [.d (.st (.pair .bool (.sl (.int .u32)))) x,.d (.st (.pair .bool (.sl (.int .u32)))) y]) (.node 0)=yn k x y by kernel_rfl) hX
noncomputable def EB:Ctx:=⟨Tryz.prog,ft,tys,eG,[]⟩
noncomputable def zj(_k:KT)(x:Bool×List Int):Option (List RV):=match decide (a8 x.2)with|true=>some [RV.d (.st (.pair .bool (.sl (.int .u32)))) (ag (bV (!x.1) (val x.2)))]|false=>none
theorem ab5(x:Bool×List Int){rX:List RV}(hX:∃nX,zj (EB.k nX) x=some rX):EB.Res 211 [.d (.st (.pair .bool (.sl (.int .u32)))) x] rX:=aO (t:=fun k=>zj k x) (fun k=>show go2 Tryz.prog ft tys eG [] k 4000 (az 211 [.d (.st (.pair .bool (.sl (.int .u32)))) x]) (.node 0)=zj k x by kernel_rfl) hX
noncomputable def HD:Ctx:=⟨Tryz.prog,ft,tys,eG,[]⟩
noncomputable def zY(_k:KT)(x:Bool×List Int)(y:Bool×List Int):Option (List RV):=match decide (fv x.2∧fv y.2)with|true=>(match decide (a8 (ac (val x.2*val y.2).toNat))with|true=>some [RV.d (.st (.pair .bool (.sl (.int .u32)))) (ag (bV (!(x.1==y.1)) (val (ac (val x.2*val y.2).toNat))))]|false=>none)|false=>none
theorem Z1(x:Bool×List Int)(y:Bool×List Int){rX:List RV}(hX:∃nX,zY (HD.k nX) x y=some rX):HD.Res 193 [.d (.st (.pair .bool (.sl (.int .u32)))) x,.d (.st (.pair .bool (.sl (.int .u32)))) y] rX:=aO (t:=fun k=>zY k x y) (fun k=>show go2 Tryz.prog ft tys eG [] k 4000 (az 193 [.d (.st (.pair .bool (.sl (.int .u32)))) x,.d (.st (.pair .bool (.sl (.int .u32)))) y]) (.node 0)=zY k x y by kernel_rfl) hX
noncomputable def PJ:Ctx:=⟨Tryz.prog,ft,tys,eG,[]⟩
noncomputable def Li(_k:KT)(a:List Int)(n:Int):Option (List RV):=match decide (a8 ([n]))with|true=>(match decide (fv a∧fv (ac (val ([n])).toNat))with|true=>some [RV.d (.sl (.int .u32)) (ac (val a*val (ac (val ([n])).toNat)).toNat)]|false=>none)|false=>none
theorem ac0(a:List Int)(n:Int){rX:List RV}(hX:∃nX,Li (PJ.k nX) a n=some rX):PJ.Res 249 [.d (.sl (.int .u32)) a,.d (.int .u32) n] rX:=aO (t:=fun k=>Li k a n) (fun k=>show go2 Tryz.prog ft tys eG [] k 4000 (az 249 [.d (.sl (.int .u32)) a,.d (.int .u32) n]) (.node 0)=Li k a n by kernel_rfl) hX
theorem DR(n:Int)(h:bh n):Con Tryz.prog 134 [.d (.int .i64) n] [.d (.st (.pair .bool (.sl (.int .u32)))) (ag n)]:=by
 refine Ctx.Res.con (C:=Hy) (au ff) (abw _ ⟨0,?_⟩) (fn:=Tryz.f134) (by kernel_rfl) (by kernel_rfl)
 have h1:=h.1
 have h2:=h.2
 unfold AR
 by_cases hn:n<0
 ·have e:IntKind.u64.wrap (0-IntKind.u64.wrap n)= -n:=by rw[IntKind.wrap_u64,IntKind.wrap_u64];omega
  have hl:(ac (-n).toNat).length≤3:=ck (by omega) (Int.lt_of_lt_of_le (show-n<18446744073709551616 by omega) (by decide))
  rw[decide_eq_true hn]
  dsimp only
  rw[e,decide_eq_true (show fe (-n) from⟨by omega,by omega⟩),decide_eq_true (cp (n:=(-n).toNat) (by omega)),bO (v:= -n) (by omega)]
  dsimp only
  rw[show bV true (-n)=n by unfold bV;simp]
 ·have e:IntKind.u64.wrap n=n:=bz (by omega) (by omega)
  have hl:(ac n.toNat).length≤3:=ck (by omega) (Int.lt_of_lt_of_le (show n<18446744073709551616 by omega) (by decide))
  rw[decide_eq_false hn]
  dsimp only
  rw[e,decide_eq_true (show fe n from⟨by omega,by omega⟩),decide_eq_true (cp (n:=n.toNat) (by omega)),bO (v:=n) (by omega)]
  rfl
theorem CU(x:Bool×List Int)(h:okI x):Con Tryz.prog 101 [.d (.st (.pair .bool (.sl (.int .u32)))) x] [.d (.int .i64) (b8 (ab x) 0)]:=by
 refine Ctx.Res.con (C:=HZ) (au ff) (ZN _ ⟨0,?_⟩) (fn:=Tryz.f101) (by kernel_rfl) (by kernel_rfl)
 obtain⟨h0,h1,h2⟩:=cg h
 unfold xO
 rw[bJ]
 unfold bV
 by_cases he:x.2=[]
 ·have e0:=h2.1 he
  have ex:x.1=false:=by
   cases hx:x.1
   ·rfl
   ·have:=h1 hx;omega
  rw[ex,e0,he]
  rfl
 ·have hp:0<val x.2:=dp h.1 he
  have:=List.length_pos_iff.2 he
  rw[show((x.2.length:Int)==0)=false by simp;omega]
  cases x.1
  ·simp only[cond_false];rw[cz hp]
  ·simp only[cond_true];rw[cF (by omega)]
theorem Qz(x:Bool×List Int)(y:Bool×List Int)(h:okI x∧okI y):Con Tryz.prog 192 [.d (.st (.pair .bool (.sl (.int .u32)))) x,.d (.st (.pair .bool (.sl (.int .u32)))) y] [.d (.int .i64) (b8 (ab x) (ab y))]:=by
 refine Ctx.Res.con (C:=EU) (au ff) (aaU _ _ ⟨0,?_⟩) (fn:=Tryz.f192) (by kernel_rfl) (by kernel_rfl)
 obtain⟨hx,hy⟩:=h
 obtain⟨x0,x1,x2⟩:=cg hx
 obtain⟨y0,y1,y2⟩:=cg hy
 have sx:=hx.2.2
 have sy:=hy.2.2
 unfold AF
 rw[bJ,bJ,decide_eq_true (show mW y.2 x.2 from⟨⟨hy.1,by omega⟩,hx.1,by omega⟩),decide_eq_true (show mW x.2 y.2 from⟨⟨hx.1,by omega⟩,hy.1,by omega⟩)]
 unfold bV
 cases ex:x.1<;>cases ey:y.1
 ·rfl
 ·have:=y1 ey
  simp only[cond_true,cond_false]
  rw[show b8 (val x.2) (-val y.2)=1 from cz (by omega)]
  rfl
 ·have:=x1 ex
  simp only[cond_true,cond_false]
  rw[show b8 (-val x.2) (val y.2)= -1 from cF (by omega)]
  rfl
 ·simp only[cond_true]
  rw[Ij x0 y0]
  rfl
theorem Ou(x:Bool×List Int)(y:Bool×List Int)(h:okI x∧okI y):Con Tryz.prog 212 [.d (.st (.pair .bool (.sl (.int .u32)))) x,.d (.st (.pair .bool (.sl (.int .u32)))) y] [.d (.st (.pair .bool (.sl (.int .u32)))) (ag (ab x+ab y))]:=by
 refine Ctx.Res.con (C:=Hp) (au ff) (Z0 _ _ ⟨0,?_⟩) (fn:=Tryz.f212) (by kernel_rfl) (by kernel_rfl)
 obtain⟨hx,hy⟩:=h
 obtain⟨x0,x1,x2⟩:=cg hx
 obtain⟨y0,y1,y2⟩:=cg hy
 have lx:=eB hx
 have ly:=eB hy
 have tx:=nN hx
 have ty:=nN hy
 have sx:=hx.2.2
 have sy:=hy.2.2
 have bx:=bQ hx.1.1
 have by':=bQ hy.1.1
 have px:=cM (show x.2.length≤1000000 by omega)
 have py:=cM (show y.2.length≤1000000 by omega)
 have l1:(ac (val x.2+val y.2).toNat).length≤1000001:=ck (by omega) (by rw[bZ];omega)
 have l2:(ac (val x.2-val y.2).toNat).length≤1000000:=cJ (by have:=bR 1000000;omega)
 have l3:(ac (val y.2-val x.2).toNat).length≤1000000:=cJ (by have:=bR 1000000;omega)
 unfold yn
 rw[bJ,bJ,decide_eq_true (show fv x.2∧fv y.2 from⟨tx,ty⟩),decide_eq_true (cp (n:=(val x.2+val y.2).toNat) (by omega)),decide_eq_true (cp (n:=(val x.2-val y.2).toNat) (by omega)),decide_eq_true (cp (n:=(val y.2-val x.2).toNat) (by omega)),bO (v:=val x.2+val y.2) (by omega),
  decide_eq_true (show mW x.2 y.2 from⟨⟨hx.1,by omega⟩,hy.1,by omega⟩),VA]
 cases hs:x.1==y.1
 ·dsimp only
  rcases Int.lt_or_le (val x.2) (val y.2)with hc|hc
  ·rw[decide_eq_false (show ¬val y.2≤val x.2 by omega),decide_eq_true (show kK y.2 x.2 from⟨ly,lx,by omega⟩),bO (v:=val y.2-val x.2) (by omega)]
   dsimp only
   unfold bV
   cases ex:x.1<;>cases ey:y.1<;>simp_all<;>congr 2<;>omega
  ·rw[decide_eq_true hc,decide_eq_true (show kK x.2 y.2 from⟨lx,ly,hc⟩),bO (v:=val x.2-val y.2) (by omega)]
   dsimp only
   unfold bV
   cases ex:x.1<;>cases ey:y.1<;>simp_all<;>congr 2<;>omega
 ·dsimp only
  have e:=beq_iff_eq.1 hs
  rw[←e]
  unfold bV
  cases x.1
  ·rfl
  ·simp only[cond_true]
   rw[show-(val x.2+val y.2)= -val x.2+ -val y.2 by omega]
theorem SF(x:Bool×List Int)(h:okI x):Con Tryz.prog 211 [.d (.st (.pair .bool (.sl (.int .u32)))) x] [.d (.st (.pair .bool (.sl (.int .u32)))) (ag (-ab x))]:=by
 refine Ctx.Res.con (C:=EB) (au ff) (ab5 _ ⟨0,?_⟩) (fn:=Tryz.f211) (by kernel_rfl) (by kernel_rfl)
 unfold zj
 rw[bJ,decide_eq_true (eB h)]
 unfold bV
 cases x.1<;>simp
theorem Dn(x:Bool×List Int)(y:Bool×List Int)(h:okI x∧okI y):Con Tryz.prog 193 [.d (.st (.pair .bool (.sl (.int .u32)))) x,.d (.st (.pair .bool (.sl (.int .u32)))) y] [.d (.st (.pair .bool (.sl (.int .u32)))) (ag (ab x*ab y))]:=by
 refine Ctx.Res.con (C:=HD) (au ff) (Z1 _ _ ⟨0,?_⟩) (fn:=Tryz.f193) (by kernel_rfl) (by kernel_rfl)
 obtain⟨hx,hy⟩:=h
 obtain⟨x0,x1,x2⟩:=cg hx
 obtain⟨y0,y1,y2⟩:=cg hy
 have bx:=bQ hx.1.1
 have by':=bQ hy.1.1
 have sx:=hx.2.2
 have sy:=hy.2.2
 have hm:0≤val x.2*val y.2:=Int.mul_nonneg x0 y0
 have l1:(ac (val x.2*val y.2).toNat).length≤x.2.length+y.2.length:=ck hm (by
  rw[dV]
  have p1:=bR x.2.length
  have p2:=bR y.2.length
  have:=Int.mul_le_mul (show val x.2≤pw x.2.length-1 by omega) (show val y.2≤pw y.2.length-1 by omega) y0 (by omega)
  grind)
 unfold zY
 rw[bJ,bJ,decide_eq_true (show fv x.2∧fv y.2 from⟨nN hx,nN hy⟩),decide_eq_true (cp (n:=(val x.2*val y.2).toNat) (by omega)),bO hm]
 unfold bV
 cases x.1<;>cases y.1<;>simp[Int.neg_mul,Int.mul_neg]
def byP(a:List Int)(n:Int):Prop:=fv a∧0≤n∧n<1000000000
instance (a:List Int) (n:Int):Decidable (byP a n):=by unfold byP;infer_instance
theorem YE(a:List Int)(n:Int)(h:byP a n):Con Tryz.prog 249 [.d (.sl (.int .u32)) a,.d (.int .u32) n] [.d (.sl (.int .u32)) (ac (val a*n).toNat)]:=by
 refine Ctx.Res.con (C:=PJ) (au ff) (ac0 _ _ ⟨0,?_⟩) (fn:=Tryz.f249) (by kernel_rfl) (by kernel_rfl)
 obtain⟨ha,h1,h2⟩:=h
 have hl:(ac n.toNat).length≤1:=ck (by omega) (by show n<pw 1;simp[pw];exact h2)
 have e:val [n]=n:=by simp[val]
 unfold Li
 rw[e,decide_eq_true (show a8 [n] from⟨Lim.cons ⟨by omega,h2⟩ Lim.nil,by simp⟩),decide_eq_true (show fv a∧fv (ac n.toNat) from⟨ha,bT _,by omega⟩),bO (by omega)]
def mT:aL:=spN false false [(.st (.pair .bool (.sl (.int .u32)))),(.st (.pair .bool (.sl (.int .u32))))] (fun x=>decide (okI x.1∧okI x.2.1)) (fun x=>[RV.d (.st (.pair .bool (.sl (.int .u32)))) (ag (ab x.1+ab x.2.1))])
theorem mH:af Tryz.prog 212=true∧ao Tryz.prog 212 mT∧∀g,mT.mut_=some g→aK Tryz.prog 212 g:=aq (by kernel_rfl) fun x h=>Ou x.1 x.2.1 (of_decide_eq_true h)
def qR:aL:=spN false false [(.st (.pair .bool (.sl (.int .u32))))] (fun x=>decide (okI x.1)) (fun x=>[RV.d (.st (.pair .bool (.sl (.int .u32)))) (ag (-ab x.1))])
theorem wD:af Tryz.prog 211=true∧ao Tryz.prog 211 qR∧∀g,qR.mut_=some g→aK Tryz.prog 211 g:=aq (by kernel_rfl) fun x h=>SF x.1 (of_decide_eq_true h)
def Gl:Env:=(212,mT)::(211,qR)::eG
theorem LY:EnvAll Tryz.prog Gl:=⟨mH,wD,ff⟩
noncomputable def Ep:Ctx:=⟨Tryz.prog,ft,tys,Gl,[]⟩
noncomputable def zF(_k:KT)(x:Bool×List Int)(y:Bool×List Int):Option (List RV):=match decide (okI y)with|true=>(match decide (okI x∧okI (ag (-ab y)))with|true=>some [RV.d (.st (.pair .bool (.sl (.int .u32)))) (ag (ab x+ab (ag (-ab y))))]|false=>none)|false=>none
theorem abL(x:Bool×List Int)(y:Bool×List Int){rX:List RV}(hX:∃nX,zF (Ep.k nX) x y=some rX):Ep.Res 257 [.d (.st (.pair .bool (.sl (.int .u32)))) x,.d (.st (.pair .bool (.sl (.int .u32)))) y] rX:=aO (t:=fun k=>zF k x y) (fun k=>show go2 Tryz.prog ft tys Gl [] k 4000 (az 257 [.d (.st (.pair .bool (.sl (.int .u32)))) x,.d (.st (.pair .bool (.sl (.int .u32)))) y]) (.node 0)=zF k x y by kernel_rfl) hX
theorem RP(x:Bool×List Int)(y:Bool×List Int)(h:okI x∧okI y):Con Tryz.prog 257 [.d (.st (.pair .bool (.sl (.int .u32)))) x,.d (.st (.pair .bool (.sl (.int .u32)))) y] [.d (.st (.pair .bool (.sl (.int .u32)))) (ag (ab x-ab y))]:=by
 refine Ctx.Res.con (C:=Ep) (au LY) (abL _ _ ⟨0,?_⟩) (fn:=Tryz.f257) (by kernel_rfl) (by kernel_rfl)
 obtain⟨hx,hy⟩:=h
 unfold zF
 rw[decide_eq_true hy,decide_eq_true (show okI x∧okI (ag (-ab y)) from⟨hx,bj (by rw[gv];exact ge hy)⟩),dec_enc,Int.sub_eq_add_neg]
end Go.Proofs.YtlahabkjhgkkjaaGreat
namespace Go.Proofs.YtlahabkjhgkkjaaGreat
open Go.RowKit
def Aw(a b:List Int):Prop:=(can a∧a.length≤1000000)∧(can b∧b.length≤1000000)∧b≠[]
instance (a b:List Int):Decidable (Aw a b):=by unfold Aw;infer_instance
def yr:aL:=spN false false [(.sl (.int .u32)),(.int .u32)] (fun x=>decide (byP x.1 x.2.1)) (fun x=>[RV.d (.sl (.int .u32)) (ac (val x.1*x.2.1).toNat)])
theorem B7:af Tryz.prog 249=true∧ao Tryz.prog 249 yr∧∀g,yr.mut_=some g→aK Tryz.prog 249 g:=aq (by kernel_rfl) fun x h=>YE x.1 x.2.1 (of_decide_eq_true h)
def pn:Env:=[(185,kN),(190,mO),(189,mF),(186,kL),(249,yr),(250,oU)]
theorem L8:EnvAll Tryz.prog pn:=⟨jy,mE,mv,jD,B7,pD,trivial⟩
def oa:NT:=[((187,30),{keep:=[8,9,10,11,12,13,14],pure_:=[(11,.int .u32)],hl:=1}),((187,67),{keep:=[8,9,10,11,12,13,14,16,17],pure_:=[(17,.int .u32)],hl:=1}),((187,90),{keep:=[8,11,12,18,19,20],hl:=2})]
noncomputable def eF:Ctx:=⟨Tryz.prog,ft,tys,pn,oa⟩
def fK(a:List Int)(b:List Int)(x1:Int)(x2:Int)(s11:List Int)(s14:Int)(r0:List Int):Cfg:=⟨187,[.blk 0,.seq 82],[(8,.d (.int .u32) (IntKind.u32.wrap (IntKind.u64.wrap (Int.tdiv 1000000000 (IntKind.u64.wrap ((IntKind.u64.wrap x1)+1)))))),(9,.d (.sl (.int .u32)) (ac (val b*(IntKind.u32.wrap (IntKind.u64.wrap (Int.tdiv 1000000000 (IntKind.u64.wrap ((IntKind.u64.wrap x1)+1)))))).toNat)),(10,.d (.int .u64) (IntKind.u64.wrap x2)),(11,.d (.sl (.int .u32)) s11),(12,.osl 0 1 ((0:Int).toNat) ((((ac (val a*(IntKind.u32.wrap (IntKind.u64.wrap (Int.tdiv 1000000000 (IntKind.u64.wrap ((IntKind.u64.wrap x1)+1)))))).toNat).length:Int):Int).toNat-(0:Int).toNat)),(13,.d (.sl (.int .u32)) (ac (val a*(IntKind.u32.wrap (IntKind.u64.wrap (Int.tdiv 1000000000 (IntKind.u64.wrap ((IntKind.u64.wrap x1)+1)))))).toNat)),(14,SI s14)],[.row 183 (.int .u32) r0],0,[]⟩
def df(a:List Int)(b:List Int)(x1:Int)(x2:Int)(s11:List Int)(s14:Int)(r0:List Int)(x3:Int)(s16:Int)(s17:List Int):Cfg:=⟨187,[.blk 2,.seq 78,.blk 1,.seq 81,.lp 30,.blk 0,.seq 82],[(8,.d (.int .u32) (IntKind.u32.wrap (IntKind.u64.wrap (Int.tdiv 1000000000 (IntKind.u64.wrap ((IntKind.u64.wrap x1)+1)))))),(9,.d (.sl (.int .u32)) (ac (val b*(IntKind.u32.wrap (IntKind.u64.wrap (Int.tdiv 1000000000 (IntKind.u64.wrap ((IntKind.u64.wrap x1)+1)))))).toNat)),(10,.d (.int .u64) (IntKind.u64.wrap x2)),(11,.d (.sl (.int .u32)) (ac (val (([x3])++s11)).toNat)),(12,.osl 0 1 ((0:Int).toNat) ((((ac (val a*(IntKind.u32.wrap (IntKind.u64.wrap (Int.tdiv 1000000000 (IntKind.u64.wrap ((IntKind.u64.wrap x1)+1)))))).toNat).length:Int):Int).toNat-(0:Int).toNat)),(13,.d (.sl (.int .u32)) (ac (val a*(IntKind.u32.wrap (IntKind.u64.wrap (Int.tdiv 1000000000 (IntKind.u64.wrap ((IntKind.u64.wrap x1)+1)))))).toNat)),(14,SI s14),(16,.d (.int .u64) s16),(17,.d (.sl (.int .u32)) s17)],[.row 183 (.int .u32) r0],0,[]⟩
def jq(a:List Int)(x1:Int)(s11:List Int)(r0:List Int)(s18:Int)(s20:Int)(r1:List Int):Cfg:=⟨187,[.blk 4,.seq 105],[(8,.d (.int .u32) (IntKind.u32.wrap (IntKind.u64.wrap (Int.tdiv 1000000000 (IntKind.u64.wrap ((IntKind.u64.wrap x1)+1)))))),(11,.d (.sl (.int .u32)) s11),(12,.osl 0 1 ((0:Int).toNat) ((((ac (val a*(IntKind.u32.wrap (IntKind.u64.wrap (Int.tdiv 1000000000 (IntKind.u64.wrap ((IntKind.u64.wrap x1)+1)))))).toNat).length:Int):Int).toNat-(0:Int).toNat)),(18,.d (.int .u64) s18),(19,.own 1),(20,SI s20)],[.row 183 (.int .u32) r0,.row 183 (.int .u32) r1],0,[]⟩
noncomputable def sN(k:KT)(a:List Int)(b:List Int):Option (List RV):=match decide ((a.length:Int)≤2)with|true=>(match decide ((b.length:Int)≤2)with|true=>(match decide (nt a)with|true=>(match decide (nt b)with|true=>(match decide (val b=(0:Int))with|true=>none|false=>(match decide (val b=(0:Int))with|true=>none|false=>(match decide (fe (IntKind.u64.wrap (Int.tdiv (val a) (val b))))with|true=>(match decide (fe (Int.tmod (val a) (val b)))with|true=>some [RV.d (.sl (.int .u32)) (ac (IntKind.u64.wrap (Int.tdiv (val a) (val b))).toNat),RV.d (.sl (.int .u32)) (ac (Int.tmod (val a) (val b)).toNat)]|false=>none)|false=>none)))|false=>none)|false=>none)|false=>(match bw b (IntKind.i64.wrap ((b.length:Int)-1))with|some x1=>(match decide (IntKind.u64.wrap ((IntKind.u64.wrap x1)+1)=(0:Int))with|true=>none|false=>(match decide (byP b (IntKind.u32.wrap (IntKind.u64.wrap (Int.tdiv 1000000000 (IntKind.u64.wrap ((IntKind.u64.wrap x1)+1))))))with|true=>(match bw (ac (val b*(IntKind.u32.wrap (IntKind.u64.wrap (Int.tdiv 1000000000 (IntKind.u64.wrap ((IntKind.u64.wrap x1)+1)))))).toNat) (IntKind.i64.wrap (((ac (val b*(IntKind.u32.wrap (IntKind.u64.wrap (Int.tdiv 1000000000 (IntKind.u64.wrap ((IntKind.u64.wrap x1)+1)))))).toNat).length:Int)-1))with|some x2=>(match decide ((0:Int)≤IntKind.i64.wrap ((a.length:Int)+1)∧(IntKind.i64.wrap ((a.length:Int)+1))*((4:Nat):Int)≤140737488355328∧IntKind.i64.wrap ((a.length:Int)+1)≤140737488355328)with|true=>(match decide (byP a (IntKind.u32.wrap (IntKind.u64.wrap (Int.tdiv 1000000000 (IntKind.u64.wrap ((IntKind.u64.wrap x1)+1))))))with|true=>(match decide ((0:Int)≤0∧0≤((ac (val a*(IntKind.u32.wrap (IntKind.u64.wrap (Int.tdiv 1000000000 (IntKind.u64.wrap ((IntKind.u64.wrap x1)+1)))))).toNat).length:Int)∧((ac (val a*(IntKind.u32.wrap (IntKind.u64.wrap (Int.tdiv 1000000000 (IntKind.u64.wrap ((IntKind.u64.wrap x1)+1)))))).toNat).length:Int)≤((List.replicate (IntKind.i64.wrap ((a.length:Int)+1)).toNat (0:Int)).length:Int))with|true=>k 30 (fK a b x1 x2 ([]) (IntKind.i64.wrap (((ac (val a*(IntKind.u32.wrap (IntKind.u64.wrap (Int.tdiv 1000000000 (IntKind.u64.wrap ((IntKind.u64.wrap x1)+1)))))).toNat).length:Int)-1)) (List.replicate (IntKind.i64.wrap ((a.length:Int)+1)).toNat (0:Int)))|false=>none)|false=>none)|false=>none)|none=>none)|false=>none))|none=>none))|false=>(match bw b (IntKind.i64.wrap ((b.length:Int)-1))with|some x1=>(match decide (IntKind.u64.wrap ((IntKind.u64.wrap x1)+1)=(0:Int))with|true=>none|false=>(match decide (byP b (IntKind.u32.wrap (IntKind.u64.wrap (Int.tdiv 1000000000 (IntKind.u64.wrap ((IntKind.u64.wrap x1)+1))))))with|true=>(match bw (ac (val b*(IntKind.u32.wrap (IntKind.u64.wrap (Int.tdiv 1000000000 (IntKind.u64.wrap ((IntKind.u64.wrap x1)+1)))))).toNat) (IntKind.i64.wrap (((ac (val b*(IntKind.u32.wrap (IntKind.u64.wrap (Int.tdiv 1000000000 (IntKind.u64.wrap ((IntKind.u64.wrap x1)+1)))))).toNat).length:Int)-1))with|some x2=>(match decide ((0:Int)≤IntKind.i64.wrap ((a.length:Int)+1)∧(IntKind.i64.wrap ((a.length:Int)+1))*((4:Nat):Int)≤140737488355328∧IntKind.i64.wrap ((a.length:Int)+1)≤140737488355328)with|true=>(match decide (byP a (IntKind.u32.wrap (IntKind.u64.wrap (Int.tdiv 1000000000 (IntKind.u64.wrap ((IntKind.u64.wrap x1)+1))))))with|true=>(match decide ((0:Int)≤0∧0≤((ac (val a*(IntKind.u32.wrap (IntKind.u64.wrap (Int.tdiv 1000000000 (IntKind.u64.wrap ((IntKind.u64.wrap x1)+1)))))).toNat).length:Int)∧((ac (val a*(IntKind.u32.wrap (IntKind.u64.wrap (Int.tdiv 1000000000 (IntKind.u64.wrap ((IntKind.u64.wrap x1)+1)))))).toNat).length:Int)≤((List.replicate (IntKind.i64.wrap ((a.length:Int)+1)).toNat (0:Int)).length:Int))with|true=>k 30 (fK a b x1 x2 ([]) (IntKind.i64.wrap (((ac (val a*(IntKind.u32.wrap (IntKind.u64.wrap (Int.tdiv 1000000000 (IntKind.u64.wrap ((IntKind.u64.wrap x1)+1)))))).toNat).length:Int)-1)) (List.replicate (IntKind.i64.wrap ((a.length:Int)+1)).toNat (0:Int)))|false=>none)|false=>none)|false=>none)|none=>none)|false=>none))|none=>none)
theorem Tg(a:List Int)(b:List Int){rX:List RV}(hX:∃nX,sN (eF.k nX) a b=some rX):eF.Res 187 [.d (.sl (.int .u32)) a,.d (.sl (.int .u32)) b] rX:=aO (t:=fun k=>sN k a b) (fun k=>show go2 Tryz.prog ft tys pn oa k 4000 (az 187 [.d (.sl (.int .u32)) a,.d (.sl (.int .u32)) b]) (.node 0)=sN k a b by kernel_rfl) hX
noncomputable def fb(k:KT)(a:List Int)(b:List Int)(x1:Int)(x2:Int)(s11:List Int)(s14:Int)(r0:List Int):Option (List RV):=match decide (s14≥0)with|true=>(match bw (ac (val a*(IntKind.u32.wrap (IntKind.u64.wrap (Int.tdiv 1000000000 (IntKind.u64.wrap ((IntKind.u64.wrap x1)+1)))))).toNat) s14 with|some x3=>(match decide ((([x3]).length+s11.length)*4≤140737488355328∧([x3]).length+s11.length≤140737488355328)with|true=>(match decide (a8 (([x3])++s11))with|true=>(match decide (((ac (val (([x3])++s11)).toNat).length:Int)>((ac (val b*(IntKind.u32.wrap (IntKind.u64.wrap (Int.tdiv 1000000000 (IntKind.u64.wrap ((IntKind.u64.wrap x1)+1)))))).toNat).length:Int))with|true=>(match bw (ac (val (([x3])++s11)).toNat) ((ac (val b*(IntKind.u32.wrap (IntKind.u64.wrap (Int.tdiv 1000000000 (IntKind.u64.wrap ((IntKind.u64.wrap x1)+1)))))).toNat).length:Int)with|some x4=>(match decide (((ac (val (([x3])++s11)).toNat).length:Int)≥((ac (val b*(IntKind.u32.wrap (IntKind.u64.wrap (Int.tdiv 1000000000 (IntKind.u64.wrap ((IntKind.u64.wrap x1)+1)))))).toNat).length:Int))with|true=>(match bw (ac (val (([x3])++s11)).toNat) (IntKind.i64.wrap (((ac (val b*(IntKind.u32.wrap (IntKind.u64.wrap (Int.tdiv 1000000000 (IntKind.u64.wrap ((IntKind.u64.wrap x1)+1)))))).toNat).length:Int)-1))with|some x5=>(match decide (IntKind.u64.wrap x2=(0:Int))with|true=>none|false=>(match decide ((IntKind.u64.wrap (Int.tdiv (IntKind.u64.wrap ((IntKind.u64.wrap ((IntKind.u64.wrap x4)*1000000000))+(IntKind.u64.wrap x5))) (IntKind.u64.wrap x2)))>999999999)with|true=>(match decide (byP (ac (val b*(IntKind.u32.wrap (IntKind.u64.wrap (Int.tdiv 1000000000 (IntKind.u64.wrap ((IntKind.u64.wrap x1)+1)))))).toNat) (IntKind.u32.wrap 999999999))with|true=>k 67 (df a b x1 x2 s11 s14 r0 x3 999999999 (ac (val (ac (val b*(IntKind.u32.wrap (IntKind.u64.wrap (Int.tdiv 1000000000 (IntKind.u64.wrap ((IntKind.u64.wrap x1)+1)))))).toNat)*(IntKind.u32.wrap 999999999)).toNat))|false=>none)|false=>(match decide (byP (ac (val b*(IntKind.u32.wrap (IntKind.u64.wrap (Int.tdiv 1000000000 (IntKind.u64.wrap ((IntKind.u64.wrap x1)+1)))))).toNat) (IntKind.u32.wrap (IntKind.u64.wrap (Int.tdiv (IntKind.u64.wrap ((IntKind.u64.wrap ((IntKind.u64.wrap x4)*1000000000))+(IntKind.u64.wrap x5))) (IntKind.u64.wrap x2)))))with|true=>k 67 (df a b x1 x2 s11 s14 r0 x3 (IntKind.u64.wrap (Int.tdiv (IntKind.u64.wrap ((IntKind.u64.wrap ((IntKind.u64.wrap x4)*1000000000))+(IntKind.u64.wrap x5))) (IntKind.u64.wrap x2))) (ac (val (ac (val b*(IntKind.u32.wrap (IntKind.u64.wrap (Int.tdiv 1000000000 (IntKind.u64.wrap ((IntKind.u64.wrap x1)+1)))))).toNat)*(IntKind.u32.wrap (IntKind.u64.wrap (Int.tdiv (IntKind.u64.wrap ((IntKind.u64.wrap ((IntKind.u64.wrap x4)*1000000000))+(IntKind.u64.wrap x5))) (IntKind.u64.wrap x2))))).toNat))|false=>none)))|none=>none)|false=>(match decide (IntKind.u64.wrap x2=(0:Int))with|true=>none|false=>(match decide ((IntKind.u64.wrap (Int.tdiv (IntKind.u64.wrap ((IntKind.u64.wrap x4)*1000000000)) (IntKind.u64.wrap x2)))>999999999)with|true=>(match decide (byP (ac (val b*(IntKind.u32.wrap (IntKind.u64.wrap (Int.tdiv 1000000000 (IntKind.u64.wrap ((IntKind.u64.wrap x1)+1)))))).toNat) (IntKind.u32.wrap 999999999))with|true=>k 67 (df a b x1 x2 s11 s14 r0 x3 999999999 (ac (val (ac (val b*(IntKind.u32.wrap (IntKind.u64.wrap (Int.tdiv 1000000000 (IntKind.u64.wrap ((IntKind.u64.wrap x1)+1)))))).toNat)*(IntKind.u32.wrap 999999999)).toNat))|false=>none)|false=>(match decide (byP (ac (val b*(IntKind.u32.wrap (IntKind.u64.wrap (Int.tdiv 1000000000 (IntKind.u64.wrap ((IntKind.u64.wrap x1)+1)))))).toNat) (IntKind.u32.wrap (IntKind.u64.wrap (Int.tdiv (IntKind.u64.wrap ((IntKind.u64.wrap x4)*1000000000)) (IntKind.u64.wrap x2)))))with|true=>k 67 (df a b x1 x2 s11 s14 r0 x3 (IntKind.u64.wrap (Int.tdiv (IntKind.u64.wrap ((IntKind.u64.wrap x4)*1000000000)) (IntKind.u64.wrap x2))) (ac (val (ac (val b*(IntKind.u32.wrap (IntKind.u64.wrap (Int.tdiv 1000000000 (IntKind.u64.wrap ((IntKind.u64.wrap x1)+1)))))).toNat)*(IntKind.u32.wrap (IntKind.u64.wrap (Int.tdiv (IntKind.u64.wrap ((IntKind.u64.wrap x4)*1000000000)) (IntKind.u64.wrap x2))))).toNat))|false=>none))))|none=>none)|false=>(match decide (((ac (val (([x3])++s11)).toNat).length:Int)≥((ac (val b*(IntKind.u32.wrap (IntKind.u64.wrap (Int.tdiv 1000000000 (IntKind.u64.wrap ((IntKind.u64.wrap x1)+1)))))).toNat).length:Int))with|true=>(match bw (ac (val (([x3])++s11)).toNat) (IntKind.i64.wrap (((ac (val b*(IntKind.u32.wrap (IntKind.u64.wrap (Int.tdiv 1000000000 (IntKind.u64.wrap ((IntKind.u64.wrap x1)+1)))))).toNat).length:Int)-1))with|some x4=>(match decide (IntKind.u64.wrap x2=(0:Int))with|true=>none|false=>(match decide ((IntKind.u64.wrap (Int.tdiv (IntKind.u64.wrap (0+(IntKind.u64.wrap x4))) (IntKind.u64.wrap x2)))>999999999)with|true=>(match decide (byP (ac (val b*(IntKind.u32.wrap (IntKind.u64.wrap (Int.tdiv 1000000000 (IntKind.u64.wrap ((IntKind.u64.wrap x1)+1)))))).toNat) (IntKind.u32.wrap 999999999))with|true=>k 67 (df a b x1 x2 s11 s14 r0 x3 999999999 (ac (val (ac (val b*(IntKind.u32.wrap (IntKind.u64.wrap (Int.tdiv 1000000000 (IntKind.u64.wrap ((IntKind.u64.wrap x1)+1)))))).toNat)*(IntKind.u32.wrap 999999999)).toNat))|false=>none)|false=>(match decide (byP (ac (val b*(IntKind.u32.wrap (IntKind.u64.wrap (Int.tdiv 1000000000 (IntKind.u64.wrap ((IntKind.u64.wrap x1)+1)))))).toNat) (IntKind.u32.wrap (IntKind.u64.wrap (Int.tdiv (IntKind.u64.wrap (0+(IntKind.u64.wrap x4))) (IntKind.u64.wrap x2)))))with|true=>k 67 (df a b x1 x2 s11 s14 r0 x3 (IntKind.u64.wrap (Int.tdiv (IntKind.u64.wrap (0+(IntKind.u64.wrap x4))) (IntKind.u64.wrap x2))) (ac (val (ac (val b*(IntKind.u32.wrap (IntKind.u64.wrap (Int.tdiv 1000000000 (IntKind.u64.wrap ((IntKind.u64.wrap x1)+1)))))).toNat)*(IntKind.u32.wrap (IntKind.u64.wrap (Int.tdiv (IntKind.u64.wrap (0+(IntKind.u64.wrap x4))) (IntKind.u64.wrap x2))))).toNat))|false=>none)))|none=>none)|false=>(match decide (IntKind.u64.wrap x2=(0:Int))with|true=>none|false=>(match decide ((IntKind.u64.wrap (Int.tdiv 0 (IntKind.u64.wrap x2)))>999999999)with|true=>(match decide (byP (ac (val b*(IntKind.u32.wrap (IntKind.u64.wrap (Int.tdiv 1000000000 (IntKind.u64.wrap ((IntKind.u64.wrap x1)+1)))))).toNat) (IntKind.u32.wrap 999999999))with|true=>k 67 (df a b x1 x2 s11 s14 r0 x3 999999999 (ac (val (ac (val b*(IntKind.u32.wrap (IntKind.u64.wrap (Int.tdiv 1000000000 (IntKind.u64.wrap ((IntKind.u64.wrap x1)+1)))))).toNat)*(IntKind.u32.wrap 999999999)).toNat))|false=>none)|false=>(match decide (byP (ac (val b*(IntKind.u32.wrap (IntKind.u64.wrap (Int.tdiv 1000000000 (IntKind.u64.wrap ((IntKind.u64.wrap x1)+1)))))).toNat) (IntKind.u32.wrap (IntKind.u64.wrap (Int.tdiv 0 (IntKind.u64.wrap x2)))))with|true=>k 67 (df a b x1 x2 s11 s14 r0 x3 (IntKind.u64.wrap (Int.tdiv 0 (IntKind.u64.wrap x2))) (ac (val (ac (val b*(IntKind.u32.wrap (IntKind.u64.wrap (Int.tdiv 1000000000 (IntKind.u64.wrap ((IntKind.u64.wrap x1)+1)))))).toNat)*(IntKind.u32.wrap (IntKind.u64.wrap (Int.tdiv 0 (IntKind.u64.wrap x2))))).toNat))|false=>none)))))|false=>none)|false=>none)|none=>none)|false=>(match decide ((0:Int)≤(s11.length:Int)∧(s11.length:Int)*((4:Nat):Int)≤140737488355328∧(s11.length:Int)≤140737488355328)with|true=>k 90 (jq a x1 s11 r0 0 (IntKind.i64.wrap ((s11.length:Int)-1)) (List.replicate ((s11.length:Int)).toNat (0:Int)))|false=>none)
theorem kJ(a:List Int)(b:List Int)(x1:Int)(x2:Int)(s11:List Int)(s14:Int)(r0:List Int){rX:List RV}(hX:∃nX,fb (eF.k nX) a b x1 x2 s11 s14 r0=some rX):eF.Runs 30 (fK a b x1 x2 s11 s14 r0) rX:=em (t:=fun k=>fb k a b x1 x2 s11 s14 r0) (fun k=>show go2 Tryz.prog ft tys pn oa k 4000 {fK a b x1 x2 s11 s14 r0 with K:=.lp 30::(fK a b x1 x2 s11 s14 r0).K} (.node 31)=fb k a b x1 x2 s11 s14 r0 by kernel_rfl) hX
noncomputable def fQ(k:KT)(a:List Int)(b:List Int)(x1:Int)(x2:Int)(s11:List Int)(s14:Int)(r0:List Int)(x3:Int)(s16:Int)(s17:List Int):Option (List RV):=match decide (mW s17 (ac (val (([x3])++s11)).toNat))with|true=>(match decide ((b8 (val s17) (val (ac (val (([x3])++s11)).toNat)))>0)with|true=>(match decide (kK s17 (ac (val b*(IntKind.u32.wrap (IntKind.u64.wrap (Int.tdiv 1000000000 (IntKind.u64.wrap ((IntKind.u64.wrap x1)+1)))))).toNat))with|true=>k 67 (df a b x1 x2 s11 s14 r0 x3 (IntKind.u64.wrap (s16-1)) (ac (val s17-val (ac (val b*(IntKind.u32.wrap (IntKind.u64.wrap (Int.tdiv 1000000000 (IntKind.u64.wrap ((IntKind.u64.wrap x1)+1)))))).toNat)).toNat))|false=>none)|false=>(match decide (kK (ac (val (([x3])++s11)).toNat) s17)with|true=>(match true,decide ((0:Int)≤s14∧s14<(((((ac (val a*(IntKind.u32.wrap (IntKind.u64.wrap (Int.tdiv 1000000000 (IntKind.u64.wrap ((IntKind.u64.wrap x1)+1)))))).toNat).length:Int):Int).toNat-(0:Int).toNat:Nat):Int))with|true,true=>(match true,r0[(0:Int).toNat+(s14).toNat]? with|true,some _=>k 30 (fK a b x1 x2 (ac (val (ac (val (([x3])++s11)).toNat)-val s17).toNat) (IntKind.i64.wrap (s14-1)) (r0.set ((0:Int).toNat+(s14).toNat) (IntKind.u32.wrap s16)))|_,_=>none)|_,_=>none)|false=>none))|false=>none
theorem nB(a:List Int)(b:List Int)(x1:Int)(x2:Int)(s11:List Int)(s14:Int)(r0:List Int)(x3:Int)(s16:Int)(s17:List Int){rX:List RV}(hX:∃nX,fQ (eF.k nX) a b x1 x2 s11 s14 r0 x3 s16 s17=some rX):eF.Runs 67 (df a b x1 x2 s11 s14 r0 x3 s16 s17) rX:=em (t:=fun k=>fQ k a b x1 x2 s11 s14 r0 x3 s16 s17) (fun k=>show go2 Tryz.prog ft tys pn oa k 4000 {df a b x1 x2 s11 s14 r0 x3 s16 s17 with K:=.lp 67::(df a b x1 x2 s11 s14 r0 x3 s16 s17).K} (.node 68)=fQ k a b x1 x2 s11 s14 r0 x3 s16 s17 by kernel_rfl) hX
noncomputable def iL(k:KT)(a:List Int)(x1:Int)(s11:List Int)(r0:List Int)(s18:Int)(s20:Int)(r1:List Int):Option (List RV):=match decide (s20≥0)with|true=>(match bw s11 s20 with|some x2=>(match decide (IntKind.u64.wrap (IntKind.u32.wrap (IntKind.u64.wrap (Int.tdiv 1000000000 (IntKind.u64.wrap ((IntKind.u64.wrap x1)+1)))))=(0:Int))with|true=>none|false=>(match bw r1 s20 with|some _=>(match true,r1[(s20).toNat]? with|true,some _=>(match decide (IntKind.u64.wrap (IntKind.u32.wrap (IntKind.u64.wrap (Int.tdiv 1000000000 (IntKind.u64.wrap ((IntKind.u64.wrap x1)+1)))))=(0:Int))with|true=>none|false=>k 90 (jq a x1 s11 r0 (Int.tmod (IntKind.u64.wrap ((IntKind.u64.wrap (s18*1000000000))+(IntKind.u64.wrap x2))) (IntKind.u64.wrap (IntKind.u32.wrap (IntKind.u64.wrap (Int.tdiv 1000000000 (IntKind.u64.wrap ((IntKind.u64.wrap x1)+1))))))) (IntKind.i64.wrap (s20-1)) (r1.set ((s20).toNat) (IntKind.u32.wrap (IntKind.u64.wrap (Int.tdiv (IntKind.u64.wrap ((IntKind.u64.wrap (s18*1000000000))+(IntKind.u64.wrap x2))) (IntKind.u64.wrap (IntKind.u32.wrap (IntKind.u64.wrap (Int.tdiv 1000000000 (IntKind.u64.wrap ((IntKind.u64.wrap x1)+1))))))))))))|_,_=>none)|none=>none))|none=>none)|false=>(match decide (a8 ((r0.drop ((0:Int).toNat)).take ((((ac (val a*(IntKind.u32.wrap (IntKind.u64.wrap (Int.tdiv 1000000000 (IntKind.u64.wrap ((IntKind.u64.wrap x1)+1)))))).toNat).length:Int):Int).toNat-(0:Int).toNat)))with|true=>(match decide (a8 r1)with|true=>some [RV.d (.sl (.int .u32)) (ac (val ((r0.drop ((0:Int).toNat)).take ((((ac (val a*(IntKind.u32.wrap (IntKind.u64.wrap (Int.tdiv 1000000000 (IntKind.u64.wrap ((IntKind.u64.wrap x1)+1)))))).toNat).length:Int):Int).toNat-(0:Int).toNat))).toNat),RV.d (.sl (.int .u32)) (ac (val r1).toNat)]|false=>none)|false=>none)
theorem sL(a:List Int)(x1:Int)(s11:List Int)(r0:List Int)(s18:Int)(s20:Int)(r1:List Int){rX:List RV}(hX:∃nX,iL (eF.k nX) a x1 s11 r0 s18 s20 r1=some rX):eF.Runs 90 (jq a x1 s11 r0 s18 s20 r1) rX:=em (t:=fun k=>iL k a x1 s11 r0 s18 s20 r1) (fun k=>show go2 Tryz.prog ft tys pn oa k 4000 {jq a x1 s11 r0 s18 s20 r1 with K:=.lp 90::(jq a x1 s11 r0 s18 s20 r1).K} (.node 91)=iL k a x1 s11 r0 s18 s20 r1 by kernel_rfl) hX
def qsc(x1:Int):Int:=IntKind.u32.wrap (IntKind.u64.wrap (Int.tdiv 1000000000 (IntKind.u64.wrap ((IntKind.u64.wrap x1)+1))))
theorem eP(x1:Int):IntKind.u32.wrap (IntKind.u64.wrap (Int.tdiv 1000000000 (IntKind.u64.wrap ((IntKind.u64.wrap x1)+1))))=qsc x1:=by
 have h:∀y,qsc x1=y→y=qsc x1:=fun y e=>e.symm
 exact h _ rfl
theorem Z2{x:Int}(h1:1≤x)(h2:x<1000000000):qsc x=1000000000/(x+1)∧1≤qsc x∧qsc x<1000000000:=by
 have h3:1≤1000000000/(x+1):=Int.le_ediv_of_mul_le (by omega) (by omega)
 have h4:1000000000/(x+1)<1000000000:=Int.ediv_lt_of_lt_mul (by omega) (by omega)
 unfold qsc
 rw[bz (x:=x) (by omega) (by omega),bz (x:=x+1) (by omega) (by omega),eN (by omega),bz (by omega) (by omega),cG (by omega) (by omega)]
 exact⟨rfl,h3,h4⟩
theorem GF{v:Int}(h:0<v):∃(n:Nat) (x:Int),(ac v.toNat).length=n+1∧(ac v.toNat)[n]?=some x∧1≤x∧x<1000000000∧x*pw n≤v:=by
 have hne:ac v.toNat≠[]:=fun e=>by rw[fu]at e;omega
 rcases List.eq_nil_or_concat (ac v.toNat)with h0|⟨l,x,hx⟩
 ·exact absurd h0 hne
 ·have hv:=bE v.toNat
  have hc:=db v.toNat
  have hl:=bT v.toNat
  rw[List.concat_eq_append]at hx
  rw[hx]at hv hc hl
  have hxx:=hl x (by simp)
  have hx0:x≠0:=fun e=>hc.2 (by simp[e])
  have hln:=aY (l:=l) (fun y hy=>hl y (by simp[hy]))
  rw[cT]at hv
  simp only[val]at hv
  refine⟨l.length,x,by rw[hx];simp,by rw[hx];simp,by omega,hxx.2,?_⟩
  rw[Int.mul_comm]
  rw[Int.mul_zero,Int.add_zero]at hv
  omega
section
variable (a b:List Int) (x1 x2:Int) (V:Int) (hV:val b*qsc x1=V) (hs:1≤qsc x1∧qsc x1<1000000000) (hp:0<V) (hra:(ac (val a*qsc x1).toNat).length≤a.length+1) (ha:Lim a∧a.length≤1000000) (hL:(ac V.toNat).length≤1000001)
theorem Sx(hs:1≤qsc x1∧qsc x1<1000000000)(l r0:List Int)(hl:Lim l∧l.length≤2000000)(hr0:a8 r0)(hz0:∀k (hk:k<r0.length),(ac (val a*qsc x1).toNat).length≤k→r0[k]=0):∀(n:Nat) (c:Int) (r:List Int),n≤l.length→0≤c→c<qsc x1→Lim r→r.length=l.length→(∀k (hk:k<r.length),k<n→r[k]=0)→qsc x1*val r+pw n*c+val (l.take n)=val l→
  eF.Runs 90 (jq a x1 l r0 c ((n:Int)-1) r) [.d (.sl (.int .u32)) (ac (val r0).toNat),.d (.sl (.int .u32)) (ac (val l/qsc x1).toNat)]:=by
 have hsa:=hl.2
 have e64:IntKind.u64.wrap (qsc x1)=qsc x1:=bz (by omega) (by omega)
 intro n
 induction n with
 |zero=>
  intro c r hn c0 c1 hr hlen hz hv
  simp only[kr,List.take_zero,val,Int.one_mul,Int.add_zero]at hv
  have e2:val l/qsc x1=val r:=by
   rw[←hv,Int.add_comm,Int.add_mul_ediv_left _ _ (by omega),Int.ediv_eq_zero_of_lt c0 c1]
   omega
  have e3:=sW hz0
  have e4:a8 (r0.take (ac (val a*qsc x1).toNat).length):=⟨hr0.1.take _,by have:=hr0.2;rw[List.length_take];omega⟩
  refine sL _ _ _ _ _ _ _ ⟨0,?_⟩
  unfold iL
  simp only[eP,Int.toNat_zero,Int.toNat_natCast,List.drop_zero,Nat.sub_zero]
  rw[dF (by omega)]
  dsimp only
  rw[dT e4,dT (show a8 r from⟨hr,by omega⟩),e3,e2]
 |succ n ih=>
  intro c r hn c0 c1 hr hlen hz hv
  have hna:n<l.length:=by omega
  have hnr:n<r.length:=by omega
  have xa:=hl.1.get hna
  have hr0':=hz n hnr (by omega)
  have hcb:0≤c*1000000000+l[n]:=by omega
  have m0:=Int.emod_nonneg (c*1000000000+l[n]) (show qsc x1≠0 by omega)
  have m1:=Int.emod_lt_of_pos (c*1000000000+l[n]) (show 0<qsc x1 by omega)
  have md:=Int.mul_ediv_add_emod (c*1000000000+l[n]) (qsc x1)
  have d0:0≤(c*1000000000+l[n])/qsc x1:=Int.ediv_nonneg hcb (by omega)
  have d1:(c*1000000000+l[n])/qsc x1<1000000000:=by
   refine Int.ediv_lt_of_lt_mul (by omega) ?_
   have:=Int.mul_le_mul_of_nonneg_right (show c+1≤qsc x1 by omega) (show(0:Int)≤1000000000 by decide)
   rw[Int.mul_comm 1000000000 (qsc x1)]
   omega
  obtain⟨q,hq⟩:=ih ((c*1000000000+l[n])%qsc x1) (r.set n ((c*1000000000+l[n])/qsc x1)) (by omega) m0 m1 (hr.set n ⟨d0,d1⟩) (by simpa using hlen)
   (fun k hk hkn=>by rw[List.getElem_set_ne (by omega)];exact hz k (by simpa using hk) (by omega)) (by
    rw[dN hnr,hr0']
    rw[bi hna,bZ]at hv
    grind)
  refine sL _ _ _ _ _ _ _ ⟨q,?_⟩
  unfold iL
  simp only[eP]
  rw[show((n+1:Nat):Int)-1=(n:Int) by omega,dT (by omega),aB l n,List.getElem?_eq_getElem hna,e64,dF (show ¬qsc x1=0 by omega),aB r n,aM,List.getElem?_eq_getElem hnr]
  dsimp only
  rw[bz (x:=c*1000000000) (by omega) (by omega),bz (x:=l[n]) (by omega) (by omega),bz (x:=c*1000000000+l[n]) (by omega) (by omega),eN hcb,gJ hcb,bz (x:=(c*1000000000+l[n])/qsc x1) (by omega) (by omega),cG (x:=(c*1000000000+l[n])/qsc x1) (by omega) (by omega),bk (x:=(n:Int)-1) (by omega) (by omega)]
  exact hq
include hV hp hL in
theorem D4{res:List RV}(i:Nat)(hi:i<(ac (val a*qsc x1).toNat).length)(r0 l:List Int)(hlr:r0.length=a.length+1)(hra:(ac (val a*qsc x1).toNat).length≤a.length+1)(x3:Int)(W:Int)(hW:val ([x3]++l)=W)(W0:0≤W)(hWl:(ac W.toNat).length≤1000002)
  (hout:eF.Runs 30 (fK a b x1 x2 (ac (W%V).toNat) ((i:Int)-1) (r0.set i (W/V))) res) (hi':(ac (val a*qsc x1).toNat).length≤2000000):
  ∀(d:Nat),d≤999999999→W<V*((d:Int)+1)→eF.Runs 67 (df a b x1 x2 l (i:Int) r0 x3 (d:Int) (ac (V*(d:Int)).toNat)) res:=by
 intro d
 have hsz:∀e:Nat,e≤999999999→(ac (V*(e:Int)).toNat).length≤1000002:=fun e he=>by
  refine ck (Int.mul_nonneg (by omega) (by omega)) ?_
  have h1:V<pw 1000001:=by
   have:=bQ (bT V.toNat)
   rw[bE]at this
   have:=cM hL
   omega
  rw[bZ 1000001]
  have h2:V*(e:Int)≤V*999999999:=Int.mul_le_mul_of_nonneg_left (by omega) (by omega)
  omega
 induction d with
 |zero=>
  intro _ hd
  obtain⟨q,hq⟩:=hout
  have hWV:W<V:=by simpa using hd
  rw[Int.emod_eq_of_lt W0 hWV,Int.ediv_eq_zero_of_lt W0 hWV]at hq
  refine nB _ _ _ _ _ _ _ _ _ _ ⟨q,?_⟩
  unfold fQ
  simp only[eP,hV,hW]
  rw[show(V*((0:Nat):Int)).toNat=0 by simp,dT (show mW (ac 0) (ac W.toNat) from⟨⟨db _,by decide⟩,db _,by omega⟩),bO W0,sd,show val (ac 0)=0 from rfl,dF (show ¬W<0 by omega),dT (show kK (ac W.toNat) (ac 0) from⟨cp (by omega),cp (by decide),by rw[bO W0];exact W0⟩)]
  dsimp only
  rw[dT (show(0:Int)≤(i:Int)∧(i:Int)<((((ac (val a*qsc x1).toNat).length:Int).toNat-(0:Int).toNat:Nat):Int) by constructor<;>simp<;>omega)]
  rw[show(0:Int).toNat+((i:Int)).toNat=i by simp,List.getElem?_eq_getElem (by omega)]
  dsimp only
  rw[Int.sub_zero,bk (by omega) (by omega)]
  exact hq
 |succ d ih=>
  intro hd1 hd
  have hc:((d+1:Nat):Int)=(d:Int)+1:=by omega
  rw[hc]at hd
  have hV1:0≤V*((d:Int)+1):=Int.mul_nonneg (by omega) (by omega)
  have hV0:0≤V*(d:Int):=Int.mul_nonneg (by omega) (by omega)
  have hVd:V*((d:Int)+1)-V=V*(d:Int):=by grind
  have hs1:=hsz (d+1) (by omega)
  rw[hc]at hs1
  have k1:=bE V.toNat
  by_cases hg:W<V*((d:Int)+1)
  ·obtain⟨q,hq⟩:=ih (by omega) hg
   refine nB _ _ _ _ _ _ _ _ _ _ ⟨q,?_⟩
   unfold fQ
   simp only[eP,hV,hW]
   rw[hc,dT (show mW (ac (V*((d:Int)+1)).toNat) (ac W.toNat) from⟨⟨db _,by omega⟩,db _,by omega⟩),bO W0,bO hV1,sd,dT hg,dT (show kK (ac (V*((d:Int)+1)).toNat) (ac V.toNat) from⟨cp (by omega),cp (by omega),by rw[bO hV1,bO (by omega)];omega⟩),bO (v:=V) (by omega),hVd,bz (by omega) (by omega),show(d:Int)+1-1=(d:Int) by omega]
   exact hq
  ·obtain⟨q,hq⟩:=hout
   have e1:W/V=(d:Int)+1:=by
    have:W=(W-V*((d:Int)+1))+V*((d:Int)+1):=by omega
    rw[this,Int.add_mul_ediv_left _ _ (by omega),Int.ediv_eq_zero_of_lt (by omega) (by grind)]
    omega
   have e2:W%V=W-V*((d:Int)+1):=by
    have:=Int.mul_ediv_add_emod W V
    rw[e1]at this
    omega
   rw[e1,e2]at hq
   refine nB _ _ _ _ _ _ _ _ _ _ ⟨q,?_⟩
   unfold fQ
   simp only[eP,hV,hW]
   rw[hc,dT (show mW (ac (V*((d:Int)+1)).toNat) (ac W.toNat) from⟨⟨db _,by omega⟩,db _,by omega⟩),bO W0,bO hV1,sd,dF hg,dT (show kK (ac W.toNat) (ac (V*((d:Int)+1)).toNat) from⟨cp (by omega),cp (by omega),by rw[bO hV1,bO W0];omega⟩)]
   dsimp only
   rw[dT (show(0:Int)≤(i:Int)∧(i:Int)<((((ac (val a*qsc x1).toNat).length:Int).toNat-(0:Int).toNat:Nat):Int) by constructor<;>simp<;>omega)]
   rw[show(0:Int).toNat+((i:Int)).toNat=i by simp,List.getElem?_eq_getElem (by omega)]
   dsimp only
   rw[bk (by omega) (by omega),cG (by omega) (by omega)]
   exact hq
end
end Go.Proofs.YtlahabkjhgkkjaaGreat
namespace Go.Proofs.YtlahabkjhgkkjaaGreat
open Go.RowKit
def mM(k:Nat→Cfg→Option (List RV))(a b:List Int)(x1 x2:Int)(s11:List Int)(s14:Int)(r0:List Int)(x3 H:Int):Option (List RV):=match decide (IntKind.u64.wrap x2=(0:Int))with|true=>none|false=>(match decide ((IntKind.u64.wrap (Int.tdiv H (IntKind.u64.wrap x2)))>999999999)with|true=>(match decide (byP (ac (val b*(IntKind.u32.wrap (IntKind.u64.wrap (Int.tdiv 1000000000 (IntKind.u64.wrap ((IntKind.u64.wrap x1)+1)))))).toNat) (IntKind.u32.wrap 999999999))with|true=>k 67 (df a b x1 x2 s11 s14 r0 x3 999999999 (ac (val (ac (val b*(IntKind.u32.wrap (IntKind.u64.wrap (Int.tdiv 1000000000 (IntKind.u64.wrap ((IntKind.u64.wrap x1)+1)))))).toNat)*(IntKind.u32.wrap 999999999)).toNat))|false=>none)|false=>(match decide (byP (ac (val b*(IntKind.u32.wrap (IntKind.u64.wrap (Int.tdiv 1000000000 (IntKind.u64.wrap ((IntKind.u64.wrap x1)+1)))))).toNat) (IntKind.u32.wrap (IntKind.u64.wrap (Int.tdiv H (IntKind.u64.wrap x2)))))with|true=>k 67 (df a b x1 x2 s11 s14 r0 x3 (IntKind.u64.wrap (Int.tdiv H (IntKind.u64.wrap x2))) (ac (val (ac (val b*(IntKind.u32.wrap (IntKind.u64.wrap (Int.tdiv 1000000000 (IntKind.u64.wrap ((IntKind.u64.wrap x1)+1)))))).toNat)*(IntKind.u32.wrap (IntKind.u64.wrap (Int.tdiv H (IntKind.u64.wrap x2))))).toNat))|false=>none))
theorem On{W V H x p d:Int}(hx:1≤x)(hW:W<(H+1)*p)(hp:0<p)(hV:x*p≤V)(hd:H/x=d)(h0:0≤H):W<V*(d+1):=by
 have h1:=Int.mul_ediv_add_emod H x
 have h2:=Int.emod_lt_of_pos H (show 0<x by omega)
 have h3:0≤d:=by rw[←hd];exact Int.ediv_nonneg h0 (by omega)
 rw[hd]at h1
 have h4:H+1≤x*(d+1):=by grind
 have h5:=Int.mul_le_mul_of_nonneg_right h4 (Int.le_of_lt hp)
 have h6:=Int.mul_le_mul_of_nonneg_right hV (show 0≤d+1 by omega)
 grind
theorem abc{A B s R q:Int}(hs:0<s)(h:A*s=R+B*s*q)(h0:0≤R)(h1:R<B*s):A/B=q∧A%B=R/s:=by
 have e:R=s*(A-B*q):=by grind
 have hm:R/s=A-B*q:=by rw[e];exact Int.mul_ediv_cancel_left _ (by omega)
 have m0:0≤A-B*q:=by
  apply Classical.byContradiction
  intro hc
  have:=Int.mul_le_mul_of_nonneg_left (show A-B*q≤ -1 by omega) (Int.le_of_lt hs)
  omega
 have m1:A-B*q<B:=by
  apply Classical.byContradiction
  intro hc
  have:=Int.mul_le_mul_of_nonneg_left (show B≤A-B*q by omega) (Int.le_of_lt hs)
  grind
 have hA:A=(A-B*q)+B*q:=by omega
 constructor
 ·rw[hA,Int.add_mul_ediv_left _ _ (by omega),Int.ediv_eq_zero_of_lt (by omega) (by omega)];omega
 ·rw[hm,hA,Int.add_mul_emod_self_left,Int.emod_eq_of_lt (by omega) (by omega)];omega
section
variable (a b:List Int) (x1 x2:Int) (V:Int) (hV:val b*qsc x1=V) (hs:1≤qsc x1∧qsc x1<1000000000) (hp:0<V) (hra:(ac (val a*qsc x1).toNat).length≤a.length+1) (ha:Lim a∧a.length≤1000000) (hL:(ac V.toNat).length≤1000001)
include hV hs hp hra ha hL in
theorem FF(n:Nat)(hn:(ac V.toNat).length=n+1)(hx2:1≤x2∧x2<1000000000)(hxp:x2*pw n≤V):∀(i:Nat) (R:Int) (r0:List Int),i≤(ac (val a*qsc x1).toNat).length→0≤R→R<V→r0.length=a.length+1→Lim r0→
  (∀k (hk:k<r0.length),k<i→r0[k]=0)→(∀k (hk:k<r0.length),(ac (val a*qsc x1).toNat).length≤k→r0[k]=0)→val a*qsc x1=pw i*R+val ((ac (val a*qsc x1).toNat).take i)+V*val r0→
  eF.Runs 30 (fK a b x1 x2 (ac R.toNat) ((i:Int)-1) r0) [.d (.sl (.int .u32)) (ac (val a/val b).toNat),.d (.sl (.int .u32)) (ac (val a%val b).toNat)]:=by
 have hVp:V<pw 1000001:=by
  have:=bQ (bT V.toNat)
  rw[bE]at this
  have:=cM hL
  omega
 have ha2:=ha.2
 intro i
 induction i with
 |zero=>
  intro R r0 _ R0 RV hlr hl _ hz he
  simp only[kr,List.take_zero,val,Int.one_mul,Int.add_zero]at he
  rw[←hV]at he
  obtain⟨e1,e2⟩:=abc (by omega) he R0 (by rw[hV];exact RV)
  have hRl:(ac R.toNat).length≤1000001:=ck R0 (by omega)
  obtain⟨q,hq⟩:=Sx a x1 hs (ac R.toNat) r0 ⟨bT _,by omega⟩ ⟨hl,by omega⟩ hz (ac R.toNat).length 0 (List.replicate (ac R.toNat).length 0) (Nat.le_refl _) (by omega) (by omega) (Lim.rep _) (by simp) (fun k hk _=>by simp) (by simp[eU])
  rw[bO R0,←e2,←e1]at hq
  refine kJ _ _ _ _ _ _ _ ⟨q,?_⟩
  unfold fb
  rw[dF (by omega)]
  dsimp only
  rw[dT (show(0:Int)≤((ac R.toNat).length:Int)∧((ac R.toNat).length:Int)*((4:Nat):Int)≤140737488355328∧((ac R.toNat).length:Int)≤140737488355328 from⟨by omega,by omega,by omega⟩),aM,bk (by omega) (by omega)]
  exact hq
 |succ i ih=>
  intro R r0 hi R0 RV hlr hl hz hz2 he
  have hiU:i<(ac (val a*qsc x1).toNat).length:=by omega
  have hx:=(bT (val a*qsc x1).toNat).get hiU
  have hir:i<r0.length:=by omega
  have hr0:=hz i hir (by omega)
  have hWv:val ([(ac (val a*qsc x1).toNat)[i]]++ac R.toNat)=(ac (val a*qsc x1).toNat)[i]+1000000000*R:=by
   rw[cT,bO R0]
   simp[val,pw]
  generalize hxi:(ac (val a*qsc x1).toNat)[i]=x at hx hWv
  have W0:0≤x+1000000000*R:=by omega
  have WV:x+1000000000*R<1000000000*V:=by omega
  have hWl:(ac (x+1000000000*R).toNat).length≤n+2:=by
   refine ck W0 ?_
   have:=bQ (bT V.toNat)
   rw[bE,hn]at this
   rw[bZ (n+1)]
   omega
  have hRl:(ac R.toNat).length≤1000001:=ck R0 (by omega)
  have q0:0≤(x+1000000000*R)/V:=Int.ediv_nonneg W0 (by omega)
  have q1:(x+1000000000*R)/V<1000000000:=Int.ediv_lt_of_lt_mul hp (by omega)
  have m0:=Int.emod_nonneg (x+1000000000*R) (show V≠0 by omega)
  have m1:=Int.emod_lt_of_pos (x+1000000000*R) hp
  have md:=Int.mul_ediv_add_emod (x+1000000000*R) V
  have hout:=ih ((x+1000000000*R)%V) (r0.set i ((x+1000000000*R)/V)) (by omega) m0 m1 (by simpa using hlr) (hl.set i ⟨q0,q1⟩)
   (fun k hk hk'=>by rw[List.getElem_set_ne (by omega)];exact hz k (by simpa using hk) (by omega))
   (fun k hk hk'=>by rw[List.getElem_set_ne (by omega)];exact hz2 k (by simpa using hk) hk') (by
    rw[dN hir,hr0]
    rw[bi hiU,bZ,hxi]at he
    grind)
  have hdig:=D4 a b x1 x2 V hV hp hL i hiU r0 (ac R.toNat) hlr hra x (x+1000000000*R) hWv W0 (by omega) hout (by omega)
  have htail:∀H:Int,0≤H→H<1000000000000000000→x+1000000000*R<(H+1)*pw n→∃q,mM (eF.k q) a b x1 x2 (ac R.toNat) ((i:Int)) r0 x H=some [.d (.sl (.int .u32)) (ac (val a/val b).toNat),.d (.sl (.int .u32)) (ac (val a%val b).toNat)]:=by
   intro H H0 H1 HW
   have d0:0≤H/x2:=Int.ediv_nonneg H0 (by omega)
   have d1:H/x2≤H:=Int.ediv_le_self _ H0
   have hbyV:∀d:Int,0≤d→d<1000000000→byP (ac V.toNat) d:=fun d h1 h2=>⟨⟨bT _,by omega⟩,h1,h2⟩
   by_cases hc:H/x2>999999999
   ·obtain⟨q,hq⟩:=hdig 999999999 (Nat.le_refl _) (by rw[show V*(((999999999:Nat):Int)+1)=1000000000*V by omega];exact WV)
    refine⟨q,?_⟩
    unfold mM
    simp only[eP,hV]
    rw[bz (x:=x2) (by omega) (by omega),dF (show ¬x2=0 by omega),eN H0,bz (x:=H/x2) (by omega) (by omega),dT hc,cG (x:=999999999) (by decide) (by decide),dT (hbyV 999999999 (by decide) (by decide)),bO (v:=V) (by omega)]
    exact hq
   ·obtain⟨q,hq⟩:=hdig (H/x2).toNat (by omega) (by rw[show(((H/x2).toNat:Nat):Int)=H/x2 by omega];exact On hx2.1 HW (bR n) hxp rfl H0)
    rw[show(((H/x2).toNat:Nat):Int)=H/x2 by omega]at hq
    refine⟨q,?_⟩
    unfold mM
    simp only[eP,hV]
    rw[bz (x:=x2) (by omega) (by omega),dF (show ¬x2=0 by omega),eN H0,bz (x:=H/x2) (by omega) (by omega),dF hc,cG (x:=H/x2) (by omega) (by omega),dT (hbyV (H/x2) (by omega) (by omega)),bO (v:=V) (by omega)]
    exact hq
  have hWlim:=bT (x+1000000000*R).toNat
  have hWval:=bO W0
  have hsplit:=eu (ac (x+1000000000*R).toNat) n
  have htl:=bQ (hWlim.take n)
  have hpre:∀H,val ((ac (x+1000000000*R).toNat).drop n)=H→x+1000000000*R<(H+1)*pw n:=by
   intro H hH
   rw[hH,hWval]at hsplit
   have hm:(ac (x+1000000000*R).toNat |>.take n).length≤n:=by rw[List.length_take];omega
   have:=cM hm
   rcases Nat.lt_or_ge n (ac (x+1000000000*R).toNat).length with h|h
   ·rw[Nat.min_eq_left (by omega)]at hsplit
    rw[Int.add_mul,Int.mul_comm H,Int.one_mul]
    omega
   ·rw[List.drop_eq_nil_of_le h]at hH
    have hH0:H=0:=by rw[←hH];rfl
    subst hH0
    rw[Int.mul_zero]at hsplit
    omega
  have hstep:∀(H:Int) (q:Nat),mM (eF.k q) a b x1 x2 (ac R.toNat) ((i:Int)) r0 x H=some [.d (.sl (.int .u32)) (ac (val a/val b).toNat),.d (.sl (.int .u32)) (ac (val a%val b).toNat)]→True:=fun _ _ _=>trivial
  have hap:(([x]:List Int).length+(ac R.toNat).length)*4≤140737488355328∧([x]:List Int).length+(ac R.toNat).length≤140737488355328:=by simp only[List.length_singleton];omega
  have hlS:a8 ([x]++ac R.toNat):=⟨(Lim.cons ⟨hx.1,hx.2⟩ Lim.nil).append (bT _),by simp only[List.length_append,List.length_singleton];omega⟩
  have hw1:IntKind.i64.wrap (((n+1:Nat):Int)-1)=((n:Nat):Int):=by rw[bk (by omega) (by omega)];omega
  rcases Nat.lt_trichotomy (ac (x+1000000000*R).toNat).length (n+1)with hc|hc|hc
  ·obtain⟨q,hq⟩:=htail 0 (by omega) (by omega) (hpre 0 (by rw[List.drop_eq_nil_of_le (by omega)];rfl))
   refine kJ _ _ _ _ _ _ _ ⟨q,?_⟩
   unfold fb
   rw[dT (show((i+1:Nat):Int)-1≥0 by omega),show((i+1:Nat):Int)-1=(i:Int) by omega,eP,aB,List.getElem?_eq_getElem hiU,hxi]
   dsimp only
   rw[dT hap,dT hlS,hWv,hV,hn]
   dsimp only
   rw[dF (show ¬((ac (x+1000000000*R).toNat).length:Int)>((n+1:Nat):Int) by omega),dF (show ¬((ac (x+1000000000*R).toNat).length:Int)≥((n+1:Nat):Int) by omega)]
   rw[←hV]
   exact hq
  ·have hget:(ac (x+1000000000*R).toNat)[n]?=some (ac (x+1000000000*R).toNat)[n]:=List.getElem?_eq_getElem (by omega)
   have hxn:=hWlim.get (show n<(ac (x+1000000000*R).toNat).length by omega)
   have hdrop:val ((ac (x+1000000000*R).toNat).drop n)=(ac (x+1000000000*R).toNat)[n]:=by
    rw[ka (by omega),List.drop_eq_nil_of_le (by omega)]
    simp[val]
   obtain⟨q,hq⟩:=htail (ac (x+1000000000*R).toNat)[n] hxn.1 (by omega) (hpre _ hdrop)
   refine kJ _ _ _ _ _ _ _ ⟨q,?_⟩
   unfold fb
   rw[dT (show((i+1:Nat):Int)-1≥0 by omega),show((i+1:Nat):Int)-1=(i:Int) by omega,eP,aB,List.getElem?_eq_getElem hiU,hxi]
   dsimp only
   rw[dT hap,dT hlS,hWv,hV,hn]
   dsimp only
   rw[dF (show ¬((ac (x+1000000000*R).toNat).length:Int)>((n+1:Nat):Int) by omega),dT (show((ac (x+1000000000*R).toNat).length:Int)≥((n+1:Nat):Int) by omega),hw1,aB (ac (x+1000000000*R).toNat) n,hget]
   dsimp only
   rw[Int.zero_add,bz (x:=(ac (x+1000000000*R).toNat)[n]) (by omega) (by omega),bz (x:=(ac (x+1000000000*R).toNat)[n]) (by omega) (by omega)]
   rw[←hV]
   exact hq
  ·have hget:(ac (x+1000000000*R).toNat)[n]?=some (ac (x+1000000000*R).toNat)[n]:=List.getElem?_eq_getElem (by omega)
   have hget1:(ac (x+1000000000*R).toNat)[n+1]?=some (ac (x+1000000000*R).toNat)[n+1]:=List.getElem?_eq_getElem (by omega)
   have hxn:=hWlim.get (show n<(ac (x+1000000000*R).toNat).length by omega)
   have hxn1:=hWlim.get (show n+1<(ac (x+1000000000*R).toNat).length by omega)
   have hdrop:val ((ac (x+1000000000*R).toNat).drop n)=(ac (x+1000000000*R).toNat)[n+1]*1000000000+(ac (x+1000000000*R).toNat)[n]:=by
    rw[ka (by omega),ka (by omega),List.drop_eq_nil_of_le (by omega)]
    simp only[val]
    omega
   obtain⟨q,hq⟩:=htail ((ac (x+1000000000*R).toNat)[n+1]*1000000000+(ac (x+1000000000*R).toNat)[n]) (by omega) (by omega) (hpre _ hdrop)
   refine kJ _ _ _ _ _ _ _ ⟨q,?_⟩
   unfold fb
   rw[dT (show((i+1:Nat):Int)-1≥0 by omega),show((i+1:Nat):Int)-1=(i:Int) by omega,eP,aB,List.getElem?_eq_getElem hiU,hxi]
   dsimp only
   rw[dT hap,dT hlS,hWv,hV,hn]
   dsimp only
   rw[dT (show((ac (x+1000000000*R).toNat).length:Int)>((n+1:Nat):Int) by omega),aB (ac (x+1000000000*R).toNat) (n+1),hget1]
   dsimp only
   rw[dT (show((ac (x+1000000000*R).toNat).length:Int)≥((n+1:Nat):Int) by omega),hw1,aB (ac (x+1000000000*R).toNat) n,hget]
   dsimp only
   rw[bz (x:=(ac (x+1000000000*R).toNat)[n+1]) (by omega) (by omega),bz (x:=(ac (x+1000000000*R).toNat)[n+1]*1000000000) (by omega) (by omega),bz (x:=(ac (x+1000000000*R).toNat)[n]) (by omega) (by omega),bz (x:=(ac (x+1000000000*R).toNat)[n+1]*1000000000+(ac (x+1000000000*R).toNat)[n]) (by omega) (by omega)]
   rw[←hV]
   exact hq
end
end Go.Proofs.YtlahabkjhgkkjaaGreat
namespace Go.Proofs.YtlahabkjhgkkjaaGreat
open Go.RowKit
theorem Rx(a:List Int)(b:List Int)(h:Aw a b):Con Tryz.prog 187 [.d (.sl (.int .u32)) a,.d (.sl (.int .u32)) b] [.d (.sl (.int .u32)) (ac (val a/val b).toNat),.d (.sl (.int .u32)) (ac (val a%val b).toNat)]:=by
 refine Ctx.Res.con (C:=eF) (au L8) ?_ (fn:=Tryz.f187) (by kernel_rfl) (by kernel_rfl)
 obtain⟨⟨ha,sa⟩,⟨hb,sb⟩,hne⟩:=h
 have a0:=aY ha.1
 have b0:0<val b:=dp hb hne
 have hlen:=List.length_pos_iff.2 hne
 have la:=bQ ha.1
 have lb:=bQ hb.1
 by_cases hsm:a.length≤2∧b.length≤2
 ·have p2:pw 2=1000000000000000000:=by decide
  have m1:=cM hsm.1
  have m2:=cM hsm.2
  have q0:0≤val a/val b:=Int.ediv_nonneg a0 (by omega)
  have q1:val a/val b≤val a:=Int.ediv_le_self _ a0
  have r0:=Int.emod_nonneg (val a) (show val b≠0 by omega)
  have r1:=Int.emod_lt_of_pos (val a) b0
  refine Tg _ _ ⟨0,?_⟩
  unfold sN
  rw[dT (show(a.length:Int)≤2 by omega),dT (show(b.length:Int)≤2 by omega),dT (show nt a from⟨⟨ha.1,by omega⟩,by omega⟩),dT (show nt b from⟨⟨hb.1,by omega⟩,by omega⟩),dF (show ¬val b=0 by omega),eN a0,gJ a0,bz (x:=val a/val b) q0 (by omega),dT (show fe (val a/val b) from⟨q0,by omega⟩),dT (show fe (val a%val b) from⟨r0,by omega⟩)]
 ·obtain⟨n,hn⟩:∃n,b.length=n+1:=⟨b.length-1,by omega⟩
  have hbn:n<b.length:=by omega
  have ht:=qf hb hn
  have hbl:=hb.1.get hbn
  obtain⟨hs0,hs1,hs2⟩:=Z2 (x:=b[n]) ht hbl.2
  have hVp:0<val b*qsc b[n]:=Int.mul_pos b0 (by omega)
  have hVl:(ac (val b*qsc b[n]).toNat).length≤1000001:=by
   refine ck (by omega) ?_
   have h1:val b*qsc b[n]≤val b*999999999:=Int.mul_le_mul_of_nonneg_left (by omega) (by omega)
   have h2:=cM sb
   rw[bZ 1000000]
   omega
  have hUl:(ac (val a*qsc b[n]).toNat).length≤a.length+1:=by
   refine ck (Int.mul_nonneg a0 (by omega)) ?_
   have h1:val a*qsc b[n]≤val a*999999999:=Int.mul_le_mul_of_nonneg_left (by omega) (by omega)
   rw[bZ]
   omega
  obtain⟨m,x2,hm,hg,hx1,hx2,hxp⟩:=GF hVp
  obtain⟨q,hq⟩:=FF a b b[n] x2 (val b*qsc b[n]) rfl ⟨hs1,hs2⟩ hVp hUl ⟨ha.1,sa⟩ hVl m hm ⟨hx1,hx2⟩ hxp (ac (val a*qsc b[n]).toNat).length 0 (List.replicate (a.length+1) 0) (Nat.le_refl _) (by omega) hVp (by simp) (Lim.rep _) (fun k hk _=>by simp) (fun k hk _=>by simp) (by
   rw[List.take_length,bO (Int.mul_nonneg a0 (by omega)),eU];omega)
  refine Tg _ _ ⟨q,?_⟩
  have hw1:IntKind.i64.wrap ((b.length:Int)-1)=(n:Int):=by rw[bk (by omega) (by omega)];omega
  have hx1w:¬IntKind.u64.wrap (IntKind.u64.wrap b[n]+1)=0:=by rw[bz (x:=b[n]) (by omega) (by omega),bz (by omega) (by omega)];omega
  have hbyb:byP b (qsc b[n]):=⟨⟨hb.1,by omega⟩,by omega,hs2⟩
  have hbya:byP a (qsc b[n]):=⟨⟨ha.1,by omega⟩,by omega,hs2⟩
  have hw2:IntKind.i64.wrap (((m+1:Nat):Int)-1)=(m:Int):=by rw[bk (by omega) (by omega)];omega
  have hsub:(match bw b (IntKind.i64.wrap ((b.length:Int)-1))with|some x1=>(match decide (IntKind.u64.wrap ((IntKind.u64.wrap x1)+1)=(0:Int))with|true=>none|false=>(match decide (byP b (qsc x1))with|true=>(match bw (ac (val b*(qsc x1)).toNat) (IntKind.i64.wrap (((ac (val b*(qsc x1)).toNat).length:Int)-1))with|some x2=>(match decide ((0:Int)≤IntKind.i64.wrap ((a.length:Int)+1)∧(IntKind.i64.wrap ((a.length:Int)+1))*((4:Nat):Int)≤140737488355328∧IntKind.i64.wrap ((a.length:Int)+1)≤140737488355328)with|true=>(match decide (byP a (qsc x1))with|true=>(match decide ((0:Int)≤0∧0≤((ac (val a*(qsc x1)).toNat).length:Int)∧((ac (val a*(qsc x1)).toNat).length:Int)≤((List.replicate (IntKind.i64.wrap ((a.length:Int)+1)).toNat (0:Int)).length:Int))with|true=>(eF.k q) 30 (fK a b x1 x2 ([]) (IntKind.i64.wrap (((ac (val a*(qsc x1)).toNat).length:Int)-1)) (List.replicate (IntKind.i64.wrap ((a.length:Int)+1)).toNat (0:Int)))|false=>none)|false=>none)|false=>none)|none=>none)|false=>none))|none=>none)=some [.d (.sl (.int .u32)) (ac (val a/val b).toNat),.d (.sl (.int .u32)) (ac (val a%val b).toNat)]:=by
   rw[hw1,aB,List.getElem?_eq_getElem hbn]
   dsimp only
   rw[dF hx1w,dT hbyb,hm,hw2,aB,hg]
   dsimp only
   rw[cI (k:=a.length) (by omega),oP (n:=a.length+1) (by omega),dT hbya,aM,List.length_replicate,dT (show(0:Int)≤0∧(0:Int)≤((ac (val a*qsc b[n]).toNat).length:Int)∧((ac (val a*qsc b[n]).toNat).length:Int)≤((a.length+1:Nat):Int) from⟨by omega,by omega,by omega⟩),bk (x:=((ac (val a*qsc b[n]).toNat).length:Int)-1) (by omega) (by omega)]
   exact hq
  unfold sN
  by_cases h1:a.length≤2
  ·rw[dT (show(a.length:Int)≤2 by omega),dF (show ¬(b.length:Int)≤2 by omega)]
   exact hsub
  ·rw[dF (show ¬(a.length:Int)≤2 by omega)]
   exact hsub
def AO:aL:=spN false false [(.sl (.int .u32)),(.sl (.int .u32))] (fun x=>decide (Aw x.1 x.2.1)) (fun x=>[RV.d (.sl (.int .u32)) (ac (val x.1/val x.2.1).toNat),RV.d (.sl (.int .u32)) (ac (val x.1%val x.2.1).toNat)])
theorem MT:af Tryz.prog 187=true∧ao Tryz.prog 187 AO∧∀g,AO.mut_=some g→aK Tryz.prog 187 g:=aq (by kernel_rfl) fun x h=>Rx x.1 x.2.1 (of_decide_eq_true h)
def nP:aL:=spN false false [(.int .i64)] (fun x=>decide (bh x.1)) (fun x=>[RV.d (.st (.pair .bool (.sl (.int .u32)))) (ag x.1)])
theorem qg:af Tryz.prog 134=true∧ao Tryz.prog 134 nP∧∀g,nP.mut_=some g→aK Tryz.prog 134 g:=aq (by kernel_rfl) fun x h=>DR x.1 (of_decide_eq_true h)
def zU:aL:=spN false false [(.st (.pair .bool (.sl (.int .u32)))),(.st (.pair .bool (.sl (.int .u32))))] (fun x=>decide (okI x.1∧okI x.2.1)) (fun x=>[RV.d (.st (.pair .bool (.sl (.int .u32)))) (ag (ab x.1-ab x.2.1))])
theorem LC:af Tryz.prog 257=true∧ao Tryz.prog 257 zU∧∀g,zU.mut_=some g→aK Tryz.prog 257 g:=aq (by kernel_rfl) fun x h=>RP x.1 x.2.1 (of_decide_eq_true h)
def ny:Env:=[(185,kN),(190,mO),(189,mF),(186,kL),(249,yr),(250,oU),(187,AO),(134,nP),(257,zU),(188,nY),(212,mT)]
theorem wi:EnvAll Tryz.prog ny:=⟨jy,mE,mv,jD,B7,pD,MT,qg,LC,pq,mH,trivial⟩
noncomputable def F9:Ctx:=⟨Tryz.prog,ft,tys,ny,[]⟩
noncomputable def wU(_k:KT)(x:Bool×List Int)(y:Bool×List Int):Option (List RV):=let y1:=ac (val x.2/val y.2).toNat;let y2:=ac (val x.2%val y.2).toNat;let y3:=ag (bV (!(x.1==y.1)) (val y1));let y4:=ag (bV x.1 (val y2));let y5:Option (List RV):=match decide ((y2.length:Int)>0)with|true=>(match !(x.1==y.1)with|true=>(match decide (bh (1:Int))with|true=>(match decide (okI y3∧okI (ag (1:Int)))with|true=>(match decide (okI y4∧okI y)with|true=>dup (.b .l .l) (some [RV.d (.st (.pair .bool (.sl (.int .u32)))) (ag (ab y3-ab (ag (1:Int)))),RV.d (.st (.pair .bool (.sl (.int .u32)))) (ag (ab y4+ab y)),RV.d (.int .i64) 0])|false=>none)|false=>none)|false=>none)|false=>dup (.b .l .l) (some [RV.d (.st (.pair .bool (.sl (.int .u32)))) y3,RV.d (.st (.pair .bool (.sl (.int .u32)))) y4,RV.d (.int .i64) 0]))|false=>dup (.b .l .l) (some [RV.d (.st (.pair .bool (.sl (.int .u32)))) y3,RV.d (.st (.pair .bool (.sl (.int .u32)))) y4,RV.d (.int .i64) 0]);let y6:Option (List RV):=match decide (a8 y2)with|true=>y5|false=>none;match(y.2.length:Int)==0 with|true=>some [RV.d (.st (.pair .bool (.sl (.int .u32)))) (false,[]),RV.d (.st (.pair .bool (.sl (.int .u32)))) (false,[]),RV.d (.int .i64) 6]|false=>(match decide (Aw x.2 y.2)with|true=>cA (match decide (a8 y1)with|true=>cA (match decide (a8 y2)with|true=>dup (.b .l .l) y5|false=>none) (dup (.b (.b .l .l) (.b .l .l)) y6)|false=>none) (dup (.b .l .l) (cA (match decide (a8 y1)with|true=>dup (.b .l .l) y6|false=>none) (match decide (a8 y1)with|true=>y6|false=>none)))|false=>none)
theorem aal(x:Bool×List Int)(y:Bool×List Int){rX:List RV}(hX:∃nX,wU (F9.k nX) x y=some rX):F9.Res 214 [.d (.st (.pair .bool (.sl (.int .u32)))) x,.d (.st (.pair .bool (.sl (.int .u32)))) y] rX:=aO (t:=fun k=>wU k x y) (fun k=>show go2 Tryz.prog ft tys ny [] k 4000 (az 214 [.d (.st (.pair .bool (.sl (.int .u32)))) x,.d (.st (.pair .bool (.sl (.int .u32)))) y]) (.node 0)=wU k x y by kernel_rfl) hX
def qQ:NT:=[((103,6),{keep:=[4,5,6],pure_:=[(5,.int .u32),(6,.int .u32)],hl:=3}),((103,29),{keep:=[4,9,10],hl:=3})]
noncomputable def kF:Ctx:=⟨Tryz.prog,ft,tys,ny,qQ⟩
def ks(x:Bool×List Int)(y:Bool×List Int)(s5:List Int)(s6:List Int):Cfg:=⟨103,[.blk 0,.seq 17],[(4,.box 2 0),(5,.d (.sl (.int .u32)) s5),(6,.d (.sl (.int .u32)) s6)],[.box 33 [SB x.1,.d (.sl (.int .u32)) x.2],.box 33 [SB y.1,.d (.sl (.int .u32)) y.2],.box 33 [SB false,.nil]],0,[]⟩
def iI(x:Bool×List Int)(y:Bool×List Int)(s9:Int)(s10:Int):Cfg:=⟨103,[.blk 2,.seq 38],[(4,.box 2 0),(9,.d (.int .u64) s9),(10,.d (.int .u64) s10)],[.box 33 [SB x.1,.d (.sl (.int .u32)) x.2],.box 33 [SB y.1,.d (.sl (.int .u32)) y.2],.box 33 [SB false,.nil]],0,[]⟩
noncomputable def Fr(k:KT)(x:Bool×List Int)(y:Bool×List Int):Option (List RV):=k 6 (ks x y x.2 y.2)
theorem aaF(x:Bool×List Int)(y:Bool×List Int){rX:List RV}(hX:∃nX,Fr (kF.k nX) x y=some rX):kF.Res 103 [.d (.st (.pair .bool (.sl (.int .u32)))) x,.d (.st (.pair .bool (.sl (.int .u32)))) y] rX:=aO (t:=fun k=>Fr k x y) (fun k=>show go2 Tryz.prog ft tys ny qQ k 4000 (az 103 [.d (.st (.pair .bool (.sl (.int .u32)))) x,.d (.st (.pair .bool (.sl (.int .u32)))) y]) (.node 0)=Fr k x y by kernel_rfl) hX
noncomputable def il(k:KT)(x:Bool×List Int)(y:Bool×List Int)(s5:List Int)(s6:List Int):Option (List RV):=match decide ((s6.length:Int)>0)with|true=>(match decide ((s5.length:Int)>2)with|true=>(match decide (Aw s5 s6)with|true=>k 6 (ks x y s6 (ac (val s5%val s6).toNat))|false=>none)|false=>(match decide ((s6.length:Int)>2)with|true=>(match decide (Aw s5 s6)with|true=>k 6 (ks x y s6 (ac (val s5%val s6).toNat))|false=>none)|false=>(match(s6.length:Int)==0 with|true=>(match decide (a8 s5)with|true=>some [RV.d (.st (.pair .bool (.sl (.int .u32)))) (ag (bV false (val s5)))]|false=>none)|false=>(match decide (nt s5)with|true=>(match decide (nt s6)with|true=>k 29 (iI x y (val s5) (val s6))|false=>none)|false=>none))))|false=>(match(s6.length:Int)==0 with|true=>(match decide (a8 s5)with|true=>some [RV.d (.st (.pair .bool (.sl (.int .u32)))) (ag (bV false (val s5)))]|false=>none)|false=>(match decide (nt s5)with|true=>(match decide (nt s6)with|true=>k 29 (iI x y (val s5) (val s6))|false=>none)|false=>none))
theorem pW(x:Bool×List Int)(y:Bool×List Int)(s5:List Int)(s6:List Int){rX:List RV}(hX:∃n0,∀n,n0≤n→il (kF.k n) x y s5 s6=some rX):kF.RunsE 6 (ks x y s5 s6) rX:=Du (t:=fun k=>il k x y s5 s6) (fun k=>show go2 Tryz.prog ft tys ny qQ k 4000 {ks x y s5 s6 with K:=.lp 6::(ks x y s5 s6).K} (.node 7)=il k x y s5 s6 by kernel_rfl) hX
noncomputable def iJ(k:KT)(x:Bool×List Int)(y:Bool×List Int)(s9:Int)(s10:Int):Option (List RV):=match decide (s10>0)with|true=>(match decide (s10=(0:Int))with|true=>none|false=>k 29 (iI x y s10 (Int.tmod s9 s10)))|false=>(match decide (fe s9)with|true=>(match decide (a8 (ac s9.toNat))with|true=>some [RV.d (.st (.pair .bool (.sl (.int .u32)))) (ag (bV false (val (ac s9.toNat))))]|false=>none)|false=>none)
theorem ub(x:Bool×List Int)(y:Bool×List Int)(s9:Int)(s10:Int){rX:List RV}(hX:∃n0,∀n,n0≤n→iJ (kF.k n) x y s9 s10=some rX):kF.RunsE 29 (iI x y s9 s10) rX:=Du (t:=fun k=>iJ k x y s9 s10) (fun k=>show go2 Tryz.prog ft tys ny qQ k 4000 {iI x y s9 s10 with K:=.lp 29::(iI x y s9 s10).K} (.node 30)=iJ k x y s9 s10 by kernel_rfl) hX
theorem TG(x:Bool×List Int)(y:Bool×List Int)(h:dK x y):Con Tryz.prog 214 [.d (.st (.pair .bool (.sl (.int .u32)))) x,.d (.st (.pair .bool (.sl (.int .u32)))) y] [.d (.st (.pair .bool (.sl (.int .u32)))) (ag (ab x/ab y)),.d (.st (.pair .bool (.sl (.int .u32)))) (ag (ab x%ab y)),.d (.int .i64) 0]:=by
 refine Ctx.Res.con (C:=F9) (au wi) (aal _ _ ⟨0,?_⟩) (fn:=Tryz.f214) (by kernel_rfl) (by kernel_rfl)
 obtain⟨hx,hy,hp⟩:=h
 obtain⟨x0,x1,x2⟩:=cg hx
 obtain⟨y0,y1,y2⟩:=cg hy
 have sx:=hx.2.2
 have sy:=hy.2.2
 have ey:y.1=false:=by
  cases e:y.1
  ·rfl
  ·rw[bJ,e]at hp
   simp only[bV,cond_true]at hp
   omega
 have dy:ab y=val y.2:=by rw[bJ,ey];rfl
 rw[dy]at hp
 have hne:y.2≠[]:=fun e=>by rw[y2]at e;omega
 have hprt:Aw x.2 y.2:=⟨⟨hx.1,sx⟩,⟨hy.1,sy⟩,hne⟩
 have hylen:=List.length_pos_iff.2 hne
 have r0:=Int.emod_nonneg (val x.2) (show val y.2≠0 by omega)
 have r1:=Int.emod_lt_of_pos (val x.2) hp
 have q0:0≤val x.2/val y.2:=Int.ediv_nonneg x0 y0
 have q1:val x.2/val y.2≤val x.2:=Int.ediv_le_self _ x0
 have vx:=bQ hx.1.1
 have vy:=bQ hy.1.1
 have mx:=cM sx
 have my:=cM sy
 have szq:szI (val x.2/val y.2)≤1000000:=dW (by have:=bR 1000000;omega) (by omega)
 have szr:szI (val x.2%val y.2)≤1000000:=dW (by have:=bR 1000000;omega) (by omega)
 have lq:(ac (val x.2/val y.2).toNat).length≤1000000:=ck q0 (by omega)
 have lr:(ac (val x.2%val y.2).toNat).length≤1000000:=ck r0 (by omega)
 unfold wU
 simp only[aJ]
 rw[show((y.2.length:Int)==0)=false by simp;omega,dT hprt,dT (cp (n:=(val x.2/val y.2).toNat) (by omega)),dT (cp (n:=(val x.2%val y.2).toNat) (by omega)),dT (show bh 1 by decide),bO q0,bO r0,
  dT (show okI (ag (bV (!(x.1==y.1)) (val x.2/val y.2)))∧okI (ag (1:Int)) from⟨bj (by rw[Ah];exact szq),mf⟩),dT (show okI (ag (bV x.1 (val x.2%val y.2)))∧okI y from⟨bj (by rw[Ah];exact szr),hy⟩)]
 simp only[dec_enc,dy,am]
 rw[bJ x,ey]
 have hlen:(((ac (val x.2%val y.2).toNat).length:Int)>0)↔0<val x.2%val y.2:=by
  constructor
  ·intro hl
   rcases Int.lt_or_le 0 (val x.2%val y.2)with h|h
   ·exact h
   ·rw[show(val x.2%val y.2).toNat=0 by omega,dL]at hl
    simp at hl
  ·intro hl
   have:ac (val x.2%val y.2).toNat≠[]:=fun e=>by rw[fu]at e;omega
   have:=List.length_pos_iff.2 this
   omega
 obtain⟨n1,n2⟩:=Js (a:=val x.2) (b:=val y.2) x0 hp
 rcases Int.lt_or_le 0 (val x.2%val y.2)with hr|hr
 ·rw[dT (hlen.2 hr)]
  cases x.1
  ·rfl
  ·obtain⟨e1,e2⟩:=n2 hr
   simp only[bV,cond_true,Bool.not_false,show((true==false):Bool)=false from rfl]
   rw[e1,e2]
 ·rw[dF (fun h'=>by have:=hlen.1 h';omega)]
  dsimp only
  have e0:val x.2%val y.2=0:=by omega
  cases x.1
  ·simp only[bV,cond_false,show((false==false):Bool)=true from rfl,Bool.not_true]
  ·obtain⟨e1,e2⟩:=n1 e0
   simp only[bV,cond_true,Bool.not_false,show((true==false):Bool)=false from rfl]
   rw[e1,e2,e0]
   rfl
theorem LV(x y:BI)(B:Nat)(hB:(B:Int)<18446744073709551616):∀(v u:Nat),u≤B→v≤B→kF.RunsE 29 (iI x y (u:Int) (v:Int)) [.d (.st (.pair .bool (.sl (.int .u32)))) (ag ((Nat.gcd u v:Nat):Int))]:=by
 intro v
 induction v using Nat.strongRecOn with
 |ind v ih=>
  intro u hu hv
  rcases Nat.eq_zero_or_pos v with h0|h0
  ·refine ub _ _ _ _ ⟨0,fun n _=>?_⟩
   have hp:fe (u:Int):=⟨by omega,by omega⟩
   have hl:(ac u).length≤3:=cJ (Int.lt_of_lt_of_le (show(u:Int)<18446744073709551616 by omega) (by decide))
   unfold iJ
   rw[dF (show ¬(v:Int)>0 by omega),dT hp,Int.toNat_natCast,dT (cp (n:=u) (by omega)),bE,show Nat.gcd u v=u by rw[h0];exact Nat.gcd_zero_right u]
   rfl
  ·obtain⟨n0,hn⟩:=ih (u%v) (Nat.mod_lt _ h0) v hv (Nat.le_trans (Nat.le_of_lt (Nat.mod_lt _ h0)) hv)
   refine ub _ _ _ _ ⟨n0,fun n hn'=>?_⟩
   unfold iJ
   rw[dT (show(v:Int)>0 by omega),dF (show ¬(v:Int)=0 by omega),gJ (by omega)]
   dsimp only
   rw[show((u:Int)%(v:Int))=((u%v:Nat):Int) by simp,Nat.gcd_comm u v,Nat.gcd_rec v u,Nat.gcd_comm]
   exact hn n hn'
theorem IJ{u:Nat}(h:(ac u).length≤2):(u:Int)<1000000000000000000:=by
 have h1:=bQ (bT u)
 rw[bE]at h1
 have h2:=cM h
 have:pw 2=1000000000000000000:=by decide
 omega
theorem Mt(x y:BI):∀(v u:Nat),(ac u).length≤1000000→(ac v).length≤1000000→
  kF.RunsE 6 (ks x y (ac u) (ac v)) [.d (.st (.pair .bool (.sl (.int .u32)))) (ag ((Nat.gcd u v:Nat):Int))]:=by
 intro v
 induction v using Nat.strongRecOn with
 |ind v ih=>
  intro u hu hv
  rcases Nat.eq_zero_or_pos v with h0|h0
  ·refine pW _ _ _ _ ⟨0,fun n _=>?_⟩
   unfold il
   rw[h0,Nat.gcd_zero_right,dF (show ¬((ac 0).length:Int)>0 by decide),show(((ac 0).length:Int)==0)=true by decide]
   dsimp only
   rw[dT (cp (n:=u) (by omega)),bE]
   rfl
  ·have hne:ac v≠[]:=fun e=>by rw[fu]at e;omega
   have hl:=List.length_pos_iff.2 hne
   have hm:=Nat.mod_lt u h0
   have hms:(ac (u%v)).length≤1000000:=cJ (by
    have:=bQ (bT v)
    rw[bE]at this
    have:=cM hv
    omega)
   have hz:(((ac v).length:Int)==0)=false:=by simp;omega
   have hprt:Aw (ac u) (ac v):=⟨⟨db _,hu⟩,⟨db _,hv⟩,hne⟩
   have hmod:(val (ac u)%val (ac v)).toNat=u%v:=by rw[bE,bE];omega
   by_cases hsm:(ac u).length≤2∧(ac v).length≤2
   ·have lu:=IJ hsm.1
    have lv:=IJ hsm.2
    obtain⟨n0,hn⟩:=LV x y 1000000000000000000 (by decide) v u (by omega) (by omega)
    refine pW _ _ _ _ ⟨n0,fun n hn'=>?_⟩
    unfold il
    rw[dT (show((ac v).length:Int)>0 by omega),dF (show ¬((ac u).length:Int)>2 by omega),dF (show ¬((ac v).length:Int)>2 by omega),hz,dT (show nt (ac u) from⟨cp (by omega),by rw[bE];omega⟩),dT (show nt (ac v) from⟨cp (by omega),by rw[bE];omega⟩),bE,bE]
    exact hn n hn'
   ·obtain⟨n0,hn⟩:=ih (u%v) hm v hv hms
    refine pW _ _ _ _ ⟨n0,fun n hn'=>?_⟩
    have:=hn n hn'
    rw[show Nat.gcd v (u%v)=Nat.gcd u v by rw[Nat.gcd_comm u v,Nat.gcd_rec v u,Nat.gcd_comm]]at this
    unfold il
    rw[dT (show((ac v).length:Int)>0 by omega),dT hprt,hmod]
    by_cases h2:(ac u).length≤2
    ·rw[dF (show ¬((ac u).length:Int)>2 by omega),dT (show((ac v).length:Int)>2 by omega)]
     exact this
    ·rw[dT (show((ac u).length:Int)>2 by omega)]
     exact this
theorem Cz(x:Bool×List Int)(y:Bool×List Int)(h:okI x∧okI y):Con Tryz.prog 103 [.d (.st (.pair .bool (.sl (.int .u32)))) x,.d (.st (.pair .bool (.sl (.int .u32)))) y] [.d (.st (.pair .bool (.sl (.int .u32)))) (ag ((Int.gcd (ab x) (ab y):Nat):Int))]:=by
 refine Ctx.Res.con (C:=kF) (au wi) ?_ (fn:=Tryz.f103) (by kernel_rfl) (by kernel_rfl)
 obtain⟨hx,hy⟩:=h
 obtain⟨x0,_,_⟩:=cg hx
 obtain⟨y0,_,_⟩:=cg hy
 have ex:((ab x).natAbs:Int)=val x.2:=by rw[bJ];unfold bV;cases x.1<;>simp<;>omega
 have ey:((ab y).natAbs:Int)=val y.2:=by rw[bJ];unfold bV;cases y.1<;>simp<;>omega
 have cx:=lU hx.1
 have cy:=lU hy.1
 rw[show(val x.2).toNat=(ab x).natAbs by omega]at cx
 rw[show(val y.2).toNat=(ab y).natAbs by omega]at cy
 obtain⟨n1,h1⟩:=Mt x y (ab y).natAbs (ab x).natAbs (by rw[←cx];exact hx.2.2) (by rw[←cy];exact hy.2.2)
 rw[←cx,←cy]at h1
 exact aaF _ _ ⟨n1,h1 n1 (Nat.le_refl _)⟩
end Go.Proofs.YtlahabkjhgkkjaaGreat
namespace Go.Proofs.YtlahabkjhgkkjaaGreat
abbrev tI:Ty:=.st (.pair .bool (.sl (.int .u32)))
abbrev tR:Ty:=.st (.pair tI tI)
abbrev tV:Ty:=.st (.pair tR tR)
abbrev tO:Ty:=.st (.pair tR (.pair tR tR))
abbrev tP:Ty:=.st (.pair tR (.pair tR (.pair tR (.pair tR tR))))
abbrev tQ:Ty:=.st (.pair tR (.pair tR (.pair tR (.pair tR (.pair tR tR)))))
abbrev tG:Ty:=.st (.pair (.int .i64) (.int .i64))
abbrev BV:=BR×BR
abbrev BO3:=BR×BR×BR
abbrev BP:=BR×BR×BR×BR×BR
abbrev BQ:=BR×BR×BR×BR×BR×BR
noncomputable def hid{α:Type}(x:α):α:=Classical.choose (⟨x,rfl⟩:∃y,y=x)
theorem aj{α:Type}(x:α):hid x=x:=Classical.choose_spec (⟨x,rfl⟩:∃y,y=x)
class Cod (α:Type) (A:outParam Type) where
 enc:α→A
 dec:A→α
 bd:Nat→α→Prop
 ok:Nat→A→Prop
 okD:∀k x,Decidable (ok k x)
 mono:∀j k x,j≤k→bd j x→bd k x
 dec_enc:∀x,dec (enc x)=x
 ok_enc:∀k x,k≤480000→bd k x→ok k (enc x)
 ok_dec:∀k x,ok k x→x=enc (dec x)∧bd k (dec x)
def enc{α A:Type}[Cod α A](x:α):A:=Cod.enc x
def dec{α A:Type}[Cod α A](x:A):α:=Cod.dec x
def ok(α:Type){A:Type}[Cod α A](k:Nat)(x:A):Prop:=Cod.ok (α:=α) k x
instance (α A:Type) [Cod α A] (k:Nat) (x:A):Decidable (ok α k x):=Cod.okD k x
theorem ak{α A:Type}[Cod α A](x:α):dec (enc x)=x:=Cod.dec_enc x
class Bd {α A:Type} [Cod α A] (x:α) (k:outParam Nat):Prop where le:Cod.bd k x
theorem aS{α A:Type}[Cod α A]{k:Nat}{x:A}(h:ok α k x):∃v:α,x=enc v∧Bd v k:=⟨_,(Cod.ok_dec k x h).1,⟨(Cod.ok_dec k x h).2⟩⟩
theorem okd{α A:Type}[Cod α A]{x:α}{j k:Nat}[h:Bd x j](hj:j≤k)(hk:k≤480000):decide (ok α k (enc x))=true:=
 decide_eq_true (Cod.ok_enc k x hk (Cod.mono j k x hj h.le))
instance afC:Cod Rat BR where
 enc:=ae
 dec:=aa
 bd:=bdR
 ok k x:=okR x∧x.1.2.length≤k∧x.2.2.length≤k
 okD _ _:=instDecidableAnd
 mono _ _ _ hk h:=bI h hk
 dec_enc:=aw
 ok_enc k _ hk h:=⟨mS h hk,h.1,h.2⟩
 ok_dec k x h:=by
  obtain⟨h1,h2,h3⟩:=h
  refine⟨Ti h1,?_⟩
  obtain⟨e1,e2⟩:=cr h1
  unfold bdR szI
  rw[e1,e2]
  rw[fA h1.1]at h2
  rw[fA h1.2.1]at h3
  exact⟨h2,h3⟩
instance afO:Cod Int Int where
 enc x:=x
 dec x:=x
 bd _ x:=bh x
 ok _ x:=bh x
 okD _ _:=inferInstance
 mono _ _ _ _ h:=h
 dec_enc _:=rfl
 ok_enc _ _ _ h:=h
 ok_dec _ _ h:=⟨rfl,h⟩
instance ae2:Cod Bool Bool where
 enc x:=x
 dec x:=x
 bd _ _:=True
 ok _ _:=True
 okD _ _:=inferInstance
 mono _ _ _ _ h:=h
 dec_enc _:=rfl
 ok_enc _ _ _ h:=h
 ok_dec _ _ h:=⟨rfl,h⟩
instance afa (α β A B:Type) [Cod α A] [Cod β B]:Cod (α×β) (A×B) where
 enc x:=(enc x.1,enc x.2)
 dec x:=(dec x.1,dec x.2)
 bd k x:=Cod.bd k x.1∧Cod.bd k x.2
 ok k x:=ok α k x.1∧ok β k x.2
 okD _ _:=instDecidableAnd
 mono _ _ _ hk h:=⟨Cod.mono _ _ _ hk h.1,Cod.mono _ _ _ hk h.2⟩
 dec_enc x:=by rw[ak,ak]
 ok_enc k _ hk h:=⟨Cod.ok_enc _ _ hk h.1,Cod.ok_enc _ _ hk h.2⟩
 ok_dec k x h:=⟨Prod.ext (Cod.ok_dec k x.1 h.1).1 (Cod.ok_dec k x.2 h.2).1,(Cod.ok_dec k x.1 h.1).2,(Cod.ok_dec k x.2 h.2).2⟩
theorem nr{α:Type}{a b:α}(h:a=b):a=b:=h
theorem aF{α β A B:Type}[Cod α A][Cod β B](x:α×β):(enc x).1=enc x.1:=nr rfl
theorem aG{α β A B:Type}[Cod α A][Cod β B](x:α×β):(enc x).2=enc x.2:=nr rfl
theorem aR{α β A B:Type}[Cod α A][Cod β B](x:α)(y:β):enc (x,y)=(enc x,enc y):=nr rfl
theorem aD(q:Rat):enc q=ae q:=nr rfl
theorem aH(x:BR):dec x=aa x:=nr rfl
theorem aI(q:Int):enc q=q:=nr rfl
theorem aA(q:Bool):enc q=q:=nr rfl
theorem aX{q:Rat}{j:Nat}[h:Bd q j](hj:j≤480000):decide (okR (ae q))=true:=decide_eq_true (mS h.le hj)
def mx(j k:Nat):Nat:=bif decide (j≤k)then k else j
theorem Ds(j k:Nat):j≤mx j k:=by
 unfold mx
 by_cases h:j≤k
 ·rw[decide_eq_true h];exact h
 ·rw[decide_eq_false h];exact Nat.le_refl _
theorem Db(j k:Nat):k≤mx j k:=by
 unfold mx
 by_cases h:j≤k
 ·rw[decide_eq_true h];exact Nat.le_refl _
 ·rw[decide_eq_false h];show k≤j;omega
theorem aC{q:Rat}{j k:Nat}[h:Bd q j](hj:j≤k)(hk:k≤480000):decide (ok Rat k (ae q))=true:=okd (x:=q) hj hk
section
variable {α β A B:Type} [Cod α A] [Cod β B]
instance afA {x:α×β} {k:Nat} [h:Bd x k]:Bd x.1 k:=⟨h.le.1⟩
instance afM {x:α×β} {k:Nat} [h:Bd x k]:Bd x.2 k:=⟨h.le.2⟩
instance afW {x:α} {y:β} {j k:Nat} [h:Bd x j] [h':Bd y k]:Bd (x,y) (mx j k):=⟨Cod.mono _ _ _ (Ds _ _) h.le,Cod.mono _ _ _ (Db _ _) h'.le⟩
instance ae6 {b:Bool} {x y:α} {j k:Nat} [h:Bd x j] [h':Bd y k]:Bd (bif b then x else y) (mx j k):=by
 refine⟨?_⟩
 cases b
 ·exact Cod.mono _ _ _ (Db _ _) h'.le
 ·exact Cod.mono _ _ _ (Ds _ _) h.le
theorem Bd.mono{x:α}{j k:Nat}(h:Bd x j)(hk:j≤k):Bd x k:=⟨Cod.mono _ _ _ hk h.le⟩
end
section
variable {a b:Rat} {j k:Nat}
instance afB [h:Bd a j] [h':Bd b k]:Bd (a+b) (j+k+1):=⟨xV h.le h'.le⟩
instance afx [h:Bd a j] [h':Bd b k]:Bd (a-b) (j+k+1):=⟨Yx h.le h'.le⟩
instance afd [h:Bd a j] [h':Bd b k]:Bd (a*b) (j+k):=⟨xJ h.le h'.le⟩
instance afe [h:Bd a j]:Bd (-a) j:=⟨rz h.le⟩
theorem ng(h:bdR k b):1≤k:=by
 have h1:=h.2
 have h2:=ER (b.den:Int)
 have h3:=b.den_pos
 rcases Nat.eq_zero_or_pos k with e|e
 ·subst e
  have:szI (b.den:Int)=0:=by omega
  rw[this]at h2
  have:pw 0=1:=rfl
  omega
 ·exact e
instance afo [h:Bd a j] [h':Bd b k]:Bd (a/b) (j+k):=by
 refine⟨?_⟩
 by_cases h0:b=0
 ·subst h0
  rw[Rat.div_def,Rat.inv_zero,Rat.mul_zero]
  have:=ng h'.le
  exact bI (j:=1) ⟨by decide+kernel,by decide+kernel⟩ (by omega)
 ·exact V9 h.le h'.le h0
end
theorem lY{n:Int}(h:bh n):Bd (n:Rat) 3:=by
 refine⟨?_⟩
 show bdR 3 (n:Rat)
 refine⟨?_,?_⟩
 ·rw[Rat.num_intCast]
  have:pw 3=1000000000000000000000000000:=by decide
  exact dW (by have:=h.1;omega) (by have:=h.2;omega)
 ·rw[Rat.den_intCast]
  exact dW (by decide) (by decide)
instance me:Bd (0:Rat) 1:=⟨⟨by decide+kernel,by decide+kernel⟩⟩
instance afF:Bd (1:Rat) 1:=⟨⟨by decide+kernel,by decide+kernel⟩⟩
instance afm:Bd (2:Rat) 1:=⟨⟨by decide+kernel,by decide+kernel⟩⟩
theorem dD{x:BR}(h:okR x):∃q:Rat,x=ae q∧Bd q 480000:=⟨aa x,Ti h,⟨zd h⟩⟩
def aU(a b:Rat×Rat):Rat×Rat:=(b.1-a.1,b.2-a.2)
def cf(a b:Rat×Rat):Rat:=a.1*b.1+a.2*b.2
def dJ(a b:Rat×Rat):Rat:=a.1*b.2-a.2*b.1
instance afJ {a b:Rat×Rat} {j k:Nat} [Bd a j] [Bd b k]:Bd (aU a b) (k+j+1):=
 ⟨(inferInstance:Bd (b.1-a.1) (k+j+1)).le,(inferInstance:Bd (b.2-a.2) (k+j+1)).le⟩
instance aff {a b:Rat×Rat} {j k:Nat} [Bd a j] [Bd b k]:Bd (cf a b) ((j+k)+(j+k)+1):=inferInstanceAs (Bd (a.1*b.1+a.2*b.2) _)
instance afv {a b:Rat×Rat} {j k:Nat} [Bd a j] [Bd b k]:Bd (dJ a b) ((j+k)+(j+k)+1):=inferInstanceAs (Bd (a.1*b.2-a.2*b.1) _)
end Go.Proofs.YtlahabkjhgkkjaaGreat
