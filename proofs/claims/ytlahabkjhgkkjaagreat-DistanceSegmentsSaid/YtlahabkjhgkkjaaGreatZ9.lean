/- integer: Sign, Cmp, Add, Sub, Neg, Mul, DivMod. -/
import Derived.Test.YtlahabkjhgkkjaaGreatZ8
namespace Go.Proofs.YtlahabkjhgkkjaaGreat
open Go.RowKit
abbrev BI:=Bool×List Int
def okI(x:BI):Prop:=can x.2∧(x.1=true→x.2≠[])∧x.2.length≤1000000
instance (x:BI):Decidable (okI x):=by unfold okI;infer_instance
theorem bJ(x:BI):ab x=bV x.1 (val x.2):=rfl
theorem fA{x:BI}(h:okI x):x=ag (ab x):=by
 obtain⟨h1,h2,h3⟩:=h
 have h0:=aY h1.1
 rw[bJ,jT _ h0,←lU h1]
 refine Prod.ext ?_ rfl
 show x.1=(x.1&&decide (0<val x.2))
 cases hx:x.1
 ·rfl
 ·rw[decide_eq_true (dp h1 (h2 hx))];rfl
def szI(z:Int):Nat:=(ac z.natAbs).length
theorem bj{z:Int}(h:szI z≤1000000):okI (ag z):=by
 refine⟨db _,fun e=>?_,h⟩
 unfold ag at e ⊢
 simp only[decide_eq_true_eq]at e
 intro e'
 rw[fu]at e'
 omega
theorem dW{z:Int}{k:Nat}(h1: -pw k<z)(h2:z<pw k):szI z≤k:=cJ (by omega)
theorem ER(z:Int): -pw (szI z)<z∧z<pw (szI z):=by
 have h:=bQ (bT z.natAbs)
 rw[bE]at h
 unfold szI
 omega
theorem kv{z:Int}{k:Nat}(h:szI z≤k): -pw k<z∧z<pw k:=by
 have h1:=ER z
 have h2:=cM h
 omega
theorem gv(z:Int):szI (-z)=szI z:=by unfold szI;rw[Int.natAbs_neg]
theorem qY{a b:Int}{k:Nat}(h1:szI a≤k)(h2:szI b≤k):szI (a+b)≤k+1:=by
 have e1:=kv h1
 have e2:=kv h2
 have hp:=bR k
 exact dW (by rw[bZ];omega) (by rw[bZ];omega)
theorem cD{a b:Int}{j k:Nat}(h1:szI a≤j)(h2:szI b≤k):szI (a*b)≤j+k:=by
 have e1:=kv h1
 have e2:=kv h2
 have h:(a*b).natAbs<(pw (j+k)).toNat:=by
  rw[Int.natAbs_mul,dV]
  have p1:=bR j
  have p2:=bR k
  have:(pw j*pw k).toNat=(pw j).toNat*(pw k).toNat:=Int.toNat_mul (by omega) (by omega)
  rw[this]
  exact Nat.mul_lt_mul'' (by omega) (by omega)
 have hp:=bR (j+k)
 exact dW (by omega) (by omega)
theorem cS{a b:Int}(h:a.natAbs≤b.natAbs):szI a≤szI b:=by
 have:=ER b
 exact dW (by omega) (by omega)
theorem ge{x:BI}(h:okI x):szI (ab x)≤1000000:=by
 have:=fA h
 have h3:=h.2.2
 unfold szI
 rw[this]at h3
 exact h3
theorem eB{x:BI}(h:okI x):a8 x.2:=⟨h.1.1,by have:=h.2.2;omega⟩
theorem cg{x:BI}(h:okI x):0≤val x.2∧(x.1=true→0<val x.2)∧(x.2=[]↔val x.2=0):=by
 refine⟨aY h.1.1,fun e=>dp h.1 (h.2.1 e),⟨fun e=>by rw[e];rfl,fun e=>?_⟩⟩
 rcases List.eq_nil_or_concat x.2 with h'|⟨l,y,h'⟩
 ·exact h'
 ·have:=dp h.1 (by rw[h'];simp)
  omega
def kA:aL:=spN false false [(.int .i64)] (fun x=>decide (bh x.1)) (fun x=>[RV.d (.st (.pair .bool (.sl (.int .u32)))) (ag x.1)])
theorem iG:af Tryz.prog 160=true∧ao Tryz.prog 160 kA∧∀g,kA.mut_=some g→aK Tryz.prog 160 g:=aq (by kernel_rfl) fun x h=>Jt x.1 (of_decide_eq_true h)
noncomputable def dvQ(a b:List Int):List Int:=if h:lN a b then Classical.choose (A5 a b h)else []
noncomputable def dvR(a b:List Int):List Int:=if h:lN a b then Classical.choose (Classical.choose_spec (A5 a b h))else []
theorem ZC{a b:List Int}(h:lN a b):acS a b (dvQ a b) (dvR a b):=by
 unfold dvQ dvR
 rw[dif_pos h,dif_pos h]
 exact(Classical.choose_spec (Classical.choose_spec (A5 a b h))).1
theorem X5(a b:List Int)(h:lN a b):Con Tryz.prog 286 [.d (.sl (.int .u32)) a,.d (.sl (.int .u32)) b] [.d (.sl (.int .u32)) (dvQ a b),.d (.sl (.int .u32)) (dvR a b)]:=by
 unfold dvQ dvR
 rw[dif_pos h,dif_pos h]
 exact(Classical.choose_spec (Classical.choose_spec (A5 a b h))).2
noncomputable def yU:aL:=spN false false [(.sl (.int .u32)),(.sl (.int .u32))] (fun x=>decide (lN x.1 x.2.1)) (fun x=>[RV.d (.sl (.int .u32)) (dvQ x.1 x.2.1),RV.d (.sl (.int .u32)) (dvR x.1 x.2.1)])
theorem Bw:af Tryz.prog 286=true∧ao Tryz.prog 286 yU∧∀g,yU.mut_=some g→aK Tryz.prog 286 g:=aq (by kernel_rfl) fun x h=>X5 x.1 x.2.1 (of_decide_eq_true h)
noncomputable def gP:Env:=[(226,qj),(227,un),(263,AG),(264,yc),(248,yk),(247,A6),(160,kA),(286,yU)]
theorem ic:EnvAll Tryz.prog gP:=⟨ou,tJ,CQ,BY,Dg,DK,iG,Bw,trivial⟩
noncomputable def OB:Ctx:=⟨Tryz.prog,ft,tys,gP,[]⟩
def In(_k:KT)(x:Bool×List Int)(y:Bool×List Int):Option (List RV):=match !(x.1==y.1)with|true=>(match x.1 with|true=>some [RV.d (.int .i64) (-1)]|false=>some [RV.d (.int .i64) 1])|false=>(match x.1 with|true=>(match decide (a8 y.2∧a8 x.2)with|true=>some [RV.d (.int .i64) (b8 (val y.2) (val x.2))]|false=>none)|false=>(match decide (a8 x.2∧a8 y.2)with|true=>some [RV.d (.int .i64) (b8 (val x.2) (val y.2))]|false=>none))
theorem adQ(x:Bool×List Int)(y:Bool×List Int){rX:List RV}(hX:∃nX,In (OB.k nX) x y=some rX):OB.Res 183 [.d (.st (.pair .bool (.sl (.int .u32)))) x,.d (.st (.pair .bool (.sl (.int .u32)))) y] rX:=aO (t:=fun k=>In k x y) (fun k=>show go2 Tryz.prog ft tys gP [] k 4000 (az 183 [.d (.st (.pair .bool (.sl (.int .u32)))) x,.d (.st (.pair .bool (.sl (.int .u32)))) y]) (.node 0)=In k x y by kernel_rfl) hX
noncomputable def PO:Ctx:=⟨Tryz.prog,ft,tys,gP,[]⟩
def Lq(_k:KT)(x:Bool×List Int)(y:Bool×List Int):Option (List RV):=match x.1==y.1 with|true=>(match decide (a8 x.2∧a8 y.2)with|true=>(match decide (a8 (dig (max x.2.length y.2.length+1) (val x.2+val y.2)))with|true=>some [RV.d (.st (.pair .bool (.sl (.int .u32)))) (ag (bV x.1 (val (dig (max x.2.length y.2.length+1) (val x.2+val y.2)))))]|false=>none)|false=>none)|false=>(match decide (a8 x.2∧a8 y.2)with|true=>(match decide ((b8 (val x.2) (val y.2))<0)with|true=>(match decide (kK y.2 x.2)with|true=>(match decide (a8 (dig y.2.length (val y.2-val x.2)))with|true=>some [RV.d (.st (.pair .bool (.sl (.int .u32)))) (ag (bV y.1 (val (dig y.2.length (val y.2-val x.2)))))]|false=>none)|false=>none)|false=>(match decide (kK x.2 y.2)with|true=>(match decide (a8 (dig x.2.length (val x.2-val y.2)))with|true=>some [RV.d (.st (.pair .bool (.sl (.int .u32)))) (ag (bV x.1 (val (dig x.2.length (val x.2-val y.2)))))]|false=>none)|false=>none))|false=>none)
theorem aeW(x:Bool×List Int)(y:Bool×List Int){rX:List RV}(hX:∃nX,Lq (PO.k nX) x y=some rX):PO.Res 222 [.d (.st (.pair .bool (.sl (.int .u32)))) x,.d (.st (.pair .bool (.sl (.int .u32)))) y] rX:=aO (t:=fun k=>Lq k x y) (fun k=>show go2 Tryz.prog ft tys gP [] k 4000 (az 222 [.d (.st (.pair .bool (.sl (.int .u32)))) x,.d (.st (.pair .bool (.sl (.int .u32)))) y]) (.node 0)=Lq k x y by kernel_rfl) hX
noncomputable def Sc:Ctx:=⟨Tryz.prog,ft,tys,gP,[]⟩
def JZ(_k:KT)(x:Bool×List Int)(y:Bool×List Int):Option (List RV):=match decide (a8 x.2∧a8 y.2)with|true=>(match decide (a8 (dig (x.2.length+y.2.length) (val x.2*val y.2)))with|true=>some [RV.d (.st (.pair .bool (.sl (.int .u32)))) (ag (bV (!(x.1==y.1)) (val (dig (x.2.length+y.2.length) (val x.2*val y.2)))))]|false=>none)|false=>none
theorem ad0(x:Bool×List Int)(y:Bool×List Int){rX:List RV}(hX:∃nX,JZ (Sc.k nX) x y=some rX):Sc.Res 184 [.d (.st (.pair .bool (.sl (.int .u32)))) x,.d (.st (.pair .bool (.sl (.int .u32)))) y] rX:=aO (t:=fun k=>JZ k x y) (fun k=>show go2 Tryz.prog ft tys gP [] k 4000 (az 184 [.d (.st (.pair .bool (.sl (.int .u32)))) x,.d (.st (.pair .bool (.sl (.int .u32)))) y]) (.node 0)=JZ k x y by kernel_rfl) hX
noncomputable def Sd:Ctx:=⟨Tryz.prog,ft,tys,gP,[]⟩
def KA(_k:KT)(x:Bool×List Int):Option (List RV):=match decide (x.2.length*4≤140737488355328∧x.2.length≤140737488355328)with|true=>(match decide (a8 x.2)with|true=>some [RV.d (.st (.pair .bool (.sl (.int .u32)))) (ag (bV (!x.1) (val x.2)))]|false=>none)|false=>none
theorem adO(x:Bool×List Int){rX:List RV}(hX:∃nX,KA (Sd.k nX) x=some rX):Sd.Res 254 [.d (.st (.pair .bool (.sl (.int .u32)))) x] rX:=aO (t:=fun k=>KA k x) (fun k=>show go2 Tryz.prog ft tys gP [] k 4000 (az 254 [.d (.st (.pair .bool (.sl (.int .u32)))) x]) (.node 0)=KA k x by kernel_rfl) hX
noncomputable def NW:Ctx:=⟨Tryz.prog,ft,tys,gP,[]⟩
def JC(_k:KT)(x:Bool×List Int):Option (List RV):=match x.1 with|true=>some [RV.d (.int .i64) (-1)]|false=>(match decide ((x.2.length:Int)>0)with|true=>some [RV.d (.int .i64) 1]|false=>some [RV.d (.int .i64) 0])
theorem ads(x:Bool×List Int){rX:List RV}(hX:∃nX,JC (NW.k nX) x=some rX):NW.Res 168 [.d (.st (.pair .bool (.sl (.int .u32)))) x] rX:=aO (t:=fun k=>JC k x) (fun k=>show go2 Tryz.prog ft tys gP [] k 4000 (az 168 [.d (.st (.pair .bool (.sl (.int .u32)))) x]) (.node 0)=JC k x by kernel_rfl) hX
theorem Zh(x:BI)(h:okI x):Con Tryz.prog 168 [.d (.st (.pair .bool (.sl (.int .u32)))) x] [.d (.int .i64) (b8 (ab x) 0)]:=by
 refine Ctx.Res.con (C:=NW) (au ic) (ads _ ⟨0,?_⟩) (fn:=Tryz.f168) (by kernel_rfl) (by kernel_rfl)
 obtain⟨h0,h1,h2⟩:=cg h
 unfold JC
 rw[bJ]
 unfold bV
 cases hx:x.1
 ·simp only[cond_false]
  rcases Int.lt_or_le 0 (val x.2)with hc|hc
  ·have:x.2≠[]:=fun e=>by rw[h2]at e;omega
   have:=List.length_pos_iff.2 this
   rw[decide_eq_true (by omega),cz hc]
  ·have e:x.2=[]:=h2.2 (by omega)
   rw[e]
   rfl
 ·simp only[cond_true]
  rw[cF (by have:=h1 hx;omega)]
theorem Ij{a b:Int}(_ha:0≤a)(_hb:0≤b):b8 (-a) (-b)=b8 b a:=by
 rcases Int.lt_trichotomy a b with h|h|h
 ·rw[cz (by omega),cz h]
 ·rw[h,cV,cV]
 ·rw[cF (by omega),cF h]
theorem Iq(x y:BI)(h:okI x∧okI y):Con Tryz.prog 183 [.d (.st (.pair .bool (.sl (.int .u32)))) x,.d (.st (.pair .bool (.sl (.int .u32)))) y] [.d (.int .i64) (b8 (ab x) (ab y))]:=by
 refine Ctx.Res.con (C:=OB) (au ic) (adQ _ _ ⟨0,?_⟩) (fn:=Tryz.f183) (by kernel_rfl) (by kernel_rfl)
 obtain⟨hx,hy⟩:=h
 obtain⟨x0,x1,x2⟩:=cg hx
 obtain⟨y0,y1,y2⟩:=cg hy
 have lx:=eB hx
 have ly:=eB hy
 unfold In
 rw[bJ,bJ,decide_eq_true (show a8 x.2∧a8 y.2 from⟨lx,ly⟩),decide_eq_true (show a8 y.2∧a8 x.2 from⟨ly,lx⟩)]
 unfold bV
 cases ex:x.1<;>cases ey:y.1<;>simp only[cond_true,cond_false]
 ·rfl
 ·have:=y1 ey
  rw[cz (a:=val x.2) (b:= -val y.2) (by omega)]
  rfl
 ·have:=x1 ex
  rw[cF (a:= -val x.2) (b:=val y.2) (by omega)]
  rfl
 ·rw[Ij x0 y0]
  rfl
theorem TO{a b:List Int}(ha:Lim a)(hb:Lim b):val (dig (max a.length b.length+1) (val a+val b))=val a+val b:=by
 have h1:=bQ ha
 have h2:=bQ hb
 have h3:=aY ha
 have h4:=aY hb
 have h5:=cM (Nat.le_max_left a.length b.length)
 have h6:=cM (Nat.le_max_right a.length b.length)
 have:=bR (max a.length b.length)
 exact fx _ _ (by omega) (by rw[bZ];omega)
theorem wA{a b:List Int}(ha:Lim a)(hb:Lim b)(hle:val b≤val a):val (dig a.length (val a-val b))=val a-val b:=by
 have h1:=bQ ha
 have h4:=aY hb
 exact fx _ _ (by omega) (by omega)
theorem M9{a b:List Int}(ha:Lim a)(hb:Lim b):val (dig (a.length+b.length) (val a*val b))=val a*val b:=by
 have h1:=bQ ha
 have h2:=bQ hb
 have h3:=aY ha
 have h4:=aY hb
 refine fx _ _ (Int.mul_nonneg h3 h4) ?_
 rw[dV]
 have e1:=Int.mul_le_mul_of_nonneg_right (Int.le_of_lt h1) h4
 have e2:=Int.mul_lt_mul_of_pos_left h2 (bR a.length)
 omega
theorem Xf(x y:BI)(h:okI x∧okI y):Con Tryz.prog 222 [.d (.st (.pair .bool (.sl (.int .u32)))) x,.d (.st (.pair .bool (.sl (.int .u32)))) y] [.d (.st (.pair .bool (.sl (.int .u32)))) (ag (ab x+ab y))]:=by
 refine Ctx.Res.con (C:=PO) (au ic) (aeW _ _ ⟨0,?_⟩) (fn:=Tryz.f222) (by kernel_rfl) (by kernel_rfl)
 obtain⟨hx,hy⟩:=h
 obtain⟨x0,x1,x2⟩:=cg hx
 obtain⟨y0,y1,y2⟩:=cg hy
 have lx:=eB hx
 have ly:=eB hy
 have sx:=hx.2.2
 have sy:=hy.2.2
 unfold Lq
 rw[bJ,bJ,decide_eq_true (show a8 x.2∧a8 y.2 from⟨lx,ly⟩),decide_eq_true (show a8 (dig (max x.2.length y.2.length+1) (val x.2+val y.2)) from gI (by omega) _),TO lx.1 ly.1,decide_eq_true (show a8 (dig x.2.length (val x.2-val y.2)) from gI (by omega) _),decide_eq_true (show a8 (dig y.2.length (val y.2-val x.2)) from gI (by omega) _)]
 cases hs:x.1==y.1
 ·dsimp only
  rcases Int.lt_or_le (val x.2) (val y.2)with hc|hc
  ·rw[cF hc,decide_eq_true (show(-1:Int)<0 by decide),decide_eq_true (show kK y.2 x.2 from⟨ly,lx,by omega⟩),wA ly.1 lx.1 (by omega)]
   dsimp only
   unfold bV
   cases ex:x.1<;>cases ey:y.1<;>simp_all<;>congr 2<;>omega
  ·have hcm:decide (b8 (val x.2) (val y.2)<0)=false:=by
    rcases Int.lt_or_le (val y.2) (val x.2)with h|h
    ·rw[cz h];rfl
    ·rw[show val x.2=val y.2 by omega,cV];rfl
   rw[hcm,decide_eq_true (show kK x.2 y.2 from⟨lx,ly,hc⟩),wA lx.1 ly.1 hc]
   dsimp only
   unfold bV
   cases ex:x.1<;>cases ey:y.1<;>simp_all<;>congr 2<;>omega
 ·dsimp only
  have e:=beq_iff_eq.1 hs
  rw[←e]
  unfold bV
  cases x.1
  ·rfl
  ·simp only[cond_true]
   rw[show-(val x.2+val y.2)= -val x.2+ -val y.2 by omega]
theorem Ky(x:BI)(h:okI x):Con Tryz.prog 254 [.d (.st (.pair .bool (.sl (.int .u32)))) x] [.d (.st (.pair .bool (.sl (.int .u32)))) (ag (-ab x))]:=by
 refine Ctx.Res.con (C:=Sd) (au ic) (adO _ ⟨0,?_⟩) (fn:=Tryz.f254) (by kernel_rfl) (by kernel_rfl)
 have sx:=h.2.2
 unfold KA
 rw[bJ,decide_eq_true (show x.2.length*4≤140737488355328∧x.2.length≤140737488355328 by omega),decide_eq_true (eB h)]
 unfold bV
 cases x.1<;>simp
theorem K6(x y:BI)(h:okI x∧okI y):Con Tryz.prog 184 [.d (.st (.pair .bool (.sl (.int .u32)))) x,.d (.st (.pair .bool (.sl (.int .u32)))) y] [.d (.st (.pair .bool (.sl (.int .u32)))) (ag (ab x*ab y))]:=by
 refine Ctx.Res.con (C:=Sc) (au ic) (ad0 _ _ ⟨0,?_⟩) (fn:=Tryz.f184) (by kernel_rfl) (by kernel_rfl)
 obtain⟨hx,hy⟩:=h
 have lx:=eB hx
 have ly:=eB hy
 have sx:=hx.2.2
 have sy:=hy.2.2
 unfold JZ
 rw[bJ,bJ,decide_eq_true (show a8 x.2∧a8 y.2 from⟨lx,ly⟩),decide_eq_true (show a8 (dig (x.2.length+y.2.length) (val x.2*val y.2)) from gI (by omega) _),M9 lx.1 ly.1]
 unfold bV
 cases x.1<;>cases y.1<;>simp[Int.neg_mul,Int.mul_neg]
def kx:aL:=spN false false [(.st (.pair .bool (.sl (.int .u32)))),(.st (.pair .bool (.sl (.int .u32))))] (fun x=>decide (okI x.1∧okI x.2.1)) (fun x=>[RV.d (.st (.pair .bool (.sl (.int .u32)))) (ag (ab x.1+ab x.2.1))])
theorem io:af Tryz.prog 222=true∧ao Tryz.prog 222 kx∧∀g,kx.mut_=some g→aK Tryz.prog 222 g:=aq (by kernel_rfl) fun x h=>Xf x.1 x.2.1 (of_decide_eq_true h)
noncomputable def AY:Env:=(222,kx)::gP
theorem vf:EnvAll Tryz.prog AY:=⟨io,ic⟩
noncomputable def Tv:Ctx:=⟨Tryz.prog,ft,tys,AY,[]⟩
def I3(_k:KT)(x:Bool×List Int)(y:Bool×List Int):Option (List RV):=match !y.1 with|true=>(match decide (okI x∧okI (decide ((y.2.length:Int)>0),y.2))with|true=>some [RV.d (.st (.pair .bool (.sl (.int .u32)))) (ag (ab x+ab (decide ((y.2.length:Int)>0),y.2)))]|false=>none)|false=>(match decide (okI x∧okI (false,y.2))with|true=>some [RV.d (.st (.pair .bool (.sl (.int .u32)))) (ag (ab x+ab (false,y.2)))]|false=>none)
theorem adB(x:Bool×List Int)(y:Bool×List Int){rX:List RV}(hX:∃nX,I3 (Tv.k nX) x y=some rX):Tv.Res 301 [.d (.st (.pair .bool (.sl (.int .u32)))) x,.d (.st (.pair .bool (.sl (.int .u32)))) y] rX:=aO (t:=fun k=>I3 k x y) (fun k=>show go2 Tryz.prog ft tys AY [] k 4000 (az 301 [.d (.st (.pair .bool (.sl (.int .u32)))) x,.d (.st (.pair .bool (.sl (.int .u32)))) y]) (.node 0)=I3 k x y by kernel_rfl) hX
theorem PI{y:BI}(h:okI y):okI (!y.1&&decide ((y.2.length:Int)>0),y.2)∧ab (!y.1&&decide ((y.2.length:Int)>0),y.2)= -ab y:=by
 obtain⟨y0,y1,y2⟩:=cg h
 refine⟨⟨h.1,fun e=>?_,h.2.2⟩,?_⟩
 ·simp only[Bool.and_eq_true,decide_eq_true_eq]at e
  intro e'
  have e2:=e.2
  have e'':y.2=[]:=e'
  rw[e'']at e2
  simp at e2
 ·rw[bJ,bJ]
  unfold bV
  dsimp only
  cases ey:y.1
  ·simp only[Bool.not_false,Bool.true_and,cond_false]
   rcases Int.lt_or_le 0 (val y.2)with hc|hc
   ·have:y.2≠[]:=fun e=>by rw[y2]at e;omega
    have:=List.length_pos_iff.2 this
    rw[decide_eq_true (by omega)]
    rfl
   ·have e:y.2=[]:=y2.2 (by omega)
    rw[e]
    rfl
  ·simp
theorem VO(x y:BI)(h:okI x∧okI y):Con Tryz.prog 301 [.d (.st (.pair .bool (.sl (.int .u32)))) x,.d (.st (.pair .bool (.sl (.int .u32)))) y] [.d (.st (.pair .bool (.sl (.int .u32)))) (ag (ab x-ab y))]:=by
 refine Ctx.Res.con (C:=Tv) (au vf) (adB _ _ ⟨0,?_⟩) (fn:=Tryz.f301) (by kernel_rfl) (by kernel_rfl)
 obtain⟨hx,hy⟩:=h
 obtain⟨f1,f2⟩:=PI hy
 rw[Int.sub_eq_add_neg,←f2]
 unfold I3
 cases ey:y.1
 ·rw[ey]at f1
  simp only[Bool.not_false,Bool.true_and]at f1 ⊢
  rw[decide_eq_true ⟨hx,f1⟩]
 ·rw[ey]at f1
  simp only[Bool.not_true,Bool.false_and]at f1 ⊢
  rw[decide_eq_true ⟨hx,f1⟩]
def Gf:aL:=spN false false [(.st (.pair .bool (.sl (.int .u32)))),(.st (.pair .bool (.sl (.int .u32))))] (fun x=>decide (okI x.1∧okI x.2.1)) (fun x=>[RV.d (.st (.pair .bool (.sl (.int .u32)))) (ag (ab x.1-ab x.2.1))])
theorem Ug:af Tryz.prog 301=true∧ao Tryz.prog 301 Gf∧∀g,Gf.mut_=some g→aK Tryz.prog 301 g:=aq (by kernel_rfl) fun x h=>VO x.1 x.2.1 (of_decide_eq_true h)
noncomputable def Fj:Env:=(301,Gf)::AY
theorem Nm:EnvAll Tryz.prog Fj:=⟨Ug,vf⟩
noncomputable def Tw:Ctx:=⟨Tryz.prog,ft,tys,Fj,[]⟩
noncomputable def H6(_k:KT)(x:Bool×List Int)(y:Bool×List Int):Option (List RV):=let y1:=a8 (dvQ x.2 y.2);let y2:=a8 (dvR x.2 y.2);let y3:=ag (bV x.1 (val (dvR x.2 y.2)));let y4:=ag (bV (!(x.1==y.1)) (val (dvQ x.2 y.2)));let y5:Option (List RV):=match decide (((y3.2).length:Int)>0)with|true=>(match !((y3.1)==y.1)with|true=>(match decide (bh (1:Int))with|true=>(match decide (okI y4∧okI (ag (1:Int)))with|true=>(match decide (okI y3∧okI y)with|true=>dup (.b .l .l) (some [RV.d (.st (.pair .bool (.sl (.int .u32)))) (ag (ab y4-ab (ag (1:Int)))),RV.d (.st (.pair .bool (.sl (.int .u32)))) (ag (ab y3+ab y)),RV.d (.int .i64) 0])|false=>none)|false=>none)|false=>none)|false=>dup (.b .l .l) (some [RV.d (.st (.pair .bool (.sl (.int .u32)))) y4,RV.d (.st (.pair .bool (.sl (.int .u32)))) y3,RV.d (.int .i64) 0]))|false=>dup (.b .l .l) (some [RV.d (.st (.pair .bool (.sl (.int .u32)))) y4,RV.d (.st (.pair .bool (.sl (.int .u32)))) y3,RV.d (.int .i64) 0]);let y6:Option (List RV):=match decide y2 with|true=>y5|false=>none;match(y.2.length:Int)==0 with|true=>some [RV.d (.st (.pair .bool (.sl (.int .u32)))) (false,[]),RV.d (.st (.pair .bool (.sl (.int .u32)))) (false,[]),RV.d (.int .i64) 6]|false=>(match decide (lN x.2 y.2)with|true=>cA (match decide y1 with|true=>cA (match decide y2 with|true=>dup (.b .l .l) y5|false=>none) (dup (.b (.b .l .l) (.b .l .l)) y6)|false=>none) (dup (.b .l .l) (cA (match decide y1 with|true=>dup (.b .l .l) y6|false=>none) (match decide y1 with|true=>y6|false=>none)))|false=>none)
theorem adi(x:Bool×List Int)(y:Bool×List Int){rX:List RV}(hX:∃nX,H6 (Tw.k nX) x y=some rX):Tw.Res 287 [.d (.st (.pair .bool (.sl (.int .u32)))) x,.d (.st (.pair .bool (.sl (.int .u32)))) y] rX:=aO (t:=fun k=>H6 k x y) (fun k=>show go2 Tryz.prog ft tys Fj [] k 4000 (az 287 [.d (.st (.pair .bool (.sl (.int .u32)))) x,.d (.st (.pair .bool (.sl (.int .u32)))) y]) (.node 0)=H6 k x y by kernel_rfl) hX
end Go.Proofs.YtlahabkjhgkkjaaGreat
namespace Go.Proofs.YtlahabkjhgkkjaaGreat
open Go.RowKit
def dK(x y:BI):Prop:=okI x∧okI y∧0<ab y
instance (x y:BI):Decidable (dK x y):=by unfold dK;infer_instance
theorem Js{a b:Int}(_ha:0≤a)(hb:0<b):(a%b=0→ -a/b= -(a/b)∧ -a%b=0)∧(0<a%b→ -a/b= -(a/b)-1∧ -a%b= -(a%b)+b):=by
 have h1:=Int.emod_nonneg a (show b≠0 by omega)
 have h2:=Int.emod_lt_of_pos a hb
 have h3:=Int.mul_ediv_add_emod a b
 constructor
 ·intro h
  have e: -a=b* -(a/b):=by rw[Int.mul_neg];omega
  constructor
  ·rw[e,Int.mul_ediv_cancel_left _ (by omega)]
  ·rw[e,Int.mul_emod_right]
 ·intro h
  have e: -a=(b-a%b)+b*(-(a/b)-1):=by rw[Int.mul_sub,Int.mul_neg,Int.mul_one];omega
  constructor
  ·rw[e,Int.add_mul_ediv_left _ _ (by omega),Int.ediv_eq_zero_of_lt (by omega) (by omega)];omega
  ·rw[e,Int.add_mul_emod_self_left,Int.emod_eq_of_lt (by omega) (by omega)];omega
theorem mf:okI (ag 1):=by decide
theorem Ah(n:Bool){v:Int}:szI (bV n v)=szI v:=by unfold bV;cases n<;>simp[gv]
theorem Kx(x y:BI)(h:dK x y):Con Tryz.prog 287 [.d (.st (.pair .bool (.sl (.int .u32)))) x,.d (.st (.pair .bool (.sl (.int .u32)))) y] [.d (.st (.pair .bool (.sl (.int .u32)))) (ag (ab x/ab y)),.d (.st (.pair .bool (.sl (.int .u32)))) (ag (ab x%ab y)),.d (.int .i64) 0]:=by
 refine Ctx.Res.con (C:=Tw) (au Nm) (adi _ _ ⟨0,?_⟩) (fn:=Tryz.f287) (by kernel_rfl) (by kernel_rfl)
 obtain⟨hx,hy,hp⟩:=h
 obtain⟨x0,x1,x2⟩:=cg hx
 obtain⟨y0,y1,y2⟩:=cg hy
 have sx:=hx.2.2
 have sy:=hy.2.2
 have ey:y.1=false:=by
  cases e:y.1
  ·rfl
  ·rw[bJ,e]at hp
   simp only[bV,cond_true]at hp
   omega
 have dy:ab y=val y.2:=by rw[bJ,ey];rfl
 rw[dy]at hp
 have hdv:lN x.2 y.2:=⟨⟨hx.1.1,by omega⟩,⟨hy.1.1,by omega⟩,hp⟩
 obtain⟨lq,lr,sq,sr,vq,vr⟩:=ZC hdv
 have hne:y.2≠[]:=fun e=>by rw[y2]at e;omega
 have hylen:=List.length_pos_iff.2 hne
 have r0:=Int.emod_nonneg (val x.2) (show val y.2≠0 by omega)
 have r1:=Int.emod_lt_of_pos (val x.2) hp
 have q0:0≤val x.2/val y.2:=Int.ediv_nonneg x0 y0
 have q1:val x.2/val y.2≤val x.2:=Int.ediv_le_self _ x0
 have vx:=bQ hx.1.1
 have vy:=bQ hy.1.1
 have szq:szI (val x.2/val y.2)≤1000000:=dW (by have:=bR 1000000;omega) (by have:=cM sx;omega)
 have szr:szI (val x.2%val y.2)≤1000000:=dW (by have:=bR 1000000;omega) (by have:=cM sy;omega)
 unfold H6
 simp only[aJ]
 rw[show((y.2.length:Int)==0)=false by simp;omega,decide_eq_true hdv,decide_eq_true (show a8 (dvQ x.2 y.2) from⟨lq,by omega⟩),decide_eq_true (show a8 (dvR x.2 y.2) from⟨lr,by omega⟩),decide_eq_true (show bh 1 by decide),vq,vr,
  decide_eq_true (show okI (ag (bV (!(x.1==y.1)) (val x.2/val y.2)))∧okI (ag (1:Int)) from⟨bj (by rw[Ah];exact szq),mf⟩),decide_eq_true (show okI (ag (bV x.1 (val x.2%val y.2)))∧okI y from⟨bj (by rw[Ah];exact szr),hy⟩)]
 simp only[dec_enc,dy,am]
 have hE1:(ag (bV x.1 (val x.2%val y.2))).1=(x.1&&decide (0<val x.2%val y.2)):=by rw[jT x.1 r0]
 have hE2:(ag (bV x.1 (val x.2%val y.2))).2=ac (val x.2%val y.2).toNat:=by rw[jT x.1 r0]
 rw[hE1,hE2,bJ x,ey]
 have hlen:(((ac (val x.2%val y.2).toNat).length:Int)>0)↔0<val x.2%val y.2:=by
  constructor
  ·intro hl
   rcases Int.lt_or_le 0 (val x.2%val y.2)with h|h
   ·exact h
   ·rw[show(val x.2%val y.2).toNat=0 by omega,dL]at hl
    simp at hl
  ·intro hl
   have:ac (val x.2%val y.2).toNat≠[]:=fun e=>by rw[fu]at e;omega
   have:=List.length_pos_iff.2 this
   omega
 obtain⟨n1,n2⟩:=Js (a:=val x.2) (b:=val y.2) x0 hp
 rcases Int.lt_or_le 0 (val x.2%val y.2)with hr|hr
 ·rw[decide_eq_true (hlen.2 hr),decide_eq_true hr]
  cases x.1
  ·rfl
  ·obtain⟨e1,e2⟩:=n2 hr
   simp only[bV,cond_true,Bool.not_false,Bool.true_and,show((true==false):Bool)=false from rfl]
   rw[e1,e2]
 ·rw[decide_eq_false (fun h'=>by have:=hlen.1 h';omega)]
  dsimp only
  have e0:val x.2%val y.2=0:=by omega
  cases x.1
  ·simp only[bV,cond_false,show((false==false):Bool)=true from rfl,Bool.not_true]
  ·obtain⟨e1,e2⟩:=n1 e0
   simp only[bV,cond_true,show((true==false):Bool)=false from rfl,Bool.not_false]
   rw[e1,e2,e0]
   rfl
end Go.Proofs.YtlahabkjhgkkjaaGreat
namespace Go.Proofs.YtlahabkjhgkkjaaGreat
open Go.RowKit
def iM(x:BI):Bool:=decide (x.2.length≤2)
def uJ(x:BI):Int:=bif iM x then val x.2 else 0
noncomputable def QD:Ctx:=⟨Tryz.prog,ft,tys,[],[]⟩
def IA(_k:KT)(x:Bool×List Int):Option (List RV):=match(x.2.length:Int)==0 with|true=>some [RV.d (.int .u64) 0,RV.d .bool true]|false=>(match(x.2.length:Int)==1 with|true=>(match bw x.2 0 with|some x1=>some [RV.d (.int .u64) (IntKind.u64.wrap x1),RV.d .bool true]|none=>none)|false=>(match(x.2.length:Int)==2 with|true=>(match bw x.2 1 with|some x2=>(match bw x.2 0 with|some x3=>some [RV.d (.int .u64) (IntKind.u64.wrap ((IntKind.u64.wrap ((IntKind.u64.wrap x2)*1000000000))+(IntKind.u64.wrap x3))),RV.d .bool true]|none=>none)|none=>none)|false=>some [RV.d (.int .u64) 0,RV.d .bool false]))
theorem acU(x:Bool×List Int){rX:List RV}(hX:∃nX,IA (QD.k nX) x=some rX):QD.Res 285 [.d (.st (.pair .bool (.sl (.int .u32)))) x] rX:=aO (t:=fun k=>IA k x) (fun k=>show go2 Tryz.prog ft tys [] [] k 4000 (az 285 [.d (.st (.pair .bool (.sl (.int .u32)))) x]) (.node 0)=IA k x by kernel_rfl) hX
theorem Yk(x:BI)(h:okI x):Con Tryz.prog 285 [.d (.st (.pair .bool (.sl (.int .u32)))) x] [.d (.int .u64) (uJ x),.d .bool (iM x)]:=by
 refine Ctx.Res.con (C:=QD) (au (E:=[]) trivial) (acU _ ⟨0,?_⟩) (fn:=Tryz.f285) (by kernel_rfl) (by kernel_rfl)
 obtain⟨neg,l⟩:=x
 have hl:=h.1.1
 unfold IA uJ iM
 match l,hl with
 |[],_=>rfl
 |[a],hl=>
  have:=hl.head
  simp only[List.length_singleton,u7,List.getElem?_cons_zero]
  rw[bz (x:=a) (by omega) (by omega)]
  simp[val]
 |[a,b],hl=>
  have h1:=hl.head
  have h2:=hl.tail.head
  have e1:bw [a,b] 1=some b:=rfl
  have e0:bw [a,b] 0=some a:=rfl
  simp only[e1,e0,List.length_cons,List.length_nil]
  rw[bz (x:=a) (by omega) (by omega),bz (x:=b) (by omega) (by omega),bz (x:=b*1000000000) (by omega) (by omega),bz (x:=b*1000000000+a) (by omega) (by omega)]
  rw[show val [a,b]=b*1000000000+a by simp only[val];omega]
  rfl
 |a::b::c::l,hl=>
  have e:decide ((a::b::c::l).length≤2)=false:=decide_eq_false (by simp)
  rw[e,show(((a::b::c::l).length:Int)==0)=false by simp;omega,show(((a::b::c::l).length:Int)==1)=false by simp;omega,show(((a::b::c::l).length:Int)==2)=false by simp;omega]
  rfl
def Hl:aL:=spN false false [(.st (.pair .bool (.sl (.int .u32))))] (fun x=>decide (okI x.1)) (fun x=>[RV.d (.int .u64) (uJ x.1),RV.d .bool (iM x.1)])
theorem N8:af Tryz.prog 285=true∧ao Tryz.prog 285 Hl∧∀g,Hl.mut_=some g→aK Tryz.prog 285 g:=aq (by kernel_rfl) fun x h=>Yk x.1 (of_decide_eq_true h)
noncomputable def pV:Env:=[(226,qj),(227,un),(286,yU),(285,Hl)]
theorem Mj:EnvAll Tryz.prog pV:=⟨ou,tJ,Bw,N8,trivial⟩
def rO:NT:=[((261,6),{keep:=[4,5,6],hl:=5}),((261,24),{keep:=[4,7,9],hl:=3})]
noncomputable def eh:Ctx:=⟨Tryz.prog,ft,tys,pV,rO⟩
def gO(x:Bool×List Int)(y:Bool×List Int)(b3_0:Bool)(b3_1:List Int)(b4_0:Bool)(b4_1:List Int):Cfg:=⟨261,[.blk 0,.seq 40],[(4,.box 2 0),(5,.box 3 0),(6,.box 4 0)],[.box 33 [SB x.1,.d (.sl (.int .u32)) x.2],.box 33 [SB y.1,.d (.sl (.int .u32)) y.2],.box 33 [SB false,.nil],.box 33 [SB b3_0,.d (.sl (.int .u32)) b3_1],.box 33 [SB b4_0,.d (.sl (.int .u32)) b4_1]],0,[]⟩
def dO(x:Bool×List Int)(y:Bool×List Int)(b3_0:Bool)(b3_1:List Int)(b4_0:Bool)(b4_1:List Int):Cfg:=⟨261,[.blk 0,.seq 40],[(4,.box 2 0),(5,.box 4 0),(6,.box 3 0)],[.box 33 [SB x.1,.d (.sl (.int .u32)) x.2],.box 33 [SB y.1,.d (.sl (.int .u32)) y.2],.box 33 [SB false,.nil],.box 33 [SB b3_0,.d (.sl (.int .u32)) b3_1],.box 33 [SB b4_0,.d (.sl (.int .u32)) b4_1]],0,[]⟩
def eW(x:Bool×List Int)(y:Bool×List Int)(s7:Int)(s9:Int):Cfg:=⟨261,[.blk 2,.seq 33,.seq 37,.blk 1,.lp 6,.blk 0,.seq 40],[(4,.box 2 0),(7,.d (.int .u64) s7),(9,.d (.int .u64) s9)],[.box 33 [SB x.1,.d (.sl (.int .u32)) x.2],.box 33 [SB y.1,.d (.sl (.int .u32)) y.2],.box 33 [SB false,.nil]],0,[]⟩
noncomputable def IH(k:KT)(x:Bool×List Int)(y:Bool×List Int):Option (List RV):=let y1:=ag (bV false (val x.2));let y2:=ag (bV false (val y.2));let y3:=gO x y (y1.1) (y1.2) (y2.1) (y2.2);let y4:=dO x y (y2.1) (y2.2) (y1.1) (y1.2);let y5:Option (List RV):=match decide (a8 y.2)with|true=>k 6 y3|false=>none;let y6:Option (List RV):=match decide (a8 y.2)with|true=>k 6 y4|false=>none;cA (match decide (a8 x.2)with|true=>cA (match decide (a8 y.2)with|true=>cA (k 6 y3) (k 6 y4)|false=>none) (cA (dup (.b .l .l) y5) (dup (.b .l .l) y6))|false=>none) (cA (cA (match decide (a8 x.2)with|true=>dup (.b .l .l) y5|false=>none) (match decide (a8 x.2)with|true=>y5|false=>none)) (cA (match decide (a8 x.2)with|true=>dup (.b .l .l) y6|false=>none) (match decide (a8 x.2)with|true=>y6|false=>none)))
theorem acQ(x:Bool×List Int)(y:Bool×List Int){rX:List RV}(hX:∃nX,IH (eh.k nX) x y=some rX):eh.Res 261 [.d (.st (.pair .bool (.sl (.int .u32)))) x,.d (.st (.pair .bool (.sl (.int .u32)))) y] rX:=aO (t:=fun k=>IH k x y) (fun k=>show go2 Tryz.prog ft tys pV rO k 4000 (az 261 [.d (.st (.pair .bool (.sl (.int .u32)))) x,.d (.st (.pair .bool (.sl (.int .u32)))) y]) (.node 0)=IH k x y by kernel_rfl) hX
noncomputable def sR(k:KT)(x:Bool×List Int)(y:Bool×List Int)(b3_0:Bool)(b3_1:List Int)(b4_0:Bool)(b4_1:List Int):Option (List RV):=match decide ((b4_1.length:Int)>0)with|true=>(match decide (okI (b3_0,b3_1))with|true=>(match decide (okI (b4_0,b4_1))with|true=>(match iM (b3_0,b3_1)with|true=>(match iM (b4_0,b4_1)with|true=>k 24 (eW x y (uJ (b3_0,b3_1)) (uJ (b4_0,b4_1)))|false=>(match decide (lN b3_1 b4_1)with|true=>(match decide (a8 (dvR b3_1 b4_1))with|true=>k 6 (gO x y b4_0 b4_1 ((ag (bV false (val (dvR b3_1 b4_1)))).1) ((ag (bV false (val (dvR b3_1 b4_1)))).2))|false=>none)|false=>none))|false=>(match decide (lN b3_1 b4_1)with|true=>(match decide (a8 (dvR b3_1 b4_1))with|true=>k 6 (gO x y b4_0 b4_1 ((ag (bV false (val (dvR b3_1 b4_1)))).1) ((ag (bV false (val (dvR b3_1 b4_1)))).2))|false=>none)|false=>none))|false=>none)|false=>none)|false=>(match decide (b3_1.length*4≤140737488355328∧b3_1.length≤140737488355328)with|true=>(match decide (a8 b3_1)with|true=>some [RV.d (.st (.pair .bool (.sl (.int .u32)))) (ag (bV false (val b3_1)))]|false=>none)|false=>none)
theorem Vy(x:Bool×List Int)(y:Bool×List Int)(b3_0:Bool)(b3_1:List Int)(b4_0:Bool)(b4_1:List Int){rX:List RV}(hX:∃n0,∀n,n0≤n→sR (eh.k n) x y b3_0 b3_1 b4_0 b4_1=some rX):eh.RunsE 6 (gO x y b3_0 b3_1 b4_0 b4_1) rX:=Du (t:=fun k=>sR k x y b3_0 b3_1 b4_0 b4_1) (fun k=>show go2 Tryz.prog ft tys pV rO k 4000 {gO x y b3_0 b3_1 b4_0 b4_1 with K:=.lp 6::(gO x y b3_0 b3_1 b4_0 b4_1).K} (.node 7)=sR k x y b3_0 b3_1 b4_0 b4_1 by kernel_rfl) hX
noncomputable def nE(k:KT)(x:Bool×List Int)(y:Bool×List Int)(b3_0:Bool)(b3_1:List Int)(b4_0:Bool)(b4_1:List Int):Option (List RV):=match decide ((b3_1.length:Int)>0)with|true=>(match decide (okI (b4_0,b4_1))with|true=>(match decide (okI (b3_0,b3_1))with|true=>(match iM (b4_0,b4_1)with|true=>(match iM (b3_0,b3_1)with|true=>k 24 (eW x y (uJ (b4_0,b4_1)) (uJ (b3_0,b3_1)))|false=>(match decide (lN b4_1 b3_1)with|true=>(match decide (a8 (dvR b4_1 b3_1))with|true=>k 6 (dO x y ((ag (bV false (val (dvR b4_1 b3_1)))).1) ((ag (bV false (val (dvR b4_1 b3_1)))).2) b3_0 b3_1)|false=>none)|false=>none))|false=>(match decide (lN b4_1 b3_1)with|true=>(match decide (a8 (dvR b4_1 b3_1))with|true=>k 6 (dO x y ((ag (bV false (val (dvR b4_1 b3_1)))).1) ((ag (bV false (val (dvR b4_1 b3_1)))).2) b3_0 b3_1)|false=>none)|false=>none))|false=>none)|false=>none)|false=>(match decide (b4_1.length*4≤140737488355328∧b4_1.length≤140737488355328)with|true=>(match decide (a8 b4_1)with|true=>some [RV.d (.st (.pair .bool (.sl (.int .u32)))) (ag (bV false (val b4_1)))]|false=>none)|false=>none)
theorem HG(x:Bool×List Int)(y:Bool×List Int)(b3_0:Bool)(b3_1:List Int)(b4_0:Bool)(b4_1:List Int){rX:List RV}(hX:∃n0,∀n,n0≤n→nE (eh.k n) x y b3_0 b3_1 b4_0 b4_1=some rX):eh.RunsE 6 (dO x y b3_0 b3_1 b4_0 b4_1) rX:=Du (t:=fun k=>nE k x y b3_0 b3_1 b4_0 b4_1) (fun k=>show go2 Tryz.prog ft tys pV rO k 4000 {dO x y b3_0 b3_1 b4_0 b4_1 with K:=.lp 6::(dO x y b3_0 b3_1 b4_0 b4_1).K} (.node 7)=nE k x y b3_0 b3_1 b4_0 b4_1 by kernel_rfl) hX
def ju(k:KT)(x:Bool×List Int)(y:Bool×List Int)(s7:Int)(s9:Int):Option (List RV):=match decide (s9>0)with|true=>(match decide (s9=(0:Int))with|true=>none|false=>k 24 (eW x y s9 (Int.tmod s7 s9)))|false=>(match decide (fe s7)with|true=>(match decide (a8 (dig 3 s7))with|true=>some [RV.d (.st (.pair .bool (.sl (.int .u32)))) (ag (bV false (val (dig 3 s7))))]|false=>none)|false=>none)
theorem uO(x:Bool×List Int)(y:Bool×List Int)(s7:Int)(s9:Int){rX:List RV}(hX:∃n0,∀n,n0≤n→ju (eh.k n) x y s7 s9=some rX):eh.RunsE 24 (eW x y s7 s9) rX:=Du (t:=fun k=>ju k x y s7 s9) (fun k=>show go2 Tryz.prog ft tys pV rO k 4000 {eW x y s7 s9 with K:=.lp 24::(eW x y s7 s9).K} (.node 25)=ju k x y s7 s9 by kernel_rfl) hX
theorem Ps(x y:BI)(B:Nat)(hB:(B:Int)<18446744073709551616):∀(v u:Nat),u≤B→v≤B→eh.RunsE 24 (eW x y (u:Int) (v:Int)) [.d (.st (.pair .bool (.sl (.int .u32)))) (ag ((Nat.gcd u v:Nat):Int))]:=by
 intro v
 induction v using Nat.strongRecOn with
 |ind v ih=>
  intro u hu hv
  rcases Nat.eq_zero_or_pos v with h0|h0
  ·refine uO _ _ _ _ ⟨0,fun n _=>?_⟩
   have hp:fe (u:Int):=⟨by omega,by omega⟩
   unfold ju
   rw[decide_eq_false (show ¬(v:Int)>0 by omega),decide_eq_true hp,decide_eq_true (gI (n:=3) (by decide) (u:Int)),sQ hp,show Nat.gcd u v=u by rw[h0];exact Nat.gcd_zero_right u]
   rfl
  ·obtain⟨n0,hn⟩:=ih (u%v) (Nat.mod_lt _ h0) v hv (Nat.le_trans (Nat.le_of_lt (Nat.mod_lt _ h0)) hv)
   refine uO _ _ _ _ ⟨n0,fun n hn'=>?_⟩
   unfold ju
   rw[decide_eq_true (by omega),decide_eq_false (by omega),gJ (by omega)]
   dsimp only
   rw[show((u:Int)%(v:Int))=((u%v:Nat):Int) by simp,Nat.gcd_comm u v,Nat.gcd_rec v u,Nat.gcd_comm]
   exact hn n hn'
theorem wa(v:Int):bV false v=v:=rfl
theorem gz(u:Nat):ag (u:Int)=(false,ac u):=by unfold ag;rw[decide_eq_false (by omega),Int.natAbs_natCast]
theorem wq{u:Nat}(h:(ac u).length≤2):u≤(pw 2).toNat:=by
 have h1:=bQ (bT u)
 rw[bE]at h1
 have h2:=cM h
 omega
theorem abO:(((pw 2).toNat:Nat):Int)<18446744073709551616:=by
 have h3:pw 2=1000000000000000000:=by decide
 rw[h3]
 decide
theorem DZ{k:Nat→Cfg→Option (List RV)}{u v:Nat}(hu:szI u≤1000000)(hv:szI v≤1000000){r:List RV}{H:Int→Int→Cfg}{D:Int→Cfg}
  (h1:v=0→r=[.d (.st (.pair .bool (.sl (.int .u32)))) (ag (u:Int))]) (h2:v≠0→iM (ag (u:Int))=true→iM (ag (v:Int))=true→k 24 (H (u:Int) (v:Int))=some r) (h3:v≠0→k 6 (D ((u%v:Nat):Int))=some r) (D':List Int→Cfg) (hD:D' (dvR (ac u) (ac v))=D (val (dvR (ac u) (ac v)))):
  (match decide (((ac v).length:Int)>0)with
   |true=>(match decide (okI (ag (u:Int)))with
    |true=>(match decide (okI (ag (v:Int)))with
     |true=>(match iM (ag (u:Int))with
      |true=>(match iM (ag (v:Int))with
       |true=>k 24 (H (uJ (ag (u:Int))) (uJ (ag (v:Int))))
       |false=>(match decide (lN (ac u) (ac v))with
        |true=>(match decide (a8 (dvR (ac u) (ac v)))with
         |true=>k 6 (D' (dvR (ac u) (ac v)))
         |false=>none)
        |false=>none))
      |false=>(match decide (lN (ac u) (ac v))with
        |true=>(match decide (a8 (dvR (ac u) (ac v)))with
         |true=>k 6 (D' (dvR (ac u) (ac v)))
         |false=>none)
        |false=>none))
     |false=>none)
    |false=>none)
   |false=>(match decide ((ac u).length*4≤140737488355328∧(ac u).length≤140737488355328)with
    |true=>(match decide (a8 (ac u))with
     |true=>some [.d (.st (.pair .bool (.sl (.int .u32)))) (ag (bV false (val (ac u))))]
     |false=>none)
    |false=>none))=some r:=by
 have lu:(ac u).length≤1000000:=by have:=hu;unfold szI at this;rwa [Int.natAbs_natCast]at this
 have lv:(ac v).length≤1000000:=by have:=hv;unfold szI at this;rwa [Int.natAbs_natCast]at this
 rcases Nat.eq_zero_or_pos v with h0|h0
 ·subst h0
  rw[h1 rfl,show decide (((ac 0).length:Int)>0)=false from rfl,decide_eq_true (show(ac u).length*4≤140737488355328∧(ac u).length≤140737488355328 by omega),decide_eq_true (show a8 (ac u) from⟨bT u,by omega⟩),bE]
  rfl
 ·have hne:ac v≠[]:=fun e=>by rw[fu]at e;omega
  have hl:=List.length_pos_iff.2 hne
  have hvv:=bE v
  have hvu:=bE u
  have hdv:lN (ac u) (ac v):=⟨⟨bT u,by omega⟩,⟨bT v,by omega⟩,by omega⟩
  obtain⟨_,lr,_,sr,_,vr⟩:=ZC hdv
  have hD2:k 6 (D' (dvR (ac u) (ac v)))=some r:=by
   rw[hD,vr,hvv,hvu]
   exact h3 (by omega)
  rw[decide_eq_true (by omega),decide_eq_true (bj hu),decide_eq_true (bj hv),decide_eq_true hdv,decide_eq_true (show a8 (dvR (ac u) (ac v)) from⟨lr,by omega⟩)]
  dsimp only
  cases hb1:iM (ag (u:Int))
  ·exact hD2
  ·cases hb2:iM (ag (v:Int))
   ·exact hD2
   ·dsimp only
    have:=h2 (by omega) hb1 hb2
    unfold uJ
    rw[hb1,hb2]
    simp only[cond_true,gz]
    rw[hvv,hvu]
    exact this
theorem Pu(x y:BI):∀(v u:Nat),szI u≤1000000→szI v≤1000000→
  eh.RunsE 6 (gO x y false (ac u) false (ac v)) [.d (.st (.pair .bool (.sl (.int .u32)))) (ag ((Nat.gcd u v:Nat):Int))]∧eh.RunsE 6 (dO x y false (ac v) false (ac u)) [.d (.st (.pair .bool (.sl (.int .u32)))) (ag ((Nat.gcd u v:Nat):Int))]:=by
 intro v
 induction v using Nat.strongRecOn with
 |ind v ih=>
  intro u hu hv
  have hw:iM (ag (u:Int))=true→iM (ag (v:Int))=true→eh.RunsE 24 (eW x y (u:Int) (v:Int)) [.d (.st (.pair .bool (.sl (.int .u32)))) (ag ((Nat.gcd u v:Nat):Int))]:=fun h1 h2=>by
   unfold iM at h1 h2
   rw[gz]at h1 h2
   exact Ps x y _ abO v u (wq (of_decide_eq_true h1)) (wq (of_decide_eq_true h2))
  have hd:v≠0→eh.RunsE 6 (gO x y false (ac v) false (ac (u%v))) [.d (.st (.pair .bool (.sl (.int .u32)))) (ag ((Nat.gcd u v:Nat):Int))]∧eh.RunsE 6 (dO x y false (ac (u%v)) false (ac v)) [.d (.st (.pair .bool (.sl (.int .u32)))) (ag ((Nat.gcd u v:Nat):Int))]:=fun h0=>by
   have hm:=Nat.mod_lt u (Nat.pos_of_ne_zero h0)
   have:=ih (u%v) hm v hv (Nat.le_trans (cS (by omega)) hv)
   rw[Nat.gcd_comm u v,Nat.gcd_rec v u,Nat.gcd_comm (u%v) v]
   exact this
  have hcommon:∃n0,∀n,n0≤n→(iM (ag (u:Int))=true→iM (ag (v:Int))=true→eh.k n 24 (eW x y (u:Int) (v:Int))=some [.d (.st (.pair .bool (.sl (.int .u32)))) (ag ((Nat.gcd u v:Nat):Int))])∧(v≠0→eh.k n 6 (gO x y false (ac v) false (ac (u%v)))=some [.d (.st (.pair .bool (.sl (.int .u32)))) (ag ((Nat.gcd u v:Nat):Int))]∧eh.k n 6 (dO x y false (ac (u%v)) false (ac v))=some [.d (.st (.pair .bool (.sl (.int .u32)))) (ag ((Nat.gcd u v:Nat):Int))]):=by
   have g1:∃n1,∀n,n1≤n→(iM (ag (u:Int))=true→iM (ag (v:Int))=true→eh.k n 24 (eW x y (u:Int) (v:Int))=some [.d (.st (.pair .bool (.sl (.int .u32)))) (ag ((Nat.gcd u v:Nat):Int))]):=by
    by_cases hb:iM (ag (u:Int))=true∧iM (ag (v:Int))=true
    ·obtain⟨n,h⟩:=hw hb.1 hb.2
     exact⟨n,fun m hm _ _=>h m hm⟩
    ·exact⟨0,fun n _ h1 h2=>absurd ⟨h1,h2⟩ hb⟩
   have g2:∃n1,∀n,n1≤n→(v≠0→eh.k n 6 (gO x y false (ac v) false (ac (u%v)))=some [.d (.st (.pair .bool (.sl (.int .u32)))) (ag ((Nat.gcd u v:Nat):Int))]∧eh.k n 6 (dO x y false (ac (u%v)) false (ac v))=some [.d (.st (.pair .bool (.sl (.int .u32)))) (ag ((Nat.gcd u v:Nat):Int))]):=by
    by_cases hb:v=0
    ·exact⟨0,fun n _ h=>absurd hb h⟩
    ·obtain⟨⟨n1,h1⟩,⟨n2,h2⟩⟩:=hd hb
     exact⟨max n1 n2,fun n hn _=>⟨h1 n (by omega),h2 n (by omega)⟩⟩
   obtain⟨n1,h1⟩:=g1
   obtain⟨n2,h2⟩:=g2
   exact⟨max n1 n2,fun n hn=>⟨h1 n (by omega),h2 n (by omega)⟩⟩
  obtain⟨n0,hc⟩:=hcommon
  have hz:v=0→([.d (.st (.pair .bool (.sl (.int .u32)))) (ag ((Nat.gcd u v:Nat):Int))]:List RV)=[.d (.st (.pair .bool (.sl (.int .u32)))) (ag (u:Int))]:=fun e=>by subst e;rw[Nat.gcd_zero_right]
  constructor
  ·refine Vy _ _ _ _ _ _ ⟨n0,fun n hn=>?_⟩
   have:=DZ (k:=eh.k n) hu hv (H:=fun a b=>eW x y a b) (D:=fun z=>gO x y false (ac v) (ag z).1 (ag z).2) hz (fun _ h1 h2=>(hc n hn).1 h1 h2) (fun h0=>by rw[gz];exact((hc n hn).2 h0).1) (fun l=>gO x y false (ac v) (ag (bV false (val l))).1 (ag (bV false (val l))).2) rfl
   rw[gz,gz]at this
   exact this
  ·refine HG _ _ _ _ _ _ ⟨n0,fun n hn=>?_⟩
   have:=DZ (k:=eh.k n) hu hv (H:=fun a b=>eW x y a b) (D:=fun z=>dO x y (ag z).1 (ag z).2 false (ac v)) hz (fun _ h1 h2=>(hc n hn).1 h1 h2) (fun h0=>by rw[gz];exact((hc n hn).2 h0).2) (fun l=>dO x y (ag (bV false (val l))).1 (ag (bV false (val l))).2 false (ac v)) rfl
   rw[gz,gz]at this
   exact this
theorem Zd(x y:BI)(h:okI x∧okI y):Con Tryz.prog 261 [.d (.st (.pair .bool (.sl (.int .u32)))) x,.d (.st (.pair .bool (.sl (.int .u32)))) y] [.d (.st (.pair .bool (.sl (.int .u32)))) (ag ((Int.gcd (ab x) (ab y):Nat):Int))]:=by
 refine Ctx.Res.con (C:=eh) (au Mj) ?_ (fn:=Tryz.f261) (by kernel_rfl) (by kernel_rfl)
 obtain⟨hx,hy⟩:=h
 obtain⟨x0,_,_⟩:=cg hx
 obtain⟨y0,_,_⟩:=cg hy
 have ex:((ab x).natAbs:Int)=val x.2:=by rw[bJ];unfold bV;cases x.1<;>simp<;>omega
 have ey:((ab y).natAbs:Int)=val y.2:=by rw[bJ];unfold bV;cases y.1<;>simp<;>omega
 have szx:szI ((ab x).natAbs:Int)≤1000000:=Nat.le_trans (cS (by omega)) (ge hx)
 have szy:szI ((ab y).natAbs:Int)≤1000000:=Nat.le_trans (cS (by omega)) (ge hy)
 obtain⟨⟨n1,h1⟩,⟨n2,h2⟩⟩:=Pu x y (ab y).natAbs (ab x).natAbs szx szy
 refine acQ _ _ ⟨max n1 n2,?_⟩
 have h1:=h1 (max n1 n2) (by omega)
 have h2:=h2 (max n1 n2) (by omega)
 unfold IH
 simp only[aJ]
 rw[decide_eq_true (eB hx),decide_eq_true (eB hy),wa,wa,←ex,←ey,gz,gz]
 dsimp only
 rw[h1,h2]
 simp only[am]
 rfl
end Go.Proofs.YtlahabkjhgkkjaaGreat
namespace Go.Proofs.YtlahabkjhgkkjaaGreat
open Go.RowKit
abbrev BR:=BI×BI
def ae(q:Rat):BR:=(ag q.num,ag (q.den:Int))
def aa(x:BR):Rat:=mkRat (ab x.1) (ab x.2).toNat
theorem aw(q:Rat):aa (ae q)=q:=by
 unfold aa ae
 dsimp only
 rw[dec_enc,dec_enc,Int.toNat_natCast,Rat.mkRat_self]
def okR(x:BR):Prop:=okI x.1∧okI x.2∧0<ab x.2∧Int.gcd (ab x.1) (ab x.2)=1∧x.1.2.length≤480000∧x.2.2.length≤480000
instance (x:BR):Decidable (okR x):=by unfold okR;infer_instance
theorem cr{x:BR}(h:okR x):(aa x).num=ab x.1∧((aa x).den:Int)=ab x.2:=by
 obtain⟨h1,h2,h3,h4,_⟩:=h
 unfold aa
 rw[Rat.num_mkRat,Rat.den_mkRat]
 have hg:(ab x.2).toNat.gcd (ab x.1).natAbs=1:=by
  rw[Nat.gcd_comm,show(ab x.2).toNat=(ab x.2).natAbs by omega]
  exact h4
 rw[hg,if_neg (by omega),if_neg (by omega)]
 constructor
 ·simp
 ·rw[Nat.div_one];omega
theorem Ti{x:BR}(h:okR x):x=ae (aa x):=by
 obtain⟨e1,e2⟩:=cr h
 unfold ae
 rw[e1,e2,←fA h.1,←fA h.2.1]
def bdR(k:Nat)(q:Rat):Prop:=szI q.num≤k∧szI (q.den:Int)≤k
theorem mS{q:Rat}{k:Nat}(h:bdR k q)(hk:k≤480000):okR (ae q):=by
 obtain⟨h1,h2⟩:=h
 have hd:=q.den_pos
 refine⟨bj (by omega),bj (by omega),?_,?_,by show szI q.num≤480000;omega,by show szI (q.den:Int)≤480000;omega⟩
 ·show 0<ab (ag (q.den:Int))
  rw[dec_enc];omega
 ·show Int.gcd (ab (ag q.num)) (ab (ag (q.den:Int)))=1
  rw[dec_enc,dec_enc]
  exact q.reduced
theorem zd{x:BR}(h:okR x):bdR 480000 (aa x):=by
 obtain⟨e1,e2⟩:=cr h
 obtain⟨h1,h2,_,_,h5,h6⟩:=h
 unfold bdR szI
 rw[e1,e2]
 rw[fA h1]at h5
 rw[fA h2]at h6
 exact⟨h5,h6⟩
theorem bI{j k:Nat}{q:Rat}(h:bdR j q)(hk:j≤k):bdR k q:=⟨Nat.le_trans h.1 hk,Nat.le_trans h.2 hk⟩
theorem Y1(a:Int)(g:Nat):(a/(g:Int)).natAbs≤a.natAbs∨¬(g:Int)∣a:=by
 by_cases h:(g:Int)∣a
 ·left
  obtain⟨k,rfl⟩:=h
  rcases Nat.eq_zero_or_pos g with h0|h0
  ·subst h0;simp
  ·rw[Int.mul_ediv_cancel_left _ (by omega),Int.natAbs_mul]
   exact Nat.le_mul_of_pos_left _ (by omega)
 ·exact .inr h
theorem pG{n:Int}{d:Nat}{k:Nat}(hd:d≠0)(h1:szI n≤k)(h2:szI (d:Int)≤k):bdR k (mkRat n d):=by
 unfold bdR
 rw[Rat.num_mkRat,Rat.den_mkRat,if_neg hd,if_neg hd]
 constructor
 ·refine Nat.le_trans (cS ?_) h1
  refine(Y1 n (d.gcd n.natAbs)).resolve_right (fun h=>h ?_)
  have:=Nat.gcd_dvd_right d n.natAbs
  exact Int.ofNat_dvd_left.2 this
 ·exact Nat.le_trans (cS (by rw[Int.natAbs_natCast,Int.natAbs_natCast];exact Nat.div_le_self _ _)) h2
theorem rz{k:Nat}{a:Rat}(h:bdR k a):bdR k (-a):=by
 refine⟨?_,h.2⟩
 rw[Rat.neg_num,gv]
 exact h.1
theorem xV{j k:Nat}{a b:Rat}(ha:bdR j a)(hb:bdR k b):bdR (j+k+1) (a+b):=by
 rw[Rat.add_def']
 have d1:=a.den_pos
 have d2:=b.den_pos
 refine pG (Nat.mul_ne_zero (by omega) (by omega)) (qY (cD ha.1 hb.2) ?_) ?_
 ·rw[Nat.add_comm];exact cD hb.1 ha.2
 ·rw[Int.natCast_mul];exact Nat.le_trans (cD ha.2 hb.2) (by omega)
theorem Yx{j k:Nat}{a b:Rat}(ha:bdR j a)(hb:bdR k b):bdR (j+k+1) (a-b):=by
 rw[Rat.sub_eq_add_neg];exact xV ha (rz hb)
theorem xJ{j k:Nat}{a b:Rat}(ha:bdR j a)(hb:bdR k b):bdR (j+k) (a*b):=by
 rw[Rat.mul_def']
 have d1:=a.den_pos
 have d2:=b.den_pos
 refine pG (Nat.mul_ne_zero (by omega) (by omega)) (cD ha.1 hb.1) ?_
 rw[Int.natCast_mul]
 exact cD ha.2 hb.2
theorem Xz{k:Nat}{a:Rat}(h:bdR k a)(h0:a≠0):bdR k a⁻¹:=by
 have hn:a.num≠0:=fun e=>h0 (Rat.num_eq_zero.1 e)
 rw[Rat.inv_def]
 rcases Int.lt_or_lt_of_ne hn with h1|h1
 ·rw[←Rat.neg_divInt_neg,show-a.num=(((-a.num).toNat:Nat):Int) by omega,Rat.divInt_ofNat]
  refine pG (by omega) (by rw[gv];exact h.2) ?_
  rw[show(((-a.num).toNat:Nat):Int)= -a.num by omega,gv]
  exact h.1
 ·rw[show a.num=((a.num.toNat:Nat):Int) by omega,Rat.divInt_ofNat]
  refine pG (by omega) h.2 ?_
  rw[show((a.num.toNat:Nat):Int)=a.num by omega]
  exact h.1
theorem V9{j k:Nat}{a b:Rat}(ha:bdR j a)(hb:bdR k b)(h0:b≠0):bdR (j+k) (a/b):=by
 rw[Rat.div_def];exact xJ ha (Xz hb h0)
def dv(x y:BI):BR:=ae (Rat.divInt (ab x) (ab y))
def fM(x y:BI):Prop:=okI x∧okI y∧ab y≠0
instance (x y:BI):Decidable (fM x y):=by unfold fM;infer_instance
theorem kC{n d:Int}(hd:0<d):ae (Rat.divInt n d)=(ag (n/(Int.gcd n d:Int)),ag (d/(Int.gcd n d:Int))):=by
 obtain⟨D,rfl⟩:=Int.eq_ofNat_of_zero_le (Int.le_of_lt hd)
 unfold ae
 rw[Rat.divInt_ofNat,Rat.num_mkRat,Rat.den_mkRat,if_neg (by omega),if_neg (by omega)]
 have e:Int.gcd n (D:Int)=D.gcd n.natAbs:=by rw[Nat.gcd_comm];rfl
 rw[e,Int.natCast_ediv]
def nm:aL:=spN true false [(.st (.pair .bool (.sl (.int .u32))))] (fun x=>decide (okI x.1)) (fun x=>[RV.d (.int .i64) (b8 (ab x.1) 0)])
theorem lP:af Tryz.prog 168=true∧ao Tryz.prog 168 nm∧∀g,nm.mut_=some g→aK Tryz.prog 168 g:=aq (by kernel_rfl) fun x h=>Zh x.1 (of_decide_eq_true h)
def lQ:aL:=spN true false [(.st (.pair .bool (.sl (.int .u32)))),(.st (.pair .bool (.sl (.int .u32))))] (fun x=>decide (okI x.1∧okI x.2.1)) (fun x=>[RV.d (.int .i64) (b8 (ab x.1) (ab x.2.1))])
theorem j8:af Tryz.prog 183=true∧ao Tryz.prog 183 lQ∧∀g,lQ.mut_=some g→aK Tryz.prog 183 g:=aq (by kernel_rfl) fun x h=>Iq x.1 x.2.1 (of_decide_eq_true h)
def nw:aL:=spN false false [(.st (.pair .bool (.sl (.int .u32))))] (fun x=>decide (okI x.1)) (fun x=>[RV.d (.st (.pair .bool (.sl (.int .u32)))) (ag (-ab x.1))])
theorem lg:af Tryz.prog 254=true∧ao Tryz.prog 254 nw∧∀g,nw.mut_=some g→aK Tryz.prog 254 g:=aq (by kernel_rfl) fun x h=>Ky x.1 (of_decide_eq_true h)
def nC:aL:=spN false false [(.st (.pair .bool (.sl (.int .u32)))),(.st (.pair .bool (.sl (.int .u32))))] (fun x=>decide (okI x.1∧okI x.2.1)) (fun x=>[RV.d (.st (.pair .bool (.sl (.int .u32)))) (ag (ab x.1*ab x.2.1))])
theorem ln:af Tryz.prog 184=true∧ao Tryz.prog 184 nC∧∀g,nC.mut_=some g→aK Tryz.prog 184 g:=aq (by kernel_rfl) fun x h=>K6 x.1 x.2.1 (of_decide_eq_true h)
def tD:aL:=spN false false [(.st (.pair .bool (.sl (.int .u32)))),(.st (.pair .bool (.sl (.int .u32))))] (fun x=>decide (dK x.1 x.2.1)) (fun x=>[RV.d (.st (.pair .bool (.sl (.int .u32)))) (ag (ab x.1/ab x.2.1)),RV.d (.st (.pair .bool (.sl (.int .u32)))) (ag (ab x.1%ab x.2.1)),RV.d (.int .i64) 0])
theorem rU:af Tryz.prog 287=true∧ao Tryz.prog 287 tD∧∀g,tD.mut_=some g→aK Tryz.prog 287 g:=aq (by kernel_rfl) fun x h=>Kx x.1 x.2.1 (of_decide_eq_true h)
def Bq:aL:=spN false false [(.st (.pair .bool (.sl (.int .u32)))),(.st (.pair .bool (.sl (.int .u32))))] (fun x=>decide (okI x.1∧okI x.2.1)) (fun x=>[RV.d (.st (.pair .bool (.sl (.int .u32)))) (ag ((Int.gcd (ab x.1) (ab x.2.1):Nat):Int))])
theorem D1:af Tryz.prog 261=true∧ao Tryz.prog 261 Bq∧∀g,Bq.mut_=some g→aK Tryz.prog 261 g:=aq (by kernel_rfl) fun x h=>Zd x.1 x.2.1 (of_decide_eq_true h)
def uq:Env:=[(160,kA),(168,nm),(183,lQ),(222,kx),(254,nw),(184,nC),(287,tD),(261,Bq)]
theorem wN:EnvAll Tryz.prog uq:=⟨iG,lP,j8,io,lg,ln,rU,D1,trivial⟩
noncomputable def OO:Ctx:=⟨Tryz.prog,ft,tys,uq,[]⟩
def KL(_k:KT):Option (List RV):=match decide (bh (1:Int))with|true=>some [RV.d (.st (.pair .bool (.sl (.int .u32)))) (ag (1:Int))]|false=>none
theorem acd{rX:List RV}(hX:∃nX,KL (OO.k nX)=some rX):OO.Res 225 [] rX:=aO (t:=fun k=>KL k) (fun k=>show go2 Tryz.prog ft tys uq [] k 4000 (az 225 []) (.node 0)=KL k by kernel_rfl) hX
noncomputable def NG:Ctx:=⟨Tryz.prog,ft,tys,uq,[]⟩
def Ix(_k:KT)(x:Bool×List Int)(y:Bool×List Int):Option (List RV):=match decide (dK x y)with|true=>some [RV.d (.st (.pair .bool (.sl (.int .u32)))) (ag (ab x/ab y))]|false=>none
theorem ac2(x:Bool×List Int)(y:Bool×List Int){rX:List RV}(hX:∃nX,Ix (NG.k nX) x y=some rX):NG.Res 262 [.d (.st (.pair .bool (.sl (.int .u32)))) x,.d (.st (.pair .bool (.sl (.int .u32)))) y] rX:=aO (t:=fun k=>Ix k x y) (fun k=>show go2 Tryz.prog ft tys uq [] k 4000 (az 262 [.d (.st (.pair .bool (.sl (.int .u32)))) x,.d (.st (.pair .bool (.sl (.int .u32)))) y]) (.node 0)=Ix k x y by kernel_rfl) hX
theorem X3:Con Tryz.prog 225 [] [.d (.st (.pair .bool (.sl (.int .u32)))) (ag 1)]:=by
 refine Ctx.Res.con (C:=OO) (au wN) (acd ⟨0,?_⟩) (fn:=Tryz.f225) (by kernel_rfl) (by kernel_rfl)
 unfold KL
 rw[decide_eq_true (show bh 1 by decide)]
theorem Xv(x y:BI)(h:dK x y):Con Tryz.prog 262 [.d (.st (.pair .bool (.sl (.int .u32)))) x,.d (.st (.pair .bool (.sl (.int .u32)))) y] [.d (.st (.pair .bool (.sl (.int .u32)))) (ag (ab x/ab y))]:=by
 refine Ctx.Res.con (C:=NG) (au wN) (ac2 _ _ ⟨0,?_⟩) (fn:=Tryz.f262) (by kernel_rfl) (by kernel_rfl)
 unfold Ix
 rw[decide_eq_true h]
def pj:aL:=spN false false [] (fun _=>true) (fun _=>[RV.d (.st (.pair .bool (.sl (.int .u32)))) (ag 1)])
theorem n6:af Tryz.prog 225=true∧ao Tryz.prog 225 pj∧∀g,pj.mut_=some g→aK Tryz.prog 225 g:=aq (by kernel_rfl) fun _ _=>X3
def GE:aL:=spN false false [(.st (.pair .bool (.sl (.int .u32)))),(.st (.pair .bool (.sl (.int .u32))))] (fun x=>decide (dK x.1 x.2.1)) (fun x=>[RV.d (.st (.pair .bool (.sl (.int .u32)))) (ag (ab x.1/ab x.2.1))])
theorem N5:af Tryz.prog 262=true∧ao Tryz.prog 262 GE∧∀g,GE.mut_=some g→aK Tryz.prog 262 g:=aq (by kernel_rfl) fun x h=>Xv x.1 x.2.1 (of_decide_eq_true h)
def Fc:Env:=[(160,kA),(168,nm),(183,lQ),(222,kx),(254,nw),(184,nC),(287,tD),(261,Bq),(225,pj),(262,GE)]
theorem Mc:EnvAll Tryz.prog Fc:=⟨iG,lP,j8,io,lg,ln,rU,D1,n6,N5,trivial⟩
noncomputable def QH:Ctx:=⟨Tryz.prog,ft,tys,Fc,[]⟩
def KX(_k:KT)(x:Bool×List Int)(y:Bool×List Int):Option (List RV):=match decide (okI y)with|true=>(match decide ((b8 (ab y) 0)<0)with|true=>(match decide (okI x)with|true=>(match decide (okI y)with|true=>(match decide (okI (ag (-ab x))∧okI (ag (-ab y)))with|true=>(match decide (okI (ag ((Int.gcd (ab (ag (-ab x))) (ab (ag (-ab y))):Nat):Int))∧okI (ag 1))with|true=>(match(b8 (ab (ag ((Int.gcd (ab (ag (-ab x))) (ab (ag (-ab y))):Nat):Int))) (ab (ag 1))) !=0 with|true=>(match decide (dK (ag (-ab x)) (ag ((Int.gcd (ab (ag (-ab x))) (ab (ag (-ab y))):Nat):Int)))with|true=>(match decide (dK (ag (-ab y)) (ag ((Int.gcd (ab (ag (-ab x))) (ab (ag (-ab y))):Nat):Int)))with|true=>some [RV.d (.st (.pair (.st (.pair .bool (.sl (.int .u32)))) (.st (.pair .bool (.sl (.int .u32)))))) ((ag (ab (ag (-ab x))/ab (ag ((Int.gcd (ab (ag (-ab x))) (ab (ag (-ab y))):Nat):Int)))),(ag (ab (ag (-ab y))/ab (ag ((Int.gcd (ab (ag (-ab x))) (ab (ag (-ab y))):Nat):Int)))))]|false=>none)|false=>none)|false=>some [RV.d (.st (.pair (.st (.pair .bool (.sl (.int .u32)))) (.st (.pair .bool (.sl (.int .u32)))))) ((ag (-ab x)),(ag (-ab y)))])|false=>none)|false=>none)|false=>none)|false=>none)|false=>(match decide (okI x∧okI y)with|true=>(match decide (okI (ag ((Int.gcd (ab x) (ab y):Nat):Int))∧okI (ag 1))with|true=>(match(b8 (ab (ag ((Int.gcd (ab x) (ab y):Nat):Int))) (ab (ag 1))) !=0 with|true=>(match decide (dK x (ag ((Int.gcd (ab x) (ab y):Nat):Int)))with|true=>(match decide (dK y (ag ((Int.gcd (ab x) (ab y):Nat):Int)))with|true=>some [RV.d (.st (.pair (.st (.pair .bool (.sl (.int .u32)))) (.st (.pair .bool (.sl (.int .u32)))))) ((ag (ab x/ab (ag ((Int.gcd (ab x) (ab y):Nat):Int)))),(ag (ab y/ab (ag ((Int.gcd (ab x) (ab y):Nat):Int)))))]|false=>none)|false=>none)|false=>some [RV.d (.st (.pair (.st (.pair .bool (.sl (.int .u32)))) (.st (.pair .bool (.sl (.int .u32)))))) (x,y)])|false=>none)|false=>none))|false=>none
theorem ac4(x:Bool×List Int)(y:Bool×List Int){rX:List RV}(hX:∃nX,KX (QH.k nX) x y=some rX):QH.Res 221 [.d (.st (.pair .bool (.sl (.int .u32)))) x,.d (.st (.pair .bool (.sl (.int .u32)))) y] rX:=aO (t:=fun k=>KX k x y) (fun k=>show go2 Tryz.prog ft tys Fc [] k 4000 (az 221 [.d (.st (.pair .bool (.sl (.int .u32)))) x,.d (.st (.pair .bool (.sl (.int .u32)))) y]) (.node 0)=KX k x y by kernel_rfl) hX
theorem UT{a b:Int}(hb:b≠0){k:Nat}(h:szI b≤k):szI ((Int.gcd a b:Nat):Int)≤k:=by
 refine Nat.le_trans (cS ?_) h
 rw[Int.natAbs_natCast]
 exact Nat.le_of_dvd (by omega) (Nat.gcd_dvd_right a.natAbs b.natAbs)
theorem Zk(x y:BI)(h:fM x y):Con Tryz.prog 221 [.d (.st (.pair .bool (.sl (.int .u32)))) x,.d (.st (.pair .bool (.sl (.int .u32)))) y] [.d (.st (.pair (.st (.pair .bool (.sl (.int .u32)))) (.st (.pair .bool (.sl (.int .u32)))))) (dv x y)]:=by
 refine Ctx.Res.con (C:=QH) (au Mc) (ac4 _ _ ⟨0,?_⟩) (fn:=Tryz.f221) (by kernel_rfl) (by kernel_rfl)
 obtain⟨hx,hy,hne⟩:=h
 have sx:=ge hx
 have sy:=ge hy
 have hgp:0<Int.gcd (ab x) (ab y):=Nat.pos_of_ne_zero fun e=>hne (Int.gcd_eq_zero_iff.1 e).2
 have hgs:=UT (a:=ab x) hne sy
 unfold KX dv
 rw[decide_eq_true hy]
 dsimp only
 rcases Int.lt_or_lt_of_ne hne with hn|hn
 ·rw[cF hn,decide_eq_true (show(-1:Int)<0 by decide),decide_eq_true hx]
  have o1:okI (ag (-ab x)):=bj (by rw[gv];exact sx)
  have o2:okI (ag (-ab y)):=bj (by rw[gv];exact sy)
  simp only[dec_enc,Int.gcd_neg,Int.neg_gcd]
  have og:okI (ag ((Int.gcd (ab x) (ab y):Nat):Int)):=bj hgs
  rw[decide_eq_true (show okI (ag (-ab x))∧okI (ag (-ab y)) from⟨o1,o2⟩),decide_eq_true (show okI (ag ((Int.gcd (ab x) (ab y):Nat):Int))∧okI (ag 1) from⟨og,mf⟩)]
  rw[←Rat.neg_divInt_neg,kC (by omega),Int.gcd_neg,Int.neg_gcd]
  dsimp only
  by_cases h1:Int.gcd (ab x) (ab y)=1
  ·rw[h1]
   simp[cV]
  ·have hc:(b8 ((Int.gcd (ab x) (ab y):Nat):Int) 1 !=0)=true:=by
    rw[cz (by omega)];rfl
   rw[hc,decide_eq_true (show dK (ag (-ab x)) (ag ((Int.gcd (ab x) (ab y):Nat):Int)) from⟨o1,og,by rw[dec_enc];omega⟩),decide_eq_true (show dK (ag (-ab y)) (ag ((Int.gcd (ab x) (ab y):Nat):Int)) from⟨o2,og,by rw[dec_enc];omega⟩)]
 ·rw[cz hn,decide_eq_false (show ¬(1:Int)<0 by decide)]
  simp only[dec_enc]
  have og:okI (ag ((Int.gcd (ab x) (ab y):Nat):Int)):=bj hgs
  rw[decide_eq_true (show okI x∧okI y from⟨hx,hy⟩),decide_eq_true (show okI (ag ((Int.gcd (ab x) (ab y):Nat):Int))∧okI (ag 1) from⟨og,mf⟩),kC hn]
  dsimp only
  by_cases h1:Int.gcd (ab x) (ab y)=1
  ·rw[h1]
   simp only[Int.natCast_one,cV,Int.ediv_one,←fA hx,←fA hy]
   rfl
  ·have hc:(b8 ((Int.gcd (ab x) (ab y):Nat):Int) 1 !=0)=true:=by
    rw[cz (by omega)];rfl
   rw[hc,decide_eq_true (show dK x (ag ((Int.gcd (ab x) (ab y):Nat):Int)) from⟨hx,og,by rw[dec_enc];omega⟩),decide_eq_true (show dK y (ag ((Int.gcd (ab x) (ab y):Nat):Int)) from⟨hy,og,by rw[dec_enc];omega⟩)]
end Go.Proofs.YtlahabkjhgkkjaaGreat
namespace Go.Proofs.YtlahabkjhgkkjaaGreat
open Go.RowKit
def aQ(a b:Rat):Int:=bif decide (a<b)then-1 else bif decide (b<a)then 1 else 0
theorem cO{a b:Rat}(h:a<b):aQ a b= -1:=by unfold aQ;rw[decide_eq_true h];rfl
theorem cH{a b:Rat}(h:b<a):aQ a b=1:=by unfold aQ;rw[decide_eq_false (by grind),decide_eq_true h];rfl
theorem cY(a:Rat):aQ a a=0:=by unfold aQ;rw[decide_eq_false (by grind)];rfl
theorem sT(a b:Rat):b8 (a.num*(b.den:Int)) (b.num*(a.den:Int))=aQ a b:=by
 unfold b8 aQ
 rw[show decide (a.num*(b.den:Int)<b.num*(a.den:Int))=decide (a<b) from decide_eq_decide.2 (Rat.lt_iff a b).symm,show decide (b.num*(a.den:Int)<a.num*(b.den:Int))=decide (b<a) from decide_eq_decide.2 (Rat.lt_iff b a).symm]
theorem o0(a:Rat):b8 a.num 0=aQ a 0:=by
 rw[←sT]
 simp
def ur:aL:=spN false false [(.st (.pair .bool (.sl (.int .u32)))),(.st (.pair .bool (.sl (.int .u32))))] (fun x=>decide (fM x.1 x.2.1)) (fun x=>[RV.d (.st (.pair (.st (.pair .bool (.sl (.int .u32)))) (.st (.pair .bool (.sl (.int .u32)))))) (dv x.1 x.2.1)])
theorem sO:af Tryz.prog 221=true∧ao Tryz.prog 221 ur∧∀g,ur.mut_=some g→aK Tryz.prog 221 g:=aq (by kernel_rfl) fun x h=>Zk x.1 x.2.1 (of_decide_eq_true h)
def QI:NT:=[((182,3),{keep:=[0,1,8],hl:=0}),((182,5),{keep:=[0,1,5,10],hl:=0})]
noncomputable def NR:Ctx:=⟨Tryz.prog,ft,tys,[],QI⟩
def Kw(_k:KT)(x:Int)(y:Int):Option (List RV):=match x !=x with|true=>(match y !=y with|true=>some [RV.d (.int .i64) 0]|false=>some [RV.d (.int .i64) (-1)])|false=>(match y !=y with|true=>some [RV.d (.int .i64) 1]|false=>(match decide (x<y)with|true=>some [RV.d (.int .i64) (-1)]|false=>(match decide (x>y)with|true=>some [RV.d (.int .i64) 1]|false=>some [RV.d (.int .i64) 0])))
theorem adY(x:Int)(y:Int){rX:List RV}(hX:∃nX,Kw (NR.k nX) x y=some rX):NR.Res 182 [SI x,SI y] rX:=aO (t:=fun k=>Kw k x y) (fun k=>show go2 Tryz.prog ft tys [] QI k 4000 (az 182 [SI x,SI y]) (.node 0)=Kw k x y by kernel_rfl) hX
theorem YS(x y:Int):Con Tryz.prog 182 [.d (.int .i64) x,.d (.int .i64) y] [.d (.int .i64) (b8 x y)]:=by
 refine Ctx.Res.con (C:=NR) (au (E:=[]) trivial) (adY _ _ ⟨0,?_⟩) (fn:=Tryz.f182) (by kernel_rfl) (by kernel_rfl)
 unfold Kw
 rw[show(x !=x)=false by simp,show(y !=y)=false by simp]
 dsimp only
 rcases Int.lt_trichotomy x y with h|h|h
 ·rw[cF h,decide_eq_true h]
 ·subst h;rw[cV,decide_eq_false (show ¬x<x by omega)]
 ·rw[cz h,decide_eq_false (show ¬x<y by omega),decide_eq_true (show x>y from h)]
def ta:aL:=spN true false [(.int .i64),(.int .i64)] (fun _=>true) (fun x=>[RV.d (.int .i64) (b8 x.1 x.2.1)])
theorem ti:af Tryz.prog 182=true∧ao Tryz.prog 182 ta∧∀g,ta.mut_=some g→aK Tryz.prog 182 g:=aq (by kernel_rfl) fun x _=>YS x.1 x.2.1
def tM:Env:=[(160,kA),(168,nm),(183,lQ),(222,kx),(254,nw),(184,nC),(225,pj),(221,ur),(182,ta)]
theorem wQ:EnvAll Tryz.prog tM:=⟨iG,lP,j8,io,lg,ln,n6,sO,ti,trivial⟩
noncomputable def S5:Ctx:=⟨Tryz.prog,ft,tys,tM,[]⟩
def UL(_k:KT)(x:Bool×List Int):Option (List RV):=some [RV.d (.st (.pair (.st (.pair .bool (.sl (.int .u32)))) (.st (.pair .bool (.sl (.int .u32)))))) (x,(ag 1))]
theorem ab9(x:Bool×List Int){rX:List RV}(hX:∃nX,UL (S5.k nX) x=some rX):S5.Res 159 [.d (.st (.pair .bool (.sl (.int .u32)))) x] rX:=aO (t:=fun k=>UL k x) (fun k=>show go2 Tryz.prog ft tys tM [] k 4000 (az 159 [.d (.st (.pair .bool (.sl (.int .u32)))) x]) (.node 0)=UL k x by kernel_rfl) hX
theorem XP(x:BI):Con Tryz.prog 159 [.d (.st (.pair .bool (.sl (.int .u32)))) x] [.d (.st (.pair (.st (.pair .bool (.sl (.int .u32)))) (.st (.pair .bool (.sl (.int .u32)))))) (x,ag 1)]:=
 Ctx.Res.con (C:=S5) (au wQ) (ab9 _ ⟨0,rfl⟩) (fn:=Tryz.f159) (by kernel_rfl) (by kernel_rfl)
def yg:aL:=spN false false [(.st (.pair .bool (.sl (.int .u32))))] (fun _=>true) (fun x=>[RV.d (.st (.pair (.st (.pair .bool (.sl (.int .u32)))) (.st (.pair .bool (.sl (.int .u32)))))) (x.1,ag 1)])
theorem BN:af Tryz.prog 159=true∧ao Tryz.prog 159 yg∧∀g,yg.mut_=some g→aK Tryz.prog 159 g:=aq (by kernel_rfl) fun x _=>XP x.1
noncomputable def RC:Ctx:=⟨Tryz.prog,ft,tys,tM,[]⟩
def Kr(_k:KT)(a:(Bool×List Int)×Bool×List Int):Option (List RV):=match decide (okI a.1)with|true=>some [RV.d (.int .i64) (b8 (ab a.1) 0)]|false=>none
theorem aez(a:(Bool×List Int)×Bool×List Int){rX:List RV}(hX:∃nX,Kr (RC.k nX) a=some rX):RC.Res 83 [.d (.st (.pair (.st (.pair .bool (.sl (.int .u32)))) (.st (.pair .bool (.sl (.int .u32)))))) a] rX:=aO (t:=fun k=>Kr k a) (fun k=>show go2 Tryz.prog ft tys tM [] k 4000 (az 83 [.d (.st (.pair (.st (.pair .bool (.sl (.int .u32)))) (.st (.pair .bool (.sl (.int .u32)))))) a]) (.node 0)=Kr k a by kernel_rfl) hX
theorem IY(a:BR)(h:okR a):Con Tryz.prog 83 [.d (.st (.pair (.st (.pair .bool (.sl (.int .u32)))) (.st (.pair .bool (.sl (.int .u32)))))) a] [.d (.int .i64) (aQ (aa a) 0)]:=by
 refine Ctx.Res.con (C:=RC) (au wQ) (aez _ ⟨0,?_⟩) (fn:=Tryz.f83) (by kernel_rfl) (by kernel_rfl)
 unfold Kr
 rw[decide_eq_true h.1,←o0,(cr h).1]
def xq:aL:=spN true false [(.st (.pair (.st (.pair .bool (.sl (.int .u32)))) (.st (.pair .bool (.sl (.int .u32))))))] (fun x=>decide (okR x.1)) (fun x=>[RV.d (.int .i64) (aQ (aa x.1) 0)])
theorem Ca:af Tryz.prog 83=true∧ao Tryz.prog 83 xq∧∀g,xq.mut_=some g→aK Tryz.prog 83 g:=aq (by kernel_rfl) fun x h=>IY x.1 (of_decide_eq_true h)
def ew:Env:=[(160,kA),(168,nm),(183,lQ),(222,kx),(254,nw),(184,nC),(225,pj),(221,ur),(182,ta),(159,yg),(83,xq)]
theorem f0:EnvAll Tryz.prog ew:=⟨iG,lP,j8,io,lg,ln,n6,sO,ti,BN,Ca,trivial⟩
noncomputable def OY:Ctx:=⟨Tryz.prog,ft,tys,ew,[]⟩
def Ja(_k:KT)(n:Int):Option (List RV):=match decide (bh n)with|true=>some [RV.d (.st (.pair (.st (.pair .bool (.sl (.int .u32)))) (.st (.pair .bool (.sl (.int .u32)))))) ((ag n),(ag 1))]|false=>none
theorem adq(n:Int){rX:List RV}(hX:∃nX,Ja (OY.k nX) n=some rX):OY.Res 76 [SI n] rX:=aO (t:=fun k=>Ja k n) (fun k=>show go2 Tryz.prog ft tys ew [] k 4000 (az 76 [SI n]) (.node 0)=Ja k n by kernel_rfl) hX
noncomputable def Vq:Ctx:=⟨Tryz.prog,ft,tys,ew,[]⟩
def JK(_k:KT)(a:(Bool×List Int)×Bool×List Int)(b:(Bool×List Int)×Bool×List Int):Option (List RV):=match decide (okR a)with|true=>(match decide (okR b)with|true=>(match(b8 (aQ (aa a) 0) (aQ (aa b) 0)) !=0 with|true=>some [RV.d (.int .i64) (b8 (aQ (aa a) 0) (aQ (aa b) 0))]|false=>(match decide (okI a.1∧okI b.2)with|true=>(match decide (okI b.1∧okI a.2)with|true=>(match decide (okI (ag (ab a.1*ab b.2))∧okI (ag (ab b.1*ab a.2)))with|true=>some [RV.d (.int .i64) (b8 (ab (ag (ab a.1*ab b.2))) (ab (ag (ab b.1*ab a.2))))]|false=>none)|false=>none)|false=>none))|false=>none)|false=>none
theorem acw(a:(Bool×List Int)×Bool×List Int)(b:(Bool×List Int)×Bool×List Int){rX:List RV}(hX:∃nX,JK (Vq.k nX) a b=some rX):Vq.Res 99 [.d (.st (.pair (.st (.pair .bool (.sl (.int .u32)))) (.st (.pair .bool (.sl (.int .u32)))))) a,.d (.st (.pair (.st (.pair .bool (.sl (.int .u32)))) (.st (.pair .bool (.sl (.int .u32)))))) b] rX:=aO (t:=fun k=>JK k a b) (fun k=>show go2 Tryz.prog ft tys ew [] k 4000 (az 99 [.d (.st (.pair (.st (.pair .bool (.sl (.int .u32)))) (.st (.pair .bool (.sl (.int .u32)))))) a,.d (.st (.pair (.st (.pair .bool (.sl (.int .u32)))) (.st (.pair .bool (.sl (.int .u32)))))) b]) (.node 0)=JK k a b by kernel_rfl) hX
noncomputable def Qn:Ctx:=⟨Tryz.prog,ft,tys,ew,[]⟩
def Ka(_k:KT)(a:(Bool×List Int)×Bool×List Int)(b:(Bool×List Int)×Bool×List Int):Option (List RV):=match decide (okI a.2∧okI b.2)with|true=>(match(b8 (ab a.2) (ab b.2))==0 with|true=>(match decide (okI a.1∧okI b.1)with|true=>(match decide (fM (ag (ab a.1+ab b.1)) a.2)with|true=>some [RV.d (.st (.pair (.st (.pair .bool (.sl (.int .u32)))) (.st (.pair .bool (.sl (.int .u32)))))) (((dv (ag (ab a.1+ab b.1)) a.2).1),((dv (ag (ab a.1+ab b.1)) a.2).2))]|false=>none)|false=>none)|false=>(match decide (okI a.1∧okI b.2)with|true=>(match decide (okI b.1∧okI a.2)with|true=>(match decide (okI (ag (ab a.1*ab b.2))∧okI (ag (ab b.1*ab a.2)))with|true=>(match decide (okI a.2∧okI b.2)with|true=>(match decide (fM (ag (ab (ag (ab a.1*ab b.2))+ab (ag (ab b.1*ab a.2)))) (ag (ab a.2*ab b.2)))with|true=>some [RV.d (.st (.pair (.st (.pair .bool (.sl (.int .u32)))) (.st (.pair .bool (.sl (.int .u32)))))) (((dv (ag (ab (ag (ab a.1*ab b.2))+ab (ag (ab b.1*ab a.2)))) (ag (ab a.2*ab b.2))).1),((dv (ag (ab (ag (ab a.1*ab b.2))+ab (ag (ab b.1*ab a.2)))) (ag (ab a.2*ab b.2))).2))]|false=>none)|false=>none)|false=>none)|false=>none)|false=>none))|false=>none
theorem ac7(a:(Bool×List Int)×Bool×List Int)(b:(Bool×List Int)×Bool×List Int){rX:List RV}(hX:∃nX,Ka (Qn.k nX) a b=some rX):Qn.Res 149 [.d (.st (.pair (.st (.pair .bool (.sl (.int .u32)))) (.st (.pair .bool (.sl (.int .u32)))))) a,.d (.st (.pair (.st (.pair .bool (.sl (.int .u32)))) (.st (.pair .bool (.sl (.int .u32)))))) b] rX:=aO (t:=fun k=>Ka k a b) (fun k=>show go2 Tryz.prog ft tys ew [] k 4000 (az 149 [.d (.st (.pair (.st (.pair .bool (.sl (.int .u32)))) (.st (.pair .bool (.sl (.int .u32)))))) a,.d (.st (.pair (.st (.pair .bool (.sl (.int .u32)))) (.st (.pair .bool (.sl (.int .u32)))))) b]) (.node 0)=Ka k a b by kernel_rfl) hX
noncomputable def RQ:Ctx:=⟨Tryz.prog,ft,tys,ew,[]⟩
def Ld(_k:KT)(a:(Bool×List Int)×Bool×List Int):Option (List RV):=match decide (okI a.1)with|true=>some [RV.d (.st (.pair (.st (.pair .bool (.sl (.int .u32)))) (.st (.pair .bool (.sl (.int .u32)))))) ((ag (-ab a.1)),a.2)]|false=>none
theorem adL(a:(Bool×List Int)×Bool×List Int){rX:List RV}(hX:∃nX,Ld (RQ.k nX) a=some rX):RQ.Res 202 [.d (.st (.pair (.st (.pair .bool (.sl (.int .u32)))) (.st (.pair .bool (.sl (.int .u32)))))) a] rX:=aO (t:=fun k=>Ld k a) (fun k=>show go2 Tryz.prog ft tys ew [] k 4000 (az 202 [.d (.st (.pair (.st (.pair .bool (.sl (.int .u32)))) (.st (.pair .bool (.sl (.int .u32)))))) a]) (.node 0)=Ld k a by kernel_rfl) hX
noncomputable def Qq:Ctx:=⟨Tryz.prog,ft,tys,ew,[]⟩
def Lc(_k:KT)(a:(Bool×List Int)×Bool×List Int)(b:(Bool×List Int)×Bool×List Int):Option (List RV):=match decide (okI a.1∧okI b.1)with|true=>(match decide (okI a.2∧okI b.2)with|true=>(match decide (fM (ag (ab a.1*ab b.1)) (ag (ab a.2*ab b.2)))with|true=>some [RV.d (.st (.pair (.st (.pair .bool (.sl (.int .u32)))) (.st (.pair .bool (.sl (.int .u32)))))) (((dv (ag (ab a.1*ab b.1)) (ag (ab a.2*ab b.2))).1),((dv (ag (ab a.1*ab b.1)) (ag (ab a.2*ab b.2))).2))]|false=>none)|false=>none)|false=>none
theorem aej(a:(Bool×List Int)×Bool×List Int)(b:(Bool×List Int)×Bool×List Int){rX:List RV}(hX:∃nX,Lc (Qq.k nX) a b=some rX):Qq.Res 148 [.d (.st (.pair (.st (.pair .bool (.sl (.int .u32)))) (.st (.pair .bool (.sl (.int .u32)))))) a,.d (.st (.pair (.st (.pair .bool (.sl (.int .u32)))) (.st (.pair .bool (.sl (.int .u32)))))) b] rX:=aO (t:=fun k=>Lc k a b) (fun k=>show go2 Tryz.prog ft tys ew [] k 4000 (az 148 [.d (.st (.pair (.st (.pair .bool (.sl (.int .u32)))) (.st (.pair .bool (.sl (.int .u32)))))) a,.d (.st (.pair (.st (.pair .bool (.sl (.int .u32)))) (.st (.pair .bool (.sl (.int .u32)))))) b]) (.node 0)=Lc k a b by kernel_rfl) hX
noncomputable def U9:Ctx:=⟨Tryz.prog,ft,tys,ew,[]⟩
def Kd(_k:KT)(a:(Bool×List Int)×Bool×List Int)(b:(Bool×List Int)×Bool×List Int):Option (List RV):=match decide (okR b)with|true=>(match(aQ (aa b) 0)==0 with|true=>some [RV.d (.st (.pair (.st (.pair .bool (.sl (.int .u32)))) (.st (.pair .bool (.sl (.int .u32)))))) ((false,[]),(false,[])),RV.d (.int .i64) 6]|false=>(match decide (okI a.1∧okI b.2)with|true=>(match decide (okI a.2∧okI b.1)with|true=>(match decide (fM (ag (ab a.1*ab b.2)) (ag (ab a.2*ab b.1)))with|true=>some [RV.d (.st (.pair (.st (.pair .bool (.sl (.int .u32)))) (.st (.pair .bool (.sl (.int .u32)))))) (((dv (ag (ab a.1*ab b.2)) (ag (ab a.2*ab b.1))).1),((dv (ag (ab a.1*ab b.2)) (ag (ab a.2*ab b.1))).2)),RV.d (.int .i64) 0]|false=>none)|false=>none)|false=>none))|false=>none
theorem acY(a:(Bool×List Int)×Bool×List Int)(b:(Bool×List Int)×Bool×List Int){rX:List RV}(hX:∃nX,Kd (U9.k nX) a b=some rX):U9.Res 170 [.d (.st (.pair (.st (.pair .bool (.sl (.int .u32)))) (.st (.pair .bool (.sl (.int .u32)))))) a,.d (.st (.pair (.st (.pair .bool (.sl (.int .u32)))) (.st (.pair .bool (.sl (.int .u32)))))) b] rX:=aO (t:=fun k=>Kd k a b) (fun k=>show go2 Tryz.prog ft tys ew [] k 4000 (az 170 [.d (.st (.pair (.st (.pair .bool (.sl (.int .u32)))) (.st (.pair .bool (.sl (.int .u32)))))) a,.d (.st (.pair (.st (.pair .bool (.sl (.int .u32)))) (.st (.pair .bool (.sl (.int .u32)))))) b]) (.node 0)=Kd k a b by kernel_rfl) hX
theorem V0(n:Int)(h:bh n):Con Tryz.prog 76 [.d (.int .i64) n] [.d (.st (.pair (.st (.pair .bool (.sl (.int .u32)))) (.st (.pair .bool (.sl (.int .u32)))))) (ae (n:Rat))]:=by
 refine Ctx.Res.con (C:=OY) (au f0) (adq _ ⟨0,?_⟩) (fn:=Tryz.f76) (by kernel_rfl) (by kernel_rfl)
 unfold Ja ae
 rw[decide_eq_true h,Rat.num_intCast,Rat.den_intCast]
 rfl
theorem eH{a:BR}(h:okR a):szI (ab a.1)≤480000∧szI (ab a.2)≤480000:=by
 have h1:=zd h
 obtain⟨e1,e2⟩:=cr h
 unfold bdR at h1
 rw[e1,e2]at h1
 exact h1
theorem MO(a b:Rat):(b8 (aQ a 0) (aQ b 0)≠0→b8 (aQ a 0) (aQ b 0)=aQ a b):=by
 rcases(by grind:a<0∨a=0∨0<a)with h1|h1|h1<;>rcases(by grind:b<0∨b=0∨0<b)with h2|h2|h2
 ·rw[cO h1,cO h2];intro h;exact absurd (cV _) h
 ·rw[cO h1,h2,cY,cO h1];intro;rfl
 ·rw[cO h1,cH h2,cO (by grind)];intro;rfl
 ·rw[h1,cY,cO h2,cH h2];intro;rfl
 ·rw[h1,h2,cY];intro h;exact absurd (cV _) h
 ·rw[h1,cY,cH h2,cO h2];intro;rfl
 ·rw[cH h1,cO h2,cH (by grind)];intro;rfl
 ·rw[cH h1,h2,cY,cH h1];intro;rfl
 ·rw[cH h1,cH h2];intro h;exact absurd (cV _) h
theorem XQ(a b:BR)(h:okR a∧okR b):Con Tryz.prog 99 [.d (.st (.pair (.st (.pair .bool (.sl (.int .u32)))) (.st (.pair .bool (.sl (.int .u32)))))) a,.d (.st (.pair (.st (.pair .bool (.sl (.int .u32)))) (.st (.pair .bool (.sl (.int .u32)))))) b] [.d (.int .i64) (aQ (aa a) (aa b))]:=by
 refine Ctx.Res.con (C:=Vq) (au f0) (acw _ _ ⟨0,?_⟩) (fn:=Tryz.f99) (by kernel_rfl) (by kernel_rfl)
 obtain⟨ha,hb⟩:=h
 obtain⟨a1,a2⟩:=cr ha
 obtain⟨b1,b2⟩:=cr hb
 obtain⟨sa1,sa2⟩:=eH ha
 obtain⟨sb1,sb2⟩:=eH hb
 have h1:=cD sa1 sb2
 have h2:=cD sb1 sa2
 unfold JK
 rw[decide_eq_true ha,decide_eq_true hb]
 dsimp only
 have hs:=MO (aa a) (aa b)
 by_cases hc:b8 (aQ (aa a) 0) (aQ (aa b) 0)=0
 ·rw[hc,decide_eq_true (show okI a.1∧okI b.2 from⟨ha.1,hb.2.1⟩),decide_eq_true (show okI b.1∧okI a.2 from⟨hb.1,ha.2.1⟩),decide_eq_true (show okI (ag (ab a.1*ab b.2))∧okI (ag (ab b.1*ab a.2)) from⟨bj (by omega),bj (by omega)⟩),dec_enc,dec_enc,←a1,←a2,←b1,←b2,sT]
  rfl
 ·rw[show(b8 (aQ (aa a) 0) (aQ (aa b) 0) !=0)=true by simpa using hc,hs hc]
theorem JF(a:BR)(h:okR a):Con Tryz.prog 202 [.d (.st (.pair (.st (.pair .bool (.sl (.int .u32)))) (.st (.pair .bool (.sl (.int .u32)))))) a] [.d (.st (.pair (.st (.pair .bool (.sl (.int .u32)))) (.st (.pair .bool (.sl (.int .u32)))))) (ae (-aa a))]:=by
 refine Ctx.Res.con (C:=RQ) (au f0) (adL _ ⟨0,?_⟩) (fn:=Tryz.f202) (by kernel_rfl) (by kernel_rfl)
 obtain⟨a1,a2⟩:=cr h
 unfold Ld
 have e:ae (-aa a)=(ag (-ab a.1),a.2):=by
  unfold ae
  rw[Rat.neg_num,a1,show((-aa a).den:Int)=((aa a).den:Int) from rfl,a2,←fA h.2.1]
 rw[decide_eq_true h.1,e]
theorem K0(a b:BR)(h:okR a∧okR b):Con Tryz.prog 149 [.d (.st (.pair (.st (.pair .bool (.sl (.int .u32)))) (.st (.pair .bool (.sl (.int .u32)))))) a,.d (.st (.pair (.st (.pair .bool (.sl (.int .u32)))) (.st (.pair .bool (.sl (.int .u32)))))) b] [.d (.st (.pair (.st (.pair .bool (.sl (.int .u32)))) (.st (.pair .bool (.sl (.int .u32)))))) (ae (aa a+aa b))]:=by
 refine Ctx.Res.con (C:=Qn) (au f0) (ac7 _ _ ⟨0,?_⟩) (fn:=Tryz.f149) (by kernel_rfl) (by kernel_rfl)
 obtain⟨ha,hb⟩:=h
 obtain⟨a1,a2⟩:=cr ha
 obtain⟨b1,b2⟩:=cr hb
 obtain⟨sa1,sa2⟩:=eH ha
 obtain⟨sb1,sb2⟩:=eH hb
 have pa:=ha.2.2.1
 have pb:=hb.2.2.1
 have h1:=cD sa1 sb2
 have h2:=cD sb1 sa2
 have h3:=cD sa2 sb2
 have h4:=qY h1 h2
 have h5:=qY sa1 sb1
 have hda:aa a=Rat.divInt (ab a.1) (ab a.2):=by rw[←a1,←a2,Rat.num_divInt_den]
 have hdb:aa b=Rat.divInt (ab b.1) (ab b.2):=by rw[←b1,←b2,Rat.num_divInt_den]
 unfold Ka
 rw[decide_eq_true (show okI a.2∧okI b.2 from⟨ha.2.1,hb.2.1⟩)]
 dsimp only
 by_cases hc:ab a.2=ab b.2
 ·rw[hc,cV,decide_eq_true (show okI a.1∧okI b.1 from⟨ha.1,hb.1⟩)]
  rw[decide_eq_true (show fM (ag (ab a.1+ab b.1)) a.2 from⟨bj (by omega),ha.2.1,by omega⟩)]
  have e:dv (ag (ab a.1+ab b.1)) a.2=ae (aa a+aa b):=by
   unfold dv
   rw[dec_enc,hda,hdb,←hc,Rat.divInt_eq_div,Rat.divInt_eq_div,Rat.divInt_eq_div,Rat.intCast_add]
   congr 1
   grind
  rw[e]
  rfl
 ·have hcm:(b8 (ab a.2) (ab b.2)==0)=false:=by
   rcases Int.lt_or_lt_of_ne hc with h|h
   ·rw[cF h];rfl
   ·rw[cz h];rfl
  rw[hcm,decide_eq_true (show okI a.1∧okI b.2 from⟨ha.1,hb.2.1⟩),decide_eq_true (show okI b.1∧okI a.2 from⟨hb.1,ha.2.1⟩),decide_eq_true (show okI (ag (ab a.1*ab b.2))∧okI (ag (ab b.1*ab a.2)) from⟨bj (by omega),bj (by omega)⟩)]
  simp only[dec_enc]
  rw[decide_eq_true (show fM (ag (ab a.1*ab b.2+ab b.1*ab a.2)) (ag (ab a.2*ab b.2)) from⟨bj (by omega),bj (by omega),by rw[dec_enc];exact Int.mul_ne_zero (by omega) (by omega)⟩)]
  have e:dv (ag (ab a.1*ab b.2+ab b.1*ab a.2)) (ag (ab a.2*ab b.2))=ae (aa a+aa b):=by
   unfold dv
   rw[dec_enc,dec_enc,hda,hdb,Rat.divInt_add_divInt _ _ (by omega) (by omega)]
  rw[e]
theorem XG(a b:BR)(h:okR a∧okR b):Con Tryz.prog 148 [.d (.st (.pair (.st (.pair .bool (.sl (.int .u32)))) (.st (.pair .bool (.sl (.int .u32)))))) a,.d (.st (.pair (.st (.pair .bool (.sl (.int .u32)))) (.st (.pair .bool (.sl (.int .u32)))))) b] [.d (.st (.pair (.st (.pair .bool (.sl (.int .u32)))) (.st (.pair .bool (.sl (.int .u32)))))) (ae (aa a*aa b))]:=by
 refine Ctx.Res.con (C:=Qq) (au f0) (aej _ _ ⟨0,?_⟩) (fn:=Tryz.f148) (by kernel_rfl) (by kernel_rfl)
 obtain⟨ha,hb⟩:=h
 obtain⟨a1,a2⟩:=cr ha
 obtain⟨b1,b2⟩:=cr hb
 obtain⟨sa1,sa2⟩:=eH ha
 obtain⟨sb1,sb2⟩:=eH hb
 have pa:=ha.2.2.1
 have pb:=hb.2.2.1
 have h1:=cD sa1 sb1
 have h3:=cD sa2 sb2
 have hda:aa a=Rat.divInt (ab a.1) (ab a.2):=by rw[←a1,←a2,Rat.num_divInt_den]
 have hdb:aa b=Rat.divInt (ab b.1) (ab b.2):=by rw[←b1,←b2,Rat.num_divInt_den]
 unfold Lc
 rw[decide_eq_true (show okI a.1∧okI b.1 from⟨ha.1,hb.1⟩),decide_eq_true (show okI a.2∧okI b.2 from⟨ha.2.1,hb.2.1⟩),decide_eq_true (show fM (ag (ab a.1*ab b.1)) (ag (ab a.2*ab b.2)) from⟨bj (by omega),bj (by omega),by rw[dec_enc];exact Int.mul_ne_zero (by omega) (by omega)⟩)]
 have e:dv (ag (ab a.1*ab b.1)) (ag (ab a.2*ab b.2))=ae (aa a*aa b):=by
  unfold dv
  rw[dec_enc,dec_enc,hda,hdb,Rat.divInt_mul_divInt]
 rw[e]
def gh(a b:BR):Prop:=okR a∧okR b∧ab b.1≠0
instance (a b:BR):Decidable (gh a b):=by unfold gh;infer_instance
theorem Wf(a b:BR)(h:gh a b):Con Tryz.prog 170 [.d (.st (.pair (.st (.pair .bool (.sl (.int .u32)))) (.st (.pair .bool (.sl (.int .u32)))))) a,.d (.st (.pair (.st (.pair .bool (.sl (.int .u32)))) (.st (.pair .bool (.sl (.int .u32)))))) b] [.d (.st (.pair (.st (.pair .bool (.sl (.int .u32)))) (.st (.pair .bool (.sl (.int .u32)))))) (ae (aa a/aa b)),.d (.int .i64) 0]:=by
 refine Ctx.Res.con (C:=U9) (au f0) (acY _ _ ⟨0,?_⟩) (fn:=Tryz.f170) (by kernel_rfl) (by kernel_rfl)
 obtain⟨ha,hb,hne⟩:=h
 obtain⟨a1,a2⟩:=cr ha
 obtain⟨b1,b2⟩:=cr hb
 obtain⟨sa1,sa2⟩:=eH ha
 obtain⟨sb1,sb2⟩:=eH hb
 have pa:=ha.2.2.1
 have h1:=cD sa1 sb2
 have h3:=cD sa2 sb1
 have hda:aa a=Rat.divInt (ab a.1) (ab a.2):=by rw[←a1,←a2,Rat.num_divInt_den]
 have hdb:aa b=Rat.divInt (ab b.1) (ab b.2):=by rw[←b1,←b2,Rat.num_divInt_den]
 have hnz:(aQ (aa b) 0==0)=false:=by
  rw[←o0,b1]
  rcases Int.lt_or_lt_of_ne hne with h|h
  ·rw[cF h];rfl
  ·rw[cz h];rfl
 unfold Kd
 rw[decide_eq_true hb,hnz,decide_eq_true (show okI a.1∧okI b.2 from⟨ha.1,hb.2.1⟩),decide_eq_true (show okI a.2∧okI b.1 from⟨ha.2.1,hb.1⟩),decide_eq_true (show fM (ag (ab a.1*ab b.2)) (ag (ab a.2*ab b.1)) from⟨bj (by omega),bj (by omega),by rw[dec_enc];exact Int.mul_ne_zero (by omega) hne⟩)]
 have e:dv (ag (ab a.1*ab b.2)) (ag (ab a.2*ab b.1))=ae (aa a/aa b):=by
  unfold dv
  rw[dec_enc,dec_enc,hda,hdb,Rat.div_def,Rat.inv_divInt,Rat.divInt_mul_divInt]
 rw[e]
def F5:aL:=spN false false [(.st (.pair (.st (.pair .bool (.sl (.int .u32)))) (.st (.pair .bool (.sl (.int .u32)))))),(.st (.pair (.st (.pair .bool (.sl (.int .u32)))) (.st (.pair .bool (.sl (.int .u32))))))] (fun x=>decide (okR x.1∧okR x.2.1)) (fun x=>[RV.d (.st (.pair (.st (.pair .bool (.sl (.int .u32)))) (.st (.pair .bool (.sl (.int .u32)))))) (ae (aa x.1+aa x.2.1))])
theorem TU:af Tryz.prog 149=true∧ao Tryz.prog 149 F5∧∀g,F5.mut_=some g→aK Tryz.prog 149 g:=aq (by kernel_rfl) fun x h=>K0 x.1 x.2.1 (of_decide_eq_true h)
def GU:aL:=spN false false [(.st (.pair (.st (.pair .bool (.sl (.int .u32)))) (.st (.pair .bool (.sl (.int .u32))))))] (fun x=>decide (okR x.1)) (fun x=>[RV.d (.st (.pair (.st (.pair .bool (.sl (.int .u32)))) (.st (.pair .bool (.sl (.int .u32)))))) (ae (-aa x.1))])
theorem TR:af Tryz.prog 202=true∧ao Tryz.prog 202 GU∧∀g,GU.mut_=some g→aK Tryz.prog 202 g:=aq (by kernel_rfl) fun x h=>JF x.1 (of_decide_eq_true h)
def zJ:Env:=[(160,kA),(168,nm),(183,lQ),(222,kx),(254,nw),(184,nC),(225,pj),(221,ur),(182,ta),(159,yg),(83,xq),(149,F5),(202,GU)]
theorem Gp:EnvAll Tryz.prog zJ:=⟨iG,lP,j8,io,lg,ln,n6,sO,ti,BN,Ca,TU,TR,trivial⟩
noncomputable def SQ:Ctx:=⟨Tryz.prog,ft,tys,zJ,[]⟩
def IQ(_k:KT)(a:(Bool×List Int)×Bool×List Int)(b:(Bool×List Int)×Bool×List Int):Option (List RV):=match decide (okR b)with|true=>(match decide (okR a∧okR (ae (-aa b)))with|true=>some [RV.d (.st (.pair (.st (.pair .bool (.sl (.int .u32)))) (.st (.pair .bool (.sl (.int .u32)))))) (((ae (aa a+aa (ae (-aa b)))).1),((ae (aa a+aa (ae (-aa b)))).2))]|false=>none)|false=>none
theorem aeI(a:(Bool×List Int)×Bool×List Int)(b:(Bool×List Int)×Bool×List Int){rX:List RV}(hX:∃nX,IQ (SQ.k nX) a b=some rX):SQ.Res 147 [.d (.st (.pair (.st (.pair .bool (.sl (.int .u32)))) (.st (.pair .bool (.sl (.int .u32)))))) a,.d (.st (.pair (.st (.pair .bool (.sl (.int .u32)))) (.st (.pair .bool (.sl (.int .u32)))))) b] rX:=aO (t:=fun k=>IQ k a b) (fun k=>show go2 Tryz.prog ft tys zJ [] k 4000 (az 147 [.d (.st (.pair (.st (.pair .bool (.sl (.int .u32)))) (.st (.pair .bool (.sl (.int .u32)))))) a,.d (.st (.pair (.st (.pair .bool (.sl (.int .u32)))) (.st (.pair .bool (.sl (.int .u32)))))) b]) (.node 0)=IQ k a b by kernel_rfl) hX
theorem Wj(a b:BR)(h:okR a∧okR b):Con Tryz.prog 147 [.d (.st (.pair (.st (.pair .bool (.sl (.int .u32)))) (.st (.pair .bool (.sl (.int .u32)))))) a,.d (.st (.pair (.st (.pair .bool (.sl (.int .u32)))) (.st (.pair .bool (.sl (.int .u32)))))) b] [.d (.st (.pair (.st (.pair .bool (.sl (.int .u32)))) (.st (.pair .bool (.sl (.int .u32)))))) (ae (aa a-aa b))]:=by
 refine Ctx.Res.con (C:=SQ) (au Gp) (aeI _ _ ⟨0,?_⟩) (fn:=Tryz.f147) (by kernel_rfl) (by kernel_rfl)
 obtain⟨ha,hb⟩:=h
 unfold IQ
 rw[decide_eq_true hb,aw,Rat.sub_eq_add_neg,decide_eq_true (show okR a∧okR (ae (-aa b)) from⟨ha,mS (rz (zd hb)) (Nat.le_refl _)⟩)]
end Go.Proofs.YtlahabkjhgkkjaaGreat
namespace Go.Proofs.YtlahabkjhgkkjaaGreat
namespace RL
theorem ia{x y B e:Rat}(h1:x<B)(h2: -B<x)(h3:y<e)(h4: -e<y):x*y<B*e:=by
 have p:=Rat.mul_pos (a:=B-x) (b:=e+y) (by grind) (by grind)
 have q:=Rat.mul_pos (a:=B+x) (b:=e-y) (by grind) (by grind)
 grind
theorem Zp{e:Rat}(h:0<e):0<e/2:=by grind
theorem vW{e B:Rat}(h:0<e)(hB:0<B):∃d,0<d∧B*d+B*d<e:=by
 refine⟨e/(4*B),?_,?_⟩
 ·exact Rat.mul_pos h (Rat.inv_pos.2 (by grind))
 ·have:B*(e/(4*B))=e/4:=by grind
  grind
structure CS where
 f:Nat→Rat
 cau:∀e:Rat,0<e→∃N,∀m n,N≤m→N≤n→f m-f n<e
theorem CS.bd(a:CS):∃B:Rat,0<B∧∃N,∀n,N≤n→ -B<a.f n∧a.f n<B:=by
 obtain⟨N,h⟩:=a.cau 1 (by grind)
 refine⟨(if 0≤a.f N then a.f N else-a.f N)+1,?_,N,fun n hn=>?_⟩
 ·split<;>grind
 ·have h1:=h n N hn (Nat.le_refl _)
  have h2:=h N n (Nat.le_refl _) hn
  split<;>grind
def add(a b:CS):CS:=⟨fun n=>a.f n+b.f n,fun e he=>by
 obtain⟨N,h⟩:=a.cau (e/2) (by grind)
 obtain⟨M,h'⟩:=b.cau (e/2) (by grind)
 refine⟨max N M,fun m n hm hn=>?_⟩
 have:=h m n (by omega) (by omega)
 have:=h' m n (by omega) (by omega)
 grind⟩
def neg(a:CS):CS:=⟨fun n=> -a.f n,fun e he=>by
 obtain⟨N,h⟩:=a.cau e he
 exact⟨N,fun m n hm hn=>by have:=h n m hn hm;grind⟩⟩
theorem QG(a b:CS)(e:Rat)(he:0<e):∃N,∀m n,N≤m→N≤n→a.f m*b.f m-a.f n*b.f n<e:=by
 obtain⟨A,hA,N1,h1⟩:=a.bd
 obtain⟨B,hB,N2,h2⟩:=b.bd
 obtain⟨d,hd,hd'⟩:=vW (e:=e) (B:=A+B) he (by grind)
 obtain⟨N3,h3⟩:=a.cau d hd
 obtain⟨N4,h4⟩:=b.cau d hd
 refine⟨max (max N1 N2) (max N3 N4),fun m n hm hn=>?_⟩
 have a1:=h1 m (by omega)
 have b1:=h2 n (by omega)
 have p:=ia a1.2 a1.1 (h4 m n (by omega) (by omega)) (by have:=h4 n m (by omega) (by omega);grind)
 have q:=ia b1.2 b1.1 (h3 m n (by omega) (by omega)) (by have:=h3 n m (by omega) (by omega);grind)
 have r:=Rat.mul_pos hA hd
 have s:=Rat.mul_pos hB hd
 grind
def mul(a b:CS):CS:=⟨fun n=>a.f n*b.f n,QG a b⟩
def eqv(a b:CS):Prop:=∀e:Rat,0<e→∃N,∀n,N≤n→a.f n-b.f n<e∧b.f n-a.f n<e
instance st:Setoid CS where
 r:=eqv
 iseqv:=⟨fun a e he=>⟨0,fun n _=>by grind⟩,fun h e he=>by
   obtain⟨N,h⟩:=h e he
   exact⟨N,fun n hn=>⟨(h n hn).2,(h n hn).1⟩⟩,
  fun h h' e he=>by
   obtain⟨N,h⟩:=h (e/2) (by grind)
   obtain⟨M,h'⟩:=h' (e/2) (by grind)
   refine⟨max N M,fun n hn=>?_⟩
   have:=h n (by omega)
   have:=h' n (by omega)
   grind⟩
def const(q:Rat):CS:=⟨fun _=>q,fun e he=>⟨0,fun m n _ _=>by grind⟩⟩
end RL
def RE:Type:=Quotient RL.st
namespace RE
open RL
def of(q:Rat):RE:=Quotient.mk _ (const q)
theorem aao(a b a' b':CS)(h:a≈a')(h':b≈b'):add a b≈add a' b':=fun e he=>by
 obtain⟨N,h⟩:=h (e/2) (by grind)
 obtain⟨M,h'⟩:=h' (e/2) (by grind)
 refine⟨max N M,fun n hn=>?_⟩
 have:=h n (by omega)
 have:=h' n (by omega)
 simp only[RL.add]
 grind
theorem Z6(a a':CS)(h:a≈a'):neg a≈neg a':=fun e he=>by
 obtain⟨N,h⟩:=h e he
 refine⟨N,fun n hn=>?_⟩
 have:=h n (by omega)
 simp only[RL.neg]
 grind
theorem abR(a b a' b':CS)(h:a≈a')(h':b≈b'):mul a b≈mul a' b':=fun e he=>by
 obtain⟨A,hA,N1,h1⟩:=a.bd
 obtain⟨B,hB,N2,h2⟩:=b'.bd
 obtain⟨d,hd,hd'⟩:=vW (e:=e) (B:=A+B) he (by grind)
 obtain⟨N3,h3⟩:=h d hd
 obtain⟨N4,h4⟩:=h' d hd
 refine⟨max (max N1 N2) (max N3 N4),fun n hn=>?_⟩
 have a1:=h1 n (by omega)
 have b1:=h2 n (by omega)
 have a3:=h3 n (by omega)
 have b3:=h4 n (by omega)
 have p:=ia a1.2 a1.1 (y:=b.f n-b'.f n) b3.1 (by grind)
 have q:=ia b1.2 b1.1 (y:=a.f n-a'.f n) a3.1 (by grind)
 have p':=ia a1.2 a1.1 (y:=b'.f n-b.f n) b3.2 (by grind)
 have q':=ia b1.2 b1.1 (y:=a'.f n-a.f n) a3.2 (by grind)
 have r:=Rat.mul_pos hA hd
 have s:=Rat.mul_pos hB hd
 simp only[RL.mul]
 constructor<;>grind
instance:Add RE:=⟨Quotient.lift₂ (fun a b=>Quotient.mk _ (add a b)) (fun _ _ _ _ h h'=>Quotient.sound (aao _ _ _ _ h h'))⟩
instance:Neg RE:=⟨Quotient.lift (fun a=>Quotient.mk _ (neg a)) (fun _ _ h=>Quotient.sound (Z6 _ _ h))⟩
instance:Sub RE:=⟨fun a b=>a+ -b⟩
instance:Mul RE:=⟨Quotient.lift₂ (fun a b=>Quotient.mk _ (mul a b)) (fun _ _ _ _ h h'=>Quotient.sound (abR _ _ _ _ h h'))⟩
theorem snd{a b:CS}(h:∀n,a.f n=b.f n):(Quotient.mk st a:RE)=Quotient.mk st b:=
 Quotient.sound fun e he=>⟨0,fun n _=>by rw[h n];grind⟩
instance (n:Nat):OfNat RE n:=⟨of (OfNat.ofNat n)⟩
theorem of_add(a b:Rat):of (a+b)=of a+of b:=rfl
theorem dX(a b:Rat):of (a*b)=of a*of b:=rfl
theorem of_neg(a:Rat):of (-a)= -of a:=rfl
theorem of_sub(a b:Rat):of (a-b)=of a-of b:=by rw[Rat.sub_eq_add_neg];rfl
theorem H4:of 0=0:=rfl
theorem add_zero(a:RE):a+0=a:=by
 induction a using Quotient.inductionOn;exact snd fun n=>Rat.add_zero _
theorem add_comm(a b:RE):a+b=b+a:=by
 induction a,b using Quotient.inductionOn₂;exact snd fun n=>Rat.add_comm _ _
theorem add_assoc(a b c:RE):a+b+c=a+(b+c):=by
 induction a,b,c using Quotient.inductionOn₃;exact snd fun n=>Rat.add_assoc _ _ _
theorem mul_assoc(a b c:RE):a*b*c=a*(b*c):=by
 induction a,b,c using Quotient.inductionOn₃;exact snd fun n=>Rat.mul_assoc _ _ _
theorem mul_comm(a b:RE):a*b=b*a:=by
 induction a,b using Quotient.inductionOn₂;exact snd fun n=>Rat.mul_comm _ _
theorem mul_one(a:RE):a*1=a:=by
 induction a using Quotient.inductionOn;exact snd fun n=>Rat.mul_one _
theorem mul_zero(a:RE):a*0=0:=by
 induction a using Quotient.inductionOn;exact snd fun n=>Rat.mul_zero _
theorem Ly(a:RE): -a+a=0:=by
 induction a using Quotient.inductionOn;exact snd fun n=>Rat.neg_add_cancel _
def clt(a b:CS):Prop:=∃e:Rat,0<e∧∃N,∀n,N≤n→a.f n+e<b.f n
theorem P3(a b a' b':CS)(h:a≈a')(h':b≈b')(hl:clt a b):clt a' b':=by
 obtain⟨e,he,N,hl⟩:=hl
 obtain⟨N1,h⟩:=h (e/4) (by grind)
 obtain⟨N2,h'⟩:=h' (e/4) (by grind)
 refine⟨e/2,by grind,max N (max N1 N2),fun n hn=>?_⟩
 have:=hl n (by omega)
 have:=h n (by omega)
 have:=h' n (by omega)
 grind
instance:LT RE:=⟨Quotient.lift₂ clt (fun _ _ _ _ h h'=>propext ⟨P3 _ _ _ _ h h',P3 _ _ _ _ (Setoid.symm h) (Setoid.symm h')⟩)⟩
instance:LE RE:=⟨fun a b=>¬b<a⟩
theorem lt_irrefl(a:RE):¬a<a:=by
 induction a using Quotient.inductionOn
 rintro ⟨e,he,N,h⟩
 have:=h N (Nat.le_refl _)
 grind
theorem lm{a b c:RE}:a<b→b<c→a<c:=by
 induction a,b,c using Quotient.inductionOn₃
 rintro ⟨e,he,N,h⟩ ⟨e',he',N',h'⟩
 refine⟨e,he,max N N',fun n hn=>?_⟩
 have:=h n (by omega)
 have:=h' n (by omega)
 grind
theorem Jn(a b:RE):a<b∨a=b∨b<a:=by
 induction a,b using Quotient.inductionOn₂
 rename_i a b
 by_cases h1:clt a b
 ·exact .inl h1
 by_cases h2:clt b a
 ·exact .inr (.inr h2)
 refine .inr (.inl (Quotient.sound fun e he=>?_))
 obtain⟨N,ha⟩:=a.cau (e/4) (by grind)
 obtain⟨M,hb⟩:=b.cau (e/4) (by grind)
 have g1:∃n,max N M≤n∧b.f n≤a.f n+e/4:=by
  apply Classical.byContradiction
  intro hc
  exact h1 ⟨e/4,by grind,max N M,fun n hn=>by
   apply Classical.byContradiction
   intro h
   exact hc ⟨n,hn,by grind⟩⟩
 have g2:∃n,max N M≤n∧a.f n≤b.f n+e/4:=by
  apply Classical.byContradiction
  intro hc
  exact h2 ⟨e/4,by grind,max N M,fun n hn=>by
   apply Classical.byContradiction
   intro h
   exact hc ⟨n,hn,by grind⟩⟩
 obtain⟨p,hp,gp⟩:=g1
 obtain⟨q,hq,gq⟩:=g2
 refine⟨max N M,fun n hn=>?_⟩
 have a1:=ha n q (by omega) (by omega)
 have b1:=hb q n (by omega) (by omega)
 have a2:=ha p n (by omega) (by omega)
 have b2:=hb n p (by omega) (by omega)
 constructor<;>grind
theorem A4{a b:RE}(c:RE):a<b→a+c<b+c:=by
 induction a,b,c using Quotient.inductionOn₃
 rintro ⟨e,he,N,h⟩
 refine⟨e,he,N,fun n hn=>?_⟩
 have:=h n hn
 simp only[RL.add]
 grind
theorem mul_pos{a b:RE}:0<a→0<b→0<a*b:=by
 induction a,b using Quotient.inductionOn₂
 rintro ⟨e,he,N,h⟩ ⟨e',he',N',h'⟩
 refine⟨e*e',Rat.mul_pos he he',max N N',fun n hn=>?_⟩
 have h1:=h n (by omega)
 have h2:=h' n (by omega)
 simp only[RL.const]at h1 h2 ⊢
 rename_i a b
 have p:=Rat.mul_pos (a:=a.f n-e) (b:=b.f n-e') (by grind) (by grind)
 have q:=Rat.mul_pos (a:=a.f n-e) (b:=e') (by grind) (by grind)
 have r:=Rat.mul_pos (a:=e) (b:=b.f n-e') (by grind) (by grind)
 simp only[RL.mul]
 grind
theorem lV{a b:Rat}(h:a<b):of a<of b:=⟨(b-a)/2,by grind,0,fun n _=>by simp only[RL.const];grind⟩
end RE
end Go.Proofs.YtlahabkjhgkkjaaGreat
