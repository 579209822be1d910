/- The reference's fractions. -/
import Derived.Test.YtlahabkjhgkkjaaGreatZ11
import Derived.Test.YtlahabkjhgkkjaaGreatZ10
namespace Go.Proofs.YtlahabkjhgkkjaaGreat
open Go.RowKit
def AZ:aL:=spN true false [(.st (.pair .bool (.sl (.int .u32))))] (fun x=>decide (okI x.1)) (fun x=>[RV.d (.int .i64) (b8 (ab x.1) 0)])
theorem Mn:af Tryz.prog 101=true∧ao Tryz.prog 101 AZ∧∀g,AZ.mut_=some g→aK Tryz.prog 101 g:=aq (by kernel_rfl) fun x h=>CU x.1 (of_decide_eq_true h)
def rh:aL:=spN true false [(.st (.pair .bool (.sl (.int .u32)))),(.st (.pair .bool (.sl (.int .u32))))] (fun x=>decide (okI x.1∧okI x.2.1)) (fun x=>[RV.d (.int .i64) (b8 (ab x.1) (ab x.2.1))])
theorem uR:af Tryz.prog 192=true∧ao Tryz.prog 192 rh∧∀g,rh.mut_=some g→aK Tryz.prog 192 g:=aq (by kernel_rfl) fun x h=>Qz x.1 x.2.1 (of_decide_eq_true h)
def xK:aL:=spN false false [(.st (.pair .bool (.sl (.int .u32)))),(.st (.pair .bool (.sl (.int .u32))))] (fun x=>decide (okI x.1∧okI x.2.1)) (fun x=>[RV.d (.st (.pair .bool (.sl (.int .u32)))) (ag (ab x.1*ab x.2.1))])
theorem MZ:af Tryz.prog 193=true∧ao Tryz.prog 193 xK∧∀g,xK.mut_=some g→aK Tryz.prog 193 g:=aq (by kernel_rfl) fun x h=>Dn x.1 x.2.1 (of_decide_eq_true h)
def ro:aL:=spN false false [(.st (.pair .bool (.sl (.int .u32)))),(.st (.pair .bool (.sl (.int .u32))))] (fun x=>decide (dK x.1 x.2.1)) (fun x=>[RV.d (.st (.pair .bool (.sl (.int .u32)))) (ag (ab x.1/ab x.2.1)),RV.d (.st (.pair .bool (.sl (.int .u32)))) (ag (ab x.1%ab x.2.1)),RV.d (.int .i64) 0])
theorem uW:af Tryz.prog 214=true∧ao Tryz.prog 214 ro∧∀g,ro.mut_=some g→aK Tryz.prog 214 g:=aq (by kernel_rfl) fun x h=>TG x.1 x.2.1 (of_decide_eq_true h)
def ze:aL:=spN false false [(.st (.pair .bool (.sl (.int .u32)))),(.st (.pair .bool (.sl (.int .u32))))] (fun x=>decide (okI x.1∧okI x.2.1)) (fun x=>[RV.d (.st (.pair .bool (.sl (.int .u32)))) (ag ((Int.gcd (ab x.1) (ab x.2.1):Nat):Int))])
theorem MX:af Tryz.prog 103=true∧ao Tryz.prog 103 ze∧∀g,ze.mut_=some g→aK Tryz.prog 103 g:=aq (by kernel_rfl) fun x h=>Cz x.1 x.2.1 (of_decide_eq_true h)
def zN:Env:=[(134,nP),(212,mT),(211,qR),(101,AZ),(192,rh),(193,xK),(214,ro),(103,ze)]
theorem vi:EnvAll Tryz.prog zN:=⟨qg,mH,wD,Mn,uR,MZ,uW,MX,trivial⟩
noncomputable def E3:Ctx:=⟨Tryz.prog,ft,tys,zN,[]⟩
noncomputable def Bg(_k:KT):Option (List RV):=match decide (bh (1:Int))with|true=>some [RV.d (.st (.pair .bool (.sl (.int .u32)))) (ag (1:Int))]|false=>none
theorem aaa{rX:List RV}(hX:∃nX,Bg (E3.k nX)=some rX):E3.Res 104 [] rX:=aO (t:=fun k=>Bg k) (fun k=>show go2 Tryz.prog ft tys zN [] k 4000 (az 104 []) (.node 0)=Bg k by kernel_rfl) hX
theorem Cn:Con Tryz.prog 104 [] [.d (.st (.pair .bool (.sl (.int .u32)))) (ag 1)]:=by
 refine Ctx.Res.con (C:=E3) (au vi) (aaa ⟨0,?_⟩) (fn:=Tryz.f104) (by kernel_rfl) (by kernel_rfl)
 unfold Bg
 rw[dT (show bh 1 by decide)]
def yH:aL:=spN false false [] (fun _=>true) (fun _=>[RV.d (.st (.pair .bool (.sl (.int .u32)))) (ag 1)])
theorem Mu:af Tryz.prog 104=true∧ao Tryz.prog 104 yH∧∀g,yH.mut_=some g→aK Tryz.prog 104 g:=aq (by kernel_rfl) fun _ _=>Cn
def xX:Env:=(104,yH)::zN
theorem vU:EnvAll Tryz.prog xX:=⟨Mu,vi⟩
noncomputable def PA:Ctx:=⟨Tryz.prog,ft,tys,xX,[]⟩
noncomputable def IG(_k:KT)(x:Bool×List Int)(y:Bool×List Int):Option (List RV):=match decide (okI y)with|true=>(match decide ((b8 (ab y) 0)<0)with|true=>(match decide (okI x)with|true=>(match decide (okI y)with|true=>(match decide (okI (ag (-ab x))∧okI (ag (-ab y)))with|true=>(match decide (dK (ag (-ab x)) (ag ((Int.gcd (ab (ag (-ab x))) (ab (ag (-ab y))):Nat):Int)))with|true=>(match decide (dK (ag (-ab y)) (ag ((Int.gcd (ab (ag (-ab x))) (ab (ag (-ab y))):Nat):Int)))with|true=>some [RV.d (.st (.pair (.st (.pair .bool (.sl (.int .u32)))) (.st (.pair .bool (.sl (.int .u32)))))) ((ag (ab (ag (-ab x))/ab (ag ((Int.gcd (ab (ag (-ab x))) (ab (ag (-ab y))):Nat):Int)))),(ag (ab (ag (-ab y))/ab (ag ((Int.gcd (ab (ag (-ab x))) (ab (ag (-ab y))):Nat):Int)))))]|false=>none)|false=>none)|false=>none)|false=>none)|false=>none)|false=>(match decide (okI x∧okI y)with|true=>(match decide (dK x (ag ((Int.gcd (ab x) (ab y):Nat):Int)))with|true=>(match decide (dK y (ag ((Int.gcd (ab x) (ab y):Nat):Int)))with|true=>some [RV.d (.st (.pair (.st (.pair .bool (.sl (.int .u32)))) (.st (.pair .bool (.sl (.int .u32)))))) ((ag (ab x/ab (ag ((Int.gcd (ab x) (ab y):Nat):Int)))),(ag (ab y/ab (ag ((Int.gcd (ab x) (ab y):Nat):Int)))))]|false=>none)|false=>none)|false=>none))|false=>none
theorem acF(x:Bool×List Int)(y:Bool×List Int){rX:List RV}(hX:∃nX,IG (PA.k nX) x y=some rX):PA.Res 135 [.d (.st (.pair .bool (.sl (.int .u32)))) x,.d (.st (.pair .bool (.sl (.int .u32)))) y] rX:=aO (t:=fun k=>IG k x y) (fun k=>show go2 Tryz.prog ft tys xX [] k 4000 (az 135 [.d (.st (.pair .bool (.sl (.int .u32)))) x,.d (.st (.pair .bool (.sl (.int .u32)))) y]) (.node 0)=IG k x y by kernel_rfl) hX
theorem Jr(x:Bool×List Int)(y:Bool×List Int)(h:fM x y):Con Tryz.prog 135 [.d (.st (.pair .bool (.sl (.int .u32)))) x,.d (.st (.pair .bool (.sl (.int .u32)))) y] [.d (.st (.pair (.st (.pair .bool (.sl (.int .u32)))) (.st (.pair .bool (.sl (.int .u32)))))) (dv x y)]:=by
 refine Ctx.Res.con (C:=PA) (au vU) (acF _ _ ⟨0,?_⟩) (fn:=Tryz.f135) (by kernel_rfl) (by kernel_rfl)
 obtain⟨hx,hy,hne⟩:=h
 have sx:=ge hx
 have sy:=ge hy
 have hgp:0<Int.gcd (ab x) (ab y):=Nat.pos_of_ne_zero fun e=>hne (Int.gcd_eq_zero_iff.1 e).2
 have hgs:=UT (a:=ab x) hne sy
 have og:okI (ag ((Int.gcd (ab x) (ab y):Nat):Int)):=bj hgs
 have o1:okI (ag (-ab x)):=bj (by rw[gv];exact sx)
 have o2:okI (ag (-ab y)):=bj (by rw[gv];exact sy)
 have ig:∀z:BI,okI z→dK z (ag ((Int.gcd (ab x) (ab y):Nat):Int)):=fun z hz=>⟨hz,og,by rw[dec_enc];omega⟩
 unfold IG dv
 rw[dT hy]
 dsimp only
 rcases Int.lt_or_lt_of_ne hne with hn|hn
 ·rw[cF hn,dT (show(-1:Int)<0 by decide),dT hx]
  simp only[dec_enc,Int.gcd_neg,Int.neg_gcd]
  rw[dT (show okI (ag (-ab x))∧okI (ag (-ab y)) from⟨o1,o2⟩),dT (ig _ o1),dT (ig _ o2),←Rat.neg_divInt_neg,kC (by omega),Int.gcd_neg,Int.neg_gcd]
 ·rw[cz hn,dF (show ¬(1:Int)<0 by decide)]
  simp only[dec_enc]
  rw[dT (show okI x∧okI y from⟨hx,hy⟩),dT (ig _ hx),dT (ig _ hy),kC hn]
def Hk:aL:=spN false false [(.st (.pair .bool (.sl (.int .u32)))),(.st (.pair .bool (.sl (.int .u32))))] (fun x=>decide (fM x.1 x.2.1)) (fun x=>[RV.d (.st (.pair (.st (.pair .bool (.sl (.int .u32)))) (.st (.pair .bool (.sl (.int .u32)))))) (dv x.1 x.2.1)])
theorem T5:af Tryz.prog 135=true∧ao Tryz.prog 135 Hk∧∀g,Hk.mut_=some g→aK Tryz.prog 135 g:=aq (by kernel_rfl) fun x h=>Jr x.1 x.2.1 (of_decide_eq_true h)
def eI:Env:=(135,Hk)::xX
theorem fq:EnvAll Tryz.prog eI:=⟨T5,vU⟩
noncomputable def Ge:Ctx:=⟨Tryz.prog,ft,tys,eI,[]⟩
noncomputable def AK(_k:KT)(a:(Bool×List Int)×Bool×List Int):Option (List RV):=match decide (okI a.1)with|true=>some [RV.d (.int .i64) (b8 (ab a.1) 0)]|false=>none
theorem abE(a:(Bool×List Int)×Bool×List Int){rX:List RV}(hX:∃nX,AK (Ge.k nX) a=some rX):Ge.Res 78 [.d (.st (.pair (.st (.pair .bool (.sl (.int .u32)))) (.st (.pair .bool (.sl (.int .u32)))))) a] rX:=aO (t:=fun k=>AK k a) (fun k=>show go2 Tryz.prog ft tys eI [] k 4000 (az 78 [.d (.st (.pair (.st (.pair .bool (.sl (.int .u32)))) (.st (.pair .bool (.sl (.int .u32)))))) a]) (.node 0)=AK k a by kernel_rfl) hX
noncomputable def Hg:Ctx:=⟨Tryz.prog,ft,tys,eI,[]⟩
noncomputable def z6(_k:KT)(n:Int):Option (List RV):=match decide (bh n)with|true=>some [RV.d (.st (.pair (.st (.pair .bool (.sl (.int .u32)))) (.st (.pair .bool (.sl (.int .u32)))))) ((ag n),(ag 1))]|false=>none
theorem aaq(n:Int){rX:List RV}(hX:∃nX,z6 (Hg.k nX) n=some rX):Hg.Res 50 [SI n] rX:=aO (t:=fun k=>z6 k n) (fun k=>show go2 Tryz.prog ft tys eI [] k 4000 (az 50 [SI n]) (.node 0)=z6 k n by kernel_rfl) hX
noncomputable def EC:Ctx:=⟨Tryz.prog,ft,tys,eI,[]⟩
noncomputable def yG(_k:KT)(a:(Bool×List Int)×Bool×List Int)(b:(Bool×List Int)×Bool×List Int):Option (List RV):=match decide (okI a.1∧okI b.2)with|true=>(match decide (okI b.1∧okI a.2)with|true=>(match decide (okI (ag (ab a.1*ab b.2))∧okI (ag (ab b.1*ab a.2)))with|true=>some [RV.d (.int .i64) (b8 (ab (ag (ab a.1*ab b.2))) (ab (ag (ab b.1*ab a.2))))]|false=>none)|false=>none)|false=>none
theorem aaA(a:(Bool×List Int)×Bool×List Int)(b:(Bool×List Int)×Bool×List Int){rX:List RV}(hX:∃nX,yG (EC.k nX) a b=some rX):EC.Res 107 [.d (.st (.pair (.st (.pair .bool (.sl (.int .u32)))) (.st (.pair .bool (.sl (.int .u32)))))) a,.d (.st (.pair (.st (.pair .bool (.sl (.int .u32)))) (.st (.pair .bool (.sl (.int .u32)))))) b] rX:=aO (t:=fun k=>yG k a b) (fun k=>show go2 Tryz.prog ft tys eI [] k 4000 (az 107 [.d (.st (.pair (.st (.pair .bool (.sl (.int .u32)))) (.st (.pair .bool (.sl (.int .u32)))))) a,.d (.st (.pair (.st (.pair .bool (.sl (.int .u32)))) (.st (.pair .bool (.sl (.int .u32)))))) b]) (.node 0)=yG k a b by kernel_rfl) hX
noncomputable def GG:Ctx:=⟨Tryz.prog,ft,tys,eI,[]⟩
noncomputable def zx(_k:KT)(a:(Bool×List Int)×Bool×List Int)(b:(Bool×List Int)×Bool×List Int):Option (List RV):=match decide (okI a.1∧okI b.2)with|true=>(match decide (okI b.1∧okI a.2)with|true=>(match decide (okI (ag (ab a.1*ab b.2))∧okI (ag (ab b.1*ab a.2)))with|true=>(match decide (okI a.2∧okI b.2)with|true=>(match decide (fM (ag (ab (ag (ab a.1*ab b.2))+ab (ag (ab b.1*ab a.2)))) (ag (ab a.2*ab b.2)))with|true=>some [RV.d (.st (.pair (.st (.pair .bool (.sl (.int .u32)))) (.st (.pair .bool (.sl (.int .u32)))))) (((dv (ag (ab (ag (ab a.1*ab b.2))+ab (ag (ab b.1*ab a.2)))) (ag (ab a.2*ab b.2))).1),((dv (ag (ab (ag (ab a.1*ab b.2))+ab (ag (ab b.1*ab a.2)))) (ag (ab a.2*ab b.2))).2))]|false=>none)|false=>none)|false=>none)|false=>none)|false=>none
theorem aaR(a:(Bool×List Int)×Bool×List Int)(b:(Bool×List Int)×Bool×List Int){rX:List RV}(hX:∃nX,zx (GG.k nX) a b=some rX):GG.Res 127 [.d (.st (.pair (.st (.pair .bool (.sl (.int .u32)))) (.st (.pair .bool (.sl (.int .u32)))))) a,.d (.st (.pair (.st (.pair .bool (.sl (.int .u32)))) (.st (.pair .bool (.sl (.int .u32)))))) b] rX:=aO (t:=fun k=>zx k a b) (fun k=>show go2 Tryz.prog ft tys eI [] k 4000 (az 127 [.d (.st (.pair (.st (.pair .bool (.sl (.int .u32)))) (.st (.pair .bool (.sl (.int .u32)))))) a,.d (.st (.pair (.st (.pair .bool (.sl (.int .u32)))) (.st (.pair .bool (.sl (.int .u32)))))) b]) (.node 0)=zx k a b by kernel_rfl) hX
noncomputable def HX:Ctx:=⟨Tryz.prog,ft,tys,eI,[]⟩
noncomputable def Aq(_k:KT)(a:(Bool×List Int)×Bool×List Int)(b:(Bool×List Int)×Bool×List Int):Option (List RV):=match decide (okI a.1∧okI b.1)with|true=>(match decide (okI a.2∧okI b.2)with|true=>(match decide (fM (ag (ab a.1*ab b.1)) (ag (ab a.2*ab b.2)))with|true=>some [RV.d (.st (.pair (.st (.pair .bool (.sl (.int .u32)))) (.st (.pair .bool (.sl (.int .u32)))))) (((dv (ag (ab a.1*ab b.1)) (ag (ab a.2*ab b.2))).1),((dv (ag (ab a.1*ab b.1)) (ag (ab a.2*ab b.2))).2))]|false=>none)|false=>none)|false=>none
theorem ab6(a:(Bool×List Int)×Bool×List Int)(b:(Bool×List Int)×Bool×List Int){rX:List RV}(hX:∃nX,Aq (HX.k nX) a b=some rX):HX.Res 132 [.d (.st (.pair (.st (.pair .bool (.sl (.int .u32)))) (.st (.pair .bool (.sl (.int .u32)))))) a,.d (.st (.pair (.st (.pair .bool (.sl (.int .u32)))) (.st (.pair .bool (.sl (.int .u32)))))) b] rX:=aO (t:=fun k=>Aq k a b) (fun k=>show go2 Tryz.prog ft tys eI [] k 4000 (az 132 [.d (.st (.pair (.st (.pair .bool (.sl (.int .u32)))) (.st (.pair .bool (.sl (.int .u32)))))) a,.d (.st (.pair (.st (.pair .bool (.sl (.int .u32)))) (.st (.pair .bool (.sl (.int .u32)))))) b]) (.node 0)=Aq k a b by kernel_rfl) hX
noncomputable def GD:Ctx:=⟨Tryz.prog,ft,tys,eI,[]⟩
noncomputable def AC(_k:KT)(a:(Bool×List Int)×Bool×List Int):Option (List RV):=match decide (okI a.1)with|true=>some [RV.d (.st (.pair (.st (.pair .bool (.sl (.int .u32)))) (.st (.pair .bool (.sl (.int .u32)))))) ((ag (-ab a.1)),a.2)]|false=>none
theorem abW(a:(Bool×List Int)×Bool×List Int){rX:List RV}(hX:∃nX,AC (GD.k nX) a=some rX):GD.Res 124 [.d (.st (.pair (.st (.pair .bool (.sl (.int .u32)))) (.st (.pair .bool (.sl (.int .u32)))))) a] rX:=aO (t:=fun k=>AC k a) (fun k=>show go2 Tryz.prog ft tys eI [] k 4000 (az 124 [.d (.st (.pair (.st (.pair .bool (.sl (.int .u32)))) (.st (.pair .bool (.sl (.int .u32)))))) a]) (.node 0)=AC k a by kernel_rfl) hX
noncomputable def FW:Ctx:=⟨Tryz.prog,ft,tys,eI,[]⟩
noncomputable def yS(_k:KT)(x:Bool×List Int)(y:Bool×List Int):Option (List RV):=match decide (okI y)with|true=>(match(b8 (ab y) 0)==0 with|true=>some [RV.d (.st (.pair (.st (.pair .bool (.sl (.int .u32)))) (.st (.pair .bool (.sl (.int .u32)))))) ((false,[]),(false,[])),RV.d (.int .i64) 6]|false=>(match decide (fM x y)with|true=>some [RV.d (.st (.pair (.st (.pair .bool (.sl (.int .u32)))) (.st (.pair .bool (.sl (.int .u32)))))) (((dv x y).1),((dv x y).2)),RV.d (.int .i64) 0]|false=>none))|false=>none
theorem abK(x:Bool×List Int)(y:Bool×List Int){rX:List RV}(hX:∃nX,yS (FW.k nX) x y=some rX):FW.Res 258 [.d (.st (.pair .bool (.sl (.int .u32)))) x,.d (.st (.pair .bool (.sl (.int .u32)))) y] rX:=aO (t:=fun k=>yS k x y) (fun k=>show go2 Tryz.prog ft tys eI [] k 4000 (az 258 [.d (.st (.pair .bool (.sl (.int .u32)))) x,.d (.st (.pair .bool (.sl (.int .u32)))) y]) (.node 0)=yS k x y by kernel_rfl) hX
theorem QY(x:Bool×List Int)(y:Bool×List Int)(h:fM x y):Con Tryz.prog 258 [.d (.st (.pair .bool (.sl (.int .u32)))) x,.d (.st (.pair .bool (.sl (.int .u32)))) y] [.d (.st (.pair (.st (.pair .bool (.sl (.int .u32)))) (.st (.pair .bool (.sl (.int .u32)))))) (dv x y),.d (.int .i64) 0]:=by
 refine Ctx.Res.con (C:=FW) (au fq) (abK _ _ ⟨0,?_⟩) (fn:=Tryz.f258) (by kernel_rfl) (by kernel_rfl)
 obtain⟨hx,hy,hne⟩:=h
 have hnz:(b8 (ab y) 0==0)=false:=by
  rcases Int.lt_or_lt_of_ne hne with h|h
  ·rw[cF h];rfl
  ·rw[cz h];rfl
 unfold yS
 rw[dT hy,hnz,dT (show fM x y from⟨hx,hy,hne⟩)]
def Bb:aL:=spN false false [(.st (.pair .bool (.sl (.int .u32)))),(.st (.pair .bool (.sl (.int .u32))))] (fun x=>decide (fM x.1 x.2.1)) (fun x=>[RV.d (.st (.pair (.st (.pair .bool (.sl (.int .u32)))) (.st (.pair .bool (.sl (.int .u32)))))) (dv x.1 x.2.1),RV.d (.int .i64) 0])
theorem My:af Tryz.prog 258=true∧ao Tryz.prog 258 Bb∧∀g,Bb.mut_=some g→aK Tryz.prog 258 g:=aq (by kernel_rfl) fun x h=>QY x.1 x.2.1 (of_decide_eq_true h)
def qM:Env:=(258,Bb)::eI
theorem tA:EnvAll Tryz.prog qM:=⟨My,fq⟩
noncomputable def FO:Ctx:=⟨Tryz.prog,ft,tys,qM,[]⟩
noncomputable def zp(_k:KT)(a:(Bool×List Int)×Bool×List Int)(b:(Bool×List Int)×Bool×List Int):Option (List RV):=match decide (okI a.1∧okI b.2)with|true=>(match decide (okI a.2∧okI b.1)with|true=>(match decide (fM (ag (ab a.1*ab b.2)) (ag (ab a.2*ab b.1)))with|true=>some [RV.d (.st (.pair (.st (.pair .bool (.sl (.int .u32)))) (.st (.pair .bool (.sl (.int .u32)))))) (((dv (ag (ab a.1*ab b.2)) (ag (ab a.2*ab b.1))).1),((dv (ag (ab a.1*ab b.2)) (ag (ab a.2*ab b.1))).2)),RV.d (.int .i64) 0]|false=>none)|false=>none)|false=>none
theorem aam(a:(Bool×List Int)×Bool×List Int)(b:(Bool×List Int)×Bool×List Int){rX:List RV}(hX:∃nX,zp (FO.k nX) a b=some rX):FO.Res 217 [.d (.st (.pair (.st (.pair .bool (.sl (.int .u32)))) (.st (.pair .bool (.sl (.int .u32)))))) a,.d (.st (.pair (.st (.pair .bool (.sl (.int .u32)))) (.st (.pair .bool (.sl (.int .u32)))))) b] rX:=aO (t:=fun k=>zp k a b) (fun k=>show go2 Tryz.prog ft tys qM [] k 4000 (az 217 [.d (.st (.pair (.st (.pair .bool (.sl (.int .u32)))) (.st (.pair .bool (.sl (.int .u32)))))) a,.d (.st (.pair (.st (.pair .bool (.sl (.int .u32)))) (.st (.pair .bool (.sl (.int .u32)))))) b]) (.node 0)=zp k a b by kernel_rfl) hX
theorem Vb(a:(Bool×List Int)×Bool×List Int)(h:okR a):Con Tryz.prog 78 [.d (.st (.pair (.st (.pair .bool (.sl (.int .u32)))) (.st (.pair .bool (.sl (.int .u32)))))) a] [.d (.int .i64) (aQ (aa a) 0)]:=by
 refine Ctx.Res.con (C:=Ge) (au fq) (abE _ ⟨0,?_⟩) (fn:=Tryz.f78) (by kernel_rfl) (by kernel_rfl)
 unfold AK
 rw[dT h.1,←o0,(cr h).1]
theorem UK(n:Int)(h:bh n):Con Tryz.prog 50 [.d (.int .i64) n] [.d (.st (.pair (.st (.pair .bool (.sl (.int .u32)))) (.st (.pair .bool (.sl (.int .u32)))))) (ae (n:Rat))]:=by
 refine Ctx.Res.con (C:=Hg) (au fq) (aaq _ ⟨0,?_⟩) (fn:=Tryz.f50) (by kernel_rfl) (by kernel_rfl)
 unfold z6 ae
 rw[dT h,Rat.num_intCast,Rat.den_intCast]
 rfl
theorem UW(a:(Bool×List Int)×Bool×List Int)(b:(Bool×List Int)×Bool×List Int)(h:okR a∧okR b):Con Tryz.prog 107 [.d (.st (.pair (.st (.pair .bool (.sl (.int .u32)))) (.st (.pair .bool (.sl (.int .u32)))))) a,.d (.st (.pair (.st (.pair .bool (.sl (.int .u32)))) (.st (.pair .bool (.sl (.int .u32)))))) b] [.d (.int .i64) (aQ (aa a) (aa b))]:=by
 refine Ctx.Res.con (C:=EC) (au fq) (aaA _ _ ⟨0,?_⟩) (fn:=Tryz.f107) (by kernel_rfl) (by kernel_rfl)
 obtain⟨ha,hb⟩:=h
 obtain⟨a1,a2⟩:=cr ha
 obtain⟨b1,b2⟩:=cr hb
 obtain⟨sa1,sa2⟩:=eH ha
 obtain⟨sb1,sb2⟩:=eH hb
 have h1:=cD sa1 sb2
 have h2:=cD sb1 sa2
 unfold yG
 rw[dT (show okI a.1∧okI b.2 from⟨ha.1,hb.2.1⟩),dT (show okI b.1∧okI a.2 from⟨hb.1,ha.2.1⟩),dT (show okI (ag (ab a.1*ab b.2))∧okI (ag (ab b.1*ab a.2)) from⟨bj (by omega),bj (by omega)⟩),dec_enc,dec_enc,←a1,←a2,←b1,←b2,sT]
theorem BM(a:(Bool×List Int)×Bool×List Int)(h:okR a):Con Tryz.prog 124 [.d (.st (.pair (.st (.pair .bool (.sl (.int .u32)))) (.st (.pair .bool (.sl (.int .u32)))))) a] [.d (.st (.pair (.st (.pair .bool (.sl (.int .u32)))) (.st (.pair .bool (.sl (.int .u32)))))) (ae (-aa a))]:=by
 refine Ctx.Res.con (C:=GD) (au fq) (abW _ ⟨0,?_⟩) (fn:=Tryz.f124) (by kernel_rfl) (by kernel_rfl)
 obtain⟨a1,a2⟩:=cr h
 unfold AC
 have e:ae (-aa a)=(ag (-ab a.1),a.2):=by
  unfold ae
  rw[Rat.neg_num,a1,show((-aa a).den:Int)=((aa a).den:Int) from rfl,a2,←fA h.2.1]
 rw[dT h.1,e]
theorem DX(a:(Bool×List Int)×Bool×List Int)(b:(Bool×List Int)×Bool×List Int)(h:okR a∧okR b):Con Tryz.prog 127 [.d (.st (.pair (.st (.pair .bool (.sl (.int .u32)))) (.st (.pair .bool (.sl (.int .u32)))))) a,.d (.st (.pair (.st (.pair .bool (.sl (.int .u32)))) (.st (.pair .bool (.sl (.int .u32)))))) b] [.d (.st (.pair (.st (.pair .bool (.sl (.int .u32)))) (.st (.pair .bool (.sl (.int .u32)))))) (ae (aa a+aa b))]:=by
 refine Ctx.Res.con (C:=GG) (au fq) (aaR _ _ ⟨0,?_⟩) (fn:=Tryz.f127) (by kernel_rfl) (by kernel_rfl)
 obtain⟨ha,hb⟩:=h
 obtain⟨a1,a2⟩:=cr ha
 obtain⟨b1,b2⟩:=cr hb
 obtain⟨sa1,sa2⟩:=eH ha
 obtain⟨sb1,sb2⟩:=eH hb
 have pa:=ha.2.2.1
 have pb:=hb.2.2.1
 have h1:=cD sa1 sb2
 have h2:=cD sb1 sa2
 have h3:=cD sa2 sb2
 have h4:=qY h1 h2
 have hda:aa a=Rat.divInt (ab a.1) (ab a.2):=by rw[←a1,←a2,Rat.num_divInt_den]
 have hdb:aa b=Rat.divInt (ab b.1) (ab b.2):=by rw[←b1,←b2,Rat.num_divInt_den]
 unfold zx
 rw[dT (show okI a.1∧okI b.2 from⟨ha.1,hb.2.1⟩),dT (show okI b.1∧okI a.2 from⟨hb.1,ha.2.1⟩),dT (show okI (ag (ab a.1*ab b.2))∧okI (ag (ab b.1*ab a.2)) from⟨bj (by omega),bj (by omega)⟩),dT (show okI a.2∧okI b.2 from⟨ha.2.1,hb.2.1⟩)]
 simp only[dec_enc]
 rw[dT (show fM (ag (ab a.1*ab b.2+ab b.1*ab a.2)) (ag (ab a.2*ab b.2)) from⟨bj (by omega),bj (by omega),by rw[dec_enc];exact Int.mul_ne_zero (by omega) (by omega)⟩)]
 have e:dv (ag (ab a.1*ab b.2+ab b.1*ab a.2)) (ag (ab a.2*ab b.2))=ae (aa a+aa b):=by
  unfold dv
  rw[dec_enc,dec_enc,hda,hdb,Rat.divInt_add_divInt _ _ (by omega) (by omega)]
 rw[e]
theorem UE(a:(Bool×List Int)×Bool×List Int)(b:(Bool×List Int)×Bool×List Int)(h:okR a∧okR b):Con Tryz.prog 132 [.d (.st (.pair (.st (.pair .bool (.sl (.int .u32)))) (.st (.pair .bool (.sl (.int .u32)))))) a,.d (.st (.pair (.st (.pair .bool (.sl (.int .u32)))) (.st (.pair .bool (.sl (.int .u32)))))) b] [.d (.st (.pair (.st (.pair .bool (.sl (.int .u32)))) (.st (.pair .bool (.sl (.int .u32)))))) (ae (aa a*aa b))]:=by
 refine Ctx.Res.con (C:=HX) (au fq) (ab6 _ _ ⟨0,?_⟩) (fn:=Tryz.f132) (by kernel_rfl) (by kernel_rfl)
 obtain⟨ha,hb⟩:=h
 obtain⟨a1,a2⟩:=cr ha
 obtain⟨b1,b2⟩:=cr hb
 obtain⟨sa1,sa2⟩:=eH ha
 obtain⟨sb1,sb2⟩:=eH hb
 have pa:=ha.2.2.1
 have pb:=hb.2.2.1
 have h1:=cD sa1 sb1
 have h3:=cD sa2 sb2
 have hda:aa a=Rat.divInt (ab a.1) (ab a.2):=by rw[←a1,←a2,Rat.num_divInt_den]
 have hdb:aa b=Rat.divInt (ab b.1) (ab b.2):=by rw[←b1,←b2,Rat.num_divInt_den]
 unfold Aq
 rw[dT (show okI a.1∧okI b.1 from⟨ha.1,hb.1⟩),dT (show okI a.2∧okI b.2 from⟨ha.2.1,hb.2.1⟩),dT (show fM (ag (ab a.1*ab b.1)) (ag (ab a.2*ab b.2)) from⟨bj (by omega),bj (by omega),by rw[dec_enc];exact Int.mul_ne_zero (by omega) (by omega)⟩)]
 have e:dv (ag (ab a.1*ab b.1)) (ag (ab a.2*ab b.2))=ae (aa a*aa b):=by
  unfold dv
  rw[dec_enc,dec_enc,hda,hdb,Rat.divInt_mul_divInt]
 rw[e]
theorem DH(a:(Bool×List Int)×Bool×List Int)(b:(Bool×List Int)×Bool×List Int)(h:gh a b):Con Tryz.prog 217 [.d (.st (.pair (.st (.pair .bool (.sl (.int .u32)))) (.st (.pair .bool (.sl (.int .u32)))))) a,.d (.st (.pair (.st (.pair .bool (.sl (.int .u32)))) (.st (.pair .bool (.sl (.int .u32)))))) b] [.d (.st (.pair (.st (.pair .bool (.sl (.int .u32)))) (.st (.pair .bool (.sl (.int .u32)))))) (ae (aa a/aa b)),.d (.int .i64) 0]:=by
 refine Ctx.Res.con (C:=FO) (au tA) (aam _ _ ⟨0,?_⟩) (fn:=Tryz.f217) (by kernel_rfl) (by kernel_rfl)
 obtain⟨ha,hb,hne⟩:=h
 obtain⟨a1,a2⟩:=cr ha
 obtain⟨b1,b2⟩:=cr hb
 obtain⟨sa1,sa2⟩:=eH ha
 obtain⟨sb1,sb2⟩:=eH hb
 have pa:=ha.2.2.1
 have h1:=cD sa1 sb2
 have h3:=cD sa2 sb1
 have hda:aa a=Rat.divInt (ab a.1) (ab a.2):=by rw[←a1,←a2,Rat.num_divInt_den]
 have hdb:aa b=Rat.divInt (ab b.1) (ab b.2):=by rw[←b1,←b2,Rat.num_divInt_den]
 have hmz:ab a.2*ab b.1≠0:=Int.mul_ne_zero (by omega) hne
 unfold zp
 rw[dT (show okI a.1∧okI b.2 from⟨ha.1,hb.2.1⟩),dT (show okI a.2∧okI b.1 from⟨ha.2.1,hb.1⟩)]
 simp only
 rw[dT (show fM (ag (ab a.1*ab b.2)) (ag (ab a.2*ab b.1)) from⟨bj (by omega),bj (by omega),by rw[dec_enc];exact hmz⟩)]
 have e:dv (ag (ab a.1*ab b.2)) (ag (ab a.2*ab b.1))=ae (aa a/aa b):=by
  unfold dv
  rw[dec_enc,dec_enc,hda,hdb,Rat.div_def,Rat.inv_divInt,Rat.divInt_mul_divInt]
 rw[e]
def zy:aL:=spN false false [(.st (.pair (.st (.pair .bool (.sl (.int .u32)))) (.st (.pair .bool (.sl (.int .u32)))))),(.st (.pair (.st (.pair .bool (.sl (.int .u32)))) (.st (.pair .bool (.sl (.int .u32))))))] (fun x=>decide (okR x.1∧okR x.2.1)) (fun x=>[RV.d (.st (.pair (.st (.pair .bool (.sl (.int .u32)))) (.st (.pair .bool (.sl (.int .u32)))))) (ae (aa x.1+aa x.2.1))])
theorem MH:af Tryz.prog 127=true∧ao Tryz.prog 127 zy∧∀g,zy.mut_=some g→aK Tryz.prog 127 g:=aq (by kernel_rfl) fun x h=>DX x.1 x.2.1 (of_decide_eq_true h)
def wW:aL:=spN false false [(.st (.pair (.st (.pair .bool (.sl (.int .u32)))) (.st (.pair .bool (.sl (.int .u32))))))] (fun x=>decide (okR x.1)) (fun x=>[RV.d (.st (.pair (.st (.pair .bool (.sl (.int .u32)))) (.st (.pair .bool (.sl (.int .u32)))))) (ae (-aa x.1))])
theorem MG:af Tryz.prog 124=true∧ao Tryz.prog 124 wW∧∀g,wW.mut_=some g→aK Tryz.prog 124 g:=aq (by kernel_rfl) fun x h=>BM x.1 (of_decide_eq_true h)
def Ad:aL:=spN false false [(.st (.pair (.st (.pair .bool (.sl (.int .u32)))) (.st (.pair .bool (.sl (.int .u32)))))),(.st (.pair (.st (.pair .bool (.sl (.int .u32)))) (.st (.pair .bool (.sl (.int .u32))))))] (fun x=>decide (gh x.1 x.2.1)) (fun x=>[RV.d (.st (.pair (.st (.pair .bool (.sl (.int .u32)))) (.st (.pair .bool (.sl (.int .u32)))))) (ae (aa x.1/aa x.2.1)),RV.d (.int .i64) 0])
theorem LX:af Tryz.prog 217=true∧ao Tryz.prog 217 Ad∧∀g,Ad.mut_=some g→aK Tryz.prog 217 g:=aq (by kernel_rfl) fun x h=>DH x.1 x.2.1 (of_decide_eq_true h)
def tn:Env:=(127,zy)::(124,wW)::(217,Ad)::qM
theorem wv:EnvAll Tryz.prog tn:=⟨MH,MG,LX,tA⟩
noncomputable def G7:Ctx:=⟨Tryz.prog,ft,tys,tn,[]⟩
noncomputable def xD(_k:KT)(a:(Bool×List Int)×Bool×List Int)(b:(Bool×List Int)×Bool×List Int):Option (List RV):=match decide (okR b)with|true=>(match decide (okR a∧okR (ae (-aa b)))with|true=>some [RV.d (.st (.pair (.st (.pair .bool (.sl (.int .u32)))) (.st (.pair .bool (.sl (.int .u32)))))) (((ae (aa a+aa (ae (-aa b)))).1),((ae (aa a+aa (ae (-aa b)))).2))]|false=>none)|false=>none
theorem Z4(a:(Bool×List Int)×Bool×List Int)(b:(Bool×List Int)×Bool×List Int){rX:List RV}(hX:∃nX,xD (G7.k nX) a b=some rX):G7.Res 161 [.d (.st (.pair (.st (.pair .bool (.sl (.int .u32)))) (.st (.pair .bool (.sl (.int .u32)))))) a,.d (.st (.pair (.st (.pair .bool (.sl (.int .u32)))) (.st (.pair .bool (.sl (.int .u32)))))) b] rX:=aO (t:=fun k=>xD k a b) (fun k=>show go2 Tryz.prog ft tys tn [] k 4000 (az 161 [.d (.st (.pair (.st (.pair .bool (.sl (.int .u32)))) (.st (.pair .bool (.sl (.int .u32)))))) a,.d (.st (.pair (.st (.pair .bool (.sl (.int .u32)))) (.st (.pair .bool (.sl (.int .u32)))))) b]) (.node 0)=xD k a b by kernel_rfl) hX
noncomputable def Ej:Ctx:=⟨Tryz.prog,ft,tys,tn,[]⟩
noncomputable def xI(_k:KT)(a:(Bool×List Int)×Bool×List Int)(b:(Bool×List Int)×Bool×List Int):Option (List RV):=match decide (gh a b)with|true=>some [RV.d (.st (.pair (.st (.pair .bool (.sl (.int .u32)))) (.st (.pair .bool (.sl (.int .u32)))))) (((ae (aa a/aa b)).1),((ae (aa a/aa b)).2))]|false=>none
theorem abu(a:(Bool×List Int)×Bool×List Int)(b:(Bool×List Int)×Bool×List Int){rX:List RV}(hX:∃nX,xI (Ej.k nX) a b=some rX):Ej.Res 174 [.d (.st (.pair (.st (.pair .bool (.sl (.int .u32)))) (.st (.pair .bool (.sl (.int .u32)))))) a,.d (.st (.pair (.st (.pair .bool (.sl (.int .u32)))) (.st (.pair .bool (.sl (.int .u32)))))) b] rX:=aO (t:=fun k=>xI k a b) (fun k=>show go2 Tryz.prog ft tys tn [] k 4000 (az 174 [.d (.st (.pair (.st (.pair .bool (.sl (.int .u32)))) (.st (.pair .bool (.sl (.int .u32)))))) a,.d (.st (.pair (.st (.pair .bool (.sl (.int .u32)))) (.st (.pair .bool (.sl (.int .u32)))))) b]) (.node 0)=xI k a b by kernel_rfl) hX
theorem QB(a:(Bool×List Int)×Bool×List Int)(b:(Bool×List Int)×Bool×List Int)(h:okR a∧okR b):Con Tryz.prog 161 [.d (.st (.pair (.st (.pair .bool (.sl (.int .u32)))) (.st (.pair .bool (.sl (.int .u32)))))) a,.d (.st (.pair (.st (.pair .bool (.sl (.int .u32)))) (.st (.pair .bool (.sl (.int .u32)))))) b] [.d (.st (.pair (.st (.pair .bool (.sl (.int .u32)))) (.st (.pair .bool (.sl (.int .u32)))))) (ae (aa a-aa b))]:=by
 refine Ctx.Res.con (C:=G7) (au wv) (Z4 _ _ ⟨0,?_⟩) (fn:=Tryz.f161) (by kernel_rfl) (by kernel_rfl)
 obtain⟨ha,hb⟩:=h
 unfold xD
 rw[dT hb,aw,Rat.sub_eq_add_neg,dT (show okR a∧okR (ae (-aa b)) from⟨ha,mS (rz (zd hb)) (Nat.le_refl _)⟩)]
theorem Ru(a:(Bool×List Int)×Bool×List Int)(b:(Bool×List Int)×Bool×List Int)(h:gh a b):Con Tryz.prog 174 [.d (.st (.pair (.st (.pair .bool (.sl (.int .u32)))) (.st (.pair .bool (.sl (.int .u32)))))) a,.d (.st (.pair (.st (.pair .bool (.sl (.int .u32)))) (.st (.pair .bool (.sl (.int .u32)))))) b] [.d (.st (.pair (.st (.pair .bool (.sl (.int .u32)))) (.st (.pair .bool (.sl (.int .u32)))))) (ae (aa a/aa b))]:=by
 refine Ctx.Res.con (C:=Ej) (au wv) (abu _ _ ⟨0,?_⟩) (fn:=Tryz.f174) (by kernel_rfl) (by kernel_rfl)
 unfold xI
 rw[dT h]
end Go.Proofs.YtlahabkjhgkkjaaGreat
namespace Go.Proofs.YtlahabkjhgkkjaaGreat
open Go.RowKit
theorem aE{a b:Rat}{j k:Nat}[ha:Bd a j][hb:Bd b k](hj:j≤480000)(hk:k≤480000)(h:b≠0):decide (gh (ae a) (ae b))=true:=
 decide_eq_true ⟨mS ha.le hj,mS hb.le hk,by show ab (ag b.num)≠0;rw[dec_enc];exact fun e=>h (Rat.num_eq_zero.1 e)⟩
theorem aT(a b:Rat):decide (aQ a b>0)=decide (b<a):=by
 rcases(by grind:a<b∨a=b∨b<a)with h|h|h
 ·rw[cO h,decide_eq_false (show ¬b<a by grind)];rfl
 ·rw[h,cY,decide_eq_false (show ¬b<b by grind)];rfl
 ·rw[cH h,decide_eq_true h];rfl
theorem aN(a b:Rat):decide (aQ a b<0)=decide (a<b):=by
 rcases(by grind:a<b∨a=b∨b<a)with h|h|h
 ·rw[cO h,decide_eq_true h];rfl
 ·rw[h,cY,decide_eq_false (show ¬b<b by grind)];rfl
 ·rw[cH h,decide_eq_false (show ¬a<b by grind)];rfl
theorem C6(a b:Rat):decide (aQ a b≥0)=decide (b≤a):=by
 rcases(by grind:a<b∨a=b∨b<a)with h|h|h
 ·rw[cO h,decide_eq_false (show ¬b≤a by grind)];rfl
 ·rw[h,cY,decide_eq_true (show b≤b by grind)];rfl
 ·rw[cH h,decide_eq_true (show b≤a by grind)];rfl
theorem BB(a b:Rat):decide (aQ a b≤0)=decide (a≤b):=by
 rcases(by grind:a<b∨a=b∨b<a)with h|h|h
 ·rw[cO h,decide_eq_true (show a≤b by grind)];rfl
 ·rw[h,cY,decide_eq_true (show b≤b by grind)];rfl
 ·rw[cH h,decide_eq_false (show ¬a≤b by grind)];rfl
theorem aP(a b:Rat):(aQ a b==0)=decide (a=b):=by
 rcases(by grind:a<b∨a=b∨b<a)with h|h|h
 ·rw[cO h,decide_eq_false (show ¬a=b by grind)];rfl
 ·rw[h,cY,decide_eq_true rfl];rfl
 ·rw[cH h,decide_eq_false (show ¬a=b by grind)];rfl
theorem mC(a b:Rat): -1≤aQ a b∧aQ a b≤1:=by
 rcases(by grind:a<b∨a=b∨b<a)with h|h|h
 ·rw[cO h];decide
 ·rw[h,cY];decide
 ·rw[cH h];decide
theorem iV{a b c d:Rat}:IntKind.i64.wrap (aQ a b*aQ c d)=aQ a b*aQ c d:=by
 rcases(by grind:a<b∨a=b∨b<a)with h|h|h<;>rcases(by grind:c<d∨c=d∨d<c)with h'|h'|h'
 all_goals first|rw[cO h]|(subst h;rw[cY])|rw[cH h]
 all_goals first|rw[cO h']|(subst h';rw[cY])|rw[cH h']
 all_goals decide
def bg(a b p:Rat×Rat):Rat:=bif decide (cf (aU a b) (aU a p)≤0)then cf (aU a p) (aU a p)else bif decide (cf (aU a b) (aU a b)≤cf (aU a b) (aU a p))then cf (aU b p) (aU b p)
 else dJ (aU a b) (aU a p)*dJ (aU a b) (aU a p)/cf (aU a b) (aU a b)
instance afL {a b p:Rat×Rat} {j k l:Nat} [ha:Bd a j] [hb:Bd b k] [hp:Bd p l]:Bd (bg a b p) (100*(j+k+l+1)):=by
 have h1:∀{q:Rat} {m:Nat},Bd q m→m≤100*(j+k+l+1)→Bd q (100*(j+k+l+1)):=fun h hm=>⟨bI h.le hm⟩
 unfold bg
 cases decide (cf (aU a b) (aU a p)≤0)
 ·cases decide (cf (aU a b) (aU a b)≤cf (aU a b) (aU a p))
  ·have i:Bd (dJ (aU a b) (aU a p)*dJ (aU a b) (aU a p)/cf (aU a b) (aU a b)) _:=inferInstance
   exact h1 i (by omega)
  ·have i:Bd (cf (aU b p) (aU b p)) _:=inferInstance
   exact h1 i (by omega)
 ·have i:Bd (cf (aU a p) (aU a p)) _:=inferInstance
  exact h1 i (by omega)
def cgR(a b c d:Rat×Rat):Bool:=decide (aQ (dJ (aU a b) (aU a c)) 0*aQ (dJ (aU a b) (aU a d)) 0<0)&&decide (aQ (dJ (aU c d) (aU c a)) 0*aQ (dJ (aU c d) (aU c b)) 0<0)
def c9(x y:Rat):Rat:=bif decide (y<x)then y else x
def pZ(a b c d:Rat×Rat):Rat:=bif cgR a b c d then 0 else c9 (c9 (c9 (bg a b c) (bg a b d)) (bg c d a)) (bg c d b)
noncomputable def iD:aL:=spN false true [tR,tR] (fun x=>decide (okR x.1∧okR x.2.1)) (fun x=>[RV.d tR (hid (ae (aa x.1+aa x.2.1)))])
theorem fI:af Tryz.prog 149=true∧ao Tryz.prog 149 iD∧∀g,iD.mut_=some g→aK Tryz.prog 149 g:=aq (by kernel_rfl) fun x h=>by simp only[aj];exact K0 x.1 x.2.1 (of_decide_eq_true h)
noncomputable def gQ:aL:=spN false true [tR,tR] (fun x=>decide (okR x.1∧okR x.2.1)) (fun x=>[RV.d tR (hid (ae (aa x.1-aa x.2.1)))])
theorem eO:af Tryz.prog 147=true∧ao Tryz.prog 147 gQ∧∀g,gQ.mut_=some g→aK Tryz.prog 147 g:=aq (by kernel_rfl) fun x h=>by simp only[aj];exact Wj x.1 x.2.1 (of_decide_eq_true h)
noncomputable def gg:aL:=spN false true [tR,tR] (fun x=>decide (okR x.1∧okR x.2.1)) (fun x=>[RV.d tR (hid (ae (aa x.1*aa x.2.1)))])
theorem dY:af Tryz.prog 148=true∧ao Tryz.prog 148 gg∧∀g,gg.mut_=some g→aK Tryz.prog 148 g:=aq (by kernel_rfl) fun x h=>by simp only[aj];exact XG x.1 x.2.1 (of_decide_eq_true h)
noncomputable def qd:aL:=spN false true [tR,tR] (fun x=>decide (gh x.1 x.2.1)) (fun x=>[RV.d tR (hid (ae (aa x.1/aa x.2.1))),RV.d (.int .i64) 0])
theorem oN:af Tryz.prog 170=true∧ao Tryz.prog 170 qd∧∀g,qd.mut_=some g→aK Tryz.prog 170 g:=aq (by kernel_rfl) fun x h=>by simp only[aj];exact Wf x.1 x.2.1 (of_decide_eq_true h)
def fP:aL:=spN true true [tR] (fun x=>decide (okR x.1)) (fun x=>[RV.d (.int .i64) (aQ (aa x.1) 0)])
theorem ec:af Tryz.prog 83=true∧ao Tryz.prog 83 fP∧∀g,fP.mut_=some g→aK Tryz.prog 83 g:=aq (by kernel_rfl) fun x h=>IY x.1 (of_decide_eq_true h)
def je:aL:=spN true true [tR,tR] (fun x=>decide (okR x.1∧okR x.2.1)) (fun x=>[RV.d (.int .i64) (aQ (aa x.1) (aa x.2.1))])
theorem gH:af Tryz.prog 99=true∧ao Tryz.prog 99 je∧∀g,je.mut_=some g→aK Tryz.prog 99 g:=aq (by kernel_rfl) fun x h=>XQ x.1 x.2.1 (of_decide_eq_true h)
noncomputable def fS:aL:=spN false true [(.int .i64)] (fun x=>decide (bh x.1)) (fun x=>[RV.d tR (hid (ae (x.1:Rat)))])
theorem d7:af Tryz.prog 76=true∧ao Tryz.prog 76 fS∧∀g,fS.mut_=some g→aK Tryz.prog 76 g:=aq (by kernel_rfl) fun x h=>by simp only[aj];exact V0 x.1 (of_decide_eq_true h)
noncomputable def nc:Env:=[(149,iD),(147,gQ),(148,gg),(170,qd),(83,fP),(99,je),(76,fS)]
theorem lj:EnvAll Tryz.prog nc:=⟨fI,eO,dY,oN,ec,gH,d7,trivial⟩
noncomputable def SZ:Ctx:=⟨Tryz.prog,ft,tys,nc,[]⟩
noncomputable def Ic(_k:KT)(a:BR)(b:BR):Option (List RV):=match decide (okR a∧okR b)with|true=>some [RV.d tR (hid (ae (aa a+aa b)))]|false=>none
theorem adb(a:BR)(b:BR){rX:List RV}(hX:∃nX,Ic (SZ.k nX) a b=some rX):SZ.Res 75 [.d tR a,.d tR b] rX:=aO (t:=fun k=>Ic k a b) (fun k=>show go2 Tryz.prog ft tys nc [] k 4000 (az 75 [.d tR a,.d tR b]) (.node 0)=Ic k a b by kernel_rfl) hX
theorem VJ(a:BR)(b:BR)(h:okR a∧okR b):Con Tryz.prog 75 [.d tR a,.d tR b] [.d tR (ae (aa a+aa b))]:=by
 refine Ctx.Res.con (C:=SZ) (au lj) (adb _ _ ⟨0,?_⟩) (fn:=Tryz.f75) (by kernel_rfl) (by kernel_rfl)
 unfold Ic
 rw[dT h,aj]
noncomputable def R7:Ctx:=⟨Tryz.prog,ft,tys,nc,[]⟩
noncomputable def Jw(_k:KT)(a:BR)(b:BR):Option (List RV):=match decide (okR a∧okR b)with|true=>some [RV.d tR (hid (ae (aa a-aa b)))]|false=>none
theorem aeP(a:BR)(b:BR){rX:List RV}(hX:∃nX,Jw (R7.k nX) a b=some rX):R7.Res 112 [.d tR a,.d tR b] rX:=aO (t:=fun k=>Jw k a b) (fun k=>show go2 Tryz.prog ft tys nc [] k 4000 (az 112 [.d tR a,.d tR b]) (.node 0)=Jw k a b by kernel_rfl) hX
theorem V8(a:BR)(b:BR)(h:okR a∧okR b):Con Tryz.prog 112 [.d tR a,.d tR b] [.d tR (ae (aa a-aa b))]:=by
 refine Ctx.Res.con (C:=R7) (au lj) (aeP _ _ ⟨0,?_⟩) (fn:=Tryz.f112) (by kernel_rfl) (by kernel_rfl)
 unfold Jw
 rw[dT h,aj]
noncomputable def U4:Ctx:=⟨Tryz.prog,ft,tys,nc,[]⟩
noncomputable def Ls(_k:KT)(a:BR)(b:BR):Option (List RV):=match decide (okR a∧okR b)with|true=>some [RV.d tR (hid (ae (aa a*aa b)))]|false=>none
theorem adZ(a:BR)(b:BR){rX:List RV}(hX:∃nX,Ls (U4.k nX) a b=some rX):U4.Res 77 [.d tR a,.d tR b] rX:=aO (t:=fun k=>Ls k a b) (fun k=>show go2 Tryz.prog ft tys nc [] k 4000 (az 77 [.d tR a,.d tR b]) (.node 0)=Ls k a b by kernel_rfl) hX
theorem Yo(a:BR)(b:BR)(h:okR a∧okR b):Con Tryz.prog 77 [.d tR a,.d tR b] [.d tR (ae (aa a*aa b))]:=by
 refine Ctx.Res.con (C:=U4) (au lj) (adZ _ _ ⟨0,?_⟩) (fn:=Tryz.f77) (by kernel_rfl) (by kernel_rfl)
 unfold Ls
 rw[dT h,aj]
noncomputable def Vu:Ctx:=⟨Tryz.prog,ft,tys,nc,[]⟩
noncomputable def I6(_k:KT)(a:BR)(b:BR):Option (List RV):=match decide (gh a b)with|true=>(match 0 !=0 with|true=>(match decide (bh (0:Int))with|true=>some [RV.d tR (hid (ae ((0:Int):Rat)))]|false=>none)|false=>some [RV.d tR (hid (ae (aa a/aa b)))])|false=>none
theorem ach(a:BR)(b:BR){rX:List RV}(hX:∃nX,I6 (Vu.k nX) a b=some rX):Vu.Res 87 [.d tR a,.d tR b] rX:=aO (t:=fun k=>I6 k a b) (fun k=>show go2 Tryz.prog ft tys nc [] k 4000 (az 87 [.d tR a,.d tR b]) (.node 0)=I6 k a b by kernel_rfl) hX
theorem X6(a:BR)(b:BR)(h:gh a b):Con Tryz.prog 87 [.d tR a,.d tR b] [.d tR (ae (aa a/aa b))]:=by
 refine Ctx.Res.con (C:=Vu) (au lj) (ach _ _ ⟨0,?_⟩) (fn:=Tryz.f87) (by kernel_rfl) (by kernel_rfl)
 unfold I6
 rw[dT h]
 simp only[aj]
 rfl
noncomputable def sU:aL:=spN false true [tR,tR] (fun x=>decide (okR x.1∧okR x.2.1)) (fun x=>[RV.d tR (hid (ae (aa x.1+aa x.2.1)))])
theorem tr:af Tryz.prog 75=true∧ao Tryz.prog 75 sU∧∀g,sU.mut_=some g→aK Tryz.prog 75 g:=aq (by kernel_rfl) fun x h=>by simp only[aj];exact VJ x.1 x.2.1 (of_decide_eq_true h)
noncomputable def o9:aL:=spN false true [tR,tR] (fun x=>decide (okR x.1∧okR x.2.1)) (fun x=>[RV.d tR (hid (ae (aa x.1-aa x.2.1)))])
theorem nM:af Tryz.prog 112=true∧ao Tryz.prog 112 o9∧∀g,o9.mut_=some g→aK Tryz.prog 112 g:=aq (by kernel_rfl) fun x h=>by simp only[aj];exact V8 x.1 x.2.1 (of_decide_eq_true h)
noncomputable def tu:aL:=spN false true [tR,tR] (fun x=>decide (okR x.1∧okR x.2.1)) (fun x=>[RV.d tR (hid (ae (aa x.1*aa x.2.1)))])
theorem ue:af Tryz.prog 77=true∧ao Tryz.prog 77 tu∧∀g,tu.mut_=some g→aK Tryz.prog 77 g:=aq (by kernel_rfl) fun x h=>by simp only[aj];exact Yo x.1 x.2.1 (of_decide_eq_true h)
noncomputable def ul:aL:=spN false true [tR,tR] (fun x=>decide (gh x.1 x.2.1)) (fun x=>[RV.d tR (hid (ae (aa x.1/aa x.2.1)))])
theorem tS:af Tryz.prog 87=true∧ao Tryz.prog 87 ul∧∀g,ul.mut_=some g→aK Tryz.prog 87 g:=aq (by kernel_rfl) fun x h=>by simp only[aj];exact X6 x.1 x.2.1 (of_decide_eq_true h)
noncomputable def qC:Env:=(75,sU)::(112,o9)::(77,tu)::(87,ul)::nc
theorem nV:EnvAll Tryz.prog qC:=⟨tr,nM,ue,tS,lj⟩
noncomputable def Pm:Ctx:=⟨Tryz.prog,ft,tys,qC,[]⟩
noncomputable def KC(_k:KT)(a:BV)(b:BV):Option (List RV):=match decide (okR b.1∧okR a.1)with|true=>(match decide (okR b.2∧okR a.2)with|true=>some [RV.d tV (hid (ae (aa b.1-aa a.1)),hid (ae (aa b.2-aa a.2)))]|false=>none)|false=>none
theorem aeb(a:BV)(b:BV){rX:List RV}(hX:∃nX,KC (Pm.k nX) a b=some rX):Pm.Res 69 [.d tV a,.d tV b] rX:=aO (t:=fun k=>KC k a b) (fun k=>show go2 Tryz.prog ft tys qC [] k 4000 (az 69 [.d tV a,.d tV b]) (.node 0)=KC k a b by kernel_rfl) hX
theorem Wd(a:BV)(b:BV)(h:ok (Rat×Rat) 1000 a∧ok (Rat×Rat) 1000 b):Con Tryz.prog 69 [.d tV a,.d tV b] [.d tV (enc (aU (dec a) (dec b)))]:=by
 refine Ctx.Res.con (C:=Pm) (au nV) (aeb _ _ ⟨0,?_⟩) (fn:=Tryz.f69) (by kernel_rfl) (by kernel_rfl)
 obtain⟨ha,hb⟩:=h
 obtain⟨a,rfl,ba⟩:=aS ha
 obtain⟨b,rfl,bb⟩:=aS hb
 unfold KC
 simp only[aj,ak,aF,aG,aD,aw,aX,Bool.decide_and,Bool.and_self,Nat.reduceLeDiff]
 try rfl
noncomputable def Vo:Ctx:=⟨Tryz.prog,ft,tys,qC,[]⟩
noncomputable def Ik(_k:KT)(a:BV)(b:BV):Option (List RV):=match decide (okR a.1∧okR b.1)with|true=>(match decide (okR a.2∧okR b.2)with|true=>(match decide (okR (hid (ae (aa a.1*aa b.1)))∧okR (hid (ae (aa a.2*aa b.2))))with|true=>some [RV.d tR (hid (ae (aa (hid (ae (aa a.1*aa b.1)))+aa (hid (ae (aa a.2*aa b.2))))))]|false=>none)|false=>none)|false=>none
theorem ac6(a:BV)(b:BV){rX:List RV}(hX:∃nX,Ik (Vo.k nX) a b=some rX):Vo.Res 72 [.d tV a,.d tV b] rX:=aO (t:=fun k=>Ik k a b) (fun k=>show go2 Tryz.prog ft tys qC [] k 4000 (az 72 [.d tV a,.d tV b]) (.node 0)=Ik k a b by kernel_rfl) hX
theorem Xp(a:BV)(b:BV)(h:ok (Rat×Rat) 5000 a∧ok (Rat×Rat) 5000 b):Con Tryz.prog 72 [.d tV a,.d tV b] [.d tR (ae (cf (dec a) (dec b)))]:=by
 refine Ctx.Res.con (C:=Vo) (au nV) (ac6 _ _ ⟨0,?_⟩) (fn:=Tryz.f72) (by kernel_rfl) (by kernel_rfl)
 obtain⟨ha,hb⟩:=h
 obtain⟨a,rfl,ba⟩:=aS ha
 obtain⟨b,rfl,bb⟩:=aS hb
 unfold Ik
 simp only[aj,ak,aF,aG,aD,aw,aX,Bool.decide_and,Bool.and_self,Nat.reduceAdd,Nat.reduceLeDiff]
 try rfl
noncomputable def Ul:Ctx:=⟨Tryz.prog,ft,tys,qC,[]⟩
noncomputable def KK(_k:KT)(a:BV)(b:BV):Option (List RV):=match decide (okR a.1∧okR b.2)with|true=>(match decide (okR a.2∧okR b.1)with|true=>(match decide (okR (hid (ae (aa a.1*aa b.2)))∧okR (hid (ae (aa a.2*aa b.1))))with|true=>some [RV.d tR (hid (ae (aa (hid (ae (aa a.1*aa b.2)))-aa (hid (ae (aa a.2*aa b.1))))))]|false=>none)|false=>none)|false=>none
theorem ady(a:BV)(b:BV){rX:List RV}(hX:∃nX,KK (Ul.k nX) a b=some rX):Ul.Res 181 [.d tV a,.d tV b] rX:=aO (t:=fun k=>KK k a b) (fun k=>show go2 Tryz.prog ft tys qC [] k 4000 (az 181 [.d tV a,.d tV b]) (.node 0)=KK k a b by kernel_rfl) hX
theorem XJ(a:BV)(b:BV)(h:ok (Rat×Rat) 5000 a∧ok (Rat×Rat) 5000 b):Con Tryz.prog 181 [.d tV a,.d tV b] [.d tR (ae (dJ (dec a) (dec b)))]:=by
 refine Ctx.Res.con (C:=Ul) (au nV) (ady _ _ ⟨0,?_⟩) (fn:=Tryz.f181) (by kernel_rfl) (by kernel_rfl)
 obtain⟨ha,hb⟩:=h
 obtain⟨a,rfl,ba⟩:=aS ha
 obtain⟨b,rfl,bb⟩:=aS hb
 unfold KK
 simp only[aj,ak,aF,aG,aD,aw,aX,Bool.decide_and,Bool.and_self,Nat.reduceAdd,Nat.reduceLeDiff]
 try rfl
noncomputable def xG:aL:=spN false true [tV,tV] (fun x=>decide (ok (Rat×Rat) 1000 x.1∧ok (Rat×Rat) 1000 x.2.1)) (fun x=>[RV.d tV (hid (enc (aU (dec x.1) (dec x.2.1))))])
theorem BD:af Tryz.prog 69=true∧ao Tryz.prog 69 xG∧∀g,xG.mut_=some g→aK Tryz.prog 69 g:=aq (by kernel_rfl) fun x h=>by simp only[aj];exact Wd x.1 x.2.1 (of_decide_eq_true h)
noncomputable def sM:aL:=spN false true [tV,tV] (fun x=>decide (ok (Rat×Rat) 5000 x.1∧ok (Rat×Rat) 5000 x.2.1)) (fun x=>[RV.d tR (hid (ae (cf (dec x.1) (dec x.2.1))))])
theorem uv:af Tryz.prog 72=true∧ao Tryz.prog 72 sM∧∀g,sM.mut_=some g→aK Tryz.prog 72 g:=aq (by kernel_rfl) fun x h=>by simp only[aj];exact Xp x.1 x.2.1 (of_decide_eq_true h)
noncomputable def zH:aL:=spN false true [tV,tV] (fun x=>decide (ok (Rat×Rat) 5000 x.1∧ok (Rat×Rat) 5000 x.2.1)) (fun x=>[RV.d tR (hid (ae (dJ (dec x.1) (dec x.2.1))))])
theorem BK:af Tryz.prog 181=true∧ao Tryz.prog 181 zH∧∀g,zH.mut_=some g→aK Tryz.prog 181 g:=aq (by kernel_rfl) fun x h=>by simp only[aj];exact XJ x.1 x.2.1 (of_decide_eq_true h)
noncomputable def C5:Env:=(69,xG)::(72,sM)::(181,zH)::qC
theorem DG:EnvAll Tryz.prog C5:=⟨BD,uv,BK,nV⟩
noncomputable def UG:Ctx:=⟨Tryz.prog,ft,tys,C5,[]⟩
noncomputable def Kl(_k:KT)(a:BV)(b:BV)(p:BV):Option (List RV):=let y1:=hid (enc (aU (dec a) (dec b)));let y2:=hid (enc (aU (dec a) (dec p)));let y3:=hid (ae (cf (dec y1) (dec y2)));let y4:=hid (ae (cf (dec y1) (dec y1)));let y5:=hid (enc (aU (dec b) (dec p)));let y6:=hid (ae (dJ (dec y1) (dec y2)));let y7:=hid (ae (aa y6*aa y6));match decide (ok (Rat×Rat) 1000 a∧ok (Rat×Rat) 1000 b)with|true=>(match decide (ok (Rat×Rat) 1000 a∧ok (Rat×Rat) 1000 p)with|true=>(match decide (ok (Rat×Rat) 5000 y1∧ok (Rat×Rat) 5000 y1)with|true=>(match decide (ok (Rat×Rat) 5000 y1∧ok (Rat×Rat) 5000 y2)with|true=>(match decide (okR y3)with|true=>(match decide ((aQ (aa y3) 0)≤0)with|true=>(match decide (ok (Rat×Rat) 5000 y2∧ok (Rat×Rat) 5000 y2)with|true=>some [RV.d tR (hid (ae (cf (dec y2) (dec y2))))]|false=>none)|false=>(match decide (okR y3∧okR y4)with|true=>(match decide ((aQ (aa y3) (aa y4))≥0)with|true=>(match decide (ok (Rat×Rat) 1000 b∧ok (Rat×Rat) 1000 p)with|true=>(match decide (ok (Rat×Rat) 5000 y5∧ok (Rat×Rat) 5000 y5)with|true=>some [RV.d tR (hid (ae (cf (dec y5) (dec y5))))]|false=>none)|false=>none)|false=>(match decide (ok (Rat×Rat) 5000 y1∧ok (Rat×Rat) 5000 y2)with|true=>(match decide (okR y6∧okR y6)with|true=>(match decide (gh y7 y4)with|true=>some [RV.d tR (hid (ae (aa y7/aa y4)))]|false=>none)|false=>none)|false=>none))|false=>none))|false=>none)|false=>none)|false=>none)|false=>none)|false=>none
theorem acM(a:BV)(b:BV)(p:BV){rX:List RV}(hX:∃nX,Kl (UG.k nX) a b p=some rX):UG.Res 98 [.d tV a,.d tV b,.d tV p] rX:=aO (t:=fun k=>Kl k a b p) (fun k=>show go2 Tryz.prog ft tys C5 [] k 4000 (az 98 [.d tV a,.d tV b,.d tV p]) (.node 0)=Kl k a b p by kernel_rfl) hX
theorem VR(a:BV)(b:BV)(p:BV)(h:ok (Rat×Rat) 100 a∧ok (Rat×Rat) 100 b∧ok (Rat×Rat) 100 p):Con Tryz.prog 98 [.d tV a,.d tV b,.d tV p] [.d tR (ae (bg (dec a) (dec b) (dec p)))]:=by
 refine Ctx.Res.con (C:=UG) (au DG) (acM _ _ _ ⟨0,?_⟩) (fn:=Tryz.f98) (by kernel_rfl) (by kernel_rfl)
 obtain⟨ha,hb,hp⟩:=h
 obtain⟨a,rfl,ba⟩:=aS ha
 obtain⟨b,rfl,bb⟩:=aS hb
 obtain⟨p,rfl,bp⟩:=aS hp
 have hnz:¬cf (aU a b) (aU a p)≤0→¬cf (aU a b) (aU a b)≤cf (aU a b) (aU a p)→cf (aU a b) (aU a b)≠0:=fun h1 h2=>by grind
 unfold Kl
 simp only[aj,ak,aw,okd,aX,Bool.decide_and,Bool.and_self,Nat.reduceAdd,Nat.reduceLeDiff,BB,C6]
 unfold bg
 cases h1:decide (cf (aU a b) (aU a p)≤0)
 ·cases h2:decide (cf (aU a b) (aU a b)≤cf (aU a b) (aU a p))
  ·have hz:=hnz (of_decide_eq_false h1) (of_decide_eq_false h2)
   simp only[aE,Nat.reduceAdd,Nat.reduceLeDiff,cond_false,hz,ne_eq,not_false_eq_true]
   try rfl
  ·rfl
 ·rfl
noncomputable def Qs:Ctx:=⟨Tryz.prog,ft,tys,C5,[]⟩
noncomputable def H3(_k:KT)(a:BV)(b:BV)(c:BV)(d:BV):Option (List RV):=match decide (ok (Rat×Rat) 1000 a∧ok (Rat×Rat) 1000 b)with|true=>(match decide (ok (Rat×Rat) 1000 c∧ok (Rat×Rat) 1000 d)with|true=>(match decide (ok (Rat×Rat) 1000 a∧ok (Rat×Rat) 1000 c)with|true=>(match decide (ok (Rat×Rat) 5000 (hid (enc (aU (dec a) (dec b))))∧ok (Rat×Rat) 5000 (hid (enc (aU (dec a) (dec c)))))with|true=>(match decide (okR (hid (ae (dJ (dec (hid (enc (aU (dec a) (dec b))))) (dec (hid (enc (aU (dec a) (dec c)))))))))with|true=>(match decide (ok (Rat×Rat) 1000 a∧ok (Rat×Rat) 1000 d)with|true=>(match decide (ok (Rat×Rat) 5000 (hid (enc (aU (dec a) (dec b))))∧ok (Rat×Rat) 5000 (hid (enc (aU (dec a) (dec d)))))with|true=>(match decide (okR (hid (ae (dJ (dec (hid (enc (aU (dec a) (dec b))))) (dec (hid (enc (aU (dec a) (dec d)))))))))with|true=>(match decide ((IntKind.i64.wrap ((aQ (aa (hid (ae (dJ (dec (hid (enc (aU (dec a) (dec b))))) (dec (hid (enc (aU (dec a) (dec c))))))))) 0)*(aQ (aa (hid (ae (dJ (dec (hid (enc (aU (dec a) (dec b))))) (dec (hid (enc (aU (dec a) (dec d))))))))) 0)))<0)with|true=>(match decide (ok (Rat×Rat) 1000 c∧ok (Rat×Rat) 1000 a)with|true=>(match decide (ok (Rat×Rat) 5000 (hid (enc (aU (dec c) (dec d))))∧ok (Rat×Rat) 5000 (hid (enc (aU (dec c) (dec a)))))with|true=>(match decide (okR (hid (ae (dJ (dec (hid (enc (aU (dec c) (dec d))))) (dec (hid (enc (aU (dec c) (dec a)))))))))with|true=>(match decide (ok (Rat×Rat) 1000 c∧ok (Rat×Rat) 1000 b)with|true=>(match decide (ok (Rat×Rat) 5000 (hid (enc (aU (dec c) (dec d))))∧ok (Rat×Rat) 5000 (hid (enc (aU (dec c) (dec b)))))with|true=>(match decide (okR (hid (ae (dJ (dec (hid (enc (aU (dec c) (dec d))))) (dec (hid (enc (aU (dec c) (dec b)))))))))with|true=>some [RV.d .bool (decide ((IntKind.i64.wrap ((aQ (aa (hid (ae (dJ (dec (hid (enc (aU (dec c) (dec d))))) (dec (hid (enc (aU (dec c) (dec a))))))))) 0)*(aQ (aa (hid (ae (dJ (dec (hid (enc (aU (dec c) (dec d))))) (dec (hid (enc (aU (dec c) (dec b))))))))) 0)))<0))]|false=>none)|false=>none)|false=>none)|false=>none)|false=>none)|false=>none)|false=>some [RV.d .bool false])|false=>none)|false=>none)|false=>none)|false=>none)|false=>none)|false=>none)|false=>none)|false=>none
theorem adX(a:BV)(b:BV)(c:BV)(d:BV){rX:List RV}(hX:∃nX,H3 (Qs.k nX) a b c d=some rX):Qs.Res 97 [.d tV a,.d tV b,.d tV c,.d tV d] rX:=aO (t:=fun k=>H3 k a b c d) (fun k=>show go2 Tryz.prog ft tys C5 [] k 4000 (az 97 [.d tV a,.d tV b,.d tV c,.d tV d]) (.node 0)=H3 k a b c d by kernel_rfl) hX
theorem Yr(a:BV)(b:BV)(c:BV)(d:BV)(h:ok (Rat×Rat) 100 a∧ok (Rat×Rat) 100 b∧ok (Rat×Rat) 100 c∧ok (Rat×Rat) 100 d):Con Tryz.prog 97 [.d tV a,.d tV b,.d tV c,.d tV d] [.d .bool (cgR (dec a) (dec b) (dec c) (dec d))]:=by
 refine Ctx.Res.con (C:=Qs) (au DG) (adX _ _ _ _ ⟨0,?_⟩) (fn:=Tryz.f97) (by kernel_rfl) (by kernel_rfl)
 obtain⟨ha,hb,hc,hd⟩:=h
 obtain⟨a,rfl,ba⟩:=aS ha
 obtain⟨b,rfl,bb⟩:=aS hb
 obtain⟨c,rfl,bc⟩:=aS hc
 obtain⟨d,rfl,bd⟩:=aS hd
 unfold H3
 simp only[aj,ak,aw,okd,aX,Bool.decide_and,Bool.and_self,Nat.reduceAdd,Nat.reduceLeDiff,iV]
 unfold cgR
 cases decide (aQ (dJ (aU a b) (aU a c)) 0*aQ (dJ (aU a b) (aU a d)) 0<0)<;>rfl
noncomputable def iR:aL:=spN false true [tR,tR] (fun x=>decide (okR x.1∧okR x.2.1)) (fun x=>[RV.d tR (hid (ae (aa x.1+aa x.2.1)))])
theorem ii:af Tryz.prog 127=true∧ao Tryz.prog 127 iR∧∀g,iR.mut_=some g→aK Tryz.prog 127 g:=aq (by kernel_rfl) fun x h=>by simp only[aj];exact DX x.1 x.2.1 (of_decide_eq_true h)
noncomputable def iS:aL:=spN false true [tR,tR] (fun x=>decide (okR x.1∧okR x.2.1)) (fun x=>[RV.d tR (hid (ae (aa x.1-aa x.2.1)))])
theorem hZ:af Tryz.prog 161=true∧ao Tryz.prog 161 iS∧∀g,iS.mut_=some g→aK Tryz.prog 161 g:=aq (by kernel_rfl) fun x h=>by simp only[aj];exact QB x.1 x.2.1 (of_decide_eq_true h)
noncomputable def gT:aL:=spN false true [tR,tR] (fun x=>decide (okR x.1∧okR x.2.1)) (fun x=>[RV.d tR (hid (ae (aa x.1*aa x.2.1)))])
theorem fZ:af Tryz.prog 132=true∧ao Tryz.prog 132 gT∧∀g,gT.mut_=some g→aK Tryz.prog 132 g:=aq (by kernel_rfl) fun x h=>by simp only[aj];exact UE x.1 x.2.1 (of_decide_eq_true h)
noncomputable def qX:aL:=spN false true [tR,tR] (fun x=>decide (gh x.1 x.2.1)) (fun x=>[RV.d tR (hid (ae (aa x.1/aa x.2.1)))])
theorem wy:af Tryz.prog 174=true∧ao Tryz.prog 174 qX∧∀g,qX.mut_=some g→aK Tryz.prog 174 g:=aq (by kernel_rfl) fun x h=>by simp only[aj];exact Ru x.1 x.2.1 (of_decide_eq_true h)
def gA:aL:=spN true true [tR] (fun x=>decide (okR x.1)) (fun x=>[RV.d (.int .i64) (aQ (aa x.1) 0)])
theorem fj:af Tryz.prog 78=true∧ao Tryz.prog 78 gA∧∀g,gA.mut_=some g→aK Tryz.prog 78 g:=aq (by kernel_rfl) fun x h=>Vb x.1 (of_decide_eq_true h)
def iU:aL:=spN true true [tR,tR] (fun x=>decide (okR x.1∧okR x.2.1)) (fun x=>[RV.d (.int .i64) (aQ (aa x.1) (aa x.2.1))])
theorem hU:af Tryz.prog 107=true∧ao Tryz.prog 107 iU∧∀g,iU.mut_=some g→aK Tryz.prog 107 g:=aq (by kernel_rfl) fun x h=>UW x.1 x.2.1 (of_decide_eq_true h)
noncomputable def gY:aL:=spN false true [(.int .i64)] (fun x=>decide (bh x.1)) (fun x=>[RV.d tR (hid (ae (x.1:Rat)))])
theorem fU:af Tryz.prog 50=true∧ao Tryz.prog 50 gY∧∀g,gY.mut_=some g→aK Tryz.prog 50 g:=aq (by kernel_rfl) fun x h=>by simp only[aj];exact UK x.1 (of_decide_eq_true h)
noncomputable def qE:Env:=[(127,iR),(161,iS),(132,gT),(174,qX),(78,gA),(107,iU),(50,gY)]
theorem nW:EnvAll Tryz.prog qE:=⟨ii,hZ,fZ,wy,fj,hU,fU,trivial⟩
noncomputable def OQ:Ctx:=⟨Tryz.prog,ft,tys,qE,[]⟩
noncomputable def K4(_k:KT)(a:BR)(b:BR):Option (List RV):=match decide (okR a∧okR b)with|true=>some [RV.d tR (hid (ae (aa a+aa b)))]|false=>none
theorem ad3(a:BR)(b:BR){rX:List RV}(hX:∃nX,K4 (OQ.k nX) a b=some rX):OQ.Res 60 [.d tR a,.d tR b] rX:=aO (t:=fun k=>K4 k a b) (fun k=>show go2 Tryz.prog ft tys qE [] k 4000 (az 60 [.d tR a,.d tR b]) (.node 0)=K4 k a b by kernel_rfl) hX
theorem XR(a:BR)(b:BR)(h:okR a∧okR b):Con Tryz.prog 60 [.d tR a,.d tR b] [.d tR (ae (aa a+aa b))]:=by
 refine Ctx.Res.con (C:=OQ) (au nW) (ad3 _ _ ⟨0,?_⟩) (fn:=Tryz.f60) (by kernel_rfl) (by kernel_rfl)
 unfold K4
 rw[dT h,aj]
noncomputable def Uj:Ctx:=⟨Tryz.prog,ft,tys,qE,[]⟩
noncomputable def Lm(_k:KT)(a:BR)(b:BR):Option (List RV):=match decide (okR a∧okR b)with|true=>some [RV.d tR (hid (ae (aa a-aa b)))]|false=>none
theorem ab8(a:BR)(b:BR){rX:List RV}(hX:∃nX,Lm (Uj.k nX) a b=some rX):Uj.Res 144 [.d tR a,.d tR b] rX:=aO (t:=fun k=>Lm k a b) (fun k=>show go2 Tryz.prog ft tys qE [] k 4000 (az 144 [.d tR a,.d tR b]) (.node 0)=Lm k a b by kernel_rfl) hX
theorem W5(a:BR)(b:BR)(h:okR a∧okR b):Con Tryz.prog 144 [.d tR a,.d tR b] [.d tR (ae (aa a-aa b))]:=by
 refine Ctx.Res.con (C:=Uj) (au nW) (ab8 _ _ ⟨0,?_⟩) (fn:=Tryz.f144) (by kernel_rfl) (by kernel_rfl)
 unfold Lm
 rw[dT h,aj]
noncomputable def NL:Ctx:=⟨Tryz.prog,ft,tys,qE,[]⟩
noncomputable def Ll(_k:KT)(a:BR)(b:BR):Option (List RV):=match decide (okR a∧okR b)with|true=>some [RV.d tR (hid (ae (aa a*aa b)))]|false=>none
theorem aef(a:BR)(b:BR){rX:List RV}(hX:∃nX,Ll (NL.k nX) a b=some rX):NL.Res 61 [.d tR a,.d tR b] rX:=aO (t:=fun k=>Ll k a b) (fun k=>show go2 Tryz.prog ft tys qE [] k 4000 (az 61 [.d tR a,.d tR b]) (.node 0)=Ll k a b by kernel_rfl) hX
theorem W2(a:BR)(b:BR)(h:okR a∧okR b):Con Tryz.prog 61 [.d tR a,.d tR b] [.d tR (ae (aa a*aa b))]:=by
 refine Ctx.Res.con (C:=NL) (au nW) (aef _ _ ⟨0,?_⟩) (fn:=Tryz.f61) (by kernel_rfl) (by kernel_rfl)
 unfold Ll
 rw[dT h,aj]
noncomputable def xi:aL:=spN false true [tR,tR] (fun x=>decide (okR x.1∧okR x.2.1)) (fun x=>[RV.d tR (hid (ae (aa x.1+aa x.2.1)))])
theorem Br:af Tryz.prog 60=true∧ao Tryz.prog 60 xi∧∀g,xi.mut_=some g→aK Tryz.prog 60 g:=aq (by kernel_rfl) fun x h=>by simp only[aj];exact XR x.1 x.2.1 (of_decide_eq_true h)
noncomputable def Ay:aL:=spN false true [tR,tR] (fun x=>decide (okR x.1∧okR x.2.1)) (fun x=>[RV.d tR (hid (ae (aa x.1-aa x.2.1)))])
theorem CY:af Tryz.prog 144=true∧ao Tryz.prog 144 Ay∧∀g,Ay.mut_=some g→aK Tryz.prog 144 g:=aq (by kernel_rfl) fun x h=>by simp only[aj];exact W5 x.1 x.2.1 (of_decide_eq_true h)
noncomputable def w8:aL:=spN false true [tR,tR] (fun x=>decide (okR x.1∧okR x.2.1)) (fun x=>[RV.d tR (hid (ae (aa x.1*aa x.2.1)))])
theorem Cy:af Tryz.prog 61=true∧ao Tryz.prog 61 w8∧∀g,w8.mut_=some g→aK Tryz.prog 61 g:=aq (by kernel_rfl) fun x h=>by simp only[aj];exact W2 x.1 x.2.1 (of_decide_eq_true h)
noncomputable def qF:Env:=(60,xi)::(144,Ay)::(61,w8)::qE
theorem oS:EnvAll Tryz.prog qF:=⟨Br,CY,Cy,nW⟩
noncomputable def O3:Ctx:=⟨Tryz.prog,ft,tys,qF,[]⟩
noncomputable def JN(_k:KT)(a:BV)(b:BV):Option (List RV):=match decide (okR b.1∧okR a.1)with|true=>(match decide (okR b.2∧okR a.2)with|true=>some [RV.d tV (hid (ae (aa b.1-aa a.1)),hid (ae (aa b.2-aa a.2)))]|false=>none)|false=>none
theorem aeH(a:BV)(b:BV){rX:List RV}(hX:∃nX,JN (O3.k nX) a b=some rX):O3.Res 56 [.d tV a,.d tV b] rX:=aO (t:=fun k=>JN k a b) (fun k=>show go2 Tryz.prog ft tys qF [] k 4000 (az 56 [.d tV a,.d tV b]) (.node 0)=JN k a b by kernel_rfl) hX
theorem Wt(a:BV)(b:BV)(h:ok (Rat×Rat) 1000 a∧ok (Rat×Rat) 1000 b):Con Tryz.prog 56 [.d tV a,.d tV b] [.d tV (enc (aU (dec a) (dec b)))]:=by
 refine Ctx.Res.con (C:=O3) (au oS) (aeH _ _ ⟨0,?_⟩) (fn:=Tryz.f56) (by kernel_rfl) (by kernel_rfl)
 obtain⟨ha,hb⟩:=h
 obtain⟨a,rfl,ba⟩:=aS ha
 obtain⟨b,rfl,bb⟩:=aS hb
 unfold JN
 simp only[aj,ak,aF,aG,aD,aw,aX,Bool.decide_and,Bool.and_self,Nat.reduceLeDiff]
 try rfl
noncomputable def Uo:Ctx:=⟨Tryz.prog,ft,tys,qF,[]⟩
noncomputable def K1(_k:KT)(a:BV)(b:BV):Option (List RV):=match decide (okR a.1∧okR b.1)with|true=>(match decide (okR a.2∧okR b.2)with|true=>(match decide (okR (hid (ae (aa a.1*aa b.1)))∧okR (hid (ae (aa a.2*aa b.2))))with|true=>some [RV.d tR (hid (ae (aa (hid (ae (aa a.1*aa b.1)))+aa (hid (ae (aa a.2*aa b.2))))))]|false=>none)|false=>none)|false=>none
theorem acx(a:BV)(b:BV){rX:List RV}(hX:∃nX,K1 (Uo.k nX) a b=some rX):Uo.Res 58 [.d tV a,.d tV b] rX:=aO (t:=fun k=>K1 k a b) (fun k=>show go2 Tryz.prog ft tys qF [] k 4000 (az 58 [.d tV a,.d tV b]) (.node 0)=K1 k a b by kernel_rfl) hX
theorem YZ(a:BV)(b:BV)(h:ok (Rat×Rat) 5000 a∧ok (Rat×Rat) 5000 b):Con Tryz.prog 58 [.d tV a,.d tV b] [.d tR (ae (cf (dec a) (dec b)))]:=by
 refine Ctx.Res.con (C:=Uo) (au oS) (acx _ _ ⟨0,?_⟩) (fn:=Tryz.f58) (by kernel_rfl) (by kernel_rfl)
 obtain⟨ha,hb⟩:=h
 obtain⟨a,rfl,ba⟩:=aS ha
 obtain⟨b,rfl,bb⟩:=aS hb
 unfold K1
 simp only[aj,ak,aF,aG,aD,aw,aX,Bool.decide_and,Bool.and_self,Nat.reduceAdd,Nat.reduceLeDiff]
 try rfl
noncomputable def PC:Ctx:=⟨Tryz.prog,ft,tys,qF,[]⟩
noncomputable def IN(_k:KT)(a:BV)(b:BV):Option (List RV):=match decide (okR a.1∧okR b.2)with|true=>(match decide (okR a.2∧okR b.1)with|true=>(match decide (okR (hid (ae (aa a.1*aa b.2)))∧okR (hid (ae (aa a.2*aa b.1))))with|true=>some [RV.d tR (hid (ae (aa (hid (ae (aa a.1*aa b.2)))-aa (hid (ae (aa a.2*aa b.1))))))]|false=>none)|false=>none)|false=>none
theorem ac3(a:BV)(b:BV){rX:List RV}(hX:∃nX,IN (PC.k nX) a b=some rX):PC.Res 191 [.d tV a,.d tV b] rX:=aO (t:=fun k=>IN k a b) (fun k=>show go2 Tryz.prog ft tys qF [] k 4000 (az 191 [.d tV a,.d tV b]) (.node 0)=IN k a b by kernel_rfl) hX
theorem WJ(a:BV)(b:BV)(h:ok (Rat×Rat) 5000 a∧ok (Rat×Rat) 5000 b):Con Tryz.prog 191 [.d tV a,.d tV b] [.d tR (ae (dJ (dec a) (dec b)))]:=by
 refine Ctx.Res.con (C:=PC) (au oS) (ac3 _ _ ⟨0,?_⟩) (fn:=Tryz.f191) (by kernel_rfl) (by kernel_rfl)
 obtain⟨ha,hb⟩:=h
 obtain⟨a,rfl,ba⟩:=aS ha
 obtain⟨b,rfl,bb⟩:=aS hb
 unfold IN
 simp only[aj,ak,aF,aG,aD,aw,aX,Bool.decide_and,Bool.and_self,Nat.reduceAdd,Nat.reduceLeDiff]
 try rfl
noncomputable def AH:aL:=spN false true [tV,tV] (fun x=>decide (ok (Rat×Rat) 1000 x.1∧ok (Rat×Rat) 1000 x.2.1)) (fun x=>[RV.d tV (hid (enc (aU (dec x.1) (dec x.2.1))))])
theorem D0:af Tryz.prog 56=true∧ao Tryz.prog 56 AH∧∀g,AH.mut_=some g→aK Tryz.prog 56 g:=aq (by kernel_rfl) fun x h=>by simp only[aj];exact Wt x.1 x.2.1 (of_decide_eq_true h)
noncomputable def zs:aL:=spN false true [tV,tV] (fun x=>decide (ok (Rat×Rat) 5000 x.1∧ok (Rat×Rat) 5000 x.2.1)) (fun x=>[RV.d tR (hid (ae (cf (dec x.1) (dec x.2.1))))])
theorem CI:af Tryz.prog 58=true∧ao Tryz.prog 58 zs∧∀g,zs.mut_=some g→aK Tryz.prog 58 g:=aq (by kernel_rfl) fun x h=>by simp only[aj];exact YZ x.1 x.2.1 (of_decide_eq_true h)
noncomputable def Ar:aL:=spN false true [tV,tV] (fun x=>decide (ok (Rat×Rat) 5000 x.1∧ok (Rat×Rat) 5000 x.2.1)) (fun x=>[RV.d tR (hid (ae (dJ (dec x.1) (dec x.2.1))))])
theorem BX:af Tryz.prog 191=true∧ao Tryz.prog 191 Ar∧∀g,Ar.mut_=some g→aK Tryz.prog 191 g:=aq (by kernel_rfl) fun x h=>by simp only[aj];exact WJ x.1 x.2.1 (of_decide_eq_true h)
noncomputable def Bz:Env:=(56,AH)::(58,zs)::(191,Ar)::qF
theorem Cg:EnvAll Tryz.prog Bz:=⟨D0,CI,BX,oS⟩
noncomputable def QN:Ctx:=⟨Tryz.prog,ft,tys,Bz,[]⟩
noncomputable def KU(_k:KT)(a:BV)(b:BV)(p:BV):Option (List RV):=let y1:=hid (enc (aU (dec a) (dec b)));let y2:=hid (enc (aU (dec a) (dec p)));let y3:=hid (ae (cf (dec y1) (dec y2)));let y4:=hid (ae (cf (dec y1) (dec y1)));let y5:=hid (enc (aU (dec b) (dec p)));let y6:=hid (ae (dJ (dec y1) (dec y2)));let y7:=hid (ae (aa y6*aa y6));match decide (ok (Rat×Rat) 1000 a∧ok (Rat×Rat) 1000 b)with|true=>(match decide (ok (Rat×Rat) 1000 a∧ok (Rat×Rat) 1000 p)with|true=>(match decide (ok (Rat×Rat) 5000 y1∧ok (Rat×Rat) 5000 y1)with|true=>(match decide (ok (Rat×Rat) 5000 y1∧ok (Rat×Rat) 5000 y2)with|true=>(match decide (okR y3)with|true=>(match decide ((aQ (aa y3) 0)≤0)with|true=>(match decide (ok (Rat×Rat) 5000 y2∧ok (Rat×Rat) 5000 y2)with|true=>some [RV.d tR (hid (ae (cf (dec y2) (dec y2))))]|false=>none)|false=>(match decide (okR y3∧okR y4)with|true=>(match decide ((aQ (aa y3) (aa y4))≥0)with|true=>(match decide (ok (Rat×Rat) 1000 b∧ok (Rat×Rat) 1000 p)with|true=>(match decide (ok (Rat×Rat) 5000 y5∧ok (Rat×Rat) 5000 y5)with|true=>some [RV.d tR (hid (ae (cf (dec y5) (dec y5))))]|false=>none)|false=>none)|false=>(match decide (ok (Rat×Rat) 5000 y1∧ok (Rat×Rat) 5000 y2)with|true=>(match decide (okR y6∧okR y6)with|true=>(match decide (gh y7 y4)with|true=>some [RV.d tR (hid (ae (aa y7/aa y4)))]|false=>none)|false=>none)|false=>none))|false=>none))|false=>none)|false=>none)|false=>none)|false=>none)|false=>none
theorem adx(a:BV)(b:BV)(p:BV){rX:List RV}(hX:∃nX,KU (QN.k nX) a b p=some rX):QN.Res 106 [.d tV a,.d tV b,.d tV p] rX:=aO (t:=fun k=>KU k a b p) (fun k=>show go2 Tryz.prog ft tys Bz [] k 4000 (az 106 [.d tV a,.d tV b,.d tV p]) (.node 0)=KU k a b p by kernel_rfl) hX
theorem YC(a:BV)(b:BV)(p:BV)(h:ok (Rat×Rat) 100 a∧ok (Rat×Rat) 100 b∧ok (Rat×Rat) 100 p):Con Tryz.prog 106 [.d tV a,.d tV b,.d tV p] [.d tR (ae (bg (dec a) (dec b) (dec p)))]:=by
 refine Ctx.Res.con (C:=QN) (au Cg) (adx _ _ _ ⟨0,?_⟩) (fn:=Tryz.f106) (by kernel_rfl) (by kernel_rfl)
 obtain⟨ha,hb,hp⟩:=h
 obtain⟨a,rfl,ba⟩:=aS ha
 obtain⟨b,rfl,bb⟩:=aS hb
 obtain⟨p,rfl,bp⟩:=aS hp
 have hnz:¬cf (aU a b) (aU a p)≤0→¬cf (aU a b) (aU a b)≤cf (aU a b) (aU a p)→cf (aU a b) (aU a b)≠0:=fun h1 h2=>by grind
 unfold KU
 simp only[aj,ak,aw,okd,aX,Bool.decide_and,Bool.and_self,Nat.reduceAdd,Nat.reduceLeDiff,BB,C6]
 unfold bg
 cases h1:decide (cf (aU a b) (aU a p)≤0)
 ·cases h2:decide (cf (aU a b) (aU a b)≤cf (aU a b) (aU a p))
  ·have hz:=hnz (of_decide_eq_false h1) (of_decide_eq_false h2)
   simp only[aE,Nat.reduceAdd,Nat.reduceLeDiff,cond_false,hz,ne_eq,not_false_eq_true]
   try rfl
  ·rfl
 ·rfl
noncomputable def Uq:Ctx:=⟨Tryz.prog,ft,tys,Bz,[]⟩
noncomputable def I9(_k:KT)(a:BV)(b:BV)(c:BV)(d:BV):Option (List RV):=match decide (ok (Rat×Rat) 1000 a∧ok (Rat×Rat) 1000 b)with|true=>(match decide (ok (Rat×Rat) 1000 a∧ok (Rat×Rat) 1000 c)with|true=>(match decide (ok (Rat×Rat) 5000 (hid (enc (aU (dec a) (dec b))))∧ok (Rat×Rat) 5000 (hid (enc (aU (dec a) (dec c)))))with|true=>(match decide (okR (hid (ae (dJ (dec (hid (enc (aU (dec a) (dec b))))) (dec (hid (enc (aU (dec a) (dec c)))))))))with|true=>(match decide (ok (Rat×Rat) 1000 a∧ok (Rat×Rat) 1000 b)with|true=>(match decide (ok (Rat×Rat) 1000 a∧ok (Rat×Rat) 1000 d)with|true=>(match decide (ok (Rat×Rat) 5000 (hid (enc (aU (dec a) (dec b))))∧ok (Rat×Rat) 5000 (hid (enc (aU (dec a) (dec d)))))with|true=>(match decide (okR (hid (ae (dJ (dec (hid (enc (aU (dec a) (dec b))))) (dec (hid (enc (aU (dec a) (dec d)))))))))with|true=>(match decide (ok (Rat×Rat) 1000 c∧ok (Rat×Rat) 1000 d)with|true=>(match decide (ok (Rat×Rat) 1000 c∧ok (Rat×Rat) 1000 a)with|true=>(match decide (ok (Rat×Rat) 5000 (hid (enc (aU (dec c) (dec d))))∧ok (Rat×Rat) 5000 (hid (enc (aU (dec c) (dec a)))))with|true=>(match decide (okR (hid (ae (dJ (dec (hid (enc (aU (dec c) (dec d))))) (dec (hid (enc (aU (dec c) (dec a)))))))))with|true=>(match decide (ok (Rat×Rat) 1000 c∧ok (Rat×Rat) 1000 d)with|true=>(match decide (ok (Rat×Rat) 1000 c∧ok (Rat×Rat) 1000 b)with|true=>(match decide (ok (Rat×Rat) 5000 (hid (enc (aU (dec c) (dec d))))∧ok (Rat×Rat) 5000 (hid (enc (aU (dec c) (dec b)))))with|true=>(match decide (okR (hid (ae (dJ (dec (hid (enc (aU (dec c) (dec d))))) (dec (hid (enc (aU (dec c) (dec b)))))))))with|true=>(match decide ((IntKind.i64.wrap ((aQ (aa (hid (ae (dJ (dec (hid (enc (aU (dec a) (dec b))))) (dec (hid (enc (aU (dec a) (dec c))))))))) 0)*(aQ (aa (hid (ae (dJ (dec (hid (enc (aU (dec a) (dec b))))) (dec (hid (enc (aU (dec a) (dec d))))))))) 0)))<0)with|true=>some [RV.d .bool (decide ((IntKind.i64.wrap ((aQ (aa (hid (ae (dJ (dec (hid (enc (aU (dec c) (dec d))))) (dec (hid (enc (aU (dec c) (dec a))))))))) 0)*(aQ (aa (hid (ae (dJ (dec (hid (enc (aU (dec c) (dec d))))) (dec (hid (enc (aU (dec c) (dec b))))))))) 0)))<0))]|false=>some [RV.d .bool false])|false=>none)|false=>none)|false=>none)|false=>none)|false=>none)|false=>none)|false=>none)|false=>none)|false=>none)|false=>none)|false=>none)|false=>none)|false=>none)|false=>none)|false=>none)|false=>none
theorem aeK(a:BV)(b:BV)(c:BV)(d:BV){rX:List RV}(hX:∃nX,I9 (Uq.k nX) a b c d=some rX):Uq.Res 105 [.d tV a,.d tV b,.d tV c,.d tV d] rX:=aO (t:=fun k=>I9 k a b c d) (fun k=>show go2 Tryz.prog ft tys Bz [] k 4000 (az 105 [.d tV a,.d tV b,.d tV c,.d tV d]) (.node 0)=I9 k a b c d by kernel_rfl) hX
theorem Yy(a:BV)(b:BV)(c:BV)(d:BV)(h:ok (Rat×Rat) 100 a∧ok (Rat×Rat) 100 b∧ok (Rat×Rat) 100 c∧ok (Rat×Rat) 100 d):Con Tryz.prog 105 [.d tV a,.d tV b,.d tV c,.d tV d] [.d .bool (cgR (dec a) (dec b) (dec c) (dec d))]:=by
 refine Ctx.Res.con (C:=Uq) (au Cg) (aeK _ _ _ _ ⟨0,?_⟩) (fn:=Tryz.f105) (by kernel_rfl) (by kernel_rfl)
 obtain⟨ha,hb,hc,hd⟩:=h
 obtain⟨a,rfl,ba⟩:=aS ha
 obtain⟨b,rfl,bb⟩:=aS hb
 obtain⟨c,rfl,bc⟩:=aS hc
 obtain⟨d,rfl,bd⟩:=aS hd
 unfold I9
 simp only[aj,ak,aw,okd,aX,Bool.decide_and,Bool.and_self,Nat.reduceAdd,Nat.reduceLeDiff,iV]
 unfold cgR
 cases decide (aQ (dJ (aU a b) (aU a c)) 0*aQ (dJ (aU a b) (aU a d)) 0<0)<;>rfl
end Go.Proofs.YtlahabkjhgkkjaaGreat
namespace Go.Proofs.YtlahabkjhgkkjaaGreat
abbrev Rt:=Rat×Rat×Rat
def eD(a b m:Rat):Int:=RE.addS (aQ a 0) (aQ b 0*aQ m 0) (aQ (a*a) (b*b*m))
def xm(A B C D M N:Rat):Int:=bif decide (M<0)||decide (N<0)then 0
 else RE.addS (eD A B M) (eD C D M*aQ N 0) (eD (A*A+B*B*M-N*(C*C+D*D*M)) (2*(A*B-N*(C*D))) M)
def bK(x y:Rt):Int:=xm (x.1-y.1) x.2.1 (-y.2.1) 0 x.2.2 y.2.2
theorem uj(a b:Rat):aQ (a-b) 0=aQ a b:=by
 rcases(by grind:a<b∨a=b∨b<a)with h|h|h
 ·rw[cO h,cO (by grind)]
 ·rw[h,cY,show b-b=0 by grind,cY]
 ·rw[cH h,cH (by grind)]
namespace RE
noncomputable def rq(m:Rat):RE:=so (of m)
theorem acV(m:Rat):0≤rq m:=lz _
theorem BT{m:Rat}(h:0≤m):rq m*rq m=of m:=za (oq.2 h)
theorem YT{x:RE}(h:0≤x):sg (so x)=sg x:=by
 have h1:=lz x
 have h2:=za h
 rcases nL h1 with h'|h'
 ·rw[jW h',←h2,jW (mul_pos h' h')]
 ·rw[h',mul_zero]at h2
  rw[h',h2]
theorem ZD{m:Rat}(h:0≤m):sg (rq m)=aQ m 0:=by
 unfold rq
 rw[YT (oq.2 h),sg_of]
noncomputable def v2(a b m:Rat):RE:=of a+of b*rq m
noncomputable def vR(x:Rt):RE:=v2 x.1 x.2.1 x.2.2
theorem sq2(a b s:RE):a*a-b*s*(b*s)=a*a-b*b*(s*s):=by
 induction a using Quotient.inductionOn
 induction b using Quotient.inductionOn
 induction s using Quotient.inductionOn
 exact snd fun n=>by
  simp only[RL.add,RL.mul,RL.neg]
  grind
theorem sq4(A B C D s t:RE):(A+B*s)*(A+B*s)-(C+D*s)*t*((C+D*s)*t)=A*A+B*B*(s*s)-t*t*(C*C+D*D*(s*s))+2*(A*B-t*t*(C*D))*s:=by
 induction A using Quotient.inductionOn
 induction B using Quotient.inductionOn
 induction C using Quotient.inductionOn
 induction D using Quotient.inductionOn
 induction s using Quotient.inductionOn
 induction t using Quotient.inductionOn
 exact snd fun n=>by
  simp only[RL.add,RL.mul,RL.neg,RL.const]
  grind
theorem aeL(A B C D s t:RE):A+B*s+(C+D*s)*t=A+B*s+C*t+D*(s*t):=by
 induction A using Quotient.inductionOn
 induction B using Quotient.inductionOn
 induction C using Quotient.inductionOn
 induction D using Quotient.inductionOn
 induction s using Quotient.inductionOn
 induction t using Quotient.inductionOn
 exact snd fun n=>by
  simp only[RL.add,RL.mul]
  grind
theorem abo(a b c d s t:RE):a-c+b*s+(-d)*t+0*(s*t)=a+b*s-(c+d*t):=by
 induction a using Quotient.inductionOn
 induction b using Quotient.inductionOn
 induction c using Quotient.inductionOn
 induction d using Quotient.inductionOn
 induction s using Quotient.inductionOn
 induction t using Quotient.inductionOn
 exact snd fun n=>by
  simp only[RL.add,RL.mul,RL.neg,RL.const]
  grind
theorem sgn2_re{a b m:Rat}(h:0≤m):eD a b m=sg (v2 a b m):=by
 unfold v2
 rw[Om,sq2,BT h,pK,sg_of,sg_of,ZD h,←dX,←dX,←dX,←of_sub,sg_of,uj]
 rfl
theorem aav:of 2=2:=rfl
noncomputable def vQ(A B C D M N:Rat):RE:=of A+of B*rq M+of C*rq N+of D*(rq M*rq N)
theorem sgnQ_re{A B C D M N:Rat}(hM:0≤M)(hN:0≤N):xm A B C D M N=sg (vQ A B C D M N):=by
 unfold xm vQ
 rw[decide_eq_false (by grind),decide_eq_false (by grind),←aeL,Om,sq4,BT hM,BT hN,pK,ZD hN,sgn2_re hM,sgn2_re hM,sgn2_re hM]
 unfold v2
 simp only[of_sub,of_add,dX,aav]
 rfl
theorem cmpT_re{x y:Rt}(hx:0≤x.2.2)(hy:0≤y.2.2):bK x y=sg (vR x-vR y):=by
 unfold bK vR v2
 rw[sgnQ_re hx hy,←abo,←of_sub,←of_neg]
 rfl
end RE
theorem Ai{s t:Int}(hs: -1≤s∧s≤1)(ht: -1≤t∧t≤1): -1≤s*t∧s*t≤1:=by
 have h1:s= -1∨s=0∨s=1:=by omega
 have h2:t= -1∨t=0∨t=1:=by omega
 rcases h1 with rfl|rfl|rfl<;>rcases h2 with rfl|rfl|rfl<;>decide
theorem Is{s t d:Int}(hs: -1≤s∧s≤1)(ht: -1≤t∧t≤1)(hd: -1≤d∧d≤1): -1≤RE.addS s t d∧RE.addS s t d≤1:=by
 unfold RE.addS
 cases(t==0||s==t)
 ·cases s==0
  ·exact Ai hs hd
  ·exact ht
 ·exact hs
theorem jb(a b m:Rat): -1≤eD a b m∧eD a b m≤1:=Is (mC _ _) (Ai (mC _ _) (mC _ _)) (mC _ _)
theorem XC(A B C D M N:Rat): -1≤xm A B C D M N∧xm A B C D M N≤1:=by
 unfold xm
 cases(decide (M<0)||decide (N<0))
 ·exact Is (jb _ _ _) (Ai (jb _ _ _) (mC _ _)) (jb _ _ _)
 ·exact⟨by show(-1:Int)≤0;decide,by show(0:Int)≤1;decide⟩
theorem qZ(x y:Rt): -1≤bK x y∧bK x y≤1:=XC _ _ _ _ _ _
end Go.Proofs.YtlahabkjhgkkjaaGreat
namespace Go.Proofs.YtlahabkjhgkkjaaGreat
open Go.RowKit
theorem jP(a b:Int):(b8 a b==0)=decide (a=b):=by
 rcases Int.lt_trichotomy a b with h|h|h
 ·rw[cF h,decide_eq_false (by omega)];rfl
 ·rw[h,cV,decide_eq_true rfl];rfl
 ·rw[cz h,decide_eq_false (by omega)];rfl
def B9:Env:=[(134,nP),(192,rh),(212,mT),(188,nY),(214,ro)]
theorem CK:EnvAll Tryz.prog B9:=⟨qg,uR,mH,pq,uW,trivial⟩
def zW:NT:=[((256,23),{keep:=[1,2,4,5],hl:=6})]
noncomputable def pO:Ctx:=⟨Tryz.prog,ft,tys,B9,zW⟩
def fC(x:Bool×List Int)(b4_0:Bool)(b4_1:List Int):Cfg:=⟨256,[.blk 0],[(1,.box 0 0),(2,.box 1 0),(4,.box 4 0),(5,.box 5 0)],[.box 33 [SB x.1,.d (.sl (.int .u32)) x.2],.box 33 [SB false,.nil],.gone,.row 183 (.int .u32) ([1]),.box 33 [SB b4_0,.d (.sl (.int .u32)) b4_1],.box 33 [SB ((ag (2:Int)).1),.d (.sl (.int .u32)) ((ag (2:Int)).2)]],0,[]⟩
noncomputable def p7(k:KT)(x:Bool×List Int):Option (List RV):=match x.1 with|true=>some [RV.d (.st (.pair .bool (.sl (.int .u32)))) (false,[]),RV.d (.int .i64) 7]|false=>(match(x.2.length:Int)==0 with|true=>some [RV.d (.st (.pair .bool (.sl (.int .u32)))) (false,[]),RV.d (.int .i64) 0]|false=>(match decide ((0:Int)≤IntKind.i64.wrap (Int.tdiv (IntKind.i64.wrap ((x.2.length:Int)+1)) 2)∧(IntKind.i64.wrap (Int.tdiv (IntKind.i64.wrap ((x.2.length:Int)+1)) 2))*((4:Nat):Int)≤140737488355328∧IntKind.i64.wrap (Int.tdiv (IntKind.i64.wrap ((x.2.length:Int)+1)) 2)≤140737488355328)with|true=>(match decide (((List.replicate (IntKind.i64.wrap (Int.tdiv (IntKind.i64.wrap ((x.2.length:Int)+1)) 2)).toNat (0:Int)).length+([1]).length)*4≤140737488355328∧(List.replicate (IntKind.i64.wrap (Int.tdiv (IntKind.i64.wrap ((x.2.length:Int)+1)) 2)).toNat (0:Int)).length+([1]).length≤140737488355328)with|true=>(match decide (bh (2:Int))with|true=>k 23 (fC x false ((List.replicate (IntKind.i64.wrap (Int.tdiv (IntKind.i64.wrap ((x.2.length:Int)+1)) 2)).toNat (0:Int))++([1])))|false=>none)|false=>none)|false=>none))
theorem D9(x:Bool×List Int){rX:List RV}(hX:∃nX,p7 (pO.k nX) x=some rX):pO.Res 256 [.d (.st (.pair .bool (.sl (.int .u32)))) x] rX:=aO (t:=fun k=>p7 k x) (fun k=>show go2 Tryz.prog ft tys B9 zW k 4000 (az 256 [.d (.st (.pair .bool (.sl (.int .u32)))) x]) (.node 0)=p7 k x by kernel_rfl) hX
noncomputable def iE(k:KT)(x:Bool×List Int)(b4_0:Bool)(b4_1:List Int):Option (List RV):=match decide (dK x (b4_0,b4_1))with|true=>cA (match decide (okI (b4_0,b4_1)∧okI (ag (ab x/ab (b4_0,b4_1))))with|true=>cA (match decide (dK (ag (ab (b4_0,b4_1)+ab (ag (ab x/ab (b4_0,b4_1))))) (ag (2:Int)))with|true=>dup (.b .l .l) (match decide (okI (ag (ab (ag (ab (b4_0,b4_1)+ab (ag (ab x/ab (b4_0,b4_1)))))/ab (ag (2:Int))))∧okI (b4_0,b4_1))with|true=>(match decide ((b8 (ab (ag (ab (ag (ab (b4_0,b4_1)+ab (ag (ab x/ab (b4_0,b4_1)))))/ab (ag (2:Int))))) (ab (b4_0,b4_1)))≥0)with|true=>some [RV.d (.st (.pair .bool (.sl (.int .u32)))) (b4_0,b4_1),RV.d (.int .i64) 0]|false=>k 23 (fC x ((ag (ab (ag (ab (b4_0,b4_1)+ab (ag (ab x/ab (b4_0,b4_1)))))/ab (ag (2:Int)))).1) ((ag (ab (ag (ab (b4_0,b4_1)+ab (ag (ab x/ab (b4_0,b4_1)))))/ab (ag (2:Int)))).2)))|false=>none)|false=>none) (dup (.b (.b .l .l) (.b .l .l)) (match decide (dK (ag (ab (b4_0,b4_1)+ab (ag (ab x/ab (b4_0,b4_1))))) (ag (2:Int)))with|true=>(match decide (okI (ag (ab (ag (ab (b4_0,b4_1)+ab (ag (ab x/ab (b4_0,b4_1)))))/ab (ag (2:Int))))∧okI (b4_0,b4_1))with|true=>(match decide ((b8 (ab (ag (ab (ag (ab (b4_0,b4_1)+ab (ag (ab x/ab (b4_0,b4_1)))))/ab (ag (2:Int))))) (ab (b4_0,b4_1)))≥0)with|true=>some [RV.d (.st (.pair .bool (.sl (.int .u32)))) (b4_0,b4_1),RV.d (.int .i64) 0]|false=>k 23 (fC x ((ag (ab (ag (ab (b4_0,b4_1)+ab (ag (ab x/ab (b4_0,b4_1)))))/ab (ag (2:Int)))).1) ((ag (ab (ag (ab (b4_0,b4_1)+ab (ag (ab x/ab (b4_0,b4_1)))))/ab (ag (2:Int)))).2)))|false=>none)|false=>none))|false=>none) (dup (.b .l .l) (cA (match decide (okI (b4_0,b4_1)∧okI (ag (ab x/ab (b4_0,b4_1))))with|true=>dup (.b .l .l) (match decide (dK (ag (ab (b4_0,b4_1)+ab (ag (ab x/ab (b4_0,b4_1))))) (ag (2:Int)))with|true=>(match decide (okI (ag (ab (ag (ab (b4_0,b4_1)+ab (ag (ab x/ab (b4_0,b4_1)))))/ab (ag (2:Int))))∧okI (b4_0,b4_1))with|true=>(match decide ((b8 (ab (ag (ab (ag (ab (b4_0,b4_1)+ab (ag (ab x/ab (b4_0,b4_1)))))/ab (ag (2:Int))))) (ab (b4_0,b4_1)))≥0)with|true=>some [RV.d (.st (.pair .bool (.sl (.int .u32)))) (b4_0,b4_1),RV.d (.int .i64) 0]|false=>k 23 (fC x ((ag (ab (ag (ab (b4_0,b4_1)+ab (ag (ab x/ab (b4_0,b4_1)))))/ab (ag (2:Int)))).1) ((ag (ab (ag (ab (b4_0,b4_1)+ab (ag (ab x/ab (b4_0,b4_1)))))/ab (ag (2:Int)))).2)))|false=>none)|false=>none)|false=>none) (match decide (okI (b4_0,b4_1)∧okI (ag (ab x/ab (b4_0,b4_1))))with|true=>(match decide (dK (ag (ab (b4_0,b4_1)+ab (ag (ab x/ab (b4_0,b4_1))))) (ag (2:Int)))with|true=>(match decide (okI (ag (ab (ag (ab (b4_0,b4_1)+ab (ag (ab x/ab (b4_0,b4_1)))))/ab (ag (2:Int))))∧okI (b4_0,b4_1))with|true=>(match decide ((b8 (ab (ag (ab (ag (ab (b4_0,b4_1)+ab (ag (ab x/ab (b4_0,b4_1)))))/ab (ag (2:Int))))) (ab (b4_0,b4_1)))≥0)with|true=>some [RV.d (.st (.pair .bool (.sl (.int .u32)))) (b4_0,b4_1),RV.d (.int .i64) 0]|false=>k 23 (fC x ((ag (ab (ag (ab (b4_0,b4_1)+ab (ag (ab x/ab (b4_0,b4_1)))))/ab (ag (2:Int)))).1) ((ag (ab (ag (ab (b4_0,b4_1)+ab (ag (ab x/ab (b4_0,b4_1)))))/ab (ag (2:Int)))).2)))|false=>none)|false=>none)|false=>none)))|false=>none
theorem uf(x:Bool×List Int)(b4_0:Bool)(b4_1:List Int){rX:List RV}(hX:∃nX,iE (pO.k nX) x b4_0 b4_1=some rX):pO.Runs 23 (fC x b4_0 b4_1) rX:=em (t:=fun k=>iE k x b4_0 b4_1) (fun k=>show go2 Tryz.prog ft tys B9 zW k 4000 {fC x b4_0 b4_1 with K:=.lp 23::(fC x b4_0 b4_1).K} (.node 24)=iE k x b4_0 b4_1 by kernel_rfl) hX
theorem MR(x:BI)(hx:okI x)(h0:0<ab x):∀(m:Nat) (X:Int),X.toNat=m→0<X→bG (ab x)≤X→szI X≤900000→pO.Runs 23 (fC x (ag X).1 (ag X).2) [.d (.st (.pair .bool (.sl (.int .u32)))) (ag (bG (ab x))),.d (.int .i64) 0]:=by
 intro m
 induction m using Nat.strongRecOn with
 |ind m ih=>
  intro X hm hX hs hsz
  obtain⟨g0,g1,g2⟩:=er (Int.le_of_lt h0)
  have hq0:0≤ab x/X:=Int.ediv_nonneg (by omega) (by omega)
  have hq1:ab x/X≤ab x:=Int.ediv_le_self _ (by omega)
  have oX:okI (ag X):=bj (by omega)
  have sq:szI (ab x/X)≤1000000:=Nat.le_trans (cS (by omega)) (ge hx)
  have p1:dK x (ag X):=⟨hx,oX,by rw[dec_enc];exact hX⟩
  have ssum:szI (X+ab x/X)≤1000000:=by
   have b1:=kv hsz
   have b2:=kv (ge hx)
   have e:pw 1000000=pw 900000*pw 100000:=by rw[←dV]
   have p9:(1000:Int)≤pw 100000:=by
    have:pw 100000=pw 99999*1000000000:=bZ 99999
    have:=bR 99999
    omega
   have p8:=bR 900000
   have h8:pw 900000*1000≤pw 900000*pw 100000:=Int.mul_le_mul_of_nonneg_left p9 (by omega)
   rcases Int.lt_or_le X 2 with hX1|hX1
   ·-- X=1:then the number is less than 4
    have:X=1:=by omega
    subst this
    have:bG (ab x)≤1:=hs
    have h4:ab x<4:=by
     have:=n3 (a:=bG (ab x)+1) (b:=2) (by omega) (by omega)
     omega
    refine dW ?_ ?_<;>(rw[e,Int.ediv_one];omega)
   ·have hq2:ab x/X≤ab x/2:=by
     have:=Int.ediv_mul_le (ab x) (show X≠0 by omega)
     have h2:ab x/X*2≤ab x/X*X:=Int.mul_le_mul_of_nonneg_left hX1 hq0
     omega
    refine dW ?_ ?_<;>(rw[e]at b2 ⊢;omega)
  have o1:okI (ag X)∧okI (ag (ab x/X)):=⟨oX,bj sq⟩
  have p2:dK (ag (X+ab x/X)) (ag 2):=⟨bj ssum,by decide,by rw[dec_enc];decide⟩
  have hn:=Pz hX g0 g1
  have o2:okI (ag ((X+ab x/X)/2))∧okI (ag X):=⟨bj (Nat.le_trans (cS (by omega)) ssum),oX⟩
  by_cases hc:X≤(X+ab x/X)/2
  ·have hXs:=rN hX hs g1 g2 g0 hc
   refine uf _ _ _ ⟨0,?_⟩
   unfold iE
   simp only[am,aJ]
   have e:∀z:Int,((ag z).1,(ag z).2)=ag z:=fun z=>rfl
   simp only[e,dec_enc,decide_eq_true p1,decide_eq_true o1,decide_eq_true p2,decide_eq_true o2]
   have hg:decide (b8 ((X+ab x/X)/2) X≥0)=true:=by
    rcases Int.lt_or_eq_of_le hc with h|h
    ·rw[cz h];rfl
    ·rw[←h,cV];rfl
   rw[hg,hXs]
  ·obtain⟨n,hN⟩:=ih ((X+ab x/X)/2).toNat (by omega) ((X+ab x/X)/2) rfl (by
    rcases Int.lt_or_le 0 (bG (ab x))with h|h
    ·omega
    ·exfalso
     have:bG (ab x)=0:=by omega
     rw[this]at g2
     omega) hn (Nat.le_trans (cS (by omega)) hsz)
   refine uf _ _ _ ⟨n,?_⟩
   unfold iE
   simp only[am,aJ]
   have e:∀z:Int,((ag z).1,(ag z).2)=ag z:=fun z=>rfl
   simp only[e,dec_enc,decide_eq_true p1,decide_eq_true o1,decide_eq_true p2,decide_eq_true o2]
   rw[cF (by omega)]
   exact hN
theorem TF(x:Bool×List Int)(h:okI x):Con Tryz.prog 256 [.d (.st (.pair .bool (.sl (.int .u32)))) x] [.d (.st (.pair .bool (.sl (.int .u32)))) (dU x),.d (.int .i64) (nS x)]:=by
 refine Ctx.Res.con (C:=pO) (au CK) ?_ (fn:=Tryz.f256) (by kernel_rfl) (by kernel_rfl)
 obtain⟨x0,x1,x2⟩:=cg h
 have hl:=h.2.2
 cases hn:x.1
 ·by_cases hz:x.2=[]
  ·refine D9 _ ⟨0,?_⟩
   unfold p7 dU nS
   have:ab x=0:=by unfold ab;rw[hn,hz];rfl
   rw[hn,hz,this]
   rfl
  ·have hp:0<val x.2:=dp h.1 hz
   have hd:ab x=val x.2:=by unfold ab;rw[hn];rfl
   have hlen:=List.length_pos_iff.2 hz
   have hk:IntKind.i64.wrap (Int.tdiv (IntKind.i64.wrap ((x.2.length:Int)+1)) 2)=(((x.2.length+1)/2:Nat):Int):=by
    rw[cI (by omega),eN (by omega),bk (by omega) (by omega)]
    omega
   have hv:val (List.replicate ((x.2.length+1)/2) 0++[1])=pw ((x.2.length+1)/2):=by
    rw[cT,eU,List.length_replicate]
    simp[val]
   have hL:a8 (List.replicate ((x.2.length+1)/2) 0++[1]):=by
    refine⟨fun y hy=>?_,by simp;omega⟩
    rcases List.mem_append.1 hy with hy|hy
    ·have:=List.eq_of_mem_replicate hy;omega
    ·simp at hy;omega
   have hpos:=bR ((x.2.length+1)/2)
   obtain⟨n,hN⟩:=MR x h (by omega) _ (pw ((x.2.length+1)/2)) rfl hpos (by
     obtain⟨g0,g1,g2⟩:=er (show 0≤ab x by omega)
     have hlt:=bQ h.1.1
     have hm:=cM (show x.2.length≤(x.2.length+1)/2+(x.2.length+1)/2 by omega)
     rw[dV]at hm
     have:=sq_lt (a:=bG (ab x)) (b:=pw ((x.2.length+1)/2)) (by omega) (by omega)
     omega) (dW (k:=900000) (by have:=bR 900000;omega) (by
      have:=cM (show(x.2.length+1)/2+1≤900000 by omega)
      rw[bZ]at this
      omega))
   refine D9 _ ⟨n,?_⟩
   unfold p7 dU nS
   simp only[hk]
   rw[hn,show((x.2.length:Int)==0)=false by simp;omega]
   simp only[Int.toNat_natCast]
   rw[decide_eq_true (show(0:Int)≤(((x.2.length+1)/2:Nat):Int)∧(((x.2.length+1)/2:Nat):Int)*((4:Nat):Int)≤140737488355328∧(((x.2.length+1)/2:Nat):Int)≤140737488355328 by omega)]
   rw[decide_eq_true (show((List.replicate ((x.2.length+1)/2) (0:Int)).length+([1]:List Nat).length)*4≤140737488355328∧(List.replicate ((x.2.length+1)/2) (0:Int)).length+([1]:List Nat).length≤140737488355328 by simp;omega)]
   rw[decide_eq_true (show bh 2 by decide)]
   have he:ag (pw ((x.2.length+1)/2))=(false,List.replicate ((x.2.length+1)/2) 0++[1]):=by
    have ho:okI ((false,List.replicate ((x.2.length+1)/2) 0++[1]):BI):=⟨⟨hL.1,by simp⟩,(fun e=>by cases e),(by simp;omega)⟩
    rw[fA ho]
    congr 1
    exact hv.symm
   rw[he]at hN
   exact hN
 ·refine D9 _ ⟨0,?_⟩
  unfold p7 dU nS
  rw[hn]
  rfl
def U7:Env:=(186,kL)::B9
theorem Ur:EnvAll Tryz.prog U7:=⟨jD,CK⟩
noncomputable def F1:Ctx:=⟨Tryz.prog,ft,tys,U7,[]⟩
noncomputable def Aa(_k:KT)(x:Bool×List Int)(y:Bool×List Int):Option (List RV):=match x.1==y.1 with|true=>(match decide (mW x.2 y.2)with|true=>some [RV.d .bool ((b8 (val x.2) (val y.2))==0)]|false=>none)|false=>some [RV.d .bool false]
theorem aa2(x:Bool×List Int)(y:Bool×List Int){rX:List RV}(hX:∃nX,Aa (F1.k nX) x y=some rX):F1.Res 102 [.d (.st (.pair .bool (.sl (.int .u32)))) x,.d (.st (.pair .bool (.sl (.int .u32)))) y] rX:=aO (t:=fun k=>Aa k x y) (fun k=>show go2 Tryz.prog ft tys U7 [] k 4000 (az 102 [.d (.st (.pair .bool (.sl (.int .u32)))) x,.d (.st (.pair .bool (.sl (.int .u32)))) y]) (.node 0)=Aa k x y by kernel_rfl) hX
theorem R6(x:Bool×List Int)(y:Bool×List Int)(h:okI x∧okI y):Con Tryz.prog 102 [.d (.st (.pair .bool (.sl (.int .u32)))) x,.d (.st (.pair .bool (.sl (.int .u32)))) y] [.d .bool (decide (ab x=ab y))]:=by
 refine Ctx.Res.con (C:=F1) (au Ur) (aa2 _ _ ⟨0,?_⟩) (fn:=Tryz.f102) (by kernel_rfl) (by kernel_rfl)
 obtain⟨hx,hy⟩:=h
 obtain⟨x0,x1,x2⟩:=cg hx
 obtain⟨y0,y1,y2⟩:=cg hy
 unfold Aa
 rw[dT (show mW x.2 y.2 from⟨⟨hx.1,by have:=hx.2.2;omega⟩,⟨hy.1,by have:=hy.2.2;omega⟩⟩)]
 rw[bJ,bJ]
 unfold bV
 cases ex:x.1<;>cases ey:y.1<;>simp only[cond_true,cond_false]
 ·show some [RV.d .bool (b8 (val x.2) (val y.2)==0)]=_
  rw[jP]
 ·have:=y1 ey
  rw[decide_eq_false (show ¬val x.2= -val y.2 by omega)]
  rfl
 ·have:=x1 ex
  rw[decide_eq_false (show ¬ -val x.2=val y.2 by omega)]
  rfl
 ·show some [RV.d .bool (b8 (val x.2) (val y.2)==0)]=_
  rw[jP,show decide (val x.2=val y.2)=decide (-val x.2= -val y.2) from decide_eq_decide.2 (by omega)]
end Go.Proofs.YtlahabkjhgkkjaaGreat
