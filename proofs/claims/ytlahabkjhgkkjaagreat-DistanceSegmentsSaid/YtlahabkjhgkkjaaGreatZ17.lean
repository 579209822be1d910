/- distance.Segments and the reference's: the whole. -/
import Derived.Test.YtlahabkjhgkkjaaGreatZ12
import Derived.Test.YtlahabkjhgkkjaaGreatZ16
namespace Go.Proofs.YtlahabkjhgkkjaaGreat
open Go.RowKit
theorem ko{x y:Rat}{k:Nat}(hx:bdR k x)(hy:bdR k y):bdR k (c9 x y):=by
 unfold c9
 cases decide (y<x)
 ·exact hx
 ·exact hy
noncomputable def Eg:aL:=spN false true [tV,tV,tV] (fun x=>decide (ok (Rat×Rat) 100 x.1∧ok (Rat×Rat) 100 x.2.1∧ok (Rat×Rat) 100 x.2.2.1)) (fun x=>[RV.d tR (hid (ae (bg (dec x.1) (dec x.2.1) (dec x.2.2.1))))])
theorem Tp:af Tryz.prog 98=true∧ao Tryz.prog 98 Eg∧∀g,Eg.mut_=some g→aK Tryz.prog 98 g:=aq (by kernel_rfl) fun x h=>by simp only[aj];exact VR x.1 x.2.1 x.2.2.1 (of_decide_eq_true h)
def GR:aL:=spN true true [tV,tV,tV,tV] (fun x=>decide (ok (Rat×Rat) 100 x.1∧ok (Rat×Rat) 100 x.2.1∧ok (Rat×Rat) 100 x.2.2.1∧ok (Rat×Rat) 100 x.2.2.2.1)) (fun x=>[RV.d .bool (cgR (dec x.1) (dec x.2.1) (dec x.2.2.1) (dec x.2.2.2.1))])
theorem TM:af Tryz.prog 97=true∧ao Tryz.prog 97 GR∧∀g,GR.mut_=some g→aK Tryz.prog 97 g:=aq (by kernel_rfl) fun x h=>Yr x.1 x.2.1 x.2.2.1 x.2.2.2.1 (of_decide_eq_true h)
noncomputable def KG:Env:=[(149,iD),(147,gQ),(148,gg),(170,qd),(83,fP),(99,je),(76,fS),(75,sU),(112,o9),(77,tu),(69,xG),(72,sM),(181,zH),(87,ul),(98,Eg),(97,GR)]
theorem T2:EnvAll Tryz.prog KG:=⟨fI,eO,dY,oN,ec,gH,d7,tr,nM,ue,BD,uv,BK,tS,Tp,TM,trivial⟩
def GB:NT:=[((30,16),{keep:=[8,9,34,35,36],hl:=7})]
noncomputable def iB:Ctx:=⟨Tryz.prog,ft,tys,KG,GB⟩
noncomputable def dw(a:BV)(b:BV)(c:BV)(d:BV)(s36:Int)(b5_0:Bool)(b5_1:List Int)(b5_2:Bool)(b5_3:List Int):Cfg:=⟨30,[.blk 0,.seq 33],[(8,.box 4 0),(9,.box 5 0),(34,.own 6),(35,SI (([hid (ae (bg (dec a) (dec b) (dec d))),hid (ae (bg (dec c) (dec d) (dec a))),hid (ae (bg (dec c) (dec d) (dec b)))]).length:Int)),(36,SI s36)],[.box 47 [SB a.1.1.1,.d (.sl (.int .u32)) a.1.1.2,SB a.1.2.1,.d (.sl (.int .u32)) a.1.2.2,SB a.2.1.1,.d (.sl (.int .u32)) a.2.1.2,SB a.2.2.1,.d (.sl (.int .u32)) a.2.2.2],.box 47 [SB b.1.1.1,.d (.sl (.int .u32)) b.1.1.2,SB b.1.2.1,.d (.sl (.int .u32)) b.1.2.2,SB b.2.1.1,.d (.sl (.int .u32)) b.2.1.2,SB b.2.2.1,.d (.sl (.int .u32)) b.2.2.2],.box 47 [SB c.1.1.1,.d (.sl (.int .u32)) c.1.1.2,SB c.1.2.1,.d (.sl (.int .u32)) c.1.2.2,SB c.2.1.1,.d (.sl (.int .u32)) c.2.1.2,SB c.2.2.1,.d (.sl (.int .u32)) c.2.2.2],.box 47 [SB d.1.1.1,.d (.sl (.int .u32)) d.1.1.2,SB d.1.2.1,.d (.sl (.int .u32)) d.1.2.2,SB d.2.1.1,.d (.sl (.int .u32)) d.2.1.2,SB d.2.2.1,.d (.sl (.int .u32)) d.2.2.2],.box 35 [SB false,.nil,SB false,.nil],.box 35 [SB b5_0,.d (.sl (.int .u32)) b5_1,SB b5_2,.d (.sl (.int .u32)) b5_3],.row 35 tR ([hid (ae (bg (dec a) (dec b) (dec d))),hid (ae (bg (dec c) (dec d) (dec a))),hid (ae (bg (dec c) (dec d) (dec b)))])],0,[]⟩
noncomputable def J2(k:KT)(a:BV)(b:BV)(c:BV)(d:BV):Option (List RV):=match decide (ok (Rat×Rat) 100 a∧ok (Rat×Rat) 100 b∧ok (Rat×Rat) 100 c∧ok (Rat×Rat) 100 d)with|true=>(match cgR (dec a) (dec b) (dec c) (dec d)with|true=>(match decide (bh (0:Int))with|true=>some [RV.d tR (hid (ae ((0:Int):Rat)))]|false=>none)|false=>(match decide (ok (Rat×Rat) 100 a∧ok (Rat×Rat) 100 b∧ok (Rat×Rat) 100 c)with|true=>(match decide (ok (Rat×Rat) 100 a∧ok (Rat×Rat) 100 b∧ok (Rat×Rat) 100 d)with|true=>(match decide (ok (Rat×Rat) 100 c∧ok (Rat×Rat) 100 d∧ok (Rat×Rat) 100 a)with|true=>(match decide (ok (Rat×Rat) 100 c∧ok (Rat×Rat) 100 d∧ok (Rat×Rat) 100 b)with|true=>k 16 (dw a b c d 0 (((hid (ae (bg (dec a) (dec b) (dec c)))).1).1) (((hid (ae (bg (dec a) (dec b) (dec c)))).1).2) (((hid (ae (bg (dec a) (dec b) (dec c)))).2).1) (((hid (ae (bg (dec a) (dec b) (dec c)))).2).2))|false=>none)|false=>none)|false=>none)|false=>none))|false=>none
theorem aee(a:BV)(b:BV)(c:BV)(d:BV){rX:List RV}(hX:∃nX,J2 (iB.k nX) a b c d=some rX):iB.Res 30 [.d tV a,.d tV b,.d tV c,.d tV d] rX:=aO (t:=fun k=>J2 k a b c d) (fun k=>show go2 Tryz.prog ft tys KG GB k 4000 (az 30 [.d tV a,.d tV b,.d tV c,.d tV d]) (.node 0)=J2 k a b c d by kernel_rfl) hX
noncomputable def fV(k:KT)(a:BV)(b:BV)(c:BV)(d:BV)(s36:Int)(b5_0:Bool)(b5_1:List Int)(b5_2:Bool)(b5_3:List Int):Option (List RV):=match decide (s36<(([hid (ae (bg (dec a) (dec b) (dec d))),hid (ae (bg (dec c) (dec d) (dec a))),hid (ae (bg (dec c) (dec d) (dec b)))]).length:Int))with|true=>(match bw ([hid (ae (bg (dec a) (dec b) (dec d))),hid (ae (bg (dec c) (dec d) (dec a))),hid (ae (bg (dec c) (dec d) (dec b)))]) s36 with|some _=>(match true,([hid (ae (bg (dec a) (dec b) (dec d))),hid (ae (bg (dec c) (dec d) (dec a))),hid (ae (bg (dec c) (dec d) (dec b)))])[(s36).toNat]? with|true,some x1=>(match decide (okR x1∧okR ((b5_0,b5_1),(b5_2,b5_3)))with|true=>(match decide ((aQ (aa x1) (aa ((b5_0,b5_1),(b5_2,b5_3))))<0)with|true=>k 16 (dw a b c d (IntKind.i64.wrap (s36+1)) x1.1.1 x1.1.2 x1.2.1 x1.2.2)|false=>k 16 (dw a b c d (IntKind.i64.wrap (s36+1)) b5_0 b5_1 b5_2 b5_3))|false=>none)|_,_=>none)|none=>none)|false=>some [RV.d tR ((b5_0,b5_1),(b5_2,b5_3))]
theorem mg(a:BV)(b:BV)(c:BV)(d:BV)(s36:Int)(b5_0:Bool)(b5_1:List Int)(b5_2:Bool)(b5_3:List Int){rX:List RV}(hX:∃nX,fV (iB.k nX) a b c d s36 b5_0 b5_1 b5_2 b5_3=some rX):iB.Runs 16 (dw a b c d s36 b5_0 b5_1 b5_2 b5_3) rX:=em (t:=fun k=>fV k a b c d s36 b5_0 b5_1 b5_2 b5_3) (fun k=>show go2 Tryz.prog ft tys KG GB k 4000 {dw a b c d s36 b5_0 b5_1 b5_2 b5_3 with K:=.lp 16::(dw a b c d s36 b5_0 b5_1 b5_2 b5_3).K} (.node 17)=fV k a b c d s36 b5_0 b5_1 b5_2 b5_3 by kernel_rfl) hX
theorem Yh{a b c d:Rat×Rat}(_ba:Bd a 100)(_bb:Bd b 100)(_bc:Bd c 100)(_bd:Bd d 100){o:Rat}(_ho:bdR 40000 o):iB.Runs 16 (dw (enc a) (enc b) (enc c) (enc d) (3:Int) (ae o).1.1 (ae o).1.2 (ae o).2.1 (ae o).2.2) [.d tR (ae o)]:=by
 refine mg _ _ _ _ _ _ _ _ _ ⟨0,?_⟩
 unfold fV
 rfl
theorem Yb{a b c d:Rat×Rat}(ba:Bd a 100)(bb:Bd b 100)(bc:Bd c 100)(bd:Bd d 100){o:Rat}(ho:bdR 40000 o):iB.Runs 16 (dw (enc a) (enc b) (enc c) (enc d) (2:Int) (ae o).1.1 (ae o).1.2 (ae o).2.1 (ae o).2.2) [.d tR (ae (c9 o (bg c d b)))]:=by
 have bx:Bd (bg c d b) 40000:=⟨bI (inferInstance:Bd (bg c d b) _).le (by decide)⟩
 have bo:Bd o 40000:=⟨ho⟩
 obtain⟨q,hq⟩:=Yh ba bb bc bd (o:=c9 o (bg c d b)) (ko ho bx.le)
 refine mg _ _ _ _ _ _ _ _ _ ⟨q,?_⟩
 unfold fV
 simp only[aj,ak]
 have key:(match decide (okR (ae (bg c d b))∧okR (ae o))with|true=>(match decide (aQ (aa (ae (bg c d b))) (aa (ae o))<0)with|true=>iB.k q 16 (dw (enc a) (enc b) (enc c) (enc d) (3:Int) (ae (bg c d b)).1.1 (ae (bg c d b)).1.2 (ae (bg c d b)).2.1 (ae (bg c d b)).2.2)|false=>iB.k q 16 (dw (enc a) (enc b) (enc c) (enc d) (3:Int) (ae o).1.1 (ae o).1.2 (ae o).2.1 (ae o).2.2))|false=>none)=some [.d tR (ae (c9 o (bg c d b)))]:=by
  simp only[aw,aX,Bool.decide_and,Bool.and_self,Nat.reduceLeDiff,aN]
  unfold c9 at hq ⊢
  cases hc:decide ((bg c d b)<o)<;>rw[hc]at hq<;>exact hq
 exact key
theorem YD{a b c d:Rat×Rat}(ba:Bd a 100)(bb:Bd b 100)(bc:Bd c 100)(bd:Bd d 100){o:Rat}(ho:bdR 40000 o):iB.Runs 16 (dw (enc a) (enc b) (enc c) (enc d) (1:Int) (ae o).1.1 (ae o).1.2 (ae o).2.1 (ae o).2.2) [.d tR (ae (c9 (c9 o (bg c d a)) (bg c d b)))]:=by
 have bx:Bd (bg c d a) 40000:=⟨bI (inferInstance:Bd (bg c d a) _).le (by decide)⟩
 have bo:Bd o 40000:=⟨ho⟩
 obtain⟨q,hq⟩:=Yb ba bb bc bd (o:=c9 o (bg c d a)) (ko ho bx.le)
 refine mg _ _ _ _ _ _ _ _ _ ⟨q,?_⟩
 unfold fV
 simp only[aj,ak]
 have key:(match decide (okR (ae (bg c d a))∧okR (ae o))with|true=>(match decide (aQ (aa (ae (bg c d a))) (aa (ae o))<0)with|true=>iB.k q 16 (dw (enc a) (enc b) (enc c) (enc d) (2:Int) (ae (bg c d a)).1.1 (ae (bg c d a)).1.2 (ae (bg c d a)).2.1 (ae (bg c d a)).2.2)|false=>iB.k q 16 (dw (enc a) (enc b) (enc c) (enc d) (2:Int) (ae o).1.1 (ae o).1.2 (ae o).2.1 (ae o).2.2))|false=>none)=some [.d tR (ae (c9 (c9 o (bg c d a)) (bg c d b)))]:=by
  simp only[aw,aX,Bool.decide_and,Bool.and_self,Nat.reduceLeDiff,aN]
  unfold c9 at hq ⊢
  cases hc:decide ((bg c d a)<o)<;>rw[hc]at hq<;>exact hq
 exact key
theorem Xk{a b c d:Rat×Rat}(ba:Bd a 100)(bb:Bd b 100)(bc:Bd c 100)(bd:Bd d 100){o:Rat}(ho:bdR 40000 o):iB.Runs 16 (dw (enc a) (enc b) (enc c) (enc d) (0:Int) (ae o).1.1 (ae o).1.2 (ae o).2.1 (ae o).2.2) [.d tR (ae (c9 (c9 (c9 o (bg a b d)) (bg c d a)) (bg c d b)))]:=by
 have bx:Bd (bg a b d) 40000:=⟨bI (inferInstance:Bd (bg a b d) _).le (by decide)⟩
 have bo:Bd o 40000:=⟨ho⟩
 obtain⟨q,hq⟩:=YD ba bb bc bd (o:=c9 o (bg a b d)) (ko ho bx.le)
 refine mg _ _ _ _ _ _ _ _ _ ⟨q,?_⟩
 unfold fV
 simp only[aj,ak]
 have key:(match decide (okR (ae (bg a b d))∧okR (ae o))with|true=>(match decide (aQ (aa (ae (bg a b d))) (aa (ae o))<0)with|true=>iB.k q 16 (dw (enc a) (enc b) (enc c) (enc d) (1:Int) (ae (bg a b d)).1.1 (ae (bg a b d)).1.2 (ae (bg a b d)).2.1 (ae (bg a b d)).2.2)|false=>iB.k q 16 (dw (enc a) (enc b) (enc c) (enc d) (1:Int) (ae o).1.1 (ae o).1.2 (ae o).2.1 (ae o).2.2))|false=>none)=some [.d tR (ae (c9 (c9 (c9 o (bg a b d)) (bg c d a)) (bg c d b)))]:=by
  simp only[aw,aX,Bool.decide_and,Bool.and_self,Nat.reduceLeDiff,aN]
  unfold c9 at hq ⊢
  cases hc:decide ((bg a b d)<o)<;>rw[hc]at hq<;>exact hq
 exact key
theorem VM(a:BV)(b:BV)(c:BV)(d:BV)(h:ok (Rat×Rat) 100 a∧ok (Rat×Rat) 100 b∧ok (Rat×Rat) 100 c∧ok (Rat×Rat) 100 d):Con Tryz.prog 30 [.d tV a,.d tV b,.d tV c,.d tV d] [.d tR (ae (pZ (dec a) (dec b) (dec c) (dec d)))]:=by
 refine Ctx.Res.con (C:=iB) (au T2) ?_ (fn:=Tryz.f30) (by kernel_rfl) (by kernel_rfl)
 obtain⟨ha,hb,hc,hd⟩:=h
 obtain⟨a,rfl,ba⟩:=aS ha
 obtain⟨b,rfl,bb⟩:=aS hb
 obtain⟨c,rfl,bc⟩:=aS hc
 obtain⟨d,rfl,bd⟩:=aS hd
 have bt:Bd (bg a b c) 40000:=⟨bI (inferInstance:Bd (bg a b c) _).le (by decide)⟩
 obtain⟨q,hq⟩:=Xk ba bb bc bd bt.le
 refine aee _ _ _ _ ⟨q,?_⟩
 unfold J2
 simp only[aj,ak,okd,Bool.decide_and,Bool.and_self,Nat.reduceLeDiff]
 unfold pZ
 cases cgR a b c d
 ·exact hq
 ·rfl
noncomputable def FQ:aL:=spN false true [tV,tV,tV] (fun x=>decide (ok (Rat×Rat) 100 x.1∧ok (Rat×Rat) 100 x.2.1∧ok (Rat×Rat) 100 x.2.2.1)) (fun x=>[RV.d tR (hid (ae (bg (dec x.1) (dec x.2.1) (dec x.2.2.1))))])
theorem NS:af Tryz.prog 106=true∧ao Tryz.prog 106 FQ∧∀g,FQ.mut_=some g→aK Tryz.prog 106 g:=aq (by kernel_rfl) fun x h=>by simp only[aj];exact YC x.1 x.2.1 x.2.2.1 (of_decide_eq_true h)
def GC:aL:=spN true true [tV,tV,tV,tV] (fun x=>decide (ok (Rat×Rat) 100 x.1∧ok (Rat×Rat) 100 x.2.1∧ok (Rat×Rat) 100 x.2.2.1∧ok (Rat×Rat) 100 x.2.2.2.1)) (fun x=>[RV.d .bool (cgR (dec x.1) (dec x.2.1) (dec x.2.2.1) (dec x.2.2.2.1))])
theorem Rp:af Tryz.prog 105=true∧ao Tryz.prog 105 GC∧∀g,GC.mut_=some g→aK Tryz.prog 105 g:=aq (by kernel_rfl) fun x h=>Yy x.1 x.2.1 x.2.2.1 x.2.2.2.1 (of_decide_eq_true h)
noncomputable def Jz:Env:=[(127,iR),(161,iS),(132,gT),(174,qX),(78,gA),(107,iU),(50,gY),(60,xi),(144,Ay),(61,w8),(56,AH),(58,zs),(191,Ar),(106,FQ),(105,GC)]
theorem Sk:EnvAll Tryz.prog Jz:=⟨ii,hZ,fZ,wy,fj,hU,fU,Br,CY,Cy,D0,CI,BX,NS,Rp,trivial⟩
def Hq:NT:=[((33,18),{keep:=[8,9,10,11],hl:=7})]
noncomputable def iv:Ctx:=⟨Tryz.prog,ft,tys,Jz,Hq⟩
noncomputable def dz(a:BV)(b:BV)(c:BV)(d:BV)(s11:Int)(b5_0:Bool)(b5_1:List Int)(b5_2:Bool)(b5_3:List Int):Cfg:=⟨33,[.blk 0,.seq 33],[(8,.box 4 0),(9,.box 5 0),(10,.own 6),(11,SI s11)],[.box 47 [SB a.1.1.1,.d (.sl (.int .u32)) a.1.1.2,SB a.1.2.1,.d (.sl (.int .u32)) a.1.2.2,SB a.2.1.1,.d (.sl (.int .u32)) a.2.1.2,SB a.2.2.1,.d (.sl (.int .u32)) a.2.2.2],.box 47 [SB b.1.1.1,.d (.sl (.int .u32)) b.1.1.2,SB b.1.2.1,.d (.sl (.int .u32)) b.1.2.2,SB b.2.1.1,.d (.sl (.int .u32)) b.2.1.2,SB b.2.2.1,.d (.sl (.int .u32)) b.2.2.2],.box 47 [SB c.1.1.1,.d (.sl (.int .u32)) c.1.1.2,SB c.1.2.1,.d (.sl (.int .u32)) c.1.2.2,SB c.2.1.1,.d (.sl (.int .u32)) c.2.1.2,SB c.2.2.1,.d (.sl (.int .u32)) c.2.2.2],.box 47 [SB d.1.1.1,.d (.sl (.int .u32)) d.1.1.2,SB d.1.2.1,.d (.sl (.int .u32)) d.1.2.2,SB d.2.1.1,.d (.sl (.int .u32)) d.2.1.2,SB d.2.2.1,.d (.sl (.int .u32)) d.2.2.2],.box 35 [SB false,.nil,SB false,.nil],.box 35 [SB b5_0,.d (.sl (.int .u32)) b5_1,SB b5_2,.d (.sl (.int .u32)) b5_3],.row 35 tR ([hid (ae (bg (dec a) (dec b) (dec d))),hid (ae (bg (dec c) (dec d) (dec a))),hid (ae (bg (dec c) (dec d) (dec b)))])],0,[]⟩
noncomputable def I8(k:KT)(a:BV)(b:BV)(c:BV)(d:BV):Option (List RV):=match decide (ok (Rat×Rat) 100 a∧ok (Rat×Rat) 100 b∧ok (Rat×Rat) 100 c∧ok (Rat×Rat) 100 d)with|true=>(match cgR (dec a) (dec b) (dec c) (dec d)with|true=>(match decide (bh (0:Int))with|true=>some [RV.d tR (hid (ae ((0:Int):Rat)))]|false=>none)|false=>(match decide (ok (Rat×Rat) 100 a∧ok (Rat×Rat) 100 b∧ok (Rat×Rat) 100 c)with|true=>(match decide (ok (Rat×Rat) 100 a∧ok (Rat×Rat) 100 b∧ok (Rat×Rat) 100 d)with|true=>(match decide (ok (Rat×Rat) 100 c∧ok (Rat×Rat) 100 d∧ok (Rat×Rat) 100 a)with|true=>(match decide (ok (Rat×Rat) 100 c∧ok (Rat×Rat) 100 d∧ok (Rat×Rat) 100 b)with|true=>k 18 (dz a b c d 0 (((hid (ae (bg (dec a) (dec b) (dec c)))).1).1) (((hid (ae (bg (dec a) (dec b) (dec c)))).1).2) (((hid (ae (bg (dec a) (dec b) (dec c)))).2).1) (((hid (ae (bg (dec a) (dec b) (dec c)))).2).2))|false=>none)|false=>none)|false=>none)|false=>none))|false=>none
theorem adk(a:BV)(b:BV)(c:BV)(d:BV){rX:List RV}(hX:∃nX,I8 (iv.k nX) a b c d=some rX):iv.Res 33 [.d tV a,.d tV b,.d tV c,.d tV d] rX:=aO (t:=fun k=>I8 k a b c d) (fun k=>show go2 Tryz.prog ft tys Jz Hq k 4000 (az 33 [.d tV a,.d tV b,.d tV c,.d tV d]) (.node 0)=I8 k a b c d by kernel_rfl) hX
noncomputable def fT(k:KT)(a:BV)(b:BV)(c:BV)(d:BV)(s11:Int)(b5_0:Bool)(b5_1:List Int)(b5_2:Bool)(b5_3:List Int):Option (List RV):=match decide (s11<(([hid (ae (bg (dec a) (dec b) (dec d))),hid (ae (bg (dec c) (dec d) (dec a))),hid (ae (bg (dec c) (dec d) (dec b)))]).length:Int))with|true=>(match bw ([hid (ae (bg (dec a) (dec b) (dec d))),hid (ae (bg (dec c) (dec d) (dec a))),hid (ae (bg (dec c) (dec d) (dec b)))]) s11 with|some _=>(match true,([hid (ae (bg (dec a) (dec b) (dec d))),hid (ae (bg (dec c) (dec d) (dec a))),hid (ae (bg (dec c) (dec d) (dec b)))])[(s11).toNat]? with|true,some x1=>(match decide (okR x1∧okR ((b5_0,b5_1),(b5_2,b5_3)))with|true=>(match decide ((aQ (aa x1) (aa ((b5_0,b5_1),(b5_2,b5_3))))<0)with|true=>(match bw ([hid (ae (bg (dec a) (dec b) (dec d))),hid (ae (bg (dec c) (dec d) (dec a))),hid (ae (bg (dec c) (dec d) (dec b)))]) s11 with|some _=>(match true,([hid (ae (bg (dec a) (dec b) (dec d))),hid (ae (bg (dec c) (dec d) (dec a))),hid (ae (bg (dec c) (dec d) (dec b)))])[(s11).toNat]? with|true,some x2=>k 18 (dz a b c d (IntKind.i64.wrap (s11+1)) x2.1.1 x2.1.2 x2.2.1 x2.2.2)|_,_=>none)|none=>none)|false=>k 18 (dz a b c d (IntKind.i64.wrap (s11+1)) b5_0 b5_1 b5_2 b5_3))|false=>none)|_,_=>none)|none=>none)|false=>some [RV.d tR ((b5_0,b5_1),(b5_2,b5_3))]
theorem mP(a:BV)(b:BV)(c:BV)(d:BV)(s11:Int)(b5_0:Bool)(b5_1:List Int)(b5_2:Bool)(b5_3:List Int){rX:List RV}(hX:∃nX,fT (iv.k nX) a b c d s11 b5_0 b5_1 b5_2 b5_3=some rX):iv.Runs 18 (dz a b c d s11 b5_0 b5_1 b5_2 b5_3) rX:=em (t:=fun k=>fT k a b c d s11 b5_0 b5_1 b5_2 b5_3) (fun k=>show go2 Tryz.prog ft tys Jz Hq k 4000 {dz a b c d s11 b5_0 b5_1 b5_2 b5_3 with K:=.lp 18::(dz a b c d s11 b5_0 b5_1 b5_2 b5_3).K} (.node 19)=fT k a b c d s11 b5_0 b5_1 b5_2 b5_3 by kernel_rfl) hX
theorem WO{a b c d:Rat×Rat}(_ba:Bd a 100)(_bb:Bd b 100)(_bc:Bd c 100)(_bd:Bd d 100){o:Rat}(_ho:bdR 40000 o):iv.Runs 18 (dz (enc a) (enc b) (enc c) (enc d) (3:Int) (ae o).1.1 (ae o).1.2 (ae o).2.1 (ae o).2.2) [.d tR (ae o)]:=by
 refine mP _ _ _ _ _ _ _ _ _ ⟨0,?_⟩
 unfold fT
 rfl
theorem Zf{a b c d:Rat×Rat}(ba:Bd a 100)(bb:Bd b 100)(bc:Bd c 100)(bd:Bd d 100){o:Rat}(ho:bdR 40000 o):iv.Runs 18 (dz (enc a) (enc b) (enc c) (enc d) (2:Int) (ae o).1.1 (ae o).1.2 (ae o).2.1 (ae o).2.2) [.d tR (ae (c9 o (bg c d b)))]:=by
 have bx:Bd (bg c d b) 40000:=⟨bI (inferInstance:Bd (bg c d b) _).le (by decide)⟩
 have bo:Bd o 40000:=⟨ho⟩
 obtain⟨q,hq⟩:=WO ba bb bc bd (o:=c9 o (bg c d b)) (ko ho bx.le)
 refine mP _ _ _ _ _ _ _ _ _ ⟨q,?_⟩
 unfold fT
 simp only[aj,ak]
 have key:(match decide (okR (ae (bg c d b))∧okR (ae o))with|true=>(match decide (aQ (aa (ae (bg c d b))) (aa (ae o))<0)with|true=>iv.k q 18 (dz (enc a) (enc b) (enc c) (enc d) (3:Int) (ae (bg c d b)).1.1 (ae (bg c d b)).1.2 (ae (bg c d b)).2.1 (ae (bg c d b)).2.2)|false=>iv.k q 18 (dz (enc a) (enc b) (enc c) (enc d) (3:Int) (ae o).1.1 (ae o).1.2 (ae o).2.1 (ae o).2.2))|false=>none)=some [.d tR (ae (c9 o (bg c d b)))]:=by
  simp only[aw,aX,Bool.decide_and,Bool.and_self,Nat.reduceLeDiff,aN]
  unfold c9 at hq ⊢
  cases hc:decide ((bg c d b)<o)<;>rw[hc]at hq<;>exact hq
 exact key
theorem WB{a b c d:Rat×Rat}(ba:Bd a 100)(bb:Bd b 100)(bc:Bd c 100)(bd:Bd d 100){o:Rat}(ho:bdR 40000 o):iv.Runs 18 (dz (enc a) (enc b) (enc c) (enc d) (1:Int) (ae o).1.1 (ae o).1.2 (ae o).2.1 (ae o).2.2) [.d tR (ae (c9 (c9 o (bg c d a)) (bg c d b)))]:=by
 have bx:Bd (bg c d a) 40000:=⟨bI (inferInstance:Bd (bg c d a) _).le (by decide)⟩
 have bo:Bd o 40000:=⟨ho⟩
 obtain⟨q,hq⟩:=Zf ba bb bc bd (o:=c9 o (bg c d a)) (ko ho bx.le)
 refine mP _ _ _ _ _ _ _ _ _ ⟨q,?_⟩
 unfold fT
 simp only[aj,ak]
 have key:(match decide (okR (ae (bg c d a))∧okR (ae o))with|true=>(match decide (aQ (aa (ae (bg c d a))) (aa (ae o))<0)with|true=>iv.k q 18 (dz (enc a) (enc b) (enc c) (enc d) (2:Int) (ae (bg c d a)).1.1 (ae (bg c d a)).1.2 (ae (bg c d a)).2.1 (ae (bg c d a)).2.2)|false=>iv.k q 18 (dz (enc a) (enc b) (enc c) (enc d) (2:Int) (ae o).1.1 (ae o).1.2 (ae o).2.1 (ae o).2.2))|false=>none)=some [.d tR (ae (c9 (c9 o (bg c d a)) (bg c d b)))]:=by
  simp only[aw,aX,Bool.decide_and,Bool.and_self,Nat.reduceLeDiff,aN]
  unfold c9 at hq ⊢
  cases hc:decide ((bg c d a)<o)<;>rw[hc]at hq<;>exact hq
 exact key
theorem X0{a b c d:Rat×Rat}(ba:Bd a 100)(bb:Bd b 100)(bc:Bd c 100)(bd:Bd d 100){o:Rat}(ho:bdR 40000 o):iv.Runs 18 (dz (enc a) (enc b) (enc c) (enc d) (0:Int) (ae o).1.1 (ae o).1.2 (ae o).2.1 (ae o).2.2) [.d tR (ae (c9 (c9 (c9 o (bg a b d)) (bg c d a)) (bg c d b)))]:=by
 have bx:Bd (bg a b d) 40000:=⟨bI (inferInstance:Bd (bg a b d) _).le (by decide)⟩
 have bo:Bd o 40000:=⟨ho⟩
 obtain⟨q,hq⟩:=WB ba bb bc bd (o:=c9 o (bg a b d)) (ko ho bx.le)
 refine mP _ _ _ _ _ _ _ _ _ ⟨q,?_⟩
 unfold fT
 simp only[aj,ak]
 have key:(match decide (okR (ae (bg a b d))∧okR (ae o))with|true=>(match decide (aQ (aa (ae (bg a b d))) (aa (ae o))<0)with|true=>iv.k q 18 (dz (enc a) (enc b) (enc c) (enc d) (1:Int) (ae (bg a b d)).1.1 (ae (bg a b d)).1.2 (ae (bg a b d)).2.1 (ae (bg a b d)).2.2)|false=>iv.k q 18 (dz (enc a) (enc b) (enc c) (enc d) (1:Int) (ae o).1.1 (ae o).1.2 (ae o).2.1 (ae o).2.2))|false=>none)=some [.d tR (ae (c9 (c9 (c9 o (bg a b d)) (bg c d a)) (bg c d b)))]:=by
  simp only[aw,aX,Bool.decide_and,Bool.and_self,Nat.reduceLeDiff,aN]
  unfold c9 at hq ⊢
  cases hc:decide ((bg a b d)<o)<;>rw[hc]at hq<;>exact hq
 exact key
theorem VQ(a:BV)(b:BV)(c:BV)(d:BV)(h:ok (Rat×Rat) 100 a∧ok (Rat×Rat) 100 b∧ok (Rat×Rat) 100 c∧ok (Rat×Rat) 100 d):Con Tryz.prog 33 [.d tV a,.d tV b,.d tV c,.d tV d] [.d tR (ae (pZ (dec a) (dec b) (dec c) (dec d)))]:=by
 refine Ctx.Res.con (C:=iv) (au Sk) ?_ (fn:=Tryz.f33) (by kernel_rfl) (by kernel_rfl)
 obtain⟨ha,hb,hc,hd⟩:=h
 obtain⟨a,rfl,ba⟩:=aS ha
 obtain⟨b,rfl,bb⟩:=aS hb
 obtain⟨c,rfl,bc⟩:=aS hc
 obtain⟨d,rfl,bd⟩:=aS hd
 have bt:Bd (bg a b c) 40000:=⟨bI (inferInstance:Bd (bg a b c) _).le (by decide)⟩
 obtain⟨q,hq⟩:=X0 ba bb bc bd bt.le
 refine adk _ _ _ _ ⟨q,?_⟩
 unfold I8
 simp only[aj,ak,okd,Bool.decide_and,Bool.and_self,Nat.reduceLeDiff]
 unfold pZ
 cases cgR a b c d
 ·exact hq
 ·rfl
end Go.Proofs.YtlahabkjhgkkjaaGreat
namespace Go.Proofs.YtlahabkjhgkkjaaGreat
open Go.RowKit
theorem t7{j k:Nat}{x:BP}(h:okP j x)(hj:j≤k)(hk:k≤480000):okP k x:=by
 obtain⟨p,rfl,bp,rp⟩:=cC h
 exact of_decide_eq_true (bP hj hk)
theorem ol{j k:Nat}{c:BCU}(h:okC j c)(hj:j≤k)(hk:k≤480000):okC k c:=⟨h.1,h.2.1,t7 h.2.2.1 hj hk,t7 h.2.2.2 hj hk⟩
theorem qU{c:BCU}(hc:okC 500 c){v:Rat×Rat}[bv:Bd v 200]:Bd (jN (dC c) v) 15000∧Rdd (jN (dC c) v):=by
 obtain⟨ar,li,ci,cw,fr,to⟩:=c
 have h3:=hc.2.2.1
 have h4:=hc.2.2.2
 simp only at h3 h4
 obtain⟨fr,rfl,bf,rf⟩:=cC h3
 obtain⟨to,rfl,bt,rt⟩:=cC h4
 have he:Bd (qH (sqP fr v) (sqP to v)) 15000:=(inferInstance:Bd (qH (sqP fr v) (sqP to v)) _).mono (by decide)
 cases ar
 ·obtain⟨c2,c3⟩:=hc.2.1 rfl
  simp only at c2 c3
  obtain⟨li,rfl,bl⟩:=aS c2
  unfold jN Ml
  simp only[dC,lnC,frC,toC,ak,cond_false]
  cases EV (false,li,dec ci,cw,fr,to) (atP v)
  ·exact⟨he,SW⟩
  ·exact⟨(inferInstance:Bd ((cf (aU v (lE li v)) (aU v (lE li v)),0,0):Rt) _).mono (by decide),aan⟩
 ·obtain⟨c1,hq⟩:=hc.1 rfl
  simp only at c1 hq
  obtain⟨ci,rfl,bc⟩:=aS c1
  rw[ak]at hq
  have hC:Cir ci:=⟨hq⟩
  unfold jN Ml
  simp only[dC,lnC,frC,toC,ciC,G8,ak,cond_true]
  cases Gg (true,dec li,ci,cw,fr,to) (aU (ctr ci) v)
  ·exact⟨he,SW⟩
  ·have b2:Bd (-2:Rat) 3:=lY (n:= -2) (by decide)
   exact⟨(inferInstance:Bd (mkR (cf (aU (ctr ci) v) (aU (ctr ci) v)+ci.2.2) (-2) (cf (aU (ctr ci) v) (aU (ctr ci) v)*ci.2.2)) _).mono (by decide),BZ⟩
noncomputable def UJ:Env:=[(112,o9)]
theorem U0:EnvAll Tryz.prog UJ:=⟨nM,trivial⟩
noncomputable def Ua:Ctx:=⟨Tryz.prog,ft,tys,UJ,[]⟩
noncomputable def Lf(_k:KT)(a:BV)(b:BV):Option (List RV):=match decide (okR b.1∧okR a.1)with|true=>(match decide (okR b.2∧okR a.2)with|true=>some [RV.d tV (hid (ae (aa b.1-aa a.1)),hid (ae (aa b.2-aa a.2)))]|false=>none)|false=>none
theorem adP(a:BV)(b:BV){rX:List RV}(hX:∃nX,Lf (Ua.k nX) a b=some rX):Ua.Res 69 [.d tV a,.d tV b] rX:=aO (t:=fun k=>Lf k a b) (fun k=>show go2 Tryz.prog ft tys UJ [] k 4000 (az 69 [.d tV a,.d tV b]) (.node 0)=Lf k a b by kernel_rfl) hX
theorem Xu(a:BV)(b:BV)(h:ok (Rat×Rat) 10000 a∧ok (Rat×Rat) 10000 b):Con Tryz.prog 69 [.d tV a,.d tV b] [.d tV (enc (aU (dec a) (dec b)))]:=by
 refine Ctx.Res.con (C:=Ua) (au U0) (adP _ _ ⟨0,?_⟩) (fn:=Tryz.f69) (by kernel_rfl) (by kernel_rfl)
 obtain⟨ha,hb⟩:=h
 obtain⟨a,rfl,ba⟩:=aS ha
 obtain⟨b,rfl,bb⟩:=aS hb
 unfold Lf
 simp only[aj,ak,aF,aG,aD,aw,aX,Bool.decide_and,Bool.and_self,Nat.reduceLeDiff]
 try rfl
noncomputable def Hh:aL:=spN false true [tR,tR,tR] (fun x=>decide (ok Rat 100000 x.1∧ok Rat 100000 x.2.1∧ok Rat 100000 x.2.2.1∧0≤aa x.2.2.1)) (fun x=>[RV.d tO (hid (enc (mkR (aa x.1) (aa x.2.1) (aa x.2.2.1)))),RV.d (.int .i64) 0])
theorem Oz:af Tryz.prog 158=true∧ao Tryz.prog 158 Hh∧∀g,Hh.mut_=some g→aK Tryz.prog 158 g:=aq (by kernel_rfl) fun x h=>by simp only[aj];exact V6 x.1 x.2.1 x.2.2.1 (of_decide_eq_true h)
noncomputable def GZ:aL:=spN false true [tO,tV] (fun x=>decide (ok Ln 300 x.1∧ok (Rat×Rat) 200 x.2.1∧((dec x.1:Ln).1≠0∨(dec x.1:Ln).2.1≠0))) (fun x=>[RV.d tV (hid (enc (lE (dec x.1) (dec x.2.1))))])
theorem Ph:af Tryz.prog 70=true∧ao Tryz.prog 70 GZ∧∀g,GZ.mut_=some g→aK Tryz.prog 70 g:=aq (by kernel_rfl) fun x h=>by simp only[aj];exact Xq x.1 x.2.1 (of_decide_eq_true h)
noncomputable def Gh:aL:=spN false true [tV,tV] (fun x=>decide (ok (Rat×Rat) 10000 x.1∧ok (Rat×Rat) 10000 x.2.1)) (fun x=>[RV.d tV (hid (enc (aU (dec x.1) (dec x.2.1))))])
theorem PT:af Tryz.prog 69=true∧ao Tryz.prog 69 Gh∧∀g,Gh.mut_=some g→aK Tryz.prog 69 g:=aq (by kernel_rfl) fun x h=>by simp only[aj];exact Xu x.1 x.2.1 (of_decide_eq_true h)
noncomputable def qA:Env:=[(83,fP),(202,lM),(76,fS),(148,gg),(170,qd),(149,iD),(147,gQ),(158,Hh),(71,np),(68,xZ),(88,Fg),(66,Gw),(89,HQ),(70,GZ),(146,pc),(84,xh),(75,sU),(112,o9),(77,tu),(69,Gh),(72,sM),(87,ul)]
theorem oT:EnvAll Tryz.prog qA:=⟨ec,jM,d7,dY,oN,fI,eO,Oz,l6,CV,SC,QT,UX,Ph,nK,DE,tr,nM,ue,PT,uv,tS,trivial⟩
noncomputable def Se:Ctx:=⟨Tryz.prog,ft,tys,qA,[]⟩
noncomputable def IR(_k:KT)(a:BR)(b:BR)(c:BR):Option (List RV):=match decide (ok Rat 100000 a∧ok Rat 100000 b∧ok Rat 100000 c∧0≤aa c)with|true=>(match 0 !=0 with|true=>(match decide (okR a)with|true=>some [RV.d tO (hid (enc ((aa a,0,0):Rt)))]|false=>none)|false=>some [RV.d tO (hid (enc (mkR (aa a) (aa b) (aa c))))])|false=>none
theorem aes(a:BR)(b:BR)(c:BR){rX:List RV}(hX:∃nX,IR (Se.k nX) a b c=some rX):Se.Res 74 [.d tR a,.d tR b,.d tR c] rX:=aO (t:=fun k=>IR k a b c) (fun k=>show go2 Tryz.prog ft tys qA [] k 4000 (az 74 [.d tR a,.d tR b,.d tR c]) (.node 0)=IR k a b c by kernel_rfl) hX
theorem Wz(a:BR)(b:BR)(c:BR)(h:ok Rat 100000 a∧ok Rat 100000 b∧ok Rat 100000 c∧0≤aa c):Con Tryz.prog 74 [.d tR a,.d tR b,.d tR c] [.d tO (enc (mkR (aa a) (aa b) (aa c)))]:=by
 refine Ctx.Res.con (C:=Se) (au oT) (aes _ _ _ ⟨0,?_⟩) (fn:=Tryz.f74) (by kernel_rfl) (by kernel_rfl)
 obtain⟨ha,hb,hc,hn⟩:=h
 unfold IR
 rw[dT ⟨ha,hb,hc,hn⟩]
 simp only[aj]
 rfl
noncomputable def Sj:Ctx:=⟨Tryz.prog,ft,tys,qA,[]⟩
noncomputable def Ih(_k:KT)(v:BV):Option (List RV):=match decide (okR v.1)with|true=>(match(aQ (aa v.1) 0)==0 with|true=>(match decide (okR v.2)with|true=>some [RV.d .bool ((aQ (aa v.2) 0)==0)]|false=>none)|false=>some [RV.d .bool false])|false=>none
theorem aem(v:BV){rX:List RV}(hX:∃nX,Ih (Sj.k nX) v=some rX):Sj.Res 86 [.d tV v] rX:=aO (t:=fun k=>Ih k v) (fun k=>show go2 Tryz.prog ft tys qA [] k 4000 (az 86 [.d tV v]) (.node 0)=Ih k v by kernel_rfl) hX
theorem WW(v:BV)(h:ok (Rat×Rat) 100000 v):Con Tryz.prog 86 [.d tV v] [.d .bool (zeV (dec v))]:=by
 refine Ctx.Res.con (C:=Sj) (au oT) (aem _ ⟨0,?_⟩) (fn:=Tryz.f86) (by kernel_rfl) (by kernel_rfl)
 have hv:=h
 obtain⟨v,rfl,bv⟩:=aS hv
 unfold Ih
 simp only[ak,aF,aG,aD,aw,aX,Nat.reduceLeDiff,aP]
 unfold zeV
 cases decide (v.1=0)<;>rfl
noncomputable def TX:Ctx:=⟨Tryz.prog,ft,tys,qA,[]⟩
noncomputable def O7(_k:KT)(c:BCU):Option (List RV):=some [RV.d tV (c.2.2.1.1,c.2.2.1.2.1)]
theorem ac5(c:BCU){rX:List RV}(hX:∃nX,O7 (TX.k nX) c=some rX):TX.Res 73 [.d tCU c] rX:=aO (t:=fun k=>O7 k c) (fun k=>show go2 Tryz.prog ft tys qA [] k 4000 (az 73 [.d tCU c]) (.node 0)=O7 k c by kernel_rfl) hX
theorem XV(c:BCU):Con Tryz.prog 73 [.d tCU c] [.d tV (c.2.2.1.1,c.2.2.1.2.1)]:=by
 exact Ctx.Res.con (C:=TX) (au oT) (ac5 _ ⟨0,rfl⟩) (fn:=Tryz.f73) (by kernel_rfl) (by kernel_rfl)
noncomputable def EP:aL:=spN false true [tR,tR,tR] (fun x=>decide (ok Rat 100000 x.1∧ok Rat 100000 x.2.1∧ok Rat 100000 x.2.2.1∧0≤aa x.2.2.1)) (fun x=>[RV.d tO (hid (enc (mkR (aa x.1) (aa x.2.1) (aa x.2.2.1))))])
theorem Sf:af Tryz.prog 74=true∧ao Tryz.prog 74 EP∧∀g,EP.mut_=some g→aK Tryz.prog 74 g:=aq (by kernel_rfl) fun x h=>by simp only[aj];exact Wz x.1 x.2.1 x.2.2.1 (of_decide_eq_true h)
def G9:aL:=spN true true [tV] (fun x=>decide (ok (Rat×Rat) 100000 x.1)) (fun x=>[RV.d .bool (zeV (dec x.1))])
theorem UC:af Tryz.prog 86=true∧ao Tryz.prog 86 G9∧∀g,G9.mut_=some g→aK Tryz.prog 86 g:=aq (by kernel_rfl) fun x h=>WW x.1 (of_decide_eq_true h)
noncomputable def HR:aL:=spN false true [tCU] (fun _=>true) (fun x=>[RV.d tV (hid ((x.1.2.2.1.1,x.1.2.2.1.2.1)))])
theorem SD:af Tryz.prog 73=true∧ao Tryz.prog 73 HR∧∀g,HR.mut_=some g→aK Tryz.prog 73 g:=aq (by kernel_rfl) fun x _=>by simp only[aj];exact XV x.1
noncomputable def wz:Env:=(74,EP)::(86,G9)::(73,HR)::qA
theorem sJ:EnvAll Tryz.prog wz:=⟨Sf,UC,SD,oT⟩
noncomputable def RR:Ctx:=⟨Tryz.prog,ft,tys,wz,[]⟩
noncomputable def K9(_k:KT)(l:BO3)(p:BP):Option (List RV):=match decide (okR l.2.1)with|true=>(match decide (okR (hid (ae (-aa l.2.1)))∧okR p.1)with|true=>(match decide (okR l.1∧okR p.2.2.1)with|true=>(match decide (okR (hid (ae (aa (hid (ae (-aa l.2.1)))*aa p.1)))∧okR (hid (ae (aa l.1*aa p.2.2.1))))with|true=>(match decide (okR (hid (ae (-aa l.2.1)))∧okR p.2.1)with|true=>(match decide (okR l.1∧okR p.2.2.2.1)with|true=>(match decide (okR (hid (ae (aa (hid (ae (-aa l.2.1)))*aa p.2.1)))∧okR (hid (ae (aa l.1*aa p.2.2.2.1))))with|true=>(match decide (ok Rat 100000 (hid (ae (aa (hid (ae (aa (hid (ae (-aa l.2.1)))*aa p.1)))+aa (hid (ae (aa l.1*aa p.2.2.1))))))∧ok Rat 100000 (hid (ae (aa (hid (ae (aa (hid (ae (-aa l.2.1)))*aa p.2.1)))+aa (hid (ae (aa l.1*aa p.2.2.2.1))))))∧ok Rat 100000 p.2.2.2.2∧0≤aa p.2.2.2.2)with|true=>some [RV.d tO (hid (enc (mkR (aa (hid (ae (aa (hid (ae (aa (hid (ae (-aa l.2.1)))*aa p.1)))+aa (hid (ae (aa l.1*aa p.2.2.1))))))) (aa (hid (ae (aa (hid (ae (aa (hid (ae (-aa l.2.1)))*aa p.2.1)))+aa (hid (ae (aa l.1*aa p.2.2.2.1))))))) (aa p.2.2.2.2))))]|false=>none)|false=>none)|false=>none)|false=>none)|false=>none)|false=>none)|false=>none)|false=>none
theorem aeU(l:BO3)(p:BP){rX:List RV}(hX:∃nX,K9 (RR.k nX) l p=some rX):RR.Res 151 [.d tO l,.d tP p] rX:=aO (t:=fun k=>K9 k l p) (fun k=>show go2 Tryz.prog ft tys wz [] k 4000 (az 151 [.d tO l,.d tP p]) (.node 0)=K9 k l p by kernel_rfl) hX
theorem YY(l:BO3)(p:BP)(h:ok Ln 300 l∧okP 4000 p):Con Tryz.prog 151 [.d tO l,.d tP p] [.d tO (enc (dH (dec l) (dec p)))]:=by
 refine Ctx.Res.con (C:=RR) (au sJ) (aeU _ _ ⟨0,?_⟩) (fn:=Tryz.f151) (by kernel_rfl) (by kernel_rfl)
 obtain⟨hl,hp⟩:=h
 obtain⟨l,rfl,bl⟩:=aS hl
 obtain⟨p,rfl,bp,rp⟩:=cC hp
 have hn:0≤p.2.2.2.2:=rp.nn
 unfold K9
 simp only[aj,ak,aF,aG,aD,aw,aC,aX,Bool.decide_and,Bool.and_self,Nat.reduceAdd,Nat.reduceLeDiff,dT hn]
 rfl
noncomputable def Qj:Ctx:=⟨Tryz.prog,ft,tys,wz,[]⟩
noncomputable def Lg(_k:KT)(a:BO3)(b:BO3):Option (List RV):=match decide (okT 15000 b∧okT 15000 a)with|true=>(match decide ((bK (dec b) (dec a))<0)with|true=>some [RV.d tO b]|false=>some [RV.d tO a])|false=>none
theorem aeQ(a:BO3)(b:BO3){rX:List RV}(hX:∃nX,Lg (Qj.k nX) a b=some rX):Qj.Res 65 [.d tO a,.d tO b] rX:=aO (t:=fun k=>Lg k a b) (fun k=>show go2 Tryz.prog ft tys wz [] k 4000 (az 65 [.d tO a,.d tO b]) (.node 0)=Lg k a b by kernel_rfl) hX
theorem X4(a:BO3)(b:BO3)(h:okT 15000 a∧okT 15000 b):Con Tryz.prog 65 [.d tO a,.d tO b] [.d tO (enc (qH (dec a) (dec b)))]:=by
 refine Ctx.Res.con (C:=Qj) (au sJ) (aeQ _ _ ⟨0,?_⟩) (fn:=Tryz.f65) (by kernel_rfl) (by kernel_rfl)
 obtain⟨ha,hb⟩:=h
 obtain⟨a,rfl,ba,ra⟩:=fJ ha
 obtain⟨b,rfl,bb,rb⟩:=fJ hb
 unfold Lg qH
 simp only[ak,Bool.decide_and,Bool.and_self,Nat.reduceLeDiff,bH]
 cases decide (bK b a<0)<;>rfl
noncomputable def Ee:aL:=spN false true [tO,tP] (fun x=>decide (ok Ln 300 x.1∧okP 4000 x.2.1)) (fun x=>[RV.d tO (hid (enc (dH (dec x.1) (dec x.2.1))))])
theorem RN:af Tryz.prog 151=true∧ao Tryz.prog 151 Ee∧∀g,Ee.mut_=some g→aK Tryz.prog 151 g:=aq (by kernel_rfl) fun x h=>by simp only[aj];exact YY x.1 x.2.1 (of_decide_eq_true h)
noncomputable def EY:aL:=spN false true [tO,tO] (fun x=>decide (okT 15000 x.1∧okT 15000 x.2.1)) (fun x=>[RV.d tO (hid (enc (qH (dec x.1) (dec x.2.1))))])
theorem Rf:af Tryz.prog 65=true∧ao Tryz.prog 65 EY∧∀g,EY.mut_=some g→aK Tryz.prog 65 g:=aq (by kernel_rfl) fun x h=>by simp only[aj];exact X4 x.1 x.2.1 (of_decide_eq_true h)
noncomputable def v6:Env:=(151,Ee)::(65,EY)::wz
theorem uB:EnvAll Tryz.prog v6:=⟨RN,Rf,sJ⟩
noncomputable def So:Ctx:=⟨Tryz.prog,ft,tys,v6,[]⟩
noncomputable def Kk(_k:KT)(c:BCU)(p:BP):Option (List RV):=match decide (ok Ln 300 c.2.1∧okP 4000 p)with|true=>(match decide (ok Ln 300 c.2.1∧okP 4000 c.2.2.2.2.1)with|true=>(match decide (ok Ln 300 c.2.1∧okP 4000 c.2.2.2.2.2)with|true=>(match decide (okT 15000 (hid (enc (dH (dec c.2.1) (dec c.2.2.2.2.1))))∧okT 15000 (hid (enc (dH (dec c.2.1) (dec c.2.2.2.2.2)))))with|true=>(match decide ((bK (dec (hid (enc (dH (dec c.2.1) (dec c.2.2.2.2.1))))) (dec (hid (enc (dH (dec c.2.1) (dec c.2.2.2.2.2))))))>0)with|true=>(match decide (okT 15000 (hid (enc (dH (dec c.2.1) (dec c.2.2.2.2.2))))∧okT 15000 (hid (enc (dH (dec c.2.1) (dec p)))))with|true=>(match decide ((bK (dec (hid (enc (dH (dec c.2.1) (dec c.2.2.2.2.2))))) (dec (hid (enc (dH (dec c.2.1) (dec p))))))≤0)with|true=>(match decide (okT 15000 (hid (enc (dH (dec c.2.1) (dec p))))∧okT 15000 (hid (enc (dH (dec c.2.1) (dec c.2.2.2.2.1)))))with|true=>some [RV.d .bool (decide ((bK (dec (hid (enc (dH (dec c.2.1) (dec p))))) (dec (hid (enc (dH (dec c.2.1) (dec c.2.2.2.2.1))))))≤0))]|false=>none)|false=>some [RV.d .bool false])|false=>none)|false=>(match decide (okT 15000 (hid (enc (dH (dec c.2.1) (dec c.2.2.2.2.1))))∧okT 15000 (hid (enc (dH (dec c.2.1) (dec p)))))with|true=>(match decide ((bK (dec (hid (enc (dH (dec c.2.1) (dec c.2.2.2.2.1))))) (dec (hid (enc (dH (dec c.2.1) (dec p))))))≤0)with|true=>(match decide (okT 15000 (hid (enc (dH (dec c.2.1) (dec p))))∧okT 15000 (hid (enc (dH (dec c.2.1) (dec c.2.2.2.2.2)))))with|true=>some [RV.d .bool (decide ((bK (dec (hid (enc (dH (dec c.2.1) (dec p))))) (dec (hid (enc (dH (dec c.2.1) (dec c.2.2.2.2.2))))))≤0))]|false=>none)|false=>some [RV.d .bool false])|false=>none))|false=>none)|false=>none)|false=>none)|false=>none
theorem adl(c:BCU)(p:BP){rX:List RV}(hX:∃nX,Kk (So.k nX) c p=some rX):So.Res 67 [.d tCU c,.d tP p] rX:=aO (t:=fun k=>Kk k c p) (fun k=>show go2 Tryz.prog ft tys v6 [] k 4000 (az 67 [.d tCU c,.d tP p]) (.node 0)=Kk k c p by kernel_rfl) hX
theorem Wl(c:BCU)(p:BP)(h:okC 3000 c∧okP 3000 p∧c.1=false):Con Tryz.prog 67 [.d tCU c,.d tP p] [.d .bool (EV (dC c) (dec p))]:=by
 refine Ctx.Res.con (C:=So) (au uB) (adl _ _ ⟨0,?_⟩) (fn:=Tryz.f67) (by kernel_rfl) (by kernel_rfl)
 obtain⟨hc,hp,h0⟩:=h
 obtain⟨p,rfl,bp,rp⟩:=cC hp
 obtain⟨ar,li,ci,cw,fr,to⟩:=c
 simp only at h0
 subst h0
 obtain⟨_,c2,c3,c4⟩:=hc
 obtain⟨c2,_⟩:=c2 rfl
 simp only at c2 c3 c4
 obtain⟨li,rfl,bl⟩:=aS c2
 obtain⟨fr,rfl,bf,rf⟩:=cC c3
 obtain⟨to,rfl,bt,rt⟩:=cC c4
 unfold Kk EV
 simp only[dC,lnC,frC,toC,aj,ak,okd,Bool.decide_and,Bool.and_self,Nat.reduceAdd,Nat.reduceMul,Nat.reduceLeDiff,bH,bP]
 cases decide (bK (dH li fr) (dH li to)>0)
 ·cases decide (bK (dH li fr) (dH li p)≤0)<;>rfl
 ·cases decide (bK (dH li to) (dH li p)≤0)<;>rfl
noncomputable def SK:Ctx:=⟨Tryz.prog,ft,tys,v6,[]⟩
noncomputable def JU(_k:KT)(c:BCU)(v:BV):Option (List RV):=let y1:=hid (ae (cf (dec v) (dec v)));let y2:=hid (ae (aa c.2.2.1.2.2/aa y1));let y3:=hid (enc (mkR (aa c.2.2.1.1) (aa v.1) (aa y2)));let y4:=hid (enc (mkR (aa c.2.2.1.2.1) (aa v.2) (aa y2)));let y5:=hid (enc (mkP (dec y3) (dec y4)));match !c.1 with|true=>some [RV.d .bool c.1]|false=>(match decide (ok (Rat×Rat) 100000 v)with|true=>(match zeV (dec v)with|true=>some [RV.d .bool c.1]|false=>(match decide (ok (Rat×Rat) 5000 v∧ok (Rat×Rat) 5000 v)with|true=>(match decide (gh c.2.2.1.2.2 y1)with|true=>(match decide (ok Rat 100000 c.2.2.1.1∧ok Rat 100000 v.1∧ok Rat 100000 y2∧0≤aa y2)with|true=>(match decide (ok Rat 100000 c.2.2.1.2.1∧ok Rat 100000 v.2∧ok Rat 100000 y2∧0≤aa y2)with|true=>(match decide (okT 15000 y3∧okT 15000 y4∧ug (dec y3) (dec y4))with|true=>(match 0==0 with|true=>(match decide (okC 4000 c∧okP 4000 y5)with|true=>some [RV.d .bool (onP (dC c) (dec y5))]|false=>none)|false=>some [RV.d .bool false])|false=>none)|false=>none)|false=>none)|false=>none)|false=>none))|false=>none)
theorem acA(c:BCU)(v:BV){rX:List RV}(hX:∃nX,JU (SK.k nX) c v=some rX):SK.Res 24 [.d tCU c,.d tV v] rX:=aO (t:=fun k=>JU k c v) (fun k=>show go2 Tryz.prog ft tys v6 [] k 4000 (az 24 [.d tCU c,.d tV v]) (.node 0)=JU k c v by kernel_rfl) hX
theorem YM(c:BCU)(v:BV)(h:okC 500 c∧ok (Rat×Rat) 510 v):Con Tryz.prog 24 [.d tCU c,.d tV v] [.d .bool (Gg (dC c) (dec v))]:=by
 refine Ctx.Res.con (C:=SK) (au uB) (acA _ _ ⟨0,?_⟩) (fn:=Tryz.f24) (by kernel_rfl) (by kernel_rfl)
 obtain⟨hc,hv⟩:=h
 obtain⟨v,rfl,bv⟩:=aS hv
 have hc4:=ol (k:=4000) hc (by decide) (by decide)
 obtain⟨ar,li,ci,cw,fr,to⟩:=c
 cases ar
 ·rfl
 ·obtain⟨c1,_⟩:=hc.1 rfl
  have hq:=(hc.1 rfl).2
  simp only at c1 hq
  obtain⟨ci,rfl,bc⟩:=aS c1
  rw[ak]at hq
  have hC:Cir ci:=⟨hq⟩
  have o4:=decide_eq_true hc4
  have hn:0≤ci.2.2/cf v v:=(abG (c:=ci) (d:=v)).le
  have om:decide (ug (mkR ci.1 v.1 (ci.2.2/cf v v)) (mkR ci.2.1 v.2 (ci.2.2/cf v v)))=true:=dT (IT _ _ _ _ _)
  have ry:decide (okP 4000 (enc (mkP (mkR ci.1 v.1 (ci.2.2/cf v v)) (mkR ci.2.1 v.2 (ci.2.2/cf v v)))))=true:=bP (x:=Tc ci v) (by decide) (by decide)
  unfold JU Gg
  simp only[aj,ak,aF,aG,aD,aw,okd,aC,Bool.decide_and,Bool.and_self,Bool.true_and,Nat.reduceAdd,Nat.reduceLeDiff,bH,Bool.not_true]
  cases hz:zeV v
  ·have hd:=Z3 hz
   simp only[aE,Bool.and_self,Nat.reduceAdd,Nat.reduceLeDiff,hd,ne_eq,not_false_eq_true,dT hn,om,o4,ry]
   show _=some [RV.d .bool (onP _ (Tc (dec (enc ci)) v))]
   rw[ak]
   rfl
  ·rfl
def G4:aL:=spN true true [tCU,tP] (fun x=>decide (okC 3000 x.1∧okP 3000 x.2.1∧x.1.1=false)) (fun x=>[RV.d .bool (EV (dC x.1) (dec x.2.1))])
theorem Pe:af Tryz.prog 67=true∧ao Tryz.prog 67 G4∧∀g,G4.mut_=some g→aK Tryz.prog 67 g:=aq (by kernel_rfl) fun x h=>Wl x.1 x.2.1 (of_decide_eq_true h)
def Hd:aL:=spN true true [tCU,tV] (fun x=>decide (okC 500 x.1∧ok (Rat×Rat) 510 x.2.1)) (fun x=>[RV.d .bool (Gg (dC x.1) (dec x.2.1))])
theorem Vs:af Tryz.prog 24=true∧ao Tryz.prog 24 Hd∧∀g,Hd.mut_=some g→aK Tryz.prog 24 g:=aq (by kernel_rfl) fun x h=>YM x.1 x.2.1 (of_decide_eq_true h)
noncomputable def KW:Env:=(67,G4)::(24,Hd)::v6
theorem Cb:EnvAll Tryz.prog KW:=⟨Pe,Vs,uB⟩
def UP:NT:=[((16,13),{keep:=[4,19],hl:=0}),((16,29),{keep:=[4,39],hl:=0})]
noncomputable def OI:Ctx:=⟨Tryz.prog,ft,tys,KW,UP⟩
noncomputable def B3(_k:KT)(c:BCU)(v:BV):Option (List RV):=let y1:=hid (enc (atP (dec v)));let y2:=hid (enc (sqP (dec c.2.2.2.2.1) (dec v)));let y3:=hid (enc (sqP (dec c.2.2.2.2.2) (dec v)));let y4:Option (List RV):=match decide (okP 3500 c.2.2.2.2.1∧ok (Rat×Rat) 300 v)with|true=>(match decide (okP 3500 c.2.2.2.2.2∧ok (Rat×Rat) 300 v)with|true=>(match decide (okT 15000 y2∧okT 15000 y3)with|true=>some [RV.d tO (hid (enc (qH (dec y2) (dec y3))))]|false=>none)|false=>none)|false=>none;let y5:=hid (enc (lE (dec c.2.1) (dec v)));let y6:=hid (enc (aU (dec v) (dec y5)));let y7:=hid (ae (cf (dec y6) (dec y6)));let y8:=hid ((c.2.2.1.1,c.2.2.1.2.1));let y9:=hid (enc (aU (dec y8) (dec v)));let y10:=hid (ae (cf (dec y9) (dec y9)));let y11:=hid (ae (aa y10+aa c.2.2.1.2.2));let y12:=hid (ae (((-2):Int):Rat));let y13:=hid (ae (aa y10*aa c.2.2.1.2.2));match !c.1 with|true=>(match decide (ok (Rat×Rat) 100000 v)with|true=>(match decide (okC 3000 c∧okP 3000 y1∧c.1=false)with|true=>(match !(EV (dC c) (dec y1))with|true=>y4|false=>(match decide (ok Ln 300 c.2.1∧ok (Rat×Rat) 200 v∧((dec c.2.1:Ln).1≠0∨(dec c.2.1:Ln).2.1≠0))with|true=>(match decide (ok (Rat×Rat) 10000 v∧ok (Rat×Rat) 10000 y5)with|true=>(match decide (ok (Rat×Rat) 5000 y6∧ok (Rat×Rat) 5000 y6)with|true=>(match decide (okR y7)with|true=>some [RV.d tO (hid (enc ((aa y7,0,0):Rt)))]|false=>none)|false=>none)|false=>none)|false=>none))|false=>none)|false=>none)|false=>(match decide (ok (Rat×Rat) 10000 y8∧ok (Rat×Rat) 10000 v)with|true=>(match decide (okC 500 c∧ok (Rat×Rat) 510 y9)with|true=>(match !(Gg (dC c) (dec y9))with|true=>y4|false=>(match decide (ok (Rat×Rat) 5000 y9∧ok (Rat×Rat) 5000 y9)with|true=>(match decide (okR y10∧okR c.2.2.1.2.2)with|true=>(match decide (bh ((-2):Int))with|true=>(match decide (okR y10∧okR c.2.2.1.2.2)with|true=>(match decide (ok Rat 100000 y11∧ok Rat 100000 y12∧ok Rat 100000 y13∧0≤aa y13)with|true=>some [RV.d tO (hid (enc (mkR (aa y11) (aa y12) (aa y13))))]|false=>none)|false=>none)|false=>none)|false=>none)|false=>none))|false=>none)|false=>none)
theorem aeg(c:BCU)(v:BV){rX:List RV}(hX:∃nX,B3 (OI.k nX) c v=some rX):OI.Res 16 [.d tCU c,.d tV v] rX:=aO (t:=fun k=>B3 k c v) (fun k=>show go2 Tryz.prog ft tys KW UP k 4000 (az 16 [.d tCU c,.d tV v]) (.node 0)=B3 k c v by kernel_rfl) hX
theorem YJ(c:BCU)(v:BV)(h:okC 500 c∧ok (Rat×Rat) 200 v):Con Tryz.prog 16 [.d tCU c,.d tV v] [.d tO (enc (jN (dC c) (dec v)))]:=by
 refine Ctx.Res.con (C:=OI) (au Cb) (aeg _ _ ⟨0,?_⟩) (fn:=Tryz.f16) (by kernel_rfl) (by kernel_rfl)
 obtain⟨hc,hv⟩:=h
 obtain⟨v,rfl,bv⟩:=aS hv
 have hc4:=ol (k:=3000) hc (by decide) (by decide)
 obtain⟨ar,li,ci,cw,fr,to⟩:=c
 have h3:=hc.2.2.1
 have h4:=hc.2.2.2
 simp only at h3 h4
 obtain⟨fr,rfl,bf,rf⟩:=cC h3
 obtain⟨to,rfl,bt,rt⟩:=cC h4
 have o4:=decide_eq_true hc4
 have o5:=decide_eq_true hc
 cases ar
 ·obtain⟨c2,c3⟩:=hc.2.1 rfl
  simp only at c2 c3
  obtain⟨li,rfl,bl⟩:=aS c2
  rw[ak]at c3
  unfold B3 jN Ml
  simp only[aj,ak,aR,aD,aw,okd,aX,Bool.decide_and,Bool.and_self,mx,Nat.reduceAdd,Nat.reduceMul,Nat.reduceLeDiff,decide_true,decide_false,cond_true,cond_false,bH,bP,o4,c3,Bool.not_false]
  simp only[dC,lnC,frC,toC,ak,cond_false]
  cases EV (false,li,dec ci,cw,fr,to) (atP v)<;>rfl
 ·obtain⟨c1,hq⟩:=hc.1 rfl
  simp only at c1 hq
  obtain⟨ci,rfl,bc⟩:=aS c1
  rw[ak]at hq
  have hC:Cir ci:=⟨hq⟩
  have hn:0≤cf (aU (ctr ci) v) (aU (ctr ci) v)*ci.2.2:=(Wn (c:=ci) (d:=aU (ctr ci) v)).le
  have e0:((ae ci.1,ae ci.2.1):BV)=enc (ctr ci):=rfl
  have h2:decide (bh (-2))=true:=by decide
  have b2:Bd ((-2:Int):Rat) 3:=lY (by decide)
  unfold B3 jN Ml
  simp only[aj,ak,aF,aG,aD,aw,okd,aC,aX,Bool.decide_and,Bool.and_self,Bool.true_and,mx,Nat.reduceAdd,Nat.reduceMul,Nat.reduceLeDiff,decide_true,cond_true,bH,bP,o5,e0,Bool.not_true]
  simp only[dC,lnC,frC,toC,ciC,G8,ak,cond_true]
  cases Gg (true,dec li,ci,cw,fr,to) (aU (ctr ci) v)
  ·rfl
  ·simp only[cond_true,dT hn,h2]
   rw[show((-2:Int):Rat)= -2 from rfl]
   rfl
noncomputable def zh:aL:=spN false true [tCU,tV] (fun x=>decide (okC 500 x.1∧ok (Rat×Rat) 200 x.2.1)) (fun x=>[RV.d tO (hid (enc (jN (dC x.1) (dec x.2.1))))])
theorem CO:af Tryz.prog 16=true∧ao Tryz.prog 16 zh∧∀g,zh.mut_=some g→aK Tryz.prog 16 g:=aq (by kernel_rfl) fun x h=>by simp only[aj];exact YJ x.1 x.2.1 (of_decide_eq_true h)
noncomputable def Qm:Env:=(16,zh)::KW
theorem UM:EnvAll Tryz.prog Qm:=⟨CO,Cb⟩
noncomputable def OZ:Ctx:=⟨Tryz.prog,ft,tys,Qm,[]⟩
noncomputable def Iu(_k:KT)(c:BCU)(v:BV)(r:BR):Option (List RV):=match decide (okR r)with|true=>(match decide ((aQ (aa r) 0)<0)with|true=>some [RV.d (.int .i64) 1]|false=>(match decide (okC 500 c∧ok (Rat×Rat) 200 v)with|true=>(match decide (okR r∧okR r)with|true=>(match decide (okT 15000 (hid (enc (jN (dC c) (dec v))))∧ok Rat 15000 (hid (ae (aa r*aa r))))with|true=>some [RV.d (.int .i64) (d9 (dec (hid (enc (jN (dC c) (dec v))))) (aa (hid (ae (aa r*aa r)))))]|false=>none)|false=>none)|false=>none))|false=>none
theorem aeO(c:BCU)(v:BV)(r:BR){rX:List RV}(hX:∃nX,Iu (OZ.k nX) c v r=some rX):OZ.Res 21 [.d tCU c,.d tV v,.d tR r] rX:=aO (t:=fun k=>Iu k c v r) (fun k=>show go2 Tryz.prog ft tys Qm [] k 4000 (az 21 [.d tCU c,.d tV v,.d tR r]) (.node 0)=Iu k c v r by kernel_rfl) hX
theorem Wy(c:BCU)(v:BV)(r:BR)(h:okC 500 c∧ok (Rat×Rat) 200 v∧ok Rat 1000 r):Con Tryz.prog 21 [.d tCU c,.d tV v,.d tR r] [.d (.int .i64) (E8 (dC c) (dec v) (aa r))]:=by
 refine Ctx.Res.con (C:=OZ) (au UM) (aeO _ _ _ ⟨0,?_⟩) (fn:=Tryz.f21) (by kernel_rfl) (by kernel_rfl)
 obtain⟨hc,hv,hr⟩:=h
 obtain⟨v,rfl,bv⟩:=aS hv
 obtain⟨r,rfl,br⟩:=aS hr
 rw[aD,aw,ak]
 have od:=qU hc (v:=v)
 obtain⟨od1,od2⟩:=od
 unfold Iu E8
 simp only[aj,ak,aw,okd,aC,aX,Bool.decide_and,Bool.and_self,Nat.reduceAdd,Nat.reduceLeDiff,bH,aN,decide_eq_true hc]
 cases decide (r<0)<;>rfl
def Eh:aL:=spN true true [tCU,tV,tR] (fun x=>decide (okC 500 x.1∧ok (Rat×Rat) 200 x.2.1∧ok Rat 1000 x.2.2.1)) (fun x=>[RV.d (.int .i64) (E8 (dC x.1) (dec x.2.1) (aa x.2.2.1))])
theorem Uc:af Tryz.prog 21=true∧ao Tryz.prog 21 Eh∧∀g,Eh.mut_=some g→aK Tryz.prog 21 g:=aq (by kernel_rfl) fun x h=>Wy x.1 x.2.1 x.2.2.1 (of_decide_eq_true h)
end Go.Proofs.YtlahabkjhgkkjaaGreat
namespace Go.Proofs.YtlahabkjhgkkjaaGreat
open Go.RowKit
end Go.Proofs.YtlahabkjhgkkjaaGreat
namespace Go.Proofs.YtlahabkjhgkkjaaGreat
open Go.RowKit
abbrev r00:BR:=((false,[]),(false,[]))
abbrev o00:BO3:=(r00,r00,r00)
abbrev p00:BP:=(r00,r00,r00,r00,r00)
abbrev c00:BCU:=(false,o00,o00,false,p00,p00)
def aaf(a b:Rat×Rat):Ln:=(a.2-b.2,b.1-a.1,(a.2-b.2)*a.1+(b.1-a.1)*a.2)
def F4(a b:Rat×Rat):Bool:=decide (a.2-b.2=0)&&decide (b.1-a.1=0)
noncomputable def NZ(a b:Rat×Rat):BO3:=bif F4 a b then o00 else enc (aaf a b)
def Tn(a b:Rat×Rat):Int:=bif F4 a b then 6 else 0
def gN(a b c:Rat×Rat):Rat:=(b.1-a.1)*(c.2-a.2)-(b.2-a.2)*(c.1-a.1)
def Sg(a b c:Rat×Rat):Rat:=(((b.1-a.1)*(b.1-a.1)+(b.2-a.2)*(b.2-a.2))*(c.2-a.2)-((c.1-a.1)*(c.1-a.1)+(c.2-a.2)*(c.2-a.2))*(b.2-a.2))/(gN a b c+gN a b c)
def Sy(a b c:Rat×Rat):Rat:=(((c.1-a.1)*(c.1-a.1)+(c.2-a.2)*(c.2-a.2))*(b.1-a.1)-((b.1-a.1)*(b.1-a.1)+(b.2-a.2)*(b.2-a.2))*(c.1-a.1))/(gN a b c+gN a b c)
def ZW(a b c:Rat×Rat):Ln:=(a.1+Sg a b c,a.2+Sy a b c,Sg a b c*Sg a b c+Sy a b c*Sy a b c)
noncomputable def Tf(a b c:Rat×Rat):BO3:=bif decide (gN a b c=0)then o00 else enc (ZW a b c)
def Qh(a b c:Rat×Rat):Int:=bif decide (gN a b c=0)then 6 else 0
def qv(a b c:Rat×Rat):Int:=aQ ((b.1-a.1)*(c.2-a.2)) ((b.2-a.2)*(c.1-a.1))
noncomputable def MK(a b:Rat×Rat):BCU:=bif F4 a b then c00 else(false,enc (aaf a b),o00,false,enc (atP a),enc (atP b))
def NU(a b:Rat×Rat):Int:=bif F4 a b then 6 else 0
noncomputable def NE(a b c:Rat×Rat):BCU:=bif decide (gN a b c=0)then c00 else(true,o00,enc (ZW a b c),decide (qv a b c<0),enc (atP a),enc (atP c))
def UF(a b c:Rat×Rat):Int:=bif decide (gN a b c=0)then 6 else 0
theorem ZK(a b c:Rat×Rat):(qv a b c==0)=decide (gN a b c=0):=by
 unfold qv gN
 rw[aP]
 exact decide_eq_decide.2 (by constructor<;>intro h<;>grind)
noncomputable def qG:Env:=[(78,gA),(107,iU),(161,iS),(132,gT),(20,oA),(140,qP),(143,qT),(141,rG),(142,rJ)]
theorem ow:EnvAll Tryz.prog qG:=⟨fj,hU,hZ,fZ,oY,wg,v7,wC,uZ,trivial⟩
noncomputable def F3:Ctx:=⟨Tryz.prog,ft,tys,qG,[]⟩
noncomputable def zV(_k:KT)(a:BV)(b:BV):Option (List RV):=match decide (okR a.2∧okR b.2)with|true=>(match decide (okR b.1∧okR a.1)with|true=>(match decide (okR (hid (ae (aa a.2-aa b.2))))with|true=>(match(aQ (aa (hid (ae (aa a.2-aa b.2)))) 0)==0 with|true=>(match decide (okR (hid (ae (aa b.1-aa a.1))))with|true=>(match(aQ (aa (hid (ae (aa b.1-aa a.1)))) 0)==0 with|true=>some [RV.d tO (((false,[]),(false,[])),(((false,[]),(false,[])),((false,[]),(false,[])))),RV.d (.int .i64) 6]|false=>(match decide (okR (hid (ae (aa a.2-aa b.2)))∧okR a.1)with|true=>(match decide (okR (hid (ae (aa b.1-aa a.1)))∧okR a.2)with|true=>(match decide (okR (hid (ae (aa (hid (ae (aa a.2-aa b.2)))*aa a.1)))∧okR (hid (ae (aa (hid (ae (aa b.1-aa a.1)))*aa a.2))))with|true=>some [RV.d tO (hid (ae (aa a.2-aa b.2)),(hid (ae (aa b.1-aa a.1)),hid (ae (aa (hid (ae (aa (hid (ae (aa a.2-aa b.2)))*aa a.1)))+aa (hid (ae (aa (hid (ae (aa b.1-aa a.1)))*aa a.2))))))),RV.d (.int .i64) 0]|false=>none)|false=>none)|false=>none))|false=>none)|false=>(match decide (okR (hid (ae (aa a.2-aa b.2)))∧okR a.1)with|true=>(match decide (okR (hid (ae (aa b.1-aa a.1)))∧okR a.2)with|true=>(match decide (okR (hid (ae (aa (hid (ae (aa a.2-aa b.2)))*aa a.1)))∧okR (hid (ae (aa (hid (ae (aa b.1-aa a.1)))*aa a.2))))with|true=>some [RV.d tO (hid (ae (aa a.2-aa b.2)),(hid (ae (aa b.1-aa a.1)),hid (ae (aa (hid (ae (aa (hid (ae (aa a.2-aa b.2)))*aa a.1)))+aa (hid (ae (aa (hid (ae (aa b.1-aa a.1)))*aa a.2))))))),RV.d (.int .i64) 0]|false=>none)|false=>none)|false=>none))|false=>none)|false=>none)|false=>none
theorem abv(a:BV)(b:BV){rX:List RV}(hX:∃nX,zV (F3.k nX) a b=some rX):F3.Res 128 [.d tV a,.d tV b] rX:=aO (t:=fun k=>zV k a b) (fun k=>show go2 Tryz.prog ft tys qG [] k 4000 (az 128 [.d tV a,.d tV b]) (.node 0)=zV k a b by kernel_rfl) hX
theorem T1(a:BV)(b:BV)(h:ok (Rat×Rat) 100 a∧ok (Rat×Rat) 100 b):Con Tryz.prog 128 [.d tV a,.d tV b] [.d tO (NZ (dec a) (dec b)),.d (.int .i64) (Tn (dec a) (dec b))]:=by
 refine Ctx.Res.con (C:=F3) (au ow) (abv _ _ ⟨0,?_⟩) (fn:=Tryz.f128) (by kernel_rfl) (by kernel_rfl)
 obtain⟨ha,hb⟩:=h
 obtain⟨a,rfl,ba⟩:=aS ha
 obtain⟨b,rfl,bb⟩:=aS hb
 unfold zV NZ Tn F4
 simp only[aj,ak,aF,aG,aD,aw,aX,Bool.decide_and,Bool.and_self,Nat.reduceAdd,Nat.reduceLeDiff,aP]
 cases decide (a.2-b.2=0)<;>cases decide (b.1-a.1=0)<;>rfl
noncomputable def SS:Ctx:=⟨Tryz.prog,ft,tys,qG,[]⟩
noncomputable def IP(_k:KT)(a:BV)(b:BV)(c:BV):Option (List RV):=match decide (okR b.1∧okR a.1)with|true=>(match decide (okR c.2∧okR a.2)with|true=>(match decide (okR (hid (ae (aa b.1-aa a.1)))∧okR (hid (ae (aa c.2-aa a.2))))with|true=>(match decide (okR b.2∧okR a.2)with|true=>(match decide (okR c.1∧okR a.1)with|true=>(match decide (okR (hid (ae (aa b.2-aa a.2)))∧okR (hid (ae (aa c.1-aa a.1))))with|true=>(match decide (okR (hid (ae (aa (hid (ae (aa b.1-aa a.1)))*aa (hid (ae (aa c.2-aa a.2))))))∧okR (hid (ae (aa (hid (ae (aa b.2-aa a.2)))*aa (hid (ae (aa c.1-aa a.1)))))))with|true=>some [RV.d (.int .i64) (aQ (aa (hid (ae (aa (hid (ae (aa b.1-aa a.1)))*aa (hid (ae (aa c.2-aa a.2))))))) (aa (hid (ae (aa (hid (ae (aa b.2-aa a.2)))*aa (hid (ae (aa c.1-aa a.1))))))))]|false=>none)|false=>none)|false=>none)|false=>none)|false=>none)|false=>none)|false=>none
theorem ace(a:BV)(b:BV)(c:BV){rX:List RV}(hX:∃nX,IP (SS.k nX) a b c=some rX):SS.Res 129 [.d tV a,.d tV b,.d tV c] rX:=aO (t:=fun k=>IP k a b c) (fun k=>show go2 Tryz.prog ft tys qG [] k 4000 (az 129 [.d tV a,.d tV b,.d tV c]) (.node 0)=IP k a b c by kernel_rfl) hX
theorem WH(a:BV)(b:BV)(c:BV)(h:ok (Rat×Rat) 100 a∧ok (Rat×Rat) 100 b∧ok (Rat×Rat) 100 c):Con Tryz.prog 129 [.d tV a,.d tV b,.d tV c] [.d (.int .i64) (qv (dec a) (dec b) (dec c))]:=by
 refine Ctx.Res.con (C:=SS) (au ow) (ace _ _ _ ⟨0,?_⟩) (fn:=Tryz.f129) (by kernel_rfl) (by kernel_rfl)
 obtain⟨ha,hb,hc⟩:=h
 obtain⟨a,rfl,ba⟩:=aS ha
 obtain⟨b,rfl,bb⟩:=aS hb
 obtain⟨c,rfl,bc⟩:=aS hc
 unfold IP
 simp only[aj,ak,aF,aG,aD,aw,aX,Bool.decide_and,Bool.and_self,Nat.reduceAdd,Nat.reduceLeDiff]
 rfl
noncomputable def Gx:Ctx:=⟨Tryz.prog,ft,tys,qG,[]⟩
noncomputable def Al(_k:KT)(a:BV)(b:BV)(c:BV):Option (List RV):=let y1:=hid (ae (aa b.1-aa a.1));let y2:=hid (ae (aa c.2-aa a.2));let y3:=hid (ae (aa b.2-aa a.2));let y4:=hid (ae (aa c.1-aa a.1));let y5:=hid (ae (aa y1*aa y2));let y6:=hid (ae (aa y3*aa y4));let y7:=hid (ae (aa y5-aa y6));let y8:=hid (ae (aa y1*aa y1));let y9:=hid (ae (aa y3*aa y3));let y10:=hid (ae (aa y4*aa y4));let y11:=hid (ae (aa y2*aa y2));let y12:=hid (ae (aa y8+aa y9));let y13:=hid (ae (aa y10+aa y11));let y14:=hid (ae (aa y12*aa y2));let y15:=hid (ae (aa y13*aa y3));let y16:=hid (ae (aa y14-aa y15));let y17:=hid (ae (aa y7+aa y7));let y18:=hid (ae (aa y13*aa y1));let y19:=hid (ae (aa y12*aa y4));let y20:=hid (ae (aa y18-aa y19));let y21:=hid (ae (aa y16/aa y17));let y22:=hid (ae (aa y20/aa y17));let y23:=hid (ae (aa y21*aa y21));let y24:=hid (ae (aa y22*aa y22));match decide (okR b.1∧okR a.1)with|true=>(match decide (okR b.2∧okR a.2)with|true=>(match decide (okR c.1∧okR a.1)with|true=>(match decide (okR c.2∧okR a.2)with|true=>(match decide (okR y1∧okR y2)with|true=>(match decide (okR y3∧okR y4)with|true=>(match decide (okR y5∧okR y6)with|true=>(match decide (okR y7)with|true=>(match(aQ (aa y7) 0)==0 with|true=>some [RV.d tO (((false,[]),(false,[])),(((false,[]),(false,[])),((false,[]),(false,[])))),RV.d (.int .i64) 6]|false=>(match decide (okR y7∧okR y7)with|true=>(match decide (okR y1∧okR y1)with|true=>(match decide (okR y3∧okR y3)with|true=>(match decide (okR y8∧okR y9)with|true=>(match decide (okR y4∧okR y4)with|true=>(match decide (okR y2∧okR y2)with|true=>(match decide (okR y10∧okR y11)with|true=>(match decide (okR y12∧okR y2)with|true=>(match decide (okR y13∧okR y3)with|true=>(match decide (okR y14∧okR y15)with|true=>(match decide (gh y16 y17)with|true=>(match decide (okR y13∧okR y1)with|true=>(match decide (okR y12∧okR y4)with|true=>(match decide (okR y18∧okR y19)with|true=>(match decide (gh y20 y17)with|true=>(match decide (okR a.1∧okR y21)with|true=>(match decide (okR a.2∧okR y22)with|true=>(match decide (okR y21∧okR y21)with|true=>(match decide (okR y22∧okR y22)with|true=>(match decide (okR y23∧okR y24)with|true=>some [RV.d tO (hid (ae (aa a.1+aa y21)),(hid (ae (aa a.2+aa y22)),hid (ae (aa y23+aa y24)))),RV.d (.int .i64) 0]|false=>none)|false=>none)|false=>none)|false=>none)|false=>none)|false=>none)|false=>none)|false=>none)|false=>none)|false=>none)|false=>none)|false=>none)|false=>none)|false=>none)|false=>none)|false=>none)|false=>none)|false=>none)|false=>none)|false=>none))|false=>none)|false=>none)|false=>none)|false=>none)|false=>none)|false=>none)|false=>none)|false=>none
theorem abg(a:BV)(b:BV)(c:BV){rX:List RV}(hX:∃nX,Al (Gx.k nX) a b c=some rX):Gx.Res 130 [.d tV a,.d tV b,.d tV c] rX:=aO (t:=fun k=>Al k a b c) (fun k=>show go2 Tryz.prog ft tys qG [] k 4000 (az 130 [.d tV a,.d tV b,.d tV c]) (.node 0)=Al k a b c by kernel_rfl) hX
theorem Tx(a:BV)(b:BV)(c:BV)(h:ok (Rat×Rat) 100 a∧ok (Rat×Rat) 100 b∧ok (Rat×Rat) 100 c):Con Tryz.prog 130 [.d tV a,.d tV b,.d tV c] [.d tO (Tf (dec a) (dec b) (dec c)),.d (.int .i64) (Qh (dec a) (dec b) (dec c))]:=by
 refine Ctx.Res.con (C:=Gx) (au ow) (abg _ _ _ ⟨0,?_⟩) (fn:=Tryz.f130) (by kernel_rfl) (by kernel_rfl)
 obtain⟨ha,hb,hc⟩:=h
 obtain⟨a,rfl,ba⟩:=aS ha
 obtain⟨b,rfl,bb⟩:=aS hb
 obtain⟨c,rfl,bc⟩:=aS hc
 have e0:(b.1-a.1)*(c.2-a.2)-(b.2-a.2)*(c.1-a.1)=gN a b c:=rfl
 have bD:Bd (gN a b c) 805:=inferInstanceAs (Bd ((b.1-a.1)*(c.2-a.2)-(b.2-a.2)*(c.1-a.1)) _)
 have eX:(((b.1-a.1)*(b.1-a.1)+(b.2-a.2)*(b.2-a.2))*(c.2-a.2)-((c.1-a.1)*(c.1-a.1)+(c.2-a.2)*(c.2-a.2))*(b.2-a.2))/(gN a b c+gN a b c)=Sg a b c:=rfl
 have eY:(((c.1-a.1)*(c.1-a.1)+(c.2-a.2)*(c.2-a.2))*(b.1-a.1)-((b.1-a.1)*(b.1-a.1)+(b.2-a.2)*(b.2-a.2))*(c.1-a.1))/(gN a b c+gN a b c)=Sy a b c:=rfl
 have m1:Bd ((b.1-a.1)*(b.1-a.1)+(b.2-a.2)*(b.2-a.2)) _:=inferInstance
 have m2:Bd ((c.1-a.1)*(c.1-a.1)+(c.2-a.2)*(c.2-a.2)) _:=inferInstance
 have n1:Bd (((b.1-a.1)*(b.1-a.1)+(b.2-a.2)*(b.2-a.2))*(c.2-a.2)-((c.1-a.1)*(c.1-a.1)+(c.2-a.2)*(c.2-a.2))*(b.2-a.2)) _:=inferInstance
 have n2:Bd (((c.1-a.1)*(c.1-a.1)+(c.2-a.2)*(c.2-a.2))*(b.1-a.1)-((b.1-a.1)*(b.1-a.1)+(b.2-a.2)*(b.2-a.2))*(c.1-a.1)) _:=inferInstance
 have bX0:Bd ((((b.1-a.1)*(b.1-a.1)+(b.2-a.2)*(b.2-a.2))*(c.2-a.2)-((c.1-a.1)*(c.1-a.1)+(c.2-a.2)*(c.2-a.2))*(b.2-a.2))/(gN a b c+gN a b c)) _:=inferInstance
 have bX:Bd (Sg a b c) 4000:=by rw[←eX];exact bX0.mono (by decide)
 have bY0:Bd ((((c.1-a.1)*(c.1-a.1)+(c.2-a.2)*(c.2-a.2))*(b.1-a.1)-((b.1-a.1)*(b.1-a.1)+(b.2-a.2)*(b.2-a.2))*(c.1-a.1))/(gN a b c+gN a b c)) _:=inferInstance
 have bY:Bd (Sy a b c) 4000:=by rw[←eY];exact bY0.mono (by decide)
 unfold Al Tf Qh
 simp only[aj,ak,aF,aG,aD,aw,aX,Bool.decide_and,Bool.and_self,Nat.reduceAdd,Nat.reduceLeDiff,aP,e0]
 by_cases hd:gN a b c=0
 ·rw[decide_eq_true hd]
  rfl
 ·have h2:gN a b c+gN a b c≠0:=by grind
  rw[decide_eq_false hd]
  simp only[aE,Nat.reduceAdd,Nat.reduceLeDiff,cond_false,h2,ne_eq,not_false_eq_true,eX,eY]
  rfl
noncomputable def zo:aL:=spN false true [tV,tV] (fun x=>decide (ok (Rat×Rat) 100 x.1∧ok (Rat×Rat) 100 x.2.1)) (fun x=>[RV.d tO (hid (NZ (dec x.1) (dec x.2.1))),RV.d (.int .i64) (Tn (dec x.1) (dec x.2.1))])
theorem Nx:af Tryz.prog 128=true∧ao Tryz.prog 128 zo∧∀g,zo.mut_=some g→aK Tryz.prog 128 g:=aq (by kernel_rfl) fun x h=>by simp only[aj];exact T1 x.1 x.2.1 (of_decide_eq_true h)
def Fx:aL:=spN true true [tV,tV,tV] (fun x=>decide (ok (Rat×Rat) 100 x.1∧ok (Rat×Rat) 100 x.2.1∧ok (Rat×Rat) 100 x.2.2.1)) (fun x=>[RV.d (.int .i64) (qv (dec x.1) (dec x.2.1) (dec x.2.2.1))])
theorem R4:af Tryz.prog 129=true∧ao Tryz.prog 129 Fx∧∀g,Fx.mut_=some g→aK Tryz.prog 129 g:=aq (by kernel_rfl) fun x h=>WH x.1 x.2.1 x.2.2.1 (of_decide_eq_true h)
noncomputable def xR:aL:=spN false true [tV,tV,tV] (fun x=>decide (ok (Rat×Rat) 100 x.1∧ok (Rat×Rat) 100 x.2.1∧ok (Rat×Rat) 100 x.2.2.1)) (fun x=>[RV.d tO (hid (Tf (dec x.1) (dec x.2.1) (dec x.2.2.1))),RV.d (.int .i64) (Qh (dec x.1) (dec x.2.1) (dec x.2.2.1))])
theorem Np:af Tryz.prog 130=true∧ao Tryz.prog 130 xR∧∀g,xR.mut_=some g→aK Tryz.prog 130 g:=aq (by kernel_rfl) fun x h=>by simp only[aj];exact Tx x.1 x.2.1 x.2.2.1 (of_decide_eq_true h)
noncomputable def CP:Env:=(128,zo)::(129,Fx)::(130,xR)::qG
theorem B0:EnvAll Tryz.prog CP:=⟨Nx,R4,Np,ow⟩
noncomputable def Fb:Ctx:=⟨Tryz.prog,ft,tys,CP,[]⟩
noncomputable def yZ(_k:KT)(a:BV)(b:BV):Option (List RV):=match decide (ok (Rat×Rat) 100 a∧ok (Rat×Rat) 100 b)with|true=>(match(Tn (dec a) (dec b)) !=0 with|true=>some [RV.d tCU (false,((((false,[]),(false,[])),(((false,[]),(false,[])),((false,[]),(false,[])))),((((false,[]),(false,[])),(((false,[]),(false,[])),((false,[]),(false,[])))),(false,((((false,[]),(false,[])),(((false,[]),(false,[])),(((false,[]),(false,[])),(((false,[]),(false,[])),((false,[]),(false,[])))))),(((false,[]),(false,[])),(((false,[]),(false,[])),(((false,[]),(false,[])),(((false,[]),(false,[])),((false,[]),(false,[]))))))))))),RV.d (.int .i64) 6]|false=>(match decide (ok (Rat×Rat) 100000 a)with|true=>(match decide (ok (Rat×Rat) 100000 b)with|true=>some [RV.d tCU (false,(hid (NZ (dec a) (dec b)),((((false,[]),(false,[])),(((false,[]),(false,[])),((false,[]),(false,[])))),(false,(hid (enc (atP (dec a))),hid (enc (atP (dec b)))))))),RV.d (.int .i64) 0]|false=>none)|false=>none))|false=>none
theorem aaV(a:BV)(b:BV){rX:List RV}(hX:∃nX,yZ (Fb.k nX) a b=some rX):Fb.Res 46 [.d tV a,.d tV b] rX:=aO (t:=fun k=>yZ k a b) (fun k=>show go2 Tryz.prog ft tys CP [] k 4000 (az 46 [.d tV a,.d tV b]) (.node 0)=yZ k a b by kernel_rfl) hX
theorem To(a:BV)(b:BV)(h:ok (Rat×Rat) 100 a∧ok (Rat×Rat) 100 b):Con Tryz.prog 46 [.d tV a,.d tV b] [.d tCU (MK (dec a) (dec b)),.d (.int .i64) (NU (dec a) (dec b))]:=by
 refine Ctx.Res.con (C:=Fb) (au B0) (aaV _ _ ⟨0,?_⟩) (fn:=Tryz.f46) (by kernel_rfl) (by kernel_rfl)
 obtain⟨ha,hb⟩:=h
 obtain⟨a,rfl,ba⟩:=aS ha
 obtain⟨b,rfl,bb⟩:=aS hb
 unfold yZ MK NU Tn NZ
 simp only[aj,ak,okd,Bool.decide_and,Bool.and_self,Nat.reduceLeDiff]
 cases F4 a b<;>rfl
noncomputable def E5:Ctx:=⟨Tryz.prog,ft,tys,CP,[]⟩
noncomputable def yB(_k:KT)(a:BV)(b:BV)(c:BV):Option (List RV):=match decide (ok (Rat×Rat) 100 a∧ok (Rat×Rat) 100 b∧ok (Rat×Rat) 100 c)with|true=>(match decide (ok (Rat×Rat) 100 a∧ok (Rat×Rat) 100 b∧ok (Rat×Rat) 100 c)with|true=>(match(qv (dec a) (dec b) (dec c))==0 with|true=>some [RV.d tCU (false,((((false,[]),(false,[])),(((false,[]),(false,[])),((false,[]),(false,[])))),((((false,[]),(false,[])),(((false,[]),(false,[])),((false,[]),(false,[])))),(false,((((false,[]),(false,[])),(((false,[]),(false,[])),(((false,[]),(false,[])),(((false,[]),(false,[])),((false,[]),(false,[])))))),(((false,[]),(false,[])),(((false,[]),(false,[])),(((false,[]),(false,[])),(((false,[]),(false,[])),((false,[]),(false,[]))))))))))),RV.d (.int .i64) 6]|false=>(match(Qh (dec a) (dec b) (dec c)) !=0 with|true=>some [RV.d tCU (false,((((false,[]),(false,[])),(((false,[]),(false,[])),((false,[]),(false,[])))),((((false,[]),(false,[])),(((false,[]),(false,[])),((false,[]),(false,[])))),(false,((((false,[]),(false,[])),(((false,[]),(false,[])),(((false,[]),(false,[])),(((false,[]),(false,[])),((false,[]),(false,[])))))),(((false,[]),(false,[])),(((false,[]),(false,[])),(((false,[]),(false,[])),(((false,[]),(false,[])),((false,[]),(false,[]))))))))))),RV.d (.int .i64) 6]|false=>(match decide (ok (Rat×Rat) 100000 a)with|true=>(match decide (ok (Rat×Rat) 100000 c)with|true=>some [RV.d tCU (true,((((false,[]),(false,[])),(((false,[]),(false,[])),((false,[]),(false,[])))),(hid (Tf (dec a) (dec b) (dec c)),(decide ((qv (dec a) (dec b) (dec c))<0),(hid (enc (atP (dec a))),hid (enc (atP (dec c)))))))),RV.d (.int .i64) 0]|false=>none)|false=>none)))|false=>none)|false=>none
theorem abF(a:BV)(b:BV)(c:BV){rX:List RV}(hX:∃nX,yB (E5.k nX) a b c=some rX):E5.Res 48 [.d tV a,.d tV b,.d tV c] rX:=aO (t:=fun k=>yB k a b c) (fun k=>show go2 Tryz.prog ft tys CP [] k 4000 (az 48 [.d tV a,.d tV b,.d tV c]) (.node 0)=yB k a b c by kernel_rfl) hX
theorem U5(a:BV)(b:BV)(c:BV)(h:ok (Rat×Rat) 100 a∧ok (Rat×Rat) 100 b∧ok (Rat×Rat) 100 c):Con Tryz.prog 48 [.d tV a,.d tV b,.d tV c] [.d tCU (NE (dec a) (dec b) (dec c)),.d (.int .i64) (UF (dec a) (dec b) (dec c))]:=by
 refine Ctx.Res.con (C:=E5) (au B0) (abF _ _ _ ⟨0,?_⟩) (fn:=Tryz.f48) (by kernel_rfl) (by kernel_rfl)
 obtain⟨ha,hb,hc⟩:=h
 obtain⟨a,rfl,ba⟩:=aS ha
 obtain⟨b,rfl,bb⟩:=aS hb
 obtain⟨c,rfl,bc⟩:=aS hc
 unfold yB NE UF
 simp only[aj,ak,okd,Bool.decide_and,Bool.and_self,Nat.reduceLeDiff]
 rw[ZK]
 unfold Qh Tf
 cases decide (gN a b c=0)<;>rfl
noncomputable def zr:aL:=spN false true [tV,tV] (fun x=>decide (ok (Rat×Rat) 100 x.1∧ok (Rat×Rat) 100 x.2.1)) (fun x=>[RV.d tCU (hid (MK (dec x.1) (dec x.2.1))),RV.d (.int .i64) (NU (dec x.1) (dec x.2.1))])
theorem Nc:af Tryz.prog 46=true∧ao Tryz.prog 46 zr∧∀g,zr.mut_=some g→aK Tryz.prog 46 g:=aq (by kernel_rfl) fun x h=>by simp only[aj];exact To x.1 x.2.1 (of_decide_eq_true h)
noncomputable def Af:aL:=spN false true [tV,tV,tV] (fun x=>decide (ok (Rat×Rat) 100 x.1∧ok (Rat×Rat) 100 x.2.1∧ok (Rat×Rat) 100 x.2.2.1)) (fun x=>[RV.d tCU (hid (NE (dec x.1) (dec x.2.1) (dec x.2.2.1))),RV.d (.int .i64) (UF (dec x.1) (dec x.2.1) (dec x.2.2.1))])
theorem M4:af Tryz.prog 48=true∧ao Tryz.prog 48 Af∧∀g,Af.mut_=some g→aK Tryz.prog 48 g:=aq (by kernel_rfl) fun x h=>by simp only[aj];exact U5 x.1 x.2.1 x.2.2.1 (of_decide_eq_true h)
end Go.Proofs.YtlahabkjhgkkjaaGreat
namespace Go.Proofs.YtlahabkjhgkkjaaGreat
open Go.RowKit
def kE(c:Cv):List BP→BP→List BP
 |[],x=>[x]
 |y::r,x=>bif decide (kZ c (dec y) (dec x)<0)then y::kE c r x else bif dS (dec y) (dec x)==0 then y::r else x::y::r
def uH(c:Cv)(l:List BP):List BP:=l.foldl (kE c) []
def Nb(c:BCU)(l:List BP):Prop:=okC 4000 c∧l.length≤1000000∧∀x∈l,okP 4000 x
instance (c:BCU) (l:List BP):Decidable (Nb c l):=by unfold Nb;infer_instance
theorem Di{c:Cv}{x y:BP}:∀{r:List BP},y∈kE c r x→y∈r∨y=x
 |[],h=>by simp only[kE,List.mem_singleton]at h;exact .inr h
 |z::r,h=>by
  simp only[kE]at h
  cases h1:decide (kZ c (dec z) (dec x)<0)<;>rw[h1]at h
  ·cases h2:dS (dec z) (dec x)==0<;>rw[h2]at h
   ·rcases List.mem_cons.1 h with h|h
    ·exact .inr h
    ·exact .inl h
   ·exact .inl h
  ·rcases List.mem_cons.1 h with h|h
   ·exact .inl (by simp[h])
   ·rcases Di h with h|h
    ·exact .inl (List.mem_cons_of_mem _ h)
    ·exact .inr h
theorem sw(c:Cv)(x:BP):∀r:List BP,(kE c r x).length≤r.length+1
 |[]=>by simp[kE]
 |z::r=>by
  have:=sw c x r
  simp only[kE]
  cases decide (kZ c (dec z) (dec x)<0)
  ·cases dS (dec z) (dec x)==0<;>simp
  ·simp only[cond_true,List.length_cons];omega
theorem JT(c:Cv):∀(l out:List BP),(l.foldl (kE c) out).length≤out.length+l.length
 |[],_=>Nat.le_refl _
 |x::l,out=>by
  have h1:=JT c l (kE c out x)
  have h2:=sw c x out
  simp only[List.foldl_cons,List.length_cons]
  omega
theorem MF{α:Type}{l:List α}{k:Nat}(h:k<l.length):l.take (k+1)=l.take k++[l[k]]:=by rw[List.take_succ_eq_append_getElem h]
def BA:Env:=[(81,ui),(19,yM),(122,rB)]
theorem Pg:EnvAll Tryz.prog BA:=⟨tj,CW,wJ,trivial⟩
def zB:NT:=[((95,8),{keep:=[1,2,5,6],pure_:=[(5,tP)],hl:=1}),((95,21),{keep:=[1,2,5,6,7],pure_:=[(5,tP)],hl:=1})]
noncomputable def lH:Ctx:=⟨Tryz.prog,ft,tys,BA,zB⟩
def ga(c:BCU)(l:List BP)(s6:Int)(s5:List BP):Cfg:=⟨95,[.blk 0,.seq 38],[(1,.d (.sl tP) l),(2,.box 0 0),(5,.d (.sl tP) s5),(6,SI s6)],[.box 43 [SB c.1,SB c.2.1.1.1.1,.d (.sl (.int .u32)) c.2.1.1.1.2,SB c.2.1.1.2.1,.d (.sl (.int .u32)) c.2.1.1.2.2,SB c.2.1.2.1.1.1,.d (.sl (.int .u32)) c.2.1.2.1.1.2,SB c.2.1.2.1.2.1,.d (.sl (.int .u32)) c.2.1.2.1.2.2,SB c.2.1.2.2.1.1,.d (.sl (.int .u32)) c.2.1.2.2.1.2,SB c.2.1.2.2.2.1,.d (.sl (.int .u32)) c.2.1.2.2.2.2,SB c.2.2.1.1.1.1,.d (.sl (.int .u32)) c.2.2.1.1.1.2,SB c.2.2.1.1.2.1,.d (.sl (.int .u32)) c.2.2.1.1.2.2,SB c.2.2.1.2.1.1.1,.d (.sl (.int .u32)) c.2.2.1.2.1.1.2,SB c.2.2.1.2.1.2.1,.d (.sl (.int .u32)) c.2.2.1.2.1.2.2,SB c.2.2.1.2.2.1.1,.d (.sl (.int .u32)) c.2.2.1.2.2.1.2,SB c.2.2.1.2.2.2.1,.d (.sl (.int .u32)) c.2.2.1.2.2.2.2,SB c.2.2.2.1,SB c.2.2.2.2.1.1.1.1,.d (.sl (.int .u32)) c.2.2.2.2.1.1.1.2,SB c.2.2.2.2.1.1.2.1,.d (.sl (.int .u32)) c.2.2.2.2.1.1.2.2,SB c.2.2.2.2.1.2.1.1.1,.d (.sl (.int .u32)) c.2.2.2.2.1.2.1.1.2,SB c.2.2.2.2.1.2.1.2.1,.d (.sl (.int .u32)) c.2.2.2.2.1.2.1.2.2,SB c.2.2.2.2.1.2.2.1.1.1,.d (.sl (.int .u32)) c.2.2.2.2.1.2.2.1.1.2,SB c.2.2.2.2.1.2.2.1.2.1,.d (.sl (.int .u32)) c.2.2.2.2.1.2.2.1.2.2,SB c.2.2.2.2.1.2.2.2.1.1.1,.d (.sl (.int .u32)) c.2.2.2.2.1.2.2.2.1.1.2,SB c.2.2.2.2.1.2.2.2.1.2.1,.d (.sl (.int .u32)) c.2.2.2.2.1.2.2.2.1.2.2,SB c.2.2.2.2.1.2.2.2.2.1.1,.d (.sl (.int .u32)) c.2.2.2.2.1.2.2.2.2.1.2,SB c.2.2.2.2.1.2.2.2.2.2.1,.d (.sl (.int .u32)) c.2.2.2.2.1.2.2.2.2.2.2,SB c.2.2.2.2.2.1.1.1,.d (.sl (.int .u32)) c.2.2.2.2.2.1.1.2,SB c.2.2.2.2.2.1.2.1,.d (.sl (.int .u32)) c.2.2.2.2.2.1.2.2,SB c.2.2.2.2.2.2.1.1.1,.d (.sl (.int .u32)) c.2.2.2.2.2.2.1.1.2,SB c.2.2.2.2.2.2.1.2.1,.d (.sl (.int .u32)) c.2.2.2.2.2.2.1.2.2,SB c.2.2.2.2.2.2.2.1.1.1,.d (.sl (.int .u32)) c.2.2.2.2.2.2.2.1.1.2,SB c.2.2.2.2.2.2.2.1.2.1,.d (.sl (.int .u32)) c.2.2.2.2.2.2.2.1.2.2,SB c.2.2.2.2.2.2.2.2.1.1.1,.d (.sl (.int .u32)) c.2.2.2.2.2.2.2.2.1.1.2,SB c.2.2.2.2.2.2.2.2.1.2.1,.d (.sl (.int .u32)) c.2.2.2.2.2.2.2.2.1.2.2,SB c.2.2.2.2.2.2.2.2.2.1.1,.d (.sl (.int .u32)) c.2.2.2.2.2.2.2.2.2.1.2,SB c.2.2.2.2.2.2.2.2.2.2.1,.d (.sl (.int .u32)) c.2.2.2.2.2.2.2.2.2.2.2]],0,[]⟩
def mK(c:BCU)(l:List BP)(s5:List BP)(s6:Int)(s7:Int):Cfg:=⟨95,[.blk 2,.seq 30,.blk 1,.seq 37,.lp 8,.blk 0,.seq 38],[(1,.d (.sl tP) l),(2,.box 0 0),(5,.d (.sl tP) s5),(6,SI s6),(7,SI s7)],[.box 43 [SB c.1,SB c.2.1.1.1.1,.d (.sl (.int .u32)) c.2.1.1.1.2,SB c.2.1.1.2.1,.d (.sl (.int .u32)) c.2.1.1.2.2,SB c.2.1.2.1.1.1,.d (.sl (.int .u32)) c.2.1.2.1.1.2,SB c.2.1.2.1.2.1,.d (.sl (.int .u32)) c.2.1.2.1.2.2,SB c.2.1.2.2.1.1,.d (.sl (.int .u32)) c.2.1.2.2.1.2,SB c.2.1.2.2.2.1,.d (.sl (.int .u32)) c.2.1.2.2.2.2,SB c.2.2.1.1.1.1,.d (.sl (.int .u32)) c.2.2.1.1.1.2,SB c.2.2.1.1.2.1,.d (.sl (.int .u32)) c.2.2.1.1.2.2,SB c.2.2.1.2.1.1.1,.d (.sl (.int .u32)) c.2.2.1.2.1.1.2,SB c.2.2.1.2.1.2.1,.d (.sl (.int .u32)) c.2.2.1.2.1.2.2,SB c.2.2.1.2.2.1.1,.d (.sl (.int .u32)) c.2.2.1.2.2.1.2,SB c.2.2.1.2.2.2.1,.d (.sl (.int .u32)) c.2.2.1.2.2.2.2,SB c.2.2.2.1,SB c.2.2.2.2.1.1.1.1,.d (.sl (.int .u32)) c.2.2.2.2.1.1.1.2,SB c.2.2.2.2.1.1.2.1,.d (.sl (.int .u32)) c.2.2.2.2.1.1.2.2,SB c.2.2.2.2.1.2.1.1.1,.d (.sl (.int .u32)) c.2.2.2.2.1.2.1.1.2,SB c.2.2.2.2.1.2.1.2.1,.d (.sl (.int .u32)) c.2.2.2.2.1.2.1.2.2,SB c.2.2.2.2.1.2.2.1.1.1,.d (.sl (.int .u32)) c.2.2.2.2.1.2.2.1.1.2,SB c.2.2.2.2.1.2.2.1.2.1,.d (.sl (.int .u32)) c.2.2.2.2.1.2.2.1.2.2,SB c.2.2.2.2.1.2.2.2.1.1.1,.d (.sl (.int .u32)) c.2.2.2.2.1.2.2.2.1.1.2,SB c.2.2.2.2.1.2.2.2.1.2.1,.d (.sl (.int .u32)) c.2.2.2.2.1.2.2.2.1.2.2,SB c.2.2.2.2.1.2.2.2.2.1.1,.d (.sl (.int .u32)) c.2.2.2.2.1.2.2.2.2.1.2,SB c.2.2.2.2.1.2.2.2.2.2.1,.d (.sl (.int .u32)) c.2.2.2.2.1.2.2.2.2.2.2,SB c.2.2.2.2.2.1.1.1,.d (.sl (.int .u32)) c.2.2.2.2.2.1.1.2,SB c.2.2.2.2.2.1.2.1,.d (.sl (.int .u32)) c.2.2.2.2.2.1.2.2,SB c.2.2.2.2.2.2.1.1.1,.d (.sl (.int .u32)) c.2.2.2.2.2.2.1.1.2,SB c.2.2.2.2.2.2.1.2.1,.d (.sl (.int .u32)) c.2.2.2.2.2.2.1.2.2,SB c.2.2.2.2.2.2.2.1.1.1,.d (.sl (.int .u32)) c.2.2.2.2.2.2.2.1.1.2,SB c.2.2.2.2.2.2.2.1.2.1,.d (.sl (.int .u32)) c.2.2.2.2.2.2.2.1.2.2,SB c.2.2.2.2.2.2.2.2.1.1.1,.d (.sl (.int .u32)) c.2.2.2.2.2.2.2.2.1.1.2,SB c.2.2.2.2.2.2.2.2.1.2.1,.d (.sl (.int .u32)) c.2.2.2.2.2.2.2.2.1.2.2,SB c.2.2.2.2.2.2.2.2.2.1.1,.d (.sl (.int .u32)) c.2.2.2.2.2.2.2.2.2.1.2,SB c.2.2.2.2.2.2.2.2.2.2.1,.d (.sl (.int .u32)) c.2.2.2.2.2.2.2.2.2.2.2]],0,[]⟩
noncomputable def Ro(k:KT)(c:BCU)(l:List BP):Option (List RV):=k 8 (ga c l 0 ([]))
theorem adE(c:BCU)(l:List BP){rX:List RV}(hX:∃nX,Ro (lH.k nX) c l=some rX):lH.Res 95 [.d tCU c,.d (.sl tP) l] rX:=aO (t:=fun k=>Ro k c l) (fun k=>show go2 Tryz.prog ft tys BA zB k 4000 (az 95 [.d tCU c,.d (.sl tP) l]) (.node 0)=Ro k c l by kernel_rfl) hX
noncomputable def lS(k:KT)(c:BCU)(l:List BP)(s6:Int)(s5:List BP):Option (List RV):=match decide (s6<(l.length:Int))with|true=>k 21 (mK c l s5 s6 0)|false=>some [RV.d (.sl tP) s5]
theorem Bt(c:BCU)(l:List BP)(s6:Int)(s5:List BP){rX:List RV}(hX:∃nX,lS (lH.k nX) c l s6 s5=some rX):lH.Runs 8 (ga c l s6 s5) rX:=em (t:=fun k=>lS k c l s6 s5) (fun k=>show go2 Tryz.prog ft tys BA zB k 4000 {ga c l s6 s5 with K:=.lp 8::(ga c l s6 s5).K} (.node 9)=lS k c l s6 s5 by kernel_rfl) hX
noncomputable def kb(k:KT)(c:BCU)(l:List BP)(s5:List BP)(s6:Int)(s7:Int):Option (List RV):=match decide (s7<(s5.length:Int))with|true=>(match bw s5 s7 with|some x1=>(match bw l s6 with|some x2=>(match decide (okC 4000 c∧okP 4000 x1∧okP 4000 x2)with|true=>(match decide ((kZ (dC c) (dec x1) (dec x2))<0)with|true=>k 21 (mK c l s5 s6 (IntKind.i64.wrap (s7+1)))|false=>(match decide (s7<(s5.length:Int))with|true=>(match bw s5 s7 with|some x3=>(match bw l s6 with|some x4=>(match decide (okP 4000 x3∧okP 4000 x4)with|true=>(match dS (dec x3) (dec x4)==0 with|true=>k 8 (ga c l (IntKind.i64.wrap (s6+1)) s5)|false=>(match decide ((0:Int)≤0∧0≤s7∧s7≤(s5.length:Int))with|true=>(match bw l s6 with|some x5=>(match decide ((0:Int)≤s7∧s7≤(s5.length:Int)∧(s5.length:Int)≤(s5.length:Int))with|true=>dup (.b (.b .l .l) .l) (match decide ((([]:List BP).length+((s5.take (s7).toNat).drop (0:Int).toNat).length)*320≤140737488355328∧([]:List BP).length+((s5.take (s7).toNat).drop (0:Int).toNat).length≤140737488355328)with|true=>(match decide (((([]:List BP)++((s5.take (s7).toNat).drop (0:Int).toNat)).length+([x5]).length)*320≤140737488355328∧(([]:List BP)++((s5.take (s7).toNat).drop (0:Int).toNat)).length+([x5]).length≤140737488355328)with|true=>(match decide ((((([]:List BP)++((s5.take (s7).toNat).drop (0:Int).toNat))++([x5])).length+((s5.take ((s5.length:Int)).toNat).drop (s7:Int).toNat).length)*320≤140737488355328∧((([]:List BP)++((s5.take (s7).toNat).drop (0:Int).toNat))++([x5])).length+((s5.take ((s5.length:Int)).toNat).drop (s7:Int).toNat).length≤140737488355328)with|true=>k 8 (ga c l (IntKind.i64.wrap (s6+1)) (((([]:List BP)++((s5.take (s7).toNat).drop (0:Int).toNat))++([x5]))++((s5.take ((s5.length:Int)).toNat).drop (s7:Int).toNat)))|false=>none)|false=>none)|false=>none)|false=>none)|none=>none)|false=>none))|false=>none)|none=>none)|none=>none)|false=>(match decide ((0:Int)≤0∧0≤s7∧s7≤(s5.length:Int))with|true=>(match bw l s6 with|some x3=>(match decide ((0:Int)≤s7∧s7≤(s5.length:Int)∧(s5.length:Int)≤(s5.length:Int))with|true=>dup (.b (.b .l .l) .l) (match decide ((([]:List BP).length+((s5.take (s7).toNat).drop (0:Int).toNat).length)*320≤140737488355328∧([]:List BP).length+((s5.take (s7).toNat).drop (0:Int).toNat).length≤140737488355328)with|true=>(match decide (((([]:List BP)++((s5.take (s7).toNat).drop (0:Int).toNat)).length+([x3]).length)*320≤140737488355328∧(([]:List BP)++((s5.take (s7).toNat).drop (0:Int).toNat)).length+([x3]).length≤140737488355328)with|true=>(match decide ((((([]:List BP)++((s5.take (s7).toNat).drop (0:Int).toNat))++([x3])).length+((s5.take ((s5.length:Int)).toNat).drop (s7:Int).toNat).length)*320≤140737488355328∧((([]:List BP)++((s5.take (s7).toNat).drop (0:Int).toNat))++([x3])).length+((s5.take ((s5.length:Int)).toNat).drop (s7:Int).toNat).length≤140737488355328)with|true=>k 8 (ga c l (IntKind.i64.wrap (s6+1)) (((([]:List BP)++((s5.take (s7).toNat).drop (0:Int).toNat))++([x3]))++((s5.take ((s5.length:Int)).toNat).drop (s7:Int).toNat)))|false=>none)|false=>none)|false=>none)|false=>none)|none=>none)|false=>none)))|false=>none)|none=>none)|none=>none)|false=>(match decide (s7<(s5.length:Int))with|true=>(match bw s5 s7 with|some x1=>(match bw l s6 with|some x2=>(match decide (okP 4000 x1∧okP 4000 x2)with|true=>(match dS (dec x1) (dec x2)==0 with|true=>k 8 (ga c l (IntKind.i64.wrap (s6+1)) s5)|false=>(match decide ((0:Int)≤0∧0≤s7∧s7≤(s5.length:Int))with|true=>(match bw l s6 with|some x3=>(match decide ((0:Int)≤s7∧s7≤(s5.length:Int)∧(s5.length:Int)≤(s5.length:Int))with|true=>dup (.b (.b .l .l) .l) (match decide ((([]:List BP).length+((s5.take (s7).toNat).drop (0:Int).toNat).length)*320≤140737488355328∧([]:List BP).length+((s5.take (s7).toNat).drop (0:Int).toNat).length≤140737488355328)with|true=>(match decide (((([]:List BP)++((s5.take (s7).toNat).drop (0:Int).toNat)).length+([x3]).length)*320≤140737488355328∧(([]:List BP)++((s5.take (s7).toNat).drop (0:Int).toNat)).length+([x3]).length≤140737488355328)with|true=>(match decide ((((([]:List BP)++((s5.take (s7).toNat).drop (0:Int).toNat))++([x3])).length+((s5.take ((s5.length:Int)).toNat).drop (s7:Int).toNat).length)*320≤140737488355328∧((([]:List BP)++((s5.take (s7).toNat).drop (0:Int).toNat))++([x3])).length+((s5.take ((s5.length:Int)).toNat).drop (s7:Int).toNat).length≤140737488355328)with|true=>k 8 (ga c l (IntKind.i64.wrap (s6+1)) (((([]:List BP)++((s5.take (s7).toNat).drop (0:Int).toNat))++([x3]))++((s5.take ((s5.length:Int)).toNat).drop (s7:Int).toNat)))|false=>none)|false=>none)|false=>none)|false=>none)|none=>none)|false=>none))|false=>none)|none=>none)|none=>none)|false=>(match decide ((0:Int)≤0∧0≤s7∧s7≤(s5.length:Int))with|true=>(match bw l s6 with|some x1=>(match decide ((0:Int)≤s7∧s7≤(s5.length:Int)∧(s5.length:Int)≤(s5.length:Int))with|true=>dup (.b (.b .l .l) .l) (match decide ((([]:List BP).length+((s5.take (s7).toNat).drop (0:Int).toNat).length)*320≤140737488355328∧([]:List BP).length+((s5.take (s7).toNat).drop (0:Int).toNat).length≤140737488355328)with|true=>(match decide (((([]:List BP)++((s5.take (s7).toNat).drop (0:Int).toNat)).length+([x1]).length)*320≤140737488355328∧(([]:List BP)++((s5.take (s7).toNat).drop (0:Int).toNat)).length+([x1]).length≤140737488355328)with|true=>(match decide ((((([]:List BP)++((s5.take (s7).toNat).drop (0:Int).toNat))++([x1])).length+((s5.take ((s5.length:Int)).toNat).drop (s7:Int).toNat).length)*320≤140737488355328∧((([]:List BP)++((s5.take (s7).toNat).drop (0:Int).toNat))++([x1])).length+((s5.take ((s5.length:Int)).toNat).drop (s7:Int).toNat).length≤140737488355328)with|true=>k 8 (ga c l (IntKind.i64.wrap (s6+1)) (((([]:List BP)++((s5.take (s7).toNat).drop (0:Int).toNat))++([x1]))++((s5.take ((s5.length:Int)).toNat).drop (s7:Int).toNat)))|false=>none)|false=>none)|false=>none)|false=>none)|none=>none)|false=>none))
theorem vV(c:BCU)(l:List BP)(s5:List BP)(s6:Int)(s7:Int){rX:List RV}(hX:∃nX,kb (lH.k nX) c l s5 s6 s7=some rX):lH.Runs 21 (mK c l s5 s6 s7) rX:=em (t:=fun k=>kb k c l s5 s6 s7) (fun k=>show go2 Tryz.prog ft tys BA zB k 4000 {mK c l s5 s6 s7 with K:=.lp 21::(mK c l s5 s6 s7).K} (.node 22)=kb k c l s5 s6 s7 by kernel_rfl) hX
theorem aa0(c:BCU)(l:List BP)(hc:okC 4000 c)(hl:∀x∈l,okP 4000 x)(out:List BP)(ho:∀x∈out,okP 4000 x)(hlen:out.length≤1000000)(i:Nat)(hi:i<l.length)(hi2:i≤1000000)(r:List RV)(h:lH.Runs 8 (ga c l ((i+1:Nat):Int) (kE (dC c) out l[i])) r):
  ∀(j k:Nat),k+j=out.length→kE (dC c) out l[i]=out.take k++kE (dC c) (out.drop k) l[i]→lH.Runs 21 (mK c l out (i:Int) (k:Int)) r:=by
 have e0:IntKind.i64.wrap ((i:Int)+1)=((i+1:Nat):Int):=cI (by omega)
 have gl:bw l (i:Int)=some l[i]:=by rw[aB,List.getElem?_eq_getElem hi]
 have hx:=hl _ (List.getElem_mem hi)
 have tl:out.take ((out.length:Int)).toNat=out:=by simp
 have put:∀k:Nat,k≤out.length→kE (dC c) out l[i]=out.take k++[l[i]]++out.drop k→∃n,(match decide ((0:Int)≤0∧0≤(k:Int)∧(k:Int)≤(out.length:Int))with
   |true=>(match bw l (i:Int)with
    |some x5=>(match decide ((0:Int)≤(k:Int)∧(k:Int)≤(out.length:Int)∧(out.length:Int)≤(out.length:Int))with
     |true=>(match decide ((([]:List BP).length+((out.take ((k:Int)).toNat).drop (0:Int).toNat).length)*320≤140737488355328∧([]:List BP).length+((out.take ((k:Int)).toNat).drop (0:Int).toNat).length≤140737488355328)with
      |true=>(match decide (((([]:List BP)++((out.take ((k:Int)).toNat).drop (0:Int).toNat)).length+([x5]).length)*320≤140737488355328∧(([]:List BP)++((out.take ((k:Int)).toNat).drop (0:Int).toNat)).length+([x5]).length≤140737488355328)with
       |true=>(match decide ((((([]:List BP)++((out.take ((k:Int)).toNat).drop (0:Int).toNat))++([x5])).length+((out.take ((out.length:Int)).toNat).drop ((k:Int)).toNat).length)*320≤140737488355328∧((([]:List BP)++((out.take ((k:Int)).toNat).drop (0:Int).toNat))++([x5])).length+((out.take ((out.length:Int)).toNat).drop ((k:Int)).toNat).length≤140737488355328)with
        |true=>lH.k n 8 (ga c l (IntKind.i64.wrap ((i:Int)+1)) (((([]:List BP)++((out.take ((k:Int)).toNat).drop (0:Int).toNat))++([x5]))++((out.take ((out.length:Int)).toNat).drop ((k:Int)).toNat)))
        |false=>none)
       |false=>none)
      |false=>none)
     |false=>none)
    |none=>none)
   |false=>none)=some r:=by
  intro k hk he
  have e1:((out.take ((k:Int)).toNat).drop (0:Int).toNat)=out.take k:=by simp
  have e2:((out.take ((out.length:Int)).toNat).drop ((k:Int)).toNat)=out.drop k:=by simp
  have l1:(out.take k).length=k:=by simp;omega
  have l2:(out.drop k).length=out.length-k:=by simp
  obtain⟨n,hn⟩:=h
  refine⟨n,?_⟩
  rw[gl,dT (show(0:Int)≤0∧0≤(k:Int)∧(k:Int)≤(out.length:Int) by omega)]
  dsimp only
  rw[dT (show(0:Int)≤(k:Int)∧(k:Int)≤(out.length:Int)∧(out.length:Int)≤(out.length:Int) by omega)]
  simp only[e1,e2,List.nil_append,List.length_nil,List.length_append,List.length_cons,l1,l2,Nat.zero_add]
  rw[dT (by omega),dT (by omega),dT (by omega),e0,←he]
  exact hn
 intro j
 induction j with
 |zero=>
  intro k hk he
  have hk:k=out.length:=by omega
  subst hk
  refine vV _ _ _ _ _ ?_
  unfold kb
  rw[cN (by omega)]
  simp only[aJ]
  refine put _ (Nat.le_refl _) ?_
  rw[he]
  simp[kE]
 |succ j ih=>
  intro k hk he
  have hkl:k<out.length:=by omega
  have go:bw out (k:Int)=some out[k]:=by rw[aB,List.getElem?_eq_getElem hkl]
  have ho1:=ho _ (List.getElem_mem hkl)
  have ek:IntKind.i64.wrap ((k:Int)+1)=((k+1:Nat):Int):=cI (by omega)
  have hd:out.drop k=out[k]::out.drop (k+1):=List.drop_eq_getElem_cons hkl
  refine vV _ _ _ _ _ ?_
  unfold kb
  simp only[aJ,ct hkl,go,gl,dT (show okC 4000 c∧okP 4000 out[k]∧okP 4000 l[i] from⟨hc,ho1,hx⟩),dT (show okP 4000 out[k]∧okP 4000 l[i] from⟨ho1,hx⟩)]
  rw[hd]at he
  simp only[kE]at he
  cases h1:decide (kZ (dC c) (dec out[k]) (dec l[i])<0)<;>rw[h1]at he
  ·simp only[cond_false]at he
   cases h2:dS (dec out[k]) (dec l[i])==0<;>rw[h2]at he
   ·simp only[cond_false]at he
    have:=put k (by omega) (by rw[he,hd];simp)
    simp only[gl]at this
    exact this
   ·simp only[cond_true]at he
    rw[←hd,List.take_append_drop]at he
    obtain⟨n,hn⟩:=h
    refine⟨n,?_⟩
    rw[e0]
    rw[he]at hn
    exact hn
  ·simp only[cond_true]at he
   obtain⟨n,hn⟩:=ih (k+1) (by omega) (by rw[he,MF hkl,List.append_assoc];rfl)
   refine⟨n,?_⟩
   rw[ek]
   exact hn
theorem Y7(c:BCU)(l:List BP)(hc:okC 4000 c)(hl:∀x∈l,okP 4000 x)(hle:l.length≤1000000):∀(j i:Nat),i+j=l.length→∀out:List BP,(∀x∈out,okP 4000 x)→out.length≤i→lH.Runs 8 (ga c l (i:Int) out) [.d (.sl tP) ((l.drop i).foldl (kE (dC c)) out)]:=by
 intro j
 induction j with
 |zero=>
  intro i hi out ho hlen
  refine Bt _ _ _ _ ⟨0,?_⟩
  unfold lS
  rw[cN (by omega),RT (by omega)]
  rfl
 |succ j ih=>
  intro i hi out ho hlen
  have hil:i<l.length:=by omega
  have h2:=ih (i+1) (by omega) (kE (dC c) out l[i]) (fun x hx=>by
   rcases Di hx with h|h
   ·exact ho x h
   ·rw[h];exact hl _ (List.getElem_mem hil)) (Nat.le_trans (sw _ _ _) (by omega))
  obtain⟨n,hn⟩:=aa0 c l hc hl out ho (by omega) i hil (by omega) _ h2 out.length 0 (by omega) (by simp)
  refine Bt _ _ _ _ ⟨n,?_⟩
  unfold lS
  rw[ct hil,ka hil,List.foldl_cons]
  exact hn
theorem VZ(c:BCU)(l:List BP)(h:Nb c l):Con Tryz.prog 95 [.d tCU c,.d (.sl tP) l] [.d (.sl tP) (uH (dC c) l)]:=by
 obtain⟨hc,hle,hl⟩:=h
 refine Ctx.Res.con (C:=lH) (au Pg) ?_ (fn:=Tryz.f95) (by kernel_rfl) (by kernel_rfl)
 obtain⟨n,hn⟩:=Y7 c l hc hl hle l.length 0 (by omega) [] (fun x hx=>by cases hx) (Nat.le_refl _)
 exact adE _ _ ⟨n,hn⟩
def FS:aL:=spN false false [tCU,(.sl tP)] (fun x=>decide (Nb x.1 x.2.1)) (fun x=>[RV.d (.sl tP) (uH (dC x.1) x.2.1)])
theorem Oo:af Tryz.prog 95=true∧ao Tryz.prog 95 FS∧∀g,FS.mut_=some g→aK Tryz.prog 95 g:=aq (by kernel_rfl) fun x h=>VZ x.1 x.2.1 (of_decide_eq_true h)
end Go.Proofs.YtlahabkjhgkkjaaGreat
