/- Intervals: contracts. -/
import Derived.Test.YtlahabkjhgkkjaaGreatZ13
import Derived.Test.YtlahabkjhgkkjaaGreatZ1
import Derived.Lib.LazyBuf
import Derived.Test.YtlahabkjhgkkjaaGreatZ6
import Derived.Test.YtlahabkjhgkkjaaGreatZ12
namespace Go.Proofs.YtlahabkjhgkkjaaGreat
open Go.RowKit
theorem gV{n:Int}(h:bh n):szI n≤3:=by
 have:pw 3=1000000000000000000000000000:=by decide
 exact dW (by have:=h.1;omega) (by have:=h.2;omega)
theorem UQ{q:Rat}{k:Nat}(h:Bd q k)(hk:k≤480000):okI (ag q.floor)∧okI (ag (-q.floor)):=by
 have e:szI q.floor≤k:=by
  refine Nat.le_trans (cS ?_) h.le.1
  rw[Rat.floor_def]
  exact Int.natAbs_ediv_le_natAbs _ _
 exact⟨bj (by omega),bj (by rw[gv];omega)⟩
theorem afl:Bd (65536:Rat) 1:=⟨⟨by decide+kernel,by decide+kernel⟩⟩
theorem aae:((65536:Int):Rat)=65536:=rfl
theorem p48:(2:Int)^(min (48:Int).toNat 64)=281474976710656:=by decide
theorem p32:(2:Int)^(min (32:Int).toNat 64)=4294967296:=by decide
theorem p16:(2:Int)^(min (16:Int).toNat 64)=65536:=by decide
theorem fdv{a b:Int}(h:0≤b):Int.fdiv a b=a/b:=Int.fdiv_eq_ediv_of_nonneg a h
theorem ZJ(n k:Nat)(hn:n<18446744073709551616)(hk:2^k-1<18446744073709551616):BitVec.toNat (BitVec.ofInt 64 (n:Int)&&&BitVec.ofInt 64 ((2^k-1:Nat):Int))=n%2^k:=by
 rw[BitVec.toNat_and,BitVec.toNat_ofInt,BitVec.toNat_ofInt]
 have e1:((n:Int)%((2^64:Nat):Int)).toNat=n:=by omega
 have e2:(((2^k-1:Nat):Int)%((2^64:Nat):Int)).toNat=2^k-1:=by omega
 rw[e1,e2,Nat.and_two_pow_sub_one_eq_mod]
theorem acD(n:Nat)(hn:n<18446744073709551616):IntKind.u64.wrap (BitVec.toNat (BitVec.ofInt 64 (n:Int)&&&BitVec.ofInt 64 65535))=((n%65536:Nat):Int):=by
 rw[show(65535:Int)=((2^16-1:Nat):Int) from rfl,ZJ n 16 hn (by decide),IntKind.wrap_u64]
 omega
theorem Ql(n:Nat)(hn:n<18446744073709551616):IntKind.u64.wrap (BitVec.toNat (BitVec.ofInt 64 (n:Int)&&&BitVec.ofInt 64 4294967295))=((n%4294967296:Nat):Int):=by
 rw[show(4294967295:Int)=((2^32-1:Nat):Int) from rfl,ZJ n 32 hn (by decide),IntKind.wrap_u64]
 omega
theorem afH{h l:Nat}(hh:h<65536)(hl:l<281474976710656):IntKind.u64.wrap (BitVec.toNat (BitVec.ofInt 64 (IntKind.u64.wrap ((h:Int)*281474976710656)) ||| BitVec.ofInt 64 (l:Int)))=((h*281474976710656+l:Nat):Int):=by
 rw[BitVec.toNat_or,BitVec.toNat_ofInt,BitVec.toNat_ofInt,IntKind.wrap_u64,IntKind.wrap_u64]
 have e1:((h:Int)*281474976710656%18446744073709551616%((2^64:Nat):Int)).toNat=h <<< 48:=by
  rw[Nat.shiftLeft_eq]
  omega
 have e2:((l:Int)%((2^64:Nat):Int)).toNat=l:=by omega
 rw[e1,e2,←Nat.shiftLeft_add_eq_or_of_lt (by omega),Nat.shiftLeft_eq]
 omega
def scP(x y:Int):Prop:=x.natAbs≤2305843009213693952∧y.natAbs≤2305843009213693952
instance (x y:Int):Decidable (scP x y):=by unfold scP;infer_instance
def A8(n:Int):Prop:=0≤n∧n≤2305843009213693952
instance (n:Int):Decidable (A8 n):=by unfold A8;infer_instance
noncomputable def RB:Ctx:=⟨Tryz.prog,ft,tys,[],[]⟩
noncomputable def IS(_k:KT)(x:Int)(y:Int):Option (List RV):=match decide (x<(-2305843009213693952))with|true=>some [RV.d tG (0,0),RV.d .bool false]|false=>(match decide (y>2305843009213693952)with|true=>some [RV.d tG (0,0),RV.d .bool false]|false=>some [RV.d tG (x,y),RV.d .bool true])
theorem adv(x:Int)(y:Int){rX:List RV}(hX:∃nX,IS (RB.k nX) x y=some rX):RB.Res 294 [SI x,SI y] rX:=aO (t:=fun k=>IS k x y) (fun k=>show go2 Tryz.prog ft tys [] [] k 4000 (az 294 [SI x,SI y]) (.node 0)=IS k x y by kernel_rfl) hX
theorem Wg(x:Int)(y:Int):Con Tryz.prog 294 [.d (.int .i64) x,.d (.int .i64) y] [.d tG ((jr x y).1),.d .bool ((jr x y).2)]:=by
 refine Ctx.Res.con (C:=RB) (au (E:=[]) trivial) (adv _ _ ⟨0,?_⟩) (fn:=Tryz.f294) (by kernel_rfl) (by kernel_rfl)
 unfold IS jr
 cases decide (x< -2305843009213693952)
 ·cases decide (y>2305843009213693952)<;>rfl
 ·rfl
noncomputable def t5:aL:=spN false true [tR] (fun x=>decide (okR x.1)) (fun x=>[RV.d tI (hid (ag (aa x.1).floor))])
theorem ut:af Tryz.prog 296=true∧ao Tryz.prog 296 t5∧∀g,t5.mut_=some g→aK Tryz.prog 296 g:=aq (by kernel_rfl) fun x h=>by simp only[aj];exact WT x.1 (of_decide_eq_true h)
def zk:aL:=spN true true [tI] (fun x=>decide (okI x.1)) (fun x=>[RV.d (.int .i64) (bif decide (bh (ab x.1))then ab x.1 else 0),RV.d .bool (decide (bh (ab x.1)))])
theorem BS:af Tryz.prog 295=true∧ao Tryz.prog 295 zk∧∀g,zk.mut_=some g→aK Tryz.prog 295 g:=aq (by kernel_rfl) fun x h=>XT x.1 (of_decide_eq_true h)
noncomputable def AS:aL:=spN false true [tI] (fun x=>decide (okI x.1)) (fun x=>[RV.d tI (hid (ag (-ab x.1)))])
theorem D3:af Tryz.prog 254=true∧ao Tryz.prog 254 AS∧∀g,AS.mut_=some g→aK Tryz.prog 254 g:=aq (by kernel_rfl) fun x h=>by simp only[aj];exact Ky x.1 (of_decide_eq_true h)
noncomputable def tv:aL:=spN false true [(.int .i64),(.int .i64)] (fun _=>true) (fun x=>[RV.d tG (hid ((jr x.1 x.2.1).1)),RV.d .bool ((jr x.1 x.2.1).2)])
theorem rY:af Tryz.prog 294=true∧ao Tryz.prog 294 tv∧∀g,tv.mut_=some g→aK Tryz.prog 294 g:=aq (by kernel_rfl) fun x _=>by simp only[aj];exact Wg x.1 x.2.1
noncomputable def kW:Env:=[(76,fS),(148,gg),(202,lM),(296,t5),(295,zk),(254,AS),(294,tv)]
theorem jV:EnvAll Tryz.prog kW:=⟨d7,dY,jM,ut,BS,D3,rY,trivial⟩
noncomputable def Tt:Ctx:=⟨Tryz.prog,ft,tys,kW,[]⟩
noncomputable def JL(_k:KT)(a:BR):Option (List RV):=let y1:=hid (ae ((65536:Int):Rat));let y2:=hid (ae (aa a*aa y1));let y3:=hid (ag (aa y2).floor);let y4:=hid (ae (-aa y2));let y5:=hid (ag (aa y4).floor);let y6:=hid (ag (-ab y5));let y7:=jr (bif decide (bh (ab y3))then ab y3 else 0) (bif decide (bh (ab y6))then ab y6 else 0);match decide (bh (65536:Int))with|true=>(match decide (okR a∧okR y1)with|true=>(match decide (okR y2)with|true=>(match decide (okI y3)with|true=>(match decide (okR y2)with|true=>(match decide (okR y4)with|true=>(match decide (okI y5)with|true=>(match decide (okI y6)with|true=>(match !(decide (bh (ab y3)))with|true=>some [RV.d tG (0,0),RV.d .bool false]|false=>(match !(decide (bh (ab y6)))with|true=>some [RV.d tG (0,0),RV.d .bool false]|false=>some [RV.d tG (hid (y7.1)),RV.d .bool (y7.2)]))|false=>none)|false=>none)|false=>none)|false=>none)|false=>none)|false=>none)|false=>none)|false=>none
theorem ac1(a:BR){rX:List RV}(hX:∃nX,JL (Tt.k nX) a=some rX):Tt.Res 281 [.d tR a] rX:=aO (t:=fun k=>JL k a) (fun k=>show go2 Tryz.prog ft tys kW [] k 4000 (az 281 [.d tR a]) (.node 0)=JL k a by kernel_rfl) hX
theorem V3(a:BR)(h:ok Rat 200000 a):Con Tryz.prog 281 [.d tR a] [.d tG ((frF (aa a)).1),.d .bool ((frF (aa a)).2)]:=by
 refine Ctx.Res.con (C:=Tt) (au jV) (ac1 _ ⟨0,?_⟩) (fn:=Tryz.f281) (by kernel_rfl) (by kernel_rfl)
 have ha:=h
 obtain⟨a,rfl,ba⟩:=aS ha
 have hk:=afl
 have h6:bh 65536:=by decide
 have f1:=UQ (inferInstance:Bd (a*65536) _) (by decide)
 have f2:=UQ (inferInstance:Bd (-(a*65536)) _) (by decide)
 unfold JL
 simp only[aae,aj,aD,aw,aX,Bool.decide_and,Bool.and_self,Nat.reduceAdd,Nat.reduceLeDiff,dec_enc,dT h6,dT f1.1,dT f2.1,dT f2.2]
 unfold frF
 cases e1:decide (bh (a*65536).floor)
 ·rfl
 ·cases e2:decide (bh (-(-(a*65536)).floor))
  ·rfl
  ·rfl
noncomputable def Vd:Ctx:=⟨Tryz.prog,ft,tys,kW,[]⟩
noncomputable def ID(_k:KT)(a:(Int×Int))(b:(Int×Int)):Option (List RV):=some [RV.d tG (hid ((jr (IntKind.i64.wrap (a.1+b.1)) (IntKind.i64.wrap (a.2+b.2))).1)),RV.d .bool ((jr (IntKind.i64.wrap (a.1+b.1)) (IntKind.i64.wrap (a.2+b.2))).2)]
theorem adI(a:(Int×Int))(b:(Int×Int)){rX:List RV}(hX:∃nX,ID (Vd.k nX) a b=some rX):Vd.Res 283 [.d tG a,.d tG b] rX:=aO (t:=fun k=>ID k a b) (fun k=>show go2 Tryz.prog ft tys kW [] k 4000 (az 283 [.d tG a,.d tG b]) (.node 0)=ID k a b by kernel_rfl) hX
theorem VH(a:(Int×Int))(b:(Int×Int))(h:prI a∧prI b):Con Tryz.prog 283 [.d tG a,.d tG b] [.d tG ((cQ a b).1),.d .bool ((cQ a b).2)]:=by
 refine Ctx.Res.con (C:=Vd) (au jV) (adI _ _ ⟨0,?_⟩) (fn:=Tryz.f283) (by kernel_rfl) (by kernel_rfl)
 obtain⟨⟨a1,a2,a3⟩,⟨b1,b2,b3⟩⟩:=h
 unfold ID cQ
 rw[bk (by omega) (by omega),bk (by omega) (by omega)]
 simp only[aj]
noncomputable def Qp:Ctx:=⟨Tryz.prog,ft,tys,kW,[]⟩
noncomputable def Jm(_k:KT)(a:(Int×Int)):Option (List RV):=some [RV.d tG (IntKind.i64.wrap (0-a.2),IntKind.i64.wrap (0-a.1))]
theorem adp(a:(Int×Int)){rX:List RV}(hX:∃nX,Jm (Qp.k nX) a=some rX):Qp.Res 290 [.d tG a] rX:=aO (t:=fun k=>Jm k a) (fun k=>show go2 Tryz.prog ft tys kW [] k 4000 (az 290 [.d tG a]) (.node 0)=Jm k a by kernel_rfl) hX
theorem YK(a:(Int×Int))(h:prI a):Con Tryz.prog 290 [.d tG a] [.d tG (jg a)]:=by
 refine Ctx.Res.con (C:=Qp) (au jV) (adp _ ⟨0,?_⟩) (fn:=Tryz.f290) (by kernel_rfl) (by kernel_rfl)
 obtain⟨a1,a2,a3⟩:=h
 unfold Jm jg
 rw[bk (by omega) (by omega),bk (by omega) (by omega),Int.zero_sub,Int.zero_sub]
noncomputable def QF:Ctx:=⟨Tryz.prog,ft,tys,kW,[]⟩
noncomputable def JW(_k:KT)(n:Int):Option (List RV):=match decide (n<0)with|true=>some [RV.d (.int .u64) (IntKind.u64.wrap (0-(IntKind.u64.wrap n)))]|false=>some [RV.d (.int .u64) (IntKind.u64.wrap n)]
theorem aeM(n:Int){rX:List RV}(hX:∃nX,JW (QF.k nX) n=some rX):QF.Res 303 [SI n] rX:=aO (t:=fun k=>JW k n) (fun k=>show go2 Tryz.prog ft tys kW [] k 4000 (az 303 [SI n]) (.node 0)=JW k n by kernel_rfl) hX
theorem Ww(n:Int)(h:bh n):Con Tryz.prog 303 [.d (.int .i64) n] [.d (.int .u64) (n.natAbs:Int)]:=by
 refine Ctx.Res.con (C:=QF) (au jV) (aeM _ ⟨0,?_⟩) (fn:=Tryz.f303) (by kernel_rfl) (by kernel_rfl)
 obtain⟨h1,h2⟩:=h
 unfold JW
 rw[IntKind.wrap_u64,IntKind.wrap_u64]
 by_cases hn:n<0
 ·rw[decide_eq_true hn,show(0-n%18446744073709551616)%18446744073709551616=(n.natAbs:Int) by omega]
 ·rw[decide_eq_false hn,show n%18446744073709551616=(n.natAbs:Int) by omega]
noncomputable def OK:Ctx:=⟨Tryz.prog,ft,tys,kW,[]⟩
noncomputable def H8(_k:KT)(x:Int)(y:Int):Option (List RV):=match decide (32<(0:Int))with|true=>none|false=>(match decide (32<(0:Int))with|true=>none|false=>(match decide (32<(0:Int))with|true=>none|false=>(match decide (32<(0:Int))with|true=>none|false=>(match decide (32<(0:Int))with|true=>none|false=>some [RV.d (.int .u64) (IntKind.u64.wrap ((IntKind.u64.wrap ((IntKind.u64.wrap ((Int.fdiv x (2^(min (32:Int).toNat 64)))*(Int.fdiv y (2^(min (32:Int).toNat 64)))))+(Int.fdiv (IntKind.u64.wrap ((IntKind.u64.wrap ((Int.fdiv x (2^(min (32:Int).toNat 64)))*(IntKind.u64.wrap (BitVec.toNat (BitVec.ofInt 64 y&&&BitVec.ofInt 64 4294967295)))))+(Int.fdiv (IntKind.u64.wrap ((IntKind.u64.wrap (BitVec.toNat (BitVec.ofInt 64 x&&&BitVec.ofInt 64 4294967295)))*(IntKind.u64.wrap (BitVec.toNat (BitVec.ofInt 64 y&&&BitVec.ofInt 64 4294967295))))) (2^(min (32:Int).toNat 64))))) (2^(min (32:Int).toNat 64)))))+(Int.fdiv (IntKind.u64.wrap ((IntKind.u64.wrap (BitVec.toNat (BitVec.ofInt 64 (IntKind.u64.wrap ((IntKind.u64.wrap ((Int.fdiv x (2^(min (32:Int).toNat 64)))*(IntKind.u64.wrap (BitVec.toNat (BitVec.ofInt 64 y&&&BitVec.ofInt 64 4294967295)))))+(Int.fdiv (IntKind.u64.wrap ((IntKind.u64.wrap (BitVec.toNat (BitVec.ofInt 64 x&&&BitVec.ofInt 64 4294967295)))*(IntKind.u64.wrap (BitVec.toNat (BitVec.ofInt 64 y&&&BitVec.ofInt 64 4294967295))))) (2^(min (32:Int).toNat 64)))))&&&BitVec.ofInt 64 4294967295)))+(IntKind.u64.wrap ((IntKind.u64.wrap (BitVec.toNat (BitVec.ofInt 64 x&&&BitVec.ofInt 64 4294967295)))*(Int.fdiv y (2^(min (32:Int).toNat 64))))))) (2^(min (32:Int).toNat 64))))),RV.d (.int .u64) (IntKind.u64.wrap (x*y))]))))
theorem acT(x:Int)(y:Int){rX:List RV}(hX:∃nX,H8 (OK.k nX) x y=some rX):OK.Res 302 [.d (.int .u64) x,.d (.int .u64) y] rX:=aO (t:=fun k=>H8 k x y) (fun k=>show go2 Tryz.prog ft tys kW [] k 4000 (az 302 [.d (.int .u64) x,.d (.int .u64) y]) (.node 0)=H8 k x y by kernel_rfl) hX
theorem Xl(x:Int)(y:Int)(h:fe x∧fe y):Con Tryz.prog 302 [.d (.int .u64) x,.d (.int .u64) y] [.d (.int .u64) (x*y/18446744073709551616),.d (.int .u64) (x*y%18446744073709551616)]:=by
 refine Ctx.Res.con (C:=OK) (au jV) (acT _ _ ⟨0,?_⟩) (fn:=Tryz.f302) (by kernel_rfl) (by kernel_rfl)
 obtain⟨h1,h2⟩:=h
 obtain⟨X,rfl⟩:=Int.eq_ofNat_of_zero_le h1.1
 obtain⟨Y,rfl⟩:=Int.eq_ofNat_of_zero_le h2.1
 have hX:X<18446744073709551616:=by have:=h1.2;omega
 have hY:Y<18446744073709551616:=by have:=h2.2;omega
 have wn:∀n:Nat,n<18446744073709551616→IntKind.u64.wrap (n:Int)=(n:Int):=fun n hn=>by rw[IntKind.wrap_u64];omega
 have eX:(X:Int)/4294967296=((X/4294967296:Nat):Int):=by omega
 have eY:(Y:Int)/4294967296=((Y/4294967296:Nat):Int):=by omega
 unfold H8
 simp only[p32,fdv (show(0:Int)≤4294967296 by decide),Ql X hX,Ql Y hY,eX,eY]
 have hXY:X*Y=X/4294967296*(Y/4294967296)*18446744073709551616+(X/4294967296*(Y%4294967296)+X%4294967296*(Y/4294967296))*4294967296+X%4294967296*(Y%4294967296):=by
  have a:=Nat.div_add_mod X 4294967296
  have b:=Nat.div_add_mod Y 4294967296
  generalize X/4294967296=x1 at*
  generalize X%4294967296=x0 at*
  generalize Y/4294967296=y1 at*
  generalize Y%4294967296=y0 at*
  subst a b
  grind
 have x0:X%4294967296≤4294967295:=by omega
 have y0:Y%4294967296≤4294967295:=by omega
 have x1:X/4294967296≤4294967295:=by omega
 have y1:Y/4294967296≤4294967295:=by omega
 have q00:=Nat.mul_le_mul x0 y0
 have q10:=Nat.mul_le_mul x1 y0
 have q01:=Nat.mul_le_mul x0 y1
 have q11:=Nat.mul_le_mul x1 y1
 simp only[←Int.natCast_mul]
 rw[hXY]
 generalize X%4294967296*(Y%4294967296)=p00 at*
 generalize X/4294967296*(Y%4294967296)=p10 at*
 generalize X%4294967296*(Y/4294967296)=p01 at*
 generalize X/4294967296*(Y/4294967296)=p11 at*
 have t0:IntKind.u64.wrap (IntKind.u64.wrap (p10:Int)+IntKind.u64.wrap (p00:Int)/4294967296)=((p10+p00/4294967296:Nat):Int):=by
  rw[wn p10 (by omega),wn p00 (by omega),show(p10:Int)+(p00:Int)/4294967296=((p10+p00/4294967296:Nat):Int) by omega,wn _ (by omega)]
 rw[t0,Ql _ (by omega)]
 have t1:IntKind.u64.wrap (((p10+p00/4294967296)%4294967296:Nat)+IntKind.u64.wrap (p01:Int))=(((p10+p00/4294967296)%4294967296+p01:Nat):Int):=by
  rw[wn p01 (by omega),←Int.natCast_add,wn _ (by omega)]
 rw[t1,wn p11 (by omega)]
 rw[decide_eq_false (show ¬(32:Int)<0 by decide)]
 dsimp only
 have hi:IntKind.u64.wrap (IntKind.u64.wrap ((p11:Int)+((p10+p00/4294967296:Nat):Int)/4294967296)+(((p10+p00/4294967296)%4294967296+p01:Nat):Int)/4294967296)=((p11*18446744073709551616+(p10+p01)*4294967296+p00:Nat):Int)/18446744073709551616:=by
  rw[IntKind.wrap_u64,IntKind.wrap_u64]
  omega
 rw[hi,IntKind.wrap_u64]
noncomputable def ux:aL:=spN false true [(.int .i64)] (fun x=>decide (bh x.1)) (fun x=>[RV.d (.int .u64) (hid ((x.1.natAbs:Int)))])
theorem rZ:af Tryz.prog 303=true∧ao Tryz.prog 303 ux∧∀g,ux.mut_=some g→aK Tryz.prog 303 g:=aq (by kernel_rfl) fun x h=>by simp only[aj];exact Ww x.1 (of_decide_eq_true h)
noncomputable def um:aL:=spN false true [(.int .u64),(.int .u64)] (fun x=>decide (fe x.1∧fe x.2.1)) (fun x=>[RV.d (.int .u64) (hid (x.1*x.2.1/18446744073709551616)),RV.d (.int .u64) (hid (x.1*x.2.1%18446744073709551616))])
theorem tK:af Tryz.prog 302=true∧ao Tryz.prog 302 um∧∀g,um.mut_=some g→aK Tryz.prog 302 g:=aq (by kernel_rfl) fun x h=>by simp only[aj];exact Xl x.1 x.2.1 (of_decide_eq_true h)
noncomputable def Uf:Env:=(303,ux)::(302,um)::kW
theorem P8:EnvAll Tryz.prog Uf:=⟨rZ,tK,jV⟩
noncomputable def Tu:Ctx:=⟨Tryz.prog,ft,tys,Uf,[]⟩
noncomputable def Lb(_k:KT)(x:Int)(y:Int):Option (List RV):=let y1:=hid ((x.natAbs:Int));let y2:=hid ((y.natAbs:Int));let y3:=hid (y1*y2/18446744073709551616);let y4:=hid (y1*y2%18446744073709551616);let y5:=IntKind.u64.wrap (BitVec.toNat (BitVec.ofInt 64 (IntKind.u64.wrap (y3*2^(min (48:Int).toNat 64))) ||| BitVec.ofInt 64 (Int.fdiv y4 (2^(min (16:Int).toNat 64)))));let y6:=IntKind.i64.wrap y5;let y7:=IntKind.i64.wrap (y6+1);let y8:=IntKind.i64.wrap (0-y7);let y9:=IntKind.i64.wrap (0-y6);let y10:=decide (y9≤2305843009213693952);match decide (bh x)with|true=>(match decide (bh y)with|true=>(match decide (fe y1∧fe y2)with|true=>(match decide (16<(0:Int))with|true=>none|false=>(match(Int.fdiv y3 (2^(min (16:Int).toNat 64))) !=0 with|true=>some [RV.d (.int .i64) 0,RV.d (.int .i64) 0,RV.d .bool false]|false=>(match decide (48<(0:Int))with|true=>none|false=>(match decide (16<(0:Int))with|true=>none|false=>(match decide (y5>2305843009213693952)with|true=>some [RV.d (.int .i64) 0,RV.d (.int .i64) 0,RV.d .bool false]|false=>(match(IntKind.u64.wrap (BitVec.toNat (BitVec.ofInt 64 y4&&&BitVec.ofInt 64 65535))) !=0 with|true=>(match !((decide (x<0))==(decide (y<0)))with|true=>(match decide (y8≥(-2305843009213693952))with|true=>some [RV.d (.int .i64) y8,RV.d (.int .i64) y9,RV.d .bool y10]|false=>some [RV.d (.int .i64) y8,RV.d (.int .i64) y9,RV.d .bool false])|false=>(match decide (y6≥(-2305843009213693952))with|true=>some [RV.d (.int .i64) y6,RV.d (.int .i64) y7,RV.d .bool (decide (y7≤2305843009213693952))]|false=>some [RV.d (.int .i64) y6,RV.d (.int .i64) y7,RV.d .bool false]))|false=>(match !((decide (x<0))==(decide (y<0)))with|true=>(match decide (y9≥(-2305843009213693952))with|true=>some [RV.d (.int .i64) y9,RV.d (.int .i64) y9,RV.d .bool y10]|false=>some [RV.d (.int .i64) y9,RV.d (.int .i64) y9,RV.d .bool false])|false=>(match decide (y6≥(-2305843009213693952))with|true=>some [RV.d (.int .i64) y6,RV.d (.int .i64) y6,RV.d .bool (decide (y6≤2305843009213693952))]|false=>some [RV.d (.int .i64) y6,RV.d (.int .i64) y6,RV.d .bool false]))))))))|false=>none)|false=>none)|false=>none
theorem aec(x:Int)(y:Int){rX:List RV}(hX:∃nX,Lb (Tu.k nX) x y=some rX):Tu.Res 297 [SI x,SI y] rX:=aO (t:=fun k=>Lb k x y) (fun k=>show go2 Tryz.prog ft tys Uf [] k 4000 (az 297 [SI x,SI y]) (.node 0)=Lb k x y by kernel_rfl) hX
theorem Y8(x:Int)(y:Int)(h:scP x y):Con Tryz.prog 297 [.d (.int .i64) x,.d (.int .i64) y] [.d (.int .i64) ((scF x y).1.1),.d (.int .i64) ((scF x y).1.2),.d .bool ((scF x y).2)]:=by
 refine Ctx.Res.con (C:=Tu) (au P8) (aec _ _ ⟨0,?_⟩) (fn:=Tryz.f297) (by kernel_rfl) (by kernel_rfl)
 obtain⟨hx,hy⟩:=h
 have h1:bh x:=⟨by omega,by omega⟩
 have h2:bh y:=⟨by omega,by omega⟩
 have h3:fe (x.natAbs:Int)∧fe (y.natAbs:Int):=⟨⟨by omega,by omega⟩,⟨by omega,by omega⟩⟩
 unfold Lb scF
 simp only[aj]
 rw[dT h1,dT h2,dT h3]
 have hp:=Nat.mul_le_mul hx hy
 simp only[←Int.natCast_mul,p16,p48,fdv (show(0:Int)≤65536 by decide)]
 generalize x.natAbs*y.natAbs=p at*
 rw[decide_eq_false (show ¬(16:Int)<0 by decide),decide_eq_false (show ¬(48:Int)<0 by decide),show(p:Int)/18446744073709551616=((p/18446744073709551616:Nat):Int) by omega,show(p:Int)%18446744073709551616=((p%18446744073709551616:Nat):Int) by omega,show((p%18446744073709551616:Nat):Int)/65536=((p%18446744073709551616/65536:Nat):Int) by omega,acD _ (by omega),show p%18446744073709551616%65536=p%65536 by omega]
 by_cases hc:p≥1208925819614629174706176
 ·rw[decide_eq_true hc,show(((p/18446744073709551616:Nat):Int)/65536 !=0)=true by simp;omega]
  rfl
 ·rw[decide_eq_false hc,show(((p/18446744073709551616:Nat):Int)/65536 !=0)=false by simp;omega,afH (by omega) (by omega),show p/18446744073709551616*281474976710656+p%18446744073709551616/65536=p/65536 by omega]
  have hdm:=Nat.div_add_mod p 65536
  have hml:=Nat.mod_lt p (show 65536>0 by decide)
  have hru:(p+65535)/65536=if p%65536=0 then p/65536 else p/65536+1:=by split<;>omega
  rw[hru]
  clear hru
  generalize p/65536=q at*
  generalize p%65536=m at*
  have e1:decide ((q:Int)>2305843009213693952)=decide (q>2305843009213693952):=decide_eq_decide.2 (by omega)
  rw[e1]
  by_cases hd:q>2305843009213693952
  ·rw[decide_eq_true hd]
   rfl
  rw[decide_eq_false hd,bk (x:=(q:Int)) (by omega) (by omega),bk (x:=(q:Int)+1) (by omega) (by omega),bk (x:=0-(q:Int)) (by omega) (by omega),bk (x:=0-((q:Int)+1)) (by omega) (by omega)]
  have e2:((m:Int) !=0)=!decide (m=0):=by by_cases h:m=0<;>simp[h]
  have e3:decide (0-(q:Int)≥ -2305843009213693952)=true:=decide_eq_true (by omega)
  have e4:decide (0-(q:Int)≤2305843009213693952)=true:=decide_eq_true (by omega)
  have e5:decide ((q:Int)≥ -2305843009213693952)=true:=decide_eq_true (by omega)
  have e6:decide ((q:Int)≤2305843009213693952)=true:=decide_eq_true (by omega)
  have e7:decide (0-((q:Int)+1)≥ -2305843009213693952)=decide (q+1≤2305843009213693952):=decide_eq_decide.2 (by omega)
  have e8:decide ((q:Int)+1≤2305843009213693952)=decide (q+1≤2305843009213693952):=decide_eq_decide.2 (by omega)
  have e9:decide (q≤2305843009213693952)=true:=decide_eq_true (by omega)
  rw[e2,e3,e4,e5,e6,e7,e8]
  have f2:((q+1:Nat):Int)=(q:Int)+1:=by omega
  have f3:decide (m=0)=true→m=0:=of_decide_eq_true
  have f4:decide (m=0)=false→m≠0:=of_decide_eq_false
  generalize decide (m=0)=d2 at*
  generalize (decide (x<0)==decide (y<0))=d3 at*
  cases d2
  ·rw[if_neg (f4 rfl),f2]
   generalize decide (q+1≤2305843009213693952)=d4 at*
   cases d3<;>cases d4<;>simp[Int.zero_sub]
  ·rw[if_pos (f3 rfl),e9]
   cases d3<;>simp[Int.zero_sub]
end Go.Proofs.YtlahabkjhgkkjaaGreat
namespace Go.Proofs.YtlahabkjhgkkjaaGreat
open Go.RowKit
def bF(r:Rt):Iv×Bool:=
 bif !(frF r.1).2||decide (r.2.1=0)then frF r.1
 else bif !(frF r.2.1).2||!(frF r.2.2).2||decide (r.2.2<0)then(iv0,false)
 else bif !(sqF (frF r.2.2).1).2 then(iv0,false)
 else bif !(co (frF r.2.1).1 (sqF (frF r.2.2).1).1).2 then(iv0,false)
 else cQ (frF r.1).1 (co (frF r.2.1).1 (sqF (frF r.2.2).1).1).1
def gb(n:Rat)(a:Iv)(k:Bool):Iv×Bool:=bif !k||!(frF n).2 then(iv0,false)else co (frF n).1 a
def apF(a b:Rt):Int×Bool:=
 bif !(bF a).2||!(bF b).2 then(0,false)else bif decide ((bF a).1.2<(bF b).1.1)then(-1,true)else bif decide ((bF a).1.1>(bF b).1.2)then(1,true)else(0,false)
abbrev Pt:=Rat×Rat×Rat×Rat×Rat
abbrev Ln:=Rat×Rat×Rat
def pxR(p:Pt):Rt:=(p.1,p.2.1,p.2.2.2.2)
def pyR(p:Pt):Rt:=(p.2.2.1,p.2.2.2.1,p.2.2.2.2)
def pQ(l:Ln)(p:Pt):Int×Bool:=
 bif !(gb l.1 (bF (pxR p)).1 (bF (pxR p)).2).2||!(gb l.2.1 (bF (pyR p)).1 (bF (pyR p)).2).2||!(frF l.2.2).2 then(0,false)
 else bif !(cQ (gb l.1 (bF (pxR p)).1 (bF (pxR p)).2).1 (gb l.2.1 (bF (pyR p)).1 (bF (pyR p)).2).1).2 then(0,false)
 else bif !(cQ (cQ (gb l.1 (bF (pxR p)).1 (bF (pxR p)).2).1 (gb l.2.1 (bF (pyR p)).1 (bF (pyR p)).2).1).1 (jg (frF l.2.2).1)).2 then(0,false)
 else sgF (cQ (cQ (gb l.1 (bF (pxR p)).1 (bF (pxR p)).2).1 (gb l.2.1 (bF (pyR p)).1 (bF (pyR p)).2).1).1 (jg (frF l.2.2).1)).1
def dB(r:Rt)(q:Rat):Iv×Bool:=bif !(bF r).2||!(frF q).2 then(iv0,false)else cQ (bF r).1 (jg (frF q).1)
def oM(c:Ln)(p:Pt):Int×Bool:=
 bif !(dB (pxR p) c.1).2||!(dB (pyR p) c.2.1).2||!(frF c.2.2).2 then(0,false)
 else bif !(co (dB (pxR p) c.1).1 (dB (pxR p) c.1).1).2||!(co (dB (pyR p) c.2.1).1 (dB (pyR p) c.2.1).1).2 then(0,false)
 else bif !(cQ (co (dB (pxR p) c.1).1 (dB (pxR p) c.1).1).1 (co (dB (pyR p) c.2.1).1 (dB (pyR p) c.2.1).1).1).2 then(0,false)
 else bif !(cQ (cQ (co (dB (pxR p) c.1).1 (dB (pxR p) c.1).1).1 (co (dB (pyR p) c.2.1).1 (dB (pyR p) c.2.1).1).1).1 (jg (frF c.2.2).1)).2 then(0,false)
 else sgF (cQ (cQ (co (dB (pxR p) c.1).1 (dB (pxR p) c.1).1).1 (co (dB (pyR p) c.2.1).1 (dB (pyR p) c.2.1).1).1).1 (jg (frF c.2.2).1)).1
def sfF(m:Rat):Iv:=(sqF (frF m).1).1
def mfF(b:Rat)(i:Iv):Iv:=(co (frF b).1 i).1
def qu1(q:Qd):Bool:=(frF q.2.2.2.2.1).2&&(sqF (frF q.2.2.2.2.1).1).2&&(frF q.2.2.2.2.2).2&&(sqF (frF q.2.2.2.2.2).1).2
def qu2(q:Qd):Bool:=(frF q.2.1).2&&(co (frF q.2.1).1 (sfF q.2.2.2.2.1)).2&&(frF q.2.2.1).2&&(co (frF q.2.2.1).1 (sfF q.2.2.2.2.2)).2&&(frF q.2.2.2.1).2&&(co (sfF q.2.2.2.2.1) (sfF q.2.2.2.2.2)).2&&(co (frF q.2.2.2.1).1 (co (sfF q.2.2.2.2.1) (sfF q.2.2.2.2.2)).1).2
def quA(q:Qd):Iv×Bool:=cQ (frF q.1).1 (mfF q.2.1 (sfF q.2.2.2.2.1))
def quB(q:Qd):Iv×Bool:=cQ (mfF q.2.2.1 (sfF q.2.2.2.2.2)) (mfF q.2.2.2.1 (co (sfF q.2.2.2.2.1) (sfF q.2.2.2.2.2)).1)
def qu3(q:Qd):Bool:=(frF q.1).2&&(quA q).2&&(quB q).2&&(cQ (quA q).1 (quB q).1).2
def quF(q:Qd):Int×Bool:=bif !(qu1 q)then(0,false)else bif !(qu2 q)then(0,false)else bif !(qu3 q)then(0,false)else sgF (cQ (quA q).1 (quB q).1).1
theorem tz(r:Rt):prI (bF r).1:=by
 unfold bF
 cases !(frF r.1).2||decide (r.2.1=0)
 ·cases !(frF r.2.1).2||!(frF r.2.2).2||decide (r.2.2<0)
  ·cases !(sqF (frF r.2.2).1).2
   ·cases !(co (frF r.2.1).1 (sqF (frF r.2.2).1).1).2
    ·exact RE.addF_pr (RE.frF_pr _) (n9 _ _)
    ·exact ef
   ·exact ef
  ·exact ef
 ·exact RE.frF_pr _
theorem Xg(n:Rat)(a:Iv)(k:Bool):prI (gb n a k).1:=by
 unfold gb
 cases !k||!(frF n).2
 ·exact n9 _ _
 ·exact ef
theorem Ym(r:Rt)(q:Rat):prI (dB r q).1:=by
 unfold dB
 cases !(bF r).2||!(frF q).2
 ·exact RE.addF_pr (tz _) (RE.negF_pr (RE.frF_pr _))
 ·exact ef
namespace RE
theorem lw{r:Rt}(h:(bF r).2=true):inI (bF r).1 (v2 r.1 r.2.1 r.2.2):=by
 unfold bF at h ⊢
 cases e1:(frF r.1).2
 ·rw[e1]at h
  simp only[Bool.not_false,Bool.true_or,cond_true]at h
  rw[e1]at h
  cases h
 ·rw[e1]at h
  by_cases hb:r.2.1=0
  ·rw[decide_eq_true hb]at h ⊢
   simp only[Bool.not_true,Bool.false_or,cond_true]
   unfold v2
   rw[hb,H4,zero_mul,add_zero]
   exact fG e1
  ·rw[decide_eq_false hb]at h ⊢
   cases e2:(frF r.2.1).2<;>cases e3:(frF r.2.2).2<;>cases e4:decide (r.2.2<0)<;>rw[e2,e3,e4]at h<;>try (cases h;done)
   cases e5:(sqF (frF r.2.2).1).2<;>rw[e5]at h<;>try (cases h;done)
   cases e6:(co (frF r.2.1).1 (sqF (frF r.2.2).1).1).2<;>rw[e6]at h<;>try (cases h;done)
   have hn:(0:RE)≤of r.2.2:=oq.2 (by have:=of_decide_eq_false e4;grind)
   exact gW (fG e1) (i7 (fG e2) (tT (fG e3) hn e5) e6) h
theorem Lo{n:Rat}{a:Iv}{k:Bool}{x:RE}(ha:k=true→inI a x)(h:(gb n a k).2=true):inI (gb n a k).1 (of n*x):=by
 unfold gb at h ⊢
 cases k
 ·cases h
 ·cases e:(frF n).2<;>rw[e]at h
  ·cases h
  ·exact i7 (fG e) (ha rfl) h
theorem Im{r:Rt}{q:Rat}(h:(dB r q).2=true):inI (dB r q).1 (v2 r.1 r.2.1 r.2.2+ -of q):=by
 unfold dB at h ⊢
 cases e1:(bF r).2<;>cases e2:(frF q).2<;>rw[e1,e2]at h<;>try (cases h;done)
 exact gW (lw e1) (zX (fG e2)) h
theorem Nz(x y:RE):((y-(x)))+((x-y-(0)))=0:=by
 induction x using Quotient.inductionOn
 induction y using Quotient.inductionOn
 exact snd fun n=>by
  simp only[RL.add,RL.neg,RL.const]
  grind
theorem YN(x y:RE)(h1:x<y):x-y<0:=jh.1 fun hg=>far (bu (bW h1) (a9 hg)) (Nz x y)
theorem adU(u x y a b:RE):((b-(a)))+((a-(u*x)))+((u*y-(b)))+((u-(0))*(x-(y)))=0:=by
 induction u using Quotient.inductionOn
 induction x using Quotient.inductionOn
 induction y using Quotient.inductionOn
 induction a using Quotient.inductionOn
 induction b using Quotient.inductionOn
 exact snd fun n=>by
  simp only[RL.add,RL.mul,RL.neg,RL.const]
  grind
theorem ap1(u x y a b:RE)(h1:0<u)(h2:u*x≤a)(h3:a<b)(h4:b≤u*y):x<y:=jh.1 fun hg=>far (bu (bu (bu (bW h3) (a9 h2)) (a9 h4)) (cK (le_of_lt (bW h1)) (a9 hg))) (adU u x y a b)
theorem apF_ok{a b:Rt}(h:(apF a b).2=true):(apF a b).1=sg (vR a-vR b):=by
 unfold apF at h ⊢
 cases e1:(bF a).2<;>cases e2:(bF b).2<;>rw[e1,e2]at h<;>try (cases h;done)
 obtain⟨a1,a2⟩:=lw e1
 obtain⟨b1,b2⟩:=lw e2
 cases e3:decide ((bF a).1.2<(bF b).1.1)<;>rw[e3]at h
 ·cases e4:decide ((bF a).1.1>(bF b).1.2)<;>rw[e4]at h
  ·cases h
  ·have h4:of ((bF b).1.2:Rat)<of ((bF a).1.1:Rat):=lV (Rat.intCast_lt_intCast.2 (of_decide_eq_true e4))
   exact(jW (bW (ap1 _ _ _ _ _ kT b2 h4 a1))).symm
 ·have h4:of ((bF a).1.2:Rat)<of ((bF b).1.1:Rat):=lV (Rat.intCast_lt_intCast.2 (of_decide_eq_true e3))
  exact(qB (YN _ _ (ap1 _ _ _ _ _ kT a2 h4 b1))).symm
theorem VC{l:Ln}{p:Pt}(h:(pQ l p).2=true):(pQ l p).1=sg (of l.1*v2 p.1 p.2.1 p.2.2.2.2+of l.2.1*v2 p.2.2.1 p.2.2.2.1 p.2.2.2.2+ -of l.2.2):=by
 unfold pQ at h ⊢
 cases e1:(gb l.1 (bF (pxR p)).1 (bF (pxR p)).2).2<;>cases e2:(gb l.2.1 (bF (pyR p)).1 (bF (pyR p)).2).2<;>cases e3:(frF l.2.2).2<;>rw[e1,e2,e3]at h<;>try (cases h;done)
 have i1:=Lo (x:=v2 p.1 p.2.1 p.2.2.2.2) (fun e=>lw (r:=pxR p) e) e1
 have i2:=Lo (x:=v2 p.2.2.1 p.2.2.2.1 p.2.2.2.2) (fun e=>lw (r:=pyR p) e) e2
 revert h i1 i2
 generalize gb l.1 (bF (pxR p)).1 (bF (pxR p)).2=X
 generalize gb l.2.1 (bF (pyR p)).1 (bF (pyR p)).2=Y
 intro h i1 i2
 cases e4:(cQ X.1 Y.1).2<;>rw[e4]at h<;>try (cases h;done)
 cases e5:(cQ (cQ X.1 Y.1).1 (jg (frF l.2.2).1)).2<;>rw[e5]at h<;>try (cases h;done)
 exact EX (gW (gW i1 i2 e4) (zX (fG e3)) e5) h
theorem WS{c:Ln}{p:Pt}(h:(oM c p).2=true):(oM c p).1=sg ((v2 p.1 p.2.1 p.2.2.2.2+ -of c.1)*(v2 p.1 p.2.1 p.2.2.2.2+ -of c.1)+(v2 p.2.2.1 p.2.2.2.1 p.2.2.2.2+ -of c.2.1)*(v2 p.2.2.1 p.2.2.2.1 p.2.2.2.2+ -of c.2.1)+ -of c.2.2):=by
 unfold oM at h ⊢
 cases e1:(dB (pxR p) c.1).2<;>cases e2:(dB (pyR p) c.2.1).2<;>cases e3:(frF c.2.2).2<;>rw[e1,e2,e3]at h<;>try (cases h;done)
 have i1:=Im e1
 have i2:=Im e2
 revert h
 generalize dB (pxR p) c.1=X at*
 generalize dB (pyR p) c.2.1=Y at*
 intro h
 cases e4:(co X.1 X.1).2<;>cases e5:(co Y.1 Y.1).2<;>rw[e4,e5]at h<;>try (cases h;done)
 cases e6:(cQ (co X.1 X.1).1 (co Y.1 Y.1).1).2<;>rw[e6]at h<;>try (cases h;done)
 cases e7:(cQ (cQ (co X.1 X.1).1 (co Y.1 Y.1).1).1 (jg (frF c.2.2).1)).2<;>rw[e7]at h<;>try (cases h;done)
 exact EX (gW (gW (i7 i1 i1 e4) (i7 i2 i2 e5) e6) (zX (fG e3)) e7) h
theorem adC(a b c d:RE):a+b+(c+d)=a+b+c+d:=by
 induction a using Quotient.inductionOn
 induction b using Quotient.inductionOn
 induction c using Quotient.inductionOn
 induction d using Quotient.inductionOn
 exact snd fun n=>by
  simp only[RL.add]
  grind
theorem quF_ok{q:Qd}(hM:0≤q.2.2.2.2.1)(hN:0≤q.2.2.2.2.2)(h:(quF q).2=true):(quF q).1=sg (vQ q.1 q.2.1 q.2.2.1 q.2.2.2.1 q.2.2.2.2.1 q.2.2.2.2.2):=by
 unfold quF at h ⊢
 cases e1:qu1 q<;>rw[e1]at h<;>try (cases h;done)
 cases e2:qu2 q<;>rw[e2]at h<;>try (cases h;done)
 cases e3:qu3 q<;>rw[e3]at h<;>try (cases h;done)
 unfold qu1 at e1
 unfold qu2 at e2
 unfold qu3 at e3
 simp only[Bool.and_eq_true]at e1 e2 e3
 obtain⟨⟨⟨a1,a2⟩,a3⟩,a4⟩:=e1
 obtain⟨⟨⟨⟨⟨⟨b1,b2⟩,b3⟩,b4⟩,b5⟩,b6⟩,b7⟩:=e2
 obtain⟨⟨⟨c1,c2⟩,c3⟩,c4⟩:=e3
 have i1:inI (sfF q.2.2.2.2.1) (rq q.2.2.2.2.1):=tT (fG a1) (oq.2 hM) a2
 have i2:inI (sfF q.2.2.2.2.2) (rq q.2.2.2.2.2):=tT (fG a3) (oq.2 hN) a4
 have hq:inI (cQ (quA q).1 (quB q).1).1 (vQ q.1 q.2.1 q.2.2.1 q.2.2.2.1 q.2.2.2.2.1 q.2.2.2.2.2):=by
  have:=gW (gW (fG c1) (i7 (fG b1) i1 b2) c2) (gW (i7 (fG b3) i2 b4) (i7 (fG b5) (i7 i1 i2 b6) b7) c3) c4
  rw[adC]at this
  exact this
 exact EX hq h
end RE
end Go.Proofs.YtlahabkjhgkkjaaGreat
namespace Go.Proofs.YtlahabkjhgkkjaaGreat
open Go.RowKit
theorem Un{z:Int}(h:bh z):okI (ag z):=bj (by have:=gV h;omega)
theorem Il{n:Int}(h:A8 n):0≤c8 n∧c8 n≤2305843009213693952:=by
 obtain⟨h0,h1⟩:=h
 unfold c8
 obtain⟨g0,g1,g2⟩:=er (z:=n*65536) (by omega)
 refine⟨g0,?_⟩
 rcases Int.lt_or_le 2305843009213693952 (bG (n*65536))with h|h
 ·have:2305843009213693952*2305843009213693952≤bG (n*65536)*bG (n*65536):=Int.mul_le_mul (by omega) (by omega) (by omega) (by omega)
  omega
 ·exact h
theorem OX{a b:Iv}(ha:prI a)(hb:prI b){x y:Int}(hx:x=a.1∨x=a.2)(hy:y=b.1∨y=b.2):scP x y:=by
 obtain⟨a1,a2,a3⟩:=ha
 obtain⟨b1,b2,b3⟩:=hb
 constructor
 ·rcases hx with rfl|rfl<;>omega
 ·rcases hy with rfl|rfl<;>omega
theorem ae1{α:Type}(b:Bool)(x y:α):(match b with|true=>x|false=>y)=bif b then x else y:=by cases b<;>rfl
noncomputable def Fk:aL:=spN false true [(.int .i64)] (fun x=>decide (bh x.1)) (fun x=>[RV.d tI (hid (ag x.1))])
theorem Pa:af Tryz.prog 160=true∧ao Tryz.prog 160 Fk∧∀g,Fk.mut_=some g→aK Tryz.prog 160 g:=aq (by kernel_rfl) fun x h=>by simp only[aj];exact Jt x.1 (of_decide_eq_true h)
noncomputable def tw:aL:=spN false true [tR] (fun x=>decide (ok Rat 200000 x.1)) (fun x=>[RV.d tG (hid ((frF (aa x.1)).1)),RV.d .bool ((frF (aa x.1)).2)])
theorem sh:af Tryz.prog 281=true∧ao Tryz.prog 281 tw∧∀g,tw.mut_=some g→aK Tryz.prog 281 g:=aq (by kernel_rfl) fun x h=>by simp only[aj];exact V3 x.1 (of_decide_eq_true h)
noncomputable def rR:aL:=spN false true [tG,tG] (fun x=>decide (prI x.1∧prI x.2.1)) (fun x=>[RV.d tG (hid ((cQ x.1 x.2.1).1)),RV.d .bool ((cQ x.1 x.2.1).2)])
theorem uy:af Tryz.prog 283=true∧ao Tryz.prog 283 rR∧∀g,rR.mut_=some g→aK Tryz.prog 283 g:=aq (by kernel_rfl) fun x h=>by simp only[aj];exact VH x.1 x.2.1 (of_decide_eq_true h)
noncomputable def uo:aL:=spN false true [tG] (fun x=>decide (prI x.1)) (fun x=>[RV.d tG (hid (jg x.1))])
theorem sA:af Tryz.prog 290=true∧ao Tryz.prog 290 uo∧∀g,uo.mut_=some g→aK Tryz.prog 290 g:=aq (by kernel_rfl) fun x h=>by simp only[aj];exact YK x.1 (of_decide_eq_true h)
def xu:aL:=spN false true [(.int .i64),(.int .i64)] (fun x=>decide (scP x.1 x.2.1)) (fun x=>[RV.d (.int .i64) ((scF x.1 x.2.1).1.1),RV.d (.int .i64) ((scF x.1 x.2.1).1.2),RV.d .bool ((scF x.1 x.2.1).2)])
theorem Cm:af Tryz.prog 297=true∧ao Tryz.prog 297 xu∧∀g,xu.mut_=some g→aK Tryz.prog 297 g:=aq (by kernel_rfl) fun x h=>Y8 x.1 x.2.1 (of_decide_eq_true h)
noncomputable def qy:Env:=[(76,fS),(148,gg),(202,lM),(296,t5),(295,zk),(254,AS),(83,fP),(184,AP),(288,zi),(183,Bp),(160,Fk),(294,tv),(281,tw),(283,rR),(290,uo),(303,ux),(302,um),(297,xu)]
theorem tZ:EnvAll Tryz.prog qy:=⟨d7,dY,jM,ut,BS,D3,ec,Cc,DN,Cd,Pa,rY,sh,uy,sA,rZ,tK,Cm,trivial⟩
def z9:NT:=[((282,8),{keep:=[3,4,6,7,19,20,21],hl:=4}),((282,22),{keep:=[3,4,6,7,9,19,20,21,29,30,31],hl:=5})]
noncomputable def iT:Ctx:=⟨Tryz.prog,ft,tys,qy,z9⟩
def kH(a:(Int×Int))(b:(Int×Int))(s21:Int)(s6:Int)(s7:Int):Cfg:=⟨282,[.blk 0,.seq 46],[(3,.box 1 0),(4,.box 2 0),(6,SI s6),(7,SI s7),(19,.own 3),(20,SI (([a.1,a.2]).length:Int)),(21,SI s21)],[.box 232 [SI a.1,SI a.2],.box 232 [SI b.1,SI b.2],.box 232 [SI 0,SI 0],.row 2 (.int .i64) ([a.1,a.2])],0,[]⟩
def iY(a:(Int×Int))(b:(Int×Int))(s21:Int)(x1:Int)(s6:Int)(s7:Int)(s31:Int):Cfg:=⟨282,[.blk 2,.blk 1,.seq 45,.lp 8,.blk 0,.seq 46],[(3,.box 1 0),(4,.box 2 0),(6,SI s6),(7,SI s7),(9,SI x1),(19,.own 3),(20,SI (([a.1,a.2]).length:Int)),(21,SI s21),(29,.own 4),(30,SI (([b.1,b.2]).length:Int)),(31,SI s31)],[.box 232 [SI a.1,SI a.2],.box 232 [SI b.1,SI b.2],.box 232 [SI 0,SI 0],.row 2 (.int .i64) ([a.1,a.2]),.row 2 (.int .i64) ([b.1,b.2])],0,[]⟩
noncomputable def S6(k:KT)(a:(Int×Int))(b:(Int×Int)):Option (List RV):=k 8 (kH a b 0 2305843009213693952 (-2305843009213693952))
theorem ad9(a:(Int×Int))(b:(Int×Int)){rX:List RV}(hX:∃nX,S6 (iT.k nX) a b=some rX):iT.Res 282 [.d tG a,.d tG b] rX:=aO (t:=fun k=>S6 k a b) (fun k=>show go2 Tryz.prog ft tys qy z9 k 4000 (az 282 [.d tG a,.d tG b]) (.node 0)=S6 k a b by kernel_rfl) hX
noncomputable def lX(k:KT)(a:(Int×Int))(b:(Int×Int))(s21:Int)(s6:Int)(s7:Int):Option (List RV):=match decide (s21<(([a.1,a.2]).length:Int))with|true=>(match bw ([a.1,a.2]) s21 with|some _=>(match true,([a.1,a.2])[(s21).toNat]? with|true,some x1=>k 22 (iY a b s21 x1 s6 s7 0)|_,_=>none)|none=>none)|false=>some [RV.d tG (s6,s7),RV.d .bool true]
theorem B8(a:(Int×Int))(b:(Int×Int))(s21:Int)(s6:Int)(s7:Int){rX:List RV}(hX:∃nX,lX (iT.k nX) a b s21 s6 s7=some rX):iT.Runs 8 (kH a b s21 s6 s7) rX:=em (t:=fun k=>lX k a b s21 s6 s7) (fun k=>show go2 Tryz.prog ft tys qy z9 k 4000 {kH a b s21 s6 s7 with K:=.lp 8::(kH a b s21 s6 s7).K} (.node 9)=lX k a b s21 s6 s7 by kernel_rfl) hX
noncomputable def ik(k:KT)(a:(Int×Int))(b:(Int×Int))(s21:Int)(x1:Int)(s6:Int)(s7:Int)(s31:Int):Option (List RV):=match decide (s31<(([b.1,b.2]).length:Int))with|true=>(match bw ([b.1,b.2]) s31 with|some _=>(match true,([b.1,b.2])[(s31).toNat]? with|true,some x2=>(match decide (scP x1 x2)with|true=>(match !((scF x1 x2).2)with|true=>some [RV.d tG (0,0),RV.d .bool false]|false=>k 22 (iY a b s21 x1 (if(scF x1 x2).1.1<s6 then(scF x1 x2).1.1 else s6) (if(scF x1 x2).1.2>s7 then(scF x1 x2).1.2 else s7) (IntKind.i64.wrap (s31+1))))|false=>none)|_,_=>none)|none=>none)|false=>k 8 (kH a b (IntKind.i64.wrap (s21+1)) s6 s7)
theorem pI(a:(Int×Int))(b:(Int×Int))(s21:Int)(x1:Int)(s6:Int)(s7:Int)(s31:Int){rX:List RV}(hX:∃nX,ik (iT.k nX) a b s21 x1 s6 s7 s31=some rX):iT.Runs 22 (iY a b s21 x1 s6 s7 s31) rX:=em (t:=fun k=>ik k a b s21 x1 s6 s7 s31) (fun k=>show go2 Tryz.prog ft tys qy z9 k 4000 {iY a b s21 x1 s6 s7 s31 with K:=.lp 22::(iY a b s21 x1 s6 s7 s31).K} (.node 23)=ik k a b s21 x1 s6 s7 s31 by kernel_rfl) hX
theorem OF(a b:Iv)(ha:prI a)(hb:prI b)(s21:Int)(x:Int)(hx:x=a.1∨x=a.2)(s:Iv)(r:List RV)(h:∀s2:Iv×Bool,s2=fE (fE (s,true) x b.1) x b.2→bif s2.2 then iT.Runs 8 (kH a b (IntKind.i64.wrap (s21+1)) s2.1.1 s2.1.2) r else r=[RV.d tG (0,0),RV.d .bool false]):
  iT.Runs 22 (iY a b s21 x s.1 s.2 0) r:=by
 have h:=h _ rfl
 refine pI _ _ _ _ _ _ _ ?_
 unfold ik
 have g1:decide ((0:Int)<(([b.1,b.2]).length:Int))=true:=by simp
 have g2:decide ((1:Int)<(([b.1,b.2]).length:Int))=true:=by simp
 have g3:decide ((2:Int)<(([b.1,b.2]).length:Int))=false:=by simp
 rw[g1]
 simp only[show bw [b.1,b.2] 0=some b.1 from rfl,show [b.1,b.2][(0:Int).toNat]?=some b.1 from rfl,dT (OX ha hb hx (.inl rfl))]
 cases e1:(scF x b.1).2
 ·rw[show fE (fE (s,true) x b.1) x b.2=(iv0,false) by unfold fE;rw[e1];rfl]at h
  exact⟨0,by rw[h];rfl⟩
 ·try dsimp only[Bool.not_true]
  have e0:fE (s,true) x b.1=((if(scF x b.1).1.1<s.1 then(scF x b.1).1.1 else s.1,if(scF x b.1).1.2>s.2 then(scF x b.1).1.2 else s.2),true):=by unfold fE;rw[e1];rfl
  rw[e0]at h
  suffices hh:iT.Runs 22 (iY a b s21 x (if(scF x b.1).1.1<s.1 then(scF x b.1).1.1 else s.1) (if(scF x b.1).1.2>s.2 then(scF x b.1).1.2 else s.2) (IntKind.i64.wrap (0+1))) r by
   obtain⟨n,hn⟩:=hh
   exact⟨n,hn⟩
  rw[show IntKind.i64.wrap (0+1)=1 by decide]
  refine pI _ _ _ _ _ _ _ ?_
  unfold ik
  rw[g2]
  simp only[show bw [b.1,b.2] 1=some b.2 from rfl,show [b.1,b.2][(1:Int).toNat]?=some b.2 from rfl,dT (OX ha hb hx (.inr rfl))]
  cases e2:(scF x b.2).2
  ·unfold fE at h
   rw[e2]at h
   exact⟨0,by rw[show r=[RV.d tG (0,0),RV.d .bool false] from h];rfl⟩
  ·try dsimp only[Bool.not_true]
   unfold fE at h
   rw[e2]at h
   simp only[Bool.and_self,cond_true]at h
   suffices hh:iT.Runs 22 (iY a b s21 x _ _ (IntKind.i64.wrap (1+1))) r by
    obtain⟨n,hn⟩:=hh
    exact⟨n,hn⟩
   rw[show IntKind.i64.wrap (1+1)=2 by decide]
   refine pI _ _ _ _ _ _ _ ?_
   unfold ik
   rw[g3]
   obtain⟨n,hn⟩:=h
   exact⟨n,hn⟩
theorem I1(a b:Iv)(ha:prI a)(hb:prI b)(x:Int)(i:Int)(hi:(i=0∧x=a.1)∨(i=1∧x=a.2))(s:Iv)(r:List RV)(h:∀s2:Iv×Bool,s2=fE (fE (s,true) x b.1) x b.2→bif s2.2 then iT.Runs 8 (kH a b (i+1) s2.1.1 s2.1.2) r else r=[RV.d tG (0,0),RV.d .bool false]):
  iT.Runs 8 (kH a b i s.1 s.2) r:=by
 refine B8 _ _ _ _ _ ?_
 unfold lX
 rcases hi with⟨rfl,rfl⟩|⟨rfl,rfl⟩
 ·obtain⟨n,hn⟩:=OF a b ha hb 0 a.1 (.inl rfl) s r (by rw[show IntKind.i64.wrap (0+1)=0+1 by decide];exact h)
  exact⟨n,hn⟩
 ·obtain⟨n,hn⟩:=OF a b ha hb 1 a.2 (.inr rfl) s r (by rw[show IntKind.i64.wrap (1+1)=1+1 by decide];exact h)
  exact⟨n,hn⟩
theorem Oi{s:Iv×Bool}{x y:Int}(h:s.2=false):fE s x y=(iv0,false):=by unfold fE;rw[h];rfl
theorem acg{s:Iv×Bool}(h:s.2=true):s=(s.1,true):=by rw[←h]
theorem Wc(a:(Int×Int))(b:(Int×Int))(h:prI a∧prI b):Con Tryz.prog 282 [.d tG a,.d tG b] [.d tG ((co a b).1),.d .bool ((co a b).2)]:=by
 obtain⟨ha,hb⟩:=h
 refine Ctx.Res.con (C:=iT) (au tZ) ?_ (fn:=Tryz.f282) (by kernel_rfl) (by kernel_rfl)
 refine ad9 _ _ ?_
 suffices hh:iT.Runs 8 (kH a b 0 2305843009213693952 (-2305843009213693952)) [.d tG (co a b).1,.d .bool (co a b).2] by
  obtain⟨n,hn⟩:=hh
  exact⟨n,hn⟩
 refine I1 a b ha hb a.1 0 (.inl ⟨rfl,rfl⟩) (2305843009213693952,-2305843009213693952) _ fun s1 e1=>?_
 have hm:co a b=fE (fE s1 a.2 b.1) a.2 b.2:=by rw[e1];rfl
 cases c1:s1.2
 ·rw[hm,Oi (Oi c1▸rfl)]
  rfl
 ·rw[cond_true]
  refine I1 a b ha hb a.2 1 (.inr ⟨rfl,rfl⟩) s1.1 _ fun s2 e2=>?_
  rw[←acg c1,←hm]at e2
  cases c2:s2.2
  ·rw[←e2]
   rw[show s2=(iv0,false) by
    rw[e2,hm]
    rw[e2,hm]at c2
    unfold fE at c2 ⊢
    revert c2
    cases(_:Bool)&&(scF a.2 b.2).2
    ·intro _;rfl
    ·intro h;cases h]
   rfl
  ·rw[cond_true,←e2]
   refine B8 _ _ _ _ _ ⟨0,?_⟩
   unfold lX
   rw[show decide ((1+1:Int)<(([a.1,a.2]).length:Int))=false from by simp,c2]
noncomputable def tk:aL:=spN false true [tG,tG] (fun x=>decide (prI x.1∧prI x.2.1)) (fun x=>[RV.d tG (hid ((co x.1 x.2.1).1)),RV.d .bool ((co x.1 x.2.1).2)])
theorem tY:af Tryz.prog 282=true∧ao Tryz.prog 282 tk∧∀g,tk.mut_=some g→aK Tryz.prog 282 g:=aq (by kernel_rfl) fun x h=>by simp only[aj];exact Wc x.1 x.2.1 (of_decide_eq_true h)
noncomputable def PX:Ctx:=⟨Tryz.prog,ft,tys,qy,[]⟩
noncomputable def JX(_k:KT)(n:Int):Option (List RV):=match decide (bh n)with|true=>(match decide (bh (65536:Int))with|true=>(match decide (okI (hid (ag n))∧okI (hid (ag (65536:Int))))with|true=>(match decide (okI (hid (ag (ab (hid (ag n))*ab (hid (ag (65536:Int)))))))with|true=>(match decide (okI (hid (dU (hid (ag (ab (hid (ag n))*ab (hid (ag (65536:Int)))))))))with|true=>(match decide (okI (hid (dU (hid (ag (ab (hid (ag n))*ab (hid (ag (65536:Int))))))))∧okI (hid (dU (hid (ag (ab (hid (ag n))*ab (hid (ag (65536:Int)))))))))with|true=>(match decide (okI (hid (ag (ab (hid (dU (hid (ag (ab (hid (ag n))*ab (hid (ag (65536:Int))))))))*ab (hid (dU (hid (ag (ab (hid (ag n))*ab (hid (ag (65536:Int)))))))))))∧okI (hid (ag (ab (hid (ag n))*ab (hid (ag (65536:Int)))))))with|true=>some [RV.d (.int .i64) (bif decide (bh (ab (hid (dU (hid (ag (ab (hid (ag n))*ab (hid (ag (65536:Int))))))))))then ab (hid (dU (hid (ag (ab (hid (ag n))*ab (hid (ag (65536:Int))))))))else 0),RV.d .bool ((b8 (ab (hid (ag (ab (hid (dU (hid (ag (ab (hid (ag n))*ab (hid (ag (65536:Int))))))))*ab (hid (dU (hid (ag (ab (hid (ag n))*ab (hid (ag (65536:Int)))))))))))) (ab (hid (ag (ab (hid (ag n))*ab (hid (ag (65536:Int))))))))==0)]|false=>none)|false=>none)|false=>none)|false=>none)|false=>none)|false=>none)|false=>none
theorem aeh(n:Int){rX:List RV}(hX:∃nX,JX (PX.k nX) n=some rX):PX.Res 293 [SI n] rX:=aO (t:=fun k=>JX k n) (fun k=>show go2 Tryz.prog ft tys qy [] k 4000 (az 293 [SI n]) (.node 0)=JX k n by kernel_rfl) hX
theorem WY(n:Int)(h:A8 n):Con Tryz.prog 293 [.d (.int .i64) n] [.d (.int .i64) (c8 n),.d .bool (decide (c8 n*c8 n=n*65536))]:=by
 refine Ctx.Res.con (C:=PX) (au tZ) (aeh _ ⟨0,?_⟩) (fn:=Tryz.f293) (by kernel_rfl) (by kernel_rfl)
 have hr:=Il h
 obtain⟨h0,h1⟩:=h
 have i1:bh n:=⟨by omega,by omega⟩
 have i2:bh 65536:=by decide
 have o1:okI (ag (n*65536)):=bj (by have:=cD (gV i1) (gV i2);omega)
 have o2:okI (ag (c8 n)):=Un ⟨by omega,by omega⟩
 have o3:okI (ag (c8 n*c8 n)):=bj (by have:=cD (gV (n:=c8 n) ⟨by omega,by omega⟩) (gV (n:=c8 n) ⟨by omega,by omega⟩);omega)
 have o4:okI (ag n)∧okI (ag 65536):=⟨Un i1,Un i2⟩
 have o5:okI (ag (c8 n))∧okI (ag (c8 n)):=⟨o2,o2⟩
 have o6:okI (ag (c8 n*c8 n))∧okI (ag (n*65536)):=⟨o3,o1⟩
 have o7:bh (c8 n):=⟨by omega,by omega⟩
 unfold JX
 simp only[aj,dec_enc,dT i1,dT i2,dT o4,dT o1,zQ o1]
 have e:bG (n*65536)=c8 n:=rfl
 simp only[e,dT o2,dT o5,dT o6,dT o7,cond_true,jP]
def El:aL:=spN false true [(.int .i64)] (fun x=>decide (A8 x.1)) (fun x=>[RV.d (.int .i64) (c8 x.1),RV.d .bool (decide (c8 x.1*c8 x.1=x.1*65536))])
theorem Tr:af Tryz.prog 293=true∧ao Tryz.prog 293 El∧∀g,El.mut_=some g→aK Tryz.prog 293 g:=aq (by kernel_rfl) fun x h=>WY x.1 (of_decide_eq_true h)
noncomputable def J8:Env:=(282,tk)::(293,El)::qy
theorem CB:EnvAll Tryz.prog J8:=⟨tY,Tr,tZ⟩
noncomputable def OV:Ctx:=⟨Tryz.prog,ft,tys,J8,[]⟩
noncomputable def Id(_k:KT)(a:(Int×Int)):Option (List RV):=match decide (a.2<0)with|true=>some [RV.d tG (0,0),RV.d .bool false]|false=>(match decide (A8 (if 0>a.1 then 0 else a.1))with|true=>(match decide (A8 a.2)with|true=>(match !(decide (c8 a.2*c8 a.2=a.2*65536))with|true=>some [RV.d tG (hid ((jr (c8 (if 0>a.1 then 0 else a.1)) (IntKind.i64.wrap ((c8 a.2)+1))).1)),RV.d .bool ((jr (c8 (if 0>a.1 then 0 else a.1)) (IntKind.i64.wrap ((c8 a.2)+1))).2)]|false=>some [RV.d tG (hid ((jr (c8 (if 0>a.1 then 0 else a.1)) (c8 a.2)).1)),RV.d .bool ((jr (c8 (if 0>a.1 then 0 else a.1)) (c8 a.2)).2)])|false=>none)|false=>none)
theorem adK(a:(Int×Int)){rX:List RV}(hX:∃nX,Id (OV.k nX) a=some rX):OV.Res 280 [.d tG a] rX:=aO (t:=fun k=>Id k a) (fun k=>show go2 Tryz.prog ft tys J8 [] k 4000 (az 280 [.d tG a]) (.node 0)=Id k a by kernel_rfl) hX
theorem Wp(a:(Int×Int))(h:prI a):Con Tryz.prog 280 [.d tG a] [.d tG ((sqF a).1),.d .bool ((sqF a).2)]:=by
 refine Ctx.Res.con (C:=OV) (au CB) (adK _ ⟨0,?_⟩) (fn:=Tryz.f280) (by kernel_rfl) (by kernel_rfl)
 obtain⟨a1,a2,a3⟩:=h
 unfold Id sqF
 cases hn:decide (a.2<0)
 ·have hn:=of_decide_eq_false hn
  have r2:A8 a.2:=⟨by omega,by omega⟩
  have r1:A8 (if 0>a.1 then 0 else a.1):=⟨by split<;>omega,by split<;>omega⟩
  have b2:=Il r2
  simp only[dT r1,dT r2,aj,bk (x:=c8 a.2+1) (by omega) (by omega)]
  cases decide (c8 a.2*c8 a.2=a.2*65536)<;>rfl
 ·rfl
noncomputable def yC:aL:=spN false true [tG] (fun x=>decide (prI x.1)) (fun x=>[RV.d tG (hid ((sqF x.1).1)),RV.d .bool ((sqF x.1).2)])
theorem CX:af Tryz.prog 280=true∧ao Tryz.prog 280 yC∧∀g,yC.mut_=some g→aK Tryz.prog 280 g:=aq (by kernel_rfl) fun x h=>by simp only[aj];exact Wp x.1 (of_decide_eq_true h)
noncomputable def vj:Env:=(280,yC)::J8
theorem uu:EnvAll Tryz.prog vj:=⟨CX,CB⟩
noncomputable def Ob:Ctx:=⟨Tryz.prog,ft,tys,vj,[]⟩
noncomputable def Ir(_k:KT)(r:BO3):Option (List RV):=match decide (ok Rat 200000 r.1)with|true=>(match !((frF (aa r.1)).2)with|true=>some [RV.d tG (hid ((frF (aa r.1)).1)),RV.d .bool ((frF (aa r.1)).2)]|false=>(match decide (okR r.2.1)with|true=>(match(aQ (aa r.2.1) 0)==0 with|true=>some [RV.d tG (hid ((frF (aa r.1)).1)),RV.d .bool ((frF (aa r.1)).2)]|false=>(match decide (ok Rat 200000 r.2.1)with|true=>(match decide (ok Rat 200000 r.2.2)with|true=>(match !((frF (aa r.2.1)).2)with|true=>some [RV.d tG (0,0),RV.d .bool false]|false=>(match !((frF (aa r.2.2)).2)with|true=>some [RV.d tG (0,0),RV.d .bool false]|false=>(match decide (okR r.2.2)with|true=>(match decide ((aQ (aa r.2.2) 0)<0)with|true=>some [RV.d tG (0,0),RV.d .bool false]|false=>(match decide (prI (hid ((frF (aa r.2.2)).1)))with|true=>(match !((sqF (hid ((frF (aa r.2.2)).1))).2)with|true=>some [RV.d tG (0,0),RV.d .bool false]|false=>(match decide (prI (hid ((frF (aa r.2.1)).1))∧prI (hid ((sqF (hid ((frF (aa r.2.2)).1))).1)))with|true=>(match !((co (hid ((frF (aa r.2.1)).1)) (hid ((sqF (hid ((frF (aa r.2.2)).1))).1))).2)with|true=>some [RV.d tG (0,0),RV.d .bool false]|false=>(match decide (prI (hid ((frF (aa r.1)).1))∧prI (hid ((co (hid ((frF (aa r.2.1)).1)) (hid ((sqF (hid ((frF (aa r.2.2)).1))).1))).1)))with|true=>some [RV.d tG (hid ((cQ (hid ((frF (aa r.1)).1)) (hid ((co (hid ((frF (aa r.2.1)).1)) (hid ((sqF (hid ((frF (aa r.2.2)).1))).1))).1))).1)),RV.d .bool ((cQ (hid ((frF (aa r.1)).1)) (hid ((co (hid ((frF (aa r.2.1)).1)) (hid ((sqF (hid ((frF (aa r.2.2)).1))).1))).1))).2)]|false=>none))|false=>none))|false=>none))|false=>none)))|false=>none)|false=>none))|false=>none))|false=>none
theorem ad5(r:BO3){rX:List RV}(hX:∃nX,Ir (Ob.k nX) r=some rX):Ob.Res 259 [.d tO r] rX:=aO (t:=fun k=>Ir k r) (fun k=>show go2 Tryz.prog ft tys vj [] k 4000 (az 259 [.d tO r]) (.node 0)=Ir k r by kernel_rfl) hX
theorem Wi(r:BO3)(h:ok Rt 100000 r):Con Tryz.prog 259 [.d tO r] [.d tG ((bF (dec r)).1),.d .bool ((bF (dec r)).2)]:=by
 refine Ctx.Res.con (C:=Ob) (au uu) (ad5 _ ⟨0,?_⟩) (fn:=Tryz.f259) (by kernel_rfl) (by kernel_rfl)
 have hr:=h
 obtain⟨r,rfl,br⟩:=aS hr
 have p1:prI (frF r.1).1:=RE.frF_pr _
 have p2:prI (frF r.2.1).1:=RE.frF_pr _
 have p3:prI (frF r.2.2).1:=RE.frF_pr _
 have p4:prI (sqF (frF r.2.2).1).1:=RE.sqF_pr p3
 have p5:prI (co (frF r.2.1).1 (sqF (frF r.2.2).1).1).1:=n9 _ _
 unfold Ir
 simp only[aj,ak,aF,aG,aD,aw,aC,aX,Nat.reduceLeDiff,aP,aN,dT p3,dT (show prI (frF r.2.1).1∧prI (sqF (frF r.2.2).1).1 from⟨p2,p4⟩),dT (show prI (frF r.1).1∧prI (co (frF r.2.1).1 (sqF (frF r.2.2).1).1).1 from⟨p1,p5⟩)]
 unfold bF
 clear p1 p2 p3 p4 p5
 generalize frF r.1=A
 generalize frF r.2.1=B
 generalize frF r.2.2=C
 generalize sqF C.1=S
 generalize co B.1 S.1=M
 generalize cQ A.1 M.1=U
 obtain⟨_,a⟩:=A
 obtain⟨_,b⟩:=B
 obtain⟨_,c⟩:=C
 obtain⟨_,s⟩:=S
 obtain⟨_,m⟩:=M
 cases a<;>cases decide (r.2.1=0)<;>cases b<;>cases c<;>cases decide (r.2.2<0)<;>cases s<;>cases m<;>rfl
noncomputable def T6:Ctx:=⟨Tryz.prog,ft,tys,vj,[]⟩
noncomputable def IC(_k:KT)(a:(Int×Int)):Option (List RV):=match decide (a.1>0)with|true=>some [RV.d (.int .i64) 1,RV.d .bool true]|false=>(match decide (a.2<0)with|true=>some [RV.d (.int .i64) (-1),RV.d .bool true]|false=>(match a.1==0 with|true=>some [RV.d (.int .i64) 0,RV.d .bool (a.2==0)]|false=>some [RV.d (.int .i64) 0,RV.d .bool false]))
theorem aeG(a:(Int×Int)){rX:List RV}(hX:∃nX,IC (T6.k nX) a=some rX):T6.Res 284 [.d tG a] rX:=aO (t:=fun k=>IC k a) (fun k=>show go2 Tryz.prog ft tys vj [] k 4000 (az 284 [.d tG a]) (.node 0)=IC k a by kernel_rfl) hX
theorem VY(a:(Int×Int)):Con Tryz.prog 284 [.d tG a] [.d (.int .i64) ((sgF a).1),.d .bool ((sgF a).2)]:=by
 refine Ctx.Res.con (C:=T6) (au uu) (aeG _ ⟨0,?_⟩) (fn:=Tryz.f284) (by kernel_rfl) (by kernel_rfl)
 unfold IC sgF
 cases decide (a.1>0)<;>cases decide (a.2<0)<;>try rfl
 by_cases e1:a.1=0
 ·rw[decide_eq_true e1,show(a.1==0)=true by simp[e1]]
  by_cases e2:a.2=0
  ·rw[decide_eq_true e2,show(a.2==0)=true by simp[e2]];rfl
  ·rw[decide_eq_false e2,show(a.2==0)=false by simp[e2]];rfl
 ·rw[decide_eq_false e1,show(a.1==0)=false by simp[e1]];rfl
noncomputable def p6:aL:=spN false true [tO] (fun x=>decide (ok Rt 100000 x.1)) (fun x=>[RV.d tG (hid ((bF (dec x.1)).1)),RV.d .bool ((bF (dec x.1)).2)])
theorem n5:af Tryz.prog 259=true∧ao Tryz.prog 259 p6∧∀g,p6.mut_=some g→aK Tryz.prog 259 g:=aq (by kernel_rfl) fun x h=>by simp only[aj];exact Wi x.1 (of_decide_eq_true h)
def sS:aL:=spN false true [tG] (fun _=>true) (fun x=>[RV.d (.int .i64) ((sgF x.1).1),RV.d .bool ((sgF x.1).2)])
theorem tb:af Tryz.prog 284=true∧ao Tryz.prog 284 sS∧∀g,sS.mut_=some g→aK Tryz.prog 284 g:=aq (by kernel_rfl) fun x _=>VY x.1
noncomputable def U6:Env:=(259,p6)::(284,sS)::vj
theorem T9:EnvAll Tryz.prog U6:=⟨n5,tb,uu⟩
noncomputable def TJ:Ctx:=⟨Tryz.prog,ft,tys,U6,[]⟩
noncomputable def Iw(_k:KT)(n:BR)(a:(Int×Int))(g:Bool):Option (List RV):=match decide (ok Rat 200000 n)with|true=>(match !g with|true=>some [RV.d tG (0,0),RV.d .bool false]|false=>(match !((frF (aa n)).2)with|true=>some [RV.d tG (0,0),RV.d .bool false]|false=>(match decide (prI (hid ((frF (aa n)).1))∧prI a)with|true=>some [RV.d tG (hid ((co (hid ((frF (aa n)).1)) a).1)),RV.d .bool ((co (hid ((frF (aa n)).1)) a).2)]|false=>none)))|false=>none
theorem acm(n:BR)(a:(Int×Int))(g:Bool){rX:List RV}(hX:∃nX,Iw (TJ.k nX) n a g=some rX):TJ.Res 291 [.d tR n,.d tG a,SB g] rX:=aO (t:=fun k=>Iw k n a g) (fun k=>show go2 Tryz.prog ft tys U6 [] k 4000 (az 291 [.d tR n,.d tG a,SB g]) (.node 0)=Iw k n a g by kernel_rfl) hX
theorem WI(n:BR)(a:(Int×Int))(g:Bool)(h:ok Rat 100000 n∧prI a):Con Tryz.prog 291 [.d tR n,.d tG a,.d .bool g] [.d tG ((gb (aa n) a g).1),.d .bool ((gb (aa n) a g).2)]:=by
 refine Ctx.Res.con (C:=TJ) (au T9) (acm _ _ _ ⟨0,?_⟩) (fn:=Tryz.f291) (by kernel_rfl) (by kernel_rfl)
 obtain⟨hn,ha⟩:=h
 obtain⟨n,rfl,bn⟩:=aS hn
 unfold Iw
 simp only[aj,aD,aw,aC,Nat.reduceLeDiff,dT (show prI (frF n).1∧prI a from⟨RE.frF_pr _,ha⟩)]
 unfold gb
 generalize frF n=A
 obtain⟨_,q⟩:=A
 cases g<;>cases q<;>rfl
end Go.Proofs.YtlahabkjhgkkjaaGreat
namespace Go.Proofs.YtlahabkjhgkkjaaGreat
open Go.RowKit
structure Ce (u:Nat) (w:World) (b off:Nat) (cs:List Value):Prop where
 le:u≤w.heap.size
 lt:b<u
 cell:∀j v,cs[j]?=some v→w.cell? ⟨b,off+j,none⟩=some v
theorem Ce.at_{u:Nat}{w:World}{b off:Nat}{cs:List Value}(h:Ce u w b off cs)(j:Nat){v:Value}(hv:cs[j]?=some v):w.cell? ⟨b,off+j,none⟩=some v:=h.cell j v hv
theorem Ce.keep{u:Nat}{w w':World}{b off:Nat}{cs:List Value}(h:Ce u w b off cs)(hz:w.heap.size≤w'.heap.size)(hk:∀k,k<u→w'.heap[k]?=w.heap[k]?):Ce u w' b off cs:=
 ⟨Nat.le_trans h.le hz,h.lt,fun j v hv=>(World.cell?_of_block (hk b h.lt)).trans (h.cell j v hv)⟩
theorem Ce.below{u:Nat}{w w':World}{b off:Nat}{cs:List Value}(h:Ce u w b off cs)(hb:Below w.heap.size w w'):Ce u w' b off cs:=h.keep hb.size fun k hk=>hb.block k (Nat.lt_of_lt_of_le hk h.le)
theorem Ce.upd{u:Nat}{w w':World}{b off g:Nat}{cs:List Value}(h:Ce u w b off cs)(hu:Upd w w' g)(hg:u≤g):Ce u w' b off cs:=h.keep (by rw[hu.size];exact Nat.le_refl _) fun k hk=>hu.block k (by omega)
structure RdU (u:Nat) (w:World) (size:Nat) (v:Value) (n:Nat) (xs:List Value):Prop where
 le:u≤w.heap.size
 rd:∃A c,v=.slice A n c∧n≤c∧c≤maxLen∧xs.length=n*size∧(0<n→∃b off,A=some ⟨b,off,none⟩∧Ce u w b off xs)
section
variable {u:Nat} {w w':World} {size n:Nat} {v:Value} {xs:List Value}
theorem RdU.keep(h:RdU u w size v n xs)(hz:w.heap.size≤w'.heap.size)(hk:∀k,k<u→w'.heap[k]?=w.heap[k]?):RdU u w' size v n xs:=by
 obtain⟨hl,A,c,h1,h2,h3,h4,h5⟩:=h
 exact⟨Nat.le_trans hl hz,A,c,h1,h2,h3,h4,fun hn=>by obtain⟨b,off,h6,h7⟩:=h5 hn;exact⟨b,off,h6,h7.keep hz hk⟩⟩
theorem RdU.below(h:RdU u w size v n xs)(hb:Below w.heap.size w w'):RdU u w' size v n xs:=h.keep hb.size fun k hk=>hb.block k (Nat.lt_of_lt_of_le hk h.le)
theorem RdU.upd{g:Nat}(h:RdU u w size v n xs)(hu:Upd w w' g)(hg:u≤g):RdU u w' size v n xs:=h.keep (by rw[hu.size];exact Nat.le_refl _) fun k hk=>hu.block k (by omega)
theorem RdU.grown{row:Option Nat}(h:RdU u w size v n xs)(hg:w.grownBy w' row)(hr:∀k,row=some k→u≤k):RdU u w' size v n xs:=h.keep hg.size fun k hk=>hg.block k (Nat.lt_of_lt_of_le hk h.le) (fun e=>by have:=hr k e.symm;omega)
theorem RdU.elem{A:Option Addr}{c k:Nat}{α:Type}{f:α→List Value}{ms:List α}(hf:∀m,(f m).length=size)(h:RdU u w size (.slice A n c) n (ms.flatMap f))(hn:ms.length=n)(hk:k<n):
  ∃b off m,A=some ⟨b,off,none⟩∧ms[k]?=some m∧Ce u w b (off+k*size) (f m):=by
 obtain⟨hle,A',c',h1,h2,h3,h4,h5⟩:=h
 injection h1 with hA _ hc
 subst hA
 obtain⟨b,off,h6,h7⟩:=h5 (by omega)
 subst hn
 refine⟨b,off,ms[k],h6,List.getElem?_eq_getElem hk,⟨h7.le,h7.lt,fun j v hv=>?_⟩⟩
 have hj:j<size:=by rw[←hf ms[k]];exact(List.getElem?_eq_some_iff.1 hv).1
 have:(ms.flatMap f)[k*size+j]?=some v:=by
  clear h7 h5 h4 h6 h2 hc
  induction ms generalizing k with
  |nil=>simp at hk
  |cons m ms ih=>
   rw[List.flatMap_cons]
   cases k with
   |zero=>
    simp only[Nat.zero_mul,Nat.zero_add]
    rw[List.getElem?_append_left (by rw[hf];exact hj)]
    simpa using hv
   |succ k=>
    rw[List.getElem?_append_right (by rw[hf,Nat.succ_mul];omega),hf,show(k+1)*size+j-size=k*size+j by rw[Nat.succ_mul];omega]
    exact ih (by simpa using hk) rfl (by simpa using hv)
 have h8:=h7.cell _ _ this
 rwa [←Nat.add_assoc]at h8
end
section
variable {P:Program} {fn:Func} {R:Ending→World→Prop} {B:Code} {K:List KI} {i:Nat} {a:Act} {w:World}
end
end Go.Proofs.YtlahabkjhgkkjaaGreat
namespace Go.Proofs.YtlahabkjhgkkjaaGreat
open Go.RowKit
theorem Ce.grown{u:Nat}{w w':World}{b off:Nat}{cs:List Value}{row:Option Nat}(h:Ce u w b off cs)(hg:w.grownBy w' row)(hr:∀k,row=some k→u≤k):Ce u w' b off cs:=h.keep hg.size fun k hk=>hg.block k (Nat.lt_of_lt_of_le hk h.le) (fun e=>by have:=hr k e.symm;omega)
section
variable {P:Program} {a:Act} {w:World}
end
end Go.Proofs.YtlahabkjhgkkjaaGreat
namespace Go.Proofs.YtlahabkjhgkkjaaGreat
open Go.RowKit
theorem sG{w w1 w2:World}{o:Option Nat}(h:w.grownBy w1 o)(hb:Below w1.heap.size w1 w2):w.grownBy w2 o:=
 ⟨hb.os.trans h.os,hb.tape.trans h.tape,hb.output.trans h.output,Nat.le_trans h.size hb.size,fun i hi hn=>(hb.block i (Nat.lt_of_lt_of_le hi h.size)).trans (h.block i hi hn)⟩
theorem n7{w w1 w2:World}{c b:Nat}(h:w.grownBy w1 (some c))(hu:Upd w1 w2 b)(hb:b=c∨w.heap.size≤b):w.grownBy w2 (some c):=
 ⟨hu.os.trans h.os,hu.tape.trans h.tape,hu.output.trans h.output,by rw[hu.size];exact h.size,fun i hi hn=>(hu.block i (fun e=>by
  subst e
  rcases hb with hb|hb
  ·subst hb;exact hn rfl
  ·omega)).trans (h.block i hi hn)⟩
noncomputable def WU:Code:=Tryz.f279.body.getD .skip
set_option maxRecDepth 100000 in
theorem Ma:aek Tryz.prog 279 242:=by
 intro w c b ok x y _ hc
 have hB:w.grownBy w (some c):=World.grownBy.refl _ _
 have hlt:=hc.lt
 refine enter (B:=WU) (args:=[.pointer (some ⟨c,0,none⟩),.agg #[.int .i64 x,.int .i64 y],.bool ok]) Tryz.func279 (by kernel_rfl) (by kernel_rfl) ?_
 rw[show Tryz.f279.ntmps=18 from by kernel_rfl]
 intro a hs
 replace hs:=hs.pick (ts:=[0,1,2]) (L':=[(0,.pointer (some ⟨c,0,none⟩)),(1,.agg #[.int .i64 x,.int .i64 y]),(2,.bool ok)]) (by kernel_rfl)
 refine tt (j:=2) (by kernel_rfl) ?_
 refine jH (id:=0) (by kernel_rfl) ?_
 refine pT hs (by kernel_rfl) (ad6 (t:=232) (cs:= #[.int .i64 x,.int .i64 y]) (fun rb_=>.pointer (some ⟨rb_,0,none⟩)) [0,2,4] (fun rb_=>[(0,.pointer (some ⟨c,0,none⟩)),(2,.bool ok),(4,.pointer (some ⟨rb_,0,none⟩))]) hs (fun _=>by kernel_rfl) (fun _=>by kernel_rfl) ?_)
 clear hs a;intro a w1 b1 hn hs
 have B1:=hn.blk
 have l1:w.heap.size≤b1:=by rw[hn.at_];exact hB.size
 replace hc:=hc.below hn.below hc.lt
 replace hB:=sG hB hn.below
 clear hn
 refine pT hs (by kernel_rfl) (ad6 (t:=232) (cs:= #[.int .i64 0,.int .i64 0]) (fun rb_=>.pointer (some ⟨rb_,0,none⟩)) [0,2,4,6] (fun rb_=>[(0,.pointer (some ⟨c,0,none⟩)),(2,.bool ok),(4,.pointer (some ⟨b1,0,none⟩)),(6,.pointer (some ⟨rb_,0,none⟩))]) hs (fun _=>by kernel_rfl) (fun _=>by kernel_rfl) ?_)
 clear hs a;intro a w2 b2 hn hs
 have B2:=hn.blk
 have l2:w.heap.size≤b2:=by rw[hn.at_];exact hB.size
 have l2':b1<b2:=by rw[hn.at_];exact B1.lt
 replace hc:=hc.below hn.below hc.lt
 replace B1:=B1.below hn.below B1.lt
 replace hB:=sG hB hn.below
 clear hn
 refine mt (by kernel_rfl) ?_
 refine jF rfl ?_
 refine tt (j:=4) (by kernel_rfl) ?_
 refine jH (id:=1) (by kernel_rfl) ?_
 refine oG (m:=6) (H:=[(4,none,[.bool b])]) (ts:=[2,4,6,7,12]) (L':=[(2,.bool ok),(4,.pointer (some ⟨b1,0,none⟩)),(6,.pointer (some ⟨b2,0,none⟩)),(7,.pointer (some ⟨c,0,none⟩)),(12,.bool b)]) (O:=fun w=>(w.cell? ⟨c,0,none⟩=some (.bool b))∧True) hs (by kernel_rfl) ⟨hc.cell 0 rfl,trivial⟩ ?_
 clear hs a;intro a hs
 rcases Bool.eq_false_or_eq_true (b)with hb|hb
 ·replace hs:=hs.know (t:=12) rfl hb
  have cd1:=hb;have cd1b:=hb;clear hb
  replace hs:=hs.pick (ts:=[2,4,6,7,12]) (L':=[(2,.bool ok),(4,.pointer (some ⟨b1,0,none⟩)),(6,.pointer (some ⟨b2,0,none⟩)),(7,.pointer (some ⟨c,0,none⟩)),(12,.bool true)]) (by kernel_rfl)
  refine oG (m:=4) (H:=[]) (ts:=[4,6,14,16]) (L':=[(4,.pointer (some ⟨b1,0,none⟩)),(6,.pointer (some ⟨b2,0,none⟩)),(14,.bool ok),(16,.pointer (some ⟨c,0,none⟩))]) (O:=fun w=>True) hs (by kernel_rfl) trivial ?_
  clear hs a;intro a hs
  refine pT hs (by kernel_rfl) (xQ (b:=c) (cs:= #[.bool b]) #[.bool ok] [(0,.bool ok)] [4,6] [(4,.pointer (some ⟨b1,0,none⟩)),(6,.pointer (some ⟨b2,0,none⟩))] hs hc (by kernel_rfl) ⟨Nat.le_of_ble_eq_true rfl,trivial,trivial⟩ rfl (by kernel_rfl) ?_)
  clear hs a;intro a w3 hc' hu hs
  replace hc:=hc';clear hc'
  replace B1:=hu.blk B1 (by omega)
  replace B2:=hu.blk B2 (by omega)
  replace hB:=n7 hB hu (by omega)
  clear hu
  refine mt (by kernel_rfl) ?_
  refine jF rfl ?_
  refine tt (j:=6) (by kernel_rfl) ?_
  refine jH (id:=2) (by kernel_rfl) ?_
  refine oG (m:=1) (H:=[(0,none,[.int .i64 x,.int .i64 y])]) (ts:=[6,17]) (L':=[(6,.pointer (some ⟨b2,0,none⟩)),(17,.agg #[.int .i64 x,.int .i64 y])]) (O:=fun w=>(w.cell? ⟨b1,0,none⟩=some (.int .i64 x))∧(w.cell? ⟨b1,1,none⟩=some (.int .i64 y))∧True) hs (by kernel_rfl) ⟨B1.cell 0 rfl,B1.cell 1 rfl,trivial⟩ ?_
  clear hs a;intro a hs
  refine pT hs (by kernel_rfl) (xQ (b:=b2) (cs:= #[.int .i64 0,.int .i64 0]) #[.int .i64 x,.int .i64 y] [(0,.int .i64 x),(1,.int .i64 y)] [6] [(6,.pointer (some ⟨b2,0,none⟩))] hs B2 (by kernel_rfl) ⟨Nat.le_of_ble_eq_true rfl,trivial,⟨Nat.le_of_ble_eq_true rfl,trivial,trivial⟩⟩ rfl (by kernel_rfl) ?_)
  clear hs a;intro a w4 B2' hu hs
  replace B2:=B2';clear B2'
  replace hc:=hu.blk hc (by omega)
  replace B1:=hu.blk B1 (by omega)
  replace hB:=n7 hB hu (by omega)
  clear hu
  refine mt (by kernel_rfl) ?_
  refine jF rfl ?_
  refine Gd (by kernel_rfl) ?_
  refine SX (vs:=[.agg #[.int .i64 x,.int .i64 y]]) (H:=[.int .i64 x,.int .i64 y]) (v:=.agg #[.int .i64 x,.int .i64 y]) (O:=fun w=>(w.cell? ⟨b2,0,none⟩=some (.int .i64 x))∧(w.cell? ⟨b2,1,none⟩=some (.int .i64 y))∧True) hs (by kernel_rfl) rfl ⟨B2.cell 0 rfl,B2.cell 1 rfl,trivial⟩ ?_
  exact⟨rfl,by rw[cd1];exact hc,hB⟩
 ·replace hs:=hs.know (t:=12) rfl hb
  have cd1:=hb;have cd1b:=hb;clear hb
  replace hs:=hs.pick (ts:=[2,4,6,7,12]) (L':=[(2,.bool ok),(4,.pointer (some ⟨b1,0,none⟩)),(6,.pointer (some ⟨b2,0,none⟩)),(7,.pointer (some ⟨c,0,none⟩)),(12,.bool false)]) (by kernel_rfl)
  refine oG (m:=4) (H:=[]) (ts:=[4,6,14,16]) (L':=[(4,.pointer (some ⟨b1,0,none⟩)),(6,.pointer (some ⟨b2,0,none⟩)),(14,.bool false),(16,.pointer (some ⟨c,0,none⟩))]) (O:=fun w=>True) hs (by kernel_rfl) trivial ?_
  clear hs a;intro a hs
  refine pT hs (by kernel_rfl) (xQ (b:=c) (cs:= #[.bool b]) #[.bool false] [(0,.bool false)] [4,6] [(4,.pointer (some ⟨b1,0,none⟩)),(6,.pointer (some ⟨b2,0,none⟩))] hs hc (by kernel_rfl) ⟨Nat.le_of_ble_eq_true rfl,trivial,trivial⟩ rfl (by kernel_rfl) ?_)
  clear hs a;intro a w5 hc' hu hs
  replace hc:=hc';clear hc'
  replace B1:=hu.blk B1 (by omega)
  replace B2:=hu.blk B2 (by omega)
  replace hB:=n7 hB hu (by omega)
  clear hu
  refine mt (by kernel_rfl) ?_
  refine jF rfl ?_
  refine tt (j:=6) (by kernel_rfl) ?_
  refine jH (id:=2) (by kernel_rfl) ?_
  refine oG (m:=1) (H:=[(0,none,[.int .i64 x,.int .i64 y])]) (ts:=[6,17]) (L':=[(6,.pointer (some ⟨b2,0,none⟩)),(17,.agg #[.int .i64 x,.int .i64 y])]) (O:=fun w=>(w.cell? ⟨b1,0,none⟩=some (.int .i64 x))∧(w.cell? ⟨b1,1,none⟩=some (.int .i64 y))∧True) hs (by kernel_rfl) ⟨B1.cell 0 rfl,B1.cell 1 rfl,trivial⟩ ?_
  clear hs a;intro a hs
  refine pT hs (by kernel_rfl) (xQ (b:=b2) (cs:= #[.int .i64 0,.int .i64 0]) #[.int .i64 x,.int .i64 y] [(0,.int .i64 x),(1,.int .i64 y)] [6] [(6,.pointer (some ⟨b2,0,none⟩))] hs B2 (by kernel_rfl) ⟨Nat.le_of_ble_eq_true rfl,trivial,⟨Nat.le_of_ble_eq_true rfl,trivial,trivial⟩⟩ rfl (by kernel_rfl) ?_)
  clear hs a;intro a w6 B2' hu hs
  replace B2:=B2';clear B2'
  replace hc:=hu.blk hc (by omega)
  replace B1:=hu.blk B1 (by omega)
  replace hB:=n7 hB hu (by omega)
  clear hu
  refine mt (by kernel_rfl) ?_
  refine jF rfl ?_
  refine Gd (by kernel_rfl) ?_
  refine SX (vs:=[.agg #[.int .i64 x,.int .i64 y]]) (H:=[.int .i64 x,.int .i64 y]) (v:=.agg #[.int .i64 x,.int .i64 y]) (O:=fun w=>(w.cell? ⟨b2,0,none⟩=some (.int .i64 x))∧(w.cell? ⟨b2,1,none⟩=some (.int .i64 y))∧True) hs (by kernel_rfl) rfl ⟨B2.cell 0 rfl,B2.cell 1 rfl,trivial⟩ ?_
  exact⟨rfl,by rw[cd1];exact hc,hB⟩
end Go.Proofs.YtlahabkjhgkkjaaGreat
namespace Go.Proofs.YtlahabkjhgkkjaaGreat
open Go.RowKit
noncomputable def tL:aL:=spN false true [tO,tO] (fun x=>decide (ok Rt 15000 x.1∧ok Rt 15000 x.2.1)) (fun x=>[RV.d tQ (hid (enc (suT (dec x.1) (dec x.2.1))))])
theorem tH:af Tryz.prog 220=true∧ao Tryz.prog 220 tL∧∀g,tL.mut_=some g→aK Tryz.prog 220 g:=aq (by kernel_rfl) fun x h=>by simp only[aj];exact VI x.1 x.2.1 (of_decide_eq_true h)
noncomputable def zv:aL:=spN false true [tR,tG,.bool] (fun x=>decide (ok Rat 100000 x.1∧prI x.2.1)) (fun x=>[RV.d tG (hid ((gb (aa x.1) x.2.1 x.2.2.1).1)),RV.d .bool ((gb (aa x.1) x.2.1 x.2.2.1).2)])
theorem CG:af Tryz.prog 291=true∧ao Tryz.prog 291 zv∧∀g,zv.mut_=some g→aK Tryz.prog 291 g:=aq (by kernel_rfl) fun x h=>by simp only[aj];exact WI x.1 x.2.1 x.2.2.1 (of_decide_eq_true h)
def Fz:aL:={keep:=true,tame:=true,run:=fun _ _ _=>none,mut_:=some ⟨true,fun l=>l,some 242⟩}
theorem T0:af Tryz.prog 279=true∧ao Tryz.prog 279 Fz∧∀g,Fz.mut_=some g→aK Tryz.prog 279 g:=by
 refine⟨by kernel_rfl,fun R args k r h=>(by cases h),fun g h=>?_⟩
 injection h with h
 subst h
 exact Ma
noncomputable def NX:Env:=[(76,fS),(148,gg),(149,iD),(147,gQ),(202,lM),(296,t5),(99,je),(83,fP),(71,np),(219,nH),(220,tL),(260,yX),(294,tv),(281,tw),(283,rR),(290,uo),(303,ux),(302,um),(297,xu),(282,tk),(280,yC),(259,p6),(284,sS),(291,zv),(279,Fz)]
theorem Pp:EnvAll Tryz.prog NX:=⟨d7,dY,fI,eO,jM,ut,gH,ec,l6,lD,tH,Dk,rY,sh,uy,sA,rZ,tK,Cm,tY,CX,n5,tb,CG,T0,trivial⟩
def TQ:NT:=[((252,5),{keep:=[1,4,13,14,17,20,21,24],hl:=0}),((252,7),{keep:=[1,4,5,25,26,29,32,33,36],hl:=0})]
noncomputable def TC:Ctx:=⟨Tryz.prog,ft,tys,NX,TQ⟩
noncomputable def Jc(_k:KT)(q:BQ):Option (List RV):=let y1:=frF (aa q.2.2.2.2.1);let y2:=ok Rat 200000 q.2.2.2.2.2;let y3:=frF (aa q.2.2.2.2.2);let y4:=sqF (hid (y3.1));let y5:=hid ((frF (aa q.2.1)).1);let y6:=hid ((sqF (hid (y1.1))).1);let y7:=frF (aa q.2.2.1);let y8:=frF (aa q.2.2.2.1);let y9:=co y6 (hid (y4.1));let y10:=co (hid (y7.1)) (hid (y4.1));let y11:=co (hid (y8.1)) (hid (y9.1));let y12:=hid ((frF (aa q.1)).1);let y13:=hid ((co y5 y6).1);let y14:=hid ((cQ y12 y13).1);let y15:=cQ (hid (y10.1)) (hid (y11.1));let y16:=cQ y14 (hid (y15.1));let y17:Option (List RV):=match decide (prI (hid (y3.1)))with|true=>some [RV.d (.int .i64) 0,RV.d .bool false]|false=>none;match decide (ok Rat 200000 q.2.2.2.2.1)with|true=>(match decide (prI (hid (y1.1)))with|true=>(match y1.2 with|true=>(match decide y2 with|true=>(match(sqF (hid (y1.1))).2 with|true=>(match decide (prI (hid (y3.1)))with|true=>(match y3.2 with|true=>(match !(y4.2)with|true=>some [RV.d (.int .i64) 0,RV.d .bool false]|false=>(match decide (ok Rat 200000 q.2.1)with|true=>(match decide (prI y5∧prI y6)with|true=>(match decide (ok Rat 200000 q.2.2.1)with|true=>(match decide (prI (hid (y7.1))∧prI (hid (y4.1)))with|true=>(match decide (ok Rat 200000 q.2.2.2.1)with|true=>(match decide (prI y6∧prI (hid (y4.1)))with|true=>(match decide (prI (hid (y8.1))∧prI (hid (y9.1)))with|true=>(match !(((((((y4.2&&(frF (aa q.2.1)).2)&&(co y5 y6).2)&&y7.2)&&y10.2)&&y8.2)&&y9.2)&&y11.2)with|true=>some [RV.d (.int .i64) 0,RV.d .bool false]|false=>(match decide (ok Rat 200000 q.1)with|true=>(match decide (prI y12∧prI y13)with|true=>(match decide (prI (hid (y10.1))∧prI (hid (y11.1)))with|true=>(match decide (prI y14∧prI (hid (y15.1)))with|true=>(match !(((((((((((y4.2&&(frF (aa q.2.1)).2)&&(co y5 y6).2)&&y7.2)&&y10.2)&&y8.2)&&y9.2)&&y11.2)&&(frF (aa q.1)).2)&&(cQ y12 y13).2)&&y15.2)&&y16.2)with|true=>some [RV.d (.int .i64) 0,RV.d .bool false]|false=>some [RV.d (.int .i64) ((sgF (hid (y16.1))).1),RV.d .bool ((sgF (hid (y16.1))).2)])|false=>none)|false=>none)|false=>none)|false=>none))|false=>none)|false=>none)|false=>none)|false=>none)|false=>none)|false=>none)|false=>none))|false=>some [RV.d (.int .i64) 0,RV.d .bool false])|false=>none)|false=>y17)|false=>none)|false=>(match decide y2 with|true=>y17|false=>none))|false=>none)|false=>none
theorem aeq(q:BQ){rX:List RV}(hX:∃nX,Jc (TC.k nX) q=some rX):TC.Res 252 [.d tQ q] rX:=aO (t:=fun k=>Jc k q) (fun k=>show go2 Tryz.prog ft tys NX TQ k 4000 (az 252 [.d tQ q]) (.node 0)=Jc k q by kernel_rfl) hX
theorem W4(q:BQ)(h:okQ q):Con Tryz.prog 252 [.d tQ q] [.d (.int .i64) ((quF (dec q)).1),.d .bool ((quF (dec q)).2)]:=by
 refine Ctx.Res.con (C:=TC) (au Pp) (aeq _ ⟨0,?_⟩) (fn:=Tryz.f252) (by kernel_rfl) (by kernel_rfl)
 obtain⟨A,B,C,D,M,N,rfl,bA,bB,bC,bD,bM,bN,hM,hN⟩:=Hw h
 rw[ak]
 have pf:∀q,prI (frF q).1:=RE.frF_pr
 have pm:∀a b,prI (co a b).1:=n9
 have ps:∀q,prI (sqF (frF q).1).1:=fun q=>RE.sqF_pr (pf q)
 have pa:∀{a b},prI a→prI b→prI (cQ a b).1:=fun ha hb=>RE.addF_pr ha hb
 have d1:∀q,decide (prI (frF q).1)=true:=fun q=>dT (pf q)
 have d2:∀q m,decide (prI (frF q).1∧prI (sqF (frF m).1).1)=true:=fun q m=>dT ⟨pf q,ps m⟩
 have d3:∀q m,decide (prI (sqF (frF q).1).1∧prI (sqF (frF m).1).1)=true:=fun q m=>dT ⟨ps q,ps m⟩
 have d4:∀q a b,decide (prI (frF q).1∧prI (co a b).1)=true:=fun q a b=>dT ⟨pf q,pm a b⟩
 have d5:∀a b c d,decide (prI (co a b).1∧prI (co c d).1)=true:=fun a b c d=>dT ⟨pm a b,pm c d⟩
 have d6:∀q a b c d e f,decide (prI (cQ (frF q).1 (co a b).1).1∧prI (cQ (co c d).1 (co e f).1).1)=true:=fun q a b c d e f=>dT ⟨pa (pf q) (pm a b),pa (pm c d) (pm e f)⟩
 unfold Jc
 simp only[aj,aR,aD,aw,aC,Bool.decide_and,Bool.and_self,Nat.reduceLeDiff,Bool.decide_and,dT (pf _),dT (pm _ _),dT (ps _),dT (pa (pf _) (pm _ _)),dT (pa (pm _ _) (pm _ _))]
 unfold quF qu1 qu2 qu3 quA quB sfF mfF
 generalize frF M=FM
 generalize frF N=FN
 generalize sqF FM.1=SM
 generalize sqF FN.1=SN
 generalize frF A=FA
 generalize frF B=FB
 generalize frF C=FC
 generalize frF D=FD
 generalize co FB.1 SM.1=MB
 generalize co FC.1 SN.1=MC
 generalize co SM.1 SN.1=MM
 generalize co FD.1 MM.1=MD
 generalize cQ FA.1 MB.1=A1
 generalize cQ MC.1 MD.1=A2
 generalize cQ A1.1 A2.1=A3
 generalize sgF A3.1=S
 obtain⟨_,fm⟩:=FM
 obtain⟨_,fn⟩:=FN
 obtain⟨_,sm⟩:=SM
 obtain⟨_,sn⟩:=SN
 cases fm<;>cases sm<;>cases fn<;>cases sn<;>try rfl
 dsimp only
 simp only[Bool.true_and,Bool.and_self]
 generalize (FB.2&&MB.2&&FC.2&&MC.2&&FD.2&&MM.2&&MD.2)=c2
 cases c2
 ·rfl
 ·simp only[Bool.true_and]
  generalize (FA.2&&A1.2&&A2.2&&A3.2)=c3
  cases c3<;>rfl
end Go.Proofs.YtlahabkjhgkkjaaGreat
namespace Go.Proofs.YtlahabkjhgkkjaaGreat
open Go.RowKit
namespace RE
theorem same_rad(a b c d r:RE):a-c+(b-d)*r=a+b*r-(c+d*r):=by
 induction a using Quotient.inductionOn
 induction b using Quotient.inductionOn
 induction c using Quotient.inductionOn
 induction d using Quotient.inductionOn
 induction r using Quotient.inductionOn
 exact snd fun n=>by
  simp only[RL.add,RL.mul,RL.neg]
  grind
theorem aaz(a b c:RE):a-b+c=a+c-b:=by
 induction a using Quotient.inductionOn
 induction b using Quotient.inductionOn
 induction c using Quotient.inductionOn
 exact snd fun n=>by
  simp only[RL.add,RL.neg]
  grind
theorem vR_rat(q:Rat):vR (q,0,0)=of q:=mo q 0
theorem cmpTR_re{x:Rt}{q:Rat}(h:0≤x.2.2):d9 x q=sg (vR x-of q):=by
 unfold d9 vR
 rw[sgn2_re h]
 unfold v2
 rw[of_sub,aaz]
end RE
theorem Rdd.rat{x:Rt}(h:Rdd x)(hb:x.2.1=0):x=(x.1,0,0):=by
 obtain⟨a,b,c⟩:=x
 rcases h.rd with h|h
 ·obtain⟨h1,h2⟩:=h
  simp only at h1 h2
  rw[h1,h2]
 ·exact absurd hb h.1
theorem Ov{x:Rt}{q:Rat}(h:Rdd x):bK x (q,0,0)=d9 x q:=by
 rw[RE.cmpT_re h.nn (by show(0:Rat)≤0;grind),RE.cmpTR_re h.nn,RE.vR_rat]
theorem W8{x y:Rt}(hx:Rdd x)(hy:Rdd y)(bx:x.2.1=0)(b_:y.2.1=0):bK x y=aQ x.1 y.1:=by
 rw[hx.rat bx,hy.rat b_,RE.cmpT_re (by show(0:Rat)≤0;grind) (by show(0:Rat)≤0;grind),RE.vR_rat,RE.vR_rat,←RE.of_sub,RE.sg_of,uj]
theorem YA{x y:Rt}(hx:Rdd x)(hy:Rdd y)(h:(apF x y).2=true):(apF x y).1=bK x y:=by
 rw[RE.apF_ok h,RE.cmpT_re hx.nn hy.nn]
theorem LW{x y:Rt}(hx:Rdd x)(hy:Rdd y)(h:x.2.2=y.2.2):eD (x.1-y.1) (x.2.1-y.2.1) x.2.2=bK x y:=by
 rw[RE.cmpT_re hx.nn hy.nn,RE.sgn2_re hx.nn]
 unfold RE.vR RE.v2
 rw[RE.of_sub,RE.of_sub,RE.same_rad,h]
theorem abj{A B C D M N:Rat}(hM:0≤M)(hN:0≤N)(h:(quF (A,B,C,D,M,N)).2=true):(quF (A,B,C,D,M,N)).1=sgQ (A,B,C,D,M,N):=by
 rw[RE.quF_ok (q:=(A,B,C,D,M,N)) hM hN h]
 exact(RE.sgnQ_re hM hN).symm
noncomputable def wj:Env:=[(149,iD),(148,gg),(99,je),(147,gQ),(83,fP),(76,fS),(71,np),(219,nH),(220,tL),(259,p6)]
theorem sf:EnvAll Tryz.prog wj:=⟨fI,dY,gH,eO,ec,d7,l6,lD,tH,n5,trivial⟩
noncomputable def Gj:Ctx:=⟨Tryz.prog,ft,tys,wj,[]⟩
noncomputable def w7(_k:KT)(a:BR)(b:BR):Option (List RV):=match decide (okR a∧okR b)with|true=>some [RV.d tR (hid (ae (aa a+aa b)))]|false=>none
theorem abs(a:BR)(b:BR){rX:List RV}(hX:∃nX,w7 (Gj.k nX) a b=some rX):Gj.Res 253 [.d tR a,.d tR b] rX:=aO (t:=fun k=>w7 k a b) (fun k=>show go2 Tryz.prog ft tys wj [] k 4000 (az 253 [.d tR a,.d tR b]) (.node 0)=w7 k a b by kernel_rfl) hX
theorem RU(a:BR)(b:BR)(h:okR a∧okR b):Con Tryz.prog 253 [.d tR a,.d tR b] [.d tR (ae (aa a+aa b))]:=by
 refine Ctx.Res.con (C:=Gj) (au sf) (abs _ _ ⟨0,?_⟩) (fn:=Tryz.f253) (by kernel_rfl) (by kernel_rfl)
 unfold w7
 rw[dT h,aj]
noncomputable def Pw:Ctx:=⟨Tryz.prog,ft,tys,wj,[]⟩
noncomputable def KV(_k:KT)(a:BO3)(b:BO3):Option (List RV):=match decide (ok Rt 100000 a)with|true=>(match decide (ok Rt 100000 b)with|true=>(match !((bF (dec a)).2)with|true=>some [RV.d (.int .i64) 0,RV.d .bool false]|false=>(match !((bF (dec b)).2)with|true=>some [RV.d (.int .i64) 0,RV.d .bool false]|false=>(match decide (((hid ((bF (dec a)).1)).2)<((hid ((bF (dec b)).1)).1))with|true=>some [RV.d (.int .i64) (-1),RV.d .bool true]|false=>(match decide (((hid ((bF (dec a)).1)).1)>((hid ((bF (dec b)).1)).2))with|true=>some [RV.d (.int .i64) 1,RV.d .bool true]|false=>some [RV.d (.int .i64) 0,RV.d .bool false]))))|false=>none)|false=>none
theorem acE(a:BO3)(b:BO3){rX:List RV}(hX:∃nX,KV (Pw.k nX) a b=some rX):Pw.Res 218 [.d tO a,.d tO b] rX:=aO (t:=fun k=>KV k a b) (fun k=>show go2 Tryz.prog ft tys wj [] k 4000 (az 218 [.d tO a,.d tO b]) (.node 0)=KV k a b by kernel_rfl) hX
theorem XK(a:BO3)(b:BO3)(h:ok Rt 100000 a∧ok Rt 100000 b):Con Tryz.prog 218 [.d tO a,.d tO b] [.d (.int .i64) ((apF (dec a) (dec b)).1),.d .bool ((apF (dec a) (dec b)).2)]:=by
 refine Ctx.Res.con (C:=Pw) (au sf) (acE _ _ ⟨0,?_⟩) (fn:=Tryz.f218) (by kernel_rfl) (by kernel_rfl)
 obtain⟨ha,hb⟩:=h
 obtain⟨a,rfl,ba⟩:=aS ha
 obtain⟨b,rfl,bb⟩:=aS hb
 unfold KV
 simp only[aj,ak,okd,Nat.reduceLeDiff]
 unfold apF
 generalize bF a=A
 generalize bF b=B
 obtain⟨⟨a1,a2⟩,p⟩:=A
 obtain⟨⟨b1,b2⟩,q⟩:=B
 cases p<;>cases q<;>try rfl
 dsimp only
 cases decide (a2<b1)<;>try rfl
 cases decide (a1>b2)<;>rfl
noncomputable def xH:aL:=spN false true [tR,tR] (fun x=>decide (okR x.1∧okR x.2.1)) (fun x=>[RV.d tR (hid (ae (aa x.1+aa x.2.1)))])
theorem NA:af Tryz.prog 253=true∧ao Tryz.prog 253 xH∧∀g,xH.mut_=some g→aK Tryz.prog 253 g:=aq (by kernel_rfl) fun x h=>by simp only[aj];exact RU x.1 x.2.1 (of_decide_eq_true h)
def w9:aL:=spN true true [tO,tO] (fun x=>decide (ok Rt 100000 x.1∧ok Rt 100000 x.2.1)) (fun x=>[RV.d (.int .i64) ((apF (dec x.1) (dec x.2.1)).1),RV.d .bool ((apF (dec x.1) (dec x.2.1)).2)])
theorem DD:af Tryz.prog 218=true∧ao Tryz.prog 218 w9∧∀g,w9.mut_=some g→aK Tryz.prog 218 g:=aq (by kernel_rfl) fun x h=>XK x.1 x.2.1 (of_decide_eq_true h)
def EL:aL:=spN true true [tQ] (fun x=>decide (okQ x.1)) (fun x=>[RV.d (.int .i64) ((quF (dec x.1)).1),RV.d .bool ((quF (dec x.1)).2)])
theorem TD:af Tryz.prog 252=true∧ao Tryz.prog 252 EL∧∀g,EL.mut_=some g→aK Tryz.prog 252 g:=aq (by kernel_rfl) fun x h=>W4 x.1 (of_decide_eq_true h)
noncomputable def UY:Env:=(253,xH)::(218,w9)::(252,EL)::wj
theorem PS:EnvAll Tryz.prog UY:=⟨NA,DD,TD,sf⟩
noncomputable def O8:Ctx:=⟨Tryz.prog,ft,tys,UY,[]⟩
noncomputable def Kz(_k:KT)(q:BQ):Option (List RV):=let y1:=aa q.2.2.2.2.1;let y2:=aQ (aa q.2.2.2.2.2) 0;let y3:=IntKind.i64.wrap ((eD (aa q.2.2.1) (aa q.2.2.2.1) y1)*y2);let y4:=eD (aa q.1) (aa q.2.1) y1;let y5:=hid (ae (aa q.2.1*aa q.2.1));let y6:=hid (ae (aa q.1*aa q.1));let y7:=hid (ae (aa q.2.2.2.2.1*aa y5));let y8:=hid (ae (aa q.2.2.2.1*aa q.2.2.2.1));let y9:=hid (ae (aa q.2.2.1*aa q.2.2.1));let y10:=hid (ae (aa q.2.2.2.2.1*aa y8));let y11:=hid (ae (aa y9+aa y10));let y12:=hid (ae (aa y6+aa y7));let y13:=hid (ae (aa q.2.2.2.2.2*aa y11));let y14:=hid (ae (aa q.2.2.1*aa q.2.2.2.1));let y15:=hid (ae (aa q.1*aa q.2.1));let y16:=hid (ae (aa q.2.2.2.2.2*aa y14));let y17:=hid (ae (aa y15-aa y16));let y18:=hid (ae (aa y12-aa y13));let y19:=hid (ae (aa y17+aa y17));let y20:Option (List RV):=match decide (okR y15∧okR y16)with|true=>(match decide (okR y17∧okR y17)with|true=>(match decide (ok Rat 240000 y18∧ok Rat 170000 y19∧ok Rat 30000 q.2.2.2.2.1)with|true=>some [RV.d (.int .i64) (IntKind.i64.wrap (y4*(eD (aa y18) (aa y19) y1)))]|false=>none)|false=>none)|false=>none;let y21:Option (List RV):=match decide (okR q.2.2.2.2.2∧okR y14)with|true=>y20|false=>none;let y22:Option (List RV):=match decide (okR q.2.2.1∧okR q.2.2.2.1)with|true=>y21|false=>none;let y23:Option (List RV):=match decide (okR y12∧okR y13)with|true=>cA (match decide (okR q.1∧okR q.2.1)with|true=>cA (match decide (okR q.2.2.1∧okR q.2.2.2.1)with|true=>cA (match decide (okR q.2.2.2.2.2∧okR y14)with|true=>dup (.b .l .l) y20|false=>none) y21|false=>none) y22|false=>none) (match decide (okR q.1∧okR q.2.1)with|true=>y22|false=>none)|false=>none;let y24:Option (List RV):=match decide (okR q.2.2.2.2.2∧okR y11)with|true=>y23|false=>none;let y25:Option (List RV):=match decide (okR y9∧okR y10)with|true=>y24|false=>none;let y26:Option (List RV):=match decide (okR q.2.2.2.2.1∧okR y8)with|true=>y25|false=>none;let y27:Option (List RV):=match decide (okR q.2.2.2.1∧okR q.2.2.2.1)with|true=>y26|false=>none;let y28:Option (List RV):=match decide (okR q.2.2.1∧okR q.2.2.1)with|true=>y27|false=>none;let y29:Option (List RV):=match decide (okR y6∧okR y7)with|true=>y28|false=>none;let y30:Option (List RV):=match decide (okR q.2.2.2.2.1∧okR y5)with|true=>y29|false=>none;let y31:Option (List RV):=match decide (okR q.2.1∧okR q.2.1)with|true=>y30|false=>none;match decide (okR q.2.2.2.2.1)with|true=>(match decide ((aQ y1 0)<0)with|true=>some [RV.d (.int .i64) 0]|false=>(match decide (okR q.2.2.2.2.2)with|true=>(match decide (y2<0)with|true=>some [RV.d (.int .i64) 0]|false=>(match decide (okQ q)with|true=>(match(quF (dec q)).2 with|true=>some [RV.d (.int .i64) ((quF (dec q)).1)]|false=>(match decide (ok Rat 240000 q.1∧ok Rat 170000 q.2.1∧ok Rat 30000 q.2.2.2.2.1)with|true=>(match decide (ok Rat 240000 q.2.2.1∧ok Rat 170000 q.2.2.2.1∧ok Rat 30000 q.2.2.2.2.1)with|true=>(match decide (okR q.2.2.2.2.2)with|true=>(match y3==0 with|true=>some [RV.d (.int .i64) y4]|false=>(match y4==y3 with|true=>some [RV.d (.int .i64) y4]|false=>(match y4==0 with|true=>some [RV.d (.int .i64) y3]|false=>cA (match decide (okR q.1∧okR q.1)with|true=>cA (match decide (okR q.2.1∧okR q.2.1)with|true=>cA (match decide (okR q.2.2.2.2.1∧okR y5)with|true=>cA (match decide (okR y6∧okR y7)with|true=>cA (match decide (okR q.2.2.1∧okR q.2.2.1)with|true=>cA (match decide (okR q.2.2.2.1∧okR q.2.2.2.1)with|true=>cA (match decide (okR q.2.2.2.2.1∧okR y8)with|true=>cA (match decide (okR y9∧okR y10)with|true=>cA (match decide (okR q.2.2.2.2.2∧okR y11)with|true=>dup (.b .l .l) y23|false=>none) y24|false=>none) y25|false=>none) y26|false=>none) y27|false=>none) y28|false=>none) y29|false=>none) y30|false=>none) y31|false=>none) (match decide (okR q.1∧okR q.1)with|true=>y31|false=>none))))|false=>none)|false=>none)|false=>none))|false=>none))|false=>none))|false=>none
theorem acC(q:BQ){rX:List RV}(hX:∃nX,Kz (O8.k nX) q=some rX):O8.Res 199 [.d tQ q] rX:=aO (t:=fun k=>Kz k q) (fun k=>show go2 Tryz.prog ft tys UY [] k 4000 (az 199 [.d tQ q]) (.node 0)=Kz k q by kernel_rfl) hX
theorem X7(q:BQ)(h:okQ q):Con Tryz.prog 199 [.d tQ q] [.d (.int .i64) (sgQ (dec q))]:=by
 refine Ctx.Res.con (C:=O8) (au PS) (acC _ ⟨0,?_⟩) (fn:=Tryz.f199) (by kernel_rfl) (by kernel_rfl)
 obtain⟨A,B,C,D,M,N,rfl,bA,bB,bC,bD,bM,bN,hM,hN⟩:=Hw h
 have hh:decide (okQ (ae A,ae B,ae C,ae D,ae M,ae N))=true:=decide_eq_true h
 have hd:(dec ((ae A,ae B,ae C,ae D,ae M,ae N):BQ):Qd)=(A,B,C,D,M,N):=ak ((A,B,C,D,M,N):Qd)
 rw[ak]
 unfold Kz
 simp only[am,aJ,aj,aR,aD,aw,aC,aX,Bool.decide_and,Bool.and_self,Nat.reduceAdd,Nat.reduceLeDiff,n8,oJ,aN,hh,hd,decide_eq_false (show ¬M<0 by grind),decide_eq_false (show ¬N<0 by grind)]
 cases hq:(quF (A,B,C,D,M,N)).2
 ·try dsimp only
  refine(zS _ _ _).trans ?_
  unfold sgQ xm
  rw[decide_eq_false (show ¬M<0 by grind),decide_eq_false (show ¬N<0 by grind)]
  dsimp only[Bool.or_false,cond_false]
  rw[show A*B-N*(C*D)+(A*B-N*(C*D))=2*(A*B-N*(C*D)) by grind,show A*A+M*(B*B)-N*(C*C+M*(D*D))=A*A+B*B*M-N*(C*C+D*D*M) by grind]
  rfl
 ·try dsimp only
  rw[abj hM hN hq]
end Go.Proofs.YtlahabkjhgkkjaaGreat
namespace Go.Proofs.YtlahabkjhgkkjaaGreat
open Go.RowKit
def Hi:aL:=spN true true [tQ] (fun x=>decide (okQ x.1)) (fun x=>[RV.d (.int .i64) (sgQ (dec x.1))])
theorem Rj:af Tryz.prog 199=true∧ao Tryz.prog 199 Hi∧∀g,Hi.mut_=some g→aK Tryz.prog 199 g:=aq (by kernel_rfl) fun x h=>X7 x.1 (of_decide_eq_true h)
noncomputable def Lv:Env:=[(83,fP),(99,je),(147,gQ),(219,nH),(220,tL),(218,w9),(199,Hi),(71,np)]
theorem Do:EnvAll Tryz.prog Lv:=⟨ec,gH,eO,lD,tH,DD,Rj,l6,trivial⟩
noncomputable def ON:Ctx:=⟨Tryz.prog,ft,tys,Lv,[]⟩
noncomputable def Io(_k:KT)(a:BO3)(b:BO3):Option (List RV):=let y1:=apF (dec a) (dec b);let y2:=hid (ae (aa a.1-aa b.1));let y3:=hid (ae (aa a.2.1-aa b.2.1));let y4:=hid (enc (suT (dec a) (dec b)));let y5:Option (List RV):=match decide (ok Rt 100000 a∧ok Rt 100000 b)with|true=>(match y1.2 with|true=>some [RV.d (.int .i64) (y1.1)]|false=>(match decide (okR a.2.2∧okR b.2.2)with|true=>(match(aQ (aa a.2.2) (aa b.2.2))==0 with|true=>(match decide (okR a.1∧okR b.1)with|true=>(match decide (okR a.2.1∧okR b.2.1)with|true=>(match decide (ok Rat 240000 y2∧ok Rat 170000 y3∧ok Rat 30000 a.2.2)with|true=>some [RV.d (.int .i64) (eD (aa y2) (aa y3) (aa a.2.2))]|false=>none)|false=>none)|false=>none)|false=>(match decide (ok Rt 15000 a∧ok Rt 15000 b)with|true=>(match decide (okQ y4)with|true=>some [RV.d (.int .i64) (sgQ (dec y4))]|false=>none)|false=>none))|false=>none))|false=>none;match decide (okR a.2.1)with|true=>(match(aQ (aa a.2.1) 0)==0 with|true=>(match decide (okR b.2.1)with|true=>(match(aQ (aa b.2.1) 0)==0 with|true=>(match decide (okR a.1∧okR b.1)with|true=>some [RV.d (.int .i64) (aQ (aa a.1) (aa b.1))]|false=>none)|false=>y5)|false=>none)|false=>y5)|false=>none
theorem acI(a:BO3)(b:BO3){rX:List RV}(hX:∃nX,Io (ON.k nX) a b=some rX):ON.Res 146 [.d tO a,.d tO b] rX:=aO (t:=fun k=>Io k a b) (fun k=>show go2 Tryz.prog ft tys Lv [] k 4000 (az 146 [.d tO a,.d tO b]) (.node 0)=Io k a b by kernel_rfl) hX
theorem WA(a:BO3)(b:BO3)(h:okT 15000 a∧okT 15000 b):Con Tryz.prog 146 [.d tO a,.d tO b] [.d (.int .i64) (bK (dec a) (dec b))]:=by
 refine Ctx.Res.con (C:=ON) (au Do) (acI _ _ ⟨0,?_⟩) (fn:=Tryz.f146) (by kernel_rfl) (by kernel_rfl)
 obtain⟨ha,hb⟩:=h
 obtain⟨a,rfl,ba,ra⟩:=fJ ha
 obtain⟨b,rfl,bb,rb⟩:=fJ hb
 have na:Nn a.2.2:=inferInstance
 have nb:Nn b.2.2:=inferInstance
 have e:decide (okQ (enc (suT a b)))=true:=Zq (by decide) (by decide) (by decide) (by decide) (by decide) (by decide)
 have e1:=fun h1 h2=>W8 ra rb h1 h2
 have e2:=fun h=>YA ra rb h
 have e3:=fun h=>LW ra rb h
 unfold Io
 simp only[aj,ak,aF,aG,aD,aw,okd,aC,aX,Bool.decide_and,Bool.and_self,Nat.reduceAdd,Nat.reduceLeDiff,aP,e]
 by_cases ha:a.2.1=0
 ·by_cases hb:b.2.1=0
  ·rw[decide_eq_true ha,decide_eq_true hb,e1 ha hb]
  ·rw[decide_eq_true ha,decide_eq_false hb]
   dsimp only
   cases hq:(apF a b).2
   ·dsimp only
    by_cases hc:a.2.2=b.2.2
    ·rw[decide_eq_true hc,←e3 hc]
    ·rw[decide_eq_false hc];rfl
   ·dsimp only
    rw[e2 hq]
 ·rw[decide_eq_false ha]
  dsimp only
  cases hq:(apF a b).2
  ·dsimp only
   by_cases hc:a.2.2=b.2.2
   ·rw[decide_eq_true hc,←e3 hc]
   ·rw[decide_eq_false hc];rfl
  ·dsimp only
   rw[e2 hq]
def pc:aL:=spN true true [tO,tO] (fun x=>decide (okT 15000 x.1∧okT 15000 x.2.1)) (fun x=>[RV.d (.int .i64) (bK (dec x.1) (dec x.2.1))])
theorem nK:af Tryz.prog 146=true∧ao Tryz.prog 146 pc∧∀g,pc.mut_=some g→aK Tryz.prog 146 g:=aq (by kernel_rfl) fun x h=>WA x.1 x.2.1 (of_decide_eq_true h)
noncomputable def RS:Env:=(146,pc)::Lv
theorem QK:EnvAll Tryz.prog RS:=⟨nK,Do⟩
noncomputable def PH:Ctx:=⟨Tryz.prog,ft,tys,RS,[]⟩
noncomputable def JH(_k:KT)(a:BO3)(b:BR):Option (List RV):=match decide (okR b)with|true=>(match decide (okT 15000 a∧okT 15000 (hid (enc ((aa b,0,0):Rt))))with|true=>some [RV.d (.int .i64) (bK (dec a) (dec (hid (enc ((aa b,0,0):Rt)))))]|false=>none)|false=>none
theorem acR(a:BO3)(b:BR){rX:List RV}(hX:∃nX,JH (PH.k nX) a b=some rX):PH.Res 84 [.d tO a,.d tR b] rX:=aO (t:=fun k=>JH k a b) (fun k=>show go2 Tryz.prog ft tys RS [] k 4000 (az 84 [.d tO a,.d tR b]) (.node 0)=JH k a b by kernel_rfl) hX
theorem WM(a:BO3)(b:BR)(h:okT 15000 a∧ok Rat 15000 b):Con Tryz.prog 84 [.d tO a,.d tR b] [.d (.int .i64) (d9 (dec a) (aa b))]:=by
 refine Ctx.Res.con (C:=PH) (au QK) (acR _ _ ⟨0,?_⟩) (fn:=Tryz.f84) (by kernel_rfl) (by kernel_rfl)
 obtain⟨ha,hb⟩:=h
 obtain⟨a,rfl,ba,ra⟩:=fJ ha
 obtain⟨b,rfl,bb⟩:=aS hb
 unfold JH
 simp only[aj,ak,aD,aw,aX,Bool.decide_and,Bool.and_self,mx,Nat.reduceLeDiff,decide_true,decide_false,cond_true,cond_false,bH]
 rw[Ov ra]
end Go.Proofs.YtlahabkjhgkkjaaGreat
namespace Go.Proofs.YtlahabkjhgkkjaaGreat
section
variable {α:Type}
variable {lt:α→α→Prop}
end
section
variable {α:Type} (cmp:α→α→Int)
def pE(p q:Bool×α):Int:=bif p.1==q.1 then(bif p.1 then-cmp p.2 q.2 else cmp p.2 q.2)else(bif p.1 then-1 else 1)
def mX(f p:Bool×α):Int:=bif pE cmp p f==0 then 0 else bif decide (pE cmp p f>0)then 1 else 2
def By(n:Int):Int:=if n<0 then-1 else if n=0 then 0 else 1
def OG(f p q:Bool×α):Int:=bif mX cmp f p==mX cmp f q then By (pE cmp p q)else By (mX cmp f p-mX cmp f q)
def pH(p q:Bool×α):Int:=bif p.1==q.1 then(bif p.1 then-cmp p.2 q.2 else cmp p.2 q.2)else(bif q.1 then-1 else 1)
def Er(f p q:Bool×α):Int:=bif decide (pH cmp p f<0)==decide (pH cmp q f<0)then pH cmp p q else(bif decide (pH cmp q f<0)then-1 else 1)
variable {cmp} {β:Type} {cmq:β→β→Int}
end
def aaj(a b:Int):Bool:=a==0||b==0||a==b
namespace RE
end RE
end Go.Proofs.YtlahabkjhgkkjaaGreat
