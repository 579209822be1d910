/- The reference's integers: parts. -/
import Derived.Test.YtlahabkjhgkkjaaGreatY10
import Derived.Test.YtlahabkjhgkkjaaGreatY9
noncomputable section
namespace Go.Proofs.YtlahabkjhgkkjaaGreat
open Go.RowKit Go.IntKind
section
def Bk(a b:List Int):Prop:=(can a∧a.length≤1000000)∧(can b∧b.length≤1000000)∧b≠[]
instance (a b:List Int):Decidable (Bk a b):=by unfold Bk;infer_instance
def Hh:aO:=spN false false [ax7,ax9] (fun x=>decide (byP x.1 x.2.1)) (fun x=>[RV.d ax7 (ah (val x.1*x.2.1).toNat)])
theorem Dw:SpK 249 Hh:=spX fun x h=>abM x.1 x.2.1 (au0 h)
def SJ:Env:=[(185,oC),(190,qz),(189,rG),(186,oz),(249,Hh),(250,vh)]
theorem Ou:EnvAll Tryz.prog SJ:=⟨ky,oo,oO,kS,Dw,sX,trivial⟩
def acI:NT:=[((187,30),{keep:=[8,9,10,11,12,13,14],pure_:=[(11,.int .u32)],hl:=1}),((187,67),{keep:=[8,9,10,11,12,13,14,16,17],pure_:=[(17,.int .u32)],hl:=1}),((187,90),{keep:=[8,11,12,18,19,20],hl:=2})]
def iE:Ctx:=CX SJ acI
def jx(a b:List Int)(x1 x2:Int)(s11:List Int)(s14:Int)(r0:List Int):Cfg:=⟨187,[.blk 0,.seq 82],[(8,.d ax9 (u32.wrap (u64.wrap (Int.tdiv 1000000000 (u64.wrap ((u64.wrap x1)+1)))))),(9,.d ax7 (ah (val b*(u32.wrap (u64.wrap (Int.tdiv 1000000000 (u64.wrap ((u64.wrap x1)+1)))))).toNat)),(10,.d (.int .u64) (u64.wrap x2)),(11,.d ax7 s11),(12,.osl 0 1 ((0:Int).toNat) ((((ah (val a*(u32.wrap (u64.wrap (Int.tdiv 1000000000 (u64.wrap ((u64.wrap x1)+1)))))).toNat).length:Int):Int).toNat-(0:Int).toNat)),(13,.d ax7 (ah (val a*(u32.wrap (u64.wrap (Int.tdiv 1000000000 (u64.wrap ((u64.wrap x1)+1)))))).toNat)),(14,SI s14)],[.row 183 ax9 r0],0,[]⟩
def eJ(a b:List Int)(x1 x2:Int)(s11:List Int)(s14:Int)(r0:List Int)(x3 s16:Int)(s17:List Int):Cfg:=⟨187,[.blk 2,.seq 78,.blk 1,.seq 81,.lp 30,.blk 0,.seq 82],[(8,.d ax9 (u32.wrap (u64.wrap (Int.tdiv 1000000000 (u64.wrap ((u64.wrap x1)+1)))))),(9,.d ax7 (ah (val b*(u32.wrap (u64.wrap (Int.tdiv 1000000000 (u64.wrap ((u64.wrap x1)+1)))))).toNat)),(10,.d (.int .u64) (u64.wrap x2)),(11,.d ax7 (ah (val (([x3])++s11)).toNat)),(12,.osl 0 1 ((0:Int).toNat) ((((ah (val a*(u32.wrap (u64.wrap (Int.tdiv 1000000000 (u64.wrap ((u64.wrap x1)+1)))))).toNat).length:Int):Int).toNat-(0:Int).toNat)),(13,.d ax7 (ah (val a*(u32.wrap (u64.wrap (Int.tdiv 1000000000 (u64.wrap ((u64.wrap x1)+1)))))).toNat)),(14,SI s14),(16,.d (.int .u64) s16),(17,.d ax7 s17)],[.row 183 ax9 r0],0,[]⟩
def ro(a:List Int)(x1:Int)(s11 r0:List Int)(s18 s20:Int)(r1:List Int):Cfg:=⟨187,[.blk 4,.seq 105],[(8,.d ax9 (u32.wrap (u64.wrap (Int.tdiv 1000000000 (u64.wrap ((u64.wrap x1)+1)))))),(11,.d ax7 s11),(12,.osl 0 1 ((0:Int).toNat) ((((ah (val a*(u32.wrap (u64.wrap (Int.tdiv 1000000000 (u64.wrap ((u64.wrap x1)+1)))))).toNat).length:Int):Int).toNat-(0:Int).toNat)),(18,.d (.int .u64) s18),(19,.own 1),(20,SI s20)],[.row 183 ax9 r0,.row 183 ax9 r1],0,[]⟩
def HQ(a b:List Int)(k:KT):Option (List RV):=match decide ((a.length:Int)≤2)with|true=>(match decide ((b.length:Int)≤2)with|true=>(match decide (qh a)with|true=>(match decide (qh b)with|true=>(match decide (val b=(0:Int))with|true=>none|false=>(match decide (val b=(0:Int))with|true=>none|false=>(match decide (fX (u64.wrap (Int.tdiv (val a) (val b))))with|true=>(match decide (fX (Int.tmod (val a) (val b)))with|true=>some [RV.d ax7 (ah (u64.wrap (Int.tdiv (val a) (val b))).toNat),RV.d ax7 (ah (Int.tmod (val a) (val b)).toNat)]|false=>none)|false=>none)))|false=>none)|false=>none)|false=>(match bG b (i64.wrap ((b.length:Int)-1))with|some x1=>(match decide (u64.wrap ((u64.wrap x1)+1)=(0:Int))with|true=>none|false=>(match decide (byP b (u32.wrap (u64.wrap (Int.tdiv 1000000000 (u64.wrap ((u64.wrap x1)+1))))))with|true=>(match bG (ah (val b*(u32.wrap (u64.wrap (Int.tdiv 1000000000 (u64.wrap ((u64.wrap x1)+1)))))).toNat) (i64.wrap (((ah (val b*(u32.wrap (u64.wrap (Int.tdiv 1000000000 (u64.wrap ((u64.wrap x1)+1)))))).toNat).length:Int)-1))with|some x2=>(match decide ((0:Int)≤i64.wrap ((a.length:Int)+1)∧(i64.wrap ((a.length:Int)+1))*((4:Nat):Int)≤140737488355328∧i64.wrap ((a.length:Int)+1)≤140737488355328)with|true=>(match decide (byP a (u32.wrap (u64.wrap (Int.tdiv 1000000000 (u64.wrap ((u64.wrap x1)+1))))))with|true=>(match decide ((0:Int)≤0∧0≤((ah (val a*(u32.wrap (u64.wrap (Int.tdiv 1000000000 (u64.wrap ((u64.wrap x1)+1)))))).toNat).length:Int)∧((ah (val a*(u32.wrap (u64.wrap (Int.tdiv 1000000000 (u64.wrap ((u64.wrap x1)+1)))))).toNat).length:Int)≤((List.replicate (i64.wrap ((a.length:Int)+1)).toNat (0:Int)).length:Int))with|true=>k 30 (jx a b x1 x2 ([]) (i64.wrap (((ah (val a*(u32.wrap (u64.wrap (Int.tdiv 1000000000 (u64.wrap ((u64.wrap x1)+1)))))).toNat).length:Int)-1)) (List.replicate (i64.wrap ((a.length:Int)+1)).toNat (0:Int)))|false=>none)|false=>none)|false=>none)|none=>none)|false=>none))|none=>none))|false=>(match bG b (i64.wrap ((b.length:Int)-1))with|some x1=>(match decide (u64.wrap ((u64.wrap x1)+1)=(0:Int))with|true=>none|false=>(match decide (byP b (u32.wrap (u64.wrap (Int.tdiv 1000000000 (u64.wrap ((u64.wrap x1)+1))))))with|true=>(match bG (ah (val b*(u32.wrap (u64.wrap (Int.tdiv 1000000000 (u64.wrap ((u64.wrap x1)+1)))))).toNat) (i64.wrap (((ah (val b*(u32.wrap (u64.wrap (Int.tdiv 1000000000 (u64.wrap ((u64.wrap x1)+1)))))).toNat).length:Int)-1))with|some x2=>(match decide ((0:Int)≤i64.wrap ((a.length:Int)+1)∧(i64.wrap ((a.length:Int)+1))*((4:Nat):Int)≤140737488355328∧i64.wrap ((a.length:Int)+1)≤140737488355328)with|true=>(match decide (byP a (u32.wrap (u64.wrap (Int.tdiv 1000000000 (u64.wrap ((u64.wrap x1)+1))))))with|true=>(match decide ((0:Int)≤0∧0≤((ah (val a*(u32.wrap (u64.wrap (Int.tdiv 1000000000 (u64.wrap ((u64.wrap x1)+1)))))).toNat).length:Int)∧((ah (val a*(u32.wrap (u64.wrap (Int.tdiv 1000000000 (u64.wrap ((u64.wrap x1)+1)))))).toNat).length:Int)≤((List.replicate (i64.wrap ((a.length:Int)+1)).toNat (0:Int)).length:Int))with|true=>k 30 (jx a b x1 x2 ([]) (i64.wrap (((ah (val a*(u32.wrap (u64.wrap (Int.tdiv 1000000000 (u64.wrap ((u64.wrap x1)+1)))))).toNat).length:Int)-1)) (List.replicate (i64.wrap ((a.length:Int)+1)).toNat (0:Int)))|false=>none)|false=>none)|false=>none)|none=>none)|false=>none))|none=>none)
theorem Y3(a b:List Int):RS iE 187 [.d ax7 a,.d ax7 b] (HQ a b):=rsX
def ji(a b:List Int)(x1 x2:Int)(s11:List Int)(s14:Int)(r0:List Int)(k:KT):Option (List RV):=match decide (s14≥0)with|true=>(match bG (ah (val a*(u32.wrap (u64.wrap (Int.tdiv 1000000000 (u64.wrap ((u64.wrap x1)+1)))))).toNat) s14 with|some x3=>(match decide ((([x3]).length+s11.length)*4≤140737488355328∧([x3]).length+s11.length≤140737488355328)with|true=>(match decide (a9 (([x3])++s11))with|true=>(match decide (((ah (val (([x3])++s11)).toNat).length:Int)>((ah (val b*(u32.wrap (u64.wrap (Int.tdiv 1000000000 (u64.wrap ((u64.wrap x1)+1)))))).toNat).length:Int))with|true=>(match bG (ah (val (([x3])++s11)).toNat) ((ah (val b*(u32.wrap (u64.wrap (Int.tdiv 1000000000 (u64.wrap ((u64.wrap x1)+1)))))).toNat).length:Int)with|some x4=>(match decide (((ah (val (([x3])++s11)).toNat).length:Int)≥((ah (val b*(u32.wrap (u64.wrap (Int.tdiv 1000000000 (u64.wrap ((u64.wrap x1)+1)))))).toNat).length:Int))with|true=>(match bG (ah (val (([x3])++s11)).toNat) (i64.wrap (((ah (val b*(u32.wrap (u64.wrap (Int.tdiv 1000000000 (u64.wrap ((u64.wrap x1)+1)))))).toNat).length:Int)-1))with|some x5=>(match decide (u64.wrap x2=(0:Int))with|true=>none|false=>(match decide ((u64.wrap (Int.tdiv (u64.wrap ((u64.wrap ((u64.wrap x4)*1000000000))+(u64.wrap x5))) (u64.wrap x2)))>999999999)with|true=>(match decide (byP (ah (val b*(u32.wrap (u64.wrap (Int.tdiv 1000000000 (u64.wrap ((u64.wrap x1)+1)))))).toNat) (u32.wrap 999999999))with|true=>k 67 (eJ a b x1 x2 s11 s14 r0 x3 999999999 (ah (val (ah (val b*(u32.wrap (u64.wrap (Int.tdiv 1000000000 (u64.wrap ((u64.wrap x1)+1)))))).toNat)*(u32.wrap 999999999)).toNat))|false=>none)|false=>(match decide (byP (ah (val b*(u32.wrap (u64.wrap (Int.tdiv 1000000000 (u64.wrap ((u64.wrap x1)+1)))))).toNat) (u32.wrap (u64.wrap (Int.tdiv (u64.wrap ((u64.wrap ((u64.wrap x4)*1000000000))+(u64.wrap x5))) (u64.wrap x2)))))with|true=>k 67 (eJ a b x1 x2 s11 s14 r0 x3 (u64.wrap (Int.tdiv (u64.wrap ((u64.wrap ((u64.wrap x4)*1000000000))+(u64.wrap x5))) (u64.wrap x2))) (ah (val (ah (val b*(u32.wrap (u64.wrap (Int.tdiv 1000000000 (u64.wrap ((u64.wrap x1)+1)))))).toNat)*(u32.wrap (u64.wrap (Int.tdiv (u64.wrap ((u64.wrap ((u64.wrap x4)*1000000000))+(u64.wrap x5))) (u64.wrap x2))))).toNat))|false=>none)))|none=>none)|false=>(match decide (u64.wrap x2=(0:Int))with|true=>none|false=>(match decide ((u64.wrap (Int.tdiv (u64.wrap ((u64.wrap x4)*1000000000)) (u64.wrap x2)))>999999999)with|true=>(match decide (byP (ah (val b*(u32.wrap (u64.wrap (Int.tdiv 1000000000 (u64.wrap ((u64.wrap x1)+1)))))).toNat) (u32.wrap 999999999))with|true=>k 67 (eJ a b x1 x2 s11 s14 r0 x3 999999999 (ah (val (ah (val b*(u32.wrap (u64.wrap (Int.tdiv 1000000000 (u64.wrap ((u64.wrap x1)+1)))))).toNat)*(u32.wrap 999999999)).toNat))|false=>none)|false=>(match decide (byP (ah (val b*(u32.wrap (u64.wrap (Int.tdiv 1000000000 (u64.wrap ((u64.wrap x1)+1)))))).toNat) (u32.wrap (u64.wrap (Int.tdiv (u64.wrap ((u64.wrap x4)*1000000000)) (u64.wrap x2)))))with|true=>k 67 (eJ a b x1 x2 s11 s14 r0 x3 (u64.wrap (Int.tdiv (u64.wrap ((u64.wrap x4)*1000000000)) (u64.wrap x2))) (ah (val (ah (val b*(u32.wrap (u64.wrap (Int.tdiv 1000000000 (u64.wrap ((u64.wrap x1)+1)))))).toNat)*(u32.wrap (u64.wrap (Int.tdiv (u64.wrap ((u64.wrap x4)*1000000000)) (u64.wrap x2))))).toNat))|false=>none))))|none=>none)|false=>(match decide (((ah (val (([x3])++s11)).toNat).length:Int)≥((ah (val b*(u32.wrap (u64.wrap (Int.tdiv 1000000000 (u64.wrap ((u64.wrap x1)+1)))))).toNat).length:Int))with|true=>(match bG (ah (val (([x3])++s11)).toNat) (i64.wrap (((ah (val b*(u32.wrap (u64.wrap (Int.tdiv 1000000000 (u64.wrap ((u64.wrap x1)+1)))))).toNat).length:Int)-1))with|some x4=>(match decide (u64.wrap x2=(0:Int))with|true=>none|false=>(match decide ((u64.wrap (Int.tdiv (u64.wrap (0+(u64.wrap x4))) (u64.wrap x2)))>999999999)with|true=>(match decide (byP (ah (val b*(u32.wrap (u64.wrap (Int.tdiv 1000000000 (u64.wrap ((u64.wrap x1)+1)))))).toNat) (u32.wrap 999999999))with|true=>k 67 (eJ a b x1 x2 s11 s14 r0 x3 999999999 (ah (val (ah (val b*(u32.wrap (u64.wrap (Int.tdiv 1000000000 (u64.wrap ((u64.wrap x1)+1)))))).toNat)*(u32.wrap 999999999)).toNat))|false=>none)|false=>(match decide (byP (ah (val b*(u32.wrap (u64.wrap (Int.tdiv 1000000000 (u64.wrap ((u64.wrap x1)+1)))))).toNat) (u32.wrap (u64.wrap (Int.tdiv (u64.wrap (0+(u64.wrap x4))) (u64.wrap x2)))))with|true=>k 67 (eJ a b x1 x2 s11 s14 r0 x3 (u64.wrap (Int.tdiv (u64.wrap (0+(u64.wrap x4))) (u64.wrap x2))) (ah (val (ah (val b*(u32.wrap (u64.wrap (Int.tdiv 1000000000 (u64.wrap ((u64.wrap x1)+1)))))).toNat)*(u32.wrap (u64.wrap (Int.tdiv (u64.wrap (0+(u64.wrap x4))) (u64.wrap x2))))).toNat))|false=>none)))|none=>none)|false=>(match decide (u64.wrap x2=(0:Int))with|true=>none|false=>(match decide ((u64.wrap (Int.tdiv 0 (u64.wrap x2)))>999999999)with|true=>(match decide (byP (ah (val b*(u32.wrap (u64.wrap (Int.tdiv 1000000000 (u64.wrap ((u64.wrap x1)+1)))))).toNat) (u32.wrap 999999999))with|true=>k 67 (eJ a b x1 x2 s11 s14 r0 x3 999999999 (ah (val (ah (val b*(u32.wrap (u64.wrap (Int.tdiv 1000000000 (u64.wrap ((u64.wrap x1)+1)))))).toNat)*(u32.wrap 999999999)).toNat))|false=>none)|false=>(match decide (byP (ah (val b*(u32.wrap (u64.wrap (Int.tdiv 1000000000 (u64.wrap ((u64.wrap x1)+1)))))).toNat) (u32.wrap (u64.wrap (Int.tdiv 0 (u64.wrap x2)))))with|true=>k 67 (eJ a b x1 x2 s11 s14 r0 x3 (u64.wrap (Int.tdiv 0 (u64.wrap x2))) (ah (val (ah (val b*(u32.wrap (u64.wrap (Int.tdiv 1000000000 (u64.wrap ((u64.wrap x1)+1)))))).toNat)*(u32.wrap (u64.wrap (Int.tdiv 0 (u64.wrap x2))))).toNat))|false=>none)))))|false=>none)|false=>none)|none=>none)|false=>(match decide ((0:Int)≤(s11.length:Int)∧(s11.length:Int)*((4:Nat):Int)≤140737488355328∧(s11.length:Int)≤140737488355328)with|true=>k 90 (ro a x1 s11 r0 0 (i64.wrap ((s11.length:Int)-1)) (List.replicate ((s11.length:Int)).toNat (0:Int)))|false=>none)
theorem lO(a b:List Int)(x1 x2:Int)(s11:List Int)(s14:Int)(r0:List Int):RN iE 30 (jx a b x1 x2 s11 s14 r0) (ji a b x1 x2 s11 s14 r0):=rnX
def lS(a b:List Int)(x1 x2:Int)(s11:List Int)(s14:Int)(r0:List Int)(x3 s16:Int)(s17:List Int)(k:KT):Option (List RV):=match decide (oZ s17 (ah (val (([x3])++s11)).toNat))with|true=>(match decide ((ct (val s17) (val (ah (val (([x3])++s11)).toNat)))>0)with|true=>(match decide (lD s17 (ah (val b*(u32.wrap (u64.wrap (Int.tdiv 1000000000 (u64.wrap ((u64.wrap x1)+1)))))).toNat))with|true=>k 67 (eJ a b x1 x2 s11 s14 r0 x3 (u64.wrap (s16-1)) (ah (val s17-val (ah (val b*(u32.wrap (u64.wrap (Int.tdiv 1000000000 (u64.wrap ((u64.wrap x1)+1)))))).toNat)).toNat))|false=>none)|false=>(match decide (lD (ah (val (([x3])++s11)).toNat) s17)with|true=>(match true,decide ((0:Int)≤s14∧s14<(((((ah (val a*(u32.wrap (u64.wrap (Int.tdiv 1000000000 (u64.wrap ((u64.wrap x1)+1)))))).toNat).length:Int):Int).toNat-(0:Int).toNat:Nat):Int))with|true,true=>(match true,r0[(0:Int).toNat+(s14).toNat]? with|true,some _=>k 30 (jx a b x1 x2 (ah (val (ah (val (([x3])++s11)).toNat)-val s17).toNat) (i64.wrap (s14-1)) (r0.set ((0:Int).toNat+(s14).toNat) (u32.wrap s16)))|_,_=>none)|_,_=>none)|false=>none))|false=>none
theorem pB(a b:List Int)(x1 x2:Int)(s11:List Int)(s14:Int)(r0:List Int)(x3 s16:Int)(s17:List Int):RN iE 67 (eJ a b x1 x2 s11 s14 r0 x3 s16 s17) (lS a b x1 x2 s11 s14 r0 x3 s16 s17):=rnX
def pK(a:List Int)(x1:Int)(s11 r0:List Int)(s18 s20:Int)(r1:List Int)(k:KT):Option (List RV):=match decide (s20≥0)with|true=>(match bG s11 s20 with|some x2=>(match decide (u64.wrap (u32.wrap (u64.wrap (Int.tdiv 1000000000 (u64.wrap ((u64.wrap x1)+1)))))=(0:Int))with|true=>none|false=>(match bG r1 s20 with|some _=>(match true,r1[(s20).toNat]? with|true,some _=>(match decide (u64.wrap (u32.wrap (u64.wrap (Int.tdiv 1000000000 (u64.wrap ((u64.wrap x1)+1)))))=(0:Int))with|true=>none|false=>k 90 (ro a x1 s11 r0 (Int.tmod (u64.wrap ((u64.wrap (s18*1000000000))+(u64.wrap x2))) (u64.wrap (u32.wrap (u64.wrap (Int.tdiv 1000000000 (u64.wrap ((u64.wrap x1)+1))))))) (i64.wrap (s20-1)) (r1.set ((s20).toNat) (u32.wrap (u64.wrap (Int.tdiv (u64.wrap ((u64.wrap (s18*1000000000))+(u64.wrap x2))) (u64.wrap (u32.wrap (u64.wrap (Int.tdiv 1000000000 (u64.wrap ((u64.wrap x1)+1))))))))))))|_,_=>none)|none=>none))|none=>none)|false=>(match decide (a9 ((r0.drop ((0:Int).toNat)).take ((((ah (val a*(u32.wrap (u64.wrap (Int.tdiv 1000000000 (u64.wrap ((u64.wrap x1)+1)))))).toNat).length:Int):Int).toNat-(0:Int).toNat)))with|true=>(match decide (a9 r1)with|true=>some [RV.d ax7 (ah (val ((r0.drop ((0:Int).toNat)).take ((((ah (val a*(u32.wrap (u64.wrap (Int.tdiv 1000000000 (u64.wrap ((u64.wrap x1)+1)))))).toNat).length:Int):Int).toNat-(0:Int).toNat))).toNat),RV.d ax7 (ah (val r1).toNat)]|false=>none)|false=>none)
theorem yc(a:List Int)(x1:Int)(s11 r0:List Int)(s18 s20:Int)(r1:List Int):RN iE 90 (ro a x1 s11 r0 s18 s20 r1) (pK a x1 s11 r0 s18 s20 r1):=rnX
def qsc(x1:Int):Int:=u32.wrap (u64.wrap (Int.tdiv 1000000000 (u64.wrap ((u64.wrap x1)+1))))
theorem fQ(x1:Int):u32.wrap (u64.wrap (Int.tdiv 1000000000 (u64.wrap ((u64.wrap x1)+1))))=qsc x1:=by
 have h:∀y,qsc x1=y→y=qsc x1:=fun y e=>e.symm
 exact h _ rfl
theorem ajG{x:Int}(h1:1≤x)(h2:x<1000000000):qsc x=1000000000/(x+1)∧1≤qsc x∧qsc x<1000000000:=by
 have h3:1≤1000000000/(x+1):=Int.le_ediv_of_mul_le (by omega) (by omega)
 have h4:1000000000/(x+1)<1000000000:=awB (by omega) (by omega)
 unfold qsc
 rw[bO (x:=x) (by omega) (by omega),bO (x:=x+1) (by omega) (by omega),fN (by omega),bO (by omega) (by omega),cZ (by omega) (by omega)]
 exact⟨rfl,h3,h4⟩
theorem GP{v:Int}(h:0<v):∃(n:Nat) (x:Int),(ah v.toNat).length=n+1∧(ah v.toNat)[n]?=some x∧1≤x∧x<1000000000∧x*pw n≤v:=by
 have hne:ah v.toNat≠[]:=fun e=>by rw[ge]at e;omega
 rcases List.eq_nil_or_concat (ah v.toNat)with h0|⟨l,x,hx⟩
 ·exact absurd h0 hne
 ·have hv:=bL v.toNat
  have hc:=dQ v.toNat
  have hl:=co v.toNat
  rw[List.concat_eq_append]at hx
  rw[hx]at hv hc hl
  have hxx:=hl x (by simp)
  have hx0:x≠0:=fun e=>hc.2 (by simp[e])
  have hln:=aZ (l:=l) (fun y hy=>hl y (by simp[hy]))
  rw[dt]at hv
  simp only[val]at hv
  refine⟨l.length,x,by rw[hx];simp,by rw[hx];simp,by omega,hxx.2,?_⟩
  rw[awE]
  rw[aw1,axM]at hv
  omega
section
variable (a b:List Int) (x1 x2:Int) (V:Int) (hV:val b*qsc x1=V) (hs:1≤qsc x1∧qsc x1<1000000000) (hp:0<V) (hra:(ah (val a*qsc x1).toNat).length≤a.length+1) (ha:Lim a∧a.length≤1000000) (hL:(ah V.toNat).length≤1000001)
theorem Ux(hs:1≤qsc x1∧qsc x1<1000000000)(l r0:List Int)(hl:Lim l∧l.length≤2000000)(hr0:a9 r0)(hz0:∀k (hk:k<r0.length),(ah (val a*qsc x1).toNat).length≤k→r0[k]=0):∀(n:Nat) (c:Int) (r:List Int),n≤l.length→0≤c→c<qsc x1→Lim r→r.length=l.length→(∀k (hk:k<r.length),k<n→r[k]=0)→qsc x1*val r+pw n*c+val (l.take n)=val l→
  iE.Runs 90 (ro a x1 l r0 c ((n:Int)-1) r) [.d ax7 (ah (val r0).toNat),.d ax7 (ah (val l/qsc x1).toNat)]:=by
 have hsa:=hl.2
 have e64:u64.wrap (qsc x1)=qsc x1:=bO (by omega) (by omega)
 intro n
 induction n with
 |zero=>
  intro c r hn c0 c1 hr hlen hz hv
  simp only[lF,List.take_zero,val,awu,axM]at hv
  have e2:val l/qsc x1=val r:=by
   rw[←hv,axN,awN _ _ (by omega),awn c0 c1]
   omega
  have e3:=yi hz0
  have e4:a9 (r0.take (ah (val a*qsc x1).toNat).length):=⟨hr0.1.take _,by have:=hr0.2;rw[avU];omega⟩
  refine yc _ _ _ _ _ _ _ ⟨0,?_⟩
  unfold pK
  simp only[fQ,Int.toNat_zero,awA,awU,axL]
  rw[dF (by omega)]
  dsimp only
  rw[dT e4,dT (show a9 r from⟨hr,by omega⟩),e3,e2]
 |succ n ih=>
  intro c r hn c0 c1 hr hlen hz hv
  have hna:n<l.length:=by omega
  have hnr:n<r.length:=by omega
  have xa:=hl.1.get hna
  have hr0':=hz n hnr (by omega)
  have hcb:0≤c*1000000000+l[n]:=by omega
  have m0:=awe (c*1000000000+l[n]) (show qsc x1≠0 by omega)
  have m1:=avJ (c*1000000000+l[n]) (show 0<qsc x1 by omega)
  have md:=avS (c*1000000000+l[n]) (qsc x1)
  have d0:0≤(c*1000000000+l[n])/qsc x1:=av9 hcb (by omega)
  have d1:(c*1000000000+l[n])/qsc x1<1000000000:=by
   refine awB (by omega) ?_
   have:=avl (show c+1≤qsc x1 by omega) (show(0:Int)≤1000000000 by decide)
   rw[awE 1000000000 (qsc x1)]
   omega
  obtain⟨q,hq⟩:=ih ((c*1000000000+l[n])%qsc x1) (r.set n ((c*1000000000+l[n])/qsc x1)) (by omega) m0 m1 (hr.set n ⟨d0,d1⟩) (by simpa using hlen)
   (fun k hk hkn=>by rw[awv (by omega)];exact hz k (by simpa using hk) (by omega)) (by
    rw[eN hnr,hr0']
    rw[bj hna,cr]at hv
    grind)
  refine yc _ _ _ _ _ _ _ ⟨q,?_⟩
  unfold pK
  simp only[fQ]
  rw[show((n+1:Nat):Int)-1=(n:Int) by omega,dT (by omega),aD l n,au2 hna,e64,dF (show ¬qsc x1=0 by omega),aD r n,aS,au2 hnr]
  dsimp only
  rw[bO (x:=c*1000000000) (by omega) (by omega),bO (x:=l[n]) (by omega) (by omega),bO (x:=c*1000000000+l[n]) (by omega) (by omega),fN hcb,ir hcb,bO (x:=(c*1000000000+l[n])/qsc x1) (by omega) (by omega),cZ (x:=(c*1000000000+l[n])/qsc x1) (by omega) (by omega),bi (x:=(n:Int)-1) (by omega) (by omega)]
  exact hq
include hV hp hL in
theorem Gy{res:List RV}(i:Nat)(hi:i<(ah (val a*qsc x1).toNat).length)(r0 l:List Int)(hlr:r0.length=a.length+1)(hra:(ah (val a*qsc x1).toNat).length≤a.length+1)(x3 W:Int)(hW:val ([x3]++l)=W)(W0:0≤W)(hWl:(ah W.toNat).length≤1000002)
  (hout:iE.Runs 30 (jx a b x1 x2 (ah (W%V).toNat) ((i:Int)-1) (r0.set i (W/V))) res) (hi':(ah (val a*qsc x1).toNat).length≤2000000):
  ∀(d:Nat),d≤999999999→W<V*((d:Int)+1)→iE.Runs 67 (eJ a b x1 x2 l (i:Int) r0 x3 (d:Int) (ah (V*(d:Int)).toNat)) res:=by
 intro d
 have hsz:∀e:Nat,e≤999999999→(ah (V*(e:Int)).toNat).length≤1000002:=fun e he=>by
  refine cK (av2 (by omega) (by omega)) ?_
  have h1:V<pw 1000001:=by
   have:=cj (co V.toNat)
   rw[bL]at this
   have:=db hL
   omega
  rw[cr 1000001]
  have h2:V*(e:Int)≤V*999999999:=avg (by omega) (by omega)
  omega
 induction d with
 |zero=>
  intro _ hd
  obtain⟨q,hq⟩:=hout
  have hWV:W<V:=by simpa using hd
  rw[axb W0 hWV,awn W0 hWV]at hq
  refine pB _ _ _ _ _ _ _ _ _ _ ⟨q,?_⟩
  unfold lS
  simp only[fQ,hV,hW]
  rw[show(V*((0:Nat):Int)).toNat=0 by simp,dT (show oZ (ah 0) (ah W.toNat) from⟨⟨dQ _,by decide⟩,dQ _,by omega⟩),cf W0,xH,show val (ah 0)=0 from rfl,dF (show ¬W<0 by omega),dT (show lD (ah W.toNat) (ah 0) from⟨cM (by omega),cM (by decide),by rw[cf W0];exact W0⟩)]
  dsimp only
  rw[dT (show(0:Int)≤(i:Int)∧(i:Int)<((((ah (val a*qsc x1).toNat).length:Int).toNat-(0:Int).toNat:Nat):Int) by constructor<;>simp<;>omega)]
  rw[show(0:Int).toNat+((i:Int)).toNat=i by simp,au2 (by omega)]
  dsimp only
  rw[Int.sub_zero,bi (by omega) (by omega)]
  exact hq
 |succ d ih=>
  intro hd1 hd
  have hc:((d+1:Nat):Int)=(d:Int)+1:=by omega
  rw[hc]at hd
  have hV1:0≤V*((d:Int)+1):=av2 (by omega) (by omega)
  have hV0:0≤V*(d:Int):=av2 (by omega) (by omega)
  have hVd:V*((d:Int)+1)-V=V*(d:Int):=by grind
  have hs1:=hsz (d+1) (by omega)
  rw[hc]at hs1
  have k1:=bL V.toNat
  by_cases hg:W<V*((d:Int)+1)
  ·obtain⟨q,hq⟩:=ih (by omega) hg
   refine pB _ _ _ _ _ _ _ _ _ _ ⟨q,?_⟩
   unfold lS
   simp only[fQ,hV,hW]
   rw[hc,dT (show oZ (ah (V*((d:Int)+1)).toNat) (ah W.toNat) from⟨⟨dQ _,by omega⟩,dQ _,by omega⟩),cf W0,cf hV1,xH,dT hg,dT (show lD (ah (V*((d:Int)+1)).toNat) (ah V.toNat) from⟨cM (by omega),cM (by omega),by rw[cf hV1,cf (by omega)];omega⟩),cf (v:=V) (by omega),hVd,bO (by omega) (by omega),show(d:Int)+1-1=(d:Int) by omega]
   exact hq
  ·obtain⟨q,hq⟩:=hout
   have e1:W/V=(d:Int)+1:=by
    have:W=(W-V*((d:Int)+1))+V*((d:Int)+1):=by omega
    rw[this,awN _ _ (by omega),awn (by omega) (by grind)]
    omega
   have e2:W%V=W-V*((d:Int)+1):=by
    have:=avS W V
    rw[e1]at this
    omega
   rw[e1,e2]at hq
   refine pB _ _ _ _ _ _ _ _ _ _ ⟨q,?_⟩
   unfold lS
   simp only[fQ,hV,hW]
   rw[hc,dT (show oZ (ah (V*((d:Int)+1)).toNat) (ah W.toNat) from⟨⟨dQ _,by omega⟩,dQ _,by omega⟩),cf W0,cf hV1,xH,dF hg,dT (show lD (ah W.toNat) (ah (V*((d:Int)+1)).toNat) from⟨cM (by omega),cM (by omega),by rw[cf hV1,cf W0];omega⟩)]
   dsimp only
   rw[dT (show(0:Int)≤(i:Int)∧(i:Int)<((((ah (val a*qsc x1).toNat).length:Int).toNat-(0:Int).toNat:Nat):Int) by constructor<;>simp<;>omega)]
   rw[show(0:Int).toNat+((i:Int)).toNat=i by simp,au2 (by omega)]
   dsimp only
   rw[bi (by omega) (by omega),cZ (by omega) (by omega)]
   exact hq
end
end
section
def oe(k:Nat→Cfg→Option (List RV))(a b:List Int)(x1 x2:Int)(s11:List Int)(s14:Int)(r0:List Int)(x3 H:Int):Option (List RV):=match decide (u64.wrap x2=(0:Int))with|true=>none|false=>(match decide ((u64.wrap (Int.tdiv H (u64.wrap x2)))>999999999)with|true=>(match decide (byP (ah (val b*(u32.wrap (u64.wrap (Int.tdiv 1000000000 (u64.wrap ((u64.wrap x1)+1)))))).toNat) (u32.wrap 999999999))with|true=>k 67 (eJ a b x1 x2 s11 s14 r0 x3 999999999 (ah (val (ah (val b*(u32.wrap (u64.wrap (Int.tdiv 1000000000 (u64.wrap ((u64.wrap x1)+1)))))).toNat)*(u32.wrap 999999999)).toNat))|false=>none)|false=>(match decide (byP (ah (val b*(u32.wrap (u64.wrap (Int.tdiv 1000000000 (u64.wrap ((u64.wrap x1)+1)))))).toNat) (u32.wrap (u64.wrap (Int.tdiv H (u64.wrap x2)))))with|true=>k 67 (eJ a b x1 x2 s11 s14 r0 x3 (u64.wrap (Int.tdiv H (u64.wrap x2))) (ah (val (ah (val b*(u32.wrap (u64.wrap (Int.tdiv 1000000000 (u64.wrap ((u64.wrap x1)+1)))))).toNat)*(u32.wrap (u64.wrap (Int.tdiv H (u64.wrap x2))))).toNat))|false=>none))
theorem QC{W V H x p d:Int}(hx:1≤x)(hW:W<(H+1)*p)(hp:0<p)(hV:x*p≤V)(hd:H/x=d)(h0:0≤H):W<V*(d+1):=by
 have h1:=avS H x
 have h2:=avJ H (show 0<x by omega)
 have h3:0≤d:=by rw[←hd];exact av9 h0 (by omega)
 rw[hd]at h1
 have h4:H+1≤x*(d+1):=by grind
 have h5:=avl h4 (avH hp)
 have h6:=avl hV (show 0≤d+1 by omega)
 grind
theorem akT{A B s R q:Int}(hs:0<s)(h:A*s=R+B*s*q)(h0:0≤R)(h1:R<B*s):A/B=q∧A%B=R/s:=by
 have e:R=s*(A-B*q):=by grind
 have hm:R/s=A-B*q:=by rw[e];exact axc _ (by omega)
 have m0:0≤A-B*q:=by
  apply avp
  intro hc
  have:=avg (show A-B*q≤ -1 by omega) (avH hs)
  omega
 have m1:A-B*q<B:=by
  apply avp
  intro hc
  have:=avg (show B≤A-B*q by omega) (avH hs)
  grind
 have hA:A=(A-B*q)+B*q:=by omega
 constructor
 ·rw[hA,awN _ _ (by omega),awn (by omega) (by omega)];omega
 ·rw[hm,hA,awY,axb (by omega) (by omega)];omega
section
variable (a b:List Int) (x1 x2:Int) (V:Int) (hV:val b*qsc x1=V) (hs:1≤qsc x1∧qsc x1<1000000000) (hp:0<V) (hra:(ah (val a*qsc x1).toNat).length≤a.length+1) (ha:Lim a∧a.length≤1000000) (hL:(ah V.toNat).length≤1000001)
include hV hs hp hra ha hL in
theorem Ij(n:Nat)(hn:(ah V.toNat).length=n+1)(hx2:1≤x2∧x2<1000000000)(hxp:x2*pw n≤V):∀(i:Nat) (R:Int) (r0:List Int),i≤(ah (val a*qsc x1).toNat).length→0≤R→R<V→r0.length=a.length+1→Lim r0→
  (∀k (hk:k<r0.length),k<i→r0[k]=0)→(∀k (hk:k<r0.length),(ah (val a*qsc x1).toNat).length≤k→r0[k]=0)→val a*qsc x1=pw i*R+val ((ah (val a*qsc x1).toNat).take i)+V*val r0→
  iE.Runs 30 (jx a b x1 x2 (ah R.toNat) ((i:Int)-1) r0) [.d ax7 (ah (val a/val b).toNat),.d ax7 (ah (val a%val b).toNat)]:=by
 have hVp:V<pw 1000001:=by
  have:=cj (co V.toNat)
  rw[bL]at this
  have:=db hL
  omega
 have ha2:=ha.2
 intro i
 induction i with
 |zero=>
  intro R r0 _ R0 RV hlr hl _ hz he
  simp only[lF,List.take_zero,val,awu,axM]at he
  rw[←hV]at he
  obtain⟨e1,e2⟩:=akT (by omega) he R0 (by rw[hV];exact RV)
  have hRl:(ah R.toNat).length≤1000001:=cK R0 (by omega)
  obtain⟨q,hq⟩:=Ux a x1 hs (ah R.toNat) r0 ⟨co _,by omega⟩ ⟨hl,by omega⟩ hz (ah R.toNat).length 0 (List.replicate (ah R.toNat).length 0) (avb _) (by omega) (by omega) (Lim.rep _) (by simp) (fun k hk _=>by simp) (by simp[fV])
  rw[cf R0,←e2,←e1]at hq
  refine lO _ _ _ _ _ _ _ ⟨q,?_⟩
  unfold ji
  rw[dF (by omega)]
  dsimp only
  rw[dT (show(0:Int)≤((ah R.toNat).length:Int)∧((ah R.toNat).length:Int)*((4:Nat):Int)≤140737488355328∧((ah R.toNat).length:Int)≤140737488355328 from⟨by omega,by omega,by omega⟩),aS,bi (by omega) (by omega)]
  exact hq
 |succ i ih=>
  intro R r0 hi R0 RV hlr hl hz hz2 he
  have hiU:i<(ah (val a*qsc x1).toNat).length:=by omega
  have hx:=(co (val a*qsc x1).toNat).get hiU
  have hir:i<r0.length:=by omega
  have hr0:=hz i hir (by omega)
  have hWv:val ([(ah (val a*qsc x1).toNat)[i]]++ah R.toNat)=(ah (val a*qsc x1).toNat)[i]+1000000000*R:=by
   rw[dt,cf R0]
   simp[val,pw]
  generalize hxi:(ah (val a*qsc x1).toNat)[i]=x at hx hWv
  have W0:0≤x+1000000000*R:=by omega
  have WV:x+1000000000*R<1000000000*V:=by omega
  have hWl:(ah (x+1000000000*R).toNat).length≤n+2:=by
   refine cK W0 ?_
   have:=cj (co V.toNat)
   rw[bL,hn]at this
   rw[cr (n+1)]
   omega
  have hRl:(ah R.toNat).length≤1000001:=cK R0 (by omega)
  have q0:0≤(x+1000000000*R)/V:=av9 W0 (by omega)
  have q1:(x+1000000000*R)/V<1000000000:=awB hp (by omega)
  have m0:=awe (x+1000000000*R) (show V≠0 by omega)
  have m1:=avJ (x+1000000000*R) hp
  have md:=avS (x+1000000000*R) V
  have hout:=ih ((x+1000000000*R)%V) (r0.set i ((x+1000000000*R)/V)) (by omega) m0 m1 (by simpa using hlr) (hl.set i ⟨q0,q1⟩)
   (fun k hk hk'=>by rw[awv (by omega)];exact hz k (by simpa using hk) (by omega))
   (fun k hk hk'=>by rw[awv (by omega)];exact hz2 k (by simpa using hk) hk') (by
    rw[eN hir,hr0]
    rw[bj hiU,cr,hxi]at he
    grind)
  have hdig:=Gy a b x1 x2 V hV hp hL i hiU r0 (ah R.toNat) hlr hra x (x+1000000000*R) hWv W0 (by omega) hout (by omega)
  have htail:∀H:Int,0≤H→H<1000000000000000000→x+1000000000*R<(H+1)*pw n→∃q,oe (iE.k q) a b x1 x2 (ah R.toNat) ((i:Int)) r0 x H=some [.d ax7 (ah (val a/val b).toNat),.d ax7 (ah (val a%val b).toNat)]:=by
   intro H H0 H1 HW
   have d0:0≤H/x2:=av9 H0 (by omega)
   have d1:H/x2≤H:=awS _ H0
   have hbyV:∀d:Int,0≤d→d<1000000000→byP (ah V.toNat) d:=fun d h1 h2=>⟨⟨co _,by omega⟩,h1,h2⟩
   by_cases hc:H/x2>999999999
   ·obtain⟨q,hq⟩:=hdig 999999999 (avb _) (by rw[show V*(((999999999:Nat):Int)+1)=1000000000*V by omega];exact WV)
    refine⟨q,?_⟩
    unfold oe
    simp only[fQ,hV]
    rw[bO (x:=x2) (by omega) (by omega),dF (show ¬x2=0 by omega),fN H0,bO (x:=H/x2) (by omega) (by omega),dT hc,cZ (x:=999999999) (by decide) (by decide),dT (hbyV 999999999 (by decide) (by decide)),cf (v:=V) (by omega)]
    exact hq
   ·obtain⟨q,hq⟩:=hdig (H/x2).toNat (by omega) (by rw[show(((H/x2).toNat:Nat):Int)=H/x2 by omega];exact QC hx2.1 HW (ck n) hxp rfl H0)
    rw[show(((H/x2).toNat:Nat):Int)=H/x2 by omega]at hq
    refine⟨q,?_⟩
    unfold oe
    simp only[fQ,hV]
    rw[bO (x:=x2) (by omega) (by omega),dF (show ¬x2=0 by omega),fN H0,bO (x:=H/x2) (by omega) (by omega),dF hc,cZ (x:=H/x2) (by omega) (by omega),dT (hbyV (H/x2) (by omega) (by omega)),cf (v:=V) (by omega)]
    exact hq
  have hWlim:=co (x+1000000000*R).toNat
  have hWval:=cf W0
  have hsplit:=fA (ah (x+1000000000*R).toNat) n
  have htl:=cj (hWlim.take n)
  have hpre:∀H,val ((ah (x+1000000000*R).toNat).drop n)=H→x+1000000000*R<(H+1)*pw n:=by
   intro H hH
   rw[hH,hWval]at hsplit
   have hm:(ah (x+1000000000*R).toNat |>.take n).length≤n:=by rw[avU];omega
   have:=db hm
   rcases avt n (ah (x+1000000000*R).toNat).length with h|h
   ·rw[avG (by omega)]at hsplit
    rw[Int.add_mul,awE H,awu]
    omega
   ·rw[avY h]at hH
    have hH0:H=0:=by rw[←hH];rfl
    subst hH0
    rw[aw1]at hsplit
    omega
  have hstep:∀(H:Int) (q:Nat),oe (iE.k q) a b x1 x2 (ah R.toNat) ((i:Int)) r0 x H=some [.d ax7 (ah (val a/val b).toNat),.d ax7 (ah (val a%val b).toNat)]→True:=fun _ _ _=>trivial
  have hap:(([x]:List Int).length+(ah R.toNat).length)*4≤140737488355328∧([x]:List Int).length+(ah R.toNat).length≤140737488355328:=by simp only[avu];omega
  have hlS:a9 ([x]++ah R.toNat):=⟨(Lim.cons ⟨hx.1,hx.2⟩ Lim.nil).append (co _),by simp only[avT,avu];omega⟩
  have hw1:i64.wrap (((n+1:Nat):Int)-1)=((n:Nat):Int):=by rw[bi (by omega) (by omega)];omega
  rcases Nat.lt_trichotomy (ah (x+1000000000*R).toNat).length (n+1)with hc|hc|hc
  ·obtain⟨q,hq⟩:=htail 0 (by omega) (by omega) (hpre 0 (by rw[avY (by omega)];rfl))
   refine lO _ _ _ _ _ _ _ ⟨q,?_⟩
   unfold ji
   rw[dT (show((i+1:Nat):Int)-1≥0 by omega),show((i+1:Nat):Int)-1=(i:Int) by omega,fQ,aD,au2 hiU,hxi]
   dsimp only
   rw[dT hap,dT hlS,hWv,hV,hn]
   dsimp only
   rw[dF (show ¬((ah (x+1000000000*R).toNat).length:Int)>((n+1:Nat):Int) by omega),dF (show ¬((ah (x+1000000000*R).toNat).length:Int)≥((n+1:Nat):Int) by omega)]
   rw[←hV]
   exact hq
  ·have hget:(ah (x+1000000000*R).toNat)[n]?=some (ah (x+1000000000*R).toNat)[n]:=au2 (by omega)
   have hxn:=hWlim.get (show n<(ah (x+1000000000*R).toNat).length by omega)
   have hdrop:val ((ah (x+1000000000*R).toNat).drop n)=(ah (x+1000000000*R).toNat)[n]:=by
    rw[kC (by omega),avY (by omega)]
    simp[val]
   obtain⟨q,hq⟩:=htail (ah (x+1000000000*R).toNat)[n] hxn.1 (by omega) (hpre _ hdrop)
   refine lO _ _ _ _ _ _ _ ⟨q,?_⟩
   unfold ji
   rw[dT (show((i+1:Nat):Int)-1≥0 by omega),show((i+1:Nat):Int)-1=(i:Int) by omega,fQ,aD,au2 hiU,hxi]
   dsimp only
   rw[dT hap,dT hlS,hWv,hV,hn]
   dsimp only
   rw[dF (show ¬((ah (x+1000000000*R).toNat).length:Int)>((n+1:Nat):Int) by omega),dT (show((ah (x+1000000000*R).toNat).length:Int)≥((n+1:Nat):Int) by omega),hw1,aD (ah (x+1000000000*R).toNat) n,hget]
   dsimp only
   rw[Int.zero_add,bO (x:=(ah (x+1000000000*R).toNat)[n]) (by omega) (by omega),bO (x:=(ah (x+1000000000*R).toNat)[n]) (by omega) (by omega)]
   rw[←hV]
   exact hq
  ·have hget:(ah (x+1000000000*R).toNat)[n]?=some (ah (x+1000000000*R).toNat)[n]:=au2 (by omega)
   have hget1:(ah (x+1000000000*R).toNat)[n+1]?=some (ah (x+1000000000*R).toNat)[n+1]:=au2 (by omega)
   have hxn:=hWlim.get (show n<(ah (x+1000000000*R).toNat).length by omega)
   have hxn1:=hWlim.get (show n+1<(ah (x+1000000000*R).toNat).length by omega)
   have hdrop:val ((ah (x+1000000000*R).toNat).drop n)=(ah (x+1000000000*R).toNat)[n+1]*1000000000+(ah (x+1000000000*R).toNat)[n]:=by
    rw[kC (by omega),kC (by omega),avY (by omega)]
    simp only[val]
    omega
   obtain⟨q,hq⟩:=htail ((ah (x+1000000000*R).toNat)[n+1]*1000000000+(ah (x+1000000000*R).toNat)[n]) (by omega) (by omega) (hpre _ hdrop)
   refine lO _ _ _ _ _ _ _ ⟨q,?_⟩
   unfold ji
   rw[dT (show((i+1:Nat):Int)-1≥0 by omega),show((i+1:Nat):Int)-1=(i:Int) by omega,fQ,aD,au2 hiU,hxi]
   dsimp only
   rw[dT hap,dT hlS,hWv,hV,hn]
   dsimp only
   rw[dT (show((ah (x+1000000000*R).toNat).length:Int)>((n+1:Nat):Int) by omega),aD (ah (x+1000000000*R).toNat) (n+1),hget1]
   dsimp only
   rw[dT (show((ah (x+1000000000*R).toNat).length:Int)≥((n+1:Nat):Int) by omega),hw1,aD (ah (x+1000000000*R).toNat) n,hget]
   dsimp only
   rw[bO (x:=(ah (x+1000000000*R).toNat)[n+1]) (by omega) (by omega),bO (x:=(ah (x+1000000000*R).toNat)[n+1]*1000000000) (by omega) (by omega),bO (x:=(ah (x+1000000000*R).toNat)[n]) (by omega) (by omega),bO (x:=(ah (x+1000000000*R).toNat)[n+1]*1000000000+(ah (x+1000000000*R).toNat)[n]) (by omega) (by omega)]
   rw[←hV]
   exact hq
end
end
theorem Py(a b:List Int)(h:Bk a b):Con Tryz.prog 187 [.d ax7 a,.d ax7 b] [.d ax7 (ah (val a/val b).toNat),.d ax7 (ah (val a%val b).toNat)]:=by
 refine aR Ou (show iE.Res _ _ _ from ?_)
 obtain⟨⟨ha,sa⟩,⟨hb,sb⟩,hne⟩:=h
 have a0:=aZ ha.1
 have b0:0<val b:=em hb hne
 have hlen:=avO.2 hne
 have la:=cj ha.1
 have lb:=cj hb.1
 by_cases hsm:a.length≤2∧b.length≤2
 ·have p2:pw 2=1000000000000000000:=by decide
  have m1:=db hsm.1
  have m2:=db hsm.2
  have q0:0≤val a/val b:=av9 a0 (by omega)
  have q1:val a/val b≤val a:=awS _ a0
  have r0:=awe (val a) (show val b≠0 by omega)
  have r1:=avJ (val a) b0
  refine Y3 _ _ ⟨0,?_⟩
  unfold HQ
  rw[dT (show(a.length:Int)≤2 by omega),dT (show(b.length:Int)≤2 by omega),dT (show qh a from⟨⟨ha.1,by omega⟩,by omega⟩),dT (show qh b from⟨⟨hb.1,by omega⟩,by omega⟩),dF (show ¬val b=0 by omega),fN a0,ir a0,bO (x:=val a/val b) q0 (by omega),dT (show fX (val a/val b) from⟨q0,by omega⟩),dT (show fX (val a%val b) from⟨r0,by omega⟩)]
 ·obtain⟨n,hn⟩:∃n,b.length=n+1:=⟨b.length-1,by omega⟩
  have hbn:n<b.length:=by omega
  have ht:=r8 hb hn
  have hbl:=hb.1.get hbn
  obtain⟨hs0,hs1,hs2⟩:=ajG (x:=b[n]) ht hbl.2
  have hVp:0<val b*qsc b[n]:=Int.mul_pos b0 (by omega)
  have hVl:(ah (val b*qsc b[n]).toNat).length≤1000001:=by
   refine cK (by omega) ?_
   have h1:val b*qsc b[n]≤val b*999999999:=avg (by omega) (by omega)
   have h2:=db sb
   rw[cr 1000000]
   omega
  have hUl:(ah (val a*qsc b[n]).toNat).length≤a.length+1:=by
   refine cK (av2 a0 (by omega)) ?_
   have h1:val a*qsc b[n]≤val a*999999999:=avg (by omega) (by omega)
   rw[cr]
   omega
  obtain⟨m,x2,hm,hg,hx1,hx2,hxp⟩:=GP hVp
  obtain⟨q,hq⟩:=Ij a b b[n] x2 (val b*qsc b[n]) rfl ⟨hs1,hs2⟩ hVp hUl ⟨ha.1,sa⟩ hVl m hm ⟨hx1,hx2⟩ hxp (ah (val a*qsc b[n]).toNat).length 0 (List.replicate (a.length+1) 0) (avb _) (by omega) hVp (by simp) (Lim.rep _) (fun k hk _=>by simp) (fun k hk _=>by simp) (by
   rw[awc,cf (av2 a0 (by omega)),fV];omega)
  refine Y3 _ _ ⟨q,?_⟩
  have hw1:i64.wrap ((b.length:Int)-1)=(n:Int):=by rw[bi (by omega) (by omega)];omega
  have hx1w:¬u64.wrap (u64.wrap b[n]+1)=0:=by rw[bO (x:=b[n]) (by omega) (by omega),bO (by omega) (by omega)];omega
  have hbyb:byP b (qsc b[n]):=⟨⟨hb.1,by omega⟩,by omega,hs2⟩
  have hbya:byP a (qsc b[n]):=⟨⟨ha.1,by omega⟩,by omega,hs2⟩
  have hw2:i64.wrap (((m+1:Nat):Int)-1)=(m:Int):=by rw[bi (by omega) (by omega)];omega
  have hsub:(match bG b (i64.wrap ((b.length:Int)-1))with|some x1=>(match decide (u64.wrap ((u64.wrap x1)+1)=(0:Int))with|true=>none|false=>(match decide (byP b (qsc x1))with|true=>(match bG (ah (val b*(qsc x1)).toNat) (i64.wrap (((ah (val b*(qsc x1)).toNat).length:Int)-1))with|some x2=>(match decide ((0:Int)≤i64.wrap ((a.length:Int)+1)∧(i64.wrap ((a.length:Int)+1))*((4:Nat):Int)≤140737488355328∧i64.wrap ((a.length:Int)+1)≤140737488355328)with|true=>(match decide (byP a (qsc x1))with|true=>(match decide ((0:Int)≤0∧0≤((ah (val a*(qsc x1)).toNat).length:Int)∧((ah (val a*(qsc x1)).toNat).length:Int)≤((List.replicate (i64.wrap ((a.length:Int)+1)).toNat (0:Int)).length:Int))with|true=>(iE.k q) 30 (jx a b x1 x2 ([]) (i64.wrap (((ah (val a*(qsc x1)).toNat).length:Int)-1)) (List.replicate (i64.wrap ((a.length:Int)+1)).toNat (0:Int)))|false=>none)|false=>none)|false=>none)|none=>none)|false=>none))|none=>none)=some [.d ax7 (ah (val a/val b).toNat),.d ax7 (ah (val a%val b).toNat)]:=by
   rw[hw1,aD,au2 hbn]
   dsimp only
   rw[dF hx1w,dT hbyb,hm,hw2,aD,hg]
   dsimp only
   rw[cD (k:=a.length) (by omega),qP (n:=a.length+1) (by omega),dT hbya,aS,axr,dT (show(0:Int)≤0∧(0:Int)≤((ah (val a*qsc b[n]).toNat).length:Int)∧((ah (val a*qsc b[n]).toNat).length:Int)≤((a.length+1:Nat):Int) from⟨by omega,by omega,by omega⟩),bi (x:=((ah (val a*qsc b[n]).toNat).length:Int)-1) (by omega) (by omega)]
   exact hq
  unfold HQ
  by_cases h1:a.length≤2
  ·rw[dT (show(a.length:Int)≤2 by omega),dF (show ¬(b.length:Int)≤2 by omega)]
   exact hsub
  ·rw[dF (show ¬(a.length:Int)≤2 by omega)]
   exact hsub
def Ly:aO:=spN false false [ax7,ax7] (fun x=>decide (Bk x.1 x.2.1)) (fun x=>[RV.d ax7 (ah (val x.1/val x.2.1).toNat),RV.d ax7 (ah (val x.1%val x.2.1).toNat)])
theorem NH:SpK 187 Ly:=spX fun x h=>Py x.1 x.2.1 (au0 h)
def uP:aO:=spN false false [ax8] (fun x=>decide (bg x.1)) (fun x=>[RV.d y2Y (aj x.1)])
theorem t5:SpK 134 uP:=spX fun x h=>F9 x.1 (au0 h)
def Mg:aO:=spN false false [y2Y,y2Y] (fun x=>decide (okI x.1∧okI x.2.1)) (fun x=>[RV.d y2Y (aj (ag x.1-ag x.2.1))])
theorem ND:SpK 257 Mg:=spX fun x h=>Ul x.1 x.2.1 (au0 h)
def Ja:Env:=[(185,oC),(190,qz),(189,rG),(186,oz),(249,Hh),(250,vh),(187,Ly),(134,uP),(257,Mg),(188,uG),(212,qC)]
theorem zY:EnvAll Tryz.prog Ja:=⟨ky,oo,oO,kS,Dw,sX,NH,t5,ND,so,n5,trivial⟩
def amT:Ctx:=CX Ja []
def VT(x y:Bool×List Int)(_k:KT):Option (List RV):=let y1:=ah (val x.2/val y.2).toNat;let y2:=ah (val x.2%val y.2).toNat;let y3:=aj (cp (!(x.1==y.1)) (val y1));let y4:=aj (cp x.1 (val y2));let y5:Option (List RV):=match decide ((y2.length:Int)>0)with|true=>(match !(x.1==y.1)with|true=>(match decide (bg (1:Int))with|true=>(match decide (okI y3∧okI (aj (1:Int)))with|true=>(match decide (okI y4∧okI y)with|true=>dup (.b .l .l) (some [RV.d y2Y (aj (ag y3-ag (aj (1:Int)))),RV.d y2Y (aj (ag y4+ag y)),RV.d ax8 0])|false=>none)|false=>none)|false=>none)|false=>dup (.b .l .l) (some [RV.d y2Y y3,RV.d y2Y y4,RV.d ax8 0]))|false=>dup (.b .l .l) (some [RV.d y2Y y3,RV.d y2Y y4,RV.d ax8 0]);let y6:Option (List RV):=match decide (a9 y2)with|true=>y5|false=>none;match(y.2.length:Int)==0 with|true=>some [RV.d y2Y (false,[]),RV.d y2Y (false,[]),RV.d ax8 6]|false=>(match decide (Bk x.2 y.2)with|true=>cQ (match decide (a9 y1)with|true=>cQ (match decide (a9 y2)with|true=>dup (.b .l .l) y5|false=>none) (dup (.b (.b .l .l) (.b .l .l)) y6)|false=>none) (dup (.b .l .l) (cQ (match decide (a9 y1)with|true=>dup (.b .l .l) y6|false=>none) (match decide (a9 y1)with|true=>y6|false=>none)))|false=>none)
theorem ajX(x y:Bool×List Int):RS amT 214 [.d y2Y x,.d y2Y y] (VT x y):=rsX
def acf:NT:=[((103,6),{keep:=[4,5,6],pure_:=[(5,.int .u32),(6,.int .u32)],hl:=3}),((103,29),{keep:=[4,9,10],hl:=3})]
def sO:Ctx:=CX Ja acf
def rS(x y:Bool×List Int)(s5 s6:List Int):Cfg:=⟨103,[.blk 0,.seq 17],[(4,.box 2 0),(5,.d ax7 s5),(6,.d ax7 s6)],[.box 33 [SB x.1,.d ax7 x.2],.box 33 [SB y.1,.d ax7 y.2],.box 33 [SB false,.nil]],0,[]⟩
def mU(x y:Bool×List Int)(s9 s10:Int):Cfg:=⟨103,[.blk 2,.seq 38],[(4,.box 2 0),(9,.d (.int .u64) s9),(10,.d (.int .u64) s10)],[.box 33 [SB x.1,.d ax7 x.2],.box 33 [SB y.1,.d ax7 y.2],.box 33 [SB false,.nil]],0,[]⟩
def aj2(x y:Bool×List Int)(k:KT):Option (List RV):=k 6 (rS x y x.2 y.2)
theorem amX(x y:Bool×List Int):RS sO 103 [.d y2Y x,.d y2Y y] (aj2 x y):=rsX
def oI(x y:Bool×List Int)(s5 s6:List Int)(k:KT):Option (List RV):=match decide ((s6.length:Int)>0)with|true=>(match decide ((s5.length:Int)>2)with|true=>(match decide (Bk s5 s6)with|true=>k 6 (rS x y s6 (ah (val s5%val s6).toNat))|false=>none)|false=>(match decide ((s6.length:Int)>2)with|true=>(match decide (Bk s5 s6)with|true=>k 6 (rS x y s6 (ah (val s5%val s6).toNat))|false=>none)|false=>(match(s6.length:Int)==0 with|true=>(match decide (a9 s5)with|true=>some [RV.d y2Y (aj (cp false (val s5)))]|false=>none)|false=>(match decide (qh s5)with|true=>(match decide (qh s6)with|true=>k 29 (mU x y (val s5) (val s6))|false=>none)|false=>none))))|false=>(match(s6.length:Int)==0 with|true=>(match decide (a9 s5)with|true=>some [RV.d y2Y (aj (cp false (val s5)))]|false=>none)|false=>(match decide (qh s5)with|true=>(match decide (qh s6)with|true=>k 29 (mU x y (val s5) (val s6))|false=>none)|false=>none))
theorem t8(x y:Bool×List Int)(s5 s6:List Int):RL sO 6 (rS x y s5 s6) (oI x y s5 s6):=rlX
def pu(x y:Bool×List Int)(s9 s10:Int)(k:KT):Option (List RV):=match decide (s10>0)with|true=>(match decide (s10=(0:Int))with|true=>none|false=>k 29 (mU x y s10 (Int.tmod s9 s10)))|false=>(match decide (fX s9)with|true=>(match decide (a9 (ah s9.toNat))with|true=>some [RV.d y2Y (aj (cp false (val (ah s9.toNat))))]|false=>none)|false=>none)
theorem xw(x y:Bool×List Int)(s9 s10:Int):RL sO 29 (mU x y s9 s10) (pu x y s9 s10):=rlX
theorem Qo(x y:Bool×List Int)(h:eT x y):Con Tryz.prog 214 [.d y2Y x,.d y2Y y] [.d y2Y (aj (ag x/ag y)),.d y2Y (aj (ag x%ag y)),.d ax8 0]:=by
 refine aR zY (ajX _ _ ⟨0,?_⟩)
 obtain⟨hx,hy,hp⟩:=h
 obtain⟨x0,x1,x2⟩:=cJ hx
 obtain⟨y0,y1,y2⟩:=cJ hy
 have sx:=hx.2.2
 have sy:=hy.2.2
 have ey:y.1=false:=by
  cases e:y.1
  ·rfl
  ·rw[bU,e]at hp
   simp only[cp,cond_true]at hp
   omega
 have dy:ag y=val y.2:=by rw[bU,ey];rfl
 rw[dy]at hp
 have hne:y.2≠[]:=fun e=>by rw[y2]at e;omega
 have hprt:Bk x.2 y.2:=⟨⟨hx.1,sx⟩,⟨hy.1,sy⟩,hne⟩
 have hylen:=avO.2 hne
 have r0:=awe (val x.2) (show val y.2≠0 by omega)
 have r1:=avJ (val x.2) hp
 have q0:0≤val x.2/val y.2:=av9 x0 y0
 have q1:val x.2/val y.2≤val x.2:=awS _ x0
 have vx:=cj hx.1.1
 have vy:=cj hy.1.1
 have mx:=db sx
 have my:=db sy
 have szq:szI (val x.2/val y.2)≤1000000:=eL (by have:=ck 1000000;omega) (by omega)
 have szr:szI (val x.2%val y.2)≤1000000:=eL (by have:=ck 1000000;omega) (by omega)
 have lq:(ah (val x.2/val y.2).toNat).length≤1000000:=cK q0 (by omega)
 have lr:(ah (val x.2%val y.2).toNat).length≤1000000:=cK r0 (by omega)
 unfold VT
 simp only[aP]
 rw[show((y.2.length:Int)==0)=false by simp;omega,dT hprt,dT (cM (n:=(val x.2/val y.2).toNat) (by omega)),dT (cM (n:=(val x.2%val y.2).toNat) (by omega)),dT (show bg 1 by decide),cf q0,cf r0,
  dT (show okI (aj (cp (!(x.1==y.1)) (val x.2/val y.2)))∧okI (aj (1:Int)) from⟨bk (by rw[AK];exact szq),nY⟩),dT (show okI (aj (cp x.1 (val x.2%val y.2)))∧okI y from⟨bk (by rw[AK];exact szr),hy⟩)]
 simp only[dec_enc,dy,au]
 rw[bU x,ey]
 have hlen:(((ah (val x.2%val y.2).toNat).length:Int)>0)↔0<val x.2%val y.2:=by
  constructor
  ·intro hl
   rcases avA 0 (val x.2%val y.2)with h|h
   ·exact h
   ·rw[show(val x.2%val y.2).toNat=0 by omega,eU]at hl
    simp at hl
  ·intro hl
   have:ah (val x.2%val y.2).toNat≠[]:=fun e=>by rw[ge]at e;omega
   have:=avO.2 this
   omega
 obtain⟨n1,n2⟩:=LW (a:=val x.2) (b:=val y.2) x0 hp
 rcases avA 0 (val x.2%val y.2)with hr|hr
 ·rw[dT (hlen.2 hr)]
  cases x.1
  ·rfl
  ·obtain⟨e1,e2⟩:=n2 hr
   simp only[cp,cond_true,Bool.not_false,show((true==false):Bool)=false from rfl]
   rw[e1,e2]
 ·rw[dF (fun h'=>by have:=hlen.1 h';omega)]
  dsimp only
  have e0:val x.2%val y.2=0:=by omega
  cases x.1
  ·simp only[cp,cond_false,show((false==false):Bool)=true from rfl,Bool.not_true]
  ·obtain⟨e1,e2⟩:=n1 e0
   simp only[cp,cond_true,Bool.not_false,show((true==false):Bool)=false from rfl]
   rw[e1,e2,e0]
   rfl
theorem Om(x y:BI)(B:Nat)(hB:(B:Int)<18446744073709551616):∀(v u:Nat),u≤B→v≤B→sO.RunsE 29 (mU x y (u:Int) (v:Int)) [.d y2Y (aj ((Nat.gcd u v:Nat):Int))]:=by
 intro v
 induction v using Nat.strongRecOn with
 |ind v ih=>
  intro u hu hv
  rcases avN v with h0|h0
  ·refine xw _ _ _ _ ⟨0,fun n _=>?_⟩
   have hp:fX (u:Int):=⟨by omega,by omega⟩
   have hl:(ah u).length≤3:=da (axo (show(u:Int)<18446744073709551616 by omega) (by decide))
   unfold pu
   rw[dF (show ¬(v:Int)>0 by omega),dT hp,awA,dT (cM (n:=u) (by omega)),bL,show Nat.gcd u v=u by rw[h0];exact Nat.gcd_zero_right u]
   rfl
  ·obtain⟨n0,hn⟩:=ih (u%v) (axK _ h0) v hv (avm (Nat.le_of_lt (axK _ h0)) hv)
   refine xw _ _ _ _ ⟨n0,fun n hn'=>?_⟩
   unfold pu
   rw[dT (show(v:Int)>0 by omega),dF (show ¬(v:Int)=0 by omega),ir (by omega)]
   dsimp only
   rw[show((u:Int)%(v:Int))=((u%v:Nat):Int) by simp,aw2 u v,Nat.gcd_rec v u,aw2]
   exact hn n hn'
theorem JK{u:Nat}(h:(ah u).length≤2):(u:Int)<1000000000000000000:=by
 have h1:=cj (co u)
 rw[bL]at h1
 have h2:=db h
 have:pw 2=1000000000000000000:=by decide
 omega
theorem Mp(x y:BI):∀(v u:Nat),(ah u).length≤1000000→(ah v).length≤1000000→
  sO.RunsE 6 (rS x y (ah u) (ah v)) [.d y2Y (aj ((Nat.gcd u v:Nat):Int))]:=by
 intro v
 induction v using Nat.strongRecOn with
 |ind v ih=>
  intro u hu hv
  rcases avN v with h0|h0
  ·refine t8 _ _ _ _ ⟨0,fun n _=>?_⟩
   unfold oI
   rw[h0,Nat.gcd_zero_right,dF (show ¬((ah 0).length:Int)>0 by decide),show(((ah 0).length:Int)==0)=true by decide]
   dsimp only
   rw[dT (cM (n:=u) (by omega)),bL]
   rfl
  ·have hne:ah v≠[]:=fun e=>by rw[ge]at e;omega
   have hl:=avO.2 hne
   have hm:=axK u h0
   have hms:(ah (u%v)).length≤1000000:=da (by
    have:=cj (co v)
    rw[bL]at this
    have:=db hv
    omega)
   have hz:(((ah v).length:Int)==0)=false:=by simp;omega
   have hprt:Bk (ah u) (ah v):=⟨⟨dQ _,hu⟩,⟨dQ _,hv⟩,hne⟩
   have hmod:(val (ah u)%val (ah v)).toNat=u%v:=by rw[bL,bL];omega
   by_cases hsm:(ah u).length≤2∧(ah v).length≤2
   ·have lu:=JK hsm.1
    have lv:=JK hsm.2
    obtain⟨n0,hn⟩:=Om x y 1000000000000000000 (by decide) v u (by omega) (by omega)
    refine t8 _ _ _ _ ⟨n0,fun n hn'=>?_⟩
    unfold oI
    rw[dT (show((ah v).length:Int)>0 by omega),dF (show ¬((ah u).length:Int)>2 by omega),dF (show ¬((ah v).length:Int)>2 by omega),hz,dT (show qh (ah u) from⟨cM (by omega),by rw[bL];omega⟩),dT (show qh (ah v) from⟨cM (by omega),by rw[bL];omega⟩),bL,bL]
    exact hn n hn'
   ·obtain⟨n0,hn⟩:=ih (u%v) hm v hv hms
    refine t8 _ _ _ _ ⟨n0,fun n hn'=>?_⟩
    have:=hn n hn'
    rw[show Nat.gcd v (u%v)=Nat.gcd u v by rw[aw2 u v,Nat.gcd_rec v u,aw2]]at this
    unfold oI
    rw[dT (show((ah v).length:Int)>0 by omega),dT hprt,hmod]
    by_cases h2:(ah u).length≤2
    ·rw[dF (show ¬((ah u).length:Int)>2 by omega),dT (show((ah v).length:Int)>2 by omega)]
     exact this
    ·rw[dT (show((ah u).length:Int)>2 by omega)]
     exact this
theorem FP(x y:Bool×List Int)(h:okI x∧okI y):Con Tryz.prog 103 [.d y2Y x,.d y2Y y] [.d y2Y (aj ((Int.gcd (ag x) (ag y):Nat):Int))]:=by
 refine aR zY (show sO.Res _ _ _ from ?_)
 obtain⟨hx,hy⟩:=h
 obtain⟨x0,_,_⟩:=cJ hx
 obtain⟨y0,_,_⟩:=cJ hy
 have ex:((ag x).natAbs:Int)=val x.2:=by rw[bU];unfold cp;cases x.1<;>simp<;>omega
 have ey:((ag y).natAbs:Int)=val y.2:=by rw[bU];unfold cp;cases y.1<;>simp<;>omega
 have cx:=nt hx.1
 have cy:=nt hy.1
 rw[show(val x.2).toNat=(ag x).natAbs by omega]at cx
 rw[show(val y.2).toNat=(ag y).natAbs by omega]at cy
 obtain⟨n1,h1⟩:=Mp x y (ag y).natAbs (ag x).natAbs (by rw[←cx];exact hx.2.2) (by rw[←cy];exact hy.2.2)
 rw[←cx,←cy]at h1
 exact amX _ _ ⟨n1,h1 n1 (avb _)⟩
section
abbrev tI:Ty:=.st (.pair .bool ax7)
abbrev tR:Ty:=.st (.pair tI tI)
abbrev tV:Ty:=.st (.pair tR tR)
abbrev tO:Ty:=.st (.pair tR (.pair tR tR))
abbrev tP:Ty:=.st (.pair tR (.pair tR (.pair tR (.pair tR tR))))
abbrev tQ:Ty:=.st (.pair tR (.pair tR (.pair tR (.pair tR (.pair tR tR)))))
abbrev tG:Ty:=.st (.pair ax8 ax8)
abbrev BV:=BR×BR
abbrev BO3:=BR×BR×BR
abbrev BP:=BR×BR×BR×BR×BR
abbrev BQ:=BR×BR×BR×BR×BR×BR
def hid{α:Type}(x:α):α:=Classical.choose (⟨x,rfl⟩:∃y,y=x)
theorem ak{α:Type}(x:α):hid x=x:=awi (⟨x,rfl⟩:∃y,y=x)
class Cod (α:Type) (A:outParam Type) where
 enc:α→A
 dec:A→α
 bd:Nat→α→Prop
 ok:Nat→A→Prop
 okD:∀k x,Decidable (ok k x)
 mono:∀j k x,j≤k→bd j x→bd k x
 dec_enc:∀x,dec (enc x)=x
 ok_enc:∀k x,k≤480000→bd k x→ok k (enc x)
 ok_dec:∀k x,ok k x→x=enc (dec x)∧bd k (dec x)
def enc{α A:Type}[Cod α A](x:α):A:=Cod.enc x
def dec{α A:Type}[Cod α A](x:A):α:=Cod.dec x
def ok(α:Type){A:Type}[Cod α A](k:Nat)(x:A):Prop:=Cod.ok (α:=α) k x
instance (α A:Type) [Cod α A] (k:Nat) (x:A):Decidable (ok α k x):=Cod.okD k x
theorem am{α A:Type}[Cod α A](x:α):dec (enc x)=x:=Cod.dec_enc x
class Bd {α A:Type} [Cod α A] (x:α) (k:outParam Nat):Prop where le:Cod.bd k x
theorem aU{α A:Type}[Cod α A]{k:Nat}{x:A}(h:ok α k x):∃v:α,x=enc v∧Bd v k:=⟨_,(Cod.ok_dec k x h).1,⟨(Cod.ok_dec k x h).2⟩⟩
theorem okd{α A:Type}[Cod α A]{x:α}{j k:Nat}[h:Bd x j](hj:j≤k)(hk:k≤480000):decide (ok α k (enc x))=true:=
 au1 (Cod.ok_enc k x hk (Cod.mono j k x hj h.le))
instance aup:Cod Rat BR where
 enc:=ai
 dec:=ae
 bd:=bdR
 ok k x:=okR x∧x.1.2.length≤k∧x.2.2.length≤k
 okD _ _:=instDecidableAnd
 mono _ _ _ hk h:=bW h hk
 dec_enc:=az
 ok_enc k _ hk h:=⟨nT h hk,h.1,h.2⟩
 ok_dec k x h:=by
  obtain⟨h1,h2,h3⟩:=h
  refine⟨Up h1,?_⟩
  obtain⟨e1,e2⟩:=cV h1
  unfold bdR szI
  rw[e1,e2]
  rw[gu h1.1]at h2
  rw[gu h1.2.1]at h3
  exact⟨h2,h3⟩
instance atX:Cod Int Int where
 enc x:=x
 dec x:=x
 bd _ x:=bg x
 ok _ x:=bg x
 okD _ _:=inferInstance
 mono _ _ _ _ h:=h
 dec_enc _:=rfl
 ok_enc _ _ _ h:=h
 ok_dec _ _ h:=⟨rfl,h⟩
instance att:Cod Bool Bool where
 enc x:=x
 dec x:=x
 bd _ _:=True
 ok _ _:=True
 okD _ _:=inferInstance
 mono _ _ _ _ h:=h
 dec_enc _:=rfl
 ok_enc _ _ _ h:=h
 ok_dec _ _ h:=⟨rfl,h⟩
instance atq (α β A B:Type) [Cod α A] [Cod β B]:Cod (α×β) (A×B) where
 enc x:=(enc x.1,enc x.2)
 dec x:=(dec x.1,dec x.2)
 bd k x:=Cod.bd k x.1∧Cod.bd k x.2
 ok k x:=ok α k x.1∧ok β k x.2
 okD _ _:=instDecidableAnd
 mono _ _ _ hk h:=⟨Cod.mono _ _ _ hk h.1,Cod.mono _ _ _ hk h.2⟩
 dec_enc x:=by rw[am,am]
 ok_enc k _ hk h:=⟨Cod.ok_enc _ _ hk h.1,Cod.ok_enc _ _ hk h.2⟩
 ok_dec k x h:=⟨axe (Cod.ok_dec k x.1 h.1).1 (Cod.ok_dec k x.2 h.2).1,(Cod.ok_dec k x.1 h.1).2,(Cod.ok_dec k x.2 h.2).2⟩
theorem nr{α:Type}{a b:α}(h:a=b):a=b:=h
theorem aI{α β A B:Type}[Cod α A][Cod β B](x:α×β):(enc x).1=enc x.1:=nr rfl
theorem aJ{α β A B:Type}[Cod α A][Cod β B](x:α×β):(enc x).2=enc x.2:=nr rfl
theorem aT{α β A B:Type}[Cod α A][Cod β B](x:α)(y:β):enc (x,y)=(enc x,enc y):=nr rfl
theorem aG(q:Rat):enc q=ai q:=nr rfl
theorem aL(x:BR):dec x=ae x:=nr rfl
theorem aK(q:Int):enc q=q:=nr rfl
theorem aC(q:Bool):enc q=q:=nr rfl
theorem aX{q:Rat}{j:Nat}[h:Bd q j](hj:j≤480000):decide (okR (ai q))=true:=au1 (nT h.le hj)
def mx(j k:Nat):Nat:=bif decide (j≤k)then k else j
theorem Ct(j k:Nat):j≤mx j k:=by
 unfold mx
 by_cases h:j≤k
 ·rw[au1 h];exact h
 ·rw[au3 h];exact avb _
theorem A9(j k:Nat):k≤mx j k:=by
 unfold mx
 by_cases h:j≤k
 ·rw[au1 h];exact avb _
 ·rw[au3 h];show k≤j;omega
theorem aH{q:Rat}{j k:Nat}[h:Bd q j](hj:j≤k)(hk:k≤480000):decide (ok Rat k (ai q))=true:=okd (x:=q) hj hk
section
variable {α β A B:Type} [Cod α A] [Cod β B]
instance atV {x:α×β} {k:Nat} [h:Bd x k]:Bd x.1 k:=⟨h.le.1⟩
instance atR {x:α×β} {k:Nat} [h:Bd x k]:Bd x.2 k:=⟨h.le.2⟩
instance auG {x:α} {y:β} {j k:Nat} [h:Bd x j] [h':Bd y k]:Bd (x,y) (mx j k):=⟨Cod.mono _ _ _ (Ct _ _) h.le,Cod.mono _ _ _ (A9 _ _) h'.le⟩
instance atw {b:Bool} {x y:α} {j k:Nat} [h:Bd x j] [h':Bd y k]:Bd (bif b then x else y) (mx j k):=by
 refine⟨?_⟩
 cases b
 ·exact Cod.mono _ _ _ (A9 _ _) h'.le
 ·exact Cod.mono _ _ _ (Ct _ _) h.le
theorem Bd.mono{x:α}{j k:Nat}(h:Bd x j)(hk:j≤k):Bd x k:=⟨Cod.mono _ _ _ hk h.le⟩
end
section
variable {a b:Rat} {j k:Nat}
instance at4 [h:Bd a j] [h':Bd b k]:Bd (a+b) (j+k+1):=⟨BZ h.le h'.le⟩
instance at7 [h:Bd a j] [h':Bd b k]:Bd (a-b) (j+k+1):=⟨abZ h.le h'.le⟩
instance auE [h:Bd a j] [h':Bd b k]:Bd (a*b) (j+k):=⟨AO h.le h'.le⟩
instance atD [h:Bd a j]:Bd (-a) j:=⟨uH h.le⟩
theorem pG(h:bdR k b):1≤k:=by
 have h1:=h.2
 have h2:=GI (b.den:Int)
 have h3:=b.den_pos
 rcases avN k with e|e
 ·subst e
  have:szI (b.den:Int)=0:=by omega
  rw[this]at h2
  have:pw 0=1:=rfl
  omega
 ·exact e
instance auw [h:Bd a j] [h':Bd b k]:Bd (a/b) (j+k):=by
 refine⟨?_⟩
 by_cases h0:b=0
 ·subst h0
  rw[axJ,Rat.inv_zero,Rat.mul_zero]
  have:=pG h'.le
  exact bW (j:=1) ⟨by decide+kernel,by decide+kernel⟩ (by omega)
 ·exact adU h.le h'.le h0
end
theorem fa{n:Int}(h:bg n):Bd (n:Rat) 3:=by
 refine⟨?_⟩
 show bdR 3 (n:Rat)
 refine⟨?_,?_⟩
 ·rw[Rat.num_intCast]
  have:pw 3=1000000000000000000000000000:=by decide
  exact eL (by have:=h.1;omega) (by have:=h.2;omega)
 ·rw[Rat.den_intCast]
  exact eL (by decide) (by decide)
instance n4:Bd (0:Rat) 1:=⟨⟨by decide+kernel,by decide+kernel⟩⟩
instance atM:Bd (1:Rat) 1:=⟨⟨by decide+kernel,by decide+kernel⟩⟩
instance at6:Bd (2:Rat) 1:=⟨⟨by decide+kernel,by decide+kernel⟩⟩
theorem eH{x:BR}(h:okR x):∃q:Rat,x=ai q∧Bd q 480000:=⟨ae x,Up h,⟨Cz h⟩⟩
def eG(a b:Rat×Rat):Rat×Rat:=(b.1-a.1,b.2-a.2)
def cg(a b:Rat×Rat):Rat:=a.1*b.1+a.2*b.2
instance aua {a b:Rat×Rat} {j k:Nat} [Bd a j] [Bd b k]:Bd (eG a b) (k+j+1):=
 ⟨(inferInstance:Bd (b.1-a.1) (k+j+1)).le,(inferInstance:Bd (b.2-a.2) (k+j+1)).le⟩
instance auv {a b:Rat×Rat} {j k:Nat} [Bd a j] [Bd b k]:Bd (cg a b) ((j+k)+(j+k)+1):=inferInstanceAs (Bd (a.1*b.1+a.2*b.2) _)
end
def J4:aO:=spN true false [y2Y] (fun x=>decide (okI x.1)) (fun x=>[RV.d ax8 (ct (ag x.1) 0)])
theorem Mi:SpK 101 J4:=spX fun x h=>D1 x.1 (au0 h)
def AL:aO:=spN true false [y2Y,y2Y] (fun x=>decide (okI x.1∧okI x.2.1)) (fun x=>[RV.d ax8 (ct (ag x.1) (ag x.2.1))])
theorem z8:SpK 192 AL:=spX fun x h=>Uu x.1 x.2.1 (au0 h)
def Jz:aO:=spN false false [y2Y,y2Y] (fun x=>decide (okI x.1∧okI x.2.1)) (fun x=>[RV.d y2Y (aj (ag x.1*ag x.2.1))])
theorem Mq:SpK 193 Jz:=spX fun x h=>EZ x.1 x.2.1 (au0 h)
def CA:aO:=spN false false [y2Y,y2Y] (fun x=>decide (eT x.1 x.2.1)) (fun x=>[RV.d y2Y (aj (ag x.1/ag x.2.1)),RV.d y2Y (aj (ag x.1%ag x.2.1)),RV.d ax8 0])
theorem Am:SpK 214 CA:=spX fun x h=>Qo x.1 x.2.1 (au0 h)
def Li:aO:=spN false false [y2Y,y2Y] (fun x=>decide (okI x.1∧okI x.2.1)) (fun x=>[RV.d y2Y (aj ((Int.gcd (ag x.1) (ag x.2.1):Nat):Int))])
theorem NV:SpK 103 Li:=spX fun x h=>FP x.1 x.2.1 (au0 h)
def I4:Env:=[(134,uP),(212,qC),(211,AF),(101,J4),(192,AL),(193,Jz),(214,CA),(103,Li)]
theorem z9:EnvAll Tryz.prog I4:=⟨t5,n5,zo,Mi,z8,Mq,Am,NV,trivial⟩
def amx:Ctx:=CX I4 []
def Qs(_k:KT):Option (List RV):=match decide (bg (1:Int))with|true=>some [RV.d y2Y (aj (1:Int))]|false=>none
theorem air:RS amx 104 [] (Qs):=rsX
theorem D3:Con Tryz.prog 104 [] [.d y2Y (aj 1)]:=by
 refine aR z9 (air ⟨0,?_⟩)
 unfold Qs
 rw[dT (show bg 1 by decide)]
def Jn:aO:=spN false false [] (fun _=>true) (fun _=>[RV.d y2Y (aj 1)])
theorem Mt:SpK 104 Jn:=spX fun _ _=>D3
def Iw:Env:=(104,Jn)::I4
theorem zq:EnvAll Tryz.prog Iw:=⟨Mt,z9⟩
def apb:Ctx:=CX Iw []
def aft(x y:Bool×List Int)(_k:KT):Option (List RV):=match decide (okI y)with|true=>(match decide ((ct (ag y) 0)<0)with|true=>(match decide (okI x)with|true=>(match decide (okI y)with|true=>(match decide (okI (aj (-ag x))∧okI (aj (-ag y)))with|true=>(match decide (eT (aj (-ag x)) (aj ((Int.gcd (ag (aj (-ag x))) (ag (aj (-ag y))):Nat):Int)))with|true=>(match decide (eT (aj (-ag y)) (aj ((Int.gcd (ag (aj (-ag x))) (ag (aj (-ag y))):Nat):Int)))with|true=>some [RV.d (.st (.pair y2Y y2Y)) ((aj (ag (aj (-ag x))/ag (aj ((Int.gcd (ag (aj (-ag x))) (ag (aj (-ag y))):Nat):Int)))),(aj (ag (aj (-ag y))/ag (aj ((Int.gcd (ag (aj (-ag x))) (ag (aj (-ag y))):Nat):Int)))))]|false=>none)|false=>none)|false=>none)|false=>none)|false=>none)|false=>(match decide (okI x∧okI y)with|true=>(match decide (eT x (aj ((Int.gcd (ag x) (ag y):Nat):Int)))with|true=>(match decide (eT y (aj ((Int.gcd (ag x) (ag y):Nat):Int)))with|true=>some [RV.d (.st (.pair y2Y y2Y)) ((aj (ag x/ag (aj ((Int.gcd (ag x) (ag y):Nat):Int)))),(aj (ag y/ag (aj ((Int.gcd (ag x) (ag y):Nat):Int)))))]|false=>none)|false=>none)|false=>none))|false=>none
theorem arH(x y:Bool×List Int):RS apb 135 [.d y2Y x,.d y2Y y] (aft x y):=rsX
theorem LG(x y:Bool×List Int)(h:gM x y):Con Tryz.prog 135 [.d y2Y x,.d y2Y y] [.d (.st (.pair y2Y y2Y)) (eD x y)]:=by
 refine aR zq (arH _ _ ⟨0,?_⟩)
 obtain⟨hx,hy,hne⟩:=h
 have sx:=gZ hx
 have sy:=gZ hy
 have hgp:0<Int.gcd (ag x) (ag y):=Nat.pos_of_ne_zero fun e=>hne (Int.gcd_eq_zero_iff.1 e).2
 have hgs:=Uf (a:=ag x) hne sy
 have og:okI (aj ((Int.gcd (ag x) (ag y):Nat):Int)):=bk hgs
 have o1:okI (aj (-ag x)):=bk (by rw[ik];exact sx)
 have o2:okI (aj (-ag y)):=bk (by rw[ik];exact sy)
 have ig:∀z:BI,okI z→eT z (aj ((Int.gcd (ag x) (ag y):Nat):Int)):=fun z hz=>⟨hz,og,by rw[dec_enc];omega⟩
 unfold aft eD
 rw[dT hy]
 dsimp only
 rcases awP hne with hn|hn
 ·rw[cX hn,dT (show(-1:Int)<0 by decide),dT hx]
  simp only[dec_enc,Int.gcd_neg,Int.neg_gcd]
  rw[dT (show okI (aj (-ag x))∧okI (aj (-ag y)) from⟨o1,o2⟩),dT (ig _ o1),dT (ig _ o2),←Rat.neg_divInt_neg,lT (by omega),Int.gcd_neg,Int.neg_gcd]
 ·rw[cS hn,dF (show ¬(1:Int)<0 by decide)]
  simp only[dec_enc]
  rw[dT (show okI x∧okI y from⟨hx,hy⟩),dT (ig _ hx),dT (ig _ hy),lT hn]
def VM:aO:=spN false false [y2Y,y2Y] (fun x=>decide (gM x.1 x.2.1)) (fun x=>[RV.d (.st (.pair y2Y y2Y)) (eD x.1 x.2.1)])
theorem Yv:SpK 135 VM:=spX fun x h=>LG x.1 x.2.1 (au0 h)
def lM:Env:=(135,VM)::Iw
theorem gf:EnvAll Tryz.prog lM:=⟨Yv,zq⟩
def aig:Ctx:=CX lM []
def QF(a:(Bool×List Int)×Bool×List Int)(_k:KT):Option (List RV):=match decide (okI a.1)with|true=>some [RV.d ax8 (ct (ag a.1) 0)]|false=>none
theorem amq(a:(Bool×List Int)×Bool×List Int):RS aig 78 [.d (.st (.pair y2Y y2Y)) a] (QF a):=rsX
def ah6:Ctx:=CX lM []
def Ro(n:Int)(_k:KT):Option (List RV):=match decide (bg n)with|true=>some [RV.d (.st (.pair y2Y y2Y)) ((aj n),(aj 1))]|false=>none
theorem alv(n:Int):RS ah6 50 [SI n] (Ro n):=rsX
def amB:Ctx:=CX lM []
def UI(a b:(Bool×List Int)×Bool×List Int)(_k:KT):Option (List RV):=match decide (okI a.1∧okI b.2)with|true=>(match decide (okI b.1∧okI a.2)with|true=>(match decide (okI (aj (ag a.1*ag b.2))∧okI (aj (ag b.1*ag a.2)))with|true=>some [RV.d ax8 (ct (ag (aj (ag a.1*ag b.2))) (ag (aj (ag b.1*ag a.2))))]|false=>none)|false=>none)|false=>none
theorem aiY(a b:(Bool×List Int)×Bool×List Int):RS amB 107 [.d (.st (.pair y2Y y2Y)) a,.d (.st (.pair y2Y y2Y)) b] (UI a b):=rsX
def ai5:Ctx:=CX lM []
def VW(a b:(Bool×List Int)×Bool×List Int)(_k:KT):Option (List RV):=match decide (okI a.1∧okI b.2)with|true=>(match decide (okI b.1∧okI a.2)with|true=>(match decide (okI (aj (ag a.1*ag b.2))∧okI (aj (ag b.1*ag a.2)))with|true=>(match decide (okI a.2∧okI b.2)with|true=>(match decide (gM (aj (ag (aj (ag a.1*ag b.2))+ag (aj (ag b.1*ag a.2)))) (aj (ag a.2*ag b.2)))with|true=>some [RV.d (.st (.pair y2Y y2Y)) (((eD (aj (ag (aj (ag a.1*ag b.2))+ag (aj (ag b.1*ag a.2)))) (aj (ag a.2*ag b.2))).1),((eD (aj (ag (aj (ag a.1*ag b.2))+ag (aj (ag b.1*ag a.2)))) (aj (ag a.2*ag b.2))).2))]|false=>none)|false=>none)|false=>none)|false=>none)|false=>none
theorem amI(a b:(Bool×List Int)×Bool×List Int):RS ai5 127 [.d (.st (.pair y2Y y2Y)) a,.d (.st (.pair y2Y y2Y)) b] (VW a b):=rsX
def ajk:Ctx:=CX lM []
def YT(a b:(Bool×List Int)×Bool×List Int)(_k:KT):Option (List RV):=match decide (okI a.1∧okI b.1)with|true=>(match decide (okI a.2∧okI b.2)with|true=>(match decide (gM (aj (ag a.1*ag b.1)) (aj (ag a.2*ag b.2)))with|true=>some [RV.d (.st (.pair y2Y y2Y)) (((eD (aj (ag a.1*ag b.1)) (aj (ag a.2*ag b.2))).1),((eD (aj (ag a.1*ag b.1)) (aj (ag a.2*ag b.2))).2))]|false=>none)|false=>none)|false=>none
theorem aiK(a b:(Bool×List Int)×Bool×List Int):RS ajk 132 [.d (.st (.pair y2Y y2Y)) a,.d (.st (.pair y2Y y2Y)) b] (YT a b):=rsX
def alH:Ctx:=CX lM []
def VB(a:(Bool×List Int)×Bool×List Int)(_k:KT):Option (List RV):=match decide (okI a.1)with|true=>some [RV.d (.st (.pair y2Y y2Y)) ((aj (-ag a.1)),a.2)]|false=>none
theorem amw(a:(Bool×List Int)×Bool×List Int):RS alH 124 [.d (.st (.pair y2Y y2Y)) a] (VB a):=rsX
def amZ:Ctx:=CX lM []
def TB(x y:Bool×List Int)(_k:KT):Option (List RV):=match decide (okI y)with|true=>(match(ct (ag y) 0)==0 with|true=>some [RV.d (.st (.pair y2Y y2Y)) ((false,[]),(false,[])),RV.d ax8 6]|false=>(match decide (gM x y)with|true=>some [RV.d (.st (.pair y2Y y2Y)) (((eD x y).1),((eD x y).2)),RV.d ax8 0]|false=>none))|false=>none
theorem ajh(x y:Bool×List Int):RS amZ 258 [.d y2Y x,.d y2Y y] (TB x y):=rsX
theorem Zi(x y:Bool×List Int)(h:gM x y):Con Tryz.prog 258 [.d y2Y x,.d y2Y y] [.d (.st (.pair y2Y y2Y)) (eD x y),.d ax8 0]:=by
 refine aR gf (ajh _ _ ⟨0,?_⟩)
 obtain⟨hx,hy,hne⟩:=h
 have hnz:(ct (ag y) 0==0)=false:=by
  rcases awP hne with h|h
  ·rw[cX h];rfl
  ·rw[cS h];rfl
 unfold TB
 rw[dT hy,hnz,dT (show gM x y from⟨hx,hy,hne⟩)]
def JZ:aO:=spN false false [y2Y,y2Y] (fun x=>decide (gM x.1 x.2.1)) (fun x=>[RV.d (.st (.pair y2Y y2Y)) (eD x.1 x.2.1),RV.d ax8 0])
theorem MP:SpK 258 JZ:=spX fun x h=>Zi x.1 x.2.1 (au0 h)
def Ck:Env:=(258,JZ)::lM
theorem vw:EnvAll Tryz.prog Ck:=⟨MP,gf⟩
def aiM:Ctx:=CX Ck []
def T1(a b:(Bool×List Int)×Bool×List Int)(_k:KT):Option (List RV):=match decide (okI a.1∧okI b.2)with|true=>(match decide (okI a.2∧okI b.1)with|true=>(match decide (gM (aj (ag a.1*ag b.2)) (aj (ag a.2*ag b.1)))with|true=>some [RV.d (.st (.pair y2Y y2Y)) (((eD (aj (ag a.1*ag b.2)) (aj (ag a.2*ag b.1))).1),((eD (aj (ag a.1*ag b.2)) (aj (ag a.2*ag b.1))).2)),RV.d ax8 0]|false=>none)|false=>none)|false=>none
theorem alo(a b:(Bool×List Int)×Bool×List Int):RS aiM 217 [.d (.st (.pair y2Y y2Y)) a,.d (.st (.pair y2Y y2Y)) b] (T1 a b):=rsX
theorem WP(a:(Bool×List Int)×Bool×List Int)(h:okR a):Con Tryz.prog 78 [.d (.st (.pair y2Y y2Y)) a] [.d ax8 (aV (ae a) 0)]:=by
 refine aR gf (amq _ ⟨0,?_⟩)
 unfold QF
 rw[dT h.1,←sE,(cV h).1]
theorem YV(n:Int)(h:bg n):Con Tryz.prog 50 [.d ax8 n] [.d (.st (.pair y2Y y2Y)) (ai (n:Rat))]:=by
 refine aR gf (alv _ ⟨0,?_⟩)
 unfold Ro ai
 rw[dT h,Rat.num_intCast,Rat.den_intCast]
 rfl
theorem SZ(a b:(Bool×List Int)×Bool×List Int)(h:okR a∧okR b):Con Tryz.prog 107 [.d (.st (.pair y2Y y2Y)) a,.d (.st (.pair y2Y y2Y)) b] [.d ax8 (aV (ae a) (ae b))]:=by
 refine aR gf (aiY _ _ ⟨0,?_⟩)
 obtain⟨ha,hb⟩:=h
 obtain⟨a1,a2⟩:=cV ha
 obtain⟨b1,b2⟩:=cV hb
 obtain⟨sa1,sa2⟩:=fH ha
 obtain⟨sb1,sb2⟩:=fH hb
 have h1:=cU sa1 sb2
 have h2:=cU sb1 sa2
 unfold UI
 rw[dT (show okI a.1∧okI b.2 from⟨ha.1,hb.2.1⟩),dT (show okI b.1∧okI a.2 from⟨hb.1,ha.2.1⟩),dT (show okI (aj (ag a.1*ag b.2))∧okI (aj (ag b.1*ag a.2)) from⟨bk (by omega),bk (by omega)⟩),dec_enc,dec_enc,←a1,←a2,←b1,←b2,xz]
theorem Fa(a:(Bool×List Int)×Bool×List Int)(h:okR a):Con Tryz.prog 124 [.d (.st (.pair y2Y y2Y)) a] [.d (.st (.pair y2Y y2Y)) (ai (-ae a))]:=by
 refine aR gf (amw _ ⟨0,?_⟩)
 obtain⟨a1,a2⟩:=cV h
 unfold VB
 have e:ai (-ae a)=(aj (-ag a.1),a.2):=by
  unfold ai
  rw[Rat.neg_num,a1,show((-ae a).den:Int)=((ae a).den:Int) from rfl,a2,←gu h.2.1]
 rw[dT h.1,e]
theorem F8(a b:(Bool×List Int)×Bool×List Int)(h:okR a∧okR b):Con Tryz.prog 127 [.d (.st (.pair y2Y y2Y)) a,.d (.st (.pair y2Y y2Y)) b] [.d (.st (.pair y2Y y2Y)) (ai (ae a+ae b))]:=by
 refine aR gf (amI _ _ ⟨0,?_⟩)
 obtain⟨ha,hb⟩:=h
 obtain⟨a1,a2⟩:=cV ha
 obtain⟨b1,b2⟩:=cV hb
 obtain⟨sa1,sa2⟩:=fH ha
 obtain⟨sb1,sb2⟩:=fH hb
 have pa:=ha.2.2.1
 have pb:=hb.2.2.1
 have h1:=cU sa1 sb2
 have h2:=cU sb1 sa2
 have h3:=cU sa2 sb2
 have h4:=uM h1 h2
 have hda:ae a=Rat.divInt (ag a.1) (ag a.2):=by rw[←a1,←a2,awa]
 have hdb:ae b=Rat.divInt (ag b.1) (ag b.2):=by rw[←b1,←b2,awa]
 unfold VW
 rw[dT (show okI a.1∧okI b.2 from⟨ha.1,hb.2.1⟩),dT (show okI b.1∧okI a.2 from⟨hb.1,ha.2.1⟩),dT (show okI (aj (ag a.1*ag b.2))∧okI (aj (ag b.1*ag a.2)) from⟨bk (by omega),bk (by omega)⟩),dT (show okI a.2∧okI b.2 from⟨ha.2.1,hb.2.1⟩)]
 simp only[dec_enc]
 rw[dT (show gM (aj (ag a.1*ag b.2+ag b.1*ag a.2)) (aj (ag a.2*ag b.2)) from⟨bk (by omega),bk (by omega),by rw[dec_enc];exact axx (by omega) (by omega)⟩)]
 have e:eD (aj (ag a.1*ag b.2+ag b.1*ag a.2)) (aj (ag a.2*ag b.2))=ai (ae a+ae b):=by
  unfold eD
  rw[dec_enc,dec_enc,hda,hdb,Rat.divInt_add_divInt _ _ (by omega) (by omega)]
 rw[e]
theorem Yc(a b:(Bool×List Int)×Bool×List Int)(h:okR a∧okR b):Con Tryz.prog 132 [.d (.st (.pair y2Y y2Y)) a,.d (.st (.pair y2Y y2Y)) b] [.d (.st (.pair y2Y y2Y)) (ai (ae a*ae b))]:=by
 refine aR gf (aiK _ _ ⟨0,?_⟩)
 obtain⟨ha,hb⟩:=h
 obtain⟨a1,a2⟩:=cV ha
 obtain⟨b1,b2⟩:=cV hb
 obtain⟨sa1,sa2⟩:=fH ha
 obtain⟨sb1,sb2⟩:=fH hb
 have pa:=ha.2.2.1
 have pb:=hb.2.2.1
 have h1:=cU sa1 sb1
 have h3:=cU sa2 sb2
 have hda:ae a=Rat.divInt (ag a.1) (ag a.2):=by rw[←a1,←a2,awa]
 have hdb:ae b=Rat.divInt (ag b.1) (ag b.2):=by rw[←b1,←b2,awa]
 unfold YT
 rw[dT (show okI a.1∧okI b.1 from⟨ha.1,hb.1⟩),dT (show okI a.2∧okI b.2 from⟨ha.2.1,hb.2.1⟩),dT (show gM (aj (ag a.1*ag b.1)) (aj (ag a.2*ag b.2)) from⟨bk (by omega),bk (by omega),by rw[dec_enc];exact axx (by omega) (by omega)⟩)]
 have e:eD (aj (ag a.1*ag b.1)) (aj (ag a.2*ag b.2))=ai (ae a*ae b):=by
  unfold eD
  rw[dec_enc,dec_enc,hda,hdb,axy]
 rw[e]
theorem D6(a b:(Bool×List Int)×Bool×List Int)(h:fD a b):Con Tryz.prog 217 [.d (.st (.pair y2Y y2Y)) a,.d (.st (.pair y2Y y2Y)) b] [.d (.st (.pair y2Y y2Y)) (ai (ae a/ae b)),.d ax8 0]:=by
 refine aR vw (alo _ _ ⟨0,?_⟩)
 obtain⟨ha,hb,hne⟩:=h
 obtain⟨a1,a2⟩:=cV ha
 obtain⟨b1,b2⟩:=cV hb
 obtain⟨sa1,sa2⟩:=fH ha
 obtain⟨sb1,sb2⟩:=fH hb
 have pa:=ha.2.2.1
 have h1:=cU sa1 sb2
 have h3:=cU sa2 sb1
 have hda:ae a=Rat.divInt (ag a.1) (ag a.2):=by rw[←a1,←a2,awa]
 have hdb:ae b=Rat.divInt (ag b.1) (ag b.2):=by rw[←b1,←b2,awa]
 have hmz:ag a.2*ag b.1≠0:=axx (by omega) hne
 unfold T1
 rw[dT (show okI a.1∧okI b.2 from⟨ha.1,hb.2.1⟩),dT (show okI a.2∧okI b.1 from⟨ha.2.1,hb.1⟩)]
 simp only
 rw[dT (show gM (aj (ag a.1*ag b.2)) (aj (ag a.2*ag b.1)) from⟨bk (by omega),bk (by omega),by rw[dec_enc];exact hmz⟩)]
 have e:eD (aj (ag a.1*ag b.2)) (aj (ag a.2*ag b.1))=ai (ae a/ae b):=by
  unfold eD
  rw[dec_enc,dec_enc,hda,hdb,axJ,Rat.inv_divInt,axy]
 rw[e]
def JY:aO:=spN false false [(.st (.pair y2Y y2Y)),(.st (.pair y2Y y2Y))] (fun x=>decide (okR x.1∧okR x.2.1)) (fun x=>[RV.d (.st (.pair y2Y y2Y)) (ai (ae x.1+ae x.2.1))])
theorem N5:SpK 127 JY:=spX fun x h=>F8 x.1 x.2.1 (au0 h)
def L4:aO:=spN false false [(.st (.pair y2Y y2Y))] (fun x=>decide (okR x.1)) (fun x=>[RV.d (.st (.pair y2Y y2Y)) (ai (-ae x.1))])
theorem NZ:SpK 124 L4:=spX fun x h=>Fa x.1 (au0 h)
def Kp:aO:=spN false false [(.st (.pair y2Y y2Y)),(.st (.pair y2Y y2Y))] (fun x=>decide (fD x.1 x.2.1)) (fun x=>[RV.d (.st (.pair y2Y y2Y)) (ai (ae x.1/ae x.2.1)),RV.d ax8 0])
theorem Oc:SpK 217 Kp:=spX fun x h=>D6 x.1 x.2.1 (au0 h)
def Jh:Env:=(127,JY)::(124,L4)::(217,Kp)::Ck
theorem Aw:EnvAll Tryz.prog Jh:=⟨N5,NZ,Oc,vw⟩
def ai1:Ctx:=CX Jh []
def Yk(a b:(Bool×List Int)×Bool×List Int)(_k:KT):Option (List RV):=match decide (okR b)with|true=>(match decide (okR a∧okR (ai (-ae b)))with|true=>some [RV.d (.st (.pair y2Y y2Y)) (((ai (ae a+ae (ai (-ae b)))).1),((ai (ae a+ae (ai (-ae b)))).2))]|false=>none)|false=>none
theorem ai9(a b:(Bool×List Int)×Bool×List Int):RS ai1 161 [.d (.st (.pair y2Y y2Y)) a,.d (.st (.pair y2Y y2Y)) b] (Yk a b):=rsX
def ajR:Ctx:=CX Jh []
def UV(a b:(Bool×List Int)×Bool×List Int)(_k:KT):Option (List RV):=match decide (fD a b)with|true=>some [RV.d (.st (.pair y2Y y2Y)) (((ai (ae a/ae b)).1),((ai (ae a/ae b)).2))]|false=>none
theorem ajm(a b:(Bool×List Int)×Bool×List Int):RS ajR 174 [.d (.st (.pair y2Y y2Y)) a,.d (.st (.pair y2Y y2Y)) b] (UV a b):=rsX
theorem Zk(a b:(Bool×List Int)×Bool×List Int)(h:okR a∧okR b):Con Tryz.prog 161 [.d (.st (.pair y2Y y2Y)) a,.d (.st (.pair y2Y y2Y)) b] [.d (.st (.pair y2Y y2Y)) (ai (ae a-ae b))]:=by
 refine aR Aw (ai9 _ _ ⟨0,?_⟩)
 obtain⟨ha,hb⟩:=h
 unfold Yk
 rw[dT hb,az,axp,dT (show okR a∧okR (ai (-ae b)) from⟨ha,nT (uH (Cz hb)) (avb _)⟩)]
theorem Xb(a b:(Bool×List Int)×Bool×List Int)(h:fD a b):Con Tryz.prog 174 [.d (.st (.pair y2Y y2Y)) a,.d (.st (.pair y2Y y2Y)) b] [.d (.st (.pair y2Y y2Y)) (ai (ae a/ae b))]:=by
 refine aR Aw (ajm _ _ ⟨0,?_⟩)
 unfold UV
 rw[dT h]
end Go.Proofs.YtlahabkjhgkkjaaGreat
end
