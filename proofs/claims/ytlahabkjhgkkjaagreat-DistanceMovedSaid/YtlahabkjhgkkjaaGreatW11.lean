/- The reference's integers: parts. -/
import Derived.Test.YtlahabkjhgkkjaaGreatW10
import Derived.Test.YtlahabkjhgkkjaaGreatW9
noncomputable section
namespace Go.Proofs.YtlahabkjhgkkjaaGreat
open Go.RowKit Go.IntKind
section
def yo(a b:List Int):Prop:=(can a∧a.length≤1000000)∧(can b∧b.length≤1000000)∧b≠[]
instance (a b:List Int):Decidable (yo a b):=by unfold yo;infer_instance
def DB:aM:=spN false false [atA,atC] (fun x=>decide (byP x.1 x.2.1)) (fun x=>[RV.d atA (ah (val x.1*x.2.1).toNat)])
theorem CO:SpK 249 DB:=spX fun x h=>Xt x.1 x.2.1 (aqr h)
def Nr:Env:=[(185,mq),(190,pc),(189,oD),(186,mj),(249,DB),(250,sF)]
theorem Jv:EnvAll Tryz.prog Nr:=⟨jz,mE,mw,jB,CO,ru,trivial⟩
def Wp:NT:=[((187,30),{keep:=[8,9,10,11,12,13,14],pure_:=[(11,.int .u32)],hl:=1}),((187,67),{keep:=[8,9,10,11,12,13,14,16,17],pure_:=[(17,.int .u32)],hl:=1}),((187,90),{keep:=[8,11,12,18,19,20],hl:=2})]
def gR:Ctx:=CX Nr Wp
def iH(a b:List Int)(x1 x2:Int)(s11:List Int)(s14:Int)(r0:List Int):Cfg:=⟨187,[.blk 0,.seq 82],[(8,.d atC (u32.wrap (u64.wrap (Int.tdiv 1000000000 (u64.wrap ((u64.wrap x1)+1)))))),(9,.d atA (ah (val b*(u32.wrap (u64.wrap (Int.tdiv 1000000000 (u64.wrap ((u64.wrap x1)+1)))))).toNat)),(10,.d (.int .u64) (u64.wrap x2)),(11,.d atA s11),(12,.osl 0 1 ((0:Int).toNat) ((((ah (val a*(u32.wrap (u64.wrap (Int.tdiv 1000000000 (u64.wrap ((u64.wrap x1)+1)))))).toNat).length:Int):Int).toNat-(0:Int).toNat)),(13,.d atA (ah (val a*(u32.wrap (u64.wrap (Int.tdiv 1000000000 (u64.wrap ((u64.wrap x1)+1)))))).toNat)),(14,SI s14)],[.row 183 atC r0],0,[]⟩
def dS(a b:List Int)(x1 x2:Int)(s11:List Int)(s14:Int)(r0:List Int)(x3 s16:Int)(s17:List Int):Cfg:=⟨187,[.blk 2,.seq 78,.blk 1,.seq 81,.lp 30,.blk 0,.seq 82],[(8,.d atC (u32.wrap (u64.wrap (Int.tdiv 1000000000 (u64.wrap ((u64.wrap x1)+1)))))),(9,.d atA (ah (val b*(u32.wrap (u64.wrap (Int.tdiv 1000000000 (u64.wrap ((u64.wrap x1)+1)))))).toNat)),(10,.d (.int .u64) (u64.wrap x2)),(11,.d atA (ah (val (([x3])++s11)).toNat)),(12,.osl 0 1 ((0:Int).toNat) ((((ah (val a*(u32.wrap (u64.wrap (Int.tdiv 1000000000 (u64.wrap ((u64.wrap x1)+1)))))).toNat).length:Int):Int).toNat-(0:Int).toNat)),(13,.d atA (ah (val a*(u32.wrap (u64.wrap (Int.tdiv 1000000000 (u64.wrap ((u64.wrap x1)+1)))))).toNat)),(14,SI s14),(16,.d (.int .u64) s16),(17,.d atA s17)],[.row 183 atC r0],0,[]⟩
def pB(a:List Int)(x1:Int)(s11 r0:List Int)(s18 s20:Int)(r1:List Int):Cfg:=⟨187,[.blk 4,.seq 105],[(8,.d atC (u32.wrap (u64.wrap (Int.tdiv 1000000000 (u64.wrap ((u64.wrap x1)+1)))))),(11,.d atA s11),(12,.osl 0 1 ((0:Int).toNat) ((((ah (val a*(u32.wrap (u64.wrap (Int.tdiv 1000000000 (u64.wrap ((u64.wrap x1)+1)))))).toNat).length:Int):Int).toNat-(0:Int).toNat)),(18,.d (.int .u64) s18),(19,.own 1),(20,SI s20)],[.row 183 atC r0,.row 183 atC r1],0,[]⟩
def FF(a b:List Int)(k:KT):Option (List RV):=match decide ((a.length:Int)≤2)with|true=>(match decide ((b.length:Int)≤2)with|true=>(match decide (nO a)with|true=>(match decide (nO b)with|true=>(match decide (val b=(0:Int))with|true=>none|false=>(match decide (val b=(0:Int))with|true=>none|false=>(match decide (fw (u64.wrap (Int.tdiv (val a) (val b))))with|true=>(match decide (fw (Int.tmod (val a) (val b)))with|true=>some [RV.d atA (ah (u64.wrap (Int.tdiv (val a) (val b))).toNat),RV.d atA (ah (Int.tmod (val a) (val b)).toNat)]|false=>none)|false=>none)))|false=>none)|false=>none)|false=>(match bu b (i64.wrap ((b.length:Int)-1))with|some x1=>(match decide (u64.wrap ((u64.wrap x1)+1)=(0:Int))with|true=>none|false=>(match decide (byP b (u32.wrap (u64.wrap (Int.tdiv 1000000000 (u64.wrap ((u64.wrap x1)+1))))))with|true=>(match bu (ah (val b*(u32.wrap (u64.wrap (Int.tdiv 1000000000 (u64.wrap ((u64.wrap x1)+1)))))).toNat) (i64.wrap (((ah (val b*(u32.wrap (u64.wrap (Int.tdiv 1000000000 (u64.wrap ((u64.wrap x1)+1)))))).toNat).length:Int)-1))with|some x2=>(match decide ((0:Int)≤i64.wrap ((a.length:Int)+1)∧(i64.wrap ((a.length:Int)+1))*((4:Nat):Int)≤140737488355328∧i64.wrap ((a.length:Int)+1)≤140737488355328)with|true=>(match decide (byP a (u32.wrap (u64.wrap (Int.tdiv 1000000000 (u64.wrap ((u64.wrap x1)+1))))))with|true=>(match decide ((0:Int)≤0∧0≤((ah (val a*(u32.wrap (u64.wrap (Int.tdiv 1000000000 (u64.wrap ((u64.wrap x1)+1)))))).toNat).length:Int)∧((ah (val a*(u32.wrap (u64.wrap (Int.tdiv 1000000000 (u64.wrap ((u64.wrap x1)+1)))))).toNat).length:Int)≤((List.replicate (i64.wrap ((a.length:Int)+1)).toNat (0:Int)).length:Int))with|true=>k 30 (iH a b x1 x2 ([]) (i64.wrap (((ah (val a*(u32.wrap (u64.wrap (Int.tdiv 1000000000 (u64.wrap ((u64.wrap x1)+1)))))).toNat).length:Int)-1)) (List.replicate (i64.wrap ((a.length:Int)+1)).toNat (0:Int)))|false=>none)|false=>none)|false=>none)|none=>none)|false=>none))|none=>none))|false=>(match bu b (i64.wrap ((b.length:Int)-1))with|some x1=>(match decide (u64.wrap ((u64.wrap x1)+1)=(0:Int))with|true=>none|false=>(match decide (byP b (u32.wrap (u64.wrap (Int.tdiv 1000000000 (u64.wrap ((u64.wrap x1)+1))))))with|true=>(match bu (ah (val b*(u32.wrap (u64.wrap (Int.tdiv 1000000000 (u64.wrap ((u64.wrap x1)+1)))))).toNat) (i64.wrap (((ah (val b*(u32.wrap (u64.wrap (Int.tdiv 1000000000 (u64.wrap ((u64.wrap x1)+1)))))).toNat).length:Int)-1))with|some x2=>(match decide ((0:Int)≤i64.wrap ((a.length:Int)+1)∧(i64.wrap ((a.length:Int)+1))*((4:Nat):Int)≤140737488355328∧i64.wrap ((a.length:Int)+1)≤140737488355328)with|true=>(match decide (byP a (u32.wrap (u64.wrap (Int.tdiv 1000000000 (u64.wrap ((u64.wrap x1)+1))))))with|true=>(match decide ((0:Int)≤0∧0≤((ah (val a*(u32.wrap (u64.wrap (Int.tdiv 1000000000 (u64.wrap ((u64.wrap x1)+1)))))).toNat).length:Int)∧((ah (val a*(u32.wrap (u64.wrap (Int.tdiv 1000000000 (u64.wrap ((u64.wrap x1)+1)))))).toNat).length:Int)≤((List.replicate (i64.wrap ((a.length:Int)+1)).toNat (0:Int)).length:Int))with|true=>k 30 (iH a b x1 x2 ([]) (i64.wrap (((ah (val a*(u32.wrap (u64.wrap (Int.tdiv 1000000000 (u64.wrap ((u64.wrap x1)+1)))))).toNat).length:Int)-1)) (List.replicate (i64.wrap ((a.length:Int)+1)).toNat (0:Int)))|false=>none)|false=>none)|false=>none)|none=>none)|false=>none))|none=>none)
theorem Ra(a b:List Int):RS gR 187 [.d atA a,.d atA b] (FF a b):=rsX
def iP(a b:List Int)(x1 x2:Int)(s11:List Int)(s14:Int)(r0:List Int)(k:KT):Option (List RV):=match decide (s14≥0)with|true=>(match bu (ah (val a*(u32.wrap (u64.wrap (Int.tdiv 1000000000 (u64.wrap ((u64.wrap x1)+1)))))).toNat) s14 with|some x3=>(match decide ((([x3]).length+s11.length)*4≤140737488355328∧([x3]).length+s11.length≤140737488355328)with|true=>(match decide (a9 (([x3])++s11))with|true=>(match decide (((ah (val (([x3])++s11)).toNat).length:Int)>((ah (val b*(u32.wrap (u64.wrap (Int.tdiv 1000000000 (u64.wrap ((u64.wrap x1)+1)))))).toNat).length:Int))with|true=>(match bu (ah (val (([x3])++s11)).toNat) ((ah (val b*(u32.wrap (u64.wrap (Int.tdiv 1000000000 (u64.wrap ((u64.wrap x1)+1)))))).toNat).length:Int)with|some x4=>(match decide (((ah (val (([x3])++s11)).toNat).length:Int)≥((ah (val b*(u32.wrap (u64.wrap (Int.tdiv 1000000000 (u64.wrap ((u64.wrap x1)+1)))))).toNat).length:Int))with|true=>(match bu (ah (val (([x3])++s11)).toNat) (i64.wrap (((ah (val b*(u32.wrap (u64.wrap (Int.tdiv 1000000000 (u64.wrap ((u64.wrap x1)+1)))))).toNat).length:Int)-1))with|some x5=>(match decide (u64.wrap x2=(0:Int))with|true=>none|false=>(match decide ((u64.wrap (Int.tdiv (u64.wrap ((u64.wrap ((u64.wrap x4)*1000000000))+(u64.wrap x5))) (u64.wrap x2)))>999999999)with|true=>(match decide (byP (ah (val b*(u32.wrap (u64.wrap (Int.tdiv 1000000000 (u64.wrap ((u64.wrap x1)+1)))))).toNat) (u32.wrap 999999999))with|true=>k 67 (dS a b x1 x2 s11 s14 r0 x3 999999999 (ah (val (ah (val b*(u32.wrap (u64.wrap (Int.tdiv 1000000000 (u64.wrap ((u64.wrap x1)+1)))))).toNat)*(u32.wrap 999999999)).toNat))|false=>none)|false=>(match decide (byP (ah (val b*(u32.wrap (u64.wrap (Int.tdiv 1000000000 (u64.wrap ((u64.wrap x1)+1)))))).toNat) (u32.wrap (u64.wrap (Int.tdiv (u64.wrap ((u64.wrap ((u64.wrap x4)*1000000000))+(u64.wrap x5))) (u64.wrap x2)))))with|true=>k 67 (dS a b x1 x2 s11 s14 r0 x3 (u64.wrap (Int.tdiv (u64.wrap ((u64.wrap ((u64.wrap x4)*1000000000))+(u64.wrap x5))) (u64.wrap x2))) (ah (val (ah (val b*(u32.wrap (u64.wrap (Int.tdiv 1000000000 (u64.wrap ((u64.wrap x1)+1)))))).toNat)*(u32.wrap (u64.wrap (Int.tdiv (u64.wrap ((u64.wrap ((u64.wrap x4)*1000000000))+(u64.wrap x5))) (u64.wrap x2))))).toNat))|false=>none)))|none=>none)|false=>(match decide (u64.wrap x2=(0:Int))with|true=>none|false=>(match decide ((u64.wrap (Int.tdiv (u64.wrap ((u64.wrap x4)*1000000000)) (u64.wrap x2)))>999999999)with|true=>(match decide (byP (ah (val b*(u32.wrap (u64.wrap (Int.tdiv 1000000000 (u64.wrap ((u64.wrap x1)+1)))))).toNat) (u32.wrap 999999999))with|true=>k 67 (dS a b x1 x2 s11 s14 r0 x3 999999999 (ah (val (ah (val b*(u32.wrap (u64.wrap (Int.tdiv 1000000000 (u64.wrap ((u64.wrap x1)+1)))))).toNat)*(u32.wrap 999999999)).toNat))|false=>none)|false=>(match decide (byP (ah (val b*(u32.wrap (u64.wrap (Int.tdiv 1000000000 (u64.wrap ((u64.wrap x1)+1)))))).toNat) (u32.wrap (u64.wrap (Int.tdiv (u64.wrap ((u64.wrap x4)*1000000000)) (u64.wrap x2)))))with|true=>k 67 (dS a b x1 x2 s11 s14 r0 x3 (u64.wrap (Int.tdiv (u64.wrap ((u64.wrap x4)*1000000000)) (u64.wrap x2))) (ah (val (ah (val b*(u32.wrap (u64.wrap (Int.tdiv 1000000000 (u64.wrap ((u64.wrap x1)+1)))))).toNat)*(u32.wrap (u64.wrap (Int.tdiv (u64.wrap ((u64.wrap x4)*1000000000)) (u64.wrap x2))))).toNat))|false=>none))))|none=>none)|false=>(match decide (((ah (val (([x3])++s11)).toNat).length:Int)≥((ah (val b*(u32.wrap (u64.wrap (Int.tdiv 1000000000 (u64.wrap ((u64.wrap x1)+1)))))).toNat).length:Int))with|true=>(match bu (ah (val (([x3])++s11)).toNat) (i64.wrap (((ah (val b*(u32.wrap (u64.wrap (Int.tdiv 1000000000 (u64.wrap ((u64.wrap x1)+1)))))).toNat).length:Int)-1))with|some x4=>(match decide (u64.wrap x2=(0:Int))with|true=>none|false=>(match decide ((u64.wrap (Int.tdiv (u64.wrap (0+(u64.wrap x4))) (u64.wrap x2)))>999999999)with|true=>(match decide (byP (ah (val b*(u32.wrap (u64.wrap (Int.tdiv 1000000000 (u64.wrap ((u64.wrap x1)+1)))))).toNat) (u32.wrap 999999999))with|true=>k 67 (dS a b x1 x2 s11 s14 r0 x3 999999999 (ah (val (ah (val b*(u32.wrap (u64.wrap (Int.tdiv 1000000000 (u64.wrap ((u64.wrap x1)+1)))))).toNat)*(u32.wrap 999999999)).toNat))|false=>none)|false=>(match decide (byP (ah (val b*(u32.wrap (u64.wrap (Int.tdiv 1000000000 (u64.wrap ((u64.wrap x1)+1)))))).toNat) (u32.wrap (u64.wrap (Int.tdiv (u64.wrap (0+(u64.wrap x4))) (u64.wrap x2)))))with|true=>k 67 (dS a b x1 x2 s11 s14 r0 x3 (u64.wrap (Int.tdiv (u64.wrap (0+(u64.wrap x4))) (u64.wrap x2))) (ah (val (ah (val b*(u32.wrap (u64.wrap (Int.tdiv 1000000000 (u64.wrap ((u64.wrap x1)+1)))))).toNat)*(u32.wrap (u64.wrap (Int.tdiv (u64.wrap (0+(u64.wrap x4))) (u64.wrap x2))))).toNat))|false=>none)))|none=>none)|false=>(match decide (u64.wrap x2=(0:Int))with|true=>none|false=>(match decide ((u64.wrap (Int.tdiv 0 (u64.wrap x2)))>999999999)with|true=>(match decide (byP (ah (val b*(u32.wrap (u64.wrap (Int.tdiv 1000000000 (u64.wrap ((u64.wrap x1)+1)))))).toNat) (u32.wrap 999999999))with|true=>k 67 (dS a b x1 x2 s11 s14 r0 x3 999999999 (ah (val (ah (val b*(u32.wrap (u64.wrap (Int.tdiv 1000000000 (u64.wrap ((u64.wrap x1)+1)))))).toNat)*(u32.wrap 999999999)).toNat))|false=>none)|false=>(match decide (byP (ah (val b*(u32.wrap (u64.wrap (Int.tdiv 1000000000 (u64.wrap ((u64.wrap x1)+1)))))).toNat) (u32.wrap (u64.wrap (Int.tdiv 0 (u64.wrap x2)))))with|true=>k 67 (dS a b x1 x2 s11 s14 r0 x3 (u64.wrap (Int.tdiv 0 (u64.wrap x2))) (ah (val (ah (val b*(u32.wrap (u64.wrap (Int.tdiv 1000000000 (u64.wrap ((u64.wrap x1)+1)))))).toNat)*(u32.wrap (u64.wrap (Int.tdiv 0 (u64.wrap x2))))).toNat))|false=>none)))))|false=>none)|false=>none)|none=>none)|false=>(match decide ((0:Int)≤(s11.length:Int)∧(s11.length:Int)*((4:Nat):Int)≤140737488355328∧(s11.length:Int)≤140737488355328)with|true=>k 90 (pB a x1 s11 r0 0 (i64.wrap ((s11.length:Int)-1)) (List.replicate ((s11.length:Int)).toNat (0:Int)))|false=>none)
theorem kC(a b:List Int)(x1 x2:Int)(s11:List Int)(s14:Int)(r0:List Int):RN gR 30 (iH a b x1 x2 s11 s14 r0) (iP a b x1 x2 s11 s14 r0):=rnX
def kJ(a b:List Int)(x1 x2:Int)(s11:List Int)(s14:Int)(r0:List Int)(x3 s16:Int)(s17:List Int)(k:KT):Option (List RV):=match decide (ng s17 (ah (val (([x3])++s11)).toNat))with|true=>(match decide ((ce (val s17) (val (ah (val (([x3])++s11)).toNat)))>0)with|true=>(match decide (kS s17 (ah (val b*(u32.wrap (u64.wrap (Int.tdiv 1000000000 (u64.wrap ((u64.wrap x1)+1)))))).toNat))with|true=>k 67 (dS a b x1 x2 s11 s14 r0 x3 (u64.wrap (s16-1)) (ah (val s17-val (ah (val b*(u32.wrap (u64.wrap (Int.tdiv 1000000000 (u64.wrap ((u64.wrap x1)+1)))))).toNat)).toNat))|false=>none)|false=>(match decide (kS (ah (val (([x3])++s11)).toNat) s17)with|true=>(match true,decide ((0:Int)≤s14∧s14<(((((ah (val a*(u32.wrap (u64.wrap (Int.tdiv 1000000000 (u64.wrap ((u64.wrap x1)+1)))))).toNat).length:Int):Int).toNat-(0:Int).toNat:Nat):Int))with|true,true=>(match true,r0[(0:Int).toNat+(s14).toNat]? with|true,some _=>k 30 (iH a b x1 x2 (ah (val (ah (val (([x3])++s11)).toNat)-val s17).toNat) (i64.wrap (s14-1)) (r0.set ((0:Int).toNat+(s14).toNat) (u32.wrap s16)))|_,_=>none)|_,_=>none)|false=>none))|false=>none
theorem nK(a b:List Int)(x1 x2:Int)(s11:List Int)(s14:Int)(r0:List Int)(x3 s16:Int)(s17:List Int):RN gR 67 (dS a b x1 x2 s11 s14 r0 x3 s16 s17) (kJ a b x1 x2 s11 s14 r0 x3 s16 s17):=rnX
def oa(a:List Int)(x1:Int)(s11 r0:List Int)(s18 s20:Int)(r1:List Int)(k:KT):Option (List RV):=match decide (s20≥0)with|true=>(match bu s11 s20 with|some x2=>(match decide (u64.wrap (u32.wrap (u64.wrap (Int.tdiv 1000000000 (u64.wrap ((u64.wrap x1)+1)))))=(0:Int))with|true=>none|false=>(match bu r1 s20 with|some _=>(match true,r1[(s20).toNat]? with|true,some _=>(match decide (u64.wrap (u32.wrap (u64.wrap (Int.tdiv 1000000000 (u64.wrap ((u64.wrap x1)+1)))))=(0:Int))with|true=>none|false=>k 90 (pB a x1 s11 r0 (Int.tmod (u64.wrap ((u64.wrap (s18*1000000000))+(u64.wrap x2))) (u64.wrap (u32.wrap (u64.wrap (Int.tdiv 1000000000 (u64.wrap ((u64.wrap x1)+1))))))) (i64.wrap (s20-1)) (r1.set ((s20).toNat) (u32.wrap (u64.wrap (Int.tdiv (u64.wrap ((u64.wrap (s18*1000000000))+(u64.wrap x2))) (u64.wrap (u32.wrap (u64.wrap (Int.tdiv 1000000000 (u64.wrap ((u64.wrap x1)+1))))))))))))|_,_=>none)|none=>none))|none=>none)|false=>(match decide (a9 ((r0.drop ((0:Int).toNat)).take ((((ah (val a*(u32.wrap (u64.wrap (Int.tdiv 1000000000 (u64.wrap ((u64.wrap x1)+1)))))).toNat).length:Int):Int).toNat-(0:Int).toNat)))with|true=>(match decide (a9 r1)with|true=>some [RV.d atA (ah (val ((r0.drop ((0:Int).toNat)).take ((((ah (val a*(u32.wrap (u64.wrap (Int.tdiv 1000000000 (u64.wrap ((u64.wrap x1)+1)))))).toNat).length:Int):Int).toNat-(0:Int).toNat))).toNat),RV.d atA (ah (val r1).toNat)]|false=>none)|false=>none)
theorem vK(a:List Int)(x1:Int)(s11 r0:List Int)(s18 s20:Int)(r1:List Int):RN gR 90 (pB a x1 s11 r0 s18 s20 r1) (oa a x1 s11 r0 s18 s20 r1):=rnX
def qsc(x1:Int):Int:=u32.wrap (u64.wrap (Int.tdiv 1000000000 (u64.wrap ((u64.wrap x1)+1))))
theorem ff(x1:Int):u32.wrap (u64.wrap (Int.tdiv 1000000000 (u64.wrap ((u64.wrap x1)+1))))=qsc x1:=by
 have h:∀y,qsc x1=y→y=qsc x1:=fun y e=>e.symm
 exact h _ rfl
theorem adO{x:Int}(h1:1≤x)(h2:x<1000000000):qsc x=1000000000/(x+1)∧1≤qsc x∧qsc x<1000000000:=by
 have h3:1≤1000000000/(x+1):=Int.le_ediv_of_mul_le (by omega) (by omega)
 have h4:1000000000/(x+1)<1000000000:=ar0 (by omega) (by omega)
 unfold qsc
 rw[bH (x:=x) (by omega) (by omega),bH (x:=x+1) (by omega) (by omega),fe (by omega),bH (by omega) (by omega),cM (by omega) (by omega)]
 exact⟨rfl,h3,h4⟩
theorem Ew{v:Int}(h:0<v):∃(n:Nat) (x:Int),(ah v.toNat).length=n+1∧(ah v.toNat)[n]?=some x∧1≤x∧x<1000000000∧x*pw n≤v:=by
 have hne:ah v.toNat≠[]:=fun e=>by rw[fF]at e;omega
 rcases List.eq_nil_or_concat (ah v.toNat)with h0|⟨l,x,hx⟩
 ·exact absurd h0 hne
 ·have hv:=bI v.toNat
  have hc:=dq v.toNat
  have hl:=bW v.toNat
  rw[List.concat_eq_append]at hx
  rw[hx]at hv hc hl
  have hxx:=hl x (by simp)
  have hx0:x≠0:=fun e=>hc.2 (by simp[e])
  have hln:=aY (l:=l) (fun y hy=>hl y (by simp[hy]))
  rw[cX]at hv
  simp only[val]at hv
  refine⟨l.length,x,by rw[hx];simp,by rw[hx];simp,by omega,hxx.2,?_⟩
  rw[ar4]
  rw[asA,atc]at hv
  omega
section
variable (a b:List Int) (x1 x2:Int) (V:Int) (hV:val b*qsc x1=V) (hs:1≤qsc x1∧qsc x1<1000000000) (hp:0<V) (hra:(ah (val a*qsc x1).toNat).length≤a.length+1) (ha:Lim a∧a.length≤1000000) (hL:(ah V.toNat).length≤1000001)
theorem NY(hs:1≤qsc x1∧qsc x1<1000000000)(l r0:List Int)(hl:Lim l∧l.length≤2000000)(hr0:a9 r0)(hz0:∀k (hk:k<r0.length),(ah (val a*qsc x1).toNat).length≤k→r0[k]=0):∀(n:Nat) (c:Int) (r:List Int),n≤l.length→0≤c→c<qsc x1→Lim r→r.length=l.length→(∀k (hk:k<r.length),k<n→r[k]=0)→qsc x1*val r+pw n*c+val (l.take n)=val l→
  gR.Runs 90 (pB a x1 l r0 c ((n:Int)-1) r) [.d atA (ah (val r0).toNat),.d atA (ah (val l/qsc x1).toNat)]:=by
 have hsa:=hl.2
 have e64:u64.wrap (qsc x1)=qsc x1:=bH (by omega) (by omega)
 intro n
 induction n with
 |zero=>
  intro c r hn c0 c1 hr hlen hz hv
  simp only[kp,List.take_zero,val,ato,atc]at hv
  have e2:val l/qsc x1=val r:=by
   rw[←hv,atd,asb _ _ (by omega),arL c0 c1]
   omega
  have e3:=uP hz0
  have e4:a9 (r0.take (ah (val a*qsc x1).toNat).length):=⟨hr0.1.take _,by have:=hr0.2;rw[arb];omega⟩
  refine vK _ _ _ _ _ _ _ ⟨0,?_⟩
  unfold oa
  simp only[ff,Int.toNat_zero,ar8,asg,ata]
  rw[dF (by omega)]
  dsimp only
  rw[dT e4,dT (show a9 r from⟨hr,by omega⟩),e3,e2]
 |succ n ih=>
  intro c r hn c0 c1 hr hlen hz hv
  have hna:n<l.length:=by omega
  have hnr:n<r.length:=by omega
  have xa:=hl.1.get hna
  have hr0':=hz n hnr (by omega)
  have hcb:0≤c*1000000000+l[n]:=by omega
  have m0:=arD (c*1000000000+l[n]) (show qsc x1≠0 by omega)
  have m1:=aq4 (c*1000000000+l[n]) (show 0<qsc x1 by omega)
  have md:=arg (c*1000000000+l[n]) (qsc x1)
  have d0:0≤(c*1000000000+l[n])/qsc x1:=ary hcb (by omega)
  have d1:(c*1000000000+l[n])/qsc x1<1000000000:=by
   refine ar0 (by omega) ?_
   have:=aqL (show c+1≤qsc x1 by omega) (show(0:Int)≤1000000000 by decide)
   rw[ar4 1000000000 (qsc x1)]
   omega
  obtain⟨q,hq⟩:=ih ((c*1000000000+l[n])%qsc x1) (r.set n ((c*1000000000+l[n])/qsc x1)) (by omega) m0 m1 (hr.set n ⟨d0,d1⟩) (by simpa using hlen)
   (fun k hk hkn=>by rw[arV (by omega)];exact hz k (by simpa using hk) (by omega)) (by
    rw[dW hnr,hr0']
    rw[bj hna,b8]at hv
    grind)
  refine vK _ _ _ _ _ _ _ ⟨q,?_⟩
  unfold oa
  simp only[ff]
  rw[show((n+1:Nat):Int)-1=(n:Int) by omega,dT (by omega),aI l n,aqt hna,e64,dF (show ¬qsc x1=0 by omega),aI r n,aO,aqt hnr]
  dsimp only
  rw[bH (x:=c*1000000000) (by omega) (by omega),bH (x:=l[n]) (by omega) (by omega),bH (x:=c*1000000000+l[n]) (by omega) (by omega),fe hcb,gI hcb,bH (x:=(c*1000000000+l[n])/qsc x1) (by omega) (by omega),cM (x:=(c*1000000000+l[n])/qsc x1) (by omega) (by omega),bi (x:=(n:Int)-1) (by omega) (by omega)]
  exact hq
include hV hp hL in
theorem D5{res:List RV}(i:Nat)(hi:i<(ah (val a*qsc x1).toNat).length)(r0 l:List Int)(hlr:r0.length=a.length+1)(hra:(ah (val a*qsc x1).toNat).length≤a.length+1)(x3 W:Int)(hW:val ([x3]++l)=W)(W0:0≤W)(hWl:(ah W.toNat).length≤1000002)
  (hout:gR.Runs 30 (iH a b x1 x2 (ah (W%V).toNat) ((i:Int)-1) (r0.set i (W/V))) res) (hi':(ah (val a*qsc x1).toNat).length≤2000000):
  ∀(d:Nat),d≤999999999→W<V*((d:Int)+1)→gR.Runs 67 (dS a b x1 x2 l (i:Int) r0 x3 (d:Int) (ah (V*(d:Int)).toNat)) res:=by
 intro d
 have hsz:∀e:Nat,e≤999999999→(ah (V*(e:Int)).toNat).length≤1000002:=fun e he=>by
  refine cp (arq (by omega) (by omega)) ?_
  have h1:V<pw 1000001:=by
   have:=bV (bW V.toNat)
   rw[bI]at this
   have:=cQ hL
   omega
  rw[b8 1000001]
  have h2:V*(e:Int)≤V*999999999:=aqH (by omega) (by omega)
  omega
 induction d with
 |zero=>
  intro _ hd
  obtain⟨q,hq⟩:=hout
  have hWV:W<V:=by simpa using hd
  rw[asw W0 hWV,arL W0 hWV]at hq
  refine nK _ _ _ _ _ _ _ _ _ _ ⟨q,?_⟩
  unfold kJ
  simp only[ff,hV,hW]
  rw[show(V*((0:Nat):Int)).toNat=0 by simp,dT (show ng (ah 0) (ah W.toNat) from⟨⟨dq _,by decide⟩,dq _,by omega⟩),bT W0,ui,show val (ah 0)=0 from rfl,dF (show ¬W<0 by omega),dT (show kS (ah W.toNat) (ah 0) from⟨ct (by omega),ct (by decide),by rw[bT W0];exact W0⟩)]
  dsimp only
  rw[dT (show(0:Int)≤(i:Int)∧(i:Int)<((((ah (val a*qsc x1).toNat).length:Int).toNat-(0:Int).toNat:Nat):Int) by constructor<;>simp<;>omega)]
  rw[show(0:Int).toNat+((i:Int)).toNat=i by simp,aqt (by omega)]
  dsimp only
  rw[Int.sub_zero,bi (by omega) (by omega)]
  exact hq
 |succ d ih=>
  intro hd1 hd
  have hc:((d+1:Nat):Int)=(d:Int)+1:=by omega
  rw[hc]at hd
  have hV1:0≤V*((d:Int)+1):=arq (by omega) (by omega)
  have hV0:0≤V*(d:Int):=arq (by omega) (by omega)
  have hVd:V*((d:Int)+1)-V=V*(d:Int):=by grind
  have hs1:=hsz (d+1) (by omega)
  rw[hc]at hs1
  have k1:=bI V.toNat
  by_cases hg:W<V*((d:Int)+1)
  ·obtain⟨q,hq⟩:=ih (by omega) hg
   refine nK _ _ _ _ _ _ _ _ _ _ ⟨q,?_⟩
   unfold kJ
   simp only[ff,hV,hW]
   rw[hc,dT (show ng (ah (V*((d:Int)+1)).toNat) (ah W.toNat) from⟨⟨dq _,by omega⟩,dq _,by omega⟩),bT W0,bT hV1,ui,dT hg,dT (show kS (ah (V*((d:Int)+1)).toNat) (ah V.toNat) from⟨ct (by omega),ct (by omega),by rw[bT hV1,bT (by omega)];omega⟩),bT (v:=V) (by omega),hVd,bH (by omega) (by omega),show(d:Int)+1-1=(d:Int) by omega]
   exact hq
  ·obtain⟨q,hq⟩:=hout
   have e1:W/V=(d:Int)+1:=by
    have:W=(W-V*((d:Int)+1))+V*((d:Int)+1):=by omega
    rw[this,asb _ _ (by omega),arL (by omega) (by grind)]
    omega
   have e2:W%V=W-V*((d:Int)+1):=by
    have:=arg W V
    rw[e1]at this
    omega
   rw[e1,e2]at hq
   refine nK _ _ _ _ _ _ _ _ _ _ ⟨q,?_⟩
   unfold kJ
   simp only[ff,hV,hW]
   rw[hc,dT (show ng (ah (V*((d:Int)+1)).toNat) (ah W.toNat) from⟨⟨dq _,by omega⟩,dq _,by omega⟩),bT W0,bT hV1,ui,dF hg,dT (show kS (ah W.toNat) (ah (V*((d:Int)+1)).toNat) from⟨ct (by omega),ct (by omega),by rw[bT hV1,bT W0];omega⟩)]
   dsimp only
   rw[dT (show(0:Int)≤(i:Int)∧(i:Int)<((((ah (val a*qsc x1).toNat).length:Int).toNat-(0:Int).toNat:Nat):Int) by constructor<;>simp<;>omega)]
   rw[show(0:Int).toNat+((i:Int)).toNat=i by simp,aqt (by omega)]
   dsimp only
   rw[bi (by omega) (by omega),cM (by omega) (by omega)]
   exact hq
end
end
section
def mU(k:Nat→Cfg→Option (List RV))(a b:List Int)(x1 x2:Int)(s11:List Int)(s14:Int)(r0:List Int)(x3 H:Int):Option (List RV):=match decide (u64.wrap x2=(0:Int))with|true=>none|false=>(match decide ((u64.wrap (Int.tdiv H (u64.wrap x2)))>999999999)with|true=>(match decide (byP (ah (val b*(u32.wrap (u64.wrap (Int.tdiv 1000000000 (u64.wrap ((u64.wrap x1)+1)))))).toNat) (u32.wrap 999999999))with|true=>k 67 (dS a b x1 x2 s11 s14 r0 x3 999999999 (ah (val (ah (val b*(u32.wrap (u64.wrap (Int.tdiv 1000000000 (u64.wrap ((u64.wrap x1)+1)))))).toNat)*(u32.wrap 999999999)).toNat))|false=>none)|false=>(match decide (byP (ah (val b*(u32.wrap (u64.wrap (Int.tdiv 1000000000 (u64.wrap ((u64.wrap x1)+1)))))).toNat) (u32.wrap (u64.wrap (Int.tdiv H (u64.wrap x2)))))with|true=>k 67 (dS a b x1 x2 s11 s14 r0 x3 (u64.wrap (Int.tdiv H (u64.wrap x2))) (ah (val (ah (val b*(u32.wrap (u64.wrap (Int.tdiv 1000000000 (u64.wrap ((u64.wrap x1)+1)))))).toNat)*(u32.wrap (u64.wrap (Int.tdiv H (u64.wrap x2))))).toNat))|false=>none))
theorem R8{W V H x p d:Int}(hx:1≤x)(hW:W<(H+1)*p)(hp:0<p)(hV:x*p≤V)(hd:H/x=d)(h0:0≤H):W<V*(d+1):=by
 have h1:=arg H x
 have h2:=aq4 H (show 0<x by omega)
 have h3:0≤d:=by rw[←hd];exact ary h0 (by omega)
 rw[hd]at h1
 have h4:H+1≤x*(d+1):=by grind
 have h5:=aqL h4 (aq2 hp)
 have h6:=aqL hV (show 0≤d+1 by omega)
 grind
theorem aeW{A B s R q:Int}(hs:0<s)(h:A*s=R+B*s*q)(h0:0≤R)(h1:R<B*s):A/B=q∧A%B=R/s:=by
 have e:R=s*(A-B*q):=by grind
 have hm:R/s=A-B*q:=by rw[e];exact asx _ (by omega)
 have m0:0≤A-B*q:=by
  apply aqN
  intro hc
  have:=aqH (show A-B*q≤ -1 by omega) (aq2 hs)
  omega
 have m1:A-B*q<B:=by
  apply aqN
  intro hc
  have:=aqH (show B≤A-B*q by omega) (aq2 hs)
  grind
 have hA:A=(A-B*q)+B*q:=by omega
 constructor
 ·rw[hA,asb _ _ (by omega),arL (by omega) (by omega)];omega
 ·rw[hm,hA,asm,asw (by omega) (by omega)];omega
section
variable (a b:List Int) (x1 x2:Int) (V:Int) (hV:val b*qsc x1=V) (hs:1≤qsc x1∧qsc x1<1000000000) (hp:0<V) (hra:(ah (val a*qsc x1).toNat).length≤a.length+1) (ha:Lim a∧a.length≤1000000) (hL:(ah V.toNat).length≤1000001)
include hV hs hp hra ha hL in
theorem Fk(n:Nat)(hn:(ah V.toNat).length=n+1)(hx2:1≤x2∧x2<1000000000)(hxp:x2*pw n≤V):∀(i:Nat) (R:Int) (r0:List Int),i≤(ah (val a*qsc x1).toNat).length→0≤R→R<V→r0.length=a.length+1→Lim r0→
  (∀k (hk:k<r0.length),k<i→r0[k]=0)→(∀k (hk:k<r0.length),(ah (val a*qsc x1).toNat).length≤k→r0[k]=0)→val a*qsc x1=pw i*R+val ((ah (val a*qsc x1).toNat).take i)+V*val r0→
  gR.Runs 30 (iH a b x1 x2 (ah R.toNat) ((i:Int)-1) r0) [.d atA (ah (val a/val b).toNat),.d atA (ah (val a%val b).toNat)]:=by
 have hVp:V<pw 1000001:=by
  have:=bV (bW V.toNat)
  rw[bI]at this
  have:=cQ hL
  omega
 have ha2:=ha.2
 intro i
 induction i with
 |zero=>
  intro R r0 _ R0 RV hlr hl _ hz he
  simp only[kp,List.take_zero,val,ato,atc]at he
  rw[←hV]at he
  obtain⟨e1,e2⟩:=aeW (by omega) he R0 (by rw[hV];exact RV)
  have hRl:(ah R.toNat).length≤1000001:=cp R0 (by omega)
  obtain⟨q,hq⟩:=NY a x1 hs (ah R.toNat) r0 ⟨bW _,by omega⟩ ⟨hl,by omega⟩ hz (ah R.toNat).length 0 (List.replicate (ah R.toNat).length 0) (aqE _) (by omega) (by omega) (Lim.rep _) (by simp) (fun k hk _=>by simp) (by simp[fq])
  rw[bT R0,←e2,←e1]at hq
  refine kC _ _ _ _ _ _ _ ⟨q,?_⟩
  unfold iP
  rw[dF (by omega)]
  dsimp only
  rw[dT (show(0:Int)≤((ah R.toNat).length:Int)∧((ah R.toNat).length:Int)*((4:Nat):Int)≤140737488355328∧((ah R.toNat).length:Int)≤140737488355328 from⟨by omega,by omega,by omega⟩),aO,bi (by omega) (by omega)]
  exact hq
 |succ i ih=>
  intro R r0 hi R0 RV hlr hl hz hz2 he
  have hiU:i<(ah (val a*qsc x1).toNat).length:=by omega
  have hx:=(bW (val a*qsc x1).toNat).get hiU
  have hir:i<r0.length:=by omega
  have hr0:=hz i hir (by omega)
  have hWv:val ([(ah (val a*qsc x1).toNat)[i]]++ah R.toNat)=(ah (val a*qsc x1).toNat)[i]+1000000000*R:=by
   rw[cX,bT R0]
   simp[val,pw]
  generalize hxi:(ah (val a*qsc x1).toNat)[i]=x at hx hWv
  have W0:0≤x+1000000000*R:=by omega
  have WV:x+1000000000*R<1000000000*V:=by omega
  have hWl:(ah (x+1000000000*R).toNat).length≤n+2:=by
   refine cp W0 ?_
   have:=bV (bW V.toNat)
   rw[bI,hn]at this
   rw[b8 (n+1)]
   omega
  have hRl:(ah R.toNat).length≤1000001:=cp R0 (by omega)
  have q0:0≤(x+1000000000*R)/V:=ary W0 (by omega)
  have q1:(x+1000000000*R)/V<1000000000:=ar0 hp (by omega)
  have m0:=arD (x+1000000000*R) (show V≠0 by omega)
  have m1:=aq4 (x+1000000000*R) hp
  have md:=arg (x+1000000000*R) V
  have hout:=ih ((x+1000000000*R)%V) (r0.set i ((x+1000000000*R)/V)) (by omega) m0 m1 (by simpa using hlr) (hl.set i ⟨q0,q1⟩)
   (fun k hk hk'=>by rw[arV (by omega)];exact hz k (by simpa using hk) (by omega))
   (fun k hk hk'=>by rw[arV (by omega)];exact hz2 k (by simpa using hk) hk') (by
    rw[dW hir,hr0]
    rw[bj hiU,b8,hxi]at he
    grind)
  have hdig:=D5 a b x1 x2 V hV hp hL i hiU r0 (ah R.toNat) hlr hra x (x+1000000000*R) hWv W0 (by omega) hout (by omega)
  have htail:∀H:Int,0≤H→H<1000000000000000000→x+1000000000*R<(H+1)*pw n→∃q,mU (gR.k q) a b x1 x2 (ah R.toNat) ((i:Int)) r0 x H=some [.d atA (ah (val a/val b).toNat),.d atA (ah (val a%val b).toNat)]:=by
   intro H H0 H1 HW
   have d0:0≤H/x2:=ary H0 (by omega)
   have d1:H/x2≤H:=asf _ H0
   have hbyV:∀d:Int,0≤d→d<1000000000→byP (ah V.toNat) d:=fun d h1 h2=>⟨⟨bW _,by omega⟩,h1,h2⟩
   by_cases hc:H/x2>999999999
   ·obtain⟨q,hq⟩:=hdig 999999999 (aqE _) (by rw[show V*(((999999999:Nat):Int)+1)=1000000000*V by omega];exact WV)
    refine⟨q,?_⟩
    unfold mU
    simp only[ff,hV]
    rw[bH (x:=x2) (by omega) (by omega),dF (show ¬x2=0 by omega),fe H0,bH (x:=H/x2) (by omega) (by omega),dT hc,cM (x:=999999999) (by decide) (by decide),dT (hbyV 999999999 (by decide) (by decide)),bT (v:=V) (by omega)]
    exact hq
   ·obtain⟨q,hq⟩:=hdig (H/x2).toNat (by omega) (by rw[show(((H/x2).toNat:Nat):Int)=H/x2 by omega];exact R8 hx2.1 HW (bU n) hxp rfl H0)
    rw[show(((H/x2).toNat:Nat):Int)=H/x2 by omega]at hq
    refine⟨q,?_⟩
    unfold mU
    simp only[ff,hV]
    rw[bH (x:=x2) (by omega) (by omega),dF (show ¬x2=0 by omega),fe H0,bH (x:=H/x2) (by omega) (by omega),dF hc,cM (x:=H/x2) (by omega) (by omega),dT (hbyV (H/x2) (by omega) (by omega)),bT (v:=V) (by omega)]
    exact hq
  have hWlim:=bW (x+1000000000*R).toNat
  have hWval:=bT W0
  have hsplit:=eN (ah (x+1000000000*R).toNat) n
  have htl:=bV (hWlim.take n)
  have hpre:∀H,val ((ah (x+1000000000*R).toNat).drop n)=H→x+1000000000*R<(H+1)*pw n:=by
   intro H hH
   rw[hH,hWval]at hsplit
   have hm:(ah (x+1000000000*R).toNat |>.take n).length≤n:=by rw[arb];omega
   have:=cQ hm
   rcases aqT n (ah (x+1000000000*R).toNat).length with h|h
   ·rw[aq0 (by omega)]at hsplit
    rw[Int.add_mul,ar4 H,ato]
    omega
   ·rw[arm h]at hH
    have hH0:H=0:=by rw[←hH];rfl
    subst hH0
    rw[asA]at hsplit
    omega
  have hstep:∀(H:Int) (q:Nat),mU (gR.k q) a b x1 x2 (ah R.toNat) ((i:Int)) r0 x H=some [.d atA (ah (val a/val b).toNat),.d atA (ah (val a%val b).toNat)]→True:=fun _ _ _=>trivial
  have hap:(([x]:List Int).length+(ah R.toNat).length)*4≤140737488355328∧([x]:List Int).length+(ah R.toNat).length≤140737488355328:=by simp only[aqZ];omega
  have hlS:a9 ([x]++ah R.toNat):=⟨(Lim.cons ⟨hx.1,hx.2⟩ Lim.nil).append (bW _),by simp only[arN,aqZ];omega⟩
  have hw1:i64.wrap (((n+1:Nat):Int)-1)=((n:Nat):Int):=by rw[bi (by omega) (by omega)];omega
  rcases Nat.lt_trichotomy (ah (x+1000000000*R).toNat).length (n+1)with hc|hc|hc
  ·obtain⟨q,hq⟩:=htail 0 (by omega) (by omega) (hpre 0 (by rw[arm (by omega)];rfl))
   refine kC _ _ _ _ _ _ _ ⟨q,?_⟩
   unfold iP
   rw[dT (show((i+1:Nat):Int)-1≥0 by omega),show((i+1:Nat):Int)-1=(i:Int) by omega,ff,aI,aqt hiU,hxi]
   dsimp only
   rw[dT hap,dT hlS,hWv,hV,hn]
   dsimp only
   rw[dF (show ¬((ah (x+1000000000*R).toNat).length:Int)>((n+1:Nat):Int) by omega),dF (show ¬((ah (x+1000000000*R).toNat).length:Int)≥((n+1:Nat):Int) by omega)]
   rw[←hV]
   exact hq
  ·have hget:(ah (x+1000000000*R).toNat)[n]?=some (ah (x+1000000000*R).toNat)[n]:=aqt (by omega)
   have hxn:=hWlim.get (show n<(ah (x+1000000000*R).toNat).length by omega)
   have hdrop:val ((ah (x+1000000000*R).toNat).drop n)=(ah (x+1000000000*R).toNat)[n]:=by
    rw[jS (by omega),arm (by omega)]
    simp[val]
   obtain⟨q,hq⟩:=htail (ah (x+1000000000*R).toNat)[n] hxn.1 (by omega) (hpre _ hdrop)
   refine kC _ _ _ _ _ _ _ ⟨q,?_⟩
   unfold iP
   rw[dT (show((i+1:Nat):Int)-1≥0 by omega),show((i+1:Nat):Int)-1=(i:Int) by omega,ff,aI,aqt hiU,hxi]
   dsimp only
   rw[dT hap,dT hlS,hWv,hV,hn]
   dsimp only
   rw[dF (show ¬((ah (x+1000000000*R).toNat).length:Int)>((n+1:Nat):Int) by omega),dT (show((ah (x+1000000000*R).toNat).length:Int)≥((n+1:Nat):Int) by omega),hw1,aI (ah (x+1000000000*R).toNat) n,hget]
   dsimp only
   rw[Int.zero_add,bH (x:=(ah (x+1000000000*R).toNat)[n]) (by omega) (by omega),bH (x:=(ah (x+1000000000*R).toNat)[n]) (by omega) (by omega)]
   rw[←hV]
   exact hq
  ·have hget:(ah (x+1000000000*R).toNat)[n]?=some (ah (x+1000000000*R).toNat)[n]:=aqt (by omega)
   have hget1:(ah (x+1000000000*R).toNat)[n+1]?=some (ah (x+1000000000*R).toNat)[n+1]:=aqt (by omega)
   have hxn:=hWlim.get (show n<(ah (x+1000000000*R).toNat).length by omega)
   have hxn1:=hWlim.get (show n+1<(ah (x+1000000000*R).toNat).length by omega)
   have hdrop:val ((ah (x+1000000000*R).toNat).drop n)=(ah (x+1000000000*R).toNat)[n+1]*1000000000+(ah (x+1000000000*R).toNat)[n]:=by
    rw[jS (by omega),jS (by omega),arm (by omega)]
    simp only[val]
    omega
   obtain⟨q,hq⟩:=htail ((ah (x+1000000000*R).toNat)[n+1]*1000000000+(ah (x+1000000000*R).toNat)[n]) (by omega) (by omega) (hpre _ hdrop)
   refine kC _ _ _ _ _ _ _ ⟨q,?_⟩
   unfold iP
   rw[dT (show((i+1:Nat):Int)-1≥0 by omega),show((i+1:Nat):Int)-1=(i:Int) by omega,ff,aI,aqt hiU,hxi]
   dsimp only
   rw[dT hap,dT hlS,hWv,hV,hn]
   dsimp only
   rw[dT (show((ah (x+1000000000*R).toNat).length:Int)>((n+1:Nat):Int) by omega),aI (ah (x+1000000000*R).toNat) (n+1),hget1]
   dsimp only
   rw[dT (show((ah (x+1000000000*R).toNat).length:Int)≥((n+1:Nat):Int) by omega),hw1,aI (ah (x+1000000000*R).toNat) n,hget]
   dsimp only
   rw[bH (x:=(ah (x+1000000000*R).toNat)[n+1]) (by omega) (by omega),bH (x:=(ah (x+1000000000*R).toNat)[n+1]*1000000000) (by omega) (by omega),bH (x:=(ah (x+1000000000*R).toNat)[n]) (by omega) (by omega),bH (x:=(ah (x+1000000000*R).toNat)[n+1]*1000000000+(ah (x+1000000000*R).toNat)[n]) (by omega) (by omega)]
   rw[←hV]
   exact hq
end
end
theorem QE(a b:List Int)(h:yo a b):Con Tryz.prog 187 [.d atA a,.d atA b] [.d atA (ah (val a/val b).toNat),.d atA (ah (val a%val b).toNat)]:=by
 refine aN Jv (show gR.Res _ _ _ from ?_)
 obtain⟨⟨ha,sa⟩,⟨hb,sb⟩,hne⟩:=h
 have a0:=aY ha.1
 have b0:0<val b:=dI hb hne
 have hlen:=ara.2 hne
 have la:=bV ha.1
 have lb:=bV hb.1
 by_cases hsm:a.length≤2∧b.length≤2
 ·have p2:pw 2=1000000000000000000:=by decide
  have m1:=cQ hsm.1
  have m2:=cQ hsm.2
  have q0:0≤val a/val b:=ary a0 (by omega)
  have q1:val a/val b≤val a:=asf _ a0
  have r0:=arD (val a) (show val b≠0 by omega)
  have r1:=aq4 (val a) b0
  refine Ra _ _ ⟨0,?_⟩
  unfold FF
  rw[dT (show(a.length:Int)≤2 by omega),dT (show(b.length:Int)≤2 by omega),dT (show nO a from⟨⟨ha.1,by omega⟩,by omega⟩),dT (show nO b from⟨⟨hb.1,by omega⟩,by omega⟩),dF (show ¬val b=0 by omega),fe a0,gI a0,bH (x:=val a/val b) q0 (by omega),dT (show fw (val a/val b) from⟨q0,by omega⟩),dT (show fw (val a%val b) from⟨r0,by omega⟩)]
 ·obtain⟨n,hn⟩:∃n,b.length=n+1:=⟨b.length-1,by omega⟩
  have hbn:n<b.length:=by omega
  have ht:=pU hb hn
  have hbl:=hb.1.get hbn
  obtain⟨hs0,hs1,hs2⟩:=adO (x:=b[n]) ht hbl.2
  have hVp:0<val b*qsc b[n]:=Int.mul_pos b0 (by omega)
  have hVl:(ah (val b*qsc b[n]).toNat).length≤1000001:=by
   refine cp (by omega) ?_
   have h1:val b*qsc b[n]≤val b*999999999:=aqH (by omega) (by omega)
   have h2:=cQ sb
   rw[b8 1000000]
   omega
  have hUl:(ah (val a*qsc b[n]).toNat).length≤a.length+1:=by
   refine cp (arq a0 (by omega)) ?_
   have h1:val a*qsc b[n]≤val a*999999999:=aqH (by omega) (by omega)
   rw[b8]
   omega
  obtain⟨m,x2,hm,hg,hx1,hx2,hxp⟩:=Ew hVp
  obtain⟨q,hq⟩:=Fk a b b[n] x2 (val b*qsc b[n]) rfl ⟨hs1,hs2⟩ hVp hUl ⟨ha.1,sa⟩ hVl m hm ⟨hx1,hx2⟩ hxp (ah (val a*qsc b[n]).toNat).length 0 (List.replicate (a.length+1) 0) (aqE _) (by omega) hVp (by simp) (Lim.rep _) (fun k hk _=>by simp) (fun k hk _=>by simp) (by
   rw[arH,bT (arq a0 (by omega)),fq];omega)
  refine Ra _ _ ⟨q,?_⟩
  have hw1:i64.wrap ((b.length:Int)-1)=(n:Int):=by rw[bi (by omega) (by omega)];omega
  have hx1w:¬u64.wrap (u64.wrap b[n]+1)=0:=by rw[bH (x:=b[n]) (by omega) (by omega),bH (by omega) (by omega)];omega
  have hbyb:byP b (qsc b[n]):=⟨⟨hb.1,by omega⟩,by omega,hs2⟩
  have hbya:byP a (qsc b[n]):=⟨⟨ha.1,by omega⟩,by omega,hs2⟩
  have hw2:i64.wrap (((m+1:Nat):Int)-1)=(m:Int):=by rw[bi (by omega) (by omega)];omega
  have hsub:(match bu b (i64.wrap ((b.length:Int)-1))with|some x1=>(match decide (u64.wrap ((u64.wrap x1)+1)=(0:Int))with|true=>none|false=>(match decide (byP b (qsc x1))with|true=>(match bu (ah (val b*(qsc x1)).toNat) (i64.wrap (((ah (val b*(qsc x1)).toNat).length:Int)-1))with|some x2=>(match decide ((0:Int)≤i64.wrap ((a.length:Int)+1)∧(i64.wrap ((a.length:Int)+1))*((4:Nat):Int)≤140737488355328∧i64.wrap ((a.length:Int)+1)≤140737488355328)with|true=>(match decide (byP a (qsc x1))with|true=>(match decide ((0:Int)≤0∧0≤((ah (val a*(qsc x1)).toNat).length:Int)∧((ah (val a*(qsc x1)).toNat).length:Int)≤((List.replicate (i64.wrap ((a.length:Int)+1)).toNat (0:Int)).length:Int))with|true=>(gR.k q) 30 (iH a b x1 x2 ([]) (i64.wrap (((ah (val a*(qsc x1)).toNat).length:Int)-1)) (List.replicate (i64.wrap ((a.length:Int)+1)).toNat (0:Int)))|false=>none)|false=>none)|false=>none)|none=>none)|false=>none))|none=>none)=some [.d atA (ah (val a/val b).toNat),.d atA (ah (val a%val b).toNat)]:=by
   rw[hw1,aI,aqt hbn]
   dsimp only
   rw[dF hx1w,dT hbyb,hm,hw2,aI,hg]
   dsimp only
   rw[cG (k:=a.length) (by omega),o9 (n:=a.length+1) (by omega),dT hbya,aO,asP,dT (show(0:Int)≤0∧(0:Int)≤((ah (val a*qsc b[n]).toNat).length:Int)∧((ah (val a*qsc b[n]).toNat).length:Int)≤((a.length+1:Nat):Int) from⟨by omega,by omega,by omega⟩),bi (x:=((ah (val a*qsc b[n]).toNat).length:Int)-1) (by omega) (by omega)]
   exact hq
  unfold FF
  by_cases h1:a.length≤2
  ·rw[dT (show(a.length:Int)≤2 by omega),dF (show ¬(b.length:Int)≤2 by omega)]
   exact hsub
  ·rw[dF (show ¬(a.length:Int)≤2 by omega)]
   exact hsub
def F4:aM:=spN false false [atA,atA] (fun x=>decide (yo x.1 x.2.1)) (fun x=>[RV.d atA (ah (val x.1/val x.2.1).toNat),RV.d atA (ah (val x.1%val x.2.1).toNat)])
theorem JC:SpK 187 F4:=spX fun x h=>QE x.1 x.2.1 (aqr h)
def sJ:aM:=spN false false [atB] (fun x=>decide (aX x.1)) (fun x=>[RV.d y2Y (ai x.1)])
theorem qj:SpK 134 sJ:=spX fun x h=>Cu x.1 (aqr h)
def GV:aM:=spN false false [y2Y,y2Y] (fun x=>decide (okI x.1∧okI x.2.1)) (fun x=>[RV.d y2Y (ai (ae x.1-ae x.2.1))])
theorem IX:SpK 257 GV:=spX fun x h=>S8 x.1 x.2.1 (aqr h)
def E1:Env:=[(185,mq),(190,pc),(189,oD),(186,mj),(249,DB),(250,sF),(187,F4),(134,sJ),(257,GV),(188,sU),(212,oK)]
theorem xW:EnvAll Tryz.prog E1:=⟨jz,mE,mw,jB,CO,ru,JC,qj,IX,qe,m6,trivial⟩
def ag5:Ctx:=CX E1 []
def Sx(x y:Bool×List Int)(_k:KT):Option (List RV):=let y1:=ah (val x.2/val y.2).toNat;let y2:=ah (val x.2%val y.2).toNat;let y3:=ai (bZ (!(x.1==y.1)) (val y1));let y4:=ai (bZ x.1 (val y2));let y5:Option (List RV):=match decide ((y2.length:Int)>0)with|true=>(match !(x.1==y.1)with|true=>(match decide (aX (1:Int))with|true=>(match decide (okI y3∧okI (ai (1:Int)))with|true=>(match decide (okI y4∧okI y)with|true=>dup (.b .l .l) (some [RV.d y2Y (ai (ae y3-ae (ai (1:Int)))),RV.d y2Y (ai (ae y4+ae y)),RV.d atB 0])|false=>none)|false=>none)|false=>none)|false=>dup (.b .l .l) (some [RV.d y2Y y3,RV.d y2Y y4,RV.d atB 0]))|false=>dup (.b .l .l) (some [RV.d y2Y y3,RV.d y2Y y4,RV.d atB 0]);let y6:Option (List RV):=match decide (a9 y2)with|true=>y5|false=>none;match(y.2.length:Int)==0 with|true=>some [RV.d y2Y (false,[]),RV.d y2Y (false,[]),RV.d atB 6]|false=>(match decide (yo x.2 y.2)with|true=>cg (match decide (a9 y1)with|true=>cg (match decide (a9 y2)with|true=>dup (.b .l .l) y5|false=>none) (dup (.b (.b .l .l) (.b .l .l)) y6)|false=>none) (dup (.b .l .l) (cg (match decide (a9 y1)with|true=>dup (.b .l .l) y6|false=>none) (match decide (a9 y1)with|true=>y6|false=>none)))|false=>none)
theorem aez(x y:Bool×List Int):RS ag5 214 [.d y2Y x,.d y2Y y] (Sx x y):=rsX
def Wv:NT:=[((103,6),{keep:=[4,5,6],pure_:=[(5,.int .u32),(6,.int .u32)],hl:=3}),((103,29),{keep:=[4,9,10],hl:=3})]
def re:Ctx:=CX E1 Wv
def ot(x y:Bool×List Int)(s5 s6:List Int):Cfg:=⟨103,[.blk 0,.seq 17],[(4,.box 2 0),(5,.d atA s5),(6,.d atA s6)],[.box 33 [SB x.1,.d atA x.2],.box 33 [SB y.1,.d atA y.2],.box 33 [SB false,.nil]],0,[]⟩
def ls(x y:Bool×List Int)(s9 s10:Int):Cfg:=⟨103,[.blk 2,.seq 38],[(4,.box 2 0),(9,.d (.int .u64) s9),(10,.d (.int .u64) s10)],[.box 33 [SB x.1,.d atA x.2],.box 33 [SB y.1,.d atA y.2],.box 33 [SB false,.nil]],0,[]⟩
def afW(x y:Bool×List Int)(k:KT):Option (List RV):=k 6 (ot x y x.2 y.2)
theorem afM(x y:Bool×List Int):RS re 103 [.d y2Y x,.d y2Y y] (afW x y):=rsX
def mP(x y:Bool×List Int)(s5 s6:List Int)(k:KT):Option (List RV):=match decide ((s6.length:Int)>0)with|true=>(match decide ((s5.length:Int)>2)with|true=>(match decide (yo s5 s6)with|true=>k 6 (ot x y s6 (ah (val s5%val s6).toNat))|false=>none)|false=>(match decide ((s6.length:Int)>2)with|true=>(match decide (yo s5 s6)with|true=>k 6 (ot x y s6 (ah (val s5%val s6).toNat))|false=>none)|false=>(match(s6.length:Int)==0 with|true=>(match decide (a9 s5)with|true=>some [RV.d y2Y (ai (bZ false (val s5)))]|false=>none)|false=>(match decide (nO s5)with|true=>(match decide (nO s6)with|true=>k 29 (ls x y (val s5) (val s6))|false=>none)|false=>none))))|false=>(match(s6.length:Int)==0 with|true=>(match decide (a9 s5)with|true=>some [RV.d y2Y (ai (bZ false (val s5)))]|false=>none)|false=>(match decide (nO s5)with|true=>(match decide (nO s6)with|true=>k 29 (ls x y (val s5) (val s6))|false=>none)|false=>none))
theorem rg(x y:Bool×List Int)(s5 s6:List Int):RL re 6 (ot x y s5 s6) (mP x y s5 s6):=rlX
def n7(x y:Bool×List Int)(s9 s10:Int)(k:KT):Option (List RV):=match decide (s10>0)with|true=>(match decide (s10=(0:Int))with|true=>none|false=>k 29 (ls x y s10 (Int.tmod s9 s10)))|false=>(match decide (fw s9)with|true=>(match decide (a9 (ah s9.toNat))with|true=>some [RV.d y2Y (ai (bZ false (val (ah s9.toNat))))]|false=>none)|false=>none)
theorem tW(x y:Bool×List Int)(s9 s10:Int):RL re 29 (ls x y s9 s10) (n7 x y s9 s10):=rlX
theorem MI(x y:Bool×List Int)(h:dZ x y):Con Tryz.prog 214 [.d y2Y x,.d y2Y y] [.d y2Y (ai (ae x/ae y)),.d y2Y (ai (ae x%ae y)),.d atB 0]:=by
 refine aN xW (aez _ _ ⟨0,?_⟩)
 obtain⟨hx,hy,hp⟩:=h
 obtain⟨x0,x1,x2⟩:=co hx
 obtain⟨y0,y1,y2⟩:=co hy
 have sx:=hx.2.2
 have sy:=hy.2.2
 have ey:y.1=false:=by
  cases e:y.1
  ·rfl
  ·rw[bO,e]at hp
   simp only[bZ,cond_true]at hp
   omega
 have dy:ae y=val y.2:=by rw[bO,ey];rfl
 rw[dy]at hp
 have hne:y.2≠[]:=fun e=>by rw[y2]at e;omega
 have hprt:yo x.2 y.2:=⟨⟨hx.1,sx⟩,⟨hy.1,sy⟩,hne⟩
 have hylen:=ara.2 hne
 have r0:=arD (val x.2) (show val y.2≠0 by omega)
 have r1:=aq4 (val x.2) hp
 have q0:0≤val x.2/val y.2:=ary x0 y0
 have q1:val x.2/val y.2≤val x.2:=asf _ x0
 have vx:=bV hx.1.1
 have vy:=bV hy.1.1
 have mx:=cQ sx
 have my:=cQ sy
 have szq:szI (val x.2/val y.2)≤1000000:=d7 (by have:=bU 1000000;omega) (by omega)
 have szr:szI (val x.2%val y.2)≤1000000:=d7 (by have:=bU 1000000;omega) (by omega)
 have lq:(ah (val x.2/val y.2).toNat).length≤1000000:=cp q0 (by omega)
 have lr:(ah (val x.2%val y.2).toNat).length≤1000000:=cp r0 (by omega)
 unfold Sx
 simp only[aK]
 rw[show((y.2.length:Int)==0)=false by simp;omega,dT hprt,dT (ct (n:=(val x.2/val y.2).toNat) (by omega)),dT (ct (n:=(val x.2%val y.2).toNat) (by omega)),dT (show aX 1 by decide),bT q0,bT r0,
  dT (show okI (ai (bZ (!(x.1==y.1)) (val x.2/val y.2)))∧okI (ai (1:Int)) from⟨bk (by rw[AQ];exact szq),mR⟩),dT (show okI (ai (bZ x.1 (val x.2%val y.2)))∧okI y from⟨bk (by rw[AQ];exact szr),hy⟩)]
 simp only[dec_enc,dy,ao]
 rw[bO x,ey]
 have hlen:(((ah (val x.2%val y.2).toNat).length:Int)>0)↔0<val x.2%val y.2:=by
  constructor
  ·intro hl
   rcases aqX 0 (val x.2%val y.2)with h|h
   ·exact h
   ·rw[show(val x.2%val y.2).toNat=0 by omega,dY]at hl
    simp at hl
  ·intro hl
   have:ah (val x.2%val y.2).toNat≠[]:=fun e=>by rw[fF]at e;omega
   have:=ara.2 this
   omega
 obtain⟨n1,n2⟩:=GJ (a:=val x.2) (b:=val y.2) x0 hp
 rcases aqX 0 (val x.2%val y.2)with hr|hr
 ·rw[dT (hlen.2 hr)]
  cases x.1
  ·rfl
  ·obtain⟨e1,e2⟩:=n2 hr
   simp only[bZ,cond_true,Bool.not_false,show((true==false):Bool)=false from rfl]
   rw[e1,e2]
 ·rw[dF (fun h'=>by have:=hlen.1 h';omega)]
  dsimp only
  have e0:val x.2%val y.2=0:=by omega
  cases x.1
  ·simp only[bZ,cond_false,show((false==false):Bool)=true from rfl,Bool.not_true]
  ·obtain⟨e1,e2⟩:=n1 e0
   simp only[bZ,cond_true,Bool.not_false,show((true==false):Bool)=false from rfl]
   rw[e1,e2,e0]
   rfl
theorem J8(x y:BI)(B:Nat)(hB:(B:Int)<18446744073709551616):∀(v u:Nat),u≤B→v≤B→re.RunsE 29 (ls x y (u:Int) (v:Int)) [.d y2Y (ai ((Nat.gcd u v:Nat):Int))]:=by
 intro v
 induction v using Nat.strongRecOn with
 |ind v ih=>
  intro u hu hv
  rcases aq3 v with h0|h0
  ·refine tW _ _ _ _ ⟨0,fun n _=>?_⟩
   have hp:fw (u:Int):=⟨by omega,by omega⟩
   have hl:(ah u).length≤3:=cO (asM (show(u:Int)<18446744073709551616 by omega) (by decide))
   unfold n7
   rw[dF (show ¬(v:Int)>0 by omega),dT hp,ar8,dT (ct (n:=u) (by omega)),bI,show Nat.gcd u v=u by rw[h0];exact Nat.gcd_zero_right u]
   rfl
  ·obtain⟨n0,hn⟩:=ih (u%v) (as9 _ h0) v hv (aqM (Nat.le_of_lt (as9 _ h0)) hv)
   refine tW _ _ _ _ ⟨n0,fun n hn'=>?_⟩
   unfold n7
   rw[dT (show(v:Int)>0 by omega),dF (show ¬(v:Int)=0 by omega),gI (by omega)]
   dsimp only
   rw[show((u:Int)%(v:Int))=((u%v:Nat):Int) by simp,aso u v,Nat.gcd_rec v u,aso]
   exact hn n hn'
theorem Gf{u:Nat}(h:(ah u).length≤2):(u:Int)<1000000000000000000:=by
 have h1:=bV (bW u)
 rw[bI]at h1
 have h2:=cQ h
 have:pw 2=1000000000000000000:=by decide
 omega
theorem Ku(x y:BI):∀(v u:Nat),(ah u).length≤1000000→(ah v).length≤1000000→
  re.RunsE 6 (ot x y (ah u) (ah v)) [.d y2Y (ai ((Nat.gcd u v:Nat):Int))]:=by
 intro v
 induction v using Nat.strongRecOn with
 |ind v ih=>
  intro u hu hv
  rcases aq3 v with h0|h0
  ·refine rg _ _ _ _ ⟨0,fun n _=>?_⟩
   unfold mP
   rw[h0,Nat.gcd_zero_right,dF (show ¬((ah 0).length:Int)>0 by decide),show(((ah 0).length:Int)==0)=true by decide]
   dsimp only
   rw[dT (ct (n:=u) (by omega)),bI]
   rfl
  ·have hne:ah v≠[]:=fun e=>by rw[fF]at e;omega
   have hl:=ara.2 hne
   have hm:=as9 u h0
   have hms:(ah (u%v)).length≤1000000:=cO (by
    have:=bV (bW v)
    rw[bI]at this
    have:=cQ hv
    omega)
   have hz:(((ah v).length:Int)==0)=false:=by simp;omega
   have hprt:yo (ah u) (ah v):=⟨⟨dq _,hu⟩,⟨dq _,hv⟩,hne⟩
   have hmod:(val (ah u)%val (ah v)).toNat=u%v:=by rw[bI,bI];omega
   by_cases hsm:(ah u).length≤2∧(ah v).length≤2
   ·have lu:=Gf hsm.1
    have lv:=Gf hsm.2
    obtain⟨n0,hn⟩:=J8 x y 1000000000000000000 (by decide) v u (by omega) (by omega)
    refine rg _ _ _ _ ⟨n0,fun n hn'=>?_⟩
    unfold mP
    rw[dT (show((ah v).length:Int)>0 by omega),dF (show ¬((ah u).length:Int)>2 by omega),dF (show ¬((ah v).length:Int)>2 by omega),hz,dT (show nO (ah u) from⟨ct (by omega),by rw[bI];omega⟩),dT (show nO (ah v) from⟨ct (by omega),by rw[bI];omega⟩),bI,bI]
    exact hn n hn'
   ·obtain⟨n0,hn⟩:=ih (u%v) hm v hv hms
    refine rg _ _ _ _ ⟨n0,fun n hn'=>?_⟩
    have:=hn n hn'
    rw[show Nat.gcd v (u%v)=Nat.gcd u v by rw[aso u v,Nat.gcd_rec v u,aso]]at this
    unfold mP
    rw[dT (show((ah v).length:Int)>0 by omega),dT hprt,hmod]
    by_cases h2:(ah u).length≤2
    ·rw[dF (show ¬((ah u).length:Int)>2 by omega),dT (show((ah v).length:Int)>2 by omega)]
     exact this
    ·rw[dT (show((ah u).length:Int)>2 by omega)]
     exact this
theorem Br(x y:Bool×List Int)(h:okI x∧okI y):Con Tryz.prog 103 [.d y2Y x,.d y2Y y] [.d y2Y (ai ((Int.gcd (ae x) (ae y):Nat):Int))]:=by
 refine aN xW (show re.Res _ _ _ from ?_)
 obtain⟨hx,hy⟩:=h
 obtain⟨x0,_,_⟩:=co hx
 obtain⟨y0,_,_⟩:=co hy
 have ex:((ae x).natAbs:Int)=val x.2:=by rw[bO];unfold bZ;cases x.1<;>simp<;>omega
 have ey:((ae y).natAbs:Int)=val y.2:=by rw[bO];unfold bZ;cases y.1<;>simp<;>omega
 have cx:=lD hx.1
 have cy:=lD hy.1
 rw[show(val x.2).toNat=(ae x).natAbs by omega]at cx
 rw[show(val y.2).toNat=(ae y).natAbs by omega]at cy
 obtain⟨n1,h1⟩:=Ku x y (ae y).natAbs (ae x).natAbs (by rw[←cx];exact hx.2.2) (by rw[←cy];exact hy.2.2)
 rw[←cx,←cy]at h1
 exact afM _ _ ⟨n1,h1 n1 (aqE _)⟩
section
abbrev tI:Ty:=.st (.pair .bool atA)
abbrev tR:Ty:=.st (.pair tI tI)
abbrev tV:Ty:=.st (.pair tR tR)
abbrev tO:Ty:=.st (.pair tR (.pair tR tR))
abbrev tP:Ty:=.st (.pair tR (.pair tR (.pair tR (.pair tR tR))))
abbrev tQ:Ty:=.st (.pair tR (.pair tR (.pair tR (.pair tR (.pair tR tR)))))
abbrev tG:Ty:=.st (.pair atB atB)
abbrev BV:=BR×BR
abbrev BO3:=BR×BR×BR
abbrev BP:=BR×BR×BR×BR×BR
abbrev BQ:=BR×BR×BR×BR×BR×BR
def hid{α:Type}(x:α):α:=Classical.choose (⟨x,rfl⟩:∃y,y=x)
theorem aj{α:Type}(x:α):hid x=x:=arF (⟨x,rfl⟩:∃y,y=x)
class Cod (α:Type) (A:outParam Type) where
 enc:α→A
 dec:A→α
 bd:Nat→α→Prop
 ok:Nat→A→Prop
 okD:∀k x,Decidable (ok k x)
 mono:∀j k x,j≤k→bd j x→bd k x
 dec_enc:∀x,dec (enc x)=x
 ok_enc:∀k x,k≤480000→bd k x→ok k (enc x)
 ok_dec:∀k x,ok k x→x=enc (dec x)∧bd k (dec x)
def enc{α A:Type}[Cod α A](x:α):A:=Cod.enc x
def dec{α A:Type}[Cod α A](x:A):α:=Cod.dec x
def ok(α:Type){A:Type}[Cod α A](k:Nat)(x:A):Prop:=Cod.ok (α:=α) k x
instance (α A:Type) [Cod α A] (k:Nat) (x:A):Decidable (ok α k x):=Cod.okD k x
theorem ak{α A:Type}[Cod α A](x:α):dec (enc x)=x:=Cod.dec_enc x
class Bd {α A:Type} [Cod α A] (x:α) (k:outParam Nat):Prop where le:Cod.bd k x
theorem aQ{α A:Type}[Cod α A]{k:Nat}{x:A}(h:ok α k x):∃v:α,x=enc v∧Bd v k:=⟨_,(Cod.ok_dec k x h).1,⟨(Cod.ok_dec k x h).2⟩⟩
theorem okd{α A:Type}[Cod α A]{x:α}{j k:Nat}[h:Bd x j](hj:j≤k)(hk:k≤480000):decide (ok α k (enc x))=true:=
 aqs (Cod.ok_enc k x hk (Cod.mono j k x hj h.le))
instance apH:Cod Rat BR where
 enc:=ag
 dec:=ab
 bd:=bdR
 ok k x:=okR x∧x.1.2.length≤k∧x.2.2.length≤k
 okD _ _:=instDecidableAnd
 mono _ _ _ hk h:=bP h hk
 dec_enc:=av
 ok_enc k _ hk h:=⟨mJ h hk,h.1,h.2⟩
 ok_dec k x h:=by
  obtain⟨h1,h2,h3⟩:=h
  refine⟨TV h1,?_⟩
  obtain⟨e1,e2⟩:=cC h1
  unfold bdR szI
  rw[e1,e2]
  rw[fL h1.1]at h2
  rw[fL h1.2.1]at h3
  exact⟨h2,h3⟩
instance apr:Cod Int Int where
 enc x:=x
 dec x:=x
 bd _ x:=aX x
 ok _ x:=aX x
 okD _ _:=inferInstance
 mono _ _ _ _ h:=h
 dec_enc _:=rfl
 ok_enc _ _ _ h:=h
 ok_dec _ _ h:=⟨rfl,h⟩
instance aoX:Cod Bool Bool where
 enc x:=x
 dec x:=x
 bd _ _:=True
 ok _ _:=True
 okD _ _:=inferInstance
 mono _ _ _ _ h:=h
 dec_enc _:=rfl
 ok_enc _ _ _ h:=h
 ok_dec _ _ h:=⟨rfl,h⟩
instance aoW (α β A B:Type) [Cod α A] [Cod β B]:Cod (α×β) (A×B) where
 enc x:=(enc x.1,enc x.2)
 dec x:=(dec x.1,dec x.2)
 bd k x:=Cod.bd k x.1∧Cod.bd k x.2
 ok k x:=ok α k x.1∧ok β k x.2
 okD _ _:=instDecidableAnd
 mono _ _ _ hk h:=⟨Cod.mono _ _ _ hk h.1,Cod.mono _ _ _ hk h.2⟩
 dec_enc x:=by rw[ak,ak]
 ok_enc k _ hk h:=⟨Cod.ok_enc _ _ hk h.1,Cod.ok_enc _ _ hk h.2⟩
 ok_dec k x h:=⟨ath (Cod.ok_dec k x.1 h.1).1 (Cod.ok_dec k x.2 h.2).1,(Cod.ok_dec k x.1 h.1).2,(Cod.ok_dec k x.2 h.2).2⟩
theorem nr{α:Type}{a b:α}(h:a=b):a=b:=h
theorem aD{α β A B:Type}[Cod α A][Cod β B](x:α×β):(enc x).1=enc x.1:=nr rfl
theorem aE{α β A B:Type}[Cod α A][Cod β B](x:α×β):(enc x).2=enc x.2:=nr rfl
theorem aP{α β A B:Type}[Cod α A][Cod β B](x:α)(y:β):enc (x,y)=(enc x,enc y):=nr rfl
theorem aA(q:Rat):enc q=ag q:=nr rfl
theorem aF(x:BR):dec x=ab x:=nr rfl
theorem aG(q:Int):enc q=q:=nr rfl
theorem az(q:Bool):enc q=q:=nr rfl
theorem aT{q:Rat}{j:Nat}[h:Bd q j](hj:j≤480000):decide (okR (ag q))=true:=aqs (mJ h.le hj)
def mx(j k:Nat):Nat:=bif decide (j≤k)then k else j
theorem yy(j k:Nat):j≤mx j k:=by
 unfold mx
 by_cases h:j≤k
 ·rw[aqs h];exact h
 ·rw[aqu h];exact aqE _
theorem zw(j k:Nat):k≤mx j k:=by
 unfold mx
 by_cases h:j≤k
 ·rw[aqs h];exact aqE _
 ·rw[aqu h];show k≤j;omega
theorem aC{q:Rat}{j k:Nat}[h:Bd q j](hj:j≤k)(hk:k≤480000):decide (ok Rat k (ag q))=true:=okd (x:=q) hj hk
section
variable {α β A B:Type} [Cod α A] [Cod β B]
instance apy {x:α×β} {k:Nat} [h:Bd x k]:Bd x.1 k:=⟨h.le.1⟩
instance aps {x:α×β} {k:Nat} [h:Bd x k]:Bd x.2 k:=⟨h.le.2⟩
instance aqe {x:α} {y:β} {j k:Nat} [h:Bd x j] [h':Bd y k]:Bd (x,y) (mx j k):=⟨Cod.mono _ _ _ (yy _ _) h.le,Cod.mono _ _ _ (zw _ _) h'.le⟩
instance aoY {b:Bool} {x y:α} {j k:Nat} [h:Bd x j] [h':Bd y k]:Bd (bif b then x else y) (mx j k):=by
 refine⟨?_⟩
 cases b
 ·exact Cod.mono _ _ _ (zw _ _) h'.le
 ·exact Cod.mono _ _ _ (yy _ _) h.le
theorem Bd.mono{x:α}{j k:Nat}(h:Bd x j)(hk:j≤k):Bd x k:=⟨Cod.mono _ _ _ hk h.le⟩
end
section
variable {a b:Rat} {j k:Nat}
instance apl [h:Bd a j] [h':Bd b k]:Bd (a+b) (j+k+1):=⟨yL h.le h'.le⟩
instance ap0 [h:Bd a j] [h':Bd b k]:Bd (a-b) (j+k+1):=⟨VJ h.le h'.le⟩
instance apm [h:Bd a j] [h':Bd b k]:Bd (a*b) (j+k):=⟨yR h.le h'.le⟩
instance apc [h:Bd a j]:Bd (-a) j:=⟨rZ h.le⟩
theorem kK(h:bdR k b):1≤k:=by
 have h1:=h.2
 have h2:=EB (b.den:Int)
 have h3:=b.den_pos
 rcases aq3 k with e|e
 ·subst e
  have:szI (b.den:Int)=0:=by omega
  rw[this]at h2
  have:pw 0=1:=rfl
  omega
 ·exact e
instance apX [h:Bd a j] [h':Bd b k]:Bd (a/b) (j+k):=by
 refine⟨?_⟩
 by_cases h0:b=0
 ·subst h0
  rw[atx,Rat.inv_zero,Rat.mul_zero]
  have:=kK h'.le
  exact bP (j:=1) ⟨by decide+kernel,by decide+kernel⟩ (by omega)
 ·exact WE h.le h'.le h0
end
theorem cP{n:Int}(h:aX n):Bd (n:Rat) 3:=by
 refine⟨?_⟩
 show bdR 3 (n:Rat)
 refine⟨?_,?_⟩
 ·rw[Rat.num_intCast]
  have:pw 3=1000000000000000000000000000:=by decide
  exact d7 (by have:=h.1;omega) (by have:=h.2;omega)
 ·rw[Rat.den_intCast]
  exact d7 (by decide) (by decide)
instance kI:Bd (0:Rat) 1:=⟨⟨by decide+kernel,by decide+kernel⟩⟩
instance apj:Bd (1:Rat) 1:=⟨⟨by decide+kernel,by decide+kernel⟩⟩
instance ao8:Bd (2:Rat) 1:=⟨⟨by decide+kernel,by decide+kernel⟩⟩
theorem dQ{x:BR}(h:okR x):∃q:Rat,x=ag q∧Bd q 480000:=⟨ab x,TV h,⟨AF h⟩⟩
def kD(a b:Rat×Rat):Rat×Rat:=(b.1-a.1,b.2-a.2)
def fJ(a b:Rat×Rat):Rat:=a.1*b.1+a.2*b.2
instance ape {a b:Rat×Rat} {j k:Nat} [Bd a j] [Bd b k]:Bd (kD a b) (k+j+1):=
 ⟨(inferInstance:Bd (b.1-a.1) (k+j+1)).le,(inferInstance:Bd (b.2-a.2) (k+j+1)).le⟩
instance aph {a b:Rat×Rat} {j k:Nat} [Bd a j] [Bd b k]:Bd (fJ a b) ((j+k)+(j+k)+1):=inferInstanceAs (Bd (a.1*b.1+a.2*b.2) _)
end
def F1:aM:=spN true false [y2Y] (fun x=>decide (okI x.1)) (fun x=>[RV.d atB (ce (ae x.1) 0)])
theorem Km:SpK 101 F1:=spX fun x h=>Dq x.1 (aqr h)
def zP:aM:=spN true false [y2Y,y2Y] (fun x=>decide (okI x.1∧okI x.2.1)) (fun x=>[RV.d atB (ce (ae x.1) (ae x.2.1))])
theorem xU:SpK 192 zP:=spX fun x h=>Pz x.1 x.2.1 (aqr h)
def Gk:aM:=spN false false [y2Y,y2Y] (fun x=>decide (okI x.1∧okI x.2.1)) (fun x=>[RV.d y2Y (ai (ae x.1*ae x.2.1))])
theorem KA:SpK 193 Gk:=spX fun x h=>C9 x.1 x.2.1 (aqr h)
def yG:aM:=spN false false [y2Y,y2Y] (fun x=>decide (dZ x.1 x.2.1)) (fun x=>[RV.d y2Y (ai (ae x.1/ae x.2.1)),RV.d y2Y (ai (ae x.1%ae x.2.1)),RV.d atB 0])
theorem xK:SpK 214 yG:=spX fun x h=>MI x.1 x.2.1 (aqr h)
def Hm:aM:=spN false false [y2Y,y2Y] (fun x=>decide (okI x.1∧okI x.2.1)) (fun x=>[RV.d y2Y (ai ((Int.gcd (ae x.1) (ae x.2.1):Nat):Int))])
theorem JS:SpK 103 Hm:=spX fun x h=>Br x.1 x.2.1 (aqr h)
def E5:Env:=[(134,sJ),(212,oK),(211,yJ),(101,F1),(192,zP),(193,Gk),(214,yG),(103,Hm)]
theorem xp:EnvAll Tryz.prog E5:=⟨qj,m6,wK,Km,xU,KA,xK,JS,trivial⟩
def ag4:Ctx:=CX E5 []
def U7(_k:KT):Option (List RV):=match decide (aX (1:Int))with|true=>some [RV.d y2Y (ai (1:Int))]|false=>none
theorem aeg:RS ag4 104 [] (U7):=rsX
theorem CH:Con Tryz.prog 104 [] [.d y2Y (ai 1)]:=by
 refine aN xp (aeg ⟨0,?_⟩)
 unfold U7
 rw[dT (show aX 1 by decide)]
def Gq:aM:=spN false false [] (fun _=>true) (fun _=>[RV.d y2Y (ai 1)])
theorem I9:SpK 104 Gq:=spX fun _ _=>CH
def Ez:Env:=(104,Gq)::E5
theorem xD:EnvAll Tryz.prog Ez:=⟨I9,xp⟩
def an6:Ctx:=CX Ez []
def adB(x y:Bool×List Int)(_k:KT):Option (List RV):=match decide (okI y)with|true=>(match decide ((ce (ae y) 0)<0)with|true=>(match decide (okI x)with|true=>(match decide (okI y)with|true=>(match decide (okI (ai (-ae x))∧okI (ai (-ae y)))with|true=>(match decide (dZ (ai (-ae x)) (ai ((Int.gcd (ae (ai (-ae x))) (ae (ai (-ae y))):Nat):Int)))with|true=>(match decide (dZ (ai (-ae y)) (ai ((Int.gcd (ae (ai (-ae x))) (ae (ai (-ae y))):Nat):Int)))with|true=>some [RV.d (.st (.pair y2Y y2Y)) ((ai (ae (ai (-ae x))/ae (ai ((Int.gcd (ae (ai (-ae x))) (ae (ai (-ae y))):Nat):Int)))),(ai (ae (ai (-ae y))/ae (ai ((Int.gcd (ae (ai (-ae x))) (ae (ai (-ae y))):Nat):Int)))))]|false=>none)|false=>none)|false=>none)|false=>none)|false=>none)|false=>(match decide (okI x∧okI y)with|true=>(match decide (dZ x (ai ((Int.gcd (ae x) (ae y):Nat):Int)))with|true=>(match decide (dZ y (ai ((Int.gcd (ae x) (ae y):Nat):Int)))with|true=>some [RV.d (.st (.pair y2Y y2Y)) ((ai (ae x/ae (ai ((Int.gcd (ae x) (ae y):Nat):Int)))),(ai (ae y/ae (ai ((Int.gcd (ae x) (ae y):Nat):Int)))))]|false=>none)|false=>none)|false=>none))|false=>none
theorem an4(x y:Bool×List Int):RS an6 135 [.d y2Y x,.d y2Y y] (adB x y):=rsX
theorem Hx(x y:Bool×List Int)(h:fT x y):Con Tryz.prog 135 [.d y2Y x,.d y2Y y] [.d (.st (.pair y2Y y2Y)) (dP x y)]:=by
 refine aN xD (an4 _ _ ⟨0,?_⟩)
 obtain⟨hx,hy,hne⟩:=h
 have sx:=gg hx
 have sy:=gg hy
 have hgp:0<Int.gcd (ae x) (ae y):=Nat.pos_of_ne_zero fun e=>hne (Int.gcd_eq_zero_iff.1 e).2
 have hgs:=Tj (a:=ae x) hne sy
 have og:okI (ai ((Int.gcd (ae x) (ae y):Nat):Int)):=bk hgs
 have o1:okI (ai (-ae x)):=bk (by rw[gv];exact sx)
 have o2:okI (ai (-ae y)):=bk (by rw[gv];exact sy)
 have ig:∀z:BI,okI z→dZ z (ai ((Int.gcd (ae x) (ae y):Nat):Int)):=fun z hz=>⟨hz,og,by rw[dec_enc];omega⟩
 unfold adB dP
 rw[dT hy]
 dsimp only
 rcases asd hne with hn|hn
 ·rw[cK hn,dT (show(-1:Int)<0 by decide),dT hx]
  simp only[dec_enc,Int.gcd_neg,Int.neg_gcd]
  rw[dT (show okI (ai (-ae x))∧okI (ai (-ae y)) from⟨o1,o2⟩),dT (ig _ o1),dT (ig _ o2),←Rat.neg_divInt_neg,ks (by omega),Int.gcd_neg,Int.neg_gcd]
 ·rw[cA hn,dF (show ¬(1:Int)<0 by decide)]
  simp only[dec_enc]
  rw[dT (show okI x∧okI y from⟨hx,hy⟩),dT (ig _ hx),dT (ig _ hy),ks hn]
def NX:aM:=spN false false [y2Y,y2Y] (fun x=>decide (fT x.1 x.2.1)) (fun x=>[RV.d (.st (.pair y2Y y2Y)) (dP x.1 x.2.1)])
theorem NZ:SpK 135 NX:=spX fun x h=>Hx x.1 x.2.1 (aqr h)
def kR:Env:=(135,NX)::Ez
theorem fy:EnvAll Tryz.prog kR:=⟨NZ,xD⟩
def afZ:Ctx:=CX kR []
def TK(a:(Bool×List Int)×Bool×List Int)(_k:KT):Option (List RV):=match decide (okI a.1)with|true=>some [RV.d atB (ce (ae a.1) 0)]|false=>none
theorem aec(a:(Bool×List Int)×Bool×List Int):RS afZ 78 [.d (.st (.pair y2Y y2Y)) a] (TK a):=rsX
def ahq:Ctx:=CX kR []
def KF(n:Int)(_k:KT):Option (List RV):=match decide (aX n)with|true=>some [RV.d (.st (.pair y2Y y2Y)) ((ai n),(ai 1))]|false=>none
theorem agZ(n:Int):RS ahq 50 [SI n] (KF n):=rsX
def ahR:Ctx:=CX kR []
def L4(a b:(Bool×List Int)×Bool×List Int)(_k:KT):Option (List RV):=match decide (okI a.1∧okI b.2)with|true=>(match decide (okI b.1∧okI a.2)with|true=>(match decide (okI (ai (ae a.1*ae b.2))∧okI (ai (ae b.1*ae a.2)))with|true=>some [RV.d atB (ce (ae (ai (ae a.1*ae b.2))) (ae (ai (ae b.1*ae a.2))))]|false=>none)|false=>none)|false=>none
theorem afw(a b:(Bool×List Int)×Bool×List Int):RS ahR 107 [.d (.st (.pair y2Y y2Y)) a,.d (.st (.pair y2Y y2Y)) b] (L4 a b):=rsX
def agu:Ctx:=CX kR []
def QF(a b:(Bool×List Int)×Bool×List Int)(_k:KT):Option (List RV):=match decide (okI a.1∧okI b.2)with|true=>(match decide (okI b.1∧okI a.2)with|true=>(match decide (okI (ai (ae a.1*ae b.2))∧okI (ai (ae b.1*ae a.2)))with|true=>(match decide (okI a.2∧okI b.2)with|true=>(match decide (fT (ai (ae (ai (ae a.1*ae b.2))+ae (ai (ae b.1*ae a.2)))) (ai (ae a.2*ae b.2)))with|true=>some [RV.d (.st (.pair y2Y y2Y)) (((dP (ai (ae (ai (ae a.1*ae b.2))+ae (ai (ae b.1*ae a.2)))) (ai (ae a.2*ae b.2))).1),((dP (ai (ae (ai (ae a.1*ae b.2))+ae (ai (ae b.1*ae a.2)))) (ai (ae a.2*ae b.2))).2))]|false=>none)|false=>none)|false=>none)|false=>none)|false=>none
theorem ah9(a b:(Bool×List Int)×Bool×List Int):RS agu 127 [.d (.st (.pair y2Y y2Y)) a,.d (.st (.pair y2Y y2Y)) b] (QF a b):=rsX
def aeT:Ctx:=CX kR []
def OV(a b:(Bool×List Int)×Bool×List Int)(_k:KT):Option (List RV):=match decide (okI a.1∧okI b.1)with|true=>(match decide (okI a.2∧okI b.2)with|true=>(match decide (fT (ai (ae a.1*ae b.1)) (ai (ae a.2*ae b.2)))with|true=>some [RV.d (.st (.pair y2Y y2Y)) (((dP (ai (ae a.1*ae b.1)) (ai (ae a.2*ae b.2))).1),((dP (ai (ae a.1*ae b.1)) (ai (ae a.2*ae b.2))).2))]|false=>none)|false=>none)|false=>none
theorem ahS(a b:(Bool×List Int)×Bool×List Int):RS aeT 132 [.d (.st (.pair y2Y y2Y)) a,.d (.st (.pair y2Y y2Y)) b] (OV a b):=rsX
def aeB:Ctx:=CX kR []
def NP(a:(Bool×List Int)×Bool×List Int)(_k:KT):Option (List RV):=match decide (okI a.1)with|true=>some [RV.d (.st (.pair y2Y y2Y)) ((ai (-ae a.1)),a.2)]|false=>none
theorem ain(a:(Bool×List Int)×Bool×List Int):RS aeB 124 [.d (.st (.pair y2Y y2Y)) a] (NP a):=rsX
def aeS:Ctx:=CX kR []
def Lz(x y:Bool×List Int)(_k:KT):Option (List RV):=match decide (okI y)with|true=>(match(ce (ae y) 0)==0 with|true=>some [RV.d (.st (.pair y2Y y2Y)) ((false,[]),(false,[])),RV.d atB 6]|false=>(match decide (fT x y)with|true=>some [RV.d (.st (.pair y2Y y2Y)) (((dP x y).1),((dP x y).2)),RV.d atB 0]|false=>none))|false=>none
theorem ahH(x y:Bool×List Int):RS aeS 258 [.d y2Y x,.d y2Y y] (Lz x y):=rsX
theorem M5(x y:Bool×List Int)(h:fT x y):Con Tryz.prog 258 [.d y2Y x,.d y2Y y] [.d (.st (.pair y2Y y2Y)) (dP x y),.d atB 0]:=by
 refine aN fy (ahH _ _ ⟨0,?_⟩)
 obtain⟨hx,hy,hne⟩:=h
 have hnz:(ce (ae y) 0==0)=false:=by
  rcases asd hne with h|h
  ·rw[cK h];rfl
  ·rw[cA h];rfl
 unfold Lz
 rw[dT hy,hnz,dT (show fT x y from⟨hx,hy,hne⟩)]
def Hk:aM:=spN false false [y2Y,y2Y] (fun x=>decide (fT x.1 x.2.1)) (fun x=>[RV.d (.st (.pair y2Y y2Y)) (dP x.1 x.2.1),RV.d atB 0])
theorem Ko:SpK 258 Hk:=spX fun x h=>M5 x.1 x.2.1 (aqr h)
def AD:Env:=(258,Hk)::kR
theorem vi:EnvAll Tryz.prog AD:=⟨Ko,fy⟩
def ail:Ctx:=CX AD []
def RB(a b:(Bool×List Int)×Bool×List Int)(_k:KT):Option (List RV):=match decide (okI a.1∧okI b.2)with|true=>(match decide (okI a.2∧okI b.1)with|true=>(match decide (fT (ai (ae a.1*ae b.2)) (ai (ae a.2*ae b.1)))with|true=>some [RV.d (.st (.pair y2Y y2Y)) (((dP (ai (ae a.1*ae b.2)) (ai (ae a.2*ae b.1))).1),((dP (ai (ae a.1*ae b.2)) (ai (ae a.2*ae b.1))).2)),RV.d atB 0]|false=>none)|false=>none)|false=>none
theorem ag2(a b:(Bool×List Int)×Bool×List Int):RS ail 217 [.d (.st (.pair y2Y y2Y)) a,.d (.st (.pair y2Y y2Y)) b] (RB a b):=rsX
theorem TX(a:(Bool×List Int)×Bool×List Int)(h:okR a):Con Tryz.prog 78 [.d (.st (.pair y2Y y2Y)) a] [.d atB (aS (ab a) 0)]:=by
 refine aN fy (aec _ ⟨0,?_⟩)
 unfold TK
 rw[dT h.1,←rF,(cC h).1]
theorem PJ(n:Int)(h:aX n):Con Tryz.prog 50 [.d atB n] [.d (.st (.pair y2Y y2Y)) (ag (n:Rat))]:=by
 refine aN fy (agZ _ ⟨0,?_⟩)
 unfold KF ag
 rw[dT h,Rat.num_intCast,Rat.den_intCast]
 rfl
theorem PS(a b:(Bool×List Int)×Bool×List Int)(h:okR a∧okR b):Con Tryz.prog 107 [.d (.st (.pair y2Y y2Y)) a,.d (.st (.pair y2Y y2Y)) b] [.d atB (aS (ab a) (ab b))]:=by
 refine aN fy (afw _ _ ⟨0,?_⟩)
 obtain⟨ha,hb⟩:=h
 obtain⟨a1,a2⟩:=cC ha
 obtain⟨b1,b2⟩:=cC hb
 obtain⟨sa1,sa2⟩:=fd ha
 obtain⟨sb1,sb2⟩:=fd hb
 have h1:=cB sa1 sb2
 have h2:=cB sb1 sa2
 unfold L4
 rw[dT (show okI a.1∧okI b.2 from⟨ha.1,hb.2.1⟩),dT (show okI b.1∧okI a.2 from⟨hb.1,ha.2.1⟩),dT (show okI (ai (ae a.1*ae b.2))∧okI (ai (ae b.1*ae a.2)) from⟨bk (by omega),bk (by omega)⟩),dec_enc,dec_enc,←a1,←a2,←b1,←b2,ti]
theorem Cp(a:(Bool×List Int)×Bool×List Int)(h:okR a):Con Tryz.prog 124 [.d (.st (.pair y2Y y2Y)) a] [.d (.st (.pair y2Y y2Y)) (ag (-ab a))]:=by
 refine aN fy (ain _ ⟨0,?_⟩)
 obtain⟨a1,a2⟩:=cC h
 unfold NP
 have e:ag (-ab a)=(ai (-ae a.1),a.2):=by
  unfold ag
  rw[Rat.neg_num,a1,show((-ab a).den:Int)=((ab a).den:Int) from rfl,a2,←fL h.2.1]
 rw[dT h.1,e]
theorem B3(a b:(Bool×List Int)×Bool×List Int)(h:okR a∧okR b):Con Tryz.prog 127 [.d (.st (.pair y2Y y2Y)) a,.d (.st (.pair y2Y y2Y)) b] [.d (.st (.pair y2Y y2Y)) (ag (ab a+ab b))]:=by
 refine aN fy (ah9 _ _ ⟨0,?_⟩)
 obtain⟨ha,hb⟩:=h
 obtain⟨a1,a2⟩:=cC ha
 obtain⟨b1,b2⟩:=cC hb
 obtain⟨sa1,sa2⟩:=fd ha
 obtain⟨sb1,sb2⟩:=fd hb
 have pa:=ha.2.2.1
 have pb:=hb.2.2.1
 have h1:=cB sa1 sb2
 have h2:=cB sb1 sa2
 have h3:=cB sa2 sb2
 have h4:=sH h1 h2
 have hda:ab a=Rat.divInt (ae a.1) (ae a.2):=by rw[←a1,←a2,arz]
 have hdb:ab b=Rat.divInt (ae b.1) (ae b.2):=by rw[←b1,←b2,arz]
 unfold QF
 rw[dT (show okI a.1∧okI b.2 from⟨ha.1,hb.2.1⟩),dT (show okI b.1∧okI a.2 from⟨hb.1,ha.2.1⟩),dT (show okI (ai (ae a.1*ae b.2))∧okI (ai (ae b.1*ae a.2)) from⟨bk (by omega),bk (by omega)⟩),dT (show okI a.2∧okI b.2 from⟨ha.2.1,hb.2.1⟩)]
 simp only[dec_enc]
 rw[dT (show fT (ai (ae a.1*ae b.2+ae b.1*ae a.2)) (ai (ae a.2*ae b.2)) from⟨bk (by omega),bk (by omega),by rw[dec_enc];exact asU (by omega) (by omega)⟩)]
 have e:dP (ai (ae a.1*ae b.2+ae b.1*ae a.2)) (ai (ae a.2*ae b.2))=ag (ab a+ab b):=by
  unfold dP
  rw[dec_enc,dec_enc,hda,hdb,Rat.divInt_add_divInt _ _ (by omega) (by omega)]
 rw[e]
theorem Ma(a b:(Bool×List Int)×Bool×List Int)(h:okR a∧okR b):Con Tryz.prog 132 [.d (.st (.pair y2Y y2Y)) a,.d (.st (.pair y2Y y2Y)) b] [.d (.st (.pair y2Y y2Y)) (ag (ab a*ab b))]:=by
 refine aN fy (ahS _ _ ⟨0,?_⟩)
 obtain⟨ha,hb⟩:=h
 obtain⟨a1,a2⟩:=cC ha
 obtain⟨b1,b2⟩:=cC hb
 obtain⟨sa1,sa2⟩:=fd ha
 obtain⟨sb1,sb2⟩:=fd hb
 have pa:=ha.2.2.1
 have pb:=hb.2.2.1
 have h1:=cB sa1 sb1
 have h3:=cB sa2 sb2
 have hda:ab a=Rat.divInt (ae a.1) (ae a.2):=by rw[←a1,←a2,arz]
 have hdb:ab b=Rat.divInt (ae b.1) (ae b.2):=by rw[←b1,←b2,arz]
 unfold OV
 rw[dT (show okI a.1∧okI b.1 from⟨ha.1,hb.1⟩),dT (show okI a.2∧okI b.2 from⟨ha.2.1,hb.2.1⟩),dT (show fT (ai (ae a.1*ae b.1)) (ai (ae a.2*ae b.2)) from⟨bk (by omega),bk (by omega),by rw[dec_enc];exact asU (by omega) (by omega)⟩)]
 have e:dP (ai (ae a.1*ae b.1)) (ai (ae a.2*ae b.2))=ag (ab a*ab b):=by
  unfold dP
  rw[dec_enc,dec_enc,hda,hdb,asV]
 rw[e]
theorem BF(a b:(Bool×List Int)×Bool×List Int)(h:eL a b):Con Tryz.prog 217 [.d (.st (.pair y2Y y2Y)) a,.d (.st (.pair y2Y y2Y)) b] [.d (.st (.pair y2Y y2Y)) (ag (ab a/ab b)),.d atB 0]:=by
 refine aN vi (ag2 _ _ ⟨0,?_⟩)
 obtain⟨ha,hb,hne⟩:=h
 obtain⟨a1,a2⟩:=cC ha
 obtain⟨b1,b2⟩:=cC hb
 obtain⟨sa1,sa2⟩:=fd ha
 obtain⟨sb1,sb2⟩:=fd hb
 have pa:=ha.2.2.1
 have h1:=cB sa1 sb2
 have h3:=cB sa2 sb1
 have hda:ab a=Rat.divInt (ae a.1) (ae a.2):=by rw[←a1,←a2,arz]
 have hdb:ab b=Rat.divInt (ae b.1) (ae b.2):=by rw[←b1,←b2,arz]
 have hmz:ae a.2*ae b.1≠0:=asU (by omega) hne
 unfold RB
 rw[dT (show okI a.1∧okI b.2 from⟨ha.1,hb.2.1⟩),dT (show okI a.2∧okI b.1 from⟨ha.2.1,hb.1⟩)]
 simp only
 rw[dT (show fT (ai (ae a.1*ae b.2)) (ai (ae a.2*ae b.1)) from⟨bk (by omega),bk (by omega),by rw[dec_enc];exact hmz⟩)]
 have e:dP (ai (ae a.1*ae b.2)) (ai (ae a.2*ae b.1))=ag (ab a/ab b):=by
  unfold dP
  rw[dec_enc,dec_enc,hda,hdb,atx,Rat.inv_divInt,asV]
 rw[e]
def GM:aM:=spN false false [(.st (.pair y2Y y2Y)),(.st (.pair y2Y y2Y))] (fun x=>decide (okR x.1∧okR x.2.1)) (fun x=>[RV.d (.st (.pair y2Y y2Y)) (ag (ab x.1+ab x.2.1))])
theorem IL:SpK 127 GM:=spX fun x h=>B3 x.1 x.2.1 (aqr h)
def Iz:aM:=spN false false [(.st (.pair y2Y y2Y))] (fun x=>decide (okR x.1)) (fun x=>[RV.d (.st (.pair y2Y y2Y)) (ag (-ab x.1))])
theorem Jt:SpK 124 Iz:=spX fun x h=>Cp x.1 (aqr h)
def HU:aM:=spN false false [(.st (.pair y2Y y2Y)),(.st (.pair y2Y y2Y))] (fun x=>decide (eL x.1 x.2.1)) (fun x=>[RV.d (.st (.pair y2Y y2Y)) (ag (ab x.1/ab x.2.1)),RV.d atB 0])
theorem IO:SpK 217 HU:=spX fun x h=>BF x.1 x.2.1 (aqr h)
def D9:Env:=(127,GM)::(124,Iz)::(217,HU)::AD
theorem xd:EnvAll Tryz.prog D9:=⟨IL,Jt,IO,vi⟩
def aeh:Ctx:=CX D9 []
def P0(a b:(Bool×List Int)×Bool×List Int)(_k:KT):Option (List RV):=match decide (okR b)with|true=>(match decide (okR a∧okR (ag (-ab b)))with|true=>some [RV.d (.st (.pair y2Y y2Y)) (((ag (ab a+ab (ag (-ab b)))).1),((ag (ab a+ab (ag (-ab b)))).2))]|false=>none)|false=>none
theorem aen(a b:(Bool×List Int)×Bool×List Int):RS aeh 161 [.d (.st (.pair y2Y y2Y)) a,.d (.st (.pair y2Y y2Y)) b] (P0 a b):=rsX
def aie:Ctx:=CX D9 []
def Mu(a b:(Bool×List Int)×Bool×List Int)(_k:KT):Option (List RV):=match decide (eL a b)with|true=>some [RV.d (.st (.pair y2Y y2Y)) (((ag (ab a/ab b)).1),((ag (ab a/ab b)).2))]|false=>none
theorem agt(a b:(Bool×List Int)×Bool×List Int):RS aie 174 [.d (.st (.pair y2Y y2Y)) a,.d (.st (.pair y2Y y2Y)) b] (Mu a b):=rsX
theorem PC(a b:(Bool×List Int)×Bool×List Int)(h:okR a∧okR b):Con Tryz.prog 161 [.d (.st (.pair y2Y y2Y)) a,.d (.st (.pair y2Y y2Y)) b] [.d (.st (.pair y2Y y2Y)) (ag (ab a-ab b))]:=by
 refine aN xd (aen _ _ ⟨0,?_⟩)
 obtain⟨ha,hb⟩:=h
 unfold P0
 rw[dT hb,av,asN,dT (show okR a∧okR (ag (-ab b)) from⟨ha,mJ (rZ (AF hb)) (aqE _)⟩)]
theorem UQ(a b:(Bool×List Int)×Bool×List Int)(h:eL a b):Con Tryz.prog 174 [.d (.st (.pair y2Y y2Y)) a,.d (.st (.pair y2Y y2Y)) b] [.d (.st (.pair y2Y y2Y)) (ag (ab a/ab b))]:=by
 refine aN xd (agt _ _ ⟨0,?_⟩)
 unfold Mu
 rw[dT h]
end Go.Proofs.YtlahabkjhgkkjaaGreat
end
