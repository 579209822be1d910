/- The reference's integers: parts. -/
import Derived.Test.YtlahabkjhgkkjaaGreatX10
import Derived.Test.YtlahabkjhgkkjaaGreatX9
noncomputable section
namespace Go.Proofs.YtlahabkjhgkkjaaGreat
open Go.RowKit Go.IntKind
section
def zE(a b:List Int):Prop:=(can a∧a.length≤1000000)∧(can b∧b.length≤1000000)∧b≠[]
instance (a b:List Int):Decidable (zE a b):=by unfold zE;infer_instance
def F7:aN:=spN false false [axe,axg] (fun x=>decide (byP x.1 x.2.1)) (fun x=>[RV.d axe (ai (val x.1*x.2.1).toNat)])
theorem Cr:SpK 249 F7:=spX fun x h=>ab1 x.1 x.2.1 (at6 h)
def Ph:Env:=[(185,nE),(190,pW),(189,qs),(186,nM),(249,F7),(250,tW)]
theorem Ms:EnvAll Tryz.prog Ph:=⟨kq,nY,ny,kB,Cr,sJ,trivial⟩
def aal:NT:=[((187,30),{keep:=[8,9,10,11,12,13,14],pure_:=[(11,.int .u32)],hl:=1}),((187,67),{keep:=[8,9,10,11,12,13,14,16,17],pure_:=[(17,.int .u32)],hl:=1}),((187,90),{keep:=[8,11,12,18,19,20],hl:=2})]
def il:Ctx:=CX Ph aal
def jp(a b:List Int)(x1 x2:Int)(s11:List Int)(s14:Int)(r0:List Int):Cfg:=⟨187,[.blk 0,.seq 82],[(8,.d axg (u32.wrap (u64.wrap (Int.tdiv 1000000000 (u64.wrap ((u64.wrap x1)+1)))))),(9,.d axe (ai (val b*(u32.wrap (u64.wrap (Int.tdiv 1000000000 (u64.wrap ((u64.wrap x1)+1)))))).toNat)),(10,.d (.int .u64) (u64.wrap x2)),(11,.d axe s11),(12,.osl 0 1 ((0:Int).toNat) ((((ai (val a*(u32.wrap (u64.wrap (Int.tdiv 1000000000 (u64.wrap ((u64.wrap x1)+1)))))).toNat).length:Int):Int).toNat-(0:Int).toNat)),(13,.d axe (ai (val a*(u32.wrap (u64.wrap (Int.tdiv 1000000000 (u64.wrap ((u64.wrap x1)+1)))))).toNat)),(14,SI s14)],[.row 183 axg r0],0,[]⟩
def ez(a b:List Int)(x1 x2:Int)(s11:List Int)(s14:Int)(r0:List Int)(x3 s16:Int)(s17:List Int):Cfg:=⟨187,[.blk 2,.seq 78,.blk 1,.seq 81,.lp 30,.blk 0,.seq 82],[(8,.d axg (u32.wrap (u64.wrap (Int.tdiv 1000000000 (u64.wrap ((u64.wrap x1)+1)))))),(9,.d axe (ai (val b*(u32.wrap (u64.wrap (Int.tdiv 1000000000 (u64.wrap ((u64.wrap x1)+1)))))).toNat)),(10,.d (.int .u64) (u64.wrap x2)),(11,.d axe (ai (val (([x3])++s11)).toNat)),(12,.osl 0 1 ((0:Int).toNat) ((((ai (val a*(u32.wrap (u64.wrap (Int.tdiv 1000000000 (u64.wrap ((u64.wrap x1)+1)))))).toNat).length:Int):Int).toNat-(0:Int).toNat)),(13,.d axe (ai (val a*(u32.wrap (u64.wrap (Int.tdiv 1000000000 (u64.wrap ((u64.wrap x1)+1)))))).toNat)),(14,SI s14),(16,.d (.int .u64) s16),(17,.d axe s17)],[.row 183 axg r0],0,[]⟩
def pM(a:List Int)(x1:Int)(s11 r0:List Int)(s18 s20:Int)(r1:List Int):Cfg:=⟨187,[.blk 4,.seq 105],[(8,.d axg (u32.wrap (u64.wrap (Int.tdiv 1000000000 (u64.wrap ((u64.wrap x1)+1)))))),(11,.d axe s11),(12,.osl 0 1 ((0:Int).toNat) ((((ai (val a*(u32.wrap (u64.wrap (Int.tdiv 1000000000 (u64.wrap ((u64.wrap x1)+1)))))).toNat).length:Int):Int).toNat-(0:Int).toNat)),(18,.d (.int .u64) s18),(19,.own 1),(20,SI s20)],[.row 183 axg r0,.row 183 axg r1],0,[]⟩
def FU(a b:List Int)(k:KT):Option (List RV):=match decide ((a.length:Int)≤2)with|true=>(match decide ((b.length:Int)≤2)with|true=>(match decide (pg a)with|true=>(match decide (pg b)with|true=>(match decide (val b=(0:Int))with|true=>none|false=>(match decide (val b=(0:Int))with|true=>none|false=>(match decide (fN (u64.wrap (Int.tdiv (val a) (val b))))with|true=>(match decide (fN (Int.tmod (val a) (val b)))with|true=>some [RV.d axe (ai (u64.wrap (Int.tdiv (val a) (val b))).toNat),RV.d axe (ai (Int.tmod (val a) (val b)).toNat)]|false=>none)|false=>none)))|false=>none)|false=>none)|false=>(match bH b (i64.wrap ((b.length:Int)-1))with|some x1=>(match decide (u64.wrap ((u64.wrap x1)+1)=(0:Int))with|true=>none|false=>(match decide (byP b (u32.wrap (u64.wrap (Int.tdiv 1000000000 (u64.wrap ((u64.wrap x1)+1))))))with|true=>(match bH (ai (val b*(u32.wrap (u64.wrap (Int.tdiv 1000000000 (u64.wrap ((u64.wrap x1)+1)))))).toNat) (i64.wrap (((ai (val b*(u32.wrap (u64.wrap (Int.tdiv 1000000000 (u64.wrap ((u64.wrap x1)+1)))))).toNat).length:Int)-1))with|some x2=>(match decide ((0:Int)≤i64.wrap ((a.length:Int)+1)∧(i64.wrap ((a.length:Int)+1))*((4:Nat):Int)≤140737488355328∧i64.wrap ((a.length:Int)+1)≤140737488355328)with|true=>(match decide (byP a (u32.wrap (u64.wrap (Int.tdiv 1000000000 (u64.wrap ((u64.wrap x1)+1))))))with|true=>(match decide ((0:Int)≤0∧0≤((ai (val a*(u32.wrap (u64.wrap (Int.tdiv 1000000000 (u64.wrap ((u64.wrap x1)+1)))))).toNat).length:Int)∧((ai (val a*(u32.wrap (u64.wrap (Int.tdiv 1000000000 (u64.wrap ((u64.wrap x1)+1)))))).toNat).length:Int)≤((List.replicate (i64.wrap ((a.length:Int)+1)).toNat (0:Int)).length:Int))with|true=>k 30 (jp a b x1 x2 ([]) (i64.wrap (((ai (val a*(u32.wrap (u64.wrap (Int.tdiv 1000000000 (u64.wrap ((u64.wrap x1)+1)))))).toNat).length:Int)-1)) (List.replicate (i64.wrap ((a.length:Int)+1)).toNat (0:Int)))|false=>none)|false=>none)|false=>none)|none=>none)|false=>none))|none=>none))|false=>(match bH b (i64.wrap ((b.length:Int)-1))with|some x1=>(match decide (u64.wrap ((u64.wrap x1)+1)=(0:Int))with|true=>none|false=>(match decide (byP b (u32.wrap (u64.wrap (Int.tdiv 1000000000 (u64.wrap ((u64.wrap x1)+1))))))with|true=>(match bH (ai (val b*(u32.wrap (u64.wrap (Int.tdiv 1000000000 (u64.wrap ((u64.wrap x1)+1)))))).toNat) (i64.wrap (((ai (val b*(u32.wrap (u64.wrap (Int.tdiv 1000000000 (u64.wrap ((u64.wrap x1)+1)))))).toNat).length:Int)-1))with|some x2=>(match decide ((0:Int)≤i64.wrap ((a.length:Int)+1)∧(i64.wrap ((a.length:Int)+1))*((4:Nat):Int)≤140737488355328∧i64.wrap ((a.length:Int)+1)≤140737488355328)with|true=>(match decide (byP a (u32.wrap (u64.wrap (Int.tdiv 1000000000 (u64.wrap ((u64.wrap x1)+1))))))with|true=>(match decide ((0:Int)≤0∧0≤((ai (val a*(u32.wrap (u64.wrap (Int.tdiv 1000000000 (u64.wrap ((u64.wrap x1)+1)))))).toNat).length:Int)∧((ai (val a*(u32.wrap (u64.wrap (Int.tdiv 1000000000 (u64.wrap ((u64.wrap x1)+1)))))).toNat).length:Int)≤((List.replicate (i64.wrap ((a.length:Int)+1)).toNat (0:Int)).length:Int))with|true=>k 30 (jp a b x1 x2 ([]) (i64.wrap (((ai (val a*(u32.wrap (u64.wrap (Int.tdiv 1000000000 (u64.wrap ((u64.wrap x1)+1)))))).toNat).length:Int)-1)) (List.replicate (i64.wrap ((a.length:Int)+1)).toNat (0:Int)))|false=>none)|false=>none)|false=>none)|none=>none)|false=>none))|none=>none)
theorem T6(a b:List Int):RS il 187 [.d axe a,.d axe b] (FU a b):=rsX
def iR(a b:List Int)(x1 x2:Int)(s11:List Int)(s14:Int)(r0:List Int)(k:KT):Option (List RV):=match decide (s14≥0)with|true=>(match bH (ai (val a*(u32.wrap (u64.wrap (Int.tdiv 1000000000 (u64.wrap ((u64.wrap x1)+1)))))).toNat) s14 with|some x3=>(match decide ((([x3]).length+s11.length)*4≤140737488355328∧([x3]).length+s11.length≤140737488355328)with|true=>(match decide (bi (([x3])++s11))with|true=>(match decide (((ai (val (([x3])++s11)).toNat).length:Int)>((ai (val b*(u32.wrap (u64.wrap (Int.tdiv 1000000000 (u64.wrap ((u64.wrap x1)+1)))))).toNat).length:Int))with|true=>(match bH (ai (val (([x3])++s11)).toNat) ((ai (val b*(u32.wrap (u64.wrap (Int.tdiv 1000000000 (u64.wrap ((u64.wrap x1)+1)))))).toNat).length:Int)with|some x4=>(match decide (((ai (val (([x3])++s11)).toNat).length:Int)≥((ai (val b*(u32.wrap (u64.wrap (Int.tdiv 1000000000 (u64.wrap ((u64.wrap x1)+1)))))).toNat).length:Int))with|true=>(match bH (ai (val (([x3])++s11)).toNat) (i64.wrap (((ai (val b*(u32.wrap (u64.wrap (Int.tdiv 1000000000 (u64.wrap ((u64.wrap x1)+1)))))).toNat).length:Int)-1))with|some x5=>(match decide (u64.wrap x2=(0:Int))with|true=>none|false=>(match decide ((u64.wrap (Int.tdiv (u64.wrap ((u64.wrap ((u64.wrap x4)*1000000000))+(u64.wrap x5))) (u64.wrap x2)))>999999999)with|true=>(match decide (byP (ai (val b*(u32.wrap (u64.wrap (Int.tdiv 1000000000 (u64.wrap ((u64.wrap x1)+1)))))).toNat) (u32.wrap 999999999))with|true=>k 67 (ez a b x1 x2 s11 s14 r0 x3 999999999 (ai (val (ai (val b*(u32.wrap (u64.wrap (Int.tdiv 1000000000 (u64.wrap ((u64.wrap x1)+1)))))).toNat)*(u32.wrap 999999999)).toNat))|false=>none)|false=>(match decide (byP (ai (val b*(u32.wrap (u64.wrap (Int.tdiv 1000000000 (u64.wrap ((u64.wrap x1)+1)))))).toNat) (u32.wrap (u64.wrap (Int.tdiv (u64.wrap ((u64.wrap ((u64.wrap x4)*1000000000))+(u64.wrap x5))) (u64.wrap x2)))))with|true=>k 67 (ez a b x1 x2 s11 s14 r0 x3 (u64.wrap (Int.tdiv (u64.wrap ((u64.wrap ((u64.wrap x4)*1000000000))+(u64.wrap x5))) (u64.wrap x2))) (ai (val (ai (val b*(u32.wrap (u64.wrap (Int.tdiv 1000000000 (u64.wrap ((u64.wrap x1)+1)))))).toNat)*(u32.wrap (u64.wrap (Int.tdiv (u64.wrap ((u64.wrap ((u64.wrap x4)*1000000000))+(u64.wrap x5))) (u64.wrap x2))))).toNat))|false=>none)))|none=>none)|false=>(match decide (u64.wrap x2=(0:Int))with|true=>none|false=>(match decide ((u64.wrap (Int.tdiv (u64.wrap ((u64.wrap x4)*1000000000)) (u64.wrap x2)))>999999999)with|true=>(match decide (byP (ai (val b*(u32.wrap (u64.wrap (Int.tdiv 1000000000 (u64.wrap ((u64.wrap x1)+1)))))).toNat) (u32.wrap 999999999))with|true=>k 67 (ez a b x1 x2 s11 s14 r0 x3 999999999 (ai (val (ai (val b*(u32.wrap (u64.wrap (Int.tdiv 1000000000 (u64.wrap ((u64.wrap x1)+1)))))).toNat)*(u32.wrap 999999999)).toNat))|false=>none)|false=>(match decide (byP (ai (val b*(u32.wrap (u64.wrap (Int.tdiv 1000000000 (u64.wrap ((u64.wrap x1)+1)))))).toNat) (u32.wrap (u64.wrap (Int.tdiv (u64.wrap ((u64.wrap x4)*1000000000)) (u64.wrap x2)))))with|true=>k 67 (ez a b x1 x2 s11 s14 r0 x3 (u64.wrap (Int.tdiv (u64.wrap ((u64.wrap x4)*1000000000)) (u64.wrap x2))) (ai (val (ai (val b*(u32.wrap (u64.wrap (Int.tdiv 1000000000 (u64.wrap ((u64.wrap x1)+1)))))).toNat)*(u32.wrap (u64.wrap (Int.tdiv (u64.wrap ((u64.wrap x4)*1000000000)) (u64.wrap x2))))).toNat))|false=>none))))|none=>none)|false=>(match decide (((ai (val (([x3])++s11)).toNat).length:Int)≥((ai (val b*(u32.wrap (u64.wrap (Int.tdiv 1000000000 (u64.wrap ((u64.wrap x1)+1)))))).toNat).length:Int))with|true=>(match bH (ai (val (([x3])++s11)).toNat) (i64.wrap (((ai (val b*(u32.wrap (u64.wrap (Int.tdiv 1000000000 (u64.wrap ((u64.wrap x1)+1)))))).toNat).length:Int)-1))with|some x4=>(match decide (u64.wrap x2=(0:Int))with|true=>none|false=>(match decide ((u64.wrap (Int.tdiv (u64.wrap (0+(u64.wrap x4))) (u64.wrap x2)))>999999999)with|true=>(match decide (byP (ai (val b*(u32.wrap (u64.wrap (Int.tdiv 1000000000 (u64.wrap ((u64.wrap x1)+1)))))).toNat) (u32.wrap 999999999))with|true=>k 67 (ez a b x1 x2 s11 s14 r0 x3 999999999 (ai (val (ai (val b*(u32.wrap (u64.wrap (Int.tdiv 1000000000 (u64.wrap ((u64.wrap x1)+1)))))).toNat)*(u32.wrap 999999999)).toNat))|false=>none)|false=>(match decide (byP (ai (val b*(u32.wrap (u64.wrap (Int.tdiv 1000000000 (u64.wrap ((u64.wrap x1)+1)))))).toNat) (u32.wrap (u64.wrap (Int.tdiv (u64.wrap (0+(u64.wrap x4))) (u64.wrap x2)))))with|true=>k 67 (ez a b x1 x2 s11 s14 r0 x3 (u64.wrap (Int.tdiv (u64.wrap (0+(u64.wrap x4))) (u64.wrap x2))) (ai (val (ai (val b*(u32.wrap (u64.wrap (Int.tdiv 1000000000 (u64.wrap ((u64.wrap x1)+1)))))).toNat)*(u32.wrap (u64.wrap (Int.tdiv (u64.wrap (0+(u64.wrap x4))) (u64.wrap x2))))).toNat))|false=>none)))|none=>none)|false=>(match decide (u64.wrap x2=(0:Int))with|true=>none|false=>(match decide ((u64.wrap (Int.tdiv 0 (u64.wrap x2)))>999999999)with|true=>(match decide (byP (ai (val b*(u32.wrap (u64.wrap (Int.tdiv 1000000000 (u64.wrap ((u64.wrap x1)+1)))))).toNat) (u32.wrap 999999999))with|true=>k 67 (ez a b x1 x2 s11 s14 r0 x3 999999999 (ai (val (ai (val b*(u32.wrap (u64.wrap (Int.tdiv 1000000000 (u64.wrap ((u64.wrap x1)+1)))))).toNat)*(u32.wrap 999999999)).toNat))|false=>none)|false=>(match decide (byP (ai (val b*(u32.wrap (u64.wrap (Int.tdiv 1000000000 (u64.wrap ((u64.wrap x1)+1)))))).toNat) (u32.wrap (u64.wrap (Int.tdiv 0 (u64.wrap x2)))))with|true=>k 67 (ez a b x1 x2 s11 s14 r0 x3 (u64.wrap (Int.tdiv 0 (u64.wrap x2))) (ai (val (ai (val b*(u32.wrap (u64.wrap (Int.tdiv 1000000000 (u64.wrap ((u64.wrap x1)+1)))))).toNat)*(u32.wrap (u64.wrap (Int.tdiv 0 (u64.wrap x2))))).toNat))|false=>none)))))|false=>none)|false=>none)|none=>none)|false=>(match decide ((0:Int)≤(s11.length:Int)∧(s11.length:Int)*((4:Nat):Int)≤140737488355328∧(s11.length:Int)≤140737488355328)with|true=>k 90 (pM a x1 s11 r0 0 (i64.wrap ((s11.length:Int)-1)) (List.replicate ((s11.length:Int)).toNat (0:Int)))|false=>none)
theorem kU(a b:List Int)(x1 x2:Int)(s11:List Int)(s14:Int)(r0:List Int):RN il 30 (jp a b x1 x2 s11 s14 r0) (iR a b x1 x2 s11 s14 r0):=rnX
def lk(a b:List Int)(x1 x2:Int)(s11:List Int)(s14:Int)(r0:List Int)(x3 s16:Int)(s17:List Int)(k:KT):Option (List RV):=match decide (nZ s17 (ai (val (([x3])++s11)).toNat))with|true=>(match decide ((ck (val s17) (val (ai (val (([x3])++s11)).toNat)))>0)with|true=>(match decide (lL s17 (ai (val b*(u32.wrap (u64.wrap (Int.tdiv 1000000000 (u64.wrap ((u64.wrap x1)+1)))))).toNat))with|true=>k 67 (ez a b x1 x2 s11 s14 r0 x3 (u64.wrap (s16-1)) (ai (val s17-val (ai (val b*(u32.wrap (u64.wrap (Int.tdiv 1000000000 (u64.wrap ((u64.wrap x1)+1)))))).toNat)).toNat))|false=>none)|false=>(match decide (lL (ai (val (([x3])++s11)).toNat) s17)with|true=>(match true,decide ((0:Int)≤s14∧s14<(((((ai (val a*(u32.wrap (u64.wrap (Int.tdiv 1000000000 (u64.wrap ((u64.wrap x1)+1)))))).toNat).length:Int):Int).toNat-(0:Int).toNat:Nat):Int))with|true,true=>(match true,r0[(0:Int).toNat+(s14).toNat]? with|true,some _=>k 30 (jp a b x1 x2 (ai (val (ai (val (([x3])++s11)).toNat)-val s17).toNat) (i64.wrap (s14-1)) (r0.set ((0:Int).toNat+(s14).toNat) (u32.wrap s16)))|_,_=>none)|_,_=>none)|false=>none))|false=>none
theorem oD(a b:List Int)(x1 x2:Int)(s11:List Int)(s14:Int)(r0:List Int)(x3 s16:Int)(s17:List Int):RN il 67 (ez a b x1 x2 s11 s14 r0 x3 s16 s17) (lk a b x1 x2 s11 s14 r0 x3 s16 s17):=rnX
def pc(a:List Int)(x1:Int)(s11 r0:List Int)(s18 s20:Int)(r1:List Int)(k:KT):Option (List RV):=match decide (s20≥0)with|true=>(match bH s11 s20 with|some x2=>(match decide (u64.wrap (u32.wrap (u64.wrap (Int.tdiv 1000000000 (u64.wrap ((u64.wrap x1)+1)))))=(0:Int))with|true=>none|false=>(match bH r1 s20 with|some _=>(match true,r1[(s20).toNat]? with|true,some _=>(match decide (u64.wrap (u32.wrap (u64.wrap (Int.tdiv 1000000000 (u64.wrap ((u64.wrap x1)+1)))))=(0:Int))with|true=>none|false=>k 90 (pM a x1 s11 r0 (Int.tmod (u64.wrap ((u64.wrap (s18*1000000000))+(u64.wrap x2))) (u64.wrap (u32.wrap (u64.wrap (Int.tdiv 1000000000 (u64.wrap ((u64.wrap x1)+1))))))) (i64.wrap (s20-1)) (r1.set ((s20).toNat) (u32.wrap (u64.wrap (Int.tdiv (u64.wrap ((u64.wrap (s18*1000000000))+(u64.wrap x2))) (u64.wrap (u32.wrap (u64.wrap (Int.tdiv 1000000000 (u64.wrap ((u64.wrap x1)+1))))))))))))|_,_=>none)|none=>none))|none=>none)|false=>(match decide (bi ((r0.drop ((0:Int).toNat)).take ((((ai (val a*(u32.wrap (u64.wrap (Int.tdiv 1000000000 (u64.wrap ((u64.wrap x1)+1)))))).toNat).length:Int):Int).toNat-(0:Int).toNat)))with|true=>(match decide (bi r1)with|true=>some [RV.d axe (ai (val ((r0.drop ((0:Int).toNat)).take ((((ai (val a*(u32.wrap (u64.wrap (Int.tdiv 1000000000 (u64.wrap ((u64.wrap x1)+1)))))).toNat).length:Int):Int).toNat-(0:Int).toNat))).toNat),RV.d axe (ai (val r1).toNat)]|false=>none)|false=>none)
theorem wi(a:List Int)(x1:Int)(s11 r0:List Int)(s18 s20:Int)(r1:List Int):RN il 90 (pM a x1 s11 r0 s18 s20 r1) (pc a x1 s11 r0 s18 s20 r1):=rnX
def qsc(x1:Int):Int:=u32.wrap (u64.wrap (Int.tdiv 1000000000 (u64.wrap ((u64.wrap x1)+1))))
theorem fD(x1:Int):u32.wrap (u64.wrap (Int.tdiv 1000000000 (u64.wrap ((u64.wrap x1)+1))))=qsc x1:=by
 have h:∀y,qsc x1=y→y=qsc x1:=fun y e=>e.symm
 exact h _ rfl
theorem akm{x:Int}(h1:1≤x)(h2:x<1000000000):qsc x=1000000000/(x+1)∧1≤qsc x∧qsc x<1000000000:=by
 have h3:1≤1000000000/(x+1):=Int.le_ediv_of_mul_le (by omega) (by omega)
 have h4:1000000000/(x+1)<1000000000:=avG (by omega) (by omega)
 unfold qsc
 rw[bK (x:=x) (by omega) (by omega),bK (x:=x+1) (by omega) (by omega),fA (by omega),bK (by omega) (by omega),cV (by omega) (by omega)]
 exact⟨rfl,h3,h4⟩
theorem HC{v:Int}(h:0<v):∃(n:Nat) (x:Int),(ai v.toNat).length=n+1∧(ai v.toNat)[n]?=some x∧1≤x∧x<1000000000∧x*pw n≤v:=by
 have hne:ai v.toNat≠[]:=fun e=>by rw[fU]at e;omega
 rcases List.eq_nil_or_concat (ai v.toNat)with h0|⟨l,x,hx⟩
 ·exact absurd h0 hne
 ·have hv:=bL v.toNat
  have hc:=dK v.toNat
  have hl:=b9 v.toNat
  rw[List.concat_eq_append]at hx
  rw[hx]at hv hc hl
  have hxx:=hl x (by simp)
  have hx0:x≠0:=fun e=>hc.2 (by simp[e])
  have hln:=bg (l:=l) (fun y hy=>hl y (by simp[hy]))
  rw[dh]at hv
  simp only[val]at hv
  refine⟨l.length,x,by rw[hx];simp,by rw[hx];simp,by omega,hxx.2,?_⟩
  rw[avL]
  rw[av5,awS]at hv
  omega
section
variable (a b:List Int) (x1 x2:Int) (V:Int) (hV:val b*qsc x1=V) (hs:1≤qsc x1∧qsc x1<1000000000) (hp:0<V) (hra:(ai (val a*qsc x1).toNat).length≤a.length+1) (ha:Lim a∧a.length≤1000000) (hL:(ai V.toNat).length≤1000001)
theorem S3(hs:1≤qsc x1∧qsc x1<1000000000)(l r0:List Int)(hl:Lim l∧l.length≤2000000)(hr0:bi r0)(hz0:∀k (hk:k<r0.length),(ai (val a*qsc x1).toNat).length≤k→r0[k]=0):∀(n:Nat) (c:Int) (r:List Int),n≤l.length→0≤c→c<qsc x1→Lim r→r.length=l.length→(∀k (hk:k<r.length),k<n→r[k]=0)→qsc x1*val r+pw n*c+val (l.take n)=val l→
  il.Runs 90 (pM a x1 l r0 c ((n:Int)-1) r) [.d axe (ai (val r0).toNat),.d axe (ai (val l/qsc x1).toNat)]:=by
 have hsa:=hl.2
 have e64:u64.wrap (qsc x1)=qsc x1:=bK (by omega) (by omega)
 intro n
 induction n with
 |zero=>
  intro c r hn c0 c1 hr hlen hz hv
  simp only[kR,List.take_zero,val,avz,awS]at hv
  have e2:val l/qsc x1=val r:=by
   rw[←hv,awT,avS _ _ (by omega),avq c0 c1]
   omega
  have e3:=xc hz0
  have e4:bi (r0.take (ai (val a*qsc x1).toNat).length):=⟨hr0.1.take _,by have:=hr0.2;rw[auW];omega⟩
  refine wi _ _ _ _ _ _ _ ⟨0,?_⟩
  unfold pc
  simp only[fD,Int.toNat_zero,avP,avX,awQ]
  rw[dF (by omega)]
  dsimp only
  rw[dT e4,dT (show bi r from⟨hr,by omega⟩),e3,e2]
 |succ n ih=>
  intro c r hn c0 c1 hr hlen hz hv
  have hna:n<l.length:=by omega
  have hnr:n<r.length:=by omega
  have xa:=hl.1.get hna
  have hr0':=hz n hnr (by omega)
  have hcb:0≤c*1000000000+l[n]:=by omega
  have m0:=avi (c*1000000000+l[n]) (show qsc x1≠0 by omega)
  have m1:=auL (c*1000000000+l[n]) (show 0<qsc x1 by omega)
  have md:=auU (c*1000000000+l[n]) (qsc x1)
  have d0:0≤(c*1000000000+l[n])/qsc x1:=avd hcb (by omega)
  have d1:(c*1000000000+l[n])/qsc x1<1000000000:=by
   refine avG (by omega) ?_
   have:=auq (show c+1≤qsc x1 by omega) (show(0:Int)≤1000000000 by decide)
   rw[avL 1000000000 (qsc x1)]
   omega
  obtain⟨q,hq⟩:=ih ((c*1000000000+l[n])%qsc x1) (r.set n ((c*1000000000+l[n])/qsc x1)) (by omega) m0 m1 (hr.set n ⟨d0,d1⟩) (by simpa using hlen)
   (fun k hk hkn=>by rw[avB (by omega)];exact hz k (by simpa using hk) (by omega)) (by
    rw[eF hnr,hr0']
    rw[bk hna,ce]at hv
    grind)
  refine wi _ _ _ _ _ _ _ ⟨q,?_⟩
  unfold pc
  simp only[fD]
  rw[show((n+1:Nat):Int)-1=(n:Int) by omega,dT (by omega),aM l n,at8 hna,e64,dF (show ¬qsc x1=0 by omega),aM r n,aR,at8 hnr]
  dsimp only
  rw[bK (x:=c*1000000000) (by omega) (by omega),bK (x:=l[n]) (by omega) (by omega),bK (x:=c*1000000000+l[n]) (by omega) (by omega),fA hcb,ic hcb,bK (x:=(c*1000000000+l[n])/qsc x1) (by omega) (by omega),cV (x:=(c*1000000000+l[n])/qsc x1) (by omega) (by omega),bj (x:=(n:Int)-1) (by omega) (by omega)]
  exact hq
include hV hp hL in
theorem Gi{res:List RV}(i:Nat)(hi:i<(ai (val a*qsc x1).toNat).length)(r0 l:List Int)(hlr:r0.length=a.length+1)(hra:(ai (val a*qsc x1).toNat).length≤a.length+1)(x3 W:Int)(hW:val ([x3]++l)=W)(W0:0≤W)(hWl:(ai W.toNat).length≤1000002)
  (hout:il.Runs 30 (jp a b x1 x2 (ai (W%V).toNat) ((i:Int)-1) (r0.set i (W/V))) res) (hi':(ai (val a*qsc x1).toNat).length≤2000000):
  ∀(d:Nat),d≤999999999→W<V*((d:Int)+1)→il.Runs 67 (ez a b x1 x2 l (i:Int) r0 x3 (d:Int) (ai (V*(d:Int)).toNat)) res:=by
 intro d
 have hsz:∀e:Nat,e≤999999999→(ai (V*(e:Int)).toNat).length≤1000002:=fun e he=>by
  refine cB (au5 (by omega) (by omega)) ?_
  have h1:V<pw 1000001:=by
   have:=bZ (b9 V.toNat)
   rw[bL]at this
   have:=c7 hL
   omega
  rw[ce 1000001]
  have h2:V*(e:Int)≤V*999999999:=aum (by omega) (by omega)
  omega
 induction d with
 |zero=>
  intro _ hd
  obtain⟨q,hq⟩:=hout
  have hWV:W<V:=by simpa using hd
  rw[awf W0 hWV,avq W0 hWV]at hq
  refine oD _ _ _ _ _ _ _ _ _ _ ⟨q,?_⟩
  unfold lk
  simp only[fD,hV,hW]
  rw[show(V*((0:Nat):Int)).toNat=0 by simp,dT (show nZ (ai 0) (ai W.toNat) from⟨⟨dK _,by decide⟩,dK _,by omega⟩),bV W0,vJ,show val (ai 0)=0 from rfl,dF (show ¬W<0 by omega),dT (show lL (ai W.toNat) (ai 0) from⟨cD (by omega),cD (by decide),by rw[bV W0];exact W0⟩)]
  dsimp only
  rw[dT (show(0:Int)≤(i:Int)∧(i:Int)<((((ai (val a*qsc x1).toNat).length:Int).toNat-(0:Int).toNat:Nat):Int) by constructor<;>simp<;>omega)]
  rw[show(0:Int).toNat+((i:Int)).toNat=i by simp,at8 (by omega)]
  dsimp only
  rw[Int.sub_zero,bj (by omega) (by omega)]
  exact hq
 |succ d ih=>
  intro hd1 hd
  have hc:((d+1:Nat):Int)=(d:Int)+1:=by omega
  rw[hc]at hd
  have hV1:0≤V*((d:Int)+1):=au5 (by omega) (by omega)
  have hV0:0≤V*(d:Int):=au5 (by omega) (by omega)
  have hVd:V*((d:Int)+1)-V=V*(d:Int):=by grind
  have hs1:=hsz (d+1) (by omega)
  rw[hc]at hs1
  have k1:=bL V.toNat
  by_cases hg:W<V*((d:Int)+1)
  ·obtain⟨q,hq⟩:=ih (by omega) hg
   refine oD _ _ _ _ _ _ _ _ _ _ ⟨q,?_⟩
   unfold lk
   simp only[fD,hV,hW]
   rw[hc,dT (show nZ (ai (V*((d:Int)+1)).toNat) (ai W.toNat) from⟨⟨dK _,by omega⟩,dK _,by omega⟩),bV W0,bV hV1,vJ,dT hg,dT (show lL (ai (V*((d:Int)+1)).toNat) (ai V.toNat) from⟨cD (by omega),cD (by omega),by rw[bV hV1,bV (by omega)];omega⟩),bV (v:=V) (by omega),hVd,bK (by omega) (by omega),show(d:Int)+1-1=(d:Int) by omega]
   exact hq
  ·obtain⟨q,hq⟩:=hout
   have e1:W/V=(d:Int)+1:=by
    have:W=(W-V*((d:Int)+1))+V*((d:Int)+1):=by omega
    rw[this,avS _ _ (by omega),avq (by omega) (by grind)]
    omega
   have e2:W%V=W-V*((d:Int)+1):=by
    have:=auU W V
    rw[e1]at this
    omega
   rw[e1,e2]at hq
   refine oD _ _ _ _ _ _ _ _ _ _ ⟨q,?_⟩
   unfold lk
   simp only[fD,hV,hW]
   rw[hc,dT (show nZ (ai (V*((d:Int)+1)).toNat) (ai W.toNat) from⟨⟨dK _,by omega⟩,dK _,by omega⟩),bV W0,bV hV1,vJ,dF hg,dT (show lL (ai W.toNat) (ai (V*((d:Int)+1)).toNat) from⟨cD (by omega),cD (by omega),by rw[bV hV1,bV W0];omega⟩)]
   dsimp only
   rw[dT (show(0:Int)≤(i:Int)∧(i:Int)<((((ai (val a*qsc x1).toNat).length:Int).toNat-(0:Int).toNat:Nat):Int) by constructor<;>simp<;>omega)]
   rw[show(0:Int).toNat+((i:Int)).toNat=i by simp,at8 (by omega)]
   dsimp only
   rw[bj (by omega) (by omega),cV (by omega) (by omega)]
   exact hq
end
end
section
def nS(k:Nat→Cfg→Option (List RV))(a b:List Int)(x1 x2:Int)(s11:List Int)(s14:Int)(r0:List Int)(x3 H:Int):Option (List RV):=match decide (u64.wrap x2=(0:Int))with|true=>none|false=>(match decide ((u64.wrap (Int.tdiv H (u64.wrap x2)))>999999999)with|true=>(match decide (byP (ai (val b*(u32.wrap (u64.wrap (Int.tdiv 1000000000 (u64.wrap ((u64.wrap x1)+1)))))).toNat) (u32.wrap 999999999))with|true=>k 67 (ez a b x1 x2 s11 s14 r0 x3 999999999 (ai (val (ai (val b*(u32.wrap (u64.wrap (Int.tdiv 1000000000 (u64.wrap ((u64.wrap x1)+1)))))).toNat)*(u32.wrap 999999999)).toNat))|false=>none)|false=>(match decide (byP (ai (val b*(u32.wrap (u64.wrap (Int.tdiv 1000000000 (u64.wrap ((u64.wrap x1)+1)))))).toNat) (u32.wrap (u64.wrap (Int.tdiv H (u64.wrap x2)))))with|true=>k 67 (ez a b x1 x2 s11 s14 r0 x3 (u64.wrap (Int.tdiv H (u64.wrap x2))) (ai (val (ai (val b*(u32.wrap (u64.wrap (Int.tdiv 1000000000 (u64.wrap ((u64.wrap x1)+1)))))).toNat)*(u32.wrap (u64.wrap (Int.tdiv H (u64.wrap x2))))).toNat))|false=>none))
theorem XP{W V H x p d:Int}(hx:1≤x)(hW:W<(H+1)*p)(hp:0<p)(hV:x*p≤V)(hd:H/x=d)(h0:0≤H):W<V*(d+1):=by
 have h1:=auU H x
 have h2:=auL H (show 0<x by omega)
 have h3:0≤d:=by rw[←hd];exact avd h0 (by omega)
 rw[hd]at h1
 have h4:H+1≤x*(d+1):=by grind
 have h5:=auq h4 (auJ hp)
 have h6:=auq hV (show 0≤d+1 by omega)
 grind
theorem akS{A B s R q:Int}(hs:0<s)(h:A*s=R+B*s*q)(h0:0≤R)(h1:R<B*s):A/B=q∧A%B=R/s:=by
 have e:R=s*(A-B*q):=by grind
 have hm:R/s=A-B*q:=by rw[e];exact awg _ (by omega)
 have m0:0≤A-B*q:=by
  apply aut
  intro hc
  have:=aum (show A-B*q≤ -1 by omega) (auJ hs)
  omega
 have m1:A-B*q<B:=by
  apply aut
  intro hc
  have:=aum (show B≤A-B*q by omega) (auJ hs)
  grind
 have hA:A=(A-B*q)+B*q:=by omega
 constructor
 ·rw[hA,avS _ _ (by omega),avq (by omega) (by omega)];omega
 ·rw[hm,hA,av3,awf (by omega) (by omega)];omega
section
variable (a b:List Int) (x1 x2:Int) (V:Int) (hV:val b*qsc x1=V) (hs:1≤qsc x1∧qsc x1<1000000000) (hp:0<V) (hra:(ai (val a*qsc x1).toNat).length≤a.length+1) (ha:Lim a∧a.length≤1000000) (hL:(ai V.toNat).length≤1000001)
include hV hs hp hra ha hL in
theorem Gm(n:Nat)(hn:(ai V.toNat).length=n+1)(hx2:1≤x2∧x2<1000000000)(hxp:x2*pw n≤V):∀(i:Nat) (R:Int) (r0:List Int),i≤(ai (val a*qsc x1).toNat).length→0≤R→R<V→r0.length=a.length+1→Lim r0→
  (∀k (hk:k<r0.length),k<i→r0[k]=0)→(∀k (hk:k<r0.length),(ai (val a*qsc x1).toNat).length≤k→r0[k]=0)→val a*qsc x1=pw i*R+val ((ai (val a*qsc x1).toNat).take i)+V*val r0→
  il.Runs 30 (jp a b x1 x2 (ai R.toNat) ((i:Int)-1) r0) [.d axe (ai (val a/val b).toNat),.d axe (ai (val a%val b).toNat)]:=by
 have hVp:V<pw 1000001:=by
  have:=bZ (b9 V.toNat)
  rw[bL]at this
  have:=c7 hL
  omega
 have ha2:=ha.2
 intro i
 induction i with
 |zero=>
  intro R r0 _ R0 RV hlr hl _ hz he
  simp only[kR,List.take_zero,val,avz,awS]at he
  rw[←hV]at he
  obtain⟨e1,e2⟩:=akS (by omega) he R0 (by rw[hV];exact RV)
  have hRl:(ai R.toNat).length≤1000001:=cB R0 (by omega)
  obtain⟨q,hq⟩:=S3 a x1 hs (ai R.toNat) r0 ⟨b9 _,by omega⟩ ⟨hl,by omega⟩ hz (ai R.toNat).length 0 (List.replicate (ai R.toNat).length 0) (auj _) (by omega) (by omega) (Lim.rep _) (by simp) (fun k hk _=>by simp) (by simp[fJ])
  rw[bV R0,←e2,←e1]at hq
  refine kU _ _ _ _ _ _ _ ⟨q,?_⟩
  unfold iR
  rw[dF (by omega)]
  dsimp only
  rw[dT (show(0:Int)≤((ai R.toNat).length:Int)∧((ai R.toNat).length:Int)*((4:Nat):Int)≤140737488355328∧((ai R.toNat).length:Int)≤140737488355328 from⟨by omega,by omega,by omega⟩),aR,bj (by omega) (by omega)]
  exact hq
 |succ i ih=>
  intro R r0 hi R0 RV hlr hl hz hz2 he
  have hiU:i<(ai (val a*qsc x1).toNat).length:=by omega
  have hx:=(b9 (val a*qsc x1).toNat).get hiU
  have hir:i<r0.length:=by omega
  have hr0:=hz i hir (by omega)
  have hWv:val ([(ai (val a*qsc x1).toNat)[i]]++ai R.toNat)=(ai (val a*qsc x1).toNat)[i]+1000000000*R:=by
   rw[dh,bV R0]
   simp[val,pw]
  generalize hxi:(ai (val a*qsc x1).toNat)[i]=x at hx hWv
  have W0:0≤x+1000000000*R:=by omega
  have WV:x+1000000000*R<1000000000*V:=by omega
  have hWl:(ai (x+1000000000*R).toNat).length≤n+2:=by
   refine cB W0 ?_
   have:=bZ (b9 V.toNat)
   rw[bL,hn]at this
   rw[ce (n+1)]
   omega
  have hRl:(ai R.toNat).length≤1000001:=cB R0 (by omega)
  have q0:0≤(x+1000000000*R)/V:=avd W0 (by omega)
  have q1:(x+1000000000*R)/V<1000000000:=avG hp (by omega)
  have m0:=avi (x+1000000000*R) (show V≠0 by omega)
  have m1:=auL (x+1000000000*R) hp
  have md:=auU (x+1000000000*R) V
  have hout:=ih ((x+1000000000*R)%V) (r0.set i ((x+1000000000*R)/V)) (by omega) m0 m1 (by simpa using hlr) (hl.set i ⟨q0,q1⟩)
   (fun k hk hk'=>by rw[avB (by omega)];exact hz k (by simpa using hk) (by omega))
   (fun k hk hk'=>by rw[avB (by omega)];exact hz2 k (by simpa using hk) hk') (by
    rw[eF hir,hr0]
    rw[bk hiU,ce,hxi]at he
    grind)
  have hdig:=Gi a b x1 x2 V hV hp hL i hiU r0 (ai R.toNat) hlr hra x (x+1000000000*R) hWv W0 (by omega) hout (by omega)
  have htail:∀H:Int,0≤H→H<1000000000000000000→x+1000000000*R<(H+1)*pw n→∃q,nS (il.k q) a b x1 x2 (ai R.toNat) ((i:Int)) r0 x H=some [.d axe (ai (val a/val b).toNat),.d axe (ai (val a%val b).toNat)]:=by
   intro H H0 H1 HW
   have d0:0≤H/x2:=avd H0 (by omega)
   have d1:H/x2≤H:=avW _ H0
   have hbyV:∀d:Int,0≤d→d<1000000000→byP (ai V.toNat) d:=fun d h1 h2=>⟨⟨b9 _,by omega⟩,h1,h2⟩
   by_cases hc:H/x2>999999999
   ·obtain⟨q,hq⟩:=hdig 999999999 (auj _) (by rw[show V*(((999999999:Nat):Int)+1)=1000000000*V by omega];exact WV)
    refine⟨q,?_⟩
    unfold nS
    simp only[fD,hV]
    rw[bK (x:=x2) (by omega) (by omega),dF (show ¬x2=0 by omega),fA H0,bK (x:=H/x2) (by omega) (by omega),dT hc,cV (x:=999999999) (by decide) (by decide),dT (hbyV 999999999 (by decide) (by decide)),bV (v:=V) (by omega)]
    exact hq
   ·obtain⟨q,hq⟩:=hdig (H/x2).toNat (by omega) (by rw[show(((H/x2).toNat:Nat):Int)=H/x2 by omega];exact XP hx2.1 HW (b8 n) hxp rfl H0)
    rw[show(((H/x2).toNat:Nat):Int)=H/x2 by omega]at hq
    refine⟨q,?_⟩
    unfold nS
    simp only[fD,hV]
    rw[bK (x:=x2) (by omega) (by omega),dF (show ¬x2=0 by omega),fA H0,bK (x:=H/x2) (by omega) (by omega),dF hc,cV (x:=H/x2) (by omega) (by omega),dT (hbyV (H/x2) (by omega) (by omega)),bV (v:=V) (by omega)]
    exact hq
  have hWlim:=b9 (x+1000000000*R).toNat
  have hWval:=bV W0
  have hsplit:=fe (ai (x+1000000000*R).toNat) n
  have htl:=bZ (hWlim.take n)
  have hpre:∀H,val ((ai (x+1000000000*R).toNat).drop n)=H→x+1000000000*R<(H+1)*pw n:=by
   intro H hH
   rw[hH,hWval]at hsplit
   have hm:(ai (x+1000000000*R).toNat |>.take n).length≤n:=by rw[auW];omega
   have:=c7 hm
   rcases auz n (ai (x+1000000000*R).toNat).length with h|h
   ·rw[auI (by omega)]at hsplit
    rw[Int.add_mul,avL H,avz]
    omega
   ·rw[au1 h]at hH
    have hH0:H=0:=by rw[←hH];rfl
    subst hH0
    rw[av5]at hsplit
    omega
  have hstep:∀(H:Int) (q:Nat),nS (il.k q) a b x1 x2 (ai R.toNat) ((i:Int)) r0 x H=some [.d axe (ai (val a/val b).toNat),.d axe (ai (val a%val b).toNat)]→True:=fun _ _ _=>trivial
  have hap:(([x]:List Int).length+(ai R.toNat).length)*4≤140737488355328∧([x]:List Int).length+(ai R.toNat).length≤140737488355328:=by simp only[auH];omega
  have hlS:bi ([x]++ai R.toNat):=⟨(Lim.cons ⟨hx.1,hx.2⟩ Lim.nil).append (b9 _),by simp only[avs,auH];omega⟩
  have hw1:i64.wrap (((n+1:Nat):Int)-1)=((n:Nat):Int):=by rw[bj (by omega) (by omega)];omega
  rcases Nat.lt_trichotomy (ai (x+1000000000*R).toNat).length (n+1)with hc|hc|hc
  ·obtain⟨q,hq⟩:=htail 0 (by omega) (by omega) (hpre 0 (by rw[au1 (by omega)];rfl))
   refine kU _ _ _ _ _ _ _ ⟨q,?_⟩
   unfold iR
   rw[dT (show((i+1:Nat):Int)-1≥0 by omega),show((i+1:Nat):Int)-1=(i:Int) by omega,fD,aM,at8 hiU,hxi]
   dsimp only
   rw[dT hap,dT hlS,hWv,hV,hn]
   dsimp only
   rw[dF (show ¬((ai (x+1000000000*R).toNat).length:Int)>((n+1:Nat):Int) by omega),dF (show ¬((ai (x+1000000000*R).toNat).length:Int)≥((n+1:Nat):Int) by omega)]
   rw[←hV]
   exact hq
  ·have hget:(ai (x+1000000000*R).toNat)[n]?=some (ai (x+1000000000*R).toNat)[n]:=at8 (by omega)
   have hxn:=hWlim.get (show n<(ai (x+1000000000*R).toNat).length by omega)
   have hdrop:val ((ai (x+1000000000*R).toNat).drop n)=(ai (x+1000000000*R).toNat)[n]:=by
    rw[kn (by omega),au1 (by omega)]
    simp[val]
   obtain⟨q,hq⟩:=htail (ai (x+1000000000*R).toNat)[n] hxn.1 (by omega) (hpre _ hdrop)
   refine kU _ _ _ _ _ _ _ ⟨q,?_⟩
   unfold iR
   rw[dT (show((i+1:Nat):Int)-1≥0 by omega),show((i+1:Nat):Int)-1=(i:Int) by omega,fD,aM,at8 hiU,hxi]
   dsimp only
   rw[dT hap,dT hlS,hWv,hV,hn]
   dsimp only
   rw[dF (show ¬((ai (x+1000000000*R).toNat).length:Int)>((n+1:Nat):Int) by omega),dT (show((ai (x+1000000000*R).toNat).length:Int)≥((n+1:Nat):Int) by omega),hw1,aM (ai (x+1000000000*R).toNat) n,hget]
   dsimp only
   rw[Int.zero_add,bK (x:=(ai (x+1000000000*R).toNat)[n]) (by omega) (by omega),bK (x:=(ai (x+1000000000*R).toNat)[n]) (by omega) (by omega)]
   rw[←hV]
   exact hq
  ·have hget:(ai (x+1000000000*R).toNat)[n]?=some (ai (x+1000000000*R).toNat)[n]:=at8 (by omega)
   have hget1:(ai (x+1000000000*R).toNat)[n+1]?=some (ai (x+1000000000*R).toNat)[n+1]:=at8 (by omega)
   have hxn:=hWlim.get (show n<(ai (x+1000000000*R).toNat).length by omega)
   have hxn1:=hWlim.get (show n+1<(ai (x+1000000000*R).toNat).length by omega)
   have hdrop:val ((ai (x+1000000000*R).toNat).drop n)=(ai (x+1000000000*R).toNat)[n+1]*1000000000+(ai (x+1000000000*R).toNat)[n]:=by
    rw[kn (by omega),kn (by omega),au1 (by omega)]
    simp only[val]
    omega
   obtain⟨q,hq⟩:=htail ((ai (x+1000000000*R).toNat)[n+1]*1000000000+(ai (x+1000000000*R).toNat)[n]) (by omega) (by omega) (hpre _ hdrop)
   refine kU _ _ _ _ _ _ _ ⟨q,?_⟩
   unfold iR
   rw[dT (show((i+1:Nat):Int)-1≥0 by omega),show((i+1:Nat):Int)-1=(i:Int) by omega,fD,aM,at8 hiU,hxi]
   dsimp only
   rw[dT hap,dT hlS,hWv,hV,hn]
   dsimp only
   rw[dT (show((ai (x+1000000000*R).toNat).length:Int)>((n+1:Nat):Int) by omega),aM (ai (x+1000000000*R).toNat) (n+1),hget1]
   dsimp only
   rw[dT (show((ai (x+1000000000*R).toNat).length:Int)≥((n+1:Nat):Int) by omega),hw1,aM (ai (x+1000000000*R).toNat) n,hget]
   dsimp only
   rw[bK (x:=(ai (x+1000000000*R).toNat)[n+1]) (by omega) (by omega),bK (x:=(ai (x+1000000000*R).toNat)[n+1]*1000000000) (by omega) (by omega),bK (x:=(ai (x+1000000000*R).toNat)[n]) (by omega) (by omega),bK (x:=(ai (x+1000000000*R).toNat)[n+1]*1000000000+(ai (x+1000000000*R).toNat)[n]) (by omega) (by omega)]
   rw[←hV]
   exact hq
end
end
theorem MX(a b:List Int)(h:zE a b):Con Tryz.prog 187 [.d axe a,.d axe b] [.d axe (ai (val a/val b).toNat),.d axe (ai (val a%val b).toNat)]:=by
 refine aP Ms (show il.Res _ _ _ from ?_)
 obtain⟨⟨ha,sa⟩,⟨hb,sb⟩,hne⟩:=h
 have a0:=bg ha.1
 have b0:0<val b:=d7 hb hne
 have hlen:=auR.2 hne
 have la:=bZ ha.1
 have lb:=bZ hb.1
 by_cases hsm:a.length≤2∧b.length≤2
 ·have p2:pw 2=1000000000000000000:=by decide
  have m1:=c7 hsm.1
  have m2:=c7 hsm.2
  have q0:0≤val a/val b:=avd a0 (by omega)
  have q1:val a/val b≤val a:=avW _ a0
  have r0:=avi (val a) (show val b≠0 by omega)
  have r1:=auL (val a) b0
  refine T6 _ _ ⟨0,?_⟩
  unfold FU
  rw[dT (show(a.length:Int)≤2 by omega),dT (show(b.length:Int)≤2 by omega),dT (show pg a from⟨⟨ha.1,by omega⟩,by omega⟩),dT (show pg b from⟨⟨hb.1,by omega⟩,by omega⟩),dF (show ¬val b=0 by omega),fA a0,ic a0,bK (x:=val a/val b) q0 (by omega),dT (show fN (val a/val b) from⟨q0,by omega⟩),dT (show fN (val a%val b) from⟨r0,by omega⟩)]
 ·obtain⟨n,hn⟩:∃n,b.length=n+1:=⟨b.length-1,by omega⟩
  have hbn:n<b.length:=by omega
  have ht:=rY hb hn
  have hbl:=hb.1.get hbn
  obtain⟨hs0,hs1,hs2⟩:=akm (x:=b[n]) ht hbl.2
  have hVp:0<val b*qsc b[n]:=Int.mul_pos b0 (by omega)
  have hVl:(ai (val b*qsc b[n]).toNat).length≤1000001:=by
   refine cB (by omega) ?_
   have h1:val b*qsc b[n]≤val b*999999999:=aum (by omega) (by omega)
   have h2:=c7 sb
   rw[ce 1000000]
   omega
  have hUl:(ai (val a*qsc b[n]).toNat).length≤a.length+1:=by
   refine cB (au5 a0 (by omega)) ?_
   have h1:val a*qsc b[n]≤val a*999999999:=aum (by omega) (by omega)
   rw[ce]
   omega
  obtain⟨m,x2,hm,hg,hx1,hx2,hxp⟩:=HC hVp
  obtain⟨q,hq⟩:=Gm a b b[n] x2 (val b*qsc b[n]) rfl ⟨hs1,hs2⟩ hVp hUl ⟨ha.1,sa⟩ hVl m hm ⟨hx1,hx2⟩ hxp (ai (val a*qsc b[n]).toNat).length 0 (List.replicate (a.length+1) 0) (auj _) (by omega) hVp (by simp) (Lim.rep _) (fun k hk _=>by simp) (fun k hk _=>by simp) (by
   rw[avm,bV (au5 a0 (by omega)),fJ];omega)
  refine T6 _ _ ⟨q,?_⟩
  have hw1:i64.wrap ((b.length:Int)-1)=(n:Int):=by rw[bj (by omega) (by omega)];omega
  have hx1w:¬u64.wrap (u64.wrap b[n]+1)=0:=by rw[bK (x:=b[n]) (by omega) (by omega),bK (by omega) (by omega)];omega
  have hbyb:byP b (qsc b[n]):=⟨⟨hb.1,by omega⟩,by omega,hs2⟩
  have hbya:byP a (qsc b[n]):=⟨⟨ha.1,by omega⟩,by omega,hs2⟩
  have hw2:i64.wrap (((m+1:Nat):Int)-1)=(m:Int):=by rw[bj (by omega) (by omega)];omega
  have hsub:(match bH b (i64.wrap ((b.length:Int)-1))with|some x1=>(match decide (u64.wrap ((u64.wrap x1)+1)=(0:Int))with|true=>none|false=>(match decide (byP b (qsc x1))with|true=>(match bH (ai (val b*(qsc x1)).toNat) (i64.wrap (((ai (val b*(qsc x1)).toNat).length:Int)-1))with|some x2=>(match decide ((0:Int)≤i64.wrap ((a.length:Int)+1)∧(i64.wrap ((a.length:Int)+1))*((4:Nat):Int)≤140737488355328∧i64.wrap ((a.length:Int)+1)≤140737488355328)with|true=>(match decide (byP a (qsc x1))with|true=>(match decide ((0:Int)≤0∧0≤((ai (val a*(qsc x1)).toNat).length:Int)∧((ai (val a*(qsc x1)).toNat).length:Int)≤((List.replicate (i64.wrap ((a.length:Int)+1)).toNat (0:Int)).length:Int))with|true=>(il.k q) 30 (jp a b x1 x2 ([]) (i64.wrap (((ai (val a*(qsc x1)).toNat).length:Int)-1)) (List.replicate (i64.wrap ((a.length:Int)+1)).toNat (0:Int)))|false=>none)|false=>none)|false=>none)|none=>none)|false=>none))|none=>none)=some [.d axe (ai (val a/val b).toNat),.d axe (ai (val a%val b).toNat)]:=by
   rw[hw1,aM,at8 hbn]
   dsimp only
   rw[dF hx1w,dT hbyb,hm,hw2,aM,hg]
   dsimp only
   rw[cO (k:=a.length) (by omega),pH (n:=a.length+1) (by omega),dT hbya,aR,aww,dT (show(0:Int)≤0∧(0:Int)≤((ai (val a*qsc b[n]).toNat).length:Int)∧((ai (val a*qsc b[n]).toNat).length:Int)≤((a.length+1:Nat):Int) from⟨by omega,by omega,by omega⟩),bj (x:=((ai (val a*qsc b[n]).toNat).length:Int)-1) (by omega) (by omega)]
   exact hq
  unfold FU
  by_cases h1:a.length≤2
  ·rw[dT (show(a.length:Int)≤2 by omega),dF (show ¬(b.length:Int)≤2 by omega)]
   exact hsub
  ·rw[dF (show ¬(a.length:Int)≤2 by omega)]
   exact hsub
def Ji:aN:=spN false false [axe,axe] (fun x=>decide (zE x.1 x.2.1)) (fun x=>[RV.d axe (ai (val x.1/val x.2.1).toNat),RV.d axe (ai (val x.1%val x.2.1).toNat)])
theorem Mm:SpK 187 Ji:=spX fun x h=>MX x.1 x.2.1 (at6 h)
def ug:aN:=spN false false [axf] (fun x=>decide (aY x.1)) (fun x=>[RV.d y2Y (ak x.1)])
theorem qX:SpK 134 ug:=spX fun x h=>Ci x.1 (at6 h)
def HI:aN:=spN false false [y2Y,y2Y] (fun x=>decide (okI x.1∧okI x.2.1)) (fun x=>[RV.d y2Y (ak (ah x.1-ah x.2.1))])
theorem Lj:SpK 257 HI:=spX fun x h=>WG x.1 x.2.1 (at6 h)
def GV:Env:=[(185,nE),(190,pW),(189,qs),(186,nM),(249,F7),(250,tW),(187,Ji),(134,ug),(257,HI),(188,tj),(212,qe)]
theorem zh:EnvAll Tryz.prog GV:=⟨kq,nY,ny,kB,Cr,sJ,Mm,qX,Lj,rM,m7,trivial⟩
def aie:Ctx:=CX GV []
def NP(x y:Bool×List Int)(_k:KT):Option (List RV):=let y1:=ai (val x.2/val y.2).toNat;let y2:=ai (val x.2%val y.2).toNat;let y3:=ak (cf (!(x.1==y.1)) (val y1));let y4:=ak (cf x.1 (val y2));let y5:Option (List RV):=match decide ((y2.length:Int)>0)with|true=>(match !(x.1==y.1)with|true=>(match decide (aY (1:Int))with|true=>(match decide (okI y3∧okI (ak (1:Int)))with|true=>(match decide (okI y4∧okI y)with|true=>dup (.b .l .l) (some [RV.d y2Y (ak (ah y3-ah (ak (1:Int)))),RV.d y2Y (ak (ah y4+ah y)),RV.d axf 0])|false=>none)|false=>none)|false=>none)|false=>dup (.b .l .l) (some [RV.d y2Y y3,RV.d y2Y y4,RV.d axf 0]))|false=>dup (.b .l .l) (some [RV.d y2Y y3,RV.d y2Y y4,RV.d axf 0]);let y6:Option (List RV):=match decide (bi y2)with|true=>y5|false=>none;match(y.2.length:Int)==0 with|true=>some [RV.d y2Y (false,[]),RV.d y2Y (false,[]),RV.d axf 6]|false=>(match decide (zE x.2 y.2)with|true=>cp (match decide (bi y1)with|true=>cp (match decide (bi y2)with|true=>dup (.b .l .l) y5|false=>none) (dup (.b (.b .l .l) (.b .l .l)) y6)|false=>none) (dup (.b .l .l) (cp (match decide (bi y1)with|true=>dup (.b .l .l) y6|false=>none) (match decide (bi y1)with|true=>y6|false=>none)))|false=>none)
theorem ajL(x y:Bool×List Int):RS aie 214 [.d y2Y x,.d y2Y y] (NP x y):=rsX
def YG:NT:=[((103,6),{keep:=[4,5,6],pure_:=[(5,.int .u32),(6,.int .u32)],hl:=3}),((103,29),{keep:=[4,9,10],hl:=3})]
def r9:Ctx:=CX GV YG
def qt(x y:Bool×List Int)(s5 s6:List Int):Cfg:=⟨103,[.blk 0,.seq 17],[(4,.box 2 0),(5,.d axe s5),(6,.d axe s6)],[.box 33 [SB x.1,.d axe x.2],.box 33 [SB y.1,.d axe y.2],.box 33 [SB false,.nil]],0,[]⟩
def mp(x y:Bool×List Int)(s9 s10:Int):Cfg:=⟨103,[.blk 2,.seq 38],[(4,.box 2 0),(9,.d (.int .u64) s9),(10,.d (.int .u64) s10)],[.box 33 [SB x.1,.d axe x.2],.box 33 [SB y.1,.d axe y.2],.box 33 [SB false,.nil]],0,[]⟩
def aiV(x y:Bool×List Int)(k:KT):Option (List RV):=k 6 (qt x y x.2 y.2)
theorem ajp(x y:Bool×List Int):RS r9 103 [.d y2Y x,.d y2Y y] (aiV x y):=rsX
def nh(x y:Bool×List Int)(s5 s6:List Int)(k:KT):Option (List RV):=match decide ((s6.length:Int)>0)with|true=>(match decide ((s5.length:Int)>2)with|true=>(match decide (zE s5 s6)with|true=>k 6 (qt x y s6 (ai (val s5%val s6).toNat))|false=>none)|false=>(match decide ((s6.length:Int)>2)with|true=>(match decide (zE s5 s6)with|true=>k 6 (qt x y s6 (ai (val s5%val s6).toNat))|false=>none)|false=>(match(s6.length:Int)==0 with|true=>(match decide (bi s5)with|true=>some [RV.d y2Y (ak (cf false (val s5)))]|false=>none)|false=>(match decide (pg s5)with|true=>(match decide (pg s6)with|true=>k 29 (mp x y (val s5) (val s6))|false=>none)|false=>none))))|false=>(match(s6.length:Int)==0 with|true=>(match decide (bi s5)with|true=>some [RV.d y2Y (ak (cf false (val s5)))]|false=>none)|false=>(match decide (pg s5)with|true=>(match decide (pg s6)with|true=>k 29 (mp x y (val s5) (val s6))|false=>none)|false=>none))
theorem rK(x y:Bool×List Int)(s5 s6:List Int):RL r9 6 (qt x y s5 s6) (nh x y s5 s6):=rlX
def pq(x y:Bool×List Int)(s9 s10:Int)(k:KT):Option (List RV):=match decide (s10>0)with|true=>(match decide (s10=(0:Int))with|true=>none|false=>k 29 (mp x y s10 (Int.tmod s9 s10)))|false=>(match decide (fN s9)with|true=>(match decide (bi (ai s9.toNat))with|true=>some [RV.d y2Y (ak (cf false (val (ai s9.toNat))))]|false=>none)|false=>none)
theorem vI(x y:Bool×List Int)(s9 s10:Int):RL r9 29 (mp x y s9 s10) (pq x y s9 s10):=rlX
theorem N8(x y:Bool×List Int)(h:eH x y):Con Tryz.prog 214 [.d y2Y x,.d y2Y y] [.d y2Y (ak (ah x/ah y)),.d y2Y (ak (ah x%ah y)),.d axf 0]:=by
 refine aP zh (ajL _ _ ⟨0,?_⟩)
 obtain⟨hx,hy,hp⟩:=h
 obtain⟨x0,x1,x2⟩:=cA hx
 obtain⟨y0,y1,y2⟩:=cA hy
 have sx:=hx.2.2
 have sy:=hy.2.2
 have ey:y.1=false:=by
  cases e:y.1
  ·rfl
  ·rw[bS,e]at hp
   simp only[cf,cond_true]at hp
   omega
 have dy:ah y=val y.2:=by rw[bS,ey];rfl
 rw[dy]at hp
 have hne:y.2≠[]:=fun e=>by rw[y2]at e;omega
 have hprt:zE x.2 y.2:=⟨⟨hx.1,sx⟩,⟨hy.1,sy⟩,hne⟩
 have hylen:=auR.2 hne
 have r0:=avi (val x.2) (show val y.2≠0 by omega)
 have r1:=auL (val x.2) hp
 have q0:0≤val x.2/val y.2:=avd x0 y0
 have q1:val x.2/val y.2≤val x.2:=avW _ x0
 have vx:=bZ hx.1.1
 have vy:=bZ hy.1.1
 have mx:=c7 sx
 have my:=c7 sy
 have szq:szI (val x.2/val y.2)≤1000000:=eE (by have:=b8 1000000;omega) (by omega)
 have szr:szI (val x.2%val y.2)≤1000000:=eE (by have:=b8 1000000;omega) (by omega)
 have lq:(ai (val x.2/val y.2).toNat).length≤1000000:=cB q0 (by omega)
 have lr:(ai (val x.2%val y.2).toNat).length≤1000000:=cB r0 (by omega)
 unfold NP
 simp only[aK]
 rw[show((y.2.length:Int)==0)=false by simp;omega,dT hprt,dT (cD (n:=(val x.2/val y.2).toNat) (by omega)),dT (cD (n:=(val x.2%val y.2).toNat) (by omega)),dT (show aY 1 by decide),bV q0,bV r0,
  dT (show okI (ak (cf (!(x.1==y.1)) (val x.2/val y.2)))∧okI (ak (1:Int)) from⟨bu (by rw[Au];exact szq),m6⟩),dT (show okI (ak (cf x.1 (val x.2%val y.2)))∧okI y from⟨bu (by rw[Au];exact szr),hy⟩)]
 simp only[dec_enc,dy,ao]
 rw[bS x,ey]
 have hlen:(((ai (val x.2%val y.2).toNat).length:Int)>0)↔0<val x.2%val y.2:=by
  constructor
  ·intro hl
   rcases auC 0 (val x.2%val y.2)with h|h
   ·exact h
   ·rw[show(val x.2%val y.2).toNat=0 by omega,eD]at hl
    simp at hl
  ·intro hl
   have:ai (val x.2%val y.2).toNat≠[]:=fun e=>by rw[fU]at e;omega
   have:=auR.2 this
   omega
 obtain⟨n1,n2⟩:=HP (a:=val x.2) (b:=val y.2) x0 hp
 rcases auC 0 (val x.2%val y.2)with hr|hr
 ·rw[dT (hlen.2 hr)]
  cases x.1
  ·rfl
  ·obtain⟨e1,e2⟩:=n2 hr
   simp only[cf,cond_true,Bool.not_false,show((true==false):Bool)=false from rfl]
   rw[e1,e2]
 ·rw[dF (fun h'=>by have:=hlen.1 h';omega)]
  dsimp only
  have e0:val x.2%val y.2=0:=by omega
  cases x.1
  ·simp only[cf,cond_false,show((false==false):Bool)=true from rfl,Bool.not_true]
  ·obtain⟨e1,e2⟩:=n1 e0
   simp only[cf,cond_true,Bool.not_false,show((true==false):Bool)=false from rfl]
   rw[e1,e2,e0]
   rfl
theorem LZ(x y:BI)(B:Nat)(hB:(B:Int)<18446744073709551616):∀(v u:Nat),u≤B→v≤B→r9.RunsE 29 (mp x y (u:Int) (v:Int)) [.d y2Y (ak ((Nat.gcd u v:Nat):Int))]:=by
 intro v
 induction v using Nat.strongRecOn with
 |ind v ih=>
  intro u hu hv
  rcases auQ v with h0|h0
  ·refine vI _ _ _ _ ⟨0,fun n _=>?_⟩
   have hp:fN (u:Int):=⟨by omega,by omega⟩
   have hl:(ai u).length≤3:=c8 (aws (show(u:Int)<18446744073709551616 by omega) (by decide))
   unfold pq
   rw[dF (show ¬(v:Int)>0 by omega),dT hp,avP,dT (cD (n:=u) (by omega)),bL,show Nat.gcd u v=u by rw[h0];exact Nat.gcd_zero_right u]
   rfl
  ·obtain⟨n0,hn⟩:=ih (u%v) (awP _ h0) v hv (aur (Nat.le_of_lt (awP _ h0)) hv)
   refine vI _ _ _ _ ⟨n0,fun n hn'=>?_⟩
   unfold pq
   rw[dT (show(v:Int)>0 by omega),dF (show ¬(v:Int)=0 by omega),ic (by omega)]
   dsimp only
   rw[show((u:Int)%(v:Int))=((u%v:Nat):Int) by simp,av6 u v,Nat.gcd_rec v u,av6]
   exact hn n hn'
theorem Iu{u:Nat}(h:(ai u).length≤2):(u:Int)<1000000000000000000:=by
 have h1:=bZ (b9 u)
 rw[bL]at h1
 have h2:=c7 h
 have:pw 2=1000000000000000000:=by decide
 omega
theorem KY(x y:BI):∀(v u:Nat),(ai u).length≤1000000→(ai v).length≤1000000→
  r9.RunsE 6 (qt x y (ai u) (ai v)) [.d y2Y (ak ((Nat.gcd u v:Nat):Int))]:=by
 intro v
 induction v using Nat.strongRecOn with
 |ind v ih=>
  intro u hu hv
  rcases auQ v with h0|h0
  ·refine rK _ _ _ _ ⟨0,fun n _=>?_⟩
   unfold nh
   rw[h0,Nat.gcd_zero_right,dF (show ¬((ai 0).length:Int)>0 by decide),show(((ai 0).length:Int)==0)=true by decide]
   dsimp only
   rw[dT (cD (n:=u) (by omega)),bL]
   rfl
  ·have hne:ai v≠[]:=fun e=>by rw[fU]at e;omega
   have hl:=auR.2 hne
   have hm:=awP u h0
   have hms:(ai (u%v)).length≤1000000:=c8 (by
    have:=bZ (b9 v)
    rw[bL]at this
    have:=c7 hv
    omega)
   have hz:(((ai v).length:Int)==0)=false:=by simp;omega
   have hprt:zE (ai u) (ai v):=⟨⟨dK _,hu⟩,⟨dK _,hv⟩,hne⟩
   have hmod:(val (ai u)%val (ai v)).toNat=u%v:=by rw[bL,bL];omega
   by_cases hsm:(ai u).length≤2∧(ai v).length≤2
   ·have lu:=Iu hsm.1
    have lv:=Iu hsm.2
    obtain⟨n0,hn⟩:=LZ x y 1000000000000000000 (by decide) v u (by omega) (by omega)
    refine rK _ _ _ _ ⟨n0,fun n hn'=>?_⟩
    unfold nh
    rw[dT (show((ai v).length:Int)>0 by omega),dF (show ¬((ai u).length:Int)>2 by omega),dF (show ¬((ai v).length:Int)>2 by omega),hz,dT (show pg (ai u) from⟨cD (by omega),by rw[bL];omega⟩),dT (show pg (ai v) from⟨cD (by omega),by rw[bL];omega⟩),bL,bL]
    exact hn n hn'
   ·obtain⟨n0,hn⟩:=ih (u%v) hm v hv hms
    refine rK _ _ _ _ ⟨n0,fun n hn'=>?_⟩
    have:=hn n hn'
    rw[show Nat.gcd v (u%v)=Nat.gcd u v by rw[av6 u v,Nat.gcd_rec v u,av6]]at this
    unfold nh
    rw[dT (show((ai v).length:Int)>0 by omega),dT hprt,hmod]
    by_cases h2:(ai u).length≤2
    ·rw[dF (show ¬((ai u).length:Int)>2 by omega),dT (show((ai v).length:Int)>2 by omega)]
     exact this
    ·rw[dT (show((ai u).length:Int)>2 by omega)]
     exact this
theorem EM(x y:Bool×List Int)(h:okI x∧okI y):Con Tryz.prog 103 [.d y2Y x,.d y2Y y] [.d y2Y (ak ((Int.gcd (ah x) (ah y):Nat):Int))]:=by
 refine aP zh (show r9.Res _ _ _ from ?_)
 obtain⟨hx,hy⟩:=h
 obtain⟨x0,_,_⟩:=cA hx
 obtain⟨y0,_,_⟩:=cA hy
 have ex:((ah x).natAbs:Int)=val x.2:=by rw[bS];unfold cf;cases x.1<;>simp<;>omega
 have ey:((ah y).natAbs:Int)=val y.2:=by rw[bS];unfold cf;cases y.1<;>simp<;>omega
 have cx:=l7 hx.1
 have cy:=l7 hy.1
 rw[show(val x.2).toNat=(ah x).natAbs by omega]at cx
 rw[show(val y.2).toNat=(ah y).natAbs by omega]at cy
 obtain⟨n1,h1⟩:=KY x y (ah y).natAbs (ah x).natAbs (by rw[←cx];exact hx.2.2) (by rw[←cy];exact hy.2.2)
 rw[←cx,←cy]at h1
 exact ajp _ _ ⟨n1,h1 n1 (auj _)⟩
section
abbrev tI:Ty:=.st (.pair .bool axe)
abbrev tR:Ty:=.st (.pair tI tI)
abbrev tV:Ty:=.st (.pair tR tR)
abbrev tO:Ty:=.st (.pair tR (.pair tR tR))
abbrev tP:Ty:=.st (.pair tR (.pair tR (.pair tR (.pair tR tR))))
abbrev tQ:Ty:=.st (.pair tR (.pair tR (.pair tR (.pair tR (.pair tR tR)))))
abbrev tG:Ty:=.st (.pair axf axf)
abbrev BV:=BR×BR
abbrev BO3:=BR×BR×BR
abbrev BP:=BR×BR×BR×BR×BR
abbrev BQ:=BR×BR×BR×BR×BR×BR
def hid{α:Type}(x:α):α:=Classical.choose (⟨x,rfl⟩:∃y,y=x)
theorem aj{α:Type}(x:α):hid x=x:=avk (⟨x,rfl⟩:∃y,y=x)
class Cod (α:Type) (A:outParam Type) where
 enc:α→A
 dec:A→α
 bd:Nat→α→Prop
 ok:Nat→A→Prop
 okD:∀k x,Decidable (ok k x)
 mono:∀j k x,j≤k→bd j x→bd k x
 dec_enc:∀x,dec (enc x)=x
 ok_enc:∀k x,k≤480000→bd k x→ok k (enc x)
 ok_dec:∀k x,ok k x→x=enc (dec x)∧bd k (dec x)
def enc{α A:Type}[Cod α A](x:α):A:=Cod.enc x
def dec{α A:Type}[Cod α A](x:A):α:=Cod.dec x
def ok(α:Type){A:Type}[Cod α A](k:Nat)(x:A):Prop:=Cod.ok (α:=α) k x
instance (α A:Type) [Cod α A] (k:Nat) (x:A):Decidable (ok α k x):=Cod.okD k x
theorem am{α A:Type}[Cod α A](x:α):dec (enc x)=x:=Cod.dec_enc x
class Bd {α A:Type} [Cod α A] (x:α) (k:outParam Nat):Prop where le:Cod.bd k x
theorem aS{α A:Type}[Cod α A]{k:Nat}{x:A}(h:ok α k x):∃v:α,x=enc v∧Bd v k:=⟨_,(Cod.ok_dec k x h).1,⟨(Cod.ok_dec k x h).2⟩⟩
theorem okd{α A:Type}[Cod α A]{x:α}{j k:Nat}[h:Bd x j](hj:j≤k)(hk:k≤480000):decide (ok α k (enc x))=true:=
 at7 (Cod.ok_enc k x hk (Cod.mono j k x hj h.le))
instance ata:Cod Rat BR where
 enc:=ag
 dec:=ae
 bd:=bdR
 ok k x:=okR x∧x.1.2.length≤k∧x.2.2.length≤k
 okD _ _:=instDecidableAnd
 mono _ _ _ hk h:=bT h hk
 dec_enc:=az
 ok_enc k _ hk h:=⟨nO h hk,h.1,h.2⟩
 ok_dec k x h:=by
  obtain⟨h1,h2,h3⟩:=h
  refine⟨XN h1,?_⟩
  obtain⟨e1,e2⟩:=cL h1
  unfold bdR szI
  rw[e1,e2]
  rw[ge h1.1]at h2
  rw[ge h1.2.1]at h3
  exact⟨h2,h3⟩
instance as7:Cod Int Int where
 enc x:=x
 dec x:=x
 bd _ x:=aY x
 ok _ x:=aY x
 okD _ _:=inferInstance
 mono _ _ _ _ h:=h
 dec_enc _:=rfl
 ok_enc _ _ _ h:=h
 ok_dec _ _ h:=⟨rfl,h⟩
instance asq:Cod Bool Bool where
 enc x:=x
 dec x:=x
 bd _ _:=True
 ok _ _:=True
 okD _ _:=inferInstance
 mono _ _ _ _ h:=h
 dec_enc _:=rfl
 ok_enc _ _ _ h:=h
 ok_dec _ _ h:=⟨rfl,h⟩
instance asp (α β A B:Type) [Cod α A] [Cod β B]:Cod (α×β) (A×B) where
 enc x:=(enc x.1,enc x.2)
 dec x:=(dec x.1,dec x.2)
 bd k x:=Cod.bd k x.1∧Cod.bd k x.2
 ok k x:=ok α k x.1∧ok β k x.2
 okD _ _:=instDecidableAnd
 mono _ _ _ hk h:=⟨Cod.mono _ _ _ hk h.1,Cod.mono _ _ _ hk h.2⟩
 dec_enc x:=by rw[am,am]
 ok_enc k _ hk h:=⟨Cod.ok_enc _ _ hk h.1,Cod.ok_enc _ _ hk h.2⟩
 ok_dec k x h:=⟨awt (Cod.ok_dec k x.1 h.1).1 (Cod.ok_dec k x.2 h.2).1,(Cod.ok_dec k x.1 h.1).2,(Cod.ok_dec k x.2 h.2).2⟩
theorem nr{α:Type}{a b:α}(h:a=b):a=b:=h
theorem aE{α β A B:Type}[Cod α A][Cod β B](x:α×β):(enc x).1=enc x.1:=nr rfl
theorem aF{α β A B:Type}[Cod α A][Cod β B](x:α×β):(enc x).2=enc x.2:=nr rfl
theorem aT{α β A B:Type}[Cod α A][Cod β B](x:α)(y:β):enc (x,y)=(enc x,enc y):=nr rfl
theorem aB(q:Rat):enc q=ag q:=nr rfl
theorem aG(x:BR):dec x=ae x:=nr rfl
theorem aH(q:Int):enc q=q:=nr rfl
theorem aA(q:Bool):enc q=q:=nr rfl
theorem aW{q:Rat}{j:Nat}[h:Bd q j](hj:j≤480000):decide (okR (ag q))=true:=at7 (nO h.le hj)
def mx(j k:Nat):Nat:=bif decide (j≤k)then k else j
theorem BX(j k:Nat):j≤mx j k:=by
 unfold mx
 by_cases h:j≤k
 ·rw[at7 h];exact h
 ·rw[at9 h];exact auj _
theorem BF(j k:Nat):k≤mx j k:=by
 unfold mx
 by_cases h:j≤k
 ·rw[at7 h];exact auj _
 ·rw[at9 h];show k≤j;omega
theorem aC{q:Rat}{j k:Nat}[h:Bd q j](hj:j≤k)(hk:k≤480000):decide (ok Rat k (ag q))=true:=okd (x:=q) hj hk
section
variable {α β A B:Type} [Cod α A] [Cod β B]
instance atn {x:α×β} {k:Nat} [h:Bd x k]:Bd x.1 k:=⟨h.le.1⟩
instance asA {x:α×β} {k:Nat} [h:Bd x k]:Bd x.2 k:=⟨h.le.2⟩
instance atK {x:α} {y:β} {j k:Nat} [h:Bd x j] [h':Bd y k]:Bd (x,y) (mx j k):=⟨Cod.mono _ _ _ (BX _ _) h.le,Cod.mono _ _ _ (BF _ _) h'.le⟩
instance ask {b:Bool} {x y:α} {j k:Nat} [h:Bd x j] [h':Bd y k]:Bd (bif b then x else y) (mx j k):=by
 refine⟨?_⟩
 cases b
 ·exact Cod.mono _ _ _ (BF _ _) h'.le
 ·exact Cod.mono _ _ _ (BX _ _) h.le
theorem Bd.mono{x:α}{j k:Nat}(h:Bd x j)(hk:j≤k):Bd x k:=⟨Cod.mono _ _ _ hk h.le⟩
end
section
variable {a b:Rat} {j k:Nat}
instance atw [h:Bd a j] [h':Bd b k]:Bd (a+b) (j+k+1):=⟨zX h.le h'.le⟩
instance asP [h:Bd a j] [h':Bd b k]:Bd (a-b) (j+k+1):=⟨ZZ h.le h'.le⟩
instance atp [h:Bd a j] [h':Bd b k]:Bd (a*b) (j+k):=⟨AW h.le h'.le⟩
instance asX [h:Bd a j]:Bd (-a) j:=⟨tY h.le⟩
theorem lE(h:bdR k b):1≤k:=by
 have h1:=h.2
 have h2:=Gu (b.den:Int)
 have h3:=b.den_pos
 rcases auQ k with e|e
 ·subst e
  have:szI (b.den:Int)=0:=by omega
  rw[this]at h2
  have:pw 0=1:=rfl
  omega
 ·exact e
instance atk [h:Bd a j] [h':Bd b k]:Bd (a/b) (j+k):=by
 refine⟨?_⟩
 by_cases h0:b=0
 ·subst h0
  rw[awN,Rat.inv_zero,Rat.mul_zero]
  have:=lE h'.le
  exact bT (j:=1) ⟨by decide+kernel,by decide+kernel⟩ (by omega)
 ·exact ab4 h.le h'.le h0
end
theorem cZ{n:Int}(h:aY n):Bd (n:Rat) 3:=by
 refine⟨?_⟩
 show bdR 3 (n:Rat)
 refine⟨?_,?_⟩
 ·rw[Rat.num_intCast]
  have:pw 3=1000000000000000000000000000:=by decide
  exact eE (by have:=h.1;omega) (by have:=h.2;omega)
 ·rw[Rat.den_intCast]
  exact eE (by decide) (by decide)
instance lN:Bd (0:Rat) 1:=⟨⟨by decide+kernel,by decide+kernel⟩⟩
instance as1:Bd (1:Rat) 1:=⟨⟨by decide+kernel,by decide+kernel⟩⟩
instance atd:Bd (2:Rat) 1:=⟨⟨by decide+kernel,by decide+kernel⟩⟩
theorem eo{x:BR}(h:okR x):∃q:Rat,x=ag q∧Bd q 480000:=⟨ae x,XN h,⟨Ae h⟩⟩
def fL(a b:Rat×Rat):Rat×Rat:=(b.1-a.1,b.2-a.2)
def df(a b:Rat×Rat):Rat:=a.1*b.1+a.2*b.2
instance asT {a b:Rat×Rat} {j k:Nat} [Bd a j] [Bd b k]:Bd (fL a b) (k+j+1):=
 ⟨(inferInstance:Bd (b.1-a.1) (k+j+1)).le,(inferInstance:Bd (b.2-a.2) (k+j+1)).le⟩
instance asC {a b:Rat×Rat} {j k:Nat} [Bd a j] [Bd b k]:Bd (df a b) ((j+k)+(j+k)+1):=inferInstanceAs (Bd (a.1*b.1+a.2*b.2) _)
end
def Je:aN:=spN true false [y2Y] (fun x=>decide (okI x.1)) (fun x=>[RV.d axf (ck (ah x.1) 0)])
theorem Mc:SpK 101 Je:=spX fun x h=>Dw x.1 (at6 h)
def z7:aN:=spN true false [y2Y,y2Y] (fun x=>decide (okI x.1∧okI x.2.1)) (fun x=>[RV.d axf (ck (ah x.1) (ah x.2.1))])
theorem yl:SpK 192 z7:=spX fun x h=>V4 x.1 x.2.1 (at6 h)
def HM:aN:=spN false false [y2Y,y2Y] (fun x=>decide (okI x.1∧okI x.2.1)) (fun x=>[RV.d y2Y (ak (ah x.1*ah x.2.1))])
theorem Mi:SpK 193 HM:=spX fun x h=>EB x.1 x.2.1 (at6 h)
def Ax:aN:=spN false false [y2Y,y2Y] (fun x=>decide (eH x.1 x.2.1)) (fun x=>[RV.d y2Y (ak (ah x.1/ah x.2.1)),RV.d y2Y (ak (ah x.1%ah x.2.1)),RV.d axf 0])
theorem xJ:SpK 214 Ax:=spX fun x h=>N8 x.1 x.2.1 (at6 h)
def JU:aN:=spN false false [y2Y,y2Y] (fun x=>decide (okI x.1∧okI x.2.1)) (fun x=>[RV.d y2Y (ak ((Int.gcd (ah x.1) (ah x.2.1):Nat):Int))])
theorem KO:SpK 103 JU:=spX fun x h=>EM x.1 x.2.1 (at6 h)
def FW:Env:=[(134,ug),(212,qe),(211,Aw),(101,Je),(192,z7),(193,HM),(214,Ax),(103,JU)]
theorem zq:EnvAll Tryz.prog FW:=⟨qX,m7,yZ,Mc,yl,Mi,xJ,KO,trivial⟩
def akz:Ctx:=CX FW []
def Rc(_k:KT):Option (List RV):=match decide (aY (1:Int))with|true=>some [RV.d y2Y (ak (1:Int))]|false=>none
theorem aiB:RS akz 104 [] (Rc):=rsX
theorem DN:Con Tryz.prog 104 [] [.d y2Y (ak 1)]:=by
 refine aP zq (aiB ⟨0,?_⟩)
 unfold Rc
 rw[dT (show aY 1 by decide)]
def IJ:aN:=spN false false [] (fun _=>true) (fun _=>[RV.d y2Y (ak 1)])
theorem KM:SpK 104 IJ:=spX fun _ _=>DN
def Fs:Env:=(104,IJ)::FW
theorem zm:EnvAll Tryz.prog Fs:=⟨KM,zq⟩
def apC:Ctx:=CX Fs []
def af5(x y:Bool×List Int)(_k:KT):Option (List RV):=match decide (okI y)with|true=>(match decide ((ck (ah y) 0)<0)with|true=>(match decide (okI x)with|true=>(match decide (okI y)with|true=>(match decide (okI (ak (-ah x))∧okI (ak (-ah y)))with|true=>(match decide (eH (ak (-ah x)) (ak ((Int.gcd (ah (ak (-ah x))) (ah (ak (-ah y))):Nat):Int)))with|true=>(match decide (eH (ak (-ah y)) (ak ((Int.gcd (ah (ak (-ah x))) (ah (ak (-ah y))):Nat):Int)))with|true=>some [RV.d (.st (.pair y2Y y2Y)) ((ak (ah (ak (-ah x))/ah (ak ((Int.gcd (ah (ak (-ah x))) (ah (ak (-ah y))):Nat):Int)))),(ak (ah (ak (-ah y))/ah (ak ((Int.gcd (ah (ak (-ah x))) (ah (ak (-ah y))):Nat):Int)))))]|false=>none)|false=>none)|false=>none)|false=>none)|false=>none)|false=>(match decide (okI x∧okI y)with|true=>(match decide (eH x (ak ((Int.gcd (ah x) (ah y):Nat):Int)))with|true=>(match decide (eH y (ak ((Int.gcd (ah x) (ah y):Nat):Int)))with|true=>some [RV.d (.st (.pair y2Y y2Y)) ((ak (ah x/ah (ak ((Int.gcd (ah x) (ah y):Nat):Int)))),(ak (ah y/ah (ak ((Int.gcd (ah x) (ah y):Nat):Int)))))]|false=>none)|false=>none)|false=>none))|false=>none
theorem apq(x y:Bool×List Int):RS apC 135 [.d y2Y x,.d y2Y y] (af5 x y):=rsX
theorem Kr(x y:Bool×List Int)(h:gi x y):Con Tryz.prog 135 [.d y2Y x,.d y2Y y] [.d (.st (.pair y2Y y2Y)) (eg x y)]:=by
 refine aP zm (apq _ _ ⟨0,?_⟩)
 obtain⟨hx,hy,hne⟩:=h
 have sx:=gJ hx
 have sy:=gJ hy
 have hgp:0<Int.gcd (ah x) (ah y):=Nat.pos_of_ne_zero fun e=>hne (Int.gcd_eq_zero_iff.1 e).2
 have hgs:=W9 (a:=ah x) hne sy
 have og:okI (ak ((Int.gcd (ah x) (ah y):Nat):Int)):=bu hgs
 have o1:okI (ak (-ah x)):=bu (by rw[gP];exact sx)
 have o2:okI (ak (-ah y)):=bu (by rw[gP];exact sy)
 have ig:∀z:BI,okI z→eH z (ak ((Int.gcd (ah x) (ah y):Nat):Int)):=fun z hz=>⟨hz,og,by rw[dec_enc];omega⟩
 unfold af5 eg
 rw[dT hy]
 dsimp only
 rcases avU hne with hn|hn
 ·rw[cQ hn,dT (show(-1:Int)<0 by decide),dT hx]
  simp only[dec_enc,Int.gcd_neg,Int.neg_gcd]
  rw[dT (show okI (ak (-ah x))∧okI (ak (-ah y)) from⟨o1,o2⟩),dT (ig _ o1),dT (ig _ o2),←Rat.neg_divInt_neg,lw (by omega),Int.gcd_neg,Int.neg_gcd]
 ·rw[cH hn,dF (show ¬(1:Int)<0 by decide)]
  simp only[dec_enc]
  rw[dT (show okI x∧okI y from⟨hx,hy⟩),dT (ig _ hx),dT (ig _ hy),lw hn]
def NO:aN:=spN false false [y2Y,y2Y] (fun x=>decide (gi x.1 x.2.1)) (fun x=>[RV.d (.st (.pair y2Y y2Y)) (eg x.1 x.2.1)])
theorem Ub:SpK 135 NO:=spX fun x h=>Kr x.1 x.2.1 (at6 h)
def lH:Env:=(135,NO)::Fs
theorem fP:EnvAll Tryz.prog lH:=⟨Ub,zm⟩
def akI:Ctx:=CX lH []
def NS(a:(Bool×List Int)×Bool×List Int)(_k:KT):Option (List RV):=match decide (okI a.1)with|true=>some [RV.d axf (ck (ah a.1) 0)]|false=>none
theorem akJ(a:(Bool×List Int)×Bool×List Int):RS akI 78 [.d (.st (.pair y2Y y2Y)) a] (NS a):=rsX
def aj0:Ctx:=CX lH []
def QI(n:Int)(_k:KT):Option (List RV):=match decide (aY n)with|true=>some [RV.d (.st (.pair y2Y y2Y)) ((ak n),(ak 1))]|false=>none
theorem ahC(n:Int):RS aj0 50 [SI n] (QI n):=rsX
def ai4:Ctx:=CX lH []
def P5(a b:(Bool×List Int)×Bool×List Int)(_k:KT):Option (List RV):=match decide (okI a.1∧okI b.2)with|true=>(match decide (okI b.1∧okI a.2)with|true=>(match decide (okI (ak (ah a.1*ah b.2))∧okI (ak (ah b.1*ah a.2)))with|true=>some [RV.d axf (ck (ah (ak (ah a.1*ah b.2))) (ah (ak (ah b.1*ah a.2))))]|false=>none)|false=>none)|false=>none
theorem aiy(a b:(Bool×List Int)×Bool×List Int):RS ai4 107 [.d (.st (.pair y2Y y2Y)) a,.d (.st (.pair y2Y y2Y)) b] (P5 a b):=rsX
def akn:Ctx:=CX lH []
def Vf(a b:(Bool×List Int)×Bool×List Int)(_k:KT):Option (List RV):=match decide (okI a.1∧okI b.2)with|true=>(match decide (okI b.1∧okI a.2)with|true=>(match decide (okI (ak (ah a.1*ah b.2))∧okI (ak (ah b.1*ah a.2)))with|true=>(match decide (okI a.2∧okI b.2)with|true=>(match decide (gi (ak (ah (ak (ah a.1*ah b.2))+ah (ak (ah b.1*ah a.2)))) (ak (ah a.2*ah b.2)))with|true=>some [RV.d (.st (.pair y2Y y2Y)) (((eg (ak (ah (ak (ah a.1*ah b.2))+ah (ak (ah b.1*ah a.2)))) (ak (ah a.2*ah b.2))).1),((eg (ak (ah (ak (ah a.1*ah b.2))+ah (ak (ah b.1*ah a.2)))) (ak (ah a.2*ah b.2))).2))]|false=>none)|false=>none)|false=>none)|false=>none)|false=>none
theorem ajd(a b:(Bool×List Int)×Bool×List Int):RS akn 127 [.d (.st (.pair y2Y y2Y)) a,.d (.st (.pair y2Y y2Y)) b] (Vf a b):=rsX
def akM:Ctx:=CX lH []
def Oc(a b:(Bool×List Int)×Bool×List Int)(_k:KT):Option (List RV):=match decide (okI a.1∧okI b.1)with|true=>(match decide (okI a.2∧okI b.2)with|true=>(match decide (gi (ak (ah a.1*ah b.1)) (ak (ah a.2*ah b.2)))with|true=>some [RV.d (.st (.pair y2Y y2Y)) (((eg (ak (ah a.1*ah b.1)) (ak (ah a.2*ah b.2))).1),((eg (ak (ah a.1*ah b.1)) (ak (ah a.2*ah b.2))).2))]|false=>none)|false=>none)|false=>none
theorem agX(a b:(Bool×List Int)×Bool×List Int):RS akM 132 [.d (.st (.pair y2Y y2Y)) a,.d (.st (.pair y2Y y2Y)) b] (Oc a b):=rsX
def ahQ:Ctx:=CX lH []
def Q7(a:(Bool×List Int)×Bool×List Int)(_k:KT):Option (List RV):=match decide (okI a.1)with|true=>some [RV.d (.st (.pair y2Y y2Y)) ((ak (-ah a.1)),a.2)]|false=>none
theorem ajI(a:(Bool×List Int)×Bool×List Int):RS ahQ 124 [.d (.st (.pair y2Y y2Y)) a] (Q7 a):=rsX
def agD:Ctx:=CX lH []
def Se(x y:Bool×List Int)(_k:KT):Option (List RV):=match decide (okI y)with|true=>(match(ck (ah y) 0)==0 with|true=>some [RV.d (.st (.pair y2Y y2Y)) ((false,[]),(false,[])),RV.d axf 6]|false=>(match decide (gi x y)with|true=>some [RV.d (.st (.pair y2Y y2Y)) (((eg x y).1),((eg x y).2)),RV.d axf 0]|false=>none))|false=>none
theorem ajF(x y:Bool×List Int):RS agD 258 [.d y2Y x,.d y2Y y] (Se x y):=rsX
theorem Rp(x y:Bool×List Int)(h:gi x y):Con Tryz.prog 258 [.d y2Y x,.d y2Y y] [.d (.st (.pair y2Y y2Y)) (eg x y),.d axf 0]:=by
 refine aP fP (ajF _ _ ⟨0,?_⟩)
 obtain⟨hx,hy,hne⟩:=h
 have hnz:(ck (ah y) 0==0)=false:=by
  rcases avU hne with h|h
  ·rw[cQ h];rfl
  ·rw[cH h];rfl
 unfold Se
 rw[dT hy,hnz,dT (show gi x y from⟨hx,hy,hne⟩)]
def IB:aN:=spN false false [y2Y,y2Y] (fun x=>decide (gi x.1 x.2.1)) (fun x=>[RV.d (.st (.pair y2Y y2Y)) (eg x.1 x.2.1),RV.d axf 0])
theorem Mo:SpK 258 IB:=spX fun x h=>Rp x.1 x.2.1 (at6 h)
def Am:Env:=(258,IB)::lH
theorem wI:EnvAll Tryz.prog Am:=⟨Mo,fP⟩
def ajE:Ctx:=CX Am []
def Pw(a b:(Bool×List Int)×Bool×List Int)(_k:KT):Option (List RV):=match decide (okI a.1∧okI b.2)with|true=>(match decide (okI a.2∧okI b.1)with|true=>(match decide (gi (ak (ah a.1*ah b.2)) (ak (ah a.2*ah b.1)))with|true=>some [RV.d (.st (.pair y2Y y2Y)) (((eg (ak (ah a.1*ah b.2)) (ak (ah a.2*ah b.1))).1),((eg (ak (ah a.1*ah b.2)) (ak (ah a.2*ah b.1))).2)),RV.d axf 0]|false=>none)|false=>none)|false=>none
theorem ahS(a b:(Bool×List Int)×Bool×List Int):RS ajE 217 [.d (.st (.pair y2Y y2Y)) a,.d (.st (.pair y2Y y2Y)) b] (Pw a b):=rsX
theorem RF(a:(Bool×List Int)×Bool×List Int)(h:okR a):Con Tryz.prog 78 [.d (.st (.pair y2Y y2Y)) a] [.d axf (aU (ae a) 0)]:=by
 refine aP fP (akJ _ ⟨0,?_⟩)
 unfold NS
 rw[dT h.1,←qY,(cL h).1]
theorem TV(n:Int)(h:aY n):Con Tryz.prog 50 [.d axf n] [.d (.st (.pair y2Y y2Y)) (ag (n:Rat))]:=by
 refine aP fP (ahC _ ⟨0,?_⟩)
 unfold QI ag
 rw[dT h,Rat.num_intCast,Rat.den_intCast]
 rfl
theorem Oo(a b:(Bool×List Int)×Bool×List Int)(h:okR a∧okR b):Con Tryz.prog 107 [.d (.st (.pair y2Y y2Y)) a,.d (.st (.pair y2Y y2Y)) b] [.d axf (aU (ae a) (ae b))]:=by
 refine aP fP (aiy _ _ ⟨0,?_⟩)
 obtain⟨ha,hb⟩:=h
 obtain⟨a1,a2⟩:=cL ha
 obtain⟨b1,b2⟩:=cL hb
 obtain⟨sa1,sa2⟩:=fx ha
 obtain⟨sb1,sb2⟩:=fx hb
 have h1:=cK sa1 sb2
 have h2:=cK sb1 sa2
 unfold P5
 rw[dT (show okI a.1∧okI b.2 from⟨ha.1,hb.2.1⟩),dT (show okI b.1∧okI a.2 from⟨hb.1,ha.2.1⟩),dT (show okI (ak (ah a.1*ah b.2))∧okI (ak (ah b.1*ah a.2)) from⟨bu (by omega),bu (by omega)⟩),dec_enc,dec_enc,←a1,←a2,←b1,←b2,uE]
theorem Dz(a:(Bool×List Int)×Bool×List Int)(h:okR a):Con Tryz.prog 124 [.d (.st (.pair y2Y y2Y)) a] [.d (.st (.pair y2Y y2Y)) (ag (-ae a))]:=by
 refine aP fP (ajI _ ⟨0,?_⟩)
 obtain⟨a1,a2⟩:=cL h
 unfold Q7
 have e:ag (-ae a)=(ak (-ah a.1),a.2):=by
  unfold ag
  rw[Rat.neg_num,a1,show((-ae a).den:Int)=((ae a).den:Int) from rfl,a2,←ge h.2.1]
 rw[dT h.1,e]
theorem CB(a b:(Bool×List Int)×Bool×List Int)(h:okR a∧okR b):Con Tryz.prog 127 [.d (.st (.pair y2Y y2Y)) a,.d (.st (.pair y2Y y2Y)) b] [.d (.st (.pair y2Y y2Y)) (ag (ae a+ae b))]:=by
 refine aP fP (ajd _ _ ⟨0,?_⟩)
 obtain⟨ha,hb⟩:=h
 obtain⟨a1,a2⟩:=cL ha
 obtain⟨b1,b2⟩:=cL hb
 obtain⟨sa1,sa2⟩:=fx ha
 obtain⟨sb1,sb2⟩:=fx hb
 have pa:=ha.2.2.1
 have pb:=hb.2.2.1
 have h1:=cK sa1 sb2
 have h2:=cK sb1 sa2
 have h3:=cK sa2 sb2
 have h4:=um h1 h2
 have hda:ae a=Rat.divInt (ah a.1) (ah a.2):=by rw[←a1,←a2,ave]
 have hdb:ae b=Rat.divInt (ah b.1) (ah b.2):=by rw[←b1,←b2,ave]
 unfold Vf
 rw[dT (show okI a.1∧okI b.2 from⟨ha.1,hb.2.1⟩),dT (show okI b.1∧okI a.2 from⟨hb.1,ha.2.1⟩),dT (show okI (ak (ah a.1*ah b.2))∧okI (ak (ah b.1*ah a.2)) from⟨bu (by omega),bu (by omega)⟩),dT (show okI a.2∧okI b.2 from⟨ha.2.1,hb.2.1⟩)]
 simp only[dec_enc]
 rw[dT (show gi (ak (ah a.1*ah b.2+ah b.1*ah a.2)) (ak (ah a.2*ah b.2)) from⟨bu (by omega),bu (by omega),by rw[dec_enc];exact awB (by omega) (by omega)⟩)]
 have e:eg (ak (ah a.1*ah b.2+ah b.1*ah a.2)) (ak (ah a.2*ah b.2))=ag (ae a+ae b):=by
  unfold eg
  rw[dec_enc,dec_enc,hda,hdb,Rat.divInt_add_divInt _ _ (by omega) (by omega)]
 rw[e]
theorem Nz(a b:(Bool×List Int)×Bool×List Int)(h:okR a∧okR b):Con Tryz.prog 132 [.d (.st (.pair y2Y y2Y)) a,.d (.st (.pair y2Y y2Y)) b] [.d (.st (.pair y2Y y2Y)) (ag (ae a*ae b))]:=by
 refine aP fP (agX _ _ ⟨0,?_⟩)
 obtain⟨ha,hb⟩:=h
 obtain⟨a1,a2⟩:=cL ha
 obtain⟨b1,b2⟩:=cL hb
 obtain⟨sa1,sa2⟩:=fx ha
 obtain⟨sb1,sb2⟩:=fx hb
 have pa:=ha.2.2.1
 have pb:=hb.2.2.1
 have h1:=cK sa1 sb1
 have h3:=cK sa2 sb2
 have hda:ae a=Rat.divInt (ah a.1) (ah a.2):=by rw[←a1,←a2,ave]
 have hdb:ae b=Rat.divInt (ah b.1) (ah b.2):=by rw[←b1,←b2,ave]
 unfold Oc
 rw[dT (show okI a.1∧okI b.1 from⟨ha.1,hb.1⟩),dT (show okI a.2∧okI b.2 from⟨ha.2.1,hb.2.1⟩),dT (show gi (ak (ah a.1*ah b.1)) (ak (ah a.2*ah b.2)) from⟨bu (by omega),bu (by omega),by rw[dec_enc];exact awB (by omega) (by omega)⟩)]
 have e:eg (ak (ah a.1*ah b.1)) (ak (ah a.2*ah b.2))=ag (ae a*ae b):=by
  unfold eg
  rw[dec_enc,dec_enc,hda,hdb,awC]
 rw[e]
theorem DP(a b:(Bool×List Int)×Bool×List Int)(h:fh a b):Con Tryz.prog 217 [.d (.st (.pair y2Y y2Y)) a,.d (.st (.pair y2Y y2Y)) b] [.d (.st (.pair y2Y y2Y)) (ag (ae a/ae b)),.d axf 0]:=by
 refine aP wI (ahS _ _ ⟨0,?_⟩)
 obtain⟨ha,hb,hne⟩:=h
 obtain⟨a1,a2⟩:=cL ha
 obtain⟨b1,b2⟩:=cL hb
 obtain⟨sa1,sa2⟩:=fx ha
 obtain⟨sb1,sb2⟩:=fx hb
 have pa:=ha.2.2.1
 have h1:=cK sa1 sb2
 have h3:=cK sa2 sb1
 have hda:ae a=Rat.divInt (ah a.1) (ah a.2):=by rw[←a1,←a2,ave]
 have hdb:ae b=Rat.divInt (ah b.1) (ah b.2):=by rw[←b1,←b2,ave]
 have hmz:ah a.2*ah b.1≠0:=awB (by omega) hne
 unfold Pw
 rw[dT (show okI a.1∧okI b.2 from⟨ha.1,hb.2.1⟩),dT (show okI a.2∧okI b.1 from⟨ha.2.1,hb.1⟩)]
 simp only
 rw[dT (show gi (ak (ah a.1*ah b.2)) (ak (ah a.2*ah b.1)) from⟨bu (by omega),bu (by omega),by rw[dec_enc];exact hmz⟩)]
 have e:eg (ak (ah a.1*ah b.2)) (ak (ah a.2*ah b.1))=ag (ae a/ae b):=by
  unfold eg
  rw[dec_enc,dec_enc,hda,hdb,awN,Rat.inv_divInt,awC]
 rw[e]
def IF:aN:=spN false false [(.st (.pair y2Y y2Y)),(.st (.pair y2Y y2Y))] (fun x=>decide (okR x.1∧okR x.2.1)) (fun x=>[RV.d (.st (.pair y2Y y2Y)) (ag (ae x.1+ae x.2.1))])
theorem Ly:SpK 127 IF:=spX fun x h=>CB x.1 x.2.1 (at6 h)
def JO:aN:=spN false false [(.st (.pair y2Y y2Y))] (fun x=>decide (okR x.1)) (fun x=>[RV.d (.st (.pair y2Y y2Y)) (ag (-ae x.1))])
theorem KS:SpK 124 JO:=spX fun x h=>Dz x.1 (at6 h)
def I2:aN:=spN false false [(.st (.pair y2Y y2Y)),(.st (.pair y2Y y2Y))] (fun x=>decide (fh x.1 x.2.1)) (fun x=>[RV.d (.st (.pair y2Y y2Y)) (ag (ae x.1/ae x.2.1)),RV.d axf 0])
theorem KP:SpK 217 I2:=spX fun x h=>DP x.1 x.2.1 (at6 h)
def GR:Env:=(127,IF)::(124,JO)::(217,I2)::Am
theorem zB:EnvAll Tryz.prog GR:=⟨Ly,KS,KP,wI⟩
def agN:Ctx:=CX GR []
def TA(a b:(Bool×List Int)×Bool×List Int)(_k:KT):Option (List RV):=match decide (okR b)with|true=>(match decide (okR a∧okR (ag (-ae b)))with|true=>some [RV.d (.st (.pair y2Y y2Y)) (((ag (ae a+ae (ag (-ae b)))).1),((ag (ae a+ae (ag (-ae b)))).2))]|false=>none)|false=>none
theorem aiw(a b:(Bool×List Int)×Bool×List Int):RS agN 161 [.d (.st (.pair y2Y y2Y)) a,.d (.st (.pair y2Y y2Y)) b] (TA a b):=rsX
def ain:Ctx:=CX GR []
def VA(a b:(Bool×List Int)×Bool×List Int)(_k:KT):Option (List RV):=match decide (fh a b)with|true=>some [RV.d (.st (.pair y2Y y2Y)) (((ag (ae a/ae b)).1),((ag (ae a/ae b)).2))]|false=>none
theorem ajk(a b:(Bool×List Int)×Bool×List Int):RS ain 174 [.d (.st (.pair y2Y y2Y)) a,.d (.st (.pair y2Y y2Y)) b] (VA a b):=rsX
theorem Xx(a b:(Bool×List Int)×Bool×List Int)(h:okR a∧okR b):Con Tryz.prog 161 [.d (.st (.pair y2Y y2Y)) a,.d (.st (.pair y2Y y2Y)) b] [.d (.st (.pair y2Y y2Y)) (ag (ae a-ae b))]:=by
 refine aP zB (aiw _ _ ⟨0,?_⟩)
 obtain⟨ha,hb⟩:=h
 unfold TA
 rw[dT hb,az,awu,dT (show okR a∧okR (ag (-ae b)) from⟨ha,nO (tY (Ae hb)) (auj _)⟩)]
theorem NL(a b:(Bool×List Int)×Bool×List Int)(h:fh a b):Con Tryz.prog 174 [.d (.st (.pair y2Y y2Y)) a,.d (.st (.pair y2Y y2Y)) b] [.d (.st (.pair y2Y y2Y)) (ag (ae a/ae b))]:=by
 refine aP zB (ajk _ _ ⟨0,?_⟩)
 unfold VA
 rw[dT h]
end Go.Proofs.YtlahabkjhgkkjaaGreat
end
