/- The reference's integers: parts. -/
import Derived.Test.YtnkndpoojnflmaaGreatF9
import Derived.Test.YtnkndpoojnflmaaGreatF8
noncomputable section
namespace Go.Proofs.YtnkndpoojnflmaaGreat
open Go.RowKit Go.IntKind
theorem aoq:type_of% @Prod.ext:=@Prod.ext
section
def Dm(a b:List Int):Prop:=(can a∧a.length≤1000000)∧(can b∧b.length≤1000000)∧b≠[]
instance (a b:List Int):Decidable (Dm a b):=by unfold Dm;infer_instance
def Pm:List En:=[enK wP,enK By,enF Cf,enF xp,enK Y1,enK Gc]
def Vi:NT:=[((264,30),{keep:=[8,9,10,11,12,13,14],pure_:=[(11,.int .u32)],hl:=1}),((264,67),{keep:=[8,9,10,11,12,13,14,16,17],pure_:=[(17,.int .u32)],hl:=1}),((264,90),{keep:=[8,11,12,18,19,20],hl:=2})]
def j7:Ctx:=CX (ens Pm) Vi
def kG(a b:List Int)(x1 x2:Int)(s11:List Int)(s14:Int)(r0:List Int):Cfg:=⟨264,[.blk 0,.seq 82],[(8,.d aqu (u32.wrap (u64.wrap (Int.tdiv 1000000000 (u64.wrap ((u64.wrap x1)+1)))))),(9,.d aqs (ah (val b*(u32.wrap (u64.wrap (Int.tdiv 1000000000 (u64.wrap ((u64.wrap x1)+1)))))).toNat)),(10,.d (.int .u64) (u64.wrap x2)),(11,.d aqs s11),(12,.osl 0 1 ((0:Int).toNat) ((((ah (val a*(u32.wrap (u64.wrap (Int.tdiv 1000000000 (u64.wrap ((u64.wrap x1)+1)))))).toNat).length:Int):Int).toNat-(0:Int).toNat)),(13,.d aqs (ah (val a*(u32.wrap (u64.wrap (Int.tdiv 1000000000 (u64.wrap ((u64.wrap x1)+1)))))).toNat)),(14,SI s14)],[.row 225 aqu r0],0,[]⟩
def fj(a b:List Int)(x1 x2:Int)(s11:List Int)(s14:Int)(r0:List Int)(x3 s16:Int)(s17:List Int):Cfg:=⟨264,[.blk 2,.seq 78,.blk 1,.seq 81,.lp 30,.blk 0,.seq 82],[(8,.d aqu (u32.wrap (u64.wrap (Int.tdiv 1000000000 (u64.wrap ((u64.wrap x1)+1)))))),(9,.d aqs (ah (val b*(u32.wrap (u64.wrap (Int.tdiv 1000000000 (u64.wrap ((u64.wrap x1)+1)))))).toNat)),(10,.d (.int .u64) (u64.wrap x2)),(11,.d aqs (ah (val (([x3])++s11)).toNat)),(12,.osl 0 1 ((0:Int).toNat) ((((ah (val a*(u32.wrap (u64.wrap (Int.tdiv 1000000000 (u64.wrap ((u64.wrap x1)+1)))))).toNat).length:Int):Int).toNat-(0:Int).toNat)),(13,.d aqs (ah (val a*(u32.wrap (u64.wrap (Int.tdiv 1000000000 (u64.wrap ((u64.wrap x1)+1)))))).toNat)),(14,SI s14),(16,.d (.int .u64) s16),(17,.d aqs s17)],[.row 225 aqu r0],0,[]⟩
def ug(a:List Int)(x1:Int)(s11 r0:List Int)(s18 s20:Int)(r1:List Int):Cfg:=⟨264,[.blk 4,.seq 105],[(8,.d aqu (u32.wrap (u64.wrap (Int.tdiv 1000000000 (u64.wrap ((u64.wrap x1)+1)))))),(11,.d aqs s11),(12,.osl 0 1 ((0:Int).toNat) ((((ah (val a*(u32.wrap (u64.wrap (Int.tdiv 1000000000 (u64.wrap ((u64.wrap x1)+1)))))).toNat).length:Int):Int).toNat-(0:Int).toNat)),(18,.d (.int .u64) s18),(19,.own 1),(20,SI s20)],[.row 225 aqu r0,.row 225 aqu r1],0,[]⟩
def Hq(a b:List Int)(k:KT):OLR:=match decide ((a.length:Int)≤2)with|true=>(match decide ((b.length:Int)≤2)with|true=>(og (decide (uc a)) (og (decide (uc b)) (match decide (val b=(0:Int))with|true=>none|false=>(match decide (val b=(0:Int))with|true=>none|false=>(og (decide (iI (u64.wrap (Int.tdiv (val a) (val b))))) (og (decide (iI (Int.tmod (val a) (val b)))) (some [RV.d aqs (ah (u64.wrap (Int.tdiv (val a) (val b))).toNat),RV.d aqs (ah (Int.tmod (val a) (val b)).toNat)])))))))|false=>(match aU b (i64.wrap ((b.length:Int)-1))with|some x1=>(match decide (u64.wrap ((u64.wrap x1)+1)=(0:Int))with|true=>none|false=>(og (decide (byP b (u32.wrap (u64.wrap (Int.tdiv 1000000000 (u64.wrap ((u64.wrap x1)+1))))))) (match aU (ah (val b*(u32.wrap (u64.wrap (Int.tdiv 1000000000 (u64.wrap ((u64.wrap x1)+1)))))).toNat) (i64.wrap (((ah (val b*(u32.wrap (u64.wrap (Int.tdiv 1000000000 (u64.wrap ((u64.wrap x1)+1)))))).toNat).length:Int)-1))with|some x2=>(og (decide ((0:Int)≤i64.wrap ((a.length:Int)+1)∧(i64.wrap ((a.length:Int)+1))*((4:Nat):Int)≤140737488355328∧i64.wrap ((a.length:Int)+1)≤140737488355328)) (og (decide (byP a (u32.wrap (u64.wrap (Int.tdiv 1000000000 (u64.wrap ((u64.wrap x1)+1))))))) (og (decide ((0:Int)≤0∧0≤((ah (val a*(u32.wrap (u64.wrap (Int.tdiv 1000000000 (u64.wrap ((u64.wrap x1)+1)))))).toNat).length:Int)∧((ah (val a*(u32.wrap (u64.wrap (Int.tdiv 1000000000 (u64.wrap ((u64.wrap x1)+1)))))).toNat).length:Int)≤((List.replicate (i64.wrap ((a.length:Int)+1)).toNat (0:Int)).length:Int))) (k 30 (kG a b x1 x2 ([]) (i64.wrap (((ah (val a*(u32.wrap (u64.wrap (Int.tdiv 1000000000 (u64.wrap ((u64.wrap x1)+1)))))).toNat).length:Int)-1)) (List.replicate (i64.wrap ((a.length:Int)+1)).toNat (0:Int)))))))|none=>none)))|none=>none))|false=>(match aU b (i64.wrap ((b.length:Int)-1))with|some x1=>(match decide (u64.wrap ((u64.wrap x1)+1)=(0:Int))with|true=>none|false=>(og (decide (byP b (u32.wrap (u64.wrap (Int.tdiv 1000000000 (u64.wrap ((u64.wrap x1)+1))))))) (match aU (ah (val b*(u32.wrap (u64.wrap (Int.tdiv 1000000000 (u64.wrap ((u64.wrap x1)+1)))))).toNat) (i64.wrap (((ah (val b*(u32.wrap (u64.wrap (Int.tdiv 1000000000 (u64.wrap ((u64.wrap x1)+1)))))).toNat).length:Int)-1))with|some x2=>(og (decide ((0:Int)≤i64.wrap ((a.length:Int)+1)∧(i64.wrap ((a.length:Int)+1))*((4:Nat):Int)≤140737488355328∧i64.wrap ((a.length:Int)+1)≤140737488355328)) (og (decide (byP a (u32.wrap (u64.wrap (Int.tdiv 1000000000 (u64.wrap ((u64.wrap x1)+1))))))) (og (decide ((0:Int)≤0∧0≤((ah (val a*(u32.wrap (u64.wrap (Int.tdiv 1000000000 (u64.wrap ((u64.wrap x1)+1)))))).toNat).length:Int)∧((ah (val a*(u32.wrap (u64.wrap (Int.tdiv 1000000000 (u64.wrap ((u64.wrap x1)+1)))))).toNat).length:Int)≤((List.replicate (i64.wrap ((a.length:Int)+1)).toNat (0:Int)).length:Int))) (k 30 (kG a b x1 x2 ([]) (i64.wrap (((ah (val a*(u32.wrap (u64.wrap (Int.tdiv 1000000000 (u64.wrap ((u64.wrap x1)+1)))))).toNat).length:Int)-1)) (List.replicate (i64.wrap ((a.length:Int)+1)).toNat (0:Int)))))))|none=>none)))|none=>none)
theorem QG(a b:List Int):RS j7 264 [.d aqs a,.d aqs b] (Hq a b):=rsX
def kZ(a b:List Int)(x1 x2:Int)(s11:List Int)(s14:Int)(r0:List Int)(k:KT):OLR:=match decide (s14≥0)with|true=>(match aU (ah (val a*(u32.wrap (u64.wrap (Int.tdiv 1000000000 (u64.wrap ((u64.wrap x1)+1)))))).toNat) s14 with|some x3=>(og (decide ((([x3]).length+s11.length)*4≤140737488355328∧([x3]).length+s11.length≤140737488355328)) (og (decide (aR (([x3])++s11))) (match decide (((ah (val (([x3])++s11)).toNat).length:Int)>((ah (val b*(u32.wrap (u64.wrap (Int.tdiv 1000000000 (u64.wrap ((u64.wrap x1)+1)))))).toNat).length:Int))with|true=>(match aU (ah (val (([x3])++s11)).toNat) ((ah (val b*(u32.wrap (u64.wrap (Int.tdiv 1000000000 (u64.wrap ((u64.wrap x1)+1)))))).toNat).length:Int)with|some x4=>(match decide (((ah (val (([x3])++s11)).toNat).length:Int)≥((ah (val b*(u32.wrap (u64.wrap (Int.tdiv 1000000000 (u64.wrap ((u64.wrap x1)+1)))))).toNat).length:Int))with|true=>(match aU (ah (val (([x3])++s11)).toNat) (i64.wrap (((ah (val b*(u32.wrap (u64.wrap (Int.tdiv 1000000000 (u64.wrap ((u64.wrap x1)+1)))))).toNat).length:Int)-1))with|some x5=>(match decide (u64.wrap x2=(0:Int))with|true=>none|false=>(match decide ((u64.wrap (Int.tdiv (u64.wrap ((u64.wrap ((u64.wrap x4)*1000000000))+(u64.wrap x5))) (u64.wrap x2)))>999999999)with|true=>(og (decide (byP (ah (val b*(u32.wrap (u64.wrap (Int.tdiv 1000000000 (u64.wrap ((u64.wrap x1)+1)))))).toNat) (u32.wrap 999999999))) (k 67 (fj a b x1 x2 s11 s14 r0 x3 999999999 (ah (val (ah (val b*(u32.wrap (u64.wrap (Int.tdiv 1000000000 (u64.wrap ((u64.wrap x1)+1)))))).toNat)*(u32.wrap 999999999)).toNat))))|false=>(og (decide (byP (ah (val b*(u32.wrap (u64.wrap (Int.tdiv 1000000000 (u64.wrap ((u64.wrap x1)+1)))))).toNat) (u32.wrap (u64.wrap (Int.tdiv (u64.wrap ((u64.wrap ((u64.wrap x4)*1000000000))+(u64.wrap x5))) (u64.wrap x2)))))) (k 67 (fj a b x1 x2 s11 s14 r0 x3 (u64.wrap (Int.tdiv (u64.wrap ((u64.wrap ((u64.wrap x4)*1000000000))+(u64.wrap x5))) (u64.wrap x2))) (ah (val (ah (val b*(u32.wrap (u64.wrap (Int.tdiv 1000000000 (u64.wrap ((u64.wrap x1)+1)))))).toNat)*(u32.wrap (u64.wrap (Int.tdiv (u64.wrap ((u64.wrap ((u64.wrap x4)*1000000000))+(u64.wrap x5))) (u64.wrap x2))))).toNat))))))|none=>none)|false=>(match decide (u64.wrap x2=(0:Int))with|true=>none|false=>(match decide ((u64.wrap (Int.tdiv (u64.wrap ((u64.wrap x4)*1000000000)) (u64.wrap x2)))>999999999)with|true=>(og (decide (byP (ah (val b*(u32.wrap (u64.wrap (Int.tdiv 1000000000 (u64.wrap ((u64.wrap x1)+1)))))).toNat) (u32.wrap 999999999))) (k 67 (fj a b x1 x2 s11 s14 r0 x3 999999999 (ah (val (ah (val b*(u32.wrap (u64.wrap (Int.tdiv 1000000000 (u64.wrap ((u64.wrap x1)+1)))))).toNat)*(u32.wrap 999999999)).toNat))))|false=>(og (decide (byP (ah (val b*(u32.wrap (u64.wrap (Int.tdiv 1000000000 (u64.wrap ((u64.wrap x1)+1)))))).toNat) (u32.wrap (u64.wrap (Int.tdiv (u64.wrap ((u64.wrap x4)*1000000000)) (u64.wrap x2)))))) (k 67 (fj a b x1 x2 s11 s14 r0 x3 (u64.wrap (Int.tdiv (u64.wrap ((u64.wrap x4)*1000000000)) (u64.wrap x2))) (ah (val (ah (val b*(u32.wrap (u64.wrap (Int.tdiv 1000000000 (u64.wrap ((u64.wrap x1)+1)))))).toNat)*(u32.wrap (u64.wrap (Int.tdiv (u64.wrap ((u64.wrap x4)*1000000000)) (u64.wrap x2))))).toNat)))))))|none=>none)|false=>(match decide (((ah (val (([x3])++s11)).toNat).length:Int)≥((ah (val b*(u32.wrap (u64.wrap (Int.tdiv 1000000000 (u64.wrap ((u64.wrap x1)+1)))))).toNat).length:Int))with|true=>(match aU (ah (val (([x3])++s11)).toNat) (i64.wrap (((ah (val b*(u32.wrap (u64.wrap (Int.tdiv 1000000000 (u64.wrap ((u64.wrap x1)+1)))))).toNat).length:Int)-1))with|some x4=>(match decide (u64.wrap x2=(0:Int))with|true=>none|false=>(match decide ((u64.wrap (Int.tdiv (u64.wrap (0+(u64.wrap x4))) (u64.wrap x2)))>999999999)with|true=>(og (decide (byP (ah (val b*(u32.wrap (u64.wrap (Int.tdiv 1000000000 (u64.wrap ((u64.wrap x1)+1)))))).toNat) (u32.wrap 999999999))) (k 67 (fj a b x1 x2 s11 s14 r0 x3 999999999 (ah (val (ah (val b*(u32.wrap (u64.wrap (Int.tdiv 1000000000 (u64.wrap ((u64.wrap x1)+1)))))).toNat)*(u32.wrap 999999999)).toNat))))|false=>(og (decide (byP (ah (val b*(u32.wrap (u64.wrap (Int.tdiv 1000000000 (u64.wrap ((u64.wrap x1)+1)))))).toNat) (u32.wrap (u64.wrap (Int.tdiv (u64.wrap (0+(u64.wrap x4))) (u64.wrap x2)))))) (k 67 (fj a b x1 x2 s11 s14 r0 x3 (u64.wrap (Int.tdiv (u64.wrap (0+(u64.wrap x4))) (u64.wrap x2))) (ah (val (ah (val b*(u32.wrap (u64.wrap (Int.tdiv 1000000000 (u64.wrap ((u64.wrap x1)+1)))))).toNat)*(u32.wrap (u64.wrap (Int.tdiv (u64.wrap (0+(u64.wrap x4))) (u64.wrap x2))))).toNat))))))|none=>none)|false=>(match decide (u64.wrap x2=(0:Int))with|true=>none|false=>(match decide ((u64.wrap (Int.tdiv 0 (u64.wrap x2)))>999999999)with|true=>(og (decide (byP (ah (val b*(u32.wrap (u64.wrap (Int.tdiv 1000000000 (u64.wrap ((u64.wrap x1)+1)))))).toNat) (u32.wrap 999999999))) (k 67 (fj a b x1 x2 s11 s14 r0 x3 999999999 (ah (val (ah (val b*(u32.wrap (u64.wrap (Int.tdiv 1000000000 (u64.wrap ((u64.wrap x1)+1)))))).toNat)*(u32.wrap 999999999)).toNat))))|false=>(og (decide (byP (ah (val b*(u32.wrap (u64.wrap (Int.tdiv 1000000000 (u64.wrap ((u64.wrap x1)+1)))))).toNat) (u32.wrap (u64.wrap (Int.tdiv 0 (u64.wrap x2)))))) (k 67 (fj a b x1 x2 s11 s14 r0 x3 (u64.wrap (Int.tdiv 0 (u64.wrap x2))) (ah (val (ah (val b*(u32.wrap (u64.wrap (Int.tdiv 1000000000 (u64.wrap ((u64.wrap x1)+1)))))).toNat)*(u32.wrap (u64.wrap (Int.tdiv 0 (u64.wrap x2))))).toNat))))))))))|none=>none)|false=>(og (decide ((0:Int)≤(s11.length:Int)∧(s11.length:Int)*((4:Nat):Int)≤140737488355328∧(s11.length:Int)≤140737488355328)) (k 90 (ug a x1 s11 r0 0 (i64.wrap ((s11.length:Int)-1)) (List.replicate ((s11.length:Int)).toNat (0:Int)))))
theorem nH(a b:List Int)(x1 x2:Int)(s11:List Int)(s14:Int)(r0:List Int):RN j7 30 (kG a b x1 x2 s11 s14 r0) (kZ a b x1 x2 s11 s14 r0):=rnX
def oa(a b:List Int)(x1 x2:Int)(s11:List Int)(s14:Int)(r0:List Int)(x3 s16:Int)(s17:List Int)(k:KT):OLR:=og (decide (rB s17 (ah (val (([x3])++s11)).toNat))) (match decide ((cC (val s17) (val (ah (val (([x3])++s11)).toNat)))>0)with|true=>(og (decide (oK s17 (ah (val b*(u32.wrap (u64.wrap (Int.tdiv 1000000000 (u64.wrap ((u64.wrap x1)+1)))))).toNat))) (k 67 (fj a b x1 x2 s11 s14 r0 x3 (u64.wrap (s16-1)) (ah (val s17-val (ah (val b*(u32.wrap (u64.wrap (Int.tdiv 1000000000 (u64.wrap ((u64.wrap x1)+1)))))).toNat)).toNat))))|false=>(og (decide (oK (ah (val (([x3])++s11)).toNat) s17)) (match true,decide ((0:Int)≤s14∧s14<(((((ah (val a*(u32.wrap (u64.wrap (Int.tdiv 1000000000 (u64.wrap ((u64.wrap x1)+1)))))).toNat).length:Int):Int).toNat-(0:Int).toNat:Nat):Int))with|true,true=>(match true,r0[(0:Int).toNat+(s14).toNat]? with|true,some _=>k 30 (kG a b x1 x2 (ah (val (ah (val (([x3])++s11)).toNat)-val s17).toNat) (i64.wrap (s14-1)) (r0.set ((0:Int).toNat+(s14).toNat) (u32.wrap s16)))|_,_=>none)|_,_=>none)))
theorem rJ(a b:List Int)(x1 x2:Int)(s11:List Int)(s14:Int)(r0:List Int)(x3 s16:Int)(s17:List Int):RN j7 67 (fj a b x1 x2 s11 s14 r0 x3 s16 s17) (oa a b x1 x2 s11 s14 r0 x3 s16 s17):=rnX
def sA(a:List Int)(x1:Int)(s11 r0:List Int)(s18 s20:Int)(r1:List Int)(k:KT):OLR:=match decide (s20≥0)with|true=>(match aU s11 s20 with|some x2=>(match decide (u64.wrap (u32.wrap (u64.wrap (Int.tdiv 1000000000 (u64.wrap ((u64.wrap x1)+1)))))=(0:Int))with|true=>none|false=>(match aU r1 s20 with|some _=>(match true,r1[(s20).toNat]? with|true,some _=>(match decide (u64.wrap (u32.wrap (u64.wrap (Int.tdiv 1000000000 (u64.wrap ((u64.wrap x1)+1)))))=(0:Int))with|true=>none|false=>k 90 (ug a x1 s11 r0 (Int.tmod (u64.wrap ((u64.wrap (s18*1000000000))+(u64.wrap x2))) (u64.wrap (u32.wrap (u64.wrap (Int.tdiv 1000000000 (u64.wrap ((u64.wrap x1)+1))))))) (i64.wrap (s20-1)) (r1.set ((s20).toNat) (u32.wrap (u64.wrap (Int.tdiv (u64.wrap ((u64.wrap (s18*1000000000))+(u64.wrap x2))) (u64.wrap (u32.wrap (u64.wrap (Int.tdiv 1000000000 (u64.wrap ((u64.wrap x1)+1))))))))))))|_,_=>none)|none=>none))|none=>none)|false=>(og (decide (aR ((r0.drop ((0:Int).toNat)).take ((((ah (val a*(u32.wrap (u64.wrap (Int.tdiv 1000000000 (u64.wrap ((u64.wrap x1)+1)))))).toNat).length:Int):Int).toNat-(0:Int).toNat)))) (og (decide (aR r1)) (some [RV.d aqs (ah (val ((r0.drop ((0:Int).toNat)).take ((((ah (val a*(u32.wrap (u64.wrap (Int.tdiv 1000000000 (u64.wrap ((u64.wrap x1)+1)))))).toNat).length:Int):Int).toNat-(0:Int).toNat))).toNat),RV.d aqs (ah (val r1).toNat)])))
theorem xd(a:List Int)(x1:Int)(s11 r0:List Int)(s18 s20:Int)(r1:List Int):RN j7 90 (ug a x1 s11 r0 s18 s20 r1) (sA a x1 s11 r0 s18 s20 r1):=rnX
def qsc(x1:Int):Int:=u32.wrap (u64.wrap (Int.tdiv 1000000000 (u64.wrap ((u64.wrap x1)+1))))
theorem gK(x1:Int):u32.wrap (u64.wrap (Int.tdiv 1000000000 (u64.wrap ((u64.wrap x1)+1))))=qsc x1:=by
 have h:∀y,qsc x1=y→y=qsc x1:=fun y e=>e.symm;exact h _ rfl
theorem aeo{x:Int}(h1:1≤x)(h2:x<1000000000):qsc x=1000000000/(x+1)∧1≤qsc x∧qsc x<1000000000:=by
 have h3:1≤1000000000/(x+1):=Int.le_ediv_of_mul_le (by omega) (by omega);have h4:1000000000/(x+1)<1000000000:=aoz (by omega) (by omega);grind [qsc,bH,c8]
theorem F6{v:Int}(h:0<v):∃(n:Nat) (x:Int),(ah v.toNat).length=n+1∧(ah v.toNat)[n]?=some x∧1≤x∧x<1000000000∧x*pw n≤v:=by
 have hne:ah v.toNat≠[]:=fun e=>by rw[ie]at e;omega
 rcases List.eq_nil_or_concat (ah v.toNat)with h0|⟨l,x,hx⟩
 ·grind
 ·have hv:=bj v.toNat
  have hc:=eE v.toNat
  have hl:=ce v.toNat
  rw[List.concat_eq_append]at hx;rw[hx]at hv hc hl;have hxx:=hl x (by simp);have hx0:x≠0:=fun e=>hc.2 (by simp[e]);have hln:=aQ (l:=l) (fun y hy=>hl y (by simp[hy]));rw[dG]at hv;simp only[val]at hv;refine⟨l.length,x,by rw[hx];simp,by rw[hx];simp,by omega,hxx.2,?_⟩;grind
section
variable (a b:List Int) (x1 x2:Int) (V:Int) (hV:val b*qsc x1=V) (hs:1≤qsc x1∧qsc x1<1000000000) (hp:0<V) (hra:(ah (val a*qsc x1).toNat).length≤a.length+1) (ha:Lim a∧a.length≤1000000) (hL:(ah V.toNat).length≤1000001)
theorem Px(hs:1≤qsc x1∧qsc x1<1000000000)(l r0:List Int)(hl:Lim l∧l.length≤2000000)(hr0:aR r0)(hz0:∀k (hk:k<r0.length),(ah (val a*qsc x1).toNat).length≤k→r0[k]=0):∀(n:Nat) (c:Int) (r:List Int),n≤l.length→0≤c→c<qsc x1→Lim r→r.length=l.length→(∀k (hk:k<r.length),k<n→r[k]=0)→qsc x1*val r+pw n*c+val (l.take n)=val l→
  j7.Runs 90 (ug a x1 l r0 c ((n:Int)-1) r) [.d aqs (ah (val r0).toNat),.d aqs (ah (val l/qsc x1).toNat)]:=by
 have hsa:=hl.2;have e64:u64.wrap (qsc x1)=qsc x1:=bH (by omega) (by omega);intro n;induction n with
 |zero=>
  intro c r hn c0 c1 hr hlen hz hv;simp only[n7,List.take_zero,val,aol,aqj]at hv
  have e2:val l/qsc x1=val r:=by
   rw[←hv,ap3,aoQ _ _ (by omega),aoi c0 c1];omega
  have e3:=yw hz0;have e4:aR (r0.take (ah (val a*qsc x1).toNat).length):=⟨hr0.1.take _,by have:=hr0.2;rw[anR];omega⟩
  refine xd _ _ _ _ _ _ _ ⟨0,?_⟩;unfold sA;simp only[gK,Int.toNat_zero,ao2,aoK,Nat.sub_zero];rw[dF (by omega)];dsimp only;rw[dT e4,dT (show aR r from⟨hr,by omega⟩),e3,e2]
 |succ n ih=>
  intro c r hn c0 c1 hr hlen hz hv;have hna:n<l.length:=by omega
  have hnr:n<r.length:=by omega
  have xa:=hl.1.get hna;have hr0':=hz n hnr (by omega);have hcb:0≤c*1000000000+l[n]:=by omega
  have m0:=aom (c*1000000000+l[n]) (show qsc x1≠0 by omega);have m1:=anW (c*1000000000+l[n]) (show 0<qsc x1 by omega);have md:=anU (c*1000000000+l[n]) (qsc x1);have d0:0≤(c*1000000000+l[n])/qsc x1:=an9 hcb (by omega)
  have d1:(c*1000000000+l[n])/qsc x1<1000000000:=by
   refine aoz (by omega) ?_;have:=ani (show c+1≤qsc x1 by omega) (show(0:Int)≤1000000000 by decide);rw[aoR 1000000000 (qsc x1)];omega
  obtain⟨q,hq⟩:=ih ((c*1000000000+l[n])%qsc x1) (r.set n ((c*1000000000+l[n])/qsc x1)) (by omega) m0 m1 (hr.set n ⟨d0,d1⟩) (by simpa using hlen)
   (fun k hk hkn=>by rw[aor (by omega)];exact hz k (by simpa using hk) (by omega)) (by
    rw[fp hnr,hr0'];rw[a8 hna,cg]at hv;grind)
  refine xd _ _ _ _ _ _ _ ⟨q,?_⟩;unfold sA;simp only[gK];rw[show((n+1:Nat):Int)-1=(n:Int) by omega,dT (by omega),av l n,am6 hna,e64,dF (show ¬qsc x1=0 by omega),av r n,aE,am6 hnr];dsimp only;rw[bH (x:=c*1000000000) (by omega) (by omega),bH (x:=l[n]) (by omega) (by omega),bH (x:=c*1000000000+l[n]) (by omega) (by omega),hU hcb,jy hcb,bH (x:=(c*1000000000+l[n])/qsc x1) (by omega) (by omega),c8 (x:=(c*1000000000+l[n])/qsc x1) (by omega) (by omega),aT (x:=(n:Int)-1) (by omega) (by omega)];exact hq
include hV hp hL in
theorem Gg{res:List RV}(i:Nat)(hi:i<(ah (val a*qsc x1).toNat).length)(r0 l:List Int)(hlr:r0.length=a.length+1)(hra:(ah (val a*qsc x1).toNat).length≤a.length+1)(x3 W:Int)(hW:val ([x3]++l)=W)(W0:0≤W)(hWl:(ah W.toNat).length≤1000002)
  (hout:j7.Runs 30 (kG a b x1 x2 (ah (W%V).toNat) ((i:Int)-1) (r0.set i (W/V))) res) (hi':(ah (val a*qsc x1).toNat).length≤2000000):
  ∀(d:Nat),d≤999999999→W<V*((d:Int)+1)→j7.Runs 67 (fj a b x1 x2 l (i:Int) r0 x3 (d:Int) (ah (V*(d:Int)).toNat)) res:=by
 intro d
 have hsz:∀e:Nat,e≤999999999→(ah (V*(e:Int)).toNat).length≤1000002:=fun e he=>by
  refine cG (an5 (by omega) (by omega)) ?_
  have h1:V<pw 1000001:=by
   have:=b9 (ce V.toNat);rw[bj]at this;have:=dm hL;omega
  rw[cg 1000001];have h2:V*(e:Int)≤V*999999999:=ane (by omega) (by omega);omega
 induction d with
 |zero=>
  intro _ hd;obtain⟨q,hq⟩:=hout;have hWV:W<V:=by simpa using hd
  rw[api W0 hWV,aoi W0 hWV]at hq;refine rJ _ _ _ _ _ _ _ _ _ _ ⟨q,?_⟩;unfold oa;simp only[gK,hV,hW];rw[show(V*((0:Nat):Int)).toNat=0 by simp,dT (show rB (ah 0) (ah W.toNat) from⟨⟨eE _,by decide⟩,eE _,by omega⟩),bZ W0,xz,show val (ah 0)=0 from rfl,dF (show ¬W<0 by omega),dT (show oK (ah W.toNat) (ah 0) from⟨cH (by omega),cH (by decide),by rw[bZ W0];exact W0⟩)];dsimp only;rw[dT (show(0:Int)≤(i:Int)∧(i:Int)<((((ah (val a*qsc x1).toNat).length:Int).toNat-(0:Int).toNat:Nat):Int) by constructor<;>simp<;>omega)];rw[show(0:Int).toNat+((i:Int)).toNat=i by simp,am6 (by omega)];dsimp only;rw[Int.sub_zero,aT (by omega) (by omega)];exact hq
 |succ d ih=>
  intro hd1 hd;have hc:((d+1:Nat):Int)=(d:Int)+1:=by omega
  rw[hc]at hd;have hV1:0≤V*((d:Int)+1):=an5 (by omega) (by omega);have hV0:0≤V*(d:Int):=an5 (by omega) (by omega);have hVd:V*((d:Int)+1)-V=V*(d:Int):=by grind
  have hs1:=hsz (d+1) (by omega);rw[hc]at hs1;have k1:=bj V.toNat
  by_cases hg:W<V*((d:Int)+1)
  ·obtain⟨q,hq⟩:=ih (by omega) hg;refine rJ _ _ _ _ _ _ _ _ _ _ ⟨q,?_⟩;unfold oa;simp only[gK,hV,hW];rw[hc,dT (show rB (ah (V*((d:Int)+1)).toNat) (ah W.toNat) from⟨⟨eE _,by omega⟩,eE _,by omega⟩),bZ W0,bZ hV1,xz,dT hg,dT (show oK (ah (V*((d:Int)+1)).toNat) (ah V.toNat) from⟨cH (by omega),cH (by omega),by rw[bZ hV1,bZ (by omega)];omega⟩),bZ (v:=V) (by omega),hVd,bH (by omega) (by omega),show(d:Int)+1-1=(d:Int) by omega];exact hq
  ·obtain⟨q,hq⟩:=hout
   have e1:W/V=(d:Int)+1:=by
    have:W=(W-V*((d:Int)+1))+V*((d:Int)+1):=by omega
    rw[this,aoQ _ _ (by omega),aoi (by omega) (by grind)];omega
   have e2:W%V=W-V*((d:Int)+1):=by
    have:=anU W V;rw[e1]at this;omega
   rw[e1,e2]at hq;refine rJ _ _ _ _ _ _ _ _ _ _ ⟨q,?_⟩;unfold oa;simp only[gK,hV,hW];rw[hc,dT (show rB (ah (V*((d:Int)+1)).toNat) (ah W.toNat) from⟨⟨eE _,by omega⟩,eE _,by omega⟩),bZ W0,bZ hV1,xz,dF hg,dT (show oK (ah W.toNat) (ah (V*((d:Int)+1)).toNat) from⟨cH (by omega),cH (by omega),by rw[bZ hV1,bZ W0];omega⟩)];dsimp only;rw[dT (show(0:Int)≤(i:Int)∧(i:Int)<((((ah (val a*qsc x1).toNat).length:Int).toNat-(0:Int).toNat:Nat):Int) by constructor<;>simp<;>omega)];rw[show(0:Int).toNat+((i:Int)).toNat=i by simp,am6 (by omega)];dsimp only;rw[aT (by omega) (by omega),c8 (by omega) (by omega)];exact hq
end
end
section
def qp(k:Nat→Cfg→OLR)(a b:List Int)(x1 x2:Int)(s11:List Int)(s14:Int)(r0:List Int)(x3 H:Int):OLR:=match decide (u64.wrap x2=(0:Int))with|true=>none|false=>(match decide ((u64.wrap (Int.tdiv H (u64.wrap x2)))>999999999)with|true=>(og (decide (byP (ah (val b*(u32.wrap (u64.wrap (Int.tdiv 1000000000 (u64.wrap ((u64.wrap x1)+1)))))).toNat) (u32.wrap 999999999))) (k 67 (fj a b x1 x2 s11 s14 r0 x3 999999999 (ah (val (ah (val b*(u32.wrap (u64.wrap (Int.tdiv 1000000000 (u64.wrap ((u64.wrap x1)+1)))))).toNat)*(u32.wrap 999999999)).toNat))))|false=>(og (decide (byP (ah (val b*(u32.wrap (u64.wrap (Int.tdiv 1000000000 (u64.wrap ((u64.wrap x1)+1)))))).toNat) (u32.wrap (u64.wrap (Int.tdiv H (u64.wrap x2)))))) (k 67 (fj a b x1 x2 s11 s14 r0 x3 (u64.wrap (Int.tdiv H (u64.wrap x2))) (ah (val (ah (val b*(u32.wrap (u64.wrap (Int.tdiv 1000000000 (u64.wrap ((u64.wrap x1)+1)))))).toNat)*(u32.wrap (u64.wrap (Int.tdiv H (u64.wrap x2))))).toNat)))))
theorem OE{W V H x p d:Int}(hx:1≤x)(hW:W<(H+1)*p)(hp:0<p)(hV:x*p≤V)(hd:H/x=d)(h0:0≤H):W<V*(d+1):=by
 have h1:=anU H x;have h2:=anW H (show 0<x by omega);have h3:0≤d:=by rw[←hd];exact an9 h0 (by omega)
 have h4:H+1≤x*(d+1):=by grind
 have h5:=ani h4 (anO hp);have h6:=ani hV (show 0≤d+1 by omega);grind
theorem aeM{A B s R q:Int}(hs:0<s)(h:A*s=R+B*s*q)(h0:0≤R)(h1:R<B*s):A/B=q∧A%B=R/s:=by
 have e:R=s*(A-B*q):=by grind
 have hm:R/s=A-B*q:=by rw[e];exact apj _ (by omega)
 have m0:0≤A-B*q:=by
  apply ano;intro hc;have:=ane (show A-B*q≤ -1 by omega) (anO hs);omega
 have m1:A-B*q<B:=by
  apply ano;intro hc;have:=ane (show B≤A-B*q by omega) (anO hs);grind
 have hA:A=(A-B*q)+B*q:=by omega
 constructor
 ·rw[hA,aoQ _ _ (by omega),aoi (by omega) (by omega)];omega
 ·rw[hm,hA,ao8,api (by omega) (by omega)];omega
section
variable (a b:List Int) (x1 x2:Int) (V:Int) (hV:val b*qsc x1=V) (hs:1≤qsc x1∧qsc x1<1000000000) (hp:0<V) (hra:(ah (val a*qsc x1).toNat).length≤a.length+1) (ha:Lim a∧a.length≤1000000) (hL:(ah V.toNat).length≤1000001)
include hV hs hp hra ha hL in
theorem Fg(n:Nat)(hn:(ah V.toNat).length=n+1)(hx2:1≤x2∧x2<1000000000)(hxp:x2*pw n≤V):∀(i:Nat) (R:Int) (r0:List Int),i≤(ah (val a*qsc x1).toNat).length→0≤R→R<V→r0.length=a.length+1→Lim r0→
  (∀k (hk:k<r0.length),k<i→r0[k]=0)→(∀k (hk:k<r0.length),(ah (val a*qsc x1).toNat).length≤k→r0[k]=0)→val a*qsc x1=pw i*R+val ((ah (val a*qsc x1).toNat).take i)+V*val r0→
  j7.Runs 30 (kG a b x1 x2 (ah R.toNat) ((i:Int)-1) r0) [.d aqs (ah (val a/val b).toNat),.d aqs (ah (val a%val b).toNat)]:=by
 have hVp:V<pw 1000001:=by
  have:=b9 (ce V.toNat);rw[bj]at this;have:=dm hL;omega
 have ha2:=ha.2;intro i;induction i with
 |zero=>
  intro R r0 _ R0 RV hlr hl _ hz he;simp only[n7,List.take_zero,val,aol,aqj]at he;rw[←hV]at he;obtain⟨e1,e2⟩:=aeM (by omega) he R0 (by rw[hV];exact RV);have hRl:(ah R.toNat).length≤1000001:=cG R0 (by omega);obtain⟨q,hq⟩:=Px a x1 hs (ah R.toNat) r0 ⟨ce _,by omega⟩ ⟨hl,by omega⟩ hz (ah R.toNat).length 0 (List.replicate (ah R.toNat).length 0) (anb _) (by omega) (by omega) (Lim.rep _) (by simp) (fun k hk _=>by simp) (by simp[gN]);rw[bZ R0,←e2,←e1]at hq;refine nH _ _ _ _ _ _ _ ⟨q,?_⟩;unfold kZ;rw[dF (by omega)];dsimp only;rw[dT (show(0:Int)≤((ah R.toNat).length:Int)∧((ah R.toNat).length:Int)*((4:Nat):Int)≤140737488355328∧((ah R.toNat).length:Int)≤140737488355328 from⟨by omega,by omega,by omega⟩),aE,aT (by omega) (by omega)];exact hq
 |succ i ih=>
  intro R r0 hi R0 RV hlr hl hz hz2 he;have hiU:i<(ah (val a*qsc x1).toNat).length:=by omega
  have hx:=(ce (val a*qsc x1).toNat).get hiU;have hir:i<r0.length:=by omega
  have hr0:=hz i hir (by omega)
  have hWv:val ([(ah (val a*qsc x1).toNat)[i]]++ah R.toNat)=(ah (val a*qsc x1).toNat)[i]+1000000000*R:=by
   rw[dG,bZ R0];simp[val,pw]
  generalize hxi:(ah (val a*qsc x1).toNat)[i]=x at hx hWv;have W0:0≤x+1000000000*R:=by omega
  have WV:x+1000000000*R<1000000000*V:=by omega
  have hWl:(ah (x+1000000000*R).toNat).length≤n+2:=by
   refine cG W0 ?_;have:=b9 (ce V.toNat);rw[bj,hn]at this;rw[cg (n+1)];omega
  have hRl:(ah R.toNat).length≤1000001:=cG R0 (by omega);have q0:0≤(x+1000000000*R)/V:=an9 W0 (by omega);have q1:(x+1000000000*R)/V<1000000000:=aoz hp (by omega);have m0:=aom (x+1000000000*R) (show V≠0 by omega);have m1:=anW (x+1000000000*R) hp;have md:=anU (x+1000000000*R) V
  have hout:=ih ((x+1000000000*R)%V) (r0.set i ((x+1000000000*R)/V)) (by omega) m0 m1 (by simpa using hlr) (hl.set i ⟨q0,q1⟩)
   (fun k hk hk'=>by rw[aor (by omega)];exact hz k (by simpa using hk) (by omega))
   (fun k hk hk'=>by rw[aor (by omega)];exact hz2 k (by simpa using hk) hk') (by
    rw[fp hir,hr0];rw[a8 hiU,cg,hxi]at he;grind)
  have hdig:=Gg a b x1 x2 V hV hp hL i hiU r0 (ah R.toNat) hlr hra x (x+1000000000*R) hWv W0 (by omega) hout (by omega)
  have htail:∀H:Int,0≤H→H<1000000000000000000→x+1000000000*R<(H+1)*pw n→∃q,qp (j7.k q) a b x1 x2 (ah R.toNat) ((i:Int)) r0 x H=some [.d aqs (ah (val a/val b).toNat),.d aqs (ah (val a%val b).toNat)]:=by
   intro H H0 H1 HW;have d0:0≤H/x2:=an9 H0 (by omega);have d1:H/x2≤H:=aoW _ H0;have hbyV:∀d:Int,0≤d→d<1000000000→byP (ah V.toNat) d:=fun d h1 h2=>⟨⟨ce _,by omega⟩,h1,h2⟩
   by_cases hc:H/x2>999999999
   ·obtain⟨q,hq⟩:=hdig 999999999 (anb _) (by rw[show V*(((999999999:Nat):Int)+1)=1000000000*V by omega];exact WV);refine⟨q,?_⟩;unfold qp;simp only[gK,hV];rw[bH (x:=x2) (by omega) (by omega),dF (show ¬x2=0 by omega),hU H0,bH (x:=H/x2) (by omega) (by omega),dT hc,c8 (x:=999999999) (by decide) (by decide),dT (hbyV 999999999 (by decide) (by decide)),bZ (v:=V) (by omega)];exact hq
   ·obtain⟨q,hq⟩:=hdig (H/x2).toNat (by omega) (by rw[show(((H/x2).toNat:Nat):Int)=H/x2 by omega];exact OE hx2.1 HW (cB n) hxp rfl H0)
    rw[show(((H/x2).toNat:Nat):Int)=H/x2 by omega]at hq;refine⟨q,?_⟩;unfold qp;simp only[gK,hV];rw[bH (x:=x2) (by omega) (by omega),dF (show ¬x2=0 by omega),hU H0,bH (x:=H/x2) (by omega) (by omega),dF hc,c8 (x:=H/x2) (by omega) (by omega),dT (hbyV (H/x2) (by omega) (by omega)),bZ (v:=V) (by omega)];exact hq
  have hWlim:=ce (x+1000000000*R).toNat
  have hWval:=bZ W0;have hsplit:=ge (ah (x+1000000000*R).toNat) n;have htl:=b9 (hWlim.take n)
  have hpre:∀H,val ((ah (x+1000000000*R).toNat).drop n)=H→x+1000000000*R<(H+1)*pw n:=by
   intro H hH;rw[hH,hWval]at hsplit;have hm:(ah (x+1000000000*R).toNat |>.take n).length≤n:=by rw[anR];omega
   have:=dm hm;rcases anG n (ah (x+1000000000*R).toNat).length with h|h
   ·rw[anT (by omega)]at hsplit;rw[Int.add_mul,aoR H,aol];omega
   ·rw[an1 h]at hH;have hH0:H=0:=by rw[←hH];rfl
    subst hH0;rw[apl]at hsplit;omega
  have hstep:∀(H:Int) (q:Nat),qp (j7.k q) a b x1 x2 (ah R.toNat) ((i:Int)) r0 x H=some [.d aqs (ah (val a/val b).toNat),.d aqs (ah (val a%val b).toNat)]→True:=fun _ _ _=>trivial;have hap:(([x]:List Int).length+(ah R.toNat).length)*4≤140737488355328∧([x]:List Int).length+(ah R.toNat).length≤140737488355328:=by simp only[anu];omega
  have hlS:aR ([x]++ah R.toNat):=⟨(Lim.cons ⟨hx.1,hx.2⟩ Lim.nil).append (ce _),by simp only[anJ,anu];omega⟩
  have hw1:i64.wrap (((n+1:Nat):Int)-1)=((n:Nat):Int):=by rw[aT (by omega) (by omega)];omega
  rcases Nat.lt_trichotomy (ah (x+1000000000*R).toNat).length (n+1)with hc|hc|hc
  ·obtain⟨q,hq⟩:=htail 0 (by omega) (by omega) (hpre 0 (by rw[an1 (by omega)];rfl));refine nH _ _ _ _ _ _ _ ⟨q,?_⟩;unfold kZ;rw[dT (show((i+1:Nat):Int)-1≥0 by omega),show((i+1:Nat):Int)-1=(i:Int) by omega,gK,av,am6 hiU,hxi];dsimp only;rw[dT hap,dT hlS,hWv,hV,hn];rw[dF (show ¬((ah (x+1000000000*R).toNat).length:Int)>((n+1:Nat):Int) by omega),dF (show ¬((ah (x+1000000000*R).toNat).length:Int)≥((n+1:Nat):Int) by omega)];rw[←hV];exact hq
  ·have hget:(ah (x+1000000000*R).toNat)[n]?=some (ah (x+1000000000*R).toNat)[n]:=am6 (by omega);have hxn:=hWlim.get (show n<(ah (x+1000000000*R).toNat).length by omega)
   have hdrop:val ((ah (x+1000000000*R).toNat).drop n)=(ah (x+1000000000*R).toNat)[n]:=by
    rw[fA (by omega),an1 (by omega)];simp[val]
   obtain⟨q,hq⟩:=htail (ah (x+1000000000*R).toNat)[n] hxn.1 (by omega) (hpre _ hdrop);refine nH _ _ _ _ _ _ _ ⟨q,?_⟩;unfold kZ;rw[dT (show((i+1:Nat):Int)-1≥0 by omega),show((i+1:Nat):Int)-1=(i:Int) by omega,gK,av,am6 hiU,hxi];dsimp only;rw[dT hap,dT hlS,hWv,hV,hn];rw[dF (show ¬((ah (x+1000000000*R).toNat).length:Int)>((n+1:Nat):Int) by omega),dT (show((ah (x+1000000000*R).toNat).length:Int)≥((n+1:Nat):Int) by omega),hw1,av (ah (x+1000000000*R).toNat) n,hget];dsimp only;rw[Int.zero_add,bH (x:=(ah (x+1000000000*R).toNat)[n]) (by omega) (by omega),bH (x:=(ah (x+1000000000*R).toNat)[n]) (by omega) (by omega)];rw[←hV];exact hq
  ·have hget:(ah (x+1000000000*R).toNat)[n]?=some (ah (x+1000000000*R).toNat)[n]:=am6 (by omega);have hget1:(ah (x+1000000000*R).toNat)[n+1]?=some (ah (x+1000000000*R).toNat)[n+1]:=am6 (by omega);have hxn:=hWlim.get (show n<(ah (x+1000000000*R).toNat).length by omega);have hxn1:=hWlim.get (show n+1<(ah (x+1000000000*R).toNat).length by omega)
   have hdrop:val ((ah (x+1000000000*R).toNat).drop n)=(ah (x+1000000000*R).toNat)[n+1]*1000000000+(ah (x+1000000000*R).toNat)[n]:=by
    rw[fA (by omega),fA (by omega),an1 (by omega)];simp only[val];omega
   obtain⟨q,hq⟩:=htail ((ah (x+1000000000*R).toNat)[n+1]*1000000000+(ah (x+1000000000*R).toNat)[n]) (by omega) (by omega) (hpre _ hdrop);refine nH _ _ _ _ _ _ _ ⟨q,?_⟩;unfold kZ;rw[dT (show((i+1:Nat):Int)-1≥0 by omega),show((i+1:Nat):Int)-1=(i:Int) by omega,gK,av,am6 hiU,hxi];dsimp only;rw[dT hap,dT hlS,hWv,hV,hn];rw[dT (show((ah (x+1000000000*R).toNat).length:Int)>((n+1:Nat):Int) by omega),av (ah (x+1000000000*R).toNat) (n+1),hget1];dsimp only;rw[dT (show((ah (x+1000000000*R).toNat).length:Int)≥((n+1:Nat):Int) by omega),hw1,av (ah (x+1000000000*R).toNat) n,hget];dsimp only;rw[bH (x:=(ah (x+1000000000*R).toNat)[n+1]) (by omega) (by omega),bH (x:=(ah (x+1000000000*R).toNat)[n+1]*1000000000) (by omega) (by omega),bH (x:=(ah (x+1000000000*R).toNat)[n]) (by omega) (by omega),bH (x:=(ah (x+1000000000*R).toNat)[n+1]*1000000000+(ah (x+1000000000*R).toNat)[n]) (by omega) (by omega)];rw[←hV];exact hq
end
end
def adD:Cn 264 [aqs,aqs]:=cn fun(a b:List Int)=>lf (Dm a b) [.d aqs (ah (val a/val b).toNat),.d aqs (ah (val a%val b).toNat)] fun h=>by
 refine cY Pm (show j7.Res _ _ _ from ?_);obtain⟨⟨ha,sa⟩,⟨hb,sb⟩,hne⟩:=h;have a0:=aQ ha.1;have b0:0<val b:=eW hb hne;have hlen:=anE.2 hne;have la:=b9 ha.1;have lb:=b9 hb.1;by_cases hsm:a.length≤2∧b.length≤2
 ·have p2:pw 2=1000000000000000000:=by decide
  have m1:=dm hsm.1;have m2:=dm hsm.2;have q0:0≤val a/val b:=an9 a0 (by omega);have q1:val a/val b≤val a:=aoW _ a0;have r0:=aom (val a) (show val b≠0 by omega);have r1:=anW (val a) b0;refine QG _ _ ⟨0,?_⟩;unfold Hq;rw[dT (show(a.length:Int)≤2 by omega),dT (show(b.length:Int)≤2 by omega),dT (show uc a from⟨⟨ha.1,by omega⟩,by omega⟩),dT (show uc b from⟨⟨hb.1,by omega⟩,by omega⟩),dF (show ¬val b=0 by omega),hU a0,jy a0,bH (x:=val a/val b) q0 (by omega),dT (show iI (val a/val b) from⟨q0,by omega⟩),dT (show iI (val a%val b) from⟨r0,by omega⟩)]
 ·obtain⟨n,hn⟩:∃n,b.length=n+1:=⟨b.length-1,by omega⟩
  have hbn:n<b.length:=by omega
  have ht:=uA hb hn;have hbl:=hb.1.get hbn;obtain⟨hs0,hs1,hs2⟩:=aeo (x:=b[n]) ht hbl.2;have hVp:0<val b*qsc b[n]:=Int.mul_pos b0 (by omega)
  have hVl:(ah (val b*qsc b[n]).toNat).length≤1000001:=by
   refine cG (by omega) ?_;have h1:val b*qsc b[n]≤val b*999999999:=ane (by omega) (by omega);have h2:=dm sb;rw[cg 1000000];omega
  have hUl:(ah (val a*qsc b[n]).toNat).length≤a.length+1:=by
   refine cG (an5 a0 (by omega)) ?_;have h1:val a*qsc b[n]≤val a*999999999:=ane (by omega) (by omega);rw[cg];omega
  obtain⟨m,x2,hm,hg,hx1,hx2,hxp⟩:=F6 hVp
  obtain⟨q,hq⟩:=Fg a b b[n] x2 (val b*qsc b[n]) rfl ⟨hs1,hs2⟩ hVp hUl ⟨ha.1,sa⟩ hVl m hm ⟨hx1,hx2⟩ hxp (ah (val a*qsc b[n]).toNat).length 0 (List.replicate (a.length+1) 0) (anb _) (by omega) hVp (by simp) (Lim.rep _) (fun k hk _=>by simp) (fun k hk _=>by simp) (by
   rw[aon,bZ (an5 a0 (by omega)),gN];omega)
  refine QG _ _ ⟨q,?_⟩;have hw1:i64.wrap ((b.length:Int)-1)=(n:Int):=by rw[aT (by omega) (by omega)];omega
  have hx1w:¬u64.wrap (u64.wrap b[n]+1)=0:=by rw[bH (x:=b[n]) (by omega) (by omega),bH (by omega) (by omega)];omega
  have hbyb:byP b (qsc b[n]):=⟨⟨hb.1,by omega⟩,by omega,hs2⟩
  have hbya:byP a (qsc b[n]):=⟨⟨ha.1,by omega⟩,by omega,hs2⟩
  have hw2:i64.wrap (((m+1:Nat):Int)-1)=(m:Int):=by rw[aT (by omega) (by omega)];omega
  have hsub:(match aU b (i64.wrap ((b.length:Int)-1))with|some x1=>(match decide (u64.wrap ((u64.wrap x1)+1)=(0:Int))with|true=>none|false=>(match decide (byP b (qsc x1))with|true=>(match aU (ah (val b*(qsc x1)).toNat) (i64.wrap (((ah (val b*(qsc x1)).toNat).length:Int)-1))with|some x2=>(match decide ((0:Int)≤i64.wrap ((a.length:Int)+1)∧(i64.wrap ((a.length:Int)+1))*((4:Nat):Int)≤140737488355328∧i64.wrap ((a.length:Int)+1)≤140737488355328)with|true=>(match decide (byP a (qsc x1))with|true=>(match decide ((0:Int)≤0∧0≤((ah (val a*(qsc x1)).toNat).length:Int)∧((ah (val a*(qsc x1)).toNat).length:Int)≤((List.replicate (i64.wrap ((a.length:Int)+1)).toNat (0:Int)).length:Int))with|true=>(j7.k q) 30 (kG a b x1 x2 ([]) (i64.wrap (((ah (val a*(qsc x1)).toNat).length:Int)-1)) (List.replicate (i64.wrap ((a.length:Int)+1)).toNat (0:Int)))|false=>none)|false=>none)|false=>none)|none=>none)|false=>none))|none=>none)=some [.d aqs (ah (val a/val b).toNat),.d aqs (ah (val a%val b).toNat)]:=by
   rw[hw1,av,am6 hbn];dsimp only;rw[dF hx1w,dT hbyb,hm,hw2,av,hg];dsimp only;rw[bW (k:=a.length) (by omega),tW (n:=a.length+1) (by omega),dT hbya,aE,apC,dT (show(0:Int)≤0∧(0:Int)≤((ah (val a*qsc b[n]).toNat).length:Int)∧((ah (val a*qsc b[n]).toNat).length:Int)≤((a.length+1:Nat):Int) from⟨by omega,by omega,by omega⟩),aT (x:=((ah (val a*qsc b[n]).toNat).length:Int)-1) (by omega) (by omega)];exact hq
  unfold Hq;by_cases h1:a.length≤2
  ·rw[dT (show(a.length:Int)≤2 by omega),dF (show ¬(b.length:Int)≤2 by omega)];exact hsub
  ·rw[dF (show ¬(a.length:Int)≤2 by omega)];exact hsub
def Hd:List En:=[enK wP,enK By,enF Cf,enF xp,enK Y1,enK Gc,enK adD,enK BW,enK acO,enK Gk,enK AE]
def Pu(x y:Bool×List Int)(_k:KT):OLR:=let y1:=ah (val x.2/val y.2).toNat;let y2:=ah (val x.2%val y.2).toNat;let y3:=ai (cj (!(x.1==y.1)) (val y1));let y4:=ai (cj x.1 (val y2));let y5:OLR:=match decide ((y2.length:Int)>0)with|true=>(match !(x.1==y.1)with|true=>(og (decide (aH (1:Int))) (og (decide (okI y3∧okI (ai (1:Int)))) (og (decide (okI y4∧okI y)) (dup (.b .l .l) (some [RV.d y2Y (ai (ag y3-ag (ai (1:Int)))),RV.d y2Y (ai (ag y4+ag y)),RV.d aqt 0])))))|false=>dup (.b .l .l) (some [RV.d y2Y y3,RV.d y2Y y4,RV.d aqt 0]))|false=>dup (.b .l .l) (some [RV.d y2Y y3,RV.d y2Y y4,RV.d aqt 0]);let y6:OLR:=match decide (aR y2)with|true=>y5|false=>none;match(y.2.length:Int)==0 with|true=>some [RV.d y2Y (false,[]),RV.d y2Y (false,[]),RV.d aqt 6]|false=>(og (decide (Dm x.2 y.2)) (ck (og (decide (aR y1)) (ck (og (decide (aR y2)) (dup (.b .l .l) y5)) (dup (.b (.b .l .l) (.b .l .l)) y6))) (dup (.b .l .l) (ck (og (decide (aR y1)) (dup (.b .l .l) y6)) (og (decide (aR y1)) y6)))))
def Vu:NT:=[((165,6),{keep:=[4,5,6],pure_:=[(5,.int .u32),(6,.int .u32)],hl:=3}),((165,29),{keep:=[4,9,10],hl:=3})]
def ve:Ctx:=CX (ens Hd) Vu
def th(x y:Bool×List Int)(s5 s6:List Int):Cfg:=⟨165,[.blk 0,.seq 17],[(4,.box 2 0),(5,.d aqs s5),(6,.d aqs s6)],[.box 29 [SB x.1,.d aqs x.2],.box 29 [SB y.1,.d aqs y.2],.box 29 [SB false,.nil]],0,[]⟩
def pi(x y:Bool×List Int)(s9 s10:Int):Cfg:=⟨165,[.blk 2,.seq 38],[(4,.box 2 0),(9,.d (.int .u64) s9),(10,.d (.int .u64) s10)],[.box 29 [SB x.1,.d aqs x.2],.box 29 [SB y.1,.d aqs y.2],.box 29 [SB false,.nil]],0,[]⟩
def abE(x y:Bool×List Int)(k:KT):OLR:=k 6 (th x y x.2 y.2)
theorem ac0(x y:Bool×List Int):RS ve 165 [.d y2Y x,.d y2Y y] (abE x y):=rsX
def qt(x y:Bool×List Int)(s5 s6:List Int)(k:KT):OLR:=match decide ((s6.length:Int)>0)with|true=>(match decide ((s5.length:Int)>2)with|true=>(og (decide (Dm s5 s6)) (k 6 (th x y s6 (ah (val s5%val s6).toNat))))|false=>(match decide ((s6.length:Int)>2)with|true=>(og (decide (Dm s5 s6)) (k 6 (th x y s6 (ah (val s5%val s6).toNat))))|false=>(match(s6.length:Int)==0 with|true=>(og (decide (aR s5)) (some [RV.d y2Y (ai (cj false (val s5)))]))|false=>(og (decide (uc s5)) (og (decide (uc s6)) (k 29 (pi x y (val s5) (val s6))))))))|false=>(match(s6.length:Int)==0 with|true=>(og (decide (aR s5)) (some [RV.d y2Y (ai (cj false (val s5)))]))|false=>(og (decide (uc s5)) (og (decide (uc s6)) (k 29 (pi x y (val s5) (val s6))))))
theorem uX(x y:Bool×List Int)(s5 s6:List Int):RL ve 6 (th x y s5 s6) (qt x y s5 s6):=rlX
def sd(x y:Bool×List Int)(s9 s10:Int)(k:KT):OLR:=match decide (s10>0)with|true=>(match decide (s10=(0:Int))with|true=>none|false=>k 29 (pi x y s10 (Int.tmod s9 s10)))|false=>(og (decide (iI s9)) (og (decide (aR (ah s9.toNat))) (some [RV.d y2Y (ai (cj false (val (ah s9.toNat))))])))
theorem xJ(x y:Bool×List Int)(s9 s10:Int):RL ve 29 (pi x y s9 s10) (sd x y s9 s10):=rlX
def Oc:Cn 166 [y2Y,y2Y]:=cn fun(x y:Bool×List Int)=>lf (fy x y) [.d y2Y (ai (ag x/ag y)),.d y2Y (ai (ag x%ag y)),.d aqt 0] fun h=>by
 refine aA Hd (Pu x y) ⟨0,?_⟩;obtain⟨hx,hy,hp⟩:=h;obtain⟨x0,x1,x2⟩:=cK hx;obtain⟨y0,y1,y2⟩:=cK hy;have sx:=hx.2.2;have sy:=hy.2.2
 have ey:y.1=false:=by
  cases e:y.1
  ·rfl
  ·rw[bO,e]at hp;simp only[cj,cond_true]at hp;omega
 have dy:ag y=val y.2:=by rw[bO,ey];rfl
 rw[dy]at hp;have hne:y.2≠[]:=fun e=>by rw[y2]at e;omega
 have hprt:Dm x.2 y.2:=⟨⟨hx.1,sx⟩,⟨hy.1,sy⟩,hne⟩
 have hylen:=anE.2 hne;have r0:=aom (val x.2) (show val y.2≠0 by omega);have r1:=anW (val x.2) hp;have q0:0≤val x.2/val y.2:=an9 x0 y0;have q1:val x.2/val y.2≤val x.2:=aoW _ x0;have vx:=b9 hx.1.1;have vy:=b9 hy.1.1;have mx:=dm sx;have my:=dm sy;have szq:szI (val x.2/val y.2)≤1000000:=fu (by have:=cB 1000000;omega) (by omega);have szr:szI (val x.2%val y.2)≤1000000:=fu (by have:=cB 1000000;omega) (by omega);have lq:(ah (val x.2/val y.2).toNat).length≤1000000:=cG q0 (by omega);have lr:(ah (val x.2%val y.2).toNat).length≤1000000:=cG r0 (by omega);unfold Pu;simp only[fa]
 rw[show((y.2.length:Int)==0)=false by simp;omega,dT hprt,dT (cH (n:=(val x.2/val y.2).toNat) (by omega)),dT (cH (n:=(val x.2%val y.2).toNat) (by omega)),dT (show aH 1 by decide),bZ q0,bZ r0,
  dT (show okI (ai (cj (!(x.1==y.1)) (val x.2/val y.2)))∧okI (ai (1:Int)) from⟨aV (by rw[A8];exact szq),qG⟩),dT (show okI (ai (cj x.1 (val x.2%val y.2)))∧okI y from⟨aV (by rw[A8];exact szr),hy⟩)]
 simp only[dec_enc,dy,c9];rw[bO x,ey]
 have hlen:(((ah (val x.2%val y.2).toNat).length:Int)>0)↔0<val x.2%val y.2:=by
  constructor
  ·intro hl;rcases anC 0 (val x.2%val y.2)with h|h
   ·exact h
   ·rw[show(val x.2%val y.2).toNat=0 by omega,fK]at hl;simp at hl
  ·intro hl;have:ah (val x.2%val y.2).toNat≠[]:=fun e=>by rw[ie]at e;omega
   have:=anE.2 this;omega
 obtain⟨n1,n2⟩:=HT (a:=val x.2) (b:=val y.2) x0 hp;rcases anC 0 (val x.2%val y.2)with hr|hr
 ·rw[dT (hlen.2 hr)];cases x.1
  ·rfl
  ·obtain⟨e1,e2⟩:=n2 hr;simp only[cj,cond_true,Bool.not_false,show((true==false):Bool)=false from rfl];rw[e1,e2]
 ·rw[dF (fun h'=>by have:=hlen.1 h';omega)];dsimp only;have e0:val x.2%val y.2=0:=by omega
  cases x.1
  ·simp only[cj,cond_false,show((false==false):Bool)=true from rfl,Bool.not_true]
  ·obtain⟨e1,e2⟩:=n1 e0;simp only[cj,cond_true,Bool.not_false,show((true==false):Bool)=false from rfl];rw[e1,e2,e0];rfl
theorem K3(x y:BI)(B:Nat)(hB:(B:Int)<18446744073709551616):∀(v u:Nat),u≤B→v≤B→ve.RunsE 29 (pi x y (u:Int) (v:Int)) [.d y2Y (ai ((Nat.gcd u v:Nat):Int))]:=by
 intro v;induction v using Nat.strongRecOn with
 |ind v ih=>
  intro u hu hv;rcases an0 v with h0|h0
  ·refine xJ _ _ _ _ ⟨0,fun n _=>?_⟩;have hp:iI (u:Int):=⟨by omega,by omega⟩
   have hl:(ah u).length≤3:=dl (apx (show(u:Int)<18446744073709551616 by omega) (by decide));unfold sd;rw[dF (show ¬(v:Int)>0 by omega),dT hp,ao2,dT (cH (n:=u) (by omega)),bj,show Nat.gcd u v=u by rw[h0];exact Nat.gcd_zero_right u];rfl
  ·obtain⟨n0,hn⟩:=ih (u%v) (ap2 _ h0) v hv (ank (Nat.le_of_lt (ap2 _ h0)) hv);refine xJ _ _ _ _ ⟨n0,fun n hn'=>?_⟩;unfold sd;rw[dT (show(v:Int)>0 by omega),dF (show ¬(v:Int)=0 by omega),jy (by omega)];dsimp only;rw[show((u:Int)%(v:Int))=((u%v:Nat):Int) by simp,apd u v,Nat.gcd_rec v u,apd];exact hn n hn'
theorem Ib{u:Nat}(h:(ah u).length≤2):(u:Int)<1000000000000000000:=by
 have h1:=b9 (ce u);rw[bj]at h1;have h2:=dm h;grind [pw]
theorem KQ(x y:BI):∀(v u:Nat),(ah u).length≤1000000→(ah v).length≤1000000→
  ve.RunsE 6 (th x y (ah u) (ah v)) [.d y2Y (ai ((Nat.gcd u v:Nat):Int))]:=by
 intro v;induction v using Nat.strongRecOn with
 |ind v ih=>
  intro u hu hv;rcases an0 v with h0|h0
  ·refine uX _ _ _ _ ⟨0,fun n _=>?_⟩;unfold qt;rw[h0,Nat.gcd_zero_right,dF (show ¬((ah 0).length:Int)>0 by decide),show(((ah 0).length:Int)==0)=true by decide];dsimp only;rw[dT (cH (n:=u) (by omega)),bj];rfl
  ·have hne:ah v≠[]:=fun e=>by rw[ie]at e;omega
   have hl:=anE.2 hne;have hm:=ap2 u h0
   have hms:(ah (u%v)).length≤1000000:=dl (by
    have:=b9 (ce v);rw[bj]at this;have:=dm hv;omega)
   have hz:(((ah v).length:Int)==0)=false:=by simp;omega
   have hprt:Dm (ah u) (ah v):=⟨⟨eE _,hu⟩,⟨eE _,hv⟩,hne⟩
   have hmod:(val (ah u)%val (ah v)).toNat=u%v:=by rw[bj,bj];omega
   by_cases hsm:(ah u).length≤2∧(ah v).length≤2
   ·have lu:=Ib hsm.1;have lv:=Ib hsm.2;obtain⟨n0,hn⟩:=K3 x y 1000000000000000000 (by decide) v u (by omega) (by omega);refine uX _ _ _ _ ⟨n0,fun n hn'=>?_⟩;unfold qt;rw[dT (show((ah v).length:Int)>0 by omega),dF (show ¬((ah u).length:Int)>2 by omega),dF (show ¬((ah v).length:Int)>2 by omega),hz,dT (show uc (ah u) from⟨cH (by omega),by rw[bj];omega⟩),dT (show uc (ah v) from⟨cH (by omega),by rw[bj];omega⟩),bj,bj];exact hn n hn'
   ·obtain⟨n0,hn⟩:=ih (u%v) hm v hv hms;refine uX _ _ _ _ ⟨n0,fun n hn'=>?_⟩;have:=hn n hn';rw[show Nat.gcd v (u%v)=Nat.gcd u v by rw[apd u v,Nat.gcd_rec v u,apd]]at this;unfold qt;rw[dT (show((ah v).length:Int)>0 by omega),dT hprt,hmod];by_cases h2:(ah u).length≤2
    ·rw[dF (show ¬((ah u).length:Int)>2 by omega),dT (show((ah v).length:Int)>2 by omega)];exact this
    ·rw[dT (show((ah u).length:Int)>2 by omega)];exact this
def NO:Cn 165 [y2Y,y2Y]:=cn fun(x y:Bool×List Int)=>lf (okI x∧okI y) [.d y2Y (ai ((Int.gcd (ag x) (ag y):Nat):Int))] fun h=>by
 refine cY Hd (show ve.Res _ _ _ from ?_);obtain⟨hx,hy⟩:=h;obtain⟨x0,_,_⟩:=cK hx;obtain⟨y0,_,_⟩:=cK hy;have ex:((ag x).natAbs:Int)=val x.2:=by rw[bO];unfold cj;cases x.1<;>simp<;>omega
 have ey:((ag y).natAbs:Int)=val y.2:=by rw[bO];unfold cj;cases y.1<;>simp<;>omega
 have cx:=oW hx.1;have cy:=oW hy.1;rw[show(val x.2).toNat=(ag x).natAbs by omega]at cx;rw[show(val y.2).toNat=(ag y).natAbs by omega]at cy;obtain⟨n1,h1⟩:=KQ x y (ag y).natAbs (ag x).natAbs (by rw[←cx];exact hx.2.2) (by rw[←cy];exact hy.2.2);rw[←cx,←cy]at h1;exact ac0 _ _ ⟨n1,h1 n1 (anb _)⟩
section
abbrev tI:Ty:=.st (.pair .bool aqs)
abbrev tR:Ty:=.st (.pair tI tI)
abbrev tV:Ty:=.st (.pair tR tR)
abbrev tO:Ty:=.st (.pair tR (.pair tR tR))
abbrev tP:Ty:=.st (.pair tR (.pair tR (.pair tR (.pair tR tR))))
abbrev tQ:Ty:=.st (.pair tR (.pair tR (.pair tR (.pair tR (.pair tR tR)))))
abbrev tG:Ty:=.st (.pair aqt aqt)
abbrev BV:=BR×BR
abbrev BO3:=BR×BR×BR
abbrev BP:=BR×BR×BR×BR×BR
abbrev BQ:=BR×BR×BR×BR×BR×BR
abbrev hAd(a b:BR):BR:=hid (aj (ae a+ae b))
abbrev hSu(a b:BR):BR:=hid (aj (ae a-ae b))
abbrev hMu(a b:BR):BR:=hid (aj (ae a*ae b))
abbrev hDi(a b:BR):BR:=hid (aj (ae a/ae b))
abbrev hNe(a:BR):BR:=hid (aj (-ae a))
class Cod (α:Type) (A:outParam Type) where
 enc:α→A
 dec:A→α
 bd:Nat→α→Prop
 ok:Nat→A→Prop
 okD:∀k x,Decidable (ok k x)
 mono:∀j k x,j≤k→bd j x→bd k x
 dec_enc:∀x,dec (enc x)=x
 ok_enc:∀k x,k≤480000→bd k x→ok k (enc x)
 ok_dec:∀k x,ok k x→x=enc (dec x)∧bd k (dec x)
def enc{α A:Type}[Cod α A](x:α):A:=Cod.enc x
def dec{α A:Type}[Cod α A](x:A):α:=Cod.dec x
def ok(α:Type){A:Type}[Cod α A](k:Nat)(x:A):Prop:=Cod.ok (α:=α) k x
instance (α A:Type) [Cod α A] (k:Nat) (x:A):Decidable (ok α k x):=Cod.okD k x
theorem az{α A:Type}[Cod α A](x:α):dec (enc x)=x:=Cod.dec_enc x
class Bd {α A:Type} [Cod α A] (x:α) (k:outParam Nat):Prop where le:Cod.bd k x
theorem aB{α A:Type}[Cod α A]{k:Nat}{x:A}(h:ok α k x):∃v:α,x=enc v∧Bd v k:=⟨_,(Cod.ok_dec k x h).1,⟨(Cod.ok_dec k x h).2⟩⟩
theorem okd{α A:Type}[Cod α A]{x:α}{j k:Nat}[h:Bd x j](hj:j≤k)(hk:k≤480000):decide (ok α k (enc x))=true:=
 am5 (Cod.ok_enc k x hk (Cod.mono j k x hj h.le))
instance amv:Cod Rat BR where
 enc:=aj
 dec:=ae
 bd:=bdR
 ok k x:=okR x∧x.1.2.length≤k∧x.2.2.length≤k
 okD _ _:=instDecidableAnd
 mono _ _ _ hk h:=bK h hk
 dec_enc:=co
 ok_enc k _ hk h:=⟨qi h hk,h.1,h.2⟩
 ok_dec k x h:=by
  obtain⟨h1,h2,h3⟩:=h;refine⟨PM h1,?_⟩;obtain⟨e1,e2⟩:=cV h1;unfold bdR szI;rw[e1,e2];rw[iA h1.1]at h2;rw[iA h1.2.1]at h3;exact⟨h2,h3⟩
instance amH:Cod Int Int where
 enc x:=x
 dec x:=x
 bd _ x:=aH x
 ok _ x:=aH x
 okD _ _:=inferInstance
 mono _ _ _ _ h:=h
 dec_enc _:=rfl
 ok_enc _ _ _ h:=h
 ok_dec _ _ h:=⟨rfl,h⟩
instance akw:Cod Bool Bool where
 enc x:=x
 dec x:=x
 bd _ _:=True
 ok _ _:=True
 okD _ _:=inferInstance
 mono _ _ _ _ h:=h
 dec_enc _:=rfl
 ok_enc _ _ _ h:=h
 ok_dec _ _ h:=⟨rfl,h⟩
instance aky (α β A B:Type) [Cod α A] [Cod β B]:Cod (α×β) (A×B) where
 enc x:=(enc x.1,enc x.2)
 dec x:=(dec x.1,dec x.2)
 bd k x:=Cod.bd k x.1∧Cod.bd k x.2
 ok k x:=ok α k x.1∧ok β k x.2
 okD _ _:=instDecidableAnd
 mono _ _ _ hk h:=⟨Cod.mono _ _ _ hk h.1,Cod.mono _ _ _ hk h.2⟩
 dec_enc x:=by rw[az,az]
 ok_enc k _ hk h:=⟨Cod.ok_enc _ _ hk h.1,Cod.ok_enc _ _ hk h.2⟩
 ok_dec k x h:=⟨aoq (Cod.ok_dec k x.1 h.1).1 (Cod.ok_dec k x.2 h.2).1,(Cod.ok_dec k x.1 h.1).2,(Cod.ok_dec k x.2 h.2).2⟩
theorem nr{α:Type}{a b:α}(h:a=b):a=b:=h
theorem te{α β A B:Type}[Cod α A][Cod β B](x:α×β):(enc x).1=enc x.1:=nr rfl
theorem Br{α β A B:Type}[Cod α A][Cod β B](x:α×β):(enc x).2=enc x.2:=nr rfl
theorem aC{α β A B:Type}[Cod α A][Cod β B](x:α)(y:β):enc (x,y)=(enc x,enc y):=nr rfl
theorem dQ(q:Rat):enc q=aj q:=nr rfl
theorem Jw(x:BR):dec x=ae x:=nr rfl
theorem JH(q:Int):enc q=q:=nr rfl
theorem ES(q:Bool):enc q=q:=nr rfl
theorem JP{q:Rat}{j:Nat}[h:Bd q j](hj:j≤480000):decide (okR (aj q))=true:=am5 (qi h.le hj)
def mx(j k:Nat):Nat:=bif decide (j≤k)then k else j
theorem A7(j k:Nat):j≤mx j k:=by
 unfold mx;by_cases h:j≤k
 ·rw[am5 h];exact h
 ·rw[am7 h];exact anb _
theorem Cx(j k:Nat):k≤mx j k:=by
 unfold mx;by_cases h:j≤k
 ·rw[am5 h];exact anb _
 ·rw[am7 h];show k≤j;omega
theorem lX{q:Rat}{j k:Nat}[h:Bd q j](hj:j≤k)(hk:k≤480000):decide (ok Rat k (aj q))=true:=okd (x:=q) hj hk
section
variable {α β A B:Type} [Cod α A] [Cod β B]
instance aml {x:α×β} {k:Nat} [h:Bd x k]:Bd x.1 k:=⟨h.le.1⟩
instance aly {x:α×β} {k:Nat} [h:Bd x k]:Bd x.2 k:=⟨h.le.2⟩
instance amW {x:α} {y:β} {j k:Nat} [h:Bd x j] [h':Bd y k]:Bd (x,y) (mx j k):=⟨Cod.mono _ _ _ (A7 _ _) h.le,Cod.mono _ _ _ (Cx _ _) h'.le⟩
instance akv {b:Bool} {x y:α} {j k:Nat} [h:Bd x j] [h':Bd y k]:Bd (bif b then x else y) (mx j k):=by
 refine⟨?_⟩;cases b
 ·exact Cod.mono _ _ _ (Cx _ _) h'.le
 ·exact Cod.mono _ _ _ (A7 _ _) h.le
theorem Bd.mono{x:α}{j k:Nat}(h:Bd x j)(hk:j≤k):Bd x k:=⟨Cod.mono _ _ _ hk h.le⟩
end
section
variable {a b:Rat} {j k:Nat}
instance akL [h:Bd a j] [h':Bd b k]:Bd (a+b) (j+k+1):=⟨B9 h.le h'.le⟩
instance al1 [h:Bd a j] [h':Bd b k]:Bd (a-b) (j+k+1):=⟨We h.le h'.le⟩
instance amf [h:Bd a j] [h':Bd b k]:Bd (a*b) (j+k):=⟨CC h.le h'.le⟩
instance ak8 [h:Bd a j]:Bd (-a) j:=⟨wv h.le⟩
theorem nv(h:bdR k b):1≤k:=by
 have h1:=h.2;have h2:=GD (b.den:Int);have h3:=b.den_pos;rcases an0 k with e|e
 ·subst e;have:szI (b.den:Int)=0:=by omega
  rw[this]at h2;have:pw 0=1:=rfl;omega
 ·exact e
instance akY [h:Bd a j] [h':Bd b k]:Bd (a/b) (j+k):=by
 refine⟨?_⟩;by_cases h0:b=0
 ·subst h0;rw[apK,Rat.inv_zero,Rat.mul_zero];have:=nv h'.le;exact bK (j:=1) ⟨by decide+kernel,by decide+kernel⟩ (by omega)
 ·exact UC h.le h'.le h0
end
theorem bS{n:Int}(h:aH n):Bd (n:Rat) 3:=by
 refine⟨?_⟩;show bdR 3 (n:Rat);refine⟨?_,?_⟩
 ·rw[Rat.num_intCast];have:pw 3=1000000000000000000000000000:=by decide
  exact fu (by have:=h.1;omega) (by have:=h.2;omega)
 ·rw[Rat.den_intCast];exact fu (by decide) (by decide)
instance lS:Bd (0:Rat) 1:=⟨⟨by decide+kernel,by decide+kernel⟩⟩
theorem fe{x:BR}(h:okR x):∃q:Rat,x=aj q∧Bd q 480000:=⟨ae x,PM h,⟨BU h⟩⟩
def bh(a b:Rat×Rat):Rat×Rat:=(b.1-a.1,b.2-a.2)
def aY(a b:Rat×Rat):Rat:=a.1*b.1+a.2*b.2
instance akW {a b:Rat×Rat} {j k:Nat} [Bd a j] [Bd b k]:Bd (bh a b) (k+j+1):=
 ⟨(inferInstance:Bd (b.1-a.1) (k+j+1)).le,(inferInstance:Bd (b.2-a.2) (k+j+1)).le⟩
instance amz {a b:Rat×Rat} {j k:Nat} [Bd a j] [Bd b k]:Bd (aY a b) ((j+k)+(j+k)+1):=inferInstanceAs (Bd (a.1*b.1+a.2*b.2) _)
end
def Sm:List En:=[enK BW,enK AE,enK Mr,enF M7,enF Ox,enK M1,enK Oc,enK NO]
def RU(_k:KT):OLR:=og (decide (aH (1:Int))) (some [RV.d y2Y (ai (1:Int))])
def SF:Cn 170 []:=cn<|lf True [.d y2Y (ai 1)] fun _=>by
 refine aA Sm (RU) ⟨0,?_⟩;unfold RU;rw[dT (show aH 1 by decide)]
def Pn:List En:=enK SF::Sm
def Zh(x y:Bool×List Int)(_k:KT):OLR:=og (decide (okI y)) (match decide ((cC (ag y) 0)<0)with|true=>(og (decide (okI x)) (og (decide (okI y)) (og (decide (okI (ai (-ag x))∧okI (ai (-ag y)))) (og (decide (fy (ai (-ag x)) (ai ((Int.gcd (ag (ai (-ag x))) (ag (ai (-ag y))):Nat):Int)))) (og (decide (fy (ai (-ag y)) (ai ((Int.gcd (ag (ai (-ag x))) (ag (ai (-ag y))):Nat):Int)))) (some [RV.d (.st (.pair y2Y y2Y)) ((ai (ag (ai (-ag x))/ag (ai ((Int.gcd (ag (ai (-ag x))) (ag (ai (-ag y))):Nat):Int)))),(ai (ag (ai (-ag y))/ag (ai ((Int.gcd (ag (ai (-ag x))) (ag (ai (-ag y))):Nat):Int)))))]))))))|false=>(og (decide (okI x∧okI y)) (og (decide (fy x (ai ((Int.gcd (ag x) (ag y):Nat):Int)))) (og (decide (fy y (ai ((Int.gcd (ag x) (ag y):Nat):Int)))) (some [RV.d (.st (.pair y2Y y2Y)) ((ai (ag x/ag (ai ((Int.gcd (ag x) (ag y):Nat):Int)))),(ai (ag y/ag (ai ((Int.gcd (ag x) (ag y):Nat):Int)))))])))))
def X4:Cn 66 [y2Y,y2Y]:=cn fun(x y:Bool×List Int)=>lf (jR x y) [.d (.st (.pair y2Y y2Y)) (fw x y)] fun h=>by
 refine aA Pn (Zh x y) ⟨0,?_⟩;obtain⟨hx,hy,hne⟩:=h;have sx:=iZ hx;have sy:=iZ hy;have hgp:0<Int.gcd (ag x) (ag y):=Nat.pos_of_ne_zero fun e=>hne (Int.gcd_eq_zero_iff.1 e).2;have hgs:=NQ (a:=ag x) hne sy;have og:okI (ai ((Int.gcd (ag x) (ag y):Nat):Int)):=aV hgs;have o1:okI (ai (-ag x)):=aV (by rw[jf];exact sx);have o2:okI (ai (-ag y)):=aV (by rw[jf];exact sy);have ig:∀z:BI,okI z→fy z (ai ((Int.gcd (ag x) (ag y):Nat):Int)):=fun z hz=>⟨hz,og,by rw[dec_enc];omega⟩
 unfold Zh fw;rw[dT hy];rcases aoU hne with hn|hn
 ·rw[da hn,dT (show(-1:Int)<0 by decide),dT hx];simp only[dec_enc,Int.gcd_neg,Int.neg_gcd];rw[dT (show okI (ai (-ag x))∧okI (ai (-ag y)) from⟨o1,o2⟩),dT (ig _ o1),dT (ig _ o2),←Rat.neg_divInt_neg,nt (by omega),Int.gcd_neg,Int.neg_gcd]
 ·rw[cU hn,dF (show ¬(1:Int)<0 by decide)];simp only[dec_enc];rw[dT (show okI x∧okI y from⟨hx,hy⟩),dT (ig _ hx),dT (ig _ hy),nt hn]
def o9:List En:=enK X4::Pn
def LD(a:(Bool×List Int)×Bool×List Int)(_k:KT):OLR:=og (decide (okI a.1)) (some [RV.d aqt (cC (ag a.1) 0)])
def Mo(n:Int)(_k:KT):OLR:=og (decide (aH n)) (some [RV.d (.st (.pair y2Y y2Y)) ((ai n),(ai 1))])
def Ob(a b:(Bool×List Int)×Bool×List Int)(_k:KT):OLR:=og (decide (okI a.1∧okI b.2)) (og (decide (okI b.1∧okI a.2)) (og (decide (okI (ai (ag a.1*ag b.2))∧okI (ai (ag b.1*ag a.2)))) (some [RV.d aqt (cC (ag (ai (ag a.1*ag b.2))) (ag (ai (ag b.1*ag a.2))))])))
def N9(a b:(Bool×List Int)×Bool×List Int)(_k:KT):OLR:=og (decide (okI a.1∧okI b.2)) (og (decide (okI b.1∧okI a.2)) (og (decide (okI (ai (ag a.1*ag b.2))∧okI (ai (ag b.1*ag a.2)))) (og (decide (okI a.2∧okI b.2)) (og (decide (jR (ai (ag (ai (ag a.1*ag b.2))+ag (ai (ag b.1*ag a.2)))) (ai (ag a.2*ag b.2)))) (some [RV.d (.st (.pair y2Y y2Y)) (((fw (ai (ag (ai (ag a.1*ag b.2))+ag (ai (ag b.1*ag a.2)))) (ai (ag a.2*ag b.2))).1),((fw (ai (ag (ai (ag a.1*ag b.2))+ag (ai (ag b.1*ag a.2)))) (ai (ag a.2*ag b.2))).2))])))))
def Mm(a b:(Bool×List Int)×Bool×List Int)(_k:KT):OLR:=og (decide (okI a.1∧okI b.1)) (og (decide (okI a.2∧okI b.2)) (og (decide (jR (ai (ag a.1*ag b.1)) (ai (ag a.2*ag b.2)))) (some [RV.d (.st (.pair y2Y y2Y)) (((fw (ai (ag a.1*ag b.1)) (ai (ag a.2*ag b.2))).1),((fw (ai (ag a.1*ag b.1)) (ai (ag a.2*ag b.2))).2))])))
def QB(a:(Bool×List Int)×Bool×List Int)(_k:KT):OLR:=og (decide (okI a.1)) (some [RV.d (.st (.pair y2Y y2Y)) ((ai (-ag a.1)),a.2)])
def Na(x y:Bool×List Int)(_k:KT):OLR:=og (decide (okI y)) (match(cC (ag y) 0)==0 with|true=>some [RV.d (.st (.pair y2Y y2Y)) ((false,[]),(false,[])),RV.d aqt 6]|false=>(og (decide (jR x y)) (some [RV.d (.st (.pair y2Y y2Y)) (((fw x y).1),((fw x y).2)),RV.d aqt 0])))
def adf:Cn 347 [y2Y,y2Y]:=cn fun(x y:Bool×List Int)=>lf (jR x y) [.d (.st (.pair y2Y y2Y)) (fw x y),.d aqt 0] fun h=>by
 refine aA o9 (Na x y) ⟨0,?_⟩;obtain⟨hx,hy,hne⟩:=h
 have hnz:(cC (ag y) 0==0)=false:=by
  rcases aoU hne with h|h
  ·rw[da h];rfl
  ·rw[cU h];rfl
 unfold Na;rw[dT hy,hnz,dT (show jR x y from⟨hx,hy,hne⟩)]
def Js:List En:=enK adf::o9
def Pd(a b:(Bool×List Int)×Bool×List Int)(_k:KT):OLR:=match decide (okI a.1∧okI b.2)with|true=>(match decide (okI a.2∧okI b.1)with|true=>(match decide (jR (ai (ag a.1*ag b.2)) (ai (ag a.2*ag b.1)))with|true=>some [RV.d (.st (.pair y2Y y2Y)) (((fw (ai (ag a.1*ag b.2)) (ai (ag a.2*ag b.1))).1),((fw (ai (ag a.1*ag b.2)) (ai (ag a.2*ag b.1))).2)),RV.d aqt 0]|false=>none)|false=>none)|false=>none
def iY:Cn 46 [(.st (.pair y2Y y2Y))]:=cn fun(a:(Bool×List Int)×Bool×List Int)=>lf (okR a) [.d aqt (aD (ae a) 0)] fun h=>by
 refine aA o9 (LD a) ⟨0,?_⟩;unfold LD;rw[dT h.1,←ux,(cV h).1]
def lj:Cn 68 [aqt]:=cn fun(n:Int)=>lf (aH n) [.d (.st (.pair y2Y y2Y)) (aj (n:Rat))] fun h=>by
 refine aA o9 (Mo n) ⟨0,?_⟩;unfold Mo aj;rw[dT h,Rat.num_intCast,Rat.den_intCast];rfl
def qf:Cn 75 [(.st (.pair y2Y y2Y)),(.st (.pair y2Y y2Y))]:=cn fun(a b:(Bool×List Int)×Bool×List Int)=>lf (okR a∧okR b) [.d aqt (aD (ae a) (ae b))] fun h=>by
 refine aA o9 (Ob a b) ⟨0,?_⟩;obtain⟨ha,hb⟩:=h;obtain⟨a1,a2⟩:=cV ha;obtain⟨b1,b2⟩:=cV hb;obtain⟨sa1,sa2⟩:=gk ha;obtain⟨sb1,sb2⟩:=gk hb;have h1:=cW sa1 sb2;have h2:=cW sb1 sa2;unfold Ob;rw[dT (show okI a.1∧okI b.2 from⟨ha.1,hb.2.1⟩),dT (show okI b.1∧okI a.2 from⟨hb.1,ha.2.1⟩),dT (show okI (ai (ag a.1*ag b.2))∧okI (ai (ag b.1*ag a.2)) from⟨aV (by omega),aV (by omega)⟩),dec_enc,dec_enc,←a1,←a2,←b1,←b2,yL]
def pI:Cn 131 [(.st (.pair y2Y y2Y))]:=cn fun(a:(Bool×List Int)×Bool×List Int)=>lf (okR a) [.d (.st (.pair y2Y y2Y)) (aj (-ae a))] fun h=>by
 refine aA o9 (QB a) ⟨0,?_⟩;obtain⟨a1,a2⟩:=cV h;unfold QB
 have e:aj (-ae a)=(ai (-ag a.1),a.2):=by
  unfold aj;rw[Rat.neg_num,a1,show((-ae a).den:Int)=((ae a).den:Int) from rfl,a2,←iA h.2.1]
 rw[dT h.1,e]
def lY:Cn 22 [(.st (.pair y2Y y2Y)),(.st (.pair y2Y y2Y))]:=cn fun(a b:(Bool×List Int)×Bool×List Int)=>lf (okR a∧okR b) [.d (.st (.pair y2Y y2Y)) (aj (ae a+ae b))] fun h=>by
 refine aA o9 (N9 a b) ⟨0,?_⟩;obtain⟨ha,hb⟩:=h;obtain⟨a1,a2⟩:=cV ha;obtain⟨b1,b2⟩:=cV hb;obtain⟨sa1,sa2⟩:=gk ha;obtain⟨sb1,sb2⟩:=gk hb;have pa:=ha.2.2.1;have pb:=hb.2.2.1;have h1:=cW sa1 sb2;have h2:=cW sb1 sa2;have h3:=cW sa2 sb2;have h4:=v7 h1 h2;have hda:ae a=Rat.divInt (ag a.1) (ag a.2):=by rw[←a1,←a2,aoa]
 have hdb:ae b=Rat.divInt (ag b.1) (ag b.2):=by rw[←b1,←b2,aoa]
 unfold N9;rw[dT (show okI a.1∧okI b.2 from⟨ha.1,hb.2.1⟩),dT (show okI b.1∧okI a.2 from⟨hb.1,ha.2.1⟩),dT (show okI (ai (ag a.1*ag b.2))∧okI (ai (ag b.1*ag a.2)) from⟨aV (by omega),aV (by omega)⟩),dT (show okI a.2∧okI b.2 from⟨ha.2.1,hb.2.1⟩)];simp only[dec_enc];rw[dT (show jR (ai (ag a.1*ag b.2+ag b.1*ag a.2)) (ai (ag a.2*ag b.2)) from⟨aV (by omega),aV (by omega),by rw[dec_enc];exact apI (by omega) (by omega)⟩)]
 have e:fw (ai (ag a.1*ag b.2+ag b.1*ag a.2)) (ai (ag a.2*ag b.2))=aj (ae a+ae b):=by
  unfold fw;rw[dec_enc,dec_enc,hda,hdb,Rat.divInt_add_divInt _ _ (by omega) (by omega)]
 rw[e]
def mh:Cn 161 [(.st (.pair y2Y y2Y)),(.st (.pair y2Y y2Y))]:=cn fun(a b:(Bool×List Int)×Bool×List Int)=>lf (okR a∧okR b) [.d (.st (.pair y2Y y2Y)) (aj (ae a*ae b))] fun h=>by
 refine aA o9 (Mm a b) ⟨0,?_⟩;obtain⟨ha,hb⟩:=h;obtain⟨a1,a2⟩:=cV ha;obtain⟨b1,b2⟩:=cV hb;obtain⟨sa1,sa2⟩:=gk ha;obtain⟨sb1,sb2⟩:=gk hb;have pa:=ha.2.2.1;have pb:=hb.2.2.1;have h1:=cW sa1 sb1;have h3:=cW sa2 sb2;have hda:ae a=Rat.divInt (ag a.1) (ag a.2):=by rw[←a1,←a2,aoa]
 have hdb:ae b=Rat.divInt (ag b.1) (ag b.2):=by rw[←b1,←b2,aoa]
 unfold Mm;rw[dT (show okI a.1∧okI b.1 from⟨ha.1,hb.1⟩),dT (show okI a.2∧okI b.2 from⟨ha.2.1,hb.2.1⟩),dT (show jR (ai (ag a.1*ag b.1)) (ai (ag a.2*ag b.2)) from⟨aV (by omega),aV (by omega),by rw[dec_enc];exact apI (by omega) (by omega)⟩)]
 have e:fw (ai (ag a.1*ag b.1)) (ai (ag a.2*ag b.2))=aj (ae a*ae b):=by
  unfold fw;rw[dec_enc,dec_enc,hda,hdb,apJ]
 rw[e]
def Gi:Cn 317 [(.st (.pair y2Y y2Y)),(.st (.pair y2Y y2Y))]:=cn fun(a b:(Bool×List Int)×Bool×List Int)=>lf (ij a b) [.d (.st (.pair y2Y y2Y)) (aj (ae a/ae b)),.d aqt 0] fun h=>by
 refine aA Js (Pd a b) ⟨0,?_⟩;obtain⟨ha,hb,hne⟩:=h;obtain⟨a1,a2⟩:=cV ha;obtain⟨b1,b2⟩:=cV hb;obtain⟨sa1,sa2⟩:=gk ha;obtain⟨sb1,sb2⟩:=gk hb;have pa:=ha.2.2.1;have h1:=cW sa1 sb2;have h3:=cW sa2 sb1;have hda:ae a=Rat.divInt (ag a.1) (ag a.2):=by rw[←a1,←a2,aoa]
 have hdb:ae b=Rat.divInt (ag b.1) (ag b.2):=by rw[←b1,←b2,aoa]
 have hmz:ag a.2*ag b.1≠0:=apI (by omega) hne;unfold Pd;rw[dT (show okI a.1∧okI b.2 from⟨ha.1,hb.2.1⟩),dT (show okI a.2∧okI b.1 from⟨ha.2.1,hb.1⟩)];simp only;rw[dT (show jR (ai (ag a.1*ag b.2)) (ai (ag a.2*ag b.1)) from⟨aV (by omega),aV (by omega),by rw[dec_enc];exact hmz⟩)]
 have e:fw (ai (ag a.1*ag b.2)) (ai (ag a.2*ag b.1))=aj (ae a/ae b):=by
  unfold fw;rw[dec_enc,dec_enc,hda,hdb,apK,Rat.inv_divInt,apJ]
 rw[e]
def QO:List En:=enK lY::enK pI::enK Gi::Js
def OA(a b:(Bool×List Int)×Bool×List Int)(_k:KT):OLR:=match decide (okR b)with|true=>(match decide (okR a∧okR (aj (-ae b)))with|true=>some [RV.d (.st (.pair y2Y y2Y)) (((aj (ae a+ae (aj (-ae b)))).1),((aj (ae a+ae (aj (-ae b)))).2))]|false=>none)|false=>none
def Of(a b:(Bool×List Int)×Bool×List Int)(_k:KT):OLR:=og (decide (ij a b)) (some [RV.d (.st (.pair y2Y y2Y)) (((aj (ae a/ae b)).1),((aj (ae a/ae b)).2))])
def n8:Cn 157 [(.st (.pair y2Y y2Y)),(.st (.pair y2Y y2Y))]:=cn fun(a b:(Bool×List Int)×Bool×List Int)=>lf (okR a∧okR b) [.d (.st (.pair y2Y y2Y)) (aj (ae a-ae b))] fun h=>by
 refine aA QO (OA a b) ⟨0,?_⟩;obtain⟨ha,hb⟩:=h;unfold OA;rw[dT hb,co,apy,dT (show okR a∧okR (aj (-ae b)) from⟨ha,qi (wv (BU hb)) (anb _)⟩)]
def Rf:Cn 314 [(.st (.pair y2Y y2Y)),(.st (.pair y2Y y2Y))]:=cn fun(a b:(Bool×List Int)×Bool×List Int)=>lf (ij a b) [.d (.st (.pair y2Y y2Y)) (aj (ae a/ae b))] fun h=>by
 refine aA QO (Of a b) ⟨0,?_⟩;unfold Of;rw[dT h]
theorem ir{a b:Rat}{j k:Nat}[ha:Bd a j][hb:Bd b k](hj:j≤480000)(hk:k≤480000)(h:b≠0):decide (ij (aj a) (aj b))=true:=
 am5 ⟨qi ha.le hj,qi hb.le hk,by show ag (ai b.num)≠0;rw[dec_enc];exact fun e=>h (Rat.num_eq_zero.1 e)⟩
theorem aO:type_of% @dR∧type_of% @c9∧type_of% @fa∧type_of% @bJ∧type_of% @az∧type_of% @te∧type_of% @Br∧type_of% @dQ∧type_of% @JH∧type_of% @ES∧type_of% @Jw∧type_of% @co∧type_of% @ahr∧type_of% @akg∧type_of% @afv∧type_of% @okd∧type_of% @lX∧type_of% @JP∧type_of% @ir∧type_of% @ao4∧type_of% @Bool.and_true∧type_of% @aoB∧type_of% @aoj∧type_of% @mx.eq_1∧type_of% @decide_true∧type_of% @decide_false∧(∀{α:Type} (a b:α),cond true a b=a)∧∀{α:Type} (a b:α),cond false a b=b:=
 ⟨@dR,@c9,@fa,@bJ,@az,@te,@Br,@dQ,@JH,@ES,@Jw,@co,@ahr,@akg,@afv,@okd,@lX,@JP,@ir,@ao4,@Bool.and_true,@aoB,@aoj,@mx.eq_1,@decide_true,@decide_false,@cond_true,@cond_false⟩
theorem au(a b:Rat):decide (aD a b>0)=decide (b<a):=by
 rcases(by grind:a<b∨a=b∨b<a)with h|h|h
 ·rw[dK h,am7 (show ¬b<a by grind)];rfl
 ·rw[h,d8,am7 (show ¬b<b by grind)];rfl
 ·rw[dp h,am5 h];rfl
theorem aq(a b:Rat):decide (aD a b<0)=decide (a<b):=by
 rcases(by grind:a<b∨a=b∨b<a)with h|h|h
 ·rw[dK h,am5 h];rfl
 ·rw[h,d8,am7 (show ¬b<b by grind)];rfl
 ·rw[dp h,am7 (show ¬a<b by grind)];rfl
theorem aik(a b:Rat):decide (aD a b≥0)=decide (b≤a):=by
 rcases(by grind:a<b∨a=b∨b<a)with h|h|h
 ·rw[dK h,am7 (show ¬b≤a by grind)];rfl
 ·rw[h,d8,am5 (show b≤b by grind)];rfl
 ·rw[dp h,am5 (show b≤a by grind)];rfl
theorem yK(a b:Rat):decide (aD a b≤0)=decide (a≤b):=by
 rcases(by grind:a<b∨a=b∨b<a)with h|h|h
 ·rw[dK h,am5 (show a≤b by grind)];rfl
 ·rw[h,d8,am5 (show b≤b by grind)];rfl
 ·rw[dp h,am7 (show ¬a≤b by grind)];rfl
theorem ao(a b:Rat):(aD a b==0)=decide (a=b):=by
 rcases(by grind:a<b∨a=b∨b<a)with h|h|h
 ·rw[dK h,am7 (show ¬a=b by grind)];rfl
 ·rw[h,d8,am5 rfl];rfl
 ·rw[dp h,am7 (show ¬a=b by grind)];rfl
theorem je(a b:Rat): -1≤aD a b∧aD a b≤1:=by
 rcases(by grind:a<b∨a=b∨b<a)with h|h|h
 ·rw[dK h];decide
 ·rw[h,d8];decide
 ·rw[dp h];decide
theorem qs{a b c d:Rat}:i64.wrap (aD a b*aD c d)=aD a b*aD c d:=by
 rcases(by grind:a<b∨a=b∨b<a)with h|h|h<;>rcases(by grind:c<d∨c=d∨d<c)with h'|h'|h';all_goals first|rw[dK h]|(subst h;rw[d8])|rw[dp h]
 all_goals first|rw[dK h']|(subst h';rw[d8])|rw[dp h']
 all_goals decide
def iS:eo:=spN false true [tR,tR] (fun x=>decide (okR x.1∧okR x.2.1)) (fun x=>[RV.d tR (hAd x.1 x.2.1)])
theorem fB:SpK 107 iS:=spX fun x h=>by simp only[bJ];exact H7 x.1 x.2.1 (am8 h)
def iE:eo:=spN false true [tR,tR] (fun x=>decide (okR x.1∧okR x.2.1)) (fun x=>[RV.d tR (hSu x.1 x.2.1)])
theorem ff:SpK 106 iE:=spX fun x h=>by simp only[bJ];exact TD x.1 x.2.1 (am8 h)
def gV:eo:=spN false true [tR,tR] (fun x=>decide (okR x.1∧okR x.2.1)) (fun x=>[RV.d tR (hMu x.1 x.2.1)])
theorem eU:SpK 108 gV:=spX fun x h=>by simp only[bJ];exact Um x.1 x.2.1 (am8 h)
def yo:eo:=spN false true [tR,tR] (fun x=>decide (ij x.1 x.2.1)) (fun x=>[RV.d tR (hDi x.1 x.2.1),RV.d aqt 0])
theorem sR:SpK 305 yo:=spX fun x h=>by simp only[bJ];exact Vj x.1 x.2.1 (am8 h)
def fM:eo:=spN true true [tR] (fun x=>decide (okR x.1)) (fun x=>[RV.d aqt (aD (ae x.1) 0)])
theorem dW:SpK 41 fM:=spX fun x h=>I7 x.1 (am8 h)
def mr:eo:=spN true true [tR,tR] (fun x=>decide (okR x.1∧okR x.2.1)) (fun x=>[RV.d aqt (aD (ae x.1) (ae x.2.1))])
theorem iu:SpK 73 mr:=spX fun x h=>S5 x.1 x.2.1 (am8 h)
def iy:eo:=spN false true [aqt] (fun x=>decide (aH x.1)) (fun x=>[RV.d tR (hid (aj (x.1:Rat)))])
theorem fi:SpK 99 iy:=spX fun x h=>by simp only[bJ];exact Wj x.1 (am8 h)
def EP:List En:=[⟨107,iS,fB⟩,⟨106,iE,ff⟩,⟨108,gV,eU⟩,⟨305,yo,sR⟩,⟨41,fM,dW⟩,⟨73,mr,iu⟩,⟨99,iy,fi⟩]
def Si:Cn 96 [tR,tR]:=cn fun(a b:BR)=>lf (okR a∧okR b) [.d tR (aj (ae a+ae b))] fun h=>jx [RV.d tR (hAd a b)] (du EP) h
def HQ:Cn 95 [tR,tR]:=cn fun(a b:BR)=>lf (okR a∧okR b) [.d tR (aj (ae a-ae b))] fun h=>jx [RV.d tR (hSu a b)] (du EP) h
def QX:Cn 97 [tR,tR]:=cn fun(a b:BR)=>lf (okR a∧okR b) [.d tR (aj (ae a*ae b))] fun h=>jx [RV.d tR (hMu a b)] (du EP) h
def aaC(a b:BR)(_k:KT):OLR:=og (decide (ij a b)) (match 0 !=0 with|true=>(og (decide (aH (0:Int))) (some [RV.d tR (hid (aj ((0:Int):Rat)))]))|false=>some [RV.d tR (hDi a b)])
def Nr:Cn 218 [tR,tR]:=cn fun(a b:BR)=>lf (ij a b) [.d tR (aj (ae a/ae b))] fun h=>by
 refine aA EP (aaC a b) ⟨0,?_⟩;unfold aaC;rw[dT h];simp only[bJ];rfl
def Yd:List En:=enL Si::enL HQ::enL QX::enL Nr::EP
def Z8(a b:BV)(_k:KT):OLR:=og (o2 b.1 a.1) (og (o2 b.2 a.2) (some [RV.d tV (hSu b.1 a.1,hSu b.2 a.2)]))
def amK:Cn 311 [tV,tV]:=cn fun(a b:BV)=>lf (ok (Rat×Rat) 1000 a∧ok (Rat×Rat) 1000 b) [.d tV (enc (bh (dec a) (dec b)))] fun h=>by
 refine aA Yd (Z8 a b) ⟨0,?_⟩;obtain⟨ha,hb⟩:=h;obtain⟨a,rfl,ba⟩:=aB ha;obtain⟨b,rfl,bb⟩:=aB hb;unfold Z8;simp only[aO,Nat.reduceLeDiff];try rfl
def aag(a b:BV)(_k:KT):OLR:=og (o2 a.1 b.1) (og (o2 a.2 b.2) (og (o2 (hMu a.1 b.1) (hMu a.2 b.2)) (some [RV.d tR (hAd (hMu a.1 b.1) (hMu a.2 b.2))])))
def aib:Cn 219 [tV,tV]:=cn fun(a b:BV)=>lf (ok (Rat×Rat) 5000 a∧ok (Rat×Rat) 5000 b) [.d tR (aj (aY (dec a) (dec b)))] fun h=>by
 refine aA Yd (aag a b) ⟨0,?_⟩;obtain⟨ha,hb⟩:=h;obtain⟨a,rfl,ba⟩:=aB ha;obtain⟨b,rfl,bb⟩:=aB hb;unfold aag;simp only[aO,Nat.reduceAdd,Nat.reduceLeDiff];try rfl
def JB:List En:=[enL lY,enL n8,enL mh,enL Rf,enT iY,enT qf,enL lj]
def PN:Cn 122 [tR,tR]:=cn fun(a b:BR)=>lf (okR a∧okR b) [.d tR (aj (ae a+ae b))] fun h=>jx [RV.d tR (hAd a b)] (du JB) h
def Ng:Cn 233 [tR,tR]:=cn fun(a b:BR)=>lf (okR a∧okR b) [.d tR (aj (ae a-ae b))] fun h=>jx [RV.d tR (hSu a b)] (du JB) h
def Q1:Cn 64 [tR,tR]:=cn fun(a b:BR)=>lf (okR a∧okR b) [.d tR (aj (ae a*ae b))] fun h=>jx [RV.d tR (hMu a b)] (du JB) h
def ZX:List En:=enL PN::enL Ng::enL Q1::JB
def aax(a b:BV)(_k:KT):OLR:=og (o2 b.1 a.1) (og (o2 b.2 a.2) (some [RV.d tV (hSu b.1 a.1,hSu b.2 a.2)]))
def WU:Cn 132 [tV,tV]:=cn fun(a b:BV)=>lf (ok (Rat×Rat) 1000 a∧ok (Rat×Rat) 1000 b) [.d tV (enc (bh (dec a) (dec b)))] fun h=>by
 refine aA ZX (aax a b) ⟨0,?_⟩;obtain⟨ha,hb⟩:=h;obtain⟨a,rfl,ba⟩:=aB ha;obtain⟨b,rfl,bb⟩:=aB hb;unfold aax;simp only[aO,Nat.reduceLeDiff];try rfl
def YK(a b:BV)(_k:KT):OLR:=og (o2 a.1 b.1) (og (o2 a.2 b.2) (og (o2 (hMu a.1 b.1) (hMu a.2 b.2)) (some [RV.d tR (hAd (hMu a.1 b.1) (hMu a.2 b.2))])))
def XR:Cn 160 [tV,tV]:=cn fun(a b:BV)=>lf (ok (Rat×Rat) 5000 a∧ok (Rat×Rat) 5000 b) [.d tR (aj (aY (dec a) (dec b)))] fun h=>by
 refine aA ZX (YK a b) ⟨0,?_⟩;obtain⟨ha,hb⟩:=h;obtain⟨a,rfl,ba⟩:=aB ha;obtain⟨b,rfl,bb⟩:=aB hb;unfold YK;simp only[aO,Nat.reduceAdd,Nat.reduceLeDiff];try rfl
abbrev Rt:=Rat×Rat×Rat
def gJ(a b m:Rat):Int:=RE.addS (aD a 0) (aD b 0*aD m 0) (aD (a*a) (b*b*m))
def BX(A B C D M N:Rat):Int:=bif decide (M<0)||decide (N<0)then 0
 else RE.addS (gJ A B M) (gJ C D M*aD N 0) (gJ (A*A+B*B*M-N*(C*C+D*D*M)) (2*(A*B-N*(C*D))) M)
def aW(x y:Rt):Int:=BX (x.1-y.1) x.2.1 (-y.2.1) 0 x.2.2 y.2.2
theorem ta(a b:Rat):aD (a-b) 0=aD a b:=by
 rcases(by grind:a<b∨a=b∨b<a)with h|h|h
 ·rw[dK h,dK (by grind)]
 ·rw[h,d8,show b-b=0 by grind,d8]
 ·rw[dp h,dp (by grind)]
namespace RE
def rq(m:Rat):RE:=vY (of m)
theorem eT(m:Rat):0≤rq m:=jD _
theorem cQ{m:Rat}(h:0≤m):rq m*rq m=of m:=sI (fx.2 h)
theorem Tt{x:RE}(h:0≤x):sg (vY x)=sg x:=by
 have h1:=jD x;have h2:=sI h;rcases fS h1 with h'|h'
 ·rw[dB h',←h2,dB (mul_pos h' h')]
 ·rw[h',mul_zero]at h2;rw[h',h2]
theorem RM{m:Rat}(h:0≤m):sg (rq m)=aD m 0:=by
 unfold rq;rw[Tt (fx.2 h),sg_of]
def v2(a b m:Rat):RE:=of a+of b*rq m
def vR(x:Rt):RE:=v2 x.1 x.2.1 x.2.2
theorem sq2(a b s:RE):a*a-b*s*(b*s)=a*a-b*b*(s*s):=by grind
theorem sq4(A B C D s t:RE):(A+B*s)*(A+B*s)-(C+D*s)*t*((C+D*s)*t)=A*A+B*B*(s*s)-t*t*(C*C+D*D*(s*s))+2*(A*B-t*t*(C*D))*s:=by grind
theorem aj0(A B C D s t:RE):A+B*s+(C+D*s)*t=A+B*s+C*t+D*(s*t):=by grind
theorem aeT(a b c d s t:RE):a-c+b*s+(-d)*t+0*(s*t)=a+b*s-(c+d*t):=by grind
theorem sgn2_re{a b m:Rat}(h:0≤m):gJ a b m=sg (v2 a b m):=by
 unfold v2;rw[Gv,sq2,cQ h,dA,sg_of,sg_of,RM h,←aG,←aG,←aG,←of_sub,sg_of,ta];rfl
theorem aeh:of 2=2:=rfl
def vQ(A B C D M N:Rat):RE:=of A+of B*rq M+of C*rq N+of D*(rq M*rq N)
theorem sgnQ_re{A B C D M N:Rat}(hM:0≤M)(hN:0≤N):BX A B C D M N=sg (vQ A B C D M N):=by
 unfold BX vQ;rw[am7 (by grind),am7 (by grind),←aj0,Gv,sq4,cQ hM,cQ hN,dA,RM hN,sgn2_re hM,sgn2_re hM,sgn2_re hM];unfold v2;simp only[of_sub,of_add,aG,aeh];rfl
theorem cmpT_re{x y:Rt}(hx:0≤x.2.2)(hy:0≤y.2.2):aW x y=sg (vR x-vR y):=by
 unfold aW vR v2;rw[sgnQ_re hx hy,←aeT,←of_sub,←of_neg];rfl
end RE
theorem BJ{s t:Int}(hs: -1≤s∧s≤1)(ht: -1≤t∧t≤1): -1≤s*t∧s*t≤1:=by
 have h1:s= -1∨s=0∨s=1:=by omega
 have h2:t= -1∨t=0∨t=1:=by omega
 rcases h1 with rfl|rfl|rfl<;>rcases h2 with rfl|rfl|rfl<;>decide
theorem JR{s t d:Int}(hs: -1≤s∧s≤1)(ht: -1≤t∧t≤1)(hd: -1≤d∧d≤1): -1≤RE.addS s t d∧RE.addS s t d≤1:=by
 unfold RE.addS;cases(t==0||s==t)
 ·cases s==0
  ·exact BJ hs hd
  ·exact ht
 ·exact hs
theorem lN(a b m:Rat): -1≤gJ a b m∧gJ a b m≤1:=JR (je _ _) (BJ (je _ _) (je _ _)) (je _ _)
theorem Iz(A B C D M N:Rat): -1≤BX A B C D M N∧BX A B C D M N≤1:=by
 unfold BX;cases(decide (M<0)||decide (N<0))
 ·exact JR (lN _ _ _) (BJ (lN _ _ _) (je _ _)) (lN _ _ _)
 ·exact⟨by show(-1:Int)≤0;decide,by show(0:Int)≤1;decide⟩
theorem wC(x y:Rt): -1≤aW x y∧aW x y≤1:=Iz _ _ _ _ _ _
end Go.Proofs.YtnkndpoojnflmaaGreat
end
