/- The reference's integers: parts. -/
import Derived.Test.YtnkndpoojnflmaaGreatA9
import Derived.Test.YtnkndpoojnflmaaGreatA8
noncomputable section
namespace Go.Proofs.YtnkndpoojnflmaaGreat
open Go.RowKit Go.IntKind
theorem aoE:type_of% @Prod.ext:=@Prod.ext
section
def CB(a b:List Int):Prop:=(can a∧a.length≤1000000)∧(can b∧b.length≤1000000)∧b≠[]
instance (a b:List Int):Decidable (CB a b):=by unfold CB;infer_instance
def O5:List En:=[enK xf,enK Br,enF BN,enF xp,enK WI,enK G3]
def Tf:NT:=[((264,30),{keep:=[8,9,10,11,12,13,14],pure_:=[(11,.int .u32)],hl:=1}),((264,67),{keep:=[8,9,10,11,12,13,14,16,17],pure_:=[(17,.int .u32)],hl:=1}),((264,90),{keep:=[8,11,12,18,19,20],hl:=2})]
def jS:Ctx:=CX (ens O5) Tf
def kB(a b:List Int)(x1 x2:Int)(s11:List Int)(s14:Int)(r0:List Int):Cfg:=⟨264,[.blk 0,.seq 82],[(8,.d apZ (u32.wrap (u64.wrap (Int.tdiv 1000000000 (u64.wrap ((u64.wrap x1)+1)))))),(9,.d apX (ah (val b*(u32.wrap (u64.wrap (Int.tdiv 1000000000 (u64.wrap ((u64.wrap x1)+1)))))).toNat)),(10,.d (.int .u64) (u64.wrap x2)),(11,.d apX s11),(12,.osl 0 1 ((0:Int).toNat) ((((ah (val a*(u32.wrap (u64.wrap (Int.tdiv 1000000000 (u64.wrap ((u64.wrap x1)+1)))))).toNat).length:Int):Int).toNat-(0:Int).toNat)),(13,.d apX (ah (val a*(u32.wrap (u64.wrap (Int.tdiv 1000000000 (u64.wrap ((u64.wrap x1)+1)))))).toNat)),(14,SI s14)],[.row 225 apZ r0],0,[]⟩
def fh(a b:List Int)(x1 x2:Int)(s11:List Int)(s14:Int)(r0:List Int)(x3 s16:Int)(s17:List Int):Cfg:=⟨264,[.blk 2,.seq 78,.blk 1,.seq 81,.lp 30,.blk 0,.seq 82],[(8,.d apZ (u32.wrap (u64.wrap (Int.tdiv 1000000000 (u64.wrap ((u64.wrap x1)+1)))))),(9,.d apX (ah (val b*(u32.wrap (u64.wrap (Int.tdiv 1000000000 (u64.wrap ((u64.wrap x1)+1)))))).toNat)),(10,.d (.int .u64) (u64.wrap x2)),(11,.d apX (ah (val (([x3])++s11)).toNat)),(12,.osl 0 1 ((0:Int).toNat) ((((ah (val a*(u32.wrap (u64.wrap (Int.tdiv 1000000000 (u64.wrap ((u64.wrap x1)+1)))))).toNat).length:Int):Int).toNat-(0:Int).toNat)),(13,.d apX (ah (val a*(u32.wrap (u64.wrap (Int.tdiv 1000000000 (u64.wrap ((u64.wrap x1)+1)))))).toNat)),(14,SI s14),(16,.d (.int .u64) s16),(17,.d apX s17)],[.row 225 apZ r0],0,[]⟩
def tX(a:List Int)(x1:Int)(s11 r0:List Int)(s18 s20:Int)(r1:List Int):Cfg:=⟨264,[.blk 4,.seq 105],[(8,.d apZ (u32.wrap (u64.wrap (Int.tdiv 1000000000 (u64.wrap ((u64.wrap x1)+1)))))),(11,.d apX s11),(12,.osl 0 1 ((0:Int).toNat) ((((ah (val a*(u32.wrap (u64.wrap (Int.tdiv 1000000000 (u64.wrap ((u64.wrap x1)+1)))))).toNat).length:Int):Int).toNat-(0:Int).toNat)),(18,.d (.int .u64) s18),(19,.own 1),(20,SI s20)],[.row 225 apZ r0,.row 225 apZ r1],0,[]⟩
def Hk(a b:List Int)(k:KT):OLR:=match decide ((a.length:Int)≤2)with|true=>(match decide ((b.length:Int)≤2)with|true=>(og (decide (t8 a)) (og (decide (t8 b)) (match decide (val b=(0:Int))with|true=>none|false=>(match decide (val b=(0:Int))with|true=>none|false=>(og (decide (iB (u64.wrap (Int.tdiv (val a) (val b))))) (og (decide (iB (Int.tmod (val a) (val b)))) (some [RV.d apX (ah (u64.wrap (Int.tdiv (val a) (val b))).toNat),RV.d apX (ah (Int.tmod (val a) (val b)).toNat)])))))))|false=>(match aS b (i64.wrap ((b.length:Int)-1))with|some x1=>(match decide (u64.wrap ((u64.wrap x1)+1)=(0:Int))with|true=>none|false=>(og (decide (byP b (u32.wrap (u64.wrap (Int.tdiv 1000000000 (u64.wrap ((u64.wrap x1)+1))))))) (match aS (ah (val b*(u32.wrap (u64.wrap (Int.tdiv 1000000000 (u64.wrap ((u64.wrap x1)+1)))))).toNat) (i64.wrap (((ah (val b*(u32.wrap (u64.wrap (Int.tdiv 1000000000 (u64.wrap ((u64.wrap x1)+1)))))).toNat).length:Int)-1))with|some x2=>(og (decide ((0:Int)≤i64.wrap ((a.length:Int)+1)∧(i64.wrap ((a.length:Int)+1))*((4:Nat):Int)≤140737488355328∧i64.wrap ((a.length:Int)+1)≤140737488355328)) (og (decide (byP a (u32.wrap (u64.wrap (Int.tdiv 1000000000 (u64.wrap ((u64.wrap x1)+1))))))) (og (decide ((0:Int)≤0∧0≤((ah (val a*(u32.wrap (u64.wrap (Int.tdiv 1000000000 (u64.wrap ((u64.wrap x1)+1)))))).toNat).length:Int)∧((ah (val a*(u32.wrap (u64.wrap (Int.tdiv 1000000000 (u64.wrap ((u64.wrap x1)+1)))))).toNat).length:Int)≤((List.replicate (i64.wrap ((a.length:Int)+1)).toNat (0:Int)).length:Int))) (k 30 (kB a b x1 x2 ([]) (i64.wrap (((ah (val a*(u32.wrap (u64.wrap (Int.tdiv 1000000000 (u64.wrap ((u64.wrap x1)+1)))))).toNat).length:Int)-1)) (List.replicate (i64.wrap ((a.length:Int)+1)).toNat (0:Int)))))))|none=>none)))|none=>none))|false=>(match aS b (i64.wrap ((b.length:Int)-1))with|some x1=>(match decide (u64.wrap ((u64.wrap x1)+1)=(0:Int))with|true=>none|false=>(og (decide (byP b (u32.wrap (u64.wrap (Int.tdiv 1000000000 (u64.wrap ((u64.wrap x1)+1))))))) (match aS (ah (val b*(u32.wrap (u64.wrap (Int.tdiv 1000000000 (u64.wrap ((u64.wrap x1)+1)))))).toNat) (i64.wrap (((ah (val b*(u32.wrap (u64.wrap (Int.tdiv 1000000000 (u64.wrap ((u64.wrap x1)+1)))))).toNat).length:Int)-1))with|some x2=>(og (decide ((0:Int)≤i64.wrap ((a.length:Int)+1)∧(i64.wrap ((a.length:Int)+1))*((4:Nat):Int)≤140737488355328∧i64.wrap ((a.length:Int)+1)≤140737488355328)) (og (decide (byP a (u32.wrap (u64.wrap (Int.tdiv 1000000000 (u64.wrap ((u64.wrap x1)+1))))))) (og (decide ((0:Int)≤0∧0≤((ah (val a*(u32.wrap (u64.wrap (Int.tdiv 1000000000 (u64.wrap ((u64.wrap x1)+1)))))).toNat).length:Int)∧((ah (val a*(u32.wrap (u64.wrap (Int.tdiv 1000000000 (u64.wrap ((u64.wrap x1)+1)))))).toNat).length:Int)≤((List.replicate (i64.wrap ((a.length:Int)+1)).toNat (0:Int)).length:Int))) (k 30 (kB a b x1 x2 ([]) (i64.wrap (((ah (val a*(u32.wrap (u64.wrap (Int.tdiv 1000000000 (u64.wrap ((u64.wrap x1)+1)))))).toNat).length:Int)-1)) (List.replicate (i64.wrap ((a.length:Int)+1)).toNat (0:Int)))))))|none=>none)))|none=>none)
theorem QQ(a b:List Int):RS jS 264 [.d apX a,.d apX b] (Hk a b):=rsX
def kI(a b:List Int)(x1 x2:Int)(s11:List Int)(s14:Int)(r0:List Int)(k:KT):OLR:=match decide (s14≥0)with|true=>(match aS (ah (val a*(u32.wrap (u64.wrap (Int.tdiv 1000000000 (u64.wrap ((u64.wrap x1)+1)))))).toNat) s14 with|some x3=>(og (decide ((([x3]).length+s11.length)*4≤140737488355328∧([x3]).length+s11.length≤140737488355328)) (og (decide (aR (([x3])++s11))) (match decide (((ah (val (([x3])++s11)).toNat).length:Int)>((ah (val b*(u32.wrap (u64.wrap (Int.tdiv 1000000000 (u64.wrap ((u64.wrap x1)+1)))))).toNat).length:Int))with|true=>(match aS (ah (val (([x3])++s11)).toNat) ((ah (val b*(u32.wrap (u64.wrap (Int.tdiv 1000000000 (u64.wrap ((u64.wrap x1)+1)))))).toNat).length:Int)with|some x4=>(match decide (((ah (val (([x3])++s11)).toNat).length:Int)≥((ah (val b*(u32.wrap (u64.wrap (Int.tdiv 1000000000 (u64.wrap ((u64.wrap x1)+1)))))).toNat).length:Int))with|true=>(match aS (ah (val (([x3])++s11)).toNat) (i64.wrap (((ah (val b*(u32.wrap (u64.wrap (Int.tdiv 1000000000 (u64.wrap ((u64.wrap x1)+1)))))).toNat).length:Int)-1))with|some x5=>(match decide (u64.wrap x2=(0:Int))with|true=>none|false=>(match decide ((u64.wrap (Int.tdiv (u64.wrap ((u64.wrap ((u64.wrap x4)*1000000000))+(u64.wrap x5))) (u64.wrap x2)))>999999999)with|true=>(og (decide (byP (ah (val b*(u32.wrap (u64.wrap (Int.tdiv 1000000000 (u64.wrap ((u64.wrap x1)+1)))))).toNat) (u32.wrap 999999999))) (k 67 (fh a b x1 x2 s11 s14 r0 x3 999999999 (ah (val (ah (val b*(u32.wrap (u64.wrap (Int.tdiv 1000000000 (u64.wrap ((u64.wrap x1)+1)))))).toNat)*(u32.wrap 999999999)).toNat))))|false=>(og (decide (byP (ah (val b*(u32.wrap (u64.wrap (Int.tdiv 1000000000 (u64.wrap ((u64.wrap x1)+1)))))).toNat) (u32.wrap (u64.wrap (Int.tdiv (u64.wrap ((u64.wrap ((u64.wrap x4)*1000000000))+(u64.wrap x5))) (u64.wrap x2)))))) (k 67 (fh a b x1 x2 s11 s14 r0 x3 (u64.wrap (Int.tdiv (u64.wrap ((u64.wrap ((u64.wrap x4)*1000000000))+(u64.wrap x5))) (u64.wrap x2))) (ah (val (ah (val b*(u32.wrap (u64.wrap (Int.tdiv 1000000000 (u64.wrap ((u64.wrap x1)+1)))))).toNat)*(u32.wrap (u64.wrap (Int.tdiv (u64.wrap ((u64.wrap ((u64.wrap x4)*1000000000))+(u64.wrap x5))) (u64.wrap x2))))).toNat))))))|none=>none)|false=>(match decide (u64.wrap x2=(0:Int))with|true=>none|false=>(match decide ((u64.wrap (Int.tdiv (u64.wrap ((u64.wrap x4)*1000000000)) (u64.wrap x2)))>999999999)with|true=>(og (decide (byP (ah (val b*(u32.wrap (u64.wrap (Int.tdiv 1000000000 (u64.wrap ((u64.wrap x1)+1)))))).toNat) (u32.wrap 999999999))) (k 67 (fh a b x1 x2 s11 s14 r0 x3 999999999 (ah (val (ah (val b*(u32.wrap (u64.wrap (Int.tdiv 1000000000 (u64.wrap ((u64.wrap x1)+1)))))).toNat)*(u32.wrap 999999999)).toNat))))|false=>(og (decide (byP (ah (val b*(u32.wrap (u64.wrap (Int.tdiv 1000000000 (u64.wrap ((u64.wrap x1)+1)))))).toNat) (u32.wrap (u64.wrap (Int.tdiv (u64.wrap ((u64.wrap x4)*1000000000)) (u64.wrap x2)))))) (k 67 (fh a b x1 x2 s11 s14 r0 x3 (u64.wrap (Int.tdiv (u64.wrap ((u64.wrap x4)*1000000000)) (u64.wrap x2))) (ah (val (ah (val b*(u32.wrap (u64.wrap (Int.tdiv 1000000000 (u64.wrap ((u64.wrap x1)+1)))))).toNat)*(u32.wrap (u64.wrap (Int.tdiv (u64.wrap ((u64.wrap x4)*1000000000)) (u64.wrap x2))))).toNat)))))))|none=>none)|false=>(match decide (((ah (val (([x3])++s11)).toNat).length:Int)≥((ah (val b*(u32.wrap (u64.wrap (Int.tdiv 1000000000 (u64.wrap ((u64.wrap x1)+1)))))).toNat).length:Int))with|true=>(match aS (ah (val (([x3])++s11)).toNat) (i64.wrap (((ah (val b*(u32.wrap (u64.wrap (Int.tdiv 1000000000 (u64.wrap ((u64.wrap x1)+1)))))).toNat).length:Int)-1))with|some x4=>(match decide (u64.wrap x2=(0:Int))with|true=>none|false=>(match decide ((u64.wrap (Int.tdiv (u64.wrap (0+(u64.wrap x4))) (u64.wrap x2)))>999999999)with|true=>(og (decide (byP (ah (val b*(u32.wrap (u64.wrap (Int.tdiv 1000000000 (u64.wrap ((u64.wrap x1)+1)))))).toNat) (u32.wrap 999999999))) (k 67 (fh a b x1 x2 s11 s14 r0 x3 999999999 (ah (val (ah (val b*(u32.wrap (u64.wrap (Int.tdiv 1000000000 (u64.wrap ((u64.wrap x1)+1)))))).toNat)*(u32.wrap 999999999)).toNat))))|false=>(og (decide (byP (ah (val b*(u32.wrap (u64.wrap (Int.tdiv 1000000000 (u64.wrap ((u64.wrap x1)+1)))))).toNat) (u32.wrap (u64.wrap (Int.tdiv (u64.wrap (0+(u64.wrap x4))) (u64.wrap x2)))))) (k 67 (fh a b x1 x2 s11 s14 r0 x3 (u64.wrap (Int.tdiv (u64.wrap (0+(u64.wrap x4))) (u64.wrap x2))) (ah (val (ah (val b*(u32.wrap (u64.wrap (Int.tdiv 1000000000 (u64.wrap ((u64.wrap x1)+1)))))).toNat)*(u32.wrap (u64.wrap (Int.tdiv (u64.wrap (0+(u64.wrap x4))) (u64.wrap x2))))).toNat))))))|none=>none)|false=>(match decide (u64.wrap x2=(0:Int))with|true=>none|false=>(match decide ((u64.wrap (Int.tdiv 0 (u64.wrap x2)))>999999999)with|true=>(og (decide (byP (ah (val b*(u32.wrap (u64.wrap (Int.tdiv 1000000000 (u64.wrap ((u64.wrap x1)+1)))))).toNat) (u32.wrap 999999999))) (k 67 (fh a b x1 x2 s11 s14 r0 x3 999999999 (ah (val (ah (val b*(u32.wrap (u64.wrap (Int.tdiv 1000000000 (u64.wrap ((u64.wrap x1)+1)))))).toNat)*(u32.wrap 999999999)).toNat))))|false=>(og (decide (byP (ah (val b*(u32.wrap (u64.wrap (Int.tdiv 1000000000 (u64.wrap ((u64.wrap x1)+1)))))).toNat) (u32.wrap (u64.wrap (Int.tdiv 0 (u64.wrap x2)))))) (k 67 (fh a b x1 x2 s11 s14 r0 x3 (u64.wrap (Int.tdiv 0 (u64.wrap x2))) (ah (val (ah (val b*(u32.wrap (u64.wrap (Int.tdiv 1000000000 (u64.wrap ((u64.wrap x1)+1)))))).toNat)*(u32.wrap (u64.wrap (Int.tdiv 0 (u64.wrap x2))))).toNat))))))))))|none=>none)|false=>(og (decide ((0:Int)≤(s11.length:Int)∧(s11.length:Int)*((4:Nat):Int)≤140737488355328∧(s11.length:Int)≤140737488355328)) (k 90 (tX a x1 s11 r0 0 (i64.wrap ((s11.length:Int)-1)) (List.replicate ((s11.length:Int)).toNat (0:Int)))))
theorem nZ(a b:List Int)(x1 x2:Int)(s11:List Int)(s14:Int)(r0:List Int):RN jS 30 (kB a b x1 x2 s11 s14 r0) (kI a b x1 x2 s11 s14 r0):=rnX
def nA(a b:List Int)(x1 x2:Int)(s11:List Int)(s14:Int)(r0:List Int)(x3 s16:Int)(s17:List Int)(k:KT):OLR:=og (decide (ru s17 (ah (val (([x3])++s11)).toNat))) (match decide ((cB (val s17) (val (ah (val (([x3])++s11)).toNat)))>0)with|true=>(og (decide (oB s17 (ah (val b*(u32.wrap (u64.wrap (Int.tdiv 1000000000 (u64.wrap ((u64.wrap x1)+1)))))).toNat))) (k 67 (fh a b x1 x2 s11 s14 r0 x3 (u64.wrap (s16-1)) (ah (val s17-val (ah (val b*(u32.wrap (u64.wrap (Int.tdiv 1000000000 (u64.wrap ((u64.wrap x1)+1)))))).toNat)).toNat))))|false=>(og (decide (oB (ah (val (([x3])++s11)).toNat) s17)) (match true,decide ((0:Int)≤s14∧s14<(((((ah (val a*(u32.wrap (u64.wrap (Int.tdiv 1000000000 (u64.wrap ((u64.wrap x1)+1)))))).toNat).length:Int):Int).toNat-(0:Int).toNat:Nat):Int))with|true,true=>(match true,r0[(0:Int).toNat+(s14).toNat]? with|true,some _=>k 30 (kB a b x1 x2 (ah (val (ah (val (([x3])++s11)).toNat)-val s17).toNat) (i64.wrap (s14-1)) (r0.set ((0:Int).toNat+(s14).toNat) (u32.wrap s16)))|_,_=>none)|_,_=>none)))
theorem rM(a b:List Int)(x1 x2:Int)(s11:List Int)(s14:Int)(r0:List Int)(x3 s16:Int)(s17:List Int):RN jS 67 (fh a b x1 x2 s11 s14 r0 x3 s16 s17) (nA a b x1 x2 s11 s14 r0 x3 s16 s17):=rnX
def rV(a:List Int)(x1:Int)(s11 r0:List Int)(s18 s20:Int)(r1:List Int)(k:KT):OLR:=match decide (s20≥0)with|true=>(match aS s11 s20 with|some x2=>(match decide (u64.wrap (u32.wrap (u64.wrap (Int.tdiv 1000000000 (u64.wrap ((u64.wrap x1)+1)))))=(0:Int))with|true=>none|false=>(match aS r1 s20 with|some _=>(match true,r1[(s20).toNat]? with|true,some _=>(match decide (u64.wrap (u32.wrap (u64.wrap (Int.tdiv 1000000000 (u64.wrap ((u64.wrap x1)+1)))))=(0:Int))with|true=>none|false=>k 90 (tX a x1 s11 r0 (Int.tmod (u64.wrap ((u64.wrap (s18*1000000000))+(u64.wrap x2))) (u64.wrap (u32.wrap (u64.wrap (Int.tdiv 1000000000 (u64.wrap ((u64.wrap x1)+1))))))) (i64.wrap (s20-1)) (r1.set ((s20).toNat) (u32.wrap (u64.wrap (Int.tdiv (u64.wrap ((u64.wrap (s18*1000000000))+(u64.wrap x2))) (u64.wrap (u32.wrap (u64.wrap (Int.tdiv 1000000000 (u64.wrap ((u64.wrap x1)+1))))))))))))|_,_=>none)|none=>none))|none=>none)|false=>(og (decide (aR ((r0.drop ((0:Int).toNat)).take ((((ah (val a*(u32.wrap (u64.wrap (Int.tdiv 1000000000 (u64.wrap ((u64.wrap x1)+1)))))).toNat).length:Int):Int).toNat-(0:Int).toNat)))) (og (decide (aR r1)) (some [RV.d apX (ah (val ((r0.drop ((0:Int).toNat)).take ((((ah (val a*(u32.wrap (u64.wrap (Int.tdiv 1000000000 (u64.wrap ((u64.wrap x1)+1)))))).toNat).length:Int):Int).toNat-(0:Int).toNat))).toNat),RV.d apX (ah (val r1).toNat)])))
theorem xW(a:List Int)(x1:Int)(s11 r0:List Int)(s18 s20:Int)(r1:List Int):RN jS 90 (tX a x1 s11 r0 s18 s20 r1) (rV a x1 s11 r0 s18 s20 r1):=rnX
def qsc(x1:Int):Int:=u32.wrap (u64.wrap (Int.tdiv 1000000000 (u64.wrap ((u64.wrap x1)+1))))
theorem gC(x1:Int):u32.wrap (u64.wrap (Int.tdiv 1000000000 (u64.wrap ((u64.wrap x1)+1))))=qsc x1:=by
 have h:∀y,qsc x1=y→y=qsc x1:=fun y e=>e.symm;exact h _ rfl
theorem adP{x:Int}(h1:1≤x)(h2:x<1000000000):qsc x=1000000000/(x+1)∧1≤qsc x∧qsc x<1000000000:=by
 have h3:1≤1000000000/(x+1):=Int.le_ediv_of_mul_le (by omega) (by omega);have h4:1000000000/(x+1)<1000000000:=an8 (by omega) (by omega);grind [qsc,bG,da]
theorem FH{v:Int}(h:0<v):∃(n:Nat) (x:Int),(ah v.toNat).length=n+1∧(ah v.toNat)[n]?=some x∧1≤x∧x<1000000000∧x*pw n≤v:=by
 have hne:ah v.toNat≠[]:=fun e=>by rw[gV]at e;omega
 rcases List.eq_nil_or_concat (ah v.toNat)with h0|⟨l,x,hx⟩
 ·grind
 ·have hv:=bj v.toNat
  have hc:=d9 v.toNat
  have hl:=cd v.toNat
  rw[List.concat_eq_append]at hx;rw[hx]at hv hc hl;have hxx:=hl x (by simp);have hx0:x≠0:=fun e=>hc.2 (by simp[e]);have hln:=aQ (l:=l) (fun y hy=>hl y (by simp[hy]));rw[dw]at hv;simp only[val]at hv;refine⟨l.length,x,by rw[hx];simp,by rw[hx];simp,by omega,hxx.2,?_⟩;grind
section
variable (a b:List Int) (x1 x2:Int) (V:Int) (hV:val b*qsc x1=V) (hs:1≤qsc x1∧qsc x1<1000000000) (hp:0<V) (hra:(ah (val a*qsc x1).toNat).length≤a.length+1) (ha:Lim a∧a.length≤1000000) (hL:(ah V.toNat).length≤1000001)
theorem OV(hs:1≤qsc x1∧qsc x1<1000000000)(l r0:List Int)(hl:Lim l∧l.length≤2000000)(hr0:aR r0)(hz0:∀k (hk:k<r0.length),(ah (val a*qsc x1).toNat).length≤k→r0[k]=0):∀(n:Nat) (c:Int) (r:List Int),n≤l.length→0≤c→c<qsc x1→Lim r→r.length=l.length→(∀k (hk:k<r.length),k<n→r[k]=0)→qsc x1*val r+pw n*c+val (l.take n)=val l→
  jS.Runs 90 (tX a x1 l r0 c ((n:Int)-1) r) [.d apX (ah (val r0).toNat),.d apX (ah (val l/qsc x1).toNat)]:=by
 have hsa:=hl.2;have e64:u64.wrap (qsc x1)=qsc x1:=bG (by omega) (by omega);intro n;induction n with
 |zero=>
  intro c r hn c0 c1 hr hlen hz hv;simp only[nP,List.take_zero,val,anW,apN]at hv
  have e2:val l/qsc x1=val r:=by
   rw[←hv,apw,aop _ _ (by omega),anT c0 c1];omega
  have e3:=xe hz0;have e4:aR (r0.take (ah (val a*qsc x1).toNat).length):=⟨hr0.1.take _,by have:=hr0.2;rw[anp];omega⟩
  refine xW _ _ _ _ _ _ _ ⟨0,?_⟩;unfold rV;simp only[gC,Int.toNat_zero,aoi,aoj,Nat.sub_zero];rw[dF (by omega)];dsimp only;rw[dT e4,dT (show aR r from⟨hr,by omega⟩),e3,e2]
 |succ n ih=>
  intro c r hn c0 c1 hr hlen hz hv;have hna:n<l.length:=by omega
  have hnr:n<r.length:=by omega
  have xa:=hl.1.get hna;have hr0':=hz n hnr (by omega);have hcb:0≤c*1000000000+l[n]:=by omega
  have m0:=anM (c*1000000000+l[n]) (show qsc x1≠0 by omega);have m1:=anl (c*1000000000+l[n]) (show 0<qsc x1 by omega);have md:=ant (c*1000000000+l[n]) (qsc x1);have d0:0≤(c*1000000000+l[n])/qsc x1:=anH hcb (by omega)
  have d1:(c*1000000000+l[n])/qsc x1<1000000000:=by
   refine an8 (by omega) ?_;have:=amR (show c+1≤qsc x1 by omega) (show(0:Int)≤1000000000 by decide);rw[aoq 1000000000 (qsc x1)];omega
  obtain⟨q,hq⟩:=ih ((c*1000000000+l[n])%qsc x1) (r.set n ((c*1000000000+l[n])/qsc x1)) (by omega) m0 m1 (hr.set n ⟨d0,d1⟩) (by simpa using hlen)
   (fun k hk hkn=>by rw[an0 (by omega)];exact hz k (by simpa using hk) (by omega)) (by
    rw[fj hnr,hr0'];rw[a8 hna,cf]at hv;grind)
  refine xW _ _ _ _ _ _ _ ⟨q,?_⟩;unfold rV;simp only[gC];rw[show((n+1:Nat):Int)-1=(n:Int) by omega,dT (by omega),av l n,amF hna,e64,dF (show ¬qsc x1=0 by omega),av r n,aE,amF hnr];dsimp only;rw[bG (x:=c*1000000000) (by omega) (by omega),bG (x:=l[n]) (by omega) (by omega),bG (x:=c*1000000000+l[n]) (by omega) (by omega),gW hcb,jD hcb,bG (x:=(c*1000000000+l[n])/qsc x1) (by omega) (by omega),da (x:=(c*1000000000+l[n])/qsc x1) (by omega) (by omega),aT (x:=(n:Int)-1) (by omega) (by omega)];exact hq
include hV hp hL in
theorem F3{res:List RV}(i:Nat)(hi:i<(ah (val a*qsc x1).toNat).length)(r0 l:List Int)(hlr:r0.length=a.length+1)(hra:(ah (val a*qsc x1).toNat).length≤a.length+1)(x3 W:Int)(hW:val ([x3]++l)=W)(W0:0≤W)(hWl:(ah W.toNat).length≤1000002)
  (hout:jS.Runs 30 (kB a b x1 x2 (ah (W%V).toNat) ((i:Int)-1) (r0.set i (W/V))) res) (hi':(ah (val a*qsc x1).toNat).length≤2000000):
  ∀(d:Nat),d≤999999999→W<V*((d:Int)+1)→jS.Runs 67 (fh a b x1 x2 l (i:Int) r0 x3 (d:Int) (ah (V*(d:Int)).toNat)) res:=by
 intro d
 have hsz:∀e:Nat,e≤999999999→(ah (V*(e:Int)).toNat).length≤1000002:=fun e he=>by
  refine cG (anC (by omega) (by omega)) ?_
  have h1:V<pw 1000001:=by
   have:=b9 (cd V.toNat);rw[bj]at this;have:=dl hL;omega
  rw[cf 1000001];have h2:V*(e:Int)≤V*999999999:=amM (by omega) (by omega);omega
 induction d with
 |zero=>
  intro _ hd;obtain⟨q,hq⟩:=hout;have hWV:W<V:=by simpa using hd
  rw[aoR W0 hWV,anT W0 hWV]at hq;refine rM _ _ _ _ _ _ _ _ _ _ ⟨q,?_⟩;unfold nA;simp only[gC,hV,hW];rw[show(V*((0:Nat):Int)).toNat=0 by simp,dT (show ru (ah 0) (ah W.toNat) from⟨⟨d9 _,by decide⟩,d9 _,by omega⟩),bZ W0,wS,show val (ah 0)=0 from rfl,dF (show ¬W<0 by omega),dT (show oB (ah W.toNat) (ah 0) from⟨cH (by omega),cH (by decide),by rw[bZ W0];exact W0⟩)];dsimp only;rw[dT (show(0:Int)≤(i:Int)∧(i:Int)<((((ah (val a*qsc x1).toNat).length:Int).toNat-(0:Int).toNat:Nat):Int) by constructor<;>simp<;>omega)];rw[show(0:Int).toNat+((i:Int)).toNat=i by simp,amF (by omega)];dsimp only;rw[Int.sub_zero,aT (by omega) (by omega)];exact hq
 |succ d ih=>
  intro hd1 hd;have hc:((d+1:Nat):Int)=(d:Int)+1:=by omega
  rw[hc]at hd;have hV1:0≤V*((d:Int)+1):=anC (by omega) (by omega);have hV0:0≤V*(d:Int):=anC (by omega) (by omega);have hVd:V*((d:Int)+1)-V=V*(d:Int):=by grind
  have hs1:=hsz (d+1) (by omega);rw[hc]at hs1;have k1:=bj V.toNat
  by_cases hg:W<V*((d:Int)+1)
  ·obtain⟨q,hq⟩:=ih (by omega) hg;refine rM _ _ _ _ _ _ _ _ _ _ ⟨q,?_⟩;unfold nA;simp only[gC,hV,hW];rw[hc,dT (show ru (ah (V*((d:Int)+1)).toNat) (ah W.toNat) from⟨⟨d9 _,by omega⟩,d9 _,by omega⟩),bZ W0,bZ hV1,wS,dT hg,dT (show oB (ah (V*((d:Int)+1)).toNat) (ah V.toNat) from⟨cH (by omega),cH (by omega),by rw[bZ hV1,bZ (by omega)];omega⟩),bZ (v:=V) (by omega),hVd,bG (by omega) (by omega),show(d:Int)+1-1=(d:Int) by omega];exact hq
  ·obtain⟨q,hq⟩:=hout
   have e1:W/V=(d:Int)+1:=by
    have:W=(W-V*((d:Int)+1))+V*((d:Int)+1):=by omega
    rw[this,aop _ _ (by omega),anT (by omega) (by grind)];omega
   have e2:W%V=W-V*((d:Int)+1):=by
    have:=ant W V;rw[e1]at this;omega
   rw[e1,e2]at hq;refine rM _ _ _ _ _ _ _ _ _ _ ⟨q,?_⟩;unfold nA;simp only[gC,hV,hW];rw[hc,dT (show ru (ah (V*((d:Int)+1)).toNat) (ah W.toNat) from⟨⟨d9 _,by omega⟩,d9 _,by omega⟩),bZ W0,bZ hV1,wS,dF hg,dT (show oB (ah W.toNat) (ah (V*((d:Int)+1)).toNat) from⟨cH (by omega),cH (by omega),by rw[bZ hV1,bZ W0];omega⟩)];dsimp only;rw[dT (show(0:Int)≤(i:Int)∧(i:Int)<((((ah (val a*qsc x1).toNat).length:Int).toNat-(0:Int).toNat:Nat):Int) by constructor<;>simp<;>omega)];rw[show(0:Int).toNat+((i:Int)).toNat=i by simp,amF (by omega)];dsimp only;rw[aT (by omega) (by omega),da (by omega) (by omega)];exact hq
end
end
section
def qs(k:Nat→Cfg→OLR)(a b:List Int)(x1 x2:Int)(s11:List Int)(s14:Int)(r0:List Int)(x3 H:Int):OLR:=match decide (u64.wrap x2=(0:Int))with|true=>none|false=>(match decide ((u64.wrap (Int.tdiv H (u64.wrap x2)))>999999999)with|true=>(og (decide (byP (ah (val b*(u32.wrap (u64.wrap (Int.tdiv 1000000000 (u64.wrap ((u64.wrap x1)+1)))))).toNat) (u32.wrap 999999999))) (k 67 (fh a b x1 x2 s11 s14 r0 x3 999999999 (ah (val (ah (val b*(u32.wrap (u64.wrap (Int.tdiv 1000000000 (u64.wrap ((u64.wrap x1)+1)))))).toNat)*(u32.wrap 999999999)).toNat))))|false=>(og (decide (byP (ah (val b*(u32.wrap (u64.wrap (Int.tdiv 1000000000 (u64.wrap ((u64.wrap x1)+1)))))).toNat) (u32.wrap (u64.wrap (Int.tdiv H (u64.wrap x2)))))) (k 67 (fh a b x1 x2 s11 s14 r0 x3 (u64.wrap (Int.tdiv H (u64.wrap x2))) (ah (val (ah (val b*(u32.wrap (u64.wrap (Int.tdiv 1000000000 (u64.wrap ((u64.wrap x1)+1)))))).toNat)*(u32.wrap (u64.wrap (Int.tdiv H (u64.wrap x2))))).toNat)))))
theorem N6{W V H x p d:Int}(hx:1≤x)(hW:W<(H+1)*p)(hp:0<p)(hV:x*p≤V)(hd:H/x=d)(h0:0≤H):W<V*(d+1):=by
 have h1:=ant H x;have h2:=anl H (show 0<x by omega);have h3:0≤d:=by rw[←hd];exact anH h0 (by omega)
 have h4:H+1≤x*(d+1):=by grind
 have h5:=amR h4 (ank hp);have h6:=amR hV (show 0≤d+1 by omega);grind
theorem adn{A B s R q:Int}(hs:0<s)(h:A*s=R+B*s*q)(h0:0≤R)(h1:R<B*s):A/B=q∧A%B=R/s:=by
 have e:R=s*(A-B*q):=by grind
 have hm:R/s=A-B*q:=by rw[e];exact aoS _ (by omega)
 have m0:0≤A-B*q:=by
  apply amY;intro hc;have:=amM (show A-B*q≤ -1 by omega) (ank hs);omega
 have m1:A-B*q<B:=by
  apply amY;intro hc;have:=amM (show B≤A-B*q by omega) (ank hs);grind
 have hA:A=(A-B*q)+B*q:=by omega
 constructor
 ·rw[hA,aop _ _ (by omega),anT (by omega) (by omega)];omega
 ·rw[hm,hA,aoF,aoR (by omega) (by omega)];omega
section
variable (a b:List Int) (x1 x2:Int) (V:Int) (hV:val b*qsc x1=V) (hs:1≤qsc x1∧qsc x1<1000000000) (hp:0<V) (hra:(ah (val a*qsc x1).toNat).length≤a.length+1) (ha:Lim a∧a.length≤1000000) (hL:(ah V.toNat).length≤1000001)
include hV hs hp hra ha hL in
theorem GB(n:Nat)(hn:(ah V.toNat).length=n+1)(hx2:1≤x2∧x2<1000000000)(hxp:x2*pw n≤V):∀(i:Nat) (R:Int) (r0:List Int),i≤(ah (val a*qsc x1).toNat).length→0≤R→R<V→r0.length=a.length+1→Lim r0→
  (∀k (hk:k<r0.length),k<i→r0[k]=0)→(∀k (hk:k<r0.length),(ah (val a*qsc x1).toNat).length≤k→r0[k]=0)→val a*qsc x1=pw i*R+val ((ah (val a*qsc x1).toNat).take i)+V*val r0→
  jS.Runs 30 (kB a b x1 x2 (ah R.toNat) ((i:Int)-1) r0) [.d apX (ah (val a/val b).toNat),.d apX (ah (val a%val b).toNat)]:=by
 have hVp:V<pw 1000001:=by
  have:=b9 (cd V.toNat);rw[bj]at this;have:=dl hL;omega
 have ha2:=ha.2;intro i;induction i with
 |zero=>
  intro R r0 _ R0 RV hlr hl _ hz he;simp only[nP,List.take_zero,val,anW,apN]at he;rw[←hV]at he;obtain⟨e1,e2⟩:=adn (by omega) he R0 (by rw[hV];exact RV);have hRl:(ah R.toNat).length≤1000001:=cG R0 (by omega);obtain⟨q,hq⟩:=OV a x1 hs (ah R.toNat) r0 ⟨cd _,by omega⟩ ⟨hl,by omega⟩ hz (ah R.toNat).length 0 (List.replicate (ah R.toNat).length 0) (amK _) (by omega) (by omega) (Lim.rep _) (by simp) (fun k hk _=>by simp) (by simp[gJ]);rw[bZ R0,←e2,←e1]at hq;refine nZ _ _ _ _ _ _ _ ⟨q,?_⟩;unfold kI;rw[dF (by omega)];dsimp only;rw[dT (show(0:Int)≤((ah R.toNat).length:Int)∧((ah R.toNat).length:Int)*((4:Nat):Int)≤140737488355328∧((ah R.toNat).length:Int)≤140737488355328 from⟨by omega,by omega,by omega⟩),aE,aT (by omega) (by omega)];exact hq
 |succ i ih=>
  intro R r0 hi R0 RV hlr hl hz hz2 he;have hiU:i<(ah (val a*qsc x1).toNat).length:=by omega
  have hx:=(cd (val a*qsc x1).toNat).get hiU;have hir:i<r0.length:=by omega
  have hr0:=hz i hir (by omega)
  have hWv:val ([(ah (val a*qsc x1).toNat)[i]]++ah R.toNat)=(ah (val a*qsc x1).toNat)[i]+1000000000*R:=by
   rw[dw,bZ R0];simp[val,pw]
  generalize hxi:(ah (val a*qsc x1).toNat)[i]=x at hx hWv;have W0:0≤x+1000000000*R:=by omega
  have WV:x+1000000000*R<1000000000*V:=by omega
  have hWl:(ah (x+1000000000*R).toNat).length≤n+2:=by
   refine cG W0 ?_;have:=b9 (cd V.toNat);rw[bj,hn]at this;rw[cf (n+1)];omega
  have hRl:(ah R.toNat).length≤1000001:=cG R0 (by omega);have q0:0≤(x+1000000000*R)/V:=anH W0 (by omega);have q1:(x+1000000000*R)/V<1000000000:=an8 hp (by omega);have m0:=anM (x+1000000000*R) (show V≠0 by omega);have m1:=anl (x+1000000000*R) hp;have md:=ant (x+1000000000*R) V
  have hout:=ih ((x+1000000000*R)%V) (r0.set i ((x+1000000000*R)/V)) (by omega) m0 m1 (by simpa using hlr) (hl.set i ⟨q0,q1⟩)
   (fun k hk hk'=>by rw[an0 (by omega)];exact hz k (by simpa using hk) (by omega))
   (fun k hk hk'=>by rw[an0 (by omega)];exact hz2 k (by simpa using hk) hk') (by
    rw[fj hir,hr0];rw[a8 hiU,cf,hxi]at he;grind)
  have hdig:=F3 a b x1 x2 V hV hp hL i hiU r0 (ah R.toNat) hlr hra x (x+1000000000*R) hWv W0 (by omega) hout (by omega)
  have htail:∀H:Int,0≤H→H<1000000000000000000→x+1000000000*R<(H+1)*pw n→∃q,qs (jS.k q) a b x1 x2 (ah R.toNat) ((i:Int)) r0 x H=some [.d apX (ah (val a/val b).toNat),.d apX (ah (val a%val b).toNat)]:=by
   intro H H0 H1 HW;have d0:0≤H/x2:=anH H0 (by omega);have d1:H/x2≤H:=aov _ H0;have hbyV:∀d:Int,0≤d→d<1000000000→byP (ah V.toNat) d:=fun d h1 h2=>⟨⟨cd _,by omega⟩,h1,h2⟩
   by_cases hc:H/x2>999999999
   ·obtain⟨q,hq⟩:=hdig 999999999 (amK _) (by rw[show V*(((999999999:Nat):Int)+1)=1000000000*V by omega];exact WV);refine⟨q,?_⟩;unfold qs;simp only[gC,hV];rw[bG (x:=x2) (by omega) (by omega),dF (show ¬x2=0 by omega),gW H0,bG (x:=H/x2) (by omega) (by omega),dT hc,da (x:=999999999) (by decide) (by decide),dT (hbyV 999999999 (by decide) (by decide)),bZ (v:=V) (by omega)];exact hq
   ·obtain⟨q,hq⟩:=hdig (H/x2).toNat (by omega) (by rw[show(((H/x2).toNat:Nat):Int)=H/x2 by omega];exact N6 hx2.1 HW (cA n) hxp rfl H0)
    rw[show(((H/x2).toNat:Nat):Int)=H/x2 by omega]at hq;refine⟨q,?_⟩;unfold qs;simp only[gC,hV];rw[bG (x:=x2) (by omega) (by omega),dF (show ¬x2=0 by omega),gW H0,bG (x:=H/x2) (by omega) (by omega),dF hc,da (x:=H/x2) (by omega) (by omega),dT (hbyV (H/x2) (by omega) (by omega)),bZ (v:=V) (by omega)];exact hq
  have hWlim:=cd (x+1000000000*R).toNat
  have hWval:=bZ W0;have hsplit:=fY (ah (x+1000000000*R).toNat) n;have htl:=b9 (hWlim.take n)
  have hpre:∀H,val ((ah (x+1000000000*R).toNat).drop n)=H→x+1000000000*R<(H+1)*pw n:=by
   intro H hH;rw[hH,hWval]at hsplit;have hm:(ah (x+1000000000*R).toNat |>.take n).length≤n:=by rw[anp];omega
   have:=dl hm;rcases anj n (ah (x+1000000000*R).toNat).length with h|h
   ·rw[ans (by omega)]at hsplit;rw[Int.add_mul,aoq H,anW];omega
   ·rw[anz h]at hH;have hH0:H=0:=by rw[←hH];rfl
    subst hH0;rw[aoU]at hsplit;omega
  have hstep:∀(H:Int) (q:Nat),qs (jS.k q) a b x1 x2 (ah R.toNat) ((i:Int)) r0 x H=some [.d apX (ah (val a/val b).toNat),.d apX (ah (val a%val b).toNat)]→True:=fun _ _ _=>trivial;have hap:(([x]:List Int).length+(ah R.toNat).length)*4≤140737488355328∧([x]:List Int).length+(ah R.toNat).length≤140737488355328:=by simp only[am2];omega
  have hlS:aR ([x]++ah R.toNat):=⟨(Lim.cons ⟨hx.1,hx.2⟩ Lim.nil).append (cd _),by simp only[ana,am2];omega⟩
  have hw1:i64.wrap (((n+1:Nat):Int)-1)=((n:Nat):Int):=by rw[aT (by omega) (by omega)];omega
  rcases Nat.lt_trichotomy (ah (x+1000000000*R).toNat).length (n+1)with hc|hc|hc
  ·obtain⟨q,hq⟩:=htail 0 (by omega) (by omega) (hpre 0 (by rw[anz (by omega)];rfl));refine nZ _ _ _ _ _ _ _ ⟨q,?_⟩;unfold kI;rw[dT (show((i+1:Nat):Int)-1≥0 by omega),show((i+1:Nat):Int)-1=(i:Int) by omega,gC,av,amF hiU,hxi];dsimp only;rw[dT hap,dT hlS,hWv,hV,hn];rw[dF (show ¬((ah (x+1000000000*R).toNat).length:Int)>((n+1:Nat):Int) by omega),dF (show ¬((ah (x+1000000000*R).toNat).length:Int)≥((n+1:Nat):Int) by omega)];rw[←hV];exact hq
  ·have hget:(ah (x+1000000000*R).toNat)[n]?=some (ah (x+1000000000*R).toNat)[n]:=amF (by omega);have hxn:=hWlim.get (show n<(ah (x+1000000000*R).toNat).length by omega)
   have hdrop:val ((ah (x+1000000000*R).toNat).drop n)=(ah (x+1000000000*R).toNat)[n]:=by
    rw[gI (by omega),anz (by omega)];simp[val]
   obtain⟨q,hq⟩:=htail (ah (x+1000000000*R).toNat)[n] hxn.1 (by omega) (hpre _ hdrop);refine nZ _ _ _ _ _ _ _ ⟨q,?_⟩;unfold kI;rw[dT (show((i+1:Nat):Int)-1≥0 by omega),show((i+1:Nat):Int)-1=(i:Int) by omega,gC,av,amF hiU,hxi];dsimp only;rw[dT hap,dT hlS,hWv,hV,hn];rw[dF (show ¬((ah (x+1000000000*R).toNat).length:Int)>((n+1:Nat):Int) by omega),dT (show((ah (x+1000000000*R).toNat).length:Int)≥((n+1:Nat):Int) by omega),hw1,av (ah (x+1000000000*R).toNat) n,hget];dsimp only;rw[Int.zero_add,bG (x:=(ah (x+1000000000*R).toNat)[n]) (by omega) (by omega),bG (x:=(ah (x+1000000000*R).toNat)[n]) (by omega) (by omega)];rw[←hV];exact hq
  ·have hget:(ah (x+1000000000*R).toNat)[n]?=some (ah (x+1000000000*R).toNat)[n]:=amF (by omega);have hget1:(ah (x+1000000000*R).toNat)[n+1]?=some (ah (x+1000000000*R).toNat)[n+1]:=amF (by omega);have hxn:=hWlim.get (show n<(ah (x+1000000000*R).toNat).length by omega);have hxn1:=hWlim.get (show n+1<(ah (x+1000000000*R).toNat).length by omega)
   have hdrop:val ((ah (x+1000000000*R).toNat).drop n)=(ah (x+1000000000*R).toNat)[n+1]*1000000000+(ah (x+1000000000*R).toNat)[n]:=by
    rw[gI (by omega),gI (by omega),anz (by omega)];simp only[val];omega
   obtain⟨q,hq⟩:=htail ((ah (x+1000000000*R).toNat)[n+1]*1000000000+(ah (x+1000000000*R).toNat)[n]) (by omega) (by omega) (hpre _ hdrop);refine nZ _ _ _ _ _ _ _ ⟨q,?_⟩;unfold kI;rw[dT (show((i+1:Nat):Int)-1≥0 by omega),show((i+1:Nat):Int)-1=(i:Int) by omega,gC,av,amF hiU,hxi];dsimp only;rw[dT hap,dT hlS,hWv,hV,hn];rw[dT (show((ah (x+1000000000*R).toNat).length:Int)>((n+1:Nat):Int) by omega),av (ah (x+1000000000*R).toNat) (n+1),hget1];dsimp only;rw[dT (show((ah (x+1000000000*R).toNat).length:Int)≥((n+1:Nat):Int) by omega),hw1,av (ah (x+1000000000*R).toNat) n,hget];dsimp only;rw[bG (x:=(ah (x+1000000000*R).toNat)[n+1]) (by omega) (by omega),bG (x:=(ah (x+1000000000*R).toNat)[n+1]*1000000000) (by omega) (by omega),bG (x:=(ah (x+1000000000*R).toNat)[n]) (by omega) (by omega),bG (x:=(ah (x+1000000000*R).toNat)[n+1]*1000000000+(ah (x+1000000000*R).toNat)[n]) (by omega) (by omega)];rw[←hV];exact hq
end
end
def aeK:Cn 264 [apX,apX]:=cn fun(a b:List Int)=>lf (CB a b) [.d apX (ah (val a/val b).toNat),.d apX (ah (val a%val b).toNat)] fun h=>by
 refine c8 O5 (show jS.Res _ _ _ from ?_);obtain⟨⟨ha,sa⟩,⟨hb,sb⟩,hne⟩:=h;have a0:=aQ ha.1;have b0:0<val b:=eK hb hne;have hlen:=anm.2 hne;have la:=b9 ha.1;have lb:=b9 hb.1;by_cases hsm:a.length≤2∧b.length≤2
 ·have p2:pw 2=1000000000000000000:=by decide
  have m1:=dl hsm.1;have m2:=dl hsm.2;have q0:0≤val a/val b:=anH a0 (by omega);have q1:val a/val b≤val a:=aov _ a0;have r0:=anM (val a) (show val b≠0 by omega);have r1:=anl (val a) b0;refine QQ _ _ ⟨0,?_⟩;unfold Hk;rw[dT (show(a.length:Int)≤2 by omega),dT (show(b.length:Int)≤2 by omega),dT (show t8 a from⟨⟨ha.1,by omega⟩,by omega⟩),dT (show t8 b from⟨⟨hb.1,by omega⟩,by omega⟩),dF (show ¬val b=0 by omega),gW a0,jD a0,bG (x:=val a/val b) q0 (by omega),dT (show iB (val a/val b) from⟨q0,by omega⟩),dT (show iB (val a%val b) from⟨r0,by omega⟩)]
 ·obtain⟨n,hn⟩:∃n,b.length=n+1:=⟨b.length-1,by omega⟩
  have hbn:n<b.length:=by omega
  have ht:=uO hb hn;have hbl:=hb.1.get hbn;obtain⟨hs0,hs1,hs2⟩:=adP (x:=b[n]) ht hbl.2;have hVp:0<val b*qsc b[n]:=Int.mul_pos b0 (by omega)
  have hVl:(ah (val b*qsc b[n]).toNat).length≤1000001:=by
   refine cG (by omega) ?_;have h1:val b*qsc b[n]≤val b*999999999:=amM (by omega) (by omega);have h2:=dl sb;rw[cf 1000000];omega
  have hUl:(ah (val a*qsc b[n]).toNat).length≤a.length+1:=by
   refine cG (anC a0 (by omega)) ?_;have h1:val a*qsc b[n]≤val a*999999999:=amM (by omega) (by omega);rw[cf];omega
  obtain⟨m,x2,hm,hg,hx1,hx2,hxp⟩:=FH hVp
  obtain⟨q,hq⟩:=GB a b b[n] x2 (val b*qsc b[n]) rfl ⟨hs1,hs2⟩ hVp hUl ⟨ha.1,sa⟩ hVl m hm ⟨hx1,hx2⟩ hxp (ah (val a*qsc b[n]).toNat).length 0 (List.replicate (a.length+1) 0) (amK _) (by omega) hVp (by simp) (Lim.rep _) (fun k hk _=>by simp) (fun k hk _=>by simp) (by
   rw[anX,bZ (anC a0 (by omega)),gJ];omega)
  refine QQ _ _ ⟨q,?_⟩;have hw1:i64.wrap ((b.length:Int)-1)=(n:Int):=by rw[aT (by omega) (by omega)];omega
  have hx1w:¬u64.wrap (u64.wrap b[n]+1)=0:=by rw[bG (x:=b[n]) (by omega) (by omega),bG (by omega) (by omega)];omega
  have hbyb:byP b (qsc b[n]):=⟨⟨hb.1,by omega⟩,by omega,hs2⟩
  have hbya:byP a (qsc b[n]):=⟨⟨ha.1,by omega⟩,by omega,hs2⟩
  have hw2:i64.wrap (((m+1:Nat):Int)-1)=(m:Int):=by rw[aT (by omega) (by omega)];omega
  have hsub:(match aS b (i64.wrap ((b.length:Int)-1))with|some x1=>(match decide (u64.wrap ((u64.wrap x1)+1)=(0:Int))with|true=>none|false=>(match decide (byP b (qsc x1))with|true=>(match aS (ah (val b*(qsc x1)).toNat) (i64.wrap (((ah (val b*(qsc x1)).toNat).length:Int)-1))with|some x2=>(match decide ((0:Int)≤i64.wrap ((a.length:Int)+1)∧(i64.wrap ((a.length:Int)+1))*((4:Nat):Int)≤140737488355328∧i64.wrap ((a.length:Int)+1)≤140737488355328)with|true=>(match decide (byP a (qsc x1))with|true=>(match decide ((0:Int)≤0∧0≤((ah (val a*(qsc x1)).toNat).length:Int)∧((ah (val a*(qsc x1)).toNat).length:Int)≤((List.replicate (i64.wrap ((a.length:Int)+1)).toNat (0:Int)).length:Int))with|true=>(jS.k q) 30 (kB a b x1 x2 ([]) (i64.wrap (((ah (val a*(qsc x1)).toNat).length:Int)-1)) (List.replicate (i64.wrap ((a.length:Int)+1)).toNat (0:Int)))|false=>none)|false=>none)|false=>none)|none=>none)|false=>none))|none=>none)=some [.d apX (ah (val a/val b).toNat),.d apX (ah (val a%val b).toNat)]:=by
   rw[hw1,av,amF hbn];dsimp only;rw[dF hx1w,dT hbyb,hm,hw2,av,hg];dsimp only;rw[b8 (k:=a.length) (by omega),sB (n:=a.length+1) (by omega),dT hbya,aE,apa,dT (show(0:Int)≤0∧(0:Int)≤((ah (val a*qsc b[n]).toNat).length:Int)∧((ah (val a*qsc b[n]).toNat).length:Int)≤((a.length+1:Nat):Int) from⟨by omega,by omega,by omega⟩),aT (x:=((ah (val a*qsc b[n]).toNat).length:Int)-1) (by omega) (by omega)];exact hq
  unfold Hk;by_cases h1:a.length≤2
  ·rw[dT (show(a.length:Int)≤2 by omega),dF (show ¬(b.length:Int)≤2 by omega)];exact hsub
  ·rw[dF (show ¬(a.length:Int)≤2 by omega)];exact hsub
def Gf:List En:=[enK xf,enK Br,enF BN,enF xp,enK WI,enK G3,enK aeK,enK AN,enK acX,enK E0,enK BT]
def QJ(x y:Bool×List Int)(_k:KT):OLR:=let y1:=ah (val x.2/val y.2).toNat;let y2:=ah (val x.2%val y.2).toNat;let y3:=ai (cg (!(x.1==y.1)) (val y1));let y4:=ai (cg x.1 (val y2));let y5:OLR:=match decide ((y2.length:Int)>0)with|true=>(match !(x.1==y.1)with|true=>(og (decide (aG (1:Int))) (og (decide (okI y3∧okI (ai (1:Int)))) (og (decide (okI y4∧okI y)) (dup (.b .l .l) (some [RV.d y2Y (ai (ae y3-ae (ai (1:Int)))),RV.d y2Y (ai (ae y4+ae y)),RV.d apY 0])))))|false=>dup (.b .l .l) (some [RV.d y2Y y3,RV.d y2Y y4,RV.d apY 0]))|false=>dup (.b .l .l) (some [RV.d y2Y y3,RV.d y2Y y4,RV.d apY 0]);let y6:OLR:=match decide (aR y2)with|true=>y5|false=>none;match(y.2.length:Int)==0 with|true=>some [RV.d y2Y (false,[]),RV.d y2Y (false,[]),RV.d apY 6]|false=>(og (decide (CB x.2 y.2)) (cj (og (decide (aR y1)) (cj (og (decide (aR y2)) (dup (.b .l .l) y5)) (dup (.b (.b .l .l) (.b .l .l)) y6))) (dup (.b .l .l) (cj (og (decide (aR y1)) (dup (.b .l .l) y6)) (og (decide (aR y1)) y6)))))
def S2:NT:=[((165,6),{keep:=[4,5,6],pure_:=[(5,.int .u32),(6,.int .u32)],hl:=3}),((165,29),{keep:=[4,9,10],hl:=3})]
def ua:Ctx:=CX (ens Gf) S2
def se(x y:Bool×List Int)(s5 s6:List Int):Cfg:=⟨165,[.blk 0,.seq 17],[(4,.box 2 0),(5,.d apX s5),(6,.d apX s6)],[.box 29 [SB x.1,.d apX x.2],.box 29 [SB y.1,.d apX y.2],.box 29 [SB false,.nil]],0,[]⟩
def oK(x y:Bool×List Int)(s9 s10:Int):Cfg:=⟨165,[.blk 2,.seq 38],[(4,.box 2 0),(9,.d (.int .u64) s9),(10,.d (.int .u64) s10)],[.box 29 [SB x.1,.d apX x.2],.box 29 [SB y.1,.d apX y.2],.box 29 [SB false,.nil]],0,[]⟩
def ac4(x y:Bool×List Int)(k:KT):OLR:=k 6 (se x y x.2 y.2)
theorem aee(x y:Bool×List Int):RS ua 165 [.d y2Y x,.d y2Y y] (ac4 x y):=rsX
def qa(x y:Bool×List Int)(s5 s6:List Int)(k:KT):OLR:=match decide ((s6.length:Int)>0)with|true=>(match decide ((s5.length:Int)>2)with|true=>(og (decide (CB s5 s6)) (k 6 (se x y s6 (ah (val s5%val s6).toNat))))|false=>(match decide ((s6.length:Int)>2)with|true=>(og (decide (CB s5 s6)) (k 6 (se x y s6 (ah (val s5%val s6).toNat))))|false=>(match(s6.length:Int)==0 with|true=>(og (decide (aR s5)) (some [RV.d y2Y (ai (cg false (val s5)))]))|false=>(og (decide (t8 s5)) (og (decide (t8 s6)) (k 29 (oK x y (val s5) (val s6))))))))|false=>(match(s6.length:Int)==0 with|true=>(og (decide (aR s5)) (some [RV.d y2Y (ai (cg false (val s5)))]))|false=>(og (decide (t8 s5)) (og (decide (t8 s6)) (k 29 (oK x y (val s5) (val s6))))))
theorem uT(x y:Bool×List Int)(s5 s6:List Int):RL ua 6 (se x y s5 s6) (qa x y s5 s6):=rlX
def rK(x y:Bool×List Int)(s9 s10:Int)(k:KT):OLR:=match decide (s10>0)with|true=>(match decide (s10=(0:Int))with|true=>none|false=>k 29 (oK x y s10 (Int.tmod s9 s10)))|false=>(og (decide (iB s9)) (og (decide (aR (ah s9.toNat))) (some [RV.d y2Y (ai (cg false (val (ah s9.toNat))))])))
theorem yz(x y:Bool×List Int)(s9 s10:Int):RL ua 29 (oK x y s9 s10) (rK x y s9 s10):=rlX
def Ri:Cn 166 [y2Y,y2Y]:=cn fun(x y:Bool×List Int)=>lf (fv x y) [.d y2Y (ai (ae x/ae y)),.d y2Y (ai (ae x%ae y)),.d apY 0] fun h=>by
 refine aA Gf (QJ x y) ⟨0,?_⟩;obtain⟨hx,hy,hp⟩:=h;obtain⟨x0,x1,x2⟩:=cL hx;obtain⟨y0,y1,y2⟩:=cL hy;have sx:=hx.2.2;have sy:=hy.2.2
 have ey:y.1=false:=by
  cases e:y.1
  ·rfl
  ·rw[bO,e]at hp;simp only[cg,cond_true]at hp;omega
 have dy:ae y=val y.2:=by rw[bO,ey];rfl
 rw[dy]at hp;have hne:y.2≠[]:=fun e=>by rw[y2]at e;omega
 have hprt:CB x.2 y.2:=⟨⟨hx.1,sx⟩,⟨hy.1,sy⟩,hne⟩
 have hylen:=anm.2 hne;have r0:=anM (val x.2) (show val y.2≠0 by omega);have r1:=anl (val x.2) hp;have q0:0≤val x.2/val y.2:=anH x0 y0;have q1:val x.2/val y.2≤val x.2:=aov _ x0;have vx:=b9 hx.1.1;have vy:=b9 hy.1.1;have mx:=dl sx;have my:=dl sy;have szq:szI (val x.2/val y.2)≤1000000:=fk (by have:=cA 1000000;omega) (by omega);have szr:szI (val x.2%val y.2)≤1000000:=fk (by have:=cA 1000000;omega) (by omega);have lq:(ah (val x.2/val y.2).toNat).length≤1000000:=cG q0 (by omega);have lr:(ah (val x.2%val y.2).toNat).length≤1000000:=cG r0 (by omega);unfold QJ;simp only[eZ]
 rw[show((y.2.length:Int)==0)=false by simp;omega,dT hprt,dT (cH (n:=(val x.2/val y.2).toNat) (by omega)),dT (cH (n:=(val x.2%val y.2).toNat) (by omega)),dT (show aG 1 by decide),bZ q0,bZ r0,
  dT (show okI (ai (cg (!(x.1==y.1)) (val x.2/val y.2)))∧okI (ai (1:Int)) from⟨aV (by rw[Ck];exact szq),qA⟩),dT (show okI (ai (cg x.1 (val x.2%val y.2)))∧okI y from⟨aV (by rw[Ck];exact szr),hy⟩)]
 simp only[dec_enc,dy,cX];rw[bO x,ey]
 have hlen:(((ah (val x.2%val y.2).toNat).length:Int)>0)↔0<val x.2%val y.2:=by
  constructor
  ·intro hl;rcases am8 0 (val x.2%val y.2)with h|h
   ·exact h
   ·rw[show(val x.2%val y.2).toNat=0 by omega,fP]at hl;simp at hl
  ·intro hl;have:ah (val x.2%val y.2).toNat≠[]:=fun e=>by rw[gV]at e;omega
   have:=anm.2 this;omega
 obtain⟨n1,n2⟩:=Jk (a:=val x.2) (b:=val y.2) x0 hp;rcases am8 0 (val x.2%val y.2)with hr|hr
 ·rw[dT (hlen.2 hr)];cases x.1
  ·rfl
  ·obtain⟨e1,e2⟩:=n2 hr;simp only[cg,cond_true,Bool.not_false,show((true==false):Bool)=false from rfl];rw[e1,e2]
 ·rw[dF (fun h'=>by have:=hlen.1 h';omega)];dsimp only;have e0:val x.2%val y.2=0:=by omega
  cases x.1
  ·simp only[cg,cond_false,show((false==false):Bool)=true from rfl,Bool.not_true]
  ·obtain⟨e1,e2⟩:=n1 e0;simp only[cg,cond_true,Bool.not_false,show((true==false):Bool)=false from rfl];rw[e1,e2,e0];rfl
theorem KE(x y:BI)(B:Nat)(hB:(B:Int)<18446744073709551616):∀(v u:Nat),u≤B→v≤B→ua.RunsE 29 (oK x y (u:Int) (v:Int)) [.d y2Y (ai ((Nat.gcd u v:Nat):Int))]:=by
 intro v;induction v using Nat.strongRecOn with
 |ind v ih=>
  intro u hu hv;rcases anx v with h0|h0
  ·refine yz _ _ _ _ ⟨0,fun n _=>?_⟩;have hp:iB (u:Int):=⟨by omega,by omega⟩
   have hl:(ah u).length≤3:=dm (ao5 (show(u:Int)<18446744073709551616 by omega) (by decide));unfold rK;rw[dF (show ¬(v:Int)>0 by omega),dT hp,aoi,dT (cH (n:=u) (by omega)),bj,show Nat.gcd u v=u by rw[h0];exact Nat.gcd_zero_right u];rfl
  ·obtain⟨n0,hn⟩:=ih (u%v) (apv _ h0) v hv (amS (Nat.le_of_lt (apv _ h0)) hv);refine yz _ _ _ _ ⟨n0,fun n hn'=>?_⟩;unfold rK;rw[dT (show(v:Int)>0 by omega),dF (show ¬(v:Int)=0 by omega),jD (by omega)];dsimp only;rw[show((u:Int)%(v:Int))=((u%v:Nat):Int) by simp,aoJ u v,Nat.gcd_rec v u,aoJ];exact hn n hn'
theorem IU{u:Nat}(h:(ah u).length≤2):(u:Int)<1000000000000000000:=by
 have h1:=b9 (cd u);rw[bj]at h1;have h2:=dl h;grind [pw]
theorem KX(x y:BI):∀(v u:Nat),(ah u).length≤1000000→(ah v).length≤1000000→
  ua.RunsE 6 (se x y (ah u) (ah v)) [.d y2Y (ai ((Nat.gcd u v:Nat):Int))]:=by
 intro v;induction v using Nat.strongRecOn with
 |ind v ih=>
  intro u hu hv;rcases anx v with h0|h0
  ·refine uT _ _ _ _ ⟨0,fun n _=>?_⟩;unfold qa;rw[h0,Nat.gcd_zero_right,dF (show ¬((ah 0).length:Int)>0 by decide),show(((ah 0).length:Int)==0)=true by decide];dsimp only;rw[dT (cH (n:=u) (by omega)),bj];rfl
  ·have hne:ah v≠[]:=fun e=>by rw[gV]at e;omega
   have hl:=anm.2 hne;have hm:=apv u h0
   have hms:(ah (u%v)).length≤1000000:=dm (by
    have:=b9 (cd v);rw[bj]at this;have:=dl hv;omega)
   have hz:(((ah v).length:Int)==0)=false:=by simp;omega
   have hprt:CB (ah u) (ah v):=⟨⟨d9 _,hu⟩,⟨d9 _,hv⟩,hne⟩
   have hmod:(val (ah u)%val (ah v)).toNat=u%v:=by rw[bj,bj];omega
   by_cases hsm:(ah u).length≤2∧(ah v).length≤2
   ·have lu:=IU hsm.1;have lv:=IU hsm.2;obtain⟨n0,hn⟩:=KE x y 1000000000000000000 (by decide) v u (by omega) (by omega);refine uT _ _ _ _ ⟨n0,fun n hn'=>?_⟩;unfold qa;rw[dT (show((ah v).length:Int)>0 by omega),dF (show ¬((ah u).length:Int)>2 by omega),dF (show ¬((ah v).length:Int)>2 by omega),hz,dT (show t8 (ah u) from⟨cH (by omega),by rw[bj];omega⟩),dT (show t8 (ah v) from⟨cH (by omega),by rw[bj];omega⟩),bj,bj];exact hn n hn'
   ·obtain⟨n0,hn⟩:=ih (u%v) hm v hv hms;refine uT _ _ _ _ ⟨n0,fun n hn'=>?_⟩;have:=hn n hn';rw[show Nat.gcd v (u%v)=Nat.gcd u v by rw[aoJ u v,Nat.gcd_rec v u,aoJ]]at this;unfold qa;rw[dT (show((ah v).length:Int)>0 by omega),dT hprt,hmod];by_cases h2:(ah u).length≤2
    ·rw[dF (show ¬((ah u).length:Int)>2 by omega),dT (show((ah v).length:Int)>2 by omega)];exact this
    ·rw[dT (show((ah u).length:Int)>2 by omega)];exact this
def K8:Cn 165 [y2Y,y2Y]:=cn fun(x y:Bool×List Int)=>lf (okI x∧okI y) [.d y2Y (ai ((Int.gcd (ae x) (ae y):Nat):Int))] fun h=>by
 refine c8 Gf (show ua.Res _ _ _ from ?_);obtain⟨hx,hy⟩:=h;obtain⟨x0,_,_⟩:=cL hx;obtain⟨y0,_,_⟩:=cL hy;have ex:((ae x).natAbs:Int)=val x.2:=by rw[bO];unfold cg;cases x.1<;>simp<;>omega
 have ey:((ae y).natAbs:Int)=val y.2:=by rw[bO];unfold cg;cases y.1<;>simp<;>omega
 have cx:=pP hx.1;have cy:=pP hy.1;rw[show(val x.2).toNat=(ae x).natAbs by omega]at cx;rw[show(val y.2).toNat=(ae y).natAbs by omega]at cy;obtain⟨n1,h1⟩:=KX x y (ae y).natAbs (ae x).natAbs (by rw[←cx];exact hx.2.2) (by rw[←cy];exact hy.2.2);rw[←cx,←cy]at h1;exact aee _ _ ⟨n1,h1 n1 (amK _)⟩
section
abbrev tI:Ty:=.st (.pair .bool apX)
abbrev tR:Ty:=.st (.pair tI tI)
abbrev tV:Ty:=.st (.pair tR tR)
abbrev tO:Ty:=.st (.pair tR (.pair tR tR))
abbrev tP:Ty:=.st (.pair tR (.pair tR (.pair tR (.pair tR tR))))
abbrev tQ:Ty:=.st (.pair tR (.pair tR (.pair tR (.pair tR (.pair tR tR)))))
abbrev tG:Ty:=.st (.pair apY apY)
abbrev BV:=BR×BR
abbrev BO3:=BR×BR×BR
abbrev BP:=BR×BR×BR×BR×BR
abbrev BQ:=BR×BR×BR×BR×BR×BR
abbrev hAd(a b:BR):BR:=hid (ak (ag a+ag b))
abbrev hSu(a b:BR):BR:=hid (ak (ag a-ag b))
abbrev hMu(a b:BR):BR:=hid (ak (ag a*ag b))
abbrev hDi(a b:BR):BR:=hid (ak (ag a/ag b))
abbrev hNe(a:BR):BR:=hid (ak (-ag a))
class Cod (α:Type) (A:outParam Type) where
 enc:α→A
 dec:A→α
 bd:Nat→α→Prop
 ok:Nat→A→Prop
 okD:∀k x,Decidable (ok k x)
 mono:∀j k x,j≤k→bd j x→bd k x
 dec_enc:∀x,dec (enc x)=x
 ok_enc:∀k x,k≤480000→bd k x→ok k (enc x)
 ok_dec:∀k x,ok k x→x=enc (dec x)∧bd k (dec x)
def enc{α A:Type}[Cod α A](x:α):A:=Cod.enc x
def dec{α A:Type}[Cod α A](x:A):α:=Cod.dec x
def ok(α:Type){A:Type}[Cod α A](k:Nat)(x:A):Prop:=Cod.ok (α:=α) k x
instance (α A:Type) [Cod α A] (k:Nat) (x:A):Decidable (ok α k x):=Cod.okD k x
theorem az{α A:Type}[Cod α A](x:α):dec (enc x)=x:=Cod.dec_enc x
class Bd {α A:Type} [Cod α A] (x:α) (k:outParam Nat):Prop where le:Cod.bd k x
theorem aB{α A:Type}[Cod α A]{k:Nat}{x:A}(h:ok α k x):∃v:α,x=enc v∧Bd v k:=⟨_,(Cod.ok_dec k x h).1,⟨(Cod.ok_dec k x h).2⟩⟩
theorem okd{α A:Type}[Cod α A]{x:α}{j k:Nat}[h:Bd x j](hj:j≤k)(hk:k≤480000):decide (ok α k (enc x))=true:=
 amE (Cod.ok_enc k x hk (Cod.mono j k x hj h.le))
instance akB:Cod Rat BR where
 enc:=ak
 dec:=ag
 bd:=bdR
 ok k x:=okR x∧x.1.2.length≤k∧x.2.2.length≤k
 okD _ _:=instDecidableAnd
 mono _ _ _ hk h:=bJ h hk
 dec_enc:=ck
 ok_enc k _ hk h:=⟨ql h hk,h.1,h.2⟩
 ok_dec k x h:=by
  obtain⟨h1,h2,h3⟩:=h;refine⟨Qg h1,?_⟩;obtain⟨e1,e2⟩:=cS h1;unfold bdR szI;rw[e1,e2];rw[io h1.1]at h2;rw[io h1.2.1]at h3;exact⟨h2,h3⟩
instance amd:Cod Int Int where
 enc x:=x
 dec x:=x
 bd _ x:=aG x
 ok _ x:=aG x
 okD _ _:=inferInstance
 mono _ _ _ _ h:=h
 dec_enc _:=rfl
 ok_enc _ _ _ h:=h
 ok_dec _ _ h:=⟨rfl,h⟩
instance akm:Cod Bool Bool where
 enc x:=x
 dec x:=x
 bd _ _:=True
 ok _ _:=True
 okD _ _:=inferInstance
 mono _ _ _ _ h:=h
 dec_enc _:=rfl
 ok_enc _ _ _ h:=h
 ok_dec _ _ h:=⟨rfl,h⟩
instance akj (α β A B:Type) [Cod α A] [Cod β B]:Cod (α×β) (A×B) where
 enc x:=(enc x.1,enc x.2)
 dec x:=(dec x.1,dec x.2)
 bd k x:=Cod.bd k x.1∧Cod.bd k x.2
 ok k x:=ok α k x.1∧ok β k x.2
 okD _ _:=instDecidableAnd
 mono _ _ _ hk h:=⟨Cod.mono _ _ _ hk h.1,Cod.mono _ _ _ hk h.2⟩
 dec_enc x:=by rw[az,az]
 ok_enc k _ hk h:=⟨Cod.ok_enc _ _ hk h.1,Cod.ok_enc _ _ hk h.2⟩
 ok_dec k x h:=⟨aoE (Cod.ok_dec k x.1 h.1).1 (Cod.ok_dec k x.2 h.2).1,(Cod.ok_dec k x.1 h.1).2,(Cod.ok_dec k x.2 h.2).2⟩
theorem nr{α:Type}{a b:α}(h:a=b):a=b:=h
theorem tb{α β A B:Type}[Cod α A][Cod β B](x:α×β):(enc x).1=enc x.1:=nr rfl
theorem BF{α β A B:Type}[Cod α A][Cod β B](x:α×β):(enc x).2=enc x.2:=nr rfl
theorem aC{α β A B:Type}[Cod α A][Cod β B](x:α)(y:β):enc (x,y)=(enc x,enc y):=nr rfl
theorem dN(q:Rat):enc q=ak q:=nr rfl
theorem HM(x:BR):dec x=ag x:=nr rfl
theorem Jp(q:Int):enc q=q:=nr rfl
theorem EO(q:Bool):enc q=q:=nr rfl
theorem HO{q:Rat}{j:Nat}[h:Bd q j](hj:j≤480000):decide (okR (ak q))=true:=amE (ql h.le hj)
def mx(j k:Nat):Nat:=bif decide (j≤k)then k else j
theorem Cw(j k:Nat):j≤mx j k:=by
 unfold mx;by_cases h:j≤k
 ·rw[amE h];exact h
 ·rw[amG h];exact amK _
theorem BX(j k:Nat):k≤mx j k:=by
 unfold mx;by_cases h:j≤k
 ·rw[amE h];exact amK _
 ·rw[amG h];show k≤j;omega
theorem lN{q:Rat}{j k:Nat}[h:Bd q j](hj:j≤k)(hk:k≤480000):decide (ok Rat k (ak q))=true:=okd (x:=q) hj hk
section
variable {α β A B:Type} [Cod α A] [Cod β B]
instance al9 {x:α×β} {k:Nat} [h:Bd x k]:Bd x.1 k:=⟨h.le.1⟩
instance akU {x:α×β} {k:Nat} [h:Bd x k]:Bd x.2 k:=⟨h.le.2⟩
instance aml {x:α} {y:β} {j k:Nat} [h:Bd x j] [h':Bd y k]:Bd (x,y) (mx j k):=⟨Cod.mono _ _ _ (Cw _ _) h.le,Cod.mono _ _ _ (BX _ _) h'.le⟩
instance akk {b:Bool} {x y:α} {j k:Nat} [h:Bd x j] [h':Bd y k]:Bd (bif b then x else y) (mx j k):=by
 refine⟨?_⟩;cases b
 ·exact Cod.mono _ _ _ (BX _ _) h'.le
 ·exact Cod.mono _ _ _ (Cw _ _) h.le
theorem Bd.mono{x:α}{j k:Nat}(h:Bd x j)(hk:j≤k):Bd x k:=⟨Cod.mono _ _ _ hk h.le⟩
end
section
variable {a b:Rat} {j k:Nat}
instance ak0 [h:Bd a j] [h':Bd b k]:Bd (a+b) (j+k+1):=⟨A4 h.le h'.le⟩
instance akz [h:Bd a j] [h':Bd b k]:Bd (a-b) (j+k+1):=⟨Te h.le h'.le⟩
instance akI [h:Bd a j] [h':Bd b k]:Bd (a*b) (j+k):=⟨As h.le h'.le⟩
instance ala [h:Bd a j]:Bd (-a) j:=⟨vU h.le⟩
theorem nN(h:bdR k b):1≤k:=by
 have h1:=h.2;have h2:=GN (b.den:Int);have h3:=b.den_pos;rcases anx k with e|e
 ·subst e;have:szI (b.den:Int)=0:=by omega
  rw[this]at h2;have:pw 0=1:=rfl;omega
 ·exact e
instance al0 [h:Bd a j] [h':Bd b k]:Bd (a/b) (j+k):=by
 refine⟨?_⟩;by_cases h0:b=0
 ·subst h0;rw[aph,Rat.inv_zero,Rat.mul_zero];have:=nN h'.le;exact bJ (j:=1) ⟨by decide+kernel,by decide+kernel⟩ (by omega)
 ·exact T4 h.le h'.le h0
end
theorem bS{n:Int}(h:aG n):Bd (n:Rat) 3:=by
 refine⟨?_⟩;show bdR 3 (n:Rat);refine⟨?_,?_⟩
 ·rw[Rat.num_intCast];have:pw 3=1000000000000000000000000000:=by decide
  exact fk (by have:=h.1;omega) (by have:=h.2;omega)
 ·rw[Rat.den_intCast];exact fk (by decide) (by decide)
instance lD:Bd (0:Rat) 1:=⟨⟨by decide+kernel,by decide+kernel⟩⟩
theorem ff{x:BR}(h:okR x):∃q:Rat,x=ak q∧Bd q 480000:=⟨ag x,Qg h,⟨BU h⟩⟩
def bi(a b:Rat×Rat):Rat×Rat:=(b.1-a.1,b.2-a.2)
def aY(a b:Rat×Rat):Rat:=a.1*b.1+a.2*b.2
instance alv {a b:Rat×Rat} {j k:Nat} [Bd a j] [Bd b k]:Bd (bi a b) (k+j+1):=
 ⟨(inferInstance:Bd (b.1-a.1) (k+j+1)).le,(inferInstance:Bd (b.2-a.2) (k+j+1)).le⟩
instance ak9 {a b:Rat×Rat} {j k:Nat} [Bd a j] [Bd b k]:Bd (aY a b) ((j+k)+(j+k)+1):=inferInstanceAs (Bd (a.1*b.1+a.2*b.2) _)
end
def NE:List En:=[enK AN,enK BT,enK LZ,enF Pa,enF PF,enK OZ,enK Ri,enK K8]
def Ss(_k:KT):OLR:=og (decide (aG (1:Int))) (some [RV.d y2Y (ai (1:Int))])
def MW:Cn 170 []:=cn<|lf True [.d y2Y (ai 1)] fun _=>by
 refine aA NE (Ss) ⟨0,?_⟩;unfold Ss;rw[dT (show aG 1 by decide)]
def Nb:List En:=enK MW::NE
def Z5(x y:Bool×List Int)(_k:KT):OLR:=og (decide (okI y)) (match decide ((cB (ae y) 0)<0)with|true=>(og (decide (okI x)) (og (decide (okI y)) (og (decide (okI (ai (-ae x))∧okI (ai (-ae y)))) (og (decide (fv (ai (-ae x)) (ai ((Int.gcd (ae (ai (-ae x))) (ae (ai (-ae y))):Nat):Int)))) (og (decide (fv (ai (-ae y)) (ai ((Int.gcd (ae (ai (-ae x))) (ae (ai (-ae y))):Nat):Int)))) (some [RV.d (.st (.pair y2Y y2Y)) ((ai (ae (ai (-ae x))/ae (ai ((Int.gcd (ae (ai (-ae x))) (ae (ai (-ae y))):Nat):Int)))),(ai (ae (ai (-ae y))/ae (ai ((Int.gcd (ae (ai (-ae x))) (ae (ai (-ae y))):Nat):Int)))))]))))))|false=>(og (decide (okI x∧okI y)) (og (decide (fv x (ai ((Int.gcd (ae x) (ae y):Nat):Int)))) (og (decide (fv y (ai ((Int.gcd (ae x) (ae y):Nat):Int)))) (some [RV.d (.st (.pair y2Y y2Y)) ((ai (ae x/ae (ai ((Int.gcd (ae x) (ae y):Nat):Int)))),(ai (ae y/ae (ai ((Int.gcd (ae x) (ae y):Nat):Int)))))])))))
def Z0:Cn 66 [y2Y,y2Y]:=cn fun(x y:Bool×List Int)=>lf (jQ x y) [.d (.st (.pair y2Y y2Y)) (fp x y)] fun h=>by
 refine aA Nb (Z5 x y) ⟨0,?_⟩;obtain⟨hx,hy,hne⟩:=h;have sx:=iK hx;have sy:=iK hy;have hgp:0<Int.gcd (ae x) (ae y):=Nat.pos_of_ne_zero fun e=>hne (Int.gcd_eq_zero_iff.1 e).2;have hgs:=Rb (a:=ae x) hne sy;have og:okI (ai ((Int.gcd (ae x) (ae y):Nat):Int)):=aV hgs;have o1:okI (ai (-ae x)):=aV (by rw[je];exact sx);have o2:okI (ai (-ae y)):=aV (by rw[je];exact sy);have ig:∀z:BI,okI z→fv z (ai ((Int.gcd (ae x) (ae y):Nat):Int)):=fun z hz=>⟨hz,og,by rw[dec_enc];omega⟩
 unfold Z5 fp;rw[dT hy];rcases aot hne with hn|hn
 ·rw[db hn,dT (show(-1:Int)<0 by decide),dT hx];simp only[dec_enc,Int.gcd_neg,Int.neg_gcd];rw[dT (show okI (ai (-ae x))∧okI (ai (-ae y)) from⟨o1,o2⟩),dT (ig _ o1),dT (ig _ o2),←Rat.neg_divInt_neg,nQ (by omega),Int.gcd_neg,Int.neg_gcd]
 ·rw[cV hn,dF (show ¬(1:Int)<0 by decide)];simp only[dec_enc];rw[dT (show okI x∧okI y from⟨hx,hy⟩),dT (ig _ hx),dT (ig _ hy),nQ hn]
def oW:List En:=enK Z0::Nb
def LW(a:(Bool×List Int)×Bool×List Int)(_k:KT):OLR:=og (decide (okI a.1)) (some [RV.d apY (cB (ae a.1) 0)])
def Lz(n:Int)(_k:KT):OLR:=og (decide (aG n)) (some [RV.d (.st (.pair y2Y y2Y)) ((ai n),(ai 1))])
def QE(a b:(Bool×List Int)×Bool×List Int)(_k:KT):OLR:=og (decide (okI a.1∧okI b.2)) (og (decide (okI b.1∧okI a.2)) (og (decide (okI (ai (ae a.1*ae b.2))∧okI (ai (ae b.1*ae a.2)))) (some [RV.d apY (cB (ae (ai (ae a.1*ae b.2))) (ae (ai (ae b.1*ae a.2))))])))
def Q6(a b:(Bool×List Int)×Bool×List Int)(_k:KT):OLR:=og (decide (okI a.1∧okI b.2)) (og (decide (okI b.1∧okI a.2)) (og (decide (okI (ai (ae a.1*ae b.2))∧okI (ai (ae b.1*ae a.2)))) (og (decide (okI a.2∧okI b.2)) (og (decide (jQ (ai (ae (ai (ae a.1*ae b.2))+ae (ai (ae b.1*ae a.2)))) (ai (ae a.2*ae b.2)))) (some [RV.d (.st (.pair y2Y y2Y)) (((fp (ai (ae (ai (ae a.1*ae b.2))+ae (ai (ae b.1*ae a.2)))) (ai (ae a.2*ae b.2))).1),((fp (ai (ae (ai (ae a.1*ae b.2))+ae (ai (ae b.1*ae a.2)))) (ai (ae a.2*ae b.2))).2))])))))
def O7(a b:(Bool×List Int)×Bool×List Int)(_k:KT):OLR:=og (decide (okI a.1∧okI b.1)) (og (decide (okI a.2∧okI b.2)) (og (decide (jQ (ai (ae a.1*ae b.1)) (ai (ae a.2*ae b.2)))) (some [RV.d (.st (.pair y2Y y2Y)) (((fp (ai (ae a.1*ae b.1)) (ai (ae a.2*ae b.2))).1),((fp (ai (ae a.1*ae b.1)) (ai (ae a.2*ae b.2))).2))])))
def Nt(a:(Bool×List Int)×Bool×List Int)(_k:KT):OLR:=og (decide (okI a.1)) (some [RV.d (.st (.pair y2Y y2Y)) ((ai (-ae a.1)),a.2)])
def Mk(x y:Bool×List Int)(_k:KT):OLR:=og (decide (okI y)) (match(cB (ae y) 0)==0 with|true=>some [RV.d (.st (.pair y2Y y2Y)) ((false,[]),(false,[])),RV.d apY 6]|false=>(og (decide (jQ x y)) (some [RV.d (.st (.pair y2Y y2Y)) (((fp x y).1),((fp x y).2)),RV.d apY 0])))
def abO:Cn 347 [y2Y,y2Y]:=cn fun(x y:Bool×List Int)=>lf (jQ x y) [.d (.st (.pair y2Y y2Y)) (fp x y),.d apY 0] fun h=>by
 refine aA oW (Mk x y) ⟨0,?_⟩;obtain⟨hx,hy,hne⟩:=h
 have hnz:(cB (ae y) 0==0)=false:=by
  rcases aot hne with h|h
  ·rw[db h];rfl
  ·rw[cV h];rfl
 unfold Mk;rw[dT hy,hnz,dT (show jQ x y from⟨hx,hy,hne⟩)]
def Hz:List En:=enK abO::oW
def Lg(a b:(Bool×List Int)×Bool×List Int)(_k:KT):OLR:=match decide (okI a.1∧okI b.2)with|true=>(match decide (okI a.2∧okI b.1)with|true=>(match decide (jQ (ai (ae a.1*ae b.2)) (ai (ae a.2*ae b.1)))with|true=>some [RV.d (.st (.pair y2Y y2Y)) (((fp (ai (ae a.1*ae b.2)) (ai (ae a.2*ae b.1))).1),((fp (ai (ae a.1*ae b.2)) (ai (ae a.2*ae b.1))).2)),RV.d apY 0]|false=>none)|false=>none)|false=>none
def iV:Cn 46 [(.st (.pair y2Y y2Y))]:=cn fun(a:(Bool×List Int)×Bool×List Int)=>lf (okR a) [.d apY (aD (ag a) 0)] fun h=>by
 refine aA oW (LW a) ⟨0,?_⟩;unfold LW;rw[dT h.1,←uU,(cS h).1]
def kD:Cn 68 [apY]:=cn fun(n:Int)=>lf (aG n) [.d (.st (.pair y2Y y2Y)) (ak (n:Rat))] fun h=>by
 refine aA oW (Lz n) ⟨0,?_⟩;unfold Lz ak;rw[dT h,Rat.num_intCast,Rat.den_intCast];rfl
def pu:Cn 75 [(.st (.pair y2Y y2Y)),(.st (.pair y2Y y2Y))]:=cn fun(a b:(Bool×List Int)×Bool×List Int)=>lf (okR a∧okR b) [.d apY (aD (ag a) (ag b))] fun h=>by
 refine aA oW (QE a b) ⟨0,?_⟩;obtain⟨ha,hb⟩:=h;obtain⟨a1,a2⟩:=cS ha;obtain⟨b1,b2⟩:=cS hb;obtain⟨sa1,sa2⟩:=gf ha;obtain⟨sb1,sb2⟩:=gf hb;have h1:=cW sa1 sb2;have h2:=cW sb1 sa2;unfold QE;rw[dT (show okI a.1∧okI b.2 from⟨ha.1,hb.2.1⟩),dT (show okI b.1∧okI a.2 from⟨hb.1,ha.2.1⟩),dT (show okI (ai (ae a.1*ae b.2))∧okI (ai (ae b.1*ae a.2)) from⟨aV (by omega),aV (by omega)⟩),dec_enc,dec_enc,←a1,←a2,←b1,←b2,yJ]
def o8:Cn 131 [(.st (.pair y2Y y2Y))]:=cn fun(a:(Bool×List Int)×Bool×List Int)=>lf (okR a) [.d (.st (.pair y2Y y2Y)) (ak (-ag a))] fun h=>by
 refine aA oW (Nt a) ⟨0,?_⟩;obtain⟨a1,a2⟩:=cS h;unfold Nt
 have e:ak (-ag a)=(ai (-ae a.1),a.2):=by
  unfold ak;rw[Rat.neg_num,a1,show((-ag a).den:Int)=((ag a).den:Int) from rfl,a2,←io h.2.1]
 rw[dT h.1,e]
def lV:Cn 22 [(.st (.pair y2Y y2Y)),(.st (.pair y2Y y2Y))]:=cn fun(a b:(Bool×List Int)×Bool×List Int)=>lf (okR a∧okR b) [.d (.st (.pair y2Y y2Y)) (ak (ag a+ag b))] fun h=>by
 refine aA oW (Q6 a b) ⟨0,?_⟩;obtain⟨ha,hb⟩:=h;obtain⟨a1,a2⟩:=cS ha;obtain⟨b1,b2⟩:=cS hb;obtain⟨sa1,sa2⟩:=gf ha;obtain⟨sb1,sb2⟩:=gf hb;have pa:=ha.2.2.1;have pb:=hb.2.2.1;have h1:=cW sa1 sb2;have h2:=cW sb1 sa2;have h3:=cW sa2 sb2;have h4:=wd h1 h2;have hda:ag a=Rat.divInt (ae a.1) (ae a.2):=by rw[←a1,←a2,anI]
 have hdb:ag b=Rat.divInt (ae b.1) (ae b.2):=by rw[←b1,←b2,anI]
 unfold Q6;rw[dT (show okI a.1∧okI b.2 from⟨ha.1,hb.2.1⟩),dT (show okI b.1∧okI a.2 from⟨hb.1,ha.2.1⟩),dT (show okI (ai (ae a.1*ae b.2))∧okI (ai (ae b.1*ae a.2)) from⟨aV (by omega),aV (by omega)⟩),dT (show okI a.2∧okI b.2 from⟨ha.2.1,hb.2.1⟩)];simp only[dec_enc];rw[dT (show jQ (ai (ae a.1*ae b.2+ae b.1*ae a.2)) (ai (ae a.2*ae b.2)) from⟨aV (by omega),aV (by omega),by rw[dec_enc];exact apf (by omega) (by omega)⟩)]
 have e:fp (ai (ae a.1*ae b.2+ae b.1*ae a.2)) (ai (ae a.2*ae b.2))=ak (ag a+ag b):=by
  unfold fp;rw[dec_enc,dec_enc,hda,hdb,Rat.divInt_add_divInt _ _ (by omega) (by omega)]
 rw[e]
def lT:Cn 161 [(.st (.pair y2Y y2Y)),(.st (.pair y2Y y2Y))]:=cn fun(a b:(Bool×List Int)×Bool×List Int)=>lf (okR a∧okR b) [.d (.st (.pair y2Y y2Y)) (ak (ag a*ag b))] fun h=>by
 refine aA oW (O7 a b) ⟨0,?_⟩;obtain⟨ha,hb⟩:=h;obtain⟨a1,a2⟩:=cS ha;obtain⟨b1,b2⟩:=cS hb;obtain⟨sa1,sa2⟩:=gf ha;obtain⟨sb1,sb2⟩:=gf hb;have pa:=ha.2.2.1;have pb:=hb.2.2.1;have h1:=cW sa1 sb1;have h3:=cW sa2 sb2;have hda:ag a=Rat.divInt (ae a.1) (ae a.2):=by rw[←a1,←a2,anI]
 have hdb:ag b=Rat.divInt (ae b.1) (ae b.2):=by rw[←b1,←b2,anI]
 unfold O7;rw[dT (show okI a.1∧okI b.1 from⟨ha.1,hb.1⟩),dT (show okI a.2∧okI b.2 from⟨ha.2.1,hb.2.1⟩),dT (show jQ (ai (ae a.1*ae b.1)) (ai (ae a.2*ae b.2)) from⟨aV (by omega),aV (by omega),by rw[dec_enc];exact apf (by omega) (by omega)⟩)]
 have e:fp (ai (ae a.1*ae b.1)) (ai (ae a.2*ae b.2))=ak (ag a*ag b):=by
  unfold fp;rw[dec_enc,dec_enc,hda,hdb,apg]
 rw[e]
def GG:Cn 317 [(.st (.pair y2Y y2Y)),(.st (.pair y2Y y2Y))]:=cn fun(a b:(Bool×List Int)×Bool×List Int)=>lf (hZ a b) [.d (.st (.pair y2Y y2Y)) (ak (ag a/ag b)),.d apY 0] fun h=>by
 refine aA Hz (Lg a b) ⟨0,?_⟩;obtain⟨ha,hb,hne⟩:=h;obtain⟨a1,a2⟩:=cS ha;obtain⟨b1,b2⟩:=cS hb;obtain⟨sa1,sa2⟩:=gf ha;obtain⟨sb1,sb2⟩:=gf hb;have pa:=ha.2.2.1;have h1:=cW sa1 sb2;have h3:=cW sa2 sb1;have hda:ag a=Rat.divInt (ae a.1) (ae a.2):=by rw[←a1,←a2,anI]
 have hdb:ag b=Rat.divInt (ae b.1) (ae b.2):=by rw[←b1,←b2,anI]
 have hmz:ae a.2*ae b.1≠0:=apf (by omega) hne;unfold Lg;rw[dT (show okI a.1∧okI b.2 from⟨ha.1,hb.2.1⟩),dT (show okI a.2∧okI b.1 from⟨ha.2.1,hb.1⟩)];simp only;rw[dT (show jQ (ai (ae a.1*ae b.2)) (ai (ae a.2*ae b.1)) from⟨aV (by omega),aV (by omega),by rw[dec_enc];exact hmz⟩)]
 have e:fp (ai (ae a.1*ae b.2)) (ai (ae a.2*ae b.1))=ak (ag a/ag b):=by
  unfold fp;rw[dec_enc,dec_enc,hda,hdb,aph,Rat.inv_divInt,apg]
 rw[e]
def MO:List En:=enK lV::enK o8::enK GG::Hz
def Qz(a b:(Bool×List Int)×Bool×List Int)(_k:KT):OLR:=match decide (okR b)with|true=>(match decide (okR a∧okR (ak (-ag b)))with|true=>some [RV.d (.st (.pair y2Y y2Y)) (((ak (ag a+ag (ak (-ag b)))).1),((ak (ag a+ag (ak (-ag b)))).2))]|false=>none)|false=>none
def NG(a b:(Bool×List Int)×Bool×List Int)(_k:KT):OLR:=og (decide (hZ a b)) (some [RV.d (.st (.pair y2Y y2Y)) (((ak (ag a/ag b)).1),((ak (ag a/ag b)).2))])
def m7:Cn 157 [(.st (.pair y2Y y2Y)),(.st (.pair y2Y y2Y))]:=cn fun(a b:(Bool×List Int)×Bool×List Int)=>lf (okR a∧okR b) [.d (.st (.pair y2Y y2Y)) (ak (ag a-ag b))] fun h=>by
 refine aA MO (Qz a b) ⟨0,?_⟩;obtain⟨ha,hb⟩:=h;unfold Qz;rw[dT hb,ck,ao6,dT (show okR a∧okR (ak (-ag b)) from⟨ha,ql (vU (BU hb)) (amK _)⟩)]
def Pe:Cn 314 [(.st (.pair y2Y y2Y)),(.st (.pair y2Y y2Y))]:=cn fun(a b:(Bool×List Int)×Bool×List Int)=>lf (hZ a b) [.d (.st (.pair y2Y y2Y)) (ak (ag a/ag b))] fun h=>by
 refine aA MO (NG a b) ⟨0,?_⟩;unfold NG;rw[dT h]
theorem iu{a b:Rat}{j k:Nat}[ha:Bd a j][hb:Bd b k](hj:j≤480000)(hk:k≤480000)(h:b≠0):decide (hZ (ak a) (ak b))=true:=
 amE ⟨ql ha.le hj,ql hb.le hk,by show ae (ai b.num)≠0;rw[dec_enc];exact fun e=>h (Rat.num_eq_zero.1 e)⟩
theorem aO:type_of% @dO∧type_of% @cX∧type_of% @eZ∧type_of% @bK∧type_of% @az∧type_of% @tb∧type_of% @BF∧type_of% @dN∧type_of% @Jp∧type_of% @EO∧type_of% @HM∧type_of% @ck∧type_of% @afp∧type_of% @aj2∧type_of% @ake∧type_of% @okd∧type_of% @lN∧type_of% @HO∧type_of% @iu∧type_of% @aoz∧type_of% @Bool.and_true∧type_of% @aoa∧type_of% @anU∧type_of% @mx.eq_1∧type_of% @decide_true∧type_of% @decide_false∧(∀{α:Type} (a b:α),cond true a b=a)∧∀{α:Type} (a b:α),cond false a b=b:=
 ⟨@dO,@cX,@eZ,@bK,@az,@tb,@BF,@dN,@Jp,@EO,@HM,@ck,@afp,@aj2,@ake,@okd,@lN,@HO,@iu,@aoz,@Bool.and_true,@aoa,@anU,@mx.eq_1,@decide_true,@decide_false,@cond_true,@cond_false⟩
theorem au(a b:Rat):decide (aD a b>0)=decide (b<a):=by
 rcases(by grind:a<b∨a=b∨b<a)with h|h|h
 ·rw[dH h,amG (show ¬b<a by grind)];rfl
 ·rw[h,d7,amG (show ¬b<b by grind)];rfl
 ·rw[dk h,amE h];rfl
theorem aq(a b:Rat):decide (aD a b<0)=decide (a<b):=by
 rcases(by grind:a<b∨a=b∨b<a)with h|h|h
 ·rw[dH h,amE h];rfl
 ·rw[h,d7,amG (show ¬b<b by grind)];rfl
 ·rw[dk h,amG (show ¬a<b by grind)];rfl
theorem ain(a b:Rat):decide (aD a b≥0)=decide (b≤a):=by
 rcases(by grind:a<b∨a=b∨b<a)with h|h|h
 ·rw[dH h,amG (show ¬b≤a by grind)];rfl
 ·rw[h,d7,amE (show b≤b by grind)];rfl
 ·rw[dk h,amE (show b≤a by grind)];rfl
theorem wE(a b:Rat):decide (aD a b≤0)=decide (a≤b):=by
 rcases(by grind:a<b∨a=b∨b<a)with h|h|h
 ·rw[dH h,amE (show a≤b by grind)];rfl
 ·rw[h,d7,amE (show b≤b by grind)];rfl
 ·rw[dk h,amG (show ¬a≤b by grind)];rfl
theorem ao(a b:Rat):(aD a b==0)=decide (a=b):=by
 rcases(by grind:a<b∨a=b∨b<a)with h|h|h
 ·rw[dH h,amG (show ¬a=b by grind)];rfl
 ·rw[h,d7,amE rfl];rfl
 ·rw[dk h,amG (show ¬a=b by grind)];rfl
theorem jk(a b:Rat): -1≤aD a b∧aD a b≤1:=by
 rcases(by grind:a<b∨a=b∨b<a)with h|h|h
 ·rw[dH h];decide
 ·rw[h,d7];decide
 ·rw[dk h];decide
theorem qo{a b c d:Rat}:i64.wrap (aD a b*aD c d)=aD a b*aD c d:=by
 rcases(by grind:a<b∨a=b∨b<a)with h|h|h<;>rcases(by grind:c<d∨c=d∨d<c)with h'|h'|h';all_goals first|rw[dH h]|(subst h;rw[d7])|rw[dk h]
 all_goals first|rw[dH h']|(subst h';rw[d7])|rw[dk h']
 all_goals decide
def iL:eg:=spN false true [tR,tR] (fun x=>decide (okR x.1∧okR x.2.1)) (fun x=>[RV.d tR (hAd x.1 x.2.1)])
theorem fw:SpK 107 iL:=spX fun x h=>by simp only[bK];exact Ie x.1 x.2.1 (amH h)
def ip:eg:=spN false true [tR,tR] (fun x=>decide (okR x.1∧okR x.2.1)) (fun x=>[RV.d tR (hSu x.1 x.2.1)])
theorem fi:SpK 106 ip:=spX fun x h=>by simp only[bK];exact Wm x.1 x.2.1 (amH h)
def gS:eg:=spN false true [tR,tR] (fun x=>decide (okR x.1∧okR x.2.1)) (fun x=>[RV.d tR (hMu x.1 x.2.1)])
theorem eT:SpK 108 gS:=spX fun x h=>by simp only[bK];exact We x.1 x.2.1 (amH h)
def xJ:eg:=spN false true [tR,tR] (fun x=>decide (hZ x.1 x.2.1)) (fun x=>[RV.d tR (hDi x.1 x.2.1),RV.d apY 0])
theorem tY:SpK 305 xJ:=spX fun x h=>by simp only[bK];exact Wf x.1 x.2.1 (amH h)
def fQ:eg:=spN true true [tR] (fun x=>decide (okR x.1)) (fun x=>[RV.d apY (aD (ag x.1) 0)])
theorem dU:SpK 41 fQ:=spX fun x h=>In x.1 (amH h)
def mj:eg:=spN true true [tR,tR] (fun x=>decide (okR x.1∧okR x.2.1)) (fun x=>[RV.d apY (aD (ag x.1) (ag x.2.1))])
theorem iv:SpK 73 mj:=spX fun x h=>Uf x.1 x.2.1 (amH h)
def ij:eg:=spN false true [apY] (fun x=>decide (aG x.1)) (fun x=>[RV.d tR (hid (ak (x.1:Rat)))])
theorem fa:SpK 99 ij:=spX fun x h=>by simp only[bK];exact Uu x.1 (amH h)
def De:List En:=[⟨107,iL,fw⟩,⟨106,ip,fi⟩,⟨108,gS,eT⟩,⟨305,xJ,tY⟩,⟨41,fQ,dU⟩,⟨73,mj,iv⟩,⟨99,ij,fa⟩]
def QB:Cn 96 [tR,tR]:=cn fun(a b:BR)=>lf (okR a∧okR b) [.d tR (ak (ag a+ag b))] fun h=>jH [RV.d tR (hAd a b)] (du De) h
def HV:Cn 95 [tR,tR]:=cn fun(a b:BR)=>lf (okR a∧okR b) [.d tR (ak (ag a-ag b))] fun h=>jH [RV.d tR (hSu a b)] (du De) h
def P4:Cn 97 [tR,tR]:=cn fun(a b:BR)=>lf (okR a∧okR b) [.d tR (ak (ag a*ag b))] fun h=>jH [RV.d tR (hMu a b)] (du De) h
def XX(a b:BR)(_k:KT):OLR:=og (decide (hZ a b)) (match 0 !=0 with|true=>(og (decide (aG (0:Int))) (some [RV.d tR (hid (ak ((0:Int):Rat)))]))|false=>some [RV.d tR (hDi a b)])
def MN:Cn 218 [tR,tR]:=cn fun(a b:BR)=>lf (hZ a b) [.d tR (ak (ag a/ag b))] fun h=>by
 refine aA De (XX a b) ⟨0,?_⟩;unfold XX;rw[dT h];simp only[bK];rfl
def Zx:List En:=enL QB::enL HV::enL P4::enL MN::De
def aae(a b:BV)(_k:KT):OLR:=og (o2 b.1 a.1) (og (o2 b.2 a.2) (some [RV.d tV (hSu b.1 a.1,hSu b.2 a.2)]))
def amp:Cn 311 [tV,tV]:=cn fun(a b:BV)=>lf (ok (Rat×Rat) 1000 a∧ok (Rat×Rat) 1000 b) [.d tV (enc (bi (dec a) (dec b)))] fun h=>by
 refine aA Zx (aae a b) ⟨0,?_⟩;obtain⟨ha,hb⟩:=h;obtain⟨a,rfl,ba⟩:=aB ha;obtain⟨b,rfl,bb⟩:=aB hb;unfold aae;simp only[aO,Nat.reduceLeDiff];try rfl
def aaK(a b:BV)(_k:KT):OLR:=og (o2 a.1 b.1) (og (o2 a.2 b.2) (og (o2 (hMu a.1 b.1) (hMu a.2 b.2)) (some [RV.d tR (hAd (hMu a.1 b.1) (hMu a.2 b.2))])))
def agV:Cn 219 [tV,tV]:=cn fun(a b:BV)=>lf (ok (Rat×Rat) 5000 a∧ok (Rat×Rat) 5000 b) [.d tR (ak (aY (dec a) (dec b)))] fun h=>by
 refine aA Zx (aaK a b) ⟨0,?_⟩;obtain⟨ha,hb⟩:=h;obtain⟨a,rfl,ba⟩:=aB ha;obtain⟨b,rfl,bb⟩:=aB hb;unfold aaK;simp only[aO,Nat.reduceAdd,Nat.reduceLeDiff];try rfl
def Ib:List En:=[enL lV,enL m7,enL lT,enL Pe,enT iV,enT pu,enL kD]
def MZ:Cn 122 [tR,tR]:=cn fun(a b:BR)=>lf (okR a∧okR b) [.d tR (ak (ag a+ag b))] fun h=>jH [RV.d tR (hAd a b)] (du Ib) h
def LV:Cn 233 [tR,tR]:=cn fun(a b:BR)=>lf (okR a∧okR b) [.d tR (ak (ag a-ag b))] fun h=>jH [RV.d tR (hSu a b)] (du Ib) h
def Mg:Cn 64 [tR,tR]:=cn fun(a b:BR)=>lf (okR a∧okR b) [.d tR (ak (ag a*ag b))] fun h=>jH [RV.d tR (hMu a b)] (du Ib) h
def WR:List En:=enL MZ::enL LV::enL Mg::Ib
def Xy(a b:BV)(_k:KT):OLR:=og (o2 b.1 a.1) (og (o2 b.2 a.2) (some [RV.d tV (hSu b.1 a.1,hSu b.2 a.2)]))
def Yr:Cn 132 [tV,tV]:=cn fun(a b:BV)=>lf (ok (Rat×Rat) 1000 a∧ok (Rat×Rat) 1000 b) [.d tV (enc (bi (dec a) (dec b)))] fun h=>by
 refine aA WR (Xy a b) ⟨0,?_⟩;obtain⟨ha,hb⟩:=h;obtain⟨a,rfl,ba⟩:=aB ha;obtain⟨b,rfl,bb⟩:=aB hb;unfold Xy;simp only[aO,Nat.reduceLeDiff];try rfl
def Wy(a b:BV)(_k:KT):OLR:=og (o2 a.1 b.1) (og (o2 a.2 b.2) (og (o2 (hMu a.1 b.1) (hMu a.2 b.2)) (some [RV.d tR (hAd (hMu a.1 b.1) (hMu a.2 b.2))])))
def Xk:Cn 160 [tV,tV]:=cn fun(a b:BV)=>lf (ok (Rat×Rat) 5000 a∧ok (Rat×Rat) 5000 b) [.d tR (ak (aY (dec a) (dec b)))] fun h=>by
 refine aA WR (Wy a b) ⟨0,?_⟩;obtain⟨ha,hb⟩:=h;obtain⟨a,rfl,ba⟩:=aB ha;obtain⟨b,rfl,bb⟩:=aB hb;unfold Wy;simp only[aO,Nat.reduceAdd,Nat.reduceLeDiff];try rfl
abbrev Rt:=Rat×Rat×Rat
def gv(a b m:Rat):Int:=RE.addS (aD a 0) (aD b 0*aD m 0) (aD (a*a) (b*b*m))
def Cu(A B C D M N:Rat):Int:=bif decide (M<0)||decide (N<0)then 0
 else RE.addS (gv A B M) (gv C D M*aD N 0) (gv (A*A+B*B*M-N*(C*C+D*D*M)) (2*(A*B-N*(C*D))) M)
def aW(x y:Rt):Int:=Cu (x.1-y.1) x.2.1 (-y.2.1) 0 x.2.2 y.2.2
theorem tC(a b:Rat):aD (a-b) 0=aD a b:=by
 rcases(by grind:a<b∨a=b∨b<a)with h|h|h
 ·rw[dH h,dH (by grind)]
 ·rw[h,d7,show b-b=0 by grind,d7]
 ·rw[dk h,dk (by grind)]
namespace RE
def rq(m:Rat):RE:=vF (of m)
theorem eO(m:Rat):0≤rq m:=jF _
theorem cQ{m:Rat}(h:0≤m):rq m*rq m=of m:=sY (fu.2 h)
theorem TO{x:RE}(h:0≤x):sg (vF x)=sg x:=by
 have h1:=jF x;have h2:=sY h;rcases fU h1 with h'|h'
 ·rw[dM h',←h2,dM (mul_pos h' h')]
 ·rw[h',mul_zero]at h2;rw[h',h2]
theorem Od{m:Rat}(h:0≤m):sg (rq m)=aD m 0:=by
 unfold rq;rw[TO (fu.2 h),sg_of]
def v2(a b m:Rat):RE:=of a+of b*rq m
def vR(x:Rt):RE:=v2 x.1 x.2.1 x.2.2
theorem sq2(a b s:RE):a*a-b*s*(b*s)=a*a-b*b*(s*s):=by grind
theorem sq4(A B C D s t:RE):(A+B*s)*(A+B*s)-(C+D*s)*t*((C+D*s)*t)=A*A+B*B*(s*s)-t*t*(C*C+D*D*(s*s))+2*(A*B-t*t*(C*D))*s:=by grind
theorem ajl(A B C D s t:RE):A+B*s+(C+D*s)*t=A+B*s+C*t+D*(s*t):=by grind
theorem adQ(a b c d s t:RE):a-c+b*s+(-d)*t+0*(s*t)=a+b*s-(c+d*t):=by grind
theorem sgn2_re{a b m:Rat}(h:0≤m):gv a b m=sg (v2 a b m):=by
 unfold v2;rw[Fk,sq2,cQ h,dQ,sg_of,sg_of,Od h,←aJ,←aJ,←aJ,←of_sub,sg_of,tC];rfl
theorem abU:of 2=2:=rfl
def vQ(A B C D M N:Rat):RE:=of A+of B*rq M+of C*rq N+of D*(rq M*rq N)
theorem sgnQ_re{A B C D M N:Rat}(hM:0≤M)(hN:0≤N):Cu A B C D M N=sg (vQ A B C D M N):=by
 unfold Cu vQ;rw[amG (by grind),amG (by grind),←ajl,Fk,sq4,cQ hM,cQ hN,dQ,Od hN,sgn2_re hM,sgn2_re hM,sgn2_re hM];unfold v2;simp only[of_sub,of_add,aJ,abU];rfl
theorem cmpT_re{x y:Rt}(hx:0≤x.2.2)(hy:0≤y.2.2):aW x y=sg (vR x-vR y):=by
 unfold aW vR v2;rw[sgnQ_re hx hy,←adQ,←of_sub,←of_neg];rfl
end RE
theorem B3{s t:Int}(hs: -1≤s∧s≤1)(ht: -1≤t∧t≤1): -1≤s*t∧s*t≤1:=by
 have h1:s= -1∨s=0∨s=1:=by omega
 have h2:t= -1∨t=0∨t=1:=by omega
 rcases h1 with rfl|rfl|rfl<;>rcases h2 with rfl|rfl|rfl<;>decide
theorem JD{s t d:Int}(hs: -1≤s∧s≤1)(ht: -1≤t∧t≤1)(hd: -1≤d∧d≤1): -1≤RE.addS s t d∧RE.addS s t d≤1:=by
 unfold RE.addS;cases(t==0||s==t)
 ·cases s==0
  ·exact B3 hs hd
  ·exact ht
 ·exact hs
theorem lP(a b m:Rat): -1≤gv a b m∧gv a b m≤1:=JD (jk _ _) (B3 (jk _ _) (jk _ _)) (jk _ _)
theorem HR(A B C D M N:Rat): -1≤Cu A B C D M N∧Cu A B C D M N≤1:=by
 unfold Cu;cases(decide (M<0)||decide (N<0))
 ·exact JD (lP _ _ _) (B3 (lP _ _ _) (jk _ _)) (lP _ _ _)
 ·exact⟨by show(-1:Int)≤0;decide,by show(0:Int)≤1;decide⟩
theorem vT(x y:Rt): -1≤aW x y∧aW x y≤1:=HR _ _ _ _ _ _
end Go.Proofs.YtnkndpoojnflmaaGreat
end
