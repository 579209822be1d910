/- The reference's integers: parts. -/
import Derived.Test.YtnkndpoojnflmaaGreatH9
import Derived.Test.YtnkndpoojnflmaaGreatH8
noncomputable section
namespace Go.Proofs.YtnkndpoojnflmaaGreat
open Go.RowKit Go.IntKind
theorem amV:type_of% @Prod.ext:=@Prod.ext
section
def DC(a b:List Int):Prop:=(can a∧a.length≤1000000)∧(can b∧b.length≤1000000)∧b≠[]
instance (a b:List Int):Decidable (DC a b):=by unfold DC;infer_instance
def Mr:List En:=[enK xl,enK Bs,enF AD,enF xU,enK XT,enK E4]
def SX:NT:=[((264,30),{keep:=[8,9,10,11,12,13,14],pure_:=[(11,.int .u32)],hl:=1}),((264,67),{keep:=[8,9,10,11,12,13,14,16,17],pure_:=[(17,.int .u32)],hl:=1}),((264,90),{keep:=[8,11,12,18,19,20],hl:=2})]
def jO:Ctx:=CX (ens Mr) SX
def kB(a b:List Int)(x1 x2:Int)(s11:List Int)(s14:Int)(r0:List Int):Cfg:=⟨264,[.blk 0,.seq 82],[(8,.d aoY (u32.wrap (u64.wrap (Int.tdiv 1000000000 (u64.wrap ((u64.wrap x1)+1)))))),(9,.d aoW (ag (val b*(u32.wrap (u64.wrap (Int.tdiv 1000000000 (u64.wrap ((u64.wrap x1)+1)))))).toNat)),(10,.d (.int .u64) (u64.wrap x2)),(11,.d aoW s11),(12,.osl 0 1 ((0:Int).toNat) ((((ag (val a*(u32.wrap (u64.wrap (Int.tdiv 1000000000 (u64.wrap ((u64.wrap x1)+1)))))).toNat).length:Int):Int).toNat-(0:Int).toNat)),(13,.d aoW (ag (val a*(u32.wrap (u64.wrap (Int.tdiv 1000000000 (u64.wrap ((u64.wrap x1)+1)))))).toNat)),(14,SI s14)],[.row 225 aoY r0],0,[]⟩
def eZ(a b:List Int)(x1 x2:Int)(s11:List Int)(s14:Int)(r0:List Int)(x3 s16:Int)(s17:List Int):Cfg:=⟨264,[.blk 2,.seq 78,.blk 1,.seq 81,.lp 30,.blk 0,.seq 82],[(8,.d aoY (u32.wrap (u64.wrap (Int.tdiv 1000000000 (u64.wrap ((u64.wrap x1)+1)))))),(9,.d aoW (ag (val b*(u32.wrap (u64.wrap (Int.tdiv 1000000000 (u64.wrap ((u64.wrap x1)+1)))))).toNat)),(10,.d (.int .u64) (u64.wrap x2)),(11,.d aoW (ag (val (([x3])++s11)).toNat)),(12,.osl 0 1 ((0:Int).toNat) ((((ag (val a*(u32.wrap (u64.wrap (Int.tdiv 1000000000 (u64.wrap ((u64.wrap x1)+1)))))).toNat).length:Int):Int).toNat-(0:Int).toNat)),(13,.d aoW (ag (val a*(u32.wrap (u64.wrap (Int.tdiv 1000000000 (u64.wrap ((u64.wrap x1)+1)))))).toNat)),(14,SI s14),(16,.d (.int .u64) s16),(17,.d aoW s17)],[.row 225 aoY r0],0,[]⟩
def tu(a:List Int)(x1:Int)(s11 r0:List Int)(s18 s20:Int)(r1:List Int):Cfg:=⟨264,[.blk 4,.seq 105],[(8,.d aoY (u32.wrap (u64.wrap (Int.tdiv 1000000000 (u64.wrap ((u64.wrap x1)+1)))))),(11,.d aoW s11),(12,.osl 0 1 ((0:Int).toNat) ((((ag (val a*(u32.wrap (u64.wrap (Int.tdiv 1000000000 (u64.wrap ((u64.wrap x1)+1)))))).toNat).length:Int):Int).toNat-(0:Int).toNat)),(18,.d (.int .u64) s18),(19,.own 1),(20,SI s20)],[.row 225 aoY r0,.row 225 aoY r1],0,[]⟩
def EM(a b:List Int)(k:KT):Option (List RV):=match decide ((a.length:Int)≤2)with|true=>(match decide ((b.length:Int)≤2)with|true=>(og (decide (tM a)) (og (decide (tM b)) (match decide (val b=(0:Int))with|true=>none|false=>(match decide (val b=(0:Int))with|true=>none|false=>(og (decide (iC (u64.wrap (Int.tdiv (val a) (val b))))) (og (decide (iC (Int.tmod (val a) (val b)))) (some [RV.d aoW (ag (u64.wrap (Int.tdiv (val a) (val b))).toNat),RV.d aoW (ag (Int.tmod (val a) (val b)).toNat)])))))))|false=>(match aR b (i64.wrap ((b.length:Int)-1))with|some x1=>(match decide (u64.wrap ((u64.wrap x1)+1)=(0:Int))with|true=>none|false=>(og (decide (byP b (u32.wrap (u64.wrap (Int.tdiv 1000000000 (u64.wrap ((u64.wrap x1)+1))))))) (match aR (ag (val b*(u32.wrap (u64.wrap (Int.tdiv 1000000000 (u64.wrap ((u64.wrap x1)+1)))))).toNat) (i64.wrap (((ag (val b*(u32.wrap (u64.wrap (Int.tdiv 1000000000 (u64.wrap ((u64.wrap x1)+1)))))).toNat).length:Int)-1))with|some x2=>(og (decide ((0:Int)≤i64.wrap ((a.length:Int)+1)∧(i64.wrap ((a.length:Int)+1))*((4:Nat):Int)≤140737488355328∧i64.wrap ((a.length:Int)+1)≤140737488355328)) (og (decide (byP a (u32.wrap (u64.wrap (Int.tdiv 1000000000 (u64.wrap ((u64.wrap x1)+1))))))) (og (decide ((0:Int)≤0∧0≤((ag (val a*(u32.wrap (u64.wrap (Int.tdiv 1000000000 (u64.wrap ((u64.wrap x1)+1)))))).toNat).length:Int)∧((ag (val a*(u32.wrap (u64.wrap (Int.tdiv 1000000000 (u64.wrap ((u64.wrap x1)+1)))))).toNat).length:Int)≤((List.replicate (i64.wrap ((a.length:Int)+1)).toNat (0:Int)).length:Int))) (k 30 (kB a b x1 x2 ([]) (i64.wrap (((ag (val a*(u32.wrap (u64.wrap (Int.tdiv 1000000000 (u64.wrap ((u64.wrap x1)+1)))))).toNat).length:Int)-1)) (List.replicate (i64.wrap ((a.length:Int)+1)).toNat (0:Int)))))))|none=>none)))|none=>none))|false=>(match aR b (i64.wrap ((b.length:Int)-1))with|some x1=>(match decide (u64.wrap ((u64.wrap x1)+1)=(0:Int))with|true=>none|false=>(og (decide (byP b (u32.wrap (u64.wrap (Int.tdiv 1000000000 (u64.wrap ((u64.wrap x1)+1))))))) (match aR (ag (val b*(u32.wrap (u64.wrap (Int.tdiv 1000000000 (u64.wrap ((u64.wrap x1)+1)))))).toNat) (i64.wrap (((ag (val b*(u32.wrap (u64.wrap (Int.tdiv 1000000000 (u64.wrap ((u64.wrap x1)+1)))))).toNat).length:Int)-1))with|some x2=>(og (decide ((0:Int)≤i64.wrap ((a.length:Int)+1)∧(i64.wrap ((a.length:Int)+1))*((4:Nat):Int)≤140737488355328∧i64.wrap ((a.length:Int)+1)≤140737488355328)) (og (decide (byP a (u32.wrap (u64.wrap (Int.tdiv 1000000000 (u64.wrap ((u64.wrap x1)+1))))))) (og (decide ((0:Int)≤0∧0≤((ag (val a*(u32.wrap (u64.wrap (Int.tdiv 1000000000 (u64.wrap ((u64.wrap x1)+1)))))).toNat).length:Int)∧((ag (val a*(u32.wrap (u64.wrap (Int.tdiv 1000000000 (u64.wrap ((u64.wrap x1)+1)))))).toNat).length:Int)≤((List.replicate (i64.wrap ((a.length:Int)+1)).toNat (0:Int)).length:Int))) (k 30 (kB a b x1 x2 ([]) (i64.wrap (((ag (val a*(u32.wrap (u64.wrap (Int.tdiv 1000000000 (u64.wrap ((u64.wrap x1)+1)))))).toNat).length:Int)-1)) (List.replicate (i64.wrap ((a.length:Int)+1)).toNat (0:Int)))))))|none=>none)))|none=>none)
theorem Pe(a b:List Int):RS jO 264 [.d aoW a,.d aoW b] (EM a b):=rsX
def kL(a b:List Int)(x1 x2:Int)(s11:List Int)(s14:Int)(r0:List Int)(k:KT):Option (List RV):=match decide (s14≥0)with|true=>(match aR (ag (val a*(u32.wrap (u64.wrap (Int.tdiv 1000000000 (u64.wrap ((u64.wrap x1)+1)))))).toNat) s14 with|some x3=>(og (decide ((([x3]).length+s11.length)*4≤140737488355328∧([x3]).length+s11.length≤140737488355328)) (og (decide (aQ (([x3])++s11))) (match decide (((ag (val (([x3])++s11)).toNat).length:Int)>((ag (val b*(u32.wrap (u64.wrap (Int.tdiv 1000000000 (u64.wrap ((u64.wrap x1)+1)))))).toNat).length:Int))with|true=>(match aR (ag (val (([x3])++s11)).toNat) ((ag (val b*(u32.wrap (u64.wrap (Int.tdiv 1000000000 (u64.wrap ((u64.wrap x1)+1)))))).toNat).length:Int)with|some x4=>(match decide (((ag (val (([x3])++s11)).toNat).length:Int)≥((ag (val b*(u32.wrap (u64.wrap (Int.tdiv 1000000000 (u64.wrap ((u64.wrap x1)+1)))))).toNat).length:Int))with|true=>(match aR (ag (val (([x3])++s11)).toNat) (i64.wrap (((ag (val b*(u32.wrap (u64.wrap (Int.tdiv 1000000000 (u64.wrap ((u64.wrap x1)+1)))))).toNat).length:Int)-1))with|some x5=>(match decide (u64.wrap x2=(0:Int))with|true=>none|false=>(match decide ((u64.wrap (Int.tdiv (u64.wrap ((u64.wrap ((u64.wrap x4)*1000000000))+(u64.wrap x5))) (u64.wrap x2)))>999999999)with|true=>(og (decide (byP (ag (val b*(u32.wrap (u64.wrap (Int.tdiv 1000000000 (u64.wrap ((u64.wrap x1)+1)))))).toNat) (u32.wrap 999999999))) (k 67 (eZ a b x1 x2 s11 s14 r0 x3 999999999 (ag (val (ag (val b*(u32.wrap (u64.wrap (Int.tdiv 1000000000 (u64.wrap ((u64.wrap x1)+1)))))).toNat)*(u32.wrap 999999999)).toNat))))|false=>(og (decide (byP (ag (val b*(u32.wrap (u64.wrap (Int.tdiv 1000000000 (u64.wrap ((u64.wrap x1)+1)))))).toNat) (u32.wrap (u64.wrap (Int.tdiv (u64.wrap ((u64.wrap ((u64.wrap x4)*1000000000))+(u64.wrap x5))) (u64.wrap x2)))))) (k 67 (eZ a b x1 x2 s11 s14 r0 x3 (u64.wrap (Int.tdiv (u64.wrap ((u64.wrap ((u64.wrap x4)*1000000000))+(u64.wrap x5))) (u64.wrap x2))) (ag (val (ag (val b*(u32.wrap (u64.wrap (Int.tdiv 1000000000 (u64.wrap ((u64.wrap x1)+1)))))).toNat)*(u32.wrap (u64.wrap (Int.tdiv (u64.wrap ((u64.wrap ((u64.wrap x4)*1000000000))+(u64.wrap x5))) (u64.wrap x2))))).toNat))))))|none=>none)|false=>(match decide (u64.wrap x2=(0:Int))with|true=>none|false=>(match decide ((u64.wrap (Int.tdiv (u64.wrap ((u64.wrap x4)*1000000000)) (u64.wrap x2)))>999999999)with|true=>(og (decide (byP (ag (val b*(u32.wrap (u64.wrap (Int.tdiv 1000000000 (u64.wrap ((u64.wrap x1)+1)))))).toNat) (u32.wrap 999999999))) (k 67 (eZ a b x1 x2 s11 s14 r0 x3 999999999 (ag (val (ag (val b*(u32.wrap (u64.wrap (Int.tdiv 1000000000 (u64.wrap ((u64.wrap x1)+1)))))).toNat)*(u32.wrap 999999999)).toNat))))|false=>(og (decide (byP (ag (val b*(u32.wrap (u64.wrap (Int.tdiv 1000000000 (u64.wrap ((u64.wrap x1)+1)))))).toNat) (u32.wrap (u64.wrap (Int.tdiv (u64.wrap ((u64.wrap x4)*1000000000)) (u64.wrap x2)))))) (k 67 (eZ a b x1 x2 s11 s14 r0 x3 (u64.wrap (Int.tdiv (u64.wrap ((u64.wrap x4)*1000000000)) (u64.wrap x2))) (ag (val (ag (val b*(u32.wrap (u64.wrap (Int.tdiv 1000000000 (u64.wrap ((u64.wrap x1)+1)))))).toNat)*(u32.wrap (u64.wrap (Int.tdiv (u64.wrap ((u64.wrap x4)*1000000000)) (u64.wrap x2))))).toNat)))))))|none=>none)|false=>(match decide (((ag (val (([x3])++s11)).toNat).length:Int)≥((ag (val b*(u32.wrap (u64.wrap (Int.tdiv 1000000000 (u64.wrap ((u64.wrap x1)+1)))))).toNat).length:Int))with|true=>(match aR (ag (val (([x3])++s11)).toNat) (i64.wrap (((ag (val b*(u32.wrap (u64.wrap (Int.tdiv 1000000000 (u64.wrap ((u64.wrap x1)+1)))))).toNat).length:Int)-1))with|some x4=>(match decide (u64.wrap x2=(0:Int))with|true=>none|false=>(match decide ((u64.wrap (Int.tdiv (u64.wrap (0+(u64.wrap x4))) (u64.wrap x2)))>999999999)with|true=>(og (decide (byP (ag (val b*(u32.wrap (u64.wrap (Int.tdiv 1000000000 (u64.wrap ((u64.wrap x1)+1)))))).toNat) (u32.wrap 999999999))) (k 67 (eZ a b x1 x2 s11 s14 r0 x3 999999999 (ag (val (ag (val b*(u32.wrap (u64.wrap (Int.tdiv 1000000000 (u64.wrap ((u64.wrap x1)+1)))))).toNat)*(u32.wrap 999999999)).toNat))))|false=>(og (decide (byP (ag (val b*(u32.wrap (u64.wrap (Int.tdiv 1000000000 (u64.wrap ((u64.wrap x1)+1)))))).toNat) (u32.wrap (u64.wrap (Int.tdiv (u64.wrap (0+(u64.wrap x4))) (u64.wrap x2)))))) (k 67 (eZ a b x1 x2 s11 s14 r0 x3 (u64.wrap (Int.tdiv (u64.wrap (0+(u64.wrap x4))) (u64.wrap x2))) (ag (val (ag (val b*(u32.wrap (u64.wrap (Int.tdiv 1000000000 (u64.wrap ((u64.wrap x1)+1)))))).toNat)*(u32.wrap (u64.wrap (Int.tdiv (u64.wrap (0+(u64.wrap x4))) (u64.wrap x2))))).toNat))))))|none=>none)|false=>(match decide (u64.wrap x2=(0:Int))with|true=>none|false=>(match decide ((u64.wrap (Int.tdiv 0 (u64.wrap x2)))>999999999)with|true=>(og (decide (byP (ag (val b*(u32.wrap (u64.wrap (Int.tdiv 1000000000 (u64.wrap ((u64.wrap x1)+1)))))).toNat) (u32.wrap 999999999))) (k 67 (eZ a b x1 x2 s11 s14 r0 x3 999999999 (ag (val (ag (val b*(u32.wrap (u64.wrap (Int.tdiv 1000000000 (u64.wrap ((u64.wrap x1)+1)))))).toNat)*(u32.wrap 999999999)).toNat))))|false=>(og (decide (byP (ag (val b*(u32.wrap (u64.wrap (Int.tdiv 1000000000 (u64.wrap ((u64.wrap x1)+1)))))).toNat) (u32.wrap (u64.wrap (Int.tdiv 0 (u64.wrap x2)))))) (k 67 (eZ a b x1 x2 s11 s14 r0 x3 (u64.wrap (Int.tdiv 0 (u64.wrap x2))) (ag (val (ag (val b*(u32.wrap (u64.wrap (Int.tdiv 1000000000 (u64.wrap ((u64.wrap x1)+1)))))).toNat)*(u32.wrap (u64.wrap (Int.tdiv 0 (u64.wrap x2))))).toNat))))))))))|none=>none)|false=>(og (decide ((0:Int)≤(s11.length:Int)∧(s11.length:Int)*((4:Nat):Int)≤140737488355328∧(s11.length:Int)≤140737488355328)) (k 90 (tu a x1 s11 r0 0 (i64.wrap ((s11.length:Int)-1)) (List.replicate ((s11.length:Int)).toNat (0:Int)))))
theorem nO(a b:List Int)(x1 x2:Int)(s11:List Int)(s14:Int)(r0:List Int):RN jO 30 (kB a b x1 x2 s11 s14 r0) (kL a b x1 x2 s11 s14 r0):=rnX
def nB(a b:List Int)(x1 x2:Int)(s11:List Int)(s14:Int)(r0:List Int)(x3 s16:Int)(s17:List Int)(k:KT):Option (List RV):=og (decide (rn s17 (ag (val (([x3])++s11)).toNat))) (match decide ((cr (val s17) (val (ag (val (([x3])++s11)).toNat)))>0)with|true=>(og (decide (oo s17 (ag (val b*(u32.wrap (u64.wrap (Int.tdiv 1000000000 (u64.wrap ((u64.wrap x1)+1)))))).toNat))) (k 67 (eZ a b x1 x2 s11 s14 r0 x3 (u64.wrap (s16-1)) (ag (val s17-val (ag (val b*(u32.wrap (u64.wrap (Int.tdiv 1000000000 (u64.wrap ((u64.wrap x1)+1)))))).toNat)).toNat))))|false=>(og (decide (oo (ag (val (([x3])++s11)).toNat) s17)) (match true,decide ((0:Int)≤s14∧s14<(((((ag (val a*(u32.wrap (u64.wrap (Int.tdiv 1000000000 (u64.wrap ((u64.wrap x1)+1)))))).toNat).length:Int):Int).toNat-(0:Int).toNat:Nat):Int))with|true,true=>(match true,r0[(0:Int).toNat+(s14).toNat]? with|true,some _=>k 30 (kB a b x1 x2 (ag (val (ag (val (([x3])++s11)).toNat)-val s17).toNat) (i64.wrap (s14-1)) (r0.set ((0:Int).toNat+(s14).toNat) (u32.wrap s16)))|_,_=>none)|_,_=>none)))
theorem rv(a b:List Int)(x1 x2:Int)(s11:List Int)(s14:Int)(r0:List Int)(x3 s16:Int)(s17:List Int):RN jO 67 (eZ a b x1 x2 s11 s14 r0 x3 s16 s17) (nB a b x1 x2 s11 s14 r0 x3 s16 s17):=rnX
def rE(a:List Int)(x1:Int)(s11 r0:List Int)(s18 s20:Int)(r1:List Int)(k:KT):Option (List RV):=match decide (s20≥0)with|true=>(match aR s11 s20 with|some x2=>(match decide (u64.wrap (u32.wrap (u64.wrap (Int.tdiv 1000000000 (u64.wrap ((u64.wrap x1)+1)))))=(0:Int))with|true=>none|false=>(match aR r1 s20 with|some _=>(match true,r1[(s20).toNat]? with|true,some _=>(match decide (u64.wrap (u32.wrap (u64.wrap (Int.tdiv 1000000000 (u64.wrap ((u64.wrap x1)+1)))))=(0:Int))with|true=>none|false=>k 90 (tu a x1 s11 r0 (Int.tmod (u64.wrap ((u64.wrap (s18*1000000000))+(u64.wrap x2))) (u64.wrap (u32.wrap (u64.wrap (Int.tdiv 1000000000 (u64.wrap ((u64.wrap x1)+1))))))) (i64.wrap (s20-1)) (r1.set ((s20).toNat) (u32.wrap (u64.wrap (Int.tdiv (u64.wrap ((u64.wrap (s18*1000000000))+(u64.wrap x2))) (u64.wrap (u32.wrap (u64.wrap (Int.tdiv 1000000000 (u64.wrap ((u64.wrap x1)+1))))))))))))|_,_=>none)|none=>none))|none=>none)|false=>(og (decide (aQ ((r0.drop ((0:Int).toNat)).take ((((ag (val a*(u32.wrap (u64.wrap (Int.tdiv 1000000000 (u64.wrap ((u64.wrap x1)+1)))))).toNat).length:Int):Int).toNat-(0:Int).toNat)))) (og (decide (aQ r1)) (some [RV.d aoW (ag (val ((r0.drop ((0:Int).toNat)).take ((((ag (val a*(u32.wrap (u64.wrap (Int.tdiv 1000000000 (u64.wrap ((u64.wrap x1)+1)))))).toNat).length:Int):Int).toNat-(0:Int).toNat))).toNat),RV.d aoW (ag (val r1).toNat)])))
theorem wR(a:List Int)(x1:Int)(s11 r0:List Int)(s18 s20:Int)(r1:List Int):RN jO 90 (tu a x1 s11 r0 s18 s20 r1) (rE a x1 s11 r0 s18 s20 r1):=rnX
def qsc(x1:Int):Int:=u32.wrap (u64.wrap (Int.tdiv 1000000000 (u64.wrap ((u64.wrap x1)+1))))
theorem gv(x1:Int):u32.wrap (u64.wrap (Int.tdiv 1000000000 (u64.wrap ((u64.wrap x1)+1))))=qsc x1:=by
 have h:∀y,qsc x1=y→y=qsc x1:=fun y e=>e.symm
 exact h _ rfl
theorem acO{x:Int}(h1:1≤x)(h2:x<1000000000):qsc x=1000000000/(x+1)∧1≤qsc x∧qsc x<1000000000:=by
 have h3:1≤1000000000/(x+1):=Int.le_ediv_of_mul_le (by omega) (by omega)
 have h4:1000000000/(x+1)<1000000000:=am9 (by omega) (by omega)
 grind [qsc,bj,c7]
theorem EV{v:Int}(h:0<v):∃(n:Nat) (x:Int),(ag v.toNat).length=n+1∧(ag v.toNat)[n]?=some x∧1≤x∧x<1000000000∧x*pw n≤v:=by
 have hne:ag v.toNat≠[]:=fun e=>by rw[gU]at e;omega
 rcases List.eq_nil_or_concat (ag v.toNat)with h0|⟨l,x,hx⟩
 ·grind
 ·have hv:=bg v.toNat
  have hc:=eh v.toNat
  have hl:=bZ v.toNat
  rw[List.concat_eq_append]at hx
  rw[hx]at hv hc hl
  have hxx:=hl x (by simp)
  have hx0:x≠0:=fun e=>hc.2 (by simp[e])
  have hln:=aP (l:=l) (fun y hy=>hl y (by simp[hy]))
  rw[dB]at hv
  simp only[val]at hv
  refine⟨l.length,x,by rw[hx];simp,by rw[hx];simp,by omega,hxx.2,?_⟩
  grind
section
variable (a b:List Int) (x1 x2:Int) (V:Int) (hV:val b*qsc x1=V) (hs:1≤qsc x1∧qsc x1<1000000000) (hp:0<V) (hra:(ag (val a*qsc x1).toNat).length≤a.length+1) (ha:Lim a∧a.length≤1000000) (hL:(ag V.toNat).length≤1000001)
theorem Rc(hs:1≤qsc x1∧qsc x1<1000000000)(l r0:List Int)(hl:Lim l∧l.length≤2000000)(hr0:aQ r0)(hz0:∀k (hk:k<r0.length),(ag (val a*qsc x1).toNat).length≤k→r0[k]=0):∀(n:Nat) (c:Int) (r:List Int),n≤l.length→0≤c→c<qsc x1→Lim r→r.length=l.length→(∀k (hk:k<r.length),k<n→r[k]=0)→qsc x1*val r+pw n*c+val (l.take n)=val l→
  jO.Runs 90 (tu a x1 l r0 c ((n:Int)-1) r) [.d aoW (ag (val r0).toNat),.d aoW (ag (val l/qsc x1).toNat)]:=by
 have hsa:=hl.2
 have e64:u64.wrap (qsc x1)=qsc x1:=bj (by omega) (by omega)
 intro n
 induction n with
 |zero=>
  intro c r hn c0 c1 hr hlen hz hv
  simp only[m6,List.take_zero,val,amX,aoQ]at hv
  have e2:val l/qsc x1=val r:=by
   rw[←hv,aoB,ans _ _ (by omega),amU c0 c1]
   omega
  have e3:=xI hz0
  have e4:aQ (r0.take (ag (val a*qsc x1).toNat).length):=⟨hr0.1.take _,by have:=hr0.2;rw[ams];omega⟩
  refine wR _ _ _ _ _ _ _ ⟨0,?_⟩
  unfold rE
  simp only[gv,Int.toNat_zero,anm,ann,Nat.sub_zero]
  rw[dF (by omega)]
  dsimp only
  rw[dT e4,dT (show aQ r from⟨hr,by omega⟩),e3,e2]
 |succ n ih=>
  intro c r hn c0 c1 hr hlen hz hv
  have hna:n<l.length:=by omega
  have hnr:n<r.length:=by omega
  have xa:=hl.1.get hna
  have hr0':=hz n hnr (by omega)
  have hcb:0≤c*1000000000+l[n]:=by omega
  have m0:=amK (c*1000000000+l[n]) (show qsc x1≠0 by omega)
  have m1:=amp (c*1000000000+l[n]) (show 0<qsc x1 by omega)
  have md:=amv (c*1000000000+l[n]) (qsc x1)
  have d0:0≤(c*1000000000+l[n])/qsc x1:=amG hcb (by omega)
  have d1:(c*1000000000+l[n])/qsc x1<1000000000:=by
   refine am9 (by omega) ?_
   have:=alT (show c+1≤qsc x1 by omega) (show(0:Int)≤1000000000 by decide)
   rw[ant 1000000000 (qsc x1)]
   omega
  obtain⟨q,hq⟩:=ih ((c*1000000000+l[n])%qsc x1) (r.set n ((c*1000000000+l[n])/qsc x1)) (by omega) m0 m1 (hr.set n ⟨d0,d1⟩) (by simpa using hlen)
   (fun k hk hkn=>by rw[am1 (by omega)];exact hz k (by simpa using hk) (by omega)) (by
    rw[fj hnr,hr0']
    rw[aW hna,b8]at hv
    grind)
  refine wR _ _ _ _ _ _ _ ⟨q,?_⟩
  unfold rE
  simp only[gv]
  rw[show((n+1:Nat):Int)-1=(n:Int) by omega,dT (by omega),ao l n,alG hna,e64,dF (show ¬qsc x1=0 by omega),ao r n,aD,alG hnr]
  dsimp only
  rw[bj (x:=c*1000000000) (by omega) (by omega),bj (x:=l[n]) (by omega) (by omega),bj (x:=c*1000000000+l[n]) (by omega) (by omega),gX hcb,jo hcb,bj (x:=(c*1000000000+l[n])/qsc x1) (by omega) (by omega),c7 (x:=(c*1000000000+l[n])/qsc x1) (by omega) (by omega),aT (x:=(n:Int)-1) (by omega) (by omega)]
  exact hq
include hV hp hL in
theorem Gv{res:List RV}(i:Nat)(hi:i<(ag (val a*qsc x1).toNat).length)(r0 l:List Int)(hlr:r0.length=a.length+1)(hra:(ag (val a*qsc x1).toNat).length≤a.length+1)(x3 W:Int)(hW:val ([x3]++l)=W)(W0:0≤W)(hWl:(ag W.toNat).length≤1000002)
  (hout:jO.Runs 30 (kB a b x1 x2 (ag (W%V).toNat) ((i:Int)-1) (r0.set i (W/V))) res) (hi':(ag (val a*qsc x1).toNat).length≤2000000):
  ∀(d:Nat),d≤999999999→W<V*((d:Int)+1)→jO.Runs 67 (eZ a b x1 x2 l (i:Int) r0 x3 (d:Int) (ag (V*(d:Int)).toNat)) res:=by
 intro d
 have hsz:∀e:Nat,e≤999999999→(ag (V*(e:Int)).toNat).length≤1000002:=fun e he=>by
  refine cB (amD (by omega) (by omega)) ?_
  have h1:V<pw 1000001:=by
   have:=bW (bZ V.toNat)
   rw[bg]at this
   have:=dh hL
   omega
  rw[b8 1000001]
  have h2:V*(e:Int)≤V*999999999:=alN (by omega) (by omega)
  omega
 induction d with
 |zero=>
  intro _ hd
  obtain⟨q,hq⟩:=hout
  have hWV:W<V:=by simpa using hd
  rw[anU W0 hWV,amU W0 hWV]at hq
  refine rv _ _ _ _ _ _ _ _ _ _ ⟨q,?_⟩
  unfold nB
  simp only[gv,hV,hW]
  rw[show(V*((0:Nat):Int)).toNat=0 by simp,dT (show rn (ag 0) (ag W.toNat) from⟨⟨eh _,by decide⟩,eh _,by omega⟩),bU W0,xy,show val (ag 0)=0 from rfl,dF (show ¬W<0 by omega),dT (show oo (ag W.toNat) (ag 0) from⟨cD (by omega),cD (by decide),by rw[bU W0];exact W0⟩)]
  dsimp only
  rw[dT (show(0:Int)≤(i:Int)∧(i:Int)<((((ag (val a*qsc x1).toNat).length:Int).toNat-(0:Int).toNat:Nat):Int) by constructor<;>simp<;>omega)]
  rw[show(0:Int).toNat+((i:Int)).toNat=i by simp,alG (by omega)]
  dsimp only
  rw[Int.sub_zero,aT (by omega) (by omega)]
  exact hq
 |succ d ih=>
  intro hd1 hd
  have hc:((d+1:Nat):Int)=(d:Int)+1:=by omega
  rw[hc]at hd
  have hV1:0≤V*((d:Int)+1):=amD (by omega) (by omega)
  have hV0:0≤V*(d:Int):=amD (by omega) (by omega)
  have hVd:V*((d:Int)+1)-V=V*(d:Int):=by grind
  have hs1:=hsz (d+1) (by omega)
  rw[hc]at hs1
  have k1:=bg V.toNat
  by_cases hg:W<V*((d:Int)+1)
  ·obtain⟨q,hq⟩:=ih (by omega) hg
   refine rv _ _ _ _ _ _ _ _ _ _ ⟨q,?_⟩
   unfold nB
   simp only[gv,hV,hW]
   rw[hc,dT (show rn (ag (V*((d:Int)+1)).toNat) (ag W.toNat) from⟨⟨eh _,by omega⟩,eh _,by omega⟩),bU W0,bU hV1,xy,dT hg,dT (show oo (ag (V*((d:Int)+1)).toNat) (ag V.toNat) from⟨cD (by omega),cD (by omega),by rw[bU hV1,bU (by omega)];omega⟩),bU (v:=V) (by omega),hVd,bj (by omega) (by omega),show(d:Int)+1-1=(d:Int) by omega]
   exact hq
  ·obtain⟨q,hq⟩:=hout
   have e1:W/V=(d:Int)+1:=by
    have:W=(W-V*((d:Int)+1))+V*((d:Int)+1):=by omega
    rw[this,ans _ _ (by omega),amU (by omega) (by grind)]
    omega
   have e2:W%V=W-V*((d:Int)+1):=by
    have:=amv W V
    rw[e1]at this
    omega
   rw[e1,e2]at hq
   refine rv _ _ _ _ _ _ _ _ _ _ ⟨q,?_⟩
   unfold nB
   simp only[gv,hV,hW]
   rw[hc,dT (show rn (ag (V*((d:Int)+1)).toNat) (ag W.toNat) from⟨⟨eh _,by omega⟩,eh _,by omega⟩),bU W0,bU hV1,xy,dF hg,dT (show oo (ag W.toNat) (ag (V*((d:Int)+1)).toNat) from⟨cD (by omega),cD (by omega),by rw[bU hV1,bU W0];omega⟩)]
   dsimp only
   rw[dT (show(0:Int)≤(i:Int)∧(i:Int)<((((ag (val a*qsc x1).toNat).length:Int).toNat-(0:Int).toNat:Nat):Int) by constructor<;>simp<;>omega)]
   rw[show(0:Int).toNat+((i:Int)).toNat=i by simp,alG (by omega)]
   dsimp only
   rw[aT (by omega) (by omega),c7 (by omega) (by omega)]
   exact hq
end
end
section
def qz(k:Nat→Cfg→Option (List RV))(a b:List Int)(x1 x2:Int)(s11:List Int)(s14:Int)(r0:List Int)(x3 H:Int):Option (List RV):=match decide (u64.wrap x2=(0:Int))with|true=>none|false=>(match decide ((u64.wrap (Int.tdiv H (u64.wrap x2)))>999999999)with|true=>(og (decide (byP (ag (val b*(u32.wrap (u64.wrap (Int.tdiv 1000000000 (u64.wrap ((u64.wrap x1)+1)))))).toNat) (u32.wrap 999999999))) (k 67 (eZ a b x1 x2 s11 s14 r0 x3 999999999 (ag (val (ag (val b*(u32.wrap (u64.wrap (Int.tdiv 1000000000 (u64.wrap ((u64.wrap x1)+1)))))).toNat)*(u32.wrap 999999999)).toNat))))|false=>(og (decide (byP (ag (val b*(u32.wrap (u64.wrap (Int.tdiv 1000000000 (u64.wrap ((u64.wrap x1)+1)))))).toNat) (u32.wrap (u64.wrap (Int.tdiv H (u64.wrap x2)))))) (k 67 (eZ a b x1 x2 s11 s14 r0 x3 (u64.wrap (Int.tdiv H (u64.wrap x2))) (ag (val (ag (val b*(u32.wrap (u64.wrap (Int.tdiv 1000000000 (u64.wrap ((u64.wrap x1)+1)))))).toNat)*(u32.wrap (u64.wrap (Int.tdiv H (u64.wrap x2))))).toNat)))))
theorem Ss{W V H x p d:Int}(hx:1≤x)(hW:W<(H+1)*p)(hp:0<p)(hV:x*p≤V)(hd:H/x=d)(h0:0≤H):W<V*(d+1):=by
 have h1:=amv H x
 have h2:=amp H (show 0<x by omega)
 have h3:0≤d:=by rw[←hd];exact amG h0 (by omega)
 have h4:H+1≤x*(d+1):=by grind
 have h5:=alT h4 (amn hp)
 have h6:=alT hV (show 0≤d+1 by omega)
 grind
theorem aaY{A B s R q:Int}(hs:0<s)(h:A*s=R+B*s*q)(h0:0≤R)(h1:R<B*s):A/B=q∧A%B=R/s:=by
 have e:R=s*(A-B*q):=by grind
 have hm:R/s=A-B*q:=by rw[e];exact anV _ (by omega)
 have m0:0≤A-B*q:=by
  apply alW
  intro hc
  have:=alN (show A-B*q≤ -1 by omega) (amn hs)
  omega
 have m1:A-B*q<B:=by
  apply alW
  intro hc
  have:=alN (show B≤A-B*q by omega) (amn hs)
  grind
 have hA:A=(A-B*q)+B*q:=by omega
 constructor
 ·rw[hA,ans _ _ (by omega),amU (by omega) (by omega)];omega
 ·rw[hm,hA,anJ,anU (by omega) (by omega)];omega
section
variable (a b:List Int) (x1 x2:Int) (V:Int) (hV:val b*qsc x1=V) (hs:1≤qsc x1∧qsc x1<1000000000) (hp:0<V) (hra:(ag (val a*qsc x1).toNat).length≤a.length+1) (ha:Lim a∧a.length≤1000000) (hL:(ag V.toNat).length≤1000001)
include hV hs hp hra ha hL in
theorem Fj(n:Nat)(hn:(ag V.toNat).length=n+1)(hx2:1≤x2∧x2<1000000000)(hxp:x2*pw n≤V):∀(i:Nat) (R:Int) (r0:List Int),i≤(ag (val a*qsc x1).toNat).length→0≤R→R<V→r0.length=a.length+1→Lim r0→
  (∀k (hk:k<r0.length),k<i→r0[k]=0)→(∀k (hk:k<r0.length),(ag (val a*qsc x1).toNat).length≤k→r0[k]=0)→val a*qsc x1=pw i*R+val ((ag (val a*qsc x1).toNat).take i)+V*val r0→
  jO.Runs 30 (kB a b x1 x2 (ag R.toNat) ((i:Int)-1) r0) [.d aoW (ag (val a/val b).toNat),.d aoW (ag (val a%val b).toNat)]:=by
 have hVp:V<pw 1000001:=by
  have:=bW (bZ V.toNat)
  rw[bg]at this
  have:=dh hL
  omega
 have ha2:=ha.2
 intro i
 induction i with
 |zero=>
  intro R r0 _ R0 RV hlr hl _ hz he
  simp only[m6,List.take_zero,val,amX,aoQ]at he
  rw[←hV]at he
  obtain⟨e1,e2⟩:=aaY (by omega) he R0 (by rw[hV];exact RV)
  have hRl:(ag R.toNat).length≤1000001:=cB R0 (by omega)
  obtain⟨q,hq⟩:=Rc a x1 hs (ag R.toNat) r0 ⟨bZ _,by omega⟩ ⟨hl,by omega⟩ hz (ag R.toNat).length 0 (List.replicate (ag R.toNat).length 0) (alL _) (by omega) (by omega) (Lim.rep _) (by simp) (fun k hk _=>by simp) (by simp[gI])
  rw[bU R0,←e2,←e1]at hq
  refine nO _ _ _ _ _ _ _ ⟨q,?_⟩
  unfold kL
  rw[dF (by omega)]
  dsimp only
  rw[dT (show(0:Int)≤((ag R.toNat).length:Int)∧((ag R.toNat).length:Int)*((4:Nat):Int)≤140737488355328∧((ag R.toNat).length:Int)≤140737488355328 from⟨by omega,by omega,by omega⟩),aD,aT (by omega) (by omega)]
  exact hq
 |succ i ih=>
  intro R r0 hi R0 RV hlr hl hz hz2 he
  have hiU:i<(ag (val a*qsc x1).toNat).length:=by omega
  have hx:=(bZ (val a*qsc x1).toNat).get hiU
  have hir:i<r0.length:=by omega
  have hr0:=hz i hir (by omega)
  have hWv:val ([(ag (val a*qsc x1).toNat)[i]]++ag R.toNat)=(ag (val a*qsc x1).toNat)[i]+1000000000*R:=by
   rw[dB,bU R0]
   simp[val,pw]
  generalize hxi:(ag (val a*qsc x1).toNat)[i]=x at hx hWv
  have W0:0≤x+1000000000*R:=by omega
  have WV:x+1000000000*R<1000000000*V:=by omega
  have hWl:(ag (x+1000000000*R).toNat).length≤n+2:=by
   refine cB W0 ?_
   have:=bW (bZ V.toNat)
   rw[bg,hn]at this
   rw[b8 (n+1)]
   omega
  have hRl:(ag R.toNat).length≤1000001:=cB R0 (by omega)
  have q0:0≤(x+1000000000*R)/V:=amG W0 (by omega)
  have q1:(x+1000000000*R)/V<1000000000:=am9 hp (by omega)
  have m0:=amK (x+1000000000*R) (show V≠0 by omega)
  have m1:=amp (x+1000000000*R) hp
  have md:=amv (x+1000000000*R) V
  have hout:=ih ((x+1000000000*R)%V) (r0.set i ((x+1000000000*R)/V)) (by omega) m0 m1 (by simpa using hlr) (hl.set i ⟨q0,q1⟩)
   (fun k hk hk'=>by rw[am1 (by omega)];exact hz k (by simpa using hk) (by omega))
   (fun k hk hk'=>by rw[am1 (by omega)];exact hz2 k (by simpa using hk) hk') (by
    rw[fj hir,hr0]
    rw[aW hiU,b8,hxi]at he
    grind)
  have hdig:=Gv a b x1 x2 V hV hp hL i hiU r0 (ag R.toNat) hlr hra x (x+1000000000*R) hWv W0 (by omega) hout (by omega)
  have htail:∀H:Int,0≤H→H<1000000000000000000→x+1000000000*R<(H+1)*pw n→∃q,qz (jO.k q) a b x1 x2 (ag R.toNat) ((i:Int)) r0 x H=some [.d aoW (ag (val a/val b).toNat),.d aoW (ag (val a%val b).toNat)]:=by
   intro H H0 H1 HW
   have d0:0≤H/x2:=amG H0 (by omega)
   have d1:H/x2≤H:=anB _ H0
   have hbyV:∀d:Int,0≤d→d<1000000000→byP (ag V.toNat) d:=fun d h1 h2=>⟨⟨bZ _,by omega⟩,h1,h2⟩
   by_cases hc:H/x2>999999999
   ·obtain⟨q,hq⟩:=hdig 999999999 (alL _) (by rw[show V*(((999999999:Nat):Int)+1)=1000000000*V by omega];exact WV)
    refine⟨q,?_⟩
    unfold qz
    simp only[gv,hV]
    rw[bj (x:=x2) (by omega) (by omega),dF (show ¬x2=0 by omega),gX H0,bj (x:=H/x2) (by omega) (by omega),dT hc,c7 (x:=999999999) (by decide) (by decide),dT (hbyV 999999999 (by decide) (by decide)),bU (v:=V) (by omega)]
    exact hq
   ·obtain⟨q,hq⟩:=hdig (H/x2).toNat (by omega) (by rw[show(((H/x2).toNat:Nat):Int)=H/x2 by omega];exact Ss hx2.1 HW (cp n) hxp rfl H0)
    rw[show(((H/x2).toNat:Nat):Int)=H/x2 by omega]at hq
    refine⟨q,?_⟩
    unfold qz
    simp only[gv,hV]
    rw[bj (x:=x2) (by omega) (by omega),dF (show ¬x2=0 by omega),gX H0,bj (x:=H/x2) (by omega) (by omega),dF hc,c7 (x:=H/x2) (by omega) (by omega),dT (hbyV (H/x2) (by omega) (by omega)),bU (v:=V) (by omega)]
    exact hq
  have hWlim:=bZ (x+1000000000*R).toNat
  have hWval:=bU W0
  have hsplit:=f0 (ag (x+1000000000*R).toNat) n
  have htl:=bW (hWlim.take n)
  have hpre:∀H,val ((ag (x+1000000000*R).toNat).drop n)=H→x+1000000000*R<(H+1)*pw n:=by
   intro H hH
   rw[hH,hWval]at hsplit
   have hm:(ag (x+1000000000*R).toNat |>.take n).length≤n:=by rw[ams];omega
   have:=dh hm
   rcases amm n (ag (x+1000000000*R).toNat).length with h|h
   ·rw[amu (by omega)]at hsplit
    rw[Int.add_mul,ant H,amX]
    omega
   ·rw[amB h]at hH
    have hH0:H=0:=by rw[←hH];rfl
    subst hH0
    rw[anY]at hsplit
    omega
  have hstep:∀(H:Int) (q:Nat),qz (jO.k q) a b x1 x2 (ag R.toNat) ((i:Int)) r0 x H=some [.d aoW (ag (val a/val b).toNat),.d aoW (ag (val a%val b).toNat)]→True:=fun _ _ _=>trivial
  have hap:(([x]:List Int).length+(ag R.toNat).length)*4≤140737488355328∧([x]:List Int).length+(ag R.toNat).length≤140737488355328:=by simp only[al6];omega
  have hlS:aQ ([x]++ag R.toNat):=⟨(Lim.cons ⟨hx.1,hx.2⟩ Lim.nil).append (bZ _),by simp only[amf,al6];omega⟩
  have hw1:i64.wrap (((n+1:Nat):Int)-1)=((n:Nat):Int):=by rw[aT (by omega) (by omega)];omega
  rcases Nat.lt_trichotomy (ag (x+1000000000*R).toNat).length (n+1)with hc|hc|hc
  ·obtain⟨q,hq⟩:=htail 0 (by omega) (by omega) (hpre 0 (by rw[amB (by omega)];rfl))
   refine nO _ _ _ _ _ _ _ ⟨q,?_⟩
   unfold kL
   rw[dT (show((i+1:Nat):Int)-1≥0 by omega),show((i+1:Nat):Int)-1=(i:Int) by omega,gv,ao,alG hiU,hxi]
   dsimp only
   rw[dT hap,dT hlS,hWv,hV,hn]
   rw[dF (show ¬((ag (x+1000000000*R).toNat).length:Int)>((n+1:Nat):Int) by omega),dF (show ¬((ag (x+1000000000*R).toNat).length:Int)≥((n+1:Nat):Int) by omega)]
   rw[←hV]
   exact hq
  ·have hget:(ag (x+1000000000*R).toNat)[n]?=some (ag (x+1000000000*R).toNat)[n]:=alG (by omega)
   have hxn:=hWlim.get (show n<(ag (x+1000000000*R).toNat).length by omega)
   have hdrop:val ((ag (x+1000000000*R).toNat).drop n)=(ag (x+1000000000*R).toNat)[n]:=by
    rw[gh (by omega),amB (by omega)]
    simp[val]
   obtain⟨q,hq⟩:=htail (ag (x+1000000000*R).toNat)[n] hxn.1 (by omega) (hpre _ hdrop)
   refine nO _ _ _ _ _ _ _ ⟨q,?_⟩
   unfold kL
   rw[dT (show((i+1:Nat):Int)-1≥0 by omega),show((i+1:Nat):Int)-1=(i:Int) by omega,gv,ao,alG hiU,hxi]
   dsimp only
   rw[dT hap,dT hlS,hWv,hV,hn]
   rw[dF (show ¬((ag (x+1000000000*R).toNat).length:Int)>((n+1:Nat):Int) by omega),dT (show((ag (x+1000000000*R).toNat).length:Int)≥((n+1:Nat):Int) by omega),hw1,ao (ag (x+1000000000*R).toNat) n,hget]
   dsimp only
   rw[Int.zero_add,bj (x:=(ag (x+1000000000*R).toNat)[n]) (by omega) (by omega),bj (x:=(ag (x+1000000000*R).toNat)[n]) (by omega) (by omega)]
   rw[←hV]
   exact hq
  ·have hget:(ag (x+1000000000*R).toNat)[n]?=some (ag (x+1000000000*R).toNat)[n]:=alG (by omega)
   have hget1:(ag (x+1000000000*R).toNat)[n+1]?=some (ag (x+1000000000*R).toNat)[n+1]:=alG (by omega)
   have hxn:=hWlim.get (show n<(ag (x+1000000000*R).toNat).length by omega)
   have hxn1:=hWlim.get (show n+1<(ag (x+1000000000*R).toNat).length by omega)
   have hdrop:val ((ag (x+1000000000*R).toNat).drop n)=(ag (x+1000000000*R).toNat)[n+1]*1000000000+(ag (x+1000000000*R).toNat)[n]:=by
    rw[gh (by omega),gh (by omega),amB (by omega)]
    simp only[val]
    omega
   obtain⟨q,hq⟩:=htail ((ag (x+1000000000*R).toNat)[n+1]*1000000000+(ag (x+1000000000*R).toNat)[n]) (by omega) (by omega) (hpre _ hdrop)
   refine nO _ _ _ _ _ _ _ ⟨q,?_⟩
   unfold kL
   rw[dT (show((i+1:Nat):Int)-1≥0 by omega),show((i+1:Nat):Int)-1=(i:Int) by omega,gv,ao,alG hiU,hxi]
   dsimp only
   rw[dT hap,dT hlS,hWv,hV,hn]
   rw[dT (show((ag (x+1000000000*R).toNat).length:Int)>((n+1:Nat):Int) by omega),ao (ag (x+1000000000*R).toNat) (n+1),hget1]
   dsimp only
   rw[dT (show((ag (x+1000000000*R).toNat).length:Int)≥((n+1:Nat):Int) by omega),hw1,ao (ag (x+1000000000*R).toNat) n,hget]
   dsimp only
   rw[bj (x:=(ag (x+1000000000*R).toNat)[n+1]) (by omega) (by omega),bj (x:=(ag (x+1000000000*R).toNat)[n+1]*1000000000) (by omega) (by omega),bj (x:=(ag (x+1000000000*R).toNat)[n]) (by omega) (by omega),bj (x:=(ag (x+1000000000*R).toNat)[n+1]*1000000000+(ag (x+1000000000*R).toNat)[n]) (by omega) (by omega)]
   rw[←hV]
   exact hq
end
end
def adZ:Cn 264 [aoW,aoW]:=cn fun(a b:List Int)=>lf (DC a b) [.d aoW (ag (val a/val b).toNat),.d aoW (ag (val a%val b).toNat)] fun h=>by
 refine cZ Mr (show jO.Res _ _ _ from ?_)
 obtain⟨⟨ha,sa⟩,⟨hb,sb⟩,hne⟩:=h
 have a0:=aP ha.1
 have b0:0<val b:=eI hb hne
 have hlen:=ami.2 hne
 have la:=bW ha.1
 have lb:=bW hb.1
 by_cases hsm:a.length≤2∧b.length≤2
 ·have p2:pw 2=1000000000000000000:=by decide
  have m1:=dh hsm.1
  have m2:=dh hsm.2
  have q0:0≤val a/val b:=amG a0 (by omega)
  have q1:val a/val b≤val a:=anB _ a0
  have r0:=amK (val a) (show val b≠0 by omega)
  have r1:=amp (val a) b0
  refine Pe _ _ ⟨0,?_⟩
  unfold EM
  rw[dT (show(a.length:Int)≤2 by omega),dT (show(b.length:Int)≤2 by omega),dT (show tM a from⟨⟨ha.1,by omega⟩,by omega⟩),dT (show tM b from⟨⟨hb.1,by omega⟩,by omega⟩),dF (show ¬val b=0 by omega),gX a0,jo a0,bj (x:=val a/val b) q0 (by omega),dT (show iC (val a/val b) from⟨q0,by omega⟩),dT (show iC (val a%val b) from⟨r0,by omega⟩)]
 ·obtain⟨n,hn⟩:∃n,b.length=n+1:=⟨b.length-1,by omega⟩
  have hbn:n<b.length:=by omega
  have ht:=u7 hb hn
  have hbl:=hb.1.get hbn
  obtain⟨hs0,hs1,hs2⟩:=acO (x:=b[n]) ht hbl.2
  have hVp:0<val b*qsc b[n]:=Int.mul_pos b0 (by omega)
  have hVl:(ag (val b*qsc b[n]).toNat).length≤1000001:=by
   refine cB (by omega) ?_
   have h1:val b*qsc b[n]≤val b*999999999:=alN (by omega) (by omega)
   have h2:=dh sb
   rw[b8 1000000]
   omega
  have hUl:(ag (val a*qsc b[n]).toNat).length≤a.length+1:=by
   refine cB (amD a0 (by omega)) ?_
   have h1:val a*qsc b[n]≤val a*999999999:=alN (by omega) (by omega)
   rw[b8]
   omega
  obtain⟨m,x2,hm,hg,hx1,hx2,hxp⟩:=EV hVp
  obtain⟨q,hq⟩:=Fj a b b[n] x2 (val b*qsc b[n]) rfl ⟨hs1,hs2⟩ hVp hUl ⟨ha.1,sa⟩ hVl m hm ⟨hx1,hx2⟩ hxp (ag (val a*qsc b[n]).toNat).length 0 (List.replicate (a.length+1) 0) (alL _) (by omega) hVp (by simp) (Lim.rep _) (fun k hk _=>by simp) (fun k hk _=>by simp) (by
   rw[amY,bU (amD a0 (by omega)),gI];omega)
  refine Pe _ _ ⟨q,?_⟩
  have hw1:i64.wrap ((b.length:Int)-1)=(n:Int):=by rw[aT (by omega) (by omega)];omega
  have hx1w:¬u64.wrap (u64.wrap b[n]+1)=0:=by rw[bj (x:=b[n]) (by omega) (by omega),bj (by omega) (by omega)];omega
  have hbyb:byP b (qsc b[n]):=⟨⟨hb.1,by omega⟩,by omega,hs2⟩
  have hbya:byP a (qsc b[n]):=⟨⟨ha.1,by omega⟩,by omega,hs2⟩
  have hw2:i64.wrap (((m+1:Nat):Int)-1)=(m:Int):=by rw[aT (by omega) (by omega)];omega
  have hsub:(match aR b (i64.wrap ((b.length:Int)-1))with|some x1=>(match decide (u64.wrap ((u64.wrap x1)+1)=(0:Int))with|true=>none|false=>(match decide (byP b (qsc x1))with|true=>(match aR (ag (val b*(qsc x1)).toNat) (i64.wrap (((ag (val b*(qsc x1)).toNat).length:Int)-1))with|some x2=>(match decide ((0:Int)≤i64.wrap ((a.length:Int)+1)∧(i64.wrap ((a.length:Int)+1))*((4:Nat):Int)≤140737488355328∧i64.wrap ((a.length:Int)+1)≤140737488355328)with|true=>(match decide (byP a (qsc x1))with|true=>(match decide ((0:Int)≤0∧0≤((ag (val a*(qsc x1)).toNat).length:Int)∧((ag (val a*(qsc x1)).toNat).length:Int)≤((List.replicate (i64.wrap ((a.length:Int)+1)).toNat (0:Int)).length:Int))with|true=>(jO.k q) 30 (kB a b x1 x2 ([]) (i64.wrap (((ag (val a*(qsc x1)).toNat).length:Int)-1)) (List.replicate (i64.wrap ((a.length:Int)+1)).toNat (0:Int)))|false=>none)|false=>none)|false=>none)|none=>none)|false=>none))|none=>none)=some [.d aoW (ag (val a/val b).toNat),.d aoW (ag (val a%val b).toNat)]:=by
   rw[hw1,ao,alG hbn]
   dsimp only
   rw[dF hx1w,dT hbyb,hm,hw2,ao,hg]
   dsimp only
   rw[bV (k:=a.length) (by omega),tY (n:=a.length+1) (by omega),dT hbya,aD,aof,dT (show(0:Int)≤0∧(0:Int)≤((ag (val a*qsc b[n]).toNat).length:Int)∧((ag (val a*qsc b[n]).toNat).length:Int)≤((a.length+1:Nat):Int) from⟨by omega,by omega,by omega⟩),aT (x:=((ag (val a*qsc b[n]).toNat).length:Int)-1) (by omega) (by omega)]
   exact hq
  unfold EM
  by_cases h1:a.length≤2
  ·rw[dT (show(a.length:Int)≤2 by omega),dF (show ¬(b.length:Int)≤2 by omega)]
   exact hsub
  ·rw[dF (show ¬(a.length:Int)≤2 by omega)]
   exact hsub
def EO:List En:=[enK xl,enK Bs,enF AD,enF xU,enK XT,enK E4,enK adZ,enK AS,enK abv,enK Gq,enK BD]
def LG(x y:Bool×List Int)(_k:KT):Option (List RV):=let y1:=ag (val x.2/val y.2).toNat;let y2:=ag (val x.2%val y.2).toNat;let y3:=ai (cd (!(x.1==y.1)) (val y1));let y4:=ai (cd x.1 (val y2));let y5:Option (List RV):=match decide ((y2.length:Int)>0)with|true=>(match !(x.1==y.1)with|true=>(og (decide (aH (1:Int))) (og (decide (okI y3∧okI (ai (1:Int)))) (og (decide (okI y4∧okI y)) (dup (.b .l .l) (some [RV.d y2Y (ai (ae y3-ae (ai (1:Int)))),RV.d y2Y (ai (ae y4+ae y)),RV.d aoX 0])))))|false=>dup (.b .l .l) (some [RV.d y2Y y3,RV.d y2Y y4,RV.d aoX 0]))|false=>dup (.b .l .l) (some [RV.d y2Y y3,RV.d y2Y y4,RV.d aoX 0]);let y6:Option (List RV):=match decide (aQ y2)with|true=>y5|false=>none;match(y.2.length:Int)==0 with|true=>some [RV.d y2Y (false,[]),RV.d y2Y (false,[]),RV.d aoX 6]|false=>(og (decide (DC x.2 y.2)) (ce (og (decide (aQ y1)) (ce (og (decide (aQ y2)) (dup (.b .l .l) y5)) (dup (.b (.b .l .l) (.b .l .l)) y6))) (dup (.b .l .l) (ce (og (decide (aQ y1)) (dup (.b .l .l) y6)) (og (decide (aQ y1)) y6)))))
def TG:NT:=[((165,6),{keep:=[4,5,6],pure_:=[(5,.int .u32),(6,.int .u32)],hl:=3}),((165,29),{keep:=[4,9,10],hl:=3})]
def uJ:Ctx:=CX (ens EO) TG
def sh(x y:Bool×List Int)(s5 s6:List Int):Cfg:=⟨165,[.blk 0,.seq 17],[(4,.box 2 0),(5,.d aoW s5),(6,.d aoW s6)],[.box 29 [SB x.1,.d aoW x.2],.box 29 [SB y.1,.d aoW y.2],.box 29 [SB false,.nil]],0,[]⟩
def ph(x y:Bool×List Int)(s9 s10:Int):Cfg:=⟨165,[.blk 2,.seq 38],[(4,.box 2 0),(9,.d (.int .u64) s9),(10,.d (.int .u64) s10)],[.box 29 [SB x.1,.d aoW x.2],.box 29 [SB y.1,.d aoW y.2],.box 29 [SB false,.nil]],0,[]⟩
def acL(x y:Bool×List Int)(k:KT):Option (List RV):=k 6 (sh x y x.2 y.2)
theorem aau(x y:Bool×List Int):RS uJ 165 [.d y2Y x,.d y2Y y] (acL x y):=rsX
def qa(x y:Bool×List Int)(s5 s6:List Int)(k:KT):Option (List RV):=match decide ((s6.length:Int)>0)with|true=>(match decide ((s5.length:Int)>2)with|true=>(og (decide (DC s5 s6)) (k 6 (sh x y s6 (ag (val s5%val s6).toNat))))|false=>(match decide ((s6.length:Int)>2)with|true=>(og (decide (DC s5 s6)) (k 6 (sh x y s6 (ag (val s5%val s6).toNat))))|false=>(match(s6.length:Int)==0 with|true=>(og (decide (aQ s5)) (some [RV.d y2Y (ai (cd false (val s5)))]))|false=>(og (decide (tM s5)) (og (decide (tM s6)) (k 29 (ph x y (val s5) (val s6))))))))|false=>(match(s6.length:Int)==0 with|true=>(og (decide (aQ s5)) (some [RV.d y2Y (ai (cd false (val s5)))]))|false=>(og (decide (tM s5)) (og (decide (tM s6)) (k 29 (ph x y (val s5) (val s6))))))
theorem uU(x y:Bool×List Int)(s5 s6:List Int):RL uJ 6 (sh x y s5 s6) (qa x y s5 s6):=rlX
def rT(x y:Bool×List Int)(s9 s10:Int)(k:KT):Option (List RV):=match decide (s10>0)with|true=>(match decide (s10=(0:Int))with|true=>none|false=>k 29 (ph x y s10 (Int.tmod s9 s10)))|false=>(og (decide (iC s9)) (og (decide (aQ (ag s9.toNat))) (some [RV.d y2Y (ai (cd false (val (ag s9.toNat))))])))
theorem xz(x y:Bool×List Int)(s9 s10:Int):RL uJ 29 (ph x y s9 s10) (rT x y s9 s10):=rlX
def Ol:Cn 166 [y2Y,y2Y]:=cn fun(x y:Bool×List Int)=>lf (fp x y) [.d y2Y (ai (ae x/ae y)),.d y2Y (ai (ae x%ae y)),.d aoX 0] fun h=>by
 refine aA EO (LG x y) ⟨0,?_⟩
 obtain⟨hx,hy,hp⟩:=h
 obtain⟨x0,x1,x2⟩:=cE hx
 obtain⟨y0,y1,y2⟩:=cE hy
 have sx:=hx.2.2
 have sy:=hy.2.2
 have ey:y.1=false:=by
  cases e:y.1
  ·rfl
  ·rw[bL,e]at hp
   simp only[cd,cond_true]at hp
   omega
 have dy:ae y=val y.2:=by rw[bL,ey];rfl
 rw[dy]at hp
 have hne:y.2≠[]:=fun e=>by rw[y2]at e;omega
 have hprt:DC x.2 y.2:=⟨⟨hx.1,sx⟩,⟨hy.1,sy⟩,hne⟩
 have hylen:=ami.2 hne
 have r0:=amK (val x.2) (show val y.2≠0 by omega)
 have r1:=amp (val x.2) hp
 have q0:0≤val x.2/val y.2:=amG x0 y0
 have q1:val x.2/val y.2≤val x.2:=anB _ x0
 have vx:=bW hx.1.1
 have vy:=bW hy.1.1
 have mx:=dh sx
 have my:=dh sy
 have szq:szI (val x.2/val y.2)≤1000000:=fh (by have:=cp 1000000;omega) (by omega)
 have szr:szI (val x.2%val y.2)≤1000000:=fh (by have:=cp 1000000;omega) (by omega)
 have lq:(ag (val x.2/val y.2).toNat).length≤1000000:=cB q0 (by omega)
 have lr:(ag (val x.2%val y.2).toNat).length≤1000000:=cB r0 (by omega)
 unfold LG
 simp only[eU]
 rw[show((y.2.length:Int)==0)=false by simp;omega,dT hprt,dT (cD (n:=(val x.2/val y.2).toNat) (by omega)),dT (cD (n:=(val x.2%val y.2).toNat) (by omega)),dT (show aH 1 by decide),bU q0,bU r0,
  dT (show okI (ai (cd (!(x.1==y.1)) (val x.2/val y.2)))∧okI (ai (1:Int)) from⟨aU (by rw[BW];exact szq),qs⟩),dT (show okI (ai (cd x.1 (val x.2%val y.2)))∧okI y from⟨aU (by rw[BW];exact szr),hy⟩)]
 simp only[dec_enc,dy,cS]
 rw[bL x,ey]
 have hlen:(((ag (val x.2%val y.2).toNat).length:Int)>0)↔0<val x.2%val y.2:=by
  constructor
  ·intro hl
   rcases amd 0 (val x.2%val y.2)with h|h
   ·exact h
   ·rw[show(val x.2%val y.2).toNat=0 by omega,fI]at hl
    simp at hl
  ·intro hl
   have:ag (val x.2%val y.2).toNat≠[]:=fun e=>by rw[gU]at e;omega
   have:=ami.2 this
   omega
 obtain⟨n1,n2⟩:=Ic (a:=val x.2) (b:=val y.2) x0 hp
 rcases amd 0 (val x.2%val y.2)with hr|hr
 ·rw[dT (hlen.2 hr)]
  cases x.1
  ·rfl
  ·obtain⟨e1,e2⟩:=n2 hr
   simp only[cd,cond_true,Bool.not_false,show((true==false):Bool)=false from rfl]
   rw[e1,e2]
 ·rw[dF (fun h'=>by have:=hlen.1 h';omega)]
  dsimp only
  have e0:val x.2%val y.2=0:=by omega
  cases x.1
  ·simp only[cd,cond_false,show((false==false):Bool)=true from rfl,Bool.not_true]
  ·obtain⟨e1,e2⟩:=n1 e0
   simp only[cd,cond_true,Bool.not_false,show((true==false):Bool)=false from rfl]
   rw[e1,e2,e0]
   rfl
theorem JS(x y:BI)(B:Nat)(hB:(B:Int)<18446744073709551616):∀(v u:Nat),u≤B→v≤B→uJ.RunsE 29 (ph x y (u:Int) (v:Int)) [.d y2Y (ai ((Nat.gcd u v:Nat):Int))]:=by
 intro v
 induction v using Nat.strongRecOn with
 |ind v ih=>
  intro u hu hv
  rcases amA v with h0|h0
  ·refine xz _ _ _ _ ⟨0,fun n _=>?_⟩
   have hp:iC (u:Int):=⟨by omega,by omega⟩
   have hl:(ag u).length≤3:=dl (an9 (show(u:Int)<18446744073709551616 by omega) (by decide))
   unfold rT
   rw[dF (show ¬(v:Int)>0 by omega),dT hp,anm,dT (cD (n:=u) (by omega)),bg,show Nat.gcd u v=u by rw[h0];exact Nat.gcd_zero_right u]
   rfl
  ·obtain⟨n0,hn⟩:=ih (u%v) (aoA _ h0) v hv (alU (Nat.le_of_lt (aoA _ h0)) hv)
   refine xz _ _ _ _ ⟨n0,fun n hn'=>?_⟩
   unfold rT
   rw[dT (show(v:Int)>0 by omega),dF (show ¬(v:Int)=0 by omega),jo (by omega)]
   dsimp only
   rw[show((u:Int)%(v:Int))=((u%v:Nat):Int) by simp,anN u v,Nat.gcd_rec v u,anN]
   exact hn n hn'
theorem Jv{u:Nat}(h:(ag u).length≤2):(u:Int)<1000000000000000000:=by
 have h1:=bW (bZ u)
 rw[bg]at h1
 have h2:=dh h
 grind [pw]
theorem J7(x y:BI):∀(v u:Nat),(ag u).length≤1000000→(ag v).length≤1000000→
  uJ.RunsE 6 (sh x y (ag u) (ag v)) [.d y2Y (ai ((Nat.gcd u v:Nat):Int))]:=by
 intro v
 induction v using Nat.strongRecOn with
 |ind v ih=>
  intro u hu hv
  rcases amA v with h0|h0
  ·refine uU _ _ _ _ ⟨0,fun n _=>?_⟩
   unfold qa
   rw[h0,Nat.gcd_zero_right,dF (show ¬((ag 0).length:Int)>0 by decide),show(((ag 0).length:Int)==0)=true by decide]
   dsimp only
   rw[dT (cD (n:=u) (by omega)),bg]
   rfl
  ·have hne:ag v≠[]:=fun e=>by rw[gU]at e;omega
   have hl:=ami.2 hne
   have hm:=aoA u h0
   have hms:(ag (u%v)).length≤1000000:=dl (by
    have:=bW (bZ v)
    rw[bg]at this
    have:=dh hv
    omega)
   have hz:(((ag v).length:Int)==0)=false:=by simp;omega
   have hprt:DC (ag u) (ag v):=⟨⟨eh _,hu⟩,⟨eh _,hv⟩,hne⟩
   have hmod:(val (ag u)%val (ag v)).toNat=u%v:=by rw[bg,bg];omega
   by_cases hsm:(ag u).length≤2∧(ag v).length≤2
   ·have lu:=Jv hsm.1
    have lv:=Jv hsm.2
    obtain⟨n0,hn⟩:=JS x y 1000000000000000000 (by decide) v u (by omega) (by omega)
    refine uU _ _ _ _ ⟨n0,fun n hn'=>?_⟩
    unfold qa
    rw[dT (show((ag v).length:Int)>0 by omega),dF (show ¬((ag u).length:Int)>2 by omega),dF (show ¬((ag v).length:Int)>2 by omega),hz,dT (show tM (ag u) from⟨cD (by omega),by rw[bg];omega⟩),dT (show tM (ag v) from⟨cD (by omega),by rw[bg];omega⟩),bg,bg]
    exact hn n hn'
   ·obtain⟨n0,hn⟩:=ih (u%v) hm v hv hms
    refine uU _ _ _ _ ⟨n0,fun n hn'=>?_⟩
    have:=hn n hn'
    rw[show Nat.gcd v (u%v)=Nat.gcd u v by rw[anN u v,Nat.gcd_rec v u,anN]]at this
    unfold qa
    rw[dT (show((ag v).length:Int)>0 by omega),dT hprt,hmod]
    by_cases h2:(ag u).length≤2
    ·rw[dF (show ¬((ag u).length:Int)>2 by omega),dT (show((ag v).length:Int)>2 by omega)]
     exact this
    ·rw[dT (show((ag u).length:Int)>2 by omega)]
     exact this
def Om:Cn 165 [y2Y,y2Y]:=cn fun(x y:Bool×List Int)=>lf (okI x∧okI y) [.d y2Y (ai ((Int.gcd (ae x) (ae y):Nat):Int))] fun h=>by
 refine cZ EO (show uJ.Res _ _ _ from ?_)
 obtain⟨hx,hy⟩:=h
 obtain⟨x0,_,_⟩:=cE hx
 obtain⟨y0,_,_⟩:=cE hy
 have ex:((ae x).natAbs:Int)=val x.2:=by rw[bL];unfold cd;cases x.1<;>simp<;>omega
 have ey:((ae y).natAbs:Int)=val y.2:=by rw[bL];unfold cd;cases y.1<;>simp<;>omega
 have cx:=po hx.1
 have cy:=po hy.1
 rw[show(val x.2).toNat=(ae x).natAbs by omega]at cx
 rw[show(val y.2).toNat=(ae y).natAbs by omega]at cy
 obtain⟨n1,h1⟩:=J7 x y (ae y).natAbs (ae x).natAbs (by rw[←cx];exact hx.2.2) (by rw[←cy];exact hy.2.2)
 rw[←cx,←cy]at h1
 exact aau _ _ ⟨n1,h1 n1 (alL _)⟩
section
abbrev tI:Ty:=.st (.pair .bool aoW)
abbrev tR:Ty:=.st (.pair tI tI)
abbrev tV:Ty:=.st (.pair tR tR)
abbrev tO:Ty:=.st (.pair tR (.pair tR tR))
abbrev tP:Ty:=.st (.pair tR (.pair tR (.pair tR (.pair tR tR))))
abbrev tQ:Ty:=.st (.pair tR (.pair tR (.pair tR (.pair tR (.pair tR tR)))))
abbrev tG:Ty:=.st (.pair aoX aoX)
abbrev BV:=BR×BR
abbrev BO3:=BR×BR×BR
abbrev BP:=BR×BR×BR×BR×BR
abbrev BQ:=BR×BR×BR×BR×BR×BR
abbrev hAd(a b:BR):BR:=hid (am (ah a+ah b))
abbrev hSu(a b:BR):BR:=hid (am (ah a-ah b))
abbrev hMu(a b:BR):BR:=hid (am (ah a*ah b))
abbrev hDi(a b:BR):BR:=hid (am (ah a/ah b))
abbrev hNe(a:BR):BR:=hid (am (-ah a))
class Cod (α:Type) (A:outParam Type) where
 enc:α→A
 dec:A→α
 bd:Nat→α→Prop
 ok:Nat→A→Prop
 okD:∀k x,Decidable (ok k x)
 mono:∀j k x,j≤k→bd j x→bd k x
 dec_enc:∀x,dec (enc x)=x
 ok_enc:∀k x,k≤480000→bd k x→ok k (enc x)
 ok_dec:∀k x,ok k x→x=enc (dec x)∧bd k (dec x)
def enc{α A:Type}[Cod α A](x:α):A:=Cod.enc x
def dec{α A:Type}[Cod α A](x:A):α:=Cod.dec x
def ok(α:Type){A:Type}[Cod α A](k:Nat)(x:A):Prop:=Cod.ok (α:=α) k x
instance (α A:Type) [Cod α A] (k:Nat) (x:A):Decidable (ok α k x):=Cod.okD k x
theorem az{α A:Type}[Cod α A](x:α):dec (enc x)=x:=Cod.dec_enc x
class Bd {α A:Type} [Cod α A] (x:α) (k:outParam Nat):Prop where le:Cod.bd k x
theorem aB{α A:Type}[Cod α A]{k:Nat}{x:A}(h:ok α k x):∃v:α,x=enc v∧Bd v k:=⟨_,(Cod.ok_dec k x h).1,⟨(Cod.ok_dec k x h).2⟩⟩
theorem okd{α A:Type}[Cod α A]{x:α}{j k:Nat}[h:Bd x j](hj:j≤k)(hk:k≤480000):decide (ok α k (enc x))=true:=
 alF (Cod.ok_enc k x hk (Cod.mono j k x hj h.le))
instance akt:Cod Rat BR where
 enc:=am
 dec:=ah
 bd:=bdR
 ok k x:=okR x∧x.1.2.length≤k∧x.2.2.length≤k
 okD _ _:=instDecidableAnd
 mono _ _ _ hk h:=bJ h hk
 dec_enc:=cA
 ok_enc k _ hk h:=⟨pU h hk,h.1,h.2⟩
 ok_dec k x h:=by
  obtain⟨h1,h2,h3⟩:=h
  refine⟨Q8 h1,?_⟩
  obtain⟨e1,e2⟩:=cN h1
  unfold bdR szI
  rw[e1,e2]
  rw[iv h1.1]at h2
  rw[iv h1.2.1]at h3
  exact⟨h2,h3⟩
instance akZ:Cod Int Int where
 enc x:=x
 dec x:=x
 bd _ x:=aH x
 ok _ x:=aH x
 okD _ _:=inferInstance
 mono _ _ _ _ h:=h
 dec_enc _:=rfl
 ok_enc _ _ _ h:=h
 ok_dec _ _ h:=⟨rfl,h⟩
instance ajf:Cod Bool Bool where
 enc x:=x
 dec x:=x
 bd _ _:=True
 ok _ _:=True
 okD _ _:=inferInstance
 mono _ _ _ _ h:=h
 dec_enc _:=rfl
 ok_enc _ _ _ h:=h
 ok_dec _ _ h:=⟨rfl,h⟩
instance aja (α β A B:Type) [Cod α A] [Cod β B]:Cod (α×β) (A×B) where
 enc x:=(enc x.1,enc x.2)
 dec x:=(dec x.1,dec x.2)
 bd k x:=Cod.bd k x.1∧Cod.bd k x.2
 ok k x:=ok α k x.1∧ok β k x.2
 okD _ _:=instDecidableAnd
 mono _ _ _ hk h:=⟨Cod.mono _ _ _ hk h.1,Cod.mono _ _ _ hk h.2⟩
 dec_enc x:=by rw[az,az]
 ok_enc k _ hk h:=⟨Cod.ok_enc _ _ hk h.1,Cod.ok_enc _ _ hk h.2⟩
 ok_dec k x h:=⟨amV (Cod.ok_dec k x.1 h.1).1 (Cod.ok_dec k x.2 h.2).1,(Cod.ok_dec k x.1 h.1).2,(Cod.ok_dec k x.2 h.2).2⟩
theorem nr{α:Type}{a b:α}(h:a=b):a=b:=h
theorem rY{α β A B:Type}[Cod α A][Cod β B](x:α×β):(enc x).1=enc x.1:=nr rfl
theorem AC{α β A B:Type}[Cod α A][Cod β B](x:α×β):(enc x).2=enc x.2:=nr rfl
theorem aC{α β A B:Type}[Cod α A][Cod β B](x:α)(y:β):enc (x,y)=(enc x,enc y):=nr rfl
theorem eO(q:Rat):enc q=am q:=nr rfl
theorem IP(x:BR):dec x=ah x:=nr rfl
theorem HK(q:Int):enc q=q:=nr rfl
theorem Ct(q:Bool):enc q=q:=nr rfl
theorem H5{q:Rat}{j:Nat}[h:Bd q j](hj:j≤480000):decide (okR (am q))=true:=alF (pU h.le hj)
def mx(j k:Nat):Nat:=bif decide (j≤k)then k else j
theorem AI(j k:Nat):j≤mx j k:=by
 unfold mx
 by_cases h:j≤k
 ·rw[alF h];exact h
 ·rw[alH h];exact alL _
theorem Bp(j k:Nat):k≤mx j k:=by
 unfold mx
 by_cases h:j≤k
 ·rw[alF h];exact alL _
 ·rw[alH h];show k≤j;omega
theorem lO{q:Rat}{j k:Nat}[h:Bd q j](hj:j≤k)(hk:k≤480000):decide (ok Rat k (am q))=true:=okd (x:=q) hj hk
section
variable {α β A B:Type} [Cod α A] [Cod β B]
instance akV {x:α×β} {k:Nat} [h:Bd x k]:Bd x.1 k:=⟨h.le.1⟩
instance ak3 {x:α×β} {k:Nat} [h:Bd x k]:Bd x.2 k:=⟨h.le.2⟩
instance alf {x:α} {y:β} {j k:Nat} [h:Bd x j] [h':Bd y k]:Bd (x,y) (mx j k):=⟨Cod.mono _ _ _ (AI _ _) h.le,Cod.mono _ _ _ (Bp _ _) h'.le⟩
instance ajj {b:Bool} {x y:α} {j k:Nat} [h:Bd x j] [h':Bd y k]:Bd (bif b then x else y) (mx j k):=by
 refine⟨?_⟩
 cases b
 ·exact Cod.mono _ _ _ (Bp _ _) h'.le
 ·exact Cod.mono _ _ _ (AI _ _) h.le
theorem Bd.mono{x:α}{j k:Nat}(h:Bd x j)(hk:j≤k):Bd x k:=⟨Cod.mono _ _ _ hk h.le⟩
end
section
variable {a b:Rat} {j k:Nat}
instance akl [h:Bd a j] [h':Bd b k]:Bd (a+b) (j+k+1):=⟨AW h.le h'.le⟩
instance ale [h:Bd a j] [h':Bd b k]:Bd (a-b) (j+k+1):=⟨Ub h.le h'.le⟩
instance aks [h:Bd a j] [h':Bd b k]:Bd (a*b) (j+k):=⟨Ah h.le h'.le⟩
instance ajw [h:Bd a j]:Bd (-a) j:=⟨vS h.le⟩
theorem nI(h:bdR k b):1≤k:=by
 have h1:=h.2
 have h2:=FX (b.den:Int)
 have h3:=b.den_pos
 rcases amA k with e|e
 ·subst e
  have:szI (b.den:Int)=0:=by omega
  rw[this]at h2
  have:pw 0=1:=rfl
  omega
 ·exact e
instance akA [h:Bd a j] [h':Bd b k]:Bd (a/b) (j+k):=by
 refine⟨?_⟩
 by_cases h0:b=0
 ·subst h0
  rw[aom,Rat.inv_zero,Rat.mul_zero]
  have:=nI h'.le
  exact bJ (j:=1) ⟨by decide+kernel,by decide+kernel⟩ (by omega)
 ·exact Vp h.le h'.le h0
end
theorem cQ{n:Int}(h:aH n):Bd (n:Rat) 3:=by
 refine⟨?_⟩
 show bdR 3 (n:Rat)
 refine⟨?_,?_⟩
 ·rw[Rat.num_intCast]
  have:pw 3=1000000000000000000000000000:=by decide
  exact fh (by have:=h.1;omega) (by have:=h.2;omega)
 ·rw[Rat.den_intCast]
  exact fh (by decide) (by decide)
instance lR:Bd (0:Rat) 1:=⟨⟨by decide+kernel,by decide+kernel⟩⟩
theorem fd{x:BR}(h:okR x):∃q:Rat,x=am q∧Bd q 480000:=⟨ah x,Q8 h,⟨BM h⟩⟩
def cU(a b:Rat×Rat):Rat×Rat:=(b.1-a.1,b.2-a.2)
def bI(a b:Rat×Rat):Rat:=a.1*b.1+a.2*b.2
instance akz {a b:Rat×Rat} {j k:Nat} [Bd a j] [Bd b k]:Bd (cU a b) (k+j+1):=
 ⟨(inferInstance:Bd (b.1-a.1) (k+j+1)).le,(inferInstance:Bd (b.2-a.2) (k+j+1)).le⟩
instance akf {a b:Rat×Rat} {j k:Nat} [Bd a j] [Bd b k]:Bd (bI a b) ((j+k)+(j+k)+1):=inferInstanceAs (Bd (a.1*b.1+a.2*b.2) _)
end
def QR:List En:=[enK AS,enK BD,enK PL,enF RU,enF Sk,enK O4,enK Ol,enK Om]
def MW(_k:KT):Option (List RV):=og (decide (aH (1:Int))) (some [RV.d y2Y (ai (1:Int))])
def Py:Cn 170 []:=cn<|lf True [.d y2Y (ai 1)] fun _=>by
 refine aA QR (MW) ⟨0,?_⟩
 unfold MW
 rw[dT (show aH 1 by decide)]
def PG:List En:=enK Py::QR
def XZ(x y:Bool×List Int)(_k:KT):Option (List RV):=og (decide (okI y)) (match decide ((cr (ae y) 0)<0)with|true=>(og (decide (okI x)) (og (decide (okI y)) (og (decide (okI (ai (-ae x))∧okI (ai (-ae y)))) (og (decide (fp (ai (-ae x)) (ai ((Int.gcd (ae (ai (-ae x))) (ae (ai (-ae y))):Nat):Int)))) (og (decide (fp (ai (-ae y)) (ai ((Int.gcd (ae (ai (-ae x))) (ae (ai (-ae y))):Nat):Int)))) (some [RV.d (.st (.pair y2Y y2Y)) ((ai (ae (ai (-ae x))/ae (ai ((Int.gcd (ae (ai (-ae x))) (ae (ai (-ae y))):Nat):Int)))),(ai (ae (ai (-ae y))/ae (ai ((Int.gcd (ae (ai (-ae x))) (ae (ai (-ae y))):Nat):Int)))))]))))))|false=>(og (decide (okI x∧okI y)) (og (decide (fp x (ai ((Int.gcd (ae x) (ae y):Nat):Int)))) (og (decide (fp y (ai ((Int.gcd (ae x) (ae y):Nat):Int)))) (some [RV.d (.st (.pair y2Y y2Y)) ((ai (ae x/ae (ai ((Int.gcd (ae x) (ae y):Nat):Int)))),(ai (ae y/ae (ai ((Int.gcd (ae x) (ae y):Nat):Int)))))])))))
def ZJ:Cn 66 [y2Y,y2Y]:=cn fun(x y:Bool×List Int)=>lf (jK x y) [.d (.st (.pair y2Y y2Y)) (fi x y)] fun h=>by
 refine aA PG (XZ x y) ⟨0,?_⟩
 obtain⟨hx,hy,hne⟩:=h
 have sx:=iS hx
 have sy:=iS hy
 have hgp:0<Int.gcd (ae x) (ae y):=Nat.pos_of_ne_zero fun e=>hne (Int.gcd_eq_zero_iff.1 e).2
 have hgs:=Qf (a:=ae x) hne sy
 have og:okI (ai ((Int.gcd (ae x) (ae y):Nat):Int)):=aU hgs
 have o1:okI (ai (-ae x)):=aU (by rw[je];exact sx)
 have o2:okI (ai (-ae y)):=aU (by rw[je];exact sy)
 have ig:∀z:BI,okI z→fp z (ai ((Int.gcd (ae x) (ae y):Nat):Int)):=fun z hz=>⟨hz,og,by rw[dec_enc];omega⟩
 unfold XZ fi
 rw[dT hy]
 rcases anz hne with hn|hn
 ·rw[c8 hn,dT (show(-1:Int)<0 by decide),dT hx]
  simp only[dec_enc,Int.gcd_neg,Int.neg_gcd]
  rw[dT (show okI (ai (-ae x))∧okI (ai (-ae y)) from⟨o1,o2⟩),dT (ig _ o1),dT (ig _ o2),←Rat.neg_divInt_neg,n7 (by omega),Int.gcd_neg,Int.neg_gcd]
 ·rw[cM hn,dF (show ¬(1:Int)<0 by decide)]
  simp only[dec_enc]
  rw[dT (show okI x∧okI y from⟨hx,hy⟩),dT (ig _ hx),dT (ig _ hy),n7 hn]
def pn:List En:=enK ZJ::PG
def Mm(a:(Bool×List Int)×Bool×List Int)(_k:KT):Option (List RV):=og (decide (okI a.1)) (some [RV.d aoX (cr (ae a.1) 0)])
def Sr(n:Int)(_k:KT):Option (List RV):=og (decide (aH n)) (some [RV.d (.st (.pair y2Y y2Y)) ((ai n),(ai 1))])
def LS(a b:(Bool×List Int)×Bool×List Int)(_k:KT):Option (List RV):=og (decide (okI a.1∧okI b.2)) (og (decide (okI b.1∧okI a.2)) (og (decide (okI (ai (ae a.1*ae b.2))∧okI (ai (ae b.1*ae a.2)))) (some [RV.d aoX (cr (ae (ai (ae a.1*ae b.2))) (ae (ai (ae b.1*ae a.2))))])))
def NO(a b:(Bool×List Int)×Bool×List Int)(_k:KT):Option (List RV):=og (decide (okI a.1∧okI b.2)) (og (decide (okI b.1∧okI a.2)) (og (decide (okI (ai (ae a.1*ae b.2))∧okI (ai (ae b.1*ae a.2)))) (og (decide (okI a.2∧okI b.2)) (og (decide (jK (ai (ae (ai (ae a.1*ae b.2))+ae (ai (ae b.1*ae a.2)))) (ai (ae a.2*ae b.2)))) (some [RV.d (.st (.pair y2Y y2Y)) (((fi (ai (ae (ai (ae a.1*ae b.2))+ae (ai (ae b.1*ae a.2)))) (ai (ae a.2*ae b.2))).1),((fi (ai (ae (ai (ae a.1*ae b.2))+ae (ai (ae b.1*ae a.2)))) (ai (ae a.2*ae b.2))).2))])))))
def P0(a b:(Bool×List Int)×Bool×List Int)(_k:KT):Option (List RV):=og (decide (okI a.1∧okI b.1)) (og (decide (okI a.2∧okI b.2)) (og (decide (jK (ai (ae a.1*ae b.1)) (ai (ae a.2*ae b.2)))) (some [RV.d (.st (.pair y2Y y2Y)) (((fi (ai (ae a.1*ae b.1)) (ai (ae a.2*ae b.2))).1),((fi (ai (ae a.1*ae b.1)) (ai (ae a.2*ae b.2))).2))])))
def K5(a:(Bool×List Int)×Bool×List Int)(_k:KT):Option (List RV):=og (decide (okI a.1)) (some [RV.d (.st (.pair y2Y y2Y)) ((ai (-ae a.1)),a.2)])
def MT(x y:Bool×List Int)(_k:KT):Option (List RV):=og (decide (okI y)) (match(cr (ae y) 0)==0 with|true=>some [RV.d (.st (.pair y2Y y2Y)) ((false,[]),(false,[])),RV.d aoX 6]|false=>(og (decide (jK x y)) (some [RV.d (.st (.pair y2Y y2Y)) (((fi x y).1),((fi x y).2)),RV.d aoX 0])))
def acS:Cn 347 [y2Y,y2Y]:=cn fun(x y:Bool×List Int)=>lf (jK x y) [.d (.st (.pair y2Y y2Y)) (fi x y),.d aoX 0] fun h=>by
 refine aA pn (MT x y) ⟨0,?_⟩
 obtain⟨hx,hy,hne⟩:=h
 have hnz:(cr (ae y) 0==0)=false:=by
  rcases anz hne with h|h
  ·rw[c8 h];rfl
  ·rw[cM h];rfl
 unfold MT
 rw[dT hy,hnz,dT (show jK x y from⟨hx,hy,hne⟩)]
def HH:List En:=enK acS::pn
def Qv(a b:(Bool×List Int)×Bool×List Int)(_k:KT):Option (List RV):=match decide (okI a.1∧okI b.2)with|true=>(match decide (okI a.2∧okI b.1)with|true=>(match decide (jK (ai (ae a.1*ae b.2)) (ai (ae a.2*ae b.1)))with|true=>some [RV.d (.st (.pair y2Y y2Y)) (((fi (ai (ae a.1*ae b.2)) (ai (ae a.2*ae b.1))).1),((fi (ai (ae a.1*ae b.2)) (ai (ae a.2*ae b.1))).2)),RV.d aoX 0]|false=>none)|false=>none)|false=>none
def lT:Cn 46 [(.st (.pair y2Y y2Y))]:=cn fun(a:(Bool×List Int)×Bool×List Int)=>lf (okR a) [.d aoX (aG (ah a) 0)] fun h=>by
 refine aA pn (Mm a) ⟨0,?_⟩
 unfold Mm
 rw[dT h.1,←uz,(cN h).1]
def l7:Cn 68 [aoX]:=cn fun(n:Int)=>lf (aH n) [.d (.st (.pair y2Y y2Y)) (am (n:Rat))] fun h=>by
 refine aA pn (Sr n) ⟨0,?_⟩
 unfold Sr am
 rw[dT h,Rat.num_intCast,Rat.den_intCast]
 rfl
def rQ:Cn 75 [(.st (.pair y2Y y2Y)),(.st (.pair y2Y y2Y))]:=cn fun(a b:(Bool×List Int)×Bool×List Int)=>lf (okR a∧okR b) [.d aoX (aG (ah a) (ah b))] fun h=>by
 refine aA pn (LS a b) ⟨0,?_⟩
 obtain⟨ha,hb⟩:=h
 obtain⟨a1,a2⟩:=cN ha
 obtain⟨b1,b2⟩:=cN hb
 obtain⟨sa1,sa2⟩:=ga ha
 obtain⟨sb1,sb2⟩:=ga hb
 have h1:=cO sa1 sb2
 have h2:=cO sb1 sa2
 unfold LS
 rw[dT (show okI a.1∧okI b.2 from⟨ha.1,hb.2.1⟩),dT (show okI b.1∧okI a.2 from⟨hb.1,ha.2.1⟩),dT (show okI (ai (ae a.1*ae b.2))∧okI (ai (ae b.1*ae a.2)) from⟨aU (by omega),aU (by omega)⟩),dec_enc,dec_enc,←a1,←a2,←b1,←b2,xj]
def oK:Cn 131 [(.st (.pair y2Y y2Y))]:=cn fun(a:(Bool×List Int)×Bool×List Int)=>lf (okR a) [.d (.st (.pair y2Y y2Y)) (am (-ah a))] fun h=>by
 refine aA pn (K5 a) ⟨0,?_⟩
 obtain⟨a1,a2⟩:=cN h
 unfold K5
 have e:am (-ah a)=(ai (-ae a.1),a.2):=by
  unfold am
  rw[Rat.neg_num,a1,show((-ah a).den:Int)=((ah a).den:Int) from rfl,a2,←iv h.2.1]
 rw[dT h.1,e]
def m7:Cn 22 [(.st (.pair y2Y y2Y)),(.st (.pair y2Y y2Y))]:=cn fun(a b:(Bool×List Int)×Bool×List Int)=>lf (okR a∧okR b) [.d (.st (.pair y2Y y2Y)) (am (ah a+ah b))] fun h=>by
 refine aA pn (NO a b) ⟨0,?_⟩
 obtain⟨ha,hb⟩:=h
 obtain⟨a1,a2⟩:=cN ha
 obtain⟨b1,b2⟩:=cN hb
 obtain⟨sa1,sa2⟩:=ga ha
 obtain⟨sb1,sb2⟩:=ga hb
 have pa:=ha.2.2.1
 have pb:=hb.2.2.1
 have h1:=cO sa1 sb2
 have h2:=cO sb1 sa2
 have h3:=cO sa2 sb2
 have h4:=vW h1 h2
 have hda:ah a=Rat.divInt (ae a.1) (ae a.2):=by rw[←a1,←a2,amH]
 have hdb:ah b=Rat.divInt (ae b.1) (ae b.2):=by rw[←b1,←b2,amH]
 unfold NO
 rw[dT (show okI a.1∧okI b.2 from⟨ha.1,hb.2.1⟩),dT (show okI b.1∧okI a.2 from⟨hb.1,ha.2.1⟩),dT (show okI (ai (ae a.1*ae b.2))∧okI (ai (ae b.1*ae a.2)) from⟨aU (by omega),aU (by omega)⟩),dT (show okI a.2∧okI b.2 from⟨ha.2.1,hb.2.1⟩)]
 simp only[dec_enc]
 rw[dT (show jK (ai (ae a.1*ae b.2+ae b.1*ae a.2)) (ai (ae a.2*ae b.2)) from⟨aU (by omega),aU (by omega),by rw[dec_enc];exact aok (by omega) (by omega)⟩)]
 have e:fi (ai (ae a.1*ae b.2+ae b.1*ae a.2)) (ai (ae a.2*ae b.2))=am (ah a+ah b):=by
  unfold fi
  rw[dec_enc,dec_enc,hda,hdb,Rat.divInt_add_divInt _ _ (by omega) (by omega)]
 rw[e]
def ng:Cn 161 [(.st (.pair y2Y y2Y)),(.st (.pair y2Y y2Y))]:=cn fun(a b:(Bool×List Int)×Bool×List Int)=>lf (okR a∧okR b) [.d (.st (.pair y2Y y2Y)) (am (ah a*ah b))] fun h=>by
 refine aA pn (P0 a b) ⟨0,?_⟩
 obtain⟨ha,hb⟩:=h
 obtain⟨a1,a2⟩:=cN ha
 obtain⟨b1,b2⟩:=cN hb
 obtain⟨sa1,sa2⟩:=ga ha
 obtain⟨sb1,sb2⟩:=ga hb
 have pa:=ha.2.2.1
 have pb:=hb.2.2.1
 have h1:=cO sa1 sb1
 have h3:=cO sa2 sb2
 have hda:ah a=Rat.divInt (ae a.1) (ae a.2):=by rw[←a1,←a2,amH]
 have hdb:ah b=Rat.divInt (ae b.1) (ae b.2):=by rw[←b1,←b2,amH]
 unfold P0
 rw[dT (show okI a.1∧okI b.1 from⟨ha.1,hb.1⟩),dT (show okI a.2∧okI b.2 from⟨ha.2.1,hb.2.1⟩),dT (show jK (ai (ae a.1*ae b.1)) (ai (ae a.2*ae b.2)) from⟨aU (by omega),aU (by omega),by rw[dec_enc];exact aok (by omega) (by omega)⟩)]
 have e:fi (ai (ae a.1*ae b.1)) (ai (ae a.2*ae b.2))=am (ah a*ah b):=by
  unfold fi
  rw[dec_enc,dec_enc,hda,hdb,aol]
 rw[e]
def Fy:Cn 317 [(.st (.pair y2Y y2Y)),(.st (.pair y2Y y2Y))]:=cn fun(a b:(Bool×List Int)×Bool×List Int)=>lf (ij a b) [.d (.st (.pair y2Y y2Y)) (am (ah a/ah b)),.d aoX 0] fun h=>by
 refine aA HH (Qv a b) ⟨0,?_⟩
 obtain⟨ha,hb,hne⟩:=h
 obtain⟨a1,a2⟩:=cN ha
 obtain⟨b1,b2⟩:=cN hb
 obtain⟨sa1,sa2⟩:=ga ha
 obtain⟨sb1,sb2⟩:=ga hb
 have pa:=ha.2.2.1
 have h1:=cO sa1 sb2
 have h3:=cO sa2 sb1
 have hda:ah a=Rat.divInt (ae a.1) (ae a.2):=by rw[←a1,←a2,amH]
 have hdb:ah b=Rat.divInt (ae b.1) (ae b.2):=by rw[←b1,←b2,amH]
 have hmz:ae a.2*ae b.1≠0:=aok (by omega) hne
 unfold Qv
 rw[dT (show okI a.1∧okI b.2 from⟨ha.1,hb.2.1⟩),dT (show okI a.2∧okI b.1 from⟨ha.2.1,hb.1⟩)]
 simp only
 rw[dT (show jK (ai (ae a.1*ae b.2)) (ai (ae a.2*ae b.1)) from⟨aU (by omega),aU (by omega),by rw[dec_enc];exact hmz⟩)]
 have e:fi (ai (ae a.1*ae b.2)) (ai (ae a.2*ae b.1))=am (ah a/ah b):=by
  unfold fi
  rw[dec_enc,dec_enc,hda,hdb,aom,Rat.inv_divInt,aol]
 rw[e]
def QN:List En:=enK m7::enK oK::enK Fy::HH
def ON(a b:(Bool×List Int)×Bool×List Int)(_k:KT):Option (List RV):=match decide (okR b)with|true=>(match decide (okR a∧okR (am (-ah b)))with|true=>some [RV.d (.st (.pair y2Y y2Y)) (((am (ah a+ah (am (-ah b)))).1),((am (ah a+ah (am (-ah b)))).2))]|false=>none)|false=>none
def Sy(a b:(Bool×List Int)×Bool×List Int)(_k:KT):Option (List RV):=og (decide (ij a b)) (some [RV.d (.st (.pair y2Y y2Y)) (((am (ah a/ah b)).1),((am (ah a/ah b)).2))])
def oH:Cn 157 [(.st (.pair y2Y y2Y)),(.st (.pair y2Y y2Y))]:=cn fun(a b:(Bool×List Int)×Bool×List Int)=>lf (okR a∧okR b) [.d (.st (.pair y2Y y2Y)) (am (ah a-ah b))] fun h=>by
 refine aA QN (ON a b) ⟨0,?_⟩
 obtain⟨ha,hb⟩:=h
 unfold ON
 rw[dT hb,cA,aoa,dT (show okR a∧okR (am (-ah b)) from⟨ha,pU (vS (BM hb)) (alL _)⟩)]
def NN:Cn 314 [(.st (.pair y2Y y2Y)),(.st (.pair y2Y y2Y))]:=cn fun(a b:(Bool×List Int)×Bool×List Int)=>lf (ij a b) [.d (.st (.pair y2Y y2Y)) (am (ah a/ah b))] fun h=>by
 refine aA QN (Sy a b) ⟨0,?_⟩
 unfold Sy
 rw[dT h]
theorem jf{a b:Rat}{j k:Nat}[ha:Bd a j][hb:Bd b k](hj:j≤480000)(hk:k≤480000)(h:b≠0):decide (ij (am a) (am b))=true:=
 alF ⟨pU ha.le hj,pU hb.le hk,by show ae (ai b.num)≠0;rw[dec_enc];exact fun e=>h (Rat.num_eq_zero.1 e)⟩
theorem aS:type_of% @dO∧type_of% @cS∧type_of% @eU∧type_of% @bO∧type_of% @az∧type_of% @rY∧type_of% @AC∧type_of% @eO∧type_of% @HK∧type_of% @Ct∧type_of% @IP∧type_of% @cA∧type_of% @aeM∧type_of% @ai7∧type_of% @aeo∧type_of% @okd∧type_of% @lO∧type_of% @H5∧type_of% @jf∧type_of% @anG∧type_of% @Bool.and_true∧type_of% @anc∧type_of% @amN∧type_of% @mx.eq_1∧type_of% @decide_true∧type_of% @decide_false∧(∀{α:Type} (a b:α),cond true a b=a)∧∀{α:Type} (a b:α),cond false a b=b:=
 ⟨@dO,@cS,@eU,@bO,@az,@rY,@AC,@eO,@HK,@Ct,@IP,@cA,@aeM,@ai7,@aeo,@okd,@lO,@H5,@jf,@anG,@Bool.and_true,@anc,@amN,@mx.eq_1,@decide_true,@decide_false,@cond_true,@cond_false⟩
theorem av(a b:Rat):decide (aG a b>0)=decide (b<a):=by
 rcases(by grind:a<b∨a=b∨b<a)with h|h|h
 ·rw[dE h,alH (show ¬b<a by grind)];rfl
 ·rw[h,d7,alH (show ¬b<b by grind)];rfl
 ·rw[dq h,alF h];rfl
theorem au(a b:Rat):decide (aG a b<0)=decide (a<b):=by
 rcases(by grind:a<b∨a=b∨b<a)with h|h|h
 ·rw[dE h,alF h];rfl
 ·rw[h,d7,alH (show ¬b<b by grind)];rfl
 ·rw[dq h,alH (show ¬a<b by grind)];rfl
theorem ahq(a b:Rat):decide (aG a b≥0)=decide (b≤a):=by
 rcases(by grind:a<b∨a=b∨b<a)with h|h|h
 ·rw[dE h,alH (show ¬b≤a by grind)];rfl
 ·rw[h,d7,alF (show b≤b by grind)];rfl
 ·rw[dq h,alF (show b≤a by grind)];rfl
theorem wE(a b:Rat):decide (aG a b≤0)=decide (a≤b):=by
 rcases(by grind:a<b∨a=b∨b<a)with h|h|h
 ·rw[dE h,alF (show a≤b by grind)];rfl
 ·rw[h,d7,alF (show b≤b by grind)];rfl
 ·rw[dq h,alH (show ¬a≤b by grind)];rfl
theorem aq(a b:Rat):(aG a b==0)=decide (a=b):=by
 rcases(by grind:a<b∨a=b∨b<a)with h|h|h
 ·rw[dE h,alH (show ¬a=b by grind)];rfl
 ·rw[h,d7,alF rfl];rfl
 ·rw[dq h,alH (show ¬a=b by grind)];rfl
theorem jX(a b:Rat): -1≤aG a b∧aG a b≤1:=by
 rcases(by grind:a<b∨a=b∨b<a)with h|h|h
 ·rw[dE h];decide
 ·rw[h,d7];decide
 ·rw[dq h];decide
theorem qo{a b c d:Rat}:i64.wrap (aG a b*aG c d)=aG a b*aG c d:=by
 rcases(by grind:a<b∨a=b∨b<a)with h|h|h<;>rcases(by grind:c<d∨c=d∨d<c)with h'|h'|h'
 all_goals first|rw[dE h]|(subst h;rw[d7])|rw[dq h]
 all_goals first|rw[dE h']|(subst h';rw[d7])|rw[dq h']
 all_goals decide
def iO:ef:=spN false true [tR,tR] (fun x=>decide (okR x.1∧okR x.2.1)) (fun x=>[RV.d tR (hAd x.1 x.2.1)])
theorem fk:SpK 107 iO:=spX fun x h=>by simp only[bO];exact IV x.1 x.2.1 (alI h)
def ie:ef:=spN false true [tR,tR] (fun x=>decide (okR x.1∧okR x.2.1)) (fun x=>[RV.d tR (hSu x.1 x.2.1)])
theorem fc:SpK 106 ie:=spX fun x h=>by simp only[bO];exact VK x.1 x.2.1 (alI h)
def gO:ef:=spN false true [tR,tR] (fun x=>decide (okR x.1∧okR x.2.1)) (fun x=>[RV.d tR (hMu x.1 x.2.1)])
theorem eM:SpK 108 gO:=spX fun x h=>by simp only[bO];exact TP x.1 x.2.1 (alI h)
def xE:ef:=spN false true [tR,tR] (fun x=>decide (ij x.1 x.2.1)) (fun x=>[RV.d tR (hDi x.1 x.2.1),RV.d aoX 0])
theorem th:SpK 305 xE:=spX fun x h=>by simp only[bO];exact Ve x.1 x.2.1 (alI h)
def fC:ef:=spN true true [tR] (fun x=>decide (okR x.1)) (fun x=>[RV.d aoX (aG (ah x.1) 0)])
theorem dQ:SpK 41 fC:=spX fun x h=>Ir x.1 (alI h)
def lY:ef:=spN true true [tR,tR] (fun x=>decide (okR x.1∧okR x.2.1)) (fun x=>[RV.d aoX (aG (ah x.1) (ah x.2.1))])
theorem iu:SpK 73 lY:=spX fun x h=>Vz x.1 x.2.1 (alI h)
def iA:ef:=spN false true [aoX] (fun x=>decide (aH x.1)) (fun x=>[RV.d tR (hid (am (x.1:Rat)))])
theorem eW:SpK 99 iA:=spX fun x h=>by simp only[bO];exact S3 x.1 (alI h)
def CV:List En:=[⟨107,iO,fk⟩,⟨106,ie,fc⟩,⟨108,gO,eM⟩,⟨305,xE,th⟩,⟨41,fC,dQ⟩,⟨73,lY,iu⟩,⟨99,iA,eW⟩]
def Nr:Cn 96 [tR,tR]:=cn fun(a b:BR)=>lf (okR a∧okR b) [.d tR (am (ah a+ah b))] fun h=>jL [RV.d tR (hAd a b)] (du CV) h
def HZ:Cn 95 [tR,tR]:=cn fun(a b:BR)=>lf (okR a∧okR b) [.d tR (am (ah a-ah b))] fun h=>jL [RV.d tR (hSu a b)] (du CV) h
def L9:Cn 97 [tR,tR]:=cn fun(a b:BR)=>lf (okR a∧okR b) [.d tR (am (ah a*ah b))] fun h=>jL [RV.d tR (hMu a b)] (du CV) h
def X3(a b:BR)(_k:KT):Option (List RV):=og (decide (ij a b)) (match 0 !=0 with|true=>(og (decide (aH (0:Int))) (some [RV.d tR (hid (am ((0:Int):Rat)))]))|false=>some [RV.d tR (hDi a b)])
def PS:Cn 218 [tR,tR]:=cn fun(a b:BR)=>lf (ij a b) [.d tR (am (ah a/ah b))] fun h=>by
 refine aA CV (X3 a b) ⟨0,?_⟩
 unfold X3
 rw[dT h]
 simp only[bO]
 rfl
def YM:List En:=enL Nr::enL HZ::enL L9::enL PS::CV
def Yt(a b:BV)(_k:KT):Option (List RV):=og (o2 b.1 a.1) (og (o2 b.2 a.2) (some [RV.d tV (hSu b.1 a.1,hSu b.2 a.2)]))
def als:Cn 311 [tV,tV]:=cn fun(a b:BV)=>lf (ok (Rat×Rat) 1000 a∧ok (Rat×Rat) 1000 b) [.d tV (enc (cU (dec a) (dec b)))] fun h=>by
 refine aA YM (Yt a b) ⟨0,?_⟩
 obtain⟨ha,hb⟩:=h
 obtain⟨a,rfl,ba⟩:=aB ha
 obtain⟨b,rfl,bb⟩:=aB hb
 unfold Yt
 simp only[aS,Nat.reduceLeDiff]
 try rfl
def WB(a b:BV)(_k:KT):Option (List RV):=og (o2 a.1 b.1) (og (o2 a.2 b.2) (og (o2 (hMu a.1 b.1) (hMu a.2 b.2)) (some [RV.d tR (hAd (hMu a.1 b.1) (hMu a.2 b.2))])))
def ags:Cn 219 [tV,tV]:=cn fun(a b:BV)=>lf (ok (Rat×Rat) 5000 a∧ok (Rat×Rat) 5000 b) [.d tR (am (bI (dec a) (dec b)))] fun h=>by
 refine aA YM (WB a b) ⟨0,?_⟩
 obtain⟨ha,hb⟩:=h
 obtain⟨a,rfl,ba⟩:=aB ha
 obtain⟨b,rfl,bb⟩:=aB hb
 unfold WB
 simp only[aS,Nat.reduceAdd,Nat.reduceLeDiff]
 try rfl
def G6:List En:=[enL m7,enL oH,enL ng,enL NN,enT lT,enT rQ,enL l7]
def K0:Cn 122 [tR,tR]:=cn fun(a b:BR)=>lf (okR a∧okR b) [.d tR (am (ah a+ah b))] fun h=>jL [RV.d tR (hAd a b)] (du G6) h
def Pq:Cn 233 [tR,tR]:=cn fun(a b:BR)=>lf (okR a∧okR b) [.d tR (am (ah a-ah b))] fun h=>jL [RV.d tR (hSu a b)] (du G6) h
def Ru:Cn 64 [tR,tR]:=cn fun(a b:BR)=>lf (okR a∧okR b) [.d tR (am (ah a*ah b))] fun h=>jL [RV.d tR (hMu a b)] (du G6) h
def X1:List En:=enL K0::enL Pq::enL Ru::G6
def YY(a b:BV)(_k:KT):Option (List RV):=og (o2 b.1 a.1) (og (o2 b.2 a.2) (some [RV.d tV (hSu b.1 a.1,hSu b.2 a.2)]))
def alj:Cn 132 [tV,tV]:=cn fun(a b:BV)=>lf (ok (Rat×Rat) 1000 a∧ok (Rat×Rat) 1000 b) [.d tV (enc (cU (dec a) (dec b)))] fun h=>by
 refine aA X1 (YY a b) ⟨0,?_⟩
 obtain⟨ha,hb⟩:=h
 obtain⟨a,rfl,ba⟩:=aB ha
 obtain⟨b,rfl,bb⟩:=aB hb
 unfold YY
 simp only[aS,Nat.reduceLeDiff]
 try rfl
def WJ(a b:BV)(_k:KT):Option (List RV):=og (o2 a.1 b.1) (og (o2 a.2 b.2) (og (o2 (hMu a.1 b.1) (hMu a.2 b.2)) (some [RV.d tR (hAd (hMu a.1 b.1) (hMu a.2 b.2))])))
def ag5:Cn 160 [tV,tV]:=cn fun(a b:BV)=>lf (ok (Rat×Rat) 5000 a∧ok (Rat×Rat) 5000 b) [.d tR (am (bI (dec a) (dec b)))] fun h=>by
 refine aA X1 (WJ a b) ⟨0,?_⟩
 obtain⟨ha,hb⟩:=h
 obtain⟨a,rfl,ba⟩:=aB ha
 obtain⟨b,rfl,bb⟩:=aB hb
 unfold WJ
 simp only[aS,Nat.reduceAdd,Nat.reduceLeDiff]
 try rfl
abbrev Rt:=Rat×Rat×Rat
def gz(a b m:Rat):Int:=RE.addS (aG a 0) (aG b 0*aG m 0) (aG (a*a) (b*b*m))
def AQ(A B C D M N:Rat):Int:=bif decide (M<0)||decide (N<0)then 0
 else RE.addS (gz A B M) (gz C D M*aG N 0) (gz (A*A+B*B*M-N*(C*C+D*D*M)) (2*(A*B-N*(C*D))) M)
def a8(x y:Rt):Int:=AQ (x.1-y.1) x.2.1 (-y.2.1) 0 x.2.2 y.2.2
theorem ta(a b:Rat):aG (a-b) 0=aG a b:=by
 rcases(by grind:a<b∨a=b∨b<a)with h|h|h
 ·rw[dE h,dE (by grind)]
 ·rw[h,d7,show b-b=0 by grind,d7]
 ·rw[dq h,dq (by grind)]
namespace RE
def rq(m:Rat):RE:=yl (of m)
theorem qM(m:Rat):0≤rq m:=pI _
theorem fS{m:Rat}(h:0≤m):rq m*rq m=of m:=Cb (jQ.2 h)
theorem Vm{x:RE}(h:0≤x):sg (yl x)=sg x:=by
 have h1:=pI x
 have h2:=Cb h
 rcases iq h1 with h'|h'
 ·rw[dt h',←h2,dt (mul_pos h' h')]
 ·rw[h',mul_zero]at h2
  rw[h',h2]
theorem NM{m:Rat}(h:0≤m):sg (rq m)=aG m 0:=by
 unfold rq
 rw[Vm (jQ.2 h),sg_of]
def v2(a b m:Rat):RE:=of a+of b*rq m
def vR(x:Rt):RE:=v2 x.1 x.2.1 x.2.2
theorem sq2(a b s:RE):a*a-b*s*(b*s)=a*a-b*b*(s*s):=by grind
theorem sq4(A B C D s t:RE):(A+B*s)*(A+B*s)-(C+D*s)*t*((C+D*s)*t)=A*A+B*B*(s*s)-t*t*(C*C+D*D*(s*s))+2*(A*B-t*t*(C*D))*s:=by grind
theorem agQ(A B C D s t:RE):A+B*s+(C+D*s)*t=A+B*s+C*t+D*(s*t):=by grind
theorem adf(a b c d s t:RE):a-c+b*s+(-d)*t+0*(s*t)=a+b*s-(c+d*t):=by grind
theorem sgn2_re{a b m:Rat}(h:0≤m):gz a b m=sg (v2 a b m):=by
 unfold v2
 rw[Fw,sq2,fS h,dp,sg_of,sg_of,NM h,←aF,←aF,←aF,←of_sub,sg_of,ta]
 rfl
theorem aaX:of 2=2:=rfl
def vQ(A B C D M N:Rat):RE:=of A+of B*rq M+of C*rq N+of D*(rq M*rq N)
theorem sgnQ_re{A B C D M N:Rat}(hM:0≤M)(hN:0≤N):AQ A B C D M N=sg (vQ A B C D M N):=by
 unfold AQ vQ
 rw[alH (by grind),alH (by grind),←agQ,Fw,sq4,fS hM,fS hN,dp,NM hN,sgn2_re hM,sgn2_re hM,sgn2_re hM]
 unfold v2
 simp only[of_sub,of_add,aF,aaX]
 rfl
theorem cmpT_re{x y:Rt}(hx:0≤x.2.2)(hy:0≤y.2.2):a8 x y=sg (vR x-vR y):=by
 unfold a8 vR v2
 rw[sgnQ_re hx hy,←adf,←of_sub,←of_neg]
 rfl
end RE
theorem Af{s t:Int}(hs: -1≤s∧s≤1)(ht: -1≤t∧t≤1): -1≤s*t∧s*t≤1:=by
 have h1:s= -1∨s=0∨s=1:=by omega
 have h2:t= -1∨t=0∨t=1:=by omega
 rcases h1 with rfl|rfl|rfl<;>rcases h2 with rfl|rfl|rfl<;>decide
theorem HS{s t d:Int}(hs: -1≤s∧s≤1)(ht: -1≤t∧t≤1)(hd: -1≤d∧d≤1): -1≤RE.addS s t d∧RE.addS s t d≤1:=by
 unfold RE.addS
 cases(t==0||s==t)
 ·cases s==0
  ·exact Af hs hd
  ·exact ht
 ·exact hs
theorem lQ(a b m:Rat): -1≤gz a b m∧gz a b m≤1:=HS (jX _ _) (Af (jX _ _) (jX _ _)) (jX _ _)
theorem Ik(A B C D M N:Rat): -1≤AQ A B C D M N∧AQ A B C D M N≤1:=by
 unfold AQ
 cases(decide (M<0)||decide (N<0))
 ·exact HS (lQ _ _ _) (Af (lQ _ _ _) (jX _ _)) (lQ _ _ _)
 ·exact⟨by show(-1:Int)≤0;decide,by show(0:Int)≤1;decide⟩
theorem wd(x y:Rt): -1≤a8 x y∧a8 x y≤1:=Ik _ _ _ _ _ _
end Go.Proofs.YtnkndpoojnflmaaGreat
end
