/- The reference's integers: parts. -/
import Derived.Test.YtnkndpoojnflmaaGreatB9
import Derived.Test.YtnkndpoojnflmaaGreatB8
noncomputable section
namespace Go.Proofs.YtnkndpoojnflmaaGreat
open Go.RowKit Go.IntKind
theorem aiV:type_of% @Prod.ext:=@Prod.ext
section
def AP(a b:List Int):Prop:=(can a∧a.length≤1000000)∧(can b∧b.length≤1000000)∧b≠[]
instance (a b:List Int):Decidable (AP a b):=by unfold AP;infer_instance
def Ks:List En:=[enK uO,enK zi,enF zB,enF vU,enK TC,enK Cr]
def QE:NT:=[((264,30),{keep:=[8,9,10,11,12,13,14],pure_:=[(11,.int .u32)],hl:=1}),((264,67),{keep:=[8,9,10,11,12,13,14,16,17],pure_:=[(17,.int .u32)],hl:=1}),((264,90),{keep:=[8,11,12,18,19,20],hl:=2})]
def iS:Ctx:=CX (ens Ks) QE
def jC(a b:List Int)(x1 x2:Int)(s11:List Int)(s14:Int)(r0:List Int):Cfg:=⟨264,[.blk 0,.seq 82],[(8,.d ai3 (u32.wrap (u64.wrap (Int.tdiv 1000000000 (u64.wrap ((u64.wrap x1)+1)))))),(9,.d ai1 (ag (val b*(u32.wrap (u64.wrap (Int.tdiv 1000000000 (u64.wrap ((u64.wrap x1)+1)))))).toNat)),(10,.d (.int .u64) (u64.wrap x2)),(11,.d ai1 s11),(12,.osl 0 1 ((0:Int).toNat) ((((ag (val a*(u32.wrap (u64.wrap (Int.tdiv 1000000000 (u64.wrap ((u64.wrap x1)+1)))))).toNat).length:Int):Int).toNat-(0:Int).toNat)),(13,.d ai1 (ag (val a*(u32.wrap (u64.wrap (Int.tdiv 1000000000 (u64.wrap ((u64.wrap x1)+1)))))).toNat)),(14,SI s14)],[.row 225 ai3 r0],0,[]⟩
def ez(a b:List Int)(x1 x2:Int)(s11:List Int)(s14:Int)(r0:List Int)(x3 s16:Int)(s17:List Int):Cfg:=⟨264,[.blk 2,.seq 78,.blk 1,.seq 81,.lp 30,.blk 0,.seq 82],[(8,.d ai3 (u32.wrap (u64.wrap (Int.tdiv 1000000000 (u64.wrap ((u64.wrap x1)+1)))))),(9,.d ai1 (ag (val b*(u32.wrap (u64.wrap (Int.tdiv 1000000000 (u64.wrap ((u64.wrap x1)+1)))))).toNat)),(10,.d (.int .u64) (u64.wrap x2)),(11,.d ai1 (ag (val (([x3])++s11)).toNat)),(12,.osl 0 1 ((0:Int).toNat) ((((ag (val a*(u32.wrap (u64.wrap (Int.tdiv 1000000000 (u64.wrap ((u64.wrap x1)+1)))))).toNat).length:Int):Int).toNat-(0:Int).toNat)),(13,.d ai1 (ag (val a*(u32.wrap (u64.wrap (Int.tdiv 1000000000 (u64.wrap ((u64.wrap x1)+1)))))).toNat)),(14,SI s14),(16,.d (.int .u64) s16),(17,.d ai1 s17)],[.row 225 ai3 r0],0,[]⟩
def qN(a:List Int)(x1:Int)(s11 r0:List Int)(s18 s20:Int)(r1:List Int):Cfg:=⟨264,[.blk 4,.seq 105],[(8,.d ai3 (u32.wrap (u64.wrap (Int.tdiv 1000000000 (u64.wrap ((u64.wrap x1)+1)))))),(11,.d ai1 s11),(12,.osl 0 1 ((0:Int).toNat) ((((ag (val a*(u32.wrap (u64.wrap (Int.tdiv 1000000000 (u64.wrap ((u64.wrap x1)+1)))))).toNat).length:Int):Int).toNat-(0:Int).toNat)),(18,.d (.int .u64) s18),(19,.own 1),(20,SI s20)],[.row 225 ai3 r0,.row 225 ai3 r1],0,[]⟩
def C5(a b:List Int)(k:KT):Option (List RV):=match decide ((a.length:Int)≤2)with|true=>(match decide ((b.length:Int)≤2)with|true=>(og (decide (pK a)) (og (decide (pK b)) (match decide (val b=(0:Int))with|true=>none|false=>(match decide (val b=(0:Int))with|true=>none|false=>(og (decide (gK (u64.wrap (Int.tdiv (val a) (val b))))) (og (decide (gK (Int.tmod (val a) (val b)))) (some [RV.d ai1 (ag (u64.wrap (Int.tdiv (val a) (val b))).toNat),RV.d ai1 (ag (Int.tmod (val a) (val b)).toNat)])))))))|false=>(match aN b (i64.wrap ((b.length:Int)-1))with|some x1=>(match decide (u64.wrap ((u64.wrap x1)+1)=(0:Int))with|true=>none|false=>(og (decide (byP b (u32.wrap (u64.wrap (Int.tdiv 1000000000 (u64.wrap ((u64.wrap x1)+1))))))) (match aN (ag (val b*(u32.wrap (u64.wrap (Int.tdiv 1000000000 (u64.wrap ((u64.wrap x1)+1)))))).toNat) (i64.wrap (((ag (val b*(u32.wrap (u64.wrap (Int.tdiv 1000000000 (u64.wrap ((u64.wrap x1)+1)))))).toNat).length:Int)-1))with|some x2=>(og (decide ((0:Int)≤i64.wrap ((a.length:Int)+1)∧(i64.wrap ((a.length:Int)+1))*((4:Nat):Int)≤140737488355328∧i64.wrap ((a.length:Int)+1)≤140737488355328)) (og (decide (byP a (u32.wrap (u64.wrap (Int.tdiv 1000000000 (u64.wrap ((u64.wrap x1)+1))))))) (og (decide ((0:Int)≤0∧0≤((ag (val a*(u32.wrap (u64.wrap (Int.tdiv 1000000000 (u64.wrap ((u64.wrap x1)+1)))))).toNat).length:Int)∧((ag (val a*(u32.wrap (u64.wrap (Int.tdiv 1000000000 (u64.wrap ((u64.wrap x1)+1)))))).toNat).length:Int)≤((List.replicate (i64.wrap ((a.length:Int)+1)).toNat (0:Int)).length:Int))) (k 30 (jC a b x1 x2 ([]) (i64.wrap (((ag (val a*(u32.wrap (u64.wrap (Int.tdiv 1000000000 (u64.wrap ((u64.wrap x1)+1)))))).toNat).length:Int)-1)) (List.replicate (i64.wrap ((a.length:Int)+1)).toNat (0:Int)))))))|none=>none)))|none=>none))|false=>(match aN b (i64.wrap ((b.length:Int)-1))with|some x1=>(match decide (u64.wrap ((u64.wrap x1)+1)=(0:Int))with|true=>none|false=>(og (decide (byP b (u32.wrap (u64.wrap (Int.tdiv 1000000000 (u64.wrap ((u64.wrap x1)+1))))))) (match aN (ag (val b*(u32.wrap (u64.wrap (Int.tdiv 1000000000 (u64.wrap ((u64.wrap x1)+1)))))).toNat) (i64.wrap (((ag (val b*(u32.wrap (u64.wrap (Int.tdiv 1000000000 (u64.wrap ((u64.wrap x1)+1)))))).toNat).length:Int)-1))with|some x2=>(og (decide ((0:Int)≤i64.wrap ((a.length:Int)+1)∧(i64.wrap ((a.length:Int)+1))*((4:Nat):Int)≤140737488355328∧i64.wrap ((a.length:Int)+1)≤140737488355328)) (og (decide (byP a (u32.wrap (u64.wrap (Int.tdiv 1000000000 (u64.wrap ((u64.wrap x1)+1))))))) (og (decide ((0:Int)≤0∧0≤((ag (val a*(u32.wrap (u64.wrap (Int.tdiv 1000000000 (u64.wrap ((u64.wrap x1)+1)))))).toNat).length:Int)∧((ag (val a*(u32.wrap (u64.wrap (Int.tdiv 1000000000 (u64.wrap ((u64.wrap x1)+1)))))).toNat).length:Int)≤((List.replicate (i64.wrap ((a.length:Int)+1)).toNat (0:Int)).length:Int))) (k 30 (jC a b x1 x2 ([]) (i64.wrap (((ag (val a*(u32.wrap (u64.wrap (Int.tdiv 1000000000 (u64.wrap ((u64.wrap x1)+1)))))).toNat).length:Int)-1)) (List.replicate (i64.wrap ((a.length:Int)+1)).toNat (0:Int)))))))|none=>none)))|none=>none)
theorem Ih(a b:List Int):RS iS 264 [.d ai1 a,.d ai1 b] (C5 a b):=rsX
def jz(a b:List Int)(x1 x2:Int)(s11:List Int)(s14:Int)(r0:List Int)(k:KT):Option (List RV):=match decide (s14≥0)with|true=>(match aN (ag (val a*(u32.wrap (u64.wrap (Int.tdiv 1000000000 (u64.wrap ((u64.wrap x1)+1)))))).toNat) s14 with|some x3=>(og (decide ((([x3]).length+s11.length)*4≤140737488355328∧([x3]).length+s11.length≤140737488355328)) (og (decide (aM (([x3])++s11))) (match decide (((ag (val (([x3])++s11)).toNat).length:Int)>((ag (val b*(u32.wrap (u64.wrap (Int.tdiv 1000000000 (u64.wrap ((u64.wrap x1)+1)))))).toNat).length:Int))with|true=>(match aN (ag (val (([x3])++s11)).toNat) ((ag (val b*(u32.wrap (u64.wrap (Int.tdiv 1000000000 (u64.wrap ((u64.wrap x1)+1)))))).toNat).length:Int)with|some x4=>(match decide (((ag (val (([x3])++s11)).toNat).length:Int)≥((ag (val b*(u32.wrap (u64.wrap (Int.tdiv 1000000000 (u64.wrap ((u64.wrap x1)+1)))))).toNat).length:Int))with|true=>(match aN (ag (val (([x3])++s11)).toNat) (i64.wrap (((ag (val b*(u32.wrap (u64.wrap (Int.tdiv 1000000000 (u64.wrap ((u64.wrap x1)+1)))))).toNat).length:Int)-1))with|some x5=>(match decide (u64.wrap x2=(0:Int))with|true=>none|false=>(match decide ((u64.wrap (Int.tdiv (u64.wrap ((u64.wrap ((u64.wrap x4)*1000000000))+(u64.wrap x5))) (u64.wrap x2)))>999999999)with|true=>(og (decide (byP (ag (val b*(u32.wrap (u64.wrap (Int.tdiv 1000000000 (u64.wrap ((u64.wrap x1)+1)))))).toNat) (u32.wrap 999999999))) (k 67 (ez a b x1 x2 s11 s14 r0 x3 999999999 (ag (val (ag (val b*(u32.wrap (u64.wrap (Int.tdiv 1000000000 (u64.wrap ((u64.wrap x1)+1)))))).toNat)*(u32.wrap 999999999)).toNat))))|false=>(og (decide (byP (ag (val b*(u32.wrap (u64.wrap (Int.tdiv 1000000000 (u64.wrap ((u64.wrap x1)+1)))))).toNat) (u32.wrap (u64.wrap (Int.tdiv (u64.wrap ((u64.wrap ((u64.wrap x4)*1000000000))+(u64.wrap x5))) (u64.wrap x2)))))) (k 67 (ez a b x1 x2 s11 s14 r0 x3 (u64.wrap (Int.tdiv (u64.wrap ((u64.wrap ((u64.wrap x4)*1000000000))+(u64.wrap x5))) (u64.wrap x2))) (ag (val (ag (val b*(u32.wrap (u64.wrap (Int.tdiv 1000000000 (u64.wrap ((u64.wrap x1)+1)))))).toNat)*(u32.wrap (u64.wrap (Int.tdiv (u64.wrap ((u64.wrap ((u64.wrap x4)*1000000000))+(u64.wrap x5))) (u64.wrap x2))))).toNat))))))|none=>none)|false=>(match decide (u64.wrap x2=(0:Int))with|true=>none|false=>(match decide ((u64.wrap (Int.tdiv (u64.wrap ((u64.wrap x4)*1000000000)) (u64.wrap x2)))>999999999)with|true=>(og (decide (byP (ag (val b*(u32.wrap (u64.wrap (Int.tdiv 1000000000 (u64.wrap ((u64.wrap x1)+1)))))).toNat) (u32.wrap 999999999))) (k 67 (ez a b x1 x2 s11 s14 r0 x3 999999999 (ag (val (ag (val b*(u32.wrap (u64.wrap (Int.tdiv 1000000000 (u64.wrap ((u64.wrap x1)+1)))))).toNat)*(u32.wrap 999999999)).toNat))))|false=>(og (decide (byP (ag (val b*(u32.wrap (u64.wrap (Int.tdiv 1000000000 (u64.wrap ((u64.wrap x1)+1)))))).toNat) (u32.wrap (u64.wrap (Int.tdiv (u64.wrap ((u64.wrap x4)*1000000000)) (u64.wrap x2)))))) (k 67 (ez a b x1 x2 s11 s14 r0 x3 (u64.wrap (Int.tdiv (u64.wrap ((u64.wrap x4)*1000000000)) (u64.wrap x2))) (ag (val (ag (val b*(u32.wrap (u64.wrap (Int.tdiv 1000000000 (u64.wrap ((u64.wrap x1)+1)))))).toNat)*(u32.wrap (u64.wrap (Int.tdiv (u64.wrap ((u64.wrap x4)*1000000000)) (u64.wrap x2))))).toNat)))))))|none=>none)|false=>(match decide (((ag (val (([x3])++s11)).toNat).length:Int)≥((ag (val b*(u32.wrap (u64.wrap (Int.tdiv 1000000000 (u64.wrap ((u64.wrap x1)+1)))))).toNat).length:Int))with|true=>(match aN (ag (val (([x3])++s11)).toNat) (i64.wrap (((ag (val b*(u32.wrap (u64.wrap (Int.tdiv 1000000000 (u64.wrap ((u64.wrap x1)+1)))))).toNat).length:Int)-1))with|some x4=>(match decide (u64.wrap x2=(0:Int))with|true=>none|false=>(match decide ((u64.wrap (Int.tdiv (u64.wrap (0+(u64.wrap x4))) (u64.wrap x2)))>999999999)with|true=>(og (decide (byP (ag (val b*(u32.wrap (u64.wrap (Int.tdiv 1000000000 (u64.wrap ((u64.wrap x1)+1)))))).toNat) (u32.wrap 999999999))) (k 67 (ez a b x1 x2 s11 s14 r0 x3 999999999 (ag (val (ag (val b*(u32.wrap (u64.wrap (Int.tdiv 1000000000 (u64.wrap ((u64.wrap x1)+1)))))).toNat)*(u32.wrap 999999999)).toNat))))|false=>(og (decide (byP (ag (val b*(u32.wrap (u64.wrap (Int.tdiv 1000000000 (u64.wrap ((u64.wrap x1)+1)))))).toNat) (u32.wrap (u64.wrap (Int.tdiv (u64.wrap (0+(u64.wrap x4))) (u64.wrap x2)))))) (k 67 (ez a b x1 x2 s11 s14 r0 x3 (u64.wrap (Int.tdiv (u64.wrap (0+(u64.wrap x4))) (u64.wrap x2))) (ag (val (ag (val b*(u32.wrap (u64.wrap (Int.tdiv 1000000000 (u64.wrap ((u64.wrap x1)+1)))))).toNat)*(u32.wrap (u64.wrap (Int.tdiv (u64.wrap (0+(u64.wrap x4))) (u64.wrap x2))))).toNat))))))|none=>none)|false=>(match decide (u64.wrap x2=(0:Int))with|true=>none|false=>(match decide ((u64.wrap (Int.tdiv 0 (u64.wrap x2)))>999999999)with|true=>(og (decide (byP (ag (val b*(u32.wrap (u64.wrap (Int.tdiv 1000000000 (u64.wrap ((u64.wrap x1)+1)))))).toNat) (u32.wrap 999999999))) (k 67 (ez a b x1 x2 s11 s14 r0 x3 999999999 (ag (val (ag (val b*(u32.wrap (u64.wrap (Int.tdiv 1000000000 (u64.wrap ((u64.wrap x1)+1)))))).toNat)*(u32.wrap 999999999)).toNat))))|false=>(og (decide (byP (ag (val b*(u32.wrap (u64.wrap (Int.tdiv 1000000000 (u64.wrap ((u64.wrap x1)+1)))))).toNat) (u32.wrap (u64.wrap (Int.tdiv 0 (u64.wrap x2)))))) (k 67 (ez a b x1 x2 s11 s14 r0 x3 (u64.wrap (Int.tdiv 0 (u64.wrap x2))) (ag (val (ag (val b*(u32.wrap (u64.wrap (Int.tdiv 1000000000 (u64.wrap ((u64.wrap x1)+1)))))).toNat)*(u32.wrap (u64.wrap (Int.tdiv 0 (u64.wrap x2))))).toNat))))))))))|none=>none)|false=>(og (decide ((0:Int)≤(s11.length:Int)∧(s11.length:Int)*((4:Nat):Int)≤140737488355328∧(s11.length:Int)≤140737488355328)) (k 90 (qN a x1 s11 r0 0 (i64.wrap ((s11.length:Int)-1)) (List.replicate ((s11.length:Int)).toNat (0:Int)))))
theorem ln(a b:List Int)(x1 x2:Int)(s11:List Int)(s14:Int)(r0:List Int):RN iS 30 (jC a b x1 x2 s11 s14 r0) (jz a b x1 x2 s11 s14 r0):=rnX
def l8(a b:List Int)(x1 x2:Int)(s11:List Int)(s14:Int)(r0:List Int)(x3 s16:Int)(s17:List Int)(k:KT):Option (List RV):=og (decide (pj s17 (ag (val (([x3])++s11)).toNat))) (match decide ((ce (val s17) (val (ag (val (([x3])++s11)).toNat)))>0)with|true=>(og (decide (mh s17 (ag (val b*(u32.wrap (u64.wrap (Int.tdiv 1000000000 (u64.wrap ((u64.wrap x1)+1)))))).toNat))) (k 67 (ez a b x1 x2 s11 s14 r0 x3 (u64.wrap (s16-1)) (ag (val s17-val (ag (val b*(u32.wrap (u64.wrap (Int.tdiv 1000000000 (u64.wrap ((u64.wrap x1)+1)))))).toNat)).toNat))))|false=>(og (decide (mh (ag (val (([x3])++s11)).toNat) s17)) (match true,decide ((0:Int)≤s14∧s14<(((((ag (val a*(u32.wrap (u64.wrap (Int.tdiv 1000000000 (u64.wrap ((u64.wrap x1)+1)))))).toNat).length:Int):Int).toNat-(0:Int).toNat:Nat):Int))with|true,true=>(match true,r0[(0:Int).toNat+(s14).toNat]? with|true,some _=>k 30 (jC a b x1 x2 (ag (val (ag (val (([x3])++s11)).toNat)-val s17).toNat) (i64.wrap (s14-1)) (r0.set ((0:Int).toNat+(s14).toNat) (u32.wrap s16)))|_,_=>none)|_,_=>none)))
theorem o8(a b:List Int)(x1 x2:Int)(s11:List Int)(s14:Int)(r0:List Int)(x3 s16:Int)(s17:List Int):RN iS 67 (ez a b x1 x2 s11 s14 r0 x3 s16 s17) (l8 a b x1 x2 s11 s14 r0 x3 s16 s17):=rnX
def oS(a:List Int)(x1:Int)(s11 r0:List Int)(s18 s20:Int)(r1:List Int)(k:KT):Option (List RV):=match decide (s20≥0)with|true=>(match aN s11 s20 with|some x2=>(match decide (u64.wrap (u32.wrap (u64.wrap (Int.tdiv 1000000000 (u64.wrap ((u64.wrap x1)+1)))))=(0:Int))with|true=>none|false=>(match aN r1 s20 with|some _=>(match true,r1[(s20).toNat]? with|true,some _=>(match decide (u64.wrap (u32.wrap (u64.wrap (Int.tdiv 1000000000 (u64.wrap ((u64.wrap x1)+1)))))=(0:Int))with|true=>none|false=>k 90 (qN a x1 s11 r0 (Int.tmod (u64.wrap ((u64.wrap (s18*1000000000))+(u64.wrap x2))) (u64.wrap (u32.wrap (u64.wrap (Int.tdiv 1000000000 (u64.wrap ((u64.wrap x1)+1))))))) (i64.wrap (s20-1)) (r1.set ((s20).toNat) (u32.wrap (u64.wrap (Int.tdiv (u64.wrap ((u64.wrap (s18*1000000000))+(u64.wrap x2))) (u64.wrap (u32.wrap (u64.wrap (Int.tdiv 1000000000 (u64.wrap ((u64.wrap x1)+1))))))))))))|_,_=>none)|none=>none))|none=>none)|false=>(og (decide (aM ((r0.drop ((0:Int).toNat)).take ((((ag (val a*(u32.wrap (u64.wrap (Int.tdiv 1000000000 (u64.wrap ((u64.wrap x1)+1)))))).toNat).length:Int):Int).toNat-(0:Int).toNat)))) (og (decide (aM r1)) (some [RV.d ai1 (ag (val ((r0.drop ((0:Int).toNat)).take ((((ag (val a*(u32.wrap (u64.wrap (Int.tdiv 1000000000 (u64.wrap ((u64.wrap x1)+1)))))).toNat).length:Int):Int).toNat-(0:Int).toNat))).toNat),RV.d ai1 (ag (val r1).toNat)])))
theorem vw(a:List Int)(x1:Int)(s11 r0:List Int)(s18 s20:Int)(r1:List Int):RN iS 90 (qN a x1 s11 r0 s18 s20 r1) (oS a x1 s11 r0 s18 s20 r1):=rnX
def qsc(x1:Int):Int:=u32.wrap (u64.wrap (Int.tdiv 1000000000 (u64.wrap ((u64.wrap x1)+1))))
theorem fW(x1:Int):u32.wrap (u64.wrap (Int.tdiv 1000000000 (u64.wrap ((u64.wrap x1)+1))))=qsc x1:=by
 have h:∀y,qsc x1=y→y=qsc x1:=fun y e=>e.symm
 exact h _ rfl
theorem YV{x:Int}(h1:1≤x)(h2:x<1000000000):qsc x=1000000000/(x+1)∧1≤qsc x∧qsc x<1000000000:=by
 have h3:1≤1000000000/(x+1):=Int.le_ediv_of_mul_le (by omega) (by omega)
 have h4:1000000000/(x+1)<1000000000:=aho (by omega) (by omega)
 grind [qsc,aY,cM]
theorem Dq{v:Int}(h:0<v):∃(n:Nat) (x:Int),(ag v.toNat).length=n+1∧(ag v.toNat)[n]?=some x∧1≤x∧x<1000000000∧x*pw n≤v:=by
 have hne:ag v.toNat≠[]:=fun e=>by rw[gk]at e;omega
 rcases List.eq_nil_or_concat (ag v.toNat)with h0|⟨l,x,hx⟩
 ·grind
 ·have hv:=aW v.toNat
  have hc:=dJ v.toNat
  have hl:=bR v.toNat
  rw[List.concat_eq_append]at hx
  rw[hx]at hv hc hl
  have hxx:=hl x (by simp)
  have hx0:x≠0:=fun e=>hc.2 (by simp[e])
  have hln:=aL (l:=l) (fun y hy=>hl y (by simp[hy]))
  rw[da]at hv
  simp only[val]at hv
  refine⟨l.length,x,by rw[hx];simp,by rw[hx];simp,by omega,hxx.2,?_⟩
  grind
section
variable (a b:List Int) (x1 x2:Int) (V:Int) (hV:val b*qsc x1=V) (hs:1≤qsc x1∧qsc x1<1000000000) (hp:0<V) (hra:(ag (val a*qsc x1).toNat).length≤a.length+1) (ha:Lim a∧a.length≤1000000) (hL:(ag V.toNat).length≤1000001)
theorem LW(hs:1≤qsc x1∧qsc x1<1000000000)(l r0:List Int)(hl:Lim l∧l.length≤2000000)(hr0:aM r0)(hz0:∀k (hk:k<r0.length),(ag (val a*qsc x1).toNat).length≤k→r0[k]=0):∀(n:Nat) (c:Int) (r:List Int),n≤l.length→0≤c→c<qsc x1→Lim r→r.length=l.length→(∀k (hk:k<r.length),k<n→r[k]=0)→qsc x1*val r+pw n*c+val (l.take n)=val l→
  iS.Runs 90 (qN a x1 l r0 c ((n:Int)-1) r) [.d ai1 (ag (val r0).toNat),.d ai1 (ag (val l/qsc x1).toNat)]:=by
 have hsa:=hl.2
 have e64:u64.wrap (qsc x1)=qsc x1:=aY (by omega) (by omega)
 intro n
 induction n with
 |zero=>
  intro c r hn c0 c1 hr hlen hz hv
  simp only[lC,List.take_zero,val,ahc,aiW]at hv
  have e2:val l/qsc x1=val r:=by
   rw[←hv,aiL,ahD _ _ (by omega),ag5 c0 c1]
   omega
  have e3:=ua hz0
  have e4:aM (r0.take (ag (val a*qsc x1).toNat).length):=⟨hr0.1.take _,by have:=hr0.2;rw[agG];omega⟩
  refine vw _ _ _ _ _ _ _ ⟨0,?_⟩
  unfold oS
  simp only[fW,Int.toNat_zero,ahm,ahy,Nat.sub_zero]
  rw[dF (by omega)]
  dsimp only
  rw[dT e4,dT (show aM r from⟨hr,by omega⟩),e3,e2]
 |succ n ih=>
  intro c r hn c0 c1 hr hlen hz hv
  have hna:n<l.length:=by omega
  have hnr:n<r.length:=by omega
  have xa:=hl.1.get hna
  have hr0':=hz n hnr (by omega)
  have hcb:0≤c*1000000000+l[n]:=by omega
  have m0:=ag8 (c*1000000000+l[n]) (show qsc x1≠0 by omega)
  have m1:=agM (c*1000000000+l[n]) (show 0<qsc x1 by omega)
  have md:=agJ (c*1000000000+l[n]) (qsc x1)
  have d0:0≤(c*1000000000+l[n])/qsc x1:=agW hcb (by omega)
  have d1:(c*1000000000+l[n])/qsc x1<1000000000:=by
   refine aho (by omega) ?_
   have:=aga (show c+1≤qsc x1 by omega) (show(0:Int)≤1000000000 by decide)
   rw[ahE 1000000000 (qsc x1)]
   omega
  obtain⟨q,hq⟩:=ih ((c*1000000000+l[n])%qsc x1) (r.set n ((c*1000000000+l[n])/qsc x1)) (by omega) m0 m1 (hr.set n ⟨d0,d1⟩) (by simpa using hlen)
   (fun k hk hkn=>by rw[ahf (by omega)];exact hz k (by simpa using hk) (by omega)) (by
    rw[eM hnr,hr0']
    rw[aT hna,bU]at hv
    grind)
  refine vw _ _ _ _ _ _ _ ⟨q,?_⟩
  unfold oS
  simp only[fW]
  rw[show((n+1:Nat):Int)-1=(n:Int) by omega,dT (by omega),ao l n,af0 hna,e64,dF (show ¬qsc x1=0 by omega),ao r n,aE,af0 hnr]
  dsimp only
  rw[aY (x:=c*1000000000) (by omega) (by omega),aY (x:=l[n]) (by omega) (by omega),aY (x:=c*1000000000+l[n]) (by omega) (by omega),gn hcb,iK hcb,aY (x:=(c*1000000000+l[n])/qsc x1) (by omega) (by omega),cM (x:=(c*1000000000+l[n])/qsc x1) (by omega) (by omega),aP (x:=(n:Int)-1) (by omega) (by omega)]
  exact hq
include hV hp hL in
theorem Ce{res:List RV}(i:Nat)(hi:i<(ag (val a*qsc x1).toNat).length)(r0 l:List Int)(hlr:r0.length=a.length+1)(hra:(ag (val a*qsc x1).toNat).length≤a.length+1)(x3 W:Int)(hW:val ([x3]++l)=W)(W0:0≤W)(hWl:(ag W.toNat).length≤1000002)
  (hout:iS.Runs 30 (jC a b x1 x2 (ag (W%V).toNat) ((i:Int)-1) (r0.set i (W/V))) res) (hi':(ag (val a*qsc x1).toNat).length≤2000000):
  ∀(d:Nat),d≤999999999→W<V*((d:Int)+1)→iS.Runs 67 (ez a b x1 x2 l (i:Int) r0 x3 (d:Int) (ag (V*(d:Int)).toNat)) res:=by
 intro d
 have hsz:∀e:Nat,e≤999999999→(ag (V*(e:Int)).toNat).length≤1000002:=fun e he=>by
  refine ck (agT (by omega) (by omega)) ?_
  have h1:V<pw 1000001:=by
   have:=bP (bR V.toNat)
   rw[aW]at this
   have:=cX hL
   omega
  rw[bU 1000001]
  have h2:V*(e:Int)≤V*999999999:=af7 (by omega) (by omega)
  omega
 induction d with
 |zero=>
  intro _ hd
  obtain⟨q,hq⟩:=hout
  have hWV:W<V:=by simpa using hd
  rw[ah6 W0 hWV,ag5 W0 hWV]at hq
  refine o8 _ _ _ _ _ _ _ _ _ _ ⟨q,?_⟩
  unfold l8
  simp only[fW,hV,hW]
  rw[show(V*((0:Nat):Int)).toNat=0 by simp,dT (show pj (ag 0) (ag W.toNat) from⟨⟨dJ _,by decide⟩,dJ _,by omega⟩),bL W0,ue,show val (ag 0)=0 from rfl,dF (show ¬W<0 by omega),dT (show mh (ag W.toNat) (ag 0) from⟨co (by omega),co (by decide),by rw[bL W0];exact W0⟩)]
  dsimp only
  rw[dT (show(0:Int)≤(i:Int)∧(i:Int)<((((ag (val a*qsc x1).toNat).length:Int).toNat-(0:Int).toNat:Nat):Int) by constructor<;>simp<;>omega)]
  rw[show(0:Int).toNat+((i:Int)).toNat=i by simp,af0 (by omega)]
  dsimp only
  rw[Int.sub_zero,aP (by omega) (by omega)]
  exact hq
 |succ d ih=>
  intro hd1 hd
  have hc:((d+1:Nat):Int)=(d:Int)+1:=by omega
  rw[hc]at hd
  have hV1:0≤V*((d:Int)+1):=agT (by omega) (by omega)
  have hV0:0≤V*(d:Int):=agT (by omega) (by omega)
  have hVd:V*((d:Int)+1)-V=V*(d:Int):=by grind
  have hs1:=hsz (d+1) (by omega)
  rw[hc]at hs1
  have k1:=aW V.toNat
  by_cases hg:W<V*((d:Int)+1)
  ·obtain⟨q,hq⟩:=ih (by omega) hg
   refine o8 _ _ _ _ _ _ _ _ _ _ ⟨q,?_⟩
   unfold l8
   simp only[fW,hV,hW]
   rw[hc,dT (show pj (ag (V*((d:Int)+1)).toNat) (ag W.toNat) from⟨⟨dJ _,by omega⟩,dJ _,by omega⟩),bL W0,bL hV1,ue,dT hg,dT (show mh (ag (V*((d:Int)+1)).toNat) (ag V.toNat) from⟨co (by omega),co (by omega),by rw[bL hV1,bL (by omega)];omega⟩),bL (v:=V) (by omega),hVd,aY (by omega) (by omega),show(d:Int)+1-1=(d:Int) by omega]
   exact hq
  ·obtain⟨q,hq⟩:=hout
   have e1:W/V=(d:Int)+1:=by
    have:W=(W-V*((d:Int)+1))+V*((d:Int)+1):=by omega
    rw[this,ahD _ _ (by omega),ag5 (by omega) (by grind)]
    omega
   have e2:W%V=W-V*((d:Int)+1):=by
    have:=agJ W V
    rw[e1]at this
    omega
   rw[e1,e2]at hq
   refine o8 _ _ _ _ _ _ _ _ _ _ ⟨q,?_⟩
   unfold l8
   simp only[fW,hV,hW]
   rw[hc,dT (show pj (ag (V*((d:Int)+1)).toNat) (ag W.toNat) from⟨⟨dJ _,by omega⟩,dJ _,by omega⟩),bL W0,bL hV1,ue,dF hg,dT (show mh (ag W.toNat) (ag (V*((d:Int)+1)).toNat) from⟨co (by omega),co (by omega),by rw[bL hV1,bL W0];omega⟩)]
   dsimp only
   rw[dT (show(0:Int)≤(i:Int)∧(i:Int)<((((ag (val a*qsc x1).toNat).length:Int).toNat-(0:Int).toNat:Nat):Int) by constructor<;>simp<;>omega)]
   rw[show(0:Int).toNat+((i:Int)).toNat=i by simp,af0 (by omega)]
   dsimp only
   rw[aP (by omega) (by omega),cM (by omega) (by omega)]
   exact hq
end
end
section
def nB(k:Nat→Cfg→Option (List RV))(a b:List Int)(x1 x2:Int)(s11:List Int)(s14:Int)(r0:List Int)(x3 H:Int):Option (List RV):=match decide (u64.wrap x2=(0:Int))with|true=>none|false=>(match decide ((u64.wrap (Int.tdiv H (u64.wrap x2)))>999999999)with|true=>(og (decide (byP (ag (val b*(u32.wrap (u64.wrap (Int.tdiv 1000000000 (u64.wrap ((u64.wrap x1)+1)))))).toNat) (u32.wrap 999999999))) (k 67 (ez a b x1 x2 s11 s14 r0 x3 999999999 (ag (val (ag (val b*(u32.wrap (u64.wrap (Int.tdiv 1000000000 (u64.wrap ((u64.wrap x1)+1)))))).toNat)*(u32.wrap 999999999)).toNat))))|false=>(og (decide (byP (ag (val b*(u32.wrap (u64.wrap (Int.tdiv 1000000000 (u64.wrap ((u64.wrap x1)+1)))))).toNat) (u32.wrap (u64.wrap (Int.tdiv H (u64.wrap x2)))))) (k 67 (ez a b x1 x2 s11 s14 r0 x3 (u64.wrap (Int.tdiv H (u64.wrap x2))) (ag (val (ag (val b*(u32.wrap (u64.wrap (Int.tdiv 1000000000 (u64.wrap ((u64.wrap x1)+1)))))).toNat)*(u32.wrap (u64.wrap (Int.tdiv H (u64.wrap x2))))).toNat)))))
theorem Kh{W V H x p d:Int}(hx:1≤x)(hW:W<(H+1)*p)(hp:0<p)(hV:x*p≤V)(hd:H/x=d)(h0:0≤H):W<V*(d+1):=by
 have h1:=agJ H x
 have h2:=agM H (show 0<x by omega)
 have h3:0≤d:=by rw[←hd];exact agW h0 (by omega)
 have h4:H+1≤x*(d+1):=by grind
 have h5:=aga h4 (agB hp)
 have h6:=aga hV (show 0≤d+1 by omega)
 grind
theorem WE{A B s R q:Int}(hs:0<s)(h:A*s=R+B*s*q)(h0:0≤R)(h1:R<B*s):A/B=q∧A%B=R/s:=by
 have e:R=s*(A-B*q):=by grind
 have hm:R/s=A-B*q:=by rw[e];exact ah7 _ (by omega)
 have m0:0≤A-B*q:=by
  apply age
  intro hc
  have:=af7 (show A-B*q≤ -1 by omega) (agB hs)
  omega
 have m1:A-B*q<B:=by
  apply age
  intro hc
  have:=af7 (show B≤A-B*q by omega) (agB hs)
  grind
 have hA:A=(A-B*q)+B*q:=by omega
 constructor
 ·rw[hA,ahD _ _ (by omega),ag5 (by omega) (by omega)];omega
 ·rw[hm,hA,ahR,ah6 (by omega) (by omega)];omega
section
variable (a b:List Int) (x1 x2:Int) (V:Int) (hV:val b*qsc x1=V) (hs:1≤qsc x1∧qsc x1<1000000000) (hp:0<V) (hra:(ag (val a*qsc x1).toNat).length≤a.length+1) (ha:Lim a∧a.length≤1000000) (hL:(ag V.toNat).length≤1000001)
include hV hs hp hra ha hL in
theorem Dw(n:Nat)(hn:(ag V.toNat).length=n+1)(hx2:1≤x2∧x2<1000000000)(hxp:x2*pw n≤V):∀(i:Nat) (R:Int) (r0:List Int),i≤(ag (val a*qsc x1).toNat).length→0≤R→R<V→r0.length=a.length+1→Lim r0→
  (∀k (hk:k<r0.length),k<i→r0[k]=0)→(∀k (hk:k<r0.length),(ag (val a*qsc x1).toNat).length≤k→r0[k]=0)→val a*qsc x1=pw i*R+val ((ag (val a*qsc x1).toNat).take i)+V*val r0→
  iS.Runs 30 (jC a b x1 x2 (ag R.toNat) ((i:Int)-1) r0) [.d ai1 (ag (val a/val b).toNat),.d ai1 (ag (val a%val b).toNat)]:=by
 have hVp:V<pw 1000001:=by
  have:=bP (bR V.toNat)
  rw[aW]at this
  have:=cX hL
  omega
 have ha2:=ha.2
 intro i
 induction i with
 |zero=>
  intro R r0 _ R0 RV hlr hl _ hz he
  simp only[lC,List.take_zero,val,ahc,aiW]at he
  rw[←hV]at he
  obtain⟨e1,e2⟩:=WE (by omega) he R0 (by rw[hV];exact RV)
  have hRl:(ag R.toNat).length≤1000001:=ck R0 (by omega)
  obtain⟨q,hq⟩:=LW a x1 hs (ag R.toNat) r0 ⟨bR _,by omega⟩ ⟨hl,by omega⟩ hz (ag R.toNat).length 0 (List.replicate (ag R.toNat).length 0) (af6 _) (by omega) (by omega) (Lim.rep _) (by simp) (fun k hk _=>by simp) (by simp[gf])
  rw[bL R0,←e2,←e1]at hq
  refine ln _ _ _ _ _ _ _ ⟨q,?_⟩
  unfold jz
  rw[dF (by omega)]
  dsimp only
  rw[dT (show(0:Int)≤((ag R.toNat).length:Int)∧((ag R.toNat).length:Int)*((4:Nat):Int)≤140737488355328∧((ag R.toNat).length:Int)≤140737488355328 from⟨by omega,by omega,by omega⟩),aE,aP (by omega) (by omega)]
  exact hq
 |succ i ih=>
  intro R r0 hi R0 RV hlr hl hz hz2 he
  have hiU:i<(ag (val a*qsc x1).toNat).length:=by omega
  have hx:=(bR (val a*qsc x1).toNat).get hiU
  have hir:i<r0.length:=by omega
  have hr0:=hz i hir (by omega)
  have hWv:val ([(ag (val a*qsc x1).toNat)[i]]++ag R.toNat)=(ag (val a*qsc x1).toNat)[i]+1000000000*R:=by
   rw[da,bL R0]
   simp[val,pw]
  generalize hxi:(ag (val a*qsc x1).toNat)[i]=x at hx hWv
  have W0:0≤x+1000000000*R:=by omega
  have WV:x+1000000000*R<1000000000*V:=by omega
  have hWl:(ag (x+1000000000*R).toNat).length≤n+2:=by
   refine ck W0 ?_
   have:=bP (bR V.toNat)
   rw[aW,hn]at this
   rw[bU (n+1)]
   omega
  have hRl:(ag R.toNat).length≤1000001:=ck R0 (by omega)
  have q0:0≤(x+1000000000*R)/V:=agW W0 (by omega)
  have q1:(x+1000000000*R)/V<1000000000:=aho hp (by omega)
  have m0:=ag8 (x+1000000000*R) (show V≠0 by omega)
  have m1:=agM (x+1000000000*R) hp
  have md:=agJ (x+1000000000*R) V
  have hout:=ih ((x+1000000000*R)%V) (r0.set i ((x+1000000000*R)/V)) (by omega) m0 m1 (by simpa using hlr) (hl.set i ⟨q0,q1⟩)
   (fun k hk hk'=>by rw[ahf (by omega)];exact hz k (by simpa using hk) (by omega))
   (fun k hk hk'=>by rw[ahf (by omega)];exact hz2 k (by simpa using hk) hk') (by
    rw[eM hir,hr0]
    rw[aT hiU,bU,hxi]at he
    grind)
  have hdig:=Ce a b x1 x2 V hV hp hL i hiU r0 (ag R.toNat) hlr hra x (x+1000000000*R) hWv W0 (by omega) hout (by omega)
  have htail:∀H:Int,0≤H→H<1000000000000000000→x+1000000000*R<(H+1)*pw n→∃q,nB (iS.k q) a b x1 x2 (ag R.toNat) ((i:Int)) r0 x H=some [.d ai1 (ag (val a/val b).toNat),.d ai1 (ag (val a%val b).toNat)]:=by
   intro H H0 H1 HW
   have d0:0≤H/x2:=agW H0 (by omega)
   have d1:H/x2≤H:=ahJ _ H0
   have hbyV:∀d:Int,0≤d→d<1000000000→byP (ag V.toNat) d:=fun d h1 h2=>⟨⟨bR _,by omega⟩,h1,h2⟩
   by_cases hc:H/x2>999999999
   ·obtain⟨q,hq⟩:=hdig 999999999 (af6 _) (by rw[show V*(((999999999:Nat):Int)+1)=1000000000*V by omega];exact WV)
    refine⟨q,?_⟩
    unfold nB
    simp only[fW,hV]
    rw[aY (x:=x2) (by omega) (by omega),dF (show ¬x2=0 by omega),gn H0,aY (x:=H/x2) (by omega) (by omega),dT hc,cM (x:=999999999) (by decide) (by decide),dT (hbyV 999999999 (by decide) (by decide)),bL (v:=V) (by omega)]
    exact hq
   ·obtain⟨q,hq⟩:=hdig (H/x2).toNat (by omega) (by rw[show(((H/x2).toNat:Nat):Int)=H/x2 by omega];exact Kh hx2.1 HW (b9 n) hxp rfl H0)
    rw[show(((H/x2).toNat:Nat):Int)=H/x2 by omega]at hq
    refine⟨q,?_⟩
    unfold nB
    simp only[fW,hV]
    rw[aY (x:=x2) (by omega) (by omega),dF (show ¬x2=0 by omega),gn H0,aY (x:=H/x2) (by omega) (by omega),dF hc,cM (x:=H/x2) (by omega) (by omega),dT (hbyV (H/x2) (by omega) (by omega)),bL (v:=V) (by omega)]
    exact hq
  have hWlim:=bR (x+1000000000*R).toNat
  have hWval:=bL W0
  have hsplit:=fH (ag (x+1000000000*R).toNat) n
  have htl:=bP (hWlim.take n)
  have hpre:∀H,val ((ag (x+1000000000*R).toNat).drop n)=H→x+1000000000*R<(H+1)*pw n:=by
   intro H hH
   rw[hH,hWval]at hsplit
   have hm:(ag (x+1000000000*R).toNat |>.take n).length≤n:=by rw[agG];omega
   have:=cX hm
   rcases agA n (ag (x+1000000000*R).toNat).length with h|h
   ·rw[agI (by omega)]at hsplit
    rw[Int.add_mul,ahE H,ahc]
    omega
   ·rw[agR h]at hH
    have hH0:H=0:=by rw[←hH];rfl
    subst hH0
    rw[ah9]at hsplit
    omega
  have hstep:∀(H:Int) (q:Nat),nB (iS.k q) a b x1 x2 (ag R.toNat) ((i:Int)) r0 x H=some [.d ai1 (ag (val a/val b).toNat),.d ai1 (ag (val a%val b).toNat)]→True:=fun _ _ _=>trivial
  have hap:(([x]:List Int).length+(ag R.toNat).length)*4≤140737488355328∧([x]:List Int).length+(ag R.toNat).length≤140737488355328:=by simp only[agb];omega
  have hlS:aM ([x]++ag R.toNat):=⟨(Lim.cons ⟨hx.1,hx.2⟩ Lim.nil).append (bR _),by simp only[agv,agb];omega⟩
  have hw1:i64.wrap (((n+1:Nat):Int)-1)=((n:Nat):Int):=by rw[aP (by omega) (by omega)];omega
  rcases Nat.lt_trichotomy (ag (x+1000000000*R).toNat).length (n+1)with hc|hc|hc
  ·obtain⟨q,hq⟩:=htail 0 (by omega) (by omega) (hpre 0 (by rw[agR (by omega)];rfl))
   refine ln _ _ _ _ _ _ _ ⟨q,?_⟩
   unfold jz
   rw[dT (show((i+1:Nat):Int)-1≥0 by omega),show((i+1:Nat):Int)-1=(i:Int) by omega,fW,ao,af0 hiU,hxi]
   dsimp only
   rw[dT hap,dT hlS,hWv,hV,hn]
   rw[dF (show ¬((ag (x+1000000000*R).toNat).length:Int)>((n+1:Nat):Int) by omega),dF (show ¬((ag (x+1000000000*R).toNat).length:Int)≥((n+1:Nat):Int) by omega)]
   rw[←hV]
   exact hq
  ·have hget:(ag (x+1000000000*R).toNat)[n]?=some (ag (x+1000000000*R).toNat)[n]:=af0 (by omega)
   have hxn:=hWlim.get (show n<(ag (x+1000000000*R).toNat).length by omega)
   have hdrop:val ((ag (x+1000000000*R).toNat).drop n)=(ag (x+1000000000*R).toNat)[n]:=by
    rw[dO (by omega),agR (by omega)]
    simp[val]
   obtain⟨q,hq⟩:=htail (ag (x+1000000000*R).toNat)[n] hxn.1 (by omega) (hpre _ hdrop)
   refine ln _ _ _ _ _ _ _ ⟨q,?_⟩
   unfold jz
   rw[dT (show((i+1:Nat):Int)-1≥0 by omega),show((i+1:Nat):Int)-1=(i:Int) by omega,fW,ao,af0 hiU,hxi]
   dsimp only
   rw[dT hap,dT hlS,hWv,hV,hn]
   rw[dF (show ¬((ag (x+1000000000*R).toNat).length:Int)>((n+1:Nat):Int) by omega),dT (show((ag (x+1000000000*R).toNat).length:Int)≥((n+1:Nat):Int) by omega),hw1,ao (ag (x+1000000000*R).toNat) n,hget]
   dsimp only
   rw[Int.zero_add,aY (x:=(ag (x+1000000000*R).toNat)[n]) (by omega) (by omega),aY (x:=(ag (x+1000000000*R).toNat)[n]) (by omega) (by omega)]
   rw[←hV]
   exact hq
  ·have hget:(ag (x+1000000000*R).toNat)[n]?=some (ag (x+1000000000*R).toNat)[n]:=af0 (by omega)
   have hget1:(ag (x+1000000000*R).toNat)[n+1]?=some (ag (x+1000000000*R).toNat)[n+1]:=af0 (by omega)
   have hxn:=hWlim.get (show n<(ag (x+1000000000*R).toNat).length by omega)
   have hxn1:=hWlim.get (show n+1<(ag (x+1000000000*R).toNat).length by omega)
   have hdrop:val ((ag (x+1000000000*R).toNat).drop n)=(ag (x+1000000000*R).toNat)[n+1]*1000000000+(ag (x+1000000000*R).toNat)[n]:=by
    rw[dO (by omega),dO (by omega),agR (by omega)]
    simp only[val]
    omega
   obtain⟨q,hq⟩:=htail ((ag (x+1000000000*R).toNat)[n+1]*1000000000+(ag (x+1000000000*R).toNat)[n]) (by omega) (by omega) (hpre _ hdrop)
   refine ln _ _ _ _ _ _ _ ⟨q,?_⟩
   unfold jz
   rw[dT (show((i+1:Nat):Int)-1≥0 by omega),show((i+1:Nat):Int)-1=(i:Int) by omega,fW,ao,af0 hiU,hxi]
   dsimp only
   rw[dT hap,dT hlS,hWv,hV,hn]
   rw[dT (show((ag (x+1000000000*R).toNat).length:Int)>((n+1:Nat):Int) by omega),ao (ag (x+1000000000*R).toNat) (n+1),hget1]
   dsimp only
   rw[dT (show((ag (x+1000000000*R).toNat).length:Int)≥((n+1:Nat):Int) by omega),hw1,ao (ag (x+1000000000*R).toNat) n,hget]
   dsimp only
   rw[aY (x:=(ag (x+1000000000*R).toNat)[n+1]) (by omega) (by omega),aY (x:=(ag (x+1000000000*R).toNat)[n+1]*1000000000) (by omega) (by omega),aY (x:=(ag (x+1000000000*R).toNat)[n]) (by omega) (by omega),aY (x:=(ag (x+1000000000*R).toNat)[n+1]*1000000000+(ag (x+1000000000*R).toNat)[n]) (by omega) (by omega)]
   rw[←hV]
   exact hq
end
end
def W5:Cn 264 [ai1,ai1]:=cn fun(a b:List Int)=>lf (AP a b) [.d ai1 (ag (val a/val b).toNat),.d ai1 (ag (val a%val b).toNat)] fun h=>by
 refine cJ Ks (show iS.Res _ _ _ from ?_)
 obtain⟨⟨ha,sa⟩,⟨hb,sb⟩,hne⟩:=h
 have a0:=aL ha.1
 have b0:0<val b:=d9 hb hne
 have hlen:=agF.2 hne
 have la:=bP ha.1
 have lb:=bP hb.1
 by_cases hsm:a.length≤2∧b.length≤2
 ·have p2:pw 2=1000000000000000000:=by decide
  have m1:=cX hsm.1
  have m2:=cX hsm.2
  have q0:0≤val a/val b:=agW a0 (by omega)
  have q1:val a/val b≤val a:=ahJ _ a0
  have r0:=ag8 (val a) (show val b≠0 by omega)
  have r1:=agM (val a) b0
  refine Ih _ _ ⟨0,?_⟩
  unfold C5
  rw[dT (show(a.length:Int)≤2 by omega),dT (show(b.length:Int)≤2 by omega),dT (show pK a from⟨⟨ha.1,by omega⟩,by omega⟩),dT (show pK b from⟨⟨hb.1,by omega⟩,by omega⟩),dF (show ¬val b=0 by omega),gn a0,iK a0,aY (x:=val a/val b) q0 (by omega),dT (show gK (val a/val b) from⟨q0,by omega⟩),dT (show gK (val a%val b) from⟨r0,by omega⟩)]
 ·obtain⟨n,hn⟩:∃n,b.length=n+1:=⟨b.length-1,by omega⟩
  have hbn:n<b.length:=by omega
  have ht:=rD hb hn
  have hbl:=hb.1.get hbn
  obtain⟨hs0,hs1,hs2⟩:=YV (x:=b[n]) ht hbl.2
  have hVp:0<val b*qsc b[n]:=Int.mul_pos b0 (by omega)
  have hVl:(ag (val b*qsc b[n]).toNat).length≤1000001:=by
   refine ck (by omega) ?_
   have h1:val b*qsc b[n]≤val b*999999999:=af7 (by omega) (by omega)
   have h2:=cX sb
   rw[bU 1000000]
   omega
  have hUl:(ag (val a*qsc b[n]).toNat).length≤a.length+1:=by
   refine ck (agT a0 (by omega)) ?_
   have h1:val a*qsc b[n]≤val a*999999999:=af7 (by omega) (by omega)
   rw[bU]
   omega
  obtain⟨m,x2,hm,hg,hx1,hx2,hxp⟩:=Dq hVp
  obtain⟨q,hq⟩:=Dw a b b[n] x2 (val b*qsc b[n]) rfl ⟨hs1,hs2⟩ hVp hUl ⟨ha.1,sa⟩ hVl m hm ⟨hx1,hx2⟩ hxp (ag (val a*qsc b[n]).toNat).length 0 (List.replicate (a.length+1) 0) (af6 _) (by omega) hVp (by simp) (Lim.rep _) (fun k hk _=>by simp) (fun k hk _=>by simp) (by
   rw[ag9,bL (agT a0 (by omega)),gf];omega)
  refine Ih _ _ ⟨q,?_⟩
  have hw1:i64.wrap ((b.length:Int)-1)=(n:Int):=by rw[aP (by omega) (by omega)];omega
  have hx1w:¬u64.wrap (u64.wrap b[n]+1)=0:=by rw[aY (x:=b[n]) (by omega) (by omega),aY (by omega) (by omega)];omega
  have hbyb:byP b (qsc b[n]):=⟨⟨hb.1,by omega⟩,by omega,hs2⟩
  have hbya:byP a (qsc b[n]):=⟨⟨ha.1,by omega⟩,by omega,hs2⟩
  have hw2:i64.wrap (((m+1:Nat):Int)-1)=(m:Int):=by rw[aP (by omega) (by omega)];omega
  have hsub:(match aN b (i64.wrap ((b.length:Int)-1))with|some x1=>(match decide (u64.wrap ((u64.wrap x1)+1)=(0:Int))with|true=>none|false=>(match decide (byP b (qsc x1))with|true=>(match aN (ag (val b*(qsc x1)).toNat) (i64.wrap (((ag (val b*(qsc x1)).toNat).length:Int)-1))with|some x2=>(match decide ((0:Int)≤i64.wrap ((a.length:Int)+1)∧(i64.wrap ((a.length:Int)+1))*((4:Nat):Int)≤140737488355328∧i64.wrap ((a.length:Int)+1)≤140737488355328)with|true=>(match decide (byP a (qsc x1))with|true=>(match decide ((0:Int)≤0∧0≤((ag (val a*(qsc x1)).toNat).length:Int)∧((ag (val a*(qsc x1)).toNat).length:Int)≤((List.replicate (i64.wrap ((a.length:Int)+1)).toNat (0:Int)).length:Int))with|true=>(iS.k q) 30 (jC a b x1 x2 ([]) (i64.wrap (((ag (val a*(qsc x1)).toNat).length:Int)-1)) (List.replicate (i64.wrap ((a.length:Int)+1)).toNat (0:Int)))|false=>none)|false=>none)|false=>none)|none=>none)|false=>none))|none=>none)=some [.d ai1 (ag (val a/val b).toNat),.d ai1 (ag (val a%val b).toNat)]:=by
   rw[hw1,ao,af0 hbn]
   dsimp only
   rw[dF hx1w,dT hbyb,hm,hw2,ao,hg]
   dsimp only
   rw[bK (k:=a.length) (by omega),pI (n:=a.length+1) (by omega),dT hbya,aE,ais,dT (show(0:Int)≤0∧(0:Int)≤((ag (val a*qsc b[n]).toNat).length:Int)∧((ag (val a*qsc b[n]).toNat).length:Int)≤((a.length+1:Nat):Int) from⟨by omega,by omega,by omega⟩),aP (x:=((ag (val a*qsc b[n]).toNat).length:Int)-1) (by omega) (by omega)]
   exact hq
  unfold C5
  by_cases h1:a.length≤2
  ·rw[dT (show(a.length:Int)≤2 by omega),dF (show ¬(b.length:Int)≤2 by omega)]
   exact hsub
  ·rw[dF (show ¬(a.length:Int)≤2 by omega)]
   exact hsub
def C2:List En:=[enK uO,enK zi,enF zB,enF vU,enK TC,enK Cr,enK W5,enK yb,enK YQ,enK CL,enK yG]
def JZ(x y:Bool×List Int)(_k:KT):Option (List RV):=let y1:=ag (val x.2/val y.2).toNat;let y2:=ag (val x.2%val y.2).toNat;let y3:=ai (bS (!(x.1==y.1)) (val y1));let y4:=ai (bS x.1 (val y2));let y5:Option (List RV):=match decide ((y2.length:Int)>0)with|true=>(match !(x.1==y.1)with|true=>(og (decide (aF (1:Int))) (og (decide (okI y3∧okI (ai (1:Int)))) (og (decide (okI y4∧okI y)) (dup (.b .l .l) (some [RV.d y2Y (ai (ae y3-ae (ai (1:Int)))),RV.d y2Y (ai (ae y4+ae y)),RV.d ai2 0])))))|false=>dup (.b .l .l) (some [RV.d y2Y y3,RV.d y2Y y4,RV.d ai2 0]))|false=>dup (.b .l .l) (some [RV.d y2Y y3,RV.d y2Y y4,RV.d ai2 0]);let y6:Option (List RV):=match decide (aM y2)with|true=>y5|false=>none;match(y.2.length:Int)==0 with|true=>some [RV.d y2Y (false,[]),RV.d y2Y (false,[]),RV.d ai2 6]|false=>(og (decide (AP x.2 y.2)) (cd (og (decide (aM y1)) (cd (og (decide (aM y2)) (dup (.b .l .l) y5)) (dup (.b (.b .l .l) (.b .l .l)) y6))) (dup (.b .l .l) (cd (og (decide (aM y1)) (dup (.b .l .l) y6)) (og (decide (aM y1)) y6)))))
def PH:NT:=[((165,6),{keep:=[4,5,6],pure_:=[(5,.int .u32),(6,.int .u32)],hl:=3}),((165,29),{keep:=[4,9,10],hl:=3})]
def ru:Ctx:=CX (ens C2) PH
def qp(x y:Bool×List Int)(s5 s6:List Int):Cfg:=⟨165,[.blk 0,.seq 17],[(4,.box 2 0),(5,.d ai1 s5),(6,.d ai1 s6)],[.box 29 [SB x.1,.d ai1 x.2],.box 29 [SB y.1,.d ai1 y.2],.box 29 [SB false,.nil]],0,[]⟩
def mM(x y:Bool×List Int)(s9 s10:Int):Cfg:=⟨165,[.blk 2,.seq 38],[(4,.box 2 0),(9,.d (.int .u64) s9),(10,.d (.int .u64) s10)],[.box 29 [SB x.1,.d ai1 x.2],.box 29 [SB y.1,.d ai1 y.2],.box 29 [SB false,.nil]],0,[]⟩
def X3(x y:Bool×List Int)(k:KT):Option (List RV):=k 6 (qp x y x.2 y.2)
theorem W9(x y:Bool×List Int):RS ru 165 [.d y2Y x,.d y2Y y] (X3 x y):=rsX
def nU(x y:Bool×List Int)(s5 s6:List Int)(k:KT):Option (List RV):=match decide ((s6.length:Int)>0)with|true=>(match decide ((s5.length:Int)>2)with|true=>(og (decide (AP s5 s6)) (k 6 (qp x y s6 (ag (val s5%val s6).toNat))))|false=>(match decide ((s6.length:Int)>2)with|true=>(og (decide (AP s5 s6)) (k 6 (qp x y s6 (ag (val s5%val s6).toNat))))|false=>(match(s6.length:Int)==0 with|true=>(og (decide (aM s5)) (some [RV.d y2Y (ai (bS false (val s5)))]))|false=>(og (decide (pK s5)) (og (decide (pK s6)) (k 29 (mM x y (val s5) (val s6))))))))|false=>(match(s6.length:Int)==0 with|true=>(og (decide (aM s5)) (some [RV.d y2Y (ai (bS false (val s5)))]))|false=>(og (decide (pK s5)) (og (decide (pK s6)) (k 29 (mM x y (val s5) (val s6))))))
theorem rm(x y:Bool×List Int)(s5 s6:List Int):RL ru 6 (qp x y s5 s6) (nU x y s5 s6):=rlX
def oN(x y:Bool×List Int)(s9 s10:Int)(k:KT):Option (List RV):=match decide (s10>0)with|true=>(match decide (s10=(0:Int))with|true=>none|false=>k 29 (mM x y s10 (Int.tmod s9 s10)))|false=>(og (decide (gK s9)) (og (decide (aM (ag s9.toNat))) (some [RV.d y2Y (ai (bS false (val (ag s9.toNat))))])))
theorem vn(x y:Bool×List Int)(s9 s10:Int):RL ru 29 (mM x y s9 s10) (oN x y s9 s10):=rlX
def M4:Cn 166 [y2Y,y2Y]:=cn fun(x y:Bool×List Int)=>lf (eS x y) [.d y2Y (ai (ae x/ae y)),.d y2Y (ai (ae x%ae y)),.d ai2 0] fun h=>by
 refine az C2 (JZ x y) ⟨0,?_⟩
 obtain⟨hx,hy,hp⟩:=h
 obtain⟨x0,x1,x2⟩:=cr hx
 obtain⟨y0,y1,y2⟩:=cr hy
 have sx:=hx.2.2
 have sy:=hy.2.2
 have ey:y.1=false:=by
  cases e:y.1
  ·rfl
  ·rw[bi,e]at hp
   simp only[bS,agd]at hp
   omega
 have dy:ae y=val y.2:=by rw[bi,ey];rfl
 rw[dy]at hp
 have hne:y.2≠[]:=fun e=>by rw[y2]at e;omega
 have hprt:AP x.2 y.2:=⟨⟨hx.1,sx⟩,⟨hy.1,sy⟩,hne⟩
 have hylen:=agF.2 hne
 have r0:=ag8 (val x.2) (show val y.2≠0 by omega)
 have r1:=agM (val x.2) hp
 have q0:0≤val x.2/val y.2:=agW x0 y0
 have q1:val x.2/val y.2≤val x.2:=ahJ _ x0
 have vx:=bP hx.1.1
 have vy:=bP hy.1.1
 have mx:=cX sx
 have my:=cX sy
 have szq:szI (val x.2/val y.2)≤1000000:=dX (by have:=b9 1000000;omega) (by omega)
 have szr:szI (val x.2%val y.2)≤1000000:=dX (by have:=b9 1000000;omega) (by omega)
 have lq:(ag (val x.2/val y.2).toNat).length≤1000000:=ck q0 (by omega)
 have lr:(ag (val x.2%val y.2).toNat).length≤1000000:=ck r0 (by omega)
 unfold JZ
 simp only[eH]
 rw[show((y.2.length:Int)==0)=false by simp;omega,dT hprt,dT (co (n:=(val x.2/val y.2).toNat) (by omega)),dT (co (n:=(val x.2%val y.2).toNat) (by omega)),dT (show aF 1 by decide),bL q0,bL r0,
  dT (show okI (ai (bS (!(x.1==y.1)) (val x.2/val y.2)))∧okI (ai (1:Int)) from⟨aR (by rw[yu];exact szq),nV⟩),dT (show okI (ai (bS x.1 (val x.2%val y.2)))∧okI y from⟨aR (by rw[yu];exact szr),hy⟩)]
 simp only[dec_enc,dy,cN]
 rw[bi x,ey]
 have hlen:(((ag (val x.2%val y.2).toNat).length:Int)>0)↔0<val x.2%val y.2:=by
  constructor
  ·intro hl
   rcases ags 0 (val x.2%val y.2)with h|h
   ·exact h
   ·rw[show(val x.2%val y.2).toNat=0 by omega,fe]at hl
    simp at hl
  ·intro hl
   have:ag (val x.2%val y.2).toNat≠[]:=fun e=>by rw[gk]at e;omega
   have:=agF.2 this
   omega
 obtain⟨n1,n2⟩:=E5 (a:=val x.2) (b:=val y.2) x0 hp
 rcases ags 0 (val x.2%val y.2)with hr|hr
 ·rw[dT (hlen.2 hr)]
  cases x.1
  ·rfl
  ·obtain⟨e1,e2⟩:=n2 hr
   simp only[bS,agd,Bool.not_false,show((true==false):Bool)=false from rfl]
   rw[e1,e2]
 ·rw[dF (fun h'=>by have:=hlen.1 h';omega)]
  dsimp only
  have e0:val x.2%val y.2=0:=by omega
  cases x.1
  ·simp only[bS,cond_false,show((false==false):Bool)=true from rfl,Bool.not_true]
  ·obtain⟨e1,e2⟩:=n1 e0
   simp only[bS,agd,Bool.not_false,show((true==false):Bool)=false from rfl]
   rw[e1,e2,e0]
   rfl
theorem GW(x y:BI)(B:Nat)(hB:(B:Int)<18446744073709551616):∀(v u:Nat),u≤B→v≤B→ru.RunsE 29 (mM x y (u:Int) (v:Int)) [.d y2Y (ai ((Nat.gcd u v:Nat):Int))]:=by
 intro v
 induction v using Nat.strongRecOn with
 |ind v ih=>
  intro u hu hv
  rcases agQ v with h0|h0
  ·refine vn _ _ _ _ ⟨0,fun n _=>?_⟩
   have hp:gK (u:Int):=⟨by omega,by omega⟩
   have hl:(ag u).length≤3:=cW (ail (show(u:Int)<18446744073709551616 by omega) (by decide))
   unfold oN
   rw[dF (show ¬(v:Int)>0 by omega),dT hp,ahm,dT (co (n:=u) (by omega)),aW,show Nat.gcd u v=u by rw[h0];exact Nat.gcd_zero_right u]
   rfl
  ·obtain⟨n0,hn⟩:=ih (u%v) (aiJ _ h0) v hv (agj (Nat.le_of_lt (aiJ _ h0)) hv)
   refine vn _ _ _ _ ⟨n0,fun n hn'=>?_⟩
   unfold oN
   rw[dT (show(v:Int)>0 by omega),dF (show ¬(v:Int)=0 by omega),iK (by omega)]
   dsimp only
   rw[show((u:Int)%(v:Int))=((u%v:Nat):Int) by simp,ahW u v,Nat.gcd_rec v u,ahW]
   exact hn n hn'
theorem Fk{u:Nat}(h:(ag u).length≤2):(u:Int)<1000000000000000000:=by
 have h1:=bP (bR u)
 rw[aW]at h1
 have h2:=cX h
 grind [pw]
theorem GZ(x y:BI):∀(v u:Nat),(ag u).length≤1000000→(ag v).length≤1000000→
  ru.RunsE 6 (qp x y (ag u) (ag v)) [.d y2Y (ai ((Nat.gcd u v:Nat):Int))]:=by
 intro v
 induction v using Nat.strongRecOn with
 |ind v ih=>
  intro u hu hv
  rcases agQ v with h0|h0
  ·refine rm _ _ _ _ ⟨0,fun n _=>?_⟩
   unfold nU
   rw[h0,Nat.gcd_zero_right,dF (show ¬((ag 0).length:Int)>0 by decide),show(((ag 0).length:Int)==0)=true by decide]
   dsimp only
   rw[dT (co (n:=u) (by omega)),aW]
   rfl
  ·have hne:ag v≠[]:=fun e=>by rw[gk]at e;omega
   have hl:=agF.2 hne
   have hm:=aiJ u h0
   have hms:(ag (u%v)).length≤1000000:=cW (by
    have:=bP (bR v)
    rw[aW]at this
    have:=cX hv
    omega)
   have hz:(((ag v).length:Int)==0)=false:=by simp;omega
   have hprt:AP (ag u) (ag v):=⟨⟨dJ _,hu⟩,⟨dJ _,hv⟩,hne⟩
   have hmod:(val (ag u)%val (ag v)).toNat=u%v:=by rw[aW,aW];omega
   by_cases hsm:(ag u).length≤2∧(ag v).length≤2
   ·have lu:=Fk hsm.1
    have lv:=Fk hsm.2
    obtain⟨n0,hn⟩:=GW x y 1000000000000000000 (by decide) v u (by omega) (by omega)
    refine rm _ _ _ _ ⟨n0,fun n hn'=>?_⟩
    unfold nU
    rw[dT (show((ag v).length:Int)>0 by omega),dF (show ¬((ag u).length:Int)>2 by omega),dF (show ¬((ag v).length:Int)>2 by omega),hz,dT (show pK (ag u) from⟨co (by omega),by rw[aW];omega⟩),dT (show pK (ag v) from⟨co (by omega),by rw[aW];omega⟩),aW,aW]
    exact hn n hn'
   ·obtain⟨n0,hn⟩:=ih (u%v) hm v hv hms
    refine rm _ _ _ _ ⟨n0,fun n hn'=>?_⟩
    have:=hn n hn'
    rw[show Nat.gcd v (u%v)=Nat.gcd u v by rw[ahW u v,Nat.gcd_rec v u,ahW]]at this
    unfold nU
    rw[dT (show((ag v).length:Int)>0 by omega),dT hprt,hmod]
    by_cases h2:(ag u).length≤2
    ·rw[dF (show ¬((ag u).length:Int)>2 by omega),dT (show((ag v).length:Int)>2 by omega)]
     exact this
    ·rw[dT (show((ag u).length:Int)>2 by omega)]
     exact this
def IL:Cn 165 [y2Y,y2Y]:=cn fun(x y:Bool×List Int)=>lf (okI x∧okI y) [.d y2Y (ai ((Int.gcd (ae x) (ae y):Nat):Int))] fun h=>by
 refine cJ C2 (show ru.Res _ _ _ from ?_)
 obtain⟨hx,hy⟩:=h
 obtain⟨x0,_,_⟩:=cr hx
 obtain⟨y0,_,_⟩:=cr hy
 have ex:((ae x).natAbs:Int)=val x.2:=by rw[bi];unfold bS;cases x.1<;>simp<;>omega
 have ey:((ae y).natAbs:Int)=val y.2:=by rw[bi];unfold bS;cases y.1<;>simp<;>omega
 have cx:=m4 hx.1
 have cy:=m4 hy.1
 rw[show(val x.2).toNat=(ae x).natAbs by omega]at cx
 rw[show(val y.2).toNat=(ae y).natAbs by omega]at cy
 obtain⟨n1,h1⟩:=GZ x y (ae y).natAbs (ae x).natAbs (by rw[←cx];exact hx.2.2) (by rw[←cy];exact hy.2.2)
 rw[←cx,←cy]at h1
 exact W9 _ _ ⟨n1,h1 n1 (af6 _)⟩
section
abbrev tI:Ty:=.st (.pair .bool ai1)
abbrev tR:Ty:=.st (.pair tI tI)
abbrev tV:Ty:=.st (.pair tR tR)
abbrev tO:Ty:=.st (.pair tR (.pair tR tR))
abbrev tP:Ty:=.st (.pair tR (.pair tR (.pair tR (.pair tR tR))))
abbrev tQ:Ty:=.st (.pair tR (.pair tR (.pair tR (.pair tR (.pair tR tR)))))
abbrev tG:Ty:=.st (.pair ai2 ai2)
abbrev BV:=BR×BR
abbrev BO3:=BR×BR×BR
abbrev BP:=BR×BR×BR×BR×BR
abbrev BQ:=BR×BR×BR×BR×BR×BR
abbrev hAd(a b:BR):BR:=hid (aq (ah a+ah b))
abbrev hSu(a b:BR):BR:=hid (aq (ah a-ah b))
abbrev hMu(a b:BR):BR:=hid (aq (ah a*ah b))
abbrev hDi(a b:BR):BR:=hid (aq (ah a/ah b))
abbrev hNe(a:BR):BR:=hid (aq (-ah a))
class Cod (α:Type) (A:outParam Type) where
 enc:α→A
 dec:A→α
 bd:Nat→α→Prop
 ok:Nat→A→Prop
 okD:∀k x,Decidable (ok k x)
 mono:∀j k x,j≤k→bd j x→bd k x
 dec_enc:∀x,dec (enc x)=x
 ok_enc:∀k x,k≤480000→bd k x→ok k (enc x)
 ok_dec:∀k x,ok k x→x=enc (dec x)∧bd k (dec x)
def enc{α A:Type}[Cod α A](x:α):A:=Cod.enc x
def dec{α A:Type}[Cod α A](x:A):α:=Cod.dec x
def ok(α:Type){A:Type}[Cod α A](k:Nat)(x:A):Prop:=Cod.ok (α:=α) k x
instance (α A:Type) [Cod α A] (k:Nat) (x:A):Decidable (ok α k x):=Cod.okD k x
theorem aA{α A:Type}[Cod α A](x:α):dec (enc x)=x:=Cod.dec_enc x
class Bd {α A:Type} [Cod α A] (x:α) (k:outParam Nat):Prop where le:Cod.bd k x
theorem aB{α A:Type}[Cod α A]{k:Nat}{x:A}(h:ok α k x):∃v:α,x=enc v∧Bd v k:=⟨_,(Cod.ok_dec k x h).1,⟨(Cod.ok_dec k x h).2⟩⟩
theorem okd{α A:Type}[Cod α A]{x:α}{j k:Nat}[h:Bd x j](hj:j≤k)(hk:k≤480000):decide (ok α k (enc x))=true:=
 afZ (Cod.ok_enc k x hk (Cod.mono j k x hj h.le))
instance ae9:Cod Rat BR where
 enc:=aq
 dec:=ah
 bd:=bdR
 ok k x:=okR x∧x.1.2.length≤k∧x.2.2.length≤k
 okD _ _:=instDecidableAnd
 mono _ _ _ hk h:=a9 h hk
 dec_enc:=cj
 ok_enc k _ hk h:=⟨nG h hk,h.1,h.2⟩
 ok_dec k x h:=by
  obtain⟨h1,h2,h3⟩:=h
  refine⟨MF h1,?_⟩
  obtain⟨e1,e2⟩:=cD h1
  unfold bdR szI
  rw[e1,e2]
  rw[gC h1.1]at h2
  rw[gC h1.2.1]at h3
  exact⟨h2,h3⟩
instance aeq:Cod Int Int where
 enc x:=x
 dec x:=x
 bd _ x:=aF x
 ok _ x:=aF x
 okD _ _:=inferInstance
 mono _ _ _ _ h:=h
 dec_enc _:=rfl
 ok_enc _ _ _ h:=h
 ok_dec _ _ h:=⟨rfl,h⟩
instance aea:Cod Bool Bool where
 enc x:=x
 dec x:=x
 bd _ _:=True
 ok _ _:=True
 okD _ _:=inferInstance
 mono _ _ _ _ h:=h
 dec_enc _:=rfl
 ok_enc _ _ _ h:=h
 ok_dec _ _ h:=⟨rfl,h⟩
instance aeg (α β A B:Type) [Cod α A] [Cod β B]:Cod (α×β) (A×B) where
 enc x:=(enc x.1,enc x.2)
 dec x:=(dec x.1,dec x.2)
 bd k x:=Cod.bd k x.1∧Cod.bd k x.2
 ok k x:=ok α k x.1∧ok β k x.2
 okD _ _:=instDecidableAnd
 mono _ _ _ hk h:=⟨Cod.mono _ _ _ hk h.1,Cod.mono _ _ _ hk h.2⟩
 dec_enc x:=by rw[aA,aA]
 ok_enc k _ hk h:=⟨Cod.ok_enc _ _ hk h.1,Cod.ok_enc _ _ hk h.2⟩
 ok_dec k x h:=⟨aiV (Cod.ok_dec k x.1 h.1).1 (Cod.ok_dec k x.2 h.2).1,(Cod.ok_dec k x.1 h.1).2,(Cod.ok_dec k x.2 h.2).2⟩
theorem nr{α:Type}{a b:α}(h:a=b):a=b:=h
theorem qr{α β A B:Type}[Cod α A][Cod β B](x:α×β):(enc x).1=enc x.1:=nr rfl
theorem xR{α β A B:Type}[Cod α A][Cod β B](x:α×β):(enc x).2=enc x.2:=nr rfl
theorem aD{α β A B:Type}[Cod α A][Cod β B](x:α)(y:β):enc (x,y)=(enc x,enc y):=nr rfl
theorem d7(q:Rat):enc q=aq q:=nr rfl
theorem Ew(x:BR):dec x=ah x:=nr rfl
theorem Ej(q:Int):enc q=q:=nr rfl
theorem Aa(q:Bool):enc q=q:=nr rfl
theorem FZ{q:Rat}{j:Nat}[h:Bd q j](hj:j≤480000):decide (okR (aq q))=true:=afZ (nG h.le hj)
def mx(j k:Nat):Nat:=bif decide (j≤k)then k else j
theorem z7(j k:Nat):j≤mx j k:=by
 unfold mx
 by_cases h:j≤k
 ·rw[afZ h];exact h
 ·rw[af1 h];exact af6 _
theorem zZ(j k:Nat):k≤mx j k:=by
 unfold mx
 by_cases h:j≤k
 ·rw[afZ h];exact af6 _
 ·rw[af1 h];show k≤j;omega
theorem jY{q:Rat}{j k:Nat}[h:Bd q j](hj:j≤k)(hk:k≤480000):decide (ok Rat k (aq q))=true:=okd (x:=q) hj hk
section
variable {α β A B:Type} [Cod α A] [Cod β B]
instance aeI {x:α×β} {k:Nat} [h:Bd x k]:Bd x.1 k:=⟨h.le.1⟩
instance aeo {x:α×β} {k:Nat} [h:Bd x k]:Bd x.2 k:=⟨h.le.2⟩
instance afP {x:α} {y:β} {j k:Nat} [h:Bd x j] [h':Bd y k]:Bd (x,y) (mx j k):=⟨Cod.mono _ _ _ (z7 _ _) h.le,Cod.mono _ _ _ (zZ _ _) h'.le⟩
instance aed {b:Bool} {x y:α} {j k:Nat} [h:Bd x j] [h':Bd y k]:Bd (bif b then x else y) (mx j k):=by
 refine⟨?_⟩
 cases b
 ·exact Cod.mono _ _ _ (zZ _ _) h'.le
 ·exact Cod.mono _ _ _ (z7 _ _) h.le
theorem Bd.mono{x:α}{j k:Nat}(h:Bd x j)(hk:j≤k):Bd x k:=⟨Cod.mono _ _ _ hk h.le⟩
end
section
variable {a b:Rat} {j k:Nat}
instance aeS [h:Bd a j] [h':Bd b k]:Bd (a+b) (j+k+1):=⟨yJ h.le h'.le⟩
instance ae1 [h:Bd a j] [h':Bd b k]:Bd (a-b) (j+k+1):=⟨P3 h.le h'.le⟩
instance aeN [h:Bd a j] [h':Bd b k]:Bd (a*b) (j+k):=⟨xN h.le h'.le⟩
instance aep [h:Bd a j]:Bd (-a) j:=⟨tM h.le⟩
theorem lH(h:bdR k b):1≤k:=by
 have h1:=h.2
 have h2:=DZ (b.den:Int)
 have h3:=b.den_pos
 rcases agQ k with e|e
 ·subst e
  have:szI (b.den:Int)=0:=by omega
  rw[this]at h2
  have:pw 0=1:=rfl
  omega
 ·exact e
instance afn [h:Bd a j] [h':Bd b k]:Bd (a/b) (j+k):=by
 refine⟨?_⟩
 by_cases h0:b=0
 ·subst h0
  rw[aiG,Rat.inv_zero,Rat.mul_zero]
  have:=lH h'.le
  exact a9 (j:=1) ⟨by decide+kernel,by decide+kernel⟩ (by omega)
 ·exact Qm h.le h'.le h0
end
theorem cO{n:Int}(h:aF n):Bd (n:Rat) 3:=by
 refine⟨?_⟩
 show bdR 3 (n:Rat)
 refine⟨?_,?_⟩
 ·rw[Rat.num_intCast]
  have:pw 3=1000000000000000000000000000:=by decide
  exact dX (by have:=h.1;omega) (by have:=h.2;omega)
 ·rw[Rat.den_intCast]
  exact dX (by decide) (by decide)
instance ki:Bd (0:Rat) 1:=⟨⟨by decide+kernel,by decide+kernel⟩⟩
theorem eu{x:BR}(h:okR x):∃q:Rat,x=aq q∧Bd q 480000:=⟨ah x,MF h,⟨yD h⟩⟩
def cU(a b:Rat×Rat):Rat×Rat:=(b.1-a.1,b.2-a.2)
def bT(a b:Rat×Rat):Rat:=a.1*b.1+a.2*b.2
instance ae2 {a b:Rat×Rat} {j k:Nat} [Bd a j] [Bd b k]:Bd (cU a b) (k+j+1):=
 ⟨(inferInstance:Bd (b.1-a.1) (k+j+1)).le,(inferInstance:Bd (b.2-a.2) (k+j+1)).le⟩
instance afk {a b:Rat×Rat} {j k:Nat} [Bd a j] [Bd b k]:Bd (bT a b) ((j+k)+(j+k)+1):=inferInstanceAs (Bd (a.1*b.1+a.2*b.2) _)
end
def M9:List En:=[enK yb,enK yG,enK JR,enF ME,enF IX,enK MS,enK M4,enK IL]
def NL(_k:KT):Option (List RV):=og (decide (aF (1:Int))) (some [RV.d y2Y (ai (1:Int))])
def LP:Cn 170 []:=cn<|lf True [.d y2Y (ai 1)] fun _=>by
 refine az M9 (NL) ⟨0,?_⟩
 unfold NL
 rw[dT (show aF 1 by decide)]
def NH:List En:=enK LP::M9
def Va(x y:Bool×List Int)(_k:KT):Option (List RV):=og (decide (okI y)) (match decide ((ce (ae y) 0)<0)with|true=>(og (decide (okI x)) (og (decide (okI y)) (og (decide (okI (ai (-ae x))∧okI (ai (-ae y)))) (og (decide (eS (ai (-ae x)) (ai ((Int.gcd (ae (ai (-ae x))) (ae (ai (-ae y))):Nat):Int)))) (og (decide (eS (ai (-ae y)) (ai ((Int.gcd (ae (ai (-ae x))) (ae (ai (-ae y))):Nat):Int)))) (some [RV.d (.st (.pair y2Y y2Y)) ((ai (ae (ai (-ae x))/ae (ai ((Int.gcd (ae (ai (-ae x))) (ae (ai (-ae y))):Nat):Int)))),(ai (ae (ai (-ae y))/ae (ai ((Int.gcd (ae (ai (-ae x))) (ae (ai (-ae y))):Nat):Int)))))]))))))|false=>(og (decide (okI x∧okI y)) (og (decide (eS x (ai ((Int.gcd (ae x) (ae y):Nat):Int)))) (og (decide (eS y (ai ((Int.gcd (ae x) (ae y):Nat):Int)))) (some [RV.d (.st (.pair y2Y y2Y)) ((ai (ae x/ae (ai ((Int.gcd (ae x) (ae y):Nat):Int)))),(ai (ae y/ae (ai ((Int.gcd (ae x) (ae y):Nat):Int)))))])))))
def Ry:Cn 66 [y2Y,y2Y]:=cn fun(x y:Bool×List Int)=>lf (iX x y) [.d (.st (.pair y2Y y2Y)) (eO x y)] fun h=>by
 refine az NH (Va x y) ⟨0,?_⟩
 obtain⟨hx,hy,hne⟩:=h
 have sx:=ia hx
 have sy:=ia hy
 have hgp:0<Int.gcd (ae x) (ae y):=Nat.pos_of_ne_zero fun e=>hne (Int.gcd_eq_zero_iff.1 e).2
 have hgs:=NZ (a:=ae x) hne sy
 have og:okI (ai ((Int.gcd (ae x) (ae y):Nat):Int)):=aR hgs
 have o1:okI (ai (-ae x)):=aR (by rw[io];exact sx)
 have o2:okI (ai (-ae y)):=aR (by rw[io];exact sy)
 have ig:∀z:BI,okI z→eS z (ai ((Int.gcd (ae x) (ae y):Nat):Int)):=fun z hz=>⟨hz,og,by rw[dec_enc];omega⟩
 unfold Va eO
 rw[dT hy]
 rcases ahY hne with hn|hn
 ·rw[cQ hn,dT (show(-1:Int)<0 by decide),dT hx]
  simp only[dec_enc,Int.gcd_neg,Int.neg_gcd]
  rw[dT (show okI (ai (-ae x))∧okI (ai (-ae y)) from⟨o1,o2⟩),dT (ig _ o1),dT (ig _ o2),←Rat.neg_divInt_neg,l9 (by omega),Int.gcd_neg,Int.neg_gcd]
 ·rw[cC hn,dF (show ¬(1:Int)<0 by decide)]
  simp only[dec_enc]
  rw[dT (show okI x∧okI y from⟨hx,hy⟩),dT (ig _ hx),dT (ig _ hy),l9 hn]
def mz:List En:=enK Ry::NH
def JA(a:(Bool×List Int)×Bool×List Int)(_k:KT):Option (List RV):=og (decide (okI a.1)) (some [RV.d ai2 (ce (ae a.1) 0)])
def Lp(n:Int)(_k:KT):Option (List RV):=og (decide (aF n)) (some [RV.d (.st (.pair y2Y y2Y)) ((ai n),(ai 1))])
def NK(a b:(Bool×List Int)×Bool×List Int)(_k:KT):Option (List RV):=og (decide (okI a.1∧okI b.2)) (og (decide (okI b.1∧okI a.2)) (og (decide (okI (ai (ae a.1*ae b.2))∧okI (ai (ae b.1*ae a.2)))) (some [RV.d ai2 (ce (ae (ai (ae a.1*ae b.2))) (ae (ai (ae b.1*ae a.2))))])))
def KK(a b:(Bool×List Int)×Bool×List Int)(_k:KT):Option (List RV):=og (decide (okI a.1∧okI b.2)) (og (decide (okI b.1∧okI a.2)) (og (decide (okI (ai (ae a.1*ae b.2))∧okI (ai (ae b.1*ae a.2)))) (og (decide (okI a.2∧okI b.2)) (og (decide (iX (ai (ae (ai (ae a.1*ae b.2))+ae (ai (ae b.1*ae a.2)))) (ai (ae a.2*ae b.2)))) (some [RV.d (.st (.pair y2Y y2Y)) (((eO (ai (ae (ai (ae a.1*ae b.2))+ae (ai (ae b.1*ae a.2)))) (ai (ae a.2*ae b.2))).1),((eO (ai (ae (ai (ae a.1*ae b.2))+ae (ai (ae b.1*ae a.2)))) (ai (ae a.2*ae b.2))).2))])))))
def JB(a b:(Bool×List Int)×Bool×List Int)(_k:KT):Option (List RV):=og (decide (okI a.1∧okI b.1)) (og (decide (okI a.2∧okI b.2)) (og (decide (iX (ai (ae a.1*ae b.1)) (ai (ae a.2*ae b.2)))) (some [RV.d (.st (.pair y2Y y2Y)) (((eO (ai (ae a.1*ae b.1)) (ai (ae a.2*ae b.2))).1),((eO (ai (ae a.1*ae b.1)) (ai (ae a.2*ae b.2))).2))])))
def Ie(a:(Bool×List Int)×Bool×List Int)(_k:KT):Option (List RV):=og (decide (okI a.1)) (some [RV.d (.st (.pair y2Y y2Y)) ((ai (-ae a.1)),a.2)])
def Jg(x y:Bool×List Int)(_k:KT):Option (List RV):=og (decide (okI y)) (match(ce (ae y) 0)==0 with|true=>some [RV.d (.st (.pair y2Y y2Y)) ((false,[]),(false,[])),RV.d ai2 6]|false=>(og (decide (iX x y)) (some [RV.d (.st (.pair y2Y y2Y)) (((eO x y).1),((eO x y).2)),RV.d ai2 0])))
def WR:Cn 347 [y2Y,y2Y]:=cn fun(x y:Bool×List Int)=>lf (iX x y) [.d (.st (.pair y2Y y2Y)) (eO x y),.d ai2 0] fun h=>by
 refine az mz (Jg x y) ⟨0,?_⟩
 obtain⟨hx,hy,hne⟩:=h
 have hnz:(ce (ae y) 0==0)=false:=by
  rcases ahY hne with h|h
  ·rw[cQ h];rfl
  ·rw[cC h];rfl
 unfold Jg
 rw[dT hy,hnz,dT (show iX x y from⟨hx,hy,hne⟩)]
def D9:List En:=enK WR::mz
def LO(a b:(Bool×List Int)×Bool×List Int)(_k:KT):Option (List RV):=match decide (okI a.1∧okI b.2)with|true=>(match decide (okI a.2∧okI b.1)with|true=>(match decide (iX (ai (ae a.1*ae b.2)) (ai (ae a.2*ae b.1)))with|true=>some [RV.d (.st (.pair y2Y y2Y)) (((eO (ai (ae a.1*ae b.2)) (ai (ae a.2*ae b.1))).1),((eO (ai (ae a.1*ae b.2)) (ai (ae a.2*ae b.1))).2)),RV.d ai2 0]|false=>none)|false=>none)|false=>none
def lS:Cn 46 [(.st (.pair y2Y y2Y))]:=cn fun(a:(Bool×List Int)×Bool×List Int)=>lf (okR a) [.d ai2 (aC (ah a) 0)] fun h=>by
 refine az mz (JA a) ⟨0,?_⟩
 unfold JA
 rw[dT h.1,←rR,(cD h).1]
def mE:Cn 68 [ai2]:=cn fun(n:Int)=>lf (aF n) [.d (.st (.pair y2Y y2Y)) (aq (n:Rat))] fun h=>by
 refine az mz (Lp n) ⟨0,?_⟩
 unfold Lp aq
 rw[dT h,Rat.num_intCast,Rat.den_intCast]
 rfl
def pg:Cn 75 [(.st (.pair y2Y y2Y)),(.st (.pair y2Y y2Y))]:=cn fun(a b:(Bool×List Int)×Bool×List Int)=>lf (okR a∧okR b) [.d ai2 (aC (ah a) (ah b))] fun h=>by
 refine az mz (NK a b) ⟨0,?_⟩
 obtain⟨ha,hb⟩:=h
 obtain⟨a1,a2⟩:=cD ha
 obtain⟨b1,b2⟩:=cD hb
 obtain⟨sa1,sa2⟩:=fK ha
 obtain⟨sb1,sb2⟩:=fK hb
 have h1:=cE sa1 sb2
 have h2:=cE sb1 sa2
 unfold NK
 rw[dT (show okI a.1∧okI b.2 from⟨ha.1,hb.2.1⟩),dT (show okI b.1∧okI a.2 from⟨hb.1,ha.2.1⟩),dT (show okI (ai (ae a.1*ae b.2))∧okI (ai (ae b.1*ae a.2)) from⟨aR (by omega),aR (by omega)⟩),dec_enc,dec_enc,←a1,←a2,←b1,←b2,uh]
def sH:Cn 131 [(.st (.pair y2Y y2Y))]:=cn fun(a:(Bool×List Int)×Bool×List Int)=>lf (okR a) [.d (.st (.pair y2Y y2Y)) (aq (-ah a))] fun h=>by
 refine az mz (Ie a) ⟨0,?_⟩
 obtain⟨a1,a2⟩:=cD h
 unfold Ie
 have e:aq (-ah a)=(ai (-ae a.1),a.2):=by
  unfold aq
  rw[Rat.neg_num,a1,show((-ah a).den:Int)=((ah a).den:Int) from rfl,a2,←gC h.2.1]
 rw[dT h.1,e]
def oZ:Cn 22 [(.st (.pair y2Y y2Y)),(.st (.pair y2Y y2Y))]:=cn fun(a b:(Bool×List Int)×Bool×List Int)=>lf (okR a∧okR b) [.d (.st (.pair y2Y y2Y)) (aq (ah a+ah b))] fun h=>by
 refine az mz (KK a b) ⟨0,?_⟩
 obtain⟨ha,hb⟩:=h
 obtain⟨a1,a2⟩:=cD ha
 obtain⟨b1,b2⟩:=cD hb
 obtain⟨sa1,sa2⟩:=fK ha
 obtain⟨sb1,sb2⟩:=fK hb
 have pa:=ha.2.2.1
 have pb:=hb.2.2.1
 have h1:=cE sa1 sb2
 have h2:=cE sb1 sa2
 have h3:=cE sa2 sb2
 have h4:=tJ h1 h2
 have hda:ah a=Rat.divInt (ae a.1) (ae a.2):=by rw[←a1,←a2,agX]
 have hdb:ah b=Rat.divInt (ae b.1) (ae b.2):=by rw[←b1,←b2,agX]
 unfold KK
 rw[dT (show okI a.1∧okI b.2 from⟨ha.1,hb.2.1⟩),dT (show okI b.1∧okI a.2 from⟨hb.1,ha.2.1⟩),dT (show okI (ai (ae a.1*ae b.2))∧okI (ai (ae b.1*ae a.2)) from⟨aR (by omega),aR (by omega)⟩),dT (show okI a.2∧okI b.2 from⟨ha.2.1,hb.2.1⟩)]
 simp only[dec_enc]
 rw[dT (show iX (ai (ae a.1*ae b.2+ae b.1*ae a.2)) (ai (ae a.2*ae b.2)) from⟨aR (by omega),aR (by omega),by rw[dec_enc];exact aiw (by omega) (by omega)⟩)]
 have e:eO (ai (ae a.1*ae b.2+ae b.1*ae a.2)) (ai (ae a.2*ae b.2))=aq (ah a+ah b):=by
  unfold eO
  rw[dec_enc,dec_enc,hda,hdb,Rat.divInt_add_divInt _ _ (by omega) (by omega)]
 rw[e]
def pi:Cn 161 [(.st (.pair y2Y y2Y)),(.st (.pair y2Y y2Y))]:=cn fun(a b:(Bool×List Int)×Bool×List Int)=>lf (okR a∧okR b) [.d (.st (.pair y2Y y2Y)) (aq (ah a*ah b))] fun h=>by
 refine az mz (JB a b) ⟨0,?_⟩
 obtain⟨ha,hb⟩:=h
 obtain⟨a1,a2⟩:=cD ha
 obtain⟨b1,b2⟩:=cD hb
 obtain⟨sa1,sa2⟩:=fK ha
 obtain⟨sb1,sb2⟩:=fK hb
 have pa:=ha.2.2.1
 have pb:=hb.2.2.1
 have h1:=cE sa1 sb1
 have h3:=cE sa2 sb2
 have hda:ah a=Rat.divInt (ae a.1) (ae a.2):=by rw[←a1,←a2,agX]
 have hdb:ah b=Rat.divInt (ae b.1) (ae b.2):=by rw[←b1,←b2,agX]
 unfold JB
 rw[dT (show okI a.1∧okI b.1 from⟨ha.1,hb.1⟩),dT (show okI a.2∧okI b.2 from⟨ha.2.1,hb.2.1⟩),dT (show iX (ai (ae a.1*ae b.1)) (ai (ae a.2*ae b.2)) from⟨aR (by omega),aR (by omega),by rw[dec_enc];exact aiw (by omega) (by omega)⟩)]
 have e:eO (ai (ae a.1*ae b.1)) (ai (ae a.2*ae b.2))=aq (ah a*ah b):=by
  unfold eO
  rw[dec_enc,dec_enc,hda,hdb,aix]
 rw[e]
def C4:Cn 317 [(.st (.pair y2Y y2Y)),(.st (.pair y2Y y2Y))]:=cn fun(a b:(Bool×List Int)×Bool×List Int)=>lf (gA a b) [.d (.st (.pair y2Y y2Y)) (aq (ah a/ah b)),.d ai2 0] fun h=>by
 refine az D9 (LO a b) ⟨0,?_⟩
 obtain⟨ha,hb,hne⟩:=h
 obtain⟨a1,a2⟩:=cD ha
 obtain⟨b1,b2⟩:=cD hb
 obtain⟨sa1,sa2⟩:=fK ha
 obtain⟨sb1,sb2⟩:=fK hb
 have pa:=ha.2.2.1
 have h1:=cE sa1 sb2
 have h3:=cE sa2 sb1
 have hda:ah a=Rat.divInt (ae a.1) (ae a.2):=by rw[←a1,←a2,agX]
 have hdb:ah b=Rat.divInt (ae b.1) (ae b.2):=by rw[←b1,←b2,agX]
 have hmz:ae a.2*ae b.1≠0:=aiw (by omega) hne
 unfold LO
 rw[dT (show okI a.1∧okI b.2 from⟨ha.1,hb.2.1⟩),dT (show okI a.2∧okI b.1 from⟨ha.2.1,hb.1⟩)]
 simp only
 rw[dT (show iX (ai (ae a.1*ae b.2)) (ai (ae a.2*ae b.1)) from⟨aR (by omega),aR (by omega),by rw[dec_enc];exact hmz⟩)]
 have e:eO (ai (ae a.1*ae b.2)) (ai (ae a.2*ae b.1))=aq (ah a/ah b):=by
  unfold eO
  rw[dec_enc,dec_enc,hda,hdb,aiG,Rat.inv_divInt,aix]
 rw[e]
def Kx:List En:=enK oZ::enK sH::enK C4::D9
def In(a b:(Bool×List Int)×Bool×List Int)(_k:KT):Option (List RV):=match decide (okR b)with|true=>(match decide (okR a∧okR (aq (-ah b)))with|true=>some [RV.d (.st (.pair y2Y y2Y)) (((aq (ah a+ah (aq (-ah b)))).1),((aq (ah a+ah (aq (-ah b)))).2))]|false=>none)|false=>none
def IY(a b:(Bool×List Int)×Bool×List Int)(_k:KT):Option (List RV):=og (decide (gA a b)) (some [RV.d (.st (.pair y2Y y2Y)) (((aq (ah a/ah b)).1),((aq (ah a/ah b)).2))])
def rC:Cn 157 [(.st (.pair y2Y y2Y)),(.st (.pair y2Y y2Y))]:=cn fun(a b:(Bool×List Int)×Bool×List Int)=>lf (okR a∧okR b) [.d (.st (.pair y2Y y2Y)) (aq (ah a-ah b))] fun h=>by
 refine az Kx (In a b) ⟨0,?_⟩
 obtain⟨ha,hb⟩:=h
 unfold In
 rw[dT hb,cj,Rat.sub_eq_add_neg,dT (show okR a∧okR (aq (-ah b)) from⟨ha,nG (tM (yD hb)) (af6 _)⟩)]
def Yv:Cn 314 [(.st (.pair y2Y y2Y)),(.st (.pair y2Y y2Y))]:=cn fun(a b:(Bool×List Int)×Bool×List Int)=>lf (gA a b) [.d (.st (.pair y2Y y2Y)) (aq (ah a/ah b))] fun h=>by
 refine az Kx (IY a b) ⟨0,?_⟩
 unfold IY
 rw[dT h]
theorem iq{a b:Rat}{j k:Nat}[ha:Bd a j][hb:Bd b k](hj:j≤480000)(hk:k≤480000)(h:b≠0):decide (gA (aq a) (aq b))=true:=
 afZ ⟨nG ha.le hj,nG hb.le hk,by show ae (ai b.num)≠0;rw[dec_enc];exact fun e=>h (Rat.num_eq_zero.1 e)⟩
theorem aO:type_of% @dq∧type_of% @cN∧type_of% @eH∧type_of% @aX∧type_of% @aA∧type_of% @qr∧type_of% @xR∧type_of% @d7∧type_of% @Ej∧type_of% @Aa∧type_of% @Ew∧type_of% @cj∧type_of% @acx∧type_of% @acg∧type_of% @ZU∧type_of% @okd∧type_of% @jY∧type_of% @FZ∧type_of% @iq∧type_of% @ahP∧type_of% @Bool.and_true∧type_of% @ahq∧type_of% @ahr∧type_of% @mx.eq_1∧type_of% @decide_true∧type_of% @decide_false∧(∀{α:Type} (a b:α),cond true a b=a)∧∀{α:Type} (a b:α),cond false a b=b:=
 ⟨@dq,@cN,@eH,@aX,@aA,@qr,@xR,@d7,@Ej,@Aa,@Ew,@cj,@acx,@acg,@ZU,@okd,@jY,@FZ,@iq,@ahP,@Bool.and_true,@ahq,@ahr,@mx.eq_1,@decide_true,@decide_false,@agd,@cond_false⟩
theorem av(a b:Rat):decide (aC a b>0)=decide (b<a):=by
 rcases(by grind:a<b∨a=b∨b<a)with h|h|h
 ·rw[dg h,af1 (show ¬b<a by grind)];rfl
 ·rw[h,de,af1 (show ¬b<b by grind)];rfl
 ·rw[cV h,afZ h];rfl
theorem au(a b:Rat):decide (aC a b<0)=decide (a<b):=by
 rcases(by grind:a<b∨a=b∨b<a)with h|h|h
 ·rw[dg h,afZ h];rfl
 ·rw[h,de,af1 (show ¬b<b by grind)];rfl
 ·rw[cV h,af1 (show ¬a<b by grind)];rfl
theorem aaT(a b:Rat):decide (aC a b≥0)=decide (b≤a):=by
 rcases(by grind:a<b∨a=b∨b<a)with h|h|h
 ·rw[dg h,af1 (show ¬b≤a by grind)];rfl
 ·rw[h,de,afZ (show b≤b by grind)];rfl
 ·rw[cV h,afZ (show b≤a by grind)];rfl
theorem MK(a b:Rat):decide (aC a b≤0)=decide (a≤b):=by
 rcases(by grind:a<b∨a=b∨b<a)with h|h|h
 ·rw[dg h,afZ (show a≤b by grind)];rfl
 ·rw[h,de,afZ (show b≤b by grind)];rfl
 ·rw[cV h,af1 (show ¬a≤b by grind)];rfl
theorem am(a b:Rat):(aC a b==0)=decide (a=b):=by
 rcases(by grind:a<b∨a=b∨b<a)with h|h|h
 ·rw[dg h,af1 (show ¬a=b by grind)];rfl
 ·rw[h,de,afZ rfl];rfl
 ·rw[cV h,af1 (show ¬a=b by grind)];rfl
theorem jc(a b:Rat): -1≤aC a b∧aC a b≤1:=by
 rcases(by grind:a<b∨a=b∨b<a)with h|h|h
 ·rw[dg h];decide
 ·rw[h,de];decide
 ·rw[cV h];decide
theorem n8{a b c d:Rat}:i64.wrap (aC a b*aC c d)=aC a b*aC c d:=by
 rcases(by grind:a<b∨a=b∨b<a)with h|h|h<;>rcases(by grind:c<d∨c=d∨d<c)with h'|h'|h'
 all_goals first|rw[dg h]|(subst h;rw[de])|rw[cV h]
 all_goals first|rw[dg h']|(subst h';rw[de])|rw[cV h']
 all_goals decide
def gS:dH:=spN false true [tR,tR] (fun x=>decide (okR x.1∧okR x.2.1)) (fun x=>[RV.d tR (hAd x.1 x.2.1)])
theorem eU:SpK 107 gS:=spX fun x h=>by simp only[aX];exact Ff x.1 x.2.1 (af2 h)
def gi:dH:=spN false true [tR,tR] (fun x=>decide (okR x.1∧okR x.2.1)) (fun x=>[RV.d tR (hSu x.1 x.2.1)])
theorem dY:SpK 106 gi:=spX fun x h=>by simp only[aX];exact PX x.1 x.2.1 (af2 h)
def fO:dH:=spN false true [tR,tR] (fun x=>decide (okR x.1∧okR x.2.1)) (fun x=>[RV.d tR (hMu x.1 x.2.1)])
theorem dP:SpK 108 fO:=spX fun x h=>by simp only[aX];exact PY x.1 x.2.1 (af2 h)
def uk:dH:=spN false true [tR,tR] (fun x=>decide (gA x.1 x.2.1)) (fun x=>[RV.d tR (hDi x.1 x.2.1),RV.d ai2 0])
theorem pP:SpK 305 uk:=spX fun x h=>by simp only[aX];exact PK x.1 x.2.1 (af2 h)
def eW:dH:=spN true true [tR] (fun x=>decide (okR x.1)) (fun x=>[RV.d ai2 (aC (ah x.1) 0)])
theorem dk:SpK 41 eW:=spX fun x h=>ER x.1 (af2 h)
def iY:dH:=spN true true [tR,tR] (fun x=>decide (okR x.1∧okR x.2.1)) (fun x=>[RV.d ai2 (aC (ah x.1) (ah x.2.1))])
theorem fx:SpK 73 iY:=spX fun x h=>Qs x.1 x.2.1 (af2 h)
def fM:dH:=spN false true [ai2] (fun x=>decide (aF x.1)) (fun x=>[RV.d tR (hid (aq (x.1:Rat)))])
theorem dS:SpK 99 fM:=spX fun x h=>by simp only[aX];exact QL x.1 (af2 h)
def zY:List En:=[⟨107,gS,eU⟩,⟨106,gi,dY⟩,⟨108,fO,dP⟩,⟨305,uk,pP⟩,⟨41,eW,dk⟩,⟨73,iY,fx⟩,⟨99,fM,dS⟩]
def HQ:Cn 96 [tR,tR]:=cn fun(a b:BR)=>lf (okR a∧okR b) [.d tR (aq (ah a+ah b))] fun h=>iW [RV.d tR (hAd a b)] (c7 zY) h
def EZ:Cn 95 [tR,tR]:=cn fun(a b:BR)=>lf (okR a∧okR b) [.d tR (aq (ah a-ah b))] fun h=>iW [RV.d tR (hSu a b)] (c7 zY) h
def JL:Cn 97 [tR,tR]:=cn fun(a b:BR)=>lf (okR a∧okR b) [.d tR (aq (ah a*ah b))] fun h=>iW [RV.d tR (hMu a b)] (c7 zY) h
def Rm(a b:BR)(_k:KT):Option (List RV):=og (decide (gA a b)) (match 0 !=0 with|true=>(og (decide (aF (0:Int))) (some [RV.d tR (hid (aq ((0:Int):Rat)))]))|false=>some [RV.d tR (hDi a b)])
def MJ:Cn 218 [tR,tR]:=cn fun(a b:BR)=>lf (gA a b) [.d tR (aq (ah a/ah b))] fun h=>by
 refine az zY (Rm a b) ⟨0,?_⟩
 unfold Rm
 rw[dT h]
 simp only[aX]
 rfl
def U2:List En:=enL HQ::enL EZ::enL JL::enL MJ::zY
def R6(a b:BV)(_k:KT):Option (List RV):=og (o2 b.1 a.1) (og (o2 b.2 a.2) (some [RV.d tV (hSu b.1 a.1,hSu b.2 a.2)]))
def afE:Cn 311 [tV,tV]:=cn fun(a b:BV)=>lf (ok (Rat×Rat) 1000 a∧ok (Rat×Rat) 1000 b) [.d tV (enc (cU (dec a) (dec b)))] fun h=>by
 refine az U2 (R6 a b) ⟨0,?_⟩
 obtain⟨ha,hb⟩:=h
 obtain⟨a,rfl,ba⟩:=aB ha
 obtain⟨b,rfl,bb⟩:=aB hb
 unfold R6
 simp only[aO,Nat.reduceLeDiff]
 try rfl
def Ta(a b:BV)(_k:KT):Option (List RV):=og (o2 a.1 b.1) (og (o2 a.2 b.2) (og (o2 (hMu a.1 b.1) (hMu a.2 b.2)) (some [RV.d tR (hAd (hMu a.1 b.1) (hMu a.2 b.2))])))
def acA:Cn 219 [tV,tV]:=cn fun(a b:BV)=>lf (ok (Rat×Rat) 5000 a∧ok (Rat×Rat) 5000 b) [.d tR (aq (bT (dec a) (dec b)))] fun h=>by
 refine az U2 (Ta a b) ⟨0,?_⟩
 obtain⟨ha,hb⟩:=h
 obtain⟨a,rfl,ba⟩:=aB ha
 obtain⟨b,rfl,bb⟩:=aB hb
 unfold Ta
 simp only[aO,Nat.reduceAdd,Nat.reduceLeDiff]
 try rfl
def ET:List En:=[enL oZ,enL rC,enL pi,enL Yv,enT lS,enT pg,enL mE]
def abC:Cn 122 [tR,tR]:=cn fun(a b:BR)=>lf (okR a∧okR b) [.d tR (aq (ah a+ah b))] fun h=>iW [RV.d tR (hAd a b)] (c7 ET) h
def abB:Cn 233 [tR,tR]:=cn fun(a b:BR)=>lf (okR a∧okR b) [.d tR (aq (ah a-ah b))] fun h=>iW [RV.d tR (hSu a b)] (c7 ET) h
def acp:Cn 64 [tR,tR]:=cn fun(a b:BR)=>lf (okR a∧okR b) [.d tR (aq (ah a*ah b))] fun h=>iW [RV.d tR (hMu a b)] (c7 ET) h
def Y6:List En:=enL abC::enL abB::enL acp::ET
def U1(a b:BV)(_k:KT):Option (List RV):=og (o2 b.1 a.1) (og (o2 b.2 a.2) (some [RV.d tV (hSu b.1 a.1,hSu b.2 a.2)]))
def afF:Cn 132 [tV,tV]:=cn fun(a b:BV)=>lf (ok (Rat×Rat) 1000 a∧ok (Rat×Rat) 1000 b) [.d tV (enc (cU (dec a) (dec b)))] fun h=>by
 refine az Y6 (U1 a b) ⟨0,?_⟩
 obtain⟨ha,hb⟩:=h
 obtain⟨a,rfl,ba⟩:=aB ha
 obtain⟨b,rfl,bb⟩:=aB hb
 unfold U1
 simp only[aO,Nat.reduceLeDiff]
 try rfl
abbrev Rt:=Rat×Rat×Rat
def fS(a b m:Rat):Int:=RE.addS (aC a 0) (aC b 0*aC m 0) (aC (a*a) (b*b*m))
def zb(A B C D M N:Rat):Int:=bif decide (M<0)||decide (N<0)then 0
 else RE.addS (fS A B M) (fS C D M*aC N 0) (fS (A*A+B*B*M-N*(C*C+D*D*M)) (2*(A*B-N*(C*D))) M)
def bI(x y:Rt):Int:=zb (x.1-y.1) x.2.1 (-y.2.1) 0 x.2.2 y.2.2
theorem qf(a b:Rat):aC (a-b) 0=aC a b:=by
 rcases(by grind:a<b∨a=b∨b<a)with h|h|h
 ·rw[dg h,dg (by grind)]
 ·rw[h,de,show b-b=0 by grind,de]
 ·rw[cV h,cV (by grind)]
namespace RE
def rq(m:Rat):RE:=uF (of m)
theorem pQ(m:Rat):0≤rq m:=mX _
theorem fX{m:Rat}(h:0≤m):rq m*rq m=of m:=yR (iZ.2 h)
theorem Qf{x:RE}(h:0≤x):sg (uF x)=sg x:=by
 have h1:=mX x
 have h2:=yR h
 rcases ld h1 with h'|h'
 ·rw[dE h',←h2,dE (mul_pos h' h')]
 ·rw[h',mul_zero]at h2
  rw[h',h2]
theorem Mu{m:Rat}(h:0≤m):sg (rq m)=aC m 0:=by
 unfold rq
 rw[Qf (iZ.2 h),sg_of]
def v2(a b m:Rat):RE:=of a+of b*rq m
def vR(x:Rt):RE:=v2 x.1 x.2.1 x.2.2
theorem sq2(a b s:RE):a*a-b*s*(b*s)=a*a-b*b*(s*s):=by grind
theorem sq4(A B C D s t:RE):(A+B*s)*(A+B*s)-(C+D*s)*t*((C+D*s)*t)=A*A+B*B*(s*s)-t*t*(C*C+D*D*(s*s))+2*(A*B-t*t*(C*D))*s:=by grind
theorem ac1(A B C D s t:RE):A+B*s+(C+D*s)*t=A+B*s+C*t+D*(s*t):=by grind
theorem Vw(a b c d s t:RE):a-c+b*s+(-d)*t+0*(s*t)=a+b*s-(c+d*t):=by grind
theorem sgn2_re{a b m:Rat}(h:0≤m):fS a b m=sg (v2 a b m):=by
 unfold v2
 rw[Da,sq2,fX h,dN,sg_of,sg_of,Mu h,←aS,←aS,←aS,←of_sub,sg_of,qf]
 rfl
theorem YD:of 2=2:=rfl
def vQ(A B C D M N:Rat):RE:=of A+of B*rq M+of C*rq N+of D*(rq M*rq N)
theorem sgnQ_re{A B C D M N:Rat}(hM:0≤M)(hN:0≤N):zb A B C D M N=sg (vQ A B C D M N):=by
 unfold zb vQ
 rw[af1 (by grind),af1 (by grind),←ac1,Da,sq4,fX hM,fX hN,dN,Mu hN,sgn2_re hM,sgn2_re hM,sgn2_re hM]
 unfold v2
 simp only[of_sub,of_add,aS,YD]
 rfl
theorem cmpT_re{x y:Rt}(hx:0≤x.2.2)(hy:0≤y.2.2):bI x y=sg (vR x-vR y):=by
 unfold bI vR v2
 rw[sgnQ_re hx hy,←Vw,←of_sub,←of_neg]
 rfl
end RE
theorem xO{s t:Int}(hs: -1≤s∧s≤1)(ht: -1≤t∧t≤1): -1≤s*t∧s*t≤1:=by
 have h1:s= -1∨s=0∨s=1:=by omega
 have h2:t= -1∨t=0∨t=1:=by omega
 rcases h1 with rfl|rfl|rfl<;>rcases h2 with rfl|rfl|rfl<;>decide
theorem Fa{s t d:Int}(hs: -1≤s∧s≤1)(ht: -1≤t∧t≤1)(hd: -1≤d∧d≤1): -1≤RE.addS s t d∧RE.addS s t d≤1:=by
 unfold RE.addS
 cases(t==0||s==t)
 ·cases s==0
  ·exact xO hs hd
  ·exact ht
 ·exact hs
theorem kf(a b m:Rat): -1≤fS a b m∧fS a b m≤1:=Fa (jc _ _) (xO (jc _ _) (jc _ _)) (jc _ _)
theorem Fg(A B C D M N:Rat): -1≤zb A B C D M N∧zb A B C D M N≤1:=by
 unfold zb
 cases(decide (M<0)||decide (N<0))
 ·exact Fa (kf _ _ _) (xO (kf _ _ _) (jc _ _)) (kf _ _ _)
 ·exact⟨by show(-1:Int)≤0;decide,by show(0:Int)≤1;decide⟩
theorem tX(x y:Rt): -1≤bI x y∧bI x y≤1:=Fg _ _ _ _ _ _
end Go.Proofs.YtnkndpoojnflmaaGreat
end
