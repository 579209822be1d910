/- The reference's integers: parts. -/
import Derived.Test.YtagbmoohboleaaaGreatJ9
import Derived.Test.YtagbmoohboleaaaGreatJ8
noncomputable section
namespace Go.Proofs.YtagbmoohboleaaaGreat
open Go.RowKit Go.IntKind
theorem anx:type_of% @Prod.ext:=@Prod.ext
section
def Fw(a b:List Int):Prop:=(can a/\a.length<=1000000)/\(can b/\b.length<=1000000)/\b≠[]
instance (a b:List Int):Decidable (Fw a b):=by unfold Fw;infer_instance
def Oh:List En:=[enK zP,enK CD,enF By,enF zA,enK abe,enK Hp]
def UL:NT:=[((242,30),{keep:=[8,9,10,11,12,13,14],pure_:=[(11,.int .u32)],hl:=1}),((242,67),{keep:=[8,9,10,11,12,13,14,16,17],pure_:=[(17,.int .u32)],hl:=1}),((242,90),{keep:=[8,11,12,18,19,20],hl:=2})]
def kw:Ctx:=CX (ens Oh) UL
def lV(a b:List Int)(x1 x2:Int)(s11:List Int)(s14:Int)(r0:List Int):Cfg:=⟨242,[.blk 0,.seq 82],[(8,.d aqi (u32.wrap (u64.wrap (Int.tdiv 1000000000 (u64.wrap ((u64.wrap x1)+1)))))),(9,.d aqg (ag (val b*(u32.wrap (u64.wrap (Int.tdiv 1000000000 (u64.wrap ((u64.wrap x1)+1)))))).toNat)),(10,.d (.int .u64) (u64.wrap x2)),(11,.d aqg s11),(12,.osl 0 1 ((0:Int).toNat) ((((ag (val a*(u32.wrap (u64.wrap (Int.tdiv 1000000000 (u64.wrap ((u64.wrap x1)+1)))))).toNat).length:Int):Int).toNat-(0:Int).toNat)),(13,.d aqg (ag (val a*(u32.wrap (u64.wrap (Int.tdiv 1000000000 (u64.wrap ((u64.wrap x1)+1)))))).toNat)),(14,SI s14)],[.row 200 aqi r0],0,[]⟩
def fC(a b:List Int)(x1 x2:Int)(s11:List Int)(s14:Int)(r0:List Int)(x3 s16:Int)(s17:List Int):Cfg:=⟨242,[.blk 2,.seq 78,.blk 1,.seq 81,.lp 30,.blk 0,.seq 82],[(8,.d aqi (u32.wrap (u64.wrap (Int.tdiv 1000000000 (u64.wrap ((u64.wrap x1)+1)))))),(9,.d aqg (ag (val b*(u32.wrap (u64.wrap (Int.tdiv 1000000000 (u64.wrap ((u64.wrap x1)+1)))))).toNat)),(10,.d (.int .u64) (u64.wrap x2)),(11,.d aqg (ag (val (([x3])++s11)).toNat)),(12,.osl 0 1 ((0:Int).toNat) ((((ag (val a*(u32.wrap (u64.wrap (Int.tdiv 1000000000 (u64.wrap ((u64.wrap x1)+1)))))).toNat).length:Int):Int).toNat-(0:Int).toNat)),(13,.d aqg (ag (val a*(u32.wrap (u64.wrap (Int.tdiv 1000000000 (u64.wrap ((u64.wrap x1)+1)))))).toNat)),(14,SI s14),(16,.d (.int .u64) s16),(17,.d aqg s17)],[.row 200 aqi r0],0,[]⟩
def u5(a:List Int)(x1:Int)(s11 r0:List Int)(s18 s20:Int)(r1:List Int):Cfg:=⟨242,[.blk 4,.seq 105],[(8,.d aqi (u32.wrap (u64.wrap (Int.tdiv 1000000000 (u64.wrap ((u64.wrap x1)+1)))))),(11,.d aqg s11),(12,.osl 0 1 ((0:Int).toNat) ((((ag (val a*(u32.wrap (u64.wrap (Int.tdiv 1000000000 (u64.wrap ((u64.wrap x1)+1)))))).toNat).length:Int):Int).toNat-(0:Int).toNat)),(18,.d (.int .u64) s18),(19,.own 1),(20,SI s20)],[.row 200 aqi r0,.row 200 aqi r1],0,[]⟩
def GA(a b:List Int)(k:KT):OLR:=match decide ((a.length:Int)<=2)with|true=>(match decide ((b.length:Int)<=2)with|true=>(og (decide (uq a)) (og (decide (uq b)) (match decide (val b=(0:Int))with|true=>none|false=>(match decide (val b=(0:Int))with|true=>none|false=>(og (decide (jm (u64.wrap (Int.tdiv (val a) (val b))))) (og (decide (jm (Int.tmod (val a) (val b)))) (some [RV.d aqg (ag (u64.wrap (Int.tdiv (val a) (val b))).toNat),RV.d aqg (ag (Int.tmod (val a) (val b)).toNat)])))))))|false=>(match aT b (i64.wrap ((b.length:Int)-1))with|some x1=>(match decide (u64.wrap ((u64.wrap x1)+1)=(0:Int))with|true=>none|false=>(og (decide (byP b (u32.wrap (u64.wrap (Int.tdiv 1000000000 (u64.wrap ((u64.wrap x1)+1))))))) (match aT (ag (val b*(u32.wrap (u64.wrap (Int.tdiv 1000000000 (u64.wrap ((u64.wrap x1)+1)))))).toNat) (i64.wrap (((ag (val b*(u32.wrap (u64.wrap (Int.tdiv 1000000000 (u64.wrap ((u64.wrap x1)+1)))))).toNat).length:Int)-1))with|some x2=>(og (decide ((0:Int)<=i64.wrap ((a.length:Int)+1)/\(i64.wrap ((a.length:Int)+1))*((4:Nat):Int)<=140737488355328/\i64.wrap ((a.length:Int)+1)<=140737488355328)) (og (decide (byP a (u32.wrap (u64.wrap (Int.tdiv 1000000000 (u64.wrap ((u64.wrap x1)+1))))))) (og (decide ((0:Int)<=0/\0<=((ag (val a*(u32.wrap (u64.wrap (Int.tdiv 1000000000 (u64.wrap ((u64.wrap x1)+1)))))).toNat).length:Int)/\((ag (val a*(u32.wrap (u64.wrap (Int.tdiv 1000000000 (u64.wrap ((u64.wrap x1)+1)))))).toNat).length:Int)<=((List.replicate (i64.wrap ((a.length:Int)+1)).toNat (0:Int)).length:Int))) (k 30 (lV a b x1 x2 ([]) (i64.wrap (((ag (val a*(u32.wrap (u64.wrap (Int.tdiv 1000000000 (u64.wrap ((u64.wrap x1)+1)))))).toNat).length:Int)-1)) (List.replicate (i64.wrap ((a.length:Int)+1)).toNat (0:Int)))))))|none=>none)))|none=>none))|false=>(match aT b (i64.wrap ((b.length:Int)-1))with|some x1=>(match decide (u64.wrap ((u64.wrap x1)+1)=(0:Int))with|true=>none|false=>(og (decide (byP b (u32.wrap (u64.wrap (Int.tdiv 1000000000 (u64.wrap ((u64.wrap x1)+1))))))) (match aT (ag (val b*(u32.wrap (u64.wrap (Int.tdiv 1000000000 (u64.wrap ((u64.wrap x1)+1)))))).toNat) (i64.wrap (((ag (val b*(u32.wrap (u64.wrap (Int.tdiv 1000000000 (u64.wrap ((u64.wrap x1)+1)))))).toNat).length:Int)-1))with|some x2=>(og (decide ((0:Int)<=i64.wrap ((a.length:Int)+1)/\(i64.wrap ((a.length:Int)+1))*((4:Nat):Int)<=140737488355328/\i64.wrap ((a.length:Int)+1)<=140737488355328)) (og (decide (byP a (u32.wrap (u64.wrap (Int.tdiv 1000000000 (u64.wrap ((u64.wrap x1)+1))))))) (og (decide ((0:Int)<=0/\0<=((ag (val a*(u32.wrap (u64.wrap (Int.tdiv 1000000000 (u64.wrap ((u64.wrap x1)+1)))))).toNat).length:Int)/\((ag (val a*(u32.wrap (u64.wrap (Int.tdiv 1000000000 (u64.wrap ((u64.wrap x1)+1)))))).toNat).length:Int)<=((List.replicate (i64.wrap ((a.length:Int)+1)).toNat (0:Int)).length:Int))) (k 30 (lV a b x1 x2 ([]) (i64.wrap (((ag (val a*(u32.wrap (u64.wrap (Int.tdiv 1000000000 (u64.wrap ((u64.wrap x1)+1)))))).toNat).length:Int)-1)) (List.replicate (i64.wrap ((a.length:Int)+1)).toNat (0:Int)))))))|none=>none)))|none=>none)
theorem SG(a b:List Int):RS kw 242 [.d aqg a,.d aqg b] (GA a b):=rsX
def lJ(a b:List Int)(x1 x2:Int)(s11:List Int)(s14:Int)(r0:List Int)(k:KT):OLR:=match decide (s14>=0)with|true=>(match aT (ag (val a*(u32.wrap (u64.wrap (Int.tdiv 1000000000 (u64.wrap ((u64.wrap x1)+1)))))).toNat) s14 with|some x3=>(og (decide ((([x3]).length+s11.length)*4<=140737488355328/\([x3]).length+s11.length<=140737488355328)) (og (decide (aS (([x3])++s11))) (match decide (((ag (val (([x3])++s11)).toNat).length:Int)>((ag (val b*(u32.wrap (u64.wrap (Int.tdiv 1000000000 (u64.wrap ((u64.wrap x1)+1)))))).toNat).length:Int))with|true=>(match aT (ag (val (([x3])++s11)).toNat) ((ag (val b*(u32.wrap (u64.wrap (Int.tdiv 1000000000 (u64.wrap ((u64.wrap x1)+1)))))).toNat).length:Int)with|some x4=>(match decide (((ag (val (([x3])++s11)).toNat).length:Int)>=((ag (val b*(u32.wrap (u64.wrap (Int.tdiv 1000000000 (u64.wrap ((u64.wrap x1)+1)))))).toNat).length:Int))with|true=>(match aT (ag (val (([x3])++s11)).toNat) (i64.wrap (((ag (val b*(u32.wrap (u64.wrap (Int.tdiv 1000000000 (u64.wrap ((u64.wrap x1)+1)))))).toNat).length:Int)-1))with|some x5=>(match decide (u64.wrap x2=(0:Int))with|true=>none|false=>(match decide ((u64.wrap (Int.tdiv (u64.wrap ((u64.wrap ((u64.wrap x4)*1000000000))+(u64.wrap x5))) (u64.wrap x2)))>999999999)with|true=>(og (decide (byP (ag (val b*(u32.wrap (u64.wrap (Int.tdiv 1000000000 (u64.wrap ((u64.wrap x1)+1)))))).toNat) (u32.wrap 999999999))) (k 67 (fC a b x1 x2 s11 s14 r0 x3 999999999 (ag (val (ag (val b*(u32.wrap (u64.wrap (Int.tdiv 1000000000 (u64.wrap ((u64.wrap x1)+1)))))).toNat)*(u32.wrap 999999999)).toNat))))|false=>(og (decide (byP (ag (val b*(u32.wrap (u64.wrap (Int.tdiv 1000000000 (u64.wrap ((u64.wrap x1)+1)))))).toNat) (u32.wrap (u64.wrap (Int.tdiv (u64.wrap ((u64.wrap ((u64.wrap x4)*1000000000))+(u64.wrap x5))) (u64.wrap x2)))))) (k 67 (fC a b x1 x2 s11 s14 r0 x3 (u64.wrap (Int.tdiv (u64.wrap ((u64.wrap ((u64.wrap x4)*1000000000))+(u64.wrap x5))) (u64.wrap x2))) (ag (val (ag (val b*(u32.wrap (u64.wrap (Int.tdiv 1000000000 (u64.wrap ((u64.wrap x1)+1)))))).toNat)*(u32.wrap (u64.wrap (Int.tdiv (u64.wrap ((u64.wrap ((u64.wrap x4)*1000000000))+(u64.wrap x5))) (u64.wrap x2))))).toNat))))))|none=>none)|false=>(match decide (u64.wrap x2=(0:Int))with|true=>none|false=>(match decide ((u64.wrap (Int.tdiv (u64.wrap ((u64.wrap x4)*1000000000)) (u64.wrap x2)))>999999999)with|true=>(og (decide (byP (ag (val b*(u32.wrap (u64.wrap (Int.tdiv 1000000000 (u64.wrap ((u64.wrap x1)+1)))))).toNat) (u32.wrap 999999999))) (k 67 (fC a b x1 x2 s11 s14 r0 x3 999999999 (ag (val (ag (val b*(u32.wrap (u64.wrap (Int.tdiv 1000000000 (u64.wrap ((u64.wrap x1)+1)))))).toNat)*(u32.wrap 999999999)).toNat))))|false=>(og (decide (byP (ag (val b*(u32.wrap (u64.wrap (Int.tdiv 1000000000 (u64.wrap ((u64.wrap x1)+1)))))).toNat) (u32.wrap (u64.wrap (Int.tdiv (u64.wrap ((u64.wrap x4)*1000000000)) (u64.wrap x2)))))) (k 67 (fC a b x1 x2 s11 s14 r0 x3 (u64.wrap (Int.tdiv (u64.wrap ((u64.wrap x4)*1000000000)) (u64.wrap x2))) (ag (val (ag (val b*(u32.wrap (u64.wrap (Int.tdiv 1000000000 (u64.wrap ((u64.wrap x1)+1)))))).toNat)*(u32.wrap (u64.wrap (Int.tdiv (u64.wrap ((u64.wrap x4)*1000000000)) (u64.wrap x2))))).toNat)))))))|none=>none)|false=>(match decide (((ag (val (([x3])++s11)).toNat).length:Int)>=((ag (val b*(u32.wrap (u64.wrap (Int.tdiv 1000000000 (u64.wrap ((u64.wrap x1)+1)))))).toNat).length:Int))with|true=>(match aT (ag (val (([x3])++s11)).toNat) (i64.wrap (((ag (val b*(u32.wrap (u64.wrap (Int.tdiv 1000000000 (u64.wrap ((u64.wrap x1)+1)))))).toNat).length:Int)-1))with|some x4=>(match decide (u64.wrap x2=(0:Int))with|true=>none|false=>(match decide ((u64.wrap (Int.tdiv (u64.wrap (0+(u64.wrap x4))) (u64.wrap x2)))>999999999)with|true=>(og (decide (byP (ag (val b*(u32.wrap (u64.wrap (Int.tdiv 1000000000 (u64.wrap ((u64.wrap x1)+1)))))).toNat) (u32.wrap 999999999))) (k 67 (fC a b x1 x2 s11 s14 r0 x3 999999999 (ag (val (ag (val b*(u32.wrap (u64.wrap (Int.tdiv 1000000000 (u64.wrap ((u64.wrap x1)+1)))))).toNat)*(u32.wrap 999999999)).toNat))))|false=>(og (decide (byP (ag (val b*(u32.wrap (u64.wrap (Int.tdiv 1000000000 (u64.wrap ((u64.wrap x1)+1)))))).toNat) (u32.wrap (u64.wrap (Int.tdiv (u64.wrap (0+(u64.wrap x4))) (u64.wrap x2)))))) (k 67 (fC a b x1 x2 s11 s14 r0 x3 (u64.wrap (Int.tdiv (u64.wrap (0+(u64.wrap x4))) (u64.wrap x2))) (ag (val (ag (val b*(u32.wrap (u64.wrap (Int.tdiv 1000000000 (u64.wrap ((u64.wrap x1)+1)))))).toNat)*(u32.wrap (u64.wrap (Int.tdiv (u64.wrap (0+(u64.wrap x4))) (u64.wrap x2))))).toNat))))))|none=>none)|false=>(match decide (u64.wrap x2=(0:Int))with|true=>none|false=>(match decide ((u64.wrap (Int.tdiv 0 (u64.wrap x2)))>999999999)with|true=>(og (decide (byP (ag (val b*(u32.wrap (u64.wrap (Int.tdiv 1000000000 (u64.wrap ((u64.wrap x1)+1)))))).toNat) (u32.wrap 999999999))) (k 67 (fC a b x1 x2 s11 s14 r0 x3 999999999 (ag (val (ag (val b*(u32.wrap (u64.wrap (Int.tdiv 1000000000 (u64.wrap ((u64.wrap x1)+1)))))).toNat)*(u32.wrap 999999999)).toNat))))|false=>(og (decide (byP (ag (val b*(u32.wrap (u64.wrap (Int.tdiv 1000000000 (u64.wrap ((u64.wrap x1)+1)))))).toNat) (u32.wrap (u64.wrap (Int.tdiv 0 (u64.wrap x2)))))) (k 67 (fC a b x1 x2 s11 s14 r0 x3 (u64.wrap (Int.tdiv 0 (u64.wrap x2))) (ag (val (ag (val b*(u32.wrap (u64.wrap (Int.tdiv 1000000000 (u64.wrap ((u64.wrap x1)+1)))))).toNat)*(u32.wrap (u64.wrap (Int.tdiv 0 (u64.wrap x2))))).toNat))))))))))|none=>none)|false=>(og (decide ((0:Int)<=(s11.length:Int)/\(s11.length:Int)*((4:Nat):Int)<=140737488355328/\(s11.length:Int)<=140737488355328)) (k 90 (u5 a x1 s11 r0 0 (i64.wrap ((s11.length:Int)-1)) (List.replicate ((s11.length:Int)).toNat (0:Int)))))
theorem pF(a b:List Int)(x1 x2:Int)(s11:List Int)(s14:Int)(r0:List Int):RN kw 30 (lV a b x1 x2 s11 s14 r0) (lJ a b x1 x2 s11 s14 r0):=rnX
def pq(a b:List Int)(x1 x2:Int)(s11:List Int)(s14:Int)(r0:List Int)(x3 s16:Int)(s17:List Int)(k:KT):OLR:=og (decide (sY s17 (ag (val (([x3])++s11)).toNat))) (match decide ((cr (val s17) (val (ag (val (([x3])++s11)).toNat)))>0)with|true=>(og (decide (pZ s17 (ag (val b*(u32.wrap (u64.wrap (Int.tdiv 1000000000 (u64.wrap ((u64.wrap x1)+1)))))).toNat))) (k 67 (fC a b x1 x2 s11 s14 r0 x3 (u64.wrap (s16-1)) (ag (val s17-val (ag (val b*(u32.wrap (u64.wrap (Int.tdiv 1000000000 (u64.wrap ((u64.wrap x1)+1)))))).toNat)).toNat))))|false=>(og (decide (pZ (ag (val (([x3])++s11)).toNat) s17)) (match true,decide ((0:Int)<=s14/\s14<(((((ag (val a*(u32.wrap (u64.wrap (Int.tdiv 1000000000 (u64.wrap ((u64.wrap x1)+1)))))).toNat).length:Int):Int).toNat-(0:Int).toNat:Nat):Int))with|true,true=>(match true,r0[(0:Int).toNat+(s14).toNat]? with|true,some _=>k 30 (lV a b x1 x2 (ag (val (ag (val (([x3])++s11)).toNat)-val s17).toNat) (i64.wrap (s14-1)) (r0.set ((0:Int).toNat+(s14).toNat) (u32.wrap s16)))|_,_=>none)|_,_=>none)))
theorem td(a b:List Int)(x1 x2:Int)(s11:List Int)(s14:Int)(r0:List Int)(x3 s16:Int)(s17:List Int):RN kw 67 (fC a b x1 x2 s11 s14 r0 x3 s16 s17) (pq a b x1 x2 s11 s14 r0 x3 s16 s17):=rnX
def sP(a:List Int)(x1:Int)(s11 r0:List Int)(s18 s20:Int)(r1:List Int)(k:KT):OLR:=match decide (s20>=0)with|true=>(match aT s11 s20 with|some x2=>(match decide (u64.wrap (u32.wrap (u64.wrap (Int.tdiv 1000000000 (u64.wrap ((u64.wrap x1)+1)))))=(0:Int))with|true=>none|false=>(match aT r1 s20 with|some _=>(match true,r1[(s20).toNat]? with|true,some _=>(match decide (u64.wrap (u32.wrap (u64.wrap (Int.tdiv 1000000000 (u64.wrap ((u64.wrap x1)+1)))))=(0:Int))with|true=>none|false=>k 90 (u5 a x1 s11 r0 (Int.tmod (u64.wrap ((u64.wrap (s18*1000000000))+(u64.wrap x2))) (u64.wrap (u32.wrap (u64.wrap (Int.tdiv 1000000000 (u64.wrap ((u64.wrap x1)+1))))))) (i64.wrap (s20-1)) (r1.set ((s20).toNat) (u32.wrap (u64.wrap (Int.tdiv (u64.wrap ((u64.wrap (s18*1000000000))+(u64.wrap x2))) (u64.wrap (u32.wrap (u64.wrap (Int.tdiv 1000000000 (u64.wrap ((u64.wrap x1)+1))))))))))))|_,_=>none)|none=>none))|none=>none)|false=>(og (decide (aS ((r0.drop ((0:Int).toNat)).take ((((ag (val a*(u32.wrap (u64.wrap (Int.tdiv 1000000000 (u64.wrap ((u64.wrap x1)+1)))))).toNat).length:Int):Int).toNat-(0:Int).toNat)))) (og (decide (aS r1)) (some [RV.d aqg (ag (val ((r0.drop ((0:Int).toNat)).take ((((ag (val a*(u32.wrap (u64.wrap (Int.tdiv 1000000000 (u64.wrap ((u64.wrap x1)+1)))))).toNat).length:Int):Int).toNat-(0:Int).toNat))).toNat),RV.d aqg (ag (val r1).toNat)])))
theorem yL(a:List Int)(x1:Int)(s11 r0:List Int)(s18 s20:Int)(r1:List Int):RN kw 90 (u5 a x1 s11 r0 s18 s20 r1) (sP a x1 s11 r0 s18 s20 r1):=rnX
def qsc(x1:Int):Int:=u32.wrap (u64.wrap (Int.tdiv 1000000000 (u64.wrap ((u64.wrap x1)+1))))
theorem ie(x1:Int):u32.wrap (u64.wrap (Int.tdiv 1000000000 (u64.wrap ((u64.wrap x1)+1))))=qsc x1:=by
 have h:∀y,qsc x1=y->y=qsc x1:=λy e=>e.symm;exact h _ rfl
theorem ac2{x:Int}(h1:1<=x)(h2:x<1000000000):qsc x=1000000000/(x+1)/\1<=qsc x/\qsc x<1000000000:=by
 have h3:1<=1000000000/(x+1):=Int.le_ediv_of_mul_le (by omega) (by omega);have h4:1000000000/(x+1)<1000000000:=aoq (by omega) (by omega);grind [qsc,bG,dg]
theorem GU{v:Int}(h:0<v):∃(n:Nat) (x:Int),(ag v.toNat).length=n+1/\(ag v.toNat)[n]?=some x/\1<=x/\x<1000000000/\x*pw n<=v:=by
 have hne:ag v.toNat≠[]:=λe=>by rw[iK]at e;omega
 rcases List.eq_nil_or_concat (ag v.toNat)with h0|⟨l,x,hx⟩
 ·grind
 ·have hv:=bj v.toNat
  have hc:=eK v.toNat
  have hl:=b9 v.toNat
  rw[List.concat_eq_append]at hx;rw[hx]at hv hc hl;have hxx:=hl x (by simp);have hx0:x≠0:=λe=>hc.2 (by simp[e]);have hln:=aR (l:=l) (λy hy=>hl y (by simp[hy]));rw[dN]at hv;simp only[val]at hv;refine⟨l.length,x,by rw[hx];simp,by rw[hx];simp,by omega,hxx.2,?_⟩;grind
section
variable (a b:List Int) (x1 x2:Int) (V:Int) (hV:val b*qsc x1=V) (hs:1<=qsc x1/\qsc x1<1000000000) (hp:0<V) (hra:(ag (val a*qsc x1).toNat).length<=a.length+1) (ha:Lim a/\a.length<=1000000) (hL:(ag V.toNat).length<=1000001)
theorem Oc(hs:1<=qsc x1/\qsc x1<1000000000)(l r0:List Int)(hl:Lim l/\l.length<=2000000)(hr0:aS r0)(hz0:∀k (hk:k<r0.length),(ag (val a*qsc x1).toNat).length<=k->r0[k]=0):∀(n:Nat) (c:Int) (r:List Int),n<=l.length->0<=c->c<qsc x1->Lim r->r.length=l.length->(∀k (hk:k<r.length),k<n->r[k]=0)->qsc x1*val r+pw n*c+val (l.take n)=val l->
  kw.Runs 90 (u5 a x1 l r0 c ((n:Int)-1) r) [.d aqg (ag (val r0).toNat),.d aqg (ag (val l/qsc x1).toNat)]:=by
 have hsa:=hl.2;have e64:u64.wrap (qsc x1)=qsc x1:=bG (by omega) (by omega);intro n;induction n with
 |zero=>
  intro c r hn c0 c1 hr hlen hz hv;simp only[o9,List.take_zero,val,aoc,aqa]at hv
  have e2:val l/qsc x1=val r:=by
   rw[<-hv,apT,aoH _ _ (by omega),aod c0 c1];omega
  have e3:=zG hz0;have e4:aS (r0.take (ag (val a*qsc x1).toNat).length):=⟨hr0.1.take _,by have:=hr0.2;rw[anJ];omega⟩
  refine yL _ _ _ _ _ _ _ ⟨0,?_⟩;unfold sP;simp only[ie,Int.toNat_zero,aoC,aoD,Nat.sub_zero];rw[dF (by omega)];dsimp only;rw[dT e4,dT (show aS r from⟨hr,by omega⟩),e3,e2]
 |succ n ih=>
  intro c r hn c0 c1 hr hlen hz hv;have hna:n<l.length:=by omega
  have hnr:n<r.length:=by omega
  have xa:=hl.1.get hna;have hr0':=hz n hnr (by omega);have hcb:0<=c*1000000000+l[n]:=by omega
  have m0:=an3 (c*1000000000+l[n]) (show qsc x1≠0 by omega);have m1:=anF (c*1000000000+l[n]) (show 0<qsc x1 by omega);have md:=anM (c*1000000000+l[n]) (qsc x1);have d0:0<=(c*1000000000+l[n])/qsc x1:=anZ hcb (by omega)
  have d1:(c*1000000000+l[n])/qsc x1<1000000000:=by
   refine aoq (by omega) ?_;have:=am8 (show c+1<=qsc x1 by omega) (show(0:Int)<=1000000000 by decide);rw[aoI 1000000000 (qsc x1)];omega
  obtain⟨q,hq⟩:=ih ((c*1000000000+l[n])%qsc x1) (r.set n ((c*1000000000+l[n])/qsc x1)) (by omega) m0 m1 (hr.set n ⟨d0,d1⟩) (by simpa using hlen)
   (λk hk hkn=>by rw[aoj (by omega)];exact hz k (by simpa using hk) (by omega)) (by
    rw[fK hnr,hr0'];rw[a9 hna,ce]at hv;grind)
  refine yL _ _ _ _ _ _ _ ⟨q,?_⟩;unfold sP;simp only[ie];rw[show((n+1:Nat):Int)-1=(n:Int) by omega,dT (by omega),av l n,amX hna,e64,dF (show ¬qsc x1=0 by omega),av r n,aF,amX hnr];dsimp only;rw[bG (x:=c*1000000000) (by omega) (by omega),bG (x:=l[n]) (by omega) (by omega),bG (x:=c*1000000000+l[n]) (by omega) (by omega),iI hcb,ke hcb,bG (x:=(c*1000000000+l[n])/qsc x1) (by omega) (by omega),dg (x:=(c*1000000000+l[n])/qsc x1) (by omega) (by omega),aV (x:=(n:Int)-1) (by omega) (by omega)];exact hq
include hV hp hL in
theorem Gf{res:List RV}(i:Nat)(hi:i<(ag (val a*qsc x1).toNat).length)(r0 l:List Int)(hlr:r0.length=a.length+1)(hra:(ag (val a*qsc x1).toNat).length<=a.length+1)(x3 W:Int)(hW:val ([x3]++l)=W)(W0:0<=W)(hWl:(ag W.toNat).length<=1000002)
  (hout:kw.Runs 30 (lV a b x1 x2 (ag (W%V).toNat) ((i:Int)-1) (r0.set i (W/V))) res) (hi':(ag (val a*qsc x1).toNat).length<=2000000):
  ∀(d:Nat),d<=999999999->W<V*((d:Int)+1)->kw.Runs 67 (fC a b x1 x2 l (i:Int) r0 x3 (d:Int) (ag (V*(d:Int)).toNat)) res:=by
 intro d
 have hsz:∀e:Nat,e<=999999999->(ag (V*(e:Int)).toNat).length<=1000002:=λe he=>by
  refine cE (anT (by omega) (by omega)) ?_
  have h1:V<pw 1000001:=by
   have:=b8 (b9 V.toNat);rw[bj]at this;have:=dH hL;omega
  rw[ce 1000001];have h2:V*(e:Int)<=V*999999999:=am4 (by omega) (by omega);omega
 induction d with
 |zero=>
  intro _ hd;obtain⟨q,hq⟩:=hout;have hWV:W<V:=by simpa using hd
  rw[ao7 W0 hWV,aod W0 hWV]at hq;refine td _ _ _ _ _ _ _ _ _ _ ⟨q,?_⟩;unfold pq;simp only[ie,hV,hW];rw[show(V*((0:Nat):Int)).toNat=0 by simp,dT (show sY (ag 0) (ag W.toNat) from⟨⟨eK _,by decide⟩,eK _,by omega⟩),bV W0,zL,show val (ag 0)=0 from rfl,dF (show ¬W<0 by omega),dT (show pZ (ag W.toNat) (ag 0) from⟨cG (by omega),cG (by decide),by rw[bV W0];exact W0⟩)];dsimp only;rw[dT (show(0:Int)<=(i:Int)/\(i:Int)<((((ag (val a*qsc x1).toNat).length:Int).toNat-(0:Int).toNat:Nat):Int) by constructor<;>simp<;>omega)];rw[show(0:Int).toNat+((i:Int)).toNat=i by simp,amX (by omega)];dsimp only;rw[Int.sub_zero,aV (by omega) (by omega)];exact hq
 |succ d ih=>
  intro hd1 hd;have hc:((d+1:Nat):Int)=(d:Int)+1:=by omega
  rw[hc]at hd;have hV1:0<=V*((d:Int)+1):=anT (by omega) (by omega);have hV0:0<=V*(d:Int):=anT (by omega) (by omega);have hVd:V*((d:Int)+1)-V=V*(d:Int):=by grind
  have hs1:=hsz (d+1) (by omega);rw[hc]at hs1;have k1:=bj V.toNat
  by_cases hg:W<V*((d:Int)+1)
  ·obtain⟨q,hq⟩:=ih (by omega) hg;refine td _ _ _ _ _ _ _ _ _ _ ⟨q,?_⟩;unfold pq;simp only[ie,hV,hW];rw[hc,dT (show sY (ag (V*((d:Int)+1)).toNat) (ag W.toNat) from⟨⟨eK _,by omega⟩,eK _,by omega⟩),bV W0,bV hV1,zL,dT hg,dT (show pZ (ag (V*((d:Int)+1)).toNat) (ag V.toNat) from⟨cG (by omega),cG (by omega),by rw[bV hV1,bV (by omega)];omega⟩),bV (v:=V) (by omega),hVd,bG (by omega) (by omega),show(d:Int)+1-1=(d:Int) by omega];exact hq
  ·obtain⟨q,hq⟩:=hout
   have e1:W/V=(d:Int)+1:=by
    have:W=(W-V*((d:Int)+1))+V*((d:Int)+1):=by omega
    rw[this,aoH _ _ (by omega),aod (by omega) (by grind)];omega
   have e2:W%V=W-V*((d:Int)+1):=by
    have:=anM W V;rw[e1]at this;omega
   rw[e1,e2]at hq;refine td _ _ _ _ _ _ _ _ _ _ ⟨q,?_⟩;unfold pq;simp only[ie,hV,hW];rw[hc,dT (show sY (ag (V*((d:Int)+1)).toNat) (ag W.toNat) from⟨⟨eK _,by omega⟩,eK _,by omega⟩),bV W0,bV hV1,zL,dF hg,dT (show pZ (ag W.toNat) (ag (V*((d:Int)+1)).toNat) from⟨cG (by omega),cG (by omega),by rw[bV hV1,bV W0];omega⟩)];dsimp only;rw[dT (show(0:Int)<=(i:Int)/\(i:Int)<((((ag (val a*qsc x1).toNat).length:Int).toNat-(0:Int).toNat:Nat):Int) by constructor<;>simp<;>omega)];rw[show(0:Int).toNat+((i:Int)).toNat=i by simp,amX (by omega)];dsimp only;rw[aV (by omega) (by omega),dg (by omega) (by omega)];exact hq
end
end
section
def rH(k:Nat->Cfg->OLR)(a b:List Int)(x1 x2:Int)(s11:List Int)(s14:Int)(r0:List Int)(x3 H:Int):OLR:=match decide (u64.wrap x2=(0:Int))with|true=>none|false=>(match decide ((u64.wrap (Int.tdiv H (u64.wrap x2)))>999999999)with|true=>(og (decide (byP (ag (val b*(u32.wrap (u64.wrap (Int.tdiv 1000000000 (u64.wrap ((u64.wrap x1)+1)))))).toNat) (u32.wrap 999999999))) (k 67 (fC a b x1 x2 s11 s14 r0 x3 999999999 (ag (val (ag (val b*(u32.wrap (u64.wrap (Int.tdiv 1000000000 (u64.wrap ((u64.wrap x1)+1)))))).toNat)*(u32.wrap 999999999)).toNat))))|false=>(og (decide (byP (ag (val b*(u32.wrap (u64.wrap (Int.tdiv 1000000000 (u64.wrap ((u64.wrap x1)+1)))))).toNat) (u32.wrap (u64.wrap (Int.tdiv H (u64.wrap x2)))))) (k 67 (fC a b x1 x2 s11 s14 r0 x3 (u64.wrap (Int.tdiv H (u64.wrap x2))) (ag (val (ag (val b*(u32.wrap (u64.wrap (Int.tdiv 1000000000 (u64.wrap ((u64.wrap x1)+1)))))).toNat)*(u32.wrap (u64.wrap (Int.tdiv H (u64.wrap x2))))).toNat)))))
theorem NU{W V H x p d:Int}(hx:1<=x)(hW:W<(H+1)*p)(hp:0<p)(hV:x*p<=V)(hd:H/x=d)(h0:0<=H):W<V*(d+1):=by
 have h1:=anM H x;have h2:=anF H (show 0<x by omega);have h3:0<=d:=by rw[<-hd];exact anZ h0 (by omega)
 have h4:H+1<=x*(d+1):=by grind
 have h5:=am8 h4 (anD hp);have h6:=am8 hV (show 0<=d+1 by omega);grind
theorem adL{A B s R q:Int}(hs:0<s)(h:A*s=R+B*s*q)(h0:0<=R)(h1:R<B*s):A/B=q/\A%B=R/s:=by
 have e:R=s*(A-B*q):=by grind
 have hm:R/s=A-B*q:=by rw[e];exact ao8 _ (by omega)
 have m0:0<=A-B*q:=by
  apply ang;intro hc;have:=am4 (show A-B*q<= -1 by omega) (anD hs);omega
 have m1:A-B*q<B:=by
  apply ang;intro hc;have:=am4 (show B<=A-B*q by omega) (anD hs);grind
 have hA:A=(A-B*q)+B*q:=by omega
 constructor
 ·rw[hA,aoH _ _ (by omega),aod (by omega) (by omega)];omega
 ·rw[hm,hA,aoW,ao7 (by omega) (by omega)];omega
section
variable (a b:List Int) (x1 x2:Int) (V:Int) (hV:val b*qsc x1=V) (hs:1<=qsc x1/\qsc x1<1000000000) (hp:0<V) (hra:(ag (val a*qsc x1).toNat).length<=a.length+1) (ha:Lim a/\a.length<=1000000) (hL:(ag V.toNat).length<=1000001)
include hV hs hp hra ha hL in
theorem Hi(n:Nat)(hn:(ag V.toNat).length=n+1)(hx2:1<=x2/\x2<1000000000)(hxp:x2*pw n<=V):∀(i:Nat) (R:Int) (r0:List Int),i<=(ag (val a*qsc x1).toNat).length->0<=R->R<V->r0.length=a.length+1->Lim r0->
  (∀k (hk:k<r0.length),k<i->r0[k]=0)->(∀k (hk:k<r0.length),(ag (val a*qsc x1).toNat).length<=k->r0[k]=0)->val a*qsc x1=pw i*R+val ((ag (val a*qsc x1).toNat).take i)+V*val r0->
  kw.Runs 30 (lV a b x1 x2 (ag R.toNat) ((i:Int)-1) r0) [.d aqg (ag (val a/val b).toNat),.d aqg (ag (val a%val b).toNat)]:=by
 have hVp:V<pw 1000001:=by
  have:=b8 (b9 V.toNat);rw[bj]at this;have:=dH hL;omega
 have ha2:=ha.2;intro i;induction i with
 |zero=>
  intro R r0 _ R0 RV hlr hl _ hz he;simp only[o9,List.take_zero,val,aoc,aqa]at he;rw[<-hV]at he;obtain⟨e1,e2⟩:=adL (by omega) he R0 (by rw[hV];exact RV);have hRl:(ag R.toNat).length<=1000001:=cE R0 (by omega);obtain⟨q,hq⟩:=Oc a x1 hs (ag R.toNat) r0 ⟨b9 _,by omega⟩ ⟨hl,by omega⟩ hz (ag R.toNat).length 0 (List.replicate (ag R.toNat).length 0) (am2 _) (by omega) (by omega) (Lim.rep _) (by simp) (λk hk _=>by simp) (by simp[io]);rw[bV R0,<-e2,<-e1]at hq;refine pF _ _ _ _ _ _ _ ⟨q,?_⟩;unfold lJ;rw[dF (by omega)];dsimp only;rw[dT (show(0:Int)<=((ag R.toNat).length:Int)/\((ag R.toNat).length:Int)*((4:Nat):Int)<=140737488355328/\((ag R.toNat).length:Int)<=140737488355328 from⟨by omega,by omega,by omega⟩),aF,aV (by omega) (by omega)];exact hq
 |succ i ih=>
  intro R r0 hi R0 RV hlr hl hz hz2 he;have hiU:i<(ag (val a*qsc x1).toNat).length:=by omega
  have hx:=(b9 (val a*qsc x1).toNat).get hiU;have hir:i<r0.length:=by omega
  have hr0:=hz i hir (by omega)
  have hWv:val ([(ag (val a*qsc x1).toNat)[i]]++ag R.toNat)=(ag (val a*qsc x1).toNat)[i]+1000000000*R:=by
   rw[dN,bV R0];simp[val,pw]
  generalize hxi:(ag (val a*qsc x1).toNat)[i]=x at hx hWv;have W0:0<=x+1000000000*R:=by omega
  have WV:x+1000000000*R<1000000000*V:=by omega
  have hWl:(ag (x+1000000000*R).toNat).length<=n+2:=by
   refine cE W0 ?_;have:=b8 (b9 V.toNat);rw[bj,hn]at this;rw[ce (n+1)];omega
  have hRl:(ag R.toNat).length<=1000001:=cE R0 (by omega);have q0:0<=(x+1000000000*R)/V:=anZ W0 (by omega);have q1:(x+1000000000*R)/V<1000000000:=aoq hp (by omega);have m0:=an3 (x+1000000000*R) (show V≠0 by omega);have m1:=anF (x+1000000000*R) hp;have md:=anM (x+1000000000*R) V
  have hout:=ih ((x+1000000000*R)%V) (r0.set i ((x+1000000000*R)/V)) (by omega) m0 m1 (by simpa using hlr) (hl.set i ⟨q0,q1⟩)
   (λk hk hk'=>by rw[aoj (by omega)];exact hz k (by simpa using hk) (by omega))
   (λk hk hk'=>by rw[aoj (by omega)];exact hz2 k (by simpa using hk) hk') (by
    rw[fK hir,hr0];rw[a9 hiU,ce,hxi]at he;grind)
  have hdig:=Gf a b x1 x2 V hV hp hL i hiU r0 (ag R.toNat) hlr hra x (x+1000000000*R) hWv W0 (by omega) hout (by omega)
  have htail:∀H:Int,0<=H->H<1000000000000000000->x+1000000000*R<(H+1)*pw n->∃q,rH (kw.k q) a b x1 x2 (ag R.toNat) ((i:Int)) r0 x H=some [.d aqg (ag (val a/val b).toNat),.d aqg (ag (val a%val b).toNat)]:=by
   intro H H0 H1 HW;have d0:0<=H/x2:=anZ H0 (by omega);have d1:H/x2<=H:=aoN _ H0;have hbyV:∀d:Int,0<=d->d<1000000000->byP (ag V.toNat) d:=λd h1 h2=>⟨⟨b9 _,by omega⟩,h1,h2⟩
   by_cases hc:H/x2>999999999
   ·obtain⟨q,hq⟩:=hdig 999999999 (am2 _) (by rw[show V*(((999999999:Nat):Int)+1)=1000000000*V by omega];exact WV);refine⟨q,?_⟩;unfold rH;simp only[ie,hV];rw[bG (x:=x2) (by omega) (by omega),dF (show ¬x2=0 by omega),iI H0,bG (x:=H/x2) (by omega) (by omega),dT hc,dg (x:=999999999) (by decide) (by decide),dT (hbyV 999999999 (by decide) (by decide)),bV (v:=V) (by omega)];exact hq
   ·obtain⟨q,hq⟩:=hdig (H/x2).toNat (by omega) (by rw[show(((H/x2).toNat:Nat):Int)=H/x2 by omega];exact NU hx2.1 HW (cp n) hxp rfl H0)
    rw[show(((H/x2).toNat:Nat):Int)=H/x2 by omega]at hq;refine⟨q,?_⟩;unfold rH;simp only[ie,hV];rw[bG (x:=x2) (by omega) (by omega),dF (show ¬x2=0 by omega),iI H0,bG (x:=H/x2) (by omega) (by omega),dF hc,dg (x:=H/x2) (by omega) (by omega),dT (hbyV (H/x2) (by omega) (by omega)),bV (v:=V) (by omega)];exact hq
  have hWlim:=b9 (x+1000000000*R).toNat
  have hWval:=bV W0;have hsplit:=gK (ag (x+1000000000*R).toNat) n;have htl:=b8 (hWlim.take n)
  have hpre:∀H,val ((ag (x+1000000000*R).toNat).drop n)=H->x+1000000000*R<(H+1)*pw n:=by
   intro H hH;rw[hH,hWval]at hsplit;have hm:(ag (x+1000000000*R).toNat |>.take n).length<=n:=by rw[anJ];omega
   have:=dH hm;rcases anC n (ag (x+1000000000*R).toNat).length with h|h
   ·rw[anL (by omega)]at hsplit;rw[Int.add_mul,aoI H,aoc];omega
   ·rw[anR h]at hH;have hH0:H=0:=by rw[<-hH];rfl
    subst hH0;rw[apc]at hsplit;omega
  have hstep:∀(H:Int) (q:Nat),rH (kw.k q) a b x1 x2 (ag R.toNat) ((i:Int)) r0 x H=some [.d aqg (ag (val a/val b).toNat),.d aqg (ag (val a%val b).toNat)]->True:=λ_ _ _=>trivial;have hap:(([x]:List Int).length+(ag R.toNat).length)*4<=140737488355328/\([x]:List Int).length+(ag R.toNat).length<=140737488355328:=by simp only[anm];omega
  have hlS:aS ([x]++ag R.toNat):=⟨(Lim.cons ⟨hx.1,hx.2⟩ Lim.nil).append (b9 _),by simp only[anu,anm];omega⟩
  have hw1:i64.wrap (((n+1:Nat):Int)-1)=((n:Nat):Int):=by rw[aV (by omega) (by omega)];omega
  rcases Nat.lt_trichotomy (ag (x+1000000000*R).toNat).length (n+1)with hc|hc|hc
  ·obtain⟨q,hq⟩:=htail 0 (by omega) (by omega) (hpre 0 (by rw[anR (by omega)];rfl));refine pF _ _ _ _ _ _ _ ⟨q,?_⟩;unfold lJ;rw[dT (show((i+1:Nat):Int)-1>=0 by omega),show((i+1:Nat):Int)-1=(i:Int) by omega,ie,av,amX hiU,hxi];dsimp only;rw[dT hap,dT hlS,hWv,hV,hn];rw[dF (show ¬((ag (x+1000000000*R).toNat).length:Int)>((n+1:Nat):Int) by omega),dF (show ¬((ag (x+1000000000*R).toNat).length:Int)>=((n+1:Nat):Int) by omega)];rw[<-hV];exact hq
  ·have hget:(ag (x+1000000000*R).toNat)[n]?=some (ag (x+1000000000*R).toNat)[n]:=amX (by omega);have hxn:=hWlim.get (show n<(ag (x+1000000000*R).toNat).length by omega)
   have hdrop:val ((ag (x+1000000000*R).toNat).drop n)=(ag (x+1000000000*R).toNat)[n]:=by
    rw[ij (by omega),anR (by omega)];simp[val]
   obtain⟨q,hq⟩:=htail (ag (x+1000000000*R).toNat)[n] hxn.1 (by omega) (hpre _ hdrop);refine pF _ _ _ _ _ _ _ ⟨q,?_⟩;unfold lJ;rw[dT (show((i+1:Nat):Int)-1>=0 by omega),show((i+1:Nat):Int)-1=(i:Int) by omega,ie,av,amX hiU,hxi];dsimp only;rw[dT hap,dT hlS,hWv,hV,hn];rw[dF (show ¬((ag (x+1000000000*R).toNat).length:Int)>((n+1:Nat):Int) by omega),dT (show((ag (x+1000000000*R).toNat).length:Int)>=((n+1:Nat):Int) by omega),hw1,av (ag (x+1000000000*R).toNat) n,hget];dsimp only;rw[Int.zero_add,bG (x:=(ag (x+1000000000*R).toNat)[n]) (by omega) (by omega),bG (x:=(ag (x+1000000000*R).toNat)[n]) (by omega) (by omega)];rw[<-hV];exact hq
  ·have hget:(ag (x+1000000000*R).toNat)[n]?=some (ag (x+1000000000*R).toNat)[n]:=amX (by omega);have hget1:(ag (x+1000000000*R).toNat)[n+1]?=some (ag (x+1000000000*R).toNat)[n+1]:=amX (by omega);have hxn:=hWlim.get (show n<(ag (x+1000000000*R).toNat).length by omega);have hxn1:=hWlim.get (show n+1<(ag (x+1000000000*R).toNat).length by omega)
   have hdrop:val ((ag (x+1000000000*R).toNat).drop n)=(ag (x+1000000000*R).toNat)[n+1]*1000000000+(ag (x+1000000000*R).toNat)[n]:=by
    rw[ij (by omega),ij (by omega),anR (by omega)];simp only[val];omega
   obtain⟨q,hq⟩:=htail ((ag (x+1000000000*R).toNat)[n+1]*1000000000+(ag (x+1000000000*R).toNat)[n]) (by omega) (by omega) (hpre _ hdrop);refine pF _ _ _ _ _ _ _ ⟨q,?_⟩;unfold lJ;rw[dT (show((i+1:Nat):Int)-1>=0 by omega),show((i+1:Nat):Int)-1=(i:Int) by omega,ie,av,amX hiU,hxi];dsimp only;rw[dT hap,dT hlS,hWv,hV,hn];rw[dT (show((ag (x+1000000000*R).toNat).length:Int)>((n+1:Nat):Int) by omega),av (ag (x+1000000000*R).toNat) (n+1),hget1];dsimp only;rw[dT (show((ag (x+1000000000*R).toNat).length:Int)>=((n+1:Nat):Int) by omega),hw1,av (ag (x+1000000000*R).toNat) n,hget];dsimp only;rw[bG (x:=(ag (x+1000000000*R).toNat)[n+1]) (by omega) (by omega),bG (x:=(ag (x+1000000000*R).toNat)[n+1]*1000000000) (by omega) (by omega),bG (x:=(ag (x+1000000000*R).toNat)[n]) (by omega) (by omega),bG (x:=(ag (x+1000000000*R).toNat)[n+1]*1000000000+(ag (x+1000000000*R).toNat)[n]) (by omega) (by omega)];rw[<-hV];exact hq
end
end
def abQ:Cn 242 [aqg,aqg]:=cn λ(a b:List Int)=>lf (Fw a b) [.d aqg (ag (val a/val b).toNat),.d aqg (ag (val a%val b).toNat)] λh=>by
 refine da Oh (show kw.Res _ _ _ from ?_);obtain⟨⟨ha,sa⟩,⟨hb,sb⟩,hne⟩:=h;have a0:=aR ha.1;have b0:0<val b:=fh hb hne;have hlen:=anG.2 hne;have la:=b8 ha.1;have lb:=b8 hb.1;by_cases hsm:a.length<=2/\b.length<=2
 ·have p2:pw 2=1000000000000000000:=by decide
  have m1:=dH hsm.1;have m2:=dH hsm.2;have q0:0<=val a/val b:=anZ a0 (by omega);have q1:val a/val b<=val a:=aoN _ a0;have r0:=an3 (val a) (show val b≠0 by omega);have r1:=anF (val a) b0;refine SG _ _ ⟨0,?_⟩;unfold GA;rw[dT (show(a.length:Int)<=2 by omega),dT (show(b.length:Int)<=2 by omega),dT (show uq a from⟨⟨ha.1,by omega⟩,by omega⟩),dT (show uq b from⟨⟨hb.1,by omega⟩,by omega⟩),dF (show ¬val b=0 by omega),iI a0,ke a0,bG (x:=val a/val b) q0 (by omega),dT (show jm (val a/val b) from⟨q0,by omega⟩),dT (show jm (val a%val b) from⟨r0,by omega⟩)]
 ·obtain⟨n,hn⟩:∃n,b.length=n+1:=⟨b.length-1,by omega⟩
  have hbn:n<b.length:=by omega
  have ht:=vU hb hn;have hbl:=hb.1.get hbn;obtain⟨hs0,hs1,hs2⟩:=ac2 (x:=b[n]) ht hbl.2;have hVp:0<val b*qsc b[n]:=Int.mul_pos b0 (by omega)
  have hVl:(ag (val b*qsc b[n]).toNat).length<=1000001:=by
   refine cE (by omega) ?_;have h1:val b*qsc b[n]<=val b*999999999:=am4 (by omega) (by omega);have h2:=dH sb;rw[ce 1000000];omega
  have hUl:(ag (val a*qsc b[n]).toNat).length<=a.length+1:=by
   refine cE (anT a0 (by omega)) ?_;have h1:val a*qsc b[n]<=val a*999999999:=am4 (by omega) (by omega);rw[ce];omega
  obtain⟨m,x2,hm,hg,hx1,hx2,hxp⟩:=GU hVp
  obtain⟨q,hq⟩:=Hi a b b[n] x2 (val b*qsc b[n]) rfl ⟨hs1,hs2⟩ hVp hUl ⟨ha.1,sa⟩ hVl m hm ⟨hx1,hx2⟩ hxp (ag (val a*qsc b[n]).toNat).length 0 (List.replicate (a.length+1) 0) (am2 _) (by omega) hVp (by simp) (Lim.rep _) (λk hk _=>by simp) (λk hk _=>by simp) (by
   rw[aof,bV (anT a0 (by omega)),io];omega)
  refine SG _ _ ⟨q,?_⟩;have hw1:i64.wrap ((b.length:Int)-1)=(n:Int):=by rw[aV (by omega) (by omega)];omega
  have hx1w:¬u64.wrap (u64.wrap b[n]+1)=0:=by rw[bG (x:=b[n]) (by omega) (by omega),bG (by omega) (by omega)];omega
  have hbyb:byP b (qsc b[n]):=⟨⟨hb.1,by omega⟩,by omega,hs2⟩
  have hbya:byP a (qsc b[n]):=⟨⟨ha.1,by omega⟩,by omega,hs2⟩
  have hw2:i64.wrap (((m+1:Nat):Int)-1)=(m:Int):=by rw[aV (by omega) (by omega)];omega
  have hsub:(match aT b (i64.wrap ((b.length:Int)-1))with|some x1=>(match decide (u64.wrap ((u64.wrap x1)+1)=(0:Int))with|true=>none|false=>(match decide (byP b (qsc x1))with|true=>(match aT (ag (val b*(qsc x1)).toNat) (i64.wrap (((ag (val b*(qsc x1)).toNat).length:Int)-1))with|some x2=>(match decide ((0:Int)<=i64.wrap ((a.length:Int)+1)/\(i64.wrap ((a.length:Int)+1))*((4:Nat):Int)<=140737488355328/\i64.wrap ((a.length:Int)+1)<=140737488355328)with|true=>(match decide (byP a (qsc x1))with|true=>(match decide ((0:Int)<=0/\0<=((ag (val a*(qsc x1)).toNat).length:Int)/\((ag (val a*(qsc x1)).toNat).length:Int)<=((List.replicate (i64.wrap ((a.length:Int)+1)).toNat (0:Int)).length:Int))with|true=>(kw.k q) 30 (lV a b x1 x2 ([]) (i64.wrap (((ag (val a*(qsc x1)).toNat).length:Int)-1)) (List.replicate (i64.wrap ((a.length:Int)+1)).toNat (0:Int)))|false=>none)|false=>none)|false=>none)|none=>none)|false=>none))|none=>none)=some [.d aqg (ag (val a/val b).toNat),.d aqg (ag (val a%val b).toNat)]:=by
   rw[hw1,av,amX hbn];dsimp only;rw[dF hx1w,dT hbyb,hm,hw2,av,hg];dsimp only;rw[bW (k:=a.length) (by omega),uH (n:=a.length+1) (by omega),dT hbya,aF,apu,dT (show(0:Int)<=0/\(0:Int)<=((ag (val a*qsc b[n]).toNat).length:Int)/\((ag (val a*qsc b[n]).toNat).length:Int)<=((a.length+1:Nat):Int) from⟨by omega,by omega,by omega⟩),aV (x:=((ag (val a*qsc b[n]).toNat).length:Int)-1) (by omega) (by omega)];exact hq
  unfold GA;by_cases h1:a.length<=2
  ·rw[dT (show(a.length:Int)<=2 by omega),dF (show ¬(b.length:Int)<=2 by omega)];exact hsub
  ·rw[dF (show ¬(a.length:Int)<=2 by omega)];exact hsub
def Hh:List En:=[enK zP,enK CD,enF By,enF zA,enK abe,enK Hp,enK abQ,enK Cs,enK acB,enK Gr,enK C9]
def Of(x y:Bool×List Int)(_k:KT):OLR:=let y1:=ag (val x.2/val y.2).toNat;let y2:=ag (val x.2%val y.2).toNat;let y3:=ai (cf (!(x.1==y.1)) (val y1));let y4:=ai (cf x.1 (val y2));let y5:OLR:=match decide ((y2.length:Int)>0)with|true=>(match !(x.1==y.1)with|true=>(og (decide (aI (1:Int))) (og (decide (okI y3/\okI (ai (1:Int)))) (og (decide (okI y4/\okI y)) (dup (.b .l .l) (some [RV.d y2Y (ai (ae y3-ae (ai (1:Int)))),RV.d y2Y (ai (ae y4+ae y)),RV.d aqh 0])))))|false=>dup (.b .l .l) (some [RV.d y2Y y3,RV.d y2Y y4,RV.d aqh 0]))|false=>dup (.b .l .l) (some [RV.d y2Y y3,RV.d y2Y y4,RV.d aqh 0]);let y6:OLR:=match decide (aS y2)with|true=>y5|false=>none;match(y.2.length:Int)==0 with|true=>some [RV.d y2Y (false,[]),RV.d y2Y (false,[]),RV.d aqh 6]|false=>(og (decide (Fw x.2 y.2)) (cA (og (decide (aS y1)) (cA (og (decide (aS y2)) (dup (.b .l .l) y5)) (dup (.b (.b .l .l) (.b .l .l)) y6))) (dup (.b .l .l) (cA (og (decide (aS y1)) (dup (.b .l .l) y6)) (og (decide (aS y1)) y6)))))
def Wh:NT:=[((152,6),{keep:=[4,5,6],pure_:=[(5,.int .u32),(6,.int .u32)],hl:=3}),((152,29),{keep:=[4,9,10],hl:=3})]
def vd:Ctx:=CX (ens Hh) Wh
def u6(x y:Bool×List Int)(s5 s6:List Int):Cfg:=⟨152,[.blk 0,.seq 17],[(4,.box 2 0),(5,.d aqg s5),(6,.d aqg s6)],[.box 29 [SB x.1,.d aqg x.2],.box 29 [SB y.1,.d aqg y.2],.box 29 [SB false,.nil]],0,[]⟩
def qO(x y:Bool×List Int)(s9 s10:Int):Cfg:=⟨152,[.blk 2,.seq 38],[(4,.box 2 0),(9,.d (.int .u64) s9),(10,.d (.int .u64) s10)],[.box 29 [SB x.1,.d aqg x.2],.box 29 [SB y.1,.d aqg y.2],.box 29 [SB false,.nil]],0,[]⟩
def abH(x y:Bool×List Int)(k:KT):OLR:=k 6 (u6 x y x.2 y.2)
theorem acI(x y:Bool×List Int):RS vd 152 [.d y2Y x,.d y2Y y] (abH x y):=rsX
def rh(x y:Bool×List Int)(s5 s6:List Int)(k:KT):OLR:=match decide ((s6.length:Int)>0)with|true=>(match decide ((s5.length:Int)>2)with|true=>(og (decide (Fw s5 s6)) (k 6 (u6 x y s6 (ag (val s5%val s6).toNat))))|false=>(match decide ((s6.length:Int)>2)with|true=>(og (decide (Fw s5 s6)) (k 6 (u6 x y s6 (ag (val s5%val s6).toNat))))|false=>(match(s6.length:Int)==0 with|true=>(og (decide (aS s5)) (some [RV.d y2Y (ai (cf false (val s5)))]))|false=>(og (decide (uq s5)) (og (decide (uq s6)) (k 29 (qO x y (val s5) (val s6))))))))|false=>(match(s6.length:Int)==0 with|true=>(og (decide (aS s5)) (some [RV.d y2Y (ai (cf false (val s5)))]))|false=>(og (decide (uq s5)) (og (decide (uq s6)) (k 29 (qO x y (val s5) (val s6))))))
theorem vS(x y:Bool×List Int)(s5 s6:List Int):RL vd 6 (u6 x y s5 s6) (rh x y s5 s6):=rlX
def th(x y:Bool×List Int)(s9 s10:Int)(k:KT):OLR:=match decide (s10>0)with|true=>(match decide (s10=(0:Int))with|true=>none|false=>k 29 (qO x y s10 (Int.tmod s9 s10)))|false=>(og (decide (jm s9)) (og (decide (aS (ag s9.toNat))) (some [RV.d y2Y (ai (cf false (val (ag s9.toNat))))])))
theorem yC(x y:Bool×List Int)(s9 s10:Int):RL vd 29 (qO x y s9 s10) (th x y s9 s10):=rlX
def M3:Cn 153 [y2Y,y2Y]:=cn λ(x y:Bool×List Int)=>lf (fN x y) [.d y2Y (ai (ae x/ae y)),.d y2Y (ai (ae x%ae y)),.d aqh 0] λh=>by
 refine aB Hh (Of x y) ⟨0,?_⟩;obtain⟨hx,hy,hp⟩:=h;obtain⟨x0,x1,x2⟩:=cH hx;obtain⟨y0,y1,y2⟩:=cH hy;have sx:=hx.2.2;have sy:=hy.2.2
 have ey:y.1=false:=by
  cases e:y.1
  ·rfl
  ·rw[bO,e]at hp;simp only[cf,cond_true]at hp;omega
 have dy:ae y=val y.2:=by rw[bO,ey];rfl
 rw[dy]at hp;have hne:y.2≠[]:=λe=>by rw[y2]at e;omega
 have hprt:Fw x.2 y.2:=⟨⟨hx.1,sx⟩,⟨hy.1,sy⟩,hne⟩
 have hylen:=anG.2 hne;have r0:=an3 (val x.2) (show val y.2≠0 by omega);have r1:=anF (val x.2) hp;have q0:0<=val x.2/val y.2:=anZ x0 y0;have q1:val x.2/val y.2<=val x.2:=aoN _ x0;have vx:=b8 hx.1.1;have vy:=b8 hy.1.1;have mx:=dH sx;have my:=dH sy;have szq:szI (val x.2/val y.2)<=1000000:=fL (by have:=cp 1000000;omega) (by omega);have szr:szI (val x.2%val y.2)<=1000000:=fL (by have:=cp 1000000;omega) (by omega);have lq:(ag (val x.2/val y.2).toNat).length<=1000000:=cE q0 (by omega);have lr:(ag (val x.2%val y.2).toNat).length<=1000000:=cE r0 (by omega);unfold Of;simp only[fy]
 rw[show((y.2.length:Int)==0)=false by simp;omega,dT hprt,dT (cG (n:=(val x.2/val y.2).toNat) (by omega)),dT (cG (n:=(val x.2%val y.2).toNat) (by omega)),dT (show aI 1 by decide),bV q0,bV r0,
  dT (show okI (ai (cf (!(x.1==y.1)) (val x.2/val y.2)))/\okI (ai (1:Int)) from⟨aX (by rw[Do];exact szq),re⟩),dT (show okI (ai (cf x.1 (val x.2%val y.2)))/\okI y from⟨aX (by rw[Do];exact szr),hy⟩)]
 simp only[dec_enc,dy,cX];rw[bO x,ey]
 have hlen:(((ag (val x.2%val y.2).toNat).length:Int)>0)↔0<val x.2%val y.2:=by
  constructor
  ·intro hl;rcases ans 0 (val x.2%val y.2)with h|h
   ·exact h
   ·rw[show(val x.2%val y.2).toNat=0 by omega,gv]at hl;simp at hl
  ·intro hl;have:ag (val x.2%val y.2).toNat≠[]:=λe=>by rw[iK]at e;omega
   have:=anG.2 this;omega
 obtain⟨n1,n2⟩:=Iw (a:=val x.2) (b:=val y.2) x0 hp;rcases ans 0 (val x.2%val y.2)with hr|hr
 ·rw[dT (hlen.2 hr)];cases x.1
  ·rfl
  ·obtain⟨e1,e2⟩:=n2 hr;simp only[cf,cond_true,Bool.not_false,show((true==false):Bool)=false from rfl];rw[e1,e2]
 ·rw[dF (λh'=>by have:=hlen.1 h';omega)];dsimp only;have e0:val x.2%val y.2=0:=by omega
  cases x.1
  ·simp only[cf,cond_false,show((false==false):Bool)=true from rfl,Bool.not_true]
  ·obtain⟨e1,e2⟩:=n1 e0;simp only[cf,cond_true,Bool.not_false,show((true==false):Bool)=false from rfl];rw[e1,e2,e0];rfl
theorem LO(x y:BI)(B:Nat)(hB:(B:Int)<18446744073709551616):∀(v u:Nat),u<=B->v<=B->vd.RunsE 29 (qO x y (u:Int) (v:Int)) [.d y2Y (ai ((Nat.gcd u v:Nat):Int))]:=by
 intro v;induction v using Nat.strongRecOn with
 |ind v ih=>
  intro u hu hv;rcases anQ v with h0|h0
  ·refine yC _ _ _ _ ⟨0,λn _=>?_⟩;have hp:jm (u:Int):=⟨by omega,by omega⟩
   have hl:(ag u).length<=3:=dD (app (show(u:Int)<18446744073709551616 by omega) (by decide));unfold th;rw[dF (show ¬(v:Int)>0 by omega),dT hp,aoC,dT (cG (n:=u) (by omega)),bj,show Nat.gcd u v=u by rw[h0];exact Nat.gcd_zero_right u];rfl
  ·obtain⟨n0,hn⟩:=ih (u%v) (apS _ h0) v hv (am9 (Nat.le_of_lt (apS _ h0)) hv);refine yC _ _ _ _ ⟨n0,λn hn'=>?_⟩;unfold th;rw[dT (show(v:Int)>0 by omega),dF (show ¬(v:Int)=0 by omega),ke (by omega)];dsimp only;rw[show((u:Int)%(v:Int))=((u%v:Nat):Int) by simp,ao0 u v,Nat.gcd_rec v u,ao0];exact hn n hn'
theorem JZ{u:Nat}(h:(ag u).length<=2):(u:Int)<1000000000000000000:=by
 have h1:=b8 (b9 u);rw[bj]at h1;have h2:=dH h;grind [pw]
theorem Ll(x y:BI):∀(v u:Nat),(ag u).length<=1000000->(ag v).length<=1000000->
  vd.RunsE 6 (u6 x y (ag u) (ag v)) [.d y2Y (ai ((Nat.gcd u v:Nat):Int))]:=by
 intro v;induction v using Nat.strongRecOn with
 |ind v ih=>
  intro u hu hv;rcases anQ v with h0|h0
  ·refine vS _ _ _ _ ⟨0,λn _=>?_⟩;unfold rh;rw[h0,Nat.gcd_zero_right,dF (show ¬((ag 0).length:Int)>0 by decide),show(((ag 0).length:Int)==0)=true by decide];dsimp only;rw[dT (cG (n:=u) (by omega)),bj];rfl
  ·have hne:ag v≠[]:=λe=>by rw[iK]at e;omega
   have hl:=anG.2 hne;have hm:=apS u h0
   have hms:(ag (u%v)).length<=1000000:=dD (by
    have:=b8 (b9 v);rw[bj]at this;have:=dH hv;omega)
   have hz:(((ag v).length:Int)==0)=false:=by simp;omega
   have hprt:Fw (ag u) (ag v):=⟨⟨eK _,hu⟩,⟨eK _,hv⟩,hne⟩
   have hmod:(val (ag u)%val (ag v)).toNat=u%v:=by rw[bj,bj];omega
   by_cases hsm:(ag u).length<=2/\(ag v).length<=2
   ·have lu:=JZ hsm.1;have lv:=JZ hsm.2;obtain⟨n0,hn⟩:=LO x y 1000000000000000000 (by decide) v u (by omega) (by omega);refine vS _ _ _ _ ⟨n0,λn hn'=>?_⟩;unfold rh;rw[dT (show((ag v).length:Int)>0 by omega),dF (show ¬((ag u).length:Int)>2 by omega),dF (show ¬((ag v).length:Int)>2 by omega),hz,dT (show uq (ag u) from⟨cG (by omega),by rw[bj];omega⟩),dT (show uq (ag v) from⟨cG (by omega),by rw[bj];omega⟩),bj,bj];exact hn n hn'
   ·obtain⟨n0,hn⟩:=ih (u%v) hm v hv hms;refine vS _ _ _ _ ⟨n0,λn hn'=>?_⟩;have:=hn n hn';rw[show Nat.gcd v (u%v)=Nat.gcd u v by rw[ao0 u v,Nat.gcd_rec v u,ao0]]at this;unfold rh;rw[dT (show((ag v).length:Int)>0 by omega),dT hprt,hmod];by_cases h2:(ag u).length<=2
    ·rw[dF (show ¬((ag u).length:Int)>2 by omega),dT (show((ag v).length:Int)>2 by omega)];exact this
    ·rw[dT (show((ag u).length:Int)>2 by omega)];exact this
def RY:Cn 152 [y2Y,y2Y]:=cn λ(x y:Bool×List Int)=>lf (okI x/\okI y) [.d y2Y (ai ((Int.gcd (ae x) (ae y):Nat):Int))] λh=>by
 refine da Hh (show vd.Res _ _ _ from ?_);obtain⟨hx,hy⟩:=h;obtain⟨x0,_,_⟩:=cH hx;obtain⟨y0,_,_⟩:=cH hy;have ex:((ae x).natAbs:Int)=val x.2:=by rw[bO];unfold cf;cases x.1<;>simp<;>omega
 have ey:((ae y).natAbs:Int)=val y.2:=by rw[bO];unfold cf;cases y.1<;>simp<;>omega
 have cx:=qg hx.1;have cy:=qg hy.1;rw[show(val x.2).toNat=(ae x).natAbs by omega]at cx;rw[show(val y.2).toNat=(ae y).natAbs by omega]at cy;obtain⟨n1,h1⟩:=Ll x y (ae y).natAbs (ae x).natAbs (by rw[<-cx];exact hx.2.2) (by rw[<-cy];exact hy.2.2);rw[<-cx,<-cy]at h1;exact acI _ _ ⟨n1,h1 n1 (am2 _)⟩
section
abbrev tI:Ty:=.st (.pair .bool aqg)
abbrev tR:Ty:=.st (.pair tI tI)
abbrev tV:Ty:=.st (.pair tR tR)
abbrev tO:Ty:=.st (.pair tR (.pair tR tR))
abbrev tP:Ty:=.st (.pair tR (.pair tR (.pair tR (.pair tR tR))))
abbrev tQ:Ty:=.st (.pair tR (.pair tR (.pair tR (.pair tR (.pair tR tR)))))
abbrev tG:Ty:=.st (.pair aqh aqh)
abbrev BV:=BR×BR
abbrev BO3:=BR×BR×BR
abbrev BP:=BR×BR×BR×BR×BR
abbrev BQ:=BR×BR×BR×BR×BR×BR
abbrev hAd(a b:BR):BR:=hid (ao (ah a+ah b))
abbrev hSu(a b:BR):BR:=hid (ao (ah a-ah b))
abbrev hMu(a b:BR):BR:=hid (ao (ah a*ah b))
abbrev hDi(a b:BR):BR:=hid (ao (ah a/ah b))
abbrev hNe(a:BR):BR:=hid (ao (-ah a))
class Cod (α:Type) (A:outParam Type) where
 enc:α->A
 dec:A->α
 bd:Nat->α->Prop
 ok:Nat->A->Prop
 okD:∀k x,Decidable (ok k x)
 mono:∀j k x,j<=k->bd j x->bd k x
 dec_enc:∀x,dec (enc x)=x
 ok_enc:∀k x,k<=480000->bd k x->ok k (enc x)
 ok_dec:∀k x,ok k x->x=enc (dec x)/\bd k (dec x)
def enc{α A:Type}[Cod α A](x:α):A:=Cod.enc x
def dec{α A:Type}[Cod α A](x:A):α:=Cod.dec x
def ok(α:Type){A:Type}[Cod α A](k:Nat)(x:A):Prop:=Cod.ok (α:=α) k x
instance (α A:Type) [Cod α A] (k:Nat) (x:A):Decidable (ok α k x):=Cod.okD k x
theorem aA{α A:Type}[Cod α A](x:α):dec (enc x)=x:=Cod.dec_enc x
class Bd {α A:Type} [Cod α A] (x:α) (k:outParam Nat):Prop where le:Cod.bd k x
theorem aD{α A:Type}[Cod α A]{k:Nat}{x:A}(h:ok α k x):∃v:α,x=enc v/\Bd v k:=⟨_,(Cod.ok_dec k x h).1,⟨(Cod.ok_dec k x h).2⟩⟩
theorem okd{α A:Type}[Cod α A]{x:α}{j k:Nat}[h:Bd x j](hj:j<=k)(hk:k<=480000):decide (ok α k (enc x))=true:=
 amW (Cod.ok_enc k x hk (Cod.mono j k x hj h.le))
instance alE:Cod Rat BR where
 enc:=ao
 dec:=ah
 bd:=bdR
 ok k x:=okR x/\x.1.2.length<=k/\x.2.2.length<=k
 okD _ _:=instDecidableAnd
 mono _ _ _ hk h:=bJ h hk
 dec_enc:=ct
 ok_enc k _ hk h:=⟨rD h hk,h.1,h.2⟩
 ok_dec k x h:=by
  obtain⟨h1,h2,h3⟩:=h;refine⟨Ra h1,?_⟩;obtain⟨e1,e2⟩:=cS h1;unfold bdR szI;rw[e1,e2];rw[iY h1.1]at h2;rw[iY h1.2.1]at h3;exact⟨h2,h3⟩
instance al7:Cod Int Int where
 enc x:=x
 dec x:=x
 bd _ x:=aI x
 ok _ x:=aI x
 okD _ _:=inferInstance
 mono _ _ _ _ h:=h
 dec_enc _:=rfl
 ok_enc _ _ _ h:=h
 ok_dec _ _ h:=⟨rfl,h⟩
instance akG:Cod Bool Bool where
 enc x:=x
 dec x:=x
 bd _ _:=True
 ok _ _:=True
 okD _ _:=inferInstance
 mono _ _ _ _ h:=h
 dec_enc _:=rfl
 ok_enc _ _ _ h:=h
 ok_dec _ _ h:=⟨rfl,h⟩
instance akw (α β A B:Type) [Cod α A] [Cod β B]:Cod (α×β) (A×B) where
 enc x:=(enc x.1,enc x.2)
 dec x:=(dec x.1,dec x.2)
 bd k x:=Cod.bd k x.1/\Cod.bd k x.2
 ok k x:=ok α k x.1/\ok β k x.2
 okD _ _:=instDecidableAnd
 mono _ _ _ hk h:=⟨Cod.mono _ _ _ hk h.1,Cod.mono _ _ _ hk h.2⟩
 dec_enc x:=by rw[aA,aA]
 ok_enc k _ hk h:=⟨Cod.ok_enc _ _ hk h.1,Cod.ok_enc _ _ hk h.2⟩
 ok_dec k x h:=⟨anx (Cod.ok_dec k x.1 h.1).1 (Cod.ok_dec k x.2 h.2).1,(Cod.ok_dec k x.1 h.1).2,(Cod.ok_dec k x.2 h.2).2⟩
theorem nr{α:Type}{a b:α}(h:a=b):a=b:=h
theorem t7{α β A B:Type}[Cod α A][Cod β B](x:α×β):(enc x).1=enc x.1:=nr rfl
theorem CY{α β A B:Type}[Cod α A][Cod β B](x:α×β):(enc x).2=enc x.2:=nr rfl
theorem aC{α β A B:Type}[Cod α A][Cod β B](x:α)(y:β):enc (x,y)=(enc x,enc y):=nr rfl
theorem fd(q:Rat):enc q=ao q:=nr rfl
theorem I0(x:BR):dec x=ah x:=nr rfl
theorem Kr(q:Int):enc q=q:=nr rfl
theorem EM(q:Bool):enc q=q:=nr rfl
theorem Io{q:Rat}{j:Nat}[h:Bd q j](hj:j<=480000):decide (okR (ao q))=true:=amW (rD h.le hj)
def mx(j k:Nat):Nat:=bif decide (j<=k)then k else j
theorem Bo(j k:Nat):j<=mx j k:=by
 unfold mx;by_cases h:j<=k
 ·rw[amW h];exact h
 ·rw[amY h];exact am2 _
theorem B9(j k:Nat):k<=mx j k:=by
 unfold mx;by_cases h:j<=k
 ·rw[amW h];exact am2 _
 ·rw[amY h];show k<=j;omega
theorem mK{q:Rat}{j k:Nat}[h:Bd q j](hj:j<=k)(hk:k<=480000):decide (ok Rat k (ao q))=true:=okd (x:=q) hj hk
section
variable {α β A B:Type} [Cod α A] [Cod β B]
instance amb {x:α×β} {k:Nat} [h:Bd x k]:Bd x.1 k:=⟨h.le.1⟩
instance alW {x:α×β} {k:Nat} [h:Bd x k]:Bd x.2 k:=⟨h.le.2⟩
instance amC {x:α} {y:β} {j k:Nat} [h:Bd x j] [h':Bd y k]:Bd (x,y) (mx j k):=⟨Cod.mono _ _ _ (Bo _ _) h.le,Cod.mono _ _ _ (B9 _ _) h'.le⟩
instance akE {b:Bool} {x y:α} {j k:Nat} [h:Bd x j] [h':Bd y k]:Bd (bif b then x else y) (mx j k):=by
 refine⟨?_⟩;cases b
 ·exact Cod.mono _ _ _ (B9 _ _) h'.le
 ·exact Cod.mono _ _ _ (Bo _ _) h.le
theorem Bd.mono{x:α}{j k:Nat}(h:Bd x j)(hk:j<=k):Bd x k:=⟨Cod.mono _ _ _ hk h.le⟩
end
section
variable {a b:Rat} {j k:Nat}
instance alp [h:Bd a j] [h':Bd b k]:Bd (a+b) (j+k+1):=⟨C7 h.le h'.le⟩
instance amu [h:Bd a j] [h':Bd b k]:Bd (a-b) (j+k+1):=⟨UO h.le h'.le⟩
instance alC [h:Bd a j] [h':Bd b k]:Bd (a*b) (j+k):=⟨C8 h.le h'.le⟩
instance akO [h:Bd a j]:Bd (-a) j:=⟨w7 h.le⟩
theorem pK(h:bdR k b):1<=k:=by
 have h1:=h.2;have h2:=Hq (b.den:Int);have h3:=b.den_pos;rcases anQ k with e|e
 ·subst e;have:szI (b.den:Int)=0:=by omega
  rw[this]at h2;have:pw 0=1:=rfl;omega
 ·exact e
instance alN [h:Bd a j] [h':Bd b k]:Bd (a/b) (j+k):=by
 refine⟨?_⟩;by_cases h0:b=0
 ·subst h0;rw[aoU,Rat.inv_zero,Rat.mul_zero];have:=pK h'.le;exact bJ (j:=1) ⟨by decide+kernel,by decide+kernel⟩ (by omega)
 ·exact WL h.le h'.le h0
end
theorem cN{n:Int}(h:aI n):Bd (n:Rat) 3:=by
 refine⟨?_⟩;show bdR 3 (n:Rat);refine⟨?_,?_⟩
 ·rw[Rat.num_intCast];have:pw 3=1000000000000000000000000000:=by decide
  exact fL (by have:=h.1;omega) (by have:=h.2;omega)
 ·rw[Rat.den_intCast];exact fL (by decide) (by decide)
instance mN:Bd (0:Rat) 1:=⟨⟨by decide+kernel,by decide+kernel⟩⟩
theorem fD{x:BR}(h:okR x):∃q:Rat,x=ao q/\Bd q 480000:=⟨ah x,Ra h,⟨Da h⟩⟩
def cD(a b:Rat×Rat):Rat×Rat:=(b.1-a.1,b.2-a.2)
def aW(a b:Rat×Rat):Rat:=a.1*b.1+a.2*b.2
instance akX {a b:Rat×Rat} {j k:Nat} [Bd a j] [Bd b k]:Bd (cD a b) (k+j+1):=
 ⟨(inferInstance:Bd (b.1-a.1) (k+j+1)).le,(inferInstance:Bd (b.2-a.2) (k+j+1)).le⟩
instance alw {a b:Rat×Rat} {j k:Nat} [Bd a j] [Bd b k]:Bd (aW a b) ((j+k)+(j+k)+1):=inferInstanceAs (Bd (a.1*b.1+a.2*b.2) _)
end
def Nf:List En:=[enK Cs,enK C9,enK NK,enF Px,enF QC,enK LV,enK M3,enK RY]
def Q2(_k:KT):OLR:=og (decide (aI (1:Int))) (some [RV.d y2Y (ai (1:Int))])
def NM:Cn 80 []:=cn<|lf True [.d y2Y (ai 1)] λ_=>by
 refine aB Nf (Q2) ⟨0,?_⟩;unfold Q2;rw[dT (show aI 1 by decide)]
def LP:List En:=enK NM::Nf
def aa3(x y:Bool×List Int)(_k:KT):OLR:=og (decide (okI y)) (match decide ((cr (ae y) 0)<0)with|true=>(og (decide (okI x)) (og (decide (okI y)) (og (decide (okI (ai (-ae x))/\okI (ai (-ae y)))) (og (decide (fN (ai (-ae x)) (ai ((Int.gcd (ae (ai (-ae x))) (ae (ai (-ae y))):Nat):Int)))) (og (decide (fN (ai (-ae y)) (ai ((Int.gcd (ae (ai (-ae x))) (ae (ai (-ae y))):Nat):Int)))) (some [RV.d (.st (.pair y2Y y2Y)) ((ai (ae (ai (-ae x))/ae (ai ((Int.gcd (ae (ai (-ae x))) (ae (ai (-ae y))):Nat):Int)))),(ai (ae (ai (-ae y))/ae (ai ((Int.gcd (ae (ai (-ae x))) (ae (ai (-ae y))):Nat):Int)))))]))))))|false=>(og (decide (okI x/\okI y)) (og (decide (fN x (ai ((Int.gcd (ae x) (ae y):Nat):Int)))) (og (decide (fN y (ai ((Int.gcd (ae x) (ae y):Nat):Int)))) (some [RV.d (.st (.pair y2Y y2Y)) ((ai (ae x/ae (ai ((Int.gcd (ae x) (ae y):Nat):Int)))),(ai (ae y/ae (ai ((Int.gcd (ae x) (ae y):Nat):Int)))))])))))
def Z1:Cn 62 [y2Y,y2Y]:=cn λ(x y:Bool×List Int)=>lf (kz x y) [.d (.st (.pair y2Y y2Y)) (fJ x y)] λh=>by
 refine aB LP (aa3 x y) ⟨0,?_⟩;obtain⟨hx,hy,hne⟩:=h;have sx:=jA hx;have sy:=jA hy;have hgp:0<Int.gcd (ae x) (ae y):=Nat.pos_of_ne_zero λe=>hne (Int.gcd_eq_zero_iff.1 e).2;have hgs:=M8 (a:=ae x) hne sy;have og:okI (ai ((Int.gcd (ae x) (ae y):Nat):Int)):=aX hgs;have o1:okI (ai (-ae x)):=aX (by rw[jI];exact sx);have o2:okI (ai (-ae y)):=aX (by rw[jI];exact sy);have ig:∀z:BI,okI z->fN z (ai ((Int.gcd (ae x) (ae y):Nat):Int)):=λz hz=>⟨hz,og,by rw[dec_enc];omega⟩
 unfold aa3 fJ;rw[dT hy];rcases aoL hne with hn|hn
 ·rw[dl hn,dT (show(-1:Int)<0 by decide),dT hx];simp only[dec_enc,Int.gcd_neg,Int.neg_gcd];rw[dT (show okI (ai (-ae x))/\okI (ai (-ae y)) from⟨o1,o2⟩),dT (ig _ o1),dT (ig _ o2),<-Rat.neg_divInt_neg,pz (by omega),Int.gcd_neg,Int.neg_gcd]
 ·rw[cU hn,dF (show ¬(1:Int)<0 by decide)];simp only[dec_enc];rw[dT (show okI x/\okI y from⟨hx,hy⟩),dT (ig _ hx),dT (ig _ hy),pz hn]
def qv:List En:=enK Z1::LP
def Ma(a:(Bool×List Int)×Bool×List Int)(_k:KT):OLR:=og (decide (okI a.1)) (some [RV.d aqh (cr (ae a.1) 0)])
def L5(n:Int)(_k:KT):OLR:=og (decide (aI n)) (some [RV.d (.st (.pair y2Y y2Y)) ((ai n),(ai 1))])
def PO(a b:(Bool×List Int)×Bool×List Int)(_k:KT):OLR:=og (decide (okI a.1/\okI b.2)) (og (decide (okI b.1/\okI a.2)) (og (decide (okI (ai (ae a.1*ae b.2))/\okI (ai (ae b.1*ae a.2)))) (some [RV.d aqh (cr (ae (ai (ae a.1*ae b.2))) (ae (ai (ae b.1*ae a.2))))])))
def LS(a b:(Bool×List Int)×Bool×List Int)(_k:KT):OLR:=og (decide (okI a.1/\okI b.2)) (og (decide (okI b.1/\okI a.2)) (og (decide (okI (ai (ae a.1*ae b.2))/\okI (ai (ae b.1*ae a.2)))) (og (decide (okI a.2/\okI b.2)) (og (decide (kz (ai (ae (ai (ae a.1*ae b.2))+ae (ai (ae b.1*ae a.2)))) (ai (ae a.2*ae b.2)))) (some [RV.d (.st (.pair y2Y y2Y)) (((fJ (ai (ae (ai (ae a.1*ae b.2))+ae (ai (ae b.1*ae a.2)))) (ai (ae a.2*ae b.2))).1),((fJ (ai (ae (ai (ae a.1*ae b.2))+ae (ai (ae b.1*ae a.2)))) (ai (ae a.2*ae b.2))).2))])))))
def Sc(a b:(Bool×List Int)×Bool×List Int)(_k:KT):OLR:=og (decide (okI a.1/\okI b.1)) (og (decide (okI a.2/\okI b.2)) (og (decide (kz (ai (ae a.1*ae b.1)) (ai (ae a.2*ae b.2)))) (some [RV.d (.st (.pair y2Y y2Y)) (((fJ (ai (ae a.1*ae b.1)) (ai (ae a.2*ae b.2))).1),((fJ (ai (ae a.1*ae b.1)) (ai (ae a.2*ae b.2))).2))])))
def Sd(a:(Bool×List Int)×Bool×List Int)(_k:KT):OLR:=og (decide (okI a.1)) (some [RV.d (.st (.pair y2Y y2Y)) ((ai (-ae a.1)),a.2)])
def M9(x y:Bool×List Int)(_k:KT):OLR:=og (decide (okI y)) (match(cr (ae y) 0)==0 with|true=>some [RV.d (.st (.pair y2Y y2Y)) ((false,[]),(false,[])),RV.d aqh 6]|false=>(og (decide (kz x y)) (some [RV.d (.st (.pair y2Y y2Y)) (((fJ x y).1),((fJ x y).2)),RV.d aqh 0])))
def aeC:Cn 314 [y2Y,y2Y]:=cn λ(x y:Bool×List Int)=>lf (kz x y) [.d (.st (.pair y2Y y2Y)) (fJ x y),.d aqh 0] λh=>by
 refine aB qv (M9 x y) ⟨0,?_⟩;obtain⟨hx,hy,hne⟩:=h
 have hnz:(cr (ae y) 0==0)=false:=by
  rcases aoL hne with h|h
  ·rw[dl h];rfl
  ·rw[cU h];rfl
 unfold M9;rw[dT hy,hnz,dT (show kz x y from⟨hx,hy,hne⟩)]
def Ig:List En:=enK aeC::qv
def SH(a b:(Bool×List Int)×Bool×List Int)(_k:KT):OLR:=match decide (okI a.1/\okI b.2)with|true=>(match decide (okI a.2/\okI b.1)with|true=>(match decide (kz (ai (ae a.1*ae b.2)) (ai (ae a.2*ae b.1)))with|true=>some [RV.d (.st (.pair y2Y y2Y)) (((fJ (ai (ae a.1*ae b.2)) (ai (ae a.2*ae b.1))).1),((fJ (ai (ae a.1*ae b.2)) (ai (ae a.2*ae b.1))).2)),RV.d aqh 0]|false=>none)|false=>none)|false=>none
def pJ:Cn 46 [(.st (.pair y2Y y2Y))]:=cn λ(a:(Bool×List Int)×Bool×List Int)=>lf (okR a) [.d aqh (aE (ah a) 0)] λh=>by
 refine aB qv (Ma a) ⟨0,?_⟩;unfold Ma;rw[dT h.1,<-vK,(cS h).1]
def n9:Cn 25 [aqh]:=cn λ(n:Int)=>lf (aI n) [.d (.st (.pair y2Y y2Y)) (ao (n:Rat))] λh=>by
 refine aB qv (L5 n) ⟨0,?_⟩;unfold L5 ao;rw[dT h,Rat.num_intCast,Rat.den_intCast];rfl
def wq:Cn 185 [(.st (.pair y2Y y2Y)),(.st (.pair y2Y y2Y))]:=cn λ(a b:(Bool×List Int)×Bool×List Int)=>lf (okR a/\okR b) [.d aqh (aE (ah a) (ah b))] λh=>by
 refine aB qv (PO a b) ⟨0,?_⟩;obtain⟨ha,hb⟩:=h;obtain⟨a1,a2⟩:=cS ha;obtain⟨b1,b2⟩:=cS hb;obtain⟨sa1,sa2⟩:=gS ha;obtain⟨sb1,sb2⟩:=gS hb;have h1:=cV sa1 sb2;have h2:=cV sb1 sa2;unfold PO;rw[dT (show okI a.1/\okI b.2 from⟨ha.1,hb.2.1⟩),dT (show okI b.1/\okI a.2 from⟨hb.1,ha.2.1⟩),dT (show okI (ai (ae a.1*ae b.2))/\okI (ai (ae b.1*ae a.2)) from⟨aX (by omega),aX (by omega)⟩),dec_enc,dec_enc,<-a1,<-a2,<-b1,<-b2,xO]
def tC:Cn 199 [(.st (.pair y2Y y2Y))]:=cn λ(a:(Bool×List Int)×Bool×List Int)=>lf (okR a) [.d (.st (.pair y2Y y2Y)) (ao (-ah a))] λh=>by
 refine aB qv (Sd a) ⟨0,?_⟩;obtain⟨a1,a2⟩:=cS h;unfold Sd
 have e:ao (-ah a)=(ai (-ae a.1),a.2):=by
  unfold ao;rw[Rat.neg_num,a1,show((-ah a).den:Int)=((ah a).den:Int) from rfl,a2,<-iY h.2.1]
 rw[dT h.1,e]
def oN:Cn 19 [(.st (.pair y2Y y2Y)),(.st (.pair y2Y y2Y))]:=cn λ(a b:(Bool×List Int)×Bool×List Int)=>lf (okR a/\okR b) [.d (.st (.pair y2Y y2Y)) (ao (ah a+ah b))] λh=>by
 refine aB qv (LS a b) ⟨0,?_⟩;obtain⟨ha,hb⟩:=h;obtain⟨a1,a2⟩:=cS ha;obtain⟨b1,b2⟩:=cS hb;obtain⟨sa1,sa2⟩:=gS ha;obtain⟨sb1,sb2⟩:=gS hb;have pa:=ha.2.2.1;have pb:=hb.2.2.1;have h1:=cV sa1 sb2;have h2:=cV sb1 sa2;have h3:=cV sa2 sb2;have h4:=xj h1 h2;have hda:ah a=Rat.divInt (ae a.1) (ae a.2):=by rw[<-a1,<-a2,an0]
 have hdb:ah b=Rat.divInt (ae b.1) (ae b.2):=by rw[<-b1,<-b2,an0]
 unfold LS;rw[dT (show okI a.1/\okI b.2 from⟨ha.1,hb.2.1⟩),dT (show okI b.1/\okI a.2 from⟨hb.1,ha.2.1⟩),dT (show okI (ai (ae a.1*ae b.2))/\okI (ai (ae b.1*ae a.2)) from⟨aX (by omega),aX (by omega)⟩),dT (show okI a.2/\okI b.2 from⟨ha.2.1,hb.2.1⟩)];simp only[dec_enc];rw[dT (show kz (ai (ae a.1*ae b.2+ae b.1*ae a.2)) (ai (ae a.2*ae b.2)) from⟨aX (by omega),aX (by omega),by rw[dec_enc];exact apz (by omega) (by omega)⟩)]
 have e:fJ (ai (ae a.1*ae b.2+ae b.1*ae a.2)) (ai (ae a.2*ae b.2))=ao (ah a+ah b):=by
  unfold fJ;rw[dec_enc,dec_enc,hda,hdb,Rat.divInt_add_divInt _ _ (by omega) (by omega)]
 rw[e]
def qH:Cn 83 [(.st (.pair y2Y y2Y)),(.st (.pair y2Y y2Y))]:=cn λ(a b:(Bool×List Int)×Bool×List Int)=>lf (okR a/\okR b) [.d (.st (.pair y2Y y2Y)) (ao (ah a*ah b))] λh=>by
 refine aB qv (Sc a b) ⟨0,?_⟩;obtain⟨ha,hb⟩:=h;obtain⟨a1,a2⟩:=cS ha;obtain⟨b1,b2⟩:=cS hb;obtain⟨sa1,sa2⟩:=gS ha;obtain⟨sb1,sb2⟩:=gS hb;have pa:=ha.2.2.1;have pb:=hb.2.2.1;have h1:=cV sa1 sb1;have h3:=cV sa2 sb2;have hda:ah a=Rat.divInt (ae a.1) (ae a.2):=by rw[<-a1,<-a2,an0]
 have hdb:ah b=Rat.divInt (ae b.1) (ae b.2):=by rw[<-b1,<-b2,an0]
 unfold Sc;rw[dT (show okI a.1/\okI b.1 from⟨ha.1,hb.1⟩),dT (show okI a.2/\okI b.2 from⟨ha.2.1,hb.2.1⟩),dT (show kz (ai (ae a.1*ae b.1)) (ai (ae a.2*ae b.2)) from⟨aX (by omega),aX (by omega),by rw[dec_enc];exact apz (by omega) (by omega)⟩)]
 have e:fJ (ai (ae a.1*ae b.1)) (ai (ae a.2*ae b.2))=ao (ah a*ah b):=by
  unfold fJ;rw[dec_enc,dec_enc,hda,hdb,apA]
 rw[e]
def Gd:Cn 271 [(.st (.pair y2Y y2Y)),(.st (.pair y2Y y2Y))]:=cn λ(a b:(Bool×List Int)×Bool×List Int)=>lf (iS a b) [.d (.st (.pair y2Y y2Y)) (ao (ah a/ah b)),.d aqh 0] λh=>by
 refine aB Ig (SH a b) ⟨0,?_⟩;obtain⟨ha,hb,hne⟩:=h;obtain⟨a1,a2⟩:=cS ha;obtain⟨b1,b2⟩:=cS hb;obtain⟨sa1,sa2⟩:=gS ha;obtain⟨sb1,sb2⟩:=gS hb;have pa:=ha.2.2.1;have h1:=cV sa1 sb2;have h3:=cV sa2 sb1;have hda:ah a=Rat.divInt (ae a.1) (ae a.2):=by rw[<-a1,<-a2,an0]
 have hdb:ah b=Rat.divInt (ae b.1) (ae b.2):=by rw[<-b1,<-b2,an0]
 have hmz:ae a.2*ae b.1≠0:=apz (by omega) hne;unfold SH;rw[dT (show okI a.1/\okI b.2 from⟨ha.1,hb.2.1⟩),dT (show okI a.2/\okI b.1 from⟨ha.2.1,hb.1⟩)];simp only;rw[dT (show kz (ai (ae a.1*ae b.2)) (ai (ae a.2*ae b.1)) from⟨aX (by omega),aX (by omega),by rw[dec_enc];exact hmz⟩)]
 have e:fJ (ai (ae a.1*ae b.2)) (ai (ae a.2*ae b.1))=ao (ah a/ah b):=by
  unfold fJ;rw[dec_enc,dec_enc,hda,hdb,aoU,Rat.inv_divInt,apA]
 rw[e]
def Pc:List En:=enK oN::enK tC::enK Gd::Ig
def Rq(a b:(Bool×List Int)×Bool×List Int)(_k:KT):OLR:=match decide (okR b)with|true=>(match decide (okR a/\okR (ao (-ah b)))with|true=>some [RV.d (.st (.pair y2Y y2Y)) (((ao (ah a+ah (ao (-ah b)))).1),((ao (ah a+ah (ao (-ah b)))).2))]|false=>none)|false=>none
def QX(a b:(Bool×List Int)×Bool×List Int)(_k:KT):OLR:=og (decide (iS a b)) (some [RV.d (.st (.pair y2Y y2Y)) (((ao (ah a/ah b)).1),((ao (ah a/ah b)).2))])
def sL:Cn 140 [(.st (.pair y2Y y2Y)),(.st (.pair y2Y y2Y))]:=cn λ(a b:(Bool×List Int)×Bool×List Int)=>lf (okR a/\okR b) [.d (.st (.pair y2Y y2Y)) (ao (ah a-ah b))] λh=>by
 refine aB Pc (Rq a b) ⟨0,?_⟩;obtain⟨ha,hb⟩:=h;unfold Rq;rw[dT hb,ct,apq,dT (show okR a/\okR (ao (-ah b)) from⟨ha,rD (w7 (Da hb)) (am2 _)⟩)]
def Pm:Cn 296 [(.st (.pair y2Y y2Y)),(.st (.pair y2Y y2Y))]:=cn λ(a b:(Bool×List Int)×Bool×List Int)=>lf (iS a b) [.d (.st (.pair y2Y y2Y)) (ao (ah a/ah b))] λh=>by
 refine aB Pc (QX a b) ⟨0,?_⟩;unfold QX;rw[dT h]
theorem iZ{a b:Rat}{j k:Nat}[ha:Bd a j][hb:Bd b k](hj:j<=480000)(hk:k<=480000)(h:b≠0):decide (iS (ao a) (ao b))=true:=
 amW ⟨rD ha.le hj,rD hb.le hk,by show ae (ai b.num)≠0;rw[dec_enc];exact λe=>h (Rat.num_eq_zero.1 e)⟩
theorem aU:type_of% @dY/\type_of% @cX/\type_of% @fy/\type_of% @bL/\type_of% @aA/\type_of% @t7/\type_of% @CY/\type_of% @fd/\type_of% @Kr/\type_of% @EM/\type_of% @I0/\type_of% @ct/\type_of% @aha/\type_of% @aj9/\type_of% @aiz/\type_of% @okd/\type_of% @mK/\type_of% @Io/\type_of% @iZ/\type_of% @aoT/\type_of% @Bool.and_true/\type_of% @aos/\type_of% @aog/\type_of% @mx.eq_1/\type_of% @decide_true/\type_of% @decide_false/\(∀{α:Type} (a b:α),cond true a b=a)/\∀{α:Type} (a b:α),cond false a b=b:=
 ⟨@dY,@cX,@fy,@bL,@aA,@t7,@CY,@fd,@Kr,@EM,@I0,@ct,@aha,@aj9,@aiz,@okd,@mK,@Io,@iZ,@aoT,@Bool.and_true,@aos,@aog,@mx.eq_1,@decide_true,@decide_false,@cond_true,@cond_false⟩
theorem az(a b:Rat):decide (aE a b>0)=decide (b<a):=by
 rcases(by grind:a<b\/a=b\/b<a)with h|h|h
 ·rw[dQ h,amY (show ¬b<a by grind)];rfl
 ·rw[h,eE,amY (show ¬b<b by grind)];rfl
 ·rw[dJ h,amW h];rfl
theorem au(a b:Rat):decide (aE a b<0)=decide (a<b):=by
 rcases(by grind:a<b\/a=b\/b<a)with h|h|h
 ·rw[dQ h,amW h];rfl
 ·rw[h,eE,amY (show ¬b<b by grind)];rfl
 ·rw[dJ h,amY (show ¬a<b by grind)];rfl
theorem aks(a b:Rat):decide (aE a b>=0)=decide (b<=a):=by
 rcases(by grind:a<b\/a=b\/b<a)with h|h|h
 ·rw[dQ h,amY (show ¬b<=a by grind)];rfl
 ·rw[h,eE,amW (show b<=b by grind)];rfl
 ·rw[dJ h,amW (show b<=a by grind)];rfl
theorem yT(a b:Rat):decide (aE a b<=0)=decide (a<=b):=by
 rcases(by grind:a<b\/a=b\/b<a)with h|h|h
 ·rw[dQ h,amW (show a<=b by grind)];rfl
 ·rw[h,eE,amW (show b<=b by grind)];rfl
 ·rw[dJ h,amY (show ¬a<=b by grind)];rfl
theorem aq(a b:Rat):(aE a b==0)=decide (a=b):=by
 rcases(by grind:a<b\/a=b\/b<a)with h|h|h
 ·rw[dQ h,amY (show ¬a=b by grind)];rfl
 ·rw[h,eE,amW rfl];rfl
 ·rw[dJ h,amY (show ¬a=b by grind)];rfl
theorem kI(a b:Rat): -1<=aE a b/\aE a b<=1:=by
 rcases(by grind:a<b\/a=b\/b<a)with h|h|h
 ·rw[dQ h];decide
 ·rw[h,eE];decide
 ·rw[dJ h];decide
theorem qT{a b c d:Rat}:i64.wrap (aE a b*aE c d)=aE a b*aE c d:=by
 rcases(by grind:a<b\/a=b\/b<a)with h|h|h<;>rcases(by grind:c<d\/c=d\/d<c)with h'|h'|h';all_goals first|rw[dQ h]|(subst h;rw[eE])|rw[dJ h]
 all_goals first|rw[dQ h']|(subst h';rw[eE])|rw[dJ h']
 all_goals decide
def jw:eM:=spN false true [tR,tR] (λx=>decide (okR x.1/\okR x.2.1)) (λx=>[RV.d tR (hAd x.1 x.2.1)])
theorem fO:SpK 132 jw:=spX λx h=>by simp only[bL];exact Kt x.1 x.2.1 (amZ h)
def je:eM:=spN false true [tR,tR] (λx=>decide (okR x.1/\okR x.2.1)) (λx=>[RV.d tR (hSu x.1 x.2.1)])
theorem fH:SpK 65 je:=spX λx h=>by simp only[bL];exact WP x.1 x.2.1 (amZ h)
def iA:eM:=spN false true [tR,tR] (λx=>decide (okR x.1/\okR x.2.1)) (λx=>[RV.d tR (hMu x.1 x.2.1)])
theorem fi:SpK 67 iA:=spX λx h=>by simp only[bL];exact UZ x.1 x.2.1 (amZ h)
def xY:eM:=spN false true [tR,tR] (λx=>decide (iS x.1 x.2.1)) (λx=>[RV.d tR (hDi x.1 x.2.1),RV.d aqh 0])
theorem ui:SpK 245 xY:=spX λx h=>by simp only[bL];exact Xd x.1 x.2.1 (amZ h)
def gi:eM:=spN true true [tR] (λx=>decide (okR x.1)) (λx=>[RV.d aqh (aE (ah x.1) 0)])
theorem eg:SpK 54 gi:=spX λx h=>JN x.1 (amZ h)
def mX:eM:=spN true true [tR,tR] (λx=>decide (okR x.1/\okR x.2.1)) (λx=>[RV.d aqh (aE (ah x.1) (ah x.2.1))])
theorem ji:SpK 66 mX:=spX λx h=>V9 x.1 x.2.1 (amZ h)
def jh:eM:=spN false true [aqh] (λx=>decide (aI x.1)) (λx=>[RV.d tR (hid (ao (x.1:Rat)))])
theorem fE:SpK 125 jh:=spX λx h=>by simp only[bL];exact WC x.1 (amZ h)
def Dx:List En:=[⟨132,jw,fO⟩,⟨65,je,fH⟩,⟨67,iA,fi⟩,⟨245,xY,ui⟩,⟨54,gi,eg⟩,⟨66,mX,ji⟩,⟨125,jh,fE⟩]
def Rl:Cn 122 [tR,tR]:=cn λ(a b:BR)=>lf (okR a/\okR b) [.d tR (ao (ah a+ah b))] λh=>kB [RV.d tR (hAd a b)] (dL Dx) h
def IG:Cn 121 [tR,tR]:=cn λ(a b:BR)=>lf (okR a/\okR b) [.d tR (ao (ah a-ah b))] λh=>kB [RV.d tR (hSu a b)] (dL Dx) h
def Mj:Cn 123 [tR,tR]:=cn λ(a b:BR)=>lf (okR a/\okR b) [.d tR (ao (ah a*ah b))] λh=>kB [RV.d tR (hMu a b)] (dL Dx) h
def ZE(a b:BR)(_k:KT):OLR:=og (decide (iS a b)) (match 0 !=0 with|true=>(og (decide (aI (0:Int))) (some [RV.d tR (hid (ao ((0:Int):Rat)))]))|false=>some [RV.d tR (hDi a b)])
def SP:Cn 230 [tR,tR]:=cn λ(a b:BR)=>lf (iS a b) [.d tR (ao (ah a/ah b))] λh=>by
 refine aB Dx (ZE a b) ⟨0,?_⟩;unfold ZE;rw[dT h];simp only[bL];rfl
def ZS:List En:=enL Rl::enL IG::enL Mj::enL SP::Dx
def abi(a b:BV)(_k:KT):OLR:=og (o2 b.1 a.1) (og (o2 b.2 a.2) (some [RV.d tV (hSu b.1 a.1,hSu b.2 a.2)]))
def amG:Cn 293 [tV,tV]:=cn λ(a b:BV)=>lf (ok (Rat×Rat) 1000 a/\ok (Rat×Rat) 1000 b) [.d tV (enc (cD (dec a) (dec b)))] λh=>by
 refine aB ZS (abi a b) ⟨0,?_⟩;obtain⟨ha,hb⟩:=h;obtain⟨a,rfl,ba⟩:=aD ha;obtain⟨b,rfl,bb⟩:=aD hb;unfold abi;simp only[aU,Nat.reduceLeDiff];try rfl
def XN(a b:BV)(_k:KT):OLR:=og (o2 a.1 b.1) (og (o2 a.2 b.2) (og (o2 (hMu a.1 b.1) (hMu a.2 b.2)) (some [RV.d tR (hAd (hMu a.1 b.1) (hMu a.2 b.2))])))
def ajb:Cn 231 [tV,tV]:=cn λ(a b:BV)=>lf (ok (Rat×Rat) 5000 a/\ok (Rat×Rat) 5000 b) [.d tR (ao (aW (dec a) (dec b)))] λh=>by
 refine aB ZS (XN a b) ⟨0,?_⟩;obtain⟨ha,hb⟩:=h;obtain⟨a,rfl,ba⟩:=aD ha;obtain⟨b,rfl,bb⟩:=aD hb;unfold XN;simp only[aU,Nat.reduceAdd,Nat.reduceLeDiff];try rfl
def Jk:List En:=[enL oN,enL sL,enL qH,enL Pm,enT pJ,enT wq,enL n9]
def ZX:Cn 148 [tR,tR]:=cn λ(a b:BR)=>lf (okR a/\okR b) [.d tR (ao (ah a+ah b))] λh=>kB [RV.d tR (hAd a b)] (dL Jk) h
def Yh:Cn 239 [tR,tR]:=cn λ(a b:BR)=>lf (okR a/\okR b) [.d tR (ao (ah a-ah b))] λh=>kB [RV.d tR (hSu a b)] (dL Jk) h
def X4:Cn 60 [tR,tR]:=cn λ(a b:BR)=>lf (okR a/\okR b) [.d tR (ao (ah a*ah b))] λh=>kB [RV.d tR (hMu a b)] (dL Jk) h
def Zm:List En:=enL ZX::enL Yh::enL X4::Jk
def Y7(a b:BV)(_k:KT):OLR:=og (o2 b.1 a.1) (og (o2 b.2 a.2) (some [RV.d tV (hSu b.1 a.1,hSu b.2 a.2)]))
def amE:Cn 144 [tV,tV]:=cn λ(a b:BV)=>lf (ok (Rat×Rat) 1000 a/\ok (Rat×Rat) 1000 b) [.d tV (enc (cD (dec a) (dec b)))] λh=>by
 refine aB Zm (Y7 a b) ⟨0,?_⟩;obtain⟨ha,hb⟩:=h;obtain⟨a,rfl,ba⟩:=aD ha;obtain⟨b,rfl,bb⟩:=aD hb;unfold Y7;simp only[aU,Nat.reduceLeDiff];try rfl
def Yw(a b:BV)(_k:KT):OLR:=og (o2 a.1 b.1) (og (o2 a.2 b.2) (og (o2 (hMu a.1 b.1) (hMu a.2 b.2)) (some [RV.d tR (hAd (hMu a.1 b.1) (hMu a.2 b.2))])))
def ajB:Cn 145 [tV,tV]:=cn λ(a b:BV)=>lf (ok (Rat×Rat) 5000 a/\ok (Rat×Rat) 5000 b) [.d tR (ao (aW (dec a) (dec b)))] λh=>by
 refine aB Zm (Yw a b) ⟨0,?_⟩;obtain⟨ha,hb⟩:=h;obtain⟨a,rfl,ba⟩:=aD ha;obtain⟨b,rfl,bb⟩:=aD hb;unfold Yw;simp only[aU,Nat.reduceAdd,Nat.reduceLeDiff];try rfl
abbrev Rt:=Rat×Rat×Rat
def il(a b m:Rat):Int:=RE.addS (aE a 0) (aE b 0*aE m 0) (aE (a*a) (b*b*m))
def BM(A B C D M N:Rat):Int:=bif decide (M<0)||decide (N<0)then 0
 else RE.addS (il A B M) (il C D M*aE N 0) (il (A*A+B*B*M-N*(C*C+D*D*M)) (2*(A*B-N*(C*D))) M)
def bh(x y:Rt):Int:=BM (x.1-y.1) x.2.1 (-y.2.1) 0 x.2.2 y.2.2
theorem ue(a b:Rat):aE (a-b) 0=aE a b:=by
 rcases(by grind:a<b\/a=b\/b<a)with h|h|h
 ·rw[dQ h,dQ (by grind)]
 ·rw[h,eE,show b-b=0 by grind,eE]
 ·rw[dJ h,dJ (by grind)]
namespace RE
def rq(m:Rat):RE:=kH (of m)
theorem gf(m:Rat):0<=rq m:=dK _
theorem dB{m:Rat}(h:0<=m):rq m*rq m=of m:=gI (fQ.2 h)
theorem Ui{x:RE}(h:0<=x):sg (kH x)=sg x:=by
 have h1:=dK x;have h2:=gI h;rcases cO h1 with h'|h'
 ·rw[dA h',<-h2,dA (mul_pos h' h')]
 ·rw[h',mul_zero]at h2;rw[h',h2]
theorem NF{m:Rat}(h:0<=m):sg (rq m)=aE m 0:=by
 unfold rq;rw[Ui (fQ.2 h),sg_of]
def v2(a b m:Rat):RE:=of a+of b*rq m
def vR(x:Rt):RE:=v2 x.1 x.2.1 x.2.2
theorem sq2(a b s:RE):a*a-b*s*(b*s)=a*a-b*b*(s*s):=by grind
theorem sq4(A B C D s t:RE):(A+B*s)*(A+B*s)-(C+D*s)*t*((C+D*s)*t)=A*A+B*B*(s*s)-t*t*(C*C+D*D*(s*s))+2*(A*B-t*t*(C*D))*s:=by grind
theorem ajE(A B C D s t:RE):A+B*s+(C+D*s)*t=A+B*s+C*t+D*(s*t):=by grind
theorem acM(a b c d s t:RE):a-c+b*s+(-d)*t+0*(s*t)=a+b*s-(c+d*t):=by grind
theorem sgn2_re{a b m:Rat}(h:0<=m):il a b m=sg (v2 a b m):=by
 unfold v2;rw[HJ,sq2,dB h,dp,sg_of,sg_of,NF h,<-of_mul,<-of_mul,<-of_mul,<-of_sub,sg_of,ue];rfl
theorem aeR:of 2=2:=rfl
def vQ(A B C D M N:Rat):RE:=of A+of B*rq M+of C*rq N+of D*(rq M*rq N)
theorem sgnQ_re{A B C D M N:Rat}(hM:0<=M)(hN:0<=N):BM A B C D M N=sg (vQ A B C D M N):=by
 unfold BM vQ;rw[amY (by grind),amY (by grind),<-ajE,HJ,sq4,dB hM,dB hN,dp,NF hN,sgn2_re hM,sgn2_re hM,sgn2_re hM];unfold v2;simp only[of_sub,of_add,of_mul,aeR];rfl
theorem cmpT_re{x y:Rt}(hx:0<=x.2.2)(hy:0<=y.2.2):bh x y=sg (vR x-vR y):=by
 unfold bh vR v2;rw[sgnQ_re hx hy,<-acM,<-of_sub,<-of_neg];rfl
end RE
theorem B4{s t:Int}(hs: -1<=s/\s<=1)(ht: -1<=t/\t<=1): -1<=s*t/\s*t<=1:=by
 have h1:s= -1\/s=0\/s=1:=by omega
 have h2:t= -1\/t=0\/t=1:=by omega
 rcases h1 with rfl|rfl|rfl<;>rcases h2 with rfl|rfl|rfl<;>decide
theorem JS{s t d:Int}(hs: -1<=s/\s<=1)(ht: -1<=t/\t<=1)(hd: -1<=d/\d<=1): -1<=RE.addS s t d/\RE.addS s t d<=1:=by
 unfold RE.addS;cases(t==0||s==t)
 ·cases s==0
  ·exact B4 hs hd
  ·exact ht
 ·exact hs
theorem mA(a b m:Rat): -1<=il a b m/\il a b m<=1:=JS (kI _ _) (B4 (kI _ _) (kI _ _)) (kI _ _)
theorem IT(A B C D M N:Rat): -1<=BM A B C D M N/\BM A B C D M N<=1:=by
 unfold BM;cases(decide (M<0)||decide (N<0))
 ·exact JS (mA _ _ _) (B4 (mA _ _ _) (kI _ _)) (mA _ _ _)
 ·exact⟨by show(-1:Int)<=0;decide,by show(0:Int)<=1;decide⟩
theorem wS(x y:Rt): -1<=bh x y/\bh x y<=1:=IT _ _ _ _ _ _
end Go.Proofs.YtagbmoohboleaaaGreat
end
