/- The reference's integers: parts. -/
import Derived.Test.YtagbmoohboleaaaGreatK9
import Derived.Test.YtagbmoohboleaaaGreatK8
noncomputable section
namespace Go.Proofs.YtagbmoohboleaaaGreat
open Go.RowKit Go.IntKind
theorem anN:type_of% @Prod.ext:=@Prod.ext
section
def Fk(a b:List Int):Prop:=(can a/\a.length<=1000000)/\(can b/\b.length<=1000000)/\b≠[]
instance (a b:List Int):Decidable (Fk a b):=by unfold Fk;infer_instance
def N7:List En:=[enK yJ,enK CY,enF Du,enF yF,enK abf,enK Gx]
def US:NT:=[((242,30),{keep:=[8,9,10,11,12,13,14],pure_:=[(11,.int .u32)],hl:=1}),((242,67),{keep:=[8,9,10,11,12,13,14,16,17],pure_:=[(17,.int .u32)],hl:=1}),((242,90),{keep:=[8,11,12,18,19,20],hl:=2})]
def kK:Ctx:=CX (ens N7) US
def mg(a b:List Int)(x1 x2:Int)(s11:List Int)(s14:Int)(r0:List Int):Cfg:=⟨242,[.blk 0,.seq 82],[(8,.d aqx (u32.wrap (u64.wrap (Int.tdiv 1000000000 (u64.wrap ((u64.wrap x1)+1)))))),(9,.d aqv (ag (val b*(u32.wrap (u64.wrap (Int.tdiv 1000000000 (u64.wrap ((u64.wrap x1)+1)))))).toNat)),(10,.d (.int .u64) (u64.wrap x2)),(11,.d aqv s11),(12,.osl 0 1 ((0:Int).toNat) ((((ag (val a*(u32.wrap (u64.wrap (Int.tdiv 1000000000 (u64.wrap ((u64.wrap x1)+1)))))).toNat).length:Int):Int).toNat-(0:Int).toNat)),(13,.d aqv (ag (val a*(u32.wrap (u64.wrap (Int.tdiv 1000000000 (u64.wrap ((u64.wrap x1)+1)))))).toNat)),(14,SI s14)],[.row 200 aqx r0],0,[]⟩
def fQ(a b:List Int)(x1 x2:Int)(s11:List Int)(s14:Int)(r0:List Int)(x3 s16:Int)(s17:List Int):Cfg:=⟨242,[.blk 2,.seq 78,.blk 1,.seq 81,.lp 30,.blk 0,.seq 82],[(8,.d aqx (u32.wrap (u64.wrap (Int.tdiv 1000000000 (u64.wrap ((u64.wrap x1)+1)))))),(9,.d aqv (ag (val b*(u32.wrap (u64.wrap (Int.tdiv 1000000000 (u64.wrap ((u64.wrap x1)+1)))))).toNat)),(10,.d (.int .u64) (u64.wrap x2)),(11,.d aqv (ag (val (([x3])++s11)).toNat)),(12,.osl 0 1 ((0:Int).toNat) ((((ag (val a*(u32.wrap (u64.wrap (Int.tdiv 1000000000 (u64.wrap ((u64.wrap x1)+1)))))).toNat).length:Int):Int).toNat-(0:Int).toNat)),(13,.d aqv (ag (val a*(u32.wrap (u64.wrap (Int.tdiv 1000000000 (u64.wrap ((u64.wrap x1)+1)))))).toNat)),(14,SI s14),(16,.d (.int .u64) s16),(17,.d aqv s17)],[.row 200 aqx r0],0,[]⟩
def uZ(a:List Int)(x1:Int)(s11 r0:List Int)(s18 s20:Int)(r1:List Int):Cfg:=⟨242,[.blk 4,.seq 105],[(8,.d aqx (u32.wrap (u64.wrap (Int.tdiv 1000000000 (u64.wrap ((u64.wrap x1)+1)))))),(11,.d aqv s11),(12,.osl 0 1 ((0:Int).toNat) ((((ag (val a*(u32.wrap (u64.wrap (Int.tdiv 1000000000 (u64.wrap ((u64.wrap x1)+1)))))).toNat).length:Int):Int).toNat-(0:Int).toNat)),(18,.d (.int .u64) s18),(19,.own 1),(20,SI s20)],[.row 200 aqx r0,.row 200 aqx r1],0,[]⟩
def GN(a b:List Int)(k:KT):OLR:=match decide ((a.length:Int)<=2)with|true=>(match decide ((b.length:Int)<=2)with|true=>(og (decide (uj a)) (og (decide (uj b)) (match decide (val b=(0:Int))with|true=>none|false=>(match decide (val b=(0:Int))with|true=>none|false=>(og (decide (jD (u64.wrap (Int.tdiv (val a) (val b))))) (og (decide (jD (Int.tmod (val a) (val b)))) (some [RV.d aqv (ag (u64.wrap (Int.tdiv (val a) (val b))).toNat),RV.d aqv (ag (Int.tmod (val a) (val b)).toNat)])))))))|false=>(match aS b (i64.wrap ((b.length:Int)-1))with|some x1=>(match decide (u64.wrap ((u64.wrap x1)+1)=(0:Int))with|true=>none|false=>(og (decide (byP b (u32.wrap (u64.wrap (Int.tdiv 1000000000 (u64.wrap ((u64.wrap x1)+1))))))) (match aS (ag (val b*(u32.wrap (u64.wrap (Int.tdiv 1000000000 (u64.wrap ((u64.wrap x1)+1)))))).toNat) (i64.wrap (((ag (val b*(u32.wrap (u64.wrap (Int.tdiv 1000000000 (u64.wrap ((u64.wrap x1)+1)))))).toNat).length:Int)-1))with|some x2=>(og (decide ((0:Int)<=i64.wrap ((a.length:Int)+1)/\(i64.wrap ((a.length:Int)+1))*((4:Nat):Int)<=140737488355328/\i64.wrap ((a.length:Int)+1)<=140737488355328)) (og (decide (byP a (u32.wrap (u64.wrap (Int.tdiv 1000000000 (u64.wrap ((u64.wrap x1)+1))))))) (og (decide ((0:Int)<=0/\0<=((ag (val a*(u32.wrap (u64.wrap (Int.tdiv 1000000000 (u64.wrap ((u64.wrap x1)+1)))))).toNat).length:Int)/\((ag (val a*(u32.wrap (u64.wrap (Int.tdiv 1000000000 (u64.wrap ((u64.wrap x1)+1)))))).toNat).length:Int)<=((List.replicate (i64.wrap ((a.length:Int)+1)).toNat (0:Int)).length:Int))) (k 30 (mg a b x1 x2 ([]) (i64.wrap (((ag (val a*(u32.wrap (u64.wrap (Int.tdiv 1000000000 (u64.wrap ((u64.wrap x1)+1)))))).toNat).length:Int)-1)) (List.replicate (i64.wrap ((a.length:Int)+1)).toNat (0:Int)))))))|none=>none)))|none=>none))|false=>(match aS b (i64.wrap ((b.length:Int)-1))with|some x1=>(match decide (u64.wrap ((u64.wrap x1)+1)=(0:Int))with|true=>none|false=>(og (decide (byP b (u32.wrap (u64.wrap (Int.tdiv 1000000000 (u64.wrap ((u64.wrap x1)+1))))))) (match aS (ag (val b*(u32.wrap (u64.wrap (Int.tdiv 1000000000 (u64.wrap ((u64.wrap x1)+1)))))).toNat) (i64.wrap (((ag (val b*(u32.wrap (u64.wrap (Int.tdiv 1000000000 (u64.wrap ((u64.wrap x1)+1)))))).toNat).length:Int)-1))with|some x2=>(og (decide ((0:Int)<=i64.wrap ((a.length:Int)+1)/\(i64.wrap ((a.length:Int)+1))*((4:Nat):Int)<=140737488355328/\i64.wrap ((a.length:Int)+1)<=140737488355328)) (og (decide (byP a (u32.wrap (u64.wrap (Int.tdiv 1000000000 (u64.wrap ((u64.wrap x1)+1))))))) (og (decide ((0:Int)<=0/\0<=((ag (val a*(u32.wrap (u64.wrap (Int.tdiv 1000000000 (u64.wrap ((u64.wrap x1)+1)))))).toNat).length:Int)/\((ag (val a*(u32.wrap (u64.wrap (Int.tdiv 1000000000 (u64.wrap ((u64.wrap x1)+1)))))).toNat).length:Int)<=((List.replicate (i64.wrap ((a.length:Int)+1)).toNat (0:Int)).length:Int))) (k 30 (mg a b x1 x2 ([]) (i64.wrap (((ag (val a*(u32.wrap (u64.wrap (Int.tdiv 1000000000 (u64.wrap ((u64.wrap x1)+1)))))).toNat).length:Int)-1)) (List.replicate (i64.wrap ((a.length:Int)+1)).toNat (0:Int)))))))|none=>none)))|none=>none)
theorem T5(a b:List Int):RS kK 242 [.d aqv a,.d aqv b] (GN a b):=rsX
def mp(a b:List Int)(x1 x2:Int)(s11:List Int)(s14:Int)(r0:List Int)(k:KT):OLR:=match decide (s14>=0)with|true=>(match aS (ag (val a*(u32.wrap (u64.wrap (Int.tdiv 1000000000 (u64.wrap ((u64.wrap x1)+1)))))).toNat) s14 with|some x3=>(og (decide ((([x3]).length+s11.length)*4<=140737488355328/\([x3]).length+s11.length<=140737488355328)) (og (decide (aU (([x3])++s11))) (match decide (((ag (val (([x3])++s11)).toNat).length:Int)>((ag (val b*(u32.wrap (u64.wrap (Int.tdiv 1000000000 (u64.wrap ((u64.wrap x1)+1)))))).toNat).length:Int))with|true=>(match aS (ag (val (([x3])++s11)).toNat) ((ag (val b*(u32.wrap (u64.wrap (Int.tdiv 1000000000 (u64.wrap ((u64.wrap x1)+1)))))).toNat).length:Int)with|some x4=>(match decide (((ag (val (([x3])++s11)).toNat).length:Int)>=((ag (val b*(u32.wrap (u64.wrap (Int.tdiv 1000000000 (u64.wrap ((u64.wrap x1)+1)))))).toNat).length:Int))with|true=>(match aS (ag (val (([x3])++s11)).toNat) (i64.wrap (((ag (val b*(u32.wrap (u64.wrap (Int.tdiv 1000000000 (u64.wrap ((u64.wrap x1)+1)))))).toNat).length:Int)-1))with|some x5=>(match decide (u64.wrap x2=(0:Int))with|true=>none|false=>(match decide ((u64.wrap (Int.tdiv (u64.wrap ((u64.wrap ((u64.wrap x4)*1000000000))+(u64.wrap x5))) (u64.wrap x2)))>999999999)with|true=>(og (decide (byP (ag (val b*(u32.wrap (u64.wrap (Int.tdiv 1000000000 (u64.wrap ((u64.wrap x1)+1)))))).toNat) (u32.wrap 999999999))) (k 67 (fQ a b x1 x2 s11 s14 r0 x3 999999999 (ag (val (ag (val b*(u32.wrap (u64.wrap (Int.tdiv 1000000000 (u64.wrap ((u64.wrap x1)+1)))))).toNat)*(u32.wrap 999999999)).toNat))))|false=>(og (decide (byP (ag (val b*(u32.wrap (u64.wrap (Int.tdiv 1000000000 (u64.wrap ((u64.wrap x1)+1)))))).toNat) (u32.wrap (u64.wrap (Int.tdiv (u64.wrap ((u64.wrap ((u64.wrap x4)*1000000000))+(u64.wrap x5))) (u64.wrap x2)))))) (k 67 (fQ a b x1 x2 s11 s14 r0 x3 (u64.wrap (Int.tdiv (u64.wrap ((u64.wrap ((u64.wrap x4)*1000000000))+(u64.wrap x5))) (u64.wrap x2))) (ag (val (ag (val b*(u32.wrap (u64.wrap (Int.tdiv 1000000000 (u64.wrap ((u64.wrap x1)+1)))))).toNat)*(u32.wrap (u64.wrap (Int.tdiv (u64.wrap ((u64.wrap ((u64.wrap x4)*1000000000))+(u64.wrap x5))) (u64.wrap x2))))).toNat))))))|none=>none)|false=>(match decide (u64.wrap x2=(0:Int))with|true=>none|false=>(match decide ((u64.wrap (Int.tdiv (u64.wrap ((u64.wrap x4)*1000000000)) (u64.wrap x2)))>999999999)with|true=>(og (decide (byP (ag (val b*(u32.wrap (u64.wrap (Int.tdiv 1000000000 (u64.wrap ((u64.wrap x1)+1)))))).toNat) (u32.wrap 999999999))) (k 67 (fQ a b x1 x2 s11 s14 r0 x3 999999999 (ag (val (ag (val b*(u32.wrap (u64.wrap (Int.tdiv 1000000000 (u64.wrap ((u64.wrap x1)+1)))))).toNat)*(u32.wrap 999999999)).toNat))))|false=>(og (decide (byP (ag (val b*(u32.wrap (u64.wrap (Int.tdiv 1000000000 (u64.wrap ((u64.wrap x1)+1)))))).toNat) (u32.wrap (u64.wrap (Int.tdiv (u64.wrap ((u64.wrap x4)*1000000000)) (u64.wrap x2)))))) (k 67 (fQ a b x1 x2 s11 s14 r0 x3 (u64.wrap (Int.tdiv (u64.wrap ((u64.wrap x4)*1000000000)) (u64.wrap x2))) (ag (val (ag (val b*(u32.wrap (u64.wrap (Int.tdiv 1000000000 (u64.wrap ((u64.wrap x1)+1)))))).toNat)*(u32.wrap (u64.wrap (Int.tdiv (u64.wrap ((u64.wrap x4)*1000000000)) (u64.wrap x2))))).toNat)))))))|none=>none)|false=>(match decide (((ag (val (([x3])++s11)).toNat).length:Int)>=((ag (val b*(u32.wrap (u64.wrap (Int.tdiv 1000000000 (u64.wrap ((u64.wrap x1)+1)))))).toNat).length:Int))with|true=>(match aS (ag (val (([x3])++s11)).toNat) (i64.wrap (((ag (val b*(u32.wrap (u64.wrap (Int.tdiv 1000000000 (u64.wrap ((u64.wrap x1)+1)))))).toNat).length:Int)-1))with|some x4=>(match decide (u64.wrap x2=(0:Int))with|true=>none|false=>(match decide ((u64.wrap (Int.tdiv (u64.wrap (0+(u64.wrap x4))) (u64.wrap x2)))>999999999)with|true=>(og (decide (byP (ag (val b*(u32.wrap (u64.wrap (Int.tdiv 1000000000 (u64.wrap ((u64.wrap x1)+1)))))).toNat) (u32.wrap 999999999))) (k 67 (fQ a b x1 x2 s11 s14 r0 x3 999999999 (ag (val (ag (val b*(u32.wrap (u64.wrap (Int.tdiv 1000000000 (u64.wrap ((u64.wrap x1)+1)))))).toNat)*(u32.wrap 999999999)).toNat))))|false=>(og (decide (byP (ag (val b*(u32.wrap (u64.wrap (Int.tdiv 1000000000 (u64.wrap ((u64.wrap x1)+1)))))).toNat) (u32.wrap (u64.wrap (Int.tdiv (u64.wrap (0+(u64.wrap x4))) (u64.wrap x2)))))) (k 67 (fQ a b x1 x2 s11 s14 r0 x3 (u64.wrap (Int.tdiv (u64.wrap (0+(u64.wrap x4))) (u64.wrap x2))) (ag (val (ag (val b*(u32.wrap (u64.wrap (Int.tdiv 1000000000 (u64.wrap ((u64.wrap x1)+1)))))).toNat)*(u32.wrap (u64.wrap (Int.tdiv (u64.wrap (0+(u64.wrap x4))) (u64.wrap x2))))).toNat))))))|none=>none)|false=>(match decide (u64.wrap x2=(0:Int))with|true=>none|false=>(match decide ((u64.wrap (Int.tdiv 0 (u64.wrap x2)))>999999999)with|true=>(og (decide (byP (ag (val b*(u32.wrap (u64.wrap (Int.tdiv 1000000000 (u64.wrap ((u64.wrap x1)+1)))))).toNat) (u32.wrap 999999999))) (k 67 (fQ a b x1 x2 s11 s14 r0 x3 999999999 (ag (val (ag (val b*(u32.wrap (u64.wrap (Int.tdiv 1000000000 (u64.wrap ((u64.wrap x1)+1)))))).toNat)*(u32.wrap 999999999)).toNat))))|false=>(og (decide (byP (ag (val b*(u32.wrap (u64.wrap (Int.tdiv 1000000000 (u64.wrap ((u64.wrap x1)+1)))))).toNat) (u32.wrap (u64.wrap (Int.tdiv 0 (u64.wrap x2)))))) (k 67 (fQ a b x1 x2 s11 s14 r0 x3 (u64.wrap (Int.tdiv 0 (u64.wrap x2))) (ag (val (ag (val b*(u32.wrap (u64.wrap (Int.tdiv 1000000000 (u64.wrap ((u64.wrap x1)+1)))))).toNat)*(u32.wrap (u64.wrap (Int.tdiv 0 (u64.wrap x2))))).toNat))))))))))|none=>none)|false=>(og (decide ((0:Int)<=(s11.length:Int)/\(s11.length:Int)*((4:Nat):Int)<=140737488355328/\(s11.length:Int)<=140737488355328)) (k 90 (uZ a x1 s11 r0 0 (i64.wrap ((s11.length:Int)-1)) (List.replicate ((s11.length:Int)).toNat (0:Int)))))
theorem po(a b:List Int)(x1 x2:Int)(s11:List Int)(s14:Int)(r0:List Int):RN kK 30 (mg a b x1 x2 s11 s14 r0) (mp a b x1 x2 s11 s14 r0):=rnX
def pC(a b:List Int)(x1 x2:Int)(s11:List Int)(s14:Int)(r0:List Int)(x3 s16:Int)(s17:List Int)(k:KT):OLR:=og (decide (t5 s17 (ag (val (([x3])++s11)).toNat))) (match decide ((cE (val s17) (val (ag (val (([x3])++s11)).toNat)))>0)with|true=>(og (decide (ql s17 (ag (val b*(u32.wrap (u64.wrap (Int.tdiv 1000000000 (u64.wrap ((u64.wrap x1)+1)))))).toNat))) (k 67 (fQ a b x1 x2 s11 s14 r0 x3 (u64.wrap (s16-1)) (ag (val s17-val (ag (val b*(u32.wrap (u64.wrap (Int.tdiv 1000000000 (u64.wrap ((u64.wrap x1)+1)))))).toNat)).toNat))))|false=>(og (decide (ql (ag (val (([x3])++s11)).toNat) s17)) (match true,decide ((0:Int)<=s14/\s14<(((((ag (val a*(u32.wrap (u64.wrap (Int.tdiv 1000000000 (u64.wrap ((u64.wrap x1)+1)))))).toNat).length:Int):Int).toNat-(0:Int).toNat:Nat):Int))with|true,true=>(match true,r0[(0:Int).toNat+(s14).toNat]? with|true,some _=>k 30 (mg a b x1 x2 (ag (val (ag (val (([x3])++s11)).toNat)-val s17).toNat) (i64.wrap (s14-1)) (r0.set ((0:Int).toNat+(s14).toNat) (u32.wrap s16)))|_,_=>none)|_,_=>none)))
theorem ua(a b:List Int)(x1 x2:Int)(s11:List Int)(s14:Int)(r0:List Int)(x3 s16:Int)(s17:List Int):RN kK 67 (fQ a b x1 x2 s11 s14 r0 x3 s16 s17) (pC a b x1 x2 s11 s14 r0 x3 s16 s17):=rnX
def tB(a:List Int)(x1:Int)(s11 r0:List Int)(s18 s20:Int)(r1:List Int)(k:KT):OLR:=match decide (s20>=0)with|true=>(match aS s11 s20 with|some x2=>(match decide (u64.wrap (u32.wrap (u64.wrap (Int.tdiv 1000000000 (u64.wrap ((u64.wrap x1)+1)))))=(0:Int))with|true=>none|false=>(match aS r1 s20 with|some _=>(match true,r1[(s20).toNat]? with|true,some _=>(match decide (u64.wrap (u32.wrap (u64.wrap (Int.tdiv 1000000000 (u64.wrap ((u64.wrap x1)+1)))))=(0:Int))with|true=>none|false=>k 90 (uZ a x1 s11 r0 (Int.tmod (u64.wrap ((u64.wrap (s18*1000000000))+(u64.wrap x2))) (u64.wrap (u32.wrap (u64.wrap (Int.tdiv 1000000000 (u64.wrap ((u64.wrap x1)+1))))))) (i64.wrap (s20-1)) (r1.set ((s20).toNat) (u32.wrap (u64.wrap (Int.tdiv (u64.wrap ((u64.wrap (s18*1000000000))+(u64.wrap x2))) (u64.wrap (u32.wrap (u64.wrap (Int.tdiv 1000000000 (u64.wrap ((u64.wrap x1)+1))))))))))))|_,_=>none)|none=>none))|none=>none)|false=>(og (decide (aU ((r0.drop ((0:Int).toNat)).take ((((ag (val a*(u32.wrap (u64.wrap (Int.tdiv 1000000000 (u64.wrap ((u64.wrap x1)+1)))))).toNat).length:Int):Int).toNat-(0:Int).toNat)))) (og (decide (aU r1)) (some [RV.d aqv (ag (val ((r0.drop ((0:Int).toNat)).take ((((ag (val a*(u32.wrap (u64.wrap (Int.tdiv 1000000000 (u64.wrap ((u64.wrap x1)+1)))))).toNat).length:Int):Int).toNat-(0:Int).toNat))).toNat),RV.d aqv (ag (val r1).toNat)])))
theorem yU(a:List Int)(x1:Int)(s11 r0:List Int)(s18 s20:Int)(r1:List Int):RN kK 90 (uZ a x1 s11 r0 s18 s20 r1) (tB a x1 s11 r0 s18 s20 r1):=rnX
def qsc(x1:Int):Int:=u32.wrap (u64.wrap (Int.tdiv 1000000000 (u64.wrap ((u64.wrap x1)+1))))
theorem iB(x1:Int):u32.wrap (u64.wrap (Int.tdiv 1000000000 (u64.wrap ((u64.wrap x1)+1))))=qsc x1:=by
 have h:∀y,qsc x1=y->y=qsc x1:=λy e=>e.symm;exact h _ rfl
theorem aef{x:Int}(h1:1<=x)(h2:x<1000000000):qsc x=1000000000/(x+1)/\1<=qsc x/\qsc x<1000000000:=by
 have h3:1<=1000000000/(x+1):=Int.le_ediv_of_mul_le (by omega) (by omega);have h4:1000000000/(x+1)<1000000000:=aoF (by omega) (by omega);grind [qsc,bI,dh]
theorem GP{v:Int}(h:0<v):∃(n:Nat) (x:Int),(ag v.toNat).length=n+1/\(ag v.toNat)[n]?=some x/\1<=x/\x<1000000000/\x*pw n<=v:=by
 have hne:ag v.toNat≠[]:=λe=>by rw[ja]at e;omega
 rcases List.eq_nil_or_concat (ag v.toNat)with h0|⟨l,x,hx⟩
 ·grind
 ·have hv:=bG v.toNat
  have hc:=fc v.toNat
  have hl:=cd v.toNat
  rw[List.concat_eq_append]at hx;rw[hx]at hv hc hl;have hxx:=hl x (by simp);have hx0:x≠0:=λe=>hc.2 (by simp[e]);have hln:=aT (l:=l) (λy hy=>hl y (by simp[hy]));rw[dO]at hv;simp only[val]at hv;refine⟨l.length,x,by rw[hx];simp,by rw[hx];simp,by omega,hxx.2,?_⟩;grind
section
variable (a b:List Int) (x1 x2:Int) (V:Int) (hV:val b*qsc x1=V) (hs:1<=qsc x1/\qsc x1<1000000000) (hp:0<V) (hra:(ag (val a*qsc x1).toNat).length<=a.length+1) (ha:Lim a/\a.length<=1000000) (hL:(ag V.toNat).length<=1000001)
theorem SS(hs:1<=qsc x1/\qsc x1<1000000000)(l r0:List Int)(hl:Lim l/\l.length<=2000000)(hr0:aU r0)(hz0:∀k (hk:k<r0.length),(ag (val a*qsc x1).toNat).length<=k->r0[k]=0):∀(n:Nat) (c:Int) (r:List Int),n<=l.length->0<=c->c<qsc x1->Lim r->r.length=l.length->(∀k (hk:k<r.length),k<n->r[k]=0)->qsc x1*val r+pw n*c+val (l.take n)=val l->
  kK.Runs 90 (uZ a x1 l r0 c ((n:Int)-1) r) [.d aqv (ag (val r0).toNat),.d aqv (ag (val l/qsc x1).toNat)]:=by
 have hsa:=hl.2;have e64:u64.wrap (qsc x1)=qsc x1:=bI (by omega) (by omega);intro n;induction n with
 |zero=>
  intro c r hn c0 c1 hr hlen hz hv;simp only[pE,List.take_zero,val,aor,aqp]at hv
  have e2:val l/qsc x1=val r:=by
   rw[<-hv,ap9,aoX _ _ (by omega),aos c0 c1];omega
  have e3:=zG hz0;have e4:aU (r0.take (ag (val a*qsc x1).toNat).length):=⟨hr0.1.take _,by have:=hr0.2;rw[anY];omega⟩
  refine yU _ _ _ _ _ _ _ ⟨0,?_⟩;unfold tB;simp only[iB,Int.toNat_zero,aoS,aoT,Nat.sub_zero];rw[dF (by omega)];dsimp only;rw[dT e4,dT (show aU r from⟨hr,by omega⟩),e3,e2]
 |succ n ih=>
  intro c r hn c0 c1 hr hlen hz hv;have hna:n<l.length:=by omega
  have hnr:n<r.length:=by omega
  have xa:=hl.1.get hna;have hr0':=hz n hnr (by omega);have hcb:0<=c*1000000000+l[n]:=by omega
  have m0:=aoj (c*1000000000+l[n]) (show qsc x1≠0 by omega);have m1:=anV (c*1000000000+l[n]) (show 0<qsc x1 by omega);have md:=an1 (c*1000000000+l[n]) (qsc x1);have d0:0<=(c*1000000000+l[n])/qsc x1:=aoe hcb (by omega)
  have d1:(c*1000000000+l[n])/qsc x1<1000000000:=by
   refine aoF (by omega) ?_;have:=anp (show c+1<=qsc x1 by omega) (show(0:Int)<=1000000000 by decide);rw[aoY 1000000000 (qsc x1)];omega
  obtain⟨q,hq⟩:=ih ((c*1000000000+l[n])%qsc x1) (r.set n ((c*1000000000+l[n])/qsc x1)) (by omega) m0 m1 (hr.set n ⟨d0,d1⟩) (by simpa using hlen)
   (λk hk hkn=>by rw[aoy (by omega)];exact hz k (by simpa using hk) (by omega)) (by
    rw[fY hnr,hr0'];rw[a8 hna,ce]at hv;grind)
  refine yU _ _ _ _ _ _ _ ⟨q,?_⟩;unfold tB;simp only[iB];rw[show((n+1:Nat):Int)-1=(n:Int) by omega,dT (by omega),aq l n,anc hna,e64,dF (show ¬qsc x1=0 by omega),aq r n,aE,anc hnr];dsimp only;rw[bI (x:=c*1000000000) (by omega) (by omega),bI (x:=l[n]) (by omega) (by omega),bI (x:=c*1000000000+l[n]) (by omega) (by omega),iZ hcb,kw hcb,bI (x:=(c*1000000000+l[n])/qsc x1) (by omega) (by omega),dh (x:=(c*1000000000+l[n])/qsc x1) (by omega) (by omega),aV (x:=(n:Int)-1) (by omega) (by omega)];exact hq
include hV hp hL in
theorem HC{res:List RV}(i:Nat)(hi:i<(ag (val a*qsc x1).toNat).length)(r0 l:List Int)(hlr:r0.length=a.length+1)(hra:(ag (val a*qsc x1).toNat).length<=a.length+1)(x3 W:Int)(hW:val ([x3]++l)=W)(W0:0<=W)(hWl:(ag W.toNat).length<=1000002)
  (hout:kK.Runs 30 (mg a b x1 x2 (ag (W%V).toNat) ((i:Int)-1) (r0.set i (W/V))) res) (hi':(ag (val a*qsc x1).toNat).length<=2000000):
  ∀(d:Nat),d<=999999999->W<V*((d:Int)+1)->kK.Runs 67 (fQ a b x1 x2 l (i:Int) r0 x3 (d:Int) (ag (V*(d:Int)).toNat)) res:=by
 intro d
 have hsz:∀e:Nat,e<=999999999->(ag (V*(e:Int)).toNat).length<=1000002:=λe he=>by
  refine cK (an9 (by omega) (by omega)) ?_
  have h1:V<pw 1000001:=by
   have:=b9 (cd V.toNat);rw[bG]at this;have:=dH hL;omega
  rw[ce 1000001];have h2:V*(e:Int)<=V*999999999:=ank (by omega) (by omega);omega
 induction d with
 |zero=>
  intro _ hd;obtain⟨q,hq⟩:=hout;have hWV:W<V:=by simpa using hd
  rw[apo W0 hWV,aos W0 hWV]at hq;refine ua _ _ _ _ _ _ _ _ _ _ ⟨q,?_⟩;unfold pC;simp only[iB,hV,hW];rw[show(V*((0:Nat):Int)).toNat=0 by simp,dT (show t5 (ag 0) (ag W.toNat) from⟨⟨fc _,by decide⟩,fc _,by omega⟩),bZ W0,Ak,show val (ag 0)=0 from rfl,dF (show ¬W<0 by omega),dT (show ql (ag W.toNat) (ag 0) from⟨cL (by omega),cL (by decide),by rw[bZ W0];exact W0⟩)];dsimp only;rw[dT (show(0:Int)<=(i:Int)/\(i:Int)<((((ag (val a*qsc x1).toNat).length:Int).toNat-(0:Int).toNat:Nat):Int) by constructor<;>simp<;>omega)];rw[show(0:Int).toNat+((i:Int)).toNat=i by simp,anc (by omega)];dsimp only;rw[Int.sub_zero,aV (by omega) (by omega)];exact hq
 |succ d ih=>
  intro hd1 hd;have hc:((d+1:Nat):Int)=(d:Int)+1:=by omega
  rw[hc]at hd;have hV1:0<=V*((d:Int)+1):=an9 (by omega) (by omega);have hV0:0<=V*(d:Int):=an9 (by omega) (by omega);have hVd:V*((d:Int)+1)-V=V*(d:Int):=by grind
  have hs1:=hsz (d+1) (by omega);rw[hc]at hs1;have k1:=bG V.toNat
  by_cases hg:W<V*((d:Int)+1)
  ·obtain⟨q,hq⟩:=ih (by omega) hg;refine ua _ _ _ _ _ _ _ _ _ _ ⟨q,?_⟩;unfold pC;simp only[iB,hV,hW];rw[hc,dT (show t5 (ag (V*((d:Int)+1)).toNat) (ag W.toNat) from⟨⟨fc _,by omega⟩,fc _,by omega⟩),bZ W0,bZ hV1,Ak,dT hg,dT (show ql (ag (V*((d:Int)+1)).toNat) (ag V.toNat) from⟨cL (by omega),cL (by omega),by rw[bZ hV1,bZ (by omega)];omega⟩),bZ (v:=V) (by omega),hVd,bI (by omega) (by omega),show(d:Int)+1-1=(d:Int) by omega];exact hq
  ·obtain⟨q,hq⟩:=hout
   have e1:W/V=(d:Int)+1:=by
    have:W=(W-V*((d:Int)+1))+V*((d:Int)+1):=by omega
    rw[this,aoX _ _ (by omega),aos (by omega) (by grind)];omega
   have e2:W%V=W-V*((d:Int)+1):=by
    have:=an1 W V;rw[e1]at this;omega
   rw[e1,e2]at hq;refine ua _ _ _ _ _ _ _ _ _ _ ⟨q,?_⟩;unfold pC;simp only[iB,hV,hW];rw[hc,dT (show t5 (ag (V*((d:Int)+1)).toNat) (ag W.toNat) from⟨⟨fc _,by omega⟩,fc _,by omega⟩),bZ W0,bZ hV1,Ak,dF hg,dT (show ql (ag W.toNat) (ag (V*((d:Int)+1)).toNat) from⟨cL (by omega),cL (by omega),by rw[bZ hV1,bZ W0];omega⟩)];dsimp only;rw[dT (show(0:Int)<=(i:Int)/\(i:Int)<((((ag (val a*qsc x1).toNat).length:Int).toNat-(0:Int).toNat:Nat):Int) by constructor<;>simp<;>omega)];rw[show(0:Int).toNat+((i:Int)).toNat=i by simp,anc (by omega)];dsimp only;rw[aV (by omega) (by omega),dh (by omega) (by omega)];exact hq
end
end
section
def rF(k:Nat->Cfg->OLR)(a b:List Int)(x1 x2:Int)(s11:List Int)(s14:Int)(r0:List Int)(x3 H:Int):OLR:=match decide (u64.wrap x2=(0:Int))with|true=>none|false=>(match decide ((u64.wrap (Int.tdiv H (u64.wrap x2)))>999999999)with|true=>(og (decide (byP (ag (val b*(u32.wrap (u64.wrap (Int.tdiv 1000000000 (u64.wrap ((u64.wrap x1)+1)))))).toNat) (u32.wrap 999999999))) (k 67 (fQ a b x1 x2 s11 s14 r0 x3 999999999 (ag (val (ag (val b*(u32.wrap (u64.wrap (Int.tdiv 1000000000 (u64.wrap ((u64.wrap x1)+1)))))).toNat)*(u32.wrap 999999999)).toNat))))|false=>(og (decide (byP (ag (val b*(u32.wrap (u64.wrap (Int.tdiv 1000000000 (u64.wrap ((u64.wrap x1)+1)))))).toNat) (u32.wrap (u64.wrap (Int.tdiv H (u64.wrap x2)))))) (k 67 (fQ a b x1 x2 s11 s14 r0 x3 (u64.wrap (Int.tdiv H (u64.wrap x2))) (ag (val (ag (val b*(u32.wrap (u64.wrap (Int.tdiv 1000000000 (u64.wrap ((u64.wrap x1)+1)))))).toNat)*(u32.wrap (u64.wrap (Int.tdiv H (u64.wrap x2))))).toNat)))))
theorem TH{W V H x p d:Int}(hx:1<=x)(hW:W<(H+1)*p)(hp:0<p)(hV:x*p<=V)(hd:H/x=d)(h0:0<=H):W<V*(d+1):=by
 have h1:=an1 H x;have h2:=anV H (show 0<x by omega);have h3:0<=d:=by rw[<-hd];exact aoe h0 (by omega)
 have h4:H+1<=x*(d+1):=by grind
 have h5:=anp h4 (anU hp);have h6:=anp hV (show 0<=d+1 by omega);grind
theorem acr{A B s R q:Int}(hs:0<s)(h:A*s=R+B*s*q)(h0:0<=R)(h1:R<B*s):A/B=q/\A%B=R/s:=by
 have e:R=s*(A-B*q):=by grind
 have hm:R/s=A-B*q:=by rw[e];exact app _ (by omega)
 have m0:0<=A-B*q:=by
  apply anv;intro hc;have:=ank (show A-B*q<= -1 by omega) (anU hs);omega
 have m1:A-B*q<B:=by
  apply anv;intro hc;have:=ank (show B<=A-B*q by omega) (anU hs);grind
 have hA:A=(A-B*q)+B*q:=by omega
 constructor
 ·rw[hA,aoX _ _ (by omega),aos (by omega) (by omega)];omega
 ·rw[hm,hA,ape,apo (by omega) (by omega)];omega
section
variable (a b:List Int) (x1 x2:Int) (V:Int) (hV:val b*qsc x1=V) (hs:1<=qsc x1/\qsc x1<1000000000) (hp:0<V) (hra:(ag (val a*qsc x1).toNat).length<=a.length+1) (ha:Lim a/\a.length<=1000000) (hL:(ag V.toNat).length<=1000001)
include hV hs hp hra ha hL in
theorem Hr(n:Nat)(hn:(ag V.toNat).length=n+1)(hx2:1<=x2/\x2<1000000000)(hxp:x2*pw n<=V):∀(i:Nat) (R:Int) (r0:List Int),i<=(ag (val a*qsc x1).toNat).length->0<=R->R<V->r0.length=a.length+1->Lim r0->
  (∀k (hk:k<r0.length),k<i->r0[k]=0)->(∀k (hk:k<r0.length),(ag (val a*qsc x1).toNat).length<=k->r0[k]=0)->val a*qsc x1=pw i*R+val ((ag (val a*qsc x1).toNat).take i)+V*val r0->
  kK.Runs 30 (mg a b x1 x2 (ag R.toNat) ((i:Int)-1) r0) [.d aqv (ag (val a/val b).toNat),.d aqv (ag (val a%val b).toNat)]:=by
 have hVp:V<pw 1000001:=by
  have:=b9 (cd V.toNat);rw[bG]at this;have:=dH hL;omega
 have ha2:=ha.2;intro i;induction i with
 |zero=>
  intro R r0 _ R0 RV hlr hl _ hz he;simp only[pE,List.take_zero,val,aor,aqp]at he;rw[<-hV]at he;obtain⟨e1,e2⟩:=acr (by omega) he R0 (by rw[hV];exact RV);have hRl:(ag R.toNat).length<=1000001:=cK R0 (by omega);obtain⟨q,hq⟩:=SS a x1 hs (ag R.toNat) r0 ⟨cd _,by omega⟩ ⟨hl,by omega⟩ hz (ag R.toNat).length 0 (List.replicate (ag R.toNat).length 0) (ani _) (by omega) (by omega) (Lim.rep _) (by simp) (λk hk _=>by simp) (by simp[iK]);rw[bZ R0,<-e2,<-e1]at hq;refine po _ _ _ _ _ _ _ ⟨q,?_⟩;unfold mp;rw[dF (by omega)];dsimp only;rw[dT (show(0:Int)<=((ag R.toNat).length:Int)/\((ag R.toNat).length:Int)*((4:Nat):Int)<=140737488355328/\((ag R.toNat).length:Int)<=140737488355328 from⟨by omega,by omega,by omega⟩),aE,aV (by omega) (by omega)];exact hq
 |succ i ih=>
  intro R r0 hi R0 RV hlr hl hz hz2 he;have hiU:i<(ag (val a*qsc x1).toNat).length:=by omega
  have hx:=(cd (val a*qsc x1).toNat).get hiU;have hir:i<r0.length:=by omega
  have hr0:=hz i hir (by omega)
  have hWv:val ([(ag (val a*qsc x1).toNat)[i]]++ag R.toNat)=(ag (val a*qsc x1).toNat)[i]+1000000000*R:=by
   rw[dO,bZ R0];simp[val,pw]
  generalize hxi:(ag (val a*qsc x1).toNat)[i]=x at hx hWv;have W0:0<=x+1000000000*R:=by omega
  have WV:x+1000000000*R<1000000000*V:=by omega
  have hWl:(ag (x+1000000000*R).toNat).length<=n+2:=by
   refine cK W0 ?_;have:=b9 (cd V.toNat);rw[bG,hn]at this;rw[ce (n+1)];omega
  have hRl:(ag R.toNat).length<=1000001:=cK R0 (by omega);have q0:0<=(x+1000000000*R)/V:=aoe W0 (by omega);have q1:(x+1000000000*R)/V<1000000000:=aoF hp (by omega);have m0:=aoj (x+1000000000*R) (show V≠0 by omega);have m1:=anV (x+1000000000*R) hp;have md:=an1 (x+1000000000*R) V
  have hout:=ih ((x+1000000000*R)%V) (r0.set i ((x+1000000000*R)/V)) (by omega) m0 m1 (by simpa using hlr) (hl.set i ⟨q0,q1⟩)
   (λk hk hk'=>by rw[aoy (by omega)];exact hz k (by simpa using hk) (by omega))
   (λk hk hk'=>by rw[aoy (by omega)];exact hz2 k (by simpa using hk) hk') (by
    rw[fY hir,hr0];rw[a8 hiU,ce,hxi]at he;grind)
  have hdig:=HC a b x1 x2 V hV hp hL i hiU r0 (ag R.toNat) hlr hra x (x+1000000000*R) hWv W0 (by omega) hout (by omega)
  have htail:∀H:Int,0<=H->H<1000000000000000000->x+1000000000*R<(H+1)*pw n->∃q,rF (kK.k q) a b x1 x2 (ag R.toNat) ((i:Int)) r0 x H=some [.d aqv (ag (val a/val b).toNat),.d aqv (ag (val a%val b).toNat)]:=by
   intro H H0 H1 HW;have d0:0<=H/x2:=aoe H0 (by omega);have d1:H/x2<=H:=ao3 _ H0;have hbyV:∀d:Int,0<=d->d<1000000000->byP (ag V.toNat) d:=λd h1 h2=>⟨⟨cd _,by omega⟩,h1,h2⟩
   by_cases hc:H/x2>999999999
   ·obtain⟨q,hq⟩:=hdig 999999999 (ani _) (by rw[show V*(((999999999:Nat):Int)+1)=1000000000*V by omega];exact WV);refine⟨q,?_⟩;unfold rF;simp only[iB,hV];rw[bI (x:=x2) (by omega) (by omega),dF (show ¬x2=0 by omega),iZ H0,bI (x:=H/x2) (by omega) (by omega),dT hc,dh (x:=999999999) (by decide) (by decide),dT (hbyV 999999999 (by decide) (by decide)),bZ (v:=V) (by omega)];exact hq
   ·obtain⟨q,hq⟩:=hdig (H/x2).toNat (by omega) (by rw[show(((H/x2).toNat:Nat):Int)=H/x2 by omega];exact TH hx2.1 HW (cB n) hxp rfl H0)
    rw[show(((H/x2).toNat:Nat):Int)=H/x2 by omega]at hq;refine⟨q,?_⟩;unfold rF;simp only[iB,hV];rw[bI (x:=x2) (by omega) (by omega),dF (show ¬x2=0 by omega),iZ H0,bI (x:=H/x2) (by omega) (by omega),dF hc,dh (x:=H/x2) (by omega) (by omega),dT (hbyV (H/x2) (by omega) (by omega)),bZ (v:=V) (by omega)];exact hq
  have hWlim:=cd (x+1000000000*R).toNat
  have hWval:=bZ W0;have hsplit:=ib (ag (x+1000000000*R).toNat) n;have htl:=b9 (hWlim.take n)
  have hpre:∀H,val ((ag (x+1000000000*R).toNat).drop n)=H->x+1000000000*R<(H+1)*pw n:=by
   intro H hH;rw[hH,hWval]at hsplit;have hm:(ag (x+1000000000*R).toNat |>.take n).length<=n:=by rw[anY];omega
   have:=dH hm;rcases anT n (ag (x+1000000000*R).toNat).length with h|h
   ·rw[an0 (by omega)]at hsplit;rw[Int.add_mul,aoY H,aor];omega
   ·rw[an7 h]at hH;have hH0:H=0:=by rw[<-hH];rfl
    subst hH0;rw[apt]at hsplit;omega
  have hstep:∀(H:Int) (q:Nat),rF (kK.k q) a b x1 x2 (ag R.toNat) ((i:Int)) r0 x H=some [.d aqv (ag (val a/val b).toNat),.d aqv (ag (val a%val b).toNat)]->True:=λ_ _ _=>trivial;have hap:(([x]:List Int).length+(ag R.toNat).length)*4<=140737488355328/\([x]:List Int).length+(ag R.toNat).length<=140737488355328:=by simp only[anC];omega
  have hlS:aU ([x]++ag R.toNat):=⟨(Lim.cons ⟨hx.1,hx.2⟩ Lim.nil).append (cd _),by simp only[anK,anC];omega⟩
  have hw1:i64.wrap (((n+1:Nat):Int)-1)=((n:Nat):Int):=by rw[aV (by omega) (by omega)];omega
  rcases Nat.lt_trichotomy (ag (x+1000000000*R).toNat).length (n+1)with hc|hc|hc
  ·obtain⟨q,hq⟩:=htail 0 (by omega) (by omega) (hpre 0 (by rw[an7 (by omega)];rfl));refine po _ _ _ _ _ _ _ ⟨q,?_⟩;unfold mp;rw[dT (show((i+1:Nat):Int)-1>=0 by omega),show((i+1:Nat):Int)-1=(i:Int) by omega,iB,aq,anc hiU,hxi];dsimp only;rw[dT hap,dT hlS,hWv,hV,hn];rw[dF (show ¬((ag (x+1000000000*R).toNat).length:Int)>((n+1:Nat):Int) by omega),dF (show ¬((ag (x+1000000000*R).toNat).length:Int)>=((n+1:Nat):Int) by omega)];rw[<-hV];exact hq
  ·have hget:(ag (x+1000000000*R).toNat)[n]?=some (ag (x+1000000000*R).toNat)[n]:=anc (by omega);have hxn:=hWlim.get (show n<(ag (x+1000000000*R).toNat).length by omega)
   have hdrop:val ((ag (x+1000000000*R).toNat).drop n)=(ag (x+1000000000*R).toNat)[n]:=by
    rw[ir (by omega),an7 (by omega)];simp[val]
   obtain⟨q,hq⟩:=htail (ag (x+1000000000*R).toNat)[n] hxn.1 (by omega) (hpre _ hdrop);refine po _ _ _ _ _ _ _ ⟨q,?_⟩;unfold mp;rw[dT (show((i+1:Nat):Int)-1>=0 by omega),show((i+1:Nat):Int)-1=(i:Int) by omega,iB,aq,anc hiU,hxi];dsimp only;rw[dT hap,dT hlS,hWv,hV,hn];rw[dF (show ¬((ag (x+1000000000*R).toNat).length:Int)>((n+1:Nat):Int) by omega),dT (show((ag (x+1000000000*R).toNat).length:Int)>=((n+1:Nat):Int) by omega),hw1,aq (ag (x+1000000000*R).toNat) n,hget];dsimp only;rw[Int.zero_add,bI (x:=(ag (x+1000000000*R).toNat)[n]) (by omega) (by omega),bI (x:=(ag (x+1000000000*R).toNat)[n]) (by omega) (by omega)];rw[<-hV];exact hq
  ·have hget:(ag (x+1000000000*R).toNat)[n]?=some (ag (x+1000000000*R).toNat)[n]:=anc (by omega);have hget1:(ag (x+1000000000*R).toNat)[n+1]?=some (ag (x+1000000000*R).toNat)[n+1]:=anc (by omega);have hxn:=hWlim.get (show n<(ag (x+1000000000*R).toNat).length by omega);have hxn1:=hWlim.get (show n+1<(ag (x+1000000000*R).toNat).length by omega)
   have hdrop:val ((ag (x+1000000000*R).toNat).drop n)=(ag (x+1000000000*R).toNat)[n+1]*1000000000+(ag (x+1000000000*R).toNat)[n]:=by
    rw[ir (by omega),ir (by omega),an7 (by omega)];simp only[val];omega
   obtain⟨q,hq⟩:=htail ((ag (x+1000000000*R).toNat)[n+1]*1000000000+(ag (x+1000000000*R).toNat)[n]) (by omega) (by omega) (hpre _ hdrop);refine po _ _ _ _ _ _ _ ⟨q,?_⟩;unfold mp;rw[dT (show((i+1:Nat):Int)-1>=0 by omega),show((i+1:Nat):Int)-1=(i:Int) by omega,iB,aq,anc hiU,hxi];dsimp only;rw[dT hap,dT hlS,hWv,hV,hn];rw[dT (show((ag (x+1000000000*R).toNat).length:Int)>((n+1:Nat):Int) by omega),aq (ag (x+1000000000*R).toNat) (n+1),hget1];dsimp only;rw[dT (show((ag (x+1000000000*R).toNat).length:Int)>=((n+1:Nat):Int) by omega),hw1,aq (ag (x+1000000000*R).toNat) n,hget];dsimp only;rw[bI (x:=(ag (x+1000000000*R).toNat)[n+1]) (by omega) (by omega),bI (x:=(ag (x+1000000000*R).toNat)[n+1]*1000000000) (by omega) (by omega),bI (x:=(ag (x+1000000000*R).toNat)[n]) (by omega) (by omega),bI (x:=(ag (x+1000000000*R).toNat)[n+1]*1000000000+(ag (x+1000000000*R).toNat)[n]) (by omega) (by omega)];rw[<-hV];exact hq
end
end
def afB:Cn 242 [aqv,aqv]:=cn λ(a b:List Int)=>lf (Fk a b) [.d aqv (ag (val a/val b).toNat),.d aqv (ag (val a%val b).toNat)] λh=>by
 refine dk N7 (show kK.Res _ _ _ from ?_);obtain⟨⟨ha,sa⟩,⟨hb,sb⟩,hne⟩:=h;have a0:=aT ha.1;have b0:0<val b:=fC hb hne;have hlen:=anW.2 hne;have la:=b9 ha.1;have lb:=b9 hb.1;by_cases hsm:a.length<=2/\b.length<=2
 ·have p2:pw 2=1000000000000000000:=by decide
  have m1:=dH hsm.1;have m2:=dH hsm.2;have q0:0<=val a/val b:=aoe a0 (by omega);have q1:val a/val b<=val a:=ao3 _ a0;have r0:=aoj (val a) (show val b≠0 by omega);have r1:=anV (val a) b0;refine T5 _ _ ⟨0,?_⟩;unfold GN;rw[dT (show(a.length:Int)<=2 by omega),dT (show(b.length:Int)<=2 by omega),dT (show uj a from⟨⟨ha.1,by omega⟩,by omega⟩),dT (show uj b from⟨⟨hb.1,by omega⟩,by omega⟩),dF (show ¬val b=0 by omega),iZ a0,kw a0,bI (x:=val a/val b) q0 (by omega),dT (show jD (val a/val b) from⟨q0,by omega⟩),dT (show jD (val a%val b) from⟨r0,by omega⟩)]
 ·obtain⟨n,hn⟩:∃n,b.length=n+1:=⟨b.length-1,by omega⟩
  have hbn:n<b.length:=by omega
  have ht:=wF hb hn;have hbl:=hb.1.get hbn;obtain⟨hs0,hs1,hs2⟩:=aef (x:=b[n]) ht hbl.2;have hVp:0<val b*qsc b[n]:=Int.mul_pos b0 (by omega)
  have hVl:(ag (val b*qsc b[n]).toNat).length<=1000001:=by
   refine cK (by omega) ?_;have h1:val b*qsc b[n]<=val b*999999999:=ank (by omega) (by omega);have h2:=dH sb;rw[ce 1000000];omega
  have hUl:(ag (val a*qsc b[n]).toNat).length<=a.length+1:=by
   refine cK (an9 a0 (by omega)) ?_;have h1:val a*qsc b[n]<=val a*999999999:=ank (by omega) (by omega);rw[ce];omega
  obtain⟨m,x2,hm,hg,hx1,hx2,hxp⟩:=GP hVp
  obtain⟨q,hq⟩:=Hr a b b[n] x2 (val b*qsc b[n]) rfl ⟨hs1,hs2⟩ hVp hUl ⟨ha.1,sa⟩ hVl m hm ⟨hx1,hx2⟩ hxp (ag (val a*qsc b[n]).toNat).length 0 (List.replicate (a.length+1) 0) (ani _) (by omega) hVp (by simp) (Lim.rep _) (λk hk _=>by simp) (λk hk _=>by simp) (by
   rw[aov,bZ (an9 a0 (by omega)),iK];omega)
  refine T5 _ _ ⟨q,?_⟩;have hw1:i64.wrap ((b.length:Int)-1)=(n:Int):=by rw[aV (by omega) (by omega)];omega
  have hx1w:¬u64.wrap (u64.wrap b[n]+1)=0:=by rw[bI (x:=b[n]) (by omega) (by omega),bI (by omega) (by omega)];omega
  have hbyb:byP b (qsc b[n]):=⟨⟨hb.1,by omega⟩,by omega,hs2⟩
  have hbya:byP a (qsc b[n]):=⟨⟨ha.1,by omega⟩,by omega,hs2⟩
  have hw2:i64.wrap (((m+1:Nat):Int)-1)=(m:Int):=by rw[aV (by omega) (by omega)];omega
  have hsub:(match aS b (i64.wrap ((b.length:Int)-1))with|some x1=>(match decide (u64.wrap ((u64.wrap x1)+1)=(0:Int))with|true=>none|false=>(match decide (byP b (qsc x1))with|true=>(match aS (ag (val b*(qsc x1)).toNat) (i64.wrap (((ag (val b*(qsc x1)).toNat).length:Int)-1))with|some x2=>(match decide ((0:Int)<=i64.wrap ((a.length:Int)+1)/\(i64.wrap ((a.length:Int)+1))*((4:Nat):Int)<=140737488355328/\i64.wrap ((a.length:Int)+1)<=140737488355328)with|true=>(match decide (byP a (qsc x1))with|true=>(match decide ((0:Int)<=0/\0<=((ag (val a*(qsc x1)).toNat).length:Int)/\((ag (val a*(qsc x1)).toNat).length:Int)<=((List.replicate (i64.wrap ((a.length:Int)+1)).toNat (0:Int)).length:Int))with|true=>(kK.k q) 30 (mg a b x1 x2 ([]) (i64.wrap (((ag (val a*(qsc x1)).toNat).length:Int)-1)) (List.replicate (i64.wrap ((a.length:Int)+1)).toNat (0:Int)))|false=>none)|false=>none)|false=>none)|none=>none)|false=>none))|none=>none)=some [.d aqv (ag (val a/val b).toNat),.d aqv (ag (val a%val b).toNat)]:=by
   rw[hw1,aq,anc hbn];dsimp only;rw[dF hx1w,dT hbyb,hm,hw2,aq,hg];dsimp only;rw[bW (k:=a.length) (by omega),vw (n:=a.length+1) (by omega),dT hbya,aE,apK,dT (show(0:Int)<=0/\(0:Int)<=((ag (val a*qsc b[n]).toNat).length:Int)/\((ag (val a*qsc b[n]).toNat).length:Int)<=((a.length+1:Nat):Int) from⟨by omega,by omega,by omega⟩),aV (x:=((ag (val a*qsc b[n]).toNat).length:Int)-1) (by omega) (by omega)];exact hq
  unfold GN;by_cases h1:a.length<=2
  ·rw[dT (show(a.length:Int)<=2 by omega),dF (show ¬(b.length:Int)<=2 by omega)];exact hsub
  ·rw[dF (show ¬(a.length:Int)<=2 by omega)];exact hsub
def HI:List En:=[enK yJ,enK CY,enF Du,enF yF,enK abf,enK Gx,enK afB,enK Cj,enK ab7,enK GY,enK CE]
def O3(x y:Bool×List Int)(_k:KT):OLR:=let y1:=ag (val x.2/val y.2).toNat;let y2:=ag (val x.2%val y.2).toNat;let y3:=ai (cg (!(x.1==y.1)) (val y1));let y4:=ai (cg x.1 (val y2));let y5:OLR:=match decide ((y2.length:Int)>0)with|true=>(match !(x.1==y.1)with|true=>(og (decide (aJ (1:Int))) (og (decide (okI y3/\okI (ai (1:Int)))) (og (decide (okI y4/\okI y)) (dup (.b .l .l) (some [RV.d y2Y (ai (ae y3-ae (ai (1:Int)))),RV.d y2Y (ai (ae y4+ae y)),RV.d aqw 0])))))|false=>dup (.b .l .l) (some [RV.d y2Y y3,RV.d y2Y y4,RV.d aqw 0]))|false=>dup (.b .l .l) (some [RV.d y2Y y3,RV.d y2Y y4,RV.d aqw 0]);let y6:OLR:=match decide (aU y2)with|true=>y5|false=>none;match(y.2.length:Int)==0 with|true=>some [RV.d y2Y (false,[]),RV.d y2Y (false,[]),RV.d aqw 6]|false=>(og (decide (Fk x.2 y.2)) (cD (og (decide (aU y1)) (cD (og (decide (aU y2)) (dup (.b .l .l) y5)) (dup (.b (.b .l .l) (.b .l .l)) y6))) (dup (.b .l .l) (cD (og (decide (aU y1)) (dup (.b .l .l) y6)) (og (decide (aU y1)) y6)))))
def XB:NT:=[((152,6),{keep:=[4,5,6],pure_:=[(5,.int .u32),(6,.int .u32)],hl:=3}),((152,29),{keep:=[4,9,10],hl:=3})]
def wQ:Ctx:=CX (ens HI) XB
def uR(x y:Bool×List Int)(s5 s6:List Int):Cfg:=⟨152,[.blk 0,.seq 17],[(4,.box 2 0),(5,.d aqv s5),(6,.d aqv s6)],[.box 29 [SB x.1,.d aqv x.2],.box 29 [SB y.1,.d aqv y.2],.box 29 [SB false,.nil]],0,[]⟩
def qO(x y:Bool×List Int)(s9 s10:Int):Cfg:=⟨152,[.blk 2,.seq 38],[(4,.box 2 0),(9,.d (.int .u64) s9),(10,.d (.int .u64) s10)],[.box 29 [SB x.1,.d aqv x.2],.box 29 [SB y.1,.d aqv y.2],.box 29 [SB false,.nil]],0,[]⟩
def aei(x y:Bool×List Int)(k:KT):OLR:=k 6 (uR x y x.2 y.2)
theorem acF(x y:Bool×List Int):RS wQ 152 [.d y2Y x,.d y2Y y] (aei x y):=rsX
def rH(x y:Bool×List Int)(s5 s6:List Int)(k:KT):OLR:=match decide ((s6.length:Int)>0)with|true=>(match decide ((s5.length:Int)>2)with|true=>(og (decide (Fk s5 s6)) (k 6 (uR x y s6 (ag (val s5%val s6).toNat))))|false=>(match decide ((s6.length:Int)>2)with|true=>(og (decide (Fk s5 s6)) (k 6 (uR x y s6 (ag (val s5%val s6).toNat))))|false=>(match(s6.length:Int)==0 with|true=>(og (decide (aU s5)) (some [RV.d y2Y (ai (cg false (val s5)))]))|false=>(og (decide (uj s5)) (og (decide (uj s6)) (k 29 (qO x y (val s5) (val s6))))))))|false=>(match(s6.length:Int)==0 with|true=>(og (decide (aU s5)) (some [RV.d y2Y (ai (cg false (val s5)))]))|false=>(og (decide (uj s5)) (og (decide (uj s6)) (k 29 (qO x y (val s5) (val s6))))))
theorem wK(x y:Bool×List Int)(s5 s6:List Int):RL wQ 6 (uR x y s5 s6) (rH x y s5 s6):=rlX
def ub(x y:Bool×List Int)(s9 s10:Int)(k:KT):OLR:=match decide (s10>0)with|true=>(match decide (s10=(0:Int))with|true=>none|false=>k 29 (qO x y s10 (Int.tmod s9 s10)))|false=>(og (decide (jD s9)) (og (decide (aU (ag s9.toNat))) (some [RV.d y2Y (ai (cg false (val (ag s9.toNat))))])))
theorem zO(x y:Bool×List Int)(s9 s10:Int):RL wQ 29 (qO x y s9 s10) (ub x y s9 s10):=rlX
def Pe:Cn 153 [y2Y,y2Y]:=cn λ(x y:Bool×List Int)=>lf (ga x y) [.d y2Y (ai (ae x/ae y)),.d y2Y (ai (ae x%ae y)),.d aqw 0] λh=>by
 refine aB HI (O3 x y) ⟨0,?_⟩;obtain⟨hx,hy,hp⟩:=h;obtain⟨x0,x1,x2⟩:=cN hx;obtain⟨y0,y1,y2⟩:=cN hy;have sx:=hx.2.2;have sy:=hy.2.2
 have ey:y.1=false:=by
  cases e:y.1
  ·rfl
  ·rw[bR,e]at hp;simp only[cg,cond_true]at hp;omega
 have dy:ae y=val y.2:=by rw[bR,ey];rfl
 rw[dy]at hp;have hne:y.2≠[]:=λe=>by rw[y2]at e;omega
 have hprt:Fk x.2 y.2:=⟨⟨hx.1,sx⟩,⟨hy.1,sy⟩,hne⟩
 have hylen:=anW.2 hne;have r0:=aoj (val x.2) (show val y.2≠0 by omega);have r1:=anV (val x.2) hp;have q0:0<=val x.2/val y.2:=aoe x0 y0;have q1:val x.2/val y.2<=val x.2:=ao3 _ x0;have vx:=b9 hx.1.1;have vy:=b9 hy.1.1;have mx:=dH sx;have my:=dH sy;have szq:szI (val x.2/val y.2)<=1000000:=fV (by have:=cB 1000000;omega) (by omega);have szr:szI (val x.2%val y.2)<=1000000:=fV (by have:=cB 1000000;omega) (by omega);have lq:(ag (val x.2/val y.2).toNat).length<=1000000:=cK q0 (by omega);have lr:(ag (val x.2%val y.2).toNat).length<=1000000:=cK r0 (by omega);unfold O3;simp only[fE]
 rw[show((y.2.length:Int)==0)=false by simp;omega,dT hprt,dT (cL (n:=(val x.2/val y.2).toNat) (by omega)),dT (cL (n:=(val x.2%val y.2).toNat) (by omega)),dT (show aJ 1 by decide),bZ q0,bZ r0,
  dT (show okI (ai (cg (!(x.1==y.1)) (val x.2/val y.2)))/\okI (ai (1:Int)) from⟨aW (by rw[DD];exact szq),rK⟩),dT (show okI (ai (cg x.1 (val x.2%val y.2)))/\okI y from⟨aW (by rw[DD];exact szr),hy⟩)]
 simp only[dec_enc,dy,c8];rw[bR x,ey]
 have hlen:(((ag (val x.2%val y.2).toNat).length:Int)>0)↔0<val x.2%val y.2:=by
  constructor
  ·intro hl;rcases anL 0 (val x.2%val y.2)with h|h
   ·exact h
   ·rw[show(val x.2%val y.2).toNat=0 by omega,gz]at hl;simp at hl
  ·intro hl;have:ag (val x.2%val y.2).toNat≠[]:=λe=>by rw[ja]at e;omega
   have:=anW.2 this;omega
 obtain⟨n1,n2⟩:=JO (a:=val x.2) (b:=val y.2) x0 hp;rcases anL 0 (val x.2%val y.2)with hr|hr
 ·rw[dT (hlen.2 hr)];cases x.1
  ·rfl
  ·obtain⟨e1,e2⟩:=n2 hr;simp only[cg,cond_true,Bool.not_false,show((true==false):Bool)=false from rfl];rw[e1,e2]
 ·rw[dF (λh'=>by have:=hlen.1 h';omega)];dsimp only;have e0:val x.2%val y.2=0:=by omega
  cases x.1
  ·simp only[cg,cond_false,show((false==false):Bool)=true from rfl,Bool.not_true]
  ·obtain⟨e1,e2⟩:=n1 e0;simp only[cg,cond_true,Bool.not_false,show((true==false):Bool)=false from rfl];rw[e1,e2,e0];rfl
theorem Mh(x y:BI)(B:Nat)(hB:(B:Int)<18446744073709551616):∀(v u:Nat),u<=B->v<=B->wQ.RunsE 29 (qO x y (u:Int) (v:Int)) [.d y2Y (ai ((Nat.gcd u v:Nat):Int))]:=by
 intro v;induction v using Nat.strongRecOn with
 |ind v ih=>
  intro u hu hv;rcases an5 v with h0|h0
  ·refine zO _ _ _ _ ⟨0,λn _=>?_⟩;have hp:jD (u:Int):=⟨by omega,by omega⟩
   have hl:(ag u).length<=3:=dJ (apE (show(u:Int)<18446744073709551616 by omega) (by decide));unfold ub;rw[dF (show ¬(v:Int)>0 by omega),dT hp,aoS,dT (cL (n:=u) (by omega)),bG,show Nat.gcd u v=u by rw[h0];exact Nat.gcd_zero_right u];rfl
  ·obtain⟨n0,hn⟩:=ih (u%v) (ap8 _ h0) v hv (anq (Nat.le_of_lt (ap8 _ h0)) hv);refine zO _ _ _ _ ⟨n0,λn hn'=>?_⟩;unfold ub;rw[dT (show(v:Int)>0 by omega),dF (show ¬(v:Int)=0 by omega),kw (by omega)];dsimp only;rw[show((u:Int)%(v:Int))=((u%v:Nat):Int) by simp,api u v,Nat.gcd_rec v u,api];exact hn n hn'
theorem Jj{u:Nat}(h:(ag u).length<=2):(u:Int)<1000000000000000000:=by
 have h1:=b9 (cd u);rw[bG]at h1;have h2:=dH h;grind [pw]
theorem Mc(x y:BI):∀(v u:Nat),(ag u).length<=1000000->(ag v).length<=1000000->
  wQ.RunsE 6 (uR x y (ag u) (ag v)) [.d y2Y (ai ((Nat.gcd u v:Nat):Int))]:=by
 intro v;induction v using Nat.strongRecOn with
 |ind v ih=>
  intro u hu hv;rcases an5 v with h0|h0
  ·refine wK _ _ _ _ ⟨0,λn _=>?_⟩;unfold rH;rw[h0,Nat.gcd_zero_right,dF (show ¬((ag 0).length:Int)>0 by decide),show(((ag 0).length:Int)==0)=true by decide];dsimp only;rw[dT (cL (n:=u) (by omega)),bG];rfl
  ·have hne:ag v≠[]:=λe=>by rw[ja]at e;omega
   have hl:=anW.2 hne;have hm:=ap8 u h0
   have hms:(ag (u%v)).length<=1000000:=dJ (by
    have:=b9 (cd v);rw[bG]at this;have:=dH hv;omega)
   have hz:(((ag v).length:Int)==0)=false:=by simp;omega
   have hprt:Fk (ag u) (ag v):=⟨⟨fc _,hu⟩,⟨fc _,hv⟩,hne⟩
   have hmod:(val (ag u)%val (ag v)).toNat=u%v:=by rw[bG,bG];omega
   by_cases hsm:(ag u).length<=2/\(ag v).length<=2
   ·have lu:=Jj hsm.1;have lv:=Jj hsm.2;obtain⟨n0,hn⟩:=Mh x y 1000000000000000000 (by decide) v u (by omega) (by omega);refine wK _ _ _ _ ⟨n0,λn hn'=>?_⟩;unfold rH;rw[dT (show((ag v).length:Int)>0 by omega),dF (show ¬((ag u).length:Int)>2 by omega),dF (show ¬((ag v).length:Int)>2 by omega),hz,dT (show uj (ag u) from⟨cL (by omega),by rw[bG];omega⟩),dT (show uj (ag v) from⟨cL (by omega),by rw[bG];omega⟩),bG,bG];exact hn n hn'
   ·obtain⟨n0,hn⟩:=ih (u%v) hm v hv hms;refine wK _ _ _ _ ⟨n0,λn hn'=>?_⟩;have:=hn n hn';rw[show Nat.gcd v (u%v)=Nat.gcd u v by rw[api u v,Nat.gcd_rec v u,api]]at this;unfold rH;rw[dT (show((ag v).length:Int)>0 by omega),dT hprt,hmod];by_cases h2:(ag u).length<=2
    ·rw[dF (show ¬((ag u).length:Int)>2 by omega),dT (show((ag v).length:Int)>2 by omega)];exact this
    ·rw[dT (show((ag u).length:Int)>2 by omega)];exact this
def S8:Cn 152 [y2Y,y2Y]:=cn λ(x y:Bool×List Int)=>lf (okI x/\okI y) [.d y2Y (ai ((Int.gcd (ae x) (ae y):Nat):Int))] λh=>by
 refine dk HI (show wQ.Res _ _ _ from ?_);obtain⟨hx,hy⟩:=h;obtain⟨x0,_,_⟩:=cN hx;obtain⟨y0,_,_⟩:=cN hy;have ex:((ae x).natAbs:Int)=val x.2:=by rw[bR];unfold cg;cases x.1<;>simp<;>omega
 have ey:((ae y).natAbs:Int)=val y.2:=by rw[bR];unfold cg;cases y.1<;>simp<;>omega
 have cx:=ro hx.1;have cy:=ro hy.1;rw[show(val x.2).toNat=(ae x).natAbs by omega]at cx;rw[show(val y.2).toNat=(ae y).natAbs by omega]at cy;obtain⟨n1,h1⟩:=Mc x y (ae y).natAbs (ae x).natAbs (by rw[<-cx];exact hx.2.2) (by rw[<-cy];exact hy.2.2);rw[<-cx,<-cy]at h1;exact acF _ _ ⟨n1,h1 n1 (ani _)⟩
section
abbrev tI:Ty:=.st (.pair .bool aqv)
abbrev tR:Ty:=.st (.pair tI tI)
abbrev tV:Ty:=.st (.pair tR tR)
abbrev tO:Ty:=.st (.pair tR (.pair tR tR))
abbrev tP:Ty:=.st (.pair tR (.pair tR (.pair tR (.pair tR tR))))
abbrev tQ:Ty:=.st (.pair tR (.pair tR (.pair tR (.pair tR (.pair tR tR)))))
abbrev tG:Ty:=.st (.pair aqw aqw)
abbrev BV:=BR×BR
abbrev BO3:=BR×BR×BR
abbrev BP:=BR×BR×BR×BR×BR
abbrev BQ:=BR×BR×BR×BR×BR×BR
abbrev hAd(a b:BR):BR:=hid (ao (ah a+ah b))
abbrev hSu(a b:BR):BR:=hid (ao (ah a-ah b))
abbrev hMu(a b:BR):BR:=hid (ao (ah a*ah b))
abbrev hDi(a b:BR):BR:=hid (ao (ah a/ah b))
abbrev hNe(a:BR):BR:=hid (ao (-ah a))
class Cod (α:Type) (A:outParam Type) where
 enc:α->A
 dec:A->α
 bd:Nat->α->Prop
 ok:Nat->A->Prop
 okD:∀k x,Decidable (ok k x)
 mono:∀j k x,j<=k->bd j x->bd k x
 dec_enc:∀x,dec (enc x)=x
 ok_enc:∀k x,k<=480000->bd k x->ok k (enc x)
 ok_dec:∀k x,ok k x->x=enc (dec x)/\bd k (dec x)
def enc{α A:Type}[Cod α A](x:α):A:=Cod.enc x
def dec{α A:Type}[Cod α A](x:A):α:=Cod.dec x
def ok(α:Type){A:Type}[Cod α A](k:Nat)(x:A):Prop:=Cod.ok (α:=α) k x
instance (α A:Type) [Cod α A] (k:Nat) (x:A):Decidable (ok α k x):=Cod.okD k x
theorem aA{α A:Type}[Cod α A](x:α):dec (enc x)=x:=Cod.dec_enc x
class Bd {α A:Type} [Cod α A] (x:α) (k:outParam Nat):Prop where le:Cod.bd k x
theorem aI{α A:Type}[Cod α A]{k:Nat}{x:A}(h:ok α k x):∃v:α,x=enc v/\Bd v k:=⟨_,(Cod.ok_dec k x h).1,⟨(Cod.ok_dec k x h).2⟩⟩
theorem okd{α A:Type}[Cod α A]{x:α}{j k:Nat}[h:Bd x j](hj:j<=k)(hk:k<=480000):decide (ok α k (enc x))=true:=
 anb (Cod.ok_enc k x hk (Cod.mono j k x hj h.le))
instance al1:Cod Rat BR where
 enc:=ao
 dec:=ah
 bd:=bdR
 ok k x:=okR x/\x.1.2.length<=k/\x.2.2.length<=k
 okD _ _:=instDecidableAnd
 mono _ _ _ hk h:=bK h hk
 dec_enc:=cC
 ok_enc k _ hk h:=⟨rT h hk,h.1,h.2⟩
 ok_dec k x h:=by
  obtain⟨h1,h2,h3⟩:=h;refine⟨SZ h1,?_⟩;obtain⟨e1,e2⟩:=cW h1;unfold bdR szI;rw[e1,e2];rw[jw h1.1]at h2;rw[jw h1.2.1]at h3;exact⟨h2,h3⟩
instance amz:Cod Int Int where
 enc x:=x
 dec x:=x
 bd _ x:=aJ x
 ok _ x:=aJ x
 okD _ _:=inferInstance
 mono _ _ _ _ h:=h
 dec_enc _:=rfl
 ok_enc _ _ _ h:=h
 ok_dec _ _ h:=⟨rfl,h⟩
instance akR:Cod Bool Bool where
 enc x:=x
 dec x:=x
 bd _ _:=True
 ok _ _:=True
 okD _ _:=inferInstance
 mono _ _ _ _ h:=h
 dec_enc _:=rfl
 ok_enc _ _ _ h:=h
 ok_dec _ _ h:=⟨rfl,h⟩
instance akN (α β A B:Type) [Cod α A] [Cod β B]:Cod (α×β) (A×B) where
 enc x:=(enc x.1,enc x.2)
 dec x:=(dec x.1,dec x.2)
 bd k x:=Cod.bd k x.1/\Cod.bd k x.2
 ok k x:=ok α k x.1/\ok β k x.2
 okD _ _:=instDecidableAnd
 mono _ _ _ hk h:=⟨Cod.mono _ _ _ hk h.1,Cod.mono _ _ _ hk h.2⟩
 dec_enc x:=by rw[aA,aA]
 ok_enc k _ hk h:=⟨Cod.ok_enc _ _ hk h.1,Cod.ok_enc _ _ hk h.2⟩
 ok_dec k x h:=⟨anN (Cod.ok_dec k x.1 h.1).1 (Cod.ok_dec k x.2 h.2).1,(Cod.ok_dec k x.1 h.1).2,(Cod.ok_dec k x.2 h.2).2⟩
theorem nr{α:Type}{a b:α}(h:a=b):a=b:=h
theorem uY{α β A B:Type}[Cod α A][Cod β B](x:α×β):(enc x).1=enc x.1:=nr rfl
theorem C0{α β A B:Type}[Cod α A][Cod β B](x:α×β):(enc x).2=enc x.2:=nr rfl
theorem aH{α β A B:Type}[Cod α A][Cod β B](x:α)(y:β):enc (x,y)=(enc x,enc y):=nr rfl
theorem fk(q:Rat):enc q=ao q:=nr rfl
theorem Jo(x:BR):dec x=ah x:=nr rfl
theorem Jr(q:Int):enc q=q:=nr rfl
theorem Fy(q:Bool):enc q=q:=nr rfl
theorem JZ{q:Rat}{j:Nat}[h:Bd q j](hj:j<=480000):decide (okR (ao q))=true:=anb (rT h.le hj)
def mx(j k:Nat):Nat:=bif decide (j<=k)then k else j
theorem CL(j k:Nat):j<=mx j k:=by
 unfold mx;by_cases h:j<=k
 ·rw[anb h];exact h
 ·rw[ane h];exact ani _
theorem C4(j k:Nat):k<=mx j k:=by
 unfold mx;by_cases h:j<=k
 ·rw[anb h];exact ani _
 ·rw[ane h];show k<=j;omega
theorem ng{q:Rat}{j k:Nat}[h:Bd q j](hj:j<=k)(hk:k<=480000):decide (ok Rat k (ao q))=true:=okd (x:=q) hj hk
section
variable {α β A B:Type} [Cod α A] [Cod β B]
instance al4 {x:α×β} {k:Nat} [h:Bd x k]:Bd x.1 k:=⟨h.le.1⟩
instance al5 {x:α×β} {k:Nat} [h:Bd x k]:Bd x.2 k:=⟨h.le.2⟩
instance amS {x:α} {y:β} {j k:Nat} [h:Bd x j] [h':Bd y k]:Bd (x,y) (mx j k):=⟨Cod.mono _ _ _ (CL _ _) h.le,Cod.mono _ _ _ (C4 _ _) h'.le⟩
instance akL {b:Bool} {x y:α} {j k:Nat} [h:Bd x j] [h':Bd y k]:Bd (bif b then x else y) (mx j k):=by
 refine⟨?_⟩;cases b
 ·exact Cod.mono _ _ _ (C4 _ _) h'.le
 ·exact Cod.mono _ _ _ (CL _ _) h.le
theorem Bd.mono{x:α}{j k:Nat}(h:Bd x j)(hk:j<=k):Bd x k:=⟨Cod.mono _ _ _ hk h.le⟩
end
section
variable {a b:Rat} {j k:Nat}
instance alQ [h:Bd a j] [h':Bd b k]:Bd (a+b) (j+k+1):=⟨DG h.le h'.le⟩
instance alp [h:Bd a j] [h':Bd b k]:Bd (a-b) (j+k+1):=⟨Wi h.le h'.le⟩
instance alU [h:Bd a j] [h':Bd b k]:Bd (a*b) (j+k):=⟨Cc h.le h'.le⟩
instance amr [h:Bd a j]:Bd (-a) j:=⟨ya h.le⟩
theorem pj(h:bdR k b):1<=k:=by
 have h1:=h.2;have h2:=IE (b.den:Int);have h3:=b.den_pos;rcases an5 k with e|e
 ·subst e;have:szI (b.den:Int)=0:=by omega
  rw[this]at h2;have:pw 0=1:=rfl;omega
 ·exact e
instance alo [h:Bd a j] [h':Bd b k]:Bd (a/b) (j+k):=by
 refine⟨?_⟩;by_cases h0:b=0
 ·subst h0;rw[apb,Rat.inv_zero,Rat.mul_zero];have:=pj h'.le;exact bK (j:=1) ⟨by decide+kernel,by decide+kernel⟩ (by omega)
 ·exact VY h.le h'.le h0
end
theorem c7{n:Int}(h:aJ n):Bd (n:Rat) 3:=by
 refine⟨?_⟩;show bdR 3 (n:Rat);refine⟨?_,?_⟩
 ·rw[Rat.num_intCast];have:pw 3=1000000000000000000000000000:=by decide
  exact fV (by have:=h.1;omega) (by have:=h.2;omega)
 ·rw[Rat.den_intCast];exact fV (by decide) (by decide)
instance mM:Bd (0:Rat) 1:=⟨⟨by decide+kernel,by decide+kernel⟩⟩
theorem fL{x:BR}(h:okR x):∃q:Rat,x=ao q/\Bd q 480000:=⟨ah x,SZ h,⟨DX h⟩⟩
def cV(a b:Rat×Rat):Rat×Rat:=(b.1-a.1,b.2-a.2)
def a9(a b:Rat×Rat):Rat:=a.1*b.1+a.2*b.2
instance alm {a b:Rat×Rat} {j k:Nat} [Bd a j] [Bd b k]:Bd (cV a b) (k+j+1):=
 ⟨(inferInstance:Bd (b.1-a.1) (k+j+1)).le,(inferInstance:Bd (b.2-a.2) (k+j+1)).le⟩
instance alT {a b:Rat×Rat} {j k:Nat} [Bd a j] [Bd b k]:Bd (a9 a b) ((j+k)+(j+k)+1):=inferInstanceAs (Bd (a.1*b.1+a.2*b.2) _)
end
def Qu:List En:=[enK Cj,enK CE,enK Rk,enF Ot,enF PP,enK Re,enK Pe,enK S8]
def OU(_k:KT):OLR:=og (decide (aJ (1:Int))) (some [RV.d y2Y (ai (1:Int))])
def RQ:Cn 80 []:=cn<|lf True [.d y2Y (ai 1)] λ_=>by
 refine aB Qu (OU) ⟨0,?_⟩;unfold OU;rw[dT (show aJ 1 by decide)]
def Ra:List En:=enK RQ::Qu
def Z2(x y:Bool×List Int)(_k:KT):OLR:=og (decide (okI y)) (match decide ((cE (ae y) 0)<0)with|true=>(og (decide (okI x)) (og (decide (okI y)) (og (decide (okI (ai (-ae x))/\okI (ai (-ae y)))) (og (decide (ga (ai (-ae x)) (ai ((Int.gcd (ae (ai (-ae x))) (ae (ai (-ae y))):Nat):Int)))) (og (decide (ga (ai (-ae y)) (ai ((Int.gcd (ae (ai (-ae x))) (ae (ai (-ae y))):Nat):Int)))) (some [RV.d (.st (.pair y2Y y2Y)) ((ai (ae (ai (-ae x))/ae (ai ((Int.gcd (ae (ai (-ae x))) (ae (ai (-ae y))):Nat):Int)))),(ai (ae (ai (-ae y))/ae (ai ((Int.gcd (ae (ai (-ae x))) (ae (ai (-ae y))):Nat):Int)))))]))))))|false=>(og (decide (okI x/\okI y)) (og (decide (ga x (ai ((Int.gcd (ae x) (ae y):Nat):Int)))) (og (decide (ga y (ai ((Int.gcd (ae x) (ae y):Nat):Int)))) (some [RV.d (.st (.pair y2Y y2Y)) ((ai (ae x/ae (ai ((Int.gcd (ae x) (ae y):Nat):Int)))),(ai (ae y/ae (ai ((Int.gcd (ae x) (ae y):Nat):Int)))))])))))
def Zd:Cn 62 [y2Y,y2Y]:=cn λ(x y:Bool×List Int)=>lf (kL x y) [.d (.st (.pair y2Y y2Y)) (f0 x y)] λh=>by
 refine aB Ra (Z2 x y) ⟨0,?_⟩;obtain⟨hx,hy,hne⟩:=h;have sx:=jJ hx;have sy:=jJ hy;have hgp:0<Int.gcd (ae x) (ae y):=Nat.pos_of_ne_zero λe=>hne (Int.gcd_eq_zero_iff.1 e).2;have hgs:=N6 (a:=ae x) hne sy;have og:okI (ai ((Int.gcd (ae x) (ae y):Nat):Int)):=aW hgs;have o1:okI (ai (-ae x)):=aW (by rw[ke];exact sx);have o2:okI (ai (-ae y)):=aW (by rw[ke];exact sy);have ig:∀z:BI,okI z->ga z (ai ((Int.gcd (ae x) (ae y):Nat):Int)):=λz hz=>⟨hz,og,by rw[dec_enc];omega⟩
 unfold Z2 f0;rw[dT hy];rcases ao1 hne with hn|hn
 ·rw[dl hn,dT (show(-1:Int)<0 by decide),dT hx];simp only[dec_enc,Int.gcd_neg,Int.neg_gcd];rw[dT (show okI (ai (-ae x))/\okI (ai (-ae y)) from⟨o1,o2⟩),dT (ig _ o1),dT (ig _ o2),<-Rat.neg_divInt_neg,qf (by omega),Int.gcd_neg,Int.neg_gcd]
 ·rw[cX hn,dF (show ¬(1:Int)<0 by decide)];simp only[dec_enc];rw[dT (show okI x/\okI y from⟨hx,hy⟩),dT (ig _ hx),dT (ig _ hy),qf hn]
def ri:List En:=enK Zd::Ra
def TM(a:(Bool×List Int)×Bool×List Int)(_k:KT):OLR:=og (decide (okI a.1)) (some [RV.d aqw (cE (ae a.1) 0)])
def Ny(n:Int)(_k:KT):OLR:=og (decide (aJ n)) (some [RV.d (.st (.pair y2Y y2Y)) ((ai n),(ai 1))])
def Sc(a b:(Bool×List Int)×Bool×List Int)(_k:KT):OLR:=og (decide (okI a.1/\okI b.2)) (og (decide (okI b.1/\okI a.2)) (og (decide (okI (ai (ae a.1*ae b.2))/\okI (ai (ae b.1*ae a.2)))) (some [RV.d aqw (cE (ae (ai (ae a.1*ae b.2))) (ae (ai (ae b.1*ae a.2))))])))
def Tg(a b:(Bool×List Int)×Bool×List Int)(_k:KT):OLR:=og (decide (okI a.1/\okI b.2)) (og (decide (okI b.1/\okI a.2)) (og (decide (okI (ai (ae a.1*ae b.2))/\okI (ai (ae b.1*ae a.2)))) (og (decide (okI a.2/\okI b.2)) (og (decide (kL (ai (ae (ai (ae a.1*ae b.2))+ae (ai (ae b.1*ae a.2)))) (ai (ae a.2*ae b.2)))) (some [RV.d (.st (.pair y2Y y2Y)) (((f0 (ai (ae (ai (ae a.1*ae b.2))+ae (ai (ae b.1*ae a.2)))) (ai (ae a.2*ae b.2))).1),((f0 (ai (ae (ai (ae a.1*ae b.2))+ae (ai (ae b.1*ae a.2)))) (ai (ae a.2*ae b.2))).2))])))))
def Po(a b:(Bool×List Int)×Bool×List Int)(_k:KT):OLR:=og (decide (okI a.1/\okI b.1)) (og (decide (okI a.2/\okI b.2)) (og (decide (kL (ai (ae a.1*ae b.1)) (ai (ae a.2*ae b.2)))) (some [RV.d (.st (.pair y2Y y2Y)) (((f0 (ai (ae a.1*ae b.1)) (ai (ae a.2*ae b.2))).1),((f0 (ai (ae a.1*ae b.1)) (ai (ae a.2*ae b.2))).2))])))
def TC(a:(Bool×List Int)×Bool×List Int)(_k:KT):OLR:=og (decide (okI a.1)) (some [RV.d (.st (.pair y2Y y2Y)) ((ai (-ae a.1)),a.2)])
def MP(x y:Bool×List Int)(_k:KT):OLR:=og (decide (okI y)) (match(cE (ae y) 0)==0 with|true=>some [RV.d (.st (.pair y2Y y2Y)) ((false,[]),(false,[])),RV.d aqw 6]|false=>(og (decide (kL x y)) (some [RV.d (.st (.pair y2Y y2Y)) (((f0 x y).1),((f0 x y).2)),RV.d aqw 0])))
def aex:Cn 314 [y2Y,y2Y]:=cn λ(x y:Bool×List Int)=>lf (kL x y) [.d (.st (.pair y2Y y2Y)) (f0 x y),.d aqw 0] λh=>by
 refine aB ri (MP x y) ⟨0,?_⟩;obtain⟨hx,hy,hne⟩:=h
 have hnz:(cE (ae y) 0==0)=false:=by
  rcases ao1 hne with h|h
  ·rw[dl h];rfl
  ·rw[cX h];rfl
 unfold MP;rw[dT hy,hnz,dT (show kL x y from⟨hx,hy,hne⟩)]
def Km:List En:=enK aex::ri
def MT(a b:(Bool×List Int)×Bool×List Int)(_k:KT):OLR:=match decide (okI a.1/\okI b.2)with|true=>(match decide (okI a.2/\okI b.1)with|true=>(match decide (kL (ai (ae a.1*ae b.2)) (ai (ae a.2*ae b.1)))with|true=>some [RV.d (.st (.pair y2Y y2Y)) (((f0 (ai (ae a.1*ae b.2)) (ai (ae a.2*ae b.1))).1),((f0 (ai (ae a.1*ae b.2)) (ai (ae a.2*ae b.1))).2)),RV.d aqw 0]|false=>none)|false=>none)|false=>none
def qZ:Cn 46 [(.st (.pair y2Y y2Y))]:=cn λ(a:(Bool×List Int)×Bool×List Int)=>lf (okR a) [.d aqw (aF (ah a) 0)] λh=>by
 refine aB ri (TM a) ⟨0,?_⟩;unfold TM;rw[dT h.1,<-wH,(cW h).1]
def qy:Cn 25 [aqw]:=cn λ(n:Int)=>lf (aJ n) [.d (.st (.pair y2Y y2Y)) (ao (n:Rat))] λh=>by
 refine aB ri (Ny n) ⟨0,?_⟩;unfold Ny ao;rw[dT h,Rat.num_intCast,Rat.den_intCast];rfl
def wL:Cn 185 [(.st (.pair y2Y y2Y)),(.st (.pair y2Y y2Y))]:=cn λ(a b:(Bool×List Int)×Bool×List Int)=>lf (okR a/\okR b) [.d aqw (aF (ah a) (ah b))] λh=>by
 refine aB ri (Sc a b) ⟨0,?_⟩;obtain⟨ha,hb⟩:=h;obtain⟨a1,a2⟩:=cW ha;obtain⟨b1,b2⟩:=cW hb;obtain⟨sa1,sa2⟩:=ik ha;obtain⟨sb1,sb2⟩:=ik hb;have h1:=cY sa1 sb2;have h2:=cY sb1 sa2;unfold Sc;rw[dT (show okI a.1/\okI b.2 from⟨ha.1,hb.2.1⟩),dT (show okI b.1/\okI a.2 from⟨hb.1,ha.2.1⟩),dT (show okI (ai (ae a.1*ae b.2))/\okI (ai (ae b.1*ae a.2)) from⟨aW (by omega),aW (by omega)⟩),dec_enc,dec_enc,<-a1,<-a2,<-b1,<-b2,An]
def wG:Cn 199 [(.st (.pair y2Y y2Y))]:=cn λ(a:(Bool×List Int)×Bool×List Int)=>lf (okR a) [.d (.st (.pair y2Y y2Y)) (ao (-ah a))] λh=>by
 refine aB ri (TC a) ⟨0,?_⟩;obtain⟨a1,a2⟩:=cW h;unfold TC
 have e:ao (-ah a)=(ai (-ae a.1),a.2):=by
  unfold ao;rw[Rat.neg_num,a1,show((-ah a).den:Int)=((ah a).den:Int) from rfl,a2,<-jw h.2.1]
 rw[dT h.1,e]
def ti:Cn 19 [(.st (.pair y2Y y2Y)),(.st (.pair y2Y y2Y))]:=cn λ(a b:(Bool×List Int)×Bool×List Int)=>lf (okR a/\okR b) [.d (.st (.pair y2Y y2Y)) (ao (ah a+ah b))] λh=>by
 refine aB ri (Tg a b) ⟨0,?_⟩;obtain⟨ha,hb⟩:=h;obtain⟨a1,a2⟩:=cW ha;obtain⟨b1,b2⟩:=cW hb;obtain⟨sa1,sa2⟩:=ik ha;obtain⟨sb1,sb2⟩:=ik hb;have pa:=ha.2.2.1;have pb:=hb.2.2.1;have h1:=cY sa1 sb2;have h2:=cY sb1 sa2;have h3:=cY sa2 sb2;have h4:=xT h1 h2;have hda:ah a=Rat.divInt (ae a.1) (ae a.2):=by rw[<-a1,<-a2,aof]
 have hdb:ah b=Rat.divInt (ae b.1) (ae b.2):=by rw[<-b1,<-b2,aof]
 unfold Tg;rw[dT (show okI a.1/\okI b.2 from⟨ha.1,hb.2.1⟩),dT (show okI b.1/\okI a.2 from⟨hb.1,ha.2.1⟩),dT (show okI (ai (ae a.1*ae b.2))/\okI (ai (ae b.1*ae a.2)) from⟨aW (by omega),aW (by omega)⟩),dT (show okI a.2/\okI b.2 from⟨ha.2.1,hb.2.1⟩)];simp only[dec_enc];rw[dT (show kL (ai (ae a.1*ae b.2+ae b.1*ae a.2)) (ai (ae a.2*ae b.2)) from⟨aW (by omega),aW (by omega),by rw[dec_enc];exact apP (by omega) (by omega)⟩)]
 have e:f0 (ai (ae a.1*ae b.2+ae b.1*ae a.2)) (ai (ae a.2*ae b.2))=ao (ah a+ah b):=by
  unfold f0;rw[dec_enc,dec_enc,hda,hdb,Rat.divInt_add_divInt _ _ (by omega) (by omega)]
 rw[e]
def sZ:Cn 83 [(.st (.pair y2Y y2Y)),(.st (.pair y2Y y2Y))]:=cn λ(a b:(Bool×List Int)×Bool×List Int)=>lf (okR a/\okR b) [.d (.st (.pair y2Y y2Y)) (ao (ah a*ah b))] λh=>by
 refine aB ri (Po a b) ⟨0,?_⟩;obtain⟨ha,hb⟩:=h;obtain⟨a1,a2⟩:=cW ha;obtain⟨b1,b2⟩:=cW hb;obtain⟨sa1,sa2⟩:=ik ha;obtain⟨sb1,sb2⟩:=ik hb;have pa:=ha.2.2.1;have pb:=hb.2.2.1;have h1:=cY sa1 sb1;have h3:=cY sa2 sb2;have hda:ah a=Rat.divInt (ae a.1) (ae a.2):=by rw[<-a1,<-a2,aof]
 have hdb:ah b=Rat.divInt (ae b.1) (ae b.2):=by rw[<-b1,<-b2,aof]
 unfold Po;rw[dT (show okI a.1/\okI b.1 from⟨ha.1,hb.1⟩),dT (show okI a.2/\okI b.2 from⟨ha.2.1,hb.2.1⟩),dT (show kL (ai (ae a.1*ae b.1)) (ai (ae a.2*ae b.2)) from⟨aW (by omega),aW (by omega),by rw[dec_enc];exact apP (by omega) (by omega)⟩)]
 have e:f0 (ai (ae a.1*ae b.1)) (ai (ae a.2*ae b.2))=ao (ah a*ah b):=by
  unfold f0;rw[dec_enc,dec_enc,hda,hdb,apR]
 rw[e]
def Hg:Cn 271 [(.st (.pair y2Y y2Y)),(.st (.pair y2Y y2Y))]:=cn λ(a b:(Bool×List Int)×Bool×List Int)=>lf (ju a b) [.d (.st (.pair y2Y y2Y)) (ao (ah a/ah b)),.d aqw 0] λh=>by
 refine aB Km (MT a b) ⟨0,?_⟩;obtain⟨ha,hb,hne⟩:=h;obtain⟨a1,a2⟩:=cW ha;obtain⟨b1,b2⟩:=cW hb;obtain⟨sa1,sa2⟩:=ik ha;obtain⟨sb1,sb2⟩:=ik hb;have pa:=ha.2.2.1;have h1:=cY sa1 sb2;have h3:=cY sa2 sb1;have hda:ah a=Rat.divInt (ae a.1) (ae a.2):=by rw[<-a1,<-a2,aof]
 have hdb:ah b=Rat.divInt (ae b.1) (ae b.2):=by rw[<-b1,<-b2,aof]
 have hmz:ae a.2*ae b.1≠0:=apP (by omega) hne;unfold MT;rw[dT (show okI a.1/\okI b.2 from⟨ha.1,hb.2.1⟩),dT (show okI a.2/\okI b.1 from⟨ha.2.1,hb.1⟩)];simp only;rw[dT (show kL (ai (ae a.1*ae b.2)) (ai (ae a.2*ae b.1)) from⟨aW (by omega),aW (by omega),by rw[dec_enc];exact hmz⟩)]
 have e:f0 (ai (ae a.1*ae b.2)) (ai (ae a.2*ae b.1))=ao (ah a/ah b):=by
  unfold f0;rw[dec_enc,dec_enc,hda,hdb,apb,Rat.inv_divInt,apR]
 rw[e]
def Sk:List En:=enK ti::enK wG::enK Hg::Km
def Qv(a b:(Bool×List Int)×Bool×List Int)(_k:KT):OLR:=match decide (okR b)with|true=>(match decide (okR a/\okR (ao (-ah b)))with|true=>some [RV.d (.st (.pair y2Y y2Y)) (((ao (ah a+ah (ao (-ah b)))).1),((ao (ah a+ah (ao (-ah b)))).2))]|false=>none)|false=>none
def Q3(a b:(Bool×List Int)×Bool×List Int)(_k:KT):OLR:=og (decide (ju a b)) (some [RV.d (.st (.pair y2Y y2Y)) (((ao (ah a/ah b)).1),((ao (ah a/ah b)).2))])
def wE:Cn 140 [(.st (.pair y2Y y2Y)),(.st (.pair y2Y y2Y))]:=cn λ(a b:(Bool×List Int)×Bool×List Int)=>lf (okR a/\okR b) [.d (.st (.pair y2Y y2Y)) (ao (ah a-ah b))] λh=>by
 refine aB Sk (Qv a b) ⟨0,?_⟩;obtain⟨ha,hb⟩:=h;unfold Qv;rw[dT hb,cC,apG,dT (show okR a/\okR (ao (-ah b)) from⟨ha,rT (ya (DX hb)) (ani _)⟩)]
def acv:Cn 296 [(.st (.pair y2Y y2Y)),(.st (.pair y2Y y2Y))]:=cn λ(a b:(Bool×List Int)×Bool×List Int)=>lf (ju a b) [.d (.st (.pair y2Y y2Y)) (ao (ah a/ah b))] λh=>by
 refine aB Sk (Q3 a b) ⟨0,?_⟩;unfold Q3;rw[dT h]
theorem ka{a b:Rat}{j k:Nat}[ha:Bd a j][hb:Bd b k](hj:j<=480000)(hk:k<=480000)(h:b≠0):decide (ju (ao a) (ao b))=true:=
 anb ⟨rT ha.le hj,rT hb.le hk,by show ae (ai b.num)≠0;rw[dec_enc];exact λe=>h (Rat.num_eq_zero.1 e)⟩
theorem aX:type_of% @d8/\type_of% @c8/\type_of% @fE/\type_of% @bL/\type_of% @aA/\type_of% @uY/\type_of% @C0/\type_of% @fk/\type_of% @Jr/\type_of% @Fy/\type_of% @Jo/\type_of% @cC/\type_of% @agG/\type_of% @ahW/\type_of% @aiE/\type_of% @okd/\type_of% @ng/\type_of% @JZ/\type_of% @ka/\type_of% @apa/\type_of% @Bool.and_true/\type_of% @aoI/\type_of% @aow/\type_of% @mx.eq_1/\type_of% @decide_true/\type_of% @decide_false/\(∀{α:Type} (a b:α),cond true a b=a)/\∀{α:Type} (a b:α),cond false a b=b:=
 ⟨@d8,@c8,@fE,@bL,@aA,@uY,@C0,@fk,@Jr,@Fy,@Jo,@cC,@agG,@ahW,@aiE,@okd,@ng,@JZ,@ka,@apa,@Bool.and_true,@aoI,@aow,@mx.eq_1,@decide_true,@decide_false,@cond_true,@cond_false⟩
theorem az(a b:Rat):decide (aF a b>0)=decide (b<a):=by
 rcases(by grind:a<b\/a=b\/b<a)with h|h|h
 ·rw[dU h,ane (show ¬b<a by grind)];rfl
 ·rw[h,eU,ane (show ¬b<b by grind)];rfl
 ·rw[dG h,anb h];rfl
theorem av(a b:Rat):decide (aF a b<0)=decide (a<b):=by
 rcases(by grind:a<b\/a=b\/b<a)with h|h|h
 ·rw[dU h,anb h];rfl
 ·rw[h,eU,ane (show ¬b<b by grind)];rfl
 ·rw[dG h,ane (show ¬a<b by grind)];rfl
theorem akl(a b:Rat):decide (aF a b>=0)=decide (b<=a):=by
 rcases(by grind:a<b\/a=b\/b<a)with h|h|h
 ·rw[dU h,ane (show ¬b<=a by grind)];rfl
 ·rw[h,eU,anb (show b<=b by grind)];rfl
 ·rw[dG h,anb (show b<=a by grind)];rfl
theorem za(a b:Rat):decide (aF a b<=0)=decide (a<=b):=by
 rcases(by grind:a<b\/a=b\/b<a)with h|h|h
 ·rw[dU h,anb (show a<=b by grind)];rfl
 ·rw[h,eU,anb (show b<=b by grind)];rfl
 ·rw[dG h,ane (show ¬a<=b by grind)];rfl
theorem au(a b:Rat):(aF a b==0)=decide (a=b):=by
 rcases(by grind:a<b\/a=b\/b<a)with h|h|h
 ·rw[dU h,ane (show ¬a=b by grind)];rfl
 ·rw[h,eU,anb rfl];rfl
 ·rw[dG h,ane (show ¬a=b by grind)];rfl
theorem kY(a b:Rat): -1<=aF a b/\aF a b<=1:=by
 rcases(by grind:a<b\/a=b\/b<a)with h|h|h
 ·rw[dU h];decide
 ·rw[h,eU];decide
 ·rw[dG h];decide
theorem rR{a b c d:Rat}:i64.wrap (aF a b*aF c d)=aF a b*aF c d:=by
 rcases(by grind:a<b\/a=b\/b<a)with h|h|h<;>rcases(by grind:c<d\/c=d\/d<c)with h'|h'|h';all_goals first|rw[dU h]|(subst h;rw[eU])|rw[dG h]
 all_goals first|rw[dU h']|(subst h';rw[eU])|rw[dG h']
 all_goals decide
def jR:fb:=spN false true [tR,tR] (λx=>decide (okR x.1/\okR x.2.1)) (λx=>[RV.d tR (hAd x.1 x.2.1)])
theorem gb:SpK 132 jR:=spX λx h=>by simp only[bL];exact J0 x.1 x.2.1 (anf h)
def jx:fb:=spN false true [tR,tR] (λx=>decide (okR x.1/\okR x.2.1)) (λx=>[RV.d tR (hSu x.1 x.2.1)])
theorem fM:SpK 65 jx:=spX λx h=>by simp only[bL];exact Vi x.1 x.2.1 (anf h)
def iV:fb:=spN false true [tR,tR] (λx=>decide (okR x.1/\okR x.2.1)) (λx=>[RV.d tR (hMu x.1 x.2.1)])
theorem fA:SpK 67 iV:=spX λx h=>by simp only[bL];exact UH x.1 x.2.1 (anf h)
def zZ:fb:=spN false true [tR,tR] (λx=>decide (ju x.1 x.2.1)) (λx=>[RV.d tR (hDi x.1 x.2.1),RV.d aqw 0])
theorem uw:SpK 245 zZ:=spX λx h=>by simp only[bL];exact Xy x.1 x.2.1 (anf h)
def gK:fb:=spN true true [tR] (λx=>decide (okR x.1)) (λx=>[RV.d aqw (aF (ah x.1) 0)])
theorem eH:SpK 54 gK:=spX λx h=>K7 x.1 (anf h)
def nA:fb:=spN true true [tR,tR] (λx=>decide (okR x.1/\okR x.2.1)) (λx=>[RV.d aqw (aF (ah x.1) (ah x.2.1))])
theorem jk:SpK 66 nA:=spX λx h=>WX x.1 x.2.1 (anf h)
def jn:fb:=spN false true [aqw] (λx=>decide (aJ x.1)) (λx=>[RV.d tR (hid (ao (x.1:Rat)))])
theorem fO:SpK 125 jn:=spX λx h=>by simp only[bL];exact U9 x.1 (anf h)
def EA:List En:=[⟨132,jR,gb⟩,⟨65,jx,fM⟩,⟨67,iV,fA⟩,⟨245,zZ,uw⟩,⟨54,gK,eH⟩,⟨66,nA,jk⟩,⟨125,jn,fO⟩]
def Te:Cn 122 [tR,tR]:=cn λ(a b:BR)=>lf (okR a/\okR b) [.d tR (ao (ah a+ah b))] λh=>kO [RV.d tR (hAd a b)] (dN EA) h
def IP:Cn 121 [tR,tR]:=cn λ(a b:BR)=>lf (okR a/\okR b) [.d tR (ao (ah a-ah b))] λh=>kO [RV.d tR (hSu a b)] (dN EA) h
def OM:Cn 123 [tR,tR]:=cn λ(a b:BR)=>lf (okR a/\okR b) [.d tR (ao (ah a*ah b))] λh=>kO [RV.d tR (hMu a b)] (dN EA) h
def Zm(a b:BR)(_k:KT):OLR:=og (decide (ju a b)) (match 0 !=0 with|true=>(og (decide (aJ (0:Int))) (some [RV.d tR (hid (ao ((0:Int):Rat)))]))|false=>some [RV.d tR (hDi a b)])
def OD:Cn 230 [tR,tR]:=cn λ(a b:BR)=>lf (ju a b) [.d tR (ao (ah a/ah b))] λh=>by
 refine aB EA (Zm a b) ⟨0,?_⟩;unfold Zm;rw[dT h];simp only[bL];rfl
def ZX:List En:=enL Te::enL IP::enL OM::enL OD::EA
def aa1(a b:BV)(_k:KT):OLR:=og (o2 b.1 a.1) (og (o2 b.2 a.2) (some [RV.d tV (hSu b.1 a.1,hSu b.2 a.2)]))
def amV:Cn 293 [tV,tV]:=cn λ(a b:BV)=>lf (ok (Rat×Rat) 1000 a/\ok (Rat×Rat) 1000 b) [.d tV (enc (cV (dec a) (dec b)))] λh=>by
 refine aB ZX (aa1 a b) ⟨0,?_⟩;obtain⟨ha,hb⟩:=h;obtain⟨a,rfl,ba⟩:=aI ha;obtain⟨b,rfl,bb⟩:=aI hb;unfold aa1;simp only[aX,Nat.reduceLeDiff];try rfl
def abd(a b:BV)(_k:KT):OLR:=og (o2 a.1 b.1) (og (o2 a.2 b.2) (og (o2 (hMu a.1 b.1) (hMu a.2 b.2)) (some [RV.d tR (hAd (hMu a.1 b.1) (hMu a.2 b.2))])))
def akF:Cn 231 [tV,tV]:=cn λ(a b:BV)=>lf (ok (Rat×Rat) 5000 a/\ok (Rat×Rat) 5000 b) [.d tR (ao (a9 (dec a) (dec b)))] λh=>by
 refine aB ZX (abd a b) ⟨0,?_⟩;obtain⟨ha,hb⟩:=h;obtain⟨a,rfl,ba⟩:=aI ha;obtain⟨b,rfl,bb⟩:=aI hb;unfold abd;simp only[aX,Nat.reduceAdd,Nat.reduceLeDiff];try rfl
def K0:List En:=[enL ti,enL wE,enL sZ,enL acv,enT qZ,enT wL,enL qy]
def af5:Cn 148 [tR,tR]:=cn λ(a b:BR)=>lf (okR a/\okR b) [.d tR (ao (ah a+ah b))] λh=>kO [RV.d tR (hAd a b)] (dN K0) h
def ahd:Cn 239 [tR,tR]:=cn λ(a b:BR)=>lf (okR a/\okR b) [.d tR (ao (ah a-ah b))] λh=>kO [RV.d tR (hSu a b)] (dN K0) h
def akk:Cn 60 [tR,tR]:=cn λ(a b:BR)=>lf (okR a/\okR b) [.d tR (ao (ah a*ah b))] λh=>kO [RV.d tR (hMu a b)] (dN K0) h
def aiu:List En:=enL af5::enL ahd::enL akk::K0
def Yn(a b:BV)(_k:KT):OLR:=og (o2 b.1 a.1) (og (o2 b.2 a.2) (some [RV.d tV (hSu b.1 a.1,hSu b.2 a.2)]))
def amR:Cn 144 [tV,tV]:=cn λ(a b:BV)=>lf (ok (Rat×Rat) 1000 a/\ok (Rat×Rat) 1000 b) [.d tV (enc (cV (dec a) (dec b)))] λh=>by
 refine aB aiu (Yn a b) ⟨0,?_⟩;obtain⟨ha,hb⟩:=h;obtain⟨a,rfl,ba⟩:=aI ha;obtain⟨b,rfl,bb⟩:=aI hb;unfold Yn;simp only[aX,Nat.reduceLeDiff];try rfl
abbrev Rt:=Rat×Rat×Rat
def iy(a b m:Rat):Int:=RE.addS (aF a 0) (aF b 0*aF m 0) (aF (a*a) (b*b*m))
def C3(A B C D M N:Rat):Int:=bif decide (M<0)||decide (N<0)then 0
 else RE.addS (iy A B M) (iy C D M*aF N 0) (iy (A*A+B*B*M-N*(C*C+D*D*M)) (2*(A*B-N*(C*D))) M)
def bi(x y:Rt):Int:=C3 (x.1-y.1) x.2.1 (-y.2.1) 0 x.2.2 y.2.2
theorem vf(a b:Rat):aF (a-b) 0=aF a b:=by
 rcases(by grind:a<b\/a=b\/b<a)with h|h|h
 ·rw[dU h,dU (by grind)]
 ·rw[h,eU,show b-b=0 by grind,eU]
 ·rw[dG h,dG (by grind)]
namespace RE
def rq(m:Rat):RE:=mb (of m)
theorem gS(m:Rat):0<=rq m:=eV _
theorem dE{m:Rat}(h:0<=m):rq m*rq m=of m:=jo (gr.2 h)
theorem VF{x:RE}(h:0<=x):sg (mb x)=sg x:=by
 have h1:=eV x;have h2:=jo h;rcases cJ h1 with h'|h'
 ·rw[dD h',<-h2,dD (mul_pos h' h')]
 ·rw[h',mul_zero]at h2;rw[h',h2]
theorem Tl{m:Rat}(h:0<=m):sg (rq m)=aF m 0:=by
 unfold rq;rw[VF (gr.2 h),sg_of]
def v2(a b m:Rat):RE:=of a+of b*rq m
def vR(x:Rt):RE:=v2 x.1 x.2.1 x.2.2
theorem sq2(a b s:RE):a*a-b*s*(b*s)=a*a-b*b*(s*s):=by grind
theorem sq4(A B C D s t:RE):(A+B*s)*(A+B*s)-(C+D*s)*t*((C+D*s)*t)=A*A+B*B*(s*s)-t*t*(C*C+D*D*(s*s))+2*(A*B-t*t*(C*D))*s:=by grind
theorem ajy(A B C D s t:RE):A+B*s+(C+D*s)*t=A+B*s+C*t+D*(s*t):=by grind
theorem adZ(a b c d s t:RE):a-c+b*s+(-d)*t+0*(s*t)=a+b*s-(c+d*t):=by grind
theorem sgn2_re{a b m:Rat}(h:0<=m):iy a b m=sg (v2 a b m):=by
 unfold v2;rw[Ix,sq2,dE h,dA,sg_of,sg_of,Tl h,<-aC,<-aC,<-aC,<-of_sub,sg_of,vf];rfl
theorem adS:of 2=2:=rfl
def vQ(A B C D M N:Rat):RE:=of A+of B*rq M+of C*rq N+of D*(rq M*rq N)
theorem sgnQ_re{A B C D M N:Rat}(hM:0<=M)(hN:0<=N):C3 A B C D M N=sg (vQ A B C D M N):=by
 unfold C3 vQ;rw[ane (by grind),ane (by grind),<-ajy,Ix,sq4,dE hM,dE hN,dA,Tl hN,sgn2_re hM,sgn2_re hM,sgn2_re hM];unfold v2;simp only[of_sub,of_add,aC,adS];rfl
theorem cmpT_re{x y:Rt}(hx:0<=x.2.2)(hy:0<=y.2.2):bi x y=sg (vR x-vR y):=by
 unfold bi vR v2;rw[sgnQ_re hx hy,<-adZ,<-of_sub,<-of_neg];rfl
end RE
theorem Df{s t:Int}(hs: -1<=s/\s<=1)(ht: -1<=t/\t<=1): -1<=s*t/\s*t<=1:=by
 have h1:s= -1\/s=0\/s=1:=by omega
 have h2:t= -1\/t=0\/t=1:=by omega
 rcases h1 with rfl|rfl|rfl<;>rcases h2 with rfl|rfl|rfl<;>decide
theorem Jh{s t d:Int}(hs: -1<=s/\s<=1)(ht: -1<=t/\t<=1)(hd: -1<=d/\d<=1): -1<=RE.addS s t d/\RE.addS s t d<=1:=by
 unfold RE.addS;cases(t==0||s==t)
 ·cases s==0
  ·exact Df hs hd
  ·exact ht
 ·exact hs
theorem m6(a b m:Rat): -1<=iy a b m/\iy a b m<=1:=Jh (kY _ _) (Df (kY _ _) (kY _ _)) (kY _ _)
theorem Ko(A B C D M N:Rat): -1<=C3 A B C D M N/\C3 A B C D M N<=1:=by
 unfold C3;cases(decide (M<0)||decide (N<0))
 ·exact Jh (m6 _ _ _) (Df (m6 _ _ _) (kY _ _)) (m6 _ _ _)
 ·exact⟨by show(-1:Int)<=0;decide,by show(0:Int)<=1;decide⟩
theorem xD(x y:Rt): -1<=bi x y/\bi x y<=1:=Ko _ _ _ _ _ _
end Go.Proofs.YtagbmoohboleaaaGreat
end
