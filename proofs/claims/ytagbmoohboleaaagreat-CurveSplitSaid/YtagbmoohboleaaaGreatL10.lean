/- The reference's integers: parts. -/
import Derived.Test.YtagbmoohboleaaaGreatL9
import Derived.Test.YtagbmoohboleaaaGreatL8
noncomputable section
namespace Go.Proofs.YtagbmoohboleaaaGreat
open Go.RowKit Go.IntKind
theorem ais:type_of% @Prod.ext:=@Prod.ext
section
def CO(a b:List Int):Prop:=(can a/\a.length<=1000000)/\(can b/\b.length<=1000000)/\b≠[]
instance (a b:List Int):Decidable (CO a b):=by unfold CO;infer_instance
def Kl:List En:=[enK xK,enK Ay,enF z7,enF xR,enK SH,enK Ef]
def PX:NT:=[((242,30),{keep:=[8,9,10,11,12,13,14],pure_:=[(11,.int .u32)],hl:=1}),((242,67),{keep:=[8,9,10,11,12,13,14,16,17],pure_:=[(17,.int .u32)],hl:=1}),((242,90),{keep:=[8,11,12,18,19,20],hl:=2})]
def jq:Ctx:=CX (ens Kl) PX
def kR(a b:List Int)(x1 x2:Int)(s11:List Int)(s14:Int)(r0:List Int):Cfg:=⟨242,[.blk 0,.seq 82],[(8,.d aiz (u32.wrap (u64.wrap (Int.tdiv 1000000000 (u64.wrap ((u64.wrap x1)+1)))))),(9,.d aix (ag (val b*(u32.wrap (u64.wrap (Int.tdiv 1000000000 (u64.wrap ((u64.wrap x1)+1)))))).toNat)),(10,.d (.int .u64) (u64.wrap x2)),(11,.d aix s11),(12,.osl 0 1 ((0:Int).toNat) ((((ag (val a*(u32.wrap (u64.wrap (Int.tdiv 1000000000 (u64.wrap ((u64.wrap x1)+1)))))).toNat).length:Int):Int).toNat-(0:Int).toNat)),(13,.d aix (ag (val a*(u32.wrap (u64.wrap (Int.tdiv 1000000000 (u64.wrap ((u64.wrap x1)+1)))))).toNat)),(14,SI s14)],[.row 200 aiz r0],0,[]⟩
def eK(a b:List Int)(x1 x2:Int)(s11:List Int)(s14:Int)(r0:List Int)(x3 s16:Int)(s17:List Int):Cfg:=⟨242,[.blk 2,.seq 78,.blk 1,.seq 81,.lp 30,.blk 0,.seq 82],[(8,.d aiz (u32.wrap (u64.wrap (Int.tdiv 1000000000 (u64.wrap ((u64.wrap x1)+1)))))),(9,.d aix (ag (val b*(u32.wrap (u64.wrap (Int.tdiv 1000000000 (u64.wrap ((u64.wrap x1)+1)))))).toNat)),(10,.d (.int .u64) (u64.wrap x2)),(11,.d aix (ag (val (([x3])++s11)).toNat)),(12,.osl 0 1 ((0:Int).toNat) ((((ag (val a*(u32.wrap (u64.wrap (Int.tdiv 1000000000 (u64.wrap ((u64.wrap x1)+1)))))).toNat).length:Int):Int).toNat-(0:Int).toNat)),(13,.d aix (ag (val a*(u32.wrap (u64.wrap (Int.tdiv 1000000000 (u64.wrap ((u64.wrap x1)+1)))))).toNat)),(14,SI s14),(16,.d (.int .u64) s16),(17,.d aix s17)],[.row 200 aiz r0],0,[]⟩
def rC(a:List Int)(x1:Int)(s11 r0:List Int)(s18 s20:Int)(r1:List Int):Cfg:=⟨242,[.blk 4,.seq 105],[(8,.d aiz (u32.wrap (u64.wrap (Int.tdiv 1000000000 (u64.wrap ((u64.wrap x1)+1)))))),(11,.d aix s11),(12,.osl 0 1 ((0:Int).toNat) ((((ag (val a*(u32.wrap (u64.wrap (Int.tdiv 1000000000 (u64.wrap ((u64.wrap x1)+1)))))).toNat).length:Int):Int).toNat-(0:Int).toNat)),(18,.d (.int .u64) s18),(19,.own 1),(20,SI s20)],[.row 200 aiz r0,.row 200 aiz r1],0,[]⟩
def Fb(a b:List Int)(k:KT):OLR:=match decide ((a.length:Int)<=2)with|true=>(match decide ((b.length:Int)<=2)with|true=>(og (decide (rQ a)) (og (decide (rQ b)) (match decide (val b=(0:Int))with|true=>none|false=>(match decide (val b=(0:Int))with|true=>none|false=>(og (decide (im (u64.wrap (Int.tdiv (val a) (val b))))) (og (decide (im (Int.tmod (val a) (val b)))) (some [RV.d aix (ag (u64.wrap (Int.tdiv (val a) (val b))).toNat),RV.d aix (ag (Int.tmod (val a) (val b)).toNat)])))))))|false=>(match aG b (i64.wrap ((b.length:Int)-1))with|some x1=>(match decide (u64.wrap ((u64.wrap x1)+1)=(0:Int))with|true=>none|false=>(og (decide (byP b (u32.wrap (u64.wrap (Int.tdiv 1000000000 (u64.wrap ((u64.wrap x1)+1))))))) (match aG (ag (val b*(u32.wrap (u64.wrap (Int.tdiv 1000000000 (u64.wrap ((u64.wrap x1)+1)))))).toNat) (i64.wrap (((ag (val b*(u32.wrap (u64.wrap (Int.tdiv 1000000000 (u64.wrap ((u64.wrap x1)+1)))))).toNat).length:Int)-1))with|some x2=>(og (decide ((0:Int)<=i64.wrap ((a.length:Int)+1)/\(i64.wrap ((a.length:Int)+1))*((4:Nat):Int)<=140737488355328/\i64.wrap ((a.length:Int)+1)<=140737488355328)) (og (decide (byP a (u32.wrap (u64.wrap (Int.tdiv 1000000000 (u64.wrap ((u64.wrap x1)+1))))))) (og (decide ((0:Int)<=0/\0<=((ag (val a*(u32.wrap (u64.wrap (Int.tdiv 1000000000 (u64.wrap ((u64.wrap x1)+1)))))).toNat).length:Int)/\((ag (val a*(u32.wrap (u64.wrap (Int.tdiv 1000000000 (u64.wrap ((u64.wrap x1)+1)))))).toNat).length:Int)<=((List.replicate (i64.wrap ((a.length:Int)+1)).toNat (0:Int)).length:Int))) (k 30 (kR a b x1 x2 ([]) (i64.wrap (((ag (val a*(u32.wrap (u64.wrap (Int.tdiv 1000000000 (u64.wrap ((u64.wrap x1)+1)))))).toNat).length:Int)-1)) (List.replicate (i64.wrap ((a.length:Int)+1)).toNat (0:Int)))))))|none=>none)))|none=>none))|false=>(match aG b (i64.wrap ((b.length:Int)-1))with|some x1=>(match decide (u64.wrap ((u64.wrap x1)+1)=(0:Int))with|true=>none|false=>(og (decide (byP b (u32.wrap (u64.wrap (Int.tdiv 1000000000 (u64.wrap ((u64.wrap x1)+1))))))) (match aG (ag (val b*(u32.wrap (u64.wrap (Int.tdiv 1000000000 (u64.wrap ((u64.wrap x1)+1)))))).toNat) (i64.wrap (((ag (val b*(u32.wrap (u64.wrap (Int.tdiv 1000000000 (u64.wrap ((u64.wrap x1)+1)))))).toNat).length:Int)-1))with|some x2=>(og (decide ((0:Int)<=i64.wrap ((a.length:Int)+1)/\(i64.wrap ((a.length:Int)+1))*((4:Nat):Int)<=140737488355328/\i64.wrap ((a.length:Int)+1)<=140737488355328)) (og (decide (byP a (u32.wrap (u64.wrap (Int.tdiv 1000000000 (u64.wrap ((u64.wrap x1)+1))))))) (og (decide ((0:Int)<=0/\0<=((ag (val a*(u32.wrap (u64.wrap (Int.tdiv 1000000000 (u64.wrap ((u64.wrap x1)+1)))))).toNat).length:Int)/\((ag (val a*(u32.wrap (u64.wrap (Int.tdiv 1000000000 (u64.wrap ((u64.wrap x1)+1)))))).toNat).length:Int)<=((List.replicate (i64.wrap ((a.length:Int)+1)).toNat (0:Int)).length:Int))) (k 30 (kR a b x1 x2 ([]) (i64.wrap (((ag (val a*(u32.wrap (u64.wrap (Int.tdiv 1000000000 (u64.wrap ((u64.wrap x1)+1)))))).toNat).length:Int)-1)) (List.replicate (i64.wrap ((a.length:Int)+1)).toNat (0:Int)))))))|none=>none)))|none=>none)
theorem K1(a b:List Int):RS jq 242 [.d aix a,.d aix b] (Fb a b):=rsX
def kr(a b:List Int)(x1 x2:Int)(s11:List Int)(s14:Int)(r0:List Int)(k:KT):OLR:=match decide (s14>=0)with|true=>(match aG (ag (val a*(u32.wrap (u64.wrap (Int.tdiv 1000000000 (u64.wrap ((u64.wrap x1)+1)))))).toNat) s14 with|some x3=>(og (decide ((([x3]).length+s11.length)*4<=140737488355328/\([x3]).length+s11.length<=140737488355328)) (og (decide (aO (([x3])++s11))) (match decide (((ag (val (([x3])++s11)).toNat).length:Int)>((ag (val b*(u32.wrap (u64.wrap (Int.tdiv 1000000000 (u64.wrap ((u64.wrap x1)+1)))))).toNat).length:Int))with|true=>(match aG (ag (val (([x3])++s11)).toNat) ((ag (val b*(u32.wrap (u64.wrap (Int.tdiv 1000000000 (u64.wrap ((u64.wrap x1)+1)))))).toNat).length:Int)with|some x4=>(match decide (((ag (val (([x3])++s11)).toNat).length:Int)>=((ag (val b*(u32.wrap (u64.wrap (Int.tdiv 1000000000 (u64.wrap ((u64.wrap x1)+1)))))).toNat).length:Int))with|true=>(match aG (ag (val (([x3])++s11)).toNat) (i64.wrap (((ag (val b*(u32.wrap (u64.wrap (Int.tdiv 1000000000 (u64.wrap ((u64.wrap x1)+1)))))).toNat).length:Int)-1))with|some x5=>(match decide (u64.wrap x2=(0:Int))with|true=>none|false=>(match decide ((u64.wrap (Int.tdiv (u64.wrap ((u64.wrap ((u64.wrap x4)*1000000000))+(u64.wrap x5))) (u64.wrap x2)))>999999999)with|true=>(og (decide (byP (ag (val b*(u32.wrap (u64.wrap (Int.tdiv 1000000000 (u64.wrap ((u64.wrap x1)+1)))))).toNat) (u32.wrap 999999999))) (k 67 (eK a b x1 x2 s11 s14 r0 x3 999999999 (ag (val (ag (val b*(u32.wrap (u64.wrap (Int.tdiv 1000000000 (u64.wrap ((u64.wrap x1)+1)))))).toNat)*(u32.wrap 999999999)).toNat))))|false=>(og (decide (byP (ag (val b*(u32.wrap (u64.wrap (Int.tdiv 1000000000 (u64.wrap ((u64.wrap x1)+1)))))).toNat) (u32.wrap (u64.wrap (Int.tdiv (u64.wrap ((u64.wrap ((u64.wrap x4)*1000000000))+(u64.wrap x5))) (u64.wrap x2)))))) (k 67 (eK a b x1 x2 s11 s14 r0 x3 (u64.wrap (Int.tdiv (u64.wrap ((u64.wrap ((u64.wrap x4)*1000000000))+(u64.wrap x5))) (u64.wrap x2))) (ag (val (ag (val b*(u32.wrap (u64.wrap (Int.tdiv 1000000000 (u64.wrap ((u64.wrap x1)+1)))))).toNat)*(u32.wrap (u64.wrap (Int.tdiv (u64.wrap ((u64.wrap ((u64.wrap x4)*1000000000))+(u64.wrap x5))) (u64.wrap x2))))).toNat))))))|none=>none)|false=>(match decide (u64.wrap x2=(0:Int))with|true=>none|false=>(match decide ((u64.wrap (Int.tdiv (u64.wrap ((u64.wrap x4)*1000000000)) (u64.wrap x2)))>999999999)with|true=>(og (decide (byP (ag (val b*(u32.wrap (u64.wrap (Int.tdiv 1000000000 (u64.wrap ((u64.wrap x1)+1)))))).toNat) (u32.wrap 999999999))) (k 67 (eK a b x1 x2 s11 s14 r0 x3 999999999 (ag (val (ag (val b*(u32.wrap (u64.wrap (Int.tdiv 1000000000 (u64.wrap ((u64.wrap x1)+1)))))).toNat)*(u32.wrap 999999999)).toNat))))|false=>(og (decide (byP (ag (val b*(u32.wrap (u64.wrap (Int.tdiv 1000000000 (u64.wrap ((u64.wrap x1)+1)))))).toNat) (u32.wrap (u64.wrap (Int.tdiv (u64.wrap ((u64.wrap x4)*1000000000)) (u64.wrap x2)))))) (k 67 (eK a b x1 x2 s11 s14 r0 x3 (u64.wrap (Int.tdiv (u64.wrap ((u64.wrap x4)*1000000000)) (u64.wrap x2))) (ag (val (ag (val b*(u32.wrap (u64.wrap (Int.tdiv 1000000000 (u64.wrap ((u64.wrap x1)+1)))))).toNat)*(u32.wrap (u64.wrap (Int.tdiv (u64.wrap ((u64.wrap x4)*1000000000)) (u64.wrap x2))))).toNat)))))))|none=>none)|false=>(match decide (((ag (val (([x3])++s11)).toNat).length:Int)>=((ag (val b*(u32.wrap (u64.wrap (Int.tdiv 1000000000 (u64.wrap ((u64.wrap x1)+1)))))).toNat).length:Int))with|true=>(match aG (ag (val (([x3])++s11)).toNat) (i64.wrap (((ag (val b*(u32.wrap (u64.wrap (Int.tdiv 1000000000 (u64.wrap ((u64.wrap x1)+1)))))).toNat).length:Int)-1))with|some x4=>(match decide (u64.wrap x2=(0:Int))with|true=>none|false=>(match decide ((u64.wrap (Int.tdiv (u64.wrap (0+(u64.wrap x4))) (u64.wrap x2)))>999999999)with|true=>(og (decide (byP (ag (val b*(u32.wrap (u64.wrap (Int.tdiv 1000000000 (u64.wrap ((u64.wrap x1)+1)))))).toNat) (u32.wrap 999999999))) (k 67 (eK a b x1 x2 s11 s14 r0 x3 999999999 (ag (val (ag (val b*(u32.wrap (u64.wrap (Int.tdiv 1000000000 (u64.wrap ((u64.wrap x1)+1)))))).toNat)*(u32.wrap 999999999)).toNat))))|false=>(og (decide (byP (ag (val b*(u32.wrap (u64.wrap (Int.tdiv 1000000000 (u64.wrap ((u64.wrap x1)+1)))))).toNat) (u32.wrap (u64.wrap (Int.tdiv (u64.wrap (0+(u64.wrap x4))) (u64.wrap x2)))))) (k 67 (eK a b x1 x2 s11 s14 r0 x3 (u64.wrap (Int.tdiv (u64.wrap (0+(u64.wrap x4))) (u64.wrap x2))) (ag (val (ag (val b*(u32.wrap (u64.wrap (Int.tdiv 1000000000 (u64.wrap ((u64.wrap x1)+1)))))).toNat)*(u32.wrap (u64.wrap (Int.tdiv (u64.wrap (0+(u64.wrap x4))) (u64.wrap x2))))).toNat))))))|none=>none)|false=>(match decide (u64.wrap x2=(0:Int))with|true=>none|false=>(match decide ((u64.wrap (Int.tdiv 0 (u64.wrap x2)))>999999999)with|true=>(og (decide (byP (ag (val b*(u32.wrap (u64.wrap (Int.tdiv 1000000000 (u64.wrap ((u64.wrap x1)+1)))))).toNat) (u32.wrap 999999999))) (k 67 (eK a b x1 x2 s11 s14 r0 x3 999999999 (ag (val (ag (val b*(u32.wrap (u64.wrap (Int.tdiv 1000000000 (u64.wrap ((u64.wrap x1)+1)))))).toNat)*(u32.wrap 999999999)).toNat))))|false=>(og (decide (byP (ag (val b*(u32.wrap (u64.wrap (Int.tdiv 1000000000 (u64.wrap ((u64.wrap x1)+1)))))).toNat) (u32.wrap (u64.wrap (Int.tdiv 0 (u64.wrap x2)))))) (k 67 (eK a b x1 x2 s11 s14 r0 x3 (u64.wrap (Int.tdiv 0 (u64.wrap x2))) (ag (val (ag (val b*(u32.wrap (u64.wrap (Int.tdiv 1000000000 (u64.wrap ((u64.wrap x1)+1)))))).toNat)*(u32.wrap (u64.wrap (Int.tdiv 0 (u64.wrap x2))))).toNat))))))))))|none=>none)|false=>(og (decide ((0:Int)<=(s11.length:Int)/\(s11.length:Int)*((4:Nat):Int)<=140737488355328/\(s11.length:Int)<=140737488355328)) (k 90 (rC a x1 s11 r0 0 (i64.wrap ((s11.length:Int)-1)) (List.replicate ((s11.length:Int)).toNat (0:Int)))))
theorem mw(a b:List Int)(x1 x2:Int)(s11:List Int)(s14:Int)(r0:List Int):RN jq 30 (kR a b x1 x2 s11 s14 r0) (kr a b x1 x2 s11 s14 r0):=rnX
def mH(a b:List Int)(x1 x2:Int)(s11:List Int)(s14:Int)(r0:List Int)(x3 s16:Int)(s17:List Int)(k:KT):OLR:=og (decide (qi s17 (ag (val (([x3])++s11)).toNat))) (match decide ((cq (val s17) (val (ag (val (([x3])++s11)).toNat)))>0)with|true=>(og (decide (nB s17 (ag (val b*(u32.wrap (u64.wrap (Int.tdiv 1000000000 (u64.wrap ((u64.wrap x1)+1)))))).toNat))) (k 67 (eK a b x1 x2 s11 s14 r0 x3 (u64.wrap (s16-1)) (ag (val s17-val (ag (val b*(u32.wrap (u64.wrap (Int.tdiv 1000000000 (u64.wrap ((u64.wrap x1)+1)))))).toNat)).toNat))))|false=>(og (decide (nB (ag (val (([x3])++s11)).toNat) s17)) (match true,decide ((0:Int)<=s14/\s14<(((((ag (val a*(u32.wrap (u64.wrap (Int.tdiv 1000000000 (u64.wrap ((u64.wrap x1)+1)))))).toNat).length:Int):Int).toNat-(0:Int).toNat:Nat):Int))with|true,true=>(match true,r0[(0:Int).toNat+(s14).toNat]? with|true,some _=>k 30 (kR a b x1 x2 (ag (val (ag (val (([x3])++s11)).toNat)-val s17).toNat) (i64.wrap (s14-1)) (r0.set ((0:Int).toNat+(s14).toNat) (u32.wrap s16)))|_,_=>none)|_,_=>none)))
theorem qt(a b:List Int)(x1 x2:Int)(s11:List Int)(s14:Int)(r0:List Int)(x3 s16:Int)(s17:List Int):RN jq 67 (eK a b x1 x2 s11 s14 r0 x3 s16 s17) (mH a b x1 x2 s11 s14 r0 x3 s16 s17):=rnX
def qM(a:List Int)(x1:Int)(s11 r0:List Int)(s18 s20:Int)(r1:List Int)(k:KT):OLR:=match decide (s20>=0)with|true=>(match aG s11 s20 with|some x2=>(match decide (u64.wrap (u32.wrap (u64.wrap (Int.tdiv 1000000000 (u64.wrap ((u64.wrap x1)+1)))))=(0:Int))with|true=>none|false=>(match aG r1 s20 with|some _=>(match true,r1[(s20).toNat]? with|true,some _=>(match decide (u64.wrap (u32.wrap (u64.wrap (Int.tdiv 1000000000 (u64.wrap ((u64.wrap x1)+1)))))=(0:Int))with|true=>none|false=>k 90 (rC a x1 s11 r0 (Int.tmod (u64.wrap ((u64.wrap (s18*1000000000))+(u64.wrap x2))) (u64.wrap (u32.wrap (u64.wrap (Int.tdiv 1000000000 (u64.wrap ((u64.wrap x1)+1))))))) (i64.wrap (s20-1)) (r1.set ((s20).toNat) (u32.wrap (u64.wrap (Int.tdiv (u64.wrap ((u64.wrap (s18*1000000000))+(u64.wrap x2))) (u64.wrap (u32.wrap (u64.wrap (Int.tdiv 1000000000 (u64.wrap ((u64.wrap x1)+1))))))))))))|_,_=>none)|none=>none))|none=>none)|false=>(og (decide (aO ((r0.drop ((0:Int).toNat)).take ((((ag (val a*(u32.wrap (u64.wrap (Int.tdiv 1000000000 (u64.wrap ((u64.wrap x1)+1)))))).toNat).length:Int):Int).toNat-(0:Int).toNat)))) (og (decide (aO r1)) (some [RV.d aix (ag (val ((r0.drop ((0:Int).toNat)).take ((((ag (val a*(u32.wrap (u64.wrap (Int.tdiv 1000000000 (u64.wrap ((u64.wrap x1)+1)))))).toNat).length:Int):Int).toNat-(0:Int).toNat))).toNat),RV.d aix (ag (val r1).toNat)])))
theorem wZ(a:List Int)(x1:Int)(s11 r0:List Int)(s18 s20:Int)(r1:List Int):RN jq 90 (rC a x1 s11 r0 s18 s20 r1) (qM a x1 s11 r0 s18 s20 r1):=rnX
def qsc(x1:Int):Int:=u32.wrap (u64.wrap (Int.tdiv 1000000000 (u64.wrap ((u64.wrap x1)+1))))
theorem gh(x1:Int):u32.wrap (u64.wrap (Int.tdiv 1000000000 (u64.wrap ((u64.wrap x1)+1))))=qsc x1:=by
 have h:∀y,qsc x1=y->y=qsc x1:=λy e=>e.symm;exact h _ rfl
theorem Ya{x:Int}(h1:1<=x)(h2:x<1000000000):qsc x=1000000000/(x+1)/\1<=qsc x/\qsc x<1000000000:=by
 have h3:1<=1000000000/(x+1):=Int.le_ediv_of_mul_le (by omega) (by omega);have h4:1000000000/(x+1)<1000000000:=agO (by omega) (by omega);grind [qsc,a8,cU]
theorem E0{v:Int}(h:0<v):∃(n:Nat) (x:Int),(ag v.toNat).length=n+1/\(ag v.toNat)[n]?=some x/\1<=x/\x<1000000000/\x*pw n<=v:=by
 have hne:ag v.toNat≠[]:=λe=>by rw[gO]at e;omega
 rcases List.eq_nil_or_concat (ag v.toNat)with h0|⟨l,x,hx⟩
 ·grind
 ·have hv:=aZ v.toNat
  have hc:=dU v.toNat
  have hl:=cd v.toNat
  rw[List.concat_eq_append]at hx;rw[hx]at hv hc hl;have hxx:=hl x (by simp);have hx0:x≠0:=λe=>hc.2 (by simp[e]);have hln:=aN (l:=l) (λy hy=>hl y (by simp[hy]));rw[dh]at hv;simp only[val]at hv;refine⟨l.length,x,by rw[hx];simp,by rw[hx];simp,by omega,hxx.2,?_⟩;grind
section
variable (a b:List Int) (x1 x2:Int) (V:Int) (hV:val b*qsc x1=V) (hs:1<=qsc x1/\qsc x1<1000000000) (hp:0<V) (hra:(ag (val a*qsc x1).toNat).length<=a.length+1) (ha:Lim a/\a.length<=1000000) (hL:(ag V.toNat).length<=1000001)
theorem Nl(hs:1<=qsc x1/\qsc x1<1000000000)(l r0:List Int)(hl:Lim l/\l.length<=2000000)(hr0:aO r0)(hz0:∀k (hk:k<r0.length),(ag (val a*qsc x1).toNat).length<=k->r0[k]=0):∀(n:Nat) (c:Int) (r:List Int),n<=l.length->0<=c->c<qsc x1->Lim r->r.length=l.length->(∀k (hk:k<r.length),k<n->r[k]=0)->qsc x1*val r+pw n*c+val (l.take n)=val l->
  jq.Runs 90 (rC a x1 l r0 c ((n:Int)-1) r) [.d aix (ag (val r0).toNat),.d aix (ag (val l/qsc x1).toNat)]:=by
 have hsa:=hl.2;have e64:u64.wrap (qsc x1)=qsc x1:=a8 (by omega) (by omega);intro n;induction n with
 |zero=>
  intro c r hn c0 c1 hr hlen hz hv;simp only[mK,List.take_zero,val,aim,aip]at hv
  have e2:val l/qsc x1=val r:=by
   rw[<-hv,aig,aha _ _ (by omega),agz c0 c1];omega
  have e3:=wd hz0;have e4:aO (r0.take (ag (val a*qsc x1).toNat).length):=⟨hr0.1.take _,by have:=hr0.2;rw[af3];omega⟩
  refine wZ _ _ _ _ _ _ _ ⟨0,?_⟩;unfold qM;simp only[gh,Int.toNat_zero,ahm,agQ,Nat.sub_zero];rw[dF (by omega)];dsimp only;rw[dT e4,dT (show aO r from⟨hr,by omega⟩),e3,e2]
 |succ n ih=>
  intro c r hn c0 c1 hr hlen hz hv;have hna:n<l.length:=by omega
  have hnr:n<r.length:=by omega
  have xa:=hl.1.get hna;have hr0':=hz n hnr (by omega);have hcb:0<=c*1000000000+l[n]:=by omega
  have m0:=agu (c*1000000000+l[n]) (show qsc x1≠0 by omega);have m1:=af1 (c*1000000000+l[n]) (show 0<qsc x1 by omega);have md:=af8 (c*1000000000+l[n]) (qsc x1);have d0:0<=(c*1000000000+l[n])/qsc x1:=agp hcb (by omega)
  have d1:(c*1000000000+l[n])/qsc x1<1000000000:=by
   refine agO (by omega) ?_;have:=afB (show c+1<=qsc x1 by omega) (show(0:Int)<=1000000000 by decide);rw[ahb 1000000000 (qsc x1)];omega
  obtain⟨q,hq⟩:=ih ((c*1000000000+l[n])%qsc x1) (r.set n ((c*1000000000+l[n])/qsc x1)) (by omega) m0 m1 (hr.set n ⟨d0,d1⟩) (by simpa using hlen)
   (λk hk hkn=>by rw[agG (by omega)];exact hz k (by simpa using hk) (by omega)) (by
    rw[eP hnr,hr0'];rw[aT hna,ce]at hv;grind)
  refine wZ _ _ _ _ _ _ _ ⟨q,?_⟩;unfold qM;simp only[gh];rw[show((n+1:Nat):Int)-1=(n:Int) by omega,dT (by omega),am l n,afn hna,e64,dF (show ¬qsc x1=0 by omega),am r n,aA,afn hnr];dsimp only;rw[a8 (x:=c*1000000000) (by omega) (by omega),a8 (x:=l[n]) (by omega) (by omega),a8 (x:=c*1000000000+l[n]) (by omega) (by omega),gR hcb,jl hcb,a8 (x:=(c*1000000000+l[n])/qsc x1) (by omega) (by omega),cU (x:=(c*1000000000+l[n])/qsc x1) (by omega) (by omega),aM (x:=(n:Int)-1) (by omega) (by omega)];exact hq
include hV hp hL in
theorem EW{res:List RV}(i:Nat)(hi:i<(ag (val a*qsc x1).toNat).length)(r0 l:List Int)(hlr:r0.length=a.length+1)(hra:(ag (val a*qsc x1).toNat).length<=a.length+1)(x3 W:Int)(hW:val ([x3]++l)=W)(W0:0<=W)(hWl:(ag W.toNat).length<=1000002)
  (hout:jq.Runs 30 (kR a b x1 x2 (ag (W%V).toNat) ((i:Int)-1) (r0.set i (W/V))) res) (hi':(ag (val a*qsc x1).toNat).length<=2000000):
  ∀(d:Nat),d<=999999999->W<V*((d:Int)+1)->jq.Runs 67 (eK a b x1 x2 l (i:Int) r0 x3 (d:Int) (ag (V*(d:Int)).toNat)) res:=by
 intro d
 have hsz:∀e:Nat,e<=999999999->(ag (V*(e:Int)).toNat).length<=1000002:=λe he=>by
  refine ct (agk (by omega) (by omega)) ?_
  have h1:V<pw 1000001:=by
   have:=b8 (cd V.toNat);rw[aZ]at this;have:=c8 hL;omega
  rw[ce 1000001];have h2:V*(e:Int)<=V*999999999:=afu (by omega) (by omega);omega
 induction d with
 |zero=>
  intro _ hd;obtain⟨q,hq⟩:=hout;have hWV:W<V:=by simpa using hd
  rw[ahA W0 hWV,agz W0 hWV]at hq;refine qt _ _ _ _ _ _ _ _ _ _ ⟨q,?_⟩;unfold mH;simp only[gh,hV,hW];rw[show(V*((0:Nat):Int)).toNat=0 by simp,dT (show qi (ag 0) (ag W.toNat) from⟨⟨dU _,by decide⟩,dU _,by omega⟩),bW W0,xz,show val (ag 0)=0 from rfl,dF (show ¬W<0 by omega),dT (show nB (ag W.toNat) (ag 0) from⟨cA (by omega),cA (by decide),by rw[bW W0];exact W0⟩)];dsimp only;rw[dT (show(0:Int)<=(i:Int)/\(i:Int)<((((ag (val a*qsc x1).toNat).length:Int).toNat-(0:Int).toNat:Nat):Int) by constructor<;>simp<;>omega)];rw[show(0:Int).toNat+((i:Int)).toNat=i by simp,afn (by omega)];dsimp only;rw[Int.sub_zero,aM (by omega) (by omega)];exact hq
 |succ d ih=>
  intro hd1 hd;have hc:((d+1:Nat):Int)=(d:Int)+1:=by omega
  rw[hc]at hd;have hV1:0<=V*((d:Int)+1):=agk (by omega) (by omega);have hV0:0<=V*(d:Int):=agk (by omega) (by omega);have hVd:V*((d:Int)+1)-V=V*(d:Int):=by grind
  have hs1:=hsz (d+1) (by omega);rw[hc]at hs1;have k1:=aZ V.toNat
  by_cases hg:W<V*((d:Int)+1)
  ·obtain⟨q,hq⟩:=ih (by omega) hg;refine qt _ _ _ _ _ _ _ _ _ _ ⟨q,?_⟩;unfold mH;simp only[gh,hV,hW];rw[hc,dT (show qi (ag (V*((d:Int)+1)).toNat) (ag W.toNat) from⟨⟨dU _,by omega⟩,dU _,by omega⟩),bW W0,bW hV1,xz,dT hg,dT (show nB (ag (V*((d:Int)+1)).toNat) (ag V.toNat) from⟨cA (by omega),cA (by omega),by rw[bW hV1,bW (by omega)];omega⟩),bW (v:=V) (by omega),hVd,a8 (by omega) (by omega),show(d:Int)+1-1=(d:Int) by omega];exact hq
  ·obtain⟨q,hq⟩:=hout
   have e1:W/V=(d:Int)+1:=by
    have:W=(W-V*((d:Int)+1))+V*((d:Int)+1):=by omega
    rw[this,aha _ _ (by omega),agz (by omega) (by grind)];omega
   have e2:W%V=W-V*((d:Int)+1):=by
    have:=af8 W V;rw[e1]at this;omega
   rw[e1,e2]at hq;refine qt _ _ _ _ _ _ _ _ _ _ ⟨q,?_⟩;unfold mH;simp only[gh,hV,hW];rw[hc,dT (show qi (ag (V*((d:Int)+1)).toNat) (ag W.toNat) from⟨⟨dU _,by omega⟩,dU _,by omega⟩),bW W0,bW hV1,xz,dF hg,dT (show nB (ag W.toNat) (ag (V*((d:Int)+1)).toNat) from⟨cA (by omega),cA (by omega),by rw[bW hV1,bW W0];omega⟩)];dsimp only;rw[dT (show(0:Int)<=(i:Int)/\(i:Int)<((((ag (val a*qsc x1).toNat).length:Int).toNat-(0:Int).toNat:Nat):Int) by constructor<;>simp<;>omega)];rw[show(0:Int).toNat+((i:Int)).toNat=i by simp,afn (by omega)];dsimp only;rw[aM (by omega) (by omega),cU (by omega) (by omega)];exact hq
end
end
section
def pu(k:Nat->Cfg->OLR)(a b:List Int)(x1 x2:Int)(s11:List Int)(s14:Int)(r0:List Int)(x3 H:Int):OLR:=match decide (u64.wrap x2=(0:Int))with|true=>none|false=>(match decide ((u64.wrap (Int.tdiv H (u64.wrap x2)))>999999999)with|true=>(og (decide (byP (ag (val b*(u32.wrap (u64.wrap (Int.tdiv 1000000000 (u64.wrap ((u64.wrap x1)+1)))))).toNat) (u32.wrap 999999999))) (k 67 (eK a b x1 x2 s11 s14 r0 x3 999999999 (ag (val (ag (val b*(u32.wrap (u64.wrap (Int.tdiv 1000000000 (u64.wrap ((u64.wrap x1)+1)))))).toNat)*(u32.wrap 999999999)).toNat))))|false=>(og (decide (byP (ag (val b*(u32.wrap (u64.wrap (Int.tdiv 1000000000 (u64.wrap ((u64.wrap x1)+1)))))).toNat) (u32.wrap (u64.wrap (Int.tdiv H (u64.wrap x2)))))) (k 67 (eK a b x1 x2 s11 s14 r0 x3 (u64.wrap (Int.tdiv H (u64.wrap x2))) (ag (val (ag (val b*(u32.wrap (u64.wrap (Int.tdiv 1000000000 (u64.wrap ((u64.wrap x1)+1)))))).toNat)*(u32.wrap (u64.wrap (Int.tdiv H (u64.wrap x2))))).toNat)))))
theorem LY{W V H x p d:Int}(hx:1<=x)(hW:W<(H+1)*p)(hp:0<p)(hV:x*p<=V)(hd:H/x=d)(h0:0<=H):W<V*(d+1):=by
 have h1:=af8 H x;have h2:=af1 H (show 0<x by omega);have h3:0<=d:=by rw[<-hd];exact agp h0 (by omega)
 have h4:H+1<=x*(d+1):=by grind
 have h5:=afB h4 (af0 hp);have h6:=afB hV (show 0<=d+1 by omega);grind
theorem YJ{A B s R q:Int}(hs:0<s)(h:A*s=R+B*s*q)(h0:0<=R)(h1:R<B*s):A/B=q/\A%B=R/s:=by
 have e:R=s*(A-B*q):=by grind
 have hm:R/s=A-B*q:=by rw[e];exact ahB _ (by omega)
 have m0:0<=A-B*q:=by
  apply afF;intro hc;have:=afu (show A-B*q<= -1 by omega) (af0 hs);omega
 have m1:A-B*q<B:=by
  apply afF;intro hc;have:=afu (show B<=A-B*q by omega) (af0 hs);grind
 have hA:A=(A-B*q)+B*q:=by omega
 constructor
 ·rw[hA,aha _ _ (by omega),agz (by omega) (by omega)];omega
 ·rw[hm,hA,ahr,ahA (by omega) (by omega)];omega
section
variable (a b:List Int) (x1 x2:Int) (V:Int) (hV:val b*qsc x1=V) (hs:1<=qsc x1/\qsc x1<1000000000) (hp:0<V) (hra:(ag (val a*qsc x1).toNat).length<=a.length+1) (ha:Lim a/\a.length<=1000000) (hL:(ag V.toNat).length<=1000001)
include hV hs hp hra ha hL in
theorem Fv(n:Nat)(hn:(ag V.toNat).length=n+1)(hx2:1<=x2/\x2<1000000000)(hxp:x2*pw n<=V):∀(i:Nat) (R:Int) (r0:List Int),i<=(ag (val a*qsc x1).toNat).length->0<=R->R<V->r0.length=a.length+1->Lim r0->
  (∀k (hk:k<r0.length),k<i->r0[k]=0)->(∀k (hk:k<r0.length),(ag (val a*qsc x1).toNat).length<=k->r0[k]=0)->val a*qsc x1=pw i*R+val ((ag (val a*qsc x1).toNat).take i)+V*val r0->
  jq.Runs 30 (kR a b x1 x2 (ag R.toNat) ((i:Int)-1) r0) [.d aix (ag (val a/val b).toNat),.d aix (ag (val a%val b).toNat)]:=by
 have hVp:V<pw 1000001:=by
  have:=b8 (cd V.toNat);rw[aZ]at this;have:=c8 hL;omega
 have ha2:=ha.2;intro i;induction i with
 |zero=>
  intro R r0 _ R0 RV hlr hl _ hz he;simp only[mK,List.take_zero,val,aim,aip]at he;rw[<-hV]at he;obtain⟨e1,e2⟩:=YJ (by omega) he R0 (by rw[hV];exact RV);have hRl:(ag R.toNat).length<=1000001:=ct R0 (by omega);obtain⟨q,hq⟩:=Nl a x1 hs (ag R.toNat) r0 ⟨cd _,by omega⟩ ⟨hl,by omega⟩ hz (ag R.toNat).length 0 (List.replicate (ag R.toNat).length 0) (afs _) (by omega) (by omega) (Lim.rep _) (by simp) (λk hk _=>by simp) (by simp[gC]);rw[bW R0,<-e2,<-e1]at hq;refine mw _ _ _ _ _ _ _ ⟨q,?_⟩;unfold kr;rw[dF (by omega)];dsimp only;rw[dT (show(0:Int)<=((ag R.toNat).length:Int)/\((ag R.toNat).length:Int)*((4:Nat):Int)<=140737488355328/\((ag R.toNat).length:Int)<=140737488355328 from⟨by omega,by omega,by omega⟩),aA,aM (by omega) (by omega)];exact hq
 |succ i ih=>
  intro R r0 hi R0 RV hlr hl hz hz2 he;have hiU:i<(ag (val a*qsc x1).toNat).length:=by omega
  have hx:=(cd (val a*qsc x1).toNat).get hiU;have hir:i<r0.length:=by omega
  have hr0:=hz i hir (by omega)
  have hWv:val ([(ag (val a*qsc x1).toNat)[i]]++ag R.toNat)=(ag (val a*qsc x1).toNat)[i]+1000000000*R:=by
   rw[dh,bW R0];simp[val,pw]
  generalize hxi:(ag (val a*qsc x1).toNat)[i]=x at hx hWv;have W0:0<=x+1000000000*R:=by omega
  have WV:x+1000000000*R<1000000000*V:=by omega
  have hWl:(ag (x+1000000000*R).toNat).length<=n+2:=by
   refine ct W0 ?_;have:=b8 (cd V.toNat);rw[aZ,hn]at this;rw[ce (n+1)];omega
  have hRl:(ag R.toNat).length<=1000001:=ct R0 (by omega);have q0:0<=(x+1000000000*R)/V:=agp W0 (by omega);have q1:(x+1000000000*R)/V<1000000000:=agO hp (by omega);have m0:=agu (x+1000000000*R) (show V≠0 by omega);have m1:=af1 (x+1000000000*R) hp;have md:=af8 (x+1000000000*R) V
  have hout:=ih ((x+1000000000*R)%V) (r0.set i ((x+1000000000*R)/V)) (by omega) m0 m1 (by simpa using hlr) (hl.set i ⟨q0,q1⟩)
   (λk hk hk'=>by rw[agG (by omega)];exact hz k (by simpa using hk) (by omega))
   (λk hk hk'=>by rw[agG (by omega)];exact hz2 k (by simpa using hk) hk') (by
    rw[eP hir,hr0];rw[aT hiU,ce,hxi]at he;grind)
  have hdig:=EW a b x1 x2 V hV hp hL i hiU r0 (ag R.toNat) hlr hra x (x+1000000000*R) hWv W0 (by omega) hout (by omega)
  have htail:∀H:Int,0<=H->H<1000000000000000000->x+1000000000*R<(H+1)*pw n->∃q,pu (jq.k q) a b x1 x2 (ag R.toNat) ((i:Int)) r0 x H=some [.d aix (ag (val a/val b).toNat),.d aix (ag (val a%val b).toNat)]:=by
   intro H H0 H1 HW;have d0:0<=H/x2:=agp H0 (by omega);have d1:H/x2<=H:=ahg _ H0;have hbyV:∀d:Int,0<=d->d<1000000000->byP (ag V.toNat) d:=λd h1 h2=>⟨⟨cd _,by omega⟩,h1,h2⟩
   by_cases hc:H/x2>999999999
   ·obtain⟨q,hq⟩:=hdig 999999999 (afs _) (by rw[show V*(((999999999:Nat):Int)+1)=1000000000*V by omega];exact WV);refine⟨q,?_⟩;unfold pu;simp only[gh,hV];rw[a8 (x:=x2) (by omega) (by omega),dF (show ¬x2=0 by omega),gR H0,a8 (x:=H/x2) (by omega) (by omega),dT hc,cU (x:=999999999) (by decide) (by decide),dT (hbyV 999999999 (by decide) (by decide)),bW (v:=V) (by omega)];exact hq
   ·obtain⟨q,hq⟩:=hdig (H/x2).toNat (by omega) (by rw[show(((H/x2).toNat:Nat):Int)=H/x2 by omega];exact LY hx2.1 HW (co n) hxp rfl H0)
    rw[show(((H/x2).toNat:Nat):Int)=H/x2 by omega]at hq;refine⟨q,?_⟩;unfold pu;simp only[gh,hV];rw[a8 (x:=x2) (by omega) (by omega),dF (show ¬x2=0 by omega),gR H0,a8 (x:=H/x2) (by omega) (by omega),dF hc,cU (x:=H/x2) (by omega) (by omega),dT (hbyV (H/x2) (by omega) (by omega)),bW (v:=V) (by omega)];exact hq
  have hWlim:=cd (x+1000000000*R).toNat
  have hWval:=bW W0;have hsplit:=fS (ag (x+1000000000*R).toNat) n;have htl:=b8 (hWlim.take n)
  have hpre:∀H,val ((ag (x+1000000000*R).toNat).drop n)=H->x+1000000000*R<(H+1)*pw n:=by
   intro H hH;rw[hH,hWval]at hsplit;have hm:(ag (x+1000000000*R).toNat |>.take n).length<=n:=by rw[af3];omega
   have:=c8 hm;rcases afZ n (ag (x+1000000000*R).toNat).length with h|h
   ·rw[af7 (by omega)]at hsplit;rw[Int.add_mul,ahb H,aim];omega
   ·rw[agh h]at hH;have hH0:H=0:=by rw[<-hH];rfl
    subst hH0;rw[ahY]at hsplit;omega
  have hstep:∀(H:Int) (q:Nat),pu (jq.k q) a b x1 x2 (ag R.toNat) ((i:Int)) r0 x H=some [.d aix (ag (val a/val b).toNat),.d aix (ag (val a%val b).toNat)]->True:=λ_ _ _=>trivial;have hap:(([x]:List Int).length+(ag R.toNat).length)*4<=140737488355328/\([x]:List Int).length+(ag R.toNat).length<=140737488355328:=by simp only[afH];omega
  have hlS:aO ([x]++ag R.toNat):=⟨(Lim.cons ⟨hx.1,hx.2⟩ Lim.nil).append (cd _),by simp only[afN,afH];omega⟩
  have hw1:i64.wrap (((n+1:Nat):Int)-1)=((n:Nat):Int):=by rw[aM (by omega) (by omega)];omega
  rcases Nat.lt_trichotomy (ag (x+1000000000*R).toNat).length (n+1)with hc|hc|hc
  ·obtain⟨q,hq⟩:=htail 0 (by omega) (by omega) (hpre 0 (by rw[agh (by omega)];rfl));refine mw _ _ _ _ _ _ _ ⟨q,?_⟩;unfold kr;rw[dT (show((i+1:Nat):Int)-1>=0 by omega),show((i+1:Nat):Int)-1=(i:Int) by omega,gh,am,afn hiU,hxi];dsimp only;rw[dT hap,dT hlS,hWv,hV,hn];rw[dF (show ¬((ag (x+1000000000*R).toNat).length:Int)>((n+1:Nat):Int) by omega),dF (show ¬((ag (x+1000000000*R).toNat).length:Int)>=((n+1:Nat):Int) by omega)];rw[<-hV];exact hq
  ·have hget:(ag (x+1000000000*R).toNat)[n]?=some (ag (x+1000000000*R).toNat)[n]:=afn (by omega);have hxn:=hWlim.get (show n<(ag (x+1000000000*R).toNat).length by omega)
   have hdrop:val ((ag (x+1000000000*R).toNat).drop n)=(ag (x+1000000000*R).toNat)[n]:=by
    rw[gU (by omega),agh (by omega)];simp[val]
   obtain⟨q,hq⟩:=htail (ag (x+1000000000*R).toNat)[n] hxn.1 (by omega) (hpre _ hdrop);refine mw _ _ _ _ _ _ _ ⟨q,?_⟩;unfold kr;rw[dT (show((i+1:Nat):Int)-1>=0 by omega),show((i+1:Nat):Int)-1=(i:Int) by omega,gh,am,afn hiU,hxi];dsimp only;rw[dT hap,dT hlS,hWv,hV,hn];rw[dF (show ¬((ag (x+1000000000*R).toNat).length:Int)>((n+1:Nat):Int) by omega),dT (show((ag (x+1000000000*R).toNat).length:Int)>=((n+1:Nat):Int) by omega),hw1,am (ag (x+1000000000*R).toNat) n,hget];dsimp only;rw[Int.zero_add,a8 (x:=(ag (x+1000000000*R).toNat)[n]) (by omega) (by omega),a8 (x:=(ag (x+1000000000*R).toNat)[n]) (by omega) (by omega)];rw[<-hV];exact hq
  ·have hget:(ag (x+1000000000*R).toNat)[n]?=some (ag (x+1000000000*R).toNat)[n]:=afn (by omega);have hget1:(ag (x+1000000000*R).toNat)[n+1]?=some (ag (x+1000000000*R).toNat)[n+1]:=afn (by omega);have hxn:=hWlim.get (show n<(ag (x+1000000000*R).toNat).length by omega);have hxn1:=hWlim.get (show n+1<(ag (x+1000000000*R).toNat).length by omega)
   have hdrop:val ((ag (x+1000000000*R).toNat).drop n)=(ag (x+1000000000*R).toNat)[n+1]*1000000000+(ag (x+1000000000*R).toNat)[n]:=by
    rw[gU (by omega),gU (by omega),agh (by omega)];simp only[val];omega
   obtain⟨q,hq⟩:=htail ((ag (x+1000000000*R).toNat)[n+1]*1000000000+(ag (x+1000000000*R).toNat)[n]) (by omega) (by omega) (hpre _ hdrop);refine mw _ _ _ _ _ _ _ ⟨q,?_⟩;unfold kr;rw[dT (show((i+1:Nat):Int)-1>=0 by omega),show((i+1:Nat):Int)-1=(i:Int) by omega,gh,am,afn hiU,hxi];dsimp only;rw[dT hap,dT hlS,hWv,hV,hn];rw[dT (show((ag (x+1000000000*R).toNat).length:Int)>((n+1:Nat):Int) by omega),am (ag (x+1000000000*R).toNat) (n+1),hget1];dsimp only;rw[dT (show((ag (x+1000000000*R).toNat).length:Int)>=((n+1:Nat):Int) by omega),hw1,am (ag (x+1000000000*R).toNat) n,hget];dsimp only;rw[a8 (x:=(ag (x+1000000000*R).toNat)[n+1]) (by omega) (by omega),a8 (x:=(ag (x+1000000000*R).toNat)[n+1]*1000000000) (by omega) (by omega),a8 (x:=(ag (x+1000000000*R).toNat)[n]) (by omega) (by omega),a8 (x:=(ag (x+1000000000*R).toNat)[n+1]*1000000000+(ag (x+1000000000*R).toNat)[n]) (by omega) (by omega)];rw[<-hV];exact hq
end
end
def Y6:Cn 242 [aix,aix]:=cn λ(a b:List Int)=>lf (CO a b) [.d aix (ag (val a/val b).toNat),.d aix (ag (val a%val b).toNat)] λh=>by
 refine dm Kl (show jq.Res _ _ _ from ?_);obtain⟨⟨ha,sa⟩,⟨hb,sb⟩,hne⟩:=h;have a0:=aN ha.1;have b0:0<val b:=eo hb hne;have hlen:=af4.2 hne;have la:=b8 ha.1;have lb:=b8 hb.1;by_cases hsm:a.length<=2/\b.length<=2
 ·have p2:pw 2=1000000000000000000:=by decide
  have m1:=c8 hsm.1;have m2:=c8 hsm.2;have q0:0<=val a/val b:=agp a0 (by omega);have q1:val a/val b<=val a:=ahg _ a0;have r0:=agu (val a) (show val b≠0 by omega);have r1:=af1 (val a) b0;refine K1 _ _ ⟨0,?_⟩;unfold Fb;rw[dT (show(a.length:Int)<=2 by omega),dT (show(b.length:Int)<=2 by omega),dT (show rQ a from⟨⟨ha.1,by omega⟩,by omega⟩),dT (show rQ b from⟨⟨hb.1,by omega⟩,by omega⟩),dF (show ¬val b=0 by omega),gR a0,jl a0,a8 (x:=val a/val b) q0 (by omega),dT (show im (val a/val b) from⟨q0,by omega⟩),dT (show im (val a%val b) from⟨r0,by omega⟩)]
 ·obtain⟨n,hn⟩:∃n,b.length=n+1:=⟨b.length-1,by omega⟩
  have hbn:n<b.length:=by omega
  have ht:=tt hb hn;have hbl:=hb.1.get hbn;obtain⟨hs0,hs1,hs2⟩:=Ya (x:=b[n]) ht hbl.2;have hVp:0<val b*qsc b[n]:=Int.mul_pos b0 (by omega)
  have hVl:(ag (val b*qsc b[n]).toNat).length<=1000001:=by
   refine ct (by omega) ?_;have h1:val b*qsc b[n]<=val b*999999999:=afu (by omega) (by omega);have h2:=c8 sb;rw[ce 1000000];omega
  have hUl:(ag (val a*qsc b[n]).toNat).length<=a.length+1:=by
   refine ct (agk a0 (by omega)) ?_;have h1:val a*qsc b[n]<=val a*999999999:=afu (by omega) (by omega);rw[ce];omega
  obtain⟨m,x2,hm,hg,hx1,hx2,hxp⟩:=E0 hVp
  obtain⟨q,hq⟩:=Fv a b b[n] x2 (val b*qsc b[n]) rfl ⟨hs1,hs2⟩ hVp hUl ⟨ha.1,sa⟩ hVl m hm ⟨hx1,hx2⟩ hxp (ag (val a*qsc b[n]).toNat).length 0 (List.replicate (a.length+1) 0) (afs _) (by omega) hVp (by simp) (Lim.rep _) (λk hk _=>by simp) (λk hk _=>by simp) (by
   rw[agC,bW (agk a0 (by omega)),gC];omega)
  refine K1 _ _ ⟨q,?_⟩;have hw1:i64.wrap ((b.length:Int)-1)=(n:Int):=by rw[aM (by omega) (by omega)];omega
  have hx1w:¬u64.wrap (u64.wrap b[n]+1)=0:=by rw[a8 (x:=b[n]) (by omega) (by omega),a8 (by omega) (by omega)];omega
  have hbyb:byP b (qsc b[n]):=⟨⟨hb.1,by omega⟩,by omega,hs2⟩
  have hbya:byP a (qsc b[n]):=⟨⟨ha.1,by omega⟩,by omega,hs2⟩
  have hw2:i64.wrap (((m+1:Nat):Int)-1)=(m:Int):=by rw[aM (by omega) (by omega)];omega
  have hsub:(match aG b (i64.wrap ((b.length:Int)-1))with|some x1=>(match decide (u64.wrap ((u64.wrap x1)+1)=(0:Int))with|true=>none|false=>(match decide (byP b (qsc x1))with|true=>(match aG (ag (val b*(qsc x1)).toNat) (i64.wrap (((ag (val b*(qsc x1)).toNat).length:Int)-1))with|some x2=>(match decide ((0:Int)<=i64.wrap ((a.length:Int)+1)/\(i64.wrap ((a.length:Int)+1))*((4:Nat):Int)<=140737488355328/\i64.wrap ((a.length:Int)+1)<=140737488355328)with|true=>(match decide (byP a (qsc x1))with|true=>(match decide ((0:Int)<=0/\0<=((ag (val a*(qsc x1)).toNat).length:Int)/\((ag (val a*(qsc x1)).toNat).length:Int)<=((List.replicate (i64.wrap ((a.length:Int)+1)).toNat (0:Int)).length:Int))with|true=>(jq.k q) 30 (kR a b x1 x2 ([]) (i64.wrap (((ag (val a*(qsc x1)).toNat).length:Int)-1)) (List.replicate (i64.wrap ((a.length:Int)+1)).toNat (0:Int)))|false=>none)|false=>none)|false=>none)|none=>none)|false=>none))|none=>none)=some [.d aix (ag (val a/val b).toNat),.d aix (ag (val a%val b).toNat)]:=by
   rw[hw1,am,afn hbn];dsimp only;rw[dF hx1w,dT hbyb,hm,hw2,am,hg];dsimp only;rw[bH (k:=a.length) (by omega),sG (n:=a.length+1) (by omega),dT hbya,aA,ahS,dT (show(0:Int)<=0/\(0:Int)<=((ag (val a*qsc b[n]).toNat).length:Int)/\((ag (val a*qsc b[n]).toNat).length:Int)<=((a.length+1:Nat):Int) from⟨by omega,by omega,by omega⟩),aM (x:=((ag (val a*qsc b[n]).toNat).length:Int)-1) (by omega) (by omega)];exact hq
  unfold Fb;by_cases h1:a.length<=2
  ·rw[dT (show(a.length:Int)<=2 by omega),dF (show ¬(b.length:Int)<=2 by omega)];exact hsub
  ·rw[dF (show ¬(a.length:Int)<=2 by omega)];exact hsub
def Ez:List En:=[enK xK,enK Ay,enF z7,enF xR,enK SH,enK Ef,enK Y6,enK A9,enK XP,enK EE,enK Ar]
def MG(x y:Bool×List Int)(_k:KT):OLR:=let y1:=ag (val x.2/val y.2).toNat;let y2:=ag (val x.2%val y.2).toNat;let y3:=ai (cf (!(x.1==y.1)) (val y1));let y4:=ai (cf x.1 (val y2));let y5:OLR:=match decide ((y2.length:Int)>0)with|true=>(match !(x.1==y.1)with|true=>(og (decide (a9 (1:Int))) (og (decide (okI y3/\okI (ai (1:Int)))) (og (decide (okI y4/\okI y)) (dup (.b .l .l) (some [RV.d y2Y (ai (ae y3-ae (ai (1:Int)))),RV.d y2Y (ai (ae y4+ae y)),RV.d aiy 0])))))|false=>dup (.b .l .l) (some [RV.d y2Y y3,RV.d y2Y y4,RV.d aiy 0]))|false=>dup (.b .l .l) (some [RV.d y2Y y3,RV.d y2Y y4,RV.d aiy 0]);let y6:OLR:=match decide (aO y2)with|true=>y5|false=>none;match(y.2.length:Int)==0 with|true=>some [RV.d y2Y (false,[]),RV.d y2Y (false,[]),RV.d aiy 6]|false=>(og (decide (CO x.2 y.2)) (cS (og (decide (aO y1)) (cS (og (decide (aO y2)) (dup (.b .l .l) y5)) (dup (.b (.b .l .l) (.b .l .l)) y6))) (dup (.b .l .l) (cS (og (decide (aO y1)) (dup (.b .l .l) y6)) (og (decide (aO y1)) y6)))))
def QP:NT:=[((152,6),{keep:=[4,5,6],pure_:=[(5,.int .u32),(6,.int .u32)],hl:=3}),((152,29),{keep:=[4,9,10],hl:=3})]
def ud:Ctx:=CX (ens Ez) QP
def sI(x y:Bool×List Int)(s5 s6:List Int):Cfg:=⟨152,[.blk 0,.seq 17],[(4,.box 2 0),(5,.d aix s5),(6,.d aix s6)],[.box 29 [SB x.1,.d aix x.2],.box 29 [SB y.1,.d aix y.2],.box 29 [SB false,.nil]],0,[]⟩
def nZ(x y:Bool×List Int)(s9 s10:Int):Cfg:=⟨152,[.blk 2,.seq 38],[(4,.box 2 0),(9,.d (.int .u64) s9),(10,.d (.int .u64) s10)],[.box 29 [SB x.1,.d aix x.2],.box 29 [SB y.1,.d aix y.2],.box 29 [SB false,.nil]],0,[]⟩
def Yy(x y:Bool×List Int)(k:KT):OLR:=k 6 (sI x y x.2 y.2)
theorem Zm(x y:Bool×List Int):RS ud 152 [.d y2Y x,.d y2Y y] (Yy x y):=rsX
def pj(x y:Bool×List Int)(s5 s6:List Int)(k:KT):OLR:=match decide ((s6.length:Int)>0)with|true=>(match decide ((s5.length:Int)>2)with|true=>(og (decide (CO s5 s6)) (k 6 (sI x y s6 (ag (val s5%val s6).toNat))))|false=>(match decide ((s6.length:Int)>2)with|true=>(og (decide (CO s5 s6)) (k 6 (sI x y s6 (ag (val s5%val s6).toNat))))|false=>(match(s6.length:Int)==0 with|true=>(og (decide (aO s5)) (some [RV.d y2Y (ai (cf false (val s5)))]))|false=>(og (decide (rQ s5)) (og (decide (rQ s6)) (k 29 (nZ x y (val s5) (val s6))))))))|false=>(match(s6.length:Int)==0 with|true=>(og (decide (aO s5)) (some [RV.d y2Y (ai (cf false (val s5)))]))|false=>(og (decide (rQ s5)) (og (decide (rQ s6)) (k 29 (nZ x y (val s5) (val s6))))))
theorem td(x y:Bool×List Int)(s5 s6:List Int):RL ud 6 (sI x y s5 s6) (pj x y s5 s6):=rlX
def qY(x y:Bool×List Int)(s9 s10:Int)(k:KT):OLR:=match decide (s10>0)with|true=>(match decide (s10=(0:Int))with|true=>none|false=>k 29 (nZ x y s10 (Int.tmod s9 s10)))|false=>(og (decide (im s9)) (og (decide (aO (ag s9.toNat))) (some [RV.d y2Y (ai (cf false (val (ag s9.toNat))))])))
theorem xd(x y:Bool×List Int)(s9 s10:Int):RL ud 29 (nZ x y s9 s10) (qY x y s9 s10):=rlX
def NW:Cn 153 [y2Y,y2Y]:=cn λ(x y:Bool×List Int)=>lf (eZ x y) [.d y2Y (ai (ae x/ae y)),.d y2Y (ai (ae x%ae y)),.d aiy 0] λh=>by
 refine az Ez (MG x y) ⟨0,?_⟩;obtain⟨hx,hy,hp⟩:=h;obtain⟨x0,x1,x2⟩:=cC hx;obtain⟨y0,y1,y2⟩:=cC hy;have sx:=hx.2.2;have sy:=hy.2.2
 have ey:y.1=false:=by
  cases e:y.1
  ·rfl
  ·rw[bK,e]at hp;simp only[cf,cond_true]at hp;omega
 have dy:ae y=val y.2:=by rw[bK,ey];rfl
 rw[dy]at hp;have hne:y.2≠[]:=λe=>by rw[y2]at e;omega
 have hprt:CO x.2 y.2:=⟨⟨hx.1,sx⟩,⟨hy.1,sy⟩,hne⟩
 have hylen:=af4.2 hne;have r0:=agu (val x.2) (show val y.2≠0 by omega);have r1:=af1 (val x.2) hp;have q0:0<=val x.2/val y.2:=agp x0 y0;have q1:val x.2/val y.2<=val x.2:=ahg _ x0;have vx:=b8 hx.1.1;have vy:=b8 hy.1.1;have mx:=c8 sx;have my:=c8 sy;have szq:szI (val x.2/val y.2)<=1000000:=eV (by have:=co 1000000;omega) (by omega);have szr:szI (val x.2%val y.2)<=1000000:=eV (by have:=co 1000000;omega) (by omega);have lq:(ag (val x.2/val y.2).toNat).length<=1000000:=ct q0 (by omega);have lr:(ag (val x.2%val y.2).toNat).length<=1000000:=ct r0 (by omega);unfold MG;simp only[dV]
 rw[show((y.2.length:Int)==0)=false by simp;omega,dT hprt,dT (cA (n:=(val x.2/val y.2).toNat) (by omega)),dT (cA (n:=(val x.2%val y.2).toNat) (by omega)),dT (show a9 1 by decide),bW q0,bW r0,
  dT (show okI (ai (cf (!(x.1==y.1)) (val x.2/val y.2)))/\okI (ai (1:Int)) from⟨aR (by rw[A4];exact szq),ph⟩),dT (show okI (ai (cf x.1 (val x.2%val y.2)))/\okI y from⟨aR (by rw[A4];exact szr),hy⟩)]
 simp only[dec_enc,dy,cM];rw[bK x,ey]
 have hlen:(((ag (val x.2%val y.2).toNat).length:Int)>0)↔0<val x.2%val y.2:=by
  constructor
  ·intro hl;rcases afT 0 (val x.2%val y.2)with h|h
   ·exact h
   ·rw[show(val x.2%val y.2).toNat=0 by omega,fG]at hl;simp at hl
  ·intro hl;have:ag (val x.2%val y.2).toNat≠[]:=λe=>by rw[gO]at e;omega
   have:=af4.2 this;omega
 obtain⟨n1,n2⟩:=Ij (a:=val x.2) (b:=val y.2) x0 hp;rcases afT 0 (val x.2%val y.2)with hr|hr
 ·rw[dT (hlen.2 hr)];cases x.1
  ·rfl
  ·obtain⟨e1,e2⟩:=n2 hr;simp only[cf,cond_true,Bool.not_false,show((true==false):Bool)=false from rfl];rw[e1,e2]
 ·rw[dF (λh'=>by have:=hlen.1 h';omega)];dsimp only;have e0:val x.2%val y.2=0:=by omega
  cases x.1
  ·simp only[cf,cond_false,show((false==false):Bool)=true from rfl,Bool.not_true]
  ·obtain⟨e1,e2⟩:=n1 e0;simp only[cf,cond_true,Bool.not_false,show((true==false):Bool)=false from rfl];rw[e1,e2,e0];rfl
theorem II(x y:BI)(B:Nat)(hB:(B:Int)<18446744073709551616):∀(v u:Nat),u<=B->v<=B->ud.RunsE 29 (nZ x y (u:Int) (v:Int)) [.d y2Y (ai ((Nat.gcd u v:Nat):Int))]:=by
 intro v;induction v using Nat.strongRecOn with
 |ind v ih=>
  intro u hu hv;rcases age v with h0|h0
  ·refine xd _ _ _ _ ⟨0,λn _=>?_⟩;have hp:im (u:Int):=⟨by omega,by omega⟩
   have hl:(ag u).length<=3:=c7 (ahN (show(u:Int)<18446744073709551616 by omega) (by decide));unfold qY;rw[dF (show ¬(v:Int)>0 by omega),dT hp,ahm,dT (cA (n:=u) (by omega)),aZ,show Nat.gcd u v=u by rw[h0];exact Nat.gcd_zero_right u];rfl
  ·obtain⟨n0,hn⟩:=ih (u%v) (aif _ h0) v hv (afA (Nat.le_of_lt (aif _ h0)) hv);refine xd _ _ _ _ ⟨n0,λn hn'=>?_⟩;unfold qY;rw[dT (show(v:Int)>0 by omega),dF (show ¬(v:Int)=0 by omega),jl (by omega)];dsimp only;rw[show((u:Int)%(v:Int))=((u%v:Nat):Int) by simp,ahu u v,Nat.gcd_rec v u,ahu];exact hn n hn'
theorem Gz{u:Nat}(h:(ag u).length<=2):(u:Int)<1000000000000000000:=by
 have h1:=b8 (cd u);rw[aZ]at h1;have h2:=c8 h;grind [pw]
theorem Ja(x y:BI):∀(v u:Nat),(ag u).length<=1000000->(ag v).length<=1000000->
  ud.RunsE 6 (sI x y (ag u) (ag v)) [.d y2Y (ai ((Nat.gcd u v:Nat):Int))]:=by
 intro v;induction v using Nat.strongRecOn with
 |ind v ih=>
  intro u hu hv;rcases age v with h0|h0
  ·refine td _ _ _ _ ⟨0,λn _=>?_⟩;unfold pj;rw[h0,Nat.gcd_zero_right,dF (show ¬((ag 0).length:Int)>0 by decide),show(((ag 0).length:Int)==0)=true by decide];dsimp only;rw[dT (cA (n:=u) (by omega)),aZ];rfl
  ·have hne:ag v≠[]:=λe=>by rw[gO]at e;omega
   have hl:=af4.2 hne;have hm:=aif u h0
   have hms:(ag (u%v)).length<=1000000:=c7 (by
    have:=b8 (cd v);rw[aZ]at this;have:=c8 hv;omega)
   have hz:(((ag v).length:Int)==0)=false:=by simp;omega
   have hprt:CO (ag u) (ag v):=⟨⟨dU _,hu⟩,⟨dU _,hv⟩,hne⟩
   have hmod:(val (ag u)%val (ag v)).toNat=u%v:=by rw[aZ,aZ];omega
   by_cases hsm:(ag u).length<=2/\(ag v).length<=2
   ·have lu:=Gz hsm.1;have lv:=Gz hsm.2;obtain⟨n0,hn⟩:=II x y 1000000000000000000 (by decide) v u (by omega) (by omega);refine td _ _ _ _ ⟨n0,λn hn'=>?_⟩;unfold pj;rw[dT (show((ag v).length:Int)>0 by omega),dF (show ¬((ag u).length:Int)>2 by omega),dF (show ¬((ag v).length:Int)>2 by omega),hz,dT (show rQ (ag u) from⟨cA (by omega),by rw[aZ];omega⟩),dT (show rQ (ag v) from⟨cA (by omega),by rw[aZ];omega⟩),aZ,aZ];exact hn n hn'
   ·obtain⟨n0,hn⟩:=ih (u%v) hm v hv hms;refine td _ _ _ _ ⟨n0,λn hn'=>?_⟩;have:=hn n hn';rw[show Nat.gcd v (u%v)=Nat.gcd u v by rw[ahu u v,Nat.gcd_rec v u,ahu]]at this;unfold pj;rw[dT (show((ag v).length:Int)>0 by omega),dT hprt,hmod];by_cases h2:(ag u).length<=2
    ·rw[dF (show ¬((ag u).length:Int)>2 by omega),dT (show((ag v).length:Int)>2 by omega)];exact this
    ·rw[dT (show((ag u).length:Int)>2 by omega)];exact this
def Ni:Cn 152 [y2Y,y2Y]:=cn λ(x y:Bool×List Int)=>lf (okI x/\okI y) [.d y2Y (ai ((Int.gcd (ae x) (ae y):Nat):Int))] λh=>by
 refine dm Ez (show ud.Res _ _ _ from ?_);obtain⟨hx,hy⟩:=h;obtain⟨x0,_,_⟩:=cC hx;obtain⟨y0,_,_⟩:=cC hy;have ex:((ae x).natAbs:Int)=val x.2:=by rw[bK];unfold cf;cases x.1<;>simp<;>omega
 have ey:((ae y).natAbs:Int)=val y.2:=by rw[bK];unfold cf;cases y.1<;>simp<;>omega
 have cx:=nJ hx.1;have cy:=nJ hy.1;rw[show(val x.2).toNat=(ae x).natAbs by omega]at cx;rw[show(val y.2).toNat=(ae y).natAbs by omega]at cy;obtain⟨n1,h1⟩:=Ja x y (ae y).natAbs (ae x).natAbs (by rw[<-cx];exact hx.2.2) (by rw[<-cy];exact hy.2.2);rw[<-cx,<-cy]at h1;exact Zm _ _ ⟨n1,h1 n1 (afs _)⟩
section
abbrev tI:Ty:=.st (.pair .bool aix)
abbrev tR:Ty:=.st (.pair tI tI)
abbrev tV:Ty:=.st (.pair tR tR)
abbrev tO:Ty:=.st (.pair tR (.pair tR tR))
abbrev tP:Ty:=.st (.pair tR (.pair tR (.pair tR (.pair tR tR))))
abbrev tQ:Ty:=.st (.pair tR (.pair tR (.pair tR (.pair tR (.pair tR tR)))))
abbrev tG:Ty:=.st (.pair aiy aiy)
abbrev BV:=BR×BR
abbrev BO3:=BR×BR×BR
abbrev BP:=BR×BR×BR×BR×BR
abbrev BQ:=BR×BR×BR×BR×BR×BR
abbrev hAd(a b:BR):BR:=hid (ao (ah a+ah b))
abbrev hSu(a b:BR):BR:=hid (ao (ah a-ah b))
abbrev hMu(a b:BR):BR:=hid (ao (ah a*ah b))
abbrev hDi(a b:BR):BR:=hid (ao (ah a/ah b))
abbrev hNe(a:BR):BR:=hid (ao (-ah a))
class Cod (α:Type) (A:outParam Type) where
 enc:α->A
 dec:A->α
 bd:Nat->α->Prop
 ok:Nat->A->Prop
 okD:∀k x,Decidable (ok k x)
 mono:∀j k x,j<=k->bd j x->bd k x
 dec_enc:∀x,dec (enc x)=x
 ok_enc:∀k x,k<=480000->bd k x->ok k (enc x)
 ok_dec:∀k x,ok k x->x=enc (dec x)/\bd k (dec x)
def enc{α A:Type}[Cod α A](x:α):A:=Cod.enc x
def dec{α A:Type}[Cod α A](x:A):α:=Cod.dec x
def ok(α:Type){A:Type}[Cod α A](k:Nat)(x:A):Prop:=Cod.ok (α:=α) k x
instance (α A:Type) [Cod α A] (k:Nat) (x:A):Decidable (ok α k x):=Cod.okD k x
theorem aB{α A:Type}[Cod α A](x:α):dec (enc x)=x:=Cod.dec_enc x
class Bd {α A:Type} [Cod α A] (x:α) (k:outParam Nat):Prop where le:Cod.bd k x
theorem aH{α A:Type}[Cod α A]{k:Nat}{x:A}(h:ok α k x):∃v:α,x=enc v/\Bd v k:=⟨_,(Cod.ok_dec k x h).1,⟨(Cod.ok_dec k x h).2⟩⟩
theorem okd{α A:Type}[Cod α A]{x:α}{j k:Nat}[h:Bd x j](hj:j<=k)(hk:k<=480000):decide (ok α k (enc x))=true:=
 afm (Cod.ok_enc k x hk (Cod.mono j k x hj h.le))
instance aef:Cod Rat BR where
 enc:=ao
 dec:=ah
 bd:=bdR
 ok k x:=okR x/\x.1.2.length<=k/\x.2.2.length<=k
 okD _ _:=instDecidableAnd
 mono _ _ _ hk h:=cj h hk
 dec_enc:=fB
 ok_enc k _ hk h:=⟨oZ h hk,h.1,h.2⟩
 ok_dec k x h:=by
  obtain⟨h1,h2,h3⟩:=h;refine⟨Me h1,?_⟩;obtain⟨e1,e2⟩:=cK h1;unfold bdR szI;rw[e1,e2];rw[ic h1.1]at h2;rw[ic h1.2.1]at h3;exact⟨h2,h3⟩
instance ad8:Cod Int Int where
 enc x:=x
 dec x:=x
 bd _ x:=a9 x
 ok _ x:=a9 x
 okD _ _:=inferInstance
 mono _ _ _ _ h:=h
 dec_enc _:=rfl
 ok_enc _ _ _ h:=h
 ok_dec _ _ h:=⟨rfl,h⟩
instance adY:Cod Bool Bool where
 enc x:=x
 dec x:=x
 bd _ _:=True
 ok _ _:=True
 okD _ _:=inferInstance
 mono _ _ _ _ h:=h
 dec_enc _:=rfl
 ok_enc _ _ _ h:=h
 ok_dec _ _ h:=⟨rfl,h⟩
instance adZ (α β A B:Type) [Cod α A] [Cod β B]:Cod (α×β) (A×B) where
 enc x:=(enc x.1,enc x.2)
 dec x:=(dec x.1,dec x.2)
 bd k x:=Cod.bd k x.1/\Cod.bd k x.2
 ok k x:=ok α k x.1/\ok β k x.2
 okD _ _:=instDecidableAnd
 mono _ _ _ hk h:=⟨Cod.mono _ _ _ hk h.1,Cod.mono _ _ _ hk h.2⟩
 dec_enc x:=by rw[aB,aB]
 ok_enc k _ hk h:=⟨Cod.ok_enc _ _ hk h.1,Cod.ok_enc _ _ hk h.2⟩
 ok_dec k x h:=⟨ais (Cod.ok_dec k x.1 h.1).1 (Cod.ok_dec k x.2 h.2).1,(Cod.ok_dec k x.1 h.1).2,(Cod.ok_dec k x.2 h.2).2⟩
theorem nr{α:Type}{a b:α}(h:a=b):a=b:=h
theorem vK{α β A B:Type}[Cod α A][Cod β B](x:α×β):(enc x).1=enc x.1:=nr rfl
theorem Hv{α β A B:Type}[Cod α A][Cod β B](x:α×β):(enc x).2=enc x.2:=nr rfl
theorem aD{α β A B:Type}[Cod α A][Cod β B](x:α)(y:β):enc (x,y)=(enc x,enc y):=nr rfl
theorem ng(q:Rat):enc q=ao q:=nr rfl
theorem GP(x:BR):dec x=ah x:=nr rfl
theorem GB(q:Int):enc q=q:=nr rfl
theorem BO(q:Bool):enc q=q:=nr rfl
theorem NG{q:Rat}{j:Nat}[h:Bd q j](hj:j<=480000):decide (okR (ao q))=true:=afm (oZ h.le hj)
def mx(j k:Nat):Nat:=bif decide (j<=k)then k else j
theorem FV(j k:Nat):j<=mx j k:=by
 unfold mx;by_cases h:j<=k
 ·rw[afm h];exact h
 ·rw[afo h];exact afs _
theorem EG(j k:Nat):k<=mx j k:=by
 unfold mx;by_cases h:j<=k
 ·rw[afm h];exact afs _
 ·rw[afo h];show k<=j;omega
theorem lg{q:Rat}{j k:Nat}[h:Bd q j](hj:j<=k)(hk:k<=480000):decide (ok Rat k (ao q))=true:=okd (x:=q) hj hk
section
variable {α β A B:Type} [Cod α A] [Cod β B]
instance aeZ {x:α×β} {k:Nat} [h:Bd x k]:Bd x.1 k:=⟨h.le.1⟩
instance aey {x:α×β} {k:Nat} [h:Bd x k]:Bd x.2 k:=⟨h.le.2⟩
instance ae3 {x:α} {y:β} {j k:Nat} [h:Bd x j] [h':Bd y k]:Bd (x,y) (mx j k):=⟨Cod.mono _ _ _ (FV _ _) h.le,Cod.mono _ _ _ (EG _ _) h'.le⟩
instance ad1 {b:Bool} {x y:α} {j k:Nat} [h:Bd x j] [h':Bd y k]:Bd (bif b then x else y) (mx j k):=by
 refine⟨?_⟩;cases b
 ·exact Cod.mono _ _ _ (EG _ _) h'.le
 ·exact Cod.mono _ _ _ (FV _ _) h.le
theorem Bd.mono{x:α}{j k:Nat}(h:Bd x j)(hk:j<=k):Bd x k:=⟨Cod.mono _ _ _ hk h.le⟩
end
section
variable {a b:Rat} {j k:Nat}
instance aeq [h:Bd a j] [h':Bd b k]:Bd (a+b) (j+k+1):=⟨Ic h.le h'.le⟩
instance aeb [h:Bd a j] [h':Bd b k]:Bd (a-b) (j+k+1):=⟨P7 h.le h'.le⟩
instance aen [h:Bd a j] [h':Bd b k]:Bd (a*b) (j+k):=⟨Hh h.le h'.le⟩
instance ad5 [h:Bd a j]:Bd (-a) j:=⟨vu h.le⟩
theorem ri(h:bdR k b):1<=k:=by
 have h1:=h.2;have h2:=Ej (b.den:Int);have h3:=b.den_pos;rcases age k with e|e
 ·subst e;have:szI (b.den:Int)=0:=by omega
  rw[this]at h2;have:pw 0=1:=rfl;omega
 ·exact e
instance aew [h:Bd a j] [h':Bd b k]:Bd (a/b) (j+k):=by
 refine⟨?_⟩;by_cases h0:b=0
 ·subst h0;rw[aiu,Rat.inv_zero,Rat.mul_zero];have:=ri h'.le;exact cj (j:=1) ⟨by decide+kernel,by decide+kernel⟩ (by omega)
 ·exact Ql h.le h'.le h0
end
theorem fx{n:Int}(h:a9 n):Bd (n:Rat) 3:=by
 refine⟨?_⟩;show bdR 3 (n:Rat);refine⟨?_,?_⟩
 ·rw[Rat.num_intCast];have:pw 3=1000000000000000000000000000:=by decide
  exact eV (by have:=h.1;omega) (by have:=h.2;omega)
 ·rw[Rat.den_intCast];exact eV (by decide) (by decide)
instance rB:Bd (0:Rat) 1:=⟨⟨by decide+kernel,by decide+kernel⟩⟩
theorem eL{x:BR}(h:okR x):∃q:Rat,x=ao q/\Bd q 480000:=⟨ah x,Me h,⟨As h⟩⟩
def acx(a b:Rat×Rat):Rat×Rat:=(b.1-a.1,b.2-a.2)
def ZL(a b:Rat×Rat):Rat:=a.1*b.1+a.2*b.2
end
def Mt:List En:=[enK A9,enK Ar,enK Ol,enF Pd,enF Lu,enK OO,enK NW,enK Ni]
def MF(_k:KT):OLR:=og (decide (a9 (1:Int))) (some [RV.d y2Y (ai (1:Int))])
def MY:Cn 80 []:=cn<|lf True [.d y2Y (ai 1)] λ_=>by
 refine az Mt (MF) ⟨0,?_⟩;unfold MF;rw[dT (show a9 1 by decide)]
def KY:List En:=enK MY::Mt
def UB(x y:Bool×List Int)(_k:KT):OLR:=og (decide (okI y)) (match decide ((cq (ae y) 0)<0)with|true=>(og (decide (okI x)) (og (decide (okI y)) (og (decide (okI (ai (-ae x))/\okI (ai (-ae y)))) (og (decide (eZ (ai (-ae x)) (ai ((Int.gcd (ae (ai (-ae x))) (ae (ai (-ae y))):Nat):Int)))) (og (decide (eZ (ai (-ae y)) (ai ((Int.gcd (ae (ai (-ae x))) (ae (ai (-ae y))):Nat):Int)))) (some [RV.d (.st (.pair y2Y y2Y)) ((ai (ae (ai (-ae x))/ae (ai ((Int.gcd (ae (ai (-ae x))) (ae (ai (-ae y))):Nat):Int)))),(ai (ae (ai (-ae y))/ae (ai ((Int.gcd (ae (ai (-ae x))) (ae (ai (-ae y))):Nat):Int)))))]))))))|false=>(og (decide (okI x/\okI y)) (og (decide (eZ x (ai ((Int.gcd (ae x) (ae y):Nat):Int)))) (og (decide (eZ y (ai ((Int.gcd (ae x) (ae y):Nat):Int)))) (some [RV.d (.st (.pair y2Y y2Y)) ((ai (ae x/ae (ai ((Int.gcd (ae x) (ae y):Nat):Int)))),(ai (ae y/ae (ai ((Int.gcd (ae x) (ae y):Nat):Int)))))])))))
def Ub:Cn 62 [y2Y,y2Y]:=cn λ(x y:Bool×List Int)=>lf (jx x y) [.d (.st (.pair y2Y y2Y)) (eW x y)] λh=>by
 refine az KY (UB x y) ⟨0,?_⟩;obtain⟨hx,hy,hne⟩:=h;have sx:=ir hx;have sy:=ir hy;have hgp:0<Int.gcd (ae x) (ae y):=Nat.pos_of_ne_zero λe=>hne (Int.gcd_eq_zero_iff.1 e).2;have hgs:=JP (a:=ae x) hne sy;have og:okI (ai ((Int.gcd (ae x) (ae y):Nat):Int)):=aR hgs;have o1:okI (ai (-ae x)):=aR (by rw[iJ];exact sx);have o2:okI (ai (-ae y)):=aR (by rw[iJ];exact sy);have ig:∀z:BI,okI z->eZ z (ai ((Int.gcd (ae x) (ae y):Nat):Int)):=λz hz=>⟨hz,og,by rw[dec_enc];omega⟩
 unfold UB eW;rw[dT hy];rcases ahe hne with hn|hn
 ·rw[cW hn,dT (show(-1:Int)<0 by decide),dT hx];simp only[dec_enc,Int.gcd_neg,Int.neg_gcd];rw[dT (show okI (ai (-ae x))/\okI (ai (-ae y)) from⟨o1,o2⟩),dT (ig _ o1),dT (ig _ o2),<-Rat.neg_divInt_neg,mE (by omega),Int.gcd_neg,Int.neg_gcd]
 ·rw[cH hn,dF (show ¬(1:Int)<0 by decide)];simp only[dec_enc];rw[dT (show okI x/\okI y from⟨hx,hy⟩),dT (ig _ hx),dT (ig _ hy),mE hn]
def nR:List En:=enK Ub::KY
def Oe(a:(Bool×List Int)×Bool×List Int)(_k:KT):OLR:=og (decide (okI a.1)) (some [RV.d aiy (cq (ae a.1) 0)])
def Oq(n:Int)(_k:KT):OLR:=og (decide (a9 n)) (some [RV.d (.st (.pair y2Y y2Y)) ((ai n),(ai 1))])
def NJ(a b:(Bool×List Int)×Bool×List Int)(_k:KT):OLR:=og (decide (okI a.1/\okI b.2)) (og (decide (okI b.1/\okI a.2)) (og (decide (okI (ai (ae a.1*ae b.2))/\okI (ai (ae b.1*ae a.2)))) (some [RV.d aiy (cq (ae (ai (ae a.1*ae b.2))) (ae (ai (ae b.1*ae a.2))))])))
def M6(a b:(Bool×List Int)×Bool×List Int)(_k:KT):OLR:=og (decide (okI a.1/\okI b.2)) (og (decide (okI b.1/\okI a.2)) (og (decide (okI (ai (ae a.1*ae b.2))/\okI (ai (ae b.1*ae a.2)))) (og (decide (okI a.2/\okI b.2)) (og (decide (jx (ai (ae (ai (ae a.1*ae b.2))+ae (ai (ae b.1*ae a.2)))) (ai (ae a.2*ae b.2)))) (some [RV.d (.st (.pair y2Y y2Y)) (((eW (ai (ae (ai (ae a.1*ae b.2))+ae (ai (ae b.1*ae a.2)))) (ai (ae a.2*ae b.2))).1),((eW (ai (ae (ai (ae a.1*ae b.2))+ae (ai (ae b.1*ae a.2)))) (ai (ae a.2*ae b.2))).2))])))))
def O6(a b:(Bool×List Int)×Bool×List Int)(_k:KT):OLR:=og (decide (okI a.1/\okI b.1)) (og (decide (okI a.2/\okI b.2)) (og (decide (jx (ai (ae a.1*ae b.1)) (ai (ae a.2*ae b.2)))) (some [RV.d (.st (.pair y2Y y2Y)) (((eW (ai (ae a.1*ae b.1)) (ai (ae a.2*ae b.2))).1),((eW (ai (ae a.1*ae b.1)) (ai (ae a.2*ae b.2))).2))])))
def Kw(a:(Bool×List Int)×Bool×List Int)(_k:KT):OLR:=og (decide (okI a.1)) (some [RV.d (.st (.pair y2Y y2Y)) ((ai (-ae a.1)),a.2)])
def NN(x y:Bool×List Int)(_k:KT):OLR:=og (decide (okI y)) (match(cq (ae y) 0)==0 with|true=>some [RV.d (.st (.pair y2Y y2Y)) ((false,[]),(false,[])),RV.d aiy 6]|false=>(og (decide (jx x y)) (some [RV.d (.st (.pair y2Y y2Y)) (((eW x y).1),((eW x y).2)),RV.d aiy 0])))
def XE:Cn 314 [y2Y,y2Y]:=cn λ(x y:Bool×List Int)=>lf (jx x y) [.d (.st (.pair y2Y y2Y)) (eW x y),.d aiy 0] λh=>by
 refine az nR (NN x y) ⟨0,?_⟩;obtain⟨hx,hy,hne⟩:=h
 have hnz:(cq (ae y) 0==0)=false:=by
  rcases ahe hne with h|h
  ·rw[cW h];rfl
  ·rw[cH h];rfl
 unfold NN;rw[dT hy,hnz,dT (show jx x y from⟨hx,hy,hne⟩)]
def GD:List En:=enK XE::nR
def OB(a b:(Bool×List Int)×Bool×List Int)(_k:KT):OLR:=match decide (okI a.1/\okI b.2)with|true=>(match decide (okI a.2/\okI b.1)with|true=>(match decide (jx (ai (ae a.1*ae b.2)) (ai (ae a.2*ae b.1)))with|true=>some [RV.d (.st (.pair y2Y y2Y)) (((eW (ai (ae a.1*ae b.2)) (ai (ae a.2*ae b.1))).1),((eW (ai (ae a.1*ae b.2)) (ai (ae a.2*ae b.1))).2)),RV.d aiy 0]|false=>none)|false=>none)|false=>none
def nh:Cn 46 [(.st (.pair y2Y y2Y))]:=cn λ(a:(Bool×List Int)×Bool×List Int)=>lf (okR a) [.d aiy (aE (ah a) 0)] λh=>by
 refine az nR (Oe a) ⟨0,?_⟩;unfold Oe;rw[dT h.1,<-uy,(cK h).1]
def qx:Cn 25 [aiy]:=cn λ(n:Int)=>lf (a9 n) [.d (.st (.pair y2Y y2Y)) (ao (n:Rat))] λh=>by
 refine az nR (Oq n) ⟨0,?_⟩;unfold Oq ao;rw[dT h,Rat.num_intCast,Rat.den_intCast];rfl
def tC:Cn 185 [(.st (.pair y2Y y2Y)),(.st (.pair y2Y y2Y))]:=cn λ(a b:(Bool×List Int)×Bool×List Int)=>lf (okR a/\okR b) [.d aiy (aE (ah a) (ah b))] λh=>by
 refine az nR (NJ a b) ⟨0,?_⟩;obtain⟨ha,hb⟩:=h;obtain⟨a1,a2⟩:=cK ha;obtain⟨b1,b2⟩:=cK hb;obtain⟨sa1,sa2⟩:=fZ ha;obtain⟨sb1,sb2⟩:=fZ hb;have h1:=cJ sa1 sb2;have h2:=cJ sb1 sa2;unfold NJ;rw[dT (show okI a.1/\okI b.2 from⟨ha.1,hb.2.1⟩),dT (show okI b.1/\okI a.2 from⟨hb.1,ha.2.1⟩),dT (show okI (ai (ae a.1*ae b.2))/\okI (ai (ae b.1*ae a.2)) from⟨aR (by omega),aR (by omega)⟩),dec_enc,dec_enc,<-a1,<-a2,<-b1,<-b2,xf]
def ux:Cn 199 [(.st (.pair y2Y y2Y))]:=cn λ(a:(Bool×List Int)×Bool×List Int)=>lf (okR a) [.d (.st (.pair y2Y y2Y)) (ao (-ah a))] λh=>by
 refine az nR (Kw a) ⟨0,?_⟩;obtain⟨a1,a2⟩:=cK h;unfold Kw
 have e:ao (-ah a)=(ai (-ae a.1),a.2):=by
  unfold ao;rw[Rat.neg_num,a1,show((-ah a).den:Int)=((ah a).den:Int) from rfl,a2,<-ic h.2.1]
 rw[dT h.1,e]
def re:Cn 19 [(.st (.pair y2Y y2Y)),(.st (.pair y2Y y2Y))]:=cn λ(a b:(Bool×List Int)×Bool×List Int)=>lf (okR a/\okR b) [.d (.st (.pair y2Y y2Y)) (ao (ah a+ah b))] λh=>by
 refine az nR (M6 a b) ⟨0,?_⟩;obtain⟨ha,hb⟩:=h;obtain⟨a1,a2⟩:=cK ha;obtain⟨b1,b2⟩:=cK hb;obtain⟨sa1,sa2⟩:=fZ ha;obtain⟨sb1,sb2⟩:=fZ hb;have pa:=ha.2.2.1;have pb:=hb.2.2.1;have h1:=cJ sa1 sb2;have h2:=cJ sb1 sa2;have h3:=cJ sa2 sb2;have h4:=u5 h1 h2;have hda:ah a=Rat.divInt (ae a.1) (ae a.2):=by rw[<-a1,<-a2,agq]
 have hdb:ah b=Rat.divInt (ae b.1) (ae b.2):=by rw[<-b1,<-b2,agq]
 unfold M6;rw[dT (show okI a.1/\okI b.2 from⟨ha.1,hb.2.1⟩),dT (show okI b.1/\okI a.2 from⟨hb.1,ha.2.1⟩),dT (show okI (ai (ae a.1*ae b.2))/\okI (ai (ae b.1*ae a.2)) from⟨aR (by omega),aR (by omega)⟩),dT (show okI a.2/\okI b.2 from⟨ha.2.1,hb.2.1⟩)];simp only[dec_enc];rw[dT (show jx (ai (ae a.1*ae b.2+ae b.1*ae a.2)) (ai (ae a.2*ae b.2)) from⟨aR (by omega),aR (by omega),by rw[dec_enc];exact ah0 (by omega) (by omega)⟩)]
 have e:eW (ai (ae a.1*ae b.2+ae b.1*ae a.2)) (ai (ae a.2*ae b.2))=ao (ah a+ah b):=by
  unfold eW;rw[dec_enc,dec_enc,hda,hdb,Rat.divInt_add_divInt _ _ (by omega) (by omega)]
 rw[e]
def qr:Cn 83 [(.st (.pair y2Y y2Y)),(.st (.pair y2Y y2Y))]:=cn λ(a b:(Bool×List Int)×Bool×List Int)=>lf (okR a/\okR b) [.d (.st (.pair y2Y y2Y)) (ao (ah a*ah b))] λh=>by
 refine az nR (O6 a b) ⟨0,?_⟩;obtain⟨ha,hb⟩:=h;obtain⟨a1,a2⟩:=cK ha;obtain⟨b1,b2⟩:=cK hb;obtain⟨sa1,sa2⟩:=fZ ha;obtain⟨sb1,sb2⟩:=fZ hb;have pa:=ha.2.2.1;have pb:=hb.2.2.1;have h1:=cJ sa1 sb1;have h3:=cJ sa2 sb2;have hda:ah a=Rat.divInt (ae a.1) (ae a.2):=by rw[<-a1,<-a2,agq]
 have hdb:ah b=Rat.divInt (ae b.1) (ae b.2):=by rw[<-b1,<-b2,agq]
 unfold O6;rw[dT (show okI a.1/\okI b.1 from⟨ha.1,hb.1⟩),dT (show okI a.2/\okI b.2 from⟨ha.2.1,hb.2.1⟩),dT (show jx (ai (ae a.1*ae b.1)) (ai (ae a.2*ae b.2)) from⟨aR (by omega),aR (by omega),by rw[dec_enc];exact ah0 (by omega) (by omega)⟩)]
 have e:eW (ai (ae a.1*ae b.1)) (ai (ae a.2*ae b.2))=ao (ah a*ah b):=by
  unfold eW;rw[dec_enc,dec_enc,hda,hdb,ah1]
 rw[e]
def Ee:Cn 271 [(.st (.pair y2Y y2Y)),(.st (.pair y2Y y2Y))]:=cn λ(a b:(Bool×List Int)×Bool×List Int)=>lf (ij a b) [.d (.st (.pair y2Y y2Y)) (ao (ah a/ah b)),.d aiy 0] λh=>by
 refine az GD (OB a b) ⟨0,?_⟩;obtain⟨ha,hb,hne⟩:=h;obtain⟨a1,a2⟩:=cK ha;obtain⟨b1,b2⟩:=cK hb;obtain⟨sa1,sa2⟩:=fZ ha;obtain⟨sb1,sb2⟩:=fZ hb;have pa:=ha.2.2.1;have h1:=cJ sa1 sb2;have h3:=cJ sa2 sb1;have hda:ah a=Rat.divInt (ae a.1) (ae a.2):=by rw[<-a1,<-a2,agq]
 have hdb:ah b=Rat.divInt (ae b.1) (ae b.2):=by rw[<-b1,<-b2,agq]
 have hmz:ae a.2*ae b.1≠0:=ah0 (by omega) hne;unfold OB;rw[dT (show okI a.1/\okI b.2 from⟨ha.1,hb.2.1⟩),dT (show okI a.2/\okI b.1 from⟨ha.2.1,hb.1⟩)];simp only;rw[dT (show jx (ai (ae a.1*ae b.2)) (ai (ae a.2*ae b.1)) from⟨aR (by omega),aR (by omega),by rw[dec_enc];exact hmz⟩)]
 have e:eW (ai (ae a.1*ae b.2)) (ai (ae a.2*ae b.1))=ao (ah a/ah b):=by
  unfold eW;rw[dec_enc,dec_enc,hda,hdb,aiu,Rat.inv_divInt,ah1]
 rw[e]
def Lp:List En:=enK re::enK ux::enK Ee::GD
def O3(a b:(Bool×List Int)×Bool×List Int)(_k:KT):OLR:=match decide (okR b)with|true=>(match decide (okR a/\okR (ao (-ah b)))with|true=>some [RV.d (.st (.pair y2Y y2Y)) (((ao (ah a+ah (ao (-ah b)))).1),((ao (ah a+ah (ao (-ah b)))).2))]|false=>none)|false=>none
def Js(a b:(Bool×List Int)×Bool×List Int)(_k:KT):OLR:=og (decide (ij a b)) (some [RV.d (.st (.pair y2Y y2Y)) (((ao (ah a/ah b)).1),((ao (ah a/ah b)).2))])
def uo:Cn 140 [(.st (.pair y2Y y2Y)),(.st (.pair y2Y y2Y))]:=cn λ(a b:(Bool×List Int)×Bool×List Int)=>lf (okR a/\okR b) [.d (.st (.pair y2Y y2Y)) (ao (ah a-ah b))] λh=>by
 refine az Lp (O3 a b) ⟨0,?_⟩;obtain⟨ha,hb⟩:=h;unfold O3;rw[dT hb,fB,ahO,dT (show okR a/\okR (ao (-ah b)) from⟨ha,oZ (vu (As hb)) (afs _)⟩)]
def Wg:Cn 296 [(.st (.pair y2Y y2Y)),(.st (.pair y2Y y2Y))]:=cn λ(a b:(Bool×List Int)×Bool×List Int)=>lf (ij a b) [.d (.st (.pair y2Y y2Y)) (ao (ah a/ah b))] λh=>by
 refine az Lp (Js a b) ⟨0,?_⟩;unfold Js;rw[dT h]
theorem gV{a b:Rat}{j k:Nat}[ha:Bd a j][hb:Bd b k](hj:j<=480000)(hk:k<=480000)(h:b≠0):decide (ij (ao a) (ao b))=true:=
 afm ⟨oZ ha.le hj,oZ hb.le hk,by show ae (ai b.num)≠0;rw[dec_enc];exact λe=>h (Rat.num_eq_zero.1 e)⟩
theorem aW:type_of% @dB/\type_of% @cM/\type_of% @dV/\type_of% @bL/\type_of% @aB/\type_of% @vK/\type_of% @Hv/\type_of% @ng/\type_of% @GB/\type_of% @BO/\type_of% @GP/\type_of% @fB/\type_of% @abK/\type_of% @adK/\type_of% @abw/\type_of% @okd/\type_of% @lg/\type_of% @NG/\type_of% @gV/\type_of% @ahp/\type_of% @Bool.and_true/\type_of% @agT/\type_of% @agc/\type_of% @mx.eq_1/\type_of% @decide_true/\type_of% @decide_false/\(∀{α:Type} (a b:α),cond true a b=a)/\∀{α:Type} (a b:α),cond false a b=b:=
 ⟨@dB,@cM,@dV,@bL,@aB,@vK,@Hv,@ng,@GB,@BO,@GP,@fB,@abK,@adK,@abw,@okd,@lg,@NG,@gV,@ahp,@Bool.and_true,@agT,@agc,@mx.eq_1,@decide_true,@decide_false,@cond_true,@cond_false⟩
theorem av(a b:Rat):decide (aE a b>0)=decide (b<a):=by
 rcases(by grind:a<b\/a=b\/b<a)with h|h|h
 ·rw[dD h,afo (show ¬b<a by grind)];rfl
 ·rw[h,dP,afo (show ¬b<b by grind)];rfl
 ·rw[dq h,afm h];rfl
theorem au(a b:Rat):decide (aE a b<0)=decide (a<b):=by
 rcases(by grind:a<b\/a=b\/b<a)with h|h|h
 ·rw[dD h,afm h];rfl
 ·rw[h,dP,afo (show ¬b<b by grind)];rfl
 ·rw[dq h,afo (show ¬a<b by grind)];rfl
theorem acp(a b:Rat):decide (aE a b>=0)=decide (b<=a):=by
 rcases(by grind:a<b\/a=b\/b<a)with h|h|h
 ·rw[dD h,afo (show ¬b<=a by grind)];rfl
 ·rw[h,dP,afm (show b<=b by grind)];rfl
 ·rw[dq h,afm (show b<=a by grind)];rfl
theorem Do(a b:Rat):decide (aE a b<=0)=decide (a<=b):=by
 rcases(by grind:a<b\/a=b\/b<a)with h|h|h
 ·rw[dD h,afm (show a<=b by grind)];rfl
 ·rw[h,dP,afm (show b<=b by grind)];rfl
 ·rw[dq h,afo (show ¬a<=b by grind)];rfl
theorem aq(a b:Rat):(aE a b==0)=decide (a=b):=by
 rcases(by grind:a<b\/a=b\/b<a)with h|h|h
 ·rw[dD h,afo (show ¬a=b by grind)];rfl
 ·rw[h,dP,afm rfl];rfl
 ·rw[dq h,afo (show ¬a=b by grind)];rfl
theorem pp(a b:Rat): -1<=aE a b/\aE a b<=1:=by
 rcases(by grind:a<b\/a=b\/b<a)with h|h|h
 ·rw[dD h];decide
 ·rw[h,dP];decide
 ·rw[dq h];decide
theorem pG{a b c d:Rat}:i64.wrap (aE a b*aE c d)=aE a b*aE c d:=by
 rcases(by grind:a<b\/a=b\/b<a)with h|h|h<;>rcases(by grind:c<d\/c=d\/d<c)with h'|h'|h';all_goals first|rw[dD h]|(subst h;rw[dP])|rw[dq h]
 all_goals first|rw[dD h']|(subst h';rw[dP])|rw[dq h']
 all_goals decide
def mA:dK:=spN false true [tR,tR] (λx=>decide (okR x.1/\okR x.2.1)) (λx=>[RV.d tR (hAd x.1 x.2.1)])
theorem jk:SpK 132 mA:=spX λx h=>by simp only[bL];exact GT x.1 x.2.1 (afp h)
def kp:dK:=spN false true [tR,tR] (λx=>decide (okR x.1/\okR x.2.1)) (λx=>[RV.d tR (hSu x.1 x.2.1)])
theorem gu:SpK 65 kp:=spX λx h=>by simp only[bL];exact P4 x.1 x.2.1 (afp h)
def jC:dK:=spN false true [tR,tR] (λx=>decide (okR x.1/\okR x.2.1)) (λx=>[RV.d tR (hMu x.1 x.2.1)])
theorem fI:SpK 67 jC:=spX λx h=>by simp only[bL];exact PK x.1 x.2.1 (afp h)
def Ax:dK:=spN false true [tR,tR] (λx=>decide (ij x.1 x.2.1)) (λx=>[RV.d tR (hDi x.1 x.2.1),RV.d aiy 0])
theorem wQ:SpK 245 Ax:=spX λx h=>by simp only[bL];exact Sr x.1 x.2.1 (afp h)
def jA:dK:=spN true true [tR] (λx=>decide (okR x.1)) (λx=>[RV.d aiy (aE (ah x.1) 0)])
theorem fH:SpK 54 jA:=spX λx h=>F5 x.1 (afp h)
def lI:dK:=spN true true [tR,tR] (λx=>decide (okR x.1/\okR x.2.1)) (λx=>[RV.d aiy (aE (ah x.1) (ah x.2.1))])
theorem ik:SpK 66 lI:=spX λx h=>PI x.1 x.2.1 (afp h)
def ju:dK:=spN false true [aiy] (λx=>decide (a9 x.1)) (λx=>[RV.d tR (hid (ao (x.1:Rat)))])
theorem fq:SpK 125 ju:=spX λx h=>by simp only[bL];exact PC x.1 (afp h)
def Db:List En:=[⟨132,mA,jk⟩,⟨65,kp,gu⟩,⟨67,jC,fI⟩,⟨245,Ax,wQ⟩,⟨54,jA,fH⟩,⟨66,lI,ik⟩,⟨125,ju,fq⟩]
def acr:Cn 122 [tR,tR]:=cn λ(a b:BR)=>lf (okR a/\okR b) [.d tR (ao (ah a+ah b))] λh=>kx [RV.d tR (hAd a b)] (dk Db) h
def Zt:Cn 121 [tR,tR]:=cn λ(a b:BR)=>lf (okR a/\okR b) [.d tR (ao (ah a-ah b))] λh=>kx [RV.d tR (hSu a b)] (dk Db) h
def abP:Cn 123 [tR,tR]:=cn λ(a b:BR)=>lf (okR a/\okR b) [.d tR (ao (ah a*ah b))] λh=>kx [RV.d tR (hMu a b)] (dk Db) h
def To(a b:BR)(_k:KT):OLR:=og (decide (ij a b)) (match 0 !=0 with|true=>(og (decide (a9 (0:Int))) (some [RV.d tR (hid (ao ((0:Int):Rat)))]))|false=>some [RV.d tR (hDi a b)])
def abQ:Cn 230 [tR,tR]:=cn λ(a b:BR)=>lf (ij a b) [.d tR (ao (ah a/ah b))] λh=>by
 refine az Db (To a b) ⟨0,?_⟩;unfold To;rw[dT h];simp only[bL];rfl
def aaz:List En:=enL acr::enL Zt::enL abP::enL abQ::Db
def T3(a b:BV)(_k:KT):OLR:=og (o2 b.1 a.1) (og (o2 b.2 a.2) (some [RV.d tV (hSu b.1 a.1,hSu b.2 a.2)]))
def afe:Cn 293 [tV,tV]:=cn λ(a b:BV)=>lf (ok (Rat×Rat) 1000 a/\ok (Rat×Rat) 1000 b) [.d tV (enc (acx (dec a) (dec b)))] λh=>by
 refine az aaz (T3 a b) ⟨0,?_⟩;obtain⟨ha,hb⟩:=h;obtain⟨a,rfl,ba⟩:=aH ha;obtain⟨b,rfl,bb⟩:=aH hb;unfold T3;simp only[aW,Nat.reduceLeDiff];try rfl
def F8:List En:=[enL re,enL uo,enL qr,enL Wg,enT nh,enT tC,enL qx]
def aa7:Cn 148 [tR,tR]:=cn λ(a b:BR)=>lf (okR a/\okR b) [.d tR (ao (ah a+ah b))] λh=>kx [RV.d tR (hAd a b)] (dk F8) h
def adk:Cn 239 [tR,tR]:=cn λ(a b:BR)=>lf (okR a/\okR b) [.d tR (ao (ah a-ah b))] λh=>kx [RV.d tR (hSu a b)] (dk F8) h
def ab2:Cn 60 [tR,tR]:=cn λ(a b:BR)=>lf (okR a/\okR b) [.d tR (ao (ah a*ah b))] λh=>kx [RV.d tR (hMu a b)] (dk F8) h
def aaT:List En:=enL aa7::enL adk::enL ab2::F8
def VQ(a b:BV)(_k:KT):OLR:=og (o2 b.1 a.1) (og (o2 b.2 a.2) (some [RV.d tV (hSu b.1 a.1,hSu b.2 a.2)]))
def afb:Cn 144 [tV,tV]:=cn λ(a b:BV)=>lf (ok (Rat×Rat) 1000 a/\ok (Rat×Rat) 1000 b) [.d tV (enc (acx (dec a) (dec b)))] λh=>by
 refine az aaT (VQ a b) ⟨0,?_⟩;obtain⟨ha,hb⟩:=h;obtain⟨a,rfl,ba⟩:=aH ha;obtain⟨b,rfl,bb⟩:=aH hb;unfold VQ;simp only[aW,Nat.reduceLeDiff];try rfl
abbrev Rt:=Rat×Rat×Rat
def gn(a b m:Rat):Int:=RE.addS (aE a 0) (aE b 0*aE m 0) (aE (a*a) (b*b*m))
def Au(A B C D M N:Rat):Int:=bif decide (M<0)||decide (N<0)then 0
 else RE.addS (gn A B M) (gn C D M*aE N 0) (gn (A*A+B*B*M-N*(C*C+D*D*M)) (2*(A*B-N*(C*D))) M)
def bj(x y:Rt):Int:=Au (x.1-y.1) x.2.1 (-y.2.1) 0 x.2.2 y.2.2
theorem wa(a b:Rat):aE (a-b) 0=aE a b:=by
 rcases(by grind:a<b\/a=b\/b<a)with h|h|h
 ·rw[dD h,dD (by grind)]
 ·rw[h,dP,show b-b=0 by grind,dP]
 ·rw[dq h,dq (by grind)]
namespace RE
def rq(m:Rat):RE:=wH (of m)
theorem OV(m:Rat):0<=rq m:=nX _
theorem pZ{m:Rat}(h:0<=m):rq m*rq m=of m:=Af (nt.2 h)
theorem PZ{x:RE}(h:0<=x):sg (wH x)=sg x:=by
 have h1:=nX x;have h2:=Af h;rcases n4 h1 with h'|h'
 ·rw[jm h',<-h2,jm (mul_pos h' h')]
 ·rw[h',mul_zero]at h2;rw[h',h2]
theorem UW{m:Rat}(h:0<=m):sg (rq m)=aE m 0:=by
 unfold rq;rw[PZ (nt.2 h),sg_of]
def v2(a b m:Rat):RE:=of a+of b*rq m
def vR(x:Rt):RE:=v2 x.1 x.2.1 x.2.2
theorem sq2(a b s:RE):a*a-b*s*(b*s)=a*a-b*b*(s*s):=by grind
theorem sq4(A B C D s t:RE):(A+B*s)*(A+B*s)-(C+D*s)*t*((C+D*s)*t)=A*A+B*B*(s*s)-t*t*(C*C+D*D*(s*s))+2*(A*B-t*t*(C*D))*s:=by grind
theorem ac9(A B C D s t:RE):A+B*s+(C+D*s)*t=A+B*s+C*t+D*(s*t):=by grind
theorem Y5(a b c d s t:RE):a-c+b*s+(-d)*t+0*(s*t)=a+b*s-(c+d*t):=by grind
theorem sgn2_re{a b m:Rat}(h:0<=m):gn a b m=sg (v2 a b m):=by
 unfold v2;rw[Mj,sq2,pZ h,tM,sg_of,sg_of,UW h,<-bS,<-bS,<-bS,<-of_sub,sg_of,wa];rfl
theorem YI:of 2=2:=rfl
def vQ(A B C D M N:Rat):RE:=of A+of B*rq M+of C*rq N+of D*(rq M*rq N)
theorem sgnQ_re{A B C D M N:Rat}(hM:0<=M)(hN:0<=N):Au A B C D M N=sg (vQ A B C D M N):=by
 unfold Au vQ;rw[afo (by grind),afo (by grind),<-ac9,Mj,sq4,pZ hM,pZ hN,tM,UW hN,sgn2_re hM,sgn2_re hM,sgn2_re hM];unfold v2;simp only[of_sub,of_add,bS,YI];rfl
theorem cmpT_re{x y:Rt}(hx:0<=x.2.2)(hy:0<=y.2.2):bj x y=sg (vR x-vR y):=by
 unfold bj vR v2;rw[sgnQ_re hx hy,<-Y5,<-of_sub,<-of_neg];rfl
end RE
theorem z8{s t:Int}(hs: -1<=s/\s<=1)(ht: -1<=t/\t<=1): -1<=s*t/\s*t<=1:=by
 have h1:s= -1\/s=0\/s=1:=by omega
 have h2:t= -1\/t=0\/t=1:=by omega
 rcases h1 with rfl|rfl|rfl<;>rcases h2 with rfl|rfl|rfl<;>decide
theorem F9{s t d:Int}(hs: -1<=s/\s<=1)(ht: -1<=t/\t<=1)(hd: -1<=d/\d<=1): -1<=RE.addS s t d/\RE.addS s t d<=1:=by
 unfold RE.addS;cases(t==0||s==t)
 ·cases s==0
  ·exact z8 hs hd
  ·exact ht
 ·exact hs
theorem k9(a b m:Rat): -1<=gn a b m/\gn a b m<=1:=F9 (pp _ _) (z8 (pp _ _) (pp _ _)) (pp _ _)
theorem QY(A B C D M N:Rat): -1<=Au A B C D M N/\Au A B C D M N<=1:=by
 unfold Au;cases(decide (M<0)||decide (N<0))
 ·exact F9 (k9 _ _ _) (z8 (k9 _ _ _) (pp _ _)) (k9 _ _ _)
 ·exact⟨by show(-1:Int)<=0;decide,by show(0:Int)<=1;decide⟩
theorem vc(x y:Rt): -1<=bj x y/\bj x y<=1:=QY _ _ _ _ _ _
end Go.Proofs.YtagbmoohboleaaaGreat
end
