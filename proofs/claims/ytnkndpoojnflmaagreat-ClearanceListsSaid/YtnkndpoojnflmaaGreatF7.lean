/- integer: plus, minus, times, byWord. -/
import Derived.Test.YtnkndpoojnflmaaGreatF6
noncomputable section
namespace Go.Proofs.YtnkndpoojnflmaaGreat
open Go.RowKit Go.IntKind
theorem ani:type_of% @Int.mul_le_mul_of_nonneg_right:=@Int.mul_le_mul_of_nonneg_right
theorem anU:type_of% @Int.mul_ediv_add_emod:=@Int.mul_ediv_add_emod
theorem anW:type_of% @Int.emod_lt_of_pos:=@Int.emod_lt_of_pos
theorem an5:type_of% @Int.mul_nonneg:=@Int.mul_nonneg
theorem an9:type_of% @Int.ediv_nonneg:=@Int.ediv_nonneg
theorem aoi:type_of% @Int.ediv_eq_zero_of_lt:=@Int.ediv_eq_zero_of_lt
theorem aol:type_of% @Int.one_mul:=@Int.one_mul
theorem aom:type_of% @Int.emod_nonneg:=@Int.emod_nonneg
theorem aor:type_of% @List.getElem_set_ne:=@List.getElem_set_ne
theorem aoz:type_of% @Int.ediv_lt_of_lt_mul:=@Int.ediv_lt_of_lt_mul
theorem aoQ:type_of% @Int.add_mul_ediv_left:=@Int.add_mul_ediv_left
theorem aoR:type_of% @Int.mul_comm:=@Int.mul_comm
theorem aoW:type_of% @Int.ediv_le_self:=@Int.ediv_le_self
theorem ao8:type_of% @Int.add_mul_emod_self_left:=@Int.add_mul_emod_self_left
theorem apf:type_of% @Int.mul_le_mul:=@Int.mul_le_mul
theorem api:type_of% @Int.emod_eq_of_lt:=@Int.emod_eq_of_lt
theorem apj:type_of% @Int.mul_ediv_cancel_left:=@Int.mul_ediv_cancel_left
theorem apl:type_of% @Int.mul_zero:=@Int.mul_zero
theorem apX:type_of% @List.length_drop:=@List.length_drop
theorem apZ:type_of% @Int.mul_neg:=@Int.mul_neg
theorem ap3:type_of% @Int.add_comm:=@Int.add_comm
theorem ap4:type_of% @Int.zero_mul:=@Int.zero_mul
theorem aqj:type_of% @Int.add_zero:=@Int.add_zero
def abD:NT:=[((303,16),{keep:=[1,5,6,20,21,22],hl:=1})]
def Dc:Ctx:=CX [] abD
def ko(s1 s20:List Int)(s21 s6 s22:Int)(r0:List Int):Cfg:=⟨303,[.blk 0,.seq 45],[(1,.d aqs s1),(5,.own 0),(6,.d aqu s6),(20,.d aqs s20),(21,SI s21),(22,SI s22)],[.row 225 aqu r0],0,[]⟩
def Mz(a b:List Int)(k:KT):OLR:=match decide ((a.length:Int)<(b.length:Int))with|true=>(og (decide ((0:Int)=0∧(0:Int)≤i64.wrap ((b.length:Int)+1)∧(i64.wrap ((b.length:Int)+1))*((4:Nat):Int)≤140737488355328∧i64.wrap ((b.length:Int)+1)≤140737488355328)) (k 16 (ko a b (b.length:Int) 0 0 ([]:List Int))))|false=>(og (decide ((0:Int)=0∧(0:Int)≤i64.wrap ((a.length:Int)+1)∧(i64.wrap ((a.length:Int)+1))*((4:Nat):Int)≤140737488355328∧i64.wrap ((a.length:Int)+1)≤140737488355328)) (k 16 (ko b a (a.length:Int) 0 0 ([]:List Int))))
theorem Y2(a b:List Int):RS Dc 303 [.d aqs a,.d aqs b] (Mz a b):=rsX
def kx(s1 s20:List Int)(s21 s6 s22:Int)(r0:List Int)(k:KT):OLR:=match decide (s22<s21)with|true=>(match aU s20 s22 with|some x1=>(match decide (s22<(s1.length:Int))with|true=>(match aU s1 s22 with|some x2=>(match decide ((u32.wrap ((u32.wrap (x1+s6))+x2))≥1000000000)with|true=>(og (decide ((r0.length+([u32.wrap ((u32.wrap ((u32.wrap (x1+s6))+x2))-1000000000)]).length)*4≤140737488355328∧r0.length+([u32.wrap ((u32.wrap ((u32.wrap (x1+s6))+x2))-1000000000)]).length≤140737488355328)) (k 16 (ko s1 s20 s21 1 (i64.wrap (s22+1)) (r0++([u32.wrap ((u32.wrap ((u32.wrap (x1+s6))+x2))-1000000000)])))))|false=>(og (decide ((r0.length+([u32.wrap ((u32.wrap (x1+s6))+x2)]).length)*4≤140737488355328∧r0.length+([u32.wrap ((u32.wrap (x1+s6))+x2)]).length≤140737488355328)) (k 16 (ko s1 s20 s21 0 (i64.wrap (s22+1)) (r0++([u32.wrap ((u32.wrap (x1+s6))+x2)]))))))|none=>none)|false=>(match decide ((u32.wrap (x1+s6))≥1000000000)with|true=>(og (decide ((r0.length+([u32.wrap ((u32.wrap (x1+s6))-1000000000)]).length)*4≤140737488355328∧r0.length+([u32.wrap ((u32.wrap (x1+s6))-1000000000)]).length≤140737488355328)) (k 16 (ko s1 s20 s21 1 (i64.wrap (s22+1)) (r0++([u32.wrap ((u32.wrap (x1+s6))-1000000000)])))))|false=>(og (decide ((r0.length+([u32.wrap (x1+s6)]).length)*4≤140737488355328∧r0.length+([u32.wrap (x1+s6)]).length≤140737488355328)) (k 16 (ko s1 s20 s21 0 (i64.wrap (s22+1)) (r0++([u32.wrap (x1+s6)])))))))|none=>none)|false=>(og (decide ((r0.length+([s6]).length)*4≤140737488355328∧r0.length+([s6]).length≤140737488355328)) (some [RV.new 225 aqu (r0++([s6]))]))
theorem m8(s1 s20:List Int)(s21 s6 s22:Int)(r0:List Int):RN Dc 16 (ko s1 s20 s21 s6 s22 r0) (kx s1 s20 s21 s6 s22 r0):=rnX
def aek:NT:=[((304,10),{keep:=[1,5,6,13,14,15],hl:=1})]
def EX:Ctx:=CX [] aek
def lQ(a b:List Int)(s6 s15:Int)(r0:List Int):Cfg:=⟨304,[.blk 0,.seq 39],[(1,.d aqs b),(5,.own 0),(6,.d aqu s6),(13,.d aqs a),(14,SI (a.length:Int)),(15,SI s15)],[.row 225 aqu r0],0,[]⟩
def ZW(a b:List Int)(k:KT):OLR:=og (decide ((0:Int)≤(a.length:Int)∧(a.length:Int)*((4:Nat):Int)≤140737488355328∧(a.length:Int)≤140737488355328)) (k 10 (lQ a b 0 0 (List.replicate ((a.length:Int)).toNat (0:Int))))
theorem agj(a b:List Int):RS EX 304 [.d aqs a,.d aqs b] (ZW a b):=rsX
def ku(a b:List Int)(s6 s15:Int)(r0:List Int)(k:KT):OLR:=match decide (s15<(a.length:Int))with|true=>(match aU a s15 with|some x1=>(match decide (s15<(b.length:Int))with|true=>(match aU b s15 with|some x2=>(match decide (x1<(u32.wrap (s6+x2)))with|true=>(match aU r0 s15 with|some _=>(match true,r0[(s15).toNat]? with|true,some _=>k 10 (lQ a b 1 (i64.wrap (s15+1)) (r0.set ((s15).toNat) (u32.wrap ((u32.wrap (x1+1000000000))-(u32.wrap (s6+x2))))))|_,_=>none)|none=>none)|false=>(match aU r0 s15 with|some _=>(match true,r0[(s15).toNat]? with|true,some _=>k 10 (lQ a b 0 (i64.wrap (s15+1)) (r0.set ((s15).toNat) (u32.wrap (x1-(u32.wrap (s6+x2))))))|_,_=>none)|none=>none))|none=>none)|false=>(match decide (x1<s6)with|true=>(match aU r0 s15 with|some _=>(match true,r0[(s15).toNat]? with|true,some _=>k 10 (lQ a b 1 (i64.wrap (s15+1)) (r0.set ((s15).toNat) (u32.wrap ((u32.wrap (x1+1000000000))-s6))))|_,_=>none)|none=>none)|false=>(match aU r0 s15 with|some _=>(match true,r0[(s15).toNat]? with|true,some _=>k 10 (lQ a b 0 (i64.wrap (s15+1)) (r0.set ((s15).toNat) (u32.wrap (x1-s6))))|_,_=>none)|none=>none)))|none=>none)|false=>some [RV.new 225 aqu r0]
theorem mz(a b:List Int)(s6 s15:Int)(r0:List Int):RN EX 10 (lQ a b s6 s15 r0) (ku a b s6 s15 r0):=rnX
def ael:NT:=[((270,8),{keep:=[1,5,18,19,20],hl:=1}),((270,25),{keep:=[1,5,6,7,8,18,19,20,25,26,27],hl:=1})]
def yy:Ctx:=CX [] ael
def wK(a b:List Int)(s20:Int)(r0:List Int):Cfg:=⟨270,[.blk 0,.seq 42],[(1,.d aqs b),(5,.own 0),(18,.d aqs a),(19,SI (a.length:Int)),(20,SI s20)],[.row 225 aqu r0],0,[]⟩
def wq(a b:List Int)(s20 x1 s8 s27:Int)(r0:List Int):Cfg:=⟨270,[.blk 2,.seq 40,.blk 1,.seq 41,.lp 8,.blk 0,.seq 42],[(1,.d aqs b),(5,.own 0),(6,SI s20),(7,.d aqu x1),(8,.d (.int .u64) s8),(18,.d aqs a),(19,SI (a.length:Int)),(20,SI s20),(25,.d aqs b),(26,SI (b.length:Int)),(27,SI s27)],[.row 225 aqu r0],0,[]⟩
def ZR(a b:List Int)(k:KT):OLR:=og (decide ((0:Int)≤i64.wrap ((a.length:Int)+(b.length:Int))∧(i64.wrap ((a.length:Int)+(b.length:Int)))*((4:Nat):Int)≤140737488355328∧i64.wrap ((a.length:Int)+(b.length:Int))≤140737488355328)) (k 8 (wK a b 0 (List.replicate (i64.wrap ((a.length:Int)+(b.length:Int))).toNat (0:Int))))
theorem aiz(a b:List Int):RS yy 270 [.d aqs a,.d aqs b] (ZR a b):=rsX
def xy(a b:List Int)(s20:Int)(r0:List Int)(k:KT):OLR:=match decide (s20<(a.length:Int))with|true=>(match aU a s20 with|some x1=>k 25 (wq a b s20 x1 0 0 r0)|none=>none)|false=>some [RV.new 225 aqu r0]
theorem DX(a b:List Int)(s20:Int)(r0:List Int):RN yy 8 (wK a b s20 r0) (xy a b s20 r0):=rnX
def vm(a b:List Int)(s20 x1 s8 s27:Int)(r0:List Int)(k:KT):OLR:=match decide (s27<(b.length:Int))with|true=>(match aU b s27 with|some x2=>(match aU r0 (i64.wrap (s20+s27))with|some _=>(match true,r0[(i64.wrap (s20+s27)).toNat]? with|true,some x3=>(match aU r0 (i64.wrap (s20+s27))with|some _=>(match true,r0[(i64.wrap (s20+s27)).toNat]? with|true,some _=>k 25 (wq a b s20 x1 (u64.wrap (Int.tdiv (u64.wrap ((u64.wrap ((u64.wrap x3)+(u64.wrap ((u64.wrap x1)*(u64.wrap x2)))))+s8)) 1000000000)) (i64.wrap (s27+1)) (r0.set ((i64.wrap (s20+s27)).toNat) (u32.wrap (Int.tmod (u64.wrap ((u64.wrap ((u64.wrap x3)+(u64.wrap ((u64.wrap x1)*(u64.wrap x2)))))+s8)) 1000000000))))|_,_=>none)|none=>none)|_,_=>none)|none=>none)|none=>none)|false=>(match aU r0 (i64.wrap (s20+(b.length:Int)))with|some _=>(match true,r0[(i64.wrap (s20+(b.length:Int))).toNat]? with|true,some _=>k 8 (wK a b (i64.wrap (s20+1)) (r0.set ((i64.wrap (s20+(b.length:Int))).toNat) (u32.wrap s8)))|_,_=>none)|none=>none)
theorem Ad(a b:List Int)(s20 x1 s8 s27:Int)(r0:List Int):RN yy 25 (wq a b s20 x1 s8 s27 r0) (vm a b s20 x1 s8 s27 r0):=rnX
def ad4:NT:=[((357,10),{keep:=[0,1,6,7,8],hl:=1})]
def IA:Ctx:=CX [] ad4
def wB(a:List Int)(b s7 s8:Int)(r0:List Int):Cfg:=⟨357,[.blk 0,.seq 23],[(0,.d aqs a),(1,.d aqu b),(6,.own 0),(7,.d (.int .u64) s7),(8,SI s8)],[.row 225 aqu r0],0,[]⟩
def XQ(a:List Int)(b:Int)(k:KT):OLR:=og (decide ((0:Int)≤(a.length:Int)∧(a.length:Int)*((4:Nat):Int)≤140737488355328∧(a.length:Int)≤140737488355328)) (k 10 (wB a b 0 (i64.wrap ((a.length:Int)-1)) (List.replicate ((a.length:Int)).toNat (0:Int))))
theorem agA(a:List Int)(b:Int):RS IA 357 [.d aqs a,.d aqu b] (XQ a b):=rsX
def uL(a:List Int)(b s7 s8:Int)(r0:List Int)(k:KT):OLR:=match decide (s8≥0)with|true=>(match aU a s8 with|some x1=>(match decide (u64.wrap b=(0:Int))with|true=>none|false=>(match decide (u64.wrap b=(0:Int))with|true=>none|false=>(match aU r0 s8 with|some _=>(match true,r0[(s8).toNat]? with|true,some _=>k 10 (wB a b (Int.tmod (u64.wrap ((u64.wrap (s7*1000000000))+(u64.wrap x1))) (u64.wrap b)) (i64.wrap (s8-1)) (r0.set ((s8).toNat) (u32.wrap (u64.wrap (Int.tdiv (u64.wrap ((u64.wrap (s7*1000000000))+(u64.wrap x1))) (u64.wrap b))))))|_,_=>none)|none=>none)))|none=>none)|false=>some [RV.d aqs r0,RV.d aqs ([u32.wrap s7])]
theorem zE(a:List Int)(b s7 s8:Int)(r0:List Int):RN IA 10 (wB a b s7 s8 r0) (uL a b s7 s8 r0):=rnX
theorem kA{b:List Int}{i:Nat}(h:b.length≤i):b.take (i+1)=b.take i:=by grind [anQ]
theorem tW{n:Nat}(h:n≤4000000000):decide ((0:Int)≤(n:Int)∧(n:Int)*((4:Nat):Int)≤140737488355328∧(n:Int)≤140737488355328)=true:=by grind
theorem QD{m:Nat}(h:m≤4000000000):decide ((m+1)*4≤140737488355328∧m+1≤140737488355328)=true:=by grind
theorem El(a b:List Int)(ha:aR a)(hb:aR b)(hab:b.length≤a.length):∀(j i:Nat) (c:Int) (r:List Int),i+j=a.length→0≤c→c≤1→Lim r→r.length=i→val r+pw i*c=val (a.take i)+val (b.take i)→
  Dc.Runs 16 (ko b a (a.length:Int) c (i:Int) r) [.new 225 aqu (dig (a.length+1) (val a+val b))]:=by
 have hsa:=ha.2;intro j;induction j with
 |zero=>
  intro i c r hi c0 c1 hr hl hv;obtain rfl:i=a.length:=by omega
  refine m8 _ _ _ _ _ _ ⟨0,?_⟩;unfold kx;rw[cd (anb _)];simp only[anu];rw[QD (by omega)]
  have e:r++[c]=dig (a.length+1) (val a+val b):=by
   refine A5 (hr.append (Lim.cons ⟨c0,by omega⟩ Lim.nil)) (by simp[hl]) ?_;rw[dG,hl];rw[aon,anQ hab]at hv;simp only[val,apl,aqj];omega
  rw[e]
 |succ j ih=>
  intro i c r hi c0 c1 hr hl hv;have hia:i<a.length:=by omega
  have xa:=ha.1.get hia;have hp:=cB i
  have step:∀(y c':Int),0≤y→y<1000000000→0≤c'→c'≤1→val (b.take (i+1))=val (b.take i)+pw i*(y+1000000000*c'-a[i]-c)→Dc.Runs 16 (ko b a (a.length:Int) c' ((i+1:Nat):Int) (r++[y])) [.new 225 aqu (dig (a.length+1) (val a+val b))]:=by
   intro y c' y0 y1 k0 k1 hb';refine ih (i+1) c' (r++[y]) (by omega) k0 k1 (hr.append (Lim.cons ⟨y0,y1⟩ Lim.nil)) (by simp[hl]) ?_;rw[dG,hl,a8 hia,hb',cg];simp only[val];grind
  by_cases hib:i<b.length
  ·have xb:=hb.1.get hib;have ht:=a8 hib;by_cases hc:a[i]+c+b[i]≥1000000000
   ·obtain⟨q,hq⟩:=step (a[i]+c+b[i]-1000000000) 1 (by omega) (by omega) (by omega) (by omega) (by rw[ht];grind);refine m8 _ _ _ _ _ _ ⟨q,?_⟩;unfold kx;rw[bG hia,av,am6 hia,bG hib,av,am6 hib];dsimp only;rw[c8 (x:=a[i]+c) (by omega) (by omega),c8 (x:=a[i]+c+b[i]) (by omega) (by omega),am5 hc,c8 (x:=a[i]+c+b[i]-1000000000) (by omega) (by omega),bW (by omega)];simp only[anu];rw[QD (by omega)];exact hq
   ·obtain⟨q,hq⟩:=step (a[i]+c+b[i]) 0 (by omega) (by omega) (by omega) (by omega) (by rw[ht];grind);refine m8 _ _ _ _ _ _ ⟨q,?_⟩;unfold kx;rw[bG hia,av,am6 hia,bG hib,av,am6 hib];dsimp only;rw[c8 (x:=a[i]+c) (by omega) (by omega),c8 (x:=a[i]+c+b[i]) (by omega) (by omega),am7 hc,bW (by omega)];simp only[anu];rw[QD (by omega)];exact hq
  ·have ht:=kA (b:=b) (i:=i) (by omega);by_cases hc:a[i]+c≥1000000000
   ·obtain⟨q,hq⟩:=step (a[i]+c-1000000000) 1 (by omega) (by omega) (by omega) (by omega) (by rw[ht];grind);refine m8 _ _ _ _ _ _ ⟨q,?_⟩;unfold kx;rw[bG hia,av,am6 hia,cd (show b.length≤i by omega)];dsimp only;rw[c8 (x:=a[i]+c) (by omega) (by omega),am5 hc,c8 (x:=a[i]+c-1000000000) (by omega) (by omega),bW (by omega)];simp only[anu];rw[QD (by omega)];exact hq
   ·obtain⟨q,hq⟩:=step (a[i]+c) 0 (by omega) (by omega) (by omega) (by omega) (by rw[ht];grind);refine m8 _ _ _ _ _ _ ⟨q,?_⟩;unfold kx;rw[bG hia,av,am6 hia,cd (show b.length≤i by omega)];dsimp only;rw[c8 (x:=a[i]+c) (by omega) (by omega),am7 hc,bW (by omega)];simp only[anu];rw[QD (by omega)];exact hq
theorem S6(a b:List Int)(h:aR a∧aR b):CQq7 303 [.d aqs a,.d aqs b] [.new 225 aqu (dig (max a.length b.length+1) (val a+val b))]:=by
 refine fY (E:=[]) trivial (show Dc.Res _ _ _ from ?_);obtain⟨ha,hb⟩:=h;have hsa:=ha.2;have hsb:=hb.2
 have mk:∀n:Nat,n≤1000000000→decide ((0:Int)=0∧(0:Int)≤i64.wrap ((n:Int)+1)∧i64.wrap ((n:Int)+1)*((4:Nat):Int)≤140737488355328∧i64.wrap ((n:Int)+1)≤140737488355328)=true:=fun n hn=>by
  rw[bW (by omega)];exact am5 ⟨rfl,by omega,by omega,by omega⟩
 by_cases hc:a.length<b.length
 ·obtain⟨q,hq⟩:=El b a hb ha (by omega) b.length 0 0 [] (by omega) (by omega) (by omega) Lim.nil rfl (by simp[val]);refine Y2 _ _ ⟨q,?_⟩;unfold Mz;rw[bG hc,mk _ hsb,Nat.max_eq_right (by omega),ap3 (val a)];exact hq
 ·obtain⟨q,hq⟩:=El a b ha hb (by omega) a.length 0 0 [] (by omega) (by omega) (by omega) Lim.nil rfl (by simp[val]);refine Y2 _ _ ⟨q,?_⟩;unfold Mz;rw[cd (by omega),mk _ hsa,Nat.max_eq_left (by omega)];exact hq
theorem pH{r:List Int}{i:Nat}{y:Int}(hz:∀j (hj:j<r.length),i≤j→r[j]=0):∀j (hj:j<(r.set i y).length),i+1≤j→(r.set i y)[j]=0:=fun j hj hk=>by
 rw[aor (by omega)];exact hz j (by simpa using hj) (by omega)
theorem PT(a b:List Int)(ha:aR a)(hb:aR b)(hle:val b≤val a)(_hab:b.length≤a.length∨True):∀(j i:Nat) (c:Int) (r:List Int),i+j=a.length→0≤c→c≤1→Lim r→r.length=a.length→(∀k (hk:k<r.length),i≤k→r[k]=0)→val r+val (b.take i)=val (a.take i)+pw i*c→
  EX.Runs 10 (lQ a b c (i:Int) r) [.new 225 aqu (dig a.length (val a-val b))]:=by
 have hsa:=ha.2;intro j;induction j with
 |zero=>
  intro i c r hi c0 c1 hr hl hz hv;obtain rfl:i=a.length:=by omega
  refine mz _ _ _ _ _ ⟨0,?_⟩;unfold ku;rw[cd (anb _)];have hrl:=b9 hr;rw[hl]at hrl;have hb2:val b=val (b.take a.length)+pw (min a.length b.length)*val (b.drop a.length):=ge b a.length;have hbd:0≤val (b.drop a.length):=aQ (hb.1.drop _);have hal:=b9 ha.1;have hbt:=aQ (hb.1.take a.length);rw[aon]at hv
  have hz0:val (b.drop a.length)=0:=by
   rcases anG a.length b.length with h1|h1
   ·rw[anT (by omega)]at hb2;rcases anC 0 (val (b.drop a.length))with h2|h2
    ·have hp:=cB a.length;have:=ane (show 1≤val (b.drop a.length) by omega) (anO hp);omega
    ·omega
   ·rw[an1 h1];rfl
  rw[hz0,apl,aqj]at hb2
  have hc0:c=0:=by
   have hp:=cB a.length;rcases(show c=0∨c=1 by omega)with h|h
   ·exact h
   ·subst h;rw[app]at hv;omega
  subst hc0;rw[apl]at hv;rw[←A5 hr hl (show val r=val a-val b by omega)]
 |succ j ih=>
  intro i c r hi c0 c1 hr hl hz hv;have hia:i<a.length:=by omega
  have hir:i<r.length:=by omega
  have xa:=ha.1.get hia;have hr0:=hz i hir (anb _)
  have step:∀(y c':Int),0≤y→y<1000000000→0≤c'→c'≤1→val (b.take (i+1))=val (b.take i)+pw i*(a[i]+1000000000*c'-y-c)→EX.Runs 10 (lQ a b c' ((i+1:Nat):Int) (r.set i y)) [.new 225 aqu (dig a.length (val a-val b))]:=by
   intro y c' y0 y1 k0 k1 hb';refine ih (i+1) c' (r.set i y) (by omega) k0 k1 (hr.set i ⟨y0,y1⟩) (by simpa using hl) (pH hz) ?_;rw[fp hir,hr0,a8 hia,hb',cg];grind
  by_cases hib:i<b.length
  ·have xb:=hb.1.get hib;have ht:=a8 hib;by_cases hc:a[i]<c+b[i]
   ·obtain⟨q,hq⟩:=step (a[i]+1000000000-(c+b[i])) 1 (by omega) (by omega) (by omega) (by omega) (by rw[ht];grind);refine mz _ _ _ _ _ ⟨q,?_⟩;unfold ku;rw[bG hia,av,am6 hia,bG hib,av,am6 hib,av,aE,am6 hir];dsimp only;rw[c8 (x:=c+b[i]) (by omega) (by omega),am5 hc,c8 (x:=a[i]+1000000000) (by omega) (by omega),c8 (x:=a[i]+1000000000-(c+b[i])) (by omega) (by omega),bW (by omega)];exact hq
   ·obtain⟨q,hq⟩:=step (a[i]-(c+b[i])) 0 (by omega) (by omega) (by omega) (by omega) (by rw[ht];grind);refine mz _ _ _ _ _ ⟨q,?_⟩;unfold ku;rw[bG hia,av,am6 hia,bG hib,av,am6 hib,av,aE,am6 hir];dsimp only;rw[c8 (x:=c+b[i]) (by omega) (by omega),am7 hc,c8 (x:=a[i]-(c+b[i])) (by omega) (by omega),bW (by omega)];exact hq
  ·have ht:=kA (b:=b) (i:=i) (by omega);by_cases hc:a[i]<c
   ·obtain⟨q,hq⟩:=step (a[i]+1000000000-c) 1 (by omega) (by omega) (by omega) (by omega) (by rw[ht];grind);refine mz _ _ _ _ _ ⟨q,?_⟩;unfold ku;rw[bG hia,av,am6 hia,cd (show b.length≤i by omega),av r i,aE,am6 hir];dsimp only;rw[am5 hc,c8 (x:=a[i]+1000000000) (by omega) (by omega),c8 (x:=a[i]+1000000000-c) (by omega) (by omega),bW (by omega)];exact hq
   ·obtain⟨q,hq⟩:=step (a[i]-c) 0 (by omega) (by omega) (by omega) (by omega) (by rw[ht];grind);refine mz _ _ _ _ _ ⟨q,?_⟩;unfold ku;rw[bG hia,av,am6 hia,cd (show b.length≤i by omega),av r i,aE,am6 hir];dsimp only;rw[am7 hc,c8 (x:=a[i]-c) (by omega) (by omega),bW (by omega)];exact hq
def oK(a b:List Int):Prop:=aR a∧aR b∧val b≤val a
instance (a b:List Int):Decidable (oK a b):=by unfold oK;infer_instance
theorem T6(a b:List Int)(h:oK a b):CQq7 304 [.d aqs a,.d aqs b] [.new 225 aqu (dig a.length (val a-val b))]:=by
 refine fY (E:=[]) trivial (show EX.Res _ _ _ from ?_);obtain⟨ha,hb,hle⟩:=h;have hsa:=ha.2;obtain⟨q,hq⟩:=PT a b ha hb hle (.inr trivial) a.length 0 0 (List.replicate a.length 0) (by omega) (by omega) (by omega) (Lim.rep _) (by simp) (fun k hk _=>by simp) (by simp[val,gN]);refine agj _ _ ⟨q,?_⟩;unfold ZW;rw[tW (by omega),aE];exact hq
theorem HC{r x y c:Int}(hr:0≤r∧r<1000000000)(hx:0≤x∧x<1000000000)(hy:0≤y∧y<1000000000)(hc:0≤c∧c<1000000000):0≤x*y∧x*y≤999999998000000001∧0≤(r+x*y+c)/1000000000∧(r+x*y+c)/1000000000<1000000000:=by
 have h1:0≤x*y:=an5 hx.1 hy.1;have h2:x*y≤999999999*999999999:=apf (by omega) (by omega) hy.1 (by decide);omega
theorem Ks(a b:List Int)(ha:aR a)(hb:aR b)(i:Nat)(hi:i<a.length)
  (hout:∀r,Lim r→r.length=a.length+b.length→(∀k (hk:k<r.length),i+1+b.length≤k→r[k]=0)→val r=val (a.take (i+1))*val b→yy.Runs 8 (wK a b ((i+1:Nat):Int) r) [.new 225 aqu (dig (a.length+b.length) (val a*val b))]):
  ∀(j k:Nat) (c:Int) (r:List Int),k+j=b.length→0≤c→c<1000000000→Lim r→r.length=a.length+b.length→(∀q (hq:q<r.length),i+b.length≤q→r[q]=0)→val r+pw (i+k)*c=val (a.take i)*val b+pw i*a[i]*val (b.take k)→
  yy.Runs 25 (wq a b (i:Int) a[i] c (k:Int) r) [.new 225 aqu (dig (a.length+b.length) (val a*val b))]:=by
 have hsa:=ha.2;have hsb:=hb.2;have xa:=ha.1.get hi;intro j;induction j with
 |zero=>
  intro k c r hk c0 c1 hr hl hz hv;obtain rfl:k=b.length:=by omega
  have hir:i+b.length<r.length:=by omega
  have hr0:=hz _ hir (anb _)
  obtain⟨q,hq⟩:=hout (r.set (i+b.length) c) (hr.set _ ⟨c0,c1⟩) (by simpa using hl) (by rw[show i+1+b.length=i+b.length+1 by omega];exact pH hz) (by
   rw[fp hir,hr0,a8 hi];rw[aon]at hv;grind)
  refine Ad _ _ _ _ _ _ _ ⟨q,?_⟩;have hw:i64.wrap ((i:Int)+(b.length:Int))=((i+b.length:Nat):Int):=by rw[aT (by omega) (by omega)];simp
  unfold vm;rw[cd (anb _),hw,av r (i+b.length),aE,am6 hir,c8 (x:=c) (by omega) (by omega),bW (k:=i) (by omega)];exact hq
 |succ j ih=>
  intro k c r hk c0 c1 hr hl hz hv;have hkb:k<b.length:=by omega
  have hir:i+k<r.length:=by omega
  have xb:=hb.1.get hkb;have xr:=hr.get hir;have hbd:=HC xr xa xb ⟨c0,c1⟩
  obtain⟨q,hq⟩:=ih (k+1) ((r[i+k]+a[i]*b[k]+c)/1000000000) (r.set (i+k) ((r[i+k]+a[i]*b[k]+c)%1000000000)) (by omega) hbd.2.2.1 hbd.2.2.2 (hr.set _ (by omega)) (by simpa using hl)
   (fun m hm hq=>by rw[aor (by omega)];exact hz m (by simpa using hm) hq) (by
    rw[fp hir,a8 hkb,show i+(k+1)=i+k+1 by omega,cg,fI];rw[fI]at hv;have e:=Int.emod_add_mul_ediv (r[i+k]+a[i]*b[k]+c) 1000000000;grind)
  refine Ad _ _ _ _ _ _ _ ⟨q,?_⟩;have hw:i64.wrap ((i:Int)+(k:Int))=((i+k:Nat):Int):=by rw[aT (by omega) (by omega)];simp
  unfold vm;rw[bG hkb,av b k,am6 hkb,hw,av r (i+k),aE,am6 hir];dsimp only;rw[bH (x:=r[i+k]) (by omega) (by omega),bH (x:=a[i]) (by omega) (by omega),bH (x:=b[k]) (by omega) (by omega),bH (x:=a[i]*b[k]) (by omega) (by omega),bH (x:=r[i+k]+a[i]*b[k]) (by omega) (by omega),bH (x:=r[i+k]+a[i]*b[k]+c) (by omega) (by omega),hU (a:=r[i+k]+a[i]*b[k]+c) (by omega),jy (a:=r[i+k]+a[i]*b[k]+c) (by omega),bH (x:=(r[i+k]+a[i]*b[k]+c)/1000000000) (by omega) (by omega),c8 (x:=(r[i+k]+a[i]*b[k]+c)%1000000000) (by omega) (by omega),bW (k:=k) (by omega)];exact hq
theorem J1(a b:List Int)(ha:aR a)(hb:aR b):∀(j i:Nat) (r:List Int),i+j=a.length→Lim r→r.length=a.length+b.length→(∀k (hk:k<r.length),i+b.length≤k→r[k]=0)→val r=val (a.take i)*val b→
  yy.Runs 8 (wK a b (i:Int) r) [.new 225 aqu (dig (a.length+b.length) (val a*val b))]:=by
 have hsa:=ha.2;intro j;induction j with
 |zero=>
  intro i r hi hr hl hz hv;obtain rfl:i=a.length:=by omega
  refine DX _ _ _ _ ⟨0,?_⟩;unfold xy;rw[aon]at hv;rw[cd (anb _),←A5 hr hl hv]
 |succ j ih=>
  intro i r hi hr hl hz hv;have hia:i<a.length:=by omega
  obtain⟨q,hq⟩:=Ks a b ha hb i hia (fun r' h1 h2 h3 h4=>ih (i+1) r' (by omega) h1 h2 h3 h4) b.length 0 0 r (by omega) (by omega) (by omega) hr hl hz (by simp[val,hv]);refine DX _ _ _ _ ⟨q,?_⟩;unfold xy;rw[bG hia,av,am6 hia];exact hq
theorem Wq(a b:List Int)(h:aR a∧aR b):CQq7 270 [.d aqs a,.d aqs b] [.new 225 aqu (dig (a.length+b.length) (val a*val b))]:=by
 refine fY (E:=[]) trivial (show yy.Res _ _ _ from ?_);obtain⟨ha,hb⟩:=h;have hsa:=ha.2;have hsb:=hb.2;obtain⟨q,hq⟩:=J1 a b ha hb a.length 0 (List.replicate (a.length+b.length) 0) (by omega) (Lim.rep _) (by simp) (fun k hk _=>by simp) (by simp[val,gN]);refine aiz _ _ ⟨q,?_⟩;have hw:i64.wrap ((a.length:Int)+(b.length:Int))=((a.length+b.length:Nat):Int):=by rw[aT (by omega) (by omega)];simp
 unfold ZR;rw[hw,tW (by omega),aE];exact hq
theorem Lg(a:List Int)(b:Int)(ha:aR a)(hb:1≤b∧b<1000000000):∀(n:Nat) (c:Int) (r:List Int),n≤a.length→0≤c→c<b→Lim r→r.length=a.length→(∀k (hk:k<r.length),k<n→r[k]=0)→b*val r+pw n*c+val (a.take n)=val a→
  IA.Runs 10 (wB a b c ((n:Int)-1) r) [.d aqs (dig a.length (val a/b)),.d aqs [val a%b]]:=by
 have hsa:=ha.2;intro n;induction n with
 |zero=>
  intro c r hn c0 c1 hr hl hz hv;simp only[n7,List.take_zero,val,aol,aqj]at hv
  have e1:val a%b=c:=by
   rw[←hv,ap3,ao8];exact api c0 c1
  have e2:val a/b=val r:=by
   rw[←hv,ap3,aoQ _ _ (by omega),aoi c0 c1];omega
  refine zE _ _ _ _ _ ⟨0,?_⟩;unfold uL;rw[am7 (by omega),e1,e2,←A5 hr hl rfl,c8 (x:=c) (by omega) (by omega)]
 |succ n ih=>
  intro c r hn c0 c1 hr hl hz hv;have hna:n<a.length:=by omega
  have hnr:n<r.length:=by omega
  have xa:=ha.1.get hna;have hr0:=hz n hnr (by omega);have hcb:0≤c*1000000000+a[n]:=by omega
  have m0:=aom (c*1000000000+a[n]) (show b≠0 by omega);have m1:=anW (c*1000000000+a[n]) (show 0<b by omega);have md:=anU (c*1000000000+a[n]) b;have d0:0≤(c*1000000000+a[n])/b:=an9 hcb (by omega)
  have d1:(c*1000000000+a[n])/b<1000000000:=by
   refine aoz (by omega) ?_;have:=ani (show c+1≤b by omega) (show(0:Int)≤1000000000 by decide);rw[aoR 1000000000 b];omega
  obtain⟨q,hq⟩:=ih ((c*1000000000+a[n])%b) (r.set n ((c*1000000000+a[n])/b)) (by omega) m0 m1 (hr.set n ⟨d0,d1⟩) (by simpa using hl)
   (fun k hk hkn=>by rw[aor (by omega)];exact hz k (by simpa using hk) (by omega)) (by
    rw[fp hnr,hr0];rw[a8 hna,cg]at hv;grind)
  refine zE _ _ _ _ _ ⟨q,?_⟩;unfold uL;rw[show((n+1:Nat):Int)-1=(n:Int) by omega,am5 (by omega),av a n,am6 hna,bH (x:=b) (by omega) (by omega),am7 (show ¬b=0 by omega),av r n,aE,am6 hnr];dsimp only;rw[bH (x:=c*1000000000) (by omega) (by omega),bH (x:=a[n]) (by omega) (by omega),bH (x:=c*1000000000+a[n]) (by omega) (by omega),hU hcb,jy hcb,bH (x:=(c*1000000000+a[n])/b) (by omega) (by omega),c8 (x:=(c*1000000000+a[n])/b) (by omega) (by omega),aT (x:=(n:Int)-1) (by omega) (by omega)];exact hq
def CJ(a:List Int)(b:Int):Prop:=aR a∧1≤b∧b<1000000000
instance (a:List Int) (b:Int):Decidable (CJ a b):=by unfold CJ;infer_instance
theorem TO(a:List Int)(b:Int)(h:CJ a b):CQq7 357 [.d aqs a,.d aqu b] [.d aqs (dig a.length (val a/b)),.d aqs [val a%b]]:=by
 refine fY (E:=[]) trivial (show IA.Res _ _ _ from ?_);obtain⟨ha,hb⟩:=h;have hsa:=ha.2;obtain⟨q,hq⟩:=Lg a b ha hb a.length 0 (List.replicate a.length 0) (anb _) (by omega) (by omega) (Lim.rep _) (by simp) (fun k hk _=>by simp) (by simp[gN]);refine agA _ _ ⟨q,?_⟩;unfold XQ;rw[tW (by omega),aE,aT (x:=(a.length:Int)-1) (by omega) (by omega)];exact hq
def FY:eo:=spN true false [aqs,aqs] (fun x=>decide (aR x.1∧aR x.2.1)) (fun x=>[RV.new 225 aqu (dig (max x.1.length x.2.1.length+1) (val x.1+val x.2.1))])
theorem DA:SpK 303 FY:=spX fun x h=>S6 x.1 x.2.1 (am8 h)
def Fo:eo:=spN true false [aqs,aqs] (fun x=>decide (oK x.1 x.2.1)) (fun x=>[RV.new 225 aqu (dig x.1.length (val x.1-val x.2.1))])
theorem EA:SpK 304 Fo:=spX fun x h=>T6 x.1 x.2.1 (am8 h)
def GO:eo:=spN true false [aqs,aqs] (fun x=>decide (aR x.1∧aR x.2.1)) (fun x=>[RV.new 225 aqu (dig (x.1.length+x.2.1.length) (val x.1*val x.2.1))])
theorem Dh:SpK 270 GO:=spX fun x h=>Wq x.1 x.2.1 (am8 h)
def OT:eo:=spN false false [aqs,aqu] (fun x=>decide (CJ x.1 x.2.1)) (fun x=>[RV.d aqs (dig x.1.length (val x.1/x.2.1)),RV.d aqs ([val x.1%x.2.1])])
theorem Rb:SpK 357 OT:=spX fun x h=>TO x.1 x.2.1 (am8 h)
def GC:eo:=spN true false [aqs,aqs] (fun x=>decide (aR x.1∧aR x.2.1)) (fun x=>[RV.d aqt (cC (val x.1) (val x.2.1))])
theorem Ed:SpK 268 GC:=spX fun x h=>T3 x.1 x.2.1 (am8 h)
def QY:Env:=[(322,GT),(303,FY),(304,Fo),(270,GO),(357,OT),(268,GC)]
theorem K6:EnvAll Tryz.prog QY:=⟨CT,DA,EA,Dh,Rb,Ed,trivial⟩
def adc:NT:=[((340,34),{keep:=[6,7,8,9,10,11],hl:=6}),((340,49),{keep:=[6,7,8,9,10,11,13,14],hl:=6}),((358,8),{keep:=[0,1,2,7,8,14,15],hl:=6}),((359,5),{keep:=[0,1,4,8,9],hl:=6}),((340,68),{keep:=[6,7,8,9,10,11,13,151],hl:=0}),((340,72),{keep:=[6,7,8,9,10,11,13],hl:=0})]
def gL:Ctx:=CX QY adc
def qy(b:List Int)(x2 s11:Int)(r5 r1:List Int):Cfg:=⟨340,[.blk 0,.seq 76],[(6,SI ((ah (val b).toNat).length:Int)),(7,.d aqu (u32.wrap (u64.wrap (Int.tdiv 1000000000 (u64.wrap ((u64.wrap x2)+1)))))),(8,.own 1),(9,.d aqs (ah (val (dig ((ah (val b).toNat).length+([u32.wrap (u64.wrap (Int.tdiv 1000000000 (u64.wrap ((u64.wrap x2)+1))))]).length) (val (ah (val b).toNat)*val ([u32.wrap (u64.wrap (Int.tdiv 1000000000 (u64.wrap ((u64.wrap x2)+1))))])))).toNat)),(10,.own 5),(11,SI s11)],[.row 225 aqu ([u32.wrap (u64.wrap (Int.tdiv 1000000000 (u64.wrap ((u64.wrap x2)+1))))]),.row 225 aqu r1,.row 225 aqu ([0]),.row 225 aqu ([u32.wrap (u64.wrap (Int.tdiv 1000000000 (u64.wrap ((u64.wrap x2)+1))))]),.gone,.row 225 aqu r5],0,[]⟩
def nZ(b:List Int)(x2 s11:Int)(r1 r5:List Int)(s13 s14:Int):Cfg:=⟨340,[.blk 2,.seq 66,.blk 1,.seq 75,.lp 34,.blk 0,.seq 76],[(6,SI ((ah (val b).toNat).length:Int)),(7,.d aqu (u32.wrap (u64.wrap (Int.tdiv 1000000000 (u64.wrap ((u64.wrap x2)+1)))))),(8,.own 1),(9,.d aqs (ah (val (dig ((ah (val b).toNat).length+([u32.wrap (u64.wrap (Int.tdiv 1000000000 (u64.wrap ((u64.wrap x2)+1))))]).length) (val (ah (val b).toNat)*val ([u32.wrap (u64.wrap (Int.tdiv 1000000000 (u64.wrap ((u64.wrap x2)+1))))])))).toNat)),(10,.own 5),(11,SI s11),(13,.d (.int .u64) s13),(14,.d (.int .u64) s14)],[.row 225 aqu ([u32.wrap (u64.wrap (Int.tdiv 1000000000 (u64.wrap ((u64.wrap x2)+1))))]),.row 225 aqu r1,.row 225 aqu ([0]),.row 225 aqu ([u32.wrap (u64.wrap (Int.tdiv 1000000000 (u64.wrap ((u64.wrap x2)+1))))]),.gone,.row 225 aqu r5],0,[]⟩
def cZ(b:List Int)(x2 s11:Int)(r5:List Int)(s358_2 f358_0_13 s358_7 s358_8 s358_15:Int)(r358_1:List Int):Cfg:=⟨358,[.blk 0,.seq 43],[(0,.osl 1 1 ((s11:Int).toNat) ((i64.wrap ((i64.wrap (s11+((ah (val b).toNat).length:Int)))+1):Int).toNat-(s11:Int).toNat)),(1,.d aqs (ah (val (dig ((ah (val b).toNat).length+([u32.wrap (u64.wrap (Int.tdiv 1000000000 (u64.wrap ((u64.wrap x2)+1))))]).length) (val (ah (val b).toNat)*val ([u32.wrap (u64.wrap (Int.tdiv 1000000000 (u64.wrap ((u64.wrap x2)+1))))])))).toNat)),(2,.d (.int .u64) s358_2),(7,.d (.int .u64) s358_7),(8,.d (.int .u64) s358_8),(14,SI (((i64.wrap ((i64.wrap (s11+((ah (val b).toNat).length:Int)))+1):Int).toNat-(s11:Int).toNat:Nat):Int)),(15,SI s358_15)],[.row 225 aqu ([u32.wrap (u64.wrap (Int.tdiv 1000000000 (u64.wrap ((u64.wrap x2)+1))))]),.row 225 aqu r358_1,.row 225 aqu ([0]),.row 225 aqu ([u32.wrap (u64.wrap (Int.tdiv 1000000000 (u64.wrap ((u64.wrap x2)+1))))]),.gone,.row 225 aqu r5],6,[⟨340,[.seq 69,.seq 74,.blk 1,.seq 75,.lp 34,.blk 0,.seq 76],68,9,[(6,SI ((ah (val b).toNat).length:Int)),(7,.d aqu (u32.wrap (u64.wrap (Int.tdiv 1000000000 (u64.wrap ((u64.wrap x2)+1)))))),(8,.own 1),(9,.d aqs (ah (val (dig ((ah (val b).toNat).length+([u32.wrap (u64.wrap (Int.tdiv 1000000000 (u64.wrap ((u64.wrap x2)+1))))]).length) (val (ah (val b).toNat)*val ([u32.wrap (u64.wrap (Int.tdiv 1000000000 (u64.wrap ((u64.wrap x2)+1))))])))).toNat)),(10,.own 5),(11,SI s11),(13,.d (.int .u64) f358_0_13)],0,none⟩]⟩
def dL(b:List Int)(x2 s11:Int)(r5:List Int)(f358_0_13 s359_4 s359_9:Int)(r359_1:List Int):Cfg:=⟨359,[.blk 0],[(0,.osl 1 1 ((s11:Int).toNat) ((i64.wrap ((i64.wrap (s11+((ah (val b).toNat).length:Int)))+1):Int).toNat-(s11:Int).toNat)),(1,.d aqs (ah (val (dig ((ah (val b).toNat).length+([u32.wrap (u64.wrap (Int.tdiv 1000000000 (u64.wrap ((u64.wrap x2)+1))))]).length) (val (ah (val b).toNat)*val ([u32.wrap (u64.wrap (Int.tdiv 1000000000 (u64.wrap ((u64.wrap x2)+1))))])))).toNat)),(4,.d aqu s359_4),(8,SI (((i64.wrap ((i64.wrap (s11+((ah (val b).toNat).length:Int)))+1):Int).toNat-(s11:Int).toNat:Nat):Int)),(9,SI s359_9)],[.row 225 aqu ([u32.wrap (u64.wrap (Int.tdiv 1000000000 (u64.wrap ((u64.wrap x2)+1))))]),.row 225 aqu r359_1,.row 225 aqu ([0]),.row 225 aqu ([u32.wrap (u64.wrap (Int.tdiv 1000000000 (u64.wrap ((u64.wrap x2)+1))))]),.gone,.row 225 aqu r5],6,[⟨340,[.seq 74,.blk 1,.seq 75,.lp 34,.blk 0,.seq 76],72,8,[(6,SI ((ah (val b).toNat).length:Int)),(7,.d aqu (u32.wrap (u64.wrap (Int.tdiv 1000000000 (u64.wrap ((u64.wrap x2)+1)))))),(8,.own 1),(9,.d aqs (ah (val (dig ((ah (val b).toNat).length+([u32.wrap (u64.wrap (Int.tdiv 1000000000 (u64.wrap ((u64.wrap x2)+1))))]).length) (val (ah (val b).toNat)*val ([u32.wrap (u64.wrap (Int.tdiv 1000000000 (u64.wrap ((u64.wrap x2)+1))))])))).toNat)),(10,.own 5),(11,SI s11),(13,.d (.int .u64) (u64.wrap (f358_0_13-1)))],0,none⟩]⟩
def HP(a b:List Int)(k:KT):OLR:=og (decide (aR a)) (og (decide (aR b)) (match((ah (val b).toNat).length:Int)==1 with|true=>(match aU (ah (val b).toNat) 0 with|some x1=>(og (decide (CJ (ah (val a).toNat) x1)) (some [RV.d aqs (dig (ah (val a).toNat).length (val (ah (val a).toNat)/x1)),RV.d aqs ([val (ah (val a).toNat)%x1])]))|none=>none)|false=>(og (decide (aR (ah (val a).toNat)∧aR (ah (val b).toNat))) (match decide ((cC (val (ah (val a).toNat)) (val (ah (val b).toNat)))<0)with|true=>(og (decide ((ah (val a).toNat).length*4≤140737488355328∧(ah (val a).toNat).length≤140737488355328)) (some [RV.d aqs ([]),RV.d aqs (ah (val a).toNat)]))|false=>(match aU (ah (val b).toNat) (i64.wrap (((ah (val b).toNat).length:Int)-1))with|some x2=>(match decide (u64.wrap ((u64.wrap x2)+1)=(0:Int))with|true=>none|false=>(og (decide (aR (ah (val a).toNat)∧aR ([u32.wrap (u64.wrap (Int.tdiv 1000000000 (u64.wrap ((u64.wrap x2)+1))))]))) (og (decide (((dig ((ah (val a).toNat).length+([u32.wrap (u64.wrap (Int.tdiv 1000000000 (u64.wrap ((u64.wrap x2)+1))))]).length) (val (ah (val a).toNat)*val ([u32.wrap (u64.wrap (Int.tdiv 1000000000 (u64.wrap ((u64.wrap x2)+1))))]))).length+([0]).length)*4≤140737488355328∧(dig ((ah (val a).toNat).length+([u32.wrap (u64.wrap (Int.tdiv 1000000000 (u64.wrap ((u64.wrap x2)+1))))]).length) (val (ah (val a).toNat)*val ([u32.wrap (u64.wrap (Int.tdiv 1000000000 (u64.wrap ((u64.wrap x2)+1))))]))).length+([0]).length≤140737488355328)) (og (decide (aR (ah (val b).toNat)∧aR ([u32.wrap (u64.wrap (Int.tdiv 1000000000 (u64.wrap ((u64.wrap x2)+1))))]))) (og (decide (aR (dig ((ah (val b).toNat).length+([u32.wrap (u64.wrap (Int.tdiv 1000000000 (u64.wrap ((u64.wrap x2)+1))))]).length) (val (ah (val b).toNat)*val ([u32.wrap (u64.wrap (Int.tdiv 1000000000 (u64.wrap ((u64.wrap x2)+1))))]))))) (og (decide ((0:Int)≤i64.wrap ((((dig ((ah (val a).toNat).length+([u32.wrap (u64.wrap (Int.tdiv 1000000000 (u64.wrap ((u64.wrap x2)+1))))]).length) (val (ah (val a).toNat)*val ([u32.wrap (u64.wrap (Int.tdiv 1000000000 (u64.wrap ((u64.wrap x2)+1))))])))++([0])).length:Int)-((ah (val b).toNat).length:Int))∧(i64.wrap ((((dig ((ah (val a).toNat).length+([u32.wrap (u64.wrap (Int.tdiv 1000000000 (u64.wrap ((u64.wrap x2)+1))))]).length) (val (ah (val a).toNat)*val ([u32.wrap (u64.wrap (Int.tdiv 1000000000 (u64.wrap ((u64.wrap x2)+1))))])))++([0])).length:Int)-((ah (val b).toNat).length:Int)))*((4:Nat):Int)≤140737488355328∧i64.wrap ((((dig ((ah (val a).toNat).length+([u32.wrap (u64.wrap (Int.tdiv 1000000000 (u64.wrap ((u64.wrap x2)+1))))]).length) (val (ah (val a).toNat)*val ([u32.wrap (u64.wrap (Int.tdiv 1000000000 (u64.wrap ((u64.wrap x2)+1))))])))++([0])).length:Int)-((ah (val b).toNat).length:Int))≤140737488355328)) (k 34 (qy b x2 (i64.wrap ((i64.wrap ((((dig ((ah (val a).toNat).length+([u32.wrap (u64.wrap (Int.tdiv 1000000000 (u64.wrap ((u64.wrap x2)+1))))]).length) (val (ah (val a).toNat)*val ([u32.wrap (u64.wrap (Int.tdiv 1000000000 (u64.wrap ((u64.wrap x2)+1))))])))++([0])).length:Int)-((ah (val b).toNat).length:Int)))-1)) (List.replicate (i64.wrap ((((dig ((ah (val a).toNat).length+([u32.wrap (u64.wrap (Int.tdiv 1000000000 (u64.wrap ((u64.wrap x2)+1))))]).length) (val (ah (val a).toNat)*val ([u32.wrap (u64.wrap (Int.tdiv 1000000000 (u64.wrap ((u64.wrap x2)+1))))])))++([0])).length:Int)-((ah (val b).toNat).length:Int))).toNat (0:Int)) ((dig ((ah (val a).toNat).length+([u32.wrap (u64.wrap (Int.tdiv 1000000000 (u64.wrap ((u64.wrap x2)+1))))]).length) (val (ah (val a).toNat)*val ([u32.wrap (u64.wrap (Int.tdiv 1000000000 (u64.wrap ((u64.wrap x2)+1))))])))++([0]))))))))))|none=>none)))))
theorem OH(a b:List Int):RS gL 340 [.d aqs a,.d aqs b] (HP a b):=rsX
def uN(b:List Int)(x2 s11:Int)(r5 r1:List Int)(k:KT):OLR:=match decide (s11≥0)with|true=>(match aU r1 (i64.wrap (s11+((ah (val b).toNat).length:Int)))with|some _=>(match true,r1[(i64.wrap (s11+((ah (val b).toNat).length:Int))).toNat]? with|true,some x3=>(match aU r1 (i64.wrap ((i64.wrap (s11+((ah (val b).toNat).length:Int)))-1))with|some _=>(match true,r1[(i64.wrap ((i64.wrap (s11+((ah (val b).toNat).length:Int)))-1)).toNat]? with|true,some x4=>(match aU (ah (val (dig ((ah (val b).toNat).length+([u32.wrap (u64.wrap (Int.tdiv 1000000000 (u64.wrap ((u64.wrap x2)+1))))]).length) (val (ah (val b).toNat)*val ([u32.wrap (u64.wrap (Int.tdiv 1000000000 (u64.wrap ((u64.wrap x2)+1))))])))).toNat) (i64.wrap (((ah (val b).toNat).length:Int)-1))with|some x5=>(match decide (u64.wrap x5=(0:Int))with|true=>none|false=>(match aU (ah (val (dig ((ah (val b).toNat).length+([u32.wrap (u64.wrap (Int.tdiv 1000000000 (u64.wrap ((u64.wrap x2)+1))))]).length) (val (ah (val b).toNat)*val ([u32.wrap (u64.wrap (Int.tdiv 1000000000 (u64.wrap ((u64.wrap x2)+1))))])))).toNat) (i64.wrap (((ah (val b).toNat).length:Int)-1))with|some x6=>(match decide (u64.wrap x6=(0:Int))with|true=>none|false=>k 49 (nZ b x2 s11 r1 r5 (u64.wrap (Int.tdiv (u64.wrap ((u64.wrap ((u64.wrap x3)*1000000000))+(u64.wrap x4))) (u64.wrap x5))) (Int.tmod (u64.wrap ((u64.wrap ((u64.wrap x3)*1000000000))+(u64.wrap x4))) (u64.wrap x6))))|none=>none))|none=>none)|_,_=>none)|none=>none)|_,_=>none)|none=>none)|false=>(og (decide ((0:Int)≤0∧0≤((ah (val b).toNat).length:Int)∧((ah (val b).toNat).length:Int)≤(r1.length:Int))) (og (decide (aR ((r1.drop ((0:Int).toNat)).take ((((ah (val b).toNat).length:Int):Int).toNat-(0:Int).toNat)))) (og (decide (CJ (ah (val ((r1.drop ((0:Int).toNat)).take ((((ah (val b).toNat).length:Int):Int).toNat-(0:Int).toNat))).toNat) (u32.wrap (u64.wrap (Int.tdiv 1000000000 (u64.wrap ((u64.wrap x2)+1))))))) (some [RV.d aqs r5,RV.d aqs (dig (ah (val ((r1.drop ((0:Int).toNat)).take ((((ah (val b).toNat).length:Int):Int).toNat-(0:Int).toNat))).toNat).length (val (ah (val ((r1.drop ((0:Int).toNat)).take ((((ah (val b).toNat).length:Int):Int).toNat-(0:Int).toNat))).toNat)/(u32.wrap (u64.wrap (Int.tdiv 1000000000 (u64.wrap ((u64.wrap x2)+1)))))))]))))
theorem zZ(b:List Int)(x2 s11:Int)(r5 r1:List Int):RN gL 34 (qy b x2 s11 r5 r1) (uN b x2 s11 r5 r1):=rnX
def mZ(b:List Int)(x2 s11:Int)(r1 r5:List Int)(s13 s14:Int)(k:KT):OLR:=match decide (s13≥1000000000)with|true=>(match aU (ah (val (dig ((ah (val b).toNat).length+([u32.wrap (u64.wrap (Int.tdiv 1000000000 (u64.wrap ((u64.wrap x2)+1))))]).length) (val (ah (val b).toNat)*val ([u32.wrap (u64.wrap (Int.tdiv 1000000000 (u64.wrap ((u64.wrap x2)+1))))])))).toNat) (i64.wrap (((ah (val b).toNat).length:Int)-1))with|some x7=>(match decide ((u64.wrap (s14+(u64.wrap x7)))≥1000000000)with|true=>(og (decide ((0:Int)≤s11∧s11≤i64.wrap ((i64.wrap (s11+((ah (val b).toNat).length:Int)))+1)∧i64.wrap ((i64.wrap (s11+((ah (val b).toNat).length:Int)))+1)≤(r1.length:Int))) (k 8 (cZ b x2 s11 r5 (u64.wrap (s13-1)) (u64.wrap (s13-1)) 0 0 0 r1)))|false=>k 49 (nZ b x2 s11 r1 r5 (u64.wrap (s13-1)) (u64.wrap (s14+(u64.wrap x7)))))|none=>none)|false=>(match aU (ah (val (dig ((ah (val b).toNat).length+([u32.wrap (u64.wrap (Int.tdiv 1000000000 (u64.wrap ((u64.wrap x2)+1))))]).length) (val (ah (val b).toNat)*val ([u32.wrap (u64.wrap (Int.tdiv 1000000000 (u64.wrap ((u64.wrap x2)+1))))])))).toNat) (i64.wrap (((ah (val b).toNat).length:Int)-2))with|some x8=>(match aU r1 (i64.wrap ((i64.wrap (s11+((ah (val b).toNat).length:Int)))-2))with|some _=>(match true,r1[(i64.wrap ((i64.wrap (s11+((ah (val b).toNat).length:Int)))-2)).toNat]? with|true,some x9=>(match decide ((u64.wrap (s13*(u64.wrap x8)))>(u64.wrap ((u64.wrap (s14*1000000000))+(u64.wrap x9))))with|true=>(match aU (ah (val (dig ((ah (val b).toNat).length+([u32.wrap (u64.wrap (Int.tdiv 1000000000 (u64.wrap ((u64.wrap x2)+1))))]).length) (val (ah (val b).toNat)*val ([u32.wrap (u64.wrap (Int.tdiv 1000000000 (u64.wrap ((u64.wrap x2)+1))))])))).toNat) (i64.wrap (((ah (val b).toNat).length:Int)-1))with|some x10=>(match decide ((u64.wrap (s14+(u64.wrap x10)))≥1000000000)with|true=>(og (decide ((0:Int)≤s11∧s11≤i64.wrap ((i64.wrap (s11+((ah (val b).toNat).length:Int)))+1)∧i64.wrap ((i64.wrap (s11+((ah (val b).toNat).length:Int)))+1)≤(r1.length:Int))) (k 8 (cZ b x2 s11 r5 (u64.wrap (s13-1)) (u64.wrap (s13-1)) 0 0 0 r1)))|false=>k 49 (nZ b x2 s11 r1 r5 (u64.wrap (s13-1)) (u64.wrap (s14+(u64.wrap x10)))))|none=>none)|false=>(og (decide ((0:Int)≤s11∧s11≤i64.wrap ((i64.wrap (s11+((ah (val b).toNat).length:Int)))+1)∧i64.wrap ((i64.wrap (s11+((ah (val b).toNat).length:Int)))+1)≤(r1.length:Int))) (k 8 (cZ b x2 s11 r5 s13 s13 0 0 0 r1))))|_,_=>none)|none=>none)|none=>none)
theorem qD(b:List Int)(x2 s11:Int)(r1 r5:List Int)(s13 s14:Int):RN gL 49 (nZ b x2 s11 r1 r5 s13 s14) (mZ b x2 s11 r1 r5 s13 s14):=rnX
def dw(b:List Int)(x2 s11:Int)(r5:List Int)(s358_2 f358_0_13 s358_7 s358_8 s358_15:Int)(r358_1:List Int)(k:KT):OLR:=match decide (s358_15<(((i64.wrap ((i64.wrap (s11+((ah (val b).toNat).length:Int)))+1):Int).toNat-(s11:Int).toNat:Nat):Int))with|true=>(match decide (s358_15<((ah (val (dig ((ah (val b).toNat).length+([u32.wrap (u64.wrap (Int.tdiv 1000000000 (u64.wrap ((u64.wrap x2)+1))))]).length) (val (ah (val b).toNat)*val ([u32.wrap (u64.wrap (Int.tdiv 1000000000 (u64.wrap ((u64.wrap x2)+1))))])))).toNat).length:Int))with|true=>(match aU (ah (val (dig ((ah (val b).toNat).length+([u32.wrap (u64.wrap (Int.tdiv 1000000000 (u64.wrap ((u64.wrap x2)+1))))]).length) (val (ah (val b).toNat)*val ([u32.wrap (u64.wrap (Int.tdiv 1000000000 (u64.wrap ((u64.wrap x2)+1))))])))).toNat) s358_15 with|some x11=>(match true,decide ((0:Int)≤s358_15∧s358_15<(((i64.wrap ((i64.wrap (s11+((ah (val b).toNat).length:Int)))+1):Int).toNat-(s11:Int).toNat:Nat):Int))with|true,true=>(match true,r358_1[(s11:Int).toNat+(s358_15).toNat]? with|true,some x12=>(match decide ((u64.wrap x12)<(u64.wrap ((Int.tmod (u64.wrap (s358_7+(u64.wrap ((u64.wrap x11)*s358_2)))) 1000000000)+s358_8)))with|true=>(match true,decide ((0:Int)≤s358_15∧s358_15<(((i64.wrap ((i64.wrap (s11+((ah (val b).toNat).length:Int)))+1):Int).toNat-(s11:Int).toNat:Nat):Int))with|true,true=>(match true,r358_1[(s11:Int).toNat+(s358_15).toNat]? with|true,some _=>k 8 (cZ b x2 s11 r5 s358_2 f358_0_13 (u64.wrap (Int.tdiv (u64.wrap (s358_7+(u64.wrap ((u64.wrap x11)*s358_2)))) 1000000000)) 1 (i64.wrap (s358_15+1)) (r358_1.set ((s11:Int).toNat+(s358_15).toNat) (u32.wrap (u64.wrap ((u64.wrap ((u64.wrap x12)+1000000000))-(u64.wrap ((Int.tmod (u64.wrap (s358_7+(u64.wrap ((u64.wrap x11)*s358_2)))) 1000000000)+s358_8)))))))|_,_=>none)|_,_=>none)|false=>(match true,decide ((0:Int)≤s358_15∧s358_15<(((i64.wrap ((i64.wrap (s11+((ah (val b).toNat).length:Int)))+1):Int).toNat-(s11:Int).toNat:Nat):Int))with|true,true=>(match true,r358_1[(s11:Int).toNat+(s358_15).toNat]? with|true,some _=>k 8 (cZ b x2 s11 r5 s358_2 f358_0_13 (u64.wrap (Int.tdiv (u64.wrap (s358_7+(u64.wrap ((u64.wrap x11)*s358_2)))) 1000000000)) 0 (i64.wrap (s358_15+1)) (r358_1.set ((s11:Int).toNat+(s358_15).toNat) (u32.wrap (u64.wrap ((u64.wrap x12)-(u64.wrap ((Int.tmod (u64.wrap (s358_7+(u64.wrap ((u64.wrap x11)*s358_2)))) 1000000000)+s358_8)))))))|_,_=>none)|_,_=>none))|_,_=>none)|_,_=>none)|none=>none)|false=>(match true,decide ((0:Int)≤s358_15∧s358_15<(((i64.wrap ((i64.wrap (s11+((ah (val b).toNat).length:Int)))+1):Int).toNat-(s11:Int).toNat:Nat):Int))with|true,true=>(match true,r358_1[(s11:Int).toNat+(s358_15).toNat]? with|true,some x15=>(match decide ((u64.wrap x15)<(u64.wrap ((Int.tmod s358_7 1000000000)+s358_8)))with|true=>(match true,decide ((0:Int)≤s358_15∧s358_15<(((i64.wrap ((i64.wrap (s11+((ah (val b).toNat).length:Int)))+1):Int).toNat-(s11:Int).toNat:Nat):Int))with|true,true=>(match true,r358_1[(s11:Int).toNat+(s358_15).toNat]? with|true,some _=>k 8 (cZ b x2 s11 r5 s358_2 f358_0_13 (u64.wrap (Int.tdiv s358_7 1000000000)) 1 (i64.wrap (s358_15+1)) (r358_1.set ((s11:Int).toNat+(s358_15).toNat) (u32.wrap (u64.wrap ((u64.wrap ((u64.wrap x15)+1000000000))-(u64.wrap ((Int.tmod s358_7 1000000000)+s358_8)))))))|_,_=>none)|_,_=>none)|false=>(match true,decide ((0:Int)≤s358_15∧s358_15<(((i64.wrap ((i64.wrap (s11+((ah (val b).toNat).length:Int)))+1):Int).toNat-(s11:Int).toNat:Nat):Int))with|true,true=>(match true,r358_1[(s11:Int).toNat+(s358_15).toNat]? with|true,some _=>k 8 (cZ b x2 s11 r5 s358_2 f358_0_13 (u64.wrap (Int.tdiv s358_7 1000000000)) 0 (i64.wrap (s358_15+1)) (r358_1.set ((s11:Int).toNat+(s358_15).toNat) (u32.wrap (u64.wrap ((u64.wrap x15)-(u64.wrap ((Int.tmod s358_7 1000000000)+s358_8)))))))|_,_=>none)|_,_=>none))|_,_=>none)|_,_=>none))|false=>(match decide (s358_8>0)with|true=>(og (decide ((0:Int)≤s11∧s11≤i64.wrap ((i64.wrap (s11+((ah (val b).toNat).length:Int)))+1)∧i64.wrap ((i64.wrap (s11+((ah (val b).toNat).length:Int)))+1)≤(r358_1.length:Int))) (k 5 (dL b x2 s11 r5 f358_0_13 0 0 r358_1)))|false=>(match decide (s358_7>0)with|true=>(og (decide ((0:Int)≤s11∧s11≤i64.wrap ((i64.wrap (s11+((ah (val b).toNat).length:Int)))+1)∧i64.wrap ((i64.wrap (s11+((ah (val b).toNat).length:Int)))+1)≤(r358_1.length:Int))) (k 5 (dL b x2 s11 r5 f358_0_13 0 0 r358_1)))|false=>(match aU r5 s11 with|some _=>(match true,r5[(s11).toNat]? with|true,some _=>k 34 (qy b x2 (i64.wrap (s11-1)) (r5.set ((s11).toNat) (u32.wrap f358_0_13)) r358_1)|_,_=>none)|none=>none)))
theorem fX(b:List Int)(x2 s11:Int)(r5:List Int)(s358_2 f358_0_13 s358_7 s358_8 s358_15:Int)(r358_1:List Int):RN gL 8 (cZ b x2 s11 r5 s358_2 f358_0_13 s358_7 s358_8 s358_15 r358_1) (dw b x2 s11 r5 s358_2 f358_0_13 s358_7 s358_8 s358_15 r358_1):=rnX
def eG(b:List Int)(x2 s11:Int)(r5:List Int)(f358_0_13 s359_4 s359_9:Int)(r359_1:List Int)(k:KT):OLR:=match decide (s359_9<(((i64.wrap ((i64.wrap (s11+((ah (val b).toNat).length:Int)))+1):Int).toNat-(s11:Int).toNat:Nat):Int))with|true=>(match true,decide ((0:Int)≤s359_9∧s359_9<(((i64.wrap ((i64.wrap (s11+((ah (val b).toNat).length:Int)))+1):Int).toNat-(s11:Int).toNat:Nat):Int))with|true,true=>(match true,r359_1[(s11:Int).toNat+(s359_9).toNat]? with|true,some x19=>(match decide (s359_9<((ah (val (dig ((ah (val b).toNat).length+([u32.wrap (u64.wrap (Int.tdiv 1000000000 (u64.wrap ((u64.wrap x2)+1))))]).length) (val (ah (val b).toNat)*val ([u32.wrap (u64.wrap (Int.tdiv 1000000000 (u64.wrap ((u64.wrap x2)+1))))])))).toNat).length:Int))with|true=>(match aU (ah (val (dig ((ah (val b).toNat).length+([u32.wrap (u64.wrap (Int.tdiv 1000000000 (u64.wrap ((u64.wrap x2)+1))))]).length) (val (ah (val b).toNat)*val ([u32.wrap (u64.wrap (Int.tdiv 1000000000 (u64.wrap ((u64.wrap x2)+1))))])))).toNat) s359_9 with|some x20=>(match decide ((u32.wrap ((u32.wrap (x19+s359_4))+x20))≥1000000000)with|true=>(match true,decide ((0:Int)≤s359_9∧s359_9<(((i64.wrap ((i64.wrap (s11+((ah (val b).toNat).length:Int)))+1):Int).toNat-(s11:Int).toNat:Nat):Int))with|true,true=>(match true,r359_1[(s11:Int).toNat+(s359_9).toNat]? with|true,some _=>k 5 (dL b x2 s11 r5 f358_0_13 1 (i64.wrap (s359_9+1)) (r359_1.set ((s11:Int).toNat+(s359_9).toNat) (u32.wrap ((u32.wrap ((u32.wrap (x19+s359_4))+x20))-1000000000))))|_,_=>none)|_,_=>none)|false=>(match true,decide ((0:Int)≤s359_9∧s359_9<(((i64.wrap ((i64.wrap (s11+((ah (val b).toNat).length:Int)))+1):Int).toNat-(s11:Int).toNat:Nat):Int))with|true,true=>(match true,r359_1[(s11:Int).toNat+(s359_9).toNat]? with|true,some _=>k 5 (dL b x2 s11 r5 f358_0_13 0 (i64.wrap (s359_9+1)) (r359_1.set ((s11:Int).toNat+(s359_9).toNat) (u32.wrap ((u32.wrap (x19+s359_4))+x20))))|_,_=>none)|_,_=>none))|none=>none)|false=>(match decide ((u32.wrap (x19+s359_4))≥1000000000)with|true=>(match true,decide ((0:Int)≤s359_9∧s359_9<(((i64.wrap ((i64.wrap (s11+((ah (val b).toNat).length:Int)))+1):Int).toNat-(s11:Int).toNat:Nat):Int))with|true,true=>(match true,r359_1[(s11:Int).toNat+(s359_9).toNat]? with|true,some _=>k 5 (dL b x2 s11 r5 f358_0_13 1 (i64.wrap (s359_9+1)) (r359_1.set ((s11:Int).toNat+(s359_9).toNat) (u32.wrap ((u32.wrap (x19+s359_4))-1000000000))))|_,_=>none)|_,_=>none)|false=>(match true,decide ((0:Int)≤s359_9∧s359_9<(((i64.wrap ((i64.wrap (s11+((ah (val b).toNat).length:Int)))+1):Int).toNat-(s11:Int).toNat:Nat):Int))with|true,true=>(match true,r359_1[(s11:Int).toNat+(s359_9).toNat]? with|true,some _=>k 5 (dL b x2 s11 r5 f358_0_13 0 (i64.wrap (s359_9+1)) (r359_1.set ((s11:Int).toNat+(s359_9).toNat) (u32.wrap (x19+s359_4))))|_,_=>none)|_,_=>none)))|_,_=>none)|_,_=>none)|false=>(match aU r5 s11 with|some _=>(match true,r5[(s11).toNat]? with|true,some _=>k 34 (qy b x2 (i64.wrap (s11-1)) (r5.set ((s11).toNat) (u32.wrap (u64.wrap (f358_0_13-1)))) r359_1)|_,_=>none)|none=>none)
theorem fP(b:List Int)(x2 s11:Int)(r5:List Int)(f358_0_13 s359_4 s359_9:Int)(r359_1:List Int):RN gL 5 (dL b x2 s11 r5 f358_0_13 s359_4 s359_9 r359_1) (eG b x2 s11 r5 f358_0_13 s359_4 s359_9 r359_1):=rnX
section
theorem Mi{x:Int}(h1:1≤x)(h2:x<1000000000):1≤1000000000/(x+1)∧1000000000/(x+1)≤500000000∧(x+1)*(1000000000/(x+1))≤1000000000∧500000000≤x*(1000000000/(x+1)):=by
 have m0:=aom 1000000000 (show x+1≠0 by omega);have m1:=anW 1000000000 (show 0<x+1 by omega);have md:=anU 1000000000 (x+1);have d1:1≤1000000000/(x+1):=Int.le_ediv_of_mul_le (by omega) (by omega)
 have d2:1000000000/(x+1)≤500000000:=by
  have:1000000000/(x+1)<500000001:=aoz (by omega) (by omega);omega
 generalize 1000000000/(x+1)=d at*
 refine⟨d1,d2,by omega,?_⟩;rcases anC x 500000000 with hx|hx
 ·rcases anC (x*d) 500000000 with hd|hd
  ·exfalso;have e2:(x+1)*d≥1000000000-x:=by omega
   have e3:(x+1)*(x*d)≤(x+1)*499999999:=ane (by omega) (by omega);have e4:x*(1000000000-x)≤x*((x+1)*d):=ane e2 (by omega);have e5:0≤(x-1)*(500000000-x):=an5 (by omega) (by omega);grind
  omega
 ·have:=apf hx d1 (by decide) (by omega);omega
structure Kn (w V u2 u1 u0 v1 v0:Int):Prop where
 P:∃P wl vl:Int,0<P∧0≤wl∧wl<P∧0≤vl∧vl<P∧w=wl+P*(u0+1000000000*u1+1000000000*1000000000*u2)∧V=vl+P*(v0+1000000000*v1)
 u2:0≤u2∧u2<1000000000
 u1:0≤u1∧u1<1000000000
 u0:0≤u0∧u0<1000000000
 v1:500000000≤v1∧v1<1000000000
 v0:0≤v0∧v0<1000000000
 lt:w<V*1000000000
section
variable {w V u2 u1 u0 v1 v0:Int} (h:Kn w V u2 u1 u0 v1 v0)
include h
theorem Kn.top:u2≤v1:=by
 obtain⟨⟨P,wl,vl,p0,a1,a2,b1,b2,hw,hV⟩,⟨x1,x2⟩,⟨x3,x4⟩,⟨x5,x6⟩,⟨y1,y2⟩,⟨y3,y4⟩,hlt⟩:=h;rcases anC v1 u2 with hc|hc
 ·have e1:P*(1000000000*1000000000*(v1+1))≤P*(u0+1000000000*u1+1000000000*1000000000*u2):=ane (by omega) (by omega);have e2:P*(v0+1000000000*v1)≤P*(999999999+1000000000*v1):=ane (by omega) (by omega);grind
 omega
theorem Kn.pos:0<V:=by
 obtain⟨⟨P,wl,vl,p0,a1,a2,b1,b2,hw,hV⟩,⟨x1,x2⟩,⟨x3,x4⟩,⟨x5,x6⟩,⟨y1,y2⟩,⟨y3,y4⟩,hlt⟩:=h;have:=Int.mul_pos p0 (show 0<v0+1000000000*v1 by omega);omega
theorem Kn.great{g rest:Int}(hg:0≤g)(he:g*v1+rest=u2*1000000000+u1)(hc:rest*1000000000+u0<g*v0):w<g*V:=by
 obtain⟨⟨P,wl,vl,p0,a1,a2,b1,b2,hw,hV⟩,⟨x1,x2⟩,⟨x3,x4⟩,⟨x5,x6⟩,⟨y1,y2⟩,⟨y3,y4⟩,hlt⟩:=h;have e1:g*V=g*vl+P*(g*v0+1000000000*(g*v1)):=by rw[hV];grind
 have e2:0≤g*vl:=an5 hg b1;have e3:P*(u0+1000000000*u1+1000000000*1000000000*u2+1)≤P*(g*v0+1000000000*(g*v1)):=ane (by omega) (by omega);grind
theorem Kn.small{g rest:Int}(_hg:0≤g)(hgB:g≤1000000000)(he:g*v1+rest=u2*1000000000+u1)(hc:g*v0≤rest*1000000000+u0):g*V<w+V:=by
 obtain⟨⟨P,wl,vl,p0,a1,a2,b1,b2,hw,hV⟩,⟨x1,x2⟩,⟨x3,x4⟩,⟨x5,x6⟩,⟨y1,y2⟩,⟨y3,y4⟩,hlt⟩:=h;have e1:g*V=g*vl+P*(g*v0+1000000000*(g*v1)):=by rw[hV];grind
 have e2:g*vl≤1000000000*P:=apf hgB (by omega) b1 (by decide);have e3:P*(g*v0+1000000000*(g*v1))≤P*(u0+1000000000*u1+1000000000*1000000000*u2):=ane (by omega) (by omega);have e4:P*(1000000000*500000000)≤P*(v0+1000000000*v1):=ane (by omega) (by omega);omega
theorem Kn.first{g:Int}(hg:g=(u2*1000000000+u1)/v1):w<(g+1)*V:=by
 obtain⟨⟨P,wl,vl,p0,a1,a2,b1,b2,hw,hV⟩,⟨x1,x2⟩,⟨x3,x4⟩,⟨x5,x6⟩,⟨y1,y2⟩,⟨y3,y4⟩,hlt⟩:=h;have m1:=anW (u2*1000000000+u1) (show 0<v1 by omega);have md:=anU (u2*1000000000+u1) v1;rw[←hg]at md;have g0:0≤g:=by rw[hg];exact an9 (by omega) (by omega)
 have e1:(g+1)*V=(g+1)*vl+P*((g+1)*v0+1000000000*((g+1)*v1)):=by rw[hV];grind
 have e2:0≤(g+1)*vl:=an5 (by omega) b1;have e3:0≤(g+1)*v0:=an5 (by omega) y3;have e4:(g+1)*v1=v1*g+v1:=by grind
 have e5:P*(1000000000*(u2*1000000000+u1+1))≤P*((g+1)*v0+1000000000*((g+1)*v1)):=ane (by omega) (by omega)
 have e6:P*(u0+1000000000*u1+1000000000*1000000000*u2)+P≤P*(1000000000*(u2*1000000000+u1+1)):=by
  have:P*(u0+1000000000*u1+1000000000*1000000000*u2+1)≤P*(1000000000*(u2*1000000000+u1+1)):=ane (by omega) (by omega);grind
 omega
end
theorem C6{l:List Int}{m:Nat}(h:l.length=m+2):val l=val (l.take m)+pw m*(l[m]+1000000000*l[m+1]):=by grind [a8,cg]
theorem Q9{l:List Int}{m:Nat}(h:l.length=m+3):val l=val (l.take m)+pw m*(l[m]+1000000000*l[m+1]+1000000000*1000000000*l[m+2]):=by grind [a8,cg]
def win(k n:Nat)(r:List Int):Int:=val ((r.drop k).take (n+1))
theorem JF{k n:Nat}{r:List Int}(h:k+n+1≤r.length)(hz:val (r.drop (k+n+1))=0):val r=val (r.take k)+pw k*win k n r:=by
 have h1:=ge r k;have h2:=ge (r.drop k) (n+1);grind [aqe,win]
theorem Ly{k n:Nat}{r:List Int}(hl:Lim r)(h:k+n+1≤r.length):0≤win k n r∧win k n r<pw (n+1):=by
 have h1:=(hl.drop k).take (n+1);have h2:=b9 h1;rw[anR,apX,anT (by omega)]at h2;exact⟨aQ h1,h2⟩
theorem akq{v r:List Int}{k m:Nat}(hv:Lim v)(hvl:v.length=m+2)(hr:Lim r)(hk:k+m+3≤r.length)(htop:500000000≤v[m+1])(hlt:win k (m+2) r<val v*1000000000):
  Kn (win k (m+2) r) (val v) r[k+m+2] r[k+m+1] r[k+m] v[m+1] v[m]:=by
 have hwl:((r.drop k).take (m+2+1)).length=m+3:=by rw[anR,apX];omega
 have h3:=Q9 hwl;have h2:=C6 hvl;have hl1:=(hr.drop k).take (m+2+1);have g:∀j (hj:j<m+3),((r.drop k).take (m+2+1))[j]=r[k+j]:=fun j hj=>by simp
 rw[g m (by omega),g (m+1) (by omega),g (m+2) (by omega)]at h3;have t1:=hl1.take m;have t2:=hv.take m;have b1:=b9 t1;have b2:=b9 t2;rw[anR,anT (by omega)]at b1 b2;exact⟨⟨pw m,_,_,cB m,aQ t1,b1,aQ t2,b2,h3,h2⟩,hr.get (by omega),hr.get (by omega),hr.get (by omega),⟨htop,(hv.get (by omega)).2⟩,hv.get (by omega),hlt⟩
end
section
theorem vK{r:List Int}{k i:Nat}(y:Int):(r.set (k+i) y).take k=r.take k:=List.take_set_of_le (by omega)
theorem vN{r:List Int}{k i n:Nat}(y:Int)(h:i≤n):(r.set (k+i) y).drop (k+n+1)=r.drop (k+n+1):=List.drop_set_of_lt (by omega)
section
variable (b:List Int) (x2:Int) (v:List Int) (m:Nat) (hN:(ah (val b).toNat).length=m+2) (hv:ah (val (dig ((ah (val b).toNat).length+([u32.wrap (u64.wrap (Int.tdiv 1000000000 (u64.wrap ((u64.wrap x2)+1))))]).length) (val (ah (val b).toNat)*val ([u32.wrap (u64.wrap (Int.tdiv 1000000000 (u64.wrap ((u64.wrap x2)+1))))])))).toNat=v) (lv:Lim v) (hvl:v.length=m+2)
include hN hv lv hvl
theorem NN(k:Nat)(r0 r5:List Int)(g:Int)(hg:0≤g∧g<1000000000)(hk:k+(m+2)+1≤r0.length)(hsz:r0.length≤4000000000)(R:List RV)
  (hno:∀r,Lim r→r.length=r0.length→r.take k=r0.take k→r.drop (k+(m+2)+1)=r0.drop (k+(m+2)+1)→val r=val r0-pw k*(g*val v)→∃q,dw b x2 (k:Int) r5 g g 0 0 ((m+2+1:Nat):Int) r (gL.k q)=some R)
  (hyes:∀r,Lim r→r.length=r0.length→r.take k=r0.take k→r.drop (k+(m+2)+1)=r0.drop (k+(m+2)+1)→val r=val r0-pw k*(g*val v)+pw (k+(m+2)+1)→∃q,dw b x2 (k:Int) r5 g g 0 1 ((m+2+1:Nat):Int) r (gL.k q)=some R):
  ∀(j i:Nat) (c bo:Int) (r:List Int),i+j=m+2+1→0≤c→c<1000000000→(i=m+2+1→c=0)→0≤bo→bo≤1→Lim r→r.length=r0.length→r.take k=r0.take k→r.drop (k+(m+2)+1)=r0.drop (k+(m+2)+1)→
   val r=val r0-pw k*(g*val (v.take i))+pw (k+i)*(c+bo)→gL.Runs 8 (cZ b x2 (k:Int) r5 g g c bo (i:Int) r) R:=by
 have e1:i64.wrap ((k:Int)+((m+2:Nat):Int))=((k+(m+2):Nat):Int):=by rw[aT (by omega) (by omega)];simp
 have e2:i64.wrap (((k+(m+2):Nat):Int)+1)=((k+(m+2)+1:Nat):Int):=bW (by omega);have e3:k+(m+2)+1-k=m+2+1:=by omega
 intro j;induction j with
 |zero=>
  intro i c bo r hi c0 c1 hc b0 b1 lr hl ht hd hval;obtain rfl:i=m+2+1:=by omega
  obtain rfl:=hc rfl;rw[anQ (by omega)]at hval;refine fX _ _ _ _ _ _ _ _ _ _ ?_;rcases(show bo=0∨bo=1 by omega)with rfl|rfl
  ·exact hno r lr hl ht hd (by rw[hval];simp)
  ·exact hyes r lr hl ht hd (by rw[hval];simp;rfl)
 |succ j ih=>
  intro i c bo r hi c0 c1 hc b0 b1 lr hl ht hd hval;have hir:k+i<r.length:=by omega
  have xr:=lr.get hir;have hwi:decide ((0:Int)≤(i:Int)∧(i:Int)<((m+2+1:Nat):Int))=true:=am5 (by omega);have hlt:decide ((i:Int)<((m+2+1:Nat):Int))=true:=am5 (by omega);have hw:=hv
  have step:∀(c' y bo':Int),0≤c'→c'<1000000000→(i+1=m+2+1→c'=0)→0≤y→y<1000000000→0≤bo'→bo'≤1→y=r[k+i]-(val (v.take (i+1))-val (v.take i))/pw i*g-c+1000000000*c'-bo+1000000000*bo'→pw i*((val (v.take (i+1))-val (v.take i))/pw i)=val (v.take (i+1))-val (v.take i)→
    gL.Runs 8 (cZ b x2 (k:Int) r5 g g c' bo' ((i+1:Nat):Int) (r.set (k+i) y)) R:=by
   intro c' y bo' k0 k1 kc y0 y1 k2 k3 hy hp;refine ih (i+1) c' bo' (r.set (k+i) y) (by omega) k0 k1 kc k2 k3 (lr.set _ ⟨y0,y1⟩) (by simpa using hl) (by rw[vK];exact ht) (by rw[vN _ (by omega)];exact hd) ?_;rw[fp hir,hval,hy,show k+(i+1)=k+i+1 by omega,cg,fI];generalize (val (v.take (i+1))-val (v.take i))/pw i=d at*
   have:val (v.take (i+1))=val (v.take i)+pw i*d:=by omega
   rw[this];grind
  by_cases hiv:i<m+2
  ·have hiv':i<v.length:=by omega
   have xv:=lv.get hiv'
   have hdv:(val (v.take (i+1))-val (v.take i))/pw i=v[i]:=by
    rw[a8 hiv',show val (v.take i)+pw i*v[i]-val (v.take i)=pw i*v[i] by omega,apj _ (by have:=cB i;omega)]
   rw[hdv]at step;have hbd:=HC (r:=0) (by decide) xv hg ⟨c0,c1⟩;have t0:0≤c+v[i]*g:=by omega
   have q0:0≤(c+v[i]*g)/1000000000∧(c+v[i]*g)/1000000000<1000000000:=by omega
   have hpv:pw i*v[i]=val (v.take (i+1))-val (v.take i):=by rw[a8 hiv'];omega
   by_cases hc2:r[k+i]<(c+v[i]*g)%1000000000+bo
   ·obtain⟨q,hq⟩:=step ((c+v[i]*g)/1000000000) (r[k+i]+1000000000-((c+v[i]*g)%1000000000+bo)) 1 q0.1 q0.2 (by omega) (by omega) (by omega) (by omega) (by omega) (by omega) hpv;refine fX _ _ _ _ _ _ _ _ _ _ ⟨q,?_⟩;unfold dw;rw[hw,hN,e1,e2,aE,aE,e3,hlt,hwi,hvl,bG hiv,av v i,am6 hiv',aE,am6 hir];dsimp only
    rw[bH (x:=v[i]) (by omega) (by omega),bH (x:=v[i]*g) (by omega) (by omega),bH (x:=c+v[i]*g) (by omega) (by omega),jy t0,hU t0,bH (x:=(c+v[i]*g)/1000000000) (by omega) (by omega),bH (x:=(c+v[i]*g)%1000000000+bo) (by omega) (by omega),bH (x:=r[k+i]) (by omega) (by omega),am5 hc2,
     bH (x:=r[k+i]+1000000000) (by omega) (by omega),bH (x:=r[k+i]+1000000000-((c+v[i]*g)%1000000000+bo)) (by omega) (by omega),c8 (x:=r[k+i]+1000000000-((c+v[i]*g)%1000000000+bo)) (by omega) (by omega),bW (k:=i) (by omega)]
    exact hq
   ·obtain⟨q,hq⟩:=step ((c+v[i]*g)/1000000000) (r[k+i]-((c+v[i]*g)%1000000000+bo)) 0 q0.1 q0.2 (by omega) (by omega) (by omega) (by omega) (by omega) (by omega) hpv;refine fX _ _ _ _ _ _ _ _ _ _ ⟨q,?_⟩;unfold dw;rw[hw,hN,e1,e2,aE,aE,e3,hlt,hwi,hvl,bG hiv,av v i,am6 hiv',aE,am6 hir];dsimp only
    rw[bH (x:=v[i]) (by omega) (by omega),bH (x:=v[i]*g) (by omega) (by omega),bH (x:=c+v[i]*g) (by omega) (by omega),jy t0,hU t0,bH (x:=(c+v[i]*g)/1000000000) (by omega) (by omega),bH (x:=(c+v[i]*g)%1000000000+bo) (by omega) (by omega),bH (x:=r[k+i]) (by omega) (by omega),am7 hc2,
     bH (x:=r[k+i]-((c+v[i]*g)%1000000000+bo)) (by omega) (by omega),c8 (x:=r[k+i]-((c+v[i]*g)%1000000000+bo)) (by omega) (by omega),bW (k:=i) (by omega)]
    exact hq
  ·have hpz:val (v.take (i+1))-val (v.take i)=0:=by rw[kA (by omega)];omega
   rw[hpz]at step;simp only[Int.zero_ediv,ap4,apl,Int.sub_zero,forall_const]at step;have m0:c%1000000000=c:=by omega
   have d0:c/1000000000=0:=by omega
   by_cases hc2:r[k+i]<c+bo
   ·obtain⟨q,hq⟩:=step 0 (r[k+i]+1000000000-(c+bo)) 1 (by omega) (by omega) (by omega) (by omega) (by omega) (by omega) (by omega) (by omega);refine fX _ _ _ _ _ _ _ _ _ _ ⟨q,?_⟩;unfold dw;rw[hw,hN,e1,e2,aE,aE,e3,hlt,hwi,hvl,cd (show m+2≤i by omega),aE,am6 hir];dsimp only
    rw[jy c0,hU c0,m0,d0,bH (x:=0) (by omega) (by omega),bH (x:=c+bo) (by omega) (by omega),bH (x:=r[k+i]) (by omega) (by omega),am5 hc2,
     bH (x:=r[k+i]+1000000000) (by omega) (by omega),bH (x:=r[k+i]+1000000000-(c+bo)) (by omega) (by omega),c8 (x:=r[k+i]+1000000000-(c+bo)) (by omega) (by omega),bW (k:=i) (by omega)]
    exact hq
   ·obtain⟨q,hq⟩:=step 0 (r[k+i]-(c+bo)) 0 (by omega) (by omega) (by omega) (by omega) (by omega) (by omega) (by omega) (by omega);refine fX _ _ _ _ _ _ _ _ _ _ ⟨q,?_⟩;unfold dw;rw[hw,hN,e1,e2,aE,aE,e3,hlt,hwi,hvl,cd (show m+2≤i by omega),aE,am6 hir];dsimp only
    rw[jy c0,hU c0,m0,d0,bH (x:=0) (by omega) (by omega),bH (x:=c+bo) (by omega) (by omega),bH (x:=r[k+i]) (by omega) (by omega),am7 hc2,
     bH (x:=r[k+i]-(c+bo)) (by omega) (by omega),c8 (x:=r[k+i]-(c+bo)) (by omega) (by omega),bW (k:=i) (by omega)]
    exact hq
end
end
section
section
variable (b:List Int) (x2:Int) (v:List Int) (m:Nat) (hN:(ah (val b).toNat).length=m+2) (hv:ah (val (dig ((ah (val b).toNat).length+([u32.wrap (u64.wrap (Int.tdiv 1000000000 (u64.wrap ((u64.wrap x2)+1))))]).length) (val (ah (val b).toNat)*val ([u32.wrap (u64.wrap (Int.tdiv 1000000000 (u64.wrap ((u64.wrap x2)+1))))])))).toNat=v) (lv:Lim v) (hvl:v.length=m+2)
include hN hv lv hvl
theorem OF(k:Nat)(r0 r5:List Int)(f:Int)(hk:k+(m+2)+1≤r0.length)(hsz:r0.length≤4000000000)(R:List RV)
  (hend:∀r c,Lim r→r.length=r0.length→r.take k=r0.take k→r.drop (k+(m+2)+1)=r0.drop (k+(m+2)+1)→0≤c→c≤1→val r=val r0+pw k*val v-pw (k+(m+2)+1)*c→∃q,eG b x2 (k:Int) r5 f c ((m+2+1:Nat):Int) r (gL.k q)=some R):
  ∀(j i:Nat) (c:Int) (r:List Int),i+j=m+2+1→0≤c→c≤1→Lim r→r.length=r0.length→r.take k=r0.take k→r.drop (k+(m+2)+1)=r0.drop (k+(m+2)+1)→
   val r=val r0+pw k*val (v.take i)-pw (k+i)*c→gL.Runs 5 (dL b x2 (k:Int) r5 f c (i:Int) r) R:=by
 have e1:i64.wrap ((k:Int)+((m+2:Nat):Int))=((k+(m+2):Nat):Int):=by rw[aT (by omega) (by omega)];simp
 have e2:i64.wrap (((k+(m+2):Nat):Int)+1)=((k+(m+2)+1:Nat):Int):=bW (by omega);have e3:k+(m+2)+1-k=m+2+1:=by omega
 intro j;induction j with
 |zero=>
  intro i c r hi c0 c1 lr hl ht hd hval;obtain rfl:i=m+2+1:=by omega
  rw[anQ (by omega)]at hval;refine fP _ _ _ _ _ _ _ _ ?_;exact hend r c lr hl ht hd c0 c1 hval
 |succ j ih=>
  intro i c r hi c0 c1 lr hl ht hd hval;have hir:k+i<r.length:=by omega
  have xr:=lr.get hir;have hwi:decide ((0:Int)≤(i:Int)∧(i:Int)<((m+2+1:Nat):Int))=true:=am5 (by omega);have hlt:decide ((i:Int)<((m+2+1:Nat):Int))=true:=am5 (by omega);have hw:=hv
  have step:∀(c' y d:Int),0≤c'→c'≤1→0≤y→y<1000000000→y=r[k+i]+c+d-1000000000*c'→val (v.take (i+1))=val (v.take i)+pw i*d→
    gL.Runs 5 (dL b x2 (k:Int) r5 f c' ((i+1:Nat):Int) (r.set (k+i) y)) R:=by
   intro c' y d k0 k1 y0 y1 hy hp;refine ih (i+1) c' (r.set (k+i) y) (by omega) k0 k1 (lr.set _ ⟨y0,y1⟩) (by simpa using hl) (by rw[vK];exact ht) (by rw[vN _ (by omega)];exact hd) ?_;rw[fp hir,hval,hy,hp,show k+(i+1)=k+i+1 by omega,cg,fI];grind
  by_cases hiv:i<m+2
  ·have hiv':i<v.length:=by omega
   have xv:=lv.get hiv';have hpv:=a8 hiv';by_cases hc2:r[k+i]+c+v[i]≥1000000000
   ·obtain⟨q,hq⟩:=step 1 (r[k+i]+c+v[i]-1000000000) v[i] (by omega) (by omega) (by omega) (by omega) (by omega) hpv;refine fP _ _ _ _ _ _ _ _ ⟨q,?_⟩;unfold eG;rw[hw,hN,e1,e2,aE,aE,e3,hlt,hwi,hvl,bG hiv,av v i,am6 hiv',aE,am6 hir];dsimp only;rw[c8 (x:=r[k+i]+c) (by omega) (by omega),c8 (x:=r[k+i]+c+v[i]) (by omega) (by omega),am5 hc2,c8 (x:=r[k+i]+c+v[i]-1000000000) (by omega) (by omega),bW (k:=i) (by omega)];exact hq
   ·obtain⟨q,hq⟩:=step 0 (r[k+i]+c+v[i]) v[i] (by omega) (by omega) (by omega) (by omega) (by omega) hpv;refine fP _ _ _ _ _ _ _ _ ⟨q,?_⟩;unfold eG;rw[hw,hN,e1,e2,aE,aE,e3,hlt,hwi,hvl,bG hiv,av v i,am6 hiv',aE,am6 hir];dsimp only;rw[c8 (x:=r[k+i]+c) (by omega) (by omega),c8 (x:=r[k+i]+c+v[i]) (by omega) (by omega),am7 hc2,bW (k:=i) (by omega)];exact hq
  ·have hpz:val (v.take (i+1))=val (v.take i)+pw i*0:=by rw[kA (by omega)];simp
   by_cases hc2:r[k+i]+c≥1000000000
   ·obtain⟨q,hq⟩:=step 1 (r[k+i]+c-1000000000) 0 (by omega) (by omega) (by omega) (by omega) (by omega) hpz;refine fP _ _ _ _ _ _ _ _ ⟨q,?_⟩;unfold eG;rw[hw,hN,e1,e2,aE,aE,e3,hlt,hwi,hvl,cd (show m+2≤i by omega),aE,am6 hir];dsimp only;rw[c8 (x:=r[k+i]+c) (by omega) (by omega),am5 hc2,c8 (x:=r[k+i]+c-1000000000) (by omega) (by omega),bW (k:=i) (by omega)];exact hq
   ·obtain⟨q,hq⟩:=step 0 (r[k+i]+c) 0 (by omega) (by omega) (by omega) (by omega) (by omega) hpz;refine fP _ _ _ _ _ _ _ _ ⟨q,?_⟩;unfold eG;rw[hw,hN,e1,e2,aE,aE,e3,hlt,hwi,hvl,cd (show m+2≤i by omega),aE,am6 hir];dsimp only;rw[c8 (x:=r[k+i]+c) (by omega) (by omega),am7 hc2,bW (k:=i) (by omega)];exact hq
theorem FX(k:Nat)(r1 r5:List Int)(hk:k+m+3≤r1.length)(hsz:r1.length≤4000000000)(R:List RV)(K:Kn (win k (m+2) r1) (val v) r1[k+m+2] r1[k+m+1] r1[k+m] v[m+1] v[m])
  (hafter:∀g,0≤g→g<1000000000→win k (m+2) r1<(g+1)*val v→g*val v<win k (m+2) r1+val v→gL.Runs 8 (cZ b x2 (k:Int) r5 g g 0 0 0 r1) R):
  ∀(fuel:Nat) (g rest:Int),g≤(fuel:Int)→0≤g→g≤2000000000→0≤rest→rest<1000000000→g*v[m+1]+rest=r1[k+m+2]*1000000000+r1[k+m+1]→win k (m+2) r1<(g+1)*val v→gL.Runs 49 (nZ b x2 (k:Int) r1 r5 g rest) R:=by
 have _lv:=lv;have e1:i64.wrap ((k:Int)+((m+2:Nat):Int))=((k+m+2:Nat):Int):=by rw[aT (by omega) (by omega)];simp;omega
 have e2:i64.wrap (((k+m+2:Nat):Int)+1)=((k+m+3:Nat):Int):=by rw[aT (by omega) (by omega)];simp;omega
 have e3:i64.wrap (((m+2:Nat):Int)-1)=((m+1:Nat):Int):=by rw[aT (by omega) (by omega)];omega
 have e4:i64.wrap (((m+2:Nat):Int)-2)=((m:Nat):Int):=by rw[aT (by omega) (by omega)];omega
 have e5:i64.wrap (((k+m+2:Nat):Int)-2)=((k+m:Nat):Int):=by rw[aT (by omega) (by omega)];omega
 have hsl:decide ((0:Int)≤(k:Int)∧(k:Int)≤((k+m+3:Nat):Int)∧((k+m+3:Nat):Int)≤(r1.length:Int))=true:=am5 (by omega);have hV:=K.pos;have htop:=K.top;have ku2:=K.u2;have ku1:=K.u1;have ku0:=K.u0;have kv1:=K.v1;have kv0:=K.v0;intro fuel;induction fuel with
 |zero=>
  intro g rest hf g0 gB r0 r1' he hlt;obtain rfl:g=0:=by omega
  obtain⟨q,hq⟩:=hafter 0 (by omega) (by omega) hlt (by have:=hlt;have:=K.small (g:=0) (rest:=rest) (by omega) (by omega) he (by omega);omega);refine qD _ _ _ _ _ _ _ ⟨q,?_⟩;unfold mZ;rw[am7 (by omega),hv,hN,e1,e2,e4,e5,av v m,am6 (by omega),av r1 (k+m),aE,am6 (show k+m<r1.length by omega)];dsimp only;rw[bH (x:=v[m]) (by omega) (by omega),ap4,bH (x:=0) (by omega) (by omega),bH (x:=rest*1000000000) (by omega) (by omega),bH (x:=r1[k+m]) (by omega) (by omega),bH (x:=rest*1000000000+r1[k+m]) (by omega) (by omega),am7 (by omega),hsl];exact hq
 |succ fuel ih=>
  intro g rest hf g0 gB rr0 rr1 he hlt
  have down:win k (m+2) r1<g*val v→∃q,(match decide (u64.wrap (rest+u64.wrap v[m+1])≥1000000000)with|true=>gL.k q 8 (cZ b x2 (k:Int) r5 (u64.wrap (g-1)) (u64.wrap (g-1)) 0 0 0 r1)|false=>gL.k q 49 (nZ b x2 (k:Int) r1 r5 (u64.wrap (g-1)) (u64.wrap (rest+u64.wrap v[m+1]))))=some R:=by
   intro hw
   have gp:1≤g:=by
    rcases anC 0 g with h|h
    ·exact h
    ·exfalso;have hg:g=0:=by omega
     subst hg;rw[ap4]at hw;obtain⟨⟨P,wl,vl,p0,a1,a2,b1,b2,hw',hV'⟩,_⟩:=K;have:=an5 (anO p0) (show 0≤r1[k+m]+1000000000*r1[k+m+1]+1000000000*1000000000*r1[k+m+2] by omega);omega
   have he':(g-1)*v[m+1]+(rest+v[m+1])=r1[k+m+2]*1000000000+r1[k+m+1]:=by rw[←he];grind
   have hw':win k (m+2) r1<(g-1+1)*val v:=by rw[show g-1+1=g by omega];exact hw
   rw[bH (x:=v[m+1]) (by omega) (by omega),bH (x:=rest+v[m+1]) (by omega) (by omega),bH (x:=g-1) (by omega) (by omega)];by_cases hb:rest+v[m+1]≥1000000000
   ·have gl:g-1<1000000000:=by
     rcases anC (g-1) 1000000000 with h|h
     ·exact h
     ·exfalso;have e1:=ani h (show 0≤v[m+1] by omega);have e2:=ani htop (show(0:Int)≤1000000000 by decide);omega
    have e1:(g-1)*v[m]≤1000000000*1000000000:=apf (by omega) (by omega) (by omega) (by decide);obtain⟨q,hq⟩:=hafter (g-1) (by omega) gl hw' (K.small (by omega) (by omega) he' (by omega));exact⟨q,by rw[am5 hb];exact hq⟩
   ·obtain⟨q,hq⟩:=ih (g-1) (rest+v[m+1]) (by omega) (by omega) (by omega) (by omega) (by omega) he' hw';exact⟨q,by rw[am7 hb];exact hq⟩
  by_cases hgB:g≥1000000000
  ·obtain⟨q,hq⟩:=down (by
    have h1:=K.lt;have:=ani hgB (anO hV);rw[aoR]at h1;omega)
   refine qD _ _ _ _ _ _ _ ⟨q,?_⟩;unfold mZ;rw[am5 hgB,hv,hN,e1,e2,e3,av v (m+1),am6 (show m+1<v.length by omega),hsl];exact hq
  ·have hgv:g*v[m]≤1000000000*1000000000:=apf (by omega) (by omega) (by omega) (by decide);have hgv0:0≤g*v[m]:=an5 g0 (by omega);by_cases hc:g*v[m]>rest*1000000000+r1[k+m]
   ·obtain⟨q,hq⟩:=down (K.great g0 he hc);refine qD _ _ _ _ _ _ _ ⟨q,?_⟩;unfold mZ;rw[am7 hgB,hv,hN,e1,e2,e3,e4,e5,av v m,am6 (show m<v.length by omega),av v (m+1),am6 (show m+1<v.length by omega),av r1 (k+m),aE,am6 (show k+m<r1.length by omega),hsl];dsimp only;rw[bH (x:=v[m]) (by omega) (by omega),bH (x:=g*v[m]) (by omega) (by omega),bH (x:=rest*1000000000) (by omega) (by omega),bH (x:=r1[k+m]) (by omega) (by omega),bH (x:=rest*1000000000+r1[k+m]) (by omega) (by omega),am5 hc];exact hq
   ·obtain⟨q,hq⟩:=hafter g g0 (by omega) hlt (K.small g0 (by omega) he (by omega));refine qD _ _ _ _ _ _ _ ⟨q,?_⟩;unfold mZ;rw[am7 hgB,hv,hN,e1,e2,e4,e5,av v m,am6 (show m<v.length by omega),av r1 (k+m),aE,am6 (show k+m<r1.length by omega),hsl];dsimp only;rw[bH (x:=v[m]) (by omega) (by omega),bH (x:=g*v[m]) (by omega) (by omega),bH (x:=rest*1000000000) (by omega) (by omega),bH (x:=r1[k+m]) (by omega) (by omega),bH (x:=rest*1000000000+r1[k+m]) (by omega) (by omega),am7 hc];exact hq
end
end
section
section
variable (b:List Int) (x2:Int) (v:List Int) (m:Nat) (hN:(ah (val b).toNat).length=m+2) (hv:ah (val (dig ((ah (val b).toNat).length+([u32.wrap (u64.wrap (Int.tdiv 1000000000 (u64.wrap ((u64.wrap x2)+1))))]).length) (val (ah (val b).toNat)*val ([u32.wrap (u64.wrap (Int.tdiv 1000000000 (u64.wrap ((u64.wrap x2)+1))))])))).toNat=v) (lv:Lim v) (hvl:v.length=m+2)
include hN hv lv hvl
set_option maxHeartbeats 2000000 in
theorem SO(sc:Int)(hsc:u32.wrap (u64.wrap (Int.tdiv 1000000000 (u64.wrap ((u64.wrap x2)+1))))=sc)(hs1:1≤sc)(hs2:sc≤500000000)(htop:500000000≤v[m+1])(A:Int):
  ∀(M:Nat) (r5 r1:List Int),Lim r5→Lim r1→r1.length=r5.length+(m+2)→r1.length≤1000000000→M≤r5.length→val v*val r5+val r1=A→(∀j (hj:j<r5.length),j<M→r5[j]=0)→val r1<val v*pw M→
   ∃qL rL,(Lim qL∧Lim rL∧qL.length=r5.length∧rL.length≤m+2∧val qL=A/val v∧val rL=A%val v/sc)∧gL.Runs 34 (qy b x2 ((M:Int)-1) r5 r1) [.d aqs qL,.d aqs rL]:=by
 have hVlt:=b9 lv;rw[hvl]at hVlt
 have hV0:0<val v:=by
  rw[C6 hvl];have h1:=aQ (lv.take m);have h2:=lv.get (show m<v.length by omega);have h3:=Int.mul_pos (cB m) (show 0<v[m]+1000000000*v[m+1] by omega);omega
 intro M;induction M with
 |zero=>
  intro r5 r1 l5 l1 hlen hsz hM hA hz hlt;rw[n7,app]at hlt;have h0:=aQ l1;have eQ:A/val v=val r5:=by rw[←hA,ap3,aoQ _ _ (by omega),aoi h0 hlt];omega
  have eR:A%val v=val r1:=by rw[←hA,ap3,ao8];exact api h0 hlt
  have ht:val (r1.take (m+2))=val r1:=by
   have hs:=ge r1 (m+2);rw[anT (by omega)]at hs;have h2:=aQ (l1.drop (m+2));have h3:=aQ (l1.take (m+2));rcases anC 0 (val (r1.drop (m+2)))with hc|hc
   ·have:=ane (show 1≤val (r1.drop (m+2)) by omega) (anO (cB (m+2)));omega
   ·have e:val (r1.drop (m+2))=0:=by omega
    rw[e]at hs;omega
  have hlX:(ah (val r1).toNat).length≤m+2:=dl (by omega);have hX:=bj (val r1).toNat
  have hXv:val (ah (val r1).toNat)=val r1:=by omega
  have hd0:0≤val r1/sc:=an9 h0 (by omega);have hd1:val r1/sc≤val r1:=aoW _ h0;have hXl:=b9 (ce (val r1).toNat);refine⟨r5,dig (ah (val r1).toNat).length (val r1/sc),⟨l5,ot _ _,rfl,by rw[ju];exact hlX,eQ.symm,by rw[eR,iq _ _ hd0 (by omega)]⟩,zZ _ _ _ _ _ ⟨0,?_⟩⟩;unfold uN
  rw[am7 (by omega),hN,hsc,aE,show(0:Int).toNat=0 from rfl,Nat.sub_zero,aoK,am5 (show(0:Int)≤0∧(0:Int)≤((m+2:Nat):Int)∧((m+2:Nat):Int)≤(r1.length:Int) by omega),ht,hXv,
   am5 (show aR (r1.take (m+2)) from⟨l1.take _,by rw[anR];omega⟩),am5 (show CJ (ah (val r1).toNat) sc from⟨⟨ce _,by omega⟩,hs1,by omega⟩)]
 |succ k ih=>
  intro r5 r1 l5 l1 hlen hsz hM hA hz hlt;have hk3:k+(m+2)+1≤r1.length:=by omega
  have hP:=cB k;have hr0:=aQ l1
  have hz1:val (r1.drop (k+(m+2)+1))=0:=by
   have hs:=ge r1 (k+(m+2)+1);rw[anT hk3]at hs;have h2:=aQ (l1.drop (k+(m+2)+1));have h3:=aQ (l1.take (k+(m+2)+1));rcases anC 0 (val (r1.drop (k+(m+2)+1)))with hc|hc
   ·exfalso;have e1:=ane (show 1≤val (r1.drop (k+(m+2)+1)) by omega) (anO (cB (k+(m+2)+1)));have e2:=ani (anO hVlt) (anO (cB (k+1)));rw[←fI,show m+2+(k+1)=k+(m+2)+1 by omega]at e2;omega
   ·omega
  have hw1:=JF hk3 hz1;have hwb:=Ly l1 hk3
  have hwlt:win k (m+2) r1<val v*1000000000:=by
   rcases anC (win k (m+2) r1) (val v*1000000000)with hc|hc
   ·exact hc
   ·exfalso;have e1:=ane hc (anO hP);have e2:=aQ (l1.take k);have e3:val v*pw (k+1)=pw k*(val v*1000000000):=by rw[cg];grind
    omega
  have K:=akq lv hvl l1 (show k+m+3≤r1.length by omega) htop hwlt;have htk:=b9 (l1.take k);rw[anR,anT (by omega)]at htk;have htk0:=aQ (l1.take k);have hk5:k<r5.length:=by omega
  have hr5:=hz k hk5 (by omega);have e1:i64.wrap ((k:Int)+((m+2:Nat):Int))=((k+(m+2):Nat):Int):=by rw[aT (by omega) (by omega)];simp
  have e2:i64.wrap (((k+(m+2):Nat):Int)+1)=((k+(m+2)+1:Nat):Int):=bW (by omega);have e3:k+(m+2)+1-k=m+2+1:=by omega
  have fin:∀(d:Int) (r:List Int),0≤d→d<1000000000→Lim r→r.length=r1.length→r.take k=r1.take k→r.drop (k+(m+2)+1)=r1.drop (k+(m+2)+1)→val r=val r1-pw k*(d*val v)→win k (m+2) r1-d*val v<val v→
    ∃qL rL,(Lim qL∧Lim rL∧qL.length=r5.length∧rL.length≤m+2∧val qL=A/val v∧val rL=A%val v/sc)∧gL.Runs 34 (qy b x2 ((k:Int)-1) (r5.set k d) r) [.d aqs qL,.d aqs rL]:=by
   intro d r d0 d1 lr hl ht hd hval hwd
   obtain⟨qL,rL,⟨a1,a2,a3,a4,a5,a6⟩,a7⟩:=ih (r5.set k d) r (l5.set k ⟨d0,d1⟩) lr (by simp;omega) (by omega) (by simp;omega) (by
     rw[fp hk5,hr5,hval,←hA];grind) (fun j hj hjk=>by rw[aor (by omega)];exact hz j (by simpa using hj) (by omega)) (by
     rw[hval,hw1];have e4:=ane (show win k (m+2) r1-d*val v≤val v-1 by omega) (anO hP);rw[Int.mul_sub,Int.mul_sub,app]at e4;rw[aoR (val v)];omega)
   exact⟨qL,rL,⟨a1,a2,by simpa using a3,a4,a5,a6⟩,a7⟩
  have wof:∀(r:List Int) (x:Int),Lim r→r.length=r1.length→r.take k=r1.take k→r.drop (k+(m+2)+1)=r1.drop (k+(m+2)+1)→val r=val r1+pw k*x→win k (m+2) r=win k (m+2) r1+x∧0≤win k (m+2) r∧win k (m+2) r<pw (m+2+1):=by
   intro r x lr hl ht hd hval;have h1:=JF (k:=k) (n:=m+2) (r:=r) (by omega) (by rw[hd];exact hz1);rw[ht]at h1;have h2:=Ly (k:=k) (n:=m+2) lr (by omega);refine⟨?_,h2⟩;have:pw k*win k (m+2) r=pw k*(win k (m+2) r1+x):=by rw[aqo];omega
   exact Int.eq_of_mul_eq_mul_left (by omega) this
  have hpw:pw (k+(m+2)+1)=pw k*pw (m+2+1):=by rw[←fI];congr 1
  have xt:=K.u2;have xt1:=K.u1;have xv:=K.v1;have hg0:0≤(r1[k+m+2]*1000000000+r1[k+m+1])/v[m+1]:=an9 (by omega) (by omega)
  have hg1:(r1[k+m+2]*1000000000+r1[k+m+1])/v[m+1]<2000000000:=aoz (by omega) (by
   have:=ane xv.1 (show(0:Int)≤2000000000 by decide);omega)
  have md:=anU (r1[k+m+2]*1000000000+r1[k+m+1]) v[m+1];have m0:=aom (r1[k+m+2]*1000000000+r1[k+m+1]) (show v[m+1]≠0 by omega);have m1:=anW (r1[k+m+2]*1000000000+r1[k+m+1]) (show 0<v[m+1] by omega)
  have key:∃qL rL,(Lim qL∧Lim rL∧qL.length=r5.length∧rL.length≤m+2∧val qL=A/val v∧val rL=A%val v/sc)∧gL.Runs 49 (nZ b x2 (k:Int) r1 r5 ((r1[k+m+2]*1000000000+r1[k+m+1])/v[m+1]) ((r1[k+m+2]*1000000000+r1[k+m+1])%v[m+1])) [.d aqs qL,.d aqs rL]:=by
   have hex:∃g,0≤g∧g<1000000000∧g*val v≤win k (m+2) r1∧win k (m+2) r1<(g+1)*val v:=by
    have h1:=anU (win k (m+2) r1) (val v);have h2:=aom (win k (m+2) r1) (show val v≠0 by omega);have h3:=anW (win k (m+2) r1) hV0;refine⟨win k (m+2) r1/val v,an9 hwb.1 (by omega),aoz hV0 (by rw[aoR];exact hwlt),?_,?_⟩
    ·rw[aoR];omega
    ·rw[Int.add_mul,aol,aoR];omega
   obtain⟨d,d0,d1,d2,d3⟩:=hex;have dv0:0≤d*val v:=an5 d0 (by omega)
   have hrow:∃r,Lim r∧r.length=r1.length∧r.take k=r1.take k∧r.drop (k+(m+2)+1)=r1.drop (k+(m+2)+1)∧val r=val r1-pw k*(d*val v):=by
    refine⟨r1.take k++(dig (m+2+1) (win k (m+2) r1-d*val v)++r1.drop (k+(m+2)+1)),(l1.take k).append ((ot _ _).append (l1.drop _)),by simp[ju];omega,?_,?_,?_⟩
    ·rw[List.take_append_of_le_length (by simp;omega),aqg,Nat.min_self]
    ·rw[←anx,List.drop_append_of_le_length (by simp[ju];omega),an1 (by simp[ju];omega),ap5]
    ·rw[dG,dG,hz1,iq _ _ (by omega) (by omega),anR,anT (by omega),hw1];grind
   obtain⟨rr,q1,q2,q3,q4,q5⟩:=hrow;obtain⟨qL,rL,hf,hrun⟩:=fin d rr d0 d1 q1 q2 q3 q4 q5 (by rw[Int.add_mul,aol]at d3;omega);refine⟨qL,rL,hf,FX b x2 v m hN hv lv hvl k r1 r5 (by omega) (by omega) _ K ?_ 2000000000 _ _ (by omega) hg0 (by omega) m0 (by omega) (by rw[aoR];omega) (K.first rfl)⟩;intro g g0 g1 hg2 hg3;have same:∀r,Lim r→r.length=r1.length→r.take k=r1.take k→r.drop (k+(m+2)+1)=r1.drop (k+(m+2)+1)→val r=val r1-pw k*(d*val v)→r=rr:=fun r a1 a2 a3 a4 a5=>BC a1 q1 (by omega) (by omega);refine NN b x2 v m hN hv lv hvl k r1 r5 g ⟨g0,g1⟩ hk3 (by omega) _ ?_ ?_ (m+2+1) 0 0 0 r1 (by omega) (by omega) (by omega) (fun _=>rfl) (by omega) (by omega) l1 rfl rfl rfl (by simp[val])
   ·intro r a1 a2 a3 a4 a5;obtain⟨w1,w2,w3⟩:=wof r (-(g*val v)) a1 a2 a3 a4 (by rw[a5,apZ];omega)
    have hgd:g=d:=by
     have h1:¬g<d:=fun hc=>by
      have:=ani (show g+1≤d by omega) (anO hV0);omega
     have h2:¬d<g:=fun hc=>by
      have:=ani (show d+1≤g by omega) (anO hV0);omega
     omega
    subst hgd;rw[same r a1 a2 a3 a4 a5];obtain⟨q,hq⟩:=hrun;refine⟨q,?_⟩;unfold dw;rw[hv,hN,e1,e2,aE,aE,e3,cd (anb _),am7 (show ¬(0:Int)>0 by decide),av r5 k,am6 hk5,c8 (x:=g) (by omega) (by omega),aT (x:=(k:Int)-1) (by omega) (by omega)];exact hq
   ·intro r a1 a2 a3 a4 a5;obtain⟨w1,w2,w3⟩:=wof r (-(g*val v)+pw (m+2+1)) a1 a2 a3 a4 (by rw[a5,hpw,aqo,apZ];omega);have hwg:win k (m+2) r1<g*val v:=by omega
    have hgd:g=d+1:=by
     have h1:¬g<d+1:=fun hc=>by
      have:=ani (show g≤d by omega) (anO hV0);omega
     have h2:¬d+1<g:=fun hc=>by
      have:=ani (show d+2≤g by omega) (anO hV0);rw[Int.add_mul]at this d3;omega
     omega
    subst hgd
    have hres:gL.Runs 5 (dL b x2 (k:Int) r5 (d+1) 0 0 r) [.d aqs qL,.d aqs rL]:=by
     refine OF b x2 v m hN hv lv hvl k r r5 (d+1) (by omega) (by omega) _ ?_ (m+2+1) 0 0 r (by omega) (by omega) (by omega) a1 rfl rfl rfl (by simp[val]);intro r' c b1 b2 b3 b4 c0 c1 b5;obtain⟨u1,u2,u3⟩:=wof r' (-((d+1)*val v)+pw (m+2+1)+val v-pw (m+2+1)*c) b1 (by omega) (b3.trans a3) (b4.trans a4) (by rw[b5,a5,hpw,Int.mul_sub,aqo,aqo,apZ];grind)
     have hc:c=1:=by
      rcases(show c=0∨c=1 by omega)with hc|hc
      ·exfalso;subst hc;rw[apl,Int.sub_zero]at u1;rw[Int.add_mul,aol]at u1;omega
      ·exact hc
     subst hc;rw[same r' b1 (by omega) (b3.trans a3) (b4.trans a4) (by rw[b5,a5];grind)];obtain⟨q,hq⟩:=hrun;refine⟨q,?_⟩;unfold eG;rw[hN,e1,e2,aE,aE,e3,cd (anb _),av r5 k,am6 hk5,show d+1-1=d by omega,bH (x:=d) (by omega) (by omega),c8 (x:=d) (by omega) (by omega),aT (x:=(k:Int)-1) (by omega) (by omega)];exact hq
    obtain⟨q,hq⟩:=hres;refine⟨q,?_⟩;unfold dw;rw[hv,hN,e1,e2,aE,aE,e3,cd (anb _),am5 (show(1:Int)>0 by decide),am5 (show(0:Int)≤(k:Int)∧(k:Int)≤((k+(m+2)+1:Nat):Int)∧((k+(m+2)+1:Nat):Int)≤(r.length:Int) by omega)];exact hq
  obtain⟨qL,rL,hf,q,hq⟩:=key;refine⟨qL,rL,hf,zZ _ _ _ _ _ ⟨q,?_⟩⟩;have e4:i64.wrap (((k+(m+2):Nat):Int)-1)=((k+m+1:Nat):Int):=by rw[aT (by omega) (by omega)];omega
  have e5:i64.wrap (((m+2:Nat):Int)-1)=((m+1:Nat):Int):=by rw[aT (by omega) (by omega)];omega
  unfold uN;rw[show((k+1:Nat):Int)-1=(k:Int) by omega,am5 (by omega),hv,hN,e1,e4,e5,av r1 (k+(m+2)),aE,am6 (show k+(m+2)<r1.length by omega),av r1 (k+m+1),aE,am6 (show k+m+1<r1.length by omega),av v (m+1),am6 (show m+1<v.length by omega)];dsimp only;rw[bH (x:=v[m+1]) (by omega) (by omega),am7 (show ¬v[m+1]=0 by omega)];dsimp only;have e6:r1[k+(m+2)]=r1[k+m+2]:=rfl;rw[e6,bH (x:=r1[k+m+2]) (by omega) (by omega),bH (x:=r1[k+m+1]) (by omega) (by omega),bH (x:=r1[k+m+2]*1000000000) (by omega) (by omega),bH (x:=r1[k+m+2]*1000000000+r1[k+m+1]) (by omega) (by omega),hU (by omega),jy (by omega),bH (x:=(r1[k+m+2]*1000000000+r1[k+m+1])/v[m+1]) (by omega) (by omega)];exact hq
end
end
end Go.Proofs.YtnkndpoojnflmaaGreat
end
