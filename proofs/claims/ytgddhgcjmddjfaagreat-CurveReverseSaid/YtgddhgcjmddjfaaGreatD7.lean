/- integer: plus, minus, times, byWord. -/
import Derived.Test.YtgddhgcjmddjfaaGreatD6
noncomputable section
namespace Go.Proofs.YtgddhgcjmddjfaaGreat
open Go.RowKit Go.IntKind
theorem avb:type_of% @Int.mul_le_mul_of_nonneg_right:=@Int.mul_le_mul_of_nonneg_right
theorem avC:type_of% @Int.emod_lt_of_pos:=@Int.emod_lt_of_pos
theorem avK:type_of% @Int.mul_ediv_add_emod:=@Int.mul_ediv_add_emod
theorem avX:type_of% @Int.mul_nonneg:=@Int.mul_nonneg
theorem av2:type_of% @Int.ediv_nonneg:=@Int.ediv_nonneg
theorem av4:type_of% @Int.emod_nonneg:=@Int.emod_nonneg
theorem awd:type_of% @Int.ediv_eq_zero_of_lt:=@Int.ediv_eq_zero_of_lt
theorem awn:type_of% @List.getElem_set_ne:=@List.getElem_set_ne
theorem awu:type_of% @Int.ediv_lt_of_lt_mul:=@Int.ediv_lt_of_lt_mul
theorem awC:type_of% @Int.mul_comm:=@Int.mul_comm
theorem awL:type_of% @Int.add_mul_ediv_left:=@Int.add_mul_ediv_left
theorem awV:type_of% @Int.add_mul_emod_self_left:=@Int.add_mul_emod_self_left
theorem aw2:type_of% @Int.mul_le_mul:=@Int.mul_le_mul
theorem aw7:type_of% @Int.emod_eq_of_lt:=@Int.emod_eq_of_lt
theorem aw8:type_of% @Int.mul_ediv_cancel_left:=@Int.mul_ediv_cancel_left
theorem axa:type_of% @Int.mul_zero:=@Int.mul_zero
theorem axK:type_of% @Int.add_zero:=@Int.add_zero
theorem axL:type_of% @Int.add_comm:=@Int.add_comm
theorem axX:type_of% @Int.one_mul:=@Int.one_mul
def ail:NT:=[((242,16),{keep:=[1,5,6,20,21,22],hl:=1})]
def HS:Ctx:=CX [] ail
def jT(s1 s20:List Int)(s21 s6 s22:Int)(r0:List Int):Cfg:=⟨242,[.blk 0,.seq 45],[(1,.d aya s1),(5,.own 0),(6,.d ayc s6),(20,.d aya s20),(21,SI s21),(22,SI s22)],[.row 180 ayc r0],0,[]⟩
def VK(a b:List Int)(k:KT):OLR:=match decide ((a.length:Int)<(b.length:Int))with|true=>(match decide ((0:Int)=0∧(0:Int)≤i64.wrap ((b.length:Int)+1)∧(i64.wrap ((b.length:Int)+1))*((4:Nat):Int)≤140737488355328∧i64.wrap ((b.length:Int)+1)≤140737488355328)with|true=>k 16 (jT a b (b.length:Int) 0 0 ([]:List Int))|false=>none)|false=>(match decide ((0:Int)=0∧(0:Int)≤i64.wrap ((a.length:Int)+1)∧(i64.wrap ((a.length:Int)+1))*((4:Nat):Int)≤140737488355328∧i64.wrap ((a.length:Int)+1)≤140737488355328)with|true=>k 16 (jT b a (a.length:Int) 0 0 ([]:List Int))|false=>none)
theorem ah6(a b:List Int):RS HS 242 [.d aya a,.d aya b] (VK a b):=rsX
def kp(s1 s20:List Int)(s21 s6 s22:Int)(r0:List Int)(k:KT):OLR:=match decide (s22<s21)with|true=>(match bi s20 s22 with|some x1=>(match decide (s22<(s1.length:Int))with|true=>(match bi s1 s22 with|some x2=>(match decide ((u32.wrap ((u32.wrap (x1+s6))+x2))≥1000000000)with|true=>(match decide ((r0.length+([u32.wrap ((u32.wrap ((u32.wrap (x1+s6))+x2))-1000000000)]).length)*4≤140737488355328∧r0.length+([u32.wrap ((u32.wrap ((u32.wrap (x1+s6))+x2))-1000000000)]).length≤140737488355328)with|true=>k 16 (jT s1 s20 s21 1 (i64.wrap (s22+1)) (r0++([u32.wrap ((u32.wrap ((u32.wrap (x1+s6))+x2))-1000000000)])))|false=>none)|false=>(match decide ((r0.length+([u32.wrap ((u32.wrap (x1+s6))+x2)]).length)*4≤140737488355328∧r0.length+([u32.wrap ((u32.wrap (x1+s6))+x2)]).length≤140737488355328)with|true=>k 16 (jT s1 s20 s21 0 (i64.wrap (s22+1)) (r0++([u32.wrap ((u32.wrap (x1+s6))+x2)])))|false=>none))|none=>none)|false=>(match decide ((u32.wrap (x1+s6))≥1000000000)with|true=>(match decide ((r0.length+([u32.wrap ((u32.wrap (x1+s6))-1000000000)]).length)*4≤140737488355328∧r0.length+([u32.wrap ((u32.wrap (x1+s6))-1000000000)]).length≤140737488355328)with|true=>k 16 (jT s1 s20 s21 1 (i64.wrap (s22+1)) (r0++([u32.wrap ((u32.wrap (x1+s6))-1000000000)])))|false=>none)|false=>(match decide ((r0.length+([u32.wrap (x1+s6)]).length)*4≤140737488355328∧r0.length+([u32.wrap (x1+s6)]).length≤140737488355328)with|true=>k 16 (jT s1 s20 s21 0 (i64.wrap (s22+1)) (r0++([u32.wrap (x1+s6)])))|false=>none)))|none=>none)|false=>(match decide ((r0.length+([s6]).length)*4≤140737488355328∧r0.length+([s6]).length≤140737488355328)with|true=>some [RV.new 180 ayc (r0++([s6]))]|false=>none)
theorem mW(s1 s20:List Int)(s21 s6 s22:Int)(r0:List Int):RN HS 16 (jT s1 s20 s21 s6 s22 r0) (kp s1 s20 s21 s6 s22 r0):=rnX
def ajd:NT:=[((243,10),{keep:=[1,5,6,13,14,15],hl:=1})]
def Gm:Ctx:=CX [] ajd
def lC(a b:List Int)(s6 s15:Int)(r0:List Int):Cfg:=⟨243,[.blk 0,.seq 39],[(1,.d aya b),(5,.own 0),(6,.d ayc s6),(13,.d aya a),(14,SI (a.length:Int)),(15,SI s15)],[.row 180 ayc r0],0,[]⟩
def afb(a b:List Int)(k:KT):OLR:=match decide ((0:Int)≤(a.length:Int)∧(a.length:Int)*((4:Nat):Int)≤140737488355328∧(a.length:Int)≤140737488355328)with|true=>k 10 (lC a b 0 0 (List.replicate ((a.length:Int)).toNat (0:Int)))|false=>none
theorem aow(a b:List Int):RS Gm 243 [.d aya a,.d aya b] (afb a b):=rsX
def ks(a b:List Int)(s6 s15:Int)(r0:List Int)(k:KT):OLR:=match decide (s15<(a.length:Int))with|true=>(match bi a s15 with|some x1=>(match decide (s15<(b.length:Int))with|true=>(match bi b s15 with|some x2=>(match decide (x1<(u32.wrap (s6+x2)))with|true=>(match bi r0 s15 with|some _=>(match true,r0[(s15).toNat]? with|true,some _=>k 10 (lC a b 1 (i64.wrap (s15+1)) (r0.set ((s15).toNat) (u32.wrap ((u32.wrap (x1+1000000000))-(u32.wrap (s6+x2))))))|_,_=>none)|none=>none)|false=>(match bi r0 s15 with|some _=>(match true,r0[(s15).toNat]? with|true,some _=>k 10 (lC a b 0 (i64.wrap (s15+1)) (r0.set ((s15).toNat) (u32.wrap (x1-(u32.wrap (s6+x2))))))|_,_=>none)|none=>none))|none=>none)|false=>(match decide (x1<s6)with|true=>(match bi r0 s15 with|some _=>(match true,r0[(s15).toNat]? with|true,some _=>k 10 (lC a b 1 (i64.wrap (s15+1)) (r0.set ((s15).toNat) (u32.wrap ((u32.wrap (x1+1000000000))-s6))))|_,_=>none)|none=>none)|false=>(match bi r0 s15 with|some _=>(match true,r0[(s15).toNat]? with|true,some _=>k 10 (lC a b 0 (i64.wrap (s15+1)) (r0.set ((s15).toNat) (u32.wrap (x1-s6))))|_,_=>none)|none=>none)))|none=>none)|false=>some [RV.new 180 ayc r0]
theorem m8(a b:List Int)(s6 s15:Int)(r0:List Int):RN Gm 10 (lC a b s6 s15 r0) (ks a b s6 s15 r0):=rnX
def akF:NT:=[((201,8),{keep:=[1,5,18,19,20],hl:=1}),((201,25),{keep:=[1,5,6,7,8,18,19,20,25,26,27],hl:=1})]
def zs:Ctx:=CX [] akF
def Ab(a b:List Int)(s20:Int)(r0:List Int):Cfg:=⟨201,[.blk 0,.seq 42],[(1,.d aya b),(5,.own 0),(18,.d aya a),(19,SI (a.length:Int)),(20,SI s20)],[.row 180 ayc r0],0,[]⟩
def wW(a b:List Int)(s20 x1 s8 s27:Int)(r0:List Int):Cfg:=⟨201,[.blk 2,.seq 40,.blk 1,.seq 41,.lp 8,.blk 0,.seq 42],[(1,.d aya b),(5,.own 0),(6,SI s20),(7,.d ayc x1),(8,.d (.int .u64) s8),(18,.d aya a),(19,SI (a.length:Int)),(20,SI s20),(25,.d aya b),(26,SI (b.length:Int)),(27,SI s27)],[.row 180 ayc r0],0,[]⟩
def afd(a b:List Int)(k:KT):OLR:=match decide ((0:Int)≤i64.wrap ((a.length:Int)+(b.length:Int))∧(i64.wrap ((a.length:Int)+(b.length:Int)))*((4:Nat):Int)≤140737488355328∧i64.wrap ((a.length:Int)+(b.length:Int))≤140737488355328)with|true=>k 8 (Ab a b 0 (List.replicate (i64.wrap ((a.length:Int)+(b.length:Int))).toNat (0:Int)))|false=>none
theorem ano(a b:List Int):RS zs 201 [.d aya a,.d aya b] (afd a b):=rsX
def zN(a b:List Int)(s20:Int)(r0:List Int)(k:KT):OLR:=match decide (s20<(a.length:Int))with|true=>(match bi a s20 with|some x1=>k 25 (wW a b s20 x1 0 0 r0)|none=>none)|false=>some [RV.new 180 ayc r0]
theorem HI(a b:List Int)(s20:Int)(r0:List Int):RN zs 8 (Ab a b s20 r0) (zN a b s20 r0):=rnX
def vZ(a b:List Int)(s20 x1 s8 s27:Int)(r0:List Int)(k:KT):OLR:=match decide (s27<(b.length:Int))with|true=>(match bi b s27 with|some x2=>(match bi r0 (i64.wrap (s20+s27))with|some _=>(match true,r0[(i64.wrap (s20+s27)).toNat]? with|true,some x3=>(match bi r0 (i64.wrap (s20+s27))with|some _=>(match true,r0[(i64.wrap (s20+s27)).toNat]? with|true,some _=>k 25 (wW a b s20 x1 (u64.wrap (Int.tdiv (u64.wrap ((u64.wrap ((u64.wrap x3)+(u64.wrap ((u64.wrap x1)*(u64.wrap x2)))))+s8)) 1000000000)) (i64.wrap (s27+1)) (r0.set ((i64.wrap (s20+s27)).toNat) (u32.wrap (Int.tmod (u64.wrap ((u64.wrap ((u64.wrap x3)+(u64.wrap ((u64.wrap x1)*(u64.wrap x2)))))+s8)) 1000000000))))|_,_=>none)|none=>none)|_,_=>none)|none=>none)|none=>none)|false=>(match bi r0 (i64.wrap (s20+(b.length:Int)))with|some _=>(match true,r0[(i64.wrap (s20+(b.length:Int))).toNat]? with|true,some _=>k 8 (Ab a b (i64.wrap (s20+1)) (r0.set ((i64.wrap (s20+(b.length:Int))).toNat) (u32.wrap s8)))|_,_=>none)|none=>none)
theorem B9(a b:List Int)(s20 x1 s8 s27:Int)(r0:List Int):RN zs 25 (wW a b s20 x1 s8 s27 r0) (vZ a b s20 x1 s8 s27 r0):=rnX
def akt:NT:=[((269,10),{keep:=[0,1,6,7,8],hl:=1})]
def Md:Ctx:=CX [] akt
def xy(a:List Int)(b s7 s8:Int)(r0:List Int):Cfg:=⟨269,[.blk 0,.seq 23],[(0,.d aya a),(1,.d ayc b),(6,.own 0),(7,.d (.int .u64) s7),(8,SI s8)],[.row 180 ayc r0],0,[]⟩
def ahC(a:List Int)(b:Int)(k:KT):OLR:=match decide ((0:Int)≤(a.length:Int)∧(a.length:Int)*((4:Nat):Int)≤140737488355328∧(a.length:Int)≤140737488355328)with|true=>k 10 (xy a b 0 (i64.wrap ((a.length:Int)-1)) (List.replicate ((a.length:Int)).toNat (0:Int)))|false=>none
theorem arI(a:List Int)(b:Int):RS Md 269 [.d aya a,.d ayc b] (ahC a b):=rsX
def u6(a:List Int)(b s7 s8:Int)(r0:List Int)(k:KT):OLR:=match decide (s8≥0)with|true=>(match bi a s8 with|some x1=>(match decide (u64.wrap b=(0:Int))with|true=>none|false=>(match decide (u64.wrap b=(0:Int))with|true=>none|false=>(match bi r0 s8 with|some _=>(match true,r0[(s8).toNat]? with|true,some _=>k 10 (xy a b (Int.tmod (u64.wrap ((u64.wrap (s7*1000000000))+(u64.wrap x1))) (u64.wrap b)) (i64.wrap (s8-1)) (r0.set ((s8).toNat) (u32.wrap (u64.wrap (Int.tdiv (u64.wrap ((u64.wrap (s7*1000000000))+(u64.wrap x1))) (u64.wrap b))))))|_,_=>none)|none=>none)))|none=>none)|false=>some [RV.d aya r0,RV.d aya ([u32.wrap s7])]
theorem BG(a:List Int)(b s7 s8:Int)(r0:List Int):RN Md 10 (xy a b s7 s8 r0) (u6 a b s7 s8 r0):=rnX
theorem kg{b:List Int}{i:Nat}(h:b.length≤i):b.take (i+1)=b.take i:=by rw[avO (by omega),avO h]
theorem tY{n:Nat}(h:n≤4000000000):decide ((0:Int)≤(n:Int)∧(n:Int)*((4:Nat):Int)≤140737488355328∧(n:Int)≤140737488355328)=true:=auO ⟨by omega,by omega,by omega⟩
theorem Qs{m:Nat}(h:m≤4000000000):decide ((m+1)*4≤140737488355328∧m+1≤140737488355328)=true:=auO ⟨by omega,by omega⟩
theorem E5(a b:List Int)(ha:bj a)(hb:bj b)(hab:b.length≤a.length):∀(j i:Nat) (c:Int) (r:List Int),i+j=a.length→0≤c→c≤1→Lim r→r.length=i→val r+pw i*c=val (a.take i)+val (b.take i)→
  HS.Runs 16 (jT b a (a.length:Int) c (i:Int) r) [.new 180 ayc (dig (a.length+1) (val a+val b))]:=by
 have hsa:=ha.2
 intro j
 induction j with
 |zero=>
  intro i c r hi c0 c1 hr hl hv
  obtain rfl:i=a.length:=by omega
  refine mW _ _ _ _ _ _ ⟨0,?_⟩
  unfold kp
  rw[cz (auY _)]
  simp only[avk]
  rw[Qs (by omega)]
  have e:r++[c]=dig (a.length+1) (val a+val b):=by
   refine C6 (hr.append (Lim.cons ⟨c0,by omega⟩ Lim.nil)) (by simp[hl]) ?_
   rw[dH,hl]
   rw[av8,avO hab]at hv
   simp only[val,axa,axK]
   omega
  rw[e]
 |succ j ih=>
  intro i c r hi c0 c1 hr hl hv
  have hia:i<a.length:=by omega
  have xa:=ha.1.get hia
  have hp:=ct i
  have step:∀(y c':Int),0≤y→y<1000000000→0≤c'→c'≤1→val (b.take (i+1))=val (b.take i)+pw i*(y+1000000000*c'-a[i]-c)→HS.Runs 16 (jT b a (a.length:Int) c' ((i+1:Nat):Int) (r++[y])) [.new 180 ayc (dig (a.length+1) (val a+val b))]:=by
   intro y c' y0 y1 k0 k1 hb'
   refine ih (i+1) c' (r++[y]) (by omega) k0 k1 (hr.append (Lim.cons ⟨y0,y1⟩ Lim.nil)) (by simp[hl]) ?_
   rw[dH,hl,bJ hia,hb',cD]
   simp only[val]
   grind
  by_cases hib:i<b.length
  ·have xb:=hb.1.get hib
   have ht:=bJ hib
   by_cases hc:a[i]+c+b[i]≥1000000000
   ·obtain⟨q,hq⟩:=step (a[i]+c+b[i]-1000000000) 1 (by omega) (by omega) (by omega) (by omega) (by rw[ht];grind)
    refine mW _ _ _ _ _ _ ⟨q,?_⟩
    unfold kp
    rw[cd hia,aA,auP hia,cd hib,aA,auP hib]
    dsimp only
    rw[dm (x:=a[i]+c) (by omega) (by omega),dm (x:=a[i]+c+b[i]) (by omega) (by omega),auO hc,dm (x:=a[i]+c+b[i]-1000000000) (by omega) (by omega),cr (by omega)]
    simp only[avk]
    rw[Qs (by omega)]
    exact hq
   ·obtain⟨q,hq⟩:=step (a[i]+c+b[i]) 0 (by omega) (by omega) (by omega) (by omega) (by rw[ht];grind)
    refine mW _ _ _ _ _ _ ⟨q,?_⟩
    unfold kp
    rw[cd hia,aA,auP hia,cd hib,aA,auP hib]
    dsimp only
    rw[dm (x:=a[i]+c) (by omega) (by omega),dm (x:=a[i]+c+b[i]) (by omega) (by omega),auQ hc,cr (by omega)]
    simp only[avk]
    rw[Qs (by omega)]
    exact hq
  ·have ht:=kg (b:=b) (i:=i) (by omega)
   by_cases hc:a[i]+c≥1000000000
   ·obtain⟨q,hq⟩:=step (a[i]+c-1000000000) 1 (by omega) (by omega) (by omega) (by omega) (by rw[ht];grind)
    refine mW _ _ _ _ _ _ ⟨q,?_⟩
    unfold kp
    rw[cd hia,aA,auP hia,cz (show b.length≤i by omega)]
    dsimp only
    rw[dm (x:=a[i]+c) (by omega) (by omega),auO hc,dm (x:=a[i]+c-1000000000) (by omega) (by omega),cr (by omega)]
    simp only[avk]
    rw[Qs (by omega)]
    exact hq
   ·obtain⟨q,hq⟩:=step (a[i]+c) 0 (by omega) (by omega) (by omega) (by omega) (by rw[ht];grind)
    refine mW _ _ _ _ _ _ ⟨q,?_⟩
    unfold kp
    rw[cd hia,aA,auP hia,cz (show b.length≤i by omega)]
    dsimp only
    rw[dm (x:=a[i]+c) (by omega) (by omega),auQ hc,cr (by omega)]
    simp only[avk]
    rw[Qs (by omega)]
    exact hq
theorem abm(a b:List Int)(h:bj a∧bj b):Con Tryz.prog 242 [.d aya a,.d aya b] [.new 180 ayc (dig (max a.length b.length+1) (val a+val b))]:=by
 refine aO (E:=[]) trivial (show HS.Res _ _ _ from ?_)
 obtain⟨ha,hb⟩:=h
 have hsa:=ha.2
 have hsb:=hb.2
 have mk:∀n:Nat,n≤1000000000→decide ((0:Int)=0∧(0:Int)≤i64.wrap ((n:Int)+1)∧i64.wrap ((n:Int)+1)*((4:Nat):Int)≤140737488355328∧i64.wrap ((n:Int)+1)≤140737488355328)=true:=fun n hn=>by
  rw[cr (by omega)]
  exact auO ⟨rfl,by omega,by omega,by omega⟩
 by_cases hc:a.length<b.length
 ·obtain⟨q,hq⟩:=E5 b a hb ha (by omega) b.length 0 0 [] (by omega) (by omega) (by omega) Lim.nil rfl (by simp[val])
  refine ah6 _ _ ⟨q,?_⟩
  unfold VK
  rw[cd hc,mk _ hsb,Nat.max_eq_right (by omega),axL (val a)]
  exact hq
 ·obtain⟨q,hq⟩:=E5 a b ha hb (by omega) a.length 0 0 [] (by omega) (by omega) (by omega) Lim.nil rfl (by simp[val])
  refine ah6 _ _ ⟨q,?_⟩
  unfold VK
  rw[cz (by omega),mk _ hsa,Nat.max_eq_left (by omega)]
  exact hq
theorem pc{r:List Int}{i:Nat}{y:Int}(hz:∀j (hj:j<r.length),i≤j→r[j]=0):∀j (hj:j<(r.set i y).length),i+1≤j→(r.set i y)[j]=0:=fun j hj hk=>by
 rw[awn (by omega)]
 exact hz j (by simpa using hj) (by omega)
theorem Ra(a b:List Int)(ha:bj a)(hb:bj b)(hle:val b≤val a)(_hab:b.length≤a.length∨True):∀(j i:Nat) (c:Int) (r:List Int),i+j=a.length→0≤c→c≤1→Lim r→r.length=a.length→(∀k (hk:k<r.length),i≤k→r[k]=0)→val r+val (b.take i)=val (a.take i)+pw i*c→
  Gm.Runs 10 (lC a b c (i:Int) r) [.new 180 ayc (dig a.length (val a-val b))]:=by
 have hsa:=ha.2
 intro j
 induction j with
 |zero=>
  intro i c r hi c0 c1 hr hl hz hv
  obtain rfl:i=a.length:=by omega
  refine m8 _ _ _ _ _ ⟨0,?_⟩
  unfold ks
  rw[cz (auY _)]
  have hrl:=cA hr
  rw[hl]at hrl
  have hb2:val b=val (b.take a.length)+pw (min a.length b.length)*val (b.drop a.length):=fX b a.length
  have hbd:0≤val (b.drop a.length):=bg (hb.1.drop _)
  have hal:=cA ha.1
  have hbt:=bg (hb.1.take a.length)
  rw[av8]at hv
  have hz0:val (b.drop a.length)=0:=by
   rcases avo a.length b.length with h1|h1
   ·rw[avy (by omega)]at hb2
    rcases avt 0 (val (b.drop a.length))with h2|h2
    ·have hp:=ct a.length
     have:=au3 (show 1≤val (b.drop a.length) by omega) (avA hp)
     omega
    ·omega
   ·rw[avU h1];rfl
  rw[hz0,axa,axK]at hb2
  have hc0:c=0:=by
   have hp:=ct a.length
   rcases(show c=0∨c=1 by omega)with h|h
   ·exact h
   ·subst h;rw[axf]at hv;omega
  subst hc0
  rw[axa]at hv
  rw[←C6 hr hl (show val r=val a-val b by omega)]
 |succ j ih=>
  intro i c r hi c0 c1 hr hl hz hv
  have hia:i<a.length:=by omega
  have hir:i<r.length:=by omega
  have xa:=ha.1.get hia
  have hr0:=hz i hir (auY _)
  have step:∀(y c':Int),0≤y→y<1000000000→0≤c'→c'≤1→val (b.take (i+1))=val (b.take i)+pw i*(a[i]+1000000000*c'-y-c)→Gm.Runs 10 (lC a b c' ((i+1:Nat):Int) (r.set i y)) [.new 180 ayc (dig a.length (val a-val b))]:=by
   intro y c' y0 y1 k0 k1 hb'
   refine ih (i+1) c' (r.set i y) (by omega) k0 k1 (hr.set i ⟨y0,y1⟩) (by simpa using hl) (pc hz) ?_
   rw[fx hir,hr0,bJ hia,hb',cD]
   grind
  by_cases hib:i<b.length
  ·have xb:=hb.1.get hib
   have ht:=bJ hib
   by_cases hc:a[i]<c+b[i]
   ·obtain⟨q,hq⟩:=step (a[i]+1000000000-(c+b[i])) 1 (by omega) (by omega) (by omega) (by omega) (by rw[ht];grind)
    refine m8 _ _ _ _ _ ⟨q,?_⟩
    unfold ks
    rw[cd hia,aA,auP hia,cd hib,aA,auP hib,aA,aP,auP hir]
    dsimp only
    rw[dm (x:=c+b[i]) (by omega) (by omega),auO hc,dm (x:=a[i]+1000000000) (by omega) (by omega),dm (x:=a[i]+1000000000-(c+b[i])) (by omega) (by omega),cr (by omega)]
    exact hq
   ·obtain⟨q,hq⟩:=step (a[i]-(c+b[i])) 0 (by omega) (by omega) (by omega) (by omega) (by rw[ht];grind)
    refine m8 _ _ _ _ _ ⟨q,?_⟩
    unfold ks
    rw[cd hia,aA,auP hia,cd hib,aA,auP hib,aA,aP,auP hir]
    dsimp only
    rw[dm (x:=c+b[i]) (by omega) (by omega),auQ hc,dm (x:=a[i]-(c+b[i])) (by omega) (by omega),cr (by omega)]
    exact hq
  ·have ht:=kg (b:=b) (i:=i) (by omega)
   by_cases hc:a[i]<c
   ·obtain⟨q,hq⟩:=step (a[i]+1000000000-c) 1 (by omega) (by omega) (by omega) (by omega) (by rw[ht];grind)
    refine m8 _ _ _ _ _ ⟨q,?_⟩
    unfold ks
    rw[cd hia,aA,auP hia,cz (show b.length≤i by omega),aA r i,aP,auP hir]
    dsimp only
    rw[auO hc,dm (x:=a[i]+1000000000) (by omega) (by omega),dm (x:=a[i]+1000000000-c) (by omega) (by omega),cr (by omega)]
    exact hq
   ·obtain⟨q,hq⟩:=step (a[i]-c) 0 (by omega) (by omega) (by omega) (by omega) (by rw[ht];grind)
    refine m8 _ _ _ _ _ ⟨q,?_⟩
    unfold ks
    rw[cd hia,aA,auP hia,cz (show b.length≤i by omega),aA r i,aP,auP hir]
    dsimp only
    rw[auQ hc,dm (x:=a[i]-c) (by omega) (by omega),cr (by omega)]
    exact hq
def nP(a b:List Int):Prop:=bj a∧bj b∧val b≤val a
instance (a b:List Int):Decidable (nP a b):=by unfold nP;infer_instance
theorem adn(a b:List Int)(h:nP a b):Con Tryz.prog 243 [.d aya a,.d aya b] [.new 180 ayc (dig a.length (val a-val b))]:=by
 refine aO (E:=[]) trivial (show Gm.Res _ _ _ from ?_)
 obtain⟨ha,hb,hle⟩:=h
 have hsa:=ha.2
 obtain⟨q,hq⟩:=Ra a b ha hb hle (.inr trivial) a.length 0 0 (List.replicate a.length 0) (by omega) (by omega) (by omega) (Lim.rep _) (by simp) (fun k hk _=>by simp) (by simp[val,gI])
 refine aow _ _ ⟨q,?_⟩
 unfold afb
 rw[tY (by omega),aP]
 exact hq
theorem IL{r x y c:Int}(hr:0≤r∧r<1000000000)(hx:0≤x∧x<1000000000)(hy:0≤y∧y<1000000000)(hc:0≤c∧c<1000000000):0≤x*y∧x*y≤999999998000000001∧0≤(r+x*y+c)/1000000000∧(r+x*y+c)/1000000000<1000000000:=by
 have h1:0≤x*y:=avX hx.1 hy.1
 have h2:x*y≤999999999*999999999:=aw2 (by omega) (by omega) hy.1 (by decide)
 omega
theorem Pe(a b:List Int)(ha:bj a)(hb:bj b)(i:Nat)(hi:i<a.length)
  (hout:∀r,Lim r→r.length=a.length+b.length→(∀k (hk:k<r.length),i+1+b.length≤k→r[k]=0)→val r=val (a.take (i+1))*val b→zs.Runs 8 (Ab a b ((i+1:Nat):Int) r) [.new 180 ayc (dig (a.length+b.length) (val a*val b))]):
  ∀(j k:Nat) (c:Int) (r:List Int),k+j=b.length→0≤c→c<1000000000→Lim r→r.length=a.length+b.length→(∀q (hq:q<r.length),i+b.length≤q→r[q]=0)→val r+pw (i+k)*c=val (a.take i)*val b+pw i*a[i]*val (b.take k)→
  zs.Runs 25 (wW a b (i:Int) a[i] c (k:Int) r) [.new 180 ayc (dig (a.length+b.length) (val a*val b))]:=by
 have hsa:=ha.2
 have hsb:=hb.2
 have xa:=ha.1.get hi
 intro j
 induction j with
 |zero=>
  intro k c r hk c0 c1 hr hl hz hv
  obtain rfl:k=b.length:=by omega
  have hir:i+b.length<r.length:=by omega
  have hr0:=hz _ hir (auY _)
  obtain⟨q,hq⟩:=hout (r.set (i+b.length) c) (hr.set _ ⟨c0,c1⟩) (by simpa using hl) (by rw[show i+1+b.length=i+b.length+1 by omega];exact pc hz) (by
   rw[fx hir,hr0,bJ hi]
   rw[av8]at hv
   grind)
  refine B9 _ _ _ _ _ _ _ ⟨q,?_⟩
  have hw:i64.wrap ((i:Int)+(b.length:Int))=((i+b.length:Nat):Int):=by rw[bz (by omega) (by omega)];simp
  unfold vZ
  rw[cz (auY _),hw,aA r (i+b.length),aP,auP hir,dm (x:=c) (by omega) (by omega),cr (k:=i) (by omega)]
  exact hq
 |succ j ih=>
  intro k c r hk c0 c1 hr hl hz hv
  have hkb:k<b.length:=by omega
  have hir:i+k<r.length:=by omega
  have xb:=hb.1.get hkb
  have xr:=hr.get hir
  have hbd:=IL xr xa xb ⟨c0,c1⟩
  obtain⟨q,hq⟩:=ih (k+1) ((r[i+k]+a[i]*b[k]+c)/1000000000) (r.set (i+k) ((r[i+k]+a[i]*b[k]+c)%1000000000)) (by omega) hbd.2.2.1 hbd.2.2.2 (hr.set _ (by omega)) (by simpa using hl)
   (fun m hm hq=>by rw[awn (by omega)];exact hz m (by simpa using hm) hq) (by
    rw[fx hir,bJ hkb,show i+(k+1)=i+k+1 by omega,cD,fI]
    rw[fI]at hv
    have e:=Int.emod_add_mul_ediv (r[i+k]+a[i]*b[k]+c) 1000000000
    grind)
  refine B9 _ _ _ _ _ _ _ ⟨q,?_⟩
  have hw:i64.wrap ((i:Int)+(k:Int))=((i+k:Nat):Int):=by rw[bz (by omega) (by omega)];simp
  unfold vZ
  rw[cd hkb,aA b k,auP hkb,hw,aA r (i+k),aP,auP hir]
  dsimp only
  rw[b8 (x:=r[i+k]) (by omega) (by omega),b8 (x:=a[i]) (by omega) (by omega),b8 (x:=b[k]) (by omega) (by omega),b8 (x:=a[i]*b[k]) (by omega) (by omega),b8 (x:=r[i+k]+a[i]*b[k]) (by omega) (by omega),b8 (x:=r[i+k]+a[i]*b[k]+c) (by omega) (by omega),gu (a:=r[i+k]+a[i]*b[k]+c) (by omega),jA (a:=r[i+k]+a[i]*b[k]+c) (by omega),b8 (x:=(r[i+k]+a[i]*b[k]+c)/1000000000) (by omega) (by omega),dm (x:=(r[i+k]+a[i]*b[k]+c)%1000000000) (by omega) (by omega),cr (k:=k) (by omega)]
  exact hq
theorem OP(a b:List Int)(ha:bj a)(hb:bj b):∀(j i:Nat) (r:List Int),i+j=a.length→Lim r→r.length=a.length+b.length→(∀k (hk:k<r.length),i+b.length≤k→r[k]=0)→val r=val (a.take i)*val b→
  zs.Runs 8 (Ab a b (i:Int) r) [.new 180 ayc (dig (a.length+b.length) (val a*val b))]:=by
 have hsa:=ha.2
 intro j
 induction j with
 |zero=>
  intro i r hi hr hl hz hv
  obtain rfl:i=a.length:=by omega
  refine HI _ _ _ _ ⟨0,?_⟩
  unfold zN
  rw[av8]at hv
  rw[cz (auY _),←C6 hr hl hv]
 |succ j ih=>
  intro i r hi hr hl hz hv
  have hia:i<a.length:=by omega
  obtain⟨q,hq⟩:=Pe a b ha hb i hia (fun r' h1 h2 h3 h4=>ih (i+1) r' (by omega) h1 h2 h3 h4) b.length 0 0 r (by omega) (by omega) (by omega) hr hl hz (by simp[val,hv])
  refine HI _ _ _ _ ⟨q,?_⟩
  unfold zN
  rw[cd hia,aA,auP hia]
  exact hq
theorem ab5(a b:List Int)(h:bj a∧bj b):Con Tryz.prog 201 [.d aya a,.d aya b] [.new 180 ayc (dig (a.length+b.length) (val a*val b))]:=by
 refine aO (E:=[]) trivial (show zs.Res _ _ _ from ?_)
 obtain⟨ha,hb⟩:=h
 have hsa:=ha.2
 have hsb:=hb.2
 obtain⟨q,hq⟩:=OP a b ha hb a.length 0 (List.replicate (a.length+b.length) 0) (by omega) (Lim.rep _) (by simp) (fun k hk _=>by simp) (by simp[val,gI])
 refine ano _ _ ⟨q,?_⟩
 have hw:i64.wrap ((a.length:Int)+(b.length:Int))=((a.length+b.length:Nat):Int):=by rw[bz (by omega) (by omega)];simp
 unfold afd
 rw[hw,tY (by omega),aP]
 exact hq
theorem ZJ(a:List Int)(b:Int)(ha:bj a)(hb:1≤b∧b<1000000000):∀(n:Nat) (c:Int) (r:List Int),n≤a.length→0≤c→c<b→Lim r→r.length=a.length→(∀k (hk:k<r.length),k<n→r[k]=0)→b*val r+pw n*c+val (a.take n)=val a→
  Md.Runs 10 (xy a b c ((n:Int)-1) r) [.d aya (dig a.length (val a/b)),.d aya [val a%b]]:=by
 have hsa:=ha.2
 intro n
 induction n with
 |zero=>
  intro c r hn c0 c1 hr hl hz hv
  simp only[nW,List.take_zero,val,axX,axK]at hv
  have e1:val a%b=c:=by
   rw[←hv,axL,awV]
   exact aw7 c0 c1
  have e2:val a/b=val r:=by
   rw[←hv,axL,awL _ _ (by omega),awd c0 c1]
   omega
  refine BG _ _ _ _ _ ⟨0,?_⟩
  unfold u6
  rw[auQ (by omega),e1,e2,←C6 hr hl rfl,dm (x:=c) (by omega) (by omega)]
 |succ n ih=>
  intro c r hn c0 c1 hr hl hz hv
  have hna:n<a.length:=by omega
  have hnr:n<r.length:=by omega
  have xa:=ha.1.get hna
  have hr0:=hz n hnr (by omega)
  have hcb:0≤c*1000000000+a[n]:=by omega
  have m0:=av4 (c*1000000000+a[n]) (show b≠0 by omega)
  have m1:=avC (c*1000000000+a[n]) (show 0<b by omega)
  have md:=avK (c*1000000000+a[n]) b
  have d0:0≤(c*1000000000+a[n])/b:=av2 hcb (by omega)
  have d1:(c*1000000000+a[n])/b<1000000000:=by
   refine awu (by omega) ?_
   have:=avb (show c+1≤b by omega) (show(0:Int)≤1000000000 by decide)
   rw[awC 1000000000 b]
   omega
  obtain⟨q,hq⟩:=ih ((c*1000000000+a[n])%b) (r.set n ((c*1000000000+a[n])/b)) (by omega) m0 m1 (hr.set n ⟨d0,d1⟩) (by simpa using hl)
   (fun k hk hkn=>by rw[awn (by omega)];exact hz k (by simpa using hk) (by omega)) (by
    rw[fx hnr,hr0]
    rw[bJ hna,cD]at hv
    grind)
  refine BG _ _ _ _ _ ⟨q,?_⟩
  unfold u6
  rw[show((n+1:Nat):Int)-1=(n:Int) by omega,auO (by omega),aA a n,auP hna,b8 (x:=b) (by omega) (by omega),auQ (show ¬b=0 by omega),aA r n,aP,auP hnr]
  dsimp only
  rw[b8 (x:=c*1000000000) (by omega) (by omega),b8 (x:=a[n]) (by omega) (by omega),b8 (x:=c*1000000000+a[n]) (by omega) (by omega),gu hcb,jA hcb,b8 (x:=(c*1000000000+a[n])/b) (by omega) (by omega),dm (x:=(c*1000000000+a[n])/b) (by omega) (by omega),bz (x:=(n:Int)-1) (by omega) (by omega)]
  exact hq
def F9(a:List Int)(b:Int):Prop:=bj a∧1≤b∧b<1000000000
instance (a:List Int) (b:Int):Decidable (F9 a b):=by unfold F9;infer_instance
theorem aaJ(a:List Int)(b:Int)(h:F9 a b):Con Tryz.prog 269 [.d aya a,.d ayc b] [.d aya (dig a.length (val a/b)),.d aya [val a%b]]:=by
 refine aO (E:=[]) trivial (show Md.Res _ _ _ from ?_)
 obtain⟨ha,hb⟩:=h
 have hsa:=ha.2
 obtain⟨q,hq⟩:=ZJ a b ha hb a.length 0 (List.replicate a.length 0) (auY _) (by omega) (by omega) (Lim.rep _) (by simp) (fun k hk _=>by simp) (by simp[gI])
 refine arI _ _ ⟨q,?_⟩
 unfold ahC
 rw[tY (by omega),aP,bz (x:=(a.length:Int)-1) (by omega) (by omega)]
 exact hq
def Js:aM:=spN true false [aya,aya] (fun x=>decide (bj x.1∧bj x.2.1)) (fun x=>[RV.new 180 ayc (dig (max x.1.length x.2.1.length+1) (val x.1+val x.2.1))])
theorem Gc:SpK 242 Js:=spX fun x h=>abm x.1 x.2.1 (auN h)
def Kg:aM:=spN true false [aya,aya] (fun x=>decide (nP x.1 x.2.1)) (fun x=>[RV.new 180 ayc (dig x.1.length (val x.1-val x.2.1))])
theorem E7:SpK 243 Kg:=spX fun x h=>adn x.1 x.2.1 (auN h)
def Jp:aM:=spN true false [aya,aya] (fun x=>decide (bj x.1∧bj x.2.1)) (fun x=>[RV.new 180 ayc (dig (x.1.length+x.2.1.length) (val x.1*val x.2.1))])
theorem E1:SpK 201 Jp:=spX fun x h=>ab5 x.1 x.2.1 (auN h)
def U4:aM:=spN false false [aya,ayc] (fun x=>decide (F9 x.1 x.2.1)) (fun x=>[RV.d aya (dig x.1.length (val x.1/x.2.1)),RV.d aya ([val x.1%x.2.1])])
theorem U1:SpK 269 U4:=spX fun x h=>aaJ x.1 x.2.1 (auN h)
def Id:aM:=spN true false [aya,aya] (fun x=>decide (bj x.1∧bj x.2.1)) (fun x=>[RV.d ayb (cJ (val x.1) (val x.2.1))])
theorem HR:SpK 199 Id:=spX fun x h=>adJ x.1 x.2.1 (auN h)
def RK:Env:=[(244,Ie),(242,Js),(243,Kg),(201,Jp),(269,U4),(199,Id)]
theorem PS:EnvAll Tryz.prog RK:=⟨Gj,Gc,E7,E1,U1,HR,trivial⟩
def alD:NT:=[((247,34),{keep:=[6,7,8,9,10,11],hl:=6}),((247,49),{keep:=[6,7,8,9,10,11,13,14],hl:=6}),((270,8),{keep:=[0,1,2,7,8,14,15],hl:=6}),((271,5),{keep:=[0,1,4,8,9],hl:=6}),((247,68),{keep:=[6,7,8,9,10,11,13,151],hl:=0}),((247,72),{keep:=[6,7,8,9,10,11,13],hl:=0})]
def gr:Ctx:=CX RK alD
def qY(b:List Int)(x2 s11:Int)(r5 r1:List Int):Cfg:=⟨247,[.blk 0,.seq 76],[(6,SI ((ah (val b).toNat).length:Int)),(7,.d ayc (u32.wrap (u64.wrap (Int.tdiv 1000000000 (u64.wrap ((u64.wrap x2)+1)))))),(8,.own 1),(9,.d aya (ah (val (dig ((ah (val b).toNat).length+([u32.wrap (u64.wrap (Int.tdiv 1000000000 (u64.wrap ((u64.wrap x2)+1))))]).length) (val (ah (val b).toNat)*val ([u32.wrap (u64.wrap (Int.tdiv 1000000000 (u64.wrap ((u64.wrap x2)+1))))])))).toNat)),(10,.own 5),(11,SI s11)],[.row 180 ayc ([u32.wrap (u64.wrap (Int.tdiv 1000000000 (u64.wrap ((u64.wrap x2)+1))))]),.row 180 ayc r1,.row 180 ayc ([0]),.row 180 ayc ([u32.wrap (u64.wrap (Int.tdiv 1000000000 (u64.wrap ((u64.wrap x2)+1))))]),.gone,.row 180 ayc r5],0,[]⟩
def nX(b:List Int)(x2 s11:Int)(r1 r5:List Int)(s13 s14:Int):Cfg:=⟨247,[.blk 2,.seq 66,.blk 1,.seq 75,.lp 34,.blk 0,.seq 76],[(6,SI ((ah (val b).toNat).length:Int)),(7,.d ayc (u32.wrap (u64.wrap (Int.tdiv 1000000000 (u64.wrap ((u64.wrap x2)+1)))))),(8,.own 1),(9,.d aya (ah (val (dig ((ah (val b).toNat).length+([u32.wrap (u64.wrap (Int.tdiv 1000000000 (u64.wrap ((u64.wrap x2)+1))))]).length) (val (ah (val b).toNat)*val ([u32.wrap (u64.wrap (Int.tdiv 1000000000 (u64.wrap ((u64.wrap x2)+1))))])))).toNat)),(10,.own 5),(11,SI s11),(13,.d (.int .u64) s13),(14,.d (.int .u64) s14)],[.row 180 ayc ([u32.wrap (u64.wrap (Int.tdiv 1000000000 (u64.wrap ((u64.wrap x2)+1))))]),.row 180 ayc r1,.row 180 ayc ([0]),.row 180 ayc ([u32.wrap (u64.wrap (Int.tdiv 1000000000 (u64.wrap ((u64.wrap x2)+1))))]),.gone,.row 180 ayc r5],0,[]⟩
def dg(b:List Int)(x2 s11:Int)(r5:List Int)(s270_2 f270_0_13 s270_7 s270_8 s270_15:Int)(r270_1:List Int):Cfg:=⟨270,[.blk 0,.seq 43],[(0,.osl 1 1 ((s11:Int).toNat) ((i64.wrap ((i64.wrap (s11+((ah (val b).toNat).length:Int)))+1):Int).toNat-(s11:Int).toNat)),(1,.d aya (ah (val (dig ((ah (val b).toNat).length+([u32.wrap (u64.wrap (Int.tdiv 1000000000 (u64.wrap ((u64.wrap x2)+1))))]).length) (val (ah (val b).toNat)*val ([u32.wrap (u64.wrap (Int.tdiv 1000000000 (u64.wrap ((u64.wrap x2)+1))))])))).toNat)),(2,.d (.int .u64) s270_2),(7,.d (.int .u64) s270_7),(8,.d (.int .u64) s270_8),(14,SI (((i64.wrap ((i64.wrap (s11+((ah (val b).toNat).length:Int)))+1):Int).toNat-(s11:Int).toNat:Nat):Int)),(15,SI s270_15)],[.row 180 ayc ([u32.wrap (u64.wrap (Int.tdiv 1000000000 (u64.wrap ((u64.wrap x2)+1))))]),.row 180 ayc r270_1,.row 180 ayc ([0]),.row 180 ayc ([u32.wrap (u64.wrap (Int.tdiv 1000000000 (u64.wrap ((u64.wrap x2)+1))))]),.gone,.row 180 ayc r5],6,[⟨247,[.seq 69,.seq 74,.blk 1,.seq 75,.lp 34,.blk 0,.seq 76],68,9,[(6,SI ((ah (val b).toNat).length:Int)),(7,.d ayc (u32.wrap (u64.wrap (Int.tdiv 1000000000 (u64.wrap ((u64.wrap x2)+1)))))),(8,.own 1),(9,.d aya (ah (val (dig ((ah (val b).toNat).length+([u32.wrap (u64.wrap (Int.tdiv 1000000000 (u64.wrap ((u64.wrap x2)+1))))]).length) (val (ah (val b).toNat)*val ([u32.wrap (u64.wrap (Int.tdiv 1000000000 (u64.wrap ((u64.wrap x2)+1))))])))).toNat)),(10,.own 5),(11,SI s11),(13,.d (.int .u64) f270_0_13)],0,none⟩]⟩
def dN(b:List Int)(x2 s11:Int)(r5:List Int)(f270_0_13 s271_4 s271_9:Int)(r271_1:List Int):Cfg:=⟨271,[.blk 0],[(0,.osl 1 1 ((s11:Int).toNat) ((i64.wrap ((i64.wrap (s11+((ah (val b).toNat).length:Int)))+1):Int).toNat-(s11:Int).toNat)),(1,.d aya (ah (val (dig ((ah (val b).toNat).length+([u32.wrap (u64.wrap (Int.tdiv 1000000000 (u64.wrap ((u64.wrap x2)+1))))]).length) (val (ah (val b).toNat)*val ([u32.wrap (u64.wrap (Int.tdiv 1000000000 (u64.wrap ((u64.wrap x2)+1))))])))).toNat)),(4,.d ayc s271_4),(8,SI (((i64.wrap ((i64.wrap (s11+((ah (val b).toNat).length:Int)))+1):Int).toNat-(s11:Int).toNat:Nat):Int)),(9,SI s271_9)],[.row 180 ayc ([u32.wrap (u64.wrap (Int.tdiv 1000000000 (u64.wrap ((u64.wrap x2)+1))))]),.row 180 ayc r271_1,.row 180 ayc ([0]),.row 180 ayc ([u32.wrap (u64.wrap (Int.tdiv 1000000000 (u64.wrap ((u64.wrap x2)+1))))]),.gone,.row 180 ayc r5],6,[⟨247,[.seq 74,.blk 1,.seq 75,.lp 34,.blk 0,.seq 76],72,8,[(6,SI ((ah (val b).toNat).length:Int)),(7,.d ayc (u32.wrap (u64.wrap (Int.tdiv 1000000000 (u64.wrap ((u64.wrap x2)+1)))))),(8,.own 1),(9,.d aya (ah (val (dig ((ah (val b).toNat).length+([u32.wrap (u64.wrap (Int.tdiv 1000000000 (u64.wrap ((u64.wrap x2)+1))))]).length) (val (ah (val b).toNat)*val ([u32.wrap (u64.wrap (Int.tdiv 1000000000 (u64.wrap ((u64.wrap x2)+1))))])))).toNat)),(10,.own 5),(11,SI s11),(13,.d (.int .u64) (u64.wrap (f270_0_13-1)))],0,none⟩]⟩
def Lq(a b:List Int)(k:KT):OLR:=match decide (bj a)with|true=>(match decide (bj b)with|true=>(match((ah (val b).toNat).length:Int)==1 with|true=>(match bi (ah (val b).toNat) 0 with|some x1=>(match decide (F9 (ah (val a).toNat) x1)with|true=>some [RV.d aya (dig (ah (val a).toNat).length (val (ah (val a).toNat)/x1)),RV.d aya ([val (ah (val a).toNat)%x1])]|false=>none)|none=>none)|false=>(match decide (bj (ah (val a).toNat)∧bj (ah (val b).toNat))with|true=>(match decide ((cJ (val (ah (val a).toNat)) (val (ah (val b).toNat)))<0)with|true=>(match decide ((ah (val a).toNat).length*4≤140737488355328∧(ah (val a).toNat).length≤140737488355328)with|true=>some [RV.d aya ([]),RV.d aya (ah (val a).toNat)]|false=>none)|false=>(match bi (ah (val b).toNat) (i64.wrap (((ah (val b).toNat).length:Int)-1))with|some x2=>(match decide (u64.wrap ((u64.wrap x2)+1)=(0:Int))with|true=>none|false=>(match decide (bj (ah (val a).toNat)∧bj ([u32.wrap (u64.wrap (Int.tdiv 1000000000 (u64.wrap ((u64.wrap x2)+1))))]))with|true=>(match decide (((dig ((ah (val a).toNat).length+([u32.wrap (u64.wrap (Int.tdiv 1000000000 (u64.wrap ((u64.wrap x2)+1))))]).length) (val (ah (val a).toNat)*val ([u32.wrap (u64.wrap (Int.tdiv 1000000000 (u64.wrap ((u64.wrap x2)+1))))]))).length+([0]).length)*4≤140737488355328∧(dig ((ah (val a).toNat).length+([u32.wrap (u64.wrap (Int.tdiv 1000000000 (u64.wrap ((u64.wrap x2)+1))))]).length) (val (ah (val a).toNat)*val ([u32.wrap (u64.wrap (Int.tdiv 1000000000 (u64.wrap ((u64.wrap x2)+1))))]))).length+([0]).length≤140737488355328)with|true=>(match decide (bj (ah (val b).toNat)∧bj ([u32.wrap (u64.wrap (Int.tdiv 1000000000 (u64.wrap ((u64.wrap x2)+1))))]))with|true=>(match decide (bj (dig ((ah (val b).toNat).length+([u32.wrap (u64.wrap (Int.tdiv 1000000000 (u64.wrap ((u64.wrap x2)+1))))]).length) (val (ah (val b).toNat)*val ([u32.wrap (u64.wrap (Int.tdiv 1000000000 (u64.wrap ((u64.wrap x2)+1))))]))))with|true=>(match decide ((0:Int)≤i64.wrap ((((dig ((ah (val a).toNat).length+([u32.wrap (u64.wrap (Int.tdiv 1000000000 (u64.wrap ((u64.wrap x2)+1))))]).length) (val (ah (val a).toNat)*val ([u32.wrap (u64.wrap (Int.tdiv 1000000000 (u64.wrap ((u64.wrap x2)+1))))])))++([0])).length:Int)-((ah (val b).toNat).length:Int))∧(i64.wrap ((((dig ((ah (val a).toNat).length+([u32.wrap (u64.wrap (Int.tdiv 1000000000 (u64.wrap ((u64.wrap x2)+1))))]).length) (val (ah (val a).toNat)*val ([u32.wrap (u64.wrap (Int.tdiv 1000000000 (u64.wrap ((u64.wrap x2)+1))))])))++([0])).length:Int)-((ah (val b).toNat).length:Int)))*((4:Nat):Int)≤140737488355328∧i64.wrap ((((dig ((ah (val a).toNat).length+([u32.wrap (u64.wrap (Int.tdiv 1000000000 (u64.wrap ((u64.wrap x2)+1))))]).length) (val (ah (val a).toNat)*val ([u32.wrap (u64.wrap (Int.tdiv 1000000000 (u64.wrap ((u64.wrap x2)+1))))])))++([0])).length:Int)-((ah (val b).toNat).length:Int))≤140737488355328)with|true=>k 34 (qY b x2 (i64.wrap ((i64.wrap ((((dig ((ah (val a).toNat).length+([u32.wrap (u64.wrap (Int.tdiv 1000000000 (u64.wrap ((u64.wrap x2)+1))))]).length) (val (ah (val a).toNat)*val ([u32.wrap (u64.wrap (Int.tdiv 1000000000 (u64.wrap ((u64.wrap x2)+1))))])))++([0])).length:Int)-((ah (val b).toNat).length:Int)))-1)) (List.replicate (i64.wrap ((((dig ((ah (val a).toNat).length+([u32.wrap (u64.wrap (Int.tdiv 1000000000 (u64.wrap ((u64.wrap x2)+1))))]).length) (val (ah (val a).toNat)*val ([u32.wrap (u64.wrap (Int.tdiv 1000000000 (u64.wrap ((u64.wrap x2)+1))))])))++([0])).length:Int)-((ah (val b).toNat).length:Int))).toNat (0:Int)) ((dig ((ah (val a).toNat).length+([u32.wrap (u64.wrap (Int.tdiv 1000000000 (u64.wrap ((u64.wrap x2)+1))))]).length) (val (ah (val a).toNat)*val ([u32.wrap (u64.wrap (Int.tdiv 1000000000 (u64.wrap ((u64.wrap x2)+1))))])))++([0])))|false=>none)|false=>none)|false=>none)|false=>none)|false=>none))|none=>none))|false=>none))|false=>none)|false=>none
theorem Wg(a b:List Int):RS gr 247 [.d aya a,.d aya b] (Lq a b):=rsX
def vj(b:List Int)(x2 s11:Int)(r5 r1:List Int)(k:KT):OLR:=match decide (s11≥0)with|true=>(match bi r1 (i64.wrap (s11+((ah (val b).toNat).length:Int)))with|some _=>(match true,r1[(i64.wrap (s11+((ah (val b).toNat).length:Int))).toNat]? with|true,some x3=>(match bi r1 (i64.wrap ((i64.wrap (s11+((ah (val b).toNat).length:Int)))-1))with|some _=>(match true,r1[(i64.wrap ((i64.wrap (s11+((ah (val b).toNat).length:Int)))-1)).toNat]? with|true,some x4=>(match bi (ah (val (dig ((ah (val b).toNat).length+([u32.wrap (u64.wrap (Int.tdiv 1000000000 (u64.wrap ((u64.wrap x2)+1))))]).length) (val (ah (val b).toNat)*val ([u32.wrap (u64.wrap (Int.tdiv 1000000000 (u64.wrap ((u64.wrap x2)+1))))])))).toNat) (i64.wrap (((ah (val b).toNat).length:Int)-1))with|some x5=>(match decide (u64.wrap x5=(0:Int))with|true=>none|false=>(match bi (ah (val (dig ((ah (val b).toNat).length+([u32.wrap (u64.wrap (Int.tdiv 1000000000 (u64.wrap ((u64.wrap x2)+1))))]).length) (val (ah (val b).toNat)*val ([u32.wrap (u64.wrap (Int.tdiv 1000000000 (u64.wrap ((u64.wrap x2)+1))))])))).toNat) (i64.wrap (((ah (val b).toNat).length:Int)-1))with|some x6=>(match decide (u64.wrap x6=(0:Int))with|true=>none|false=>k 49 (nX b x2 s11 r1 r5 (u64.wrap (Int.tdiv (u64.wrap ((u64.wrap ((u64.wrap x3)*1000000000))+(u64.wrap x4))) (u64.wrap x5))) (Int.tmod (u64.wrap ((u64.wrap ((u64.wrap x3)*1000000000))+(u64.wrap x4))) (u64.wrap x6))))|none=>none))|none=>none)|_,_=>none)|none=>none)|_,_=>none)|none=>none)|false=>(match decide ((0:Int)≤0∧0≤((ah (val b).toNat).length:Int)∧((ah (val b).toNat).length:Int)≤(r1.length:Int))with|true=>(match decide (bj ((r1.drop ((0:Int).toNat)).take ((((ah (val b).toNat).length:Int):Int).toNat-(0:Int).toNat)))with|true=>(match decide (F9 (ah (val ((r1.drop ((0:Int).toNat)).take ((((ah (val b).toNat).length:Int):Int).toNat-(0:Int).toNat))).toNat) (u32.wrap (u64.wrap (Int.tdiv 1000000000 (u64.wrap ((u64.wrap x2)+1))))))with|true=>some [RV.d aya r5,RV.d aya (dig (ah (val ((r1.drop ((0:Int).toNat)).take ((((ah (val b).toNat).length:Int):Int).toNat-(0:Int).toNat))).toNat).length (val (ah (val ((r1.drop ((0:Int).toNat)).take ((((ah (val b).toNat).length:Int):Int).toNat-(0:Int).toNat))).toNat)/(u32.wrap (u64.wrap (Int.tdiv 1000000000 (u64.wrap ((u64.wrap x2)+1)))))))]|false=>none)|false=>none)|false=>none)
theorem A7(b:List Int)(x2 s11:Int)(r5 r1:List Int):RN gr 34 (qY b x2 s11 r5 r1) (vj b x2 s11 r5 r1):=rnX
def mz(b:List Int)(x2 s11:Int)(r1 r5:List Int)(s13 s14:Int)(k:KT):OLR:=match decide (s13≥1000000000)with|true=>(match bi (ah (val (dig ((ah (val b).toNat).length+([u32.wrap (u64.wrap (Int.tdiv 1000000000 (u64.wrap ((u64.wrap x2)+1))))]).length) (val (ah (val b).toNat)*val ([u32.wrap (u64.wrap (Int.tdiv 1000000000 (u64.wrap ((u64.wrap x2)+1))))])))).toNat) (i64.wrap (((ah (val b).toNat).length:Int)-1))with|some x7=>(match decide ((u64.wrap (s14+(u64.wrap x7)))≥1000000000)with|true=>(match decide ((0:Int)≤s11∧s11≤i64.wrap ((i64.wrap (s11+((ah (val b).toNat).length:Int)))+1)∧i64.wrap ((i64.wrap (s11+((ah (val b).toNat).length:Int)))+1)≤(r1.length:Int))with|true=>k 8 (dg b x2 s11 r5 (u64.wrap (s13-1)) (u64.wrap (s13-1)) 0 0 0 r1)|false=>none)|false=>k 49 (nX b x2 s11 r1 r5 (u64.wrap (s13-1)) (u64.wrap (s14+(u64.wrap x7)))))|none=>none)|false=>(match bi (ah (val (dig ((ah (val b).toNat).length+([u32.wrap (u64.wrap (Int.tdiv 1000000000 (u64.wrap ((u64.wrap x2)+1))))]).length) (val (ah (val b).toNat)*val ([u32.wrap (u64.wrap (Int.tdiv 1000000000 (u64.wrap ((u64.wrap x2)+1))))])))).toNat) (i64.wrap (((ah (val b).toNat).length:Int)-2))with|some x8=>(match bi r1 (i64.wrap ((i64.wrap (s11+((ah (val b).toNat).length:Int)))-2))with|some _=>(match true,r1[(i64.wrap ((i64.wrap (s11+((ah (val b).toNat).length:Int)))-2)).toNat]? with|true,some x9=>(match decide ((u64.wrap (s13*(u64.wrap x8)))>(u64.wrap ((u64.wrap (s14*1000000000))+(u64.wrap x9))))with|true=>(match bi (ah (val (dig ((ah (val b).toNat).length+([u32.wrap (u64.wrap (Int.tdiv 1000000000 (u64.wrap ((u64.wrap x2)+1))))]).length) (val (ah (val b).toNat)*val ([u32.wrap (u64.wrap (Int.tdiv 1000000000 (u64.wrap ((u64.wrap x2)+1))))])))).toNat) (i64.wrap (((ah (val b).toNat).length:Int)-1))with|some x10=>(match decide ((u64.wrap (s14+(u64.wrap x10)))≥1000000000)with|true=>(match decide ((0:Int)≤s11∧s11≤i64.wrap ((i64.wrap (s11+((ah (val b).toNat).length:Int)))+1)∧i64.wrap ((i64.wrap (s11+((ah (val b).toNat).length:Int)))+1)≤(r1.length:Int))with|true=>k 8 (dg b x2 s11 r5 (u64.wrap (s13-1)) (u64.wrap (s13-1)) 0 0 0 r1)|false=>none)|false=>k 49 (nX b x2 s11 r1 r5 (u64.wrap (s13-1)) (u64.wrap (s14+(u64.wrap x10)))))|none=>none)|false=>(match decide ((0:Int)≤s11∧s11≤i64.wrap ((i64.wrap (s11+((ah (val b).toNat).length:Int)))+1)∧i64.wrap ((i64.wrap (s11+((ah (val b).toNat).length:Int)))+1)≤(r1.length:Int))with|true=>k 8 (dg b x2 s11 r5 s13 s13 0 0 0 r1)|false=>none))|_,_=>none)|none=>none)|none=>none)
theorem qq(b:List Int)(x2 s11:Int)(r1 r5:List Int)(s13 s14:Int):RN gr 49 (nX b x2 s11 r1 r5 s13 s14) (mz b x2 s11 r1 r5 s13 s14):=rnX
def du(b:List Int)(x2 s11:Int)(r5:List Int)(s270_2 f270_0_13 s270_7 s270_8 s270_15:Int)(r270_1:List Int)(k:KT):OLR:=match decide (s270_15<(((i64.wrap ((i64.wrap (s11+((ah (val b).toNat).length:Int)))+1):Int).toNat-(s11:Int).toNat:Nat):Int))with|true=>(match decide (s270_15<((ah (val (dig ((ah (val b).toNat).length+([u32.wrap (u64.wrap (Int.tdiv 1000000000 (u64.wrap ((u64.wrap x2)+1))))]).length) (val (ah (val b).toNat)*val ([u32.wrap (u64.wrap (Int.tdiv 1000000000 (u64.wrap ((u64.wrap x2)+1))))])))).toNat).length:Int))with|true=>(match bi (ah (val (dig ((ah (val b).toNat).length+([u32.wrap (u64.wrap (Int.tdiv 1000000000 (u64.wrap ((u64.wrap x2)+1))))]).length) (val (ah (val b).toNat)*val ([u32.wrap (u64.wrap (Int.tdiv 1000000000 (u64.wrap ((u64.wrap x2)+1))))])))).toNat) s270_15 with|some x11=>(match true,decide ((0:Int)≤s270_15∧s270_15<(((i64.wrap ((i64.wrap (s11+((ah (val b).toNat).length:Int)))+1):Int).toNat-(s11:Int).toNat:Nat):Int))with|true,true=>(match true,r270_1[(s11:Int).toNat+(s270_15).toNat]? with|true,some x12=>(match decide ((u64.wrap x12)<(u64.wrap ((Int.tmod (u64.wrap (s270_7+(u64.wrap ((u64.wrap x11)*s270_2)))) 1000000000)+s270_8)))with|true=>(match true,decide ((0:Int)≤s270_15∧s270_15<(((i64.wrap ((i64.wrap (s11+((ah (val b).toNat).length:Int)))+1):Int).toNat-(s11:Int).toNat:Nat):Int))with|true,true=>(match true,r270_1[(s11:Int).toNat+(s270_15).toNat]? with|true,some _=>k 8 (dg b x2 s11 r5 s270_2 f270_0_13 (u64.wrap (Int.tdiv (u64.wrap (s270_7+(u64.wrap ((u64.wrap x11)*s270_2)))) 1000000000)) 1 (i64.wrap (s270_15+1)) (r270_1.set ((s11:Int).toNat+(s270_15).toNat) (u32.wrap (u64.wrap ((u64.wrap ((u64.wrap x12)+1000000000))-(u64.wrap ((Int.tmod (u64.wrap (s270_7+(u64.wrap ((u64.wrap x11)*s270_2)))) 1000000000)+s270_8)))))))|_,_=>none)|_,_=>none)|false=>(match true,decide ((0:Int)≤s270_15∧s270_15<(((i64.wrap ((i64.wrap (s11+((ah (val b).toNat).length:Int)))+1):Int).toNat-(s11:Int).toNat:Nat):Int))with|true,true=>(match true,r270_1[(s11:Int).toNat+(s270_15).toNat]? with|true,some _=>k 8 (dg b x2 s11 r5 s270_2 f270_0_13 (u64.wrap (Int.tdiv (u64.wrap (s270_7+(u64.wrap ((u64.wrap x11)*s270_2)))) 1000000000)) 0 (i64.wrap (s270_15+1)) (r270_1.set ((s11:Int).toNat+(s270_15).toNat) (u32.wrap (u64.wrap ((u64.wrap x12)-(u64.wrap ((Int.tmod (u64.wrap (s270_7+(u64.wrap ((u64.wrap x11)*s270_2)))) 1000000000)+s270_8)))))))|_,_=>none)|_,_=>none))|_,_=>none)|_,_=>none)|none=>none)|false=>(match true,decide ((0:Int)≤s270_15∧s270_15<(((i64.wrap ((i64.wrap (s11+((ah (val b).toNat).length:Int)))+1):Int).toNat-(s11:Int).toNat:Nat):Int))with|true,true=>(match true,r270_1[(s11:Int).toNat+(s270_15).toNat]? with|true,some x15=>(match decide ((u64.wrap x15)<(u64.wrap ((Int.tmod s270_7 1000000000)+s270_8)))with|true=>(match true,decide ((0:Int)≤s270_15∧s270_15<(((i64.wrap ((i64.wrap (s11+((ah (val b).toNat).length:Int)))+1):Int).toNat-(s11:Int).toNat:Nat):Int))with|true,true=>(match true,r270_1[(s11:Int).toNat+(s270_15).toNat]? with|true,some _=>k 8 (dg b x2 s11 r5 s270_2 f270_0_13 (u64.wrap (Int.tdiv s270_7 1000000000)) 1 (i64.wrap (s270_15+1)) (r270_1.set ((s11:Int).toNat+(s270_15).toNat) (u32.wrap (u64.wrap ((u64.wrap ((u64.wrap x15)+1000000000))-(u64.wrap ((Int.tmod s270_7 1000000000)+s270_8)))))))|_,_=>none)|_,_=>none)|false=>(match true,decide ((0:Int)≤s270_15∧s270_15<(((i64.wrap ((i64.wrap (s11+((ah (val b).toNat).length:Int)))+1):Int).toNat-(s11:Int).toNat:Nat):Int))with|true,true=>(match true,r270_1[(s11:Int).toNat+(s270_15).toNat]? with|true,some _=>k 8 (dg b x2 s11 r5 s270_2 f270_0_13 (u64.wrap (Int.tdiv s270_7 1000000000)) 0 (i64.wrap (s270_15+1)) (r270_1.set ((s11:Int).toNat+(s270_15).toNat) (u32.wrap (u64.wrap ((u64.wrap x15)-(u64.wrap ((Int.tmod s270_7 1000000000)+s270_8)))))))|_,_=>none)|_,_=>none))|_,_=>none)|_,_=>none))|false=>(match decide (s270_8>0)with|true=>(match decide ((0:Int)≤s11∧s11≤i64.wrap ((i64.wrap (s11+((ah (val b).toNat).length:Int)))+1)∧i64.wrap ((i64.wrap (s11+((ah (val b).toNat).length:Int)))+1)≤(r270_1.length:Int))with|true=>k 5 (dN b x2 s11 r5 f270_0_13 0 0 r270_1)|false=>none)|false=>(match decide (s270_7>0)with|true=>(match decide ((0:Int)≤s11∧s11≤i64.wrap ((i64.wrap (s11+((ah (val b).toNat).length:Int)))+1)∧i64.wrap ((i64.wrap (s11+((ah (val b).toNat).length:Int)))+1)≤(r270_1.length:Int))with|true=>k 5 (dN b x2 s11 r5 f270_0_13 0 0 r270_1)|false=>none)|false=>(match bi r5 s11 with|some _=>(match true,r5[(s11).toNat]? with|true,some _=>k 34 (qY b x2 (i64.wrap (s11-1)) (r5.set ((s11).toNat) (u32.wrap f270_0_13)) r270_1)|_,_=>none)|none=>none)))
theorem fR(b:List Int)(x2 s11:Int)(r5:List Int)(s270_2 f270_0_13 s270_7 s270_8 s270_15:Int)(r270_1:List Int):RN gr 8 (dg b x2 s11 r5 s270_2 f270_0_13 s270_7 s270_8 s270_15 r270_1) (du b x2 s11 r5 s270_2 f270_0_13 s270_7 s270_8 s270_15 r270_1):=rnX
def eE(b:List Int)(x2 s11:Int)(r5:List Int)(f270_0_13 s271_4 s271_9:Int)(r271_1:List Int)(k:KT):OLR:=match decide (s271_9<(((i64.wrap ((i64.wrap (s11+((ah (val b).toNat).length:Int)))+1):Int).toNat-(s11:Int).toNat:Nat):Int))with|true=>(match true,decide ((0:Int)≤s271_9∧s271_9<(((i64.wrap ((i64.wrap (s11+((ah (val b).toNat).length:Int)))+1):Int).toNat-(s11:Int).toNat:Nat):Int))with|true,true=>(match true,r271_1[(s11:Int).toNat+(s271_9).toNat]? with|true,some x19=>(match decide (s271_9<((ah (val (dig ((ah (val b).toNat).length+([u32.wrap (u64.wrap (Int.tdiv 1000000000 (u64.wrap ((u64.wrap x2)+1))))]).length) (val (ah (val b).toNat)*val ([u32.wrap (u64.wrap (Int.tdiv 1000000000 (u64.wrap ((u64.wrap x2)+1))))])))).toNat).length:Int))with|true=>(match bi (ah (val (dig ((ah (val b).toNat).length+([u32.wrap (u64.wrap (Int.tdiv 1000000000 (u64.wrap ((u64.wrap x2)+1))))]).length) (val (ah (val b).toNat)*val ([u32.wrap (u64.wrap (Int.tdiv 1000000000 (u64.wrap ((u64.wrap x2)+1))))])))).toNat) s271_9 with|some x20=>(match decide ((u32.wrap ((u32.wrap (x19+s271_4))+x20))≥1000000000)with|true=>(match true,decide ((0:Int)≤s271_9∧s271_9<(((i64.wrap ((i64.wrap (s11+((ah (val b).toNat).length:Int)))+1):Int).toNat-(s11:Int).toNat:Nat):Int))with|true,true=>(match true,r271_1[(s11:Int).toNat+(s271_9).toNat]? with|true,some _=>k 5 (dN b x2 s11 r5 f270_0_13 1 (i64.wrap (s271_9+1)) (r271_1.set ((s11:Int).toNat+(s271_9).toNat) (u32.wrap ((u32.wrap ((u32.wrap (x19+s271_4))+x20))-1000000000))))|_,_=>none)|_,_=>none)|false=>(match true,decide ((0:Int)≤s271_9∧s271_9<(((i64.wrap ((i64.wrap (s11+((ah (val b).toNat).length:Int)))+1):Int).toNat-(s11:Int).toNat:Nat):Int))with|true,true=>(match true,r271_1[(s11:Int).toNat+(s271_9).toNat]? with|true,some _=>k 5 (dN b x2 s11 r5 f270_0_13 0 (i64.wrap (s271_9+1)) (r271_1.set ((s11:Int).toNat+(s271_9).toNat) (u32.wrap ((u32.wrap (x19+s271_4))+x20))))|_,_=>none)|_,_=>none))|none=>none)|false=>(match decide ((u32.wrap (x19+s271_4))≥1000000000)with|true=>(match true,decide ((0:Int)≤s271_9∧s271_9<(((i64.wrap ((i64.wrap (s11+((ah (val b).toNat).length:Int)))+1):Int).toNat-(s11:Int).toNat:Nat):Int))with|true,true=>(match true,r271_1[(s11:Int).toNat+(s271_9).toNat]? with|true,some _=>k 5 (dN b x2 s11 r5 f270_0_13 1 (i64.wrap (s271_9+1)) (r271_1.set ((s11:Int).toNat+(s271_9).toNat) (u32.wrap ((u32.wrap (x19+s271_4))-1000000000))))|_,_=>none)|_,_=>none)|false=>(match true,decide ((0:Int)≤s271_9∧s271_9<(((i64.wrap ((i64.wrap (s11+((ah (val b).toNat).length:Int)))+1):Int).toNat-(s11:Int).toNat:Nat):Int))with|true,true=>(match true,r271_1[(s11:Int).toNat+(s271_9).toNat]? with|true,some _=>k 5 (dN b x2 s11 r5 f270_0_13 0 (i64.wrap (s271_9+1)) (r271_1.set ((s11:Int).toNat+(s271_9).toNat) (u32.wrap (x19+s271_4))))|_,_=>none)|_,_=>none)))|_,_=>none)|_,_=>none)|false=>(match bi r5 s11 with|some _=>(match true,r5[(s11).toNat]? with|true,some _=>k 34 (qY b x2 (i64.wrap (s11-1)) (r5.set ((s11).toNat) (u32.wrap (u64.wrap (f270_0_13-1)))) r271_1)|_,_=>none)|none=>none)
theorem fK(b:List Int)(x2 s11:Int)(r5:List Int)(f270_0_13 s271_4 s271_9:Int)(r271_1:List Int):RN gr 5 (dN b x2 s11 r5 f270_0_13 s271_4 s271_9 r271_1) (eE b x2 s11 r5 f270_0_13 s271_4 s271_9 r271_1):=rnX
section
theorem YA{x:Int}(h1:1≤x)(h2:x<1000000000):1≤1000000000/(x+1)∧1000000000/(x+1)≤500000000∧(x+1)*(1000000000/(x+1))≤1000000000∧500000000≤x*(1000000000/(x+1)):=by
 have m0:=av4 1000000000 (show x+1≠0 by omega)
 have m1:=avC 1000000000 (show 0<x+1 by omega)
 have md:=avK 1000000000 (x+1)
 have d1:1≤1000000000/(x+1):=Int.le_ediv_of_mul_le (by omega) (by omega)
 have d2:1000000000/(x+1)≤500000000:=by
  have:1000000000/(x+1)<500000001:=awu (by omega) (by omega)
  omega
 generalize 1000000000/(x+1)=d at*
 refine⟨d1,d2,by omega,?_⟩
 rcases avt x 500000000 with hx|hx
 ·rcases avt (x*d) 500000000 with hd|hd
  ·exfalso
   have e1:(x+1)*(x*d)=x*((x+1)*d):=by grind
   have e2:(x+1)*d≥1000000000-x:=by omega
   have e3:(x+1)*(x*d)≤(x+1)*499999999:=au3 (by omega) (by omega)
   have e4:x*(1000000000-x)≤x*((x+1)*d):=au3 e2 (by omega)
   have e5:0≤(x-1)*(500000000-x):=avX (by omega) (by omega)
   have e6:(x-1)*(500000000-x)=x*(1000000000-x)-(x+1)*499999999-1:=by grind
   omega
  ·exact hd
 ·have:=aw2 hx d1 (by decide) (by omega)
  omega
structure Kn (w V u2 u1 u0 v1 v0:Int):Prop where
 P:∃P wl vl:Int,0<P∧0≤wl∧wl<P∧0≤vl∧vl<P∧w=wl+P*(u0+1000000000*u1+1000000000*1000000000*u2)∧V=vl+P*(v0+1000000000*v1)
 u2:0≤u2∧u2<1000000000
 u1:0≤u1∧u1<1000000000
 u0:0≤u0∧u0<1000000000
 v1:500000000≤v1∧v1<1000000000
 v0:0≤v0∧v0<1000000000
 lt:w<V*1000000000
section
variable {w V u2 u1 u0 v1 v0:Int} (h:Kn w V u2 u1 u0 v1 v0)
include h
theorem Kn.top:u2≤v1:=by
 obtain⟨⟨P,wl,vl,p0,a1,a2,b1,b2,hw,hV⟩,⟨x1,x2⟩,⟨x3,x4⟩,⟨x5,x6⟩,⟨y1,y2⟩,⟨y3,y4⟩,hlt⟩:=h
 rcases avt v1 u2 with hc|hc
 ·exfalso
  have e1:P*(1000000000*1000000000*(v1+1))≤P*(u0+1000000000*u1+1000000000*1000000000*u2):=au3 (by omega) (by omega)
  have e2:P*(v0+1000000000*v1)≤P*(999999999+1000000000*v1):=au3 (by omega) (by omega)
  have e3:P*(1000000000*1000000000*(v1+1))=1000000000*(P*(999999999+1000000000*v1))+1000000000*P:=by grind
  omega
 ·exact hc
theorem Kn.pos:0<V:=by
 obtain⟨⟨P,wl,vl,p0,a1,a2,b1,b2,hw,hV⟩,⟨x1,x2⟩,⟨x3,x4⟩,⟨x5,x6⟩,⟨y1,y2⟩,⟨y3,y4⟩,hlt⟩:=h
 have:=Int.mul_pos p0 (show 0<v0+1000000000*v1 by omega)
 omega
theorem Kn.great{g rest:Int}(hg:0≤g)(he:g*v1+rest=u2*1000000000+u1)(hc:rest*1000000000+u0<g*v0):w<g*V:=by
 obtain⟨⟨P,wl,vl,p0,a1,a2,b1,b2,hw,hV⟩,⟨x1,x2⟩,⟨x3,x4⟩,⟨x5,x6⟩,⟨y1,y2⟩,⟨y3,y4⟩,hlt⟩:=h
 have e1:g*V=g*vl+P*(g*v0+1000000000*(g*v1)):=by rw[hV];grind
 have e2:0≤g*vl:=avX hg b1
 have e3:P*(u0+1000000000*u1+1000000000*1000000000*u2+1)≤P*(g*v0+1000000000*(g*v1)):=au3 (by omega) (by omega)
 have e4:P*(u0+1000000000*u1+1000000000*1000000000*u2+1)=P*(u0+1000000000*u1+1000000000*1000000000*u2)+P:=by grind
 omega
theorem Kn.small{g rest:Int}(_hg:0≤g)(hgB:g≤1000000000)(he:g*v1+rest=u2*1000000000+u1)(hc:g*v0≤rest*1000000000+u0):g*V<w+V:=by
 obtain⟨⟨P,wl,vl,p0,a1,a2,b1,b2,hw,hV⟩,⟨x1,x2⟩,⟨x3,x4⟩,⟨x5,x6⟩,⟨y1,y2⟩,⟨y3,y4⟩,hlt⟩:=h
 have e1:g*V=g*vl+P*(g*v0+1000000000*(g*v1)):=by rw[hV];grind
 have e2:g*vl≤1000000000*P:=aw2 hgB (by omega) b1 (by decide)
 have e3:P*(g*v0+1000000000*(g*v1))≤P*(u0+1000000000*u1+1000000000*1000000000*u2):=au3 (by omega) (by omega)
 have e4:P*(1000000000*500000000)≤P*(v0+1000000000*v1):=au3 (by omega) (by omega)
 omega
theorem Kn.first{g:Int}(hg:g=(u2*1000000000+u1)/v1):w<(g+1)*V:=by
 obtain⟨⟨P,wl,vl,p0,a1,a2,b1,b2,hw,hV⟩,⟨x1,x2⟩,⟨x3,x4⟩,⟨x5,x6⟩,⟨y1,y2⟩,⟨y3,y4⟩,hlt⟩:=h
 have m1:=avC (u2*1000000000+u1) (show 0<v1 by omega)
 have md:=avK (u2*1000000000+u1) v1
 rw[←hg]at md
 have g0:0≤g:=by rw[hg];exact av2 (by omega) (by omega)
 have e1:(g+1)*V=(g+1)*vl+P*((g+1)*v0+1000000000*((g+1)*v1)):=by rw[hV];grind
 have e2:0≤(g+1)*vl:=avX (by omega) b1
 have e3:0≤(g+1)*v0:=avX (by omega) y3
 have e4:(g+1)*v1=v1*g+v1:=by grind
 have e5:P*(1000000000*(u2*1000000000+u1+1))≤P*((g+1)*v0+1000000000*((g+1)*v1)):=au3 (by omega) (by omega)
 have e6:P*(u0+1000000000*u1+1000000000*1000000000*u2)+P≤P*(1000000000*(u2*1000000000+u1+1)):=by
  have:P*(u0+1000000000*u1+1000000000*1000000000*u2+1)≤P*(1000000000*(u2*1000000000+u1+1)):=au3 (by omega) (by omega)
  rw[axW,axf]at this
  exact this
 omega
end
theorem FJ{l:List Int}{m:Nat}(h:l.length=m+2):val l=val (l.take m)+pw m*(l[m]+1000000000*l[m+1]):=by
 have e:=bJ (l:=l) (n:=m+1) (by omega)
 rw[avO (by omega),bJ (by omega),cD]at e
 rw[e]
 grind
theorem Tf{l:List Int}{m:Nat}(h:l.length=m+3):val l=val (l.take m)+pw m*(l[m]+1000000000*l[m+1]+1000000000*1000000000*l[m+2]):=by
 have e:=bJ (l:=l) (n:=m+2) (by omega)
 rw[avO (by omega),bJ (by omega),bJ (by omega)]at e
 simp only[cD]at e
 rw[e]
 grind
def win(k n:Nat)(r:List Int):Int:=val ((r.drop k).take (n+1))
theorem Nt{k n:Nat}{r:List Int}(h:k+n+1≤r.length)(hz:val (r.drop (k+n+1))=0):val r=val (r.take k)+pw k*win k n r:=by
 have h1:=fX r k
 have h2:=fX (r.drop k) (n+1)
 rw[ax1,show k+(n+1)=k+n+1 by omega,hz]at h2
 rw[avy (by omega)]at h1
 rw[h1,h2]
 unfold win
 simp
theorem UQ{k n:Nat}{r:List Int}(hl:Lim r)(h:k+n+1≤r.length):0≤win k n r∧win k n r<pw (n+1):=by
 have h1:=(hl.drop k).take (n+1)
 have h2:=cA h1
 rw[avz,awO,avy (by omega)]at h2
 exact⟨bg h1,h2⟩
theorem apo{v r:List Int}{k m:Nat}(hv:Lim v)(hvl:v.length=m+2)(hr:Lim r)(hk:k+m+3≤r.length)(htop:500000000≤v[m+1])(hlt:win k (m+2) r<val v*1000000000):
  Kn (win k (m+2) r) (val v) r[k+m+2] r[k+m+1] r[k+m] v[m+1] v[m]:=by
 have hwl:((r.drop k).take (m+2+1)).length=m+3:=by rw[avz,awO];omega
 have h3:=Tf hwl
 have h2:=FJ hvl
 have hl1:=(hr.drop k).take (m+2+1)
 have g:∀j (hj:j<m+3),((r.drop k).take (m+2+1))[j]=r[k+j]:=fun j hj=>by simp
 rw[g m (by omega),g (m+1) (by omega),g (m+2) (by omega)]at h3
 have t1:=hl1.take m
 have t2:=hv.take m
 have b1:=cA t1
 have b2:=cA t2
 rw[avz,avy (by omega)]at b1 b2
 exact⟨⟨pw m,_,_,ct m,bg t1,b1,bg t2,b2,h3,h2⟩,hr.get (by omega),hr.get (by omega),hr.get (by omega),⟨htop,(hv.get (by omega)).2⟩,hv.get (by omega),hlt⟩
end
section
theorem wq{r:List Int}{k i:Nat}(y:Int):(r.set (k+i) y).take k=r.take k:=List.take_set_of_le (by omega)
theorem wo{r:List Int}{k i n:Nat}(y:Int)(h:i≤n):(r.set (k+i) y).drop (k+n+1)=r.drop (k+n+1):=List.drop_set_of_lt (by omega)
section
variable (b:List Int) (x2:Int) (v:List Int) (m:Nat) (hN:(ah (val b).toNat).length=m+2) (hv:ah (val (dig ((ah (val b).toNat).length+([u32.wrap (u64.wrap (Int.tdiv 1000000000 (u64.wrap ((u64.wrap x2)+1))))]).length) (val (ah (val b).toNat)*val ([u32.wrap (u64.wrap (Int.tdiv 1000000000 (u64.wrap ((u64.wrap x2)+1))))])))).toNat=v) (lv:Lim v) (hvl:v.length=m+2)
include hN hv lv hvl
theorem Si(k:Nat)(r0 r5:List Int)(g:Int)(hg:0≤g∧g<1000000000)(hk:k+(m+2)+1≤r0.length)(hsz:r0.length≤4000000000)(R:List RV)
  (hno:∀r,Lim r→r.length=r0.length→r.take k=r0.take k→r.drop (k+(m+2)+1)=r0.drop (k+(m+2)+1)→val r=val r0-pw k*(g*val v)→∃q,du b x2 (k:Int) r5 g g 0 0 ((m+2+1:Nat):Int) r (gr.k q)=some R)
  (hyes:∀r,Lim r→r.length=r0.length→r.take k=r0.take k→r.drop (k+(m+2)+1)=r0.drop (k+(m+2)+1)→val r=val r0-pw k*(g*val v)+pw (k+(m+2)+1)→∃q,du b x2 (k:Int) r5 g g 0 1 ((m+2+1:Nat):Int) r (gr.k q)=some R):
  ∀(j i:Nat) (c bo:Int) (r:List Int),i+j=m+2+1→0≤c→c<1000000000→(i=m+2+1→c=0)→0≤bo→bo≤1→Lim r→r.length=r0.length→r.take k=r0.take k→r.drop (k+(m+2)+1)=r0.drop (k+(m+2)+1)→
   val r=val r0-pw k*(g*val (v.take i))+pw (k+i)*(c+bo)→gr.Runs 8 (dg b x2 (k:Int) r5 g g c bo (i:Int) r) R:=by
 have e1:i64.wrap ((k:Int)+((m+2:Nat):Int))=((k+(m+2):Nat):Int):=by rw[bz (by omega) (by omega)];simp
 have e2:i64.wrap (((k+(m+2):Nat):Int)+1)=((k+(m+2)+1:Nat):Int):=cr (by omega)
 have e3:k+(m+2)+1-k=m+2+1:=by omega
 intro j
 induction j with
 |zero=>
  intro i c bo r hi c0 c1 hc b0 b1 lr hl ht hd hval
  obtain rfl:i=m+2+1:=by omega
  obtain rfl:=hc rfl
  rw[avO (by omega)]at hval
  refine fR _ _ _ _ _ _ _ _ _ _ ?_
  rcases(show bo=0∨bo=1 by omega)with rfl|rfl
  ·exact hno r lr hl ht hd (by rw[hval];simp)
  ·exact hyes r lr hl ht hd (by rw[hval];simp;rfl)
 |succ j ih=>
  intro i c bo r hi c0 c1 hc b0 b1 lr hl ht hd hval
  have hir:k+i<r.length:=by omega
  have xr:=lr.get hir
  have hwi:decide ((0:Int)≤(i:Int)∧(i:Int)<((m+2+1:Nat):Int))=true:=auO (by omega)
  have hlt:decide ((i:Int)<((m+2+1:Nat):Int))=true:=auO (by omega)
  have hw:=hv
  have step:∀(c' y bo':Int),0≤c'→c'<1000000000→(i+1=m+2+1→c'=0)→0≤y→y<1000000000→0≤bo'→bo'≤1→y=r[k+i]-(val (v.take (i+1))-val (v.take i))/pw i*g-c+1000000000*c'-bo+1000000000*bo'→pw i*((val (v.take (i+1))-val (v.take i))/pw i)=val (v.take (i+1))-val (v.take i)→
    gr.Runs 8 (dg b x2 (k:Int) r5 g g c' bo' ((i+1:Nat):Int) (r.set (k+i) y)) R:=by
   intro c' y bo' k0 k1 kc y0 y1 k2 k3 hy hp
   refine ih (i+1) c' bo' (r.set (k+i) y) (by omega) k0 k1 kc k2 k3 (lr.set _ ⟨y0,y1⟩) (by simpa using hl) (by rw[wq];exact ht) (by rw[wo _ (by omega)];exact hd) ?_
   rw[fx hir,hval,hy,show k+(i+1)=k+i+1 by omega,cD,fI]
   generalize (val (v.take (i+1))-val (v.take i))/pw i=d at*
   have:val (v.take (i+1))=val (v.take i)+pw i*d:=by omega
   rw[this]
   grind
  by_cases hiv:i<m+2
  ·have hiv':i<v.length:=by omega
   have xv:=lv.get hiv'
   have hdv:(val (v.take (i+1))-val (v.take i))/pw i=v[i]:=by
    rw[bJ hiv',show val (v.take i)+pw i*v[i]-val (v.take i)=pw i*v[i] by omega,aw8 _ (by have:=ct i;omega)]
   rw[hdv]at step
   have hbd:=IL (r:=0) (by decide) xv hg ⟨c0,c1⟩
   have t0:0≤c+v[i]*g:=by omega
   have q0:0≤(c+v[i]*g)/1000000000∧(c+v[i]*g)/1000000000<1000000000:=by omega
   have hpv:pw i*v[i]=val (v.take (i+1))-val (v.take i):=by rw[bJ hiv'];omega
   by_cases hc2:r[k+i]<(c+v[i]*g)%1000000000+bo
   ·obtain⟨q,hq⟩:=step ((c+v[i]*g)/1000000000) (r[k+i]+1000000000-((c+v[i]*g)%1000000000+bo)) 1 q0.1 q0.2 (by omega) (by omega) (by omega) (by omega) (by omega) (by omega) hpv
    refine fR _ _ _ _ _ _ _ _ _ _ ⟨q,?_⟩
    unfold du
    rw[hw,hN,e1,e2,aP,aP,e3,hlt,hwi,hvl,cd hiv,aA v i,auP hiv',aP,auP hir]
    dsimp only
    rw[b8 (x:=v[i]) (by omega) (by omega),b8 (x:=v[i]*g) (by omega) (by omega),b8 (x:=c+v[i]*g) (by omega) (by omega),jA t0,gu t0,b8 (x:=(c+v[i]*g)/1000000000) (by omega) (by omega),b8 (x:=(c+v[i]*g)%1000000000+bo) (by omega) (by omega),b8 (x:=r[k+i]) (by omega) (by omega),auO hc2,
     b8 (x:=r[k+i]+1000000000) (by omega) (by omega),b8 (x:=r[k+i]+1000000000-((c+v[i]*g)%1000000000+bo)) (by omega) (by omega),dm (x:=r[k+i]+1000000000-((c+v[i]*g)%1000000000+bo)) (by omega) (by omega),cr (k:=i) (by omega)]
    exact hq
   ·obtain⟨q,hq⟩:=step ((c+v[i]*g)/1000000000) (r[k+i]-((c+v[i]*g)%1000000000+bo)) 0 q0.1 q0.2 (by omega) (by omega) (by omega) (by omega) (by omega) (by omega) hpv
    refine fR _ _ _ _ _ _ _ _ _ _ ⟨q,?_⟩
    unfold du
    rw[hw,hN,e1,e2,aP,aP,e3,hlt,hwi,hvl,cd hiv,aA v i,auP hiv',aP,auP hir]
    dsimp only
    rw[b8 (x:=v[i]) (by omega) (by omega),b8 (x:=v[i]*g) (by omega) (by omega),b8 (x:=c+v[i]*g) (by omega) (by omega),jA t0,gu t0,b8 (x:=(c+v[i]*g)/1000000000) (by omega) (by omega),b8 (x:=(c+v[i]*g)%1000000000+bo) (by omega) (by omega),b8 (x:=r[k+i]) (by omega) (by omega),auQ hc2,
     b8 (x:=r[k+i]-((c+v[i]*g)%1000000000+bo)) (by omega) (by omega),dm (x:=r[k+i]-((c+v[i]*g)%1000000000+bo)) (by omega) (by omega),cr (k:=i) (by omega)]
    exact hq
  ·have hpz:val (v.take (i+1))-val (v.take i)=0:=by rw[kg (by omega)];omega
   rw[hpz]at step
   simp only[Int.zero_ediv,Int.zero_mul,axa,Int.sub_zero,forall_const]at step
   have m0:c%1000000000=c:=by omega
   have d0:c/1000000000=0:=by omega
   by_cases hc2:r[k+i]<c+bo
   ·obtain⟨q,hq⟩:=step 0 (r[k+i]+1000000000-(c+bo)) 1 (by omega) (by omega) (by omega) (by omega) (by omega) (by omega) (by omega) (by omega)
    refine fR _ _ _ _ _ _ _ _ _ _ ⟨q,?_⟩
    unfold du
    rw[hw,hN,e1,e2,aP,aP,e3,hlt,hwi,hvl,cz (show m+2≤i by omega),aP,auP hir]
    dsimp only
    rw[jA c0,gu c0,m0,d0,b8 (x:=0) (by omega) (by omega),b8 (x:=c+bo) (by omega) (by omega),b8 (x:=r[k+i]) (by omega) (by omega),auO hc2,
     b8 (x:=r[k+i]+1000000000) (by omega) (by omega),b8 (x:=r[k+i]+1000000000-(c+bo)) (by omega) (by omega),dm (x:=r[k+i]+1000000000-(c+bo)) (by omega) (by omega),cr (k:=i) (by omega)]
    exact hq
   ·obtain⟨q,hq⟩:=step 0 (r[k+i]-(c+bo)) 0 (by omega) (by omega) (by omega) (by omega) (by omega) (by omega) (by omega) (by omega)
    refine fR _ _ _ _ _ _ _ _ _ _ ⟨q,?_⟩
    unfold du
    rw[hw,hN,e1,e2,aP,aP,e3,hlt,hwi,hvl,cz (show m+2≤i by omega),aP,auP hir]
    dsimp only
    rw[jA c0,gu c0,m0,d0,b8 (x:=0) (by omega) (by omega),b8 (x:=c+bo) (by omega) (by omega),b8 (x:=r[k+i]) (by omega) (by omega),auQ hc2,
     b8 (x:=r[k+i]-(c+bo)) (by omega) (by omega),dm (x:=r[k+i]-(c+bo)) (by omega) (by omega),cr (k:=i) (by omega)]
    exact hq
end
end
section
section
variable (b:List Int) (x2:Int) (v:List Int) (m:Nat) (hN:(ah (val b).toNat).length=m+2) (hv:ah (val (dig ((ah (val b).toNat).length+([u32.wrap (u64.wrap (Int.tdiv 1000000000 (u64.wrap ((u64.wrap x2)+1))))]).length) (val (ah (val b).toNat)*val ([u32.wrap (u64.wrap (Int.tdiv 1000000000 (u64.wrap ((u64.wrap x2)+1))))])))).toNat=v) (lv:Lim v) (hvl:v.length=m+2)
include hN hv lv hvl
theorem TB(k:Nat)(r0 r5:List Int)(f:Int)(hk:k+(m+2)+1≤r0.length)(hsz:r0.length≤4000000000)(R:List RV)
  (hend:∀r c,Lim r→r.length=r0.length→r.take k=r0.take k→r.drop (k+(m+2)+1)=r0.drop (k+(m+2)+1)→0≤c→c≤1→val r=val r0+pw k*val v-pw (k+(m+2)+1)*c→∃q,eE b x2 (k:Int) r5 f c ((m+2+1:Nat):Int) r (gr.k q)=some R):
  ∀(j i:Nat) (c:Int) (r:List Int),i+j=m+2+1→0≤c→c≤1→Lim r→r.length=r0.length→r.take k=r0.take k→r.drop (k+(m+2)+1)=r0.drop (k+(m+2)+1)→
   val r=val r0+pw k*val (v.take i)-pw (k+i)*c→gr.Runs 5 (dN b x2 (k:Int) r5 f c (i:Int) r) R:=by
 have e1:i64.wrap ((k:Int)+((m+2:Nat):Int))=((k+(m+2):Nat):Int):=by rw[bz (by omega) (by omega)];simp
 have e2:i64.wrap (((k+(m+2):Nat):Int)+1)=((k+(m+2)+1:Nat):Int):=cr (by omega)
 have e3:k+(m+2)+1-k=m+2+1:=by omega
 intro j
 induction j with
 |zero=>
  intro i c r hi c0 c1 lr hl ht hd hval
  obtain rfl:i=m+2+1:=by omega
  rw[avO (by omega)]at hval
  refine fK _ _ _ _ _ _ _ _ ?_
  exact hend r c lr hl ht hd c0 c1 hval
 |succ j ih=>
  intro i c r hi c0 c1 lr hl ht hd hval
  have hir:k+i<r.length:=by omega
  have xr:=lr.get hir
  have hwi:decide ((0:Int)≤(i:Int)∧(i:Int)<((m+2+1:Nat):Int))=true:=auO (by omega)
  have hlt:decide ((i:Int)<((m+2+1:Nat):Int))=true:=auO (by omega)
  have hw:=hv
  have step:∀(c' y d:Int),0≤c'→c'≤1→0≤y→y<1000000000→y=r[k+i]+c+d-1000000000*c'→val (v.take (i+1))=val (v.take i)+pw i*d→
    gr.Runs 5 (dN b x2 (k:Int) r5 f c' ((i+1:Nat):Int) (r.set (k+i) y)) R:=by
   intro c' y d k0 k1 y0 y1 hy hp
   refine ih (i+1) c' (r.set (k+i) y) (by omega) k0 k1 (lr.set _ ⟨y0,y1⟩) (by simpa using hl) (by rw[wq];exact ht) (by rw[wo _ (by omega)];exact hd) ?_
   rw[fx hir,hval,hy,hp,show k+(i+1)=k+i+1 by omega,cD,fI]
   grind
  by_cases hiv:i<m+2
  ·have hiv':i<v.length:=by omega
   have xv:=lv.get hiv'
   have hpv:=bJ hiv'
   by_cases hc2:r[k+i]+c+v[i]≥1000000000
   ·obtain⟨q,hq⟩:=step 1 (r[k+i]+c+v[i]-1000000000) v[i] (by omega) (by omega) (by omega) (by omega) (by omega) hpv
    refine fK _ _ _ _ _ _ _ _ ⟨q,?_⟩
    unfold eE
    rw[hw,hN,e1,e2,aP,aP,e3,hlt,hwi,hvl,cd hiv,aA v i,auP hiv',aP,auP hir]
    dsimp only
    rw[dm (x:=r[k+i]+c) (by omega) (by omega),dm (x:=r[k+i]+c+v[i]) (by omega) (by omega),auO hc2,dm (x:=r[k+i]+c+v[i]-1000000000) (by omega) (by omega),cr (k:=i) (by omega)]
    exact hq
   ·obtain⟨q,hq⟩:=step 0 (r[k+i]+c+v[i]) v[i] (by omega) (by omega) (by omega) (by omega) (by omega) hpv
    refine fK _ _ _ _ _ _ _ _ ⟨q,?_⟩
    unfold eE
    rw[hw,hN,e1,e2,aP,aP,e3,hlt,hwi,hvl,cd hiv,aA v i,auP hiv',aP,auP hir]
    dsimp only
    rw[dm (x:=r[k+i]+c) (by omega) (by omega),dm (x:=r[k+i]+c+v[i]) (by omega) (by omega),auQ hc2,cr (k:=i) (by omega)]
    exact hq
  ·have hpz:val (v.take (i+1))=val (v.take i)+pw i*0:=by rw[kg (by omega)];simp
   by_cases hc2:r[k+i]+c≥1000000000
   ·obtain⟨q,hq⟩:=step 1 (r[k+i]+c-1000000000) 0 (by omega) (by omega) (by omega) (by omega) (by omega) hpz
    refine fK _ _ _ _ _ _ _ _ ⟨q,?_⟩
    unfold eE
    rw[hw,hN,e1,e2,aP,aP,e3,hlt,hwi,hvl,cz (show m+2≤i by omega),aP,auP hir]
    dsimp only
    rw[dm (x:=r[k+i]+c) (by omega) (by omega),auO hc2,dm (x:=r[k+i]+c-1000000000) (by omega) (by omega),cr (k:=i) (by omega)]
    exact hq
   ·obtain⟨q,hq⟩:=step 0 (r[k+i]+c) 0 (by omega) (by omega) (by omega) (by omega) (by omega) hpz
    refine fK _ _ _ _ _ _ _ _ ⟨q,?_⟩
    unfold eE
    rw[hw,hN,e1,e2,aP,aP,e3,hlt,hwi,hvl,cz (show m+2≤i by omega),aP,auP hir]
    dsimp only
    rw[dm (x:=r[k+i]+c) (by omega) (by omega),auQ hc2,cr (k:=i) (by omega)]
    exact hq
theorem IQ(k:Nat)(r1 r5:List Int)(hk:k+m+3≤r1.length)(hsz:r1.length≤4000000000)(R:List RV)(K:Kn (win k (m+2) r1) (val v) r1[k+m+2] r1[k+m+1] r1[k+m] v[m+1] v[m])
  (hafter:∀g,0≤g→g<1000000000→win k (m+2) r1<(g+1)*val v→g*val v<win k (m+2) r1+val v→gr.Runs 8 (dg b x2 (k:Int) r5 g g 0 0 0 r1) R):
  ∀(fuel:Nat) (g rest:Int),g≤(fuel:Int)→0≤g→g≤2000000000→0≤rest→rest<1000000000→g*v[m+1]+rest=r1[k+m+2]*1000000000+r1[k+m+1]→win k (m+2) r1<(g+1)*val v→gr.Runs 49 (nX b x2 (k:Int) r1 r5 g rest) R:=by
 have _lv:=lv
 have e1:i64.wrap ((k:Int)+((m+2:Nat):Int))=((k+m+2:Nat):Int):=by rw[bz (by omega) (by omega)];simp;omega
 have e2:i64.wrap (((k+m+2:Nat):Int)+1)=((k+m+3:Nat):Int):=by rw[bz (by omega) (by omega)];simp;omega
 have e3:i64.wrap (((m+2:Nat):Int)-1)=((m+1:Nat):Int):=by rw[bz (by omega) (by omega)];omega
 have e4:i64.wrap (((m+2:Nat):Int)-2)=((m:Nat):Int):=by rw[bz (by omega) (by omega)];omega
 have e5:i64.wrap (((k+m+2:Nat):Int)-2)=((k+m:Nat):Int):=by rw[bz (by omega) (by omega)];omega
 have hsl:decide ((0:Int)≤(k:Int)∧(k:Int)≤((k+m+3:Nat):Int)∧((k+m+3:Nat):Int)≤(r1.length:Int))=true:=auO (by omega)
 have hV:=K.pos
 have htop:=K.top
 have ku2:=K.u2
 have ku1:=K.u1
 have ku0:=K.u0
 have kv1:=K.v1
 have kv0:=K.v0
 intro fuel
 induction fuel with
 |zero=>
  intro g rest hf g0 gB r0 r1' he hlt
  obtain rfl:g=0:=by omega
  obtain⟨q,hq⟩:=hafter 0 (by omega) (by omega) hlt (by have:=hlt;have:=K.small (g:=0) (rest:=rest) (by omega) (by omega) he (by omega);omega)
  refine qq _ _ _ _ _ _ _ ⟨q,?_⟩
  unfold mz
  rw[auQ (by omega),hv,hN,e1,e2,e4,e5,aA v m,auP (by omega),aA r1 (k+m),aP,auP (show k+m<r1.length by omega)]
  dsimp only
  rw[b8 (x:=v[m]) (by omega) (by omega),Int.zero_mul,b8 (x:=0) (by omega) (by omega),b8 (x:=rest*1000000000) (by omega) (by omega),b8 (x:=r1[k+m]) (by omega) (by omega),b8 (x:=rest*1000000000+r1[k+m]) (by omega) (by omega),auQ (by omega),hsl]
  exact hq
 |succ fuel ih=>
  intro g rest hf g0 gB rr0 rr1 he hlt
  have down:win k (m+2) r1<g*val v→∃q,(match decide (u64.wrap (rest+u64.wrap v[m+1])≥1000000000)with|true=>gr.k q 8 (dg b x2 (k:Int) r5 (u64.wrap (g-1)) (u64.wrap (g-1)) 0 0 0 r1)|false=>gr.k q 49 (nX b x2 (k:Int) r1 r5 (u64.wrap (g-1)) (u64.wrap (rest+u64.wrap v[m+1]))))=some R:=by
   intro hw
   have gp:1≤g:=by
    rcases avt 0 g with h|h
    ·exact h
    ·exfalso
     have hg:g=0:=by omega
     subst hg
     rw[Int.zero_mul]at hw
     obtain⟨⟨P,wl,vl,p0,a1,a2,b1,b2,hw',hV'⟩,_⟩:=K
     have:=avX (avA p0) (show 0≤r1[k+m]+1000000000*r1[k+m+1]+1000000000*1000000000*r1[k+m+2] by omega)
     omega
   have he':(g-1)*v[m+1]+(rest+v[m+1])=r1[k+m+2]*1000000000+r1[k+m+1]:=by rw[←he];grind
   have hw':win k (m+2) r1<(g-1+1)*val v:=by rw[show g-1+1=g by omega];exact hw
   rw[b8 (x:=v[m+1]) (by omega) (by omega),b8 (x:=rest+v[m+1]) (by omega) (by omega),b8 (x:=g-1) (by omega) (by omega)]
   by_cases hb:rest+v[m+1]≥1000000000
   ·have gl:g-1<1000000000:=by
     rcases avt (g-1) 1000000000 with h|h
     ·exact h
     ·exfalso
      have e1:=avb h (show 0≤v[m+1] by omega)
      have e2:=avb htop (show(0:Int)≤1000000000 by decide)
      omega
    have e1:(g-1)*v[m]≤1000000000*1000000000:=aw2 (by omega) (by omega) (by omega) (by decide)
    obtain⟨q,hq⟩:=hafter (g-1) (by omega) gl hw' (K.small (by omega) (by omega) he' (by omega))
    exact⟨q,by rw[auO hb];exact hq⟩
   ·obtain⟨q,hq⟩:=ih (g-1) (rest+v[m+1]) (by omega) (by omega) (by omega) (by omega) (by omega) he' hw'
    exact⟨q,by rw[auQ hb];exact hq⟩
  by_cases hgB:g≥1000000000
  ·obtain⟨q,hq⟩:=down (by
    have h1:=K.lt
    have:=avb hgB (avA hV)
    rw[awC]at h1
    omega)
   refine qq _ _ _ _ _ _ _ ⟨q,?_⟩
   unfold mz
   rw[auO hgB,hv,hN,e1,e2,e3,aA v (m+1),auP (show m+1<v.length by omega),hsl]
   exact hq
  ·have hgv:g*v[m]≤1000000000*1000000000:=aw2 (by omega) (by omega) (by omega) (by decide)
   have hgv0:0≤g*v[m]:=avX g0 (by omega)
   by_cases hc:g*v[m]>rest*1000000000+r1[k+m]
   ·obtain⟨q,hq⟩:=down (K.great g0 he hc)
    refine qq _ _ _ _ _ _ _ ⟨q,?_⟩
    unfold mz
    rw[auQ hgB,hv,hN,e1,e2,e3,e4,e5,aA v m,auP (show m<v.length by omega),aA v (m+1),auP (show m+1<v.length by omega),aA r1 (k+m),aP,auP (show k+m<r1.length by omega),hsl]
    dsimp only
    rw[b8 (x:=v[m]) (by omega) (by omega),b8 (x:=g*v[m]) (by omega) (by omega),b8 (x:=rest*1000000000) (by omega) (by omega),b8 (x:=r1[k+m]) (by omega) (by omega),b8 (x:=rest*1000000000+r1[k+m]) (by omega) (by omega),auO hc]
    exact hq
   ·obtain⟨q,hq⟩:=hafter g g0 (by omega) hlt (K.small g0 (by omega) he (by omega))
    refine qq _ _ _ _ _ _ _ ⟨q,?_⟩
    unfold mz
    rw[auQ hgB,hv,hN,e1,e2,e4,e5,aA v m,auP (show m<v.length by omega),aA r1 (k+m),aP,auP (show k+m<r1.length by omega),hsl]
    dsimp only
    rw[b8 (x:=v[m]) (by omega) (by omega),b8 (x:=g*v[m]) (by omega) (by omega),b8 (x:=rest*1000000000) (by omega) (by omega),b8 (x:=r1[k+m]) (by omega) (by omega),b8 (x:=rest*1000000000+r1[k+m]) (by omega) (by omega),auQ hc]
    exact hq
end
end
end Go.Proofs.YtgddhgcjmddjfaaGreat
end
