/- integer: plus, minus, times, byWord. -/
import Derived.Test.YtnkndpoojnflmaaGreatH6
noncomputable section
namespace Go.Proofs.YtnkndpoojnflmaaGreat
open Go.RowKit Go.IntKind
theorem alT:type_of% @Int.mul_le_mul_of_nonneg_right:=@Int.mul_le_mul_of_nonneg_right
theorem amp:type_of% @Int.emod_lt_of_pos:=@Int.emod_lt_of_pos
theorem amv:type_of% @Int.mul_ediv_add_emod:=@Int.mul_ediv_add_emod
theorem amD:type_of% @Int.mul_nonneg:=@Int.mul_nonneg
theorem amG:type_of% @Int.ediv_nonneg:=@Int.ediv_nonneg
theorem amK:type_of% @Int.emod_nonneg:=@Int.emod_nonneg
theorem amU:type_of% @Int.ediv_eq_zero_of_lt:=@Int.ediv_eq_zero_of_lt
theorem amX:type_of% @Int.one_mul:=@Int.one_mul
theorem am1:type_of% @List.getElem_set_ne:=@List.getElem_set_ne
theorem am9:type_of% @Int.ediv_lt_of_lt_mul:=@Int.ediv_lt_of_lt_mul
theorem ans:type_of% @Int.add_mul_ediv_left:=@Int.add_mul_ediv_left
theorem ant:type_of% @Int.mul_comm:=@Int.mul_comm
theorem anB:type_of% @Int.ediv_le_self:=@Int.ediv_le_self
theorem anJ:type_of% @Int.add_mul_emod_self_left:=@Int.add_mul_emod_self_left
theorem anQ:type_of% @Int.mul_le_mul:=@Int.mul_le_mul
theorem anU:type_of% @Int.emod_eq_of_lt:=@Int.emod_eq_of_lt
theorem anV:type_of% @Int.mul_ediv_cancel_left:=@Int.mul_ediv_cancel_left
theorem anY:type_of% @Int.mul_zero:=@Int.mul_zero
theorem an4:type_of% @List.length_drop:=@List.length_drop
theorem aoy:type_of% @Int.mul_neg:=@Int.mul_neg
theorem aoB:type_of% @Int.add_comm:=@Int.add_comm
theorem aoC:type_of% @Int.zero_mul:=@Int.zero_mul
theorem aoQ:type_of% @Int.add_zero:=@Int.add_zero
def abc:NT:=[((303,16),{keep:=[1,5,6,20,21,22],hl:=1})]
def Dk:Ctx:=CX [] abc
def j7(s1 s20:List Int)(s21 s6 s22:Int)(r0:List Int):Cfg:=⟨303,[.blk 0,.seq 45],[(1,.d aoW s1),(5,.own 0),(6,.d aoY s6),(20,.d aoW s20),(21,SI s21),(22,SI s22)],[.row 225 aoY r0],0,[]⟩
def Qy(a b:List Int)(k:KT):Option (List RV):=match decide ((a.length:Int)<(b.length:Int))with|true=>(og (decide ((0:Int)=0∧(0:Int)≤i64.wrap ((b.length:Int)+1)∧(i64.wrap ((b.length:Int)+1))*((4:Nat):Int)≤140737488355328∧i64.wrap ((b.length:Int)+1)≤140737488355328)) (k 16 (j7 a b (b.length:Int) 0 0 ([]:List Int))))|false=>(og (decide ((0:Int)=0∧(0:Int)≤i64.wrap ((a.length:Int)+1)∧(i64.wrap ((a.length:Int)+1))*((4:Nat):Int)≤140737488355328∧i64.wrap ((a.length:Int)+1)≤140737488355328)) (k 16 (j7 b a (a.length:Int) 0 0 ([]:List Int))))
theorem ZK(a b:List Int):RS Dk 303 [.d aoW a,.d aoW b] (Qy a b):=rsX
def kq(s1 s20:List Int)(s21 s6 s22:Int)(r0:List Int)(k:KT):Option (List RV):=match decide (s22<s21)with|true=>(match aR s20 s22 with|some x1=>(match decide (s22<(s1.length:Int))with|true=>(match aR s1 s22 with|some x2=>(match decide ((u32.wrap ((u32.wrap (x1+s6))+x2))≥1000000000)with|true=>(og (decide ((r0.length+([u32.wrap ((u32.wrap ((u32.wrap (x1+s6))+x2))-1000000000)]).length)*4≤140737488355328∧r0.length+([u32.wrap ((u32.wrap ((u32.wrap (x1+s6))+x2))-1000000000)]).length≤140737488355328)) (k 16 (j7 s1 s20 s21 1 (i64.wrap (s22+1)) (r0++([u32.wrap ((u32.wrap ((u32.wrap (x1+s6))+x2))-1000000000)])))))|false=>(og (decide ((r0.length+([u32.wrap ((u32.wrap (x1+s6))+x2)]).length)*4≤140737488355328∧r0.length+([u32.wrap ((u32.wrap (x1+s6))+x2)]).length≤140737488355328)) (k 16 (j7 s1 s20 s21 0 (i64.wrap (s22+1)) (r0++([u32.wrap ((u32.wrap (x1+s6))+x2)]))))))|none=>none)|false=>(match decide ((u32.wrap (x1+s6))≥1000000000)with|true=>(og (decide ((r0.length+([u32.wrap ((u32.wrap (x1+s6))-1000000000)]).length)*4≤140737488355328∧r0.length+([u32.wrap ((u32.wrap (x1+s6))-1000000000)]).length≤140737488355328)) (k 16 (j7 s1 s20 s21 1 (i64.wrap (s22+1)) (r0++([u32.wrap ((u32.wrap (x1+s6))-1000000000)])))))|false=>(og (decide ((r0.length+([u32.wrap (x1+s6)]).length)*4≤140737488355328∧r0.length+([u32.wrap (x1+s6)]).length≤140737488355328)) (k 16 (j7 s1 s20 s21 0 (i64.wrap (s22+1)) (r0++([u32.wrap (x1+s6)])))))))|none=>none)|false=>(og (decide ((r0.length+([s6]).length)*4≤140737488355328∧r0.length+([s6]).length≤140737488355328)) (some [RV.new 225 aoY (r0++([s6]))]))
theorem mO(s1 s20:List Int)(s21 s6 s22:Int)(r0:List Int):RN Dk 16 (j7 s1 s20 s21 s6 s22 r0) (kq s1 s20 s21 s6 s22 r0):=rnX
def aca:NT:=[((304,10),{keep:=[1,5,6,13,14,15],hl:=1})]
def Dn:Ctx:=CX [] aca
def lJ(a b:List Int)(s6 s15:Int)(r0:List Int):Cfg:=⟨304,[.blk 0,.seq 39],[(1,.d aoW b),(5,.own 0),(6,.d aoY s6),(13,.d aoW a),(14,SI (a.length:Int)),(15,SI s15)],[.row 225 aoY r0],0,[]⟩
def ZR(a b:List Int)(k:KT):Option (List RV):=og (decide ((0:Int)≤(a.length:Int)∧(a.length:Int)*((4:Nat):Int)≤140737488355328∧(a.length:Int)≤140737488355328)) (k 10 (lJ a b 0 0 (List.replicate ((a.length:Int)).toNat (0:Int))))
theorem agM(a b:List Int):RS Dn 304 [.d aoW a,.d aoW b] (ZR a b):=rsX
def ki(a b:List Int)(s6 s15:Int)(r0:List Int)(k:KT):Option (List RV):=match decide (s15<(a.length:Int))with|true=>(match aR a s15 with|some x1=>(match decide (s15<(b.length:Int))with|true=>(match aR b s15 with|some x2=>(match decide (x1<(u32.wrap (s6+x2)))with|true=>(match aR r0 s15 with|some _=>(match true,r0[(s15).toNat]? with|true,some _=>k 10 (lJ a b 1 (i64.wrap (s15+1)) (r0.set ((s15).toNat) (u32.wrap ((u32.wrap (x1+1000000000))-(u32.wrap (s6+x2))))))|_,_=>none)|none=>none)|false=>(match aR r0 s15 with|some _=>(match true,r0[(s15).toNat]? with|true,some _=>k 10 (lJ a b 0 (i64.wrap (s15+1)) (r0.set ((s15).toNat) (u32.wrap (x1-(u32.wrap (s6+x2))))))|_,_=>none)|none=>none))|none=>none)|false=>(match decide (x1<s6)with|true=>(match aR r0 s15 with|some _=>(match true,r0[(s15).toNat]? with|true,some _=>k 10 (lJ a b 1 (i64.wrap (s15+1)) (r0.set ((s15).toNat) (u32.wrap ((u32.wrap (x1+1000000000))-s6))))|_,_=>none)|none=>none)|false=>(match aR r0 s15 with|some _=>(match true,r0[(s15).toNat]? with|true,some _=>k 10 (lJ a b 0 (i64.wrap (s15+1)) (r0.set ((s15).toNat) (u32.wrap (x1-s6))))|_,_=>none)|none=>none)))|none=>none)|false=>some [RV.new 225 aoY r0]
theorem mN(a b:List Int)(s6 s15:Int)(r0:List Int):RN Dn 10 (lJ a b s6 s15 r0) (ki a b s6 s15 r0):=rnX
def ac9:NT:=[((270,8),{keep:=[1,5,18,19,20],hl:=1}),((270,25),{keep:=[1,5,6,7,8,18,19,20,25,26,27],hl:=1})]
def xQ:Ctx:=CX [] ac9
def xA(a b:List Int)(s20:Int)(r0:List Int):Cfg:=⟨270,[.blk 0,.seq 42],[(1,.d aoW b),(5,.own 0),(18,.d aoW a),(19,SI (a.length:Int)),(20,SI s20)],[.row 225 aoY r0],0,[]⟩
def wh(a b:List Int)(s20 x1 s8 s27:Int)(r0:List Int):Cfg:=⟨270,[.blk 2,.seq 40,.blk 1,.seq 41,.lp 8,.blk 0,.seq 42],[(1,.d aoW b),(5,.own 0),(6,SI s20),(7,.d aoY x1),(8,.d (.int .u64) s8),(18,.d aoW a),(19,SI (a.length:Int)),(20,SI s20),(25,.d aoW b),(26,SI (b.length:Int)),(27,SI s27)],[.row 225 aoY r0],0,[]⟩
def WA(a b:List Int)(k:KT):Option (List RV):=og (decide ((0:Int)≤i64.wrap ((a.length:Int)+(b.length:Int))∧(i64.wrap ((a.length:Int)+(b.length:Int)))*((4:Nat):Int)≤140737488355328∧i64.wrap ((a.length:Int)+(b.length:Int))≤140737488355328)) (k 8 (xA a b 0 (List.replicate (i64.wrap ((a.length:Int)+(b.length:Int))).toNat (0:Int))))
theorem ahn(a b:List Int):RS xQ 270 [.d aoW a,.d aoW b] (WA a b):=rsX
def w7(a b:List Int)(s20:Int)(r0:List Int)(k:KT):Option (List RV):=match decide (s20<(a.length:Int))with|true=>(match aR a s20 with|some x1=>k 25 (wh a b s20 x1 0 0 r0)|none=>none)|false=>some [RV.new 225 aoY r0]
theorem CY(a b:List Int)(s20:Int)(r0:List Int):RN xQ 8 (xA a b s20 r0) (w7 a b s20 r0):=rnX
def uD(a b:List Int)(s20 x1 s8 s27:Int)(r0:List Int)(k:KT):Option (List RV):=match decide (s27<(b.length:Int))with|true=>(match aR b s27 with|some x2=>(match aR r0 (i64.wrap (s20+s27))with|some _=>(match true,r0[(i64.wrap (s20+s27)).toNat]? with|true,some x3=>(match aR r0 (i64.wrap (s20+s27))with|some _=>(match true,r0[(i64.wrap (s20+s27)).toNat]? with|true,some _=>k 25 (wh a b s20 x1 (u64.wrap (Int.tdiv (u64.wrap ((u64.wrap ((u64.wrap x3)+(u64.wrap ((u64.wrap x1)*(u64.wrap x2)))))+s8)) 1000000000)) (i64.wrap (s27+1)) (r0.set ((i64.wrap (s20+s27)).toNat) (u32.wrap (Int.tmod (u64.wrap ((u64.wrap ((u64.wrap x3)+(u64.wrap ((u64.wrap x1)*(u64.wrap x2)))))+s8)) 1000000000))))|_,_=>none)|none=>none)|_,_=>none)|none=>none)|none=>none)|false=>(match aR r0 (i64.wrap (s20+(b.length:Int)))with|some _=>(match true,r0[(i64.wrap (s20+(b.length:Int))).toNat]? with|true,some _=>k 8 (xA a b (i64.wrap (s20+1)) (r0.set ((i64.wrap (s20+(b.length:Int))).toNat) (u32.wrap s8)))|_,_=>none)|none=>none)
theorem zW(a b:List Int)(s20 x1 s8 s27:Int)(r0:List Int):RN xQ 25 (wh a b s20 x1 s8 s27 r0) (uD a b s20 x1 s8 s27 r0):=rnX
def acH:NT:=[((357,10),{keep:=[0,1,6,7,8],hl:=1})]
def H7:Ctx:=CX [] acH
def v7(a:List Int)(b s7 s8:Int)(r0:List Int):Cfg:=⟨357,[.blk 0,.seq 23],[(0,.d aoW a),(1,.d aoY b),(6,.own 0),(7,.d (.int .u64) s7),(8,SI s8)],[.row 225 aoY r0],0,[]⟩
def ZI(a:List Int)(b:Int)(k:KT):Option (List RV):=og (decide ((0:Int)≤(a.length:Int)∧(a.length:Int)*((4:Nat):Int)≤140737488355328∧(a.length:Int)≤140737488355328)) (k 10 (v7 a b 0 (i64.wrap ((a.length:Int)-1)) (List.replicate ((a.length:Int)).toNat (0:Int))))
theorem aeZ(a:List Int)(b:Int):RS H7 357 [.d aoW a,.d aoY b] (ZI a b):=rsX
def uR(a:List Int)(b s7 s8:Int)(r0:List Int)(k:KT):Option (List RV):=match decide (s8≥0)with|true=>(match aR a s8 with|some x1=>(match decide (u64.wrap b=(0:Int))with|true=>none|false=>(match decide (u64.wrap b=(0:Int))with|true=>none|false=>(match aR r0 s8 with|some _=>(match true,r0[(s8).toNat]? with|true,some _=>k 10 (v7 a b (Int.tmod (u64.wrap ((u64.wrap (s7*1000000000))+(u64.wrap x1))) (u64.wrap b)) (i64.wrap (s8-1)) (r0.set ((s8).toNat) (u32.wrap (u64.wrap (Int.tdiv (u64.wrap ((u64.wrap (s7*1000000000))+(u64.wrap x1))) (u64.wrap b))))))|_,_=>none)|none=>none)))|none=>none)|false=>some [RV.d aoW r0,RV.d aoW ([u32.wrap s7])]
theorem zR(a:List Int)(b s7 s8:Int)(r0:List Int):RN H7 10 (v7 a b s7 s8 r0) (uR a b s7 s8 r0):=rnX
theorem kj{b:List Int}{i:Nat}(h:b.length≤i):b.take (i+1)=b.take i:=by grind [amT]
theorem tY{n:Nat}(h:n≤4000000000):decide ((0:Int)≤(n:Int)∧(n:Int)*((4:Nat):Int)≤140737488355328∧(n:Int)≤140737488355328)=true:=by grind
theorem Rl{m:Nat}(h:m≤4000000000):decide ((m+1)*4≤140737488355328∧m+1≤140737488355328)=true:=by grind
theorem C2(a b:List Int)(ha:aQ a)(hb:aQ b)(hab:b.length≤a.length):∀(j i:Nat) (c:Int) (r:List Int),i+j=a.length→0≤c→c≤1→Lim r→r.length=i→val r+pw i*c=val (a.take i)+val (b.take i)→
  Dk.Runs 16 (j7 b a (a.length:Int) c (i:Int) r) [.new 225 aoY (dig (a.length+1) (val a+val b))]:=by
 have hsa:=ha.2
 intro j
 induction j with
 |zero=>
  intro i c r hi c0 c1 hr hl hv
  obtain rfl:i=a.length:=by omega
  refine mO _ _ _ _ _ _ ⟨0,?_⟩
  unfold kq
  rw[b9 (alL _)]
  simp only[al6]
  rw[Rl (by omega)]
  have e:r++[c]=dig (a.length+1) (val a+val b):=by
   refine A0 (hr.append (Lim.cons ⟨c0,by omega⟩ Lim.nil)) (by simp[hl]) ?_
   rw[dB,hl]
   rw[amY,amT hab]at hv
   simp only[val,anY,aoQ]
   omega
  rw[e]
 |succ j ih=>
  intro i c r hi c0 c1 hr hl hv
  have hia:i<a.length:=by omega
  have xa:=ha.1.get hia
  have hp:=cp i
  have step:∀(y c':Int),0≤y→y<1000000000→0≤c'→c'≤1→val (b.take (i+1))=val (b.take i)+pw i*(y+1000000000*c'-a[i]-c)→Dk.Runs 16 (j7 b a (a.length:Int) c' ((i+1:Nat):Int) (r++[y])) [.new 225 aoY (dig (a.length+1) (val a+val b))]:=by
   intro y c' y0 y1 k0 k1 hb'
   refine ih (i+1) c' (r++[y]) (by omega) k0 k1 (hr.append (Lim.cons ⟨y0,y1⟩ Lim.nil)) (by simp[hl]) ?_
   rw[dB,hl,aW hia,hb',b8]
   simp only[val]
   grind
  by_cases hib:i<b.length
  ·have xb:=hb.1.get hib
   have ht:=aW hib
   by_cases hc:a[i]+c+b[i]≥1000000000
   ·obtain⟨q,hq⟩:=step (a[i]+c+b[i]-1000000000) 1 (by omega) (by omega) (by omega) (by omega) (by rw[ht];grind)
    refine mO _ _ _ _ _ _ ⟨q,?_⟩
    unfold kq
    rw[bH hia,ao,alG hia,bH hib,ao,alG hib]
    dsimp only
    rw[c7 (x:=a[i]+c) (by omega) (by omega),c7 (x:=a[i]+c+b[i]) (by omega) (by omega),alF hc,c7 (x:=a[i]+c+b[i]-1000000000) (by omega) (by omega),bV (by omega)]
    simp only[al6]
    rw[Rl (by omega)]
    exact hq
   ·obtain⟨q,hq⟩:=step (a[i]+c+b[i]) 0 (by omega) (by omega) (by omega) (by omega) (by rw[ht];grind)
    refine mO _ _ _ _ _ _ ⟨q,?_⟩
    unfold kq
    rw[bH hia,ao,alG hia,bH hib,ao,alG hib]
    dsimp only
    rw[c7 (x:=a[i]+c) (by omega) (by omega),c7 (x:=a[i]+c+b[i]) (by omega) (by omega),alH hc,bV (by omega)]
    simp only[al6]
    rw[Rl (by omega)]
    exact hq
  ·have ht:=kj (b:=b) (i:=i) (by omega)
   by_cases hc:a[i]+c≥1000000000
   ·obtain⟨q,hq⟩:=step (a[i]+c-1000000000) 1 (by omega) (by omega) (by omega) (by omega) (by rw[ht];grind)
    refine mO _ _ _ _ _ _ ⟨q,?_⟩
    unfold kq
    rw[bH hia,ao,alG hia,b9 (show b.length≤i by omega)]
    dsimp only
    rw[c7 (x:=a[i]+c) (by omega) (by omega),alF hc,c7 (x:=a[i]+c-1000000000) (by omega) (by omega),bV (by omega)]
    simp only[al6]
    rw[Rl (by omega)]
    exact hq
   ·obtain⟨q,hq⟩:=step (a[i]+c) 0 (by omega) (by omega) (by omega) (by omega) (by rw[ht];grind)
    refine mO _ _ _ _ _ _ ⟨q,?_⟩
    unfold kq
    rw[bH hia,ao,alG hia,b9 (show b.length≤i by omega)]
    dsimp only
    rw[c7 (x:=a[i]+c) (by omega) (by omega),alH hc,bV (by omega)]
    simp only[al6]
    rw[Rl (by omega)]
    exact hq
theorem TJ(a b:List Int)(h:aQ a∧aQ b):Con Tryz.prog 303 [.d aoW a,.d aoW b] [.new 225 aoY (dig (max a.length b.length+1) (val a+val b))]:=by
 refine fK (E:=[]) trivial (show Dk.Res _ _ _ from ?_)
 obtain⟨ha,hb⟩:=h
 have hsa:=ha.2
 have hsb:=hb.2
 have mk:∀n:Nat,n≤1000000000→decide ((0:Int)=0∧(0:Int)≤i64.wrap ((n:Int)+1)∧i64.wrap ((n:Int)+1)*((4:Nat):Int)≤140737488355328∧i64.wrap ((n:Int)+1)≤140737488355328)=true:=fun n hn=>by
  rw[bV (by omega)]
  exact alF ⟨rfl,by omega,by omega,by omega⟩
 by_cases hc:a.length<b.length
 ·obtain⟨q,hq⟩:=C2 b a hb ha (by omega) b.length 0 0 [] (by omega) (by omega) (by omega) Lim.nil rfl (by simp[val])
  refine ZK _ _ ⟨q,?_⟩
  unfold Qy
  rw[bH hc,mk _ hsb,Nat.max_eq_right (by omega),aoB (val a)]
  exact hq
 ·obtain⟨q,hq⟩:=C2 a b ha hb (by omega) a.length 0 0 [] (by omega) (by omega) (by omega) Lim.nil rfl (by simp[val])
  refine ZK _ _ ⟨q,?_⟩
  unfold Qy
  rw[b9 (by omega),mk _ hsa,Nat.max_eq_left (by omega)]
  exact hq
theorem pu{r:List Int}{i:Nat}{y:Int}(hz:∀j (hj:j<r.length),i≤j→r[j]=0):∀j (hj:j<(r.set i y).length),i+1≤j→(r.set i y)[j]=0:=fun j hj hk=>by
 rw[am1 (by omega)]
 exact hz j (by simpa using hj) (by omega)
theorem Ll(a b:List Int)(ha:aQ a)(hb:aQ b)(hle:val b≤val a)(_hab:b.length≤a.length∨True):∀(j i:Nat) (c:Int) (r:List Int),i+j=a.length→0≤c→c≤1→Lim r→r.length=a.length→(∀k (hk:k<r.length),i≤k→r[k]=0)→val r+val (b.take i)=val (a.take i)+pw i*c→
  Dn.Runs 10 (lJ a b c (i:Int) r) [.new 225 aoY (dig a.length (val a-val b))]:=by
 have hsa:=ha.2
 intro j
 induction j with
 |zero=>
  intro i c r hi c0 c1 hr hl hz hv
  obtain rfl:i=a.length:=by omega
  refine mN _ _ _ _ _ ⟨0,?_⟩
  unfold ki
  rw[b9 (alL _)]
  have hrl:=bW hr
  rw[hl]at hrl
  have hb2:val b=val (b.take a.length)+pw (min a.length b.length)*val (b.drop a.length):=f0 b a.length
  have hbd:0≤val (b.drop a.length):=aP (hb.1.drop _)
  have hal:=bW ha.1
  have hbt:=aP (hb.1.take a.length)
  rw[amY]at hv
  have hz0:val (b.drop a.length)=0:=by
   rcases amm a.length b.length with h1|h1
   ·rw[amu (by omega)]at hb2
    rcases amd 0 (val (b.drop a.length))with h2|h2
    ·have hp:=cp a.length
     have:=alN (show 1≤val (b.drop a.length) by omega) (amn hp)
     omega
    ·omega
   ·rw[amB h1];rfl
  rw[hz0,anY,aoQ]at hb2
  have hc0:c=0:=by
   have hp:=cp a.length
   rcases(show c=0∨c=1 by omega)with h|h
   ·exact h
   ·subst h;rw[an1]at hv;omega
  subst hc0
  rw[anY]at hv
  rw[←A0 hr hl (show val r=val a-val b by omega)]
 |succ j ih=>
  intro i c r hi c0 c1 hr hl hz hv
  have hia:i<a.length:=by omega
  have hir:i<r.length:=by omega
  have xa:=ha.1.get hia
  have hr0:=hz i hir (alL _)
  have step:∀(y c':Int),0≤y→y<1000000000→0≤c'→c'≤1→val (b.take (i+1))=val (b.take i)+pw i*(a[i]+1000000000*c'-y-c)→Dn.Runs 10 (lJ a b c' ((i+1:Nat):Int) (r.set i y)) [.new 225 aoY (dig a.length (val a-val b))]:=by
   intro y c' y0 y1 k0 k1 hb'
   refine ih (i+1) c' (r.set i y) (by omega) k0 k1 (hr.set i ⟨y0,y1⟩) (by simpa using hl) (pu hz) ?_
   rw[fj hir,hr0,aW hia,hb',b8]
   grind
  by_cases hib:i<b.length
  ·have xb:=hb.1.get hib
   have ht:=aW hib
   by_cases hc:a[i]<c+b[i]
   ·obtain⟨q,hq⟩:=step (a[i]+1000000000-(c+b[i])) 1 (by omega) (by omega) (by omega) (by omega) (by rw[ht];grind)
    refine mN _ _ _ _ _ ⟨q,?_⟩
    unfold ki
    rw[bH hia,ao,alG hia,bH hib,ao,alG hib,ao,aD,alG hir]
    dsimp only
    rw[c7 (x:=c+b[i]) (by omega) (by omega),alF hc,c7 (x:=a[i]+1000000000) (by omega) (by omega),c7 (x:=a[i]+1000000000-(c+b[i])) (by omega) (by omega),bV (by omega)]
    exact hq
   ·obtain⟨q,hq⟩:=step (a[i]-(c+b[i])) 0 (by omega) (by omega) (by omega) (by omega) (by rw[ht];grind)
    refine mN _ _ _ _ _ ⟨q,?_⟩
    unfold ki
    rw[bH hia,ao,alG hia,bH hib,ao,alG hib,ao,aD,alG hir]
    dsimp only
    rw[c7 (x:=c+b[i]) (by omega) (by omega),alH hc,c7 (x:=a[i]-(c+b[i])) (by omega) (by omega),bV (by omega)]
    exact hq
  ·have ht:=kj (b:=b) (i:=i) (by omega)
   by_cases hc:a[i]<c
   ·obtain⟨q,hq⟩:=step (a[i]+1000000000-c) 1 (by omega) (by omega) (by omega) (by omega) (by rw[ht];grind)
    refine mN _ _ _ _ _ ⟨q,?_⟩
    unfold ki
    rw[bH hia,ao,alG hia,b9 (show b.length≤i by omega),ao r i,aD,alG hir]
    dsimp only
    rw[alF hc,c7 (x:=a[i]+1000000000) (by omega) (by omega),c7 (x:=a[i]+1000000000-c) (by omega) (by omega),bV (by omega)]
    exact hq
   ·obtain⟨q,hq⟩:=step (a[i]-c) 0 (by omega) (by omega) (by omega) (by omega) (by rw[ht];grind)
    refine mN _ _ _ _ _ ⟨q,?_⟩
    unfold ki
    rw[bH hia,ao,alG hia,b9 (show b.length≤i by omega),ao r i,aD,alG hir]
    dsimp only
    rw[alH hc,c7 (x:=a[i]-c) (by omega) (by omega),bV (by omega)]
    exact hq
def oo(a b:List Int):Prop:=aQ a∧aQ b∧val b≤val a
instance (a b:List Int):Decidable (oo a b):=by unfold oo;infer_instance
theorem S9(a b:List Int)(h:oo a b):Con Tryz.prog 304 [.d aoW a,.d aoW b] [.new 225 aoY (dig a.length (val a-val b))]:=by
 refine fK (E:=[]) trivial (show Dn.Res _ _ _ from ?_)
 obtain⟨ha,hb,hle⟩:=h
 have hsa:=ha.2
 obtain⟨q,hq⟩:=Ll a b ha hb hle (.inr trivial) a.length 0 0 (List.replicate a.length 0) (by omega) (by omega) (by omega) (Lim.rep _) (by simp) (fun k hk _=>by simp) (by simp[val,gI])
 refine agM _ _ ⟨q,?_⟩
 unfold ZR
 rw[tY (by omega),aD]
 exact hq
theorem Fq{r x y c:Int}(hr:0≤r∧r<1000000000)(hx:0≤x∧x<1000000000)(hy:0≤y∧y<1000000000)(hc:0≤c∧c<1000000000):0≤x*y∧x*y≤999999998000000001∧0≤(r+x*y+c)/1000000000∧(r+x*y+c)/1000000000<1000000000:=by
 have h1:0≤x*y:=amD hx.1 hy.1
 have h2:x*y≤999999999*999999999:=anQ (by omega) (by omega) hy.1 (by decide)
 omega
theorem J2(a b:List Int)(ha:aQ a)(hb:aQ b)(i:Nat)(hi:i<a.length)
  (hout:∀r,Lim r→r.length=a.length+b.length→(∀k (hk:k<r.length),i+1+b.length≤k→r[k]=0)→val r=val (a.take (i+1))*val b→xQ.Runs 8 (xA a b ((i+1:Nat):Int) r) [.new 225 aoY (dig (a.length+b.length) (val a*val b))]):
  ∀(j k:Nat) (c:Int) (r:List Int),k+j=b.length→0≤c→c<1000000000→Lim r→r.length=a.length+b.length→(∀q (hq:q<r.length),i+b.length≤q→r[q]=0)→val r+pw (i+k)*c=val (a.take i)*val b+pw i*a[i]*val (b.take k)→
  xQ.Runs 25 (wh a b (i:Int) a[i] c (k:Int) r) [.new 225 aoY (dig (a.length+b.length) (val a*val b))]:=by
 have hsa:=ha.2
 have hsb:=hb.2
 have xa:=ha.1.get hi
 intro j
 induction j with
 |zero=>
  intro k c r hk c0 c1 hr hl hz hv
  obtain rfl:k=b.length:=by omega
  have hir:i+b.length<r.length:=by omega
  have hr0:=hz _ hir (alL _)
  obtain⟨q,hq⟩:=hout (r.set (i+b.length) c) (hr.set _ ⟨c0,c1⟩) (by simpa using hl) (by rw[show i+1+b.length=i+b.length+1 by omega];exact pu hz) (by
   rw[fj hir,hr0,aW hi]
   rw[amY]at hv
   grind)
  refine zW _ _ _ _ _ _ _ ⟨q,?_⟩
  have hw:i64.wrap ((i:Int)+(b.length:Int))=((i+b.length:Nat):Int):=by rw[aT (by omega) (by omega)];simp
  unfold uD
  rw[b9 (alL _),hw,ao r (i+b.length),aD,alG hir,c7 (x:=c) (by omega) (by omega),bV (k:=i) (by omega)]
  exact hq
 |succ j ih=>
  intro k c r hk c0 c1 hr hl hz hv
  have hkb:k<b.length:=by omega
  have hir:i+k<r.length:=by omega
  have xb:=hb.1.get hkb
  have xr:=hr.get hir
  have hbd:=Fq xr xa xb ⟨c0,c1⟩
  obtain⟨q,hq⟩:=ih (k+1) ((r[i+k]+a[i]*b[k]+c)/1000000000) (r.set (i+k) ((r[i+k]+a[i]*b[k]+c)%1000000000)) (by omega) hbd.2.2.1 hbd.2.2.2 (hr.set _ (by omega)) (by simpa using hl)
   (fun m hm hq=>by rw[am1 (by omega)];exact hz m (by simpa using hm) hq) (by
    rw[fj hir,aW hkb,show i+(k+1)=i+k+1 by omega,b8,fu]
    rw[fu]at hv
    have e:=Int.emod_add_mul_ediv (r[i+k]+a[i]*b[k]+c) 1000000000
    grind)
  refine zW _ _ _ _ _ _ _ ⟨q,?_⟩
  have hw:i64.wrap ((i:Int)+(k:Int))=((i+k:Nat):Int):=by rw[aT (by omega) (by omega)];simp
  unfold uD
  rw[bH hkb,ao b k,alG hkb,hw,ao r (i+k),aD,alG hir]
  dsimp only
  rw[bj (x:=r[i+k]) (by omega) (by omega),bj (x:=a[i]) (by omega) (by omega),bj (x:=b[k]) (by omega) (by omega),bj (x:=a[i]*b[k]) (by omega) (by omega),bj (x:=r[i+k]+a[i]*b[k]) (by omega) (by omega),bj (x:=r[i+k]+a[i]*b[k]+c) (by omega) (by omega),gX (a:=r[i+k]+a[i]*b[k]+c) (by omega),jo (a:=r[i+k]+a[i]*b[k]+c) (by omega),bj (x:=(r[i+k]+a[i]*b[k]+c)/1000000000) (by omega) (by omega),c7 (x:=(r[i+k]+a[i]*b[k]+c)%1000000000) (by omega) (by omega),bV (k:=k) (by omega)]
  exact hq
theorem KH(a b:List Int)(ha:aQ a)(hb:aQ b):∀(j i:Nat) (r:List Int),i+j=a.length→Lim r→r.length=a.length+b.length→(∀k (hk:k<r.length),i+b.length≤k→r[k]=0)→val r=val (a.take i)*val b→
  xQ.Runs 8 (xA a b (i:Int) r) [.new 225 aoY (dig (a.length+b.length) (val a*val b))]:=by
 have hsa:=ha.2
 intro j
 induction j with
 |zero=>
  intro i r hi hr hl hz hv
  obtain rfl:i=a.length:=by omega
  refine CY _ _ _ _ ⟨0,?_⟩
  unfold w7
  rw[amY]at hv
  rw[b9 (alL _),←A0 hr hl hv]
 |succ j ih=>
  intro i r hi hr hl hz hv
  have hia:i<a.length:=by omega
  obtain⟨q,hq⟩:=J2 a b ha hb i hia (fun r' h1 h2 h3 h4=>ih (i+1) r' (by omega) h1 h2 h3 h4) b.length 0 0 r (by omega) (by omega) (by omega) hr hl hz (by simp[val,hv])
  refine CY _ _ _ _ ⟨q,?_⟩
  unfold w7
  rw[bH hia,ao,alG hia]
  exact hq
theorem VX(a b:List Int)(h:aQ a∧aQ b):Con Tryz.prog 270 [.d aoW a,.d aoW b] [.new 225 aoY (dig (a.length+b.length) (val a*val b))]:=by
 refine fK (E:=[]) trivial (show xQ.Res _ _ _ from ?_)
 obtain⟨ha,hb⟩:=h
 have hsa:=ha.2
 have hsb:=hb.2
 obtain⟨q,hq⟩:=KH a b ha hb a.length 0 (List.replicate (a.length+b.length) 0) (by omega) (Lim.rep _) (by simp) (fun k hk _=>by simp) (by simp[val,gI])
 refine ahn _ _ ⟨q,?_⟩
 have hw:i64.wrap ((a.length:Int)+(b.length:Int))=((a.length+b.length:Nat):Int):=by rw[aT (by omega) (by omega)];simp
 unfold WA
 rw[hw,tY (by omega),aD]
 exact hq
theorem Ml(a:List Int)(b:Int)(ha:aQ a)(hb:1≤b∧b<1000000000):∀(n:Nat) (c:Int) (r:List Int),n≤a.length→0≤c→c<b→Lim r→r.length=a.length→(∀k (hk:k<r.length),k<n→r[k]=0)→b*val r+pw n*c+val (a.take n)=val a→
  H7.Runs 10 (v7 a b c ((n:Int)-1) r) [.d aoW (dig a.length (val a/b)),.d aoW [val a%b]]:=by
 have hsa:=ha.2
 intro n
 induction n with
 |zero=>
  intro c r hn c0 c1 hr hl hz hv
  simp only[m6,List.take_zero,val,amX,aoQ]at hv
  have e1:val a%b=c:=by
   rw[←hv,aoB,anJ]
   exact anU c0 c1
  have e2:val a/b=val r:=by
   rw[←hv,aoB,ans _ _ (by omega),amU c0 c1]
   omega
  refine zR _ _ _ _ _ ⟨0,?_⟩
  unfold uR
  rw[alH (by omega),e1,e2,←A0 hr hl rfl,c7 (x:=c) (by omega) (by omega)]
 |succ n ih=>
  intro c r hn c0 c1 hr hl hz hv
  have hna:n<a.length:=by omega
  have hnr:n<r.length:=by omega
  have xa:=ha.1.get hna
  have hr0:=hz n hnr (by omega)
  have hcb:0≤c*1000000000+a[n]:=by omega
  have m0:=amK (c*1000000000+a[n]) (show b≠0 by omega)
  have m1:=amp (c*1000000000+a[n]) (show 0<b by omega)
  have md:=amv (c*1000000000+a[n]) b
  have d0:0≤(c*1000000000+a[n])/b:=amG hcb (by omega)
  have d1:(c*1000000000+a[n])/b<1000000000:=by
   refine am9 (by omega) ?_
   have:=alT (show c+1≤b by omega) (show(0:Int)≤1000000000 by decide)
   rw[ant 1000000000 b]
   omega
  obtain⟨q,hq⟩:=ih ((c*1000000000+a[n])%b) (r.set n ((c*1000000000+a[n])/b)) (by omega) m0 m1 (hr.set n ⟨d0,d1⟩) (by simpa using hl)
   (fun k hk hkn=>by rw[am1 (by omega)];exact hz k (by simpa using hk) (by omega)) (by
    rw[fj hnr,hr0]
    rw[aW hna,b8]at hv
    grind)
  refine zR _ _ _ _ _ ⟨q,?_⟩
  unfold uR
  rw[show((n+1:Nat):Int)-1=(n:Int) by omega,alF (by omega),ao a n,alG hna,bj (x:=b) (by omega) (by omega),alH (show ¬b=0 by omega),ao r n,aD,alG hnr]
  dsimp only
  rw[bj (x:=c*1000000000) (by omega) (by omega),bj (x:=a[n]) (by omega) (by omega),bj (x:=c*1000000000+a[n]) (by omega) (by omega),gX hcb,jo hcb,bj (x:=(c*1000000000+a[n])/b) (by omega) (by omega),c7 (x:=(c*1000000000+a[n])/b) (by omega) (by omega),aT (x:=(n:Int)-1) (by omega) (by omega)]
  exact hq
def D4(a:List Int)(b:Int):Prop:=aQ a∧1≤b∧b<1000000000
instance (a:List Int) (b:Int):Decidable (D4 a b):=by unfold D4;infer_instance
theorem Vu(a:List Int)(b:Int)(h:D4 a b):Con Tryz.prog 357 [.d aoW a,.d aoY b] [.d aoW (dig a.length (val a/b)),.d aoW [val a%b]]:=by
 refine fK (E:=[]) trivial (show H7.Res _ _ _ from ?_)
 obtain⟨ha,hb⟩:=h
 have hsa:=ha.2
 obtain⟨q,hq⟩:=Ml a b ha hb a.length 0 (List.replicate a.length 0) (alL _) (by omega) (by omega) (Lim.rep _) (by simp) (fun k hk _=>by simp) (by simp[gI])
 refine aeZ _ _ ⟨q,?_⟩
 unfold ZI
 rw[tY (by omega),aD,aT (x:=(a.length:Int)-1) (by omega) (by omega)]
 exact hq
def GG:ef:=spN true false [aoW,aoW] (fun x=>decide (aQ x.1∧aQ x.2.1)) (fun x=>[RV.new 225 aoY (dig (max x.1.length x.2.1.length+1) (val x.1+val x.2.1))])
theorem CF:SpK 303 GG:=spX fun x h=>TJ x.1 x.2.1 (alI h)
def GI:ef:=spN true false [aoW,aoW] (fun x=>decide (oo x.1 x.2.1)) (fun x=>[RV.new 225 aoY (dig x.1.length (val x.1-val x.2.1))])
theorem D0:SpK 304 GI:=spX fun x h=>S9 x.1 x.2.1 (alI h)
def GR:ef:=spN true false [aoW,aoW] (fun x=>decide (aQ x.1∧aQ x.2.1)) (fun x=>[RV.new 225 aoY (dig (x.1.length+x.2.1.length) (val x.1*val x.2.1))])
theorem De:SpK 270 GR:=spX fun x h=>VX x.1 x.2.1 (alI h)
def MZ:ef:=spN false false [aoW,aoY] (fun x=>decide (D4 x.1 x.2.1)) (fun x=>[RV.d aoW (dig x.1.length (val x.1/x.2.1)),RV.d aoW ([val x.1%x.2.1])])
theorem OC:SpK 357 MZ:=spX fun x h=>Vu x.1 x.2.1 (alI h)
def EA:ef:=spN true false [aoW,aoW] (fun x=>decide (aQ x.1∧aQ x.2.1)) (fun x=>[RV.d aoX (cr (val x.1) (val x.2.1))])
theorem CZ:SpK 268 EA:=spX fun x h=>Ua x.1 x.2.1 (alI h)
def PW:Env:=[(322,GS),(303,GG),(304,GI),(270,GR),(357,MZ),(268,EA)]
theorem J5:EnvAll Tryz.prog PW:=⟨DW,CF,D0,De,OC,CZ,trivial⟩
def aaq:NT:=[((340,34),{keep:=[6,7,8,9,10,11],hl:=6}),((340,49),{keep:=[6,7,8,9,10,11,13,14],hl:=6}),((358,8),{keep:=[0,1,2,7,8,14,15],hl:=6}),((359,5),{keep:=[0,1,4,8,9],hl:=6}),((340,68),{keep:=[6,7,8,9,10,11,13,151],hl:=0}),((340,72),{keep:=[6,7,8,9,10,11,13],hl:=0})]
def gG:Ctx:=CX PW aaq
def qx(b:List Int)(x2 s11:Int)(r5 r1:List Int):Cfg:=⟨340,[.blk 0,.seq 76],[(6,SI ((ag (val b).toNat).length:Int)),(7,.d aoY (u32.wrap (u64.wrap (Int.tdiv 1000000000 (u64.wrap ((u64.wrap x2)+1)))))),(8,.own 1),(9,.d aoW (ag (val (dig ((ag (val b).toNat).length+([u32.wrap (u64.wrap (Int.tdiv 1000000000 (u64.wrap ((u64.wrap x2)+1))))]).length) (val (ag (val b).toNat)*val ([u32.wrap (u64.wrap (Int.tdiv 1000000000 (u64.wrap ((u64.wrap x2)+1))))])))).toNat)),(10,.own 5),(11,SI s11)],[.row 225 aoY ([u32.wrap (u64.wrap (Int.tdiv 1000000000 (u64.wrap ((u64.wrap x2)+1))))]),.row 225 aoY r1,.row 225 aoY ([0]),.row 225 aoY ([u32.wrap (u64.wrap (Int.tdiv 1000000000 (u64.wrap ((u64.wrap x2)+1))))]),.gone,.row 225 aoY r5],0,[]⟩
def nZ(b:List Int)(x2 s11:Int)(r1 r5:List Int)(s13 s14:Int):Cfg:=⟨340,[.blk 2,.seq 66,.blk 1,.seq 75,.lp 34,.blk 0,.seq 76],[(6,SI ((ag (val b).toNat).length:Int)),(7,.d aoY (u32.wrap (u64.wrap (Int.tdiv 1000000000 (u64.wrap ((u64.wrap x2)+1)))))),(8,.own 1),(9,.d aoW (ag (val (dig ((ag (val b).toNat).length+([u32.wrap (u64.wrap (Int.tdiv 1000000000 (u64.wrap ((u64.wrap x2)+1))))]).length) (val (ag (val b).toNat)*val ([u32.wrap (u64.wrap (Int.tdiv 1000000000 (u64.wrap ((u64.wrap x2)+1))))])))).toNat)),(10,.own 5),(11,SI s11),(13,.d (.int .u64) s13),(14,.d (.int .u64) s14)],[.row 225 aoY ([u32.wrap (u64.wrap (Int.tdiv 1000000000 (u64.wrap ((u64.wrap x2)+1))))]),.row 225 aoY r1,.row 225 aoY ([0]),.row 225 aoY ([u32.wrap (u64.wrap (Int.tdiv 1000000000 (u64.wrap ((u64.wrap x2)+1))))]),.gone,.row 225 aoY r5],0,[]⟩
def cX(b:List Int)(x2 s11:Int)(r5:List Int)(s358_2 f358_0_13 s358_7 s358_8 s358_15:Int)(r358_1:List Int):Cfg:=⟨358,[.blk 0,.seq 43],[(0,.osl 1 1 ((s11:Int).toNat) ((i64.wrap ((i64.wrap (s11+((ag (val b).toNat).length:Int)))+1):Int).toNat-(s11:Int).toNat)),(1,.d aoW (ag (val (dig ((ag (val b).toNat).length+([u32.wrap (u64.wrap (Int.tdiv 1000000000 (u64.wrap ((u64.wrap x2)+1))))]).length) (val (ag (val b).toNat)*val ([u32.wrap (u64.wrap (Int.tdiv 1000000000 (u64.wrap ((u64.wrap x2)+1))))])))).toNat)),(2,.d (.int .u64) s358_2),(7,.d (.int .u64) s358_7),(8,.d (.int .u64) s358_8),(14,SI (((i64.wrap ((i64.wrap (s11+((ag (val b).toNat).length:Int)))+1):Int).toNat-(s11:Int).toNat:Nat):Int)),(15,SI s358_15)],[.row 225 aoY ([u32.wrap (u64.wrap (Int.tdiv 1000000000 (u64.wrap ((u64.wrap x2)+1))))]),.row 225 aoY r358_1,.row 225 aoY ([0]),.row 225 aoY ([u32.wrap (u64.wrap (Int.tdiv 1000000000 (u64.wrap ((u64.wrap x2)+1))))]),.gone,.row 225 aoY r5],6,[⟨340,[.seq 69,.seq 74,.blk 1,.seq 75,.lp 34,.blk 0,.seq 76],68,9,[(6,SI ((ag (val b).toNat).length:Int)),(7,.d aoY (u32.wrap (u64.wrap (Int.tdiv 1000000000 (u64.wrap ((u64.wrap x2)+1)))))),(8,.own 1),(9,.d aoW (ag (val (dig ((ag (val b).toNat).length+([u32.wrap (u64.wrap (Int.tdiv 1000000000 (u64.wrap ((u64.wrap x2)+1))))]).length) (val (ag (val b).toNat)*val ([u32.wrap (u64.wrap (Int.tdiv 1000000000 (u64.wrap ((u64.wrap x2)+1))))])))).toNat)),(10,.own 5),(11,SI s11),(13,.d (.int .u64) f358_0_13)],0,none⟩]⟩
def dG(b:List Int)(x2 s11:Int)(r5:List Int)(f358_0_13 s359_4 s359_9:Int)(r359_1:List Int):Cfg:=⟨359,[.blk 0],[(0,.osl 1 1 ((s11:Int).toNat) ((i64.wrap ((i64.wrap (s11+((ag (val b).toNat).length:Int)))+1):Int).toNat-(s11:Int).toNat)),(1,.d aoW (ag (val (dig ((ag (val b).toNat).length+([u32.wrap (u64.wrap (Int.tdiv 1000000000 (u64.wrap ((u64.wrap x2)+1))))]).length) (val (ag (val b).toNat)*val ([u32.wrap (u64.wrap (Int.tdiv 1000000000 (u64.wrap ((u64.wrap x2)+1))))])))).toNat)),(4,.d aoY s359_4),(8,SI (((i64.wrap ((i64.wrap (s11+((ag (val b).toNat).length:Int)))+1):Int).toNat-(s11:Int).toNat:Nat):Int)),(9,SI s359_9)],[.row 225 aoY ([u32.wrap (u64.wrap (Int.tdiv 1000000000 (u64.wrap ((u64.wrap x2)+1))))]),.row 225 aoY r359_1,.row 225 aoY ([0]),.row 225 aoY ([u32.wrap (u64.wrap (Int.tdiv 1000000000 (u64.wrap ((u64.wrap x2)+1))))]),.gone,.row 225 aoY r5],6,[⟨340,[.seq 74,.blk 1,.seq 75,.lp 34,.blk 0,.seq 76],72,8,[(6,SI ((ag (val b).toNat).length:Int)),(7,.d aoY (u32.wrap (u64.wrap (Int.tdiv 1000000000 (u64.wrap ((u64.wrap x2)+1)))))),(8,.own 1),(9,.d aoW (ag (val (dig ((ag (val b).toNat).length+([u32.wrap (u64.wrap (Int.tdiv 1000000000 (u64.wrap ((u64.wrap x2)+1))))]).length) (val (ag (val b).toNat)*val ([u32.wrap (u64.wrap (Int.tdiv 1000000000 (u64.wrap ((u64.wrap x2)+1))))])))).toNat)),(10,.own 5),(11,SI s11),(13,.d (.int .u64) (u64.wrap (f358_0_13-1)))],0,none⟩]⟩
def IG(a b:List Int)(k:KT):Option (List RV):=og (decide (aQ a)) (og (decide (aQ b)) (match((ag (val b).toNat).length:Int)==1 with|true=>(match aR (ag (val b).toNat) 0 with|some x1=>(og (decide (D4 (ag (val a).toNat) x1)) (some [RV.d aoW (dig (ag (val a).toNat).length (val (ag (val a).toNat)/x1)),RV.d aoW ([val (ag (val a).toNat)%x1])]))|none=>none)|false=>(og (decide (aQ (ag (val a).toNat)∧aQ (ag (val b).toNat))) (match decide ((cr (val (ag (val a).toNat)) (val (ag (val b).toNat)))<0)with|true=>(og (decide ((ag (val a).toNat).length*4≤140737488355328∧(ag (val a).toNat).length≤140737488355328)) (some [RV.d aoW ([]),RV.d aoW (ag (val a).toNat)]))|false=>(match aR (ag (val b).toNat) (i64.wrap (((ag (val b).toNat).length:Int)-1))with|some x2=>(match decide (u64.wrap ((u64.wrap x2)+1)=(0:Int))with|true=>none|false=>(og (decide (aQ (ag (val a).toNat)∧aQ ([u32.wrap (u64.wrap (Int.tdiv 1000000000 (u64.wrap ((u64.wrap x2)+1))))]))) (og (decide (((dig ((ag (val a).toNat).length+([u32.wrap (u64.wrap (Int.tdiv 1000000000 (u64.wrap ((u64.wrap x2)+1))))]).length) (val (ag (val a).toNat)*val ([u32.wrap (u64.wrap (Int.tdiv 1000000000 (u64.wrap ((u64.wrap x2)+1))))]))).length+([0]).length)*4≤140737488355328∧(dig ((ag (val a).toNat).length+([u32.wrap (u64.wrap (Int.tdiv 1000000000 (u64.wrap ((u64.wrap x2)+1))))]).length) (val (ag (val a).toNat)*val ([u32.wrap (u64.wrap (Int.tdiv 1000000000 (u64.wrap ((u64.wrap x2)+1))))]))).length+([0]).length≤140737488355328)) (og (decide (aQ (ag (val b).toNat)∧aQ ([u32.wrap (u64.wrap (Int.tdiv 1000000000 (u64.wrap ((u64.wrap x2)+1))))]))) (og (decide (aQ (dig ((ag (val b).toNat).length+([u32.wrap (u64.wrap (Int.tdiv 1000000000 (u64.wrap ((u64.wrap x2)+1))))]).length) (val (ag (val b).toNat)*val ([u32.wrap (u64.wrap (Int.tdiv 1000000000 (u64.wrap ((u64.wrap x2)+1))))]))))) (og (decide ((0:Int)≤i64.wrap ((((dig ((ag (val a).toNat).length+([u32.wrap (u64.wrap (Int.tdiv 1000000000 (u64.wrap ((u64.wrap x2)+1))))]).length) (val (ag (val a).toNat)*val ([u32.wrap (u64.wrap (Int.tdiv 1000000000 (u64.wrap ((u64.wrap x2)+1))))])))++([0])).length:Int)-((ag (val b).toNat).length:Int))∧(i64.wrap ((((dig ((ag (val a).toNat).length+([u32.wrap (u64.wrap (Int.tdiv 1000000000 (u64.wrap ((u64.wrap x2)+1))))]).length) (val (ag (val a).toNat)*val ([u32.wrap (u64.wrap (Int.tdiv 1000000000 (u64.wrap ((u64.wrap x2)+1))))])))++([0])).length:Int)-((ag (val b).toNat).length:Int)))*((4:Nat):Int)≤140737488355328∧i64.wrap ((((dig ((ag (val a).toNat).length+([u32.wrap (u64.wrap (Int.tdiv 1000000000 (u64.wrap ((u64.wrap x2)+1))))]).length) (val (ag (val a).toNat)*val ([u32.wrap (u64.wrap (Int.tdiv 1000000000 (u64.wrap ((u64.wrap x2)+1))))])))++([0])).length:Int)-((ag (val b).toNat).length:Int))≤140737488355328)) (k 34 (qx b x2 (i64.wrap ((i64.wrap ((((dig ((ag (val a).toNat).length+([u32.wrap (u64.wrap (Int.tdiv 1000000000 (u64.wrap ((u64.wrap x2)+1))))]).length) (val (ag (val a).toNat)*val ([u32.wrap (u64.wrap (Int.tdiv 1000000000 (u64.wrap ((u64.wrap x2)+1))))])))++([0])).length:Int)-((ag (val b).toNat).length:Int)))-1)) (List.replicate (i64.wrap ((((dig ((ag (val a).toNat).length+([u32.wrap (u64.wrap (Int.tdiv 1000000000 (u64.wrap ((u64.wrap x2)+1))))]).length) (val (ag (val a).toNat)*val ([u32.wrap (u64.wrap (Int.tdiv 1000000000 (u64.wrap ((u64.wrap x2)+1))))])))++([0])).length:Int)-((ag (val b).toNat).length:Int))).toNat (0:Int)) ((dig ((ag (val a).toNat).length+([u32.wrap (u64.wrap (Int.tdiv 1000000000 (u64.wrap ((u64.wrap x2)+1))))]).length) (val (ag (val a).toNat)*val ([u32.wrap (u64.wrap (Int.tdiv 1000000000 (u64.wrap ((u64.wrap x2)+1))))])))++([0]))))))))))|none=>none)))))
theorem K7(a b:List Int):RS gG 340 [.d aoW a,.d aoW b] (IG a b):=rsX
def ug(b:List Int)(x2 s11:Int)(r5 r1:List Int)(k:KT):Option (List RV):=match decide (s11≥0)with|true=>(match aR r1 (i64.wrap (s11+((ag (val b).toNat).length:Int)))with|some _=>(match true,r1[(i64.wrap (s11+((ag (val b).toNat).length:Int))).toNat]? with|true,some x3=>(match aR r1 (i64.wrap ((i64.wrap (s11+((ag (val b).toNat).length:Int)))-1))with|some _=>(match true,r1[(i64.wrap ((i64.wrap (s11+((ag (val b).toNat).length:Int)))-1)).toNat]? with|true,some x4=>(match aR (ag (val (dig ((ag (val b).toNat).length+([u32.wrap (u64.wrap (Int.tdiv 1000000000 (u64.wrap ((u64.wrap x2)+1))))]).length) (val (ag (val b).toNat)*val ([u32.wrap (u64.wrap (Int.tdiv 1000000000 (u64.wrap ((u64.wrap x2)+1))))])))).toNat) (i64.wrap (((ag (val b).toNat).length:Int)-1))with|some x5=>(match decide (u64.wrap x5=(0:Int))with|true=>none|false=>(match aR (ag (val (dig ((ag (val b).toNat).length+([u32.wrap (u64.wrap (Int.tdiv 1000000000 (u64.wrap ((u64.wrap x2)+1))))]).length) (val (ag (val b).toNat)*val ([u32.wrap (u64.wrap (Int.tdiv 1000000000 (u64.wrap ((u64.wrap x2)+1))))])))).toNat) (i64.wrap (((ag (val b).toNat).length:Int)-1))with|some x6=>(match decide (u64.wrap x6=(0:Int))with|true=>none|false=>k 49 (nZ b x2 s11 r1 r5 (u64.wrap (Int.tdiv (u64.wrap ((u64.wrap ((u64.wrap x3)*1000000000))+(u64.wrap x4))) (u64.wrap x5))) (Int.tmod (u64.wrap ((u64.wrap ((u64.wrap x3)*1000000000))+(u64.wrap x4))) (u64.wrap x6))))|none=>none))|none=>none)|_,_=>none)|none=>none)|_,_=>none)|none=>none)|false=>(og (decide ((0:Int)≤0∧0≤((ag (val b).toNat).length:Int)∧((ag (val b).toNat).length:Int)≤(r1.length:Int))) (og (decide (aQ ((r1.drop ((0:Int).toNat)).take ((((ag (val b).toNat).length:Int):Int).toNat-(0:Int).toNat)))) (og (decide (D4 (ag (val ((r1.drop ((0:Int).toNat)).take ((((ag (val b).toNat).length:Int):Int).toNat-(0:Int).toNat))).toNat) (u32.wrap (u64.wrap (Int.tdiv 1000000000 (u64.wrap ((u64.wrap x2)+1))))))) (some [RV.d aoW r5,RV.d aoW (dig (ag (val ((r1.drop ((0:Int).toNat)).take ((((ag (val b).toNat).length:Int):Int).toNat-(0:Int).toNat))).toNat).length (val (ag (val ((r1.drop ((0:Int).toNat)).take ((((ag (val b).toNat).length:Int):Int).toNat-(0:Int).toNat))).toNat)/(u32.wrap (u64.wrap (Int.tdiv 1000000000 (u64.wrap ((u64.wrap x2)+1)))))))]))))
theorem Aa(b:List Int)(x2 s11:Int)(r5 r1:List Int):RN gG 34 (qx b x2 s11 r5 r1) (ug b x2 s11 r5 r1):=rnX
def mV(b:List Int)(x2 s11:Int)(r1 r5:List Int)(s13 s14:Int)(k:KT):Option (List RV):=match decide (s13≥1000000000)with|true=>(match aR (ag (val (dig ((ag (val b).toNat).length+([u32.wrap (u64.wrap (Int.tdiv 1000000000 (u64.wrap ((u64.wrap x2)+1))))]).length) (val (ag (val b).toNat)*val ([u32.wrap (u64.wrap (Int.tdiv 1000000000 (u64.wrap ((u64.wrap x2)+1))))])))).toNat) (i64.wrap (((ag (val b).toNat).length:Int)-1))with|some x7=>(match decide ((u64.wrap (s14+(u64.wrap x7)))≥1000000000)with|true=>(og (decide ((0:Int)≤s11∧s11≤i64.wrap ((i64.wrap (s11+((ag (val b).toNat).length:Int)))+1)∧i64.wrap ((i64.wrap (s11+((ag (val b).toNat).length:Int)))+1)≤(r1.length:Int))) (k 8 (cX b x2 s11 r5 (u64.wrap (s13-1)) (u64.wrap (s13-1)) 0 0 0 r1)))|false=>k 49 (nZ b x2 s11 r1 r5 (u64.wrap (s13-1)) (u64.wrap (s14+(u64.wrap x7)))))|none=>none)|false=>(match aR (ag (val (dig ((ag (val b).toNat).length+([u32.wrap (u64.wrap (Int.tdiv 1000000000 (u64.wrap ((u64.wrap x2)+1))))]).length) (val (ag (val b).toNat)*val ([u32.wrap (u64.wrap (Int.tdiv 1000000000 (u64.wrap ((u64.wrap x2)+1))))])))).toNat) (i64.wrap (((ag (val b).toNat).length:Int)-2))with|some x8=>(match aR r1 (i64.wrap ((i64.wrap (s11+((ag (val b).toNat).length:Int)))-2))with|some _=>(match true,r1[(i64.wrap ((i64.wrap (s11+((ag (val b).toNat).length:Int)))-2)).toNat]? with|true,some x9=>(match decide ((u64.wrap (s13*(u64.wrap x8)))>(u64.wrap ((u64.wrap (s14*1000000000))+(u64.wrap x9))))with|true=>(match aR (ag (val (dig ((ag (val b).toNat).length+([u32.wrap (u64.wrap (Int.tdiv 1000000000 (u64.wrap ((u64.wrap x2)+1))))]).length) (val (ag (val b).toNat)*val ([u32.wrap (u64.wrap (Int.tdiv 1000000000 (u64.wrap ((u64.wrap x2)+1))))])))).toNat) (i64.wrap (((ag (val b).toNat).length:Int)-1))with|some x10=>(match decide ((u64.wrap (s14+(u64.wrap x10)))≥1000000000)with|true=>(og (decide ((0:Int)≤s11∧s11≤i64.wrap ((i64.wrap (s11+((ag (val b).toNat).length:Int)))+1)∧i64.wrap ((i64.wrap (s11+((ag (val b).toNat).length:Int)))+1)≤(r1.length:Int))) (k 8 (cX b x2 s11 r5 (u64.wrap (s13-1)) (u64.wrap (s13-1)) 0 0 0 r1)))|false=>k 49 (nZ b x2 s11 r1 r5 (u64.wrap (s13-1)) (u64.wrap (s14+(u64.wrap x10)))))|none=>none)|false=>(og (decide ((0:Int)≤s11∧s11≤i64.wrap ((i64.wrap (s11+((ag (val b).toNat).length:Int)))+1)∧i64.wrap ((i64.wrap (s11+((ag (val b).toNat).length:Int)))+1)≤(r1.length:Int))) (k 8 (cX b x2 s11 r5 s13 s13 0 0 0 r1))))|_,_=>none)|none=>none)|none=>none)
theorem qf(b:List Int)(x2 s11:Int)(r1 r5:List Int)(s13 s14:Int):RN gG 49 (nZ b x2 s11 r1 r5 s13 s14) (mV b x2 s11 r1 r5 s13 s14):=rnX
def dm(b:List Int)(x2 s11:Int)(r5:List Int)(s358_2 f358_0_13 s358_7 s358_8 s358_15:Int)(r358_1:List Int)(k:KT):Option (List RV):=match decide (s358_15<(((i64.wrap ((i64.wrap (s11+((ag (val b).toNat).length:Int)))+1):Int).toNat-(s11:Int).toNat:Nat):Int))with|true=>(match decide (s358_15<((ag (val (dig ((ag (val b).toNat).length+([u32.wrap (u64.wrap (Int.tdiv 1000000000 (u64.wrap ((u64.wrap x2)+1))))]).length) (val (ag (val b).toNat)*val ([u32.wrap (u64.wrap (Int.tdiv 1000000000 (u64.wrap ((u64.wrap x2)+1))))])))).toNat).length:Int))with|true=>(match aR (ag (val (dig ((ag (val b).toNat).length+([u32.wrap (u64.wrap (Int.tdiv 1000000000 (u64.wrap ((u64.wrap x2)+1))))]).length) (val (ag (val b).toNat)*val ([u32.wrap (u64.wrap (Int.tdiv 1000000000 (u64.wrap ((u64.wrap x2)+1))))])))).toNat) s358_15 with|some x11=>(match true,decide ((0:Int)≤s358_15∧s358_15<(((i64.wrap ((i64.wrap (s11+((ag (val b).toNat).length:Int)))+1):Int).toNat-(s11:Int).toNat:Nat):Int))with|true,true=>(match true,r358_1[(s11:Int).toNat+(s358_15).toNat]? with|true,some x12=>(match decide ((u64.wrap x12)<(u64.wrap ((Int.tmod (u64.wrap (s358_7+(u64.wrap ((u64.wrap x11)*s358_2)))) 1000000000)+s358_8)))with|true=>(match true,decide ((0:Int)≤s358_15∧s358_15<(((i64.wrap ((i64.wrap (s11+((ag (val b).toNat).length:Int)))+1):Int).toNat-(s11:Int).toNat:Nat):Int))with|true,true=>(match true,r358_1[(s11:Int).toNat+(s358_15).toNat]? with|true,some _=>k 8 (cX b x2 s11 r5 s358_2 f358_0_13 (u64.wrap (Int.tdiv (u64.wrap (s358_7+(u64.wrap ((u64.wrap x11)*s358_2)))) 1000000000)) 1 (i64.wrap (s358_15+1)) (r358_1.set ((s11:Int).toNat+(s358_15).toNat) (u32.wrap (u64.wrap ((u64.wrap ((u64.wrap x12)+1000000000))-(u64.wrap ((Int.tmod (u64.wrap (s358_7+(u64.wrap ((u64.wrap x11)*s358_2)))) 1000000000)+s358_8)))))))|_,_=>none)|_,_=>none)|false=>(match true,decide ((0:Int)≤s358_15∧s358_15<(((i64.wrap ((i64.wrap (s11+((ag (val b).toNat).length:Int)))+1):Int).toNat-(s11:Int).toNat:Nat):Int))with|true,true=>(match true,r358_1[(s11:Int).toNat+(s358_15).toNat]? with|true,some _=>k 8 (cX b x2 s11 r5 s358_2 f358_0_13 (u64.wrap (Int.tdiv (u64.wrap (s358_7+(u64.wrap ((u64.wrap x11)*s358_2)))) 1000000000)) 0 (i64.wrap (s358_15+1)) (r358_1.set ((s11:Int).toNat+(s358_15).toNat) (u32.wrap (u64.wrap ((u64.wrap x12)-(u64.wrap ((Int.tmod (u64.wrap (s358_7+(u64.wrap ((u64.wrap x11)*s358_2)))) 1000000000)+s358_8)))))))|_,_=>none)|_,_=>none))|_,_=>none)|_,_=>none)|none=>none)|false=>(match true,decide ((0:Int)≤s358_15∧s358_15<(((i64.wrap ((i64.wrap (s11+((ag (val b).toNat).length:Int)))+1):Int).toNat-(s11:Int).toNat:Nat):Int))with|true,true=>(match true,r358_1[(s11:Int).toNat+(s358_15).toNat]? with|true,some x15=>(match decide ((u64.wrap x15)<(u64.wrap ((Int.tmod s358_7 1000000000)+s358_8)))with|true=>(match true,decide ((0:Int)≤s358_15∧s358_15<(((i64.wrap ((i64.wrap (s11+((ag (val b).toNat).length:Int)))+1):Int).toNat-(s11:Int).toNat:Nat):Int))with|true,true=>(match true,r358_1[(s11:Int).toNat+(s358_15).toNat]? with|true,some _=>k 8 (cX b x2 s11 r5 s358_2 f358_0_13 (u64.wrap (Int.tdiv s358_7 1000000000)) 1 (i64.wrap (s358_15+1)) (r358_1.set ((s11:Int).toNat+(s358_15).toNat) (u32.wrap (u64.wrap ((u64.wrap ((u64.wrap x15)+1000000000))-(u64.wrap ((Int.tmod s358_7 1000000000)+s358_8)))))))|_,_=>none)|_,_=>none)|false=>(match true,decide ((0:Int)≤s358_15∧s358_15<(((i64.wrap ((i64.wrap (s11+((ag (val b).toNat).length:Int)))+1):Int).toNat-(s11:Int).toNat:Nat):Int))with|true,true=>(match true,r358_1[(s11:Int).toNat+(s358_15).toNat]? with|true,some _=>k 8 (cX b x2 s11 r5 s358_2 f358_0_13 (u64.wrap (Int.tdiv s358_7 1000000000)) 0 (i64.wrap (s358_15+1)) (r358_1.set ((s11:Int).toNat+(s358_15).toNat) (u32.wrap (u64.wrap ((u64.wrap x15)-(u64.wrap ((Int.tmod s358_7 1000000000)+s358_8)))))))|_,_=>none)|_,_=>none))|_,_=>none)|_,_=>none))|false=>(match decide (s358_8>0)with|true=>(og (decide ((0:Int)≤s11∧s11≤i64.wrap ((i64.wrap (s11+((ag (val b).toNat).length:Int)))+1)∧i64.wrap ((i64.wrap (s11+((ag (val b).toNat).length:Int)))+1)≤(r358_1.length:Int))) (k 5 (dG b x2 s11 r5 f358_0_13 0 0 r358_1)))|false=>(match decide (s358_7>0)with|true=>(og (decide ((0:Int)≤s11∧s11≤i64.wrap ((i64.wrap (s11+((ag (val b).toNat).length:Int)))+1)∧i64.wrap ((i64.wrap (s11+((ag (val b).toNat).length:Int)))+1)≤(r358_1.length:Int))) (k 5 (dG b x2 s11 r5 f358_0_13 0 0 r358_1)))|false=>(match aR r5 s11 with|some _=>(match true,r5[(s11).toNat]? with|true,some _=>k 34 (qx b x2 (i64.wrap (s11-1)) (r5.set ((s11).toNat) (u32.wrap f358_0_13)) r358_1)|_,_=>none)|none=>none)))
theorem fO(b:List Int)(x2 s11:Int)(r5:List Int)(s358_2 f358_0_13 s358_7 s358_8 s358_15:Int)(r358_1:List Int):RN gG 8 (cX b x2 s11 r5 s358_2 f358_0_13 s358_7 s358_8 s358_15 r358_1) (dm b x2 s11 r5 s358_2 f358_0_13 s358_7 s358_8 s358_15 r358_1):=rnX
def em(b:List Int)(x2 s11:Int)(r5:List Int)(f358_0_13 s359_4 s359_9:Int)(r359_1:List Int)(k:KT):Option (List RV):=match decide (s359_9<(((i64.wrap ((i64.wrap (s11+((ag (val b).toNat).length:Int)))+1):Int).toNat-(s11:Int).toNat:Nat):Int))with|true=>(match true,decide ((0:Int)≤s359_9∧s359_9<(((i64.wrap ((i64.wrap (s11+((ag (val b).toNat).length:Int)))+1):Int).toNat-(s11:Int).toNat:Nat):Int))with|true,true=>(match true,r359_1[(s11:Int).toNat+(s359_9).toNat]? with|true,some x19=>(match decide (s359_9<((ag (val (dig ((ag (val b).toNat).length+([u32.wrap (u64.wrap (Int.tdiv 1000000000 (u64.wrap ((u64.wrap x2)+1))))]).length) (val (ag (val b).toNat)*val ([u32.wrap (u64.wrap (Int.tdiv 1000000000 (u64.wrap ((u64.wrap x2)+1))))])))).toNat).length:Int))with|true=>(match aR (ag (val (dig ((ag (val b).toNat).length+([u32.wrap (u64.wrap (Int.tdiv 1000000000 (u64.wrap ((u64.wrap x2)+1))))]).length) (val (ag (val b).toNat)*val ([u32.wrap (u64.wrap (Int.tdiv 1000000000 (u64.wrap ((u64.wrap x2)+1))))])))).toNat) s359_9 with|some x20=>(match decide ((u32.wrap ((u32.wrap (x19+s359_4))+x20))≥1000000000)with|true=>(match true,decide ((0:Int)≤s359_9∧s359_9<(((i64.wrap ((i64.wrap (s11+((ag (val b).toNat).length:Int)))+1):Int).toNat-(s11:Int).toNat:Nat):Int))with|true,true=>(match true,r359_1[(s11:Int).toNat+(s359_9).toNat]? with|true,some _=>k 5 (dG b x2 s11 r5 f358_0_13 1 (i64.wrap (s359_9+1)) (r359_1.set ((s11:Int).toNat+(s359_9).toNat) (u32.wrap ((u32.wrap ((u32.wrap (x19+s359_4))+x20))-1000000000))))|_,_=>none)|_,_=>none)|false=>(match true,decide ((0:Int)≤s359_9∧s359_9<(((i64.wrap ((i64.wrap (s11+((ag (val b).toNat).length:Int)))+1):Int).toNat-(s11:Int).toNat:Nat):Int))with|true,true=>(match true,r359_1[(s11:Int).toNat+(s359_9).toNat]? with|true,some _=>k 5 (dG b x2 s11 r5 f358_0_13 0 (i64.wrap (s359_9+1)) (r359_1.set ((s11:Int).toNat+(s359_9).toNat) (u32.wrap ((u32.wrap (x19+s359_4))+x20))))|_,_=>none)|_,_=>none))|none=>none)|false=>(match decide ((u32.wrap (x19+s359_4))≥1000000000)with|true=>(match true,decide ((0:Int)≤s359_9∧s359_9<(((i64.wrap ((i64.wrap (s11+((ag (val b).toNat).length:Int)))+1):Int).toNat-(s11:Int).toNat:Nat):Int))with|true,true=>(match true,r359_1[(s11:Int).toNat+(s359_9).toNat]? with|true,some _=>k 5 (dG b x2 s11 r5 f358_0_13 1 (i64.wrap (s359_9+1)) (r359_1.set ((s11:Int).toNat+(s359_9).toNat) (u32.wrap ((u32.wrap (x19+s359_4))-1000000000))))|_,_=>none)|_,_=>none)|false=>(match true,decide ((0:Int)≤s359_9∧s359_9<(((i64.wrap ((i64.wrap (s11+((ag (val b).toNat).length:Int)))+1):Int).toNat-(s11:Int).toNat:Nat):Int))with|true,true=>(match true,r359_1[(s11:Int).toNat+(s359_9).toNat]? with|true,some _=>k 5 (dG b x2 s11 r5 f358_0_13 0 (i64.wrap (s359_9+1)) (r359_1.set ((s11:Int).toNat+(s359_9).toNat) (u32.wrap (x19+s359_4))))|_,_=>none)|_,_=>none)))|_,_=>none)|_,_=>none)|false=>(match aR r5 s11 with|some _=>(match true,r5[(s11).toNat]? with|true,some _=>k 34 (qx b x2 (i64.wrap (s11-1)) (r5.set ((s11).toNat) (u32.wrap (u64.wrap (f358_0_13-1)))) r359_1)|_,_=>none)|none=>none)
theorem fP(b:List Int)(x2 s11:Int)(r5:List Int)(f358_0_13 s359_4 s359_9:Int)(r359_1:List Int):RN gG 5 (dG b x2 s11 r5 f358_0_13 s359_4 s359_9 r359_1) (em b x2 s11 r5 f358_0_13 s359_4 s359_9 r359_1):=rnX
section
theorem O8{x:Int}(h1:1≤x)(h2:x<1000000000):1≤1000000000/(x+1)∧1000000000/(x+1)≤500000000∧(x+1)*(1000000000/(x+1))≤1000000000∧500000000≤x*(1000000000/(x+1)):=by
 have m0:=amK 1000000000 (show x+1≠0 by omega)
 have m1:=amp 1000000000 (show 0<x+1 by omega)
 have md:=amv 1000000000 (x+1)
 have d1:1≤1000000000/(x+1):=Int.le_ediv_of_mul_le (by omega) (by omega)
 have d2:1000000000/(x+1)≤500000000:=by
  have:1000000000/(x+1)<500000001:=am9 (by omega) (by omega)
  omega
 generalize 1000000000/(x+1)=d at*
 refine⟨d1,d2,by omega,?_⟩
 rcases amd x 500000000 with hx|hx
 ·rcases amd (x*d) 500000000 with hd|hd
  ·exfalso
   have e2:(x+1)*d≥1000000000-x:=by omega
   have e3:(x+1)*(x*d)≤(x+1)*499999999:=alN (by omega) (by omega)
   have e4:x*(1000000000-x)≤x*((x+1)*d):=alN e2 (by omega)
   have e5:0≤(x-1)*(500000000-x):=amD (by omega) (by omega)
   grind
  omega
 ·have:=anQ hx d1 (by decide) (by omega)
  omega
structure Kn (w V u2 u1 u0 v1 v0:Int):Prop where
 P:∃P wl vl:Int,0<P∧0≤wl∧wl<P∧0≤vl∧vl<P∧w=wl+P*(u0+1000000000*u1+1000000000*1000000000*u2)∧V=vl+P*(v0+1000000000*v1)
 u2:0≤u2∧u2<1000000000
 u1:0≤u1∧u1<1000000000
 u0:0≤u0∧u0<1000000000
 v1:500000000≤v1∧v1<1000000000
 v0:0≤v0∧v0<1000000000
 lt:w<V*1000000000
section
variable {w V u2 u1 u0 v1 v0:Int} (h:Kn w V u2 u1 u0 v1 v0)
include h
theorem Kn.top:u2≤v1:=by
 obtain⟨⟨P,wl,vl,p0,a1,a2,b1,b2,hw,hV⟩,⟨x1,x2⟩,⟨x3,x4⟩,⟨x5,x6⟩,⟨y1,y2⟩,⟨y3,y4⟩,hlt⟩:=h
 rcases amd v1 u2 with hc|hc
 ·have e1:P*(1000000000*1000000000*(v1+1))≤P*(u0+1000000000*u1+1000000000*1000000000*u2):=alN (by omega) (by omega)
  have e2:P*(v0+1000000000*v1)≤P*(999999999+1000000000*v1):=alN (by omega) (by omega)
  grind
 omega
theorem Kn.pos:0<V:=by
 obtain⟨⟨P,wl,vl,p0,a1,a2,b1,b2,hw,hV⟩,⟨x1,x2⟩,⟨x3,x4⟩,⟨x5,x6⟩,⟨y1,y2⟩,⟨y3,y4⟩,hlt⟩:=h
 have:=Int.mul_pos p0 (show 0<v0+1000000000*v1 by omega)
 omega
theorem Kn.great{g rest:Int}(hg:0≤g)(he:g*v1+rest=u2*1000000000+u1)(hc:rest*1000000000+u0<g*v0):w<g*V:=by
 obtain⟨⟨P,wl,vl,p0,a1,a2,b1,b2,hw,hV⟩,⟨x1,x2⟩,⟨x3,x4⟩,⟨x5,x6⟩,⟨y1,y2⟩,⟨y3,y4⟩,hlt⟩:=h
 have e1:g*V=g*vl+P*(g*v0+1000000000*(g*v1)):=by rw[hV];grind
 have e2:0≤g*vl:=amD hg b1
 have e3:P*(u0+1000000000*u1+1000000000*1000000000*u2+1)≤P*(g*v0+1000000000*(g*v1)):=alN (by omega) (by omega)
 grind
theorem Kn.small{g rest:Int}(_hg:0≤g)(hgB:g≤1000000000)(he:g*v1+rest=u2*1000000000+u1)(hc:g*v0≤rest*1000000000+u0):g*V<w+V:=by
 obtain⟨⟨P,wl,vl,p0,a1,a2,b1,b2,hw,hV⟩,⟨x1,x2⟩,⟨x3,x4⟩,⟨x5,x6⟩,⟨y1,y2⟩,⟨y3,y4⟩,hlt⟩:=h
 have e1:g*V=g*vl+P*(g*v0+1000000000*(g*v1)):=by rw[hV];grind
 have e2:g*vl≤1000000000*P:=anQ hgB (by omega) b1 (by decide)
 have e3:P*(g*v0+1000000000*(g*v1))≤P*(u0+1000000000*u1+1000000000*1000000000*u2):=alN (by omega) (by omega)
 have e4:P*(1000000000*500000000)≤P*(v0+1000000000*v1):=alN (by omega) (by omega)
 omega
theorem Kn.first{g:Int}(hg:g=(u2*1000000000+u1)/v1):w<(g+1)*V:=by
 obtain⟨⟨P,wl,vl,p0,a1,a2,b1,b2,hw,hV⟩,⟨x1,x2⟩,⟨x3,x4⟩,⟨x5,x6⟩,⟨y1,y2⟩,⟨y3,y4⟩,hlt⟩:=h
 have m1:=amp (u2*1000000000+u1) (show 0<v1 by omega)
 have md:=amv (u2*1000000000+u1) v1
 rw[←hg]at md
 have g0:0≤g:=by rw[hg];exact amG (by omega) (by omega)
 have e1:(g+1)*V=(g+1)*vl+P*((g+1)*v0+1000000000*((g+1)*v1)):=by rw[hV];grind
 have e2:0≤(g+1)*vl:=amD (by omega) b1
 have e3:0≤(g+1)*v0:=amD (by omega) y3
 have e4:(g+1)*v1=v1*g+v1:=by grind
 have e5:P*(1000000000*(u2*1000000000+u1+1))≤P*((g+1)*v0+1000000000*((g+1)*v1)):=alN (by omega) (by omega)
 have e6:P*(u0+1000000000*u1+1000000000*1000000000*u2)+P≤P*(1000000000*(u2*1000000000+u1+1)):=by
  have:P*(u0+1000000000*u1+1000000000*1000000000*u2+1)≤P*(1000000000*(u2*1000000000+u1+1)):=alN (by omega) (by omega)
  grind
 omega
end
theorem Dg{l:List Int}{m:Nat}(h:l.length=m+2):val l=val (l.take m)+pw m*(l[m]+1000000000*l[m+1]):=by grind [aW,b8]
theorem Mt{l:List Int}{m:Nat}(h:l.length=m+3):val l=val (l.take m)+pw m*(l[m]+1000000000*l[m+1]+1000000000*1000000000*l[m+2]):=by grind [aW,b8]
def win(k n:Nat)(r:List Int):Int:=val ((r.drop k).take (n+1))
theorem IX{k n:Nat}{r:List Int}(h:k+n+1≤r.length)(hz:val (r.drop (k+n+1))=0):val r=val (r.take k)+pw k*win k n r:=by
 have h1:=f0 r k
 have h2:=f0 (r.drop k) (n+1)
 grind [aoO,win]
theorem Rk{k n:Nat}{r:List Int}(hl:Lim r)(h:k+n+1≤r.length):0≤win k n r∧win k n r<pw (n+1):=by
 have h1:=(hl.drop k).take (n+1)
 have h2:=bW h1
 rw[ams,an4,amu (by omega)]at h2
 exact⟨aP h1,h2⟩
theorem ais{v r:List Int}{k m:Nat}(hv:Lim v)(hvl:v.length=m+2)(hr:Lim r)(hk:k+m+3≤r.length)(htop:500000000≤v[m+1])(hlt:win k (m+2) r<val v*1000000000):
  Kn (win k (m+2) r) (val v) r[k+m+2] r[k+m+1] r[k+m] v[m+1] v[m]:=by
 have hwl:((r.drop k).take (m+2+1)).length=m+3:=by rw[ams,an4];omega
 have h3:=Mt hwl
 have h2:=Dg hvl
 have hl1:=(hr.drop k).take (m+2+1)
 have g:∀j (hj:j<m+3),((r.drop k).take (m+2+1))[j]=r[k+j]:=fun j hj=>by simp
 rw[g m (by omega),g (m+1) (by omega),g (m+2) (by omega)]at h3
 have t1:=hl1.take m
 have t2:=hv.take m
 have b1:=bW t1
 have b2:=bW t2
 rw[ams,amu (by omega)]at b1 b2
 exact⟨⟨pw m,_,_,cp m,aP t1,b1,aP t2,b2,h3,h2⟩,hr.get (by omega),hr.get (by omega),hr.get (by omega),⟨htop,(hv.get (by omega)).2⟩,hv.get (by omega),hlt⟩
end
section
theorem vk{r:List Int}{k i:Nat}(y:Int):(r.set (k+i) y).take k=r.take k:=List.take_set_of_le (by omega)
theorem vi{r:List Int}{k i n:Nat}(y:Int)(h:i≤n):(r.set (k+i) y).drop (k+n+1)=r.drop (k+n+1):=List.drop_set_of_lt (by omega)
section
variable (b:List Int) (x2:Int) (v:List Int) (m:Nat) (hN:(ag (val b).toNat).length=m+2) (hv:ag (val (dig ((ag (val b).toNat).length+([u32.wrap (u64.wrap (Int.tdiv 1000000000 (u64.wrap ((u64.wrap x2)+1))))]).length) (val (ag (val b).toNat)*val ([u32.wrap (u64.wrap (Int.tdiv 1000000000 (u64.wrap ((u64.wrap x2)+1))))])))).toNat=v) (lv:Lim v) (hvl:v.length=m+2)
include hN hv lv hvl
theorem QO(k:Nat)(r0 r5:List Int)(g:Int)(hg:0≤g∧g<1000000000)(hk:k+(m+2)+1≤r0.length)(hsz:r0.length≤4000000000)(R:List RV)
  (hno:∀r,Lim r→r.length=r0.length→r.take k=r0.take k→r.drop (k+(m+2)+1)=r0.drop (k+(m+2)+1)→val r=val r0-pw k*(g*val v)→∃q,dm b x2 (k:Int) r5 g g 0 0 ((m+2+1:Nat):Int) r (gG.k q)=some R)
  (hyes:∀r,Lim r→r.length=r0.length→r.take k=r0.take k→r.drop (k+(m+2)+1)=r0.drop (k+(m+2)+1)→val r=val r0-pw k*(g*val v)+pw (k+(m+2)+1)→∃q,dm b x2 (k:Int) r5 g g 0 1 ((m+2+1:Nat):Int) r (gG.k q)=some R):
  ∀(j i:Nat) (c bo:Int) (r:List Int),i+j=m+2+1→0≤c→c<1000000000→(i=m+2+1→c=0)→0≤bo→bo≤1→Lim r→r.length=r0.length→r.take k=r0.take k→r.drop (k+(m+2)+1)=r0.drop (k+(m+2)+1)→
   val r=val r0-pw k*(g*val (v.take i))+pw (k+i)*(c+bo)→gG.Runs 8 (cX b x2 (k:Int) r5 g g c bo (i:Int) r) R:=by
 have e1:i64.wrap ((k:Int)+((m+2:Nat):Int))=((k+(m+2):Nat):Int):=by rw[aT (by omega) (by omega)];simp
 have e2:i64.wrap (((k+(m+2):Nat):Int)+1)=((k+(m+2)+1:Nat):Int):=bV (by omega)
 have e3:k+(m+2)+1-k=m+2+1:=by omega
 intro j
 induction j with
 |zero=>
  intro i c bo r hi c0 c1 hc b0 b1 lr hl ht hd hval
  obtain rfl:i=m+2+1:=by omega
  obtain rfl:=hc rfl
  rw[amT (by omega)]at hval
  refine fO _ _ _ _ _ _ _ _ _ _ ?_
  rcases(show bo=0∨bo=1 by omega)with rfl|rfl
  ·exact hno r lr hl ht hd (by rw[hval];simp)
  ·exact hyes r lr hl ht hd (by rw[hval];simp;rfl)
 |succ j ih=>
  intro i c bo r hi c0 c1 hc b0 b1 lr hl ht hd hval
  have hir:k+i<r.length:=by omega
  have xr:=lr.get hir
  have hwi:decide ((0:Int)≤(i:Int)∧(i:Int)<((m+2+1:Nat):Int))=true:=alF (by omega)
  have hlt:decide ((i:Int)<((m+2+1:Nat):Int))=true:=alF (by omega)
  have hw:=hv
  have step:∀(c' y bo':Int),0≤c'→c'<1000000000→(i+1=m+2+1→c'=0)→0≤y→y<1000000000→0≤bo'→bo'≤1→y=r[k+i]-(val (v.take (i+1))-val (v.take i))/pw i*g-c+1000000000*c'-bo+1000000000*bo'→pw i*((val (v.take (i+1))-val (v.take i))/pw i)=val (v.take (i+1))-val (v.take i)→
    gG.Runs 8 (cX b x2 (k:Int) r5 g g c' bo' ((i+1:Nat):Int) (r.set (k+i) y)) R:=by
   intro c' y bo' k0 k1 kc y0 y1 k2 k3 hy hp
   refine ih (i+1) c' bo' (r.set (k+i) y) (by omega) k0 k1 kc k2 k3 (lr.set _ ⟨y0,y1⟩) (by simpa using hl) (by rw[vk];exact ht) (by rw[vi _ (by omega)];exact hd) ?_
   rw[fj hir,hval,hy,show k+(i+1)=k+i+1 by omega,b8,fu]
   generalize (val (v.take (i+1))-val (v.take i))/pw i=d at*
   have:val (v.take (i+1))=val (v.take i)+pw i*d:=by omega
   rw[this]
   grind
  by_cases hiv:i<m+2
  ·have hiv':i<v.length:=by omega
   have xv:=lv.get hiv'
   have hdv:(val (v.take (i+1))-val (v.take i))/pw i=v[i]:=by
    rw[aW hiv',show val (v.take i)+pw i*v[i]-val (v.take i)=pw i*v[i] by omega,anV _ (by have:=cp i;omega)]
   rw[hdv]at step
   have hbd:=Fq (r:=0) (by decide) xv hg ⟨c0,c1⟩
   have t0:0≤c+v[i]*g:=by omega
   have q0:0≤(c+v[i]*g)/1000000000∧(c+v[i]*g)/1000000000<1000000000:=by omega
   have hpv:pw i*v[i]=val (v.take (i+1))-val (v.take i):=by rw[aW hiv'];omega
   by_cases hc2:r[k+i]<(c+v[i]*g)%1000000000+bo
   ·obtain⟨q,hq⟩:=step ((c+v[i]*g)/1000000000) (r[k+i]+1000000000-((c+v[i]*g)%1000000000+bo)) 1 q0.1 q0.2 (by omega) (by omega) (by omega) (by omega) (by omega) (by omega) hpv
    refine fO _ _ _ _ _ _ _ _ _ _ ⟨q,?_⟩
    unfold dm
    rw[hw,hN,e1,e2,aD,aD,e3,hlt,hwi,hvl,bH hiv,ao v i,alG hiv',aD,alG hir]
    dsimp only
    rw[bj (x:=v[i]) (by omega) (by omega),bj (x:=v[i]*g) (by omega) (by omega),bj (x:=c+v[i]*g) (by omega) (by omega),jo t0,gX t0,bj (x:=(c+v[i]*g)/1000000000) (by omega) (by omega),bj (x:=(c+v[i]*g)%1000000000+bo) (by omega) (by omega),bj (x:=r[k+i]) (by omega) (by omega),alF hc2,
     bj (x:=r[k+i]+1000000000) (by omega) (by omega),bj (x:=r[k+i]+1000000000-((c+v[i]*g)%1000000000+bo)) (by omega) (by omega),c7 (x:=r[k+i]+1000000000-((c+v[i]*g)%1000000000+bo)) (by omega) (by omega),bV (k:=i) (by omega)]
    exact hq
   ·obtain⟨q,hq⟩:=step ((c+v[i]*g)/1000000000) (r[k+i]-((c+v[i]*g)%1000000000+bo)) 0 q0.1 q0.2 (by omega) (by omega) (by omega) (by omega) (by omega) (by omega) hpv
    refine fO _ _ _ _ _ _ _ _ _ _ ⟨q,?_⟩
    unfold dm
    rw[hw,hN,e1,e2,aD,aD,e3,hlt,hwi,hvl,bH hiv,ao v i,alG hiv',aD,alG hir]
    dsimp only
    rw[bj (x:=v[i]) (by omega) (by omega),bj (x:=v[i]*g) (by omega) (by omega),bj (x:=c+v[i]*g) (by omega) (by omega),jo t0,gX t0,bj (x:=(c+v[i]*g)/1000000000) (by omega) (by omega),bj (x:=(c+v[i]*g)%1000000000+bo) (by omega) (by omega),bj (x:=r[k+i]) (by omega) (by omega),alH hc2,
     bj (x:=r[k+i]-((c+v[i]*g)%1000000000+bo)) (by omega) (by omega),c7 (x:=r[k+i]-((c+v[i]*g)%1000000000+bo)) (by omega) (by omega),bV (k:=i) (by omega)]
    exact hq
  ·have hpz:val (v.take (i+1))-val (v.take i)=0:=by rw[kj (by omega)];omega
   rw[hpz]at step
   simp only[Int.zero_ediv,aoC,anY,Int.sub_zero,forall_const]at step
   have m0:c%1000000000=c:=by omega
   have d0:c/1000000000=0:=by omega
   by_cases hc2:r[k+i]<c+bo
   ·obtain⟨q,hq⟩:=step 0 (r[k+i]+1000000000-(c+bo)) 1 (by omega) (by omega) (by omega) (by omega) (by omega) (by omega) (by omega) (by omega)
    refine fO _ _ _ _ _ _ _ _ _ _ ⟨q,?_⟩
    unfold dm
    rw[hw,hN,e1,e2,aD,aD,e3,hlt,hwi,hvl,b9 (show m+2≤i by omega),aD,alG hir]
    dsimp only
    rw[jo c0,gX c0,m0,d0,bj (x:=0) (by omega) (by omega),bj (x:=c+bo) (by omega) (by omega),bj (x:=r[k+i]) (by omega) (by omega),alF hc2,
     bj (x:=r[k+i]+1000000000) (by omega) (by omega),bj (x:=r[k+i]+1000000000-(c+bo)) (by omega) (by omega),c7 (x:=r[k+i]+1000000000-(c+bo)) (by omega) (by omega),bV (k:=i) (by omega)]
    exact hq
   ·obtain⟨q,hq⟩:=step 0 (r[k+i]-(c+bo)) 0 (by omega) (by omega) (by omega) (by omega) (by omega) (by omega) (by omega) (by omega)
    refine fO _ _ _ _ _ _ _ _ _ _ ⟨q,?_⟩
    unfold dm
    rw[hw,hN,e1,e2,aD,aD,e3,hlt,hwi,hvl,b9 (show m+2≤i by omega),aD,alG hir]
    dsimp only
    rw[jo c0,gX c0,m0,d0,bj (x:=0) (by omega) (by omega),bj (x:=c+bo) (by omega) (by omega),bj (x:=r[k+i]) (by omega) (by omega),alH hc2,
     bj (x:=r[k+i]-(c+bo)) (by omega) (by omega),c7 (x:=r[k+i]-(c+bo)) (by omega) (by omega),bV (k:=i) (by omega)]
    exact hq
end
end
section
section
variable (b:List Int) (x2:Int) (v:List Int) (m:Nat) (hN:(ag (val b).toNat).length=m+2) (hv:ag (val (dig ((ag (val b).toNat).length+([u32.wrap (u64.wrap (Int.tdiv 1000000000 (u64.wrap ((u64.wrap x2)+1))))]).length) (val (ag (val b).toNat)*val ([u32.wrap (u64.wrap (Int.tdiv 1000000000 (u64.wrap ((u64.wrap x2)+1))))])))).toNat=v) (lv:Lim v) (hvl:v.length=m+2)
include hN hv lv hvl
theorem Ly(k:Nat)(r0 r5:List Int)(f:Int)(hk:k+(m+2)+1≤r0.length)(hsz:r0.length≤4000000000)(R:List RV)
  (hend:∀r c,Lim r→r.length=r0.length→r.take k=r0.take k→r.drop (k+(m+2)+1)=r0.drop (k+(m+2)+1)→0≤c→c≤1→val r=val r0+pw k*val v-pw (k+(m+2)+1)*c→∃q,em b x2 (k:Int) r5 f c ((m+2+1:Nat):Int) r (gG.k q)=some R):
  ∀(j i:Nat) (c:Int) (r:List Int),i+j=m+2+1→0≤c→c≤1→Lim r→r.length=r0.length→r.take k=r0.take k→r.drop (k+(m+2)+1)=r0.drop (k+(m+2)+1)→
   val r=val r0+pw k*val (v.take i)-pw (k+i)*c→gG.Runs 5 (dG b x2 (k:Int) r5 f c (i:Int) r) R:=by
 have e1:i64.wrap ((k:Int)+((m+2:Nat):Int))=((k+(m+2):Nat):Int):=by rw[aT (by omega) (by omega)];simp
 have e2:i64.wrap (((k+(m+2):Nat):Int)+1)=((k+(m+2)+1:Nat):Int):=bV (by omega)
 have e3:k+(m+2)+1-k=m+2+1:=by omega
 intro j
 induction j with
 |zero=>
  intro i c r hi c0 c1 lr hl ht hd hval
  obtain rfl:i=m+2+1:=by omega
  rw[amT (by omega)]at hval
  refine fP _ _ _ _ _ _ _ _ ?_
  exact hend r c lr hl ht hd c0 c1 hval
 |succ j ih=>
  intro i c r hi c0 c1 lr hl ht hd hval
  have hir:k+i<r.length:=by omega
  have xr:=lr.get hir
  have hwi:decide ((0:Int)≤(i:Int)∧(i:Int)<((m+2+1:Nat):Int))=true:=alF (by omega)
  have hlt:decide ((i:Int)<((m+2+1:Nat):Int))=true:=alF (by omega)
  have hw:=hv
  have step:∀(c' y d:Int),0≤c'→c'≤1→0≤y→y<1000000000→y=r[k+i]+c+d-1000000000*c'→val (v.take (i+1))=val (v.take i)+pw i*d→
    gG.Runs 5 (dG b x2 (k:Int) r5 f c' ((i+1:Nat):Int) (r.set (k+i) y)) R:=by
   intro c' y d k0 k1 y0 y1 hy hp
   refine ih (i+1) c' (r.set (k+i) y) (by omega) k0 k1 (lr.set _ ⟨y0,y1⟩) (by simpa using hl) (by rw[vk];exact ht) (by rw[vi _ (by omega)];exact hd) ?_
   rw[fj hir,hval,hy,hp,show k+(i+1)=k+i+1 by omega,b8,fu]
   grind
  by_cases hiv:i<m+2
  ·have hiv':i<v.length:=by omega
   have xv:=lv.get hiv'
   have hpv:=aW hiv'
   by_cases hc2:r[k+i]+c+v[i]≥1000000000
   ·obtain⟨q,hq⟩:=step 1 (r[k+i]+c+v[i]-1000000000) v[i] (by omega) (by omega) (by omega) (by omega) (by omega) hpv
    refine fP _ _ _ _ _ _ _ _ ⟨q,?_⟩
    unfold em
    rw[hw,hN,e1,e2,aD,aD,e3,hlt,hwi,hvl,bH hiv,ao v i,alG hiv',aD,alG hir]
    dsimp only
    rw[c7 (x:=r[k+i]+c) (by omega) (by omega),c7 (x:=r[k+i]+c+v[i]) (by omega) (by omega),alF hc2,c7 (x:=r[k+i]+c+v[i]-1000000000) (by omega) (by omega),bV (k:=i) (by omega)]
    exact hq
   ·obtain⟨q,hq⟩:=step 0 (r[k+i]+c+v[i]) v[i] (by omega) (by omega) (by omega) (by omega) (by omega) hpv
    refine fP _ _ _ _ _ _ _ _ ⟨q,?_⟩
    unfold em
    rw[hw,hN,e1,e2,aD,aD,e3,hlt,hwi,hvl,bH hiv,ao v i,alG hiv',aD,alG hir]
    dsimp only
    rw[c7 (x:=r[k+i]+c) (by omega) (by omega),c7 (x:=r[k+i]+c+v[i]) (by omega) (by omega),alH hc2,bV (k:=i) (by omega)]
    exact hq
  ·have hpz:val (v.take (i+1))=val (v.take i)+pw i*0:=by rw[kj (by omega)];simp
   by_cases hc2:r[k+i]+c≥1000000000
   ·obtain⟨q,hq⟩:=step 1 (r[k+i]+c-1000000000) 0 (by omega) (by omega) (by omega) (by omega) (by omega) hpz
    refine fP _ _ _ _ _ _ _ _ ⟨q,?_⟩
    unfold em
    rw[hw,hN,e1,e2,aD,aD,e3,hlt,hwi,hvl,b9 (show m+2≤i by omega),aD,alG hir]
    dsimp only
    rw[c7 (x:=r[k+i]+c) (by omega) (by omega),alF hc2,c7 (x:=r[k+i]+c-1000000000) (by omega) (by omega),bV (k:=i) (by omega)]
    exact hq
   ·obtain⟨q,hq⟩:=step 0 (r[k+i]+c) 0 (by omega) (by omega) (by omega) (by omega) (by omega) hpz
    refine fP _ _ _ _ _ _ _ _ ⟨q,?_⟩
    unfold em
    rw[hw,hN,e1,e2,aD,aD,e3,hlt,hwi,hvl,b9 (show m+2≤i by omega),aD,alG hir]
    dsimp only
    rw[c7 (x:=r[k+i]+c) (by omega) (by omega),alH hc2,bV (k:=i) (by omega)]
    exact hq
theorem E3(k:Nat)(r1 r5:List Int)(hk:k+m+3≤r1.length)(hsz:r1.length≤4000000000)(R:List RV)(K:Kn (win k (m+2) r1) (val v) r1[k+m+2] r1[k+m+1] r1[k+m] v[m+1] v[m])
  (hafter:∀g,0≤g→g<1000000000→win k (m+2) r1<(g+1)*val v→g*val v<win k (m+2) r1+val v→gG.Runs 8 (cX b x2 (k:Int) r5 g g 0 0 0 r1) R):
  ∀(fuel:Nat) (g rest:Int),g≤(fuel:Int)→0≤g→g≤2000000000→0≤rest→rest<1000000000→g*v[m+1]+rest=r1[k+m+2]*1000000000+r1[k+m+1]→win k (m+2) r1<(g+1)*val v→gG.Runs 49 (nZ b x2 (k:Int) r1 r5 g rest) R:=by
 have _lv:=lv
 have e1:i64.wrap ((k:Int)+((m+2:Nat):Int))=((k+m+2:Nat):Int):=by rw[aT (by omega) (by omega)];simp;omega
 have e2:i64.wrap (((k+m+2:Nat):Int)+1)=((k+m+3:Nat):Int):=by rw[aT (by omega) (by omega)];simp;omega
 have e3:i64.wrap (((m+2:Nat):Int)-1)=((m+1:Nat):Int):=by rw[aT (by omega) (by omega)];omega
 have e4:i64.wrap (((m+2:Nat):Int)-2)=((m:Nat):Int):=by rw[aT (by omega) (by omega)];omega
 have e5:i64.wrap (((k+m+2:Nat):Int)-2)=((k+m:Nat):Int):=by rw[aT (by omega) (by omega)];omega
 have hsl:decide ((0:Int)≤(k:Int)∧(k:Int)≤((k+m+3:Nat):Int)∧((k+m+3:Nat):Int)≤(r1.length:Int))=true:=alF (by omega)
 have hV:=K.pos
 have htop:=K.top
 have ku2:=K.u2
 have ku1:=K.u1
 have ku0:=K.u0
 have kv1:=K.v1
 have kv0:=K.v0
 intro fuel
 induction fuel with
 |zero=>
  intro g rest hf g0 gB r0 r1' he hlt
  obtain rfl:g=0:=by omega
  obtain⟨q,hq⟩:=hafter 0 (by omega) (by omega) hlt (by have:=hlt;have:=K.small (g:=0) (rest:=rest) (by omega) (by omega) he (by omega);omega)
  refine qf _ _ _ _ _ _ _ ⟨q,?_⟩
  unfold mV
  rw[alH (by omega),hv,hN,e1,e2,e4,e5,ao v m,alG (by omega),ao r1 (k+m),aD,alG (show k+m<r1.length by omega)]
  dsimp only
  rw[bj (x:=v[m]) (by omega) (by omega),aoC,bj (x:=0) (by omega) (by omega),bj (x:=rest*1000000000) (by omega) (by omega),bj (x:=r1[k+m]) (by omega) (by omega),bj (x:=rest*1000000000+r1[k+m]) (by omega) (by omega),alH (by omega),hsl]
  exact hq
 |succ fuel ih=>
  intro g rest hf g0 gB rr0 rr1 he hlt
  have down:win k (m+2) r1<g*val v→∃q,(match decide (u64.wrap (rest+u64.wrap v[m+1])≥1000000000)with|true=>gG.k q 8 (cX b x2 (k:Int) r5 (u64.wrap (g-1)) (u64.wrap (g-1)) 0 0 0 r1)|false=>gG.k q 49 (nZ b x2 (k:Int) r1 r5 (u64.wrap (g-1)) (u64.wrap (rest+u64.wrap v[m+1]))))=some R:=by
   intro hw
   have gp:1≤g:=by
    rcases amd 0 g with h|h
    ·exact h
    ·exfalso
     have hg:g=0:=by omega
     subst hg
     rw[aoC]at hw
     obtain⟨⟨P,wl,vl,p0,a1,a2,b1,b2,hw',hV'⟩,_⟩:=K
     have:=amD (amn p0) (show 0≤r1[k+m]+1000000000*r1[k+m+1]+1000000000*1000000000*r1[k+m+2] by omega)
     omega
   have he':(g-1)*v[m+1]+(rest+v[m+1])=r1[k+m+2]*1000000000+r1[k+m+1]:=by rw[←he];grind
   have hw':win k (m+2) r1<(g-1+1)*val v:=by rw[show g-1+1=g by omega];exact hw
   rw[bj (x:=v[m+1]) (by omega) (by omega),bj (x:=rest+v[m+1]) (by omega) (by omega),bj (x:=g-1) (by omega) (by omega)]
   by_cases hb:rest+v[m+1]≥1000000000
   ·have gl:g-1<1000000000:=by
     rcases amd (g-1) 1000000000 with h|h
     ·exact h
     ·exfalso
      have e1:=alT h (show 0≤v[m+1] by omega)
      have e2:=alT htop (show(0:Int)≤1000000000 by decide)
      omega
    have e1:(g-1)*v[m]≤1000000000*1000000000:=anQ (by omega) (by omega) (by omega) (by decide)
    obtain⟨q,hq⟩:=hafter (g-1) (by omega) gl hw' (K.small (by omega) (by omega) he' (by omega))
    exact⟨q,by rw[alF hb];exact hq⟩
   ·obtain⟨q,hq⟩:=ih (g-1) (rest+v[m+1]) (by omega) (by omega) (by omega) (by omega) (by omega) he' hw'
    exact⟨q,by rw[alH hb];exact hq⟩
  by_cases hgB:g≥1000000000
  ·obtain⟨q,hq⟩:=down (by
    have h1:=K.lt
    have:=alT hgB (amn hV)
    rw[ant]at h1
    omega)
   refine qf _ _ _ _ _ _ _ ⟨q,?_⟩
   unfold mV
   rw[alF hgB,hv,hN,e1,e2,e3,ao v (m+1),alG (show m+1<v.length by omega),hsl]
   exact hq
  ·have hgv:g*v[m]≤1000000000*1000000000:=anQ (by omega) (by omega) (by omega) (by decide)
   have hgv0:0≤g*v[m]:=amD g0 (by omega)
   by_cases hc:g*v[m]>rest*1000000000+r1[k+m]
   ·obtain⟨q,hq⟩:=down (K.great g0 he hc)
    refine qf _ _ _ _ _ _ _ ⟨q,?_⟩
    unfold mV
    rw[alH hgB,hv,hN,e1,e2,e3,e4,e5,ao v m,alG (show m<v.length by omega),ao v (m+1),alG (show m+1<v.length by omega),ao r1 (k+m),aD,alG (show k+m<r1.length by omega),hsl]
    dsimp only
    rw[bj (x:=v[m]) (by omega) (by omega),bj (x:=g*v[m]) (by omega) (by omega),bj (x:=rest*1000000000) (by omega) (by omega),bj (x:=r1[k+m]) (by omega) (by omega),bj (x:=rest*1000000000+r1[k+m]) (by omega) (by omega),alF hc]
    exact hq
   ·obtain⟨q,hq⟩:=hafter g g0 (by omega) hlt (K.small g0 (by omega) he (by omega))
    refine qf _ _ _ _ _ _ _ ⟨q,?_⟩
    unfold mV
    rw[alH hgB,hv,hN,e1,e2,e4,e5,ao v m,alG (show m<v.length by omega),ao r1 (k+m),aD,alG (show k+m<r1.length by omega),hsl]
    dsimp only
    rw[bj (x:=v[m]) (by omega) (by omega),bj (x:=g*v[m]) (by omega) (by omega),bj (x:=rest*1000000000) (by omega) (by omega),bj (x:=r1[k+m]) (by omega) (by omega),bj (x:=rest*1000000000+r1[k+m]) (by omega) (by omega),alH hc]
    exact hq
end
end
section
section
variable (b:List Int) (x2:Int) (v:List Int) (m:Nat) (hN:(ag (val b).toNat).length=m+2) (hv:ag (val (dig ((ag (val b).toNat).length+([u32.wrap (u64.wrap (Int.tdiv 1000000000 (u64.wrap ((u64.wrap x2)+1))))]).length) (val (ag (val b).toNat)*val ([u32.wrap (u64.wrap (Int.tdiv 1000000000 (u64.wrap ((u64.wrap x2)+1))))])))).toNat=v) (lv:Lim v) (hvl:v.length=m+2)
include hN hv lv hvl
set_option maxHeartbeats 2000000 in
theorem ME(sc:Int)(hsc:u32.wrap (u64.wrap (Int.tdiv 1000000000 (u64.wrap ((u64.wrap x2)+1))))=sc)(hs1:1≤sc)(hs2:sc≤500000000)(htop:500000000≤v[m+1])(A:Int):
  ∀(M:Nat) (r5 r1:List Int),Lim r5→Lim r1→r1.length=r5.length+(m+2)→r1.length≤1000000000→M≤r5.length→val v*val r5+val r1=A→(∀j (hj:j<r5.length),j<M→r5[j]=0)→val r1<val v*pw M→
   ∃qL rL,(Lim qL∧Lim rL∧qL.length=r5.length∧rL.length≤m+2∧val qL=A/val v∧val rL=A%val v/sc)∧gG.Runs 34 (qx b x2 ((M:Int)-1) r5 r1) [.d aoW qL,.d aoW rL]:=by
 have hVlt:=bW lv
 rw[hvl]at hVlt
 have hV0:0<val v:=by
  rw[Dg hvl]
  have h1:=aP (lv.take m)
  have h2:=lv.get (show m<v.length by omega)
  have h3:=Int.mul_pos (cp m) (show 0<v[m]+1000000000*v[m+1] by omega)
  omega
 intro M
 induction M with
 |zero=>
  intro r5 r1 l5 l1 hlen hsz hM hA hz hlt
  rw[m6,an1]at hlt
  have h0:=aP l1
  have eQ:A/val v=val r5:=by rw[←hA,aoB,ans _ _ (by omega),amU h0 hlt];omega
  have eR:A%val v=val r1:=by rw[←hA,aoB,anJ];exact anU h0 hlt
  have ht:val (r1.take (m+2))=val r1:=by
   have hs:=f0 r1 (m+2)
   rw[amu (by omega)]at hs
   have h2:=aP (l1.drop (m+2))
   have h3:=aP (l1.take (m+2))
   rcases amd 0 (val (r1.drop (m+2)))with hc|hc
   ·have:=alN (show 1≤val (r1.drop (m+2)) by omega) (amn (cp (m+2)))
    omega
   ·have e:val (r1.drop (m+2))=0:=by omega
    rw[e]at hs
    omega
  have hlX:(ag (val r1).toNat).length≤m+2:=dl (by omega)
  have hX:=bg (val r1).toNat
  have hXv:val (ag (val r1).toNat)=val r1:=by omega
  have hd0:0≤val r1/sc:=amG h0 (by omega)
  have hd1:val r1/sc≤val r1:=anB _ h0
  have hXl:=bW (bZ (val r1).toNat)
  refine⟨r5,dig (ag (val r1).toNat).length (val r1/sc),⟨l5,nM _ _,rfl,by rw[ji];exact hlX,eQ.symm,by rw[eR,io _ _ hd0 (by omega)]⟩,Aa _ _ _ _ _ ⟨0,?_⟩⟩
  unfold ug
  rw[alH (by omega),hN,hsc,aD,show(0:Int).toNat=0 from rfl,Nat.sub_zero,ann,alF (show(0:Int)≤0∧(0:Int)≤((m+2:Nat):Int)∧((m+2:Nat):Int)≤(r1.length:Int) by omega),ht,hXv,
   alF (show aQ (r1.take (m+2)) from⟨l1.take _,by rw[ams];omega⟩),alF (show D4 (ag (val r1).toNat) sc from⟨⟨bZ _,by omega⟩,hs1,by omega⟩)]
 |succ k ih=>
  intro r5 r1 l5 l1 hlen hsz hM hA hz hlt
  have hk3:k+(m+2)+1≤r1.length:=by omega
  have hP:=cp k
  have hr0:=aP l1
  have hz1:val (r1.drop (k+(m+2)+1))=0:=by
   have hs:=f0 r1 (k+(m+2)+1)
   rw[amu hk3]at hs
   have h2:=aP (l1.drop (k+(m+2)+1))
   have h3:=aP (l1.take (k+(m+2)+1))
   rcases amd 0 (val (r1.drop (k+(m+2)+1)))with hc|hc
   ·exfalso
    have e1:=alN (show 1≤val (r1.drop (k+(m+2)+1)) by omega) (amn (cp (k+(m+2)+1)))
    have e2:=alT (amn hVlt) (amn (cp (k+1)))
    rw[←fu,show m+2+(k+1)=k+(m+2)+1 by omega]at e2
    omega
   ·omega
  have hw1:=IX hk3 hz1
  have hwb:=Rk l1 hk3
  have hwlt:win k (m+2) r1<val v*1000000000:=by
   rcases amd (win k (m+2) r1) (val v*1000000000)with hc|hc
   ·exact hc
   ·exfalso
    have e1:=alN hc (amn hP)
    have e2:=aP (l1.take k)
    have e3:val v*pw (k+1)=pw k*(val v*1000000000):=by rw[b8];grind
    omega
  have K:=ais lv hvl l1 (show k+m+3≤r1.length by omega) htop hwlt
  have htk:=bW (l1.take k)
  rw[ams,amu (by omega)]at htk
  have htk0:=aP (l1.take k)
  have hk5:k<r5.length:=by omega
  have hr5:=hz k hk5 (by omega)
  have e1:i64.wrap ((k:Int)+((m+2:Nat):Int))=((k+(m+2):Nat):Int):=by rw[aT (by omega) (by omega)];simp
  have e2:i64.wrap (((k+(m+2):Nat):Int)+1)=((k+(m+2)+1:Nat):Int):=bV (by omega)
  have e3:k+(m+2)+1-k=m+2+1:=by omega
  have fin:∀(d:Int) (r:List Int),0≤d→d<1000000000→Lim r→r.length=r1.length→r.take k=r1.take k→r.drop (k+(m+2)+1)=r1.drop (k+(m+2)+1)→val r=val r1-pw k*(d*val v)→win k (m+2) r1-d*val v<val v→
    ∃qL rL,(Lim qL∧Lim rL∧qL.length=r5.length∧rL.length≤m+2∧val qL=A/val v∧val rL=A%val v/sc)∧gG.Runs 34 (qx b x2 ((k:Int)-1) (r5.set k d) r) [.d aoW qL,.d aoW rL]:=by
   intro d r d0 d1 lr hl ht hd hval hwd
   obtain⟨qL,rL,⟨a1,a2,a3,a4,a5,a6⟩,a7⟩:=ih (r5.set k d) r (l5.set k ⟨d0,d1⟩) lr (by simp;omega) (by omega) (by simp;omega) (by
     rw[fj hk5,hr5,hval,←hA];grind) (fun j hj hjk=>by rw[am1 (by omega)];exact hz j (by simpa using hj) (by omega)) (by
     rw[hval,hw1]
     have e4:=alN (show win k (m+2) r1-d*val v≤val v-1 by omega) (amn hP)
     rw[Int.mul_sub,Int.mul_sub,an1]at e4
     rw[ant (val v)]
     omega)
   exact⟨qL,rL,⟨a1,a2,by simpa using a3,a4,a5,a6⟩,a7⟩
  have wof:∀(r:List Int) (x:Int),Lim r→r.length=r1.length→r.take k=r1.take k→r.drop (k+(m+2)+1)=r1.drop (k+(m+2)+1)→val r=val r1+pw k*x→win k (m+2) r=win k (m+2) r1+x∧0≤win k (m+2) r∧win k (m+2) r<pw (m+2+1):=by
   intro r x lr hl ht hd hval
   have h1:=IX (k:=k) (n:=m+2) (r:=r) (by omega) (by rw[hd];exact hz1)
   rw[ht]at h1
   have h2:=Rk (k:=k) (n:=m+2) lr (by omega)
   refine⟨?_,h2⟩
   have:pw k*win k (m+2) r=pw k*(win k (m+2) r1+x):=by rw[aoT];omega
   exact Int.eq_of_mul_eq_mul_left (by omega) this
  have hpw:pw (k+(m+2)+1)=pw k*pw (m+2+1):=by rw[←fu];congr 1
  have xt:=K.u2
  have xt1:=K.u1
  have xv:=K.v1
  have hg0:0≤(r1[k+m+2]*1000000000+r1[k+m+1])/v[m+1]:=amG (by omega) (by omega)
  have hg1:(r1[k+m+2]*1000000000+r1[k+m+1])/v[m+1]<2000000000:=am9 (by omega) (by
   have:=alN xv.1 (show(0:Int)≤2000000000 by decide)
   omega)
  have md:=amv (r1[k+m+2]*1000000000+r1[k+m+1]) v[m+1]
  have m0:=amK (r1[k+m+2]*1000000000+r1[k+m+1]) (show v[m+1]≠0 by omega)
  have m1:=amp (r1[k+m+2]*1000000000+r1[k+m+1]) (show 0<v[m+1] by omega)
  have key:∃qL rL,(Lim qL∧Lim rL∧qL.length=r5.length∧rL.length≤m+2∧val qL=A/val v∧val rL=A%val v/sc)∧gG.Runs 49 (nZ b x2 (k:Int) r1 r5 ((r1[k+m+2]*1000000000+r1[k+m+1])/v[m+1]) ((r1[k+m+2]*1000000000+r1[k+m+1])%v[m+1])) [.d aoW qL,.d aoW rL]:=by
   have hex:∃g,0≤g∧g<1000000000∧g*val v≤win k (m+2) r1∧win k (m+2) r1<(g+1)*val v:=by
    have h1:=amv (win k (m+2) r1) (val v)
    have h2:=amK (win k (m+2) r1) (show val v≠0 by omega)
    have h3:=amp (win k (m+2) r1) hV0
    refine⟨win k (m+2) r1/val v,amG hwb.1 (by omega),am9 hV0 (by rw[ant];exact hwlt),?_,?_⟩
    ·rw[ant];omega
    ·rw[Int.add_mul,amX,ant];omega
   obtain⟨d,d0,d1,d2,d3⟩:=hex
   have dv0:0≤d*val v:=amD d0 (by omega)
   have hrow:∃r,Lim r∧r.length=r1.length∧r.take k=r1.take k∧r.drop (k+(m+2)+1)=r1.drop (k+(m+2)+1)∧val r=val r1-pw k*(d*val v):=by
    refine⟨r1.take k++(dig (m+2+1) (win k (m+2) r1-d*val v)++r1.drop (k+(m+2)+1)),(l1.take k).append ((nM _ _).append (l1.drop _)),by simp[ji];omega,?_,?_,?_⟩
    ·rw[List.take_append_of_le_length (by simp;omega),aoP,Nat.min_self]
    ·rw[←al7,List.drop_append_of_le_length (by simp[ji];omega),amB (by simp[ji];omega),aoD]
    ·rw[dB,dB,hz1,io _ _ (by omega) (by omega),ams,amu (by omega),hw1]
     grind
   obtain⟨rr,q1,q2,q3,q4,q5⟩:=hrow
   obtain⟨qL,rL,hf,hrun⟩:=fin d rr d0 d1 q1 q2 q3 q4 q5 (by rw[Int.add_mul,amX]at d3;omega)
   refine⟨qL,rL,hf,E3 b x2 v m hN hv lv hvl k r1 r5 (by omega) (by omega) _ K ?_ 2000000000 _ _ (by omega) hg0 (by omega) m0 (by omega) (by rw[ant];omega) (K.first rfl)⟩
   intro g g0 g1 hg2 hg3
   have same:∀r,Lim r→r.length=r1.length→r.take k=r1.take k→r.drop (k+(m+2)+1)=r1.drop (k+(m+2)+1)→val r=val r1-pw k*(d*val v)→r=rr:=fun r a1 a2 a3 a4 a5=>AV a1 q1 (by omega) (by omega)
   refine QO b x2 v m hN hv lv hvl k r1 r5 g ⟨g0,g1⟩ hk3 (by omega) _ ?_ ?_ (m+2+1) 0 0 0 r1 (by omega) (by omega) (by omega) (fun _=>rfl) (by omega) (by omega) l1 rfl rfl rfl (by simp[val])
   ·intro r a1 a2 a3 a4 a5
    obtain⟨w1,w2,w3⟩:=wof r (-(g*val v)) a1 a2 a3 a4 (by rw[a5,aoy];omega)
    have hgd:g=d:=by
     have h1:¬g<d:=fun hc=>by
      have:=alT (show g+1≤d by omega) (amn hV0)
      omega
     have h2:¬d<g:=fun hc=>by
      have:=alT (show d+1≤g by omega) (amn hV0)
      omega
     omega
    subst hgd
    rw[same r a1 a2 a3 a4 a5]
    obtain⟨q,hq⟩:=hrun
    refine⟨q,?_⟩
    unfold dm
    rw[hv,hN,e1,e2,aD,aD,e3,b9 (alL _),alH (show ¬(0:Int)>0 by decide),ao r5 k,alG hk5,c7 (x:=g) (by omega) (by omega),aT (x:=(k:Int)-1) (by omega) (by omega)]
    exact hq
   ·intro r a1 a2 a3 a4 a5
    obtain⟨w1,w2,w3⟩:=wof r (-(g*val v)+pw (m+2+1)) a1 a2 a3 a4 (by rw[a5,hpw,aoT,aoy];omega)
    have hwg:win k (m+2) r1<g*val v:=by omega
    have hgd:g=d+1:=by
     have h1:¬g<d+1:=fun hc=>by
      have:=alT (show g≤d by omega) (amn hV0)
      omega
     have h2:¬d+1<g:=fun hc=>by
      have:=alT (show d+2≤g by omega) (amn hV0)
      rw[Int.add_mul]at this d3
      omega
     omega
    subst hgd
    have hres:gG.Runs 5 (dG b x2 (k:Int) r5 (d+1) 0 0 r) [.d aoW qL,.d aoW rL]:=by
     refine Ly b x2 v m hN hv lv hvl k r r5 (d+1) (by omega) (by omega) _ ?_ (m+2+1) 0 0 r (by omega) (by omega) (by omega) a1 rfl rfl rfl (by simp[val])
     intro r' c b1 b2 b3 b4 c0 c1 b5
     obtain⟨u1,u2,u3⟩:=wof r' (-((d+1)*val v)+pw (m+2+1)+val v-pw (m+2+1)*c) b1 (by omega) (b3.trans a3) (b4.trans a4) (by rw[b5,a5,hpw,Int.mul_sub,aoT,aoT,aoy];grind)
     have hc:c=1:=by
      rcases(show c=0∨c=1 by omega)with hc|hc
      ·exfalso
       subst hc
       rw[anY,Int.sub_zero]at u1
       rw[Int.add_mul,amX]at u1
       omega
      ·exact hc
     subst hc
     rw[same r' b1 (by omega) (b3.trans a3) (b4.trans a4) (by rw[b5,a5];grind)]
     obtain⟨q,hq⟩:=hrun
     refine⟨q,?_⟩
     unfold em
     rw[hN,e1,e2,aD,aD,e3,b9 (alL _),ao r5 k,alG hk5,show d+1-1=d by omega,bj (x:=d) (by omega) (by omega),c7 (x:=d) (by omega) (by omega),aT (x:=(k:Int)-1) (by omega) (by omega)]
     exact hq
    obtain⟨q,hq⟩:=hres
    refine⟨q,?_⟩
    unfold dm
    rw[hv,hN,e1,e2,aD,aD,e3,b9 (alL _),alF (show(1:Int)>0 by decide),alF (show(0:Int)≤(k:Int)∧(k:Int)≤((k+(m+2)+1:Nat):Int)∧((k+(m+2)+1:Nat):Int)≤(r.length:Int) by omega)]
    exact hq
  obtain⟨qL,rL,hf,q,hq⟩:=key
  refine⟨qL,rL,hf,Aa _ _ _ _ _ ⟨q,?_⟩⟩
  have e4:i64.wrap (((k+(m+2):Nat):Int)-1)=((k+m+1:Nat):Int):=by rw[aT (by omega) (by omega)];omega
  have e5:i64.wrap (((m+2:Nat):Int)-1)=((m+1:Nat):Int):=by rw[aT (by omega) (by omega)];omega
  unfold ug
  rw[show((k+1:Nat):Int)-1=(k:Int) by omega,alF (by omega),hv,hN,e1,e4,e5,ao r1 (k+(m+2)),aD,alG (show k+(m+2)<r1.length by omega),ao r1 (k+m+1),aD,alG (show k+m+1<r1.length by omega),ao v (m+1),alG (show m+1<v.length by omega)]
  dsimp only
  rw[bj (x:=v[m+1]) (by omega) (by omega),alH (show ¬v[m+1]=0 by omega)]
  dsimp only
  have e6:r1[k+(m+2)]=r1[k+m+2]:=rfl
  rw[e6,bj (x:=r1[k+m+2]) (by omega) (by omega),bj (x:=r1[k+m+1]) (by omega) (by omega),bj (x:=r1[k+m+2]*1000000000) (by omega) (by omega),bj (x:=r1[k+m+2]*1000000000+r1[k+m+1]) (by omega) (by omega),gX (by omega),jo (by omega),bj (x:=(r1[k+m+2]*1000000000+r1[k+m+1])/v[m+1]) (by omega) (by omega)]
  exact hq
end
end
end Go.Proofs.YtnkndpoojnflmaaGreat
end
