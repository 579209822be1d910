/- integer: plus, minus, times, byWord. -/
import Derived.Test.YtagbmoohboleaaaGreatL6
noncomputable section
namespace Go.Proofs.YtagbmoohboleaaaGreat
open Go.RowKit Go.IntKind
theorem afB:type_of% @Int.mul_le_mul_of_nonneg_right:=@Int.mul_le_mul_of_nonneg_right
theorem af1:type_of% @Int.emod_lt_of_pos:=@Int.emod_lt_of_pos
theorem af8:type_of% @Int.mul_ediv_add_emod:=@Int.mul_ediv_add_emod
theorem agk:type_of% @Int.mul_nonneg:=@Int.mul_nonneg
theorem agp:type_of% @Int.ediv_nonneg:=@Int.ediv_nonneg
theorem agu:type_of% @Int.emod_nonneg:=@Int.emod_nonneg
theorem agz:type_of% @Int.ediv_eq_zero_of_lt:=@Int.ediv_eq_zero_of_lt
theorem agG:type_of% @List.getElem_set_ne:=@List.getElem_set_ne
theorem agO:type_of% @Int.ediv_lt_of_lt_mul:=@Int.ediv_lt_of_lt_mul
theorem agZ:type_of% @List.length_drop:=@List.length_drop
theorem aha:type_of% @Int.add_mul_ediv_left:=@Int.add_mul_ediv_left
theorem ahb:type_of% @Int.mul_comm:=@Int.mul_comm
theorem ahg:type_of% @Int.ediv_le_self:=@Int.ediv_le_self
theorem ahh:type_of% @List.take_append_of_le_length:=@List.take_append_of_le_length
theorem ahr:type_of% @Int.add_mul_emod_self_left:=@Int.add_mul_emod_self_left
theorem ahw:type_of% @Int.mul_le_mul:=@Int.mul_le_mul
theorem ahA:type_of% @Int.emod_eq_of_lt:=@Int.emod_eq_of_lt
theorem ahB:type_of% @Int.mul_ediv_cancel_left:=@Int.mul_ediv_cancel_left
theorem ahY:type_of% @Int.mul_zero:=@Int.mul_zero
theorem aig:type_of% @Int.add_comm:=@Int.add_comm
theorem aim:type_of% @Int.one_mul:=@Int.one_mul
theorem ain:type_of% @Int.mul_neg:=@Int.mul_neg
theorem aip:type_of% @Int.add_zero:=@Int.add_zero
def Yz:NT:=[((288,16),{keep:=[1,5,6,20,21,22],hl:=1})]
def Cj:Ctx:=CX [] Yz
def jQ(s1 s20:List Int)(s21 s6 s22:Int)(r0:List Int):Cfg:=⟨288,[.blk 0,.seq 45],[(1,.d aix s1),(5,.own 0),(6,.d aiz s6),(20,.d aix s20),(21,SI s21),(22,SI s22)],[.row 200 aiz r0],0,[]⟩
def LA(a b:List Int)(k:KT):OLR:=match decide ((a.length:Int)<(b.length:Int))with|true=>(og (decide ((0:Int)=0/\(0:Int)<=i64.wrap ((b.length:Int)+1)/\(i64.wrap ((b.length:Int)+1))*((4:Nat):Int)<=140737488355328/\i64.wrap ((b.length:Int)+1)<=140737488355328)) (k 16 (jQ a b (b.length:Int) 0 0 ([]:List Int))))|false=>(og (decide ((0:Int)=0/\(0:Int)<=i64.wrap ((a.length:Int)+1)/\(i64.wrap ((a.length:Int)+1))*((4:Nat):Int)<=140737488355328/\i64.wrap ((a.length:Int)+1)<=140737488355328)) (k 16 (jQ b a (a.length:Int) 0 0 ([]:List Int))))
theorem Vy(a b:List Int):RS Cj 288 [.d aix a,.d aix b] (LA a b):=rsX
def jR(s1 s20:List Int)(s21 s6 s22:Int)(r0:List Int)(k:KT):OLR:=match decide (s22<s21)with|true=>(match aG s20 s22 with|some x1=>(match decide (s22<(s1.length:Int))with|true=>(match aG s1 s22 with|some x2=>(match decide ((u32.wrap ((u32.wrap (x1+s6))+x2))>=1000000000)with|true=>(og (decide ((r0.length+([u32.wrap ((u32.wrap ((u32.wrap (x1+s6))+x2))-1000000000)]).length)*4<=140737488355328/\r0.length+([u32.wrap ((u32.wrap ((u32.wrap (x1+s6))+x2))-1000000000)]).length<=140737488355328)) (k 16 (jQ s1 s20 s21 1 (i64.wrap (s22+1)) (r0++([u32.wrap ((u32.wrap ((u32.wrap (x1+s6))+x2))-1000000000)])))))|false=>(og (decide ((r0.length+([u32.wrap ((u32.wrap (x1+s6))+x2)]).length)*4<=140737488355328/\r0.length+([u32.wrap ((u32.wrap (x1+s6))+x2)]).length<=140737488355328)) (k 16 (jQ s1 s20 s21 0 (i64.wrap (s22+1)) (r0++([u32.wrap ((u32.wrap (x1+s6))+x2)]))))))|none=>none)|false=>(match decide ((u32.wrap (x1+s6))>=1000000000)with|true=>(og (decide ((r0.length+([u32.wrap ((u32.wrap (x1+s6))-1000000000)]).length)*4<=140737488355328/\r0.length+([u32.wrap ((u32.wrap (x1+s6))-1000000000)]).length<=140737488355328)) (k 16 (jQ s1 s20 s21 1 (i64.wrap (s22+1)) (r0++([u32.wrap ((u32.wrap (x1+s6))-1000000000)])))))|false=>(og (decide ((r0.length+([u32.wrap (x1+s6)]).length)*4<=140737488355328/\r0.length+([u32.wrap (x1+s6)]).length<=140737488355328)) (k 16 (jQ s1 s20 s21 0 (i64.wrap (s22+1)) (r0++([u32.wrap (x1+s6)])))))))|none=>none)|false=>(og (decide ((r0.length+([s6]).length)*4<=140737488355328/\r0.length+([s6]).length<=140737488355328)) (some [RV.new 200 aiz (r0++([s6]))]))
theorem mb(s1 s20:List Int)(s21 s6 s22:Int)(r0:List Int):RN Cj 16 (jQ s1 s20 s21 s6 s22 r0) (jR s1 s20 s21 s6 s22 r0):=rnX
def XN:NT:=[((289,10),{keep:=[1,5,6,13,14,15],hl:=1})]
def Dz:Ctx:=CX [] XN
def lm(a b:List Int)(s6 s15:Int)(r0:List Int):Cfg:=⟨289,[.blk 0,.seq 39],[(1,.d aix b),(5,.own 0),(6,.d aiz s6),(13,.d aix a),(14,SI (a.length:Int)),(15,SI s15)],[.row 200 aiz r0],0,[]⟩
def Tm(a b:List Int)(k:KT):OLR:=og (decide ((0:Int)<=(a.length:Int)/\(a.length:Int)*((4:Nat):Int)<=140737488355328/\(a.length:Int)<=140737488355328)) (k 10 (lm a b 0 0 (List.replicate ((a.length:Int)).toNat (0:Int))))
theorem abi(a b:List Int):RS Dz 289 [.d aix a,.d aix b] (Tm a b):=rsX
def jZ(a b:List Int)(s6 s15:Int)(r0:List Int)(k:KT):OLR:=match decide (s15<(a.length:Int))with|true=>(match aG a s15 with|some x1=>(match decide (s15<(b.length:Int))with|true=>(match aG b s15 with|some x2=>(match decide (x1<(u32.wrap (s6+x2)))with|true=>(match aG r0 s15 with|some _=>(match true,r0[(s15).toNat]? with|true,some _=>k 10 (lm a b 1 (i64.wrap (s15+1)) (r0.set ((s15).toNat) (u32.wrap ((u32.wrap (x1+1000000000))-(u32.wrap (s6+x2))))))|_,_=>none)|none=>none)|false=>(match aG r0 s15 with|some _=>(match true,r0[(s15).toNat]? with|true,some _=>k 10 (lm a b 0 (i64.wrap (s15+1)) (r0.set ((s15).toNat) (u32.wrap (x1-(u32.wrap (s6+x2))))))|_,_=>none)|none=>none))|none=>none)|false=>(match decide (x1<s6)with|true=>(match aG r0 s15 with|some _=>(match true,r0[(s15).toNat]? with|true,some _=>k 10 (lm a b 1 (i64.wrap (s15+1)) (r0.set ((s15).toNat) (u32.wrap ((u32.wrap (x1+1000000000))-s6))))|_,_=>none)|none=>none)|false=>(match aG r0 s15 with|some _=>(match true,r0[(s15).toNat]? with|true,some _=>k 10 (lm a b 0 (i64.wrap (s15+1)) (r0.set ((s15).toNat) (u32.wrap (x1-s6))))|_,_=>none)|none=>none)))|none=>none)|false=>some [RV.new 200 aiz r0]
theorem lZ(a b:List Int)(s6 s15:Int)(r0:List Int):RN Dz 10 (lm a b s6 s15 r0) (jZ a b s6 s15 r0):=rnX
def Xl:NT:=[((249,8),{keep:=[1,5,18,19,20],hl:=1}),((249,25),{keep:=[1,5,6,7,8,18,19,20,25,26,27],hl:=1})]
def wo:Ctx:=CX [] Xl
def vZ(a b:List Int)(s20:Int)(r0:List Int):Cfg:=⟨249,[.blk 0,.seq 42],[(1,.d aix b),(5,.own 0),(18,.d aix a),(19,SI (a.length:Int)),(20,SI s20)],[.row 200 aiz r0],0,[]⟩
def ve(a b:List Int)(s20 x1 s8 s27:Int)(r0:List Int):Cfg:=⟨249,[.blk 2,.seq 40,.blk 1,.seq 41,.lp 8,.blk 0,.seq 42],[(1,.d aix b),(5,.own 0),(6,SI s20),(7,.d aiz x1),(8,.d (.int .u64) s8),(18,.d aix a),(19,SI (a.length:Int)),(20,SI s20),(25,.d aix b),(26,SI (b.length:Int)),(27,SI s27)],[.row 200 aiz r0],0,[]⟩
def SD(a b:List Int)(k:KT):OLR:=og (decide ((0:Int)<=i64.wrap ((a.length:Int)+(b.length:Int))/\(i64.wrap ((a.length:Int)+(b.length:Int)))*((4:Nat):Int)<=140737488355328/\i64.wrap ((a.length:Int)+(b.length:Int))<=140737488355328)) (k 8 (vZ a b 0 (List.replicate (i64.wrap ((a.length:Int)+(b.length:Int))).toNat (0:Int))))
theorem acb(a b:List Int):RS wo 249 [.d aix a,.d aix b] (SD a b):=rsX
def xU(a b:List Int)(s20:Int)(r0:List Int)(k:KT):OLR:=match decide (s20<(a.length:Int))with|true=>(match aG a s20 with|some x1=>k 25 (ve a b s20 x1 0 0 r0)|none=>none)|false=>some [RV.new 200 aiz r0]
theorem DZ(a b:List Int)(s20:Int)(r0:List Int):RN wo 8 (vZ a b s20 r0) (xU a b s20 r0):=rnX
def sZ(a b:List Int)(s20 x1 s8 s27:Int)(r0:List Int)(k:KT):OLR:=match decide (s27<(b.length:Int))with|true=>(match aG b s27 with|some x2=>(match aG r0 (i64.wrap (s20+s27))with|some _=>(match true,r0[(i64.wrap (s20+s27)).toNat]? with|true,some x3=>(match aG r0 (i64.wrap (s20+s27))with|some _=>(match true,r0[(i64.wrap (s20+s27)).toNat]? with|true,some _=>k 25 (ve a b s20 x1 (u64.wrap (Int.tdiv (u64.wrap ((u64.wrap ((u64.wrap x3)+(u64.wrap ((u64.wrap x1)*(u64.wrap x2)))))+s8)) 1000000000)) (i64.wrap (s27+1)) (r0.set ((i64.wrap (s20+s27)).toNat) (u32.wrap (Int.tmod (u64.wrap ((u64.wrap ((u64.wrap x3)+(u64.wrap ((u64.wrap x1)*(u64.wrap x2)))))+s8)) 1000000000))))|_,_=>none)|none=>none)|_,_=>none)|none=>none)|none=>none)|false=>(match aG r0 (i64.wrap (s20+(b.length:Int)))with|some _=>(match true,r0[(i64.wrap (s20+(b.length:Int))).toNat]? with|true,some _=>k 8 (vZ a b (i64.wrap (s20+1)) (r0.set ((i64.wrap (s20+(b.length:Int))).toNat) (u32.wrap s8)))|_,_=>none)|none=>none)
theorem yT(a b:List Int)(s20 x1 s8 s27:Int)(r0:List Int):RN wo 25 (ve a b s20 x1 s8 s27 r0) (sZ a b s20 x1 s8 s27 r0):=rnX
def We:NT:=[((322,10),{keep:=[0,1,6,7,8],hl:=1})]
def Hp:Ctx:=CX [] We
def vL(a:List Int)(b s7 s8:Int)(r0:List Int):Cfg:=⟨322,[.blk 0,.seq 23],[(0,.d aix a),(1,.d aiz b),(6,.own 0),(7,.d (.int .u64) s7),(8,SI s8)],[.row 200 aiz r0],0,[]⟩
def VP(a:List Int)(b:Int)(k:KT):OLR:=og (decide ((0:Int)<=(a.length:Int)/\(a.length:Int)*((4:Nat):Int)<=140737488355328/\(a.length:Int)<=140737488355328)) (k 10 (vL a b 0 (i64.wrap ((a.length:Int)-1)) (List.replicate ((a.length:Int)).toNat (0:Int))))
theorem aaj(a:List Int)(b:Int):RS Hp 322 [.d aix a,.d aiz b] (VP a b):=rsX
def sX(a:List Int)(b s7 s8:Int)(r0:List Int)(k:KT):OLR:=match decide (s8>=0)with|true=>(match aG a s8 with|some x1=>(match decide (u64.wrap b=(0:Int))with|true=>none|false=>(match decide (u64.wrap b=(0:Int))with|true=>none|false=>(match aG r0 s8 with|some _=>(match true,r0[(s8).toNat]? with|true,some _=>k 10 (vL a b (Int.tmod (u64.wrap ((u64.wrap (s7*1000000000))+(u64.wrap x1))) (u64.wrap b)) (i64.wrap (s8-1)) (r0.set ((s8).toNat) (u32.wrap (u64.wrap (Int.tdiv (u64.wrap ((u64.wrap (s7*1000000000))+(u64.wrap x1))) (u64.wrap b))))))|_,_=>none)|none=>none)))|none=>none)|false=>some [RV.d aix r0,RV.d aix ([u32.wrap s7])]
theorem zz(a:List Int)(b s7 s8:Int)(r0:List Int):RN Hp 10 (vL a b s7 s8 r0) (sX a b s7 s8 r0):=rnX
theorem jV{b:List Int}{i:Nat}(h:b.length<=i):b.take (i+1)=b.take i:=by grind [agy]
theorem sG{n:Nat}(h:n<=4000000000):decide ((0:Int)<=(n:Int)/\(n:Int)*((4:Nat):Int)<=140737488355328/\(n:Int)<=140737488355328)=true:=by grind
theorem KQ{m:Nat}(h:m<=4000000000):decide ((m+1)*4<=140737488355328/\m+1<=140737488355328)=true:=by grind
theorem Dq(a b:List Int)(ha:aO a)(hb:aO b)(hab:b.length<=a.length):∀(j i:Nat) (c:Int) (r:List Int),i+j=a.length->0<=c->c<=1->Lim r->r.length=i->val r+pw i*c=val (a.take i)+val (b.take i)->
  Cj.Runs 16 (jQ b a (a.length:Int) c (i:Int) r) [.new 200 aiz (dig (a.length+1) (val a+val b))]:=by
 have hsa:=ha.2;intro j;induction j with
 |zero=>
  intro i c r hi c0 c1 hr hl hv;obtain rfl:i=a.length:=by omega
  refine mb _ _ _ _ _ _ ⟨0,?_⟩;unfold jR;rw[bO (afs _)];simp only[afH];rw[KQ (by omega)]
  have e:r++[c]=dig (a.length+1) (val a+val b):=by
   refine AH (hr.append (Lim.cons ⟨c0,by omega⟩ Lim.nil)) (by simp[hl]) ?_;rw[dh,hl];rw[agC,agy hab]at hv;simp only[val,ahY,aip];omega
  rw[e]
 |succ j ih=>
  intro i c r hi c0 c1 hr hl hv;have hia:i<a.length:=by omega
  have xa:=ha.1.get hia;have hp:=co i
  have step:∀(y c':Int),0<=y->y<1000000000->0<=c'->c'<=1->val (b.take (i+1))=val (b.take i)+pw i*(y+1000000000*c'-a[i]-c)->Cj.Runs 16 (jQ b a (a.length:Int) c' ((i+1:Nat):Int) (r++[y])) [.new 200 aiz (dig (a.length+1) (val a+val b))]:=by
   intro y c' y0 y1 k0 k1 hb';refine ih (i+1) c' (r++[y]) (by omega) k0 k1 (hr.append (Lim.cons ⟨y0,y1⟩ Lim.nil)) (by simp[hl]) ?_;rw[dh,hl,aT hia,hb',ce];simp only[val];grind
  by_cases hib:i<b.length
  ·have xb:=hb.1.get hib;have ht:=aT hib;by_cases hc:a[i]+c+b[i]>=1000000000
   ·obtain⟨q,hq⟩:=step (a[i]+c+b[i]-1000000000) 1 (by omega) (by omega) (by omega) (by omega) (by rw[ht];grind);refine mb _ _ _ _ _ _ ⟨q,?_⟩;unfold jR;rw[aY hia,am,afn hia,aY hib,am,afn hib];dsimp only;rw[cU (x:=a[i]+c) (by omega) (by omega),cU (x:=a[i]+c+b[i]) (by omega) (by omega),afm hc,cU (x:=a[i]+c+b[i]-1000000000) (by omega) (by omega),bH (by omega)];simp only[afH];rw[KQ (by omega)];exact hq
   ·obtain⟨q,hq⟩:=step (a[i]+c+b[i]) 0 (by omega) (by omega) (by omega) (by omega) (by rw[ht];grind);refine mb _ _ _ _ _ _ ⟨q,?_⟩;unfold jR;rw[aY hia,am,afn hia,aY hib,am,afn hib];dsimp only;rw[cU (x:=a[i]+c) (by omega) (by omega),cU (x:=a[i]+c+b[i]) (by omega) (by omega),afo hc,bH (by omega)];simp only[afH];rw[KQ (by omega)];exact hq
  ·have ht:=jV (b:=b) (i:=i) (by omega);by_cases hc:a[i]+c>=1000000000
   ·obtain⟨q,hq⟩:=step (a[i]+c-1000000000) 1 (by omega) (by omega) (by omega) (by omega) (by rw[ht];grind);refine mb _ _ _ _ _ _ ⟨q,?_⟩;unfold jR;rw[aY hia,am,afn hia,bO (show b.length<=i by omega)];dsimp only;rw[cU (x:=a[i]+c) (by omega) (by omega),afm hc,cU (x:=a[i]+c-1000000000) (by omega) (by omega),bH (by omega)];simp only[afH];rw[KQ (by omega)];exact hq
   ·obtain⟨q,hq⟩:=step (a[i]+c) 0 (by omega) (by omega) (by omega) (by omega) (by rw[ht];grind);refine mb _ _ _ _ _ _ ⟨q,?_⟩;unfold jR;rw[aY hia,am,afn hia,bO (show b.length<=i by omega)];dsimp only;rw[cU (x:=a[i]+c) (by omega) (by omega),afo hc,bH (by omega)];simp only[afH];rw[KQ (by omega)];exact hq
theorem P1(a b:List Int)(h:aO a/\aO b):CQq7 288 [.d aix a,.d aix b] [.new 200 aiz (dig (max a.length b.length+1) (val a+val b))]:=by
 refine fE (E:=[]) trivial (show Cj.Res _ _ _ from ?_);obtain⟨ha,hb⟩:=h;have hsa:=ha.2;have hsb:=hb.2
 have mk:∀n:Nat,n<=1000000000->decide ((0:Int)=0/\(0:Int)<=i64.wrap ((n:Int)+1)/\i64.wrap ((n:Int)+1)*((4:Nat):Int)<=140737488355328/\i64.wrap ((n:Int)+1)<=140737488355328)=true:=λn hn=>by
  rw[bH (by omega)];exact afm ⟨rfl,by omega,by omega,by omega⟩
 by_cases hc:a.length<b.length
 ·obtain⟨q,hq⟩:=Dq b a hb ha (by omega) b.length 0 0 [] (by omega) (by omega) (by omega) Lim.nil rfl (by simp[val]);refine Vy _ _ ⟨q,?_⟩;unfold LA;rw[aY hc,mk _ hsb,Nat.max_eq_right (by omega),aig (val a)];exact hq
 ·obtain⟨q,hq⟩:=Dq a b ha hb (by omega) a.length 0 0 [] (by omega) (by omega) (by omega) Lim.nil rfl (by simp[val]);refine Vy _ _ ⟨q,?_⟩;unfold LA;rw[bO (by omega),mk _ hsa,Nat.max_eq_left (by omega)];exact hq
theorem oN{r:List Int}{i:Nat}{y:Int}(hz:∀j (hj:j<r.length),i<=j->r[j]=0):∀j (hj:j<(r.set i y).length),i+1<=j->(r.set i y)[j]=0:=λj hj hk=>by
 rw[agG (by omega)];exact hz j (by simpa using hj) (by omega)
theorem Lv(a b:List Int)(ha:aO a)(hb:aO b)(hle:val b<=val a)(_hab:b.length<=a.length\/True):∀(j i:Nat) (c:Int) (r:List Int),i+j=a.length->0<=c->c<=1->Lim r->r.length=a.length->(∀k (hk:k<r.length),i<=k->r[k]=0)->val r+val (b.take i)=val (a.take i)+pw i*c->
  Dz.Runs 10 (lm a b c (i:Int) r) [.new 200 aiz (dig a.length (val a-val b))]:=by
 have hsa:=ha.2;intro j;induction j with
 |zero=>
  intro i c r hi c0 c1 hr hl hz hv;obtain rfl:i=a.length:=by omega
  refine lZ _ _ _ _ _ ⟨0,?_⟩;unfold jZ;rw[bO (afs _)];have hrl:=b8 hr;rw[hl]at hrl;have hb2:val b=val (b.take a.length)+pw (min a.length b.length)*val (b.drop a.length):=fS b a.length;have hbd:0<=val (b.drop a.length):=aN (hb.1.drop _);have hal:=b8 ha.1;have hbt:=aN (hb.1.take a.length);rw[agC]at hv
  have hz0:val (b.drop a.length)=0:=by
   rcases afZ a.length b.length with h1|h1
   ·rw[af7 (by omega)]at hb2;rcases afT 0 (val (b.drop a.length))with h2|h2
    ·have hp:=co a.length;have:=afu (show 1<=val (b.drop a.length) by omega) (af0 hp);omega
    ·omega
   ·rw[agh h1];rfl
  rw[hz0,ahY,aip]at hb2
  have hc0:c=0:=by
   have hp:=co a.length;rcases(show c=0\/c=1 by omega)with h|h
   ·exact h
   ·subst h;rw[ahX]at hv;omega
  subst hc0;rw[ahY]at hv;rw[<-AH hr hl (show val r=val a-val b by omega)]
 |succ j ih=>
  intro i c r hi c0 c1 hr hl hz hv;have hia:i<a.length:=by omega
  have hir:i<r.length:=by omega
  have xa:=ha.1.get hia;have hr0:=hz i hir (afs _)
  have step:∀(y c':Int),0<=y->y<1000000000->0<=c'->c'<=1->val (b.take (i+1))=val (b.take i)+pw i*(a[i]+1000000000*c'-y-c)->Dz.Runs 10 (lm a b c' ((i+1:Nat):Int) (r.set i y)) [.new 200 aiz (dig a.length (val a-val b))]:=by
   intro y c' y0 y1 k0 k1 hb';refine ih (i+1) c' (r.set i y) (by omega) k0 k1 (hr.set i ⟨y0,y1⟩) (by simpa using hl) (oN hz) ?_;rw[eP hir,hr0,aT hia,hb',ce];grind
  by_cases hib:i<b.length
  ·have xb:=hb.1.get hib;have ht:=aT hib;by_cases hc:a[i]<c+b[i]
   ·obtain⟨q,hq⟩:=step (a[i]+1000000000-(c+b[i])) 1 (by omega) (by omega) (by omega) (by omega) (by rw[ht];grind);refine lZ _ _ _ _ _ ⟨q,?_⟩;unfold jZ;rw[aY hia,am,afn hia,aY hib,am,afn hib,am,aA,afn hir];dsimp only;rw[cU (x:=c+b[i]) (by omega) (by omega),afm hc,cU (x:=a[i]+1000000000) (by omega) (by omega),cU (x:=a[i]+1000000000-(c+b[i])) (by omega) (by omega),bH (by omega)];exact hq
   ·obtain⟨q,hq⟩:=step (a[i]-(c+b[i])) 0 (by omega) (by omega) (by omega) (by omega) (by rw[ht];grind);refine lZ _ _ _ _ _ ⟨q,?_⟩;unfold jZ;rw[aY hia,am,afn hia,aY hib,am,afn hib,am,aA,afn hir];dsimp only;rw[cU (x:=c+b[i]) (by omega) (by omega),afo hc,cU (x:=a[i]-(c+b[i])) (by omega) (by omega),bH (by omega)];exact hq
  ·have ht:=jV (b:=b) (i:=i) (by omega);by_cases hc:a[i]<c
   ·obtain⟨q,hq⟩:=step (a[i]+1000000000-c) 1 (by omega) (by omega) (by omega) (by omega) (by rw[ht];grind);refine lZ _ _ _ _ _ ⟨q,?_⟩;unfold jZ;rw[aY hia,am,afn hia,bO (show b.length<=i by omega),am r i,aA,afn hir];dsimp only;rw[afm hc,cU (x:=a[i]+1000000000) (by omega) (by omega),cU (x:=a[i]+1000000000-c) (by omega) (by omega),bH (by omega)];exact hq
   ·obtain⟨q,hq⟩:=step (a[i]-c) 0 (by omega) (by omega) (by omega) (by omega) (by rw[ht];grind);refine lZ _ _ _ _ _ ⟨q,?_⟩;unfold jZ;rw[aY hia,am,afn hia,bO (show b.length<=i by omega),am r i,aA,afn hir];dsimp only;rw[afo hc,cU (x:=a[i]-c) (by omega) (by omega),bH (by omega)];exact hq
def nB(a b:List Int):Prop:=aO a/\aO b/\val b<=val a
instance (a b:List Int):Decidable (nB a b):=by unfold nB;infer_instance
theorem RA(a b:List Int)(h:nB a b):CQq7 289 [.d aix a,.d aix b] [.new 200 aiz (dig a.length (val a-val b))]:=by
 refine fE (E:=[]) trivial (show Dz.Res _ _ _ from ?_);obtain⟨ha,hb,hle⟩:=h;have hsa:=ha.2;obtain⟨q,hq⟩:=Lv a b ha hb hle (.inr trivial) a.length 0 0 (List.replicate a.length 0) (by omega) (by omega) (by omega) (Lim.rep _) (by simp) (λk hk _=>by simp) (by simp[val,gC]);refine abi _ _ ⟨q,?_⟩;unfold Tm;rw[sG (by omega),aA];exact hq
theorem D8{r x y c:Int}(hr:0<=r/\r<1000000000)(hx:0<=x/\x<1000000000)(hy:0<=y/\y<1000000000)(hc:0<=c/\c<1000000000):0<=x*y/\x*y<=999999998000000001/\0<=(r+x*y+c)/1000000000/\(r+x*y+c)/1000000000<1000000000:=by
 have h1:0<=x*y:=agk hx.1 hy.1;have h2:x*y<=999999999*999999999:=ahw (by omega) (by omega) hy.1 (by decide);omega
theorem Is(a b:List Int)(ha:aO a)(hb:aO b)(i:Nat)(hi:i<a.length)
  (hout:∀r,Lim r->r.length=a.length+b.length->(∀k (hk:k<r.length),i+1+b.length<=k->r[k]=0)->val r=val (a.take (i+1))*val b->wo.Runs 8 (vZ a b ((i+1:Nat):Int) r) [.new 200 aiz (dig (a.length+b.length) (val a*val b))]):
  ∀(j k:Nat) (c:Int) (r:List Int),k+j=b.length->0<=c->c<1000000000->Lim r->r.length=a.length+b.length->(∀q (hq:q<r.length),i+b.length<=q->r[q]=0)->val r+pw (i+k)*c=val (a.take i)*val b+pw i*a[i]*val (b.take k)->
  wo.Runs 25 (ve a b (i:Int) a[i] c (k:Int) r) [.new 200 aiz (dig (a.length+b.length) (val a*val b))]:=by
 have hsa:=ha.2;have hsb:=hb.2;have xa:=ha.1.get hi;intro j;induction j with
 |zero=>
  intro k c r hk c0 c1 hr hl hz hv;obtain rfl:k=b.length:=by omega
  have hir:i+b.length<r.length:=by omega
  have hr0:=hz _ hir (afs _)
  obtain⟨q,hq⟩:=hout (r.set (i+b.length) c) (hr.set _ ⟨c0,c1⟩) (by simpa using hl) (by rw[show i+1+b.length=i+b.length+1 by omega];exact oN hz) (by
   rw[eP hir,hr0,aT hi];rw[agC]at hv;grind)
  refine yT _ _ _ _ _ _ _ ⟨q,?_⟩;have hw:i64.wrap ((i:Int)+(b.length:Int))=((i+b.length:Nat):Int):=by rw[aM (by omega) (by omega)];simp
  unfold sZ;rw[bO (afs _),hw,am r (i+b.length),aA,afn hir,cU (x:=c) (by omega) (by omega),bH (k:=i) (by omega)];exact hq
 |succ j ih=>
  intro k c r hk c0 c1 hr hl hz hv;have hkb:k<b.length:=by omega
  have hir:i+k<r.length:=by omega
  have xb:=hb.1.get hkb;have xr:=hr.get hir;have hbd:=D8 xr xa xb ⟨c0,c1⟩
  obtain⟨q,hq⟩:=ih (k+1) ((r[i+k]+a[i]*b[k]+c)/1000000000) (r.set (i+k) ((r[i+k]+a[i]*b[k]+c)%1000000000)) (by omega) hbd.2.2.1 hbd.2.2.2 (hr.set _ (by omega)) (by simpa using hl)
   (λm hm hq=>by rw[agG (by omega)];exact hz m (by simpa using hm) hq) (by
    rw[eP hir,aT hkb,show i+(k+1)=i+k+1 by omega,ce,fe];rw[fe]at hv;have e:=Int.emod_add_mul_ediv (r[i+k]+a[i]*b[k]+c) 1000000000;grind)
  refine yT _ _ _ _ _ _ _ ⟨q,?_⟩;have hw:i64.wrap ((i:Int)+(k:Int))=((i+k:Nat):Int):=by rw[aM (by omega) (by omega)];simp
  unfold sZ;rw[aY hkb,am b k,afn hkb,hw,am r (i+k),aA,afn hir];dsimp only;rw[a8 (x:=r[i+k]) (by omega) (by omega),a8 (x:=a[i]) (by omega) (by omega),a8 (x:=b[k]) (by omega) (by omega),a8 (x:=a[i]*b[k]) (by omega) (by omega),a8 (x:=r[i+k]+a[i]*b[k]) (by omega) (by omega),a8 (x:=r[i+k]+a[i]*b[k]+c) (by omega) (by omega),gR (a:=r[i+k]+a[i]*b[k]+c) (by omega),jl (a:=r[i+k]+a[i]*b[k]+c) (by omega),a8 (x:=(r[i+k]+a[i]*b[k]+c)/1000000000) (by omega) (by omega),cU (x:=(r[i+k]+a[i]*b[k]+c)%1000000000) (by omega) (by omega),bH (k:=k) (by omega)];exact hq
theorem IS(a b:List Int)(ha:aO a)(hb:aO b):∀(j i:Nat) (r:List Int),i+j=a.length->Lim r->r.length=a.length+b.length->(∀k (hk:k<r.length),i+b.length<=k->r[k]=0)->val r=val (a.take i)*val b->
  wo.Runs 8 (vZ a b (i:Int) r) [.new 200 aiz (dig (a.length+b.length) (val a*val b))]:=by
 have hsa:=ha.2;intro j;induction j with
 |zero=>
  intro i r hi hr hl hz hv;obtain rfl:i=a.length:=by omega
  refine DZ _ _ _ _ ⟨0,?_⟩;unfold xU;rw[agC]at hv;rw[bO (afs _),<-AH hr hl hv]
 |succ j ih=>
  intro i r hi hr hl hz hv;have hia:i<a.length:=by omega
  obtain⟨q,hq⟩:=Is a b ha hb i hia (λr' h1 h2 h3 h4=>ih (i+1) r' (by omega) h1 h2 h3 h4) b.length 0 0 r (by omega) (by omega) (by omega) hr hl hz (by simp[val,hv]);refine DZ _ _ _ _ ⟨q,?_⟩;unfold xU;rw[aY hia,am,afn hia];exact hq
theorem P8(a b:List Int)(h:aO a/\aO b):CQq7 249 [.d aix a,.d aix b] [.new 200 aiz (dig (a.length+b.length) (val a*val b))]:=by
 refine fE (E:=[]) trivial (show wo.Res _ _ _ from ?_);obtain⟨ha,hb⟩:=h;have hsa:=ha.2;have hsb:=hb.2;obtain⟨q,hq⟩:=IS a b ha hb a.length 0 (List.replicate (a.length+b.length) 0) (by omega) (Lim.rep _) (by simp) (λk hk _=>by simp) (by simp[val,gC]);refine acb _ _ ⟨q,?_⟩;have hw:i64.wrap ((a.length:Int)+(b.length:Int))=((a.length+b.length:Nat):Int):=by rw[aM (by omega) (by omega)];simp
 unfold SD;rw[hw,sG (by omega),aA];exact hq
theorem Nk(a:List Int)(b:Int)(ha:aO a)(hb:1<=b/\b<1000000000):∀(n:Nat) (c:Int) (r:List Int),n<=a.length->0<=c->c<b->Lim r->r.length=a.length->(∀k (hk:k<r.length),k<n->r[k]=0)->b*val r+pw n*c+val (a.take n)=val a->
  Hp.Runs 10 (vL a b c ((n:Int)-1) r) [.d aix (dig a.length (val a/b)),.d aix [val a%b]]:=by
 have hsa:=ha.2;intro n;induction n with
 |zero=>
  intro c r hn c0 c1 hr hl hz hv;simp only[mK,List.take_zero,val,aim,aip]at hv
  have e1:val a%b=c:=by
   rw[<-hv,aig,ahr];exact ahA c0 c1
  have e2:val a/b=val r:=by
   rw[<-hv,aig,aha _ _ (by omega),agz c0 c1];omega
  refine zz _ _ _ _ _ ⟨0,?_⟩;unfold sX;rw[afo (by omega),e1,e2,<-AH hr hl rfl,cU (x:=c) (by omega) (by omega)]
 |succ n ih=>
  intro c r hn c0 c1 hr hl hz hv;have hna:n<a.length:=by omega
  have hnr:n<r.length:=by omega
  have xa:=ha.1.get hna;have hr0:=hz n hnr (by omega);have hcb:0<=c*1000000000+a[n]:=by omega
  have m0:=agu (c*1000000000+a[n]) (show b≠0 by omega);have m1:=af1 (c*1000000000+a[n]) (show 0<b by omega);have md:=af8 (c*1000000000+a[n]) b;have d0:0<=(c*1000000000+a[n])/b:=agp hcb (by omega)
  have d1:(c*1000000000+a[n])/b<1000000000:=by
   refine agO (by omega) ?_;have:=afB (show c+1<=b by omega) (show(0:Int)<=1000000000 by decide);rw[ahb 1000000000 b];omega
  obtain⟨q,hq⟩:=ih ((c*1000000000+a[n])%b) (r.set n ((c*1000000000+a[n])/b)) (by omega) m0 m1 (hr.set n ⟨d0,d1⟩) (by simpa using hl)
   (λk hk hkn=>by rw[agG (by omega)];exact hz k (by simpa using hk) (by omega)) (by
    rw[eP hnr,hr0];rw[aT hna,ce]at hv;grind)
  refine zz _ _ _ _ _ ⟨q,?_⟩;unfold sX;rw[show((n+1:Nat):Int)-1=(n:Int) by omega,afm (by omega),am a n,afn hna,a8 (x:=b) (by omega) (by omega),afo (show ¬b=0 by omega),am r n,aA,afn hnr];dsimp only;rw[a8 (x:=c*1000000000) (by omega) (by omega),a8 (x:=a[n]) (by omega) (by omega),a8 (x:=c*1000000000+a[n]) (by omega) (by omega),gR hcb,jl hcb,a8 (x:=(c*1000000000+a[n])/b) (by omega) (by omega),cU (x:=(c*1000000000+a[n])/b) (by omega) (by omega),aM (x:=(n:Int)-1) (by omega) (by omega)];exact hq
def Dw(a:List Int)(b:Int):Prop:=aO a/\1<=b/\b<1000000000
instance (a:List Int) (b:Int):Decidable (Dw a b):=by unfold Dw;infer_instance
theorem Sa(a:List Int)(b:Int)(h:Dw a b):CQq7 322 [.d aix a,.d aiz b] [.d aix (dig a.length (val a/b)),.d aix [val a%b]]:=by
 refine fE (E:=[]) trivial (show Hp.Res _ _ _ from ?_);obtain⟨ha,hb⟩:=h;have hsa:=ha.2;obtain⟨q,hq⟩:=Nk a b ha hb a.length 0 (List.replicate a.length 0) (afs _) (by omega) (by omega) (Lim.rep _) (by simp) (λk hk _=>by simp) (by simp[gC]);refine aaj _ _ ⟨q,?_⟩;unfold VP;rw[sG (by omega),aA,aM (x:=(a.length:Int)-1) (by omega) (by omega)];exact hq
def Fo:dK:=spN true false [aix,aix] (λx=>decide (aO x.1/\aO x.2.1)) (λx=>[RV.new 200 aiz (dig (max x.1.length x.2.1.length+1) (val x.1+val x.2.1))])
theorem Ds:SpK 288 Fo:=spX λx h=>P1 x.1 x.2.1 (afp h)
def E6:dK:=spN true false [aix,aix] (λx=>decide (nB x.1 x.2.1)) (λx=>[RV.new 200 aiz (dig x.1.length (val x.1-val x.2.1))])
theorem Ce:SpK 289 E6:=spX λx h=>RA x.1 x.2.1 (afp h)
def E7:dK:=spN true false [aix,aix] (λx=>decide (aO x.1/\aO x.2.1)) (λx=>[RV.new 200 aiz (dig (x.1.length+x.2.1.length) (val x.1*val x.2.1))])
theorem DH:SpK 249 E7:=spX λx h=>P8 x.1 x.2.1 (afp h)
def Ju:dK:=spN false false [aix,aiz] (λx=>decide (Dw x.1 x.2.1)) (λx=>[RV.d aix (dig x.1.length (val x.1/x.2.1)),RV.d aix ([val x.1%x.2.1])])
theorem Jo:SpK 322 Ju:=spX λx h=>Sa x.1 x.2.1 (afp h)
def FK:dK:=spN true false [aix,aix] (λx=>decide (aO x.1/\aO x.2.1)) (λx=>[RV.d aiy (cq (val x.1) (val x.2.1))])
theorem BG:SpK 247 FK:=spX λx h=>PT x.1 x.2.1 (afp h)
def Kb:Env:=[(299,Eg),(288,Fo),(289,E6),(249,E7),(322,Ju),(247,FK)]
theorem IZ:EnvAll Tryz.prog Kb:=⟨C8,Ds,Ce,DH,Jo,BG,trivial⟩
def Yv:NT:=[((301,34),{keep:=[6,7,8,9,10,11],hl:=6}),((301,49),{keep:=[6,7,8,9,10,11,13,14],hl:=6}),((323,8),{keep:=[0,1,2,7,8,14,15],hl:=6}),((324,5),{keep:=[0,1,4,8,9],hl:=6}),((301,68),{keep:=[6,7,8,9,10,11,13,151],hl:=0}),((301,72),{keep:=[6,7,8,9,10,11,13],hl:=0})]
def gk:Ctx:=CX Kb Yv
def pI(b:List Int)(x2 s11:Int)(r5 r1:List Int):Cfg:=⟨301,[.blk 0,.seq 76],[(6,SI ((ag (val b).toNat).length:Int)),(7,.d aiz (u32.wrap (u64.wrap (Int.tdiv 1000000000 (u64.wrap ((u64.wrap x2)+1)))))),(8,.own 1),(9,.d aix (ag (val (dig ((ag (val b).toNat).length+([u32.wrap (u64.wrap (Int.tdiv 1000000000 (u64.wrap ((u64.wrap x2)+1))))]).length) (val (ag (val b).toNat)*val ([u32.wrap (u64.wrap (Int.tdiv 1000000000 (u64.wrap ((u64.wrap x2)+1))))])))).toNat)),(10,.own 5),(11,SI s11)],[.row 200 aiz ([u32.wrap (u64.wrap (Int.tdiv 1000000000 (u64.wrap ((u64.wrap x2)+1))))]),.row 200 aiz r1,.row 200 aiz ([0]),.row 200 aiz ([u32.wrap (u64.wrap (Int.tdiv 1000000000 (u64.wrap ((u64.wrap x2)+1))))]),.gone,.row 200 aiz r5],0,[]⟩
def mR(b:List Int)(x2 s11:Int)(r1 r5:List Int)(s13 s14:Int):Cfg:=⟨301,[.blk 2,.seq 66,.blk 1,.seq 75,.lp 34,.blk 0,.seq 76],[(6,SI ((ag (val b).toNat).length:Int)),(7,.d aiz (u32.wrap (u64.wrap (Int.tdiv 1000000000 (u64.wrap ((u64.wrap x2)+1)))))),(8,.own 1),(9,.d aix (ag (val (dig ((ag (val b).toNat).length+([u32.wrap (u64.wrap (Int.tdiv 1000000000 (u64.wrap ((u64.wrap x2)+1))))]).length) (val (ag (val b).toNat)*val ([u32.wrap (u64.wrap (Int.tdiv 1000000000 (u64.wrap ((u64.wrap x2)+1))))])))).toNat)),(10,.own 5),(11,SI s11),(13,.d (.int .u64) s13),(14,.d (.int .u64) s14)],[.row 200 aiz ([u32.wrap (u64.wrap (Int.tdiv 1000000000 (u64.wrap ((u64.wrap x2)+1))))]),.row 200 aiz r1,.row 200 aiz ([0]),.row 200 aiz ([u32.wrap (u64.wrap (Int.tdiv 1000000000 (u64.wrap ((u64.wrap x2)+1))))]),.gone,.row 200 aiz r5],0,[]⟩
def cO(b:List Int)(x2 s11:Int)(r5:List Int)(s323_2 f323_0_13 s323_7 s323_8 s323_15:Int)(r323_1:List Int):Cfg:=⟨323,[.blk 0,.seq 43],[(0,.osl 1 1 ((s11:Int).toNat) ((i64.wrap ((i64.wrap (s11+((ag (val b).toNat).length:Int)))+1):Int).toNat-(s11:Int).toNat)),(1,.d aix (ag (val (dig ((ag (val b).toNat).length+([u32.wrap (u64.wrap (Int.tdiv 1000000000 (u64.wrap ((u64.wrap x2)+1))))]).length) (val (ag (val b).toNat)*val ([u32.wrap (u64.wrap (Int.tdiv 1000000000 (u64.wrap ((u64.wrap x2)+1))))])))).toNat)),(2,.d (.int .u64) s323_2),(7,.d (.int .u64) s323_7),(8,.d (.int .u64) s323_8),(14,SI (((i64.wrap ((i64.wrap (s11+((ag (val b).toNat).length:Int)))+1):Int).toNat-(s11:Int).toNat:Nat):Int)),(15,SI s323_15)],[.row 200 aiz ([u32.wrap (u64.wrap (Int.tdiv 1000000000 (u64.wrap ((u64.wrap x2)+1))))]),.row 200 aiz r323_1,.row 200 aiz ([0]),.row 200 aiz ([u32.wrap (u64.wrap (Int.tdiv 1000000000 (u64.wrap ((u64.wrap x2)+1))))]),.gone,.row 200 aiz r5],6,[⟨301,[.seq 69,.seq 74,.blk 1,.seq 75,.lp 34,.blk 0,.seq 76],68,9,[(6,SI ((ag (val b).toNat).length:Int)),(7,.d aiz (u32.wrap (u64.wrap (Int.tdiv 1000000000 (u64.wrap ((u64.wrap x2)+1)))))),(8,.own 1),(9,.d aix (ag (val (dig ((ag (val b).toNat).length+([u32.wrap (u64.wrap (Int.tdiv 1000000000 (u64.wrap ((u64.wrap x2)+1))))]).length) (val (ag (val b).toNat)*val ([u32.wrap (u64.wrap (Int.tdiv 1000000000 (u64.wrap ((u64.wrap x2)+1))))])))).toNat)),(10,.own 5),(11,SI s11),(13,.d (.int .u64) f323_0_13)],0,none⟩]⟩
def dt(b:List Int)(x2 s11:Int)(r5:List Int)(f323_0_13 s324_4 s324_9:Int)(r324_1:List Int):Cfg:=⟨324,[.blk 0],[(0,.osl 1 1 ((s11:Int).toNat) ((i64.wrap ((i64.wrap (s11+((ag (val b).toNat).length:Int)))+1):Int).toNat-(s11:Int).toNat)),(1,.d aix (ag (val (dig ((ag (val b).toNat).length+([u32.wrap (u64.wrap (Int.tdiv 1000000000 (u64.wrap ((u64.wrap x2)+1))))]).length) (val (ag (val b).toNat)*val ([u32.wrap (u64.wrap (Int.tdiv 1000000000 (u64.wrap ((u64.wrap x2)+1))))])))).toNat)),(4,.d aiz s324_4),(8,SI (((i64.wrap ((i64.wrap (s11+((ag (val b).toNat).length:Int)))+1):Int).toNat-(s11:Int).toNat:Nat):Int)),(9,SI s324_9)],[.row 200 aiz ([u32.wrap (u64.wrap (Int.tdiv 1000000000 (u64.wrap ((u64.wrap x2)+1))))]),.row 200 aiz r324_1,.row 200 aiz ([0]),.row 200 aiz ([u32.wrap (u64.wrap (Int.tdiv 1000000000 (u64.wrap ((u64.wrap x2)+1))))]),.gone,.row 200 aiz r5],6,[⟨301,[.seq 74,.blk 1,.seq 75,.lp 34,.blk 0,.seq 76],72,8,[(6,SI ((ag (val b).toNat).length:Int)),(7,.d aiz (u32.wrap (u64.wrap (Int.tdiv 1000000000 (u64.wrap ((u64.wrap x2)+1)))))),(8,.own 1),(9,.d aix (ag (val (dig ((ag (val b).toNat).length+([u32.wrap (u64.wrap (Int.tdiv 1000000000 (u64.wrap ((u64.wrap x2)+1))))]).length) (val (ag (val b).toNat)*val ([u32.wrap (u64.wrap (Int.tdiv 1000000000 (u64.wrap ((u64.wrap x2)+1))))])))).toNat)),(10,.own 5),(11,SI s11),(13,.d (.int .u64) (u64.wrap (f323_0_13-1)))],0,none⟩]⟩
def Id(a b:List Int)(k:KT):OLR:=og (decide (aO a)) (og (decide (aO b)) (match((ag (val b).toNat).length:Int)==1 with|true=>(match aG (ag (val b).toNat) 0 with|some x1=>(og (decide (Dw (ag (val a).toNat) x1)) (some [RV.d aix (dig (ag (val a).toNat).length (val (ag (val a).toNat)/x1)),RV.d aix ([val (ag (val a).toNat)%x1])]))|none=>none)|false=>(og (decide (aO (ag (val a).toNat)/\aO (ag (val b).toNat))) (match decide ((cq (val (ag (val a).toNat)) (val (ag (val b).toNat)))<0)with|true=>(og (decide ((ag (val a).toNat).length*4<=140737488355328/\(ag (val a).toNat).length<=140737488355328)) (some [RV.d aix ([]),RV.d aix (ag (val a).toNat)]))|false=>(match aG (ag (val b).toNat) (i64.wrap (((ag (val b).toNat).length:Int)-1))with|some x2=>(match decide (u64.wrap ((u64.wrap x2)+1)=(0:Int))with|true=>none|false=>(og (decide (aO (ag (val a).toNat)/\aO ([u32.wrap (u64.wrap (Int.tdiv 1000000000 (u64.wrap ((u64.wrap x2)+1))))]))) (og (decide (((dig ((ag (val a).toNat).length+([u32.wrap (u64.wrap (Int.tdiv 1000000000 (u64.wrap ((u64.wrap x2)+1))))]).length) (val (ag (val a).toNat)*val ([u32.wrap (u64.wrap (Int.tdiv 1000000000 (u64.wrap ((u64.wrap x2)+1))))]))).length+([0]).length)*4<=140737488355328/\(dig ((ag (val a).toNat).length+([u32.wrap (u64.wrap (Int.tdiv 1000000000 (u64.wrap ((u64.wrap x2)+1))))]).length) (val (ag (val a).toNat)*val ([u32.wrap (u64.wrap (Int.tdiv 1000000000 (u64.wrap ((u64.wrap x2)+1))))]))).length+([0]).length<=140737488355328)) (og (decide (aO (ag (val b).toNat)/\aO ([u32.wrap (u64.wrap (Int.tdiv 1000000000 (u64.wrap ((u64.wrap x2)+1))))]))) (og (decide (aO (dig ((ag (val b).toNat).length+([u32.wrap (u64.wrap (Int.tdiv 1000000000 (u64.wrap ((u64.wrap x2)+1))))]).length) (val (ag (val b).toNat)*val ([u32.wrap (u64.wrap (Int.tdiv 1000000000 (u64.wrap ((u64.wrap x2)+1))))]))))) (og (decide ((0:Int)<=i64.wrap ((((dig ((ag (val a).toNat).length+([u32.wrap (u64.wrap (Int.tdiv 1000000000 (u64.wrap ((u64.wrap x2)+1))))]).length) (val (ag (val a).toNat)*val ([u32.wrap (u64.wrap (Int.tdiv 1000000000 (u64.wrap ((u64.wrap x2)+1))))])))++([0])).length:Int)-((ag (val b).toNat).length:Int))/\(i64.wrap ((((dig ((ag (val a).toNat).length+([u32.wrap (u64.wrap (Int.tdiv 1000000000 (u64.wrap ((u64.wrap x2)+1))))]).length) (val (ag (val a).toNat)*val ([u32.wrap (u64.wrap (Int.tdiv 1000000000 (u64.wrap ((u64.wrap x2)+1))))])))++([0])).length:Int)-((ag (val b).toNat).length:Int)))*((4:Nat):Int)<=140737488355328/\i64.wrap ((((dig ((ag (val a).toNat).length+([u32.wrap (u64.wrap (Int.tdiv 1000000000 (u64.wrap ((u64.wrap x2)+1))))]).length) (val (ag (val a).toNat)*val ([u32.wrap (u64.wrap (Int.tdiv 1000000000 (u64.wrap ((u64.wrap x2)+1))))])))++([0])).length:Int)-((ag (val b).toNat).length:Int))<=140737488355328)) (k 34 (pI b x2 (i64.wrap ((i64.wrap ((((dig ((ag (val a).toNat).length+([u32.wrap (u64.wrap (Int.tdiv 1000000000 (u64.wrap ((u64.wrap x2)+1))))]).length) (val (ag (val a).toNat)*val ([u32.wrap (u64.wrap (Int.tdiv 1000000000 (u64.wrap ((u64.wrap x2)+1))))])))++([0])).length:Int)-((ag (val b).toNat).length:Int)))-1)) (List.replicate (i64.wrap ((((dig ((ag (val a).toNat).length+([u32.wrap (u64.wrap (Int.tdiv 1000000000 (u64.wrap ((u64.wrap x2)+1))))]).length) (val (ag (val a).toNat)*val ([u32.wrap (u64.wrap (Int.tdiv 1000000000 (u64.wrap ((u64.wrap x2)+1))))])))++([0])).length:Int)-((ag (val b).toNat).length:Int))).toNat (0:Int)) ((dig ((ag (val a).toNat).length+([u32.wrap (u64.wrap (Int.tdiv 1000000000 (u64.wrap ((u64.wrap x2)+1))))]).length) (val (ag (val a).toNat)*val ([u32.wrap (u64.wrap (Int.tdiv 1000000000 (u64.wrap ((u64.wrap x2)+1))))])))++([0]))))))))))|none=>none)))))
theorem OW(a b:List Int):RS gk 301 [.d aix a,.d aix b] (Id a b):=rsX
def uC(b:List Int)(x2 s11:Int)(r5 r1:List Int)(k:KT):OLR:=match decide (s11>=0)with|true=>(match aG r1 (i64.wrap (s11+((ag (val b).toNat).length:Int)))with|some _=>(match true,r1[(i64.wrap (s11+((ag (val b).toNat).length:Int))).toNat]? with|true,some x3=>(match aG r1 (i64.wrap ((i64.wrap (s11+((ag (val b).toNat).length:Int)))-1))with|some _=>(match true,r1[(i64.wrap ((i64.wrap (s11+((ag (val b).toNat).length:Int)))-1)).toNat]? with|true,some x4=>(match aG (ag (val (dig ((ag (val b).toNat).length+([u32.wrap (u64.wrap (Int.tdiv 1000000000 (u64.wrap ((u64.wrap x2)+1))))]).length) (val (ag (val b).toNat)*val ([u32.wrap (u64.wrap (Int.tdiv 1000000000 (u64.wrap ((u64.wrap x2)+1))))])))).toNat) (i64.wrap (((ag (val b).toNat).length:Int)-1))with|some x5=>(match decide (u64.wrap x5=(0:Int))with|true=>none|false=>(match aG (ag (val (dig ((ag (val b).toNat).length+([u32.wrap (u64.wrap (Int.tdiv 1000000000 (u64.wrap ((u64.wrap x2)+1))))]).length) (val (ag (val b).toNat)*val ([u32.wrap (u64.wrap (Int.tdiv 1000000000 (u64.wrap ((u64.wrap x2)+1))))])))).toNat) (i64.wrap (((ag (val b).toNat).length:Int)-1))with|some x6=>(match decide (u64.wrap x6=(0:Int))with|true=>none|false=>k 49 (mR b x2 s11 r1 r5 (u64.wrap (Int.tdiv (u64.wrap ((u64.wrap ((u64.wrap x3)*1000000000))+(u64.wrap x4))) (u64.wrap x5))) (Int.tmod (u64.wrap ((u64.wrap ((u64.wrap x3)*1000000000))+(u64.wrap x4))) (u64.wrap x6))))|none=>none))|none=>none)|_,_=>none)|none=>none)|_,_=>none)|none=>none)|false=>(og (decide ((0:Int)<=0/\0<=((ag (val b).toNat).length:Int)/\((ag (val b).toNat).length:Int)<=(r1.length:Int))) (og (decide (aO ((r1.drop ((0:Int).toNat)).take ((((ag (val b).toNat).length:Int):Int).toNat-(0:Int).toNat)))) (og (decide (Dw (ag (val ((r1.drop ((0:Int).toNat)).take ((((ag (val b).toNat).length:Int):Int).toNat-(0:Int).toNat))).toNat) (u32.wrap (u64.wrap (Int.tdiv 1000000000 (u64.wrap ((u64.wrap x2)+1))))))) (some [RV.d aix r5,RV.d aix (dig (ag (val ((r1.drop ((0:Int).toNat)).take ((((ag (val b).toNat).length:Int):Int).toNat-(0:Int).toNat))).toNat).length (val (ag (val ((r1.drop ((0:Int).toNat)).take ((((ag (val b).toNat).length:Int):Int).toNat-(0:Int).toNat))).toNat)/(u32.wrap (u64.wrap (Int.tdiv 1000000000 (u64.wrap ((u64.wrap x2)+1)))))))]))))
theorem yv(b:List Int)(x2 s11:Int)(r5 r1:List Int):RN gk 34 (pI b x2 s11 r5 r1) (uC b x2 s11 r5 r1):=rnX
def mo(b:List Int)(x2 s11:Int)(r1 r5:List Int)(s13 s14:Int)(k:KT):OLR:=match decide (s13>=1000000000)with|true=>(match aG (ag (val (dig ((ag (val b).toNat).length+([u32.wrap (u64.wrap (Int.tdiv 1000000000 (u64.wrap ((u64.wrap x2)+1))))]).length) (val (ag (val b).toNat)*val ([u32.wrap (u64.wrap (Int.tdiv 1000000000 (u64.wrap ((u64.wrap x2)+1))))])))).toNat) (i64.wrap (((ag (val b).toNat).length:Int)-1))with|some x7=>(match decide ((u64.wrap (s14+(u64.wrap x7)))>=1000000000)with|true=>(og (decide ((0:Int)<=s11/\s11<=i64.wrap ((i64.wrap (s11+((ag (val b).toNat).length:Int)))+1)/\i64.wrap ((i64.wrap (s11+((ag (val b).toNat).length:Int)))+1)<=(r1.length:Int))) (k 8 (cO b x2 s11 r5 (u64.wrap (s13-1)) (u64.wrap (s13-1)) 0 0 0 r1)))|false=>k 49 (mR b x2 s11 r1 r5 (u64.wrap (s13-1)) (u64.wrap (s14+(u64.wrap x7)))))|none=>none)|false=>(match aG (ag (val (dig ((ag (val b).toNat).length+([u32.wrap (u64.wrap (Int.tdiv 1000000000 (u64.wrap ((u64.wrap x2)+1))))]).length) (val (ag (val b).toNat)*val ([u32.wrap (u64.wrap (Int.tdiv 1000000000 (u64.wrap ((u64.wrap x2)+1))))])))).toNat) (i64.wrap (((ag (val b).toNat).length:Int)-2))with|some x8=>(match aG r1 (i64.wrap ((i64.wrap (s11+((ag (val b).toNat).length:Int)))-2))with|some _=>(match true,r1[(i64.wrap ((i64.wrap (s11+((ag (val b).toNat).length:Int)))-2)).toNat]? with|true,some x9=>(match decide ((u64.wrap (s13*(u64.wrap x8)))>(u64.wrap ((u64.wrap (s14*1000000000))+(u64.wrap x9))))with|true=>(match aG (ag (val (dig ((ag (val b).toNat).length+([u32.wrap (u64.wrap (Int.tdiv 1000000000 (u64.wrap ((u64.wrap x2)+1))))]).length) (val (ag (val b).toNat)*val ([u32.wrap (u64.wrap (Int.tdiv 1000000000 (u64.wrap ((u64.wrap x2)+1))))])))).toNat) (i64.wrap (((ag (val b).toNat).length:Int)-1))with|some x10=>(match decide ((u64.wrap (s14+(u64.wrap x10)))>=1000000000)with|true=>(og (decide ((0:Int)<=s11/\s11<=i64.wrap ((i64.wrap (s11+((ag (val b).toNat).length:Int)))+1)/\i64.wrap ((i64.wrap (s11+((ag (val b).toNat).length:Int)))+1)<=(r1.length:Int))) (k 8 (cO b x2 s11 r5 (u64.wrap (s13-1)) (u64.wrap (s13-1)) 0 0 0 r1)))|false=>k 49 (mR b x2 s11 r1 r5 (u64.wrap (s13-1)) (u64.wrap (s14+(u64.wrap x10)))))|none=>none)|false=>(og (decide ((0:Int)<=s11/\s11<=i64.wrap ((i64.wrap (s11+((ag (val b).toNat).length:Int)))+1)/\i64.wrap ((i64.wrap (s11+((ag (val b).toNat).length:Int)))+1)<=(r1.length:Int))) (k 8 (cO b x2 s11 r5 s13 s13 0 0 0 r1))))|_,_=>none)|none=>none)|none=>none)
theorem o8(b:List Int)(x2 s11:Int)(r1 r5:List Int)(s13 s14:Int):RN gk 49 (mR b x2 s11 r1 r5 s13 s14) (mo b x2 s11 r1 r5 s13 s14):=rnX
def c9(b:List Int)(x2 s11:Int)(r5:List Int)(s323_2 f323_0_13 s323_7 s323_8 s323_15:Int)(r323_1:List Int)(k:KT):OLR:=match decide (s323_15<(((i64.wrap ((i64.wrap (s11+((ag (val b).toNat).length:Int)))+1):Int).toNat-(s11:Int).toNat:Nat):Int))with|true=>(match decide (s323_15<((ag (val (dig ((ag (val b).toNat).length+([u32.wrap (u64.wrap (Int.tdiv 1000000000 (u64.wrap ((u64.wrap x2)+1))))]).length) (val (ag (val b).toNat)*val ([u32.wrap (u64.wrap (Int.tdiv 1000000000 (u64.wrap ((u64.wrap x2)+1))))])))).toNat).length:Int))with|true=>(match aG (ag (val (dig ((ag (val b).toNat).length+([u32.wrap (u64.wrap (Int.tdiv 1000000000 (u64.wrap ((u64.wrap x2)+1))))]).length) (val (ag (val b).toNat)*val ([u32.wrap (u64.wrap (Int.tdiv 1000000000 (u64.wrap ((u64.wrap x2)+1))))])))).toNat) s323_15 with|some x11=>(match true,decide ((0:Int)<=s323_15/\s323_15<(((i64.wrap ((i64.wrap (s11+((ag (val b).toNat).length:Int)))+1):Int).toNat-(s11:Int).toNat:Nat):Int))with|true,true=>(match true,r323_1[(s11:Int).toNat+(s323_15).toNat]? with|true,some x12=>(match decide ((u64.wrap x12)<(u64.wrap ((Int.tmod (u64.wrap (s323_7+(u64.wrap ((u64.wrap x11)*s323_2)))) 1000000000)+s323_8)))with|true=>(match true,decide ((0:Int)<=s323_15/\s323_15<(((i64.wrap ((i64.wrap (s11+((ag (val b).toNat).length:Int)))+1):Int).toNat-(s11:Int).toNat:Nat):Int))with|true,true=>(match true,r323_1[(s11:Int).toNat+(s323_15).toNat]? with|true,some _=>k 8 (cO b x2 s11 r5 s323_2 f323_0_13 (u64.wrap (Int.tdiv (u64.wrap (s323_7+(u64.wrap ((u64.wrap x11)*s323_2)))) 1000000000)) 1 (i64.wrap (s323_15+1)) (r323_1.set ((s11:Int).toNat+(s323_15).toNat) (u32.wrap (u64.wrap ((u64.wrap ((u64.wrap x12)+1000000000))-(u64.wrap ((Int.tmod (u64.wrap (s323_7+(u64.wrap ((u64.wrap x11)*s323_2)))) 1000000000)+s323_8)))))))|_,_=>none)|_,_=>none)|false=>(match true,decide ((0:Int)<=s323_15/\s323_15<(((i64.wrap ((i64.wrap (s11+((ag (val b).toNat).length:Int)))+1):Int).toNat-(s11:Int).toNat:Nat):Int))with|true,true=>(match true,r323_1[(s11:Int).toNat+(s323_15).toNat]? with|true,some _=>k 8 (cO b x2 s11 r5 s323_2 f323_0_13 (u64.wrap (Int.tdiv (u64.wrap (s323_7+(u64.wrap ((u64.wrap x11)*s323_2)))) 1000000000)) 0 (i64.wrap (s323_15+1)) (r323_1.set ((s11:Int).toNat+(s323_15).toNat) (u32.wrap (u64.wrap ((u64.wrap x12)-(u64.wrap ((Int.tmod (u64.wrap (s323_7+(u64.wrap ((u64.wrap x11)*s323_2)))) 1000000000)+s323_8)))))))|_,_=>none)|_,_=>none))|_,_=>none)|_,_=>none)|none=>none)|false=>(match true,decide ((0:Int)<=s323_15/\s323_15<(((i64.wrap ((i64.wrap (s11+((ag (val b).toNat).length:Int)))+1):Int).toNat-(s11:Int).toNat:Nat):Int))with|true,true=>(match true,r323_1[(s11:Int).toNat+(s323_15).toNat]? with|true,some x15=>(match decide ((u64.wrap x15)<(u64.wrap ((Int.tmod s323_7 1000000000)+s323_8)))with|true=>(match true,decide ((0:Int)<=s323_15/\s323_15<(((i64.wrap ((i64.wrap (s11+((ag (val b).toNat).length:Int)))+1):Int).toNat-(s11:Int).toNat:Nat):Int))with|true,true=>(match true,r323_1[(s11:Int).toNat+(s323_15).toNat]? with|true,some _=>k 8 (cO b x2 s11 r5 s323_2 f323_0_13 (u64.wrap (Int.tdiv s323_7 1000000000)) 1 (i64.wrap (s323_15+1)) (r323_1.set ((s11:Int).toNat+(s323_15).toNat) (u32.wrap (u64.wrap ((u64.wrap ((u64.wrap x15)+1000000000))-(u64.wrap ((Int.tmod s323_7 1000000000)+s323_8)))))))|_,_=>none)|_,_=>none)|false=>(match true,decide ((0:Int)<=s323_15/\s323_15<(((i64.wrap ((i64.wrap (s11+((ag (val b).toNat).length:Int)))+1):Int).toNat-(s11:Int).toNat:Nat):Int))with|true,true=>(match true,r323_1[(s11:Int).toNat+(s323_15).toNat]? with|true,some _=>k 8 (cO b x2 s11 r5 s323_2 f323_0_13 (u64.wrap (Int.tdiv s323_7 1000000000)) 0 (i64.wrap (s323_15+1)) (r323_1.set ((s11:Int).toNat+(s323_15).toNat) (u32.wrap (u64.wrap ((u64.wrap x15)-(u64.wrap ((Int.tmod s323_7 1000000000)+s323_8)))))))|_,_=>none)|_,_=>none))|_,_=>none)|_,_=>none))|false=>(match decide (s323_8>0)with|true=>(og (decide ((0:Int)<=s11/\s11<=i64.wrap ((i64.wrap (s11+((ag (val b).toNat).length:Int)))+1)/\i64.wrap ((i64.wrap (s11+((ag (val b).toNat).length:Int)))+1)<=(r323_1.length:Int))) (k 5 (dt b x2 s11 r5 f323_0_13 0 0 r323_1)))|false=>(match decide (s323_7>0)with|true=>(og (decide ((0:Int)<=s11/\s11<=i64.wrap ((i64.wrap (s11+((ag (val b).toNat).length:Int)))+1)/\i64.wrap ((i64.wrap (s11+((ag (val b).toNat).length:Int)))+1)<=(r323_1.length:Int))) (k 5 (dt b x2 s11 r5 f323_0_13 0 0 r323_1)))|false=>(match aG r5 s11 with|some _=>(match true,r5[(s11).toNat]? with|true,some _=>k 34 (pI b x2 (i64.wrap (s11-1)) (r5.set ((s11).toNat) (u32.wrap f323_0_13)) r323_1)|_,_=>none)|none=>none)))
theorem fA(b:List Int)(x2 s11:Int)(r5:List Int)(s323_2 f323_0_13 s323_7 s323_8 s323_15:Int)(r323_1:List Int):RN gk 8 (cO b x2 s11 r5 s323_2 f323_0_13 s323_7 s323_8 s323_15 r323_1) (c9 b x2 s11 r5 s323_2 f323_0_13 s323_7 s323_8 s323_15 r323_1):=rnX
def dX(b:List Int)(x2 s11:Int)(r5:List Int)(f323_0_13 s324_4 s324_9:Int)(r324_1:List Int)(k:KT):OLR:=match decide (s324_9<(((i64.wrap ((i64.wrap (s11+((ag (val b).toNat).length:Int)))+1):Int).toNat-(s11:Int).toNat:Nat):Int))with|true=>(match true,decide ((0:Int)<=s324_9/\s324_9<(((i64.wrap ((i64.wrap (s11+((ag (val b).toNat).length:Int)))+1):Int).toNat-(s11:Int).toNat:Nat):Int))with|true,true=>(match true,r324_1[(s11:Int).toNat+(s324_9).toNat]? with|true,some x19=>(match decide (s324_9<((ag (val (dig ((ag (val b).toNat).length+([u32.wrap (u64.wrap (Int.tdiv 1000000000 (u64.wrap ((u64.wrap x2)+1))))]).length) (val (ag (val b).toNat)*val ([u32.wrap (u64.wrap (Int.tdiv 1000000000 (u64.wrap ((u64.wrap x2)+1))))])))).toNat).length:Int))with|true=>(match aG (ag (val (dig ((ag (val b).toNat).length+([u32.wrap (u64.wrap (Int.tdiv 1000000000 (u64.wrap ((u64.wrap x2)+1))))]).length) (val (ag (val b).toNat)*val ([u32.wrap (u64.wrap (Int.tdiv 1000000000 (u64.wrap ((u64.wrap x2)+1))))])))).toNat) s324_9 with|some x20=>(match decide ((u32.wrap ((u32.wrap (x19+s324_4))+x20))>=1000000000)with|true=>(match true,decide ((0:Int)<=s324_9/\s324_9<(((i64.wrap ((i64.wrap (s11+((ag (val b).toNat).length:Int)))+1):Int).toNat-(s11:Int).toNat:Nat):Int))with|true,true=>(match true,r324_1[(s11:Int).toNat+(s324_9).toNat]? with|true,some _=>k 5 (dt b x2 s11 r5 f323_0_13 1 (i64.wrap (s324_9+1)) (r324_1.set ((s11:Int).toNat+(s324_9).toNat) (u32.wrap ((u32.wrap ((u32.wrap (x19+s324_4))+x20))-1000000000))))|_,_=>none)|_,_=>none)|false=>(match true,decide ((0:Int)<=s324_9/\s324_9<(((i64.wrap ((i64.wrap (s11+((ag (val b).toNat).length:Int)))+1):Int).toNat-(s11:Int).toNat:Nat):Int))with|true,true=>(match true,r324_1[(s11:Int).toNat+(s324_9).toNat]? with|true,some _=>k 5 (dt b x2 s11 r5 f323_0_13 0 (i64.wrap (s324_9+1)) (r324_1.set ((s11:Int).toNat+(s324_9).toNat) (u32.wrap ((u32.wrap (x19+s324_4))+x20))))|_,_=>none)|_,_=>none))|none=>none)|false=>(match decide ((u32.wrap (x19+s324_4))>=1000000000)with|true=>(match true,decide ((0:Int)<=s324_9/\s324_9<(((i64.wrap ((i64.wrap (s11+((ag (val b).toNat).length:Int)))+1):Int).toNat-(s11:Int).toNat:Nat):Int))with|true,true=>(match true,r324_1[(s11:Int).toNat+(s324_9).toNat]? with|true,some _=>k 5 (dt b x2 s11 r5 f323_0_13 1 (i64.wrap (s324_9+1)) (r324_1.set ((s11:Int).toNat+(s324_9).toNat) (u32.wrap ((u32.wrap (x19+s324_4))-1000000000))))|_,_=>none)|_,_=>none)|false=>(match true,decide ((0:Int)<=s324_9/\s324_9<(((i64.wrap ((i64.wrap (s11+((ag (val b).toNat).length:Int)))+1):Int).toNat-(s11:Int).toNat:Nat):Int))with|true,true=>(match true,r324_1[(s11:Int).toNat+(s324_9).toNat]? with|true,some _=>k 5 (dt b x2 s11 r5 f323_0_13 0 (i64.wrap (s324_9+1)) (r324_1.set ((s11:Int).toNat+(s324_9).toNat) (u32.wrap (x19+s324_4))))|_,_=>none)|_,_=>none)))|_,_=>none)|_,_=>none)|false=>(match aG r5 s11 with|some _=>(match true,r5[(s11).toNat]? with|true,some _=>k 34 (pI b x2 (i64.wrap (s11-1)) (r5.set ((s11).toNat) (u32.wrap (u64.wrap (f323_0_13-1)))) r324_1)|_,_=>none)|none=>none)
theorem fC(b:List Int)(x2 s11:Int)(r5:List Int)(f323_0_13 s324_4 s324_9:Int)(r324_1:List Int):RN gk 5 (dt b x2 s11 r5 f323_0_13 s324_4 s324_9 r324_1) (dX b x2 s11 r5 f323_0_13 s324_4 s324_9 r324_1):=rnX
section
theorem JO{x:Int}(h1:1<=x)(h2:x<1000000000):1<=1000000000/(x+1)/\1000000000/(x+1)<=500000000/\(x+1)*(1000000000/(x+1))<=1000000000/\500000000<=x*(1000000000/(x+1)):=by
 have m0:=agu 1000000000 (show x+1≠0 by omega);have m1:=af1 1000000000 (show 0<x+1 by omega);have md:=af8 1000000000 (x+1);have d1:1<=1000000000/(x+1):=Int.le_ediv_of_mul_le (by omega) (by omega)
 have d2:1000000000/(x+1)<=500000000:=by
  have:1000000000/(x+1)<500000001:=agO (by omega) (by omega);omega
 generalize 1000000000/(x+1)=d at*
 refine⟨d1,d2,by omega,?_⟩;rcases afT x 500000000 with hx|hx
 ·rcases afT (x*d) 500000000 with hd|hd
  ·exfalso;have e2:(x+1)*d>=1000000000-x:=by omega
   have e3:(x+1)*(x*d)<=(x+1)*499999999:=afu (by omega) (by omega);have e4:x*(1000000000-x)<=x*((x+1)*d):=afu e2 (by omega);have e5:0<=(x-1)*(500000000-x):=agk (by omega) (by omega);grind
  omega
 ·have:=ahw hx d1 (by decide) (by omega);omega
structure Kn (w V u2 u1 u0 v1 v0:Int):Prop where
 P:∃P wl vl:Int,0<P/\0<=wl/\wl<P/\0<=vl/\vl<P/\w=wl+P*(u0+1000000000*u1+1000000000*1000000000*u2)/\V=vl+P*(v0+1000000000*v1)
 u2:0<=u2/\u2<1000000000
 u1:0<=u1/\u1<1000000000
 u0:0<=u0/\u0<1000000000
 v1:500000000<=v1/\v1<1000000000
 v0:0<=v0/\v0<1000000000
 lt:w<V*1000000000
section
variable {w V u2 u1 u0 v1 v0:Int} (h:Kn w V u2 u1 u0 v1 v0)
include h
theorem Kn.top:u2<=v1:=by
 obtain⟨⟨P,wl,vl,p0,a1,a2,b1,b2,hw,hV⟩,⟨x1,x2⟩,⟨x3,x4⟩,⟨x5,x6⟩,⟨y1,y2⟩,⟨y3,y4⟩,hlt⟩:=h;rcases afT v1 u2 with hc|hc
 ·have e1:P*(1000000000*1000000000*(v1+1))<=P*(u0+1000000000*u1+1000000000*1000000000*u2):=afu (by omega) (by omega);have e2:P*(v0+1000000000*v1)<=P*(999999999+1000000000*v1):=afu (by omega) (by omega);grind
 omega
theorem Kn.pos:0<V:=by
 obtain⟨⟨P,wl,vl,p0,a1,a2,b1,b2,hw,hV⟩,⟨x1,x2⟩,⟨x3,x4⟩,⟨x5,x6⟩,⟨y1,y2⟩,⟨y3,y4⟩,hlt⟩:=h;have:=Int.mul_pos p0 (show 0<v0+1000000000*v1 by omega);omega
theorem Kn.great{g rest:Int}(hg:0<=g)(he:g*v1+rest=u2*1000000000+u1)(hc:rest*1000000000+u0<g*v0):w<g*V:=by
 obtain⟨⟨P,wl,vl,p0,a1,a2,b1,b2,hw,hV⟩,⟨x1,x2⟩,⟨x3,x4⟩,⟨x5,x6⟩,⟨y1,y2⟩,⟨y3,y4⟩,hlt⟩:=h;have e1:g*V=g*vl+P*(g*v0+1000000000*(g*v1)):=by rw[hV];grind
 have e2:0<=g*vl:=agk hg b1;have e3:P*(u0+1000000000*u1+1000000000*1000000000*u2+1)<=P*(g*v0+1000000000*(g*v1)):=afu (by omega) (by omega);grind
theorem Kn.small{g rest:Int}(_hg:0<=g)(hgB:g<=1000000000)(he:g*v1+rest=u2*1000000000+u1)(hc:g*v0<=rest*1000000000+u0):g*V<w+V:=by
 obtain⟨⟨P,wl,vl,p0,a1,a2,b1,b2,hw,hV⟩,⟨x1,x2⟩,⟨x3,x4⟩,⟨x5,x6⟩,⟨y1,y2⟩,⟨y3,y4⟩,hlt⟩:=h;have e1:g*V=g*vl+P*(g*v0+1000000000*(g*v1)):=by rw[hV];grind
 have e2:g*vl<=1000000000*P:=ahw hgB (by omega) b1 (by decide);have e3:P*(g*v0+1000000000*(g*v1))<=P*(u0+1000000000*u1+1000000000*1000000000*u2):=afu (by omega) (by omega);have e4:P*(1000000000*500000000)<=P*(v0+1000000000*v1):=afu (by omega) (by omega);omega
theorem Kn.first{g:Int}(hg:g=(u2*1000000000+u1)/v1):w<(g+1)*V:=by
 obtain⟨⟨P,wl,vl,p0,a1,a2,b1,b2,hw,hV⟩,⟨x1,x2⟩,⟨x3,x4⟩,⟨x5,x6⟩,⟨y1,y2⟩,⟨y3,y4⟩,hlt⟩:=h;have m1:=af1 (u2*1000000000+u1) (show 0<v1 by omega);have md:=af8 (u2*1000000000+u1) v1;rw[<-hg]at md;have g0:0<=g:=by rw[hg];exact agp (by omega) (by omega)
 have e1:(g+1)*V=(g+1)*vl+P*((g+1)*v0+1000000000*((g+1)*v1)):=by rw[hV];grind
 have e2:0<=(g+1)*vl:=agk (by omega) b1;have e3:0<=(g+1)*v0:=agk (by omega) y3;have e4:(g+1)*v1=v1*g+v1:=by grind
 have e5:P*(1000000000*(u2*1000000000+u1+1))<=P*((g+1)*v0+1000000000*((g+1)*v1)):=afu (by omega) (by omega)
 have e6:P*(u0+1000000000*u1+1000000000*1000000000*u2)+P<=P*(1000000000*(u2*1000000000+u1+1)):=by
  have:P*(u0+1000000000*u1+1000000000*1000000000*u2+1)<=P*(1000000000*(u2*1000000000+u1+1)):=afu (by omega) (by omega);grind
 omega
end
theorem BT{l:List Int}{m:Nat}(h:l.length=m+2):val l=val (l.take m)+pw m*(l[m]+1000000000*l[m+1]):=by grind [aT,ce]
theorem LL{l:List Int}{m:Nat}(h:l.length=m+3):val l=val (l.take m)+pw m*(l[m]+1000000000*l[m+1]+1000000000*1000000000*l[m+2]):=by grind [aT,ce]
def win(k n:Nat)(r:List Int):Int:=val ((r.drop k).take (n+1))
theorem HM{k n:Nat}{r:List Int}(h:k+n+1<=r.length)(hz:val (r.drop (k+n+1))=0):val r=val (r.take k)+pw k*win k n r:=by
 have h1:=fS r k;have h2:=fS (r.drop k) (n+1);grind [aio,win]
theorem JV{k n:Nat}{r:List Int}(hl:Lim r)(h:k+n+1<=r.length):0<=win k n r/\win k n r<pw (n+1):=by
 have h1:=(hl.drop k).take (n+1);have h2:=b8 h1;rw[af3,agZ,af7 (by omega)]at h2;exact⟨aN h1,h2⟩
theorem ab1{v r:List Int}{k m:Nat}(hv:Lim v)(hvl:v.length=m+2)(hr:Lim r)(hk:k+m+3<=r.length)(htop:500000000<=v[m+1])(hlt:win k (m+2) r<val v*1000000000):
  Kn (win k (m+2) r) (val v) r[k+m+2] r[k+m+1] r[k+m] v[m+1] v[m]:=by
 have hwl:((r.drop k).take (m+2+1)).length=m+3:=by rw[af3,agZ];omega
 have h3:=LL hwl;have h2:=BT hvl;have hl1:=(hr.drop k).take (m+2+1);have g:∀j (hj:j<m+3),((r.drop k).take (m+2+1))[j]=r[k+j]:=λj hj=>by simp
 rw[g m (by omega),g (m+1) (by omega),g (m+2) (by omega)]at h3;have t1:=hl1.take m;have t2:=hv.take m;have b1:=b8 t1;have b2:=b8 t2;rw[af3,af7 (by omega)]at b1 b2;exact⟨⟨pw m,_,_,co m,aN t1,b1,aN t2,b2,h3,h2⟩,hr.get (by omega),hr.get (by omega),hr.get (by omega),⟨htop,(hv.get (by omega)).2⟩,hv.get (by omega),hlt⟩
end
section
theorem uG{r:List Int}{k i:Nat}(y:Int):(r.set (k+i) y).take k=r.take k:=List.take_set_of_le (by omega)
theorem uI{r:List Int}{k i n:Nat}(y:Int)(h:i<=n):(r.set (k+i) y).drop (k+n+1)=r.drop (k+n+1):=List.drop_set_of_lt (by omega)
section
variable (b:List Int) (x2:Int) (v:List Int) (m:Nat) (hN:(ag (val b).toNat).length=m+2) (hv:ag (val (dig ((ag (val b).toNat).length+([u32.wrap (u64.wrap (Int.tdiv 1000000000 (u64.wrap ((u64.wrap x2)+1))))]).length) (val (ag (val b).toNat)*val ([u32.wrap (u64.wrap (Int.tdiv 1000000000 (u64.wrap ((u64.wrap x2)+1))))])))).toNat=v) (lv:Lim v) (hvl:v.length=m+2)
include hN hv lv hvl
theorem NQ(k:Nat)(r0 r5:List Int)(g:Int)(hg:0<=g/\g<1000000000)(hk:k+(m+2)+1<=r0.length)(hsz:r0.length<=4000000000)(R:List RV)
  (hno:∀r,Lim r->r.length=r0.length->r.take k=r0.take k->r.drop (k+(m+2)+1)=r0.drop (k+(m+2)+1)->val r=val r0-pw k*(g*val v)->∃q,c9 b x2 (k:Int) r5 g g 0 0 ((m+2+1:Nat):Int) r (gk.k q)=some R)
  (hyes:∀r,Lim r->r.length=r0.length->r.take k=r0.take k->r.drop (k+(m+2)+1)=r0.drop (k+(m+2)+1)->val r=val r0-pw k*(g*val v)+pw (k+(m+2)+1)->∃q,c9 b x2 (k:Int) r5 g g 0 1 ((m+2+1:Nat):Int) r (gk.k q)=some R):
  ∀(j i:Nat) (c bo:Int) (r:List Int),i+j=m+2+1->0<=c->c<1000000000->(i=m+2+1->c=0)->0<=bo->bo<=1->Lim r->r.length=r0.length->r.take k=r0.take k->r.drop (k+(m+2)+1)=r0.drop (k+(m+2)+1)->
   val r=val r0-pw k*(g*val (v.take i))+pw (k+i)*(c+bo)->gk.Runs 8 (cO b x2 (k:Int) r5 g g c bo (i:Int) r) R:=by
 have e1:i64.wrap ((k:Int)+((m+2:Nat):Int))=((k+(m+2):Nat):Int):=by rw[aM (by omega) (by omega)];simp
 have e2:i64.wrap (((k+(m+2):Nat):Int)+1)=((k+(m+2)+1:Nat):Int):=bH (by omega);have e3:k+(m+2)+1-k=m+2+1:=by omega
 intro j;induction j with
 |zero=>
  intro i c bo r hi c0 c1 hc b0 b1 lr hl ht hd hval;obtain rfl:i=m+2+1:=by omega
  obtain rfl:=hc rfl;rw[agy (by omega)]at hval;refine fA _ _ _ _ _ _ _ _ _ _ ?_;rcases(show bo=0\/bo=1 by omega)with rfl|rfl
  ·exact hno r lr hl ht hd (by rw[hval];simp)
  ·exact hyes r lr hl ht hd (by rw[hval];simp;rfl)
 |succ j ih=>
  intro i c bo r hi c0 c1 hc b0 b1 lr hl ht hd hval;have hir:k+i<r.length:=by omega
  have xr:=lr.get hir;have hwi:decide ((0:Int)<=(i:Int)/\(i:Int)<((m+2+1:Nat):Int))=true:=afm (by omega);have hlt:decide ((i:Int)<((m+2+1:Nat):Int))=true:=afm (by omega);have hw:=hv
  have step:∀(c' y bo':Int),0<=c'->c'<1000000000->(i+1=m+2+1->c'=0)->0<=y->y<1000000000->0<=bo'->bo'<=1->y=r[k+i]-(val (v.take (i+1))-val (v.take i))/pw i*g-c+1000000000*c'-bo+1000000000*bo'->pw i*((val (v.take (i+1))-val (v.take i))/pw i)=val (v.take (i+1))-val (v.take i)->
    gk.Runs 8 (cO b x2 (k:Int) r5 g g c' bo' ((i+1:Nat):Int) (r.set (k+i) y)) R:=by
   intro c' y bo' k0 k1 kc y0 y1 k2 k3 hy hp;refine ih (i+1) c' bo' (r.set (k+i) y) (by omega) k0 k1 kc k2 k3 (lr.set _ ⟨y0,y1⟩) (by simpa using hl) (by rw[uG];exact ht) (by rw[uI _ (by omega)];exact hd) ?_;rw[eP hir,hval,hy,show k+(i+1)=k+i+1 by omega,ce,fe];generalize (val (v.take (i+1))-val (v.take i))/pw i=d at*
   have:val (v.take (i+1))=val (v.take i)+pw i*d:=by omega
   rw[this];grind
  by_cases hiv:i<m+2
  ·have hiv':i<v.length:=by omega
   have xv:=lv.get hiv'
   have hdv:(val (v.take (i+1))-val (v.take i))/pw i=v[i]:=by
    rw[aT hiv',show val (v.take i)+pw i*v[i]-val (v.take i)=pw i*v[i] by omega,ahB _ (by have:=co i;omega)]
   rw[hdv]at step;have hbd:=D8 (r:=0) (by decide) xv hg ⟨c0,c1⟩;have t0:0<=c+v[i]*g:=by omega
   have q0:0<=(c+v[i]*g)/1000000000/\(c+v[i]*g)/1000000000<1000000000:=by omega
   have hpv:pw i*v[i]=val (v.take (i+1))-val (v.take i):=by rw[aT hiv'];omega
   by_cases hc2:r[k+i]<(c+v[i]*g)%1000000000+bo
   ·obtain⟨q,hq⟩:=step ((c+v[i]*g)/1000000000) (r[k+i]+1000000000-((c+v[i]*g)%1000000000+bo)) 1 q0.1 q0.2 (by omega) (by omega) (by omega) (by omega) (by omega) (by omega) hpv;refine fA _ _ _ _ _ _ _ _ _ _ ⟨q,?_⟩;unfold c9;rw[hw,hN,e1,e2,aA,aA,e3,hlt,hwi,hvl,aY hiv,am v i,afn hiv',aA,afn hir];dsimp only
    rw[a8 (x:=v[i]) (by omega) (by omega),a8 (x:=v[i]*g) (by omega) (by omega),a8 (x:=c+v[i]*g) (by omega) (by omega),jl t0,gR t0,a8 (x:=(c+v[i]*g)/1000000000) (by omega) (by omega),a8 (x:=(c+v[i]*g)%1000000000+bo) (by omega) (by omega),a8 (x:=r[k+i]) (by omega) (by omega),afm hc2,
     a8 (x:=r[k+i]+1000000000) (by omega) (by omega),a8 (x:=r[k+i]+1000000000-((c+v[i]*g)%1000000000+bo)) (by omega) (by omega),cU (x:=r[k+i]+1000000000-((c+v[i]*g)%1000000000+bo)) (by omega) (by omega),bH (k:=i) (by omega)]
    exact hq
   ·obtain⟨q,hq⟩:=step ((c+v[i]*g)/1000000000) (r[k+i]-((c+v[i]*g)%1000000000+bo)) 0 q0.1 q0.2 (by omega) (by omega) (by omega) (by omega) (by omega) (by omega) hpv;refine fA _ _ _ _ _ _ _ _ _ _ ⟨q,?_⟩;unfold c9;rw[hw,hN,e1,e2,aA,aA,e3,hlt,hwi,hvl,aY hiv,am v i,afn hiv',aA,afn hir];dsimp only
    rw[a8 (x:=v[i]) (by omega) (by omega),a8 (x:=v[i]*g) (by omega) (by omega),a8 (x:=c+v[i]*g) (by omega) (by omega),jl t0,gR t0,a8 (x:=(c+v[i]*g)/1000000000) (by omega) (by omega),a8 (x:=(c+v[i]*g)%1000000000+bo) (by omega) (by omega),a8 (x:=r[k+i]) (by omega) (by omega),afo hc2,
     a8 (x:=r[k+i]-((c+v[i]*g)%1000000000+bo)) (by omega) (by omega),cU (x:=r[k+i]-((c+v[i]*g)%1000000000+bo)) (by omega) (by omega),bH (k:=i) (by omega)]
    exact hq
  ·have hpz:val (v.take (i+1))-val (v.take i)=0:=by rw[jV (by omega)];omega
   rw[hpz]at step;simp only[Int.zero_ediv,Int.zero_mul,ahY,Int.sub_zero,forall_const]at step;have m0:c%1000000000=c:=by omega
   have d0:c/1000000000=0:=by omega
   by_cases hc2:r[k+i]<c+bo
   ·obtain⟨q,hq⟩:=step 0 (r[k+i]+1000000000-(c+bo)) 1 (by omega) (by omega) (by omega) (by omega) (by omega) (by omega) (by omega) (by omega);refine fA _ _ _ _ _ _ _ _ _ _ ⟨q,?_⟩;unfold c9;rw[hw,hN,e1,e2,aA,aA,e3,hlt,hwi,hvl,bO (show m+2<=i by omega),aA,afn hir];dsimp only
    rw[jl c0,gR c0,m0,d0,a8 (x:=0) (by omega) (by omega),a8 (x:=c+bo) (by omega) (by omega),a8 (x:=r[k+i]) (by omega) (by omega),afm hc2,
     a8 (x:=r[k+i]+1000000000) (by omega) (by omega),a8 (x:=r[k+i]+1000000000-(c+bo)) (by omega) (by omega),cU (x:=r[k+i]+1000000000-(c+bo)) (by omega) (by omega),bH (k:=i) (by omega)]
    exact hq
   ·obtain⟨q,hq⟩:=step 0 (r[k+i]-(c+bo)) 0 (by omega) (by omega) (by omega) (by omega) (by omega) (by omega) (by omega) (by omega);refine fA _ _ _ _ _ _ _ _ _ _ ⟨q,?_⟩;unfold c9;rw[hw,hN,e1,e2,aA,aA,e3,hlt,hwi,hvl,bO (show m+2<=i by omega),aA,afn hir];dsimp only
    rw[jl c0,gR c0,m0,d0,a8 (x:=0) (by omega) (by omega),a8 (x:=c+bo) (by omega) (by omega),a8 (x:=r[k+i]) (by omega) (by omega),afo hc2,
     a8 (x:=r[k+i]-(c+bo)) (by omega) (by omega),cU (x:=r[k+i]-(c+bo)) (by omega) (by omega),bH (k:=i) (by omega)]
    exact hq
end
end
section
section
variable (b:List Int) (x2:Int) (v:List Int) (m:Nat) (hN:(ag (val b).toNat).length=m+2) (hv:ag (val (dig ((ag (val b).toNat).length+([u32.wrap (u64.wrap (Int.tdiv 1000000000 (u64.wrap ((u64.wrap x2)+1))))]).length) (val (ag (val b).toNat)*val ([u32.wrap (u64.wrap (Int.tdiv 1000000000 (u64.wrap ((u64.wrap x2)+1))))])))).toNat=v) (lv:Lim v) (hvl:v.length=m+2)
include hN hv lv hvl
theorem KP(k:Nat)(r0 r5:List Int)(f:Int)(hk:k+(m+2)+1<=r0.length)(hsz:r0.length<=4000000000)(R:List RV)
  (hend:∀r c,Lim r->r.length=r0.length->r.take k=r0.take k->r.drop (k+(m+2)+1)=r0.drop (k+(m+2)+1)->0<=c->c<=1->val r=val r0+pw k*val v-pw (k+(m+2)+1)*c->∃q,dX b x2 (k:Int) r5 f c ((m+2+1:Nat):Int) r (gk.k q)=some R):
  ∀(j i:Nat) (c:Int) (r:List Int),i+j=m+2+1->0<=c->c<=1->Lim r->r.length=r0.length->r.take k=r0.take k->r.drop (k+(m+2)+1)=r0.drop (k+(m+2)+1)->
   val r=val r0+pw k*val (v.take i)-pw (k+i)*c->gk.Runs 5 (dt b x2 (k:Int) r5 f c (i:Int) r) R:=by
 have e1:i64.wrap ((k:Int)+((m+2:Nat):Int))=((k+(m+2):Nat):Int):=by rw[aM (by omega) (by omega)];simp
 have e2:i64.wrap (((k+(m+2):Nat):Int)+1)=((k+(m+2)+1:Nat):Int):=bH (by omega);have e3:k+(m+2)+1-k=m+2+1:=by omega
 intro j;induction j with
 |zero=>
  intro i c r hi c0 c1 lr hl ht hd hval;obtain rfl:i=m+2+1:=by omega
  rw[agy (by omega)]at hval;refine fC _ _ _ _ _ _ _ _ ?_;exact hend r c lr hl ht hd c0 c1 hval
 |succ j ih=>
  intro i c r hi c0 c1 lr hl ht hd hval;have hir:k+i<r.length:=by omega
  have xr:=lr.get hir;have hwi:decide ((0:Int)<=(i:Int)/\(i:Int)<((m+2+1:Nat):Int))=true:=afm (by omega);have hlt:decide ((i:Int)<((m+2+1:Nat):Int))=true:=afm (by omega);have hw:=hv
  have step:∀(c' y d:Int),0<=c'->c'<=1->0<=y->y<1000000000->y=r[k+i]+c+d-1000000000*c'->val (v.take (i+1))=val (v.take i)+pw i*d->
    gk.Runs 5 (dt b x2 (k:Int) r5 f c' ((i+1:Nat):Int) (r.set (k+i) y)) R:=by
   intro c' y d k0 k1 y0 y1 hy hp;refine ih (i+1) c' (r.set (k+i) y) (by omega) k0 k1 (lr.set _ ⟨y0,y1⟩) (by simpa using hl) (by rw[uG];exact ht) (by rw[uI _ (by omega)];exact hd) ?_;rw[eP hir,hval,hy,hp,show k+(i+1)=k+i+1 by omega,ce,fe];grind
  by_cases hiv:i<m+2
  ·have hiv':i<v.length:=by omega
   have xv:=lv.get hiv';have hpv:=aT hiv';by_cases hc2:r[k+i]+c+v[i]>=1000000000
   ·obtain⟨q,hq⟩:=step 1 (r[k+i]+c+v[i]-1000000000) v[i] (by omega) (by omega) (by omega) (by omega) (by omega) hpv;refine fC _ _ _ _ _ _ _ _ ⟨q,?_⟩;unfold dX;rw[hw,hN,e1,e2,aA,aA,e3,hlt,hwi,hvl,aY hiv,am v i,afn hiv',aA,afn hir];dsimp only;rw[cU (x:=r[k+i]+c) (by omega) (by omega),cU (x:=r[k+i]+c+v[i]) (by omega) (by omega),afm hc2,cU (x:=r[k+i]+c+v[i]-1000000000) (by omega) (by omega),bH (k:=i) (by omega)];exact hq
   ·obtain⟨q,hq⟩:=step 0 (r[k+i]+c+v[i]) v[i] (by omega) (by omega) (by omega) (by omega) (by omega) hpv;refine fC _ _ _ _ _ _ _ _ ⟨q,?_⟩;unfold dX;rw[hw,hN,e1,e2,aA,aA,e3,hlt,hwi,hvl,aY hiv,am v i,afn hiv',aA,afn hir];dsimp only;rw[cU (x:=r[k+i]+c) (by omega) (by omega),cU (x:=r[k+i]+c+v[i]) (by omega) (by omega),afo hc2,bH (k:=i) (by omega)];exact hq
  ·have hpz:val (v.take (i+1))=val (v.take i)+pw i*0:=by rw[jV (by omega)];simp
   by_cases hc2:r[k+i]+c>=1000000000
   ·obtain⟨q,hq⟩:=step 1 (r[k+i]+c-1000000000) 0 (by omega) (by omega) (by omega) (by omega) (by omega) hpz;refine fC _ _ _ _ _ _ _ _ ⟨q,?_⟩;unfold dX;rw[hw,hN,e1,e2,aA,aA,e3,hlt,hwi,hvl,bO (show m+2<=i by omega),aA,afn hir];dsimp only;rw[cU (x:=r[k+i]+c) (by omega) (by omega),afm hc2,cU (x:=r[k+i]+c-1000000000) (by omega) (by omega),bH (k:=i) (by omega)];exact hq
   ·obtain⟨q,hq⟩:=step 0 (r[k+i]+c) 0 (by omega) (by omega) (by omega) (by omega) (by omega) hpz;refine fC _ _ _ _ _ _ _ _ ⟨q,?_⟩;unfold dX;rw[hw,hN,e1,e2,aA,aA,e3,hlt,hwi,hvl,bO (show m+2<=i by omega),aA,afn hir];dsimp only;rw[cU (x:=r[k+i]+c) (by omega) (by omega),afo hc2,bH (k:=i) (by omega)];exact hq
theorem ER(k:Nat)(r1 r5:List Int)(hk:k+m+3<=r1.length)(hsz:r1.length<=4000000000)(R:List RV)(K:Kn (win k (m+2) r1) (val v) r1[k+m+2] r1[k+m+1] r1[k+m] v[m+1] v[m])
  (hafter:∀g,0<=g->g<1000000000->win k (m+2) r1<(g+1)*val v->g*val v<win k (m+2) r1+val v->gk.Runs 8 (cO b x2 (k:Int) r5 g g 0 0 0 r1) R):
  ∀(fuel:Nat) (g rest:Int),g<=(fuel:Int)->0<=g->g<=2000000000->0<=rest->rest<1000000000->g*v[m+1]+rest=r1[k+m+2]*1000000000+r1[k+m+1]->win k (m+2) r1<(g+1)*val v->gk.Runs 49 (mR b x2 (k:Int) r1 r5 g rest) R:=by
 have _lv:=lv;have e1:i64.wrap ((k:Int)+((m+2:Nat):Int))=((k+m+2:Nat):Int):=by rw[aM (by omega) (by omega)];simp;omega
 have e2:i64.wrap (((k+m+2:Nat):Int)+1)=((k+m+3:Nat):Int):=by rw[aM (by omega) (by omega)];simp;omega
 have e3:i64.wrap (((m+2:Nat):Int)-1)=((m+1:Nat):Int):=by rw[aM (by omega) (by omega)];omega
 have e4:i64.wrap (((m+2:Nat):Int)-2)=((m:Nat):Int):=by rw[aM (by omega) (by omega)];omega
 have e5:i64.wrap (((k+m+2:Nat):Int)-2)=((k+m:Nat):Int):=by rw[aM (by omega) (by omega)];omega
 have hsl:decide ((0:Int)<=(k:Int)/\(k:Int)<=((k+m+3:Nat):Int)/\((k+m+3:Nat):Int)<=(r1.length:Int))=true:=afm (by omega);have hV:=K.pos;have htop:=K.top;have ku2:=K.u2;have ku1:=K.u1;have ku0:=K.u0;have kv1:=K.v1;have kv0:=K.v0;intro fuel;induction fuel with
 |zero=>
  intro g rest hf g0 gB r0 r1' he hlt;obtain rfl:g=0:=by omega
  obtain⟨q,hq⟩:=hafter 0 (by omega) (by omega) hlt (by have:=hlt;have:=K.small (g:=0) (rest:=rest) (by omega) (by omega) he (by omega);omega);refine o8 _ _ _ _ _ _ _ ⟨q,?_⟩;unfold mo;rw[afo (by omega),hv,hN,e1,e2,e4,e5,am v m,afn (by omega),am r1 (k+m),aA,afn (show k+m<r1.length by omega)];dsimp only;rw[a8 (x:=v[m]) (by omega) (by omega),Int.zero_mul,a8 (x:=0) (by omega) (by omega),a8 (x:=rest*1000000000) (by omega) (by omega),a8 (x:=r1[k+m]) (by omega) (by omega),a8 (x:=rest*1000000000+r1[k+m]) (by omega) (by omega),afo (by omega),hsl];exact hq
 |succ fuel ih=>
  intro g rest hf g0 gB rr0 rr1 he hlt
  have down:win k (m+2) r1<g*val v->∃q,(match decide (u64.wrap (rest+u64.wrap v[m+1])>=1000000000)with|true=>gk.k q 8 (cO b x2 (k:Int) r5 (u64.wrap (g-1)) (u64.wrap (g-1)) 0 0 0 r1)|false=>gk.k q 49 (mR b x2 (k:Int) r1 r5 (u64.wrap (g-1)) (u64.wrap (rest+u64.wrap v[m+1]))))=some R:=by
   intro hw
   have gp:1<=g:=by
    rcases afT 0 g with h|h
    ·exact h
    ·exfalso;have hg:g=0:=by omega
     subst hg;rw[Int.zero_mul]at hw;obtain⟨⟨P,wl,vl,p0,a1,a2,b1,b2,hw',hV'⟩,_⟩:=K;have:=agk (af0 p0) (show 0<=r1[k+m]+1000000000*r1[k+m+1]+1000000000*1000000000*r1[k+m+2] by omega);omega
   have he':(g-1)*v[m+1]+(rest+v[m+1])=r1[k+m+2]*1000000000+r1[k+m+1]:=by rw[<-he];grind
   have hw':win k (m+2) r1<(g-1+1)*val v:=by rw[show g-1+1=g by omega];exact hw
   rw[a8 (x:=v[m+1]) (by omega) (by omega),a8 (x:=rest+v[m+1]) (by omega) (by omega),a8 (x:=g-1) (by omega) (by omega)];by_cases hb:rest+v[m+1]>=1000000000
   ·have gl:g-1<1000000000:=by
     rcases afT (g-1) 1000000000 with h|h
     ·exact h
     ·exfalso;have e1:=afB h (show 0<=v[m+1] by omega);have e2:=afB htop (show(0:Int)<=1000000000 by decide);omega
    have e1:(g-1)*v[m]<=1000000000*1000000000:=ahw (by omega) (by omega) (by omega) (by decide);obtain⟨q,hq⟩:=hafter (g-1) (by omega) gl hw' (K.small (by omega) (by omega) he' (by omega));exact⟨q,by rw[afm hb];exact hq⟩
   ·obtain⟨q,hq⟩:=ih (g-1) (rest+v[m+1]) (by omega) (by omega) (by omega) (by omega) (by omega) he' hw';exact⟨q,by rw[afo hb];exact hq⟩
  by_cases hgB:g>=1000000000
  ·obtain⟨q,hq⟩:=down (by
    have h1:=K.lt;have:=afB hgB (af0 hV);rw[ahb]at h1;omega)
   refine o8 _ _ _ _ _ _ _ ⟨q,?_⟩;unfold mo;rw[afm hgB,hv,hN,e1,e2,e3,am v (m+1),afn (show m+1<v.length by omega),hsl];exact hq
  ·have hgv:g*v[m]<=1000000000*1000000000:=ahw (by omega) (by omega) (by omega) (by decide);have hgv0:0<=g*v[m]:=agk g0 (by omega);by_cases hc:g*v[m]>rest*1000000000+r1[k+m]
   ·obtain⟨q,hq⟩:=down (K.great g0 he hc);refine o8 _ _ _ _ _ _ _ ⟨q,?_⟩;unfold mo;rw[afo hgB,hv,hN,e1,e2,e3,e4,e5,am v m,afn (show m<v.length by omega),am v (m+1),afn (show m+1<v.length by omega),am r1 (k+m),aA,afn (show k+m<r1.length by omega),hsl];dsimp only;rw[a8 (x:=v[m]) (by omega) (by omega),a8 (x:=g*v[m]) (by omega) (by omega),a8 (x:=rest*1000000000) (by omega) (by omega),a8 (x:=r1[k+m]) (by omega) (by omega),a8 (x:=rest*1000000000+r1[k+m]) (by omega) (by omega),afm hc];exact hq
   ·obtain⟨q,hq⟩:=hafter g g0 (by omega) hlt (K.small g0 (by omega) he (by omega));refine o8 _ _ _ _ _ _ _ ⟨q,?_⟩;unfold mo;rw[afo hgB,hv,hN,e1,e2,e4,e5,am v m,afn (show m<v.length by omega),am r1 (k+m),aA,afn (show k+m<r1.length by omega),hsl];dsimp only;rw[a8 (x:=v[m]) (by omega) (by omega),a8 (x:=g*v[m]) (by omega) (by omega),a8 (x:=rest*1000000000) (by omega) (by omega),a8 (x:=r1[k+m]) (by omega) (by omega),a8 (x:=rest*1000000000+r1[k+m]) (by omega) (by omega),afo hc];exact hq
end
end
section
section
variable (b:List Int) (x2:Int) (v:List Int) (m:Nat) (hN:(ag (val b).toNat).length=m+2) (hv:ag (val (dig ((ag (val b).toNat).length+([u32.wrap (u64.wrap (Int.tdiv 1000000000 (u64.wrap ((u64.wrap x2)+1))))]).length) (val (ag (val b).toNat)*val ([u32.wrap (u64.wrap (Int.tdiv 1000000000 (u64.wrap ((u64.wrap x2)+1))))])))).toNat=v) (lv:Lim v) (hvl:v.length=m+2)
include hN hv lv hvl
set_option maxHeartbeats 2000000 in
theorem Pi(sc:Int)(hsc:u32.wrap (u64.wrap (Int.tdiv 1000000000 (u64.wrap ((u64.wrap x2)+1))))=sc)(hs1:1<=sc)(hs2:sc<=500000000)(htop:500000000<=v[m+1])(A:Int):
  ∀(M:Nat) (r5 r1:List Int),Lim r5->Lim r1->r1.length=r5.length+(m+2)->r1.length<=1000000000->M<=r5.length->val v*val r5+val r1=A->(∀j (hj:j<r5.length),j<M->r5[j]=0)->val r1<val v*pw M->
   ∃qL rL,(Lim qL/\Lim rL/\qL.length=r5.length/\rL.length<=m+2/\val qL=A/val v/\val rL=A%val v/sc)/\gk.Runs 34 (pI b x2 ((M:Int)-1) r5 r1) [.d aix qL,.d aix rL]:=by
 have hVlt:=b8 lv;rw[hvl]at hVlt
 have hV0:0<val v:=by
  rw[BT hvl];have h1:=aN (lv.take m);have h2:=lv.get (show m<v.length by omega);have h3:=Int.mul_pos (co m) (show 0<v[m]+1000000000*v[m+1] by omega);omega
 intro M;induction M with
 |zero=>
  intro r5 r1 l5 l1 hlen hsz hM hA hz hlt;rw[mK,ahX]at hlt;have h0:=aN l1;have eQ:A/val v=val r5:=by rw[<-hA,aig,aha _ _ (by omega),agz h0 hlt];omega
  have eR:A%val v=val r1:=by rw[<-hA,aig,ahr];exact ahA h0 hlt
  have ht:val (r1.take (m+2))=val r1:=by
   have hs:=fS r1 (m+2);rw[af7 (by omega)]at hs;have h2:=aN (l1.drop (m+2));have h3:=aN (l1.take (m+2));rcases afT 0 (val (r1.drop (m+2)))with hc|hc
   ·have:=afu (show 1<=val (r1.drop (m+2)) by omega) (af0 (co (m+2)));omega
   ·have e:val (r1.drop (m+2))=0:=by omega
    rw[e]at hs;omega
  have hlX:(ag (val r1).toNat).length<=m+2:=c7 (by omega);have hX:=aZ (val r1).toNat
  have hXv:val (ag (val r1).toNat)=val r1:=by omega
  have hd0:0<=val r1/sc:=agp h0 (by omega);have hd1:val r1/sc<=val r1:=ahg _ h0;have hXl:=b8 (cd (val r1).toNat);refine⟨r5,dig (ag (val r1).toNat).length (val r1/sc),⟨l5,mN _ _,rfl,by rw[iN];exact hlX,eQ.symm,by rw[eR,gY _ _ hd0 (by omega)]⟩,yv _ _ _ _ _ ⟨0,?_⟩⟩;unfold uC
  rw[afo (by omega),hN,hsc,aA,show(0:Int).toNat=0 from rfl,Nat.sub_zero,agQ,afm (show(0:Int)<=0/\(0:Int)<=((m+2:Nat):Int)/\((m+2:Nat):Int)<=(r1.length:Int) by omega),ht,hXv,
   afm (show aO (r1.take (m+2)) from⟨l1.take _,by rw[af3];omega⟩),afm (show Dw (ag (val r1).toNat) sc from⟨⟨cd _,by omega⟩,hs1,by omega⟩)]
 |succ k ih=>
  intro r5 r1 l5 l1 hlen hsz hM hA hz hlt;have hk3:k+(m+2)+1<=r1.length:=by omega
  have hP:=co k;have hr0:=aN l1
  have hz1:val (r1.drop (k+(m+2)+1))=0:=by
   have hs:=fS r1 (k+(m+2)+1);rw[af7 hk3]at hs;have h2:=aN (l1.drop (k+(m+2)+1));have h3:=aN (l1.take (k+(m+2)+1));rcases afT 0 (val (r1.drop (k+(m+2)+1)))with hc|hc
   ·exfalso;have e1:=afu (show 1<=val (r1.drop (k+(m+2)+1)) by omega) (af0 (co (k+(m+2)+1)));have e2:=afB (af0 hVlt) (af0 (co (k+1)));rw[<-fe,show m+2+(k+1)=k+(m+2)+1 by omega]at e2;omega
   ·omega
  have hw1:=HM hk3 hz1;have hwb:=JV l1 hk3
  have hwlt:win k (m+2) r1<val v*1000000000:=by
   rcases afT (win k (m+2) r1) (val v*1000000000)with hc|hc
   ·exact hc
   ·exfalso;have e1:=afu hc (af0 hP);have e2:=aN (l1.take k);have e3:val v*pw (k+1)=pw k*(val v*1000000000):=by rw[ce];grind
    omega
  have K:=ab1 lv hvl l1 (show k+m+3<=r1.length by omega) htop hwlt;have htk:=b8 (l1.take k);rw[af3,af7 (by omega)]at htk;have htk0:=aN (l1.take k);have hk5:k<r5.length:=by omega
  have hr5:=hz k hk5 (by omega);have e1:i64.wrap ((k:Int)+((m+2:Nat):Int))=((k+(m+2):Nat):Int):=by rw[aM (by omega) (by omega)];simp
  have e2:i64.wrap (((k+(m+2):Nat):Int)+1)=((k+(m+2)+1:Nat):Int):=bH (by omega);have e3:k+(m+2)+1-k=m+2+1:=by omega
  have fin:∀(d:Int) (r:List Int),0<=d->d<1000000000->Lim r->r.length=r1.length->r.take k=r1.take k->r.drop (k+(m+2)+1)=r1.drop (k+(m+2)+1)->val r=val r1-pw k*(d*val v)->win k (m+2) r1-d*val v<val v->
    ∃qL rL,(Lim qL/\Lim rL/\qL.length=r5.length/\rL.length<=m+2/\val qL=A/val v/\val rL=A%val v/sc)/\gk.Runs 34 (pI b x2 ((k:Int)-1) (r5.set k d) r) [.d aix qL,.d aix rL]:=by
   intro d r d0 d1 lr hl ht hd hval hwd
   obtain⟨qL,rL,⟨a1,a2,a3,a4,a5,a6⟩,a7⟩:=ih (r5.set k d) r (l5.set k ⟨d0,d1⟩) lr (by simp;omega) (by omega) (by simp;omega) (by
     rw[eP hk5,hr5,hval,<-hA];grind) (λj hj hjk=>by rw[agG (by omega)];exact hz j (by simpa using hj) (by omega)) (by
     rw[hval,hw1];have e4:=afu (show win k (m+2) r1-d*val v<=val v-1 by omega) (af0 hP);rw[Int.mul_sub,Int.mul_sub,ahX]at e4;rw[ahb (val v)];omega)
   exact⟨qL,rL,⟨a1,a2,by simpa using a3,a4,a5,a6⟩,a7⟩
  have wof:∀(r:List Int) (x:Int),Lim r->r.length=r1.length->r.take k=r1.take k->r.drop (k+(m+2)+1)=r1.drop (k+(m+2)+1)->val r=val r1+pw k*x->win k (m+2) r=win k (m+2) r1+x/\0<=win k (m+2) r/\win k (m+2) r<pw (m+2+1):=by
   intro r x lr hl ht hd hval;have h1:=HM (k:=k) (n:=m+2) (r:=r) (by omega) (by rw[hd];exact hz1);rw[ht]at h1;have h2:=JV (k:=k) (n:=m+2) lr (by omega);refine⟨?_,h2⟩;have:pw k*win k (m+2) r=pw k*(win k (m+2) r1+x):=by rw[ait];omega
   exact Int.eq_of_mul_eq_mul_left (by omega) this
  have hpw:pw (k+(m+2)+1)=pw k*pw (m+2+1):=by rw[<-fe];congr 1
  have xt:=K.u2;have xt1:=K.u1;have xv:=K.v1;have hg0:0<=(r1[k+m+2]*1000000000+r1[k+m+1])/v[m+1]:=agp (by omega) (by omega)
  have hg1:(r1[k+m+2]*1000000000+r1[k+m+1])/v[m+1]<2000000000:=agO (by omega) (by
   have:=afu xv.1 (show(0:Int)<=2000000000 by decide);omega)
  have md:=af8 (r1[k+m+2]*1000000000+r1[k+m+1]) v[m+1];have m0:=agu (r1[k+m+2]*1000000000+r1[k+m+1]) (show v[m+1]≠0 by omega);have m1:=af1 (r1[k+m+2]*1000000000+r1[k+m+1]) (show 0<v[m+1] by omega)
  have key:∃qL rL,(Lim qL/\Lim rL/\qL.length=r5.length/\rL.length<=m+2/\val qL=A/val v/\val rL=A%val v/sc)/\gk.Runs 49 (mR b x2 (k:Int) r1 r5 ((r1[k+m+2]*1000000000+r1[k+m+1])/v[m+1]) ((r1[k+m+2]*1000000000+r1[k+m+1])%v[m+1])) [.d aix qL,.d aix rL]:=by
   have hex:∃g,0<=g/\g<1000000000/\g*val v<=win k (m+2) r1/\win k (m+2) r1<(g+1)*val v:=by
    have h1:=af8 (win k (m+2) r1) (val v);have h2:=agu (win k (m+2) r1) (show val v≠0 by omega);have h3:=af1 (win k (m+2) r1) hV0;refine⟨win k (m+2) r1/val v,agp hwb.1 (by omega),agO hV0 (by rw[ahb];exact hwlt),?_,?_⟩
    ·rw[ahb];omega
    ·rw[Int.add_mul,aim,ahb];omega
   obtain⟨d,d0,d1,d2,d3⟩:=hex;have dv0:0<=d*val v:=agk d0 (by omega)
   have hrow:∃r,Lim r/\r.length=r1.length/\r.take k=r1.take k/\r.drop (k+(m+2)+1)=r1.drop (k+(m+2)+1)/\val r=val r1-pw k*(d*val v):=by
    refine⟨r1.take k++(dig (m+2+1) (win k (m+2) r1-d*val v)++r1.drop (k+(m+2)+1)),(l1.take k).append ((mN _ _).append (l1.drop _)),by simp[iN];omega,?_,?_,?_⟩
    ·rw[ahh (by simp;omega),ah9,Nat.min_self]
    ·rw[<-afG,List.drop_append_of_le_length (by simp[iN];omega),agh (by simp[iN];omega),ahP]
    ·rw[dh,dh,hz1,gY _ _ (by omega) (by omega),af3,af7 (by omega),hw1];grind
   obtain⟨rr,q1,q2,q3,q4,q5⟩:=hrow;obtain⟨qL,rL,hf,hrun⟩:=fin d rr d0 d1 q1 q2 q3 q4 q5 (by rw[Int.add_mul,aim]at d3;omega);refine⟨qL,rL,hf,ER b x2 v m hN hv lv hvl k r1 r5 (by omega) (by omega) _ K ?_ 2000000000 _ _ (by omega) hg0 (by omega) m0 (by omega) (by rw[ahb];omega) (K.first rfl)⟩;intro g g0 g1 hg2 hg3;have same:∀r,Lim r->r.length=r1.length->r.take k=r1.take k->r.drop (k+(m+2)+1)=r1.drop (k+(m+2)+1)->val r=val r1-pw k*(d*val v)->r=rr:=λr a1 a2 a3 a4 a5=>Ai a1 q1 (by omega) (by omega);refine NQ b x2 v m hN hv lv hvl k r1 r5 g ⟨g0,g1⟩ hk3 (by omega) _ ?_ ?_ (m+2+1) 0 0 0 r1 (by omega) (by omega) (by omega) (λ_=>rfl) (by omega) (by omega) l1 rfl rfl rfl (by simp[val])
   ·intro r a1 a2 a3 a4 a5;obtain⟨w1,w2,w3⟩:=wof r (-(g*val v)) a1 a2 a3 a4 (by rw[a5,ain];omega)
    have hgd:g=d:=by
     have h1:¬g<d:=λhc=>by
      have:=afB (show g+1<=d by omega) (af0 hV0);omega
     have h2:¬d<g:=λhc=>by
      have:=afB (show d+1<=g by omega) (af0 hV0);omega
     omega
    subst hgd;rw[same r a1 a2 a3 a4 a5];obtain⟨q,hq⟩:=hrun;refine⟨q,?_⟩;unfold c9;rw[hv,hN,e1,e2,aA,aA,e3,bO (afs _),afo (show ¬(0:Int)>0 by decide),am r5 k,afn hk5,cU (x:=g) (by omega) (by omega),aM (x:=(k:Int)-1) (by omega) (by omega)];exact hq
   ·intro r a1 a2 a3 a4 a5;obtain⟨w1,w2,w3⟩:=wof r (-(g*val v)+pw (m+2+1)) a1 a2 a3 a4 (by rw[a5,hpw,ait,ain];omega);have hwg:win k (m+2) r1<g*val v:=by omega
    have hgd:g=d+1:=by
     have h1:¬g<d+1:=λhc=>by
      have:=afB (show g<=d by omega) (af0 hV0);omega
     have h2:¬d+1<g:=λhc=>by
      have:=afB (show d+2<=g by omega) (af0 hV0);rw[Int.add_mul]at this d3;omega
     omega
    subst hgd
    have hres:gk.Runs 5 (dt b x2 (k:Int) r5 (d+1) 0 0 r) [.d aix qL,.d aix rL]:=by
     refine KP b x2 v m hN hv lv hvl k r r5 (d+1) (by omega) (by omega) _ ?_ (m+2+1) 0 0 r (by omega) (by omega) (by omega) a1 rfl rfl rfl (by simp[val]);intro r' c b1 b2 b3 b4 c0 c1 b5;obtain⟨u1,u2,u3⟩:=wof r' (-((d+1)*val v)+pw (m+2+1)+val v-pw (m+2+1)*c) b1 (by omega) (b3.trans a3) (b4.trans a4) (by rw[b5,a5,hpw,Int.mul_sub,ait,ait,ain];grind)
     have hc:c=1:=by
      rcases(show c=0\/c=1 by omega)with hc|hc
      ·exfalso;subst hc;rw[ahY,Int.sub_zero]at u1;rw[Int.add_mul,aim]at u1;omega
      ·exact hc
     subst hc;rw[same r' b1 (by omega) (b3.trans a3) (b4.trans a4) (by rw[b5,a5];grind)];obtain⟨q,hq⟩:=hrun;refine⟨q,?_⟩;unfold dX;rw[hN,e1,e2,aA,aA,e3,bO (afs _),am r5 k,afn hk5,show d+1-1=d by omega,a8 (x:=d) (by omega) (by omega),cU (x:=d) (by omega) (by omega),aM (x:=(k:Int)-1) (by omega) (by omega)];exact hq
    obtain⟨q,hq⟩:=hres;refine⟨q,?_⟩;unfold c9;rw[hv,hN,e1,e2,aA,aA,e3,bO (afs _),afm (show(1:Int)>0 by decide),afm (show(0:Int)<=(k:Int)/\(k:Int)<=((k+(m+2)+1:Nat):Int)/\((k+(m+2)+1:Nat):Int)<=(r.length:Int) by omega)];exact hq
  obtain⟨qL,rL,hf,q,hq⟩:=key;refine⟨qL,rL,hf,yv _ _ _ _ _ ⟨q,?_⟩⟩;have e4:i64.wrap (((k+(m+2):Nat):Int)-1)=((k+m+1:Nat):Int):=by rw[aM (by omega) (by omega)];omega
  have e5:i64.wrap (((m+2:Nat):Int)-1)=((m+1:Nat):Int):=by rw[aM (by omega) (by omega)];omega
  unfold uC;rw[show((k+1:Nat):Int)-1=(k:Int) by omega,afm (by omega),hv,hN,e1,e4,e5,am r1 (k+(m+2)),aA,afn (show k+(m+2)<r1.length by omega),am r1 (k+m+1),aA,afn (show k+m+1<r1.length by omega),am v (m+1),afn (show m+1<v.length by omega)];dsimp only;rw[a8 (x:=v[m+1]) (by omega) (by omega),afo (show ¬v[m+1]=0 by omega)];dsimp only;have e6:r1[k+(m+2)]=r1[k+m+2]:=rfl;rw[e6,a8 (x:=r1[k+m+2]) (by omega) (by omega),a8 (x:=r1[k+m+1]) (by omega) (by omega),a8 (x:=r1[k+m+2]*1000000000) (by omega) (by omega),a8 (x:=r1[k+m+2]*1000000000+r1[k+m+1]) (by omega) (by omega),gR (by omega),jl (by omega),a8 (x:=(r1[k+m+2]*1000000000+r1[k+m+1])/v[m+1]) (by omega) (by omega)];exact hq
end
end
end Go.Proofs.YtagbmoohboleaaaGreat
end
