/- integer: plus, minus, times, byWord. -/
import Derived.Test.YtagbmoohboleaaaGreatK6
noncomputable section
namespace Go.Proofs.YtagbmoohboleaaaGreat
open Go.RowKit Go.IntKind
theorem anp:type_of% @Int.mul_le_mul_of_nonneg_right:=@Int.mul_le_mul_of_nonneg_right
theorem anV:type_of% @Int.emod_lt_of_pos:=@Int.emod_lt_of_pos
theorem an1:type_of% @Int.mul_ediv_add_emod:=@Int.mul_ediv_add_emod
theorem an9:type_of% @Int.mul_nonneg:=@Int.mul_nonneg
theorem aoe:type_of% @Int.ediv_nonneg:=@Int.ediv_nonneg
theorem aoj:type_of% @Int.emod_nonneg:=@Int.emod_nonneg
theorem aor:type_of% @Int.one_mul:=@Int.one_mul
theorem aos:type_of% @Int.ediv_eq_zero_of_lt:=@Int.ediv_eq_zero_of_lt
theorem aoy:type_of% @List.getElem_set_ne:=@List.getElem_set_ne
theorem aoF:type_of% @Int.ediv_lt_of_lt_mul:=@Int.ediv_lt_of_lt_mul
theorem aoX:type_of% @Int.add_mul_ediv_left:=@Int.add_mul_ediv_left
theorem aoY:type_of% @Int.mul_comm:=@Int.mul_comm
theorem ao3:type_of% @Int.ediv_le_self:=@Int.ediv_le_self
theorem ape:type_of% @Int.add_mul_emod_self_left:=@Int.add_mul_emod_self_left
theorem apk:type_of% @Int.mul_le_mul:=@Int.mul_le_mul
theorem apo:type_of% @Int.emod_eq_of_lt:=@Int.emod_eq_of_lt
theorem app:type_of% @Int.mul_ediv_cancel_left:=@Int.mul_ediv_cancel_left
theorem apt:type_of% @Int.mul_zero:=@Int.mul_zero
theorem apz:type_of% @List.length_drop:=@List.length_drop
theorem ap6:type_of% @Int.mul_neg:=@Int.mul_neg
theorem ap9:type_of% @Int.add_comm:=@Int.add_comm
theorem aqa:type_of% @Int.zero_mul:=@Int.zero_mul
theorem aqp:type_of% @Int.add_zero:=@Int.add_zero
def ac2:NT:=[((288,16),{keep:=[1,5,6,20,21,22],hl:=1})]
def D8:Ctx:=CX [] ac2
def k9(s1 s20:List Int)(s21 s6 s22:Int)(r0:List Int):Cfg:=⟨288,[.blk 0,.seq 45],[(1,.d aqv s1),(5,.own 0),(6,.d aqx s6),(20,.d aqv s20),(21,SI s21),(22,SI s22)],[.row 200 aqx r0],0,[]⟩
def ON(a b:List Int)(k:KT):OLR:=match decide ((a.length:Int)<(b.length:Int))with|true=>(og (decide ((0:Int)=0/\(0:Int)<=i64.wrap ((b.length:Int)+1)/\(i64.wrap ((b.length:Int)+1))*((4:Nat):Int)<=140737488355328/\i64.wrap ((b.length:Int)+1)<=140737488355328)) (k 16 (k9 a b (b.length:Int) 0 0 ([]:List Int))))|false=>(og (decide ((0:Int)=0/\(0:Int)<=i64.wrap ((a.length:Int)+1)/\(i64.wrap ((a.length:Int)+1))*((4:Nat):Int)<=140737488355328/\i64.wrap ((a.length:Int)+1)<=140737488355328)) (k 16 (k9 b a (a.length:Int) 0 0 ([]:List Int))))
theorem aaq(a b:List Int):RS D8 288 [.d aqv a,.d aqv b] (ON a b):=rsX
def lC(s1 s20:List Int)(s21 s6 s22:Int)(r0:List Int)(k:KT):OLR:=match decide (s22<s21)with|true=>(match aS s20 s22 with|some x1=>(match decide (s22<(s1.length:Int))with|true=>(match aS s1 s22 with|some x2=>(match decide ((u32.wrap ((u32.wrap (x1+s6))+x2))>=1000000000)with|true=>(og (decide ((r0.length+([u32.wrap ((u32.wrap ((u32.wrap (x1+s6))+x2))-1000000000)]).length)*4<=140737488355328/\r0.length+([u32.wrap ((u32.wrap ((u32.wrap (x1+s6))+x2))-1000000000)]).length<=140737488355328)) (k 16 (k9 s1 s20 s21 1 (i64.wrap (s22+1)) (r0++([u32.wrap ((u32.wrap ((u32.wrap (x1+s6))+x2))-1000000000)])))))|false=>(og (decide ((r0.length+([u32.wrap ((u32.wrap (x1+s6))+x2)]).length)*4<=140737488355328/\r0.length+([u32.wrap ((u32.wrap (x1+s6))+x2)]).length<=140737488355328)) (k 16 (k9 s1 s20 s21 0 (i64.wrap (s22+1)) (r0++([u32.wrap ((u32.wrap (x1+s6))+x2)]))))))|none=>none)|false=>(match decide ((u32.wrap (x1+s6))>=1000000000)with|true=>(og (decide ((r0.length+([u32.wrap ((u32.wrap (x1+s6))-1000000000)]).length)*4<=140737488355328/\r0.length+([u32.wrap ((u32.wrap (x1+s6))-1000000000)]).length<=140737488355328)) (k 16 (k9 s1 s20 s21 1 (i64.wrap (s22+1)) (r0++([u32.wrap ((u32.wrap (x1+s6))-1000000000)])))))|false=>(og (decide ((r0.length+([u32.wrap (x1+s6)]).length)*4<=140737488355328/\r0.length+([u32.wrap (x1+s6)]).length<=140737488355328)) (k 16 (k9 s1 s20 s21 0 (i64.wrap (s22+1)) (r0++([u32.wrap (x1+s6)])))))))|none=>none)|false=>(og (decide ((r0.length+([s6]).length)*4<=140737488355328/\r0.length+([s6]).length<=140737488355328)) (some [RV.new 200 aqx (r0++([s6]))]))
theorem n9(s1 s20:List Int)(s21 s6 s22:Int)(r0:List Int):RN D8 16 (k9 s1 s20 s21 s6 s22 r0) (lC s1 s20 s21 s6 s22 r0):=rnX
def adT:NT:=[((289,10),{keep:=[1,5,6,13,14,15],hl:=1})]
def Fw:Ctx:=CX [] adT
def mR(a b:List Int)(s6 s15:Int)(r0:List Int):Cfg:=⟨289,[.blk 0,.seq 39],[(1,.d aqv b),(5,.own 0),(6,.d aqx s6),(13,.d aqv a),(14,SI (a.length:Int)),(15,SI s15)],[.row 200 aqx r0],0,[]⟩
def Zh(a b:List Int)(k:KT):OLR:=og (decide ((0:Int)<=(a.length:Int)/\(a.length:Int)*((4:Nat):Int)<=140737488355328/\(a.length:Int)<=140737488355328)) (k 10 (mR a b 0 0 (List.replicate ((a.length:Int)).toNat (0:Int))))
theorem af0(a b:List Int):RS Fw 289 [.d aqv a,.d aqv b] (Zh a b):=rsX
def lH(a b:List Int)(s6 s15:Int)(r0:List Int)(k:KT):OLR:=match decide (s15<(a.length:Int))with|true=>(match aS a s15 with|some x1=>(match decide (s15<(b.length:Int))with|true=>(match aS b s15 with|some x2=>(match decide (x1<(u32.wrap (s6+x2)))with|true=>(match aS r0 s15 with|some _=>(match true,r0[(s15).toNat]? with|true,some _=>k 10 (mR a b 1 (i64.wrap (s15+1)) (r0.set ((s15).toNat) (u32.wrap ((u32.wrap (x1+1000000000))-(u32.wrap (s6+x2))))))|_,_=>none)|none=>none)|false=>(match aS r0 s15 with|some _=>(match true,r0[(s15).toNat]? with|true,some _=>k 10 (mR a b 0 (i64.wrap (s15+1)) (r0.set ((s15).toNat) (u32.wrap (x1-(u32.wrap (s6+x2))))))|_,_=>none)|none=>none))|none=>none)|false=>(match decide (x1<s6)with|true=>(match aS r0 s15 with|some _=>(match true,r0[(s15).toNat]? with|true,some _=>k 10 (mR a b 1 (i64.wrap (s15+1)) (r0.set ((s15).toNat) (u32.wrap ((u32.wrap (x1+1000000000))-s6))))|_,_=>none)|none=>none)|false=>(match aS r0 s15 with|some _=>(match true,r0[(s15).toNat]? with|true,some _=>k 10 (mR a b 0 (i64.wrap (s15+1)) (r0.set ((s15).toNat) (u32.wrap (x1-s6))))|_,_=>none)|none=>none)))|none=>none)|false=>some [RV.new 200 aqx r0]
theorem oa(a b:List Int)(s6 s15:Int)(r0:List Int):RN Fw 10 (mR a b s6 s15 r0) (lH a b s6 s15 r0):=rnX
def abT:NT:=[((249,8),{keep:=[1,5,18,19,20],hl:=1}),((249,25),{keep:=[1,5,6,7,8,18,19,20,25,26,27],hl:=1})]
def zi:Ctx:=CX [] abT
def zT(a b:List Int)(s20:Int)(r0:List Int):Cfg:=⟨249,[.blk 0,.seq 42],[(1,.d aqv b),(5,.own 0),(18,.d aqv a),(19,SI (a.length:Int)),(20,SI s20)],[.row 200 aqx r0],0,[]⟩
def xM(a b:List Int)(s20 x1 s8 s27:Int)(r0:List Int):Cfg:=⟨249,[.blk 2,.seq 40,.blk 1,.seq 41,.lp 8,.blk 0,.seq 42],[(1,.d aqv b),(5,.own 0),(6,SI s20),(7,.d aqx x1),(8,.d (.int .u64) s8),(18,.d aqv a),(19,SI (a.length:Int)),(20,SI s20),(25,.d aqv b),(26,SI (b.length:Int)),(27,SI s27)],[.row 200 aqx r0],0,[]⟩
def YJ(a b:List Int)(k:KT):OLR:=og (decide ((0:Int)<=i64.wrap ((a.length:Int)+(b.length:Int))/\(i64.wrap ((a.length:Int)+(b.length:Int)))*((4:Nat):Int)<=140737488355328/\i64.wrap ((a.length:Int)+(b.length:Int))<=140737488355328)) (k 8 (zT a b 0 (List.replicate (i64.wrap ((a.length:Int)+(b.length:Int))).toNat (0:Int))))
theorem ags(a b:List Int):RS zi 249 [.d aqv a,.d aqv b] (YJ a b):=rsX
def zM(a b:List Int)(s20:Int)(r0:List Int)(k:KT):OLR:=match decide (s20<(a.length:Int))with|true=>(match aS a s20 with|some x1=>k 25 (xM a b s20 x1 0 0 r0)|none=>none)|false=>some [RV.new 200 aqx r0]
theorem F8(a b:List Int)(s20:Int)(r0:List Int):RN zi 8 (zT a b s20 r0) (zM a b s20 r0):=rnX
def vY(a b:List Int)(s20 x1 s8 s27:Int)(r0:List Int)(k:KT):OLR:=match decide (s27<(b.length:Int))with|true=>(match aS b s27 with|some x2=>(match aS r0 (i64.wrap (s20+s27))with|some _=>(match true,r0[(i64.wrap (s20+s27)).toNat]? with|true,some x3=>(match aS r0 (i64.wrap (s20+s27))with|some _=>(match true,r0[(i64.wrap (s20+s27)).toNat]? with|true,some _=>k 25 (xM a b s20 x1 (u64.wrap (Int.tdiv (u64.wrap ((u64.wrap ((u64.wrap x3)+(u64.wrap ((u64.wrap x1)*(u64.wrap x2)))))+s8)) 1000000000)) (i64.wrap (s27+1)) (r0.set ((i64.wrap (s20+s27)).toNat) (u32.wrap (Int.tmod (u64.wrap ((u64.wrap ((u64.wrap x3)+(u64.wrap ((u64.wrap x1)*(u64.wrap x2)))))+s8)) 1000000000))))|_,_=>none)|none=>none)|_,_=>none)|none=>none)|none=>none)|false=>(match aS r0 (i64.wrap (s20+(b.length:Int)))with|some _=>(match true,r0[(i64.wrap (s20+(b.length:Int))).toNat]? with|true,some _=>k 8 (zT a b (i64.wrap (s20+1)) (r0.set ((i64.wrap (s20+(b.length:Int))).toNat) (u32.wrap s8)))|_,_=>none)|none=>none)
theorem AL(a b:List Int)(s20 x1 s8 s27:Int)(r0:List Int):RN zi 25 (xM a b s20 x1 s8 s27 r0) (vY a b s20 x1 s8 s27 r0):=rnX
def ae3:NT:=[((322,10),{keep:=[0,1,6,7,8],hl:=1})]
def JY:Ctx:=CX [] ae3
def xu(a:List Int)(b s7 s8:Int)(r0:List Int):Cfg:=⟨322,[.blk 0,.seq 23],[(0,.d aqv a),(1,.d aqx b),(6,.own 0),(7,.d (.int .u64) s7),(8,SI s8)],[.row 200 aqx r0],0,[]⟩
def Yf(a:List Int)(b:Int)(k:KT):OLR:=og (decide ((0:Int)<=(a.length:Int)/\(a.length:Int)*((4:Nat):Int)<=140737488355328/\(a.length:Int)<=140737488355328)) (k 10 (xu a b 0 (i64.wrap ((a.length:Int)-1)) (List.replicate ((a.length:Int)).toNat (0:Int))))
theorem ajY(a:List Int)(b:Int):RS JY 322 [.d aqv a,.d aqx b] (Yf a b):=rsX
def vW(a:List Int)(b s7 s8:Int)(r0:List Int)(k:KT):OLR:=match decide (s8>=0)with|true=>(match aS a s8 with|some x1=>(match decide (u64.wrap b=(0:Int))with|true=>none|false=>(match decide (u64.wrap b=(0:Int))with|true=>none|false=>(match aS r0 s8 with|some _=>(match true,r0[(s8).toNat]? with|true,some _=>k 10 (xu a b (Int.tmod (u64.wrap ((u64.wrap (s7*1000000000))+(u64.wrap x1))) (u64.wrap b)) (i64.wrap (s8-1)) (r0.set ((s8).toNat) (u32.wrap (u64.wrap (Int.tdiv (u64.wrap ((u64.wrap (s7*1000000000))+(u64.wrap x1))) (u64.wrap b))))))|_,_=>none)|none=>none)))|none=>none)|false=>some [RV.d aqv r0,RV.d aqv ([u32.wrap s7])]
theorem BT(a:List Int)(b s7 s8:Int)(r0:List Int):RN JY 10 (xu a b s7 s8 r0) (vW a b s7 s8 r0):=rnX
theorem lA{b:List Int}{i:Nat}(h:b.length<=i):b.take (i+1)=b.take i:=by grind [aog]
theorem vw{n:Nat}(h:n<=4000000000):decide ((0:Int)<=(n:Int)/\(n:Int)*((4:Nat):Int)<=140737488355328/\(n:Int)<=140737488355328)=true:=by grind
theorem OK{m:Nat}(h:m<=4000000000):decide ((m+1)*4<=140737488355328/\m+1<=140737488355328)=true:=by grind
theorem FH(a b:List Int)(ha:aU a)(hb:aU b)(hab:b.length<=a.length):∀(j i:Nat) (c:Int) (r:List Int),i+j=a.length->0<=c->c<=1->Lim r->r.length=i->val r+pw i*c=val (a.take i)+val (b.take i)->
  D8.Runs 16 (k9 b a (a.length:Int) c (i:Int) r) [.new 200 aqx (dig (a.length+1) (val a+val b))]:=by
 have hsa:=ha.2;intro j;induction j with
 |zero=>
  intro i c r hi c0 c1 hr hl hv;obtain rfl:i=a.length:=by omega
  refine n9 _ _ _ _ _ _ ⟨0,?_⟩;unfold lC;rw[b8 (ani _)];simp only[anC];rw[OK (by omega)]
  have e:r++[c]=dig (a.length+1) (val a+val b):=by
   refine D0 (hr.append (Lim.cons ⟨c0,by omega⟩ Lim.nil)) (by simp[hl]) ?_;rw[dO,hl];rw[aov,aog hab]at hv;simp only[val,apt,aqp];omega
  rw[e]
 |succ j ih=>
  intro i c r hi c0 c1 hr hl hv;have hia:i<a.length:=by omega
  have xa:=ha.1.get hia;have hp:=cB i
  have step:∀(y c':Int),0<=y->y<1000000000->0<=c'->c'<=1->val (b.take (i+1))=val (b.take i)+pw i*(y+1000000000*c'-a[i]-c)->D8.Runs 16 (k9 b a (a.length:Int) c' ((i+1:Nat):Int) (r++[y])) [.new 200 aqx (dig (a.length+1) (val a+val b))]:=by
   intro y c' y0 y1 k0 k1 hb';refine ih (i+1) c' (r++[y]) (by omega) k0 k1 (hr.append (Lim.cons ⟨y0,y1⟩ Lim.nil)) (by simp[hl]) ?_;rw[dO,hl,a8 hia,hb',ce];simp only[val];grind
  by_cases hib:i<b.length
  ·have xb:=hb.1.get hib;have ht:=a8 hib;by_cases hc:a[i]+c+b[i]>=1000000000
   ·obtain⟨q,hq⟩:=step (a[i]+c+b[i]-1000000000) 1 (by omega) (by omega) (by omega) (by omega) (by rw[ht];grind);refine n9 _ _ _ _ _ _ ⟨q,?_⟩;unfold lC;rw[bH hia,aq,anc hia,bH hib,aq,anc hib];dsimp only;rw[dh (x:=a[i]+c) (by omega) (by omega),dh (x:=a[i]+c+b[i]) (by omega) (by omega),anb hc,dh (x:=a[i]+c+b[i]-1000000000) (by omega) (by omega),bW (by omega)];simp only[anC];rw[OK (by omega)];exact hq
   ·obtain⟨q,hq⟩:=step (a[i]+c+b[i]) 0 (by omega) (by omega) (by omega) (by omega) (by rw[ht];grind);refine n9 _ _ _ _ _ _ ⟨q,?_⟩;unfold lC;rw[bH hia,aq,anc hia,bH hib,aq,anc hib];dsimp only;rw[dh (x:=a[i]+c) (by omega) (by omega),dh (x:=a[i]+c+b[i]) (by omega) (by omega),ane hc,bW (by omega)];simp only[anC];rw[OK (by omega)];exact hq
  ·have ht:=lA (b:=b) (i:=i) (by omega);by_cases hc:a[i]+c>=1000000000
   ·obtain⟨q,hq⟩:=step (a[i]+c-1000000000) 1 (by omega) (by omega) (by omega) (by omega) (by rw[ht];grind);refine n9 _ _ _ _ _ _ ⟨q,?_⟩;unfold lC;rw[bH hia,aq,anc hia,b8 (show b.length<=i by omega)];dsimp only;rw[dh (x:=a[i]+c) (by omega) (by omega),anb hc,dh (x:=a[i]+c-1000000000) (by omega) (by omega),bW (by omega)];simp only[anC];rw[OK (by omega)];exact hq
   ·obtain⟨q,hq⟩:=step (a[i]+c) 0 (by omega) (by omega) (by omega) (by omega) (by rw[ht];grind);refine n9 _ _ _ _ _ _ ⟨q,?_⟩;unfold lC;rw[bH hia,aq,anc hia,b8 (show b.length<=i by omega)];dsimp only;rw[dh (x:=a[i]+c) (by omega) (by omega),ane hc,bW (by omega)];simp only[anC];rw[OK (by omega)];exact hq
theorem Xa(a b:List Int)(h:aU a/\aU b):CQq7 288 [.d aqv a,.d aqv b] [.new 200 aqx (dig (max a.length b.length+1) (val a+val b))]:=by
 refine gJ (E:=[]) trivial (show D8.Res _ _ _ from ?_);obtain⟨ha,hb⟩:=h;have hsa:=ha.2;have hsb:=hb.2
 have mk:∀n:Nat,n<=1000000000->decide ((0:Int)=0/\(0:Int)<=i64.wrap ((n:Int)+1)/\i64.wrap ((n:Int)+1)*((4:Nat):Int)<=140737488355328/\i64.wrap ((n:Int)+1)<=140737488355328)=true:=λn hn=>by
  rw[bW (by omega)];exact anb ⟨rfl,by omega,by omega,by omega⟩
 by_cases hc:a.length<b.length
 ·obtain⟨q,hq⟩:=FH b a hb ha (by omega) b.length 0 0 [] (by omega) (by omega) (by omega) Lim.nil rfl (by simp[val]);refine aaq _ _ ⟨q,?_⟩;unfold ON;rw[bH hc,mk _ hsb,Nat.max_eq_right (by omega),ap9 (val a)];exact hq
 ·obtain⟨q,hq⟩:=FH a b ha hb (by omega) a.length 0 0 [] (by omega) (by omega) (by omega) Lim.nil rfl (by simp[val]);refine aaq _ _ ⟨q,?_⟩;unfold ON;rw[b8 (by omega),mk _ hsa,Nat.max_eq_left (by omega)];exact hq
theorem qx{r:List Int}{i:Nat}{y:Int}(hz:∀j (hj:j<r.length),i<=j->r[j]=0):∀j (hj:j<(r.set i y).length),i+1<=j->(r.set i y)[j]=0:=λj hj hk=>by
 rw[aoy (by omega)];exact hz j (by simpa using hj) (by omega)
theorem OY(a b:List Int)(ha:aU a)(hb:aU b)(hle:val b<=val a)(_hab:b.length<=a.length\/True):∀(j i:Nat) (c:Int) (r:List Int),i+j=a.length->0<=c->c<=1->Lim r->r.length=a.length->(∀k (hk:k<r.length),i<=k->r[k]=0)->val r+val (b.take i)=val (a.take i)+pw i*c->
  Fw.Runs 10 (mR a b c (i:Int) r) [.new 200 aqx (dig a.length (val a-val b))]:=by
 have hsa:=ha.2;intro j;induction j with
 |zero=>
  intro i c r hi c0 c1 hr hl hz hv;obtain rfl:i=a.length:=by omega
  refine oa _ _ _ _ _ ⟨0,?_⟩;unfold lH;rw[b8 (ani _)];have hrl:=b9 hr;rw[hl]at hrl;have hb2:val b=val (b.take a.length)+pw (min a.length b.length)*val (b.drop a.length):=ib b a.length;have hbd:0<=val (b.drop a.length):=aT (hb.1.drop _);have hal:=b9 ha.1;have hbt:=aT (hb.1.take a.length);rw[aov]at hv
  have hz0:val (b.drop a.length)=0:=by
   rcases anT a.length b.length with h1|h1
   ·rw[an0 (by omega)]at hb2;rcases anL 0 (val (b.drop a.length))with h2|h2
    ·have hp:=cB a.length;have:=ank (show 1<=val (b.drop a.length) by omega) (anU hp);omega
    ·omega
   ·rw[an7 h1];rfl
  rw[hz0,apt,aqp]at hb2
  have hc0:c=0:=by
   have hp:=cB a.length;rcases(show c=0\/c=1 by omega)with h|h
   ·exact h
   ·subst h;rw[apw]at hv;omega
  subst hc0;rw[apt]at hv;rw[<-D0 hr hl (show val r=val a-val b by omega)]
 |succ j ih=>
  intro i c r hi c0 c1 hr hl hz hv;have hia:i<a.length:=by omega
  have hir:i<r.length:=by omega
  have xa:=ha.1.get hia;have hr0:=hz i hir (ani _)
  have step:∀(y c':Int),0<=y->y<1000000000->0<=c'->c'<=1->val (b.take (i+1))=val (b.take i)+pw i*(a[i]+1000000000*c'-y-c)->Fw.Runs 10 (mR a b c' ((i+1:Nat):Int) (r.set i y)) [.new 200 aqx (dig a.length (val a-val b))]:=by
   intro y c' y0 y1 k0 k1 hb';refine ih (i+1) c' (r.set i y) (by omega) k0 k1 (hr.set i ⟨y0,y1⟩) (by simpa using hl) (qx hz) ?_;rw[fY hir,hr0,a8 hia,hb',ce];grind
  by_cases hib:i<b.length
  ·have xb:=hb.1.get hib;have ht:=a8 hib;by_cases hc:a[i]<c+b[i]
   ·obtain⟨q,hq⟩:=step (a[i]+1000000000-(c+b[i])) 1 (by omega) (by omega) (by omega) (by omega) (by rw[ht];grind);refine oa _ _ _ _ _ ⟨q,?_⟩;unfold lH;rw[bH hia,aq,anc hia,bH hib,aq,anc hib,aq,aE,anc hir];dsimp only;rw[dh (x:=c+b[i]) (by omega) (by omega),anb hc,dh (x:=a[i]+1000000000) (by omega) (by omega),dh (x:=a[i]+1000000000-(c+b[i])) (by omega) (by omega),bW (by omega)];exact hq
   ·obtain⟨q,hq⟩:=step (a[i]-(c+b[i])) 0 (by omega) (by omega) (by omega) (by omega) (by rw[ht];grind);refine oa _ _ _ _ _ ⟨q,?_⟩;unfold lH;rw[bH hia,aq,anc hia,bH hib,aq,anc hib,aq,aE,anc hir];dsimp only;rw[dh (x:=c+b[i]) (by omega) (by omega),ane hc,dh (x:=a[i]-(c+b[i])) (by omega) (by omega),bW (by omega)];exact hq
  ·have ht:=lA (b:=b) (i:=i) (by omega);by_cases hc:a[i]<c
   ·obtain⟨q,hq⟩:=step (a[i]+1000000000-c) 1 (by omega) (by omega) (by omega) (by omega) (by rw[ht];grind);refine oa _ _ _ _ _ ⟨q,?_⟩;unfold lH;rw[bH hia,aq,anc hia,b8 (show b.length<=i by omega),aq r i,aE,anc hir];dsimp only;rw[anb hc,dh (x:=a[i]+1000000000) (by omega) (by omega),dh (x:=a[i]+1000000000-c) (by omega) (by omega),bW (by omega)];exact hq
   ·obtain⟨q,hq⟩:=step (a[i]-c) 0 (by omega) (by omega) (by omega) (by omega) (by rw[ht];grind);refine oa _ _ _ _ _ ⟨q,?_⟩;unfold lH;rw[bH hia,aq,anc hia,b8 (show b.length<=i by omega),aq r i,aE,anc hir];dsimp only;rw[ane hc,dh (x:=a[i]-c) (by omega) (by omega),bW (by omega)];exact hq
def ql(a b:List Int):Prop:=aU a/\aU b/\val b<=val a
instance (a b:List Int):Decidable (ql a b):=by unfold ql;infer_instance
theorem Uz(a b:List Int)(h:ql a b):CQq7 289 [.d aqv a,.d aqv b] [.new 200 aqx (dig a.length (val a-val b))]:=by
 refine gJ (E:=[]) trivial (show Fw.Res _ _ _ from ?_);obtain⟨ha,hb,hle⟩:=h;have hsa:=ha.2;obtain⟨q,hq⟩:=OY a b ha hb hle (.inr trivial) a.length 0 0 (List.replicate a.length 0) (by omega) (by omega) (by omega) (Lim.rep _) (by simp) (λk hk _=>by simp) (by simp[val,iK]);refine af0 _ _ ⟨q,?_⟩;unfold Zh;rw[vw (by omega),aE];exact hq
theorem H5{r x y c:Int}(hr:0<=r/\r<1000000000)(hx:0<=x/\x<1000000000)(hy:0<=y/\y<1000000000)(hc:0<=c/\c<1000000000):0<=x*y/\x*y<=999999998000000001/\0<=(r+x*y+c)/1000000000/\(r+x*y+c)/1000000000<1000000000:=by
 have h1:0<=x*y:=an9 hx.1 hy.1;have h2:x*y<=999999999*999999999:=apk (by omega) (by omega) hy.1 (by decide);omega
theorem Mk(a b:List Int)(ha:aU a)(hb:aU b)(i:Nat)(hi:i<a.length)
  (hout:∀r,Lim r->r.length=a.length+b.length->(∀k (hk:k<r.length),i+1+b.length<=k->r[k]=0)->val r=val (a.take (i+1))*val b->zi.Runs 8 (zT a b ((i+1:Nat):Int) r) [.new 200 aqx (dig (a.length+b.length) (val a*val b))]):
  ∀(j k:Nat) (c:Int) (r:List Int),k+j=b.length->0<=c->c<1000000000->Lim r->r.length=a.length+b.length->(∀q (hq:q<r.length),i+b.length<=q->r[q]=0)->val r+pw (i+k)*c=val (a.take i)*val b+pw i*a[i]*val (b.take k)->
  zi.Runs 25 (xM a b (i:Int) a[i] c (k:Int) r) [.new 200 aqx (dig (a.length+b.length) (val a*val b))]:=by
 have hsa:=ha.2;have hsb:=hb.2;have xa:=ha.1.get hi;intro j;induction j with
 |zero=>
  intro k c r hk c0 c1 hr hl hz hv;obtain rfl:k=b.length:=by omega
  have hir:i+b.length<r.length:=by omega
  have hr0:=hz _ hir (ani _)
  obtain⟨q,hq⟩:=hout (r.set (i+b.length) c) (hr.set _ ⟨c0,c1⟩) (by simpa using hl) (by rw[show i+1+b.length=i+b.length+1 by omega];exact qx hz) (by
   rw[fY hir,hr0,a8 hi];rw[aov]at hv;grind)
  refine AL _ _ _ _ _ _ _ ⟨q,?_⟩;have hw:i64.wrap ((i:Int)+(b.length:Int))=((i+b.length:Nat):Int):=by rw[aV (by omega) (by omega)];simp
  unfold vY;rw[b8 (ani _),hw,aq r (i+b.length),aE,anc hir,dh (x:=c) (by omega) (by omega),bW (k:=i) (by omega)];exact hq
 |succ j ih=>
  intro k c r hk c0 c1 hr hl hz hv;have hkb:k<b.length:=by omega
  have hir:i+k<r.length:=by omega
  have xb:=hb.1.get hkb;have xr:=hr.get hir;have hbd:=H5 xr xa xb ⟨c0,c1⟩
  obtain⟨q,hq⟩:=ih (k+1) ((r[i+k]+a[i]*b[k]+c)/1000000000) (r.set (i+k) ((r[i+k]+a[i]*b[k]+c)%1000000000)) (by omega) hbd.2.2.1 hbd.2.2.2 (hr.set _ (by omega)) (by simpa using hl)
   (λm hm hq=>by rw[aoy (by omega)];exact hz m (by simpa using hm) hq) (by
    rw[fY hir,a8 hkb,show i+(k+1)=i+k+1 by omega,ce,gh];rw[gh]at hv;have e:=Int.emod_add_mul_ediv (r[i+k]+a[i]*b[k]+c) 1000000000;grind)
  refine AL _ _ _ _ _ _ _ ⟨q,?_⟩;have hw:i64.wrap ((i:Int)+(k:Int))=((i+k:Nat):Int):=by rw[aV (by omega) (by omega)];simp
  unfold vY;rw[bH hkb,aq b k,anc hkb,hw,aq r (i+k),aE,anc hir];dsimp only;rw[bI (x:=r[i+k]) (by omega) (by omega),bI (x:=a[i]) (by omega) (by omega),bI (x:=b[k]) (by omega) (by omega),bI (x:=a[i]*b[k]) (by omega) (by omega),bI (x:=r[i+k]+a[i]*b[k]) (by omega) (by omega),bI (x:=r[i+k]+a[i]*b[k]+c) (by omega) (by omega),iZ (a:=r[i+k]+a[i]*b[k]+c) (by omega),kw (a:=r[i+k]+a[i]*b[k]+c) (by omega),bI (x:=(r[i+k]+a[i]*b[k]+c)/1000000000) (by omega) (by omega),dh (x:=(r[i+k]+a[i]*b[k]+c)%1000000000) (by omega) (by omega),bW (k:=k) (by omega)];exact hq
theorem Mo(a b:List Int)(ha:aU a)(hb:aU b):∀(j i:Nat) (r:List Int),i+j=a.length->Lim r->r.length=a.length+b.length->(∀k (hk:k<r.length),i+b.length<=k->r[k]=0)->val r=val (a.take i)*val b->
  zi.Runs 8 (zT a b (i:Int) r) [.new 200 aqx (dig (a.length+b.length) (val a*val b))]:=by
 have hsa:=ha.2;intro j;induction j with
 |zero=>
  intro i r hi hr hl hz hv;obtain rfl:i=a.length:=by omega
  refine F8 _ _ _ _ ⟨0,?_⟩;unfold zM;rw[aov]at hv;rw[b8 (ani _),<-D0 hr hl hv]
 |succ j ih=>
  intro i r hi hr hl hz hv;have hia:i<a.length:=by omega
  obtain⟨q,hq⟩:=Mk a b ha hb i hia (λr' h1 h2 h3 h4=>ih (i+1) r' (by omega) h1 h2 h3 h4) b.length 0 0 r (by omega) (by omega) (by omega) hr hl hz (by simp[val,hv]);refine F8 _ _ _ _ ⟨q,?_⟩;unfold zM;rw[bH hia,aq,anc hia];exact hq
theorem Xx(a b:List Int)(h:aU a/\aU b):CQq7 249 [.d aqv a,.d aqv b] [.new 200 aqx (dig (a.length+b.length) (val a*val b))]:=by
 refine gJ (E:=[]) trivial (show zi.Res _ _ _ from ?_);obtain⟨ha,hb⟩:=h;have hsa:=ha.2;have hsb:=hb.2;obtain⟨q,hq⟩:=Mo a b ha hb a.length 0 (List.replicate (a.length+b.length) 0) (by omega) (Lim.rep _) (by simp) (λk hk _=>by simp) (by simp[val,iK]);refine ags _ _ ⟨q,?_⟩;have hw:i64.wrap ((a.length:Int)+(b.length:Int))=((a.length+b.length:Nat):Int):=by rw[aV (by omega) (by omega)];simp
 unfold YJ;rw[hw,vw (by omega),aE];exact hq
theorem N8(a:List Int)(b:Int)(ha:aU a)(hb:1<=b/\b<1000000000):∀(n:Nat) (c:Int) (r:List Int),n<=a.length->0<=c->c<b->Lim r->r.length=a.length->(∀k (hk:k<r.length),k<n->r[k]=0)->b*val r+pw n*c+val (a.take n)=val a->
  JY.Runs 10 (xu a b c ((n:Int)-1) r) [.d aqv (dig a.length (val a/b)),.d aqv [val a%b]]:=by
 have hsa:=ha.2;intro n;induction n with
 |zero=>
  intro c r hn c0 c1 hr hl hz hv;simp only[pE,List.take_zero,val,aor,aqp]at hv
  have e1:val a%b=c:=by
   rw[<-hv,ap9,ape];exact apo c0 c1
  have e2:val a/b=val r:=by
   rw[<-hv,ap9,aoX _ _ (by omega),aos c0 c1];omega
  refine BT _ _ _ _ _ ⟨0,?_⟩;unfold vW;rw[ane (by omega),e1,e2,<-D0 hr hl rfl,dh (x:=c) (by omega) (by omega)]
 |succ n ih=>
  intro c r hn c0 c1 hr hl hz hv;have hna:n<a.length:=by omega
  have hnr:n<r.length:=by omega
  have xa:=ha.1.get hna;have hr0:=hz n hnr (by omega);have hcb:0<=c*1000000000+a[n]:=by omega
  have m0:=aoj (c*1000000000+a[n]) (show b≠0 by omega);have m1:=anV (c*1000000000+a[n]) (show 0<b by omega);have md:=an1 (c*1000000000+a[n]) b;have d0:0<=(c*1000000000+a[n])/b:=aoe hcb (by omega)
  have d1:(c*1000000000+a[n])/b<1000000000:=by
   refine aoF (by omega) ?_;have:=anp (show c+1<=b by omega) (show(0:Int)<=1000000000 by decide);rw[aoY 1000000000 b];omega
  obtain⟨q,hq⟩:=ih ((c*1000000000+a[n])%b) (r.set n ((c*1000000000+a[n])/b)) (by omega) m0 m1 (hr.set n ⟨d0,d1⟩) (by simpa using hl)
   (λk hk hkn=>by rw[aoy (by omega)];exact hz k (by simpa using hk) (by omega)) (by
    rw[fY hnr,hr0];rw[a8 hna,ce]at hv;grind)
  refine BT _ _ _ _ _ ⟨q,?_⟩;unfold vW;rw[show((n+1:Nat):Int)-1=(n:Int) by omega,anb (by omega),aq a n,anc hna,bI (x:=b) (by omega) (by omega),ane (show ¬b=0 by omega),aq r n,aE,anc hnr];dsimp only;rw[bI (x:=c*1000000000) (by omega) (by omega),bI (x:=a[n]) (by omega) (by omega),bI (x:=c*1000000000+a[n]) (by omega) (by omega),iZ hcb,kw hcb,bI (x:=(c*1000000000+a[n])/b) (by omega) (by omega),dh (x:=(c*1000000000+a[n])/b) (by omega) (by omega),aV (x:=(n:Int)-1) (by omega) (by omega)];exact hq
def Fa(a:List Int)(b:Int):Prop:=aU a/\1<=b/\b<1000000000
instance (a:List Int) (b:Int):Decidable (Fa a b):=by unfold Fa;infer_instance
theorem UG(a:List Int)(b:Int)(h:Fa a b):CQq7 322 [.d aqv a,.d aqx b] [.d aqv (dig a.length (val a/b)),.d aqv [val a%b]]:=by
 refine gJ (E:=[]) trivial (show JY.Res _ _ _ from ?_);obtain⟨ha,hb⟩:=h;have hsa:=ha.2;obtain⟨q,hq⟩:=N8 a b ha hb a.length 0 (List.replicate a.length 0) (ani _) (by omega) (by omega) (Lim.rep _) (by simp) (λk hk _=>by simp) (by simp[iK]);refine ajY _ _ ⟨q,?_⟩;unfold Yf;rw[vw (by omega),aE,aV (x:=(a.length:Int)-1) (by omega) (by omega)];exact hq
def Id:fb:=spN true false [aqv,aqv] (λx=>decide (aU x.1/\aU x.2.1)) (λx=>[RV.new 200 aqx (dig (max x.1.length x.2.1.length+1) (val x.1+val x.2.1))])
theorem Gc:SpK 288 Id:=spX λx h=>Xa x.1 x.2.1 (anf h)
def He:fb:=spN true false [aqv,aqv] (λx=>decide (ql x.1 x.2.1)) (λx=>[RV.new 200 aqx (dig x.1.length (val x.1-val x.2.1))])
theorem FW:SpK 289 He:=spX λx h=>Uz x.1 x.2.1 (anf h)
def HS:fb:=spN true false [aqv,aqv] (λx=>decide (aU x.1/\aU x.2.1)) (λx=>[RV.new 200 aqx (dig (x.1.length+x.2.1.length) (val x.1*val x.2.1))])
theorem F0:SpK 249 HS:=spX λx h=>Xx x.1 x.2.1 (anf h)
def On:fb:=spN false false [aqv,aqx] (λx=>decide (Fa x.1 x.2.1)) (λx=>[RV.d aqv (dig x.1.length (val x.1/x.2.1)),RV.d aqv ([val x.1%x.2.1])])
theorem SE:SpK 322 On:=spX λx h=>UG x.1 x.2.1 (anf h)
def Gy:fb:=spN true false [aqv,aqv] (λx=>decide (aU x.1/\aU x.2.1)) (λx=>[RV.d aqw (cE (val x.1) (val x.2.1))])
theorem Gj:SpK 247 Gy:=spX λx h=>Vp x.1 x.2.1 (anf h)
def Mz:Env:=[(299,Hz),(288,Id),(289,He),(249,HS),(322,On),(247,Gy)]
theorem Lm:EnvAll Tryz.prog Mz:=⟨FU,Gc,FW,F0,SE,Gj,trivial⟩
def adj:NT:=[((301,34),{keep:=[6,7,8,9,10,11],hl:=6}),((301,49),{keep:=[6,7,8,9,10,11,13,14],hl:=6}),((323,8),{keep:=[0,1,2,7,8,14,15],hl:=6}),((324,5),{keep:=[0,1,4,8,9],hl:=6}),((301,68),{keep:=[6,7,8,9,10,11,13,151],hl:=0}),((301,72),{keep:=[6,7,8,9,10,11,13],hl:=0})]
def iD:Ctx:=CX Mz adj
def rG(b:List Int)(x2 s11:Int)(r5 r1:List Int):Cfg:=⟨301,[.blk 0,.seq 76],[(6,SI ((ag (val b).toNat).length:Int)),(7,.d aqx (u32.wrap (u64.wrap (Int.tdiv 1000000000 (u64.wrap ((u64.wrap x2)+1)))))),(8,.own 1),(9,.d aqv (ag (val (dig ((ag (val b).toNat).length+([u32.wrap (u64.wrap (Int.tdiv 1000000000 (u64.wrap ((u64.wrap x2)+1))))]).length) (val (ag (val b).toNat)*val ([u32.wrap (u64.wrap (Int.tdiv 1000000000 (u64.wrap ((u64.wrap x2)+1))))])))).toNat)),(10,.own 5),(11,SI s11)],[.row 200 aqx ([u32.wrap (u64.wrap (Int.tdiv 1000000000 (u64.wrap ((u64.wrap x2)+1))))]),.row 200 aqx r1,.row 200 aqx ([0]),.row 200 aqx ([u32.wrap (u64.wrap (Int.tdiv 1000000000 (u64.wrap ((u64.wrap x2)+1))))]),.gone,.row 200 aqx r5],0,[]⟩
def pS(b:List Int)(x2 s11:Int)(r1 r5:List Int)(s13 s14:Int):Cfg:=⟨301,[.blk 2,.seq 66,.blk 1,.seq 75,.lp 34,.blk 0,.seq 76],[(6,SI ((ag (val b).toNat).length:Int)),(7,.d aqx (u32.wrap (u64.wrap (Int.tdiv 1000000000 (u64.wrap ((u64.wrap x2)+1)))))),(8,.own 1),(9,.d aqv (ag (val (dig ((ag (val b).toNat).length+([u32.wrap (u64.wrap (Int.tdiv 1000000000 (u64.wrap ((u64.wrap x2)+1))))]).length) (val (ag (val b).toNat)*val ([u32.wrap (u64.wrap (Int.tdiv 1000000000 (u64.wrap ((u64.wrap x2)+1))))])))).toNat)),(10,.own 5),(11,SI s11),(13,.d (.int .u64) s13),(14,.d (.int .u64) s14)],[.row 200 aqx ([u32.wrap (u64.wrap (Int.tdiv 1000000000 (u64.wrap ((u64.wrap x2)+1))))]),.row 200 aqx r1,.row 200 aqx ([0]),.row 200 aqx ([u32.wrap (u64.wrap (Int.tdiv 1000000000 (u64.wrap ((u64.wrap x2)+1))))]),.gone,.row 200 aqx r5],0,[]⟩
def dg(b:List Int)(x2 s11:Int)(r5:List Int)(s323_2 f323_0_13 s323_7 s323_8 s323_15:Int)(r323_1:List Int):Cfg:=⟨323,[.blk 0,.seq 43],[(0,.osl 1 1 ((s11:Int).toNat) ((i64.wrap ((i64.wrap (s11+((ag (val b).toNat).length:Int)))+1):Int).toNat-(s11:Int).toNat)),(1,.d aqv (ag (val (dig ((ag (val b).toNat).length+([u32.wrap (u64.wrap (Int.tdiv 1000000000 (u64.wrap ((u64.wrap x2)+1))))]).length) (val (ag (val b).toNat)*val ([u32.wrap (u64.wrap (Int.tdiv 1000000000 (u64.wrap ((u64.wrap x2)+1))))])))).toNat)),(2,.d (.int .u64) s323_2),(7,.d (.int .u64) s323_7),(8,.d (.int .u64) s323_8),(14,SI (((i64.wrap ((i64.wrap (s11+((ag (val b).toNat).length:Int)))+1):Int).toNat-(s11:Int).toNat:Nat):Int)),(15,SI s323_15)],[.row 200 aqx ([u32.wrap (u64.wrap (Int.tdiv 1000000000 (u64.wrap ((u64.wrap x2)+1))))]),.row 200 aqx r323_1,.row 200 aqx ([0]),.row 200 aqx ([u32.wrap (u64.wrap (Int.tdiv 1000000000 (u64.wrap ((u64.wrap x2)+1))))]),.gone,.row 200 aqx r5],6,[⟨301,[.seq 69,.seq 74,.blk 1,.seq 75,.lp 34,.blk 0,.seq 76],68,9,[(6,SI ((ag (val b).toNat).length:Int)),(7,.d aqx (u32.wrap (u64.wrap (Int.tdiv 1000000000 (u64.wrap ((u64.wrap x2)+1)))))),(8,.own 1),(9,.d aqv (ag (val (dig ((ag (val b).toNat).length+([u32.wrap (u64.wrap (Int.tdiv 1000000000 (u64.wrap ((u64.wrap x2)+1))))]).length) (val (ag (val b).toNat)*val ([u32.wrap (u64.wrap (Int.tdiv 1000000000 (u64.wrap ((u64.wrap x2)+1))))])))).toNat)),(10,.own 5),(11,SI s11),(13,.d (.int .u64) f323_0_13)],0,none⟩]⟩
def dS(b:List Int)(x2 s11:Int)(r5:List Int)(f323_0_13 s324_4 s324_9:Int)(r324_1:List Int):Cfg:=⟨324,[.blk 0],[(0,.osl 1 1 ((s11:Int).toNat) ((i64.wrap ((i64.wrap (s11+((ag (val b).toNat).length:Int)))+1):Int).toNat-(s11:Int).toNat)),(1,.d aqv (ag (val (dig ((ag (val b).toNat).length+([u32.wrap (u64.wrap (Int.tdiv 1000000000 (u64.wrap ((u64.wrap x2)+1))))]).length) (val (ag (val b).toNat)*val ([u32.wrap (u64.wrap (Int.tdiv 1000000000 (u64.wrap ((u64.wrap x2)+1))))])))).toNat)),(4,.d aqx s324_4),(8,SI (((i64.wrap ((i64.wrap (s11+((ag (val b).toNat).length:Int)))+1):Int).toNat-(s11:Int).toNat:Nat):Int)),(9,SI s324_9)],[.row 200 aqx ([u32.wrap (u64.wrap (Int.tdiv 1000000000 (u64.wrap ((u64.wrap x2)+1))))]),.row 200 aqx r324_1,.row 200 aqx ([0]),.row 200 aqx ([u32.wrap (u64.wrap (Int.tdiv 1000000000 (u64.wrap ((u64.wrap x2)+1))))]),.gone,.row 200 aqx r5],6,[⟨301,[.seq 74,.blk 1,.seq 75,.lp 34,.blk 0,.seq 76],72,8,[(6,SI ((ag (val b).toNat).length:Int)),(7,.d aqx (u32.wrap (u64.wrap (Int.tdiv 1000000000 (u64.wrap ((u64.wrap x2)+1)))))),(8,.own 1),(9,.d aqv (ag (val (dig ((ag (val b).toNat).length+([u32.wrap (u64.wrap (Int.tdiv 1000000000 (u64.wrap ((u64.wrap x2)+1))))]).length) (val (ag (val b).toNat)*val ([u32.wrap (u64.wrap (Int.tdiv 1000000000 (u64.wrap ((u64.wrap x2)+1))))])))).toNat)),(10,.own 5),(11,SI s11),(13,.d (.int .u64) (u64.wrap (f323_0_13-1)))],0,none⟩]⟩
def KN(a b:List Int)(k:KT):OLR:=og (decide (aU a)) (og (decide (aU b)) (match((ag (val b).toNat).length:Int)==1 with|true=>(match aS (ag (val b).toNat) 0 with|some x1=>(og (decide (Fa (ag (val a).toNat) x1)) (some [RV.d aqv (dig (ag (val a).toNat).length (val (ag (val a).toNat)/x1)),RV.d aqv ([val (ag (val a).toNat)%x1])]))|none=>none)|false=>(og (decide (aU (ag (val a).toNat)/\aU (ag (val b).toNat))) (match decide ((cE (val (ag (val a).toNat)) (val (ag (val b).toNat)))<0)with|true=>(og (decide ((ag (val a).toNat).length*4<=140737488355328/\(ag (val a).toNat).length<=140737488355328)) (some [RV.d aqv ([]),RV.d aqv (ag (val a).toNat)]))|false=>(match aS (ag (val b).toNat) (i64.wrap (((ag (val b).toNat).length:Int)-1))with|some x2=>(match decide (u64.wrap ((u64.wrap x2)+1)=(0:Int))with|true=>none|false=>(og (decide (aU (ag (val a).toNat)/\aU ([u32.wrap (u64.wrap (Int.tdiv 1000000000 (u64.wrap ((u64.wrap x2)+1))))]))) (og (decide (((dig ((ag (val a).toNat).length+([u32.wrap (u64.wrap (Int.tdiv 1000000000 (u64.wrap ((u64.wrap x2)+1))))]).length) (val (ag (val a).toNat)*val ([u32.wrap (u64.wrap (Int.tdiv 1000000000 (u64.wrap ((u64.wrap x2)+1))))]))).length+([0]).length)*4<=140737488355328/\(dig ((ag (val a).toNat).length+([u32.wrap (u64.wrap (Int.tdiv 1000000000 (u64.wrap ((u64.wrap x2)+1))))]).length) (val (ag (val a).toNat)*val ([u32.wrap (u64.wrap (Int.tdiv 1000000000 (u64.wrap ((u64.wrap x2)+1))))]))).length+([0]).length<=140737488355328)) (og (decide (aU (ag (val b).toNat)/\aU ([u32.wrap (u64.wrap (Int.tdiv 1000000000 (u64.wrap ((u64.wrap x2)+1))))]))) (og (decide (aU (dig ((ag (val b).toNat).length+([u32.wrap (u64.wrap (Int.tdiv 1000000000 (u64.wrap ((u64.wrap x2)+1))))]).length) (val (ag (val b).toNat)*val ([u32.wrap (u64.wrap (Int.tdiv 1000000000 (u64.wrap ((u64.wrap x2)+1))))]))))) (og (decide ((0:Int)<=i64.wrap ((((dig ((ag (val a).toNat).length+([u32.wrap (u64.wrap (Int.tdiv 1000000000 (u64.wrap ((u64.wrap x2)+1))))]).length) (val (ag (val a).toNat)*val ([u32.wrap (u64.wrap (Int.tdiv 1000000000 (u64.wrap ((u64.wrap x2)+1))))])))++([0])).length:Int)-((ag (val b).toNat).length:Int))/\(i64.wrap ((((dig ((ag (val a).toNat).length+([u32.wrap (u64.wrap (Int.tdiv 1000000000 (u64.wrap ((u64.wrap x2)+1))))]).length) (val (ag (val a).toNat)*val ([u32.wrap (u64.wrap (Int.tdiv 1000000000 (u64.wrap ((u64.wrap x2)+1))))])))++([0])).length:Int)-((ag (val b).toNat).length:Int)))*((4:Nat):Int)<=140737488355328/\i64.wrap ((((dig ((ag (val a).toNat).length+([u32.wrap (u64.wrap (Int.tdiv 1000000000 (u64.wrap ((u64.wrap x2)+1))))]).length) (val (ag (val a).toNat)*val ([u32.wrap (u64.wrap (Int.tdiv 1000000000 (u64.wrap ((u64.wrap x2)+1))))])))++([0])).length:Int)-((ag (val b).toNat).length:Int))<=140737488355328)) (k 34 (rG b x2 (i64.wrap ((i64.wrap ((((dig ((ag (val a).toNat).length+([u32.wrap (u64.wrap (Int.tdiv 1000000000 (u64.wrap ((u64.wrap x2)+1))))]).length) (val (ag (val a).toNat)*val ([u32.wrap (u64.wrap (Int.tdiv 1000000000 (u64.wrap ((u64.wrap x2)+1))))])))++([0])).length:Int)-((ag (val b).toNat).length:Int)))-1)) (List.replicate (i64.wrap ((((dig ((ag (val a).toNat).length+([u32.wrap (u64.wrap (Int.tdiv 1000000000 (u64.wrap ((u64.wrap x2)+1))))]).length) (val (ag (val a).toNat)*val ([u32.wrap (u64.wrap (Int.tdiv 1000000000 (u64.wrap ((u64.wrap x2)+1))))])))++([0])).length:Int)-((ag (val b).toNat).length:Int))).toNat (0:Int)) ((dig ((ag (val a).toNat).length+([u32.wrap (u64.wrap (Int.tdiv 1000000000 (u64.wrap ((u64.wrap x2)+1))))]).length) (val (ag (val a).toNat)*val ([u32.wrap (u64.wrap (Int.tdiv 1000000000 (u64.wrap ((u64.wrap x2)+1))))])))++([0]))))))))))|none=>none)))))
theorem MK(a b:List Int):RS iD 301 [.d aqv a,.d aqv b] (KN a b):=rsX
def wJ(b:List Int)(x2 s11:Int)(r5 r1:List Int)(k:KT):OLR:=match decide (s11>=0)with|true=>(match aS r1 (i64.wrap (s11+((ag (val b).toNat).length:Int)))with|some _=>(match true,r1[(i64.wrap (s11+((ag (val b).toNat).length:Int))).toNat]? with|true,some x3=>(match aS r1 (i64.wrap ((i64.wrap (s11+((ag (val b).toNat).length:Int)))-1))with|some _=>(match true,r1[(i64.wrap ((i64.wrap (s11+((ag (val b).toNat).length:Int)))-1)).toNat]? with|true,some x4=>(match aS (ag (val (dig ((ag (val b).toNat).length+([u32.wrap (u64.wrap (Int.tdiv 1000000000 (u64.wrap ((u64.wrap x2)+1))))]).length) (val (ag (val b).toNat)*val ([u32.wrap (u64.wrap (Int.tdiv 1000000000 (u64.wrap ((u64.wrap x2)+1))))])))).toNat) (i64.wrap (((ag (val b).toNat).length:Int)-1))with|some x5=>(match decide (u64.wrap x5=(0:Int))with|true=>none|false=>(match aS (ag (val (dig ((ag (val b).toNat).length+([u32.wrap (u64.wrap (Int.tdiv 1000000000 (u64.wrap ((u64.wrap x2)+1))))]).length) (val (ag (val b).toNat)*val ([u32.wrap (u64.wrap (Int.tdiv 1000000000 (u64.wrap ((u64.wrap x2)+1))))])))).toNat) (i64.wrap (((ag (val b).toNat).length:Int)-1))with|some x6=>(match decide (u64.wrap x6=(0:Int))with|true=>none|false=>k 49 (pS b x2 s11 r1 r5 (u64.wrap (Int.tdiv (u64.wrap ((u64.wrap ((u64.wrap x3)*1000000000))+(u64.wrap x4))) (u64.wrap x5))) (Int.tmod (u64.wrap ((u64.wrap ((u64.wrap x3)*1000000000))+(u64.wrap x4))) (u64.wrap x6))))|none=>none))|none=>none)|_,_=>none)|none=>none)|_,_=>none)|none=>none)|false=>(og (decide ((0:Int)<=0/\0<=((ag (val b).toNat).length:Int)/\((ag (val b).toNat).length:Int)<=(r1.length:Int))) (og (decide (aU ((r1.drop ((0:Int).toNat)).take ((((ag (val b).toNat).length:Int):Int).toNat-(0:Int).toNat)))) (og (decide (Fa (ag (val ((r1.drop ((0:Int).toNat)).take ((((ag (val b).toNat).length:Int):Int).toNat-(0:Int).toNat))).toNat) (u32.wrap (u64.wrap (Int.tdiv 1000000000 (u64.wrap ((u64.wrap x2)+1))))))) (some [RV.d aqv r5,RV.d aqv (dig (ag (val ((r1.drop ((0:Int).toNat)).take ((((ag (val b).toNat).length:Int):Int).toNat-(0:Int).toNat))).toNat).length (val (ag (val ((r1.drop ((0:Int).toNat)).take ((((ag (val b).toNat).length:Int):Int).toNat-(0:Int).toNat))).toNat)/(u32.wrap (u64.wrap (Int.tdiv 1000000000 (u64.wrap ((u64.wrap x2)+1)))))))]))))
theorem AV(b:List Int)(x2 s11:Int)(r5 r1:List Int):RN iD 34 (rG b x2 s11 r5 r1) (wJ b x2 s11 r5 r1):=rnX
def oM(b:List Int)(x2 s11:Int)(r1 r5:List Int)(s13 s14:Int)(k:KT):OLR:=match decide (s13>=1000000000)with|true=>(match aS (ag (val (dig ((ag (val b).toNat).length+([u32.wrap (u64.wrap (Int.tdiv 1000000000 (u64.wrap ((u64.wrap x2)+1))))]).length) (val (ag (val b).toNat)*val ([u32.wrap (u64.wrap (Int.tdiv 1000000000 (u64.wrap ((u64.wrap x2)+1))))])))).toNat) (i64.wrap (((ag (val b).toNat).length:Int)-1))with|some x7=>(match decide ((u64.wrap (s14+(u64.wrap x7)))>=1000000000)with|true=>(og (decide ((0:Int)<=s11/\s11<=i64.wrap ((i64.wrap (s11+((ag (val b).toNat).length:Int)))+1)/\i64.wrap ((i64.wrap (s11+((ag (val b).toNat).length:Int)))+1)<=(r1.length:Int))) (k 8 (dg b x2 s11 r5 (u64.wrap (s13-1)) (u64.wrap (s13-1)) 0 0 0 r1)))|false=>k 49 (pS b x2 s11 r1 r5 (u64.wrap (s13-1)) (u64.wrap (s14+(u64.wrap x7)))))|none=>none)|false=>(match aS (ag (val (dig ((ag (val b).toNat).length+([u32.wrap (u64.wrap (Int.tdiv 1000000000 (u64.wrap ((u64.wrap x2)+1))))]).length) (val (ag (val b).toNat)*val ([u32.wrap (u64.wrap (Int.tdiv 1000000000 (u64.wrap ((u64.wrap x2)+1))))])))).toNat) (i64.wrap (((ag (val b).toNat).length:Int)-2))with|some x8=>(match aS r1 (i64.wrap ((i64.wrap (s11+((ag (val b).toNat).length:Int)))-2))with|some _=>(match true,r1[(i64.wrap ((i64.wrap (s11+((ag (val b).toNat).length:Int)))-2)).toNat]? with|true,some x9=>(match decide ((u64.wrap (s13*(u64.wrap x8)))>(u64.wrap ((u64.wrap (s14*1000000000))+(u64.wrap x9))))with|true=>(match aS (ag (val (dig ((ag (val b).toNat).length+([u32.wrap (u64.wrap (Int.tdiv 1000000000 (u64.wrap ((u64.wrap x2)+1))))]).length) (val (ag (val b).toNat)*val ([u32.wrap (u64.wrap (Int.tdiv 1000000000 (u64.wrap ((u64.wrap x2)+1))))])))).toNat) (i64.wrap (((ag (val b).toNat).length:Int)-1))with|some x10=>(match decide ((u64.wrap (s14+(u64.wrap x10)))>=1000000000)with|true=>(og (decide ((0:Int)<=s11/\s11<=i64.wrap ((i64.wrap (s11+((ag (val b).toNat).length:Int)))+1)/\i64.wrap ((i64.wrap (s11+((ag (val b).toNat).length:Int)))+1)<=(r1.length:Int))) (k 8 (dg b x2 s11 r5 (u64.wrap (s13-1)) (u64.wrap (s13-1)) 0 0 0 r1)))|false=>k 49 (pS b x2 s11 r1 r5 (u64.wrap (s13-1)) (u64.wrap (s14+(u64.wrap x10)))))|none=>none)|false=>(og (decide ((0:Int)<=s11/\s11<=i64.wrap ((i64.wrap (s11+((ag (val b).toNat).length:Int)))+1)/\i64.wrap ((i64.wrap (s11+((ag (val b).toNat).length:Int)))+1)<=(r1.length:Int))) (k 8 (dg b x2 s11 r5 s13 s13 0 0 0 r1))))|_,_=>none)|none=>none)|none=>none)
theorem r9(b:List Int)(x2 s11:Int)(r1 r5:List Int)(s13 s14:Int):RN iD 49 (pS b x2 s11 r1 r5 s13 s14) (oM b x2 s11 r1 r5 s13 s14):=rnX
def dL(b:List Int)(x2 s11:Int)(r5:List Int)(s323_2 f323_0_13 s323_7 s323_8 s323_15:Int)(r323_1:List Int)(k:KT):OLR:=match decide (s323_15<(((i64.wrap ((i64.wrap (s11+((ag (val b).toNat).length:Int)))+1):Int).toNat-(s11:Int).toNat:Nat):Int))with|true=>(match decide (s323_15<((ag (val (dig ((ag (val b).toNat).length+([u32.wrap (u64.wrap (Int.tdiv 1000000000 (u64.wrap ((u64.wrap x2)+1))))]).length) (val (ag (val b).toNat)*val ([u32.wrap (u64.wrap (Int.tdiv 1000000000 (u64.wrap ((u64.wrap x2)+1))))])))).toNat).length:Int))with|true=>(match aS (ag (val (dig ((ag (val b).toNat).length+([u32.wrap (u64.wrap (Int.tdiv 1000000000 (u64.wrap ((u64.wrap x2)+1))))]).length) (val (ag (val b).toNat)*val ([u32.wrap (u64.wrap (Int.tdiv 1000000000 (u64.wrap ((u64.wrap x2)+1))))])))).toNat) s323_15 with|some x11=>(match true,decide ((0:Int)<=s323_15/\s323_15<(((i64.wrap ((i64.wrap (s11+((ag (val b).toNat).length:Int)))+1):Int).toNat-(s11:Int).toNat:Nat):Int))with|true,true=>(match true,r323_1[(s11:Int).toNat+(s323_15).toNat]? with|true,some x12=>(match decide ((u64.wrap x12)<(u64.wrap ((Int.tmod (u64.wrap (s323_7+(u64.wrap ((u64.wrap x11)*s323_2)))) 1000000000)+s323_8)))with|true=>(match true,decide ((0:Int)<=s323_15/\s323_15<(((i64.wrap ((i64.wrap (s11+((ag (val b).toNat).length:Int)))+1):Int).toNat-(s11:Int).toNat:Nat):Int))with|true,true=>(match true,r323_1[(s11:Int).toNat+(s323_15).toNat]? with|true,some _=>k 8 (dg b x2 s11 r5 s323_2 f323_0_13 (u64.wrap (Int.tdiv (u64.wrap (s323_7+(u64.wrap ((u64.wrap x11)*s323_2)))) 1000000000)) 1 (i64.wrap (s323_15+1)) (r323_1.set ((s11:Int).toNat+(s323_15).toNat) (u32.wrap (u64.wrap ((u64.wrap ((u64.wrap x12)+1000000000))-(u64.wrap ((Int.tmod (u64.wrap (s323_7+(u64.wrap ((u64.wrap x11)*s323_2)))) 1000000000)+s323_8)))))))|_,_=>none)|_,_=>none)|false=>(match true,decide ((0:Int)<=s323_15/\s323_15<(((i64.wrap ((i64.wrap (s11+((ag (val b).toNat).length:Int)))+1):Int).toNat-(s11:Int).toNat:Nat):Int))with|true,true=>(match true,r323_1[(s11:Int).toNat+(s323_15).toNat]? with|true,some _=>k 8 (dg b x2 s11 r5 s323_2 f323_0_13 (u64.wrap (Int.tdiv (u64.wrap (s323_7+(u64.wrap ((u64.wrap x11)*s323_2)))) 1000000000)) 0 (i64.wrap (s323_15+1)) (r323_1.set ((s11:Int).toNat+(s323_15).toNat) (u32.wrap (u64.wrap ((u64.wrap x12)-(u64.wrap ((Int.tmod (u64.wrap (s323_7+(u64.wrap ((u64.wrap x11)*s323_2)))) 1000000000)+s323_8)))))))|_,_=>none)|_,_=>none))|_,_=>none)|_,_=>none)|none=>none)|false=>(match true,decide ((0:Int)<=s323_15/\s323_15<(((i64.wrap ((i64.wrap (s11+((ag (val b).toNat).length:Int)))+1):Int).toNat-(s11:Int).toNat:Nat):Int))with|true,true=>(match true,r323_1[(s11:Int).toNat+(s323_15).toNat]? with|true,some x15=>(match decide ((u64.wrap x15)<(u64.wrap ((Int.tmod s323_7 1000000000)+s323_8)))with|true=>(match true,decide ((0:Int)<=s323_15/\s323_15<(((i64.wrap ((i64.wrap (s11+((ag (val b).toNat).length:Int)))+1):Int).toNat-(s11:Int).toNat:Nat):Int))with|true,true=>(match true,r323_1[(s11:Int).toNat+(s323_15).toNat]? with|true,some _=>k 8 (dg b x2 s11 r5 s323_2 f323_0_13 (u64.wrap (Int.tdiv s323_7 1000000000)) 1 (i64.wrap (s323_15+1)) (r323_1.set ((s11:Int).toNat+(s323_15).toNat) (u32.wrap (u64.wrap ((u64.wrap ((u64.wrap x15)+1000000000))-(u64.wrap ((Int.tmod s323_7 1000000000)+s323_8)))))))|_,_=>none)|_,_=>none)|false=>(match true,decide ((0:Int)<=s323_15/\s323_15<(((i64.wrap ((i64.wrap (s11+((ag (val b).toNat).length:Int)))+1):Int).toNat-(s11:Int).toNat:Nat):Int))with|true,true=>(match true,r323_1[(s11:Int).toNat+(s323_15).toNat]? with|true,some _=>k 8 (dg b x2 s11 r5 s323_2 f323_0_13 (u64.wrap (Int.tdiv s323_7 1000000000)) 0 (i64.wrap (s323_15+1)) (r323_1.set ((s11:Int).toNat+(s323_15).toNat) (u32.wrap (u64.wrap ((u64.wrap x15)-(u64.wrap ((Int.tmod s323_7 1000000000)+s323_8)))))))|_,_=>none)|_,_=>none))|_,_=>none)|_,_=>none))|false=>(match decide (s323_8>0)with|true=>(og (decide ((0:Int)<=s11/\s11<=i64.wrap ((i64.wrap (s11+((ag (val b).toNat).length:Int)))+1)/\i64.wrap ((i64.wrap (s11+((ag (val b).toNat).length:Int)))+1)<=(r323_1.length:Int))) (k 5 (dS b x2 s11 r5 f323_0_13 0 0 r323_1)))|false=>(match decide (s323_7>0)with|true=>(og (decide ((0:Int)<=s11/\s11<=i64.wrap ((i64.wrap (s11+((ag (val b).toNat).length:Int)))+1)/\i64.wrap ((i64.wrap (s11+((ag (val b).toNat).length:Int)))+1)<=(r323_1.length:Int))) (k 5 (dS b x2 s11 r5 f323_0_13 0 0 r323_1)))|false=>(match aS r5 s11 with|some _=>(match true,r5[(s11).toNat]? with|true,some _=>k 34 (rG b x2 (i64.wrap (s11-1)) (r5.set ((s11).toNat) (u32.wrap f323_0_13)) r323_1)|_,_=>none)|none=>none)))
theorem gL(b:List Int)(x2 s11:Int)(r5:List Int)(s323_2 f323_0_13 s323_7 s323_8 s323_15:Int)(r323_1:List Int):RN iD 8 (dg b x2 s11 r5 s323_2 f323_0_13 s323_7 s323_8 s323_15 r323_1) (dL b x2 s11 r5 s323_2 f323_0_13 s323_7 s323_8 s323_15 r323_1):=rnX
def fh(b:List Int)(x2 s11:Int)(r5:List Int)(f323_0_13 s324_4 s324_9:Int)(r324_1:List Int)(k:KT):OLR:=match decide (s324_9<(((i64.wrap ((i64.wrap (s11+((ag (val b).toNat).length:Int)))+1):Int).toNat-(s11:Int).toNat:Nat):Int))with|true=>(match true,decide ((0:Int)<=s324_9/\s324_9<(((i64.wrap ((i64.wrap (s11+((ag (val b).toNat).length:Int)))+1):Int).toNat-(s11:Int).toNat:Nat):Int))with|true,true=>(match true,r324_1[(s11:Int).toNat+(s324_9).toNat]? with|true,some x19=>(match decide (s324_9<((ag (val (dig ((ag (val b).toNat).length+([u32.wrap (u64.wrap (Int.tdiv 1000000000 (u64.wrap ((u64.wrap x2)+1))))]).length) (val (ag (val b).toNat)*val ([u32.wrap (u64.wrap (Int.tdiv 1000000000 (u64.wrap ((u64.wrap x2)+1))))])))).toNat).length:Int))with|true=>(match aS (ag (val (dig ((ag (val b).toNat).length+([u32.wrap (u64.wrap (Int.tdiv 1000000000 (u64.wrap ((u64.wrap x2)+1))))]).length) (val (ag (val b).toNat)*val ([u32.wrap (u64.wrap (Int.tdiv 1000000000 (u64.wrap ((u64.wrap x2)+1))))])))).toNat) s324_9 with|some x20=>(match decide ((u32.wrap ((u32.wrap (x19+s324_4))+x20))>=1000000000)with|true=>(match true,decide ((0:Int)<=s324_9/\s324_9<(((i64.wrap ((i64.wrap (s11+((ag (val b).toNat).length:Int)))+1):Int).toNat-(s11:Int).toNat:Nat):Int))with|true,true=>(match true,r324_1[(s11:Int).toNat+(s324_9).toNat]? with|true,some _=>k 5 (dS b x2 s11 r5 f323_0_13 1 (i64.wrap (s324_9+1)) (r324_1.set ((s11:Int).toNat+(s324_9).toNat) (u32.wrap ((u32.wrap ((u32.wrap (x19+s324_4))+x20))-1000000000))))|_,_=>none)|_,_=>none)|false=>(match true,decide ((0:Int)<=s324_9/\s324_9<(((i64.wrap ((i64.wrap (s11+((ag (val b).toNat).length:Int)))+1):Int).toNat-(s11:Int).toNat:Nat):Int))with|true,true=>(match true,r324_1[(s11:Int).toNat+(s324_9).toNat]? with|true,some _=>k 5 (dS b x2 s11 r5 f323_0_13 0 (i64.wrap (s324_9+1)) (r324_1.set ((s11:Int).toNat+(s324_9).toNat) (u32.wrap ((u32.wrap (x19+s324_4))+x20))))|_,_=>none)|_,_=>none))|none=>none)|false=>(match decide ((u32.wrap (x19+s324_4))>=1000000000)with|true=>(match true,decide ((0:Int)<=s324_9/\s324_9<(((i64.wrap ((i64.wrap (s11+((ag (val b).toNat).length:Int)))+1):Int).toNat-(s11:Int).toNat:Nat):Int))with|true,true=>(match true,r324_1[(s11:Int).toNat+(s324_9).toNat]? with|true,some _=>k 5 (dS b x2 s11 r5 f323_0_13 1 (i64.wrap (s324_9+1)) (r324_1.set ((s11:Int).toNat+(s324_9).toNat) (u32.wrap ((u32.wrap (x19+s324_4))-1000000000))))|_,_=>none)|_,_=>none)|false=>(match true,decide ((0:Int)<=s324_9/\s324_9<(((i64.wrap ((i64.wrap (s11+((ag (val b).toNat).length:Int)))+1):Int).toNat-(s11:Int).toNat:Nat):Int))with|true,true=>(match true,r324_1[(s11:Int).toNat+(s324_9).toNat]? with|true,some _=>k 5 (dS b x2 s11 r5 f323_0_13 0 (i64.wrap (s324_9+1)) (r324_1.set ((s11:Int).toNat+(s324_9).toNat) (u32.wrap (x19+s324_4))))|_,_=>none)|_,_=>none)))|_,_=>none)|_,_=>none)|false=>(match aS r5 s11 with|some _=>(match true,r5[(s11).toNat]? with|true,some _=>k 34 (rG b x2 (i64.wrap (s11-1)) (r5.set ((s11).toNat) (u32.wrap (u64.wrap (f323_0_13-1)))) r324_1)|_,_=>none)|none=>none)
theorem gN(b:List Int)(x2 s11:Int)(r5:List Int)(f323_0_13 s324_4 s324_9:Int)(r324_1:List Int):RN iD 5 (dS b x2 s11 r5 f323_0_13 s324_4 s324_9 r324_1) (fh b x2 s11 r5 f323_0_13 s324_4 s324_9 r324_1):=rnX
section
theorem PX{x:Int}(h1:1<=x)(h2:x<1000000000):1<=1000000000/(x+1)/\1000000000/(x+1)<=500000000/\(x+1)*(1000000000/(x+1))<=1000000000/\500000000<=x*(1000000000/(x+1)):=by
 have m0:=aoj 1000000000 (show x+1≠0 by omega);have m1:=anV 1000000000 (show 0<x+1 by omega);have md:=an1 1000000000 (x+1);have d1:1<=1000000000/(x+1):=Int.le_ediv_of_mul_le (by omega) (by omega)
 have d2:1000000000/(x+1)<=500000000:=by
  have:1000000000/(x+1)<500000001:=aoF (by omega) (by omega);omega
 generalize 1000000000/(x+1)=d at*
 refine⟨d1,d2,by omega,?_⟩;rcases anL x 500000000 with hx|hx
 ·rcases anL (x*d) 500000000 with hd|hd
  ·exfalso;have e2:(x+1)*d>=1000000000-x:=by omega
   have e3:(x+1)*(x*d)<=(x+1)*499999999:=ank (by omega) (by omega);have e4:x*(1000000000-x)<=x*((x+1)*d):=ank e2 (by omega);have e5:0<=(x-1)*(500000000-x):=an9 (by omega) (by omega);grind
  omega
 ·have:=apk hx d1 (by decide) (by omega);omega
structure Kn (w V u2 u1 u0 v1 v0:Int):Prop where
 P:∃P wl vl:Int,0<P/\0<=wl/\wl<P/\0<=vl/\vl<P/\w=wl+P*(u0+1000000000*u1+1000000000*1000000000*u2)/\V=vl+P*(v0+1000000000*v1)
 u2:0<=u2/\u2<1000000000
 u1:0<=u1/\u1<1000000000
 u0:0<=u0/\u0<1000000000
 v1:500000000<=v1/\v1<1000000000
 v0:0<=v0/\v0<1000000000
 lt:w<V*1000000000
section
variable {w V u2 u1 u0 v1 v0:Int} (h:Kn w V u2 u1 u0 v1 v0)
include h
theorem Kn.top:u2<=v1:=by
 obtain⟨⟨P,wl,vl,p0,a1,a2,b1,b2,hw,hV⟩,⟨x1,x2⟩,⟨x3,x4⟩,⟨x5,x6⟩,⟨y1,y2⟩,⟨y3,y4⟩,hlt⟩:=h;rcases anL v1 u2 with hc|hc
 ·have e1:P*(1000000000*1000000000*(v1+1))<=P*(u0+1000000000*u1+1000000000*1000000000*u2):=ank (by omega) (by omega);have e2:P*(v0+1000000000*v1)<=P*(999999999+1000000000*v1):=ank (by omega) (by omega);grind
 omega
theorem Kn.pos:0<V:=by
 obtain⟨⟨P,wl,vl,p0,a1,a2,b1,b2,hw,hV⟩,⟨x1,x2⟩,⟨x3,x4⟩,⟨x5,x6⟩,⟨y1,y2⟩,⟨y3,y4⟩,hlt⟩:=h;have:=Int.mul_pos p0 (show 0<v0+1000000000*v1 by omega);omega
theorem Kn.great{g rest:Int}(hg:0<=g)(he:g*v1+rest=u2*1000000000+u1)(hc:rest*1000000000+u0<g*v0):w<g*V:=by
 obtain⟨⟨P,wl,vl,p0,a1,a2,b1,b2,hw,hV⟩,⟨x1,x2⟩,⟨x3,x4⟩,⟨x5,x6⟩,⟨y1,y2⟩,⟨y3,y4⟩,hlt⟩:=h;have e1:g*V=g*vl+P*(g*v0+1000000000*(g*v1)):=by rw[hV];grind
 have e2:0<=g*vl:=an9 hg b1;have e3:P*(u0+1000000000*u1+1000000000*1000000000*u2+1)<=P*(g*v0+1000000000*(g*v1)):=ank (by omega) (by omega);grind
theorem Kn.small{g rest:Int}(_hg:0<=g)(hgB:g<=1000000000)(he:g*v1+rest=u2*1000000000+u1)(hc:g*v0<=rest*1000000000+u0):g*V<w+V:=by
 obtain⟨⟨P,wl,vl,p0,a1,a2,b1,b2,hw,hV⟩,⟨x1,x2⟩,⟨x3,x4⟩,⟨x5,x6⟩,⟨y1,y2⟩,⟨y3,y4⟩,hlt⟩:=h;have e1:g*V=g*vl+P*(g*v0+1000000000*(g*v1)):=by rw[hV];grind
 have e2:g*vl<=1000000000*P:=apk hgB (by omega) b1 (by decide);have e3:P*(g*v0+1000000000*(g*v1))<=P*(u0+1000000000*u1+1000000000*1000000000*u2):=ank (by omega) (by omega);have e4:P*(1000000000*500000000)<=P*(v0+1000000000*v1):=ank (by omega) (by omega);omega
theorem Kn.first{g:Int}(hg:g=(u2*1000000000+u1)/v1):w<(g+1)*V:=by
 obtain⟨⟨P,wl,vl,p0,a1,a2,b1,b2,hw,hV⟩,⟨x1,x2⟩,⟨x3,x4⟩,⟨x5,x6⟩,⟨y1,y2⟩,⟨y3,y4⟩,hlt⟩:=h;have m1:=anV (u2*1000000000+u1) (show 0<v1 by omega);have md:=an1 (u2*1000000000+u1) v1;rw[<-hg]at md;have g0:0<=g:=by rw[hg];exact aoe (by omega) (by omega)
 have e1:(g+1)*V=(g+1)*vl+P*((g+1)*v0+1000000000*((g+1)*v1)):=by rw[hV];grind
 have e2:0<=(g+1)*vl:=an9 (by omega) b1;have e3:0<=(g+1)*v0:=an9 (by omega) y3;have e4:(g+1)*v1=v1*g+v1:=by grind
 have e5:P*(1000000000*(u2*1000000000+u1+1))<=P*((g+1)*v0+1000000000*((g+1)*v1)):=ank (by omega) (by omega)
 have e6:P*(u0+1000000000*u1+1000000000*1000000000*u2)+P<=P*(1000000000*(u2*1000000000+u1+1)):=by
  have:P*(u0+1000000000*u1+1000000000*1000000000*u2+1)<=P*(1000000000*(u2*1000000000+u1+1)):=ank (by omega) (by omega);grind
 omega
end
theorem E7{l:List Int}{m:Nat}(h:l.length=m+2):val l=val (l.take m)+pw m*(l[m]+1000000000*l[m+1]):=by grind [a8,ce]
theorem SY{l:List Int}{m:Nat}(h:l.length=m+3):val l=val (l.take m)+pw m*(l[m]+1000000000*l[m+1]+1000000000*1000000000*l[m+2]):=by grind [a8,ce]
def win(k n:Nat)(r:List Int):Int:=val ((r.drop k).take (n+1))
theorem I7{k n:Nat}{r:List Int}(h:k+n+1<=r.length)(hz:val (r.drop (k+n+1))=0):val r=val (r.take k)+pw k*win k n r:=by
 have h1:=ib r k;have h2:=ib (r.drop k) (n+1);grind [aqn,win]
theorem NM{k n:Nat}{r:List Int}(hl:Lim r)(h:k+n+1<=r.length):0<=win k n r/\win k n r<pw (n+1):=by
 have h1:=(hl.drop k).take (n+1);have h2:=b9 h1;rw[anY,apz,an0 (by omega)]at h2;exact⟨aT h1,h2⟩
theorem aij{v r:List Int}{k m:Nat}(hv:Lim v)(hvl:v.length=m+2)(hr:Lim r)(hk:k+m+3<=r.length)(htop:500000000<=v[m+1])(hlt:win k (m+2) r<val v*1000000000):
  Kn (win k (m+2) r) (val v) r[k+m+2] r[k+m+1] r[k+m] v[m+1] v[m]:=by
 have hwl:((r.drop k).take (m+2+1)).length=m+3:=by rw[anY,apz];omega
 have h3:=SY hwl;have h2:=E7 hvl;have hl1:=(hr.drop k).take (m+2+1);have g:∀j (hj:j<m+3),((r.drop k).take (m+2+1))[j]=r[k+j]:=λj hj=>by simp
 rw[g m (by omega),g (m+1) (by omega),g (m+2) (by omega)]at h3;have t1:=hl1.take m;have t2:=hv.take m;have b1:=b9 t1;have b2:=b9 t2;rw[anY,an0 (by omega)]at b1 b2;exact⟨⟨pw m,_,_,cB m,aT t1,b1,aT t2,b2,h3,h2⟩,hr.get (by omega),hr.get (by omega),hr.get (by omega),⟨htop,(hv.get (by omega)).2⟩,hv.get (by omega),hlt⟩
end
section
theorem wW{r:List Int}{k i:Nat}(y:Int):(r.set (k+i) y).take k=r.take k:=List.take_set_of_le (by omega)
theorem w8{r:List Int}{k i n:Nat}(y:Int)(h:i<=n):(r.set (k+i) y).drop (k+n+1)=r.drop (k+n+1):=List.drop_set_of_lt (by omega)
section
variable (b:List Int) (x2:Int) (v:List Int) (m:Nat) (hN:(ag (val b).toNat).length=m+2) (hv:ag (val (dig ((ag (val b).toNat).length+([u32.wrap (u64.wrap (Int.tdiv 1000000000 (u64.wrap ((u64.wrap x2)+1))))]).length) (val (ag (val b).toNat)*val ([u32.wrap (u64.wrap (Int.tdiv 1000000000 (u64.wrap ((u64.wrap x2)+1))))])))).toNat=v) (lv:Lim v) (hvl:v.length=m+2)
include hN hv lv hvl
theorem Om(k:Nat)(r0 r5:List Int)(g:Int)(hg:0<=g/\g<1000000000)(hk:k+(m+2)+1<=r0.length)(hsz:r0.length<=4000000000)(R:List RV)
  (hno:∀r,Lim r->r.length=r0.length->r.take k=r0.take k->r.drop (k+(m+2)+1)=r0.drop (k+(m+2)+1)->val r=val r0-pw k*(g*val v)->∃q,dL b x2 (k:Int) r5 g g 0 0 ((m+2+1:Nat):Int) r (iD.k q)=some R)
  (hyes:∀r,Lim r->r.length=r0.length->r.take k=r0.take k->r.drop (k+(m+2)+1)=r0.drop (k+(m+2)+1)->val r=val r0-pw k*(g*val v)+pw (k+(m+2)+1)->∃q,dL b x2 (k:Int) r5 g g 0 1 ((m+2+1:Nat):Int) r (iD.k q)=some R):
  ∀(j i:Nat) (c bo:Int) (r:List Int),i+j=m+2+1->0<=c->c<1000000000->(i=m+2+1->c=0)->0<=bo->bo<=1->Lim r->r.length=r0.length->r.take k=r0.take k->r.drop (k+(m+2)+1)=r0.drop (k+(m+2)+1)->
   val r=val r0-pw k*(g*val (v.take i))+pw (k+i)*(c+bo)->iD.Runs 8 (dg b x2 (k:Int) r5 g g c bo (i:Int) r) R:=by
 have e1:i64.wrap ((k:Int)+((m+2:Nat):Int))=((k+(m+2):Nat):Int):=by rw[aV (by omega) (by omega)];simp
 have e2:i64.wrap (((k+(m+2):Nat):Int)+1)=((k+(m+2)+1:Nat):Int):=bW (by omega);have e3:k+(m+2)+1-k=m+2+1:=by omega
 intro j;induction j with
 |zero=>
  intro i c bo r hi c0 c1 hc b0 b1 lr hl ht hd hval;obtain rfl:i=m+2+1:=by omega
  obtain rfl:=hc rfl;rw[aog (by omega)]at hval;refine gL _ _ _ _ _ _ _ _ _ _ ?_;rcases(show bo=0\/bo=1 by omega)with rfl|rfl
  ·exact hno r lr hl ht hd (by rw[hval];simp)
  ·exact hyes r lr hl ht hd (by rw[hval];simp;rfl)
 |succ j ih=>
  intro i c bo r hi c0 c1 hc b0 b1 lr hl ht hd hval;have hir:k+i<r.length:=by omega
  have xr:=lr.get hir;have hwi:decide ((0:Int)<=(i:Int)/\(i:Int)<((m+2+1:Nat):Int))=true:=anb (by omega);have hlt:decide ((i:Int)<((m+2+1:Nat):Int))=true:=anb (by omega);have hw:=hv
  have step:∀(c' y bo':Int),0<=c'->c'<1000000000->(i+1=m+2+1->c'=0)->0<=y->y<1000000000->0<=bo'->bo'<=1->y=r[k+i]-(val (v.take (i+1))-val (v.take i))/pw i*g-c+1000000000*c'-bo+1000000000*bo'->pw i*((val (v.take (i+1))-val (v.take i))/pw i)=val (v.take (i+1))-val (v.take i)->
    iD.Runs 8 (dg b x2 (k:Int) r5 g g c' bo' ((i+1:Nat):Int) (r.set (k+i) y)) R:=by
   intro c' y bo' k0 k1 kc y0 y1 k2 k3 hy hp;refine ih (i+1) c' bo' (r.set (k+i) y) (by omega) k0 k1 kc k2 k3 (lr.set _ ⟨y0,y1⟩) (by simpa using hl) (by rw[wW];exact ht) (by rw[w8 _ (by omega)];exact hd) ?_;rw[fY hir,hval,hy,show k+(i+1)=k+i+1 by omega,ce,gh];generalize (val (v.take (i+1))-val (v.take i))/pw i=d at*
   have:val (v.take (i+1))=val (v.take i)+pw i*d:=by omega
   rw[this];grind
  by_cases hiv:i<m+2
  ·have hiv':i<v.length:=by omega
   have xv:=lv.get hiv'
   have hdv:(val (v.take (i+1))-val (v.take i))/pw i=v[i]:=by
    rw[a8 hiv',show val (v.take i)+pw i*v[i]-val (v.take i)=pw i*v[i] by omega,app _ (by have:=cB i;omega)]
   rw[hdv]at step;have hbd:=H5 (r:=0) (by decide) xv hg ⟨c0,c1⟩;have t0:0<=c+v[i]*g:=by omega
   have q0:0<=(c+v[i]*g)/1000000000/\(c+v[i]*g)/1000000000<1000000000:=by omega
   have hpv:pw i*v[i]=val (v.take (i+1))-val (v.take i):=by rw[a8 hiv'];omega
   by_cases hc2:r[k+i]<(c+v[i]*g)%1000000000+bo
   ·obtain⟨q,hq⟩:=step ((c+v[i]*g)/1000000000) (r[k+i]+1000000000-((c+v[i]*g)%1000000000+bo)) 1 q0.1 q0.2 (by omega) (by omega) (by omega) (by omega) (by omega) (by omega) hpv;refine gL _ _ _ _ _ _ _ _ _ _ ⟨q,?_⟩;unfold dL;rw[hw,hN,e1,e2,aE,aE,e3,hlt,hwi,hvl,bH hiv,aq v i,anc hiv',aE,anc hir];dsimp only
    rw[bI (x:=v[i]) (by omega) (by omega),bI (x:=v[i]*g) (by omega) (by omega),bI (x:=c+v[i]*g) (by omega) (by omega),kw t0,iZ t0,bI (x:=(c+v[i]*g)/1000000000) (by omega) (by omega),bI (x:=(c+v[i]*g)%1000000000+bo) (by omega) (by omega),bI (x:=r[k+i]) (by omega) (by omega),anb hc2,
     bI (x:=r[k+i]+1000000000) (by omega) (by omega),bI (x:=r[k+i]+1000000000-((c+v[i]*g)%1000000000+bo)) (by omega) (by omega),dh (x:=r[k+i]+1000000000-((c+v[i]*g)%1000000000+bo)) (by omega) (by omega),bW (k:=i) (by omega)]
    exact hq
   ·obtain⟨q,hq⟩:=step ((c+v[i]*g)/1000000000) (r[k+i]-((c+v[i]*g)%1000000000+bo)) 0 q0.1 q0.2 (by omega) (by omega) (by omega) (by omega) (by omega) (by omega) hpv;refine gL _ _ _ _ _ _ _ _ _ _ ⟨q,?_⟩;unfold dL;rw[hw,hN,e1,e2,aE,aE,e3,hlt,hwi,hvl,bH hiv,aq v i,anc hiv',aE,anc hir];dsimp only
    rw[bI (x:=v[i]) (by omega) (by omega),bI (x:=v[i]*g) (by omega) (by omega),bI (x:=c+v[i]*g) (by omega) (by omega),kw t0,iZ t0,bI (x:=(c+v[i]*g)/1000000000) (by omega) (by omega),bI (x:=(c+v[i]*g)%1000000000+bo) (by omega) (by omega),bI (x:=r[k+i]) (by omega) (by omega),ane hc2,
     bI (x:=r[k+i]-((c+v[i]*g)%1000000000+bo)) (by omega) (by omega),dh (x:=r[k+i]-((c+v[i]*g)%1000000000+bo)) (by omega) (by omega),bW (k:=i) (by omega)]
    exact hq
  ·have hpz:val (v.take (i+1))-val (v.take i)=0:=by rw[lA (by omega)];omega
   rw[hpz]at step;simp only[Int.zero_ediv,aqa,apt,Int.sub_zero,forall_const]at step;have m0:c%1000000000=c:=by omega
   have d0:c/1000000000=0:=by omega
   by_cases hc2:r[k+i]<c+bo
   ·obtain⟨q,hq⟩:=step 0 (r[k+i]+1000000000-(c+bo)) 1 (by omega) (by omega) (by omega) (by omega) (by omega) (by omega) (by omega) (by omega);refine gL _ _ _ _ _ _ _ _ _ _ ⟨q,?_⟩;unfold dL;rw[hw,hN,e1,e2,aE,aE,e3,hlt,hwi,hvl,b8 (show m+2<=i by omega),aE,anc hir];dsimp only
    rw[kw c0,iZ c0,m0,d0,bI (x:=0) (by omega) (by omega),bI (x:=c+bo) (by omega) (by omega),bI (x:=r[k+i]) (by omega) (by omega),anb hc2,
     bI (x:=r[k+i]+1000000000) (by omega) (by omega),bI (x:=r[k+i]+1000000000-(c+bo)) (by omega) (by omega),dh (x:=r[k+i]+1000000000-(c+bo)) (by omega) (by omega),bW (k:=i) (by omega)]
    exact hq
   ·obtain⟨q,hq⟩:=step 0 (r[k+i]-(c+bo)) 0 (by omega) (by omega) (by omega) (by omega) (by omega) (by omega) (by omega) (by omega);refine gL _ _ _ _ _ _ _ _ _ _ ⟨q,?_⟩;unfold dL;rw[hw,hN,e1,e2,aE,aE,e3,hlt,hwi,hvl,b8 (show m+2<=i by omega),aE,anc hir];dsimp only
    rw[kw c0,iZ c0,m0,d0,bI (x:=0) (by omega) (by omega),bI (x:=c+bo) (by omega) (by omega),bI (x:=r[k+i]) (by omega) (by omega),ane hc2,
     bI (x:=r[k+i]-(c+bo)) (by omega) (by omega),dh (x:=r[k+i]-(c+bo)) (by omega) (by omega),bW (k:=i) (by omega)]
    exact hq
end
end
section
section
variable (b:List Int) (x2:Int) (v:List Int) (m:Nat) (hN:(ag (val b).toNat).length=m+2) (hv:ag (val (dig ((ag (val b).toNat).length+([u32.wrap (u64.wrap (Int.tdiv 1000000000 (u64.wrap ((u64.wrap x2)+1))))]).length) (val (ag (val b).toNat)*val ([u32.wrap (u64.wrap (Int.tdiv 1000000000 (u64.wrap ((u64.wrap x2)+1))))])))).toNat=v) (lv:Lim v) (hvl:v.length=m+2)
include hN hv lv hvl
theorem Nc(k:Nat)(r0 r5:List Int)(f:Int)(hk:k+(m+2)+1<=r0.length)(hsz:r0.length<=4000000000)(R:List RV)
  (hend:∀r c,Lim r->r.length=r0.length->r.take k=r0.take k->r.drop (k+(m+2)+1)=r0.drop (k+(m+2)+1)->0<=c->c<=1->val r=val r0+pw k*val v-pw (k+(m+2)+1)*c->∃q,fh b x2 (k:Int) r5 f c ((m+2+1:Nat):Int) r (iD.k q)=some R):
  ∀(j i:Nat) (c:Int) (r:List Int),i+j=m+2+1->0<=c->c<=1->Lim r->r.length=r0.length->r.take k=r0.take k->r.drop (k+(m+2)+1)=r0.drop (k+(m+2)+1)->
   val r=val r0+pw k*val (v.take i)-pw (k+i)*c->iD.Runs 5 (dS b x2 (k:Int) r5 f c (i:Int) r) R:=by
 have e1:i64.wrap ((k:Int)+((m+2:Nat):Int))=((k+(m+2):Nat):Int):=by rw[aV (by omega) (by omega)];simp
 have e2:i64.wrap (((k+(m+2):Nat):Int)+1)=((k+(m+2)+1:Nat):Int):=bW (by omega);have e3:k+(m+2)+1-k=m+2+1:=by omega
 intro j;induction j with
 |zero=>
  intro i c r hi c0 c1 lr hl ht hd hval;obtain rfl:i=m+2+1:=by omega
  rw[aog (by omega)]at hval;refine gN _ _ _ _ _ _ _ _ ?_;exact hend r c lr hl ht hd c0 c1 hval
 |succ j ih=>
  intro i c r hi c0 c1 lr hl ht hd hval;have hir:k+i<r.length:=by omega
  have xr:=lr.get hir;have hwi:decide ((0:Int)<=(i:Int)/\(i:Int)<((m+2+1:Nat):Int))=true:=anb (by omega);have hlt:decide ((i:Int)<((m+2+1:Nat):Int))=true:=anb (by omega);have hw:=hv
  have step:∀(c' y d:Int),0<=c'->c'<=1->0<=y->y<1000000000->y=r[k+i]+c+d-1000000000*c'->val (v.take (i+1))=val (v.take i)+pw i*d->
    iD.Runs 5 (dS b x2 (k:Int) r5 f c' ((i+1:Nat):Int) (r.set (k+i) y)) R:=by
   intro c' y d k0 k1 y0 y1 hy hp;refine ih (i+1) c' (r.set (k+i) y) (by omega) k0 k1 (lr.set _ ⟨y0,y1⟩) (by simpa using hl) (by rw[wW];exact ht) (by rw[w8 _ (by omega)];exact hd) ?_;rw[fY hir,hval,hy,hp,show k+(i+1)=k+i+1 by omega,ce,gh];grind
  by_cases hiv:i<m+2
  ·have hiv':i<v.length:=by omega
   have xv:=lv.get hiv';have hpv:=a8 hiv';by_cases hc2:r[k+i]+c+v[i]>=1000000000
   ·obtain⟨q,hq⟩:=step 1 (r[k+i]+c+v[i]-1000000000) v[i] (by omega) (by omega) (by omega) (by omega) (by omega) hpv;refine gN _ _ _ _ _ _ _ _ ⟨q,?_⟩;unfold fh;rw[hw,hN,e1,e2,aE,aE,e3,hlt,hwi,hvl,bH hiv,aq v i,anc hiv',aE,anc hir];dsimp only;rw[dh (x:=r[k+i]+c) (by omega) (by omega),dh (x:=r[k+i]+c+v[i]) (by omega) (by omega),anb hc2,dh (x:=r[k+i]+c+v[i]-1000000000) (by omega) (by omega),bW (k:=i) (by omega)];exact hq
   ·obtain⟨q,hq⟩:=step 0 (r[k+i]+c+v[i]) v[i] (by omega) (by omega) (by omega) (by omega) (by omega) hpv;refine gN _ _ _ _ _ _ _ _ ⟨q,?_⟩;unfold fh;rw[hw,hN,e1,e2,aE,aE,e3,hlt,hwi,hvl,bH hiv,aq v i,anc hiv',aE,anc hir];dsimp only;rw[dh (x:=r[k+i]+c) (by omega) (by omega),dh (x:=r[k+i]+c+v[i]) (by omega) (by omega),ane hc2,bW (k:=i) (by omega)];exact hq
  ·have hpz:val (v.take (i+1))=val (v.take i)+pw i*0:=by rw[lA (by omega)];simp
   by_cases hc2:r[k+i]+c>=1000000000
   ·obtain⟨q,hq⟩:=step 1 (r[k+i]+c-1000000000) 0 (by omega) (by omega) (by omega) (by omega) (by omega) hpz;refine gN _ _ _ _ _ _ _ _ ⟨q,?_⟩;unfold fh;rw[hw,hN,e1,e2,aE,aE,e3,hlt,hwi,hvl,b8 (show m+2<=i by omega),aE,anc hir];dsimp only;rw[dh (x:=r[k+i]+c) (by omega) (by omega),anb hc2,dh (x:=r[k+i]+c-1000000000) (by omega) (by omega),bW (k:=i) (by omega)];exact hq
   ·obtain⟨q,hq⟩:=step 0 (r[k+i]+c) 0 (by omega) (by omega) (by omega) (by omega) (by omega) hpz;refine gN _ _ _ _ _ _ _ _ ⟨q,?_⟩;unfold fh;rw[hw,hN,e1,e2,aE,aE,e3,hlt,hwi,hvl,b8 (show m+2<=i by omega),aE,anc hir];dsimp only;rw[dh (x:=r[k+i]+c) (by omega) (by omega),ane hc2,bW (k:=i) (by omega)];exact hq
theorem Hv(k:Nat)(r1 r5:List Int)(hk:k+m+3<=r1.length)(hsz:r1.length<=4000000000)(R:List RV)(K:Kn (win k (m+2) r1) (val v) r1[k+m+2] r1[k+m+1] r1[k+m] v[m+1] v[m])
  (hafter:∀g,0<=g->g<1000000000->win k (m+2) r1<(g+1)*val v->g*val v<win k (m+2) r1+val v->iD.Runs 8 (dg b x2 (k:Int) r5 g g 0 0 0 r1) R):
  ∀(fuel:Nat) (g rest:Int),g<=(fuel:Int)->0<=g->g<=2000000000->0<=rest->rest<1000000000->g*v[m+1]+rest=r1[k+m+2]*1000000000+r1[k+m+1]->win k (m+2) r1<(g+1)*val v->iD.Runs 49 (pS b x2 (k:Int) r1 r5 g rest) R:=by
 have _lv:=lv;have e1:i64.wrap ((k:Int)+((m+2:Nat):Int))=((k+m+2:Nat):Int):=by rw[aV (by omega) (by omega)];simp;omega
 have e2:i64.wrap (((k+m+2:Nat):Int)+1)=((k+m+3:Nat):Int):=by rw[aV (by omega) (by omega)];simp;omega
 have e3:i64.wrap (((m+2:Nat):Int)-1)=((m+1:Nat):Int):=by rw[aV (by omega) (by omega)];omega
 have e4:i64.wrap (((m+2:Nat):Int)-2)=((m:Nat):Int):=by rw[aV (by omega) (by omega)];omega
 have e5:i64.wrap (((k+m+2:Nat):Int)-2)=((k+m:Nat):Int):=by rw[aV (by omega) (by omega)];omega
 have hsl:decide ((0:Int)<=(k:Int)/\(k:Int)<=((k+m+3:Nat):Int)/\((k+m+3:Nat):Int)<=(r1.length:Int))=true:=anb (by omega);have hV:=K.pos;have htop:=K.top;have ku2:=K.u2;have ku1:=K.u1;have ku0:=K.u0;have kv1:=K.v1;have kv0:=K.v0;intro fuel;induction fuel with
 |zero=>
  intro g rest hf g0 gB r0 r1' he hlt;obtain rfl:g=0:=by omega
  obtain⟨q,hq⟩:=hafter 0 (by omega) (by omega) hlt (by have:=hlt;have:=K.small (g:=0) (rest:=rest) (by omega) (by omega) he (by omega);omega);refine r9 _ _ _ _ _ _ _ ⟨q,?_⟩;unfold oM;rw[ane (by omega),hv,hN,e1,e2,e4,e5,aq v m,anc (by omega),aq r1 (k+m),aE,anc (show k+m<r1.length by omega)];dsimp only;rw[bI (x:=v[m]) (by omega) (by omega),aqa,bI (x:=0) (by omega) (by omega),bI (x:=rest*1000000000) (by omega) (by omega),bI (x:=r1[k+m]) (by omega) (by omega),bI (x:=rest*1000000000+r1[k+m]) (by omega) (by omega),ane (by omega),hsl];exact hq
 |succ fuel ih=>
  intro g rest hf g0 gB rr0 rr1 he hlt
  have down:win k (m+2) r1<g*val v->∃q,(match decide (u64.wrap (rest+u64.wrap v[m+1])>=1000000000)with|true=>iD.k q 8 (dg b x2 (k:Int) r5 (u64.wrap (g-1)) (u64.wrap (g-1)) 0 0 0 r1)|false=>iD.k q 49 (pS b x2 (k:Int) r1 r5 (u64.wrap (g-1)) (u64.wrap (rest+u64.wrap v[m+1]))))=some R:=by
   intro hw
   have gp:1<=g:=by
    rcases anL 0 g with h|h
    ·exact h
    ·exfalso;have hg:g=0:=by omega
     subst hg;rw[aqa]at hw;obtain⟨⟨P,wl,vl,p0,a1,a2,b1,b2,hw',hV'⟩,_⟩:=K;have:=an9 (anU p0) (show 0<=r1[k+m]+1000000000*r1[k+m+1]+1000000000*1000000000*r1[k+m+2] by omega);omega
   have he':(g-1)*v[m+1]+(rest+v[m+1])=r1[k+m+2]*1000000000+r1[k+m+1]:=by rw[<-he];grind
   have hw':win k (m+2) r1<(g-1+1)*val v:=by rw[show g-1+1=g by omega];exact hw
   rw[bI (x:=v[m+1]) (by omega) (by omega),bI (x:=rest+v[m+1]) (by omega) (by omega),bI (x:=g-1) (by omega) (by omega)];by_cases hb:rest+v[m+1]>=1000000000
   ·have gl:g-1<1000000000:=by
     rcases anL (g-1) 1000000000 with h|h
     ·exact h
     ·exfalso;have e1:=anp h (show 0<=v[m+1] by omega);have e2:=anp htop (show(0:Int)<=1000000000 by decide);omega
    have e1:(g-1)*v[m]<=1000000000*1000000000:=apk (by omega) (by omega) (by omega) (by decide);obtain⟨q,hq⟩:=hafter (g-1) (by omega) gl hw' (K.small (by omega) (by omega) he' (by omega));exact⟨q,by rw[anb hb];exact hq⟩
   ·obtain⟨q,hq⟩:=ih (g-1) (rest+v[m+1]) (by omega) (by omega) (by omega) (by omega) (by omega) he' hw';exact⟨q,by rw[ane hb];exact hq⟩
  by_cases hgB:g>=1000000000
  ·obtain⟨q,hq⟩:=down (by
    have h1:=K.lt;have:=anp hgB (anU hV);rw[aoY]at h1;omega)
   refine r9 _ _ _ _ _ _ _ ⟨q,?_⟩;unfold oM;rw[anb hgB,hv,hN,e1,e2,e3,aq v (m+1),anc (show m+1<v.length by omega),hsl];exact hq
  ·have hgv:g*v[m]<=1000000000*1000000000:=apk (by omega) (by omega) (by omega) (by decide);have hgv0:0<=g*v[m]:=an9 g0 (by omega);by_cases hc:g*v[m]>rest*1000000000+r1[k+m]
   ·obtain⟨q,hq⟩:=down (K.great g0 he hc);refine r9 _ _ _ _ _ _ _ ⟨q,?_⟩;unfold oM;rw[ane hgB,hv,hN,e1,e2,e3,e4,e5,aq v m,anc (show m<v.length by omega),aq v (m+1),anc (show m+1<v.length by omega),aq r1 (k+m),aE,anc (show k+m<r1.length by omega),hsl];dsimp only;rw[bI (x:=v[m]) (by omega) (by omega),bI (x:=g*v[m]) (by omega) (by omega),bI (x:=rest*1000000000) (by omega) (by omega),bI (x:=r1[k+m]) (by omega) (by omega),bI (x:=rest*1000000000+r1[k+m]) (by omega) (by omega),anb hc];exact hq
   ·obtain⟨q,hq⟩:=hafter g g0 (by omega) hlt (K.small g0 (by omega) he (by omega));refine r9 _ _ _ _ _ _ _ ⟨q,?_⟩;unfold oM;rw[ane hgB,hv,hN,e1,e2,e4,e5,aq v m,anc (show m<v.length by omega),aq r1 (k+m),aE,anc (show k+m<r1.length by omega),hsl];dsimp only;rw[bI (x:=v[m]) (by omega) (by omega),bI (x:=g*v[m]) (by omega) (by omega),bI (x:=rest*1000000000) (by omega) (by omega),bI (x:=r1[k+m]) (by omega) (by omega),bI (x:=rest*1000000000+r1[k+m]) (by omega) (by omega),ane hc];exact hq
end
end
section
section
variable (b:List Int) (x2:Int) (v:List Int) (m:Nat) (hN:(ag (val b).toNat).length=m+2) (hv:ag (val (dig ((ag (val b).toNat).length+([u32.wrap (u64.wrap (Int.tdiv 1000000000 (u64.wrap ((u64.wrap x2)+1))))]).length) (val (ag (val b).toNat)*val ([u32.wrap (u64.wrap (Int.tdiv 1000000000 (u64.wrap ((u64.wrap x2)+1))))])))).toNat=v) (lv:Lim v) (hvl:v.length=m+2)
include hN hv lv hvl
set_option maxHeartbeats 2000000 in
theorem PV(sc:Int)(hsc:u32.wrap (u64.wrap (Int.tdiv 1000000000 (u64.wrap ((u64.wrap x2)+1))))=sc)(hs1:1<=sc)(hs2:sc<=500000000)(htop:500000000<=v[m+1])(A:Int):
  ∀(M:Nat) (r5 r1:List Int),Lim r5->Lim r1->r1.length=r5.length+(m+2)->r1.length<=1000000000->M<=r5.length->val v*val r5+val r1=A->(∀j (hj:j<r5.length),j<M->r5[j]=0)->val r1<val v*pw M->
   ∃qL rL,(Lim qL/\Lim rL/\qL.length=r5.length/\rL.length<=m+2/\val qL=A/val v/\val rL=A%val v/sc)/\iD.Runs 34 (rG b x2 ((M:Int)-1) r5 r1) [.d aqv qL,.d aqv rL]:=by
 have hVlt:=b9 lv;rw[hvl]at hVlt
 have hV0:0<val v:=by
  rw[E7 hvl];have h1:=aT (lv.take m);have h2:=lv.get (show m<v.length by omega);have h3:=Int.mul_pos (cB m) (show 0<v[m]+1000000000*v[m+1] by omega);omega
 intro M;induction M with
 |zero=>
  intro r5 r1 l5 l1 hlen hsz hM hA hz hlt;rw[pE,apw]at hlt;have h0:=aT l1;have eQ:A/val v=val r5:=by rw[<-hA,ap9,aoX _ _ (by omega),aos h0 hlt];omega
  have eR:A%val v=val r1:=by rw[<-hA,ap9,ape];exact apo h0 hlt
  have ht:val (r1.take (m+2))=val r1:=by
   have hs:=ib r1 (m+2);rw[an0 (by omega)]at hs;have h2:=aT (l1.drop (m+2));have h3:=aT (l1.take (m+2));rcases anL 0 (val (r1.drop (m+2)))with hc|hc
   ·have:=ank (show 1<=val (r1.drop (m+2)) by omega) (anU (cB (m+2)));omega
   ·have e:val (r1.drop (m+2))=0:=by omega
    rw[e]at hs;omega
  have hlX:(ag (val r1).toNat).length<=m+2:=dJ (by omega);have hX:=bG (val r1).toNat
  have hXv:val (ag (val r1).toNat)=val r1:=by omega
  have hd0:0<=val r1/sc:=aoe h0 (by omega);have hd1:val r1/sc<=val r1:=ao3 _ h0;have hXl:=b9 (cd (val r1).toNat);refine⟨r5,dig (ag (val r1).toNat).length (val r1/sc),⟨l5,oS _ _,rfl,by rw[jV];exact hlX,eQ.symm,by rw[eR,jr _ _ hd0 (by omega)]⟩,AV _ _ _ _ _ ⟨0,?_⟩⟩;unfold wJ
  rw[ane (by omega),hN,hsc,aE,show(0:Int).toNat=0 from rfl,Nat.sub_zero,aoT,anb (show(0:Int)<=0/\(0:Int)<=((m+2:Nat):Int)/\((m+2:Nat):Int)<=(r1.length:Int) by omega),ht,hXv,
   anb (show aU (r1.take (m+2)) from⟨l1.take _,by rw[anY];omega⟩),anb (show Fa (ag (val r1).toNat) sc from⟨⟨cd _,by omega⟩,hs1,by omega⟩)]
 |succ k ih=>
  intro r5 r1 l5 l1 hlen hsz hM hA hz hlt;have hk3:k+(m+2)+1<=r1.length:=by omega
  have hP:=cB k;have hr0:=aT l1
  have hz1:val (r1.drop (k+(m+2)+1))=0:=by
   have hs:=ib r1 (k+(m+2)+1);rw[an0 hk3]at hs;have h2:=aT (l1.drop (k+(m+2)+1));have h3:=aT (l1.take (k+(m+2)+1));rcases anL 0 (val (r1.drop (k+(m+2)+1)))with hc|hc
   ·exfalso;have e1:=ank (show 1<=val (r1.drop (k+(m+2)+1)) by omega) (anU (cB (k+(m+2)+1)));have e2:=anp (anU hVlt) (anU (cB (k+1)));rw[<-gh,show m+2+(k+1)=k+(m+2)+1 by omega]at e2;omega
   ·omega
  have hw1:=I7 hk3 hz1;have hwb:=NM l1 hk3
  have hwlt:win k (m+2) r1<val v*1000000000:=by
   rcases anL (win k (m+2) r1) (val v*1000000000)with hc|hc
   ·exact hc
   ·exfalso;have e1:=ank hc (anU hP);have e2:=aT (l1.take k);have e3:val v*pw (k+1)=pw k*(val v*1000000000):=by rw[ce];grind
    omega
  have K:=aij lv hvl l1 (show k+m+3<=r1.length by omega) htop hwlt;have htk:=b9 (l1.take k);rw[anY,an0 (by omega)]at htk;have htk0:=aT (l1.take k);have hk5:k<r5.length:=by omega
  have hr5:=hz k hk5 (by omega);have e1:i64.wrap ((k:Int)+((m+2:Nat):Int))=((k+(m+2):Nat):Int):=by rw[aV (by omega) (by omega)];simp
  have e2:i64.wrap (((k+(m+2):Nat):Int)+1)=((k+(m+2)+1:Nat):Int):=bW (by omega);have e3:k+(m+2)+1-k=m+2+1:=by omega
  have fin:∀(d:Int) (r:List Int),0<=d->d<1000000000->Lim r->r.length=r1.length->r.take k=r1.take k->r.drop (k+(m+2)+1)=r1.drop (k+(m+2)+1)->val r=val r1-pw k*(d*val v)->win k (m+2) r1-d*val v<val v->
    ∃qL rL,(Lim qL/\Lim rL/\qL.length=r5.length/\rL.length<=m+2/\val qL=A/val v/\val rL=A%val v/sc)/\iD.Runs 34 (rG b x2 ((k:Int)-1) (r5.set k d) r) [.d aqv qL,.d aqv rL]:=by
   intro d r d0 d1 lr hl ht hd hval hwd
   obtain⟨qL,rL,⟨a1,a2,a3,a4,a5,a6⟩,a7⟩:=ih (r5.set k d) r (l5.set k ⟨d0,d1⟩) lr (by simp;omega) (by omega) (by simp;omega) (by
     rw[fY hk5,hr5,hval,<-hA];grind) (λj hj hjk=>by rw[aoy (by omega)];exact hz j (by simpa using hj) (by omega)) (by
     rw[hval,hw1];have e4:=ank (show win k (m+2) r1-d*val v<=val v-1 by omega) (anU hP);rw[Int.mul_sub,Int.mul_sub,apw]at e4;rw[aoY (val v)];omega)
   exact⟨qL,rL,⟨a1,a2,by simpa using a3,a4,a5,a6⟩,a7⟩
  have wof:∀(r:List Int) (x:Int),Lim r->r.length=r1.length->r.take k=r1.take k->r.drop (k+(m+2)+1)=r1.drop (k+(m+2)+1)->val r=val r1+pw k*x->win k (m+2) r=win k (m+2) r1+x/\0<=win k (m+2) r/\win k (m+2) r<pw (m+2+1):=by
   intro r x lr hl ht hd hval;have h1:=I7 (k:=k) (n:=m+2) (r:=r) (by omega) (by rw[hd];exact hz1);rw[ht]at h1;have h2:=NM (k:=k) (n:=m+2) lr (by omega);refine⟨?_,h2⟩;have:pw k*win k (m+2) r=pw k*(win k (m+2) r1+x):=by rw[aqs];omega
   exact Int.eq_of_mul_eq_mul_left (by omega) this
  have hpw:pw (k+(m+2)+1)=pw k*pw (m+2+1):=by rw[<-gh];congr 1
  have xt:=K.u2;have xt1:=K.u1;have xv:=K.v1;have hg0:0<=(r1[k+m+2]*1000000000+r1[k+m+1])/v[m+1]:=aoe (by omega) (by omega)
  have hg1:(r1[k+m+2]*1000000000+r1[k+m+1])/v[m+1]<2000000000:=aoF (by omega) (by
   have:=ank xv.1 (show(0:Int)<=2000000000 by decide);omega)
  have md:=an1 (r1[k+m+2]*1000000000+r1[k+m+1]) v[m+1];have m0:=aoj (r1[k+m+2]*1000000000+r1[k+m+1]) (show v[m+1]≠0 by omega);have m1:=anV (r1[k+m+2]*1000000000+r1[k+m+1]) (show 0<v[m+1] by omega)
  have key:∃qL rL,(Lim qL/\Lim rL/\qL.length=r5.length/\rL.length<=m+2/\val qL=A/val v/\val rL=A%val v/sc)/\iD.Runs 49 (pS b x2 (k:Int) r1 r5 ((r1[k+m+2]*1000000000+r1[k+m+1])/v[m+1]) ((r1[k+m+2]*1000000000+r1[k+m+1])%v[m+1])) [.d aqv qL,.d aqv rL]:=by
   have hex:∃g,0<=g/\g<1000000000/\g*val v<=win k (m+2) r1/\win k (m+2) r1<(g+1)*val v:=by
    have h1:=an1 (win k (m+2) r1) (val v);have h2:=aoj (win k (m+2) r1) (show val v≠0 by omega);have h3:=anV (win k (m+2) r1) hV0;refine⟨win k (m+2) r1/val v,aoe hwb.1 (by omega),aoF hV0 (by rw[aoY];exact hwlt),?_,?_⟩
    ·rw[aoY];omega
    ·rw[Int.add_mul,aor,aoY];omega
   obtain⟨d,d0,d1,d2,d3⟩:=hex;have dv0:0<=d*val v:=an9 d0 (by omega)
   have hrow:∃r,Lim r/\r.length=r1.length/\r.take k=r1.take k/\r.drop (k+(m+2)+1)=r1.drop (k+(m+2)+1)/\val r=val r1-pw k*(d*val v):=by
    refine⟨r1.take k++(dig (m+2+1) (win k (m+2) r1-d*val v)++r1.drop (k+(m+2)+1)),(l1.take k).append ((oS _ _).append (l1.drop _)),by simp[jV];omega,?_,?_,?_⟩
    ·rw[List.take_append_of_le_length (by simp;omega),aqo,Nat.min_self]
    ·rw[<-anD,List.drop_append_of_le_length (by simp[jV];omega),an7 (by simp[jV];omega),aqb]
    ·rw[dO,dO,hz1,jr _ _ (by omega) (by omega),anY,an0 (by omega),hw1];grind
   obtain⟨rr,q1,q2,q3,q4,q5⟩:=hrow;obtain⟨qL,rL,hf,hrun⟩:=fin d rr d0 d1 q1 q2 q3 q4 q5 (by rw[Int.add_mul,aor]at d3;omega);refine⟨qL,rL,hf,Hv b x2 v m hN hv lv hvl k r1 r5 (by omega) (by omega) _ K ?_ 2000000000 _ _ (by omega) hg0 (by omega) m0 (by omega) (by rw[aoY];omega) (K.first rfl)⟩;intro g g0 g1 hg2 hg3;have same:∀r,Lim r->r.length=r1.length->r.take k=r1.take k->r.drop (k+(m+2)+1)=r1.drop (k+(m+2)+1)->val r=val r1-pw k*(d*val v)->r=rr:=λr a1 a2 a3 a4 a5=>Cu a1 q1 (by omega) (by omega);refine Om b x2 v m hN hv lv hvl k r1 r5 g ⟨g0,g1⟩ hk3 (by omega) _ ?_ ?_ (m+2+1) 0 0 0 r1 (by omega) (by omega) (by omega) (λ_=>rfl) (by omega) (by omega) l1 rfl rfl rfl (by simp[val])
   ·intro r a1 a2 a3 a4 a5;obtain⟨w1,w2,w3⟩:=wof r (-(g*val v)) a1 a2 a3 a4 (by rw[a5,ap6];omega)
    have hgd:g=d:=by
     have h1:¬g<d:=λhc=>by
      have:=anp (show g+1<=d by omega) (anU hV0);omega
     have h2:¬d<g:=λhc=>by
      have:=anp (show d+1<=g by omega) (anU hV0);omega
     omega
    subst hgd;rw[same r a1 a2 a3 a4 a5];obtain⟨q,hq⟩:=hrun;refine⟨q,?_⟩;unfold dL;rw[hv,hN,e1,e2,aE,aE,e3,b8 (ani _),ane (show ¬(0:Int)>0 by decide),aq r5 k,anc hk5,dh (x:=g) (by omega) (by omega),aV (x:=(k:Int)-1) (by omega) (by omega)];exact hq
   ·intro r a1 a2 a3 a4 a5;obtain⟨w1,w2,w3⟩:=wof r (-(g*val v)+pw (m+2+1)) a1 a2 a3 a4 (by rw[a5,hpw,aqs,ap6];omega);have hwg:win k (m+2) r1<g*val v:=by omega
    have hgd:g=d+1:=by
     have h1:¬g<d+1:=λhc=>by
      have:=anp (show g<=d by omega) (anU hV0);omega
     have h2:¬d+1<g:=λhc=>by
      have:=anp (show d+2<=g by omega) (anU hV0);rw[Int.add_mul]at this d3;omega
     omega
    subst hgd
    have hres:iD.Runs 5 (dS b x2 (k:Int) r5 (d+1) 0 0 r) [.d aqv qL,.d aqv rL]:=by
     refine Nc b x2 v m hN hv lv hvl k r r5 (d+1) (by omega) (by omega) _ ?_ (m+2+1) 0 0 r (by omega) (by omega) (by omega) a1 rfl rfl rfl (by simp[val]);intro r' c b1 b2 b3 b4 c0 c1 b5;obtain⟨u1,u2,u3⟩:=wof r' (-((d+1)*val v)+pw (m+2+1)+val v-pw (m+2+1)*c) b1 (by omega) (b3.trans a3) (b4.trans a4) (by rw[b5,a5,hpw,Int.mul_sub,aqs,aqs,ap6];grind)
     have hc:c=1:=by
      rcases(show c=0\/c=1 by omega)with hc|hc
      ·exfalso;subst hc;rw[apt,Int.sub_zero]at u1;rw[Int.add_mul,aor]at u1;omega
      ·exact hc
     subst hc;rw[same r' b1 (by omega) (b3.trans a3) (b4.trans a4) (by rw[b5,a5];grind)];obtain⟨q,hq⟩:=hrun;refine⟨q,?_⟩;unfold fh;rw[hN,e1,e2,aE,aE,e3,b8 (ani _),aq r5 k,anc hk5,show d+1-1=d by omega,bI (x:=d) (by omega) (by omega),dh (x:=d) (by omega) (by omega),aV (x:=(k:Int)-1) (by omega) (by omega)];exact hq
    obtain⟨q,hq⟩:=hres;refine⟨q,?_⟩;unfold dL;rw[hv,hN,e1,e2,aE,aE,e3,b8 (ani _),anb (show(1:Int)>0 by decide),anb (show(0:Int)<=(k:Int)/\(k:Int)<=((k+(m+2)+1:Nat):Int)/\((k+(m+2)+1:Nat):Int)<=(r.length:Int) by omega)];exact hq
  obtain⟨qL,rL,hf,q,hq⟩:=key;refine⟨qL,rL,hf,AV _ _ _ _ _ ⟨q,?_⟩⟩;have e4:i64.wrap (((k+(m+2):Nat):Int)-1)=((k+m+1:Nat):Int):=by rw[aV (by omega) (by omega)];omega
  have e5:i64.wrap (((m+2:Nat):Int)-1)=((m+1:Nat):Int):=by rw[aV (by omega) (by omega)];omega
  unfold wJ;rw[show((k+1:Nat):Int)-1=(k:Int) by omega,anb (by omega),hv,hN,e1,e4,e5,aq r1 (k+(m+2)),aE,anc (show k+(m+2)<r1.length by omega),aq r1 (k+m+1),aE,anc (show k+m+1<r1.length by omega),aq v (m+1),anc (show m+1<v.length by omega)];dsimp only;rw[bI (x:=v[m+1]) (by omega) (by omega),ane (show ¬v[m+1]=0 by omega)];dsimp only;have e6:r1[k+(m+2)]=r1[k+m+2]:=rfl;rw[e6,bI (x:=r1[k+m+2]) (by omega) (by omega),bI (x:=r1[k+m+1]) (by omega) (by omega),bI (x:=r1[k+m+2]*1000000000) (by omega) (by omega),bI (x:=r1[k+m+2]*1000000000+r1[k+m+1]) (by omega) (by omega),iZ (by omega),kw (by omega),bI (x:=(r1[k+m+2]*1000000000+r1[k+m+1])/v[m+1]) (by omega) (by omega)];exact hq
end
end
end Go.Proofs.YtagbmoohboleaaaGreat
end
