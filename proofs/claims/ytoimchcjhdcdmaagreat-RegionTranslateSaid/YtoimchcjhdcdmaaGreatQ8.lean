/- integer: trim, signed, split, FromInt64, compare. -/
import Derived.Test.YtoimchcjhdcdmaaGreatQ7
noncomputable section
namespace Go.Proofs.YtoimchcjhdcdmaaGreat
open Go.RowKit Go.IntKind
open Bool renaming true->T',false->F'
open Option renaming some->S',none->N'
open Decidable renaming decide->D'
theorem ao2:type_of% @Int.mul_le_mul_of_nonneg_right:=@Int.mul_le_mul_of_nonneg_right
theorem apl:type_of% @Int.lt_or_le:=@Int.lt_or_le
theorem apC:type_of% @Int.mul_ediv_add_emod:=@Int.mul_ediv_add_emod
theorem apE:type_of% @Int.emod_lt_of_pos:=@Int.emod_lt_of_pos
theorem apG:type_of% @IntKind.wrap_u64:=@IntKind.wrap_u64
theorem apN:type_of% @Int.mul_nonneg:=@Int.mul_nonneg
theorem apQ:type_of% @Int.ediv_nonneg:=@Int.ediv_nonneg
theorem apZ:type_of% @Int.ediv_eq_zero_of_lt:=@Int.ediv_eq_zero_of_lt
theorem ap4:type_of% @Int.emod_nonneg:=@Int.emod_nonneg
theorem ap6:type_of% @List.take_length:=@List.take_length
theorem aqf:type_of% @Bool.true_and:=@Bool.true_and
theorem aqg:type_of% @List.getElem_set_ne:=@List.getElem_set_ne
theorem aqo:type_of% @Int.ediv_lt_of_lt_mul:=@Int.ediv_lt_of_lt_mul
theorem aqx:type_of% @Int.tmod_eq_emod_of_nonneg:=@Int.tmod_eq_emod_of_nonneg
theorem aqB:type_of% @List.drop_zero:=@List.drop_zero
theorem aqF:type_of% @Int.add_mul_ediv_left:=@Int.add_mul_ediv_left
theorem aqG:type_of% @Int.mul_comm:=@Int.mul_comm
theorem aqY:type_of% @Int.add_mul_emod_self_left:=@Int.add_mul_emod_self_left
theorem aq8:type_of% @Int.mul_le_mul:=@Int.mul_le_mul
theorem arb:type_of% @Int.emod_eq_of_lt:=@Int.emod_eq_of_lt
theorem arc:type_of% @Int.mul_ediv_cancel_left:=@Int.mul_ediv_cancel_left
theorem arj:type_of% @List.drop_length:=@List.drop_length
theorem ark:type_of% @List.length_drop:=@List.length_drop
theorem arr:type_of% @Int.lt_of_lt_of_le:=@Int.lt_of_lt_of_le
theorem arx:type_of% @Int.mul_one:=@Int.mul_one
theorem ary:type_of% @Int.mul_zero:=@Int.mul_zero
theorem arU:type_of% @Int.add_comm:=@Int.add_comm
theorem ar3:type_of% @Int.one_mul:=@Int.one_mul
theorem ar6:type_of% @Bool.false_and:=@Bool.false_and
theorem asa:type_of% @Int.add_zero:=@Int.add_zero
theorem asf:type_of% @Int.mul_add:=@Int.mul_add
def aR(l:List Int):Prop:=Lim l/\l.length<=1000000000
instance (l:List Int):Decidable (aR l):=by unfold aR;infer_instance
theorem M3{n:Nat}(h1:0<n)(h2:n<=9223372036854775807):i64.wrap ((n:Int)-1)=((n-1:Nat):Int):=by grind [aM]
theorem AT:∀{l:List Int},(∀j (hj:j<l.length),l[j]=0)->val l=0
 |[],_=>rfl
 |x::l,h=>by
  have h0:=h 0 (by simp);have:=AT (l:=l) λj hj=>h (j+1) (by simpa using hj);simp only[List.getElem_cons_zero]at h0;simp only[val];omega
theorem xW{l:List Int}{n:Nat}(h:∀j (hj:j<l.length),n<=j->l[j]=0):val (l.take n)=val l:=by
 rw[fO l n,AT (l:=l.drop n) λj hj=>by
  rw[List.getElem_drop];exact h _ _ (by omega)]
 simp
theorem mC{l:List Int}{n:Nat}(hl:Lim l)(hn:n<=l.length)(h:∀j (hj:j<l.length),n<=j->l[j]=0)(hz:n=0\/∃hj:n-1<l.length,l[n-1]≠0):l.take n=ae (val l).toNat:=by
 rw[<-xW h];apply p7;refine⟨hl.take n,?_⟩;grind
def ac2:NT:=[((265,4),{keep:=[0],pure_:=[(0,.int .u32)],hl:=0})]
def RG:Ctx:=CX [] ac2
def Cc(s0:List Int):Cfg:=⟨265,[.blk 0,.seq 13],[(0,.d asj s0)],[],0,[]⟩
def ais(a:List Int)(k:KT):OLR:=k 4 (Cc a)
theorem aiQ(a:List Int):RS RG 265 [.d asj a] (ais a):=rsX
def yH(s0:List Int)(k:KT):OLR:=match D' ((s0.length:Int)>0)with|T'=>(match aH s0 (i64.wrap ((s0.length:Int)-1))with|S' x1=>(match x1==0 with|T'=>(og (D' ((0:Int)<=0/\0<=i64.wrap ((s0.length:Int)-1)/\i64.wrap ((s0.length:Int)-1)<=(s0.length:Int))) (k 4 (Cc ((s0.take (i64.wrap ((s0.length:Int)-1)).toNat).drop (0:Int).toNat))))|F'=>S' [RV.d asj s0])|N'=>N')|F'=>S' [RV.d asj s0]
theorem zH(s0:List Int):RN RG 4 (Cc s0) (yH s0):=rnX
def adC:NT:=[((189,6),{keep:=[0,1,4,5],hl:=1})]
def Tf:Ctx:=CX [] adC
def C0(neg:Bool)(l:List Int)(s5:Int):Cfg:=⟨189,[.blk 0,.seq 15],[(0,SB neg),(1,.d asj l),(4,.box 0 0),(5,SI s5)],[.box 36 [SB F',.nil]],0,[]⟩
def amd(neg:Bool)(l:List Int)(k:KT):OLR:=k 6 (C0 neg l (l.length:Int))
theorem amV(neg:Bool)(l:List Int):RS Tf 189 [SB neg,.d asj l] (amd neg l):=rsX
def sQ(neg:Bool)(l:List Int)(s5:Int)(k:KT):OLR:=match D' (s5>0)with|T'=>(match aH l (i64.wrap (s5-1))with|S' x1=>(match x1==0 with|T'=>k 6 (C0 neg l (i64.wrap (s5-1)))|F'=>(match neg with|T'=>(og (D' ((0:Int)<=0/\0<=s5/\s5<=s5/\s5<=(l.length:Int))) (S' [RV.d y3Y (D' (s5>0),(l.take (s5).toNat).drop (0:Int).toNat)]))|F'=>(og (D' ((0:Int)<=0/\0<=s5/\s5<=s5/\s5<=(l.length:Int))) (S' [RV.d y3Y (F',(l.take (s5).toNat).drop (0:Int).toNat)]))))|N'=>N')|F'=>(match neg with|T'=>(og (D' ((0:Int)<=0/\0<=s5/\s5<=s5/\s5<=(l.length:Int))) (S' [RV.d y3Y (D' (s5>0),(l.take (s5).toNat).drop (0:Int).toNat)]))|F'=>(og (D' ((0:Int)<=0/\0<=s5/\s5<=s5/\s5<=(l.length:Int))) (S' [RV.d y3Y (F',(l.take (s5).toNat).drop (0:Int).toNat)])))
theorem yr(neg:Bool)(l:List Int)(s5:Int):RN Tf 6 (C0 neg l s5) (sQ neg l s5):=rnX
def ajV:Ctx:=CX [] []
def aaH(u:Int)(_k:KT):OLR:=S' [RV.new 194 asl ([u32.wrap (Int.tmod u 1000000000),u32.wrap (Int.tmod (u64.wrap (Int.tdiv u 1000000000)) 1000000000),u32.wrap (u64.wrap (Int.tdiv (u64.wrap (Int.tdiv u 1000000000)) 1000000000))])]
theorem ak6(u:Int):RS ajV 267 [.d (.int .u64) u] (aaH u):=rsX
theorem PB(l:List Int)(hl:Lim l)(hs:l.length<=1000000000):∀(n:Nat),n<=l.length->(∀j (hj:j<l.length),n<=j->l[j]=0)->RG.Runs 4 (Cc (l.take n)) [.d asj (ae (val l).toNat)]:=by
 intro n;induction n with
 |zero=>
  intro _ h;refine zH _ ⟨0,?_⟩;rw[<-mC hl (arh _) h (.inl rfl)];rfl
 |succ n ih=>
  intro hn h;have hlen:(l.take (n+1)).length=n+1:=by rw[app,aps hn]
  have hget:(l.take (n+1))[n]?=S' l[n]:=by rw[List.getElem?_take_of_lt (by omega),aoO (by omega)]
  by_cases hz:l[n]=0
  ·obtain⟨q,hq⟩:=ih (by omega) λj hj hk=>by
    rcases Nat.eq_or_lt_of_le hk with e|e
    ·subst e;exact hz
    ·exact h j hj e
   refine zH _ ⟨q,?_⟩;unfold yH;rw[hlen,aoP (by omega),M3 (by omega) (by omega),ak,show n+1-1=n from rfl,hget];dsimp only;rw[hz,aoP (show(0:Int)<=0/\(0:Int)<=(n:Int)/\(n:Int)<=((n+1:Nat):Int) by omega),aE,arJ,aps (by omega)];exact hq
  ·refine zH _ ⟨0,?_⟩;unfold yH;rw[hlen,aoP (by omega),M3 (by omega) (by omega),ak,show n+1-1=n from rfl,hget];dsimp only;rw[show(l[n]==0)=F' by simpa using hz,<-mC hl hn h (.inr ⟨Nat.lt_of_succ_le hn,hz⟩)]
theorem Xj(a:List Int)(h:aR a):CQq7 265 [.d asj a] [.d asj (ae (val a).toNat)]:=by
 obtain⟨q,hq⟩:=PB a h.1 h.2 a.length (aoU _) (λj hj hk=>by omega);rw[ap6]at hq;exact fI (E:=[]) trivial (aiQ _ ⟨q,hq⟩)
def bZ(neg:Bool)(v:Int):Int:=bif neg then-v else v
theorem m7(neg:Bool){v:Int}(h:0<=v):ah (bZ neg v)=(neg&&D' (0<v),ae v.toNat):=by
 unfold ah bZ;cases neg
 ·simp only[cond_false,ar6];rw[aoR (by omega),show v.natAbs=v.toNat by omega]
 ·simp only[cond_true,aqf];rw[show(-v).natAbs=v.toNat by omega];by_cases h0:0<v
  ·rw[aoP h0,aoP (by omega)]
  ·rw[aoR h0,aoR (by omega)]
theorem Pm(neg:Bool)(l:List Int)(hl:Lim l)(hs:l.length<=1000000000):∀(n:Nat),n<=l.length->(∀j (hj:j<l.length),n<=j->l[j]=0)->Tf.Runs 6 (C0 neg l (n:Int)) [.d y3Y (ah (bZ neg (val l)))]:=by
 intro n;have hv:=aP hl;induction n with
 |zero=>
  intro _ h;refine yr _ _ _ ⟨0,?_⟩;rw[m7 neg hv,<-mC hl (arh _) h (.inl rfl)];have h0:val l=0:=by rw[<-xW h];rfl
  unfold sQ;rw[aoR (show ¬((0:Nat):Int)>0 by decide),aoP (show(0:Int)<=0/\(0:Int)<=((0:Nat):Int)/\((0:Nat):Int)<=((0:Nat):Int)/\((0:Nat):Int)<=(l.length:Int) by omega),h0];cases neg<;>rfl
 |succ n ih=>
  intro hn h;by_cases hz:l[n]=0
  ·obtain⟨q,hq⟩:=ih (by omega) λj hj hk=>by
    rcases Nat.eq_or_lt_of_le hk with e|e
    ·subst e;exact hz
    ·exact h j hj e
   refine yr _ _ _ ⟨q,?_⟩;unfold sQ;rw[aoP (by omega),M3 (by omega) (by omega),ak,show n+1-1=n from rfl,aoO (by omega)];dsimp only;rw[hz];exact hq
  ·refine yr _ _ _ ⟨0,?_⟩;have hct:=mC hl hn h (.inr ⟨Nat.lt_of_succ_le hn,hz⟩)
   have hpos:0<val l:=by
    rcases apl 0 (val l)with h1|h1
    ·exact h1
    ·exfalso;rw[show(val l).toNat=0 by omega,fA]at hct;have:(l.take (n+1)).length=0:=by rw[hct];rfl
     rw[app,aps hn]at this;omega
   rw[m7 neg hv,<-hct];unfold sQ;rw[aoP (show((n+1:Nat):Int)>0 by omega),M3 (by omega) (by omega),ak,show n+1-1=n from rfl,aoO (by omega)];dsimp only;rw[show(l[n]==0)=F' by simpa using hz,aoP (show(0:Int)<=0/\(0:Int)<=((n+1:Nat):Int)/\((n+1:Nat):Int)<=((n+1:Nat):Int)/\((n+1:Nat):Int)<=(l.length:Int) by omega),aoP hpos,aE];cases neg<;>rfl
theorem Yc(neg:Bool)(l:List Int)(h:aR l):CQq7 189 [.d .bool neg,.d asj l] [.d y3Y (ah (bZ neg (val l)))]:=by
 obtain⟨q,hq⟩:=Pm neg l h.1 h.2 l.length (aoU _) (λj hj hk=>by omega);exact fI (E:=[]) trivial (amV _ _ ⟨q,hq⟩)
def iw(u:Int):Prop:=0<=u/\u<18446744073709551616
instance (u:Int):Decidable (iw u):=by unfold iw;infer_instance
theorem cX{x:Int}(h1:0<=x)(h2:x<4294967296):u32.wrap x=x:=by rw[IntKind.wrap_u32];omega
theorem bH{x:Int}(h1:0<=x)(h2:x<18446744073709551616):u64.wrap x=x:=by rw[apG];omega
theorem gG{a b:Int}(h:0<=a):Int.tdiv a b=a/b:=Int.tdiv_eq_ediv_of_nonneg h
theorem ju{a b:Int}(h:0<=a):Int.tmod a b=a%b:=aqx h
theorem Wh(u:Int)(h:iw u):CQq7 267 [.d (.int .u64) u] [.new 194 asl (dig 3 u)]:=by
 refine fI (E:=[]) trivial (ak6 _ ⟨0,?_⟩);obtain⟨h1,h2⟩:=h;unfold aaH;rw[gG h1,ju h1,bH (x:=u/1000000000) (by omega) (by omega),ju (by omega),gG (a:=u/1000000000) (by omega),cX (x:=u%1000000000) (by omega) (by omega),cX (x:=u/1000000000%1000000000) (by omega) (by omega),bH (x:=u/1000000000/1000000000) (by omega) (by omega),cX (x:=u/1000000000/1000000000) (by omega) (by omega)]
 have e:dig 3 u=[u%1000000000,u/1000000000%1000000000,u/1000000000/1000000000]:=by
  simp only[dig];rw[show u/1000000000/1000000000%1000000000=u/1000000000/1000000000 by omega]
 rw[e]
def Hq:cE:=spN F' F' [asj] (λx=>D' (aR x.1)) (λx=>[RV.d asj (ae (val x.1).toNat)])
theorem Fd:SpK 265 Hq:=spX λx h=>Xj x.1 (aoQ h)
def zn:cE:=spN F' F' [.bool,asj] (λx=>D' (aR x.2.1)) (λx=>[RV.d y3Y (ah (bZ x.1 (val x.2.1)))])
theorem sV:SpK 189 zn:=spX λx h=>Yc x.1 x.2.1 (aoQ h)
def Dh:cE:=spN T' F' [(.int .u64)] (λx=>D' (iw x.1)) (λx=>[RV.new 194 asl (dig 3 x.1)])
theorem z0:SpK 267 Dh:=spX λx h=>Wh x.1 (aoQ h)
def Hm:Env:=[(265,Hq),(189,zn),(267,Dh)]
theorem Ba:EnvAll Tryz.prog Hm:=⟨Fd,sV,z0,trivial⟩
def aht:Ctx:=CX Hm []
def aap(n:Int)(_k:KT):OLR:=match D' (n<0)with|T'=>(og (D' (iw (u64.wrap (0-(u64.wrap n))))) (og (D' (aR (dig 3 (u64.wrap (0-(u64.wrap n)))))) (S' [RV.d y3Y (ah (bZ (D' (n<0)) (val (dig 3 (u64.wrap (0-(u64.wrap n)))))))])))|F'=>(og (D' (iw (u64.wrap n))) (og (D' (aR (dig 3 (u64.wrap n)))) (S' [RV.d y3Y (ah (bZ (D' (n<0)) (val (dig 3 (u64.wrap n)))))])))
theorem am7(n:Int):RS aht 269 [SI n] (aap n):=rsX
def adg:NT:=[((188,24),{keep:=[0,1,5],hl:=0})]
def Lv:Ctx:=CX Hm adg
def wZ(a b:List Int)(s5:Int):Cfg:=⟨188,[.blk 0,.seq 49],[(0,.d asj (ae (val a).toNat)),(1,.d asj (ae (val b).toNat)),(5,SI s5)],[],0,[]⟩
def Vg(a b:List Int)(k:KT):OLR:=og (D' (aR a)) (og (D' (aR b)) (match((ae (val a).toNat).length:Int) !=((ae (val b).toNat).length:Int)with|T'=>(match D' (((ae (val a).toNat).length:Int)<((ae (val b).toNat).length:Int))with|T'=>S' [RV.d ask (-1)]|F'=>S' [RV.d ask 1])|F'=>k 24 (wZ a b (i64.wrap (((ae (val a).toNat).length:Int)-1)))))
theorem ab2(a b:List Int):RS Lv 188 [.d asj a,.d asj b] (Vg a b):=rsX
def mq(a b:List Int)(s5:Int)(k:KT):OLR:=match D' (s5>=0)with|T'=>(match aH (ae (val a).toNat) s5 with|S' x1=>(match aH (ae (val b).toNat) s5 with|S' x2=>(match D' (x1<x2)with|T'=>S' [RV.d ask (-1)]|F'=>(match aH (ae (val a).toNat) s5 with|S' x3=>(match aH (ae (val b).toNat) s5 with|S' x4=>(match D' (x3>x4)with|T'=>S' [RV.d ask 1]|F'=>k 24 (wZ a b (i64.wrap (s5-1))))|N'=>N')|N'=>N'))|N'=>N')|N'=>N')|F'=>S' [RV.d ask 0]
theorem qv(a b:List Int)(s5:Int):RN Lv 24 (wZ a b s5) (mq a b s5):=rnX
def bI(n:Int):Prop:= -9223372036854775808<=n/\n<=9223372036854775807
instance (n:Int):Decidable (bI n):=by unfold bI;infer_instance
theorem xz{u:Int}(h:iw u):val (dig 3 u)=u:=ic 3 u h.1 (arr h.2 (by decide))
theorem jo{n:Nat}(h:n<=1000000000)(v:Int):aR (dig n v):=⟨nQ n v,by rw[je];exact h⟩
theorem DU(n:Int)(h:bI n):CQq7 269 [.d ask n] [.d y3Y (ah n)]:=by
 refine fI Ba (am7 _ ⟨0,?_⟩);obtain⟨h1,h2⟩:=h;unfold aap;by_cases hn:n<0
 ·have e:u64.wrap (0-u64.wrap n)= -n:=by rw[apG,apG];omega
  have hu:iw (-n):=⟨by omega,by omega⟩
  rw[aoP hn];dsimp only;rw[e,aoP hu,aoP (jo (n:=3) (by decide) (-n)),xz hu];simp[bZ]
 ·have e:u64.wrap n=n:=bH (by omega) (by omega);have hu:iw n:=⟨by omega,by omega⟩
  rw[aoR hn];dsimp only;rw[e,aoP hu,aoP (jo (n:=3) (by decide) n),xz hu];rfl
theorem Q0{l:List Int}{n:Nat}(h:n<l.length):val l=val (l.take n)+pw n*(l[n]+1000000000*val (l.drop (n+1))):=by
 rw[fO l n,aps (Nat.le_of_lt h),ao5 h];rfl
theorem Ei{a b:List Int}(ha:Lim a)(hb:Lim b){n:Nat}(h1:n<a.length)(h2:n<b.length)(hd:a.drop (n+1)=b.drop (n+1))(hlt:a[n]<b[n]):val a<val b:=by
 rw[Q0 h1,Q0 h2,hd];have k1:=bU (ha.take n);have k2:=aP (hb.take n);rw[app,aps (Nat.le_of_lt h1)]at k1;have hp:=cf n;have:=aoW (show a[n]+1000000000*val (b.drop (n+1))+1<=b[n]+1000000000*val (b.drop (n+1)) by omega) (apv hp);rw[asf,arx]at this;omega
theorem da{a b:Int}(h:a<b):b9 a b= -1:=by unfold b9;rw[aoP h];rfl
theorem cH{a b:Int}(h:b<a):b9 a b=1:=by unfold b9;rw[aoR (by omega),aoP h];rfl
theorem dU(a:Int):b9 a a=0:=by unfold b9;rw[aoR (by omega)];rfl
theorem xc{a b:Nat}(h:(ae a).length<(ae b).length):a<b:=by
 rcases apu a b with h1|h1
 ·exact h1
 ·have:=dq (n:=b) (k:=(ae a).length) (by
   have:=bU (bV a);rw[bG]at this;omega)
  omega
theorem Nu(a b:List Int)(hl:(ae (val a).toNat).length=(ae (val b).toNat).length)(ha:0<=val a)(hb:0<=val b)(hs:(ae (val a).toNat).length<=1000000000):∀(n:Nat),n<=(ae (val a).toNat).length->(ae (val a).toNat).drop n=(ae (val b).toNat).drop n->
  Lv.Runs 24 (wZ a b ((n:Int)-1)) [.d ask (b9 (val a) (val b))]:=by
 have va:=bG (val a).toNat
 have vb:=bG (val b).toNat
 have la:=bV (val a).toNat
 have lb:=bV (val b).toNat
 intro n;induction n with
 |zero=>
  intro _ h;refine qv _ _ _ ⟨0,?_⟩;have e:val a=val b:=by simp only[aqB]at h;rw[h]at va;omega
  unfold mq;rw[aoR (by omega),e,dU]
 |succ n ih=>
  intro hn h;have h1:n<(ae (val a).toNat).length:=by omega
  have h2:n<(ae (val b).toNat).length:=by omega
  rcases Int.lt_trichotomy (ae (val a).toNat)[n] (ae (val b).toNat)[n]with hc|hc|hc
  ·refine qv _ _ _ ⟨0,?_⟩;have:=Ei la lb h1 h2 h hc;unfold mq;rw[show((n+1:Nat):Int)-1=(n:Int) by omega,aoP (by omega),ak,ak,aoO h1,aoO h2];dsimp only;rw[aoP hc,da (by omega)]
  ·obtain⟨q,hq⟩:=ih (by omega) (by rw[ao5 h1,ao5 h2,hc,h]);refine qv _ _ _ ⟨q,?_⟩;unfold mq;rw[show((n+1:Nat):Int)-1=(n:Int) by omega,aoP (by omega),ak,ak,aoO h1,aoO h2];dsimp only;rw[aoR (by omega),aoR (by omega),aM (x:=(n:Int)-1) (by omega) (by omega)];exact hq
  ·refine qv _ _ _ ⟨0,?_⟩;have:=Ei lb la h2 h1 h.symm hc;unfold mq;rw[show((n+1:Nat):Int)-1=(n:Int) by omega,aoP (by omega),ak,ak,aoO h1,aoO h2];dsimp only;rw[aoR (by omega),aoP hc,cH (by omega)]
theorem jW{l:List Int}(h:Lim l):(ae (val l).toNat).length<=l.length:=dq (by have:=bU h;have:=aP h;omega)
theorem Vr(a b:List Int)(h:aR a/\aR b):CQq7 188 [.d asj a,.d asj b] [.d ask (b9 (val a) (val b))]:=by
 refine fI Ba (show Lv.Res _ _ _ from ?_);obtain⟨ha,hb⟩:=h;have la:=jW ha.1;have lb:=jW hb.1;have na:=aP ha.1;have nb:=aP hb.1;have hsa:=ha.2;have hsb:=hb.2;by_cases hl:(ae (val a).toNat).length=(ae (val b).toNat).length
 ·obtain⟨q,hq⟩:=Nu a b hl na nb (by omega) _ (aoU _) (by rw[arj,hl,arj]);refine ab2 _ _ ⟨q,?_⟩;unfold Vg;rw[aoP ha,aoP hb,show(((ae (val a).toNat).length:Int) !=((ae (val b).toNat).length:Int))=F' by simp[hl],aM (x:=((ae (val a).toNat).length:Int)-1) (by omega) (by omega)];exact hq
 ·refine ab2 _ _ ⟨0,?_⟩;unfold Vg;rw[aoP ha,aoP hb,show(((ae (val a).toNat).length:Int) !=((ae (val b).toNat).length:Int))=true by simp;omega];dsimp only;rcases Nat.lt_or_gt_of_ne hl with h1|h1
  ·have:=xc h1;rw[aoP (by omega),da (by omega)]
  ·have:=xc h1;rw[aoR (by omega),cH (by omega)]
def adP:NT:=[((276,16),{keep:=[1,5,6,20,21,22],hl:=1})]
def Fc:Ctx:=CX [] adP
def jS(s1 s20:List Int)(s21 s6 s22:Int)(r0:List Int):Cfg:=⟨276,[.blk 0,.seq 45],[(1,.d asj s1),(5,.own 0),(6,.d asl s6),(20,.d asj s20),(21,SI s21),(22,SI s22)],[.row 194 asl r0],0,[]⟩
def U8(a b:List Int)(k:KT):OLR:=match D' ((a.length:Int)<(b.length:Int))with|T'=>(og (D' ((0:Int)=0/\(0:Int)<=i64.wrap ((b.length:Int)+1)/\(i64.wrap ((b.length:Int)+1))*((4:Nat):Int)<=140737488355328/\i64.wrap ((b.length:Int)+1)<=140737488355328)) (k 16 (jS a b (b.length:Int) 0 0 ([]:List Int))))|F'=>(og (D' ((0:Int)=0/\(0:Int)<=i64.wrap ((a.length:Int)+1)/\(i64.wrap ((a.length:Int)+1))*((4:Nat):Int)<=140737488355328/\i64.wrap ((a.length:Int)+1)<=140737488355328)) (k 16 (jS b a (a.length:Int) 0 0 ([]:List Int))))
theorem ace(a b:List Int):RS Fc 276 [.d asj a,.d asj b] (U8 a b):=rsX
def kg(s1 s20:List Int)(s21 s6 s22:Int)(r0:List Int)(k:KT):OLR:=match D' (s22<s21)with|T'=>(match aH s20 s22 with|S' x1=>(match D' (s22<(s1.length:Int))with|T'=>(match aH s1 s22 with|S' x2=>(match D' ((u32.wrap ((u32.wrap (x1+s6))+x2))>=1000000000)with|T'=>(og (D' ((r0.length+([u32.wrap ((u32.wrap ((u32.wrap (x1+s6))+x2))-1000000000)]).length)*4<=140737488355328/\r0.length+([u32.wrap ((u32.wrap ((u32.wrap (x1+s6))+x2))-1000000000)]).length<=140737488355328)) (k 16 (jS s1 s20 s21 1 (i64.wrap (s22+1)) (r0++([u32.wrap ((u32.wrap ((u32.wrap (x1+s6))+x2))-1000000000)])))))|F'=>(og (D' ((r0.length+([u32.wrap ((u32.wrap (x1+s6))+x2)]).length)*4<=140737488355328/\r0.length+([u32.wrap ((u32.wrap (x1+s6))+x2)]).length<=140737488355328)) (k 16 (jS s1 s20 s21 0 (i64.wrap (s22+1)) (r0++([u32.wrap ((u32.wrap (x1+s6))+x2)]))))))|N'=>N')|F'=>(match D' ((u32.wrap (x1+s6))>=1000000000)with|T'=>(og (D' ((r0.length+([u32.wrap ((u32.wrap (x1+s6))-1000000000)]).length)*4<=140737488355328/\r0.length+([u32.wrap ((u32.wrap (x1+s6))-1000000000)]).length<=140737488355328)) (k 16 (jS s1 s20 s21 1 (i64.wrap (s22+1)) (r0++([u32.wrap ((u32.wrap (x1+s6))-1000000000)])))))|F'=>(og (D' ((r0.length+([u32.wrap (x1+s6)]).length)*4<=140737488355328/\r0.length+([u32.wrap (x1+s6)]).length<=140737488355328)) (k 16 (jS s1 s20 s21 0 (i64.wrap (s22+1)) (r0++([u32.wrap (x1+s6)])))))))|N'=>N')|F'=>(og (D' ((r0.length+([s6]).length)*4<=140737488355328/\r0.length+([s6]).length<=140737488355328)) (S' [RV.new 194 asl (r0++([s6]))]))
theorem mQ(s1 s20:List Int)(s21 s6 s22:Int)(r0:List Int):RN Fc 16 (jS s1 s20 s21 s6 s22 r0) (kg s1 s20 s21 s6 s22 r0):=rnX
def agi:NT:=[((277,10),{keep:=[1,5,6,13,14,15],hl:=1})]
def G6:Ctx:=CX [] agi
def lM(a b:List Int)(s6 s15:Int)(r0:List Int):Cfg:=⟨277,[.blk 0,.seq 39],[(1,.d asj b),(5,.own 0),(6,.d asl s6),(13,.d asj a),(14,SI (a.length:Int)),(15,SI s15)],[.row 194 asl r0],0,[]⟩
def abm(a b:List Int)(k:KT):OLR:=og (D' ((0:Int)<=(a.length:Int)/\(a.length:Int)*((4:Nat):Int)<=140737488355328/\(a.length:Int)<=140737488355328)) (k 10 (lM a b 0 0 (List.replicate ((a.length:Int)).toNat (0:Int))))
theorem ajB(a b:List Int):RS G6 277 [.d asj a,.d asj b] (abm a b):=rsX
def kj(a b:List Int)(s6 s15:Int)(r0:List Int)(k:KT):OLR:=match D' (s15<(a.length:Int))with|T'=>(match aH a s15 with|S' x1=>(match D' (s15<(b.length:Int))with|T'=>(match aH b s15 with|S' x2=>(match D' (x1<(u32.wrap (s6+x2)))with|T'=>(match aH r0 s15 with|S' _=>(match T',r0[(s15).toNat]? with|T',S' _=>k 10 (lM a b 1 (i64.wrap (s15+1)) (r0.set ((s15).toNat) (u32.wrap ((u32.wrap (x1+1000000000))-(u32.wrap (s6+x2))))))|_,_=>N')|N'=>N')|F'=>(match aH r0 s15 with|S' _=>(match T',r0[(s15).toNat]? with|T',S' _=>k 10 (lM a b 0 (i64.wrap (s15+1)) (r0.set ((s15).toNat) (u32.wrap (x1-(u32.wrap (s6+x2))))))|_,_=>N')|N'=>N'))|N'=>N')|F'=>(match D' (x1<s6)with|T'=>(match aH r0 s15 with|S' _=>(match T',r0[(s15).toNat]? with|T',S' _=>k 10 (lM a b 1 (i64.wrap (s15+1)) (r0.set ((s15).toNat) (u32.wrap ((u32.wrap (x1+1000000000))-s6))))|_,_=>N')|N'=>N')|F'=>(match aH r0 s15 with|S' _=>(match T',r0[(s15).toNat]? with|T',S' _=>k 10 (lM a b 0 (i64.wrap (s15+1)) (r0.set ((s15).toNat) (u32.wrap (x1-s6))))|_,_=>N')|N'=>N')))|N'=>N')|F'=>S' [RV.new 194 asl r0]
theorem m6(a b:List Int)(s6 s15:Int)(r0:List Int):RN G6 10 (lM a b s6 s15 r0) (kj a b s6 s15 r0):=rnX
def acV:NT:=[((190,8),{keep:=[1,5,18,19,20],hl:=1}),((190,25),{keep:=[1,5,6,7,8,18,19,20,25,26,27],hl:=1})]
def z9:Ctx:=CX [] acV
def yT(a b:List Int)(s20:Int)(r0:List Int):Cfg:=⟨190,[.blk 0,.seq 42],[(1,.d asj b),(5,.own 0),(18,.d asj a),(19,SI (a.length:Int)),(20,SI s20)],[.row 194 asl r0],0,[]⟩
def wQ(a b:List Int)(s20 x1 s8 s27:Int)(r0:List Int):Cfg:=⟨190,[.blk 2,.seq 40,.blk 1,.seq 41,.lp 8,.blk 0,.seq 42],[(1,.d asj b),(5,.own 0),(6,SI s20),(7,.d asl x1),(8,.d (.int .u64) s8),(18,.d asj a),(19,SI (a.length:Int)),(20,SI s20),(25,.d asj b),(26,SI (b.length:Int)),(27,SI s27)],[.row 194 asl r0],0,[]⟩
def aci(a b:List Int)(k:KT):OLR:=og (D' ((0:Int)<=i64.wrap ((a.length:Int)+(b.length:Int))/\(i64.wrap ((a.length:Int)+(b.length:Int)))*((4:Nat):Int)<=140737488355328/\i64.wrap ((a.length:Int)+(b.length:Int))<=140737488355328)) (k 8 (yT a b 0 (List.replicate (i64.wrap ((a.length:Int)+(b.length:Int))).toNat (0:Int))))
theorem ane(a b:List Int):RS z9 190 [.d asj a,.d asj b] (aci a b):=rsX
def zM(a b:List Int)(s20:Int)(r0:List Int)(k:KT):OLR:=match D' (s20<(a.length:Int))with|T'=>(match aH a s20 with|S' x1=>k 25 (wQ a b s20 x1 0 0 r0)|N'=>N')|F'=>S' [RV.new 194 asl r0]
theorem F4(a b:List Int)(s20:Int)(r0:List Int):RN z9 8 (yT a b s20 r0) (zM a b s20 r0):=rnX
def uC(a b:List Int)(s20 x1 s8 s27:Int)(r0:List Int)(k:KT):OLR:=match D' (s27<(b.length:Int))with|T'=>(match aH b s27 with|S' x2=>(match aH r0 (i64.wrap (s20+s27))with|S' _=>(match T',r0[(i64.wrap (s20+s27)).toNat]? with|T',S' x3=>(match aH r0 (i64.wrap (s20+s27))with|S' _=>(match T',r0[(i64.wrap (s20+s27)).toNat]? with|T',S' _=>k 25 (wQ a b s20 x1 (u64.wrap (Int.tdiv (u64.wrap ((u64.wrap ((u64.wrap x3)+(u64.wrap ((u64.wrap x1)*(u64.wrap x2)))))+s8)) 1000000000)) (i64.wrap (s27+1)) (r0.set ((i64.wrap (s20+s27)).toNat) (u32.wrap (Int.tmod (u64.wrap ((u64.wrap ((u64.wrap x3)+(u64.wrap ((u64.wrap x1)*(u64.wrap x2)))))+s8)) 1000000000))))|_,_=>N')|N'=>N')|_,_=>N')|N'=>N')|N'=>N')|F'=>(match aH r0 (i64.wrap (s20+(b.length:Int)))with|S' _=>(match T',r0[(i64.wrap (s20+(b.length:Int))).toNat]? with|T',S' _=>k 8 (yT a b (i64.wrap (s20+1)) (r0.set ((i64.wrap (s20+(b.length:Int))).toNat) (u32.wrap s8)))|_,_=>N')|N'=>N')
theorem AZ(a b:List Int)(s20 x1 s8 s27:Int)(r0:List Int):RN z9 25 (wQ a b s20 x1 s8 s27 r0) (uC a b s20 x1 s8 s27 r0):=rnX
def adI:NT:=[((316,10),{keep:=[0,1,6,7,8],hl:=1})]
def Lm:Ctx:=CX [] adI
def wP(a:List Int)(b s7 s8:Int)(r0:List Int):Cfg:=⟨316,[.blk 0,.seq 23],[(0,.d asj a),(1,.d asl b),(6,.own 0),(7,.d (.int .u64) s7),(8,SI s8)],[.row 194 asl r0],0,[]⟩
def aaQ(a:List Int)(b:Int)(k:KT):OLR:=og (D' ((0:Int)<=(a.length:Int)/\(a.length:Int)*((4:Nat):Int)<=140737488355328/\(a.length:Int)<=140737488355328)) (k 10 (wP a b 0 (i64.wrap ((a.length:Int)-1)) (List.replicate ((a.length:Int)).toNat (0:Int))))
theorem ahy(a:List Int)(b:Int):RS Lm 316 [.d asj a,.d asl b] (aaQ a b):=rsX
def uD(a:List Int)(b s7 s8:Int)(r0:List Int)(k:KT):OLR:=match D' (s8>=0)with|T'=>(match aH a s8 with|S' x1=>(match D' (u64.wrap b=(0:Int))with|T'=>N'|F'=>(match D' (u64.wrap b=(0:Int))with|T'=>N'|F'=>(match aH r0 s8 with|S' _=>(match T',r0[(s8).toNat]? with|T',S' _=>k 10 (wP a b (Int.tmod (u64.wrap ((u64.wrap (s7*1000000000))+(u64.wrap x1))) (u64.wrap b)) (i64.wrap (s8-1)) (r0.set ((s8).toNat) (u32.wrap (u64.wrap (Int.tdiv (u64.wrap ((u64.wrap (s7*1000000000))+(u64.wrap x1))) (u64.wrap b))))))|_,_=>N')|N'=>N')))|N'=>N')|F'=>S' [RV.d asj r0,RV.d asj ([u32.wrap s7])]
theorem Bz(a:List Int)(b s7 s8:Int)(r0:List Int):RN Lm 10 (wP a b s7 s8 r0) (uD a b s7 s8 r0):=rnX
theorem j9{b:List Int}{i:Nat}(h:b.length<=i):b.take (i+1)=b.take i:=by grind [apy]
theorem uj{n:Nat}(h:n<=4000000000):D' ((0:Int)<=(n:Int)/\(n:Int)*((4:Nat):Int)<=140737488355328/\(n:Int)<=140737488355328)=true:=by grind
theorem Pc{m:Nat}(h:m<=4000000000):D' ((m+1)*4<=140737488355328/\m+1<=140737488355328)=true:=by grind
theorem Gx(a b:List Int)(ha:aR a)(hb:aR b)(hab:b.length<=a.length):∀(j i:Nat) (c:Int) (r:List Int),i+j=a.length->0<=c->c<=1->Lim r->r.length=i->val r+pw i*c=val (a.take i)+val (b.take i)->
  Fc.Runs 16 (jS b a (a.length:Int) c (i:Int) r) [.new 194 asl (dig (a.length+1) (val a+val b))]:=by
 have hsa:=ha.2;intro j;induction j with
 |zero=>
  intro i c r hi c0 c1 hr hl hv;obtain rfl:i=a.length:=by omega
  refine mQ _ _ _ _ _ _ ⟨0,?_⟩;unfold kg;rw[bg (aoU _)];simp only[apd];rw[Pc (by omega)]
  have e:r++[c]=dig (a.length+1) (val a+val b):=by
   refine Dv (hr.append (Lim.cons ⟨c0,by omega⟩ Lim.nil)) (by simp[hl]) ?_;rw[dz,hl];rw[ap6,apy hab]at hv;simp only[val,ary,asa];omega
  rw[e]
 |succ j ih=>
  intro i c r hi c0 c1 hr hl hv;have hia:i<a.length:=by omega
  have xa:=ha.1.get hia;have hp:=cf i
  have step:∀(y c':Int),0<=y->y<1000000000->0<=c'->c'<=1->val (b.take (i+1))=val (b.take i)+pw i*(y+1000000000*c'-a[i]-c)->Fc.Runs 16 (jS b a (a.length:Int) c' ((i+1:Nat):Int) (r++[y])) [.new 194 asl (dig (a.length+1) (val a+val b))]:=by
   intro y c' y0 y1 k0 k1 hb';refine ih (i+1) c' (r++[y]) (by omega) k0 k1 (hr.append (Lim.cons ⟨y0,y1⟩ Lim.nil)) (by simp[hl]) ?_;rw[dz,hl,bi hia,hb',bW];simp only[val];grind
  by_cases hib:i<b.length
  ·have xb:=hb.1.get hib;have ht:=bi hib;by_cases hc:a[i]+c+b[i]>=1000000000
   ·obtain⟨q,hq⟩:=step (a[i]+c+b[i]-1000000000) 1 (by omega) (by omega) (by omega) (by omega) (by rw[ht];grind);refine mQ _ _ _ _ _ _ ⟨q,?_⟩;unfold kg;rw[aO hia,ak,aoO hia,aO hib,ak,aoO hib];dsimp only;rw[cX (x:=a[i]+c) (by omega) (by omega),cX (x:=a[i]+c+b[i]) (by omega) (by omega),aoP hc,cX (x:=a[i]+c+b[i]-1000000000) (by omega) (by omega),aS (by omega)];simp only[apd];rw[Pc (by omega)];exact hq
   ·obtain⟨q,hq⟩:=step (a[i]+c+b[i]) 0 (by omega) (by omega) (by omega) (by omega) (by rw[ht];grind);refine mQ _ _ _ _ _ _ ⟨q,?_⟩;unfold kg;rw[aO hia,ak,aoO hia,aO hib,ak,aoO hib];dsimp only;rw[cX (x:=a[i]+c) (by omega) (by omega),cX (x:=a[i]+c+b[i]) (by omega) (by omega),aoR hc,aS (by omega)];simp only[apd];rw[Pc (by omega)];exact hq
  ·have ht:=j9 (b:=b) (i:=i) (by omega);by_cases hc:a[i]+c>=1000000000
   ·obtain⟨q,hq⟩:=step (a[i]+c-1000000000) 1 (by omega) (by omega) (by omega) (by omega) (by rw[ht];grind);refine mQ _ _ _ _ _ _ ⟨q,?_⟩;unfold kg;rw[aO hia,ak,aoO hia,bg (show b.length<=i by omega)];dsimp only;rw[cX (x:=a[i]+c) (by omega) (by omega),aoP hc,cX (x:=a[i]+c-1000000000) (by omega) (by omega),aS (by omega)];simp only[apd];rw[Pc (by omega)];exact hq
   ·obtain⟨q,hq⟩:=step (a[i]+c) 0 (by omega) (by omega) (by omega) (by omega) (by rw[ht];grind);refine mQ _ _ _ _ _ _ ⟨q,?_⟩;unfold kg;rw[aO hia,ak,aoO hia,bg (show b.length<=i by omega)];dsimp only;rw[cX (x:=a[i]+c) (by omega) (by omega),aoR hc,aS (by omega)];simp only[apd];rw[Pc (by omega)];exact hq
theorem XX(a b:List Int)(h:aR a/\aR b):CQq7 276 [.d asj a,.d asj b] [.new 194 asl (dig (max a.length b.length+1) (val a+val b))]:=by
 refine fI (E:=[]) trivial (show Fc.Res _ _ _ from ?_);obtain⟨ha,hb⟩:=h;have hsa:=ha.2;have hsb:=hb.2
 have mk:∀n:Nat,n<=1000000000->D' ((0:Int)=0/\(0:Int)<=i64.wrap ((n:Int)+1)/\i64.wrap ((n:Int)+1)*((4:Nat):Int)<=140737488355328/\i64.wrap ((n:Int)+1)<=140737488355328)=true:=λn hn=>by
  rw[aS (by omega)];exact aoP ⟨rfl,by omega,by omega,by omega⟩
 by_cases hc:a.length<b.length
 ·obtain⟨q,hq⟩:=Gx b a hb ha (by omega) b.length 0 0 [] (by omega) (by omega) (by omega) Lim.nil rfl (by simp[val]);refine ace _ _ ⟨q,?_⟩;unfold U8;rw[aO hc,mk _ hsb,Nat.max_eq_right (by omega),arU (val a)];exact hq
 ·obtain⟨q,hq⟩:=Gx a b ha hb (by omega) a.length 0 0 [] (by omega) (by omega) (by omega) Lim.nil rfl (by simp[val]);refine ace _ _ ⟨q,?_⟩;unfold U8;rw[bg (by omega),mk _ hsa,Nat.max_eq_left (by omega)];exact hq
theorem pK{r:List Int}{i:Nat}{y:Int}(hz:∀j (hj:j<r.length),i<=j->r[j]=0):∀j (hj:j<(r.set i y).length),i+1<=j->(r.set i y)[j]=0:=λj hj hk=>by
 rw[aqg (by omega)];exact hz j (by simpa using hj) (by omega)
theorem Oq(a b:List Int)(ha:aR a)(hb:aR b)(hle:val b<=val a)(_hab:b.length<=a.length\/True):∀(j i:Nat) (c:Int) (r:List Int),i+j=a.length->0<=c->c<=1->Lim r->r.length=a.length->(∀k (hk:k<r.length),i<=k->r[k]=0)->val r+val (b.take i)=val (a.take i)+pw i*c->
  G6.Runs 10 (lM a b c (i:Int) r) [.new 194 asl (dig a.length (val a-val b))]:=by
 have hsa:=ha.2;intro j;induction j with
 |zero=>
  intro i c r hi c0 c1 hr hl hz hv;obtain rfl:i=a.length:=by omega
  refine m6 _ _ _ _ _ ⟨0,?_⟩;unfold kj;rw[bg (aoU _)];have hrl:=bU hr;rw[hl]at hrl;have hb2:val b=val (b.take a.length)+pw (min a.length b.length)*val (b.drop a.length):=fO b a.length;have hbd:0<=val (b.drop a.length):=aP (hb.1.drop _);have hal:=bU ha.1;have hbt:=aP (hb.1.take a.length);rw[ap6]at hv
  have hz0:val (b.drop a.length)=0:=by
   rcases apu a.length b.length with h1|h1
   ·rw[aps (by omega)]at hb2;rcases apl 0 (val (b.drop a.length))with h2|h2
    ·have hp:=cf a.length;have:=aoW (show 1<=val (b.drop a.length) by omega) (apv hp);omega
    ·omega
   ·rw[apx h1];rfl
  rw[hz0,ary,asa]at hb2
  have hc0:c=0:=by
   have hp:=cf a.length;rcases(show c=0\/c=1 by omega)with h|h
   ·exact h
   ·subst h;rw[arx]at hv;omega
  subst hc0;rw[ary]at hv;rw[<-Dv hr hl (show val r=val a-val b by omega)]
 |succ j ih=>
  intro i c r hi c0 c1 hr hl hz hv;have hia:i<a.length:=by omega
  have hir:i<r.length:=by omega
  have xa:=ha.1.get hia;have hr0:=hz i hir (aoU _)
  have step:∀(y c':Int),0<=y->y<1000000000->0<=c'->c'<=1->val (b.take (i+1))=val (b.take i)+pw i*(a[i]+1000000000*c'-y-c)->G6.Runs 10 (lM a b c' ((i+1:Nat):Int) (r.set i y)) [.new 194 asl (dig a.length (val a-val b))]:=by
   intro y c' y0 y1 k0 k1 hb';refine ih (i+1) c' (r.set i y) (by omega) k0 k1 (hr.set i ⟨y0,y1⟩) (by simpa using hl) (pK hz) ?_;rw[eV hir,hr0,bi hia,hb',bW];grind
  by_cases hib:i<b.length
  ·have xb:=hb.1.get hib;have ht:=bi hib;by_cases hc:a[i]<c+b[i]
   ·obtain⟨q,hq⟩:=step (a[i]+1000000000-(c+b[i])) 1 (by omega) (by omega) (by omega) (by omega) (by rw[ht];grind);refine m6 _ _ _ _ _ ⟨q,?_⟩;unfold kj;rw[aO hia,ak,aoO hia,aO hib,ak,aoO hib,ak,aE,aoO hir];dsimp only;rw[cX (x:=c+b[i]) (by omega) (by omega),aoP hc,cX (x:=a[i]+1000000000) (by omega) (by omega),cX (x:=a[i]+1000000000-(c+b[i])) (by omega) (by omega),aS (by omega)];exact hq
   ·obtain⟨q,hq⟩:=step (a[i]-(c+b[i])) 0 (by omega) (by omega) (by omega) (by omega) (by rw[ht];grind);refine m6 _ _ _ _ _ ⟨q,?_⟩;unfold kj;rw[aO hia,ak,aoO hia,aO hib,ak,aoO hib,ak,aE,aoO hir];dsimp only;rw[cX (x:=c+b[i]) (by omega) (by omega),aoR hc,cX (x:=a[i]-(c+b[i])) (by omega) (by omega),aS (by omega)];exact hq
  ·have ht:=j9 (b:=b) (i:=i) (by omega);by_cases hc:a[i]<c
   ·obtain⟨q,hq⟩:=step (a[i]+1000000000-c) 1 (by omega) (by omega) (by omega) (by omega) (by rw[ht];grind);refine m6 _ _ _ _ _ ⟨q,?_⟩;unfold kj;rw[aO hia,ak,aoO hia,bg (show b.length<=i by omega),ak r i,aE,aoO hir];dsimp only;rw[aoP hc,cX (x:=a[i]+1000000000) (by omega) (by omega),cX (x:=a[i]+1000000000-c) (by omega) (by omega),aS (by omega)];exact hq
   ·obtain⟨q,hq⟩:=step (a[i]-c) 0 (by omega) (by omega) (by omega) (by omega) (by rw[ht];grind);refine m6 _ _ _ _ _ ⟨q,?_⟩;unfold kj;rw[aO hia,ak,aoO hia,bg (show b.length<=i by omega),ak r i,aE,aoO hir];dsimp only;rw[aoR hc,cX (x:=a[i]-c) (by omega) (by omega),aS (by omega)];exact hq
def oQ(a b:List Int):Prop:=aR a/\aR b/\val b<=val a
instance (a b:List Int):Decidable (oQ a b):=by unfold oQ;infer_instance
theorem WL(a b:List Int)(h:oQ a b):CQq7 277 [.d asj a,.d asj b] [.new 194 asl (dig a.length (val a-val b))]:=by
 refine fI (E:=[]) trivial (show G6.Res _ _ _ from ?_);obtain⟨ha,hb,hle⟩:=h;have hsa:=ha.2;obtain⟨q,hq⟩:=Oq a b ha hb hle (.inr trivial) a.length 0 0 (List.replicate a.length 0) (by omega) (by omega) (by omega) (Lim.rep _) (by simp) (λk hk _=>by simp) (by simp[val,gf]);refine ajB _ _ ⟨q,?_⟩;unfold abm;rw[uj (by omega),aE];exact hq
theorem Ix{r x y c:Int}(hr:0<=r/\r<1000000000)(hx:0<=x/\x<1000000000)(hy:0<=y/\y<1000000000)(hc:0<=c/\c<1000000000):0<=x*y/\x*y<=999999998000000001/\0<=(r+x*y+c)/1000000000/\(r+x*y+c)/1000000000<1000000000:=by
 have h1:0<=x*y:=apN hx.1 hy.1;have h2:x*y<=999999999*999999999:=aq8 (by omega) (by omega) hy.1 (by decide);omega
theorem LP(a b:List Int)(ha:aR a)(hb:aR b)(i:Nat)(hi:i<a.length)
  (hout:∀r,Lim r->r.length=a.length+b.length->(∀k (hk:k<r.length),i+1+b.length<=k->r[k]=0)->val r=val (a.take (i+1))*val b->z9.Runs 8 (yT a b ((i+1:Nat):Int) r) [.new 194 asl (dig (a.length+b.length) (val a*val b))]):
  ∀(j k:Nat) (c:Int) (r:List Int),k+j=b.length->0<=c->c<1000000000->Lim r->r.length=a.length+b.length->(∀q (hq:q<r.length),i+b.length<=q->r[q]=0)->val r+pw (i+k)*c=val (a.take i)*val b+pw i*a[i]*val (b.take k)->
  z9.Runs 25 (wQ a b (i:Int) a[i] c (k:Int) r) [.new 194 asl (dig (a.length+b.length) (val a*val b))]:=by
 have hsa:=ha.2;have hsb:=hb.2;have xa:=ha.1.get hi;intro j;induction j with
 |zero=>
  intro k c r hk c0 c1 hr hl hz hv;obtain rfl:k=b.length:=by omega
  have hir:i+b.length<r.length:=by omega
  have hr0:=hz _ hir (aoU _)
  obtain⟨q,hq⟩:=hout (r.set (i+b.length) c) (hr.set _ ⟨c0,c1⟩) (by simpa using hl) (by rw[show i+1+b.length=i+b.length+1 by omega];exact pK hz) (by
   rw[eV hir,hr0,bi hi];rw[ap6]at hv;grind)
  refine AZ _ _ _ _ _ _ _ ⟨q,?_⟩;have hw:i64.wrap ((i:Int)+(b.length:Int))=((i+b.length:Nat):Int):=by rw[aM (by omega) (by omega)];simp
  unfold uC;rw[bg (aoU _),hw,ak r (i+b.length),aE,aoO hir,cX (x:=c) (by omega) (by omega),aS (k:=i) (by omega)];exact hq
 |succ j ih=>
  intro k c r hk c0 c1 hr hl hz hv;have hkb:k<b.length:=by omega
  have hir:i+k<r.length:=by omega
  have xb:=hb.1.get hkb;have xr:=hr.get hir;have hbd:=Ix xr xa xb ⟨c0,c1⟩
  obtain⟨q,hq⟩:=ih (k+1) ((r[i+k]+a[i]*b[k]+c)/1000000000) (r.set (i+k) ((r[i+k]+a[i]*b[k]+c)%1000000000)) (by omega) hbd.2.2.1 hbd.2.2.2 (hr.set _ (by omega)) (by simpa using hl)
   (λm hm hq=>by rw[aqg (by omega)];exact hz m (by simpa using hm) hq) (by
    rw[eV hir,bi hkb,show i+(k+1)=i+k+1 by omega,bW,fk];rw[fk]at hv;have e:=Int.emod_add_mul_ediv (r[i+k]+a[i]*b[k]+c) 1000000000;grind)
  refine AZ _ _ _ _ _ _ _ ⟨q,?_⟩;have hw:i64.wrap ((i:Int)+(k:Int))=((i+k:Nat):Int):=by rw[aM (by omega) (by omega)];simp
  unfold uC;rw[aO hkb,ak b k,aoO hkb,hw,ak r (i+k),aE,aoO hir];dsimp only;rw[bH (x:=r[i+k]) (by omega) (by omega),bH (x:=a[i]) (by omega) (by omega),bH (x:=b[k]) (by omega) (by omega),bH (x:=a[i]*b[k]) (by omega) (by omega),bH (x:=r[i+k]+a[i]*b[k]) (by omega) (by omega),bH (x:=r[i+k]+a[i]*b[k]+c) (by omega) (by omega),gG (a:=r[i+k]+a[i]*b[k]+c) (by omega),ju (a:=r[i+k]+a[i]*b[k]+c) (by omega),bH (x:=(r[i+k]+a[i]*b[k]+c)/1000000000) (by omega) (by omega),cX (x:=(r[i+k]+a[i]*b[k]+c)%1000000000) (by omega) (by omega),aS (k:=k) (by omega)];exact hq
theorem M9(a b:List Int)(ha:aR a)(hb:aR b):∀(j i:Nat) (r:List Int),i+j=a.length->Lim r->r.length=a.length+b.length->(∀k (hk:k<r.length),i+b.length<=k->r[k]=0)->val r=val (a.take i)*val b->
  z9.Runs 8 (yT a b (i:Int) r) [.new 194 asl (dig (a.length+b.length) (val a*val b))]:=by
 have hsa:=ha.2;intro j;induction j with
 |zero=>
  intro i r hi hr hl hz hv;obtain rfl:i=a.length:=by omega
  refine F4 _ _ _ _ ⟨0,?_⟩;unfold zM;rw[ap6]at hv;rw[bg (aoU _),<-Dv hr hl hv]
 |succ j ih=>
  intro i r hi hr hl hz hv;have hia:i<a.length:=by omega
  obtain⟨q,hq⟩:=LP a b ha hb i hia (λr' h1 h2 h3 h4=>ih (i+1) r' (by omega) h1 h2 h3 h4) b.length 0 0 r (by omega) (by omega) (by omega) hr hl hz (by simp[val,hv]);refine F4 _ _ _ _ ⟨q,?_⟩;unfold zM;rw[aO hia,ak,aoO hia];exact hq
theorem VP(a b:List Int)(h:aR a/\aR b):CQq7 190 [.d asj a,.d asj b] [.new 194 asl (dig (a.length+b.length) (val a*val b))]:=by
 refine fI (E:=[]) trivial (show z9.Res _ _ _ from ?_);obtain⟨ha,hb⟩:=h;have hsa:=ha.2;have hsb:=hb.2;obtain⟨q,hq⟩:=M9 a b ha hb a.length 0 (List.replicate (a.length+b.length) 0) (by omega) (Lim.rep _) (by simp) (λk hk _=>by simp) (by simp[val,gf]);refine ane _ _ ⟨q,?_⟩;have hw:i64.wrap ((a.length:Int)+(b.length:Int))=((a.length+b.length:Nat):Int):=by rw[aM (by omega) (by omega)];simp
 unfold aci;rw[hw,uj (by omega),aE];exact hq
theorem OU(a:List Int)(b:Int)(ha:aR a)(hb:1<=b/\b<1000000000):∀(n:Nat) (c:Int) (r:List Int),n<=a.length->0<=c->c<b->Lim r->r.length=a.length->(∀k (hk:k<r.length),k<n->r[k]=0)->b*val r+pw n*c+val (a.take n)=val a->
  Lm.Runs 10 (wP a b c ((n:Int)-1) r) [.d asj (dig a.length (val a/b)),.d asj [val a%b]]:=by
 have hsa:=ha.2;intro n;induction n with
 |zero=>
  intro c r hn c0 c1 hr hl hz hv;simp only[nL,List.take_zero,val,ar3,asa]at hv
  have e1:val a%b=c:=by
   rw[<-hv,arU,aqY];exact arb c0 c1
  have e2:val a/b=val r:=by
   rw[<-hv,arU,aqF _ _ (by omega),apZ c0 c1];omega
  refine Bz _ _ _ _ _ ⟨0,?_⟩;unfold uD;rw[aoR (by omega),e1,e2,<-Dv hr hl rfl,cX (x:=c) (by omega) (by omega)]
 |succ n ih=>
  intro c r hn c0 c1 hr hl hz hv;have hna:n<a.length:=by omega
  have hnr:n<r.length:=by omega
  have xa:=ha.1.get hna;have hr0:=hz n hnr (by omega);have hcb:0<=c*1000000000+a[n]:=by omega
  have m0:=ap4 (c*1000000000+a[n]) (show b≠0 by omega);have m1:=apE (c*1000000000+a[n]) (show 0<b by omega);have md:=apC (c*1000000000+a[n]) b;have d0:0<=(c*1000000000+a[n])/b:=apQ hcb (by omega)
  have d1:(c*1000000000+a[n])/b<1000000000:=by
   refine aqo (by omega) ?_;have:=ao2 (show c+1<=b by omega) (show(0:Int)<=1000000000 by decide);rw[aqG 1000000000 b];omega
  obtain⟨q,hq⟩:=ih ((c*1000000000+a[n])%b) (r.set n ((c*1000000000+a[n])/b)) (by omega) m0 m1 (hr.set n ⟨d0,d1⟩) (by simpa using hl)
   (λk hk hkn=>by rw[aqg (by omega)];exact hz k (by simpa using hk) (by omega)) (by
    rw[eV hnr,hr0];rw[bi hna,bW]at hv;grind)
  refine Bz _ _ _ _ _ ⟨q,?_⟩;unfold uD;rw[show((n+1:Nat):Int)-1=(n:Int) by omega,aoP (by omega),ak a n,aoO hna,bH (x:=b) (by omega) (by omega),aoR (show ¬b=0 by omega),ak r n,aE,aoO hnr];dsimp only;rw[bH (x:=c*1000000000) (by omega) (by omega),bH (x:=a[n]) (by omega) (by omega),bH (x:=c*1000000000+a[n]) (by omega) (by omega),gG hcb,ju hcb,bH (x:=(c*1000000000+a[n])/b) (by omega) (by omega),cX (x:=(c*1000000000+a[n])/b) (by omega) (by omega),aM (x:=(n:Int)-1) (by omega) (by omega)];exact hq
def Gf(a:List Int)(b:Int):Prop:=aR a/\1<=b/\b<1000000000
instance (a:List Int) (b:Int):Decidable (Gf a b):=by unfold Gf;infer_instance
theorem Xm(a:List Int)(b:Int)(h:Gf a b):CQq7 316 [.d asj a,.d asl b] [.d asj (dig a.length (val a/b)),.d asj [val a%b]]:=by
 refine fI (E:=[]) trivial (show Lm.Res _ _ _ from ?_);obtain⟨ha,hb⟩:=h;have hsa:=ha.2;obtain⟨q,hq⟩:=OU a b ha hb a.length 0 (List.replicate a.length 0) (aoU _) (by omega) (by omega) (Lim.rep _) (by simp) (λk hk _=>by simp) (by simp[gf]);refine ahy _ _ ⟨q,?_⟩;unfold aaQ;rw[uj (by omega),aE,aM (x:=(a.length:Int)-1) (by omega) (by omega)];exact hq
def Ir:cE:=spN T' F' [asj,asj] (λx=>D' (aR x.1/\aR x.2.1)) (λx=>[RV.new 194 asl (dig (max x.1.length x.2.1.length+1) (val x.1+val x.2.1))])
theorem Gc:SpK 276 Ir:=spX λx h=>XX x.1 x.2.1 (aoQ h)
def H6:cE:=spN T' F' [asj,asj] (λx=>D' (oQ x.1 x.2.1)) (λx=>[RV.new 194 asl (dig x.1.length (val x.1-val x.2.1))])
theorem GZ:SpK 277 H6:=spX λx h=>WL x.1 x.2.1 (aoQ h)
def IQ:cE:=spN T' F' [asj,asj] (λx=>D' (aR x.1/\aR x.2.1)) (λx=>[RV.new 194 asl (dig (x.1.length+x.2.1.length) (val x.1*val x.2.1))])
theorem G7:SpK 190 IQ:=spX λx h=>VP x.1 x.2.1 (aoQ h)
def Uw:cE:=spN F' F' [asj,asl] (λx=>D' (Gf x.1 x.2.1)) (λx=>[RV.d asj (dig x.1.length (val x.1/x.2.1)),RV.d asj ([val x.1%x.2.1])])
theorem Oe:SpK 316 Uw:=spX λx h=>Xm x.1 x.2.1 (aoQ h)
def Hk:cE:=spN T' F' [asj,asj] (λx=>D' (aR x.1/\aR x.2.1)) (λx=>[RV.d ask (b9 (val x.1) (val x.2.1))])
theorem E2:SpK 188 Hk:=spX λx h=>Vr x.1 x.2.1 (aoQ h)
def Qp:Env:=[(265,Hq),(276,Ir),(277,H6),(190,IQ),(316,Uw),(188,Hk)]
theorem MU:EnvAll Tryz.prog Qp:=⟨Fd,Gc,GZ,G7,Oe,E2,trivial⟩
def ahp:NT:=[((268,34),{keep:=[6,7,8,9,10,11],hl:=6}),((268,49),{keep:=[6,7,8,9,10,11,13,14],hl:=6}),((317,8),{keep:=[0,1,2,7,8,14,15],hl:=6}),((318,5),{keep:=[0,1,4,8,9],hl:=6}),((268,68),{keep:=[6,7,8,9,10,11,13,151],hl:=0}),((268,72),{keep:=[6,7,8,9,10,11,13],hl:=0})]
def ga:Ctx:=CX Qp ahp
def qG(b:List Int)(x2 s11:Int)(r5 r1:List Int):Cfg:=⟨268,[.blk 0,.seq 76],[(6,SI ((ae (val b).toNat).length:Int)),(7,.d asl (u32.wrap (u64.wrap (Int.tdiv 1000000000 (u64.wrap ((u64.wrap x2)+1)))))),(8,.own 1),(9,.d asj (ae (val (dig ((ae (val b).toNat).length+([u32.wrap (u64.wrap (Int.tdiv 1000000000 (u64.wrap ((u64.wrap x2)+1))))]).length) (val (ae (val b).toNat)*val ([u32.wrap (u64.wrap (Int.tdiv 1000000000 (u64.wrap ((u64.wrap x2)+1))))])))).toNat)),(10,.own 5),(11,SI s11)],[.row 194 asl ([u32.wrap (u64.wrap (Int.tdiv 1000000000 (u64.wrap ((u64.wrap x2)+1))))]),.row 194 asl r1,.row 194 asl ([0]),.row 194 asl ([u32.wrap (u64.wrap (Int.tdiv 1000000000 (u64.wrap ((u64.wrap x2)+1))))]),.gone,.row 194 asl r5],0,[]⟩
def nY(b:List Int)(x2 s11:Int)(r1 r5:List Int)(s13 s14:Int):Cfg:=⟨268,[.blk 2,.seq 66,.blk 1,.seq 75,.lp 34,.blk 0,.seq 76],[(6,SI ((ae (val b).toNat).length:Int)),(7,.d asl (u32.wrap (u64.wrap (Int.tdiv 1000000000 (u64.wrap ((u64.wrap x2)+1)))))),(8,.own 1),(9,.d asj (ae (val (dig ((ae (val b).toNat).length+([u32.wrap (u64.wrap (Int.tdiv 1000000000 (u64.wrap ((u64.wrap x2)+1))))]).length) (val (ae (val b).toNat)*val ([u32.wrap (u64.wrap (Int.tdiv 1000000000 (u64.wrap ((u64.wrap x2)+1))))])))).toNat)),(10,.own 5),(11,SI s11),(13,.d (.int .u64) s13),(14,.d (.int .u64) s14)],[.row 194 asl ([u32.wrap (u64.wrap (Int.tdiv 1000000000 (u64.wrap ((u64.wrap x2)+1))))]),.row 194 asl r1,.row 194 asl ([0]),.row 194 asl ([u32.wrap (u64.wrap (Int.tdiv 1000000000 (u64.wrap ((u64.wrap x2)+1))))]),.gone,.row 194 asl r5],0,[]⟩
def cV(b:List Int)(x2 s11:Int)(r5:List Int)(s317_2 f317_0_13 s317_7 s317_8 s317_15:Int)(r317_1:List Int):Cfg:=⟨317,[.blk 0,.seq 43],[(0,.osl 1 1 ((s11:Int).toNat) ((i64.wrap ((i64.wrap (s11+((ae (val b).toNat).length:Int)))+1):Int).toNat-(s11:Int).toNat)),(1,.d asj (ae (val (dig ((ae (val b).toNat).length+([u32.wrap (u64.wrap (Int.tdiv 1000000000 (u64.wrap ((u64.wrap x2)+1))))]).length) (val (ae (val b).toNat)*val ([u32.wrap (u64.wrap (Int.tdiv 1000000000 (u64.wrap ((u64.wrap x2)+1))))])))).toNat)),(2,.d (.int .u64) s317_2),(7,.d (.int .u64) s317_7),(8,.d (.int .u64) s317_8),(14,SI (((i64.wrap ((i64.wrap (s11+((ae (val b).toNat).length:Int)))+1):Int).toNat-(s11:Int).toNat:Nat):Int)),(15,SI s317_15)],[.row 194 asl ([u32.wrap (u64.wrap (Int.tdiv 1000000000 (u64.wrap ((u64.wrap x2)+1))))]),.row 194 asl r317_1,.row 194 asl ([0]),.row 194 asl ([u32.wrap (u64.wrap (Int.tdiv 1000000000 (u64.wrap ((u64.wrap x2)+1))))]),.gone,.row 194 asl r5],6,[⟨268,[.seq 69,.seq 74,.blk 1,.seq 75,.lp 34,.blk 0,.seq 76],68,9,[(6,SI ((ae (val b).toNat).length:Int)),(7,.d asl (u32.wrap (u64.wrap (Int.tdiv 1000000000 (u64.wrap ((u64.wrap x2)+1)))))),(8,.own 1),(9,.d asj (ae (val (dig ((ae (val b).toNat).length+([u32.wrap (u64.wrap (Int.tdiv 1000000000 (u64.wrap ((u64.wrap x2)+1))))]).length) (val (ae (val b).toNat)*val ([u32.wrap (u64.wrap (Int.tdiv 1000000000 (u64.wrap ((u64.wrap x2)+1))))])))).toNat)),(10,.own 5),(11,SI s11),(13,.d (.int .u64) f317_0_13)],0,N'⟩]⟩
def dE(b:List Int)(x2 s11:Int)(r5:List Int)(f317_0_13 s318_4 s318_9:Int)(r318_1:List Int):Cfg:=⟨318,[.blk 0],[(0,.osl 1 1 ((s11:Int).toNat) ((i64.wrap ((i64.wrap (s11+((ae (val b).toNat).length:Int)))+1):Int).toNat-(s11:Int).toNat)),(1,.d asj (ae (val (dig ((ae (val b).toNat).length+([u32.wrap (u64.wrap (Int.tdiv 1000000000 (u64.wrap ((u64.wrap x2)+1))))]).length) (val (ae (val b).toNat)*val ([u32.wrap (u64.wrap (Int.tdiv 1000000000 (u64.wrap ((u64.wrap x2)+1))))])))).toNat)),(4,.d asl s318_4),(8,SI (((i64.wrap ((i64.wrap (s11+((ae (val b).toNat).length:Int)))+1):Int).toNat-(s11:Int).toNat:Nat):Int)),(9,SI s318_9)],[.row 194 asl ([u32.wrap (u64.wrap (Int.tdiv 1000000000 (u64.wrap ((u64.wrap x2)+1))))]),.row 194 asl r318_1,.row 194 asl ([0]),.row 194 asl ([u32.wrap (u64.wrap (Int.tdiv 1000000000 (u64.wrap ((u64.wrap x2)+1))))]),.gone,.row 194 asl r5],6,[⟨268,[.seq 74,.blk 1,.seq 75,.lp 34,.blk 0,.seq 76],72,8,[(6,SI ((ae (val b).toNat).length:Int)),(7,.d asl (u32.wrap (u64.wrap (Int.tdiv 1000000000 (u64.wrap ((u64.wrap x2)+1)))))),(8,.own 1),(9,.d asj (ae (val (dig ((ae (val b).toNat).length+([u32.wrap (u64.wrap (Int.tdiv 1000000000 (u64.wrap ((u64.wrap x2)+1))))]).length) (val (ae (val b).toNat)*val ([u32.wrap (u64.wrap (Int.tdiv 1000000000 (u64.wrap ((u64.wrap x2)+1))))])))).toNat)),(10,.own 5),(11,SI s11),(13,.d (.int .u64) (u64.wrap (f317_0_13-1)))],0,N'⟩]⟩
def KL(a b:List Int)(k:KT):OLR:=og (D' (aR a)) (og (D' (aR b)) (match((ae (val b).toNat).length:Int)==1 with|T'=>(match aH (ae (val b).toNat) 0 with|S' x1=>(og (D' (Gf (ae (val a).toNat) x1)) (S' [RV.d asj (dig (ae (val a).toNat).length (val (ae (val a).toNat)/x1)),RV.d asj ([val (ae (val a).toNat)%x1])]))|N'=>N')|F'=>(og (D' (aR (ae (val a).toNat)/\aR (ae (val b).toNat))) (match D' ((b9 (val (ae (val a).toNat)) (val (ae (val b).toNat)))<0)with|T'=>(og (D' ((ae (val a).toNat).length*4<=140737488355328/\(ae (val a).toNat).length<=140737488355328)) (S' [RV.d asj ([]),RV.d asj (ae (val a).toNat)]))|F'=>(match aH (ae (val b).toNat) (i64.wrap (((ae (val b).toNat).length:Int)-1))with|S' x2=>(match D' (u64.wrap ((u64.wrap x2)+1)=(0:Int))with|T'=>N'|F'=>(og (D' (aR (ae (val a).toNat)/\aR ([u32.wrap (u64.wrap (Int.tdiv 1000000000 (u64.wrap ((u64.wrap x2)+1))))]))) (og (D' (((dig ((ae (val a).toNat).length+([u32.wrap (u64.wrap (Int.tdiv 1000000000 (u64.wrap ((u64.wrap x2)+1))))]).length) (val (ae (val a).toNat)*val ([u32.wrap (u64.wrap (Int.tdiv 1000000000 (u64.wrap ((u64.wrap x2)+1))))]))).length+([0]).length)*4<=140737488355328/\(dig ((ae (val a).toNat).length+([u32.wrap (u64.wrap (Int.tdiv 1000000000 (u64.wrap ((u64.wrap x2)+1))))]).length) (val (ae (val a).toNat)*val ([u32.wrap (u64.wrap (Int.tdiv 1000000000 (u64.wrap ((u64.wrap x2)+1))))]))).length+([0]).length<=140737488355328)) (og (D' (aR (ae (val b).toNat)/\aR ([u32.wrap (u64.wrap (Int.tdiv 1000000000 (u64.wrap ((u64.wrap x2)+1))))]))) (og (D' (aR (dig ((ae (val b).toNat).length+([u32.wrap (u64.wrap (Int.tdiv 1000000000 (u64.wrap ((u64.wrap x2)+1))))]).length) (val (ae (val b).toNat)*val ([u32.wrap (u64.wrap (Int.tdiv 1000000000 (u64.wrap ((u64.wrap x2)+1))))]))))) (og (D' ((0:Int)<=i64.wrap ((((dig ((ae (val a).toNat).length+([u32.wrap (u64.wrap (Int.tdiv 1000000000 (u64.wrap ((u64.wrap x2)+1))))]).length) (val (ae (val a).toNat)*val ([u32.wrap (u64.wrap (Int.tdiv 1000000000 (u64.wrap ((u64.wrap x2)+1))))])))++([0])).length:Int)-((ae (val b).toNat).length:Int))/\(i64.wrap ((((dig ((ae (val a).toNat).length+([u32.wrap (u64.wrap (Int.tdiv 1000000000 (u64.wrap ((u64.wrap x2)+1))))]).length) (val (ae (val a).toNat)*val ([u32.wrap (u64.wrap (Int.tdiv 1000000000 (u64.wrap ((u64.wrap x2)+1))))])))++([0])).length:Int)-((ae (val b).toNat).length:Int)))*((4:Nat):Int)<=140737488355328/\i64.wrap ((((dig ((ae (val a).toNat).length+([u32.wrap (u64.wrap (Int.tdiv 1000000000 (u64.wrap ((u64.wrap x2)+1))))]).length) (val (ae (val a).toNat)*val ([u32.wrap (u64.wrap (Int.tdiv 1000000000 (u64.wrap ((u64.wrap x2)+1))))])))++([0])).length:Int)-((ae (val b).toNat).length:Int))<=140737488355328)) (k 34 (qG b x2 (i64.wrap ((i64.wrap ((((dig ((ae (val a).toNat).length+([u32.wrap (u64.wrap (Int.tdiv 1000000000 (u64.wrap ((u64.wrap x2)+1))))]).length) (val (ae (val a).toNat)*val ([u32.wrap (u64.wrap (Int.tdiv 1000000000 (u64.wrap ((u64.wrap x2)+1))))])))++([0])).length:Int)-((ae (val b).toNat).length:Int)))-1)) (List.replicate (i64.wrap ((((dig ((ae (val a).toNat).length+([u32.wrap (u64.wrap (Int.tdiv 1000000000 (u64.wrap ((u64.wrap x2)+1))))]).length) (val (ae (val a).toNat)*val ([u32.wrap (u64.wrap (Int.tdiv 1000000000 (u64.wrap ((u64.wrap x2)+1))))])))++([0])).length:Int)-((ae (val b).toNat).length:Int))).toNat (0:Int)) ((dig ((ae (val a).toNat).length+([u32.wrap (u64.wrap (Int.tdiv 1000000000 (u64.wrap ((u64.wrap x2)+1))))]).length) (val (ae (val a).toNat)*val ([u32.wrap (u64.wrap (Int.tdiv 1000000000 (u64.wrap ((u64.wrap x2)+1))))])))++([0]))))))))))|N'=>N')))))
theorem ND(a b:List Int):RS ga 268 [.d asj a,.d asj b] (KL a b):=rsX
def vo(b:List Int)(x2 s11:Int)(r5 r1:List Int)(k:KT):OLR:=match D' (s11>=0)with|T'=>(match aH r1 (i64.wrap (s11+((ae (val b).toNat).length:Int)))with|S' _=>(match T',r1[(i64.wrap (s11+((ae (val b).toNat).length:Int))).toNat]? with|T',S' x3=>(match aH r1 (i64.wrap ((i64.wrap (s11+((ae (val b).toNat).length:Int)))-1))with|S' _=>(match T',r1[(i64.wrap ((i64.wrap (s11+((ae (val b).toNat).length:Int)))-1)).toNat]? with|T',S' x4=>(match aH (ae (val (dig ((ae (val b).toNat).length+([u32.wrap (u64.wrap (Int.tdiv 1000000000 (u64.wrap ((u64.wrap x2)+1))))]).length) (val (ae (val b).toNat)*val ([u32.wrap (u64.wrap (Int.tdiv 1000000000 (u64.wrap ((u64.wrap x2)+1))))])))).toNat) (i64.wrap (((ae (val b).toNat).length:Int)-1))with|S' x5=>(match D' (u64.wrap x5=(0:Int))with|T'=>N'|F'=>(match aH (ae (val (dig ((ae (val b).toNat).length+([u32.wrap (u64.wrap (Int.tdiv 1000000000 (u64.wrap ((u64.wrap x2)+1))))]).length) (val (ae (val b).toNat)*val ([u32.wrap (u64.wrap (Int.tdiv 1000000000 (u64.wrap ((u64.wrap x2)+1))))])))).toNat) (i64.wrap (((ae (val b).toNat).length:Int)-1))with|S' x6=>(match D' (u64.wrap x6=(0:Int))with|T'=>N'|F'=>k 49 (nY b x2 s11 r1 r5 (u64.wrap (Int.tdiv (u64.wrap ((u64.wrap ((u64.wrap x3)*1000000000))+(u64.wrap x4))) (u64.wrap x5))) (Int.tmod (u64.wrap ((u64.wrap ((u64.wrap x3)*1000000000))+(u64.wrap x4))) (u64.wrap x6))))|N'=>N'))|N'=>N')|_,_=>N')|N'=>N')|_,_=>N')|N'=>N')|F'=>(og (D' ((0:Int)<=0/\0<=((ae (val b).toNat).length:Int)/\((ae (val b).toNat).length:Int)<=(r1.length:Int))) (og (D' (aR ((r1.drop ((0:Int).toNat)).take ((((ae (val b).toNat).length:Int):Int).toNat-(0:Int).toNat)))) (og (D' (Gf (ae (val ((r1.drop ((0:Int).toNat)).take ((((ae (val b).toNat).length:Int):Int).toNat-(0:Int).toNat))).toNat) (u32.wrap (u64.wrap (Int.tdiv 1000000000 (u64.wrap ((u64.wrap x2)+1))))))) (S' [RV.d asj r5,RV.d asj (dig (ae (val ((r1.drop ((0:Int).toNat)).take ((((ae (val b).toNat).length:Int):Int).toNat-(0:Int).toNat))).toNat).length (val (ae (val ((r1.drop ((0:Int).toNat)).take ((((ae (val b).toNat).length:Int):Int).toNat-(0:Int).toNat))).toNat)/(u32.wrap (u64.wrap (Int.tdiv 1000000000 (u64.wrap ((u64.wrap x2)+1)))))))]))))
theorem BH(b:List Int)(x2 s11:Int)(r5 r1:List Int):RN ga 34 (qG b x2 s11 r5 r1) (vo b x2 s11 r5 r1):=rnX
def mI(b:List Int)(x2 s11:Int)(r1 r5:List Int)(s13 s14:Int)(k:KT):OLR:=match D' (s13>=1000000000)with|T'=>(match aH (ae (val (dig ((ae (val b).toNat).length+([u32.wrap (u64.wrap (Int.tdiv 1000000000 (u64.wrap ((u64.wrap x2)+1))))]).length) (val (ae (val b).toNat)*val ([u32.wrap (u64.wrap (Int.tdiv 1000000000 (u64.wrap ((u64.wrap x2)+1))))])))).toNat) (i64.wrap (((ae (val b).toNat).length:Int)-1))with|S' x7=>(match D' ((u64.wrap (s14+(u64.wrap x7)))>=1000000000)with|T'=>(og (D' ((0:Int)<=s11/\s11<=i64.wrap ((i64.wrap (s11+((ae (val b).toNat).length:Int)))+1)/\i64.wrap ((i64.wrap (s11+((ae (val b).toNat).length:Int)))+1)<=(r1.length:Int))) (k 8 (cV b x2 s11 r5 (u64.wrap (s13-1)) (u64.wrap (s13-1)) 0 0 0 r1)))|F'=>k 49 (nY b x2 s11 r1 r5 (u64.wrap (s13-1)) (u64.wrap (s14+(u64.wrap x7)))))|N'=>N')|F'=>(match aH (ae (val (dig ((ae (val b).toNat).length+([u32.wrap (u64.wrap (Int.tdiv 1000000000 (u64.wrap ((u64.wrap x2)+1))))]).length) (val (ae (val b).toNat)*val ([u32.wrap (u64.wrap (Int.tdiv 1000000000 (u64.wrap ((u64.wrap x2)+1))))])))).toNat) (i64.wrap (((ae (val b).toNat).length:Int)-2))with|S' x8=>(match aH r1 (i64.wrap ((i64.wrap (s11+((ae (val b).toNat).length:Int)))-2))with|S' _=>(match T',r1[(i64.wrap ((i64.wrap (s11+((ae (val b).toNat).length:Int)))-2)).toNat]? with|T',S' x9=>(match D' ((u64.wrap (s13*(u64.wrap x8)))>(u64.wrap ((u64.wrap (s14*1000000000))+(u64.wrap x9))))with|T'=>(match aH (ae (val (dig ((ae (val b).toNat).length+([u32.wrap (u64.wrap (Int.tdiv 1000000000 (u64.wrap ((u64.wrap x2)+1))))]).length) (val (ae (val b).toNat)*val ([u32.wrap (u64.wrap (Int.tdiv 1000000000 (u64.wrap ((u64.wrap x2)+1))))])))).toNat) (i64.wrap (((ae (val b).toNat).length:Int)-1))with|S' x10=>(match D' ((u64.wrap (s14+(u64.wrap x10)))>=1000000000)with|T'=>(og (D' ((0:Int)<=s11/\s11<=i64.wrap ((i64.wrap (s11+((ae (val b).toNat).length:Int)))+1)/\i64.wrap ((i64.wrap (s11+((ae (val b).toNat).length:Int)))+1)<=(r1.length:Int))) (k 8 (cV b x2 s11 r5 (u64.wrap (s13-1)) (u64.wrap (s13-1)) 0 0 0 r1)))|F'=>k 49 (nY b x2 s11 r1 r5 (u64.wrap (s13-1)) (u64.wrap (s14+(u64.wrap x10)))))|N'=>N')|F'=>(og (D' ((0:Int)<=s11/\s11<=i64.wrap ((i64.wrap (s11+((ae (val b).toNat).length:Int)))+1)/\i64.wrap ((i64.wrap (s11+((ae (val b).toNat).length:Int)))+1)<=(r1.length:Int))) (k 8 (cV b x2 s11 r5 s13 s13 0 0 0 r1))))|_,_=>N')|N'=>N')|N'=>N')
theorem qE(b:List Int)(x2 s11:Int)(r1 r5:List Int)(s13 s14:Int):RN ga 49 (nY b x2 s11 r1 r5 s13 s14) (mI b x2 s11 r1 r5 s13 s14):=rnX
def dg(b:List Int)(x2 s11:Int)(r5:List Int)(s317_2 f317_0_13 s317_7 s317_8 s317_15:Int)(r317_1:List Int)(k:KT):OLR:=match D' (s317_15<(((i64.wrap ((i64.wrap (s11+((ae (val b).toNat).length:Int)))+1):Int).toNat-(s11:Int).toNat:Nat):Int))with|T'=>(match D' (s317_15<((ae (val (dig ((ae (val b).toNat).length+([u32.wrap (u64.wrap (Int.tdiv 1000000000 (u64.wrap ((u64.wrap x2)+1))))]).length) (val (ae (val b).toNat)*val ([u32.wrap (u64.wrap (Int.tdiv 1000000000 (u64.wrap ((u64.wrap x2)+1))))])))).toNat).length:Int))with|T'=>(match aH (ae (val (dig ((ae (val b).toNat).length+([u32.wrap (u64.wrap (Int.tdiv 1000000000 (u64.wrap ((u64.wrap x2)+1))))]).length) (val (ae (val b).toNat)*val ([u32.wrap (u64.wrap (Int.tdiv 1000000000 (u64.wrap ((u64.wrap x2)+1))))])))).toNat) s317_15 with|S' x11=>(match T',D' ((0:Int)<=s317_15/\s317_15<(((i64.wrap ((i64.wrap (s11+((ae (val b).toNat).length:Int)))+1):Int).toNat-(s11:Int).toNat:Nat):Int))with|T',T'=>(match T',r317_1[(s11:Int).toNat+(s317_15).toNat]? with|T',S' x12=>(match D' ((u64.wrap x12)<(u64.wrap ((Int.tmod (u64.wrap (s317_7+(u64.wrap ((u64.wrap x11)*s317_2)))) 1000000000)+s317_8)))with|T'=>(match T',D' ((0:Int)<=s317_15/\s317_15<(((i64.wrap ((i64.wrap (s11+((ae (val b).toNat).length:Int)))+1):Int).toNat-(s11:Int).toNat:Nat):Int))with|T',T'=>(match T',r317_1[(s11:Int).toNat+(s317_15).toNat]? with|T',S' _=>k 8 (cV b x2 s11 r5 s317_2 f317_0_13 (u64.wrap (Int.tdiv (u64.wrap (s317_7+(u64.wrap ((u64.wrap x11)*s317_2)))) 1000000000)) 1 (i64.wrap (s317_15+1)) (r317_1.set ((s11:Int).toNat+(s317_15).toNat) (u32.wrap (u64.wrap ((u64.wrap ((u64.wrap x12)+1000000000))-(u64.wrap ((Int.tmod (u64.wrap (s317_7+(u64.wrap ((u64.wrap x11)*s317_2)))) 1000000000)+s317_8)))))))|_,_=>N')|_,_=>N')|F'=>(match T',D' ((0:Int)<=s317_15/\s317_15<(((i64.wrap ((i64.wrap (s11+((ae (val b).toNat).length:Int)))+1):Int).toNat-(s11:Int).toNat:Nat):Int))with|T',T'=>(match T',r317_1[(s11:Int).toNat+(s317_15).toNat]? with|T',S' _=>k 8 (cV b x2 s11 r5 s317_2 f317_0_13 (u64.wrap (Int.tdiv (u64.wrap (s317_7+(u64.wrap ((u64.wrap x11)*s317_2)))) 1000000000)) 0 (i64.wrap (s317_15+1)) (r317_1.set ((s11:Int).toNat+(s317_15).toNat) (u32.wrap (u64.wrap ((u64.wrap x12)-(u64.wrap ((Int.tmod (u64.wrap (s317_7+(u64.wrap ((u64.wrap x11)*s317_2)))) 1000000000)+s317_8)))))))|_,_=>N')|_,_=>N'))|_,_=>N')|_,_=>N')|N'=>N')|F'=>(match T',D' ((0:Int)<=s317_15/\s317_15<(((i64.wrap ((i64.wrap (s11+((ae (val b).toNat).length:Int)))+1):Int).toNat-(s11:Int).toNat:Nat):Int))with|T',T'=>(match T',r317_1[(s11:Int).toNat+(s317_15).toNat]? with|T',S' x15=>(match D' ((u64.wrap x15)<(u64.wrap ((Int.tmod s317_7 1000000000)+s317_8)))with|T'=>(match T',D' ((0:Int)<=s317_15/\s317_15<(((i64.wrap ((i64.wrap (s11+((ae (val b).toNat).length:Int)))+1):Int).toNat-(s11:Int).toNat:Nat):Int))with|T',T'=>(match T',r317_1[(s11:Int).toNat+(s317_15).toNat]? with|T',S' _=>k 8 (cV b x2 s11 r5 s317_2 f317_0_13 (u64.wrap (Int.tdiv s317_7 1000000000)) 1 (i64.wrap (s317_15+1)) (r317_1.set ((s11:Int).toNat+(s317_15).toNat) (u32.wrap (u64.wrap ((u64.wrap ((u64.wrap x15)+1000000000))-(u64.wrap ((Int.tmod s317_7 1000000000)+s317_8)))))))|_,_=>N')|_,_=>N')|F'=>(match T',D' ((0:Int)<=s317_15/\s317_15<(((i64.wrap ((i64.wrap (s11+((ae (val b).toNat).length:Int)))+1):Int).toNat-(s11:Int).toNat:Nat):Int))with|T',T'=>(match T',r317_1[(s11:Int).toNat+(s317_15).toNat]? with|T',S' _=>k 8 (cV b x2 s11 r5 s317_2 f317_0_13 (u64.wrap (Int.tdiv s317_7 1000000000)) 0 (i64.wrap (s317_15+1)) (r317_1.set ((s11:Int).toNat+(s317_15).toNat) (u32.wrap (u64.wrap ((u64.wrap x15)-(u64.wrap ((Int.tmod s317_7 1000000000)+s317_8)))))))|_,_=>N')|_,_=>N'))|_,_=>N')|_,_=>N'))|F'=>(match D' (s317_8>0)with|T'=>(og (D' ((0:Int)<=s11/\s11<=i64.wrap ((i64.wrap (s11+((ae (val b).toNat).length:Int)))+1)/\i64.wrap ((i64.wrap (s11+((ae (val b).toNat).length:Int)))+1)<=(r317_1.length:Int))) (k 5 (dE b x2 s11 r5 f317_0_13 0 0 r317_1)))|F'=>(match D' (s317_7>0)with|T'=>(og (D' ((0:Int)<=s11/\s11<=i64.wrap ((i64.wrap (s11+((ae (val b).toNat).length:Int)))+1)/\i64.wrap ((i64.wrap (s11+((ae (val b).toNat).length:Int)))+1)<=(r317_1.length:Int))) (k 5 (dE b x2 s11 r5 f317_0_13 0 0 r317_1)))|F'=>(match aH r5 s11 with|S' _=>(match T',r5[(s11).toNat]? with|T',S' _=>k 34 (qG b x2 (i64.wrap (s11-1)) (r5.set ((s11).toNat) (u32.wrap f317_0_13)) r317_1)|_,_=>N')|N'=>N')))
theorem fB(b:List Int)(x2 s11:Int)(r5:List Int)(s317_2 f317_0_13 s317_7 s317_8 s317_15:Int)(r317_1:List Int):RN ga 8 (cV b x2 s11 r5 s317_2 f317_0_13 s317_7 s317_8 s317_15 r317_1) (dg b x2 s11 r5 s317_2 f317_0_13 s317_7 s317_8 s317_15 r317_1):=rnX
def dY(b:List Int)(x2 s11:Int)(r5:List Int)(f317_0_13 s318_4 s318_9:Int)(r318_1:List Int)(k:KT):OLR:=match D' (s318_9<(((i64.wrap ((i64.wrap (s11+((ae (val b).toNat).length:Int)))+1):Int).toNat-(s11:Int).toNat:Nat):Int))with|T'=>(match T',D' ((0:Int)<=s318_9/\s318_9<(((i64.wrap ((i64.wrap (s11+((ae (val b).toNat).length:Int)))+1):Int).toNat-(s11:Int).toNat:Nat):Int))with|T',T'=>(match T',r318_1[(s11:Int).toNat+(s318_9).toNat]? with|T',S' x19=>(match D' (s318_9<((ae (val (dig ((ae (val b).toNat).length+([u32.wrap (u64.wrap (Int.tdiv 1000000000 (u64.wrap ((u64.wrap x2)+1))))]).length) (val (ae (val b).toNat)*val ([u32.wrap (u64.wrap (Int.tdiv 1000000000 (u64.wrap ((u64.wrap x2)+1))))])))).toNat).length:Int))with|T'=>(match aH (ae (val (dig ((ae (val b).toNat).length+([u32.wrap (u64.wrap (Int.tdiv 1000000000 (u64.wrap ((u64.wrap x2)+1))))]).length) (val (ae (val b).toNat)*val ([u32.wrap (u64.wrap (Int.tdiv 1000000000 (u64.wrap ((u64.wrap x2)+1))))])))).toNat) s318_9 with|S' x20=>(match D' ((u32.wrap ((u32.wrap (x19+s318_4))+x20))>=1000000000)with|T'=>(match T',D' ((0:Int)<=s318_9/\s318_9<(((i64.wrap ((i64.wrap (s11+((ae (val b).toNat).length:Int)))+1):Int).toNat-(s11:Int).toNat:Nat):Int))with|T',T'=>(match T',r318_1[(s11:Int).toNat+(s318_9).toNat]? with|T',S' _=>k 5 (dE b x2 s11 r5 f317_0_13 1 (i64.wrap (s318_9+1)) (r318_1.set ((s11:Int).toNat+(s318_9).toNat) (u32.wrap ((u32.wrap ((u32.wrap (x19+s318_4))+x20))-1000000000))))|_,_=>N')|_,_=>N')|F'=>(match T',D' ((0:Int)<=s318_9/\s318_9<(((i64.wrap ((i64.wrap (s11+((ae (val b).toNat).length:Int)))+1):Int).toNat-(s11:Int).toNat:Nat):Int))with|T',T'=>(match T',r318_1[(s11:Int).toNat+(s318_9).toNat]? with|T',S' _=>k 5 (dE b x2 s11 r5 f317_0_13 0 (i64.wrap (s318_9+1)) (r318_1.set ((s11:Int).toNat+(s318_9).toNat) (u32.wrap ((u32.wrap (x19+s318_4))+x20))))|_,_=>N')|_,_=>N'))|N'=>N')|F'=>(match D' ((u32.wrap (x19+s318_4))>=1000000000)with|T'=>(match T',D' ((0:Int)<=s318_9/\s318_9<(((i64.wrap ((i64.wrap (s11+((ae (val b).toNat).length:Int)))+1):Int).toNat-(s11:Int).toNat:Nat):Int))with|T',T'=>(match T',r318_1[(s11:Int).toNat+(s318_9).toNat]? with|T',S' _=>k 5 (dE b x2 s11 r5 f317_0_13 1 (i64.wrap (s318_9+1)) (r318_1.set ((s11:Int).toNat+(s318_9).toNat) (u32.wrap ((u32.wrap (x19+s318_4))-1000000000))))|_,_=>N')|_,_=>N')|F'=>(match T',D' ((0:Int)<=s318_9/\s318_9<(((i64.wrap ((i64.wrap (s11+((ae (val b).toNat).length:Int)))+1):Int).toNat-(s11:Int).toNat:Nat):Int))with|T',T'=>(match T',r318_1[(s11:Int).toNat+(s318_9).toNat]? with|T',S' _=>k 5 (dE b x2 s11 r5 f317_0_13 0 (i64.wrap (s318_9+1)) (r318_1.set ((s11:Int).toNat+(s318_9).toNat) (u32.wrap (x19+s318_4))))|_,_=>N')|_,_=>N')))|_,_=>N')|_,_=>N')|F'=>(match aH r5 s11 with|S' _=>(match T',r5[(s11).toNat]? with|T',S' _=>k 34 (qG b x2 (i64.wrap (s11-1)) (r5.set ((s11).toNat) (u32.wrap (u64.wrap (f317_0_13-1)))) r318_1)|_,_=>N')|N'=>N')
theorem fE(b:List Int)(x2 s11:Int)(r5:List Int)(f317_0_13 s318_4 s318_9:Int)(r318_1:List Int):RN ga 5 (dE b x2 s11 r5 f317_0_13 s318_4 s318_9 r318_1) (dY b x2 s11 r5 f317_0_13 s318_4 s318_9 r318_1):=rnX
section
theorem Rv{x:Int}(h1:1<=x)(h2:x<1000000000):1<=1000000000/(x+1)/\1000000000/(x+1)<=500000000/\(x+1)*(1000000000/(x+1))<=1000000000/\500000000<=x*(1000000000/(x+1)):=by
 have m0:=ap4 1000000000 (show x+1≠0 by omega);have m1:=apE 1000000000 (show 0<x+1 by omega);have md:=apC 1000000000 (x+1);have d1:1<=1000000000/(x+1):=Int.le_ediv_of_mul_le (by omega) (by omega)
 have d2:1000000000/(x+1)<=500000000:=by
  have:1000000000/(x+1)<500000001:=aqo (by omega) (by omega);omega
 generalize 1000000000/(x+1)=d at*
 refine⟨d1,d2,by omega,?_⟩;rcases apl x 500000000 with hx|hx
 ·rcases apl (x*d) 500000000 with hd|hd
  ·exfalso;have e2:(x+1)*d>=1000000000-x:=by omega
   have e3:(x+1)*(x*d)<=(x+1)*499999999:=aoW (by omega) (by omega);have e4:x*(1000000000-x)<=x*((x+1)*d):=aoW e2 (by omega);have e5:0<=(x-1)*(500000000-x):=apN (by omega) (by omega);grind
  omega
 ·have:=aq8 hx d1 (by decide) (by omega);omega
structure Kn (w V u2 u1 u0 v1 v0:Int):Prop where
 P:∃P wl vl:Int,0<P/\0<=wl/\wl<P/\0<=vl/\vl<P/\w=wl+P*(u0+1000000000*u1+1000000000*1000000000*u2)/\V=vl+P*(v0+1000000000*v1)
 u2:0<=u2/\u2<1000000000
 u1:0<=u1/\u1<1000000000
 u0:0<=u0/\u0<1000000000
 v1:500000000<=v1/\v1<1000000000
 v0:0<=v0/\v0<1000000000
 lt:w<V*1000000000
section
variable {w V u2 u1 u0 v1 v0:Int} (h:Kn w V u2 u1 u0 v1 v0)
include h
theorem Kn.top:u2<=v1:=by
 obtain⟨⟨P,wl,vl,p0,a1,a2,b1,b2,hw,hV⟩,⟨x1,x2⟩,⟨x3,x4⟩,⟨x5,x6⟩,⟨y1,y2⟩,⟨y3,y4⟩,hlt⟩:=h;rcases apl v1 u2 with hc|hc
 ·have e1:P*(1000000000*1000000000*(v1+1))<=P*(u0+1000000000*u1+1000000000*1000000000*u2):=aoW (by omega) (by omega);have e2:P*(v0+1000000000*v1)<=P*(999999999+1000000000*v1):=aoW (by omega) (by omega);grind
 omega
theorem Kn.pos:0<V:=by
 obtain⟨⟨P,wl,vl,p0,a1,a2,b1,b2,hw,hV⟩,⟨x1,x2⟩,⟨x3,x4⟩,⟨x5,x6⟩,⟨y1,y2⟩,⟨y3,y4⟩,hlt⟩:=h;have:=Int.mul_pos p0 (show 0<v0+1000000000*v1 by omega);omega
theorem Kn.great{g rest:Int}(hg:0<=g)(he:g*v1+rest=u2*1000000000+u1)(hc:rest*1000000000+u0<g*v0):w<g*V:=by
 obtain⟨⟨P,wl,vl,p0,a1,a2,b1,b2,hw,hV⟩,⟨x1,x2⟩,⟨x3,x4⟩,⟨x5,x6⟩,⟨y1,y2⟩,⟨y3,y4⟩,hlt⟩:=h;have e1:g*V=g*vl+P*(g*v0+1000000000*(g*v1)):=by rw[hV];grind
 have e2:0<=g*vl:=apN hg b1;have e3:P*(u0+1000000000*u1+1000000000*1000000000*u2+1)<=P*(g*v0+1000000000*(g*v1)):=aoW (by omega) (by omega);grind
theorem Kn.small{g rest:Int}(_hg:0<=g)(hgB:g<=1000000000)(he:g*v1+rest=u2*1000000000+u1)(hc:g*v0<=rest*1000000000+u0):g*V<w+V:=by
 obtain⟨⟨P,wl,vl,p0,a1,a2,b1,b2,hw,hV⟩,⟨x1,x2⟩,⟨x3,x4⟩,⟨x5,x6⟩,⟨y1,y2⟩,⟨y3,y4⟩,hlt⟩:=h;have e1:g*V=g*vl+P*(g*v0+1000000000*(g*v1)):=by rw[hV];grind
 have e2:g*vl<=1000000000*P:=aq8 hgB (by omega) b1 (by decide);have e3:P*(g*v0+1000000000*(g*v1))<=P*(u0+1000000000*u1+1000000000*1000000000*u2):=aoW (by omega) (by omega);have e4:P*(1000000000*500000000)<=P*(v0+1000000000*v1):=aoW (by omega) (by omega);omega
theorem Kn.first{g:Int}(hg:g=(u2*1000000000+u1)/v1):w<(g+1)*V:=by
 obtain⟨⟨P,wl,vl,p0,a1,a2,b1,b2,hw,hV⟩,⟨x1,x2⟩,⟨x3,x4⟩,⟨x5,x6⟩,⟨y1,y2⟩,⟨y3,y4⟩,hlt⟩:=h;have m1:=apE (u2*1000000000+u1) (show 0<v1 by omega);have md:=apC (u2*1000000000+u1) v1;rw[<-hg]at md;have g0:0<=g:=by rw[hg];exact apQ (by omega) (by omega)
 have e1:(g+1)*V=(g+1)*vl+P*((g+1)*v0+1000000000*((g+1)*v1)):=by rw[hV];grind
 have e2:0<=(g+1)*vl:=apN (by omega) b1;have e3:0<=(g+1)*v0:=apN (by omega) y3;have e4:(g+1)*v1=v1*g+v1:=by grind
 have e5:P*(1000000000*(u2*1000000000+u1+1))<=P*((g+1)*v0+1000000000*((g+1)*v1)):=aoW (by omega) (by omega)
 have e6:P*(u0+1000000000*u1+1000000000*1000000000*u2)+P<=P*(1000000000*(u2*1000000000+u1+1)):=by
  have:P*(u0+1000000000*u1+1000000000*1000000000*u2+1)<=P*(1000000000*(u2*1000000000+u1+1)):=aoW (by omega) (by omega);grind
 omega
end
theorem Fl{l:List Int}{m:Nat}(h:l.length=m+2):val l=val (l.take m)+pw m*(l[m]+1000000000*l[m+1]):=by grind [bi,bW]
theorem QE{l:List Int}{m:Nat}(h:l.length=m+3):val l=val (l.take m)+pw m*(l[m]+1000000000*l[m+1]+1000000000*1000000000*l[m+2]):=by grind [bi,bW]
def win(k n:Nat)(r:List Int):Int:=val ((r.drop k).take (n+1))
theorem Jv{k n:Nat}{r:List Int}(h:k+n+1<=r.length)(hz:val (r.drop (k+n+1))=0):val r=val (r.take k)+pw k*win k n r:=by
 have h1:=fO r k;have h2:=fO (r.drop k) (n+1);grind [ar5,win]
theorem QS{k n:Nat}{r:List Int}(hl:Lim r)(h:k+n+1<=r.length):0<=win k n r/\win k n r<pw (n+1):=by
 have h1:=(hl.drop k).take (n+1);have h2:=bU h1;rw[app,ark,aps (by omega)]at h2;exact⟨aP h1,h2⟩
theorem amz{v r:List Int}{k m:Nat}(hv:Lim v)(hvl:v.length=m+2)(hr:Lim r)(hk:k+m+3<=r.length)(htop:500000000<=v[m+1])(hlt:win k (m+2) r<val v*1000000000):
  Kn (win k (m+2) r) (val v) r[k+m+2] r[k+m+1] r[k+m] v[m+1] v[m]:=by
 have hwl:((r.drop k).take (m+2+1)).length=m+3:=by rw[app,ark];omega
 have h3:=QE hwl;have h2:=Fl hvl;have hl1:=(hr.drop k).take (m+2+1);have g:∀j (hj:j<m+3),((r.drop k).take (m+2+1))[j]=r[k+j]:=λj hj=>by simp
 rw[g m (by omega),g (m+1) (by omega),g (m+2) (by omega)]at h3;have t1:=hl1.take m;have t2:=hv.take m;have b1:=bU t1;have b2:=bU t2;rw[app,aps (by omega)]at b1 b2;exact⟨⟨pw m,_,_,cf m,aP t1,b1,aP t2,b2,h3,h2⟩,hr.get (by omega),hr.get (by omega),hr.get (by omega),⟨htop,(hv.get (by omega)).2⟩,hv.get (by omega),hlt⟩
end
section
theorem vZ{r:List Int}{k i:Nat}(y:Int):(r.set (k+i) y).take k=r.take k:=List.take_set_of_le (by omega)
theorem v8{r:List Int}{k i n:Nat}(y:Int)(h:i<=n):(r.set (k+i) y).drop (k+n+1)=r.drop (k+n+1):=List.drop_set_of_lt (by omega)
section
variable (b:List Int) (x2:Int) (v:List Int) (m:Nat) (hN:(ae (val b).toNat).length=m+2) (hv:ae (val (dig ((ae (val b).toNat).length+([u32.wrap (u64.wrap (Int.tdiv 1000000000 (u64.wrap ((u64.wrap x2)+1))))]).length) (val (ae (val b).toNat)*val ([u32.wrap (u64.wrap (Int.tdiv 1000000000 (u64.wrap ((u64.wrap x2)+1))))])))).toNat=v) (lv:Lim v) (hvl:v.length=m+2)
include hN hv lv hvl
theorem SG(k:Nat)(r0 r5:List Int)(g:Int)(hg:0<=g/\g<1000000000)(hk:k+(m+2)+1<=r0.length)(hsz:r0.length<=4000000000)(R:List RV)
  (hno:∀r,Lim r->r.length=r0.length->r.take k=r0.take k->r.drop (k+(m+2)+1)=r0.drop (k+(m+2)+1)->val r=val r0-pw k*(g*val v)->∃q,dg b x2 (k:Int) r5 g g 0 0 ((m+2+1:Nat):Int) r (ga.k q)=S' R)
  (hyes:∀r,Lim r->r.length=r0.length->r.take k=r0.take k->r.drop (k+(m+2)+1)=r0.drop (k+(m+2)+1)->val r=val r0-pw k*(g*val v)+pw (k+(m+2)+1)->∃q,dg b x2 (k:Int) r5 g g 0 1 ((m+2+1:Nat):Int) r (ga.k q)=S' R):
  ∀(j i:Nat) (c bo:Int) (r:List Int),i+j=m+2+1->0<=c->c<1000000000->(i=m+2+1->c=0)->0<=bo->bo<=1->Lim r->r.length=r0.length->r.take k=r0.take k->r.drop (k+(m+2)+1)=r0.drop (k+(m+2)+1)->
   val r=val r0-pw k*(g*val (v.take i))+pw (k+i)*(c+bo)->ga.Runs 8 (cV b x2 (k:Int) r5 g g c bo (i:Int) r) R:=by
 have e1:i64.wrap ((k:Int)+((m+2:Nat):Int))=((k+(m+2):Nat):Int):=by rw[aM (by omega) (by omega)];simp
 have e2:i64.wrap (((k+(m+2):Nat):Int)+1)=((k+(m+2)+1:Nat):Int):=aS (by omega);have e3:k+(m+2)+1-k=m+2+1:=by omega
 intro j;induction j with
 |zero=>
  intro i c bo r hi c0 c1 hc b0 b1 lr hl ht hd hval;obtain rfl:i=m+2+1:=by omega
  obtain rfl:=hc rfl;rw[apy (by omega)]at hval;refine fB _ _ _ _ _ _ _ _ _ _ ?_;rcases(show bo=0\/bo=1 by omega)with rfl|rfl
  ·exact hno r lr hl ht hd (by rw[hval];simp)
  ·exact hyes r lr hl ht hd (by rw[hval];simp;rfl)
 |succ j ih=>
  intro i c bo r hi c0 c1 hc b0 b1 lr hl ht hd hval;have hir:k+i<r.length:=by omega
  have xr:=lr.get hir;have hwi:D' ((0:Int)<=(i:Int)/\(i:Int)<((m+2+1:Nat):Int))=true:=aoP (by omega);have hlt:D' ((i:Int)<((m+2+1:Nat):Int))=true:=aoP (by omega);have hw:=hv
  have step:∀(c' y bo':Int),0<=c'->c'<1000000000->(i+1=m+2+1->c'=0)->0<=y->y<1000000000->0<=bo'->bo'<=1->y=r[k+i]-(val (v.take (i+1))-val (v.take i))/pw i*g-c+1000000000*c'-bo+1000000000*bo'->pw i*((val (v.take (i+1))-val (v.take i))/pw i)=val (v.take (i+1))-val (v.take i)->
    ga.Runs 8 (cV b x2 (k:Int) r5 g g c' bo' ((i+1:Nat):Int) (r.set (k+i) y)) R:=by
   intro c' y bo' k0 k1 kc y0 y1 k2 k3 hy hp;refine ih (i+1) c' bo' (r.set (k+i) y) (by omega) k0 k1 kc k2 k3 (lr.set _ ⟨y0,y1⟩) (by simpa using hl) (by rw[vZ];exact ht) (by rw[v8 _ (by omega)];exact hd) ?_;rw[eV hir,hval,hy,show k+(i+1)=k+i+1 by omega,bW,fk];generalize (val (v.take (i+1))-val (v.take i))/pw i=d at*
   have:val (v.take (i+1))=val (v.take i)+pw i*d:=by omega
   rw[this];grind
  by_cases hiv:i<m+2
  ·have hiv':i<v.length:=by omega
   have xv:=lv.get hiv'
   have hdv:(val (v.take (i+1))-val (v.take i))/pw i=v[i]:=by
    rw[bi hiv',show val (v.take i)+pw i*v[i]-val (v.take i)=pw i*v[i] by omega,arc _ (by have:=cf i;omega)]
   rw[hdv]at step;have hbd:=Ix (r:=0) (by decide) xv hg ⟨c0,c1⟩;have t0:0<=c+v[i]*g:=by omega
   have q0:0<=(c+v[i]*g)/1000000000/\(c+v[i]*g)/1000000000<1000000000:=by omega
   have hpv:pw i*v[i]=val (v.take (i+1))-val (v.take i):=by rw[bi hiv'];omega
   by_cases hc2:r[k+i]<(c+v[i]*g)%1000000000+bo
   ·obtain⟨q,hq⟩:=step ((c+v[i]*g)/1000000000) (r[k+i]+1000000000-((c+v[i]*g)%1000000000+bo)) 1 q0.1 q0.2 (by omega) (by omega) (by omega) (by omega) (by omega) (by omega) hpv;refine fB _ _ _ _ _ _ _ _ _ _ ⟨q,?_⟩;unfold dg;rw[hw,hN,e1,e2,aE,aE,e3,hlt,hwi,hvl,aO hiv,ak v i,aoO hiv',aE,aoO hir];dsimp only
    rw[bH (x:=v[i]) (by omega) (by omega),bH (x:=v[i]*g) (by omega) (by omega),bH (x:=c+v[i]*g) (by omega) (by omega),ju t0,gG t0,bH (x:=(c+v[i]*g)/1000000000) (by omega) (by omega),bH (x:=(c+v[i]*g)%1000000000+bo) (by omega) (by omega),bH (x:=r[k+i]) (by omega) (by omega),aoP hc2,
     bH (x:=r[k+i]+1000000000) (by omega) (by omega),bH (x:=r[k+i]+1000000000-((c+v[i]*g)%1000000000+bo)) (by omega) (by omega),cX (x:=r[k+i]+1000000000-((c+v[i]*g)%1000000000+bo)) (by omega) (by omega),aS (k:=i) (by omega)]
    exact hq
   ·obtain⟨q,hq⟩:=step ((c+v[i]*g)/1000000000) (r[k+i]-((c+v[i]*g)%1000000000+bo)) 0 q0.1 q0.2 (by omega) (by omega) (by omega) (by omega) (by omega) (by omega) hpv;refine fB _ _ _ _ _ _ _ _ _ _ ⟨q,?_⟩;unfold dg;rw[hw,hN,e1,e2,aE,aE,e3,hlt,hwi,hvl,aO hiv,ak v i,aoO hiv',aE,aoO hir];dsimp only
    rw[bH (x:=v[i]) (by omega) (by omega),bH (x:=v[i]*g) (by omega) (by omega),bH (x:=c+v[i]*g) (by omega) (by omega),ju t0,gG t0,bH (x:=(c+v[i]*g)/1000000000) (by omega) (by omega),bH (x:=(c+v[i]*g)%1000000000+bo) (by omega) (by omega),bH (x:=r[k+i]) (by omega) (by omega),aoR hc2,
     bH (x:=r[k+i]-((c+v[i]*g)%1000000000+bo)) (by omega) (by omega),cX (x:=r[k+i]-((c+v[i]*g)%1000000000+bo)) (by omega) (by omega),aS (k:=i) (by omega)]
    exact hq
  ·have hpz:val (v.take (i+1))-val (v.take i)=0:=by rw[j9 (by omega)];omega
   rw[hpz]at step;simp only[Int.zero_ediv,Int.zero_mul,ary,Int.sub_zero,forall_const]at step;have m0:c%1000000000=c:=by omega
   have d0:c/1000000000=0:=by omega
   by_cases hc2:r[k+i]<c+bo
   ·obtain⟨q,hq⟩:=step 0 (r[k+i]+1000000000-(c+bo)) 1 (by omega) (by omega) (by omega) (by omega) (by omega) (by omega) (by omega) (by omega);refine fB _ _ _ _ _ _ _ _ _ _ ⟨q,?_⟩;unfold dg;rw[hw,hN,e1,e2,aE,aE,e3,hlt,hwi,hvl,bg (show m+2<=i by omega),aE,aoO hir];dsimp only
    rw[ju c0,gG c0,m0,d0,bH (x:=0) (by omega) (by omega),bH (x:=c+bo) (by omega) (by omega),bH (x:=r[k+i]) (by omega) (by omega),aoP hc2,
     bH (x:=r[k+i]+1000000000) (by omega) (by omega),bH (x:=r[k+i]+1000000000-(c+bo)) (by omega) (by omega),cX (x:=r[k+i]+1000000000-(c+bo)) (by omega) (by omega),aS (k:=i) (by omega)]
    exact hq
   ·obtain⟨q,hq⟩:=step 0 (r[k+i]-(c+bo)) 0 (by omega) (by omega) (by omega) (by omega) (by omega) (by omega) (by omega) (by omega);refine fB _ _ _ _ _ _ _ _ _ _ ⟨q,?_⟩;unfold dg;rw[hw,hN,e1,e2,aE,aE,e3,hlt,hwi,hvl,bg (show m+2<=i by omega),aE,aoO hir];dsimp only
    rw[ju c0,gG c0,m0,d0,bH (x:=0) (by omega) (by omega),bH (x:=c+bo) (by omega) (by omega),bH (x:=r[k+i]) (by omega) (by omega),aoR hc2,
     bH (x:=r[k+i]-(c+bo)) (by omega) (by omega),cX (x:=r[k+i]-(c+bo)) (by omega) (by omega),aS (k:=i) (by omega)]
    exact hq
end
end
end Go.Proofs.YtoimchcjhdcdmaaGreat
end
