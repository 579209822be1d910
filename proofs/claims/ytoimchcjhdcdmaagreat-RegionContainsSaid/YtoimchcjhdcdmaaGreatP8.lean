/- integer: trim, signed, split, FromInt64, compare. -/
import Derived.Test.YtoimchcjhdcdmaaGreatP7
noncomputable section
namespace Go.Proofs.YtoimchcjhdcdmaaGreat
open Go.RowKit Go.IntKind
open Bool renaming true->T',false->F'
open Option renaming some->S',none->N'
open Decidable renaming decide->D'
theorem an1:type_of% @Int.mul_le_mul_of_nonneg_right:=@Int.mul_le_mul_of_nonneg_right
theorem aoj:type_of% @Int.lt_or_le:=@Int.lt_or_le
theorem aoA:type_of% @Int.mul_ediv_add_emod:=@Int.mul_ediv_add_emod
theorem aoC:type_of% @Int.emod_lt_of_pos:=@Int.emod_lt_of_pos
theorem aoD:type_of% @IntKind.wrap_u64:=@IntKind.wrap_u64
theorem aoL:type_of% @Int.mul_nonneg:=@Int.mul_nonneg
theorem aoO:type_of% @Int.ediv_nonneg:=@Int.ediv_nonneg
theorem aoV:type_of% @Int.ediv_eq_zero_of_lt:=@Int.ediv_eq_zero_of_lt
theorem aoZ:type_of% @Int.emod_nonneg:=@Int.emod_nonneg
theorem ao1:type_of% @List.take_length:=@List.take_length
theorem apa:type_of% @List.getElem_set_ne:=@List.getElem_set_ne
theorem api:type_of% @Int.ediv_lt_of_lt_mul:=@Int.ediv_lt_of_lt_mul
theorem apo:type_of% @Bool.true_and:=@Bool.true_and
theorem apu:type_of% @Int.tmod_eq_emod_of_nonneg:=@Int.tmod_eq_emod_of_nonneg
theorem apy:type_of% @List.drop_zero:=@List.drop_zero
theorem apC:type_of% @Int.add_mul_ediv_left:=@Int.add_mul_ediv_left
theorem apD:type_of% @Int.mul_comm:=@Int.mul_comm
theorem apU:type_of% @Int.add_mul_emod_self_left:=@Int.add_mul_emod_self_left
theorem ap5:type_of% @Int.mul_le_mul:=@Int.mul_le_mul
theorem ap7:type_of% @Int.emod_eq_of_lt:=@Int.emod_eq_of_lt
theorem ap8:type_of% @Int.mul_ediv_cancel_left:=@Int.mul_ediv_cancel_left
theorem aqe:type_of% @List.drop_length:=@List.drop_length
theorem aqf:type_of% @List.length_drop:=@List.length_drop
theorem aqn:type_of% @Int.lt_of_lt_of_le:=@Int.lt_of_lt_of_le
theorem aqv:type_of% @Int.mul_one:=@Int.mul_one
theorem aqw:type_of% @Int.mul_zero:=@Int.mul_zero
theorem aqO:type_of% @Int.add_comm:=@Int.add_comm
theorem aqW:type_of% @Int.one_mul:=@Int.one_mul
theorem aqZ:type_of% @Bool.false_and:=@Bool.false_and
theorem aq3:type_of% @Int.add_zero:=@Int.add_zero
theorem aq8:type_of% @Int.mul_add:=@Int.mul_add
def aQ(l:List Int):Prop:=Lim l/\l.length<=1000000000
instance (l:List Int):Decidable (aQ l):=by unfold aQ;infer_instance
theorem My{n:Nat}(h1:0<n)(h2:n<=9223372036854775807):i64.wrap ((n:Int)-1)=((n-1:Nat):Int):=by grind [aM]
theorem AG:∀{l:List Int},(∀j (hj:j<l.length),l[j]=0)->val l=0
 |[],_=>rfl
 |x::l,h=>by
  have h0:=h 0 (by simp);have:=AG (l:=l) λj hj=>h (j+1) (by simpa using hj);simp only[List.getElem_cons_zero]at h0;simp only[val];omega
theorem xn{l:List Int}{n:Nat}(h:∀j (hj:j<l.length),n<=j->l[j]=0):val (l.take n)=val l:=by
 rw[fT l n,AG (l:=l.drop n) λj hj=>by
  rw[List.getElem_drop];exact h _ _ (by omega)]
 simp
theorem nG{l:List Int}{n:Nat}(hl:Lim l)(hn:n<=l.length)(h:∀j (hj:j<l.length),n<=j->l[j]=0)(hz:n=0\/∃hj:n-1<l.length,l[n-1]≠0):l.take n=ae (val l).toNat:=by
 rw[<-xn h];apply o9;refine⟨hl.take n,?_⟩;grind
def afr:NT:=[((265,4),{keep:=[0],pure_:=[(0,.int .u32)],hl:=0})]
def TZ:Ctx:=CX [] afr
def B9(s0:List Int):Cfg:=⟨265,[.blk 0,.seq 13],[(0,.d ard s0)],[],0,[]⟩
def aiG(a:List Int)(k:KT):OLR:=k 4 (B9 a)
theorem agE(a:List Int):RS TZ 265 [.d ard a] (aiG a):=rsX
def xu(s0:List Int)(k:KT):OLR:=match D' ((s0.length:Int)>0)with|T'=>(match aH s0 (i64.wrap ((s0.length:Int)-1))with|S' x1=>(match x1==0 with|T'=>(og (D' ((0:Int)<=0/\0<=i64.wrap ((s0.length:Int)-1)/\i64.wrap ((s0.length:Int)-1)<=(s0.length:Int))) (k 4 (B9 ((s0.take (i64.wrap ((s0.length:Int)-1)).toNat).drop (0:Int).toNat))))|F'=>S' [RV.d ard s0])|N'=>N')|F'=>S' [RV.d ard s0]
theorem xO(s0:List Int):RN TZ 4 (B9 s0) (xu s0):=rnX
def afC:NT:=[((189,6),{keep:=[0,1,4,5],hl:=1})]
def Nf:Ctx:=CX [] afC
def CB(neg:Bool)(l:List Int)(s5:Int):Cfg:=⟨189,[.blk 0,.seq 15],[(0,SB neg),(1,.d ard l),(4,.box 0 0),(5,SI s5)],[.box 36 [SB F',.nil]],0,[]⟩
def ahu(neg:Bool)(l:List Int)(k:KT):OLR:=k 6 (CB neg l (l.length:Int))
theorem agX(neg:Bool)(l:List Int):RS Nf 189 [SB neg,.d ard l] (ahu neg l):=rsX
def uy(neg:Bool)(l:List Int)(s5:Int)(k:KT):OLR:=match D' (s5>0)with|T'=>(match aH l (i64.wrap (s5-1))with|S' x1=>(match x1==0 with|T'=>k 6 (CB neg l (i64.wrap (s5-1)))|F'=>(match neg with|T'=>(og (D' ((0:Int)<=0/\0<=s5/\s5<=s5/\s5<=(l.length:Int))) (S' [RV.d y3Y (D' (s5>0),(l.take (s5).toNat).drop (0:Int).toNat)]))|F'=>(og (D' ((0:Int)<=0/\0<=s5/\s5<=s5/\s5<=(l.length:Int))) (S' [RV.d y3Y (F',(l.take (s5).toNat).drop (0:Int).toNat)]))))|N'=>N')|F'=>(match neg with|T'=>(og (D' ((0:Int)<=0/\0<=s5/\s5<=s5/\s5<=(l.length:Int))) (S' [RV.d y3Y (D' (s5>0),(l.take (s5).toNat).drop (0:Int).toNat)]))|F'=>(og (D' ((0:Int)<=0/\0<=s5/\s5<=s5/\s5<=(l.length:Int))) (S' [RV.d y3Y (F',(l.take (s5).toNat).drop (0:Int).toNat)])))
theorem xQ(neg:Bool)(l:List Int)(s5:Int):RN Nf 6 (CB neg l s5) (uy neg l s5):=rnX
def aiI:Ctx:=CX [] []
def abF(u:Int)(_k:KT):OLR:=S' [RV.new 194 arg ([u32.wrap (Int.tmod u 1000000000),u32.wrap (Int.tmod (u64.wrap (Int.tdiv u 1000000000)) 1000000000),u32.wrap (u64.wrap (Int.tdiv (u64.wrap (Int.tdiv u 1000000000)) 1000000000))])]
theorem ajn(u:Int):RS aiI 267 [.d (.int .u64) u] (abF u):=rsX
theorem NZ(l:List Int)(hl:Lim l)(hs:l.length<=1000000000):∀(n:Nat),n<=l.length->(∀j (hj:j<l.length),n<=j->l[j]=0)->TZ.Runs 4 (B9 (l.take n)) [.d ard (ae (val l).toNat)]:=by
 intro n;induction n with
 |zero=>
  intro _ h;refine xO _ ⟨0,?_⟩;rw[<-nG hl (aqc _) h (.inl rfl)];rfl
 |succ n ih=>
  intro hn h;have hlen:(l.take (n+1)).length=n+1:=by rw[aoo,aor hn]
  have hget:(l.take (n+1))[n]?=S' l[n]:=by rw[List.getElem?_take_of_lt (by omega),anN (by omega)]
  by_cases hz:l[n]=0
  ·obtain⟨q,hq⟩:=ih (by omega) λj hj hk=>by
    rcases Nat.eq_or_lt_of_le hk with e|e
    ·subst e;exact hz
    ·exact h j hj e
   refine xO _ ⟨q,?_⟩;unfold xu;rw[hlen,anO (by omega),My (by omega) (by omega),ak,show n+1-1=n from rfl,hget];dsimp only;rw[hz,anO (show(0:Int)<=0/\(0:Int)<=(n:Int)/\(n:Int)<=((n+1:Nat):Int) by omega),aE,aqH,aor (by omega)];exact hq
  ·refine xO _ ⟨0,?_⟩;unfold xu;rw[hlen,anO (by omega),My (by omega) (by omega),ak,show n+1-1=n from rfl,hget];dsimp only;rw[show(l[n]==0)=F' by simpa using hz,<-nG hl hn h (.inr ⟨Nat.lt_of_succ_le hn,hz⟩)]
theorem Xl(a:List Int)(h:aQ a):CQq7 265 [.d ard a] [.d ard (ae (val a).toNat)]:=by
 obtain⟨q,hq⟩:=NZ a h.1 h.2 a.length (anT _) (λj hj hk=>by omega);rw[ao1]at hq;exact fK (E:=[]) trivial (agE _ ⟨q,hq⟩)
def bZ(neg:Bool)(v:Int):Int:=bif neg then-v else v
theorem nf(neg:Bool){v:Int}(h:0<=v):ah (bZ neg v)=(neg&&D' (0<v),ae v.toNat):=by
 unfold ah bZ;cases neg
 ·simp only[cond_false,aqZ];rw[anQ (by omega),show v.natAbs=v.toNat by omega]
 ·simp only[cond_true,apo];rw[show(-v).natAbs=v.toNat by omega];by_cases h0:0<v
  ·rw[anO h0,anO (by omega)]
  ·rw[anQ h0,anQ (by omega)]
theorem P4(neg:Bool)(l:List Int)(hl:Lim l)(hs:l.length<=1000000000):∀(n:Nat),n<=l.length->(∀j (hj:j<l.length),n<=j->l[j]=0)->Nf.Runs 6 (CB neg l (n:Int)) [.d y3Y (ah (bZ neg (val l)))]:=by
 intro n;have hv:=aP hl;induction n with
 |zero=>
  intro _ h;refine xQ _ _ _ ⟨0,?_⟩;rw[nf neg hv,<-nG hl (aqc _) h (.inl rfl)];have h0:val l=0:=by rw[<-xn h];rfl
  unfold uy;rw[anQ (show ¬((0:Nat):Int)>0 by decide),anO (show(0:Int)<=0/\(0:Int)<=((0:Nat):Int)/\((0:Nat):Int)<=((0:Nat):Int)/\((0:Nat):Int)<=(l.length:Int) by omega),h0];cases neg<;>rfl
 |succ n ih=>
  intro hn h;by_cases hz:l[n]=0
  ·obtain⟨q,hq⟩:=ih (by omega) λj hj hk=>by
    rcases Nat.eq_or_lt_of_le hk with e|e
    ·subst e;exact hz
    ·exact h j hj e
   refine xQ _ _ _ ⟨q,?_⟩;unfold uy;rw[anO (by omega),My (by omega) (by omega),ak,show n+1-1=n from rfl,anN (by omega)];dsimp only;rw[hz];exact hq
  ·refine xQ _ _ _ ⟨0,?_⟩;have hct:=nG hl hn h (.inr ⟨Nat.lt_of_succ_le hn,hz⟩)
   have hpos:0<val l:=by
    rcases aoj 0 (val l)with h1|h1
    ·exact h1
    ·exfalso;rw[show(val l).toNat=0 by omega,fH]at hct;have:(l.take (n+1)).length=0:=by rw[hct];rfl
     rw[aoo,aor hn]at this;omega
   rw[nf neg hv,<-hct];unfold uy;rw[anO (show((n+1:Nat):Int)>0 by omega),My (by omega) (by omega),ak,show n+1-1=n from rfl,anN (by omega)];dsimp only;rw[show(l[n]==0)=F' by simpa using hz,anO (show(0:Int)<=0/\(0:Int)<=((n+1:Nat):Int)/\((n+1:Nat):Int)<=((n+1:Nat):Int)/\((n+1:Nat):Int)<=(l.length:Int) by omega),anO hpos,aE];cases neg<;>rfl
theorem Xv(neg:Bool)(l:List Int)(h:aQ l):CQq7 189 [.d .bool neg,.d ard l] [.d y3Y (ah (bZ neg (val l)))]:=by
 obtain⟨q,hq⟩:=P4 neg l h.1 h.2 l.length (anT _) (λj hj hk=>by omega);exact fK (E:=[]) trivial (agX _ _ ⟨q,hq⟩)
def iH(u:Int):Prop:=0<=u/\u<18446744073709551616
instance (u:Int):Decidable (iH u):=by unfold iH;infer_instance
theorem cZ{x:Int}(h1:0<=x)(h2:x<4294967296):u32.wrap x=x:=by rw[IntKind.wrap_u32];omega
theorem bI{x:Int}(h1:0<=x)(h2:x<18446744073709551616):u64.wrap x=x:=by rw[aoD];omega
theorem gJ{a b:Int}(h:0<=a):Int.tdiv a b=a/b:=Int.tdiv_eq_ediv_of_nonneg h
theorem ju{a b:Int}(h:0<=a):Int.tmod a b=a%b:=apu h
theorem W9(u:Int)(h:iH u):CQq7 267 [.d (.int .u64) u] [.new 194 arg (dig 3 u)]:=by
 refine fK (E:=[]) trivial (ajn _ ⟨0,?_⟩);obtain⟨h1,h2⟩:=h;unfold abF;rw[gJ h1,ju h1,bI (x:=u/1000000000) (by omega) (by omega),ju (by omega),gJ (a:=u/1000000000) (by omega),cZ (x:=u%1000000000) (by omega) (by omega),cZ (x:=u/1000000000%1000000000) (by omega) (by omega),bI (x:=u/1000000000/1000000000) (by omega) (by omega),cZ (x:=u/1000000000/1000000000) (by omega) (by omega)]
 have e:dig 3 u=[u%1000000000,u/1000000000%1000000000,u/1000000000/1000000000]:=by
  simp only[dig];rw[show u/1000000000/1000000000%1000000000=u/1000000000/1000000000 by omega]
 rw[e]
def G6:cE:=spN F' F' [ard] (λx=>D' (aQ x.1)) (λx=>[RV.d ard (ae (val x.1).toNat)])
theorem GT:SpK 265 G6:=spX λx h=>Xl x.1 (anP h)
def zj:cE:=spN F' F' [.bool,ard] (λx=>D' (aQ x.2.1)) (λx=>[RV.d y3Y (ah (bZ x.1 (val x.2.1)))])
theorem tj:SpK 189 zj:=spX λx h=>Xv x.1 x.2.1 (anP h)
def DP:cE:=spN T' F' [(.int .u64)] (λx=>D' (iH x.1)) (λx=>[RV.new 194 arg (dig 3 x.1)])
theorem za:SpK 267 DP:=spX λx h=>W9 x.1 (anP h)
def Ib:Env:=[(265,G6),(189,zj),(267,DP)]
theorem Bn:EnvAll Tryz.prog Ib:=⟨GT,tj,za,trivial⟩
def aie:Ctx:=CX Ib []
def YM(n:Int)(_k:KT):OLR:=match D' (n<0)with|T'=>(og (D' (iH (u64.wrap (0-(u64.wrap n))))) (og (D' (aQ (dig 3 (u64.wrap (0-(u64.wrap n)))))) (S' [RV.d y3Y (ah (bZ (D' (n<0)) (val (dig 3 (u64.wrap (0-(u64.wrap n)))))))])))|F'=>(og (D' (iH (u64.wrap n))) (og (D' (aQ (dig 3 (u64.wrap n)))) (S' [RV.d y3Y (ah (bZ (D' (n<0)) (val (dig 3 (u64.wrap n)))))])))
theorem alK(n:Int):RS aie 269 [SI n] (YM n):=rsX
def acL:NT:=[((188,24),{keep:=[0,1,5],hl:=0})]
def KK:Ctx:=CX Ib acL
def wY(a b:List Int)(s5:Int):Cfg:=⟨188,[.blk 0,.seq 49],[(0,.d ard (ae (val a).toNat)),(1,.d ard (ae (val b).toNat)),(5,SI s5)],[],0,[]⟩
def Qj(a b:List Int)(k:KT):OLR:=og (D' (aQ a)) (og (D' (aQ b)) (match((ae (val a).toNat).length:Int) !=((ae (val b).toNat).length:Int)with|T'=>(match D' (((ae (val a).toNat).length:Int)<((ae (val b).toNat).length:Int))with|T'=>S' [RV.d arf (-1)]|F'=>S' [RV.d arf 1])|F'=>k 24 (wY a b (i64.wrap (((ae (val a).toNat).length:Int)-1)))))
theorem YK(a b:List Int):RS KK 188 [.d ard a,.d ard b] (Qj a b):=rsX
def mU(a b:List Int)(s5:Int)(k:KT):OLR:=match D' (s5>=0)with|T'=>(match aH (ae (val a).toNat) s5 with|S' x1=>(match aH (ae (val b).toNat) s5 with|S' x2=>(match D' (x1<x2)with|T'=>S' [RV.d arf (-1)]|F'=>(match aH (ae (val a).toNat) s5 with|S' x3=>(match aH (ae (val b).toNat) s5 with|S' x4=>(match D' (x3>x4)with|T'=>S' [RV.d arf 1]|F'=>k 24 (wY a b (i64.wrap (s5-1))))|N'=>N')|N'=>N'))|N'=>N')|N'=>N')|F'=>S' [RV.d arf 0]
theorem qz(a b:List Int)(s5:Int):RN KK 24 (wY a b s5) (mU a b s5):=rnX
def bH(n:Int):Prop:= -9223372036854775808<=n/\n<=9223372036854775807
instance (n:Int):Decidable (bH n):=by unfold bH;infer_instance
theorem zI{u:Int}(h:iH u):val (dig 3 u)=u:=iz 3 u h.1 (aqn h.2 (by decide))
theorem jF{n:Nat}(h:n<=1000000000)(v:Int):aQ (dig n v):=⟨nO n v,by rw[jh];exact h⟩
theorem Dl(n:Int)(h:bH n):CQq7 269 [.d arf n] [.d y3Y (ah n)]:=by
 refine fK Bn (alK _ ⟨0,?_⟩);obtain⟨h1,h2⟩:=h;unfold YM;by_cases hn:n<0
 ·have e:u64.wrap (0-u64.wrap n)= -n:=by rw[aoD,aoD];omega
  have hu:iH (-n):=⟨by omega,by omega⟩
  rw[anO hn];dsimp only;rw[e,anO hu,anO (jF (n:=3) (by decide) (-n)),zI hu];simp[bZ]
 ·have e:u64.wrap n=n:=bI (by omega) (by omega);have hu:iH n:=⟨by omega,by omega⟩
  rw[anQ hn];dsimp only;rw[e,anO hu,anO (jF (n:=3) (by decide) n),zI hu];rfl
theorem T4{l:List Int}{n:Nat}(h:n<l.length):val l=val (l.take n)+pw n*(l[n]+1000000000*val (l.drop (n+1))):=by
 rw[fT l n,aor (Nat.le_of_lt h),an5 h];rfl
theorem Ds{a b:List Int}(ha:Lim a)(hb:Lim b){n:Nat}(h1:n<a.length)(h2:n<b.length)(hd:a.drop (n+1)=b.drop (n+1))(hlt:a[n]<b[n]):val a<val b:=by
 rw[T4 h1,T4 h2,hd];have k1:=bU (ha.take n);have k2:=aP (hb.take n);rw[aoo,aor (Nat.le_of_lt h1)]at k1;have hp:=cg n;have:=anV (show a[n]+1000000000*val (b.drop (n+1))+1<=b[n]+1000000000*val (b.drop (n+1)) by omega) (aow hp);rw[aq8,aqv]at this;omega
theorem c9{a b:Int}(h:a<b):b8 a b= -1:=by unfold b8;rw[anO h];rfl
theorem cH{a b:Int}(h:b<a):b8 a b=1:=by unfold b8;rw[anQ (by omega),anO h];rfl
theorem dV(a:Int):b8 a a=0:=by unfold b8;rw[anQ (by omega)];rfl
theorem xe{a b:Nat}(h:(ae a).length<(ae b).length):a<b:=by
 rcases aov a b with h1|h1
 ·exact h1
 ·have:=dl (n:=b) (k:=(ae a).length) (by
   have:=bU (bV a);rw[bG]at this;omega)
  omega
theorem PJ(a b:List Int)(hl:(ae (val a).toNat).length=(ae (val b).toNat).length)(ha:0<=val a)(hb:0<=val b)(hs:(ae (val a).toNat).length<=1000000000):∀(n:Nat),n<=(ae (val a).toNat).length->(ae (val a).toNat).drop n=(ae (val b).toNat).drop n->
  KK.Runs 24 (wY a b ((n:Int)-1)) [.d arf (b8 (val a) (val b))]:=by
 have va:=bG (val a).toNat
 have vb:=bG (val b).toNat
 have la:=bV (val a).toNat
 have lb:=bV (val b).toNat
 intro n;induction n with
 |zero=>
  intro _ h;refine qz _ _ _ ⟨0,?_⟩;have e:val a=val b:=by simp only[apy]at h;rw[h]at va;omega
  unfold mU;rw[anQ (by omega),e,dV]
 |succ n ih=>
  intro hn h;have h1:n<(ae (val a).toNat).length:=by omega
  have h2:n<(ae (val b).toNat).length:=by omega
  rcases Int.lt_trichotomy (ae (val a).toNat)[n] (ae (val b).toNat)[n]with hc|hc|hc
  ·refine qz _ _ _ ⟨0,?_⟩;have:=Ds la lb h1 h2 h hc;unfold mU;rw[show((n+1:Nat):Int)-1=(n:Int) by omega,anO (by omega),ak,ak,anN h1,anN h2];dsimp only;rw[anO hc,c9 (by omega)]
  ·obtain⟨q,hq⟩:=ih (by omega) (by rw[an5 h1,an5 h2,hc,h]);refine qz _ _ _ ⟨q,?_⟩;unfold mU;rw[show((n+1:Nat):Int)-1=(n:Int) by omega,anO (by omega),ak,ak,anN h1,anN h2];dsimp only;rw[anQ (by omega),anQ (by omega),aM (x:=(n:Int)-1) (by omega) (by omega)];exact hq
  ·refine qz _ _ _ ⟨0,?_⟩;have:=Ds lb la h2 h1 h.symm hc;unfold mU;rw[show((n+1:Nat):Int)-1=(n:Int) by omega,anO (by omega),ak,ak,anN h1,anN h2];dsimp only;rw[anQ (by omega),anO hc,cH (by omega)]
theorem j9{l:List Int}(h:Lim l):(ae (val l).toNat).length<=l.length:=dl (by have:=bU h;have:=aP h;omega)
theorem VV(a b:List Int)(h:aQ a/\aQ b):CQq7 188 [.d ard a,.d ard b] [.d arf (b8 (val a) (val b))]:=by
 refine fK Bn (show KK.Res _ _ _ from ?_);obtain⟨ha,hb⟩:=h;have la:=j9 ha.1;have lb:=j9 hb.1;have na:=aP ha.1;have nb:=aP hb.1;have hsa:=ha.2;have hsb:=hb.2;by_cases hl:(ae (val a).toNat).length=(ae (val b).toNat).length
 ·obtain⟨q,hq⟩:=PJ a b hl na nb (by omega) _ (anT _) (by rw[aqe,hl,aqe]);refine YK _ _ ⟨q,?_⟩;unfold Qj;rw[anO ha,anO hb,show(((ae (val a).toNat).length:Int) !=((ae (val b).toNat).length:Int))=F' by simp[hl],aM (x:=((ae (val a).toNat).length:Int)-1) (by omega) (by omega)];exact hq
 ·refine YK _ _ ⟨0,?_⟩;unfold Qj;rw[anO ha,anO hb,show(((ae (val a).toNat).length:Int) !=((ae (val b).toNat).length:Int))=true by simp;omega];dsimp only;rcases Nat.lt_or_gt_of_ne hl with h1|h1
  ·have:=xe h1;rw[anO (by omega),c9 (by omega)]
  ·have:=xe h1;rw[anQ (by omega),cH (by omega)]
def agm:NT:=[((276,16),{keep:=[1,5,6,20,21,22],hl:=1})]
def FL:Ctx:=CX [] agm
def kf(s1 s20:List Int)(s21 s6 s22:Int)(r0:List Int):Cfg:=⟨276,[.blk 0,.seq 45],[(1,.d ard s1),(5,.own 0),(6,.d arg s6),(20,.d ard s20),(21,SI s21),(22,SI s22)],[.row 194 arg r0],0,[]⟩
def Sx(a b:List Int)(k:KT):OLR:=match D' ((a.length:Int)<(b.length:Int))with|T'=>(og (D' ((0:Int)=0/\(0:Int)<=i64.wrap ((b.length:Int)+1)/\(i64.wrap ((b.length:Int)+1))*((4:Nat):Int)<=140737488355328/\i64.wrap ((b.length:Int)+1)<=140737488355328)) (k 16 (kf a b (b.length:Int) 0 0 ([]:List Int))))|F'=>(og (D' ((0:Int)=0/\(0:Int)<=i64.wrap ((a.length:Int)+1)/\(i64.wrap ((a.length:Int)+1))*((4:Nat):Int)<=140737488355328/\i64.wrap ((a.length:Int)+1)<=140737488355328)) (k 16 (kf b a (a.length:Int) 0 0 ([]:List Int))))
theorem aak(a b:List Int):RS FL 276 [.d ard a,.d ard b] (Sx a b):=rsX
def kE(s1 s20:List Int)(s21 s6 s22:Int)(r0:List Int)(k:KT):OLR:=match D' (s22<s21)with|T'=>(match aH s20 s22 with|S' x1=>(match D' (s22<(s1.length:Int))with|T'=>(match aH s1 s22 with|S' x2=>(match D' ((u32.wrap ((u32.wrap (x1+s6))+x2))>=1000000000)with|T'=>(og (D' ((r0.length+([u32.wrap ((u32.wrap ((u32.wrap (x1+s6))+x2))-1000000000)]).length)*4<=140737488355328/\r0.length+([u32.wrap ((u32.wrap ((u32.wrap (x1+s6))+x2))-1000000000)]).length<=140737488355328)) (k 16 (kf s1 s20 s21 1 (i64.wrap (s22+1)) (r0++([u32.wrap ((u32.wrap ((u32.wrap (x1+s6))+x2))-1000000000)])))))|F'=>(og (D' ((r0.length+([u32.wrap ((u32.wrap (x1+s6))+x2)]).length)*4<=140737488355328/\r0.length+([u32.wrap ((u32.wrap (x1+s6))+x2)]).length<=140737488355328)) (k 16 (kf s1 s20 s21 0 (i64.wrap (s22+1)) (r0++([u32.wrap ((u32.wrap (x1+s6))+x2)]))))))|N'=>N')|F'=>(match D' ((u32.wrap (x1+s6))>=1000000000)with|T'=>(og (D' ((r0.length+([u32.wrap ((u32.wrap (x1+s6))-1000000000)]).length)*4<=140737488355328/\r0.length+([u32.wrap ((u32.wrap (x1+s6))-1000000000)]).length<=140737488355328)) (k 16 (kf s1 s20 s21 1 (i64.wrap (s22+1)) (r0++([u32.wrap ((u32.wrap (x1+s6))-1000000000)])))))|F'=>(og (D' ((r0.length+([u32.wrap (x1+s6)]).length)*4<=140737488355328/\r0.length+([u32.wrap (x1+s6)]).length<=140737488355328)) (k 16 (kf s1 s20 s21 0 (i64.wrap (s22+1)) (r0++([u32.wrap (x1+s6)])))))))|N'=>N')|F'=>(og (D' ((r0.length+([s6]).length)*4<=140737488355328/\r0.length+([s6]).length<=140737488355328)) (S' [RV.new 194 arg (r0++([s6]))]))
theorem nw(s1 s20:List Int)(s21 s6 s22:Int)(r0:List Int):RN FL 16 (kf s1 s20 s21 s6 s22 r0) (kE s1 s20 s21 s6 s22 r0):=rnX
def aeB:NT:=[((277,10),{keep:=[1,5,6,13,14,15],hl:=1})]
def Fk:Ctx:=CX [] aeB
def me(a b:List Int)(s6 s15:Int)(r0:List Int):Cfg:=⟨277,[.blk 0,.seq 39],[(1,.d ard b),(5,.own 0),(6,.d arg s6),(13,.d ard a),(14,SI (a.length:Int)),(15,SI s15)],[.row 194 arg r0],0,[]⟩
def aaC(a b:List Int)(k:KT):OLR:=og (D' ((0:Int)<=(a.length:Int)/\(a.length:Int)*((4:Nat):Int)<=140737488355328/\(a.length:Int)<=140737488355328)) (k 10 (me a b 0 0 (List.replicate ((a.length:Int)).toNat (0:Int))))
theorem aii(a b:List Int):RS Fk 277 [.d ard a,.d ard b] (aaC a b):=rsX
def kz(a b:List Int)(s6 s15:Int)(r0:List Int)(k:KT):OLR:=match D' (s15<(a.length:Int))with|T'=>(match aH a s15 with|S' x1=>(match D' (s15<(b.length:Int))with|T'=>(match aH b s15 with|S' x2=>(match D' (x1<(u32.wrap (s6+x2)))with|T'=>(match aH r0 s15 with|S' _=>(match T',r0[(s15).toNat]? with|T',S' _=>k 10 (me a b 1 (i64.wrap (s15+1)) (r0.set ((s15).toNat) (u32.wrap ((u32.wrap (x1+1000000000))-(u32.wrap (s6+x2))))))|_,_=>N')|N'=>N')|F'=>(match aH r0 s15 with|S' _=>(match T',r0[(s15).toNat]? with|T',S' _=>k 10 (me a b 0 (i64.wrap (s15+1)) (r0.set ((s15).toNat) (u32.wrap (x1-(u32.wrap (s6+x2))))))|_,_=>N')|N'=>N'))|N'=>N')|F'=>(match D' (x1<s6)with|T'=>(match aH r0 s15 with|S' _=>(match T',r0[(s15).toNat]? with|T',S' _=>k 10 (me a b 1 (i64.wrap (s15+1)) (r0.set ((s15).toNat) (u32.wrap ((u32.wrap (x1+1000000000))-s6))))|_,_=>N')|N'=>N')|F'=>(match aH r0 s15 with|S' _=>(match T',r0[(s15).toNat]? with|T',S' _=>k 10 (me a b 0 (i64.wrap (s15+1)) (r0.set ((s15).toNat) (u32.wrap (x1-s6))))|_,_=>N')|N'=>N')))|N'=>N')|F'=>S' [RV.new 194 arg r0]
theorem mO(a b:List Int)(s6 s15:Int)(r0:List Int):RN Fk 10 (me a b s6 s15 r0) (kz a b s6 s15 r0):=rnX
def aga:NT:=[((190,8),{keep:=[1,5,18,19,20],hl:=1}),((190,25),{keep:=[1,5,6,7,8,18,19,20,25,26,27],hl:=1})]
def z6:Ctx:=CX [] aga
def yl(a b:List Int)(s20:Int)(r0:List Int):Cfg:=⟨190,[.blk 0,.seq 42],[(1,.d ard b),(5,.own 0),(18,.d ard a),(19,SI (a.length:Int)),(20,SI s20)],[.row 194 arg r0],0,[]⟩
def wX(a b:List Int)(s20 x1 s8 s27:Int)(r0:List Int):Cfg:=⟨190,[.blk 2,.seq 40,.blk 1,.seq 41,.lp 8,.blk 0,.seq 42],[(1,.d ard b),(5,.own 0),(6,SI s20),(7,.d arg x1),(8,.d (.int .u64) s8),(18,.d ard a),(19,SI (a.length:Int)),(20,SI s20),(25,.d ard b),(26,SI (b.length:Int)),(27,SI s27)],[.row 194 arg r0],0,[]⟩
def aao(a b:List Int)(k:KT):OLR:=og (D' ((0:Int)<=i64.wrap ((a.length:Int)+(b.length:Int))/\(i64.wrap ((a.length:Int)+(b.length:Int)))*((4:Nat):Int)<=140737488355328/\i64.wrap ((a.length:Int)+(b.length:Int))<=140737488355328)) (k 8 (yl a b 0 (List.replicate (i64.wrap ((a.length:Int)+(b.length:Int))).toNat (0:Int))))
theorem agJ(a b:List Int):RS z6 190 [.d ard a,.d ard b] (aao a b):=rsX
def zu(a b:List Int)(s20:Int)(r0:List Int)(k:KT):OLR:=match D' (s20<(a.length:Int))with|T'=>(match aH a s20 with|S' x1=>k 25 (wX a b s20 x1 0 0 r0)|N'=>N')|F'=>S' [RV.new 194 arg r0]
theorem EB(a b:List Int)(s20:Int)(r0:List Int):RN z6 8 (yl a b s20 r0) (zu a b s20 r0):=rnX
def ve(a b:List Int)(s20 x1 s8 s27:Int)(r0:List Int)(k:KT):OLR:=match D' (s27<(b.length:Int))with|T'=>(match aH b s27 with|S' x2=>(match aH r0 (i64.wrap (s20+s27))with|S' _=>(match T',r0[(i64.wrap (s20+s27)).toNat]? with|T',S' x3=>(match aH r0 (i64.wrap (s20+s27))with|S' _=>(match T',r0[(i64.wrap (s20+s27)).toNat]? with|T',S' _=>k 25 (wX a b s20 x1 (u64.wrap (Int.tdiv (u64.wrap ((u64.wrap ((u64.wrap x3)+(u64.wrap ((u64.wrap x1)*(u64.wrap x2)))))+s8)) 1000000000)) (i64.wrap (s27+1)) (r0.set ((i64.wrap (s20+s27)).toNat) (u32.wrap (Int.tmod (u64.wrap ((u64.wrap ((u64.wrap x3)+(u64.wrap ((u64.wrap x1)*(u64.wrap x2)))))+s8)) 1000000000))))|_,_=>N')|N'=>N')|_,_=>N')|N'=>N')|N'=>N')|F'=>(match aH r0 (i64.wrap (s20+(b.length:Int)))with|S' _=>(match T',r0[(i64.wrap (s20+(b.length:Int))).toNat]? with|T',S' _=>k 8 (yl a b (i64.wrap (s20+1)) (r0.set ((i64.wrap (s20+(b.length:Int))).toNat) (u32.wrap s8)))|_,_=>N')|N'=>N')
theorem Bm(a b:List Int)(s20 x1 s8 s27:Int)(r0:List Int):RN z6 25 (wX a b s20 x1 s8 s27 r0) (ve a b s20 x1 s8 s27 r0):=rnX
def afh:NT:=[((316,10),{keep:=[0,1,6,7,8],hl:=1})]
def Kw:Ctx:=CX [] afh
def wI(a:List Int)(b s7 s8:Int)(r0:List Int):Cfg:=⟨316,[.blk 0,.seq 23],[(0,.d ard a),(1,.d arg b),(6,.own 0),(7,.d (.int .u64) s7),(8,SI s8)],[.row 194 arg r0],0,[]⟩
def Y7(a:List Int)(b:Int)(k:KT):OLR:=og (D' ((0:Int)<=(a.length:Int)/\(a.length:Int)*((4:Nat):Int)<=140737488355328/\(a.length:Int)<=140737488355328)) (k 10 (wI a b 0 (i64.wrap ((a.length:Int)-1)) (List.replicate ((a.length:Int)).toNat (0:Int))))
theorem al6(a:List Int)(b:Int):RS Kw 316 [.d ard a,.d arg b] (Y7 a b):=rsX
def vM(a:List Int)(b s7 s8:Int)(r0:List Int)(k:KT):OLR:=match D' (s8>=0)with|T'=>(match aH a s8 with|S' x1=>(match D' (u64.wrap b=(0:Int))with|T'=>N'|F'=>(match D' (u64.wrap b=(0:Int))with|T'=>N'|F'=>(match aH r0 s8 with|S' _=>(match T',r0[(s8).toNat]? with|T',S' _=>k 10 (wI a b (Int.tmod (u64.wrap ((u64.wrap (s7*1000000000))+(u64.wrap x1))) (u64.wrap b)) (i64.wrap (s8-1)) (r0.set ((s8).toNat) (u32.wrap (u64.wrap (Int.tdiv (u64.wrap ((u64.wrap (s7*1000000000))+(u64.wrap x1))) (u64.wrap b))))))|_,_=>N')|N'=>N')))|N'=>N')|F'=>S' [RV.d ard r0,RV.d ard ([u32.wrap s7])]
theorem AH(a:List Int)(b s7 s8:Int)(r0:List Int):RN Kw 10 (wI a b s7 s8 r0) (vM a b s7 s8 r0):=rnX
theorem kC{b:List Int}{i:Nat}(h:b.length<=i):b.take (i+1)=b.take i:=by grind [aoI]
theorem t9{n:Nat}(h:n<=4000000000):D' ((0:Int)<=(n:Int)/\(n:Int)*((4:Nat):Int)<=140737488355328/\(n:Int)<=140737488355328)=true:=by grind
theorem T7{m:Nat}(h:m<=4000000000):D' ((m+1)*4<=140737488355328/\m+1<=140737488355328)=true:=by grind
theorem FV(a b:List Int)(ha:aQ a)(hb:aQ b)(hab:b.length<=a.length):∀(j i:Nat) (c:Int) (r:List Int),i+j=a.length->0<=c->c<=1->Lim r->r.length=i->val r+pw i*c=val (a.take i)+val (b.take i)->
  FL.Runs 16 (kf b a (a.length:Int) c (i:Int) r) [.new 194 arg (dig (a.length+1) (val a+val b))]:=by
 have hsa:=ha.2;intro j;induction j with
 |zero=>
  intro i c r hi c0 c1 hr hl hv;obtain rfl:i=a.length:=by omega
  refine nw _ _ _ _ _ _ ⟨0,?_⟩;unfold kE;rw[a8 (anT _)];simp only[aoc];rw[T7 (by omega)]
  have e:r++[c]=dig (a.length+1) (val a+val b):=by
   refine CE (hr.append (Lim.cons ⟨c0,by omega⟩ Lim.nil)) (by simp[hl]) ?_;rw[dD,hl];rw[ao1,aoI hab]at hv;simp only[val,aqw,aq3];omega
  rw[e]
 |succ j ih=>
  intro i c r hi c0 c1 hr hl hv;have hia:i<a.length:=by omega
  have xa:=ha.1.get hia;have hp:=cg i
  have step:∀(y c':Int),0<=y->y<1000000000->0<=c'->c'<=1->val (b.take (i+1))=val (b.take i)+pw i*(y+1000000000*c'-a[i]-c)->FL.Runs 16 (kf b a (a.length:Int) c' ((i+1:Nat):Int) (r++[y])) [.new 194 arg (dig (a.length+1) (val a+val b))]:=by
   intro y c' y0 y1 k0 k1 hb';refine ih (i+1) c' (r++[y]) (by omega) k0 k1 (hr.append (Lim.cons ⟨y0,y1⟩ Lim.nil)) (by simp[hl]) ?_;rw[dD,hl,bh hia,hb',bW];simp only[val];grind
  by_cases hib:i<b.length
  ·have xb:=hb.1.get hib;have ht:=bh hib;by_cases hc:a[i]+c+b[i]>=1000000000
   ·obtain⟨q,hq⟩:=step (a[i]+c+b[i]-1000000000) 1 (by omega) (by omega) (by omega) (by omega) (by rw[ht];grind);refine nw _ _ _ _ _ _ ⟨q,?_⟩;unfold kE;rw[aO hia,ak,anN hia,aO hib,ak,anN hib];dsimp only;rw[cZ (x:=a[i]+c) (by omega) (by omega),cZ (x:=a[i]+c+b[i]) (by omega) (by omega),anO hc,cZ (x:=a[i]+c+b[i]-1000000000) (by omega) (by omega),aT (by omega)];simp only[aoc];rw[T7 (by omega)];exact hq
   ·obtain⟨q,hq⟩:=step (a[i]+c+b[i]) 0 (by omega) (by omega) (by omega) (by omega) (by rw[ht];grind);refine nw _ _ _ _ _ _ ⟨q,?_⟩;unfold kE;rw[aO hia,ak,anN hia,aO hib,ak,anN hib];dsimp only;rw[cZ (x:=a[i]+c) (by omega) (by omega),cZ (x:=a[i]+c+b[i]) (by omega) (by omega),anQ hc,aT (by omega)];simp only[aoc];rw[T7 (by omega)];exact hq
  ·have ht:=kC (b:=b) (i:=i) (by omega);by_cases hc:a[i]+c>=1000000000
   ·obtain⟨q,hq⟩:=step (a[i]+c-1000000000) 1 (by omega) (by omega) (by omega) (by omega) (by rw[ht];grind);refine nw _ _ _ _ _ _ ⟨q,?_⟩;unfold kE;rw[aO hia,ak,anN hia,a8 (show b.length<=i by omega)];dsimp only;rw[cZ (x:=a[i]+c) (by omega) (by omega),anO hc,cZ (x:=a[i]+c-1000000000) (by omega) (by omega),aT (by omega)];simp only[aoc];rw[T7 (by omega)];exact hq
   ·obtain⟨q,hq⟩:=step (a[i]+c) 0 (by omega) (by omega) (by omega) (by omega) (by rw[ht];grind);refine nw _ _ _ _ _ _ ⟨q,?_⟩;unfold kE;rw[aO hia,ak,anN hia,a8 (show b.length<=i by omega)];dsimp only;rw[cZ (x:=a[i]+c) (by omega) (by omega),anQ hc,aT (by omega)];simp only[aoc];rw[T7 (by omega)];exact hq
theorem US(a b:List Int)(h:aQ a/\aQ b):CQq7 276 [.d ard a,.d ard b] [.new 194 arg (dig (max a.length b.length+1) (val a+val b))]:=by
 refine fK (E:=[]) trivial (show FL.Res _ _ _ from ?_);obtain⟨ha,hb⟩:=h;have hsa:=ha.2;have hsb:=hb.2
 have mk:∀n:Nat,n<=1000000000->D' ((0:Int)=0/\(0:Int)<=i64.wrap ((n:Int)+1)/\i64.wrap ((n:Int)+1)*((4:Nat):Int)<=140737488355328/\i64.wrap ((n:Int)+1)<=140737488355328)=true:=λn hn=>by
  rw[aT (by omega)];exact anO ⟨rfl,by omega,by omega,by omega⟩
 by_cases hc:a.length<b.length
 ·obtain⟨q,hq⟩:=FV b a hb ha (by omega) b.length 0 0 [] (by omega) (by omega) (by omega) Lim.nil rfl (by simp[val]);refine aak _ _ ⟨q,?_⟩;unfold Sx;rw[aO hc,mk _ hsb,Nat.max_eq_right (by omega),aqO (val a)];exact hq
 ·obtain⟨q,hq⟩:=FV a b ha hb (by omega) a.length 0 0 [] (by omega) (by omega) (by omega) Lim.nil rfl (by simp[val]);refine aak _ _ ⟨q,?_⟩;unfold Sx;rw[a8 (by omega),mk _ hsa,Nat.max_eq_left (by omega)];exact hq
theorem pB{r:List Int}{i:Nat}{y:Int}(hz:∀j (hj:j<r.length),i<=j->r[j]=0):∀j (hj:j<(r.set i y).length),i+1<=j->(r.set i y)[j]=0:=λj hj hk=>by
 rw[apa (by omega)];exact hz j (by simpa using hj) (by omega)
theorem Nq(a b:List Int)(ha:aQ a)(hb:aQ b)(hle:val b<=val a)(_hab:b.length<=a.length\/True):∀(j i:Nat) (c:Int) (r:List Int),i+j=a.length->0<=c->c<=1->Lim r->r.length=a.length->(∀k (hk:k<r.length),i<=k->r[k]=0)->val r+val (b.take i)=val (a.take i)+pw i*c->
  Fk.Runs 10 (me a b c (i:Int) r) [.new 194 arg (dig a.length (val a-val b))]:=by
 have hsa:=ha.2;intro j;induction j with
 |zero=>
  intro i c r hi c0 c1 hr hl hz hv;obtain rfl:i=a.length:=by omega
  refine mO _ _ _ _ _ ⟨0,?_⟩;unfold kz;rw[a8 (anT _)];have hrl:=bU hr;rw[hl]at hrl;have hb2:val b=val (b.take a.length)+pw (min a.length b.length)*val (b.drop a.length):=fT b a.length;have hbd:0<=val (b.drop a.length):=aP (hb.1.drop _);have hal:=bU ha.1;have hbt:=aP (hb.1.take a.length);rw[ao1]at hv
  have hz0:val (b.drop a.length)=0:=by
   rcases aov a.length b.length with h1|h1
   ·rw[aor (by omega)]at hb2;rcases aoj 0 (val (b.drop a.length))with h2|h2
    ·have hp:=cg a.length;have:=anV (show 1<=val (b.drop a.length) by omega) (aow hp);omega
    ·omega
   ·rw[aou h1];rfl
  rw[hz0,aqw,aq3]at hb2
  have hc0:c=0:=by
   have hp:=cg a.length;rcases(show c=0\/c=1 by omega)with h|h
   ·exact h
   ·subst h;rw[aqv]at hv;omega
  subst hc0;rw[aqw]at hv;rw[<-CE hr hl (show val r=val a-val b by omega)]
 |succ j ih=>
  intro i c r hi c0 c1 hr hl hz hv;have hia:i<a.length:=by omega
  have hir:i<r.length:=by omega
  have xa:=ha.1.get hia;have hr0:=hz i hir (anT _)
  have step:∀(y c':Int),0<=y->y<1000000000->0<=c'->c'<=1->val (b.take (i+1))=val (b.take i)+pw i*(a[i]+1000000000*c'-y-c)->Fk.Runs 10 (me a b c' ((i+1:Nat):Int) (r.set i y)) [.new 194 arg (dig a.length (val a-val b))]:=by
   intro y c' y0 y1 k0 k1 hb';refine ih (i+1) c' (r.set i y) (by omega) k0 k1 (hr.set i ⟨y0,y1⟩) (by simpa using hl) (pB hz) ?_;rw[fe hir,hr0,bh hia,hb',bW];grind
  by_cases hib:i<b.length
  ·have xb:=hb.1.get hib;have ht:=bh hib;by_cases hc:a[i]<c+b[i]
   ·obtain⟨q,hq⟩:=step (a[i]+1000000000-(c+b[i])) 1 (by omega) (by omega) (by omega) (by omega) (by rw[ht];grind);refine mO _ _ _ _ _ ⟨q,?_⟩;unfold kz;rw[aO hia,ak,anN hia,aO hib,ak,anN hib,ak,aE,anN hir];dsimp only;rw[cZ (x:=c+b[i]) (by omega) (by omega),anO hc,cZ (x:=a[i]+1000000000) (by omega) (by omega),cZ (x:=a[i]+1000000000-(c+b[i])) (by omega) (by omega),aT (by omega)];exact hq
   ·obtain⟨q,hq⟩:=step (a[i]-(c+b[i])) 0 (by omega) (by omega) (by omega) (by omega) (by rw[ht];grind);refine mO _ _ _ _ _ ⟨q,?_⟩;unfold kz;rw[aO hia,ak,anN hia,aO hib,ak,anN hib,ak,aE,anN hir];dsimp only;rw[cZ (x:=c+b[i]) (by omega) (by omega),anQ hc,cZ (x:=a[i]-(c+b[i])) (by omega) (by omega),aT (by omega)];exact hq
  ·have ht:=kC (b:=b) (i:=i) (by omega);by_cases hc:a[i]<c
   ·obtain⟨q,hq⟩:=step (a[i]+1000000000-c) 1 (by omega) (by omega) (by omega) (by omega) (by rw[ht];grind);refine mO _ _ _ _ _ ⟨q,?_⟩;unfold kz;rw[aO hia,ak,anN hia,a8 (show b.length<=i by omega),ak r i,aE,anN hir];dsimp only;rw[anO hc,cZ (x:=a[i]+1000000000) (by omega) (by omega),cZ (x:=a[i]+1000000000-c) (by omega) (by omega),aT (by omega)];exact hq
   ·obtain⟨q,hq⟩:=step (a[i]-c) 0 (by omega) (by omega) (by omega) (by omega) (by rw[ht];grind);refine mO _ _ _ _ _ ⟨q,?_⟩;unfold kz;rw[aO hia,ak,anN hia,a8 (show b.length<=i by omega),ak r i,aE,anN hir];dsimp only;rw[anQ hc,cZ (x:=a[i]-c) (by omega) (by omega),aT (by omega)];exact hq
def oZ(a b:List Int):Prop:=aQ a/\aQ b/\val b<=val a
instance (a b:List Int):Decidable (oZ a b):=by unfold oZ;infer_instance
theorem Vo(a b:List Int)(h:oZ a b):CQq7 277 [.d ard a,.d ard b] [.new 194 arg (dig a.length (val a-val b))]:=by
 refine fK (E:=[]) trivial (show Fk.Res _ _ _ from ?_);obtain⟨ha,hb,hle⟩:=h;have hsa:=ha.2;obtain⟨q,hq⟩:=Nq a b ha hb hle (.inr trivial) a.length 0 0 (List.replicate a.length 0) (by omega) (by omega) (by omega) (Lim.rep _) (by simp) (λk hk _=>by simp) (by simp[val,gv]);refine aii _ _ ⟨q,?_⟩;unfold aaC;rw[t9 (by omega),aE];exact hq
theorem IH{r x y c:Int}(hr:0<=r/\r<1000000000)(hx:0<=x/\x<1000000000)(hy:0<=y/\y<1000000000)(hc:0<=c/\c<1000000000):0<=x*y/\x*y<=999999998000000001/\0<=(r+x*y+c)/1000000000/\(r+x*y+c)/1000000000<1000000000:=by
 have h1:0<=x*y:=aoL hx.1 hy.1;have h2:x*y<=999999999*999999999:=ap5 (by omega) (by omega) hy.1 (by decide);omega
theorem Ms(a b:List Int)(ha:aQ a)(hb:aQ b)(i:Nat)(hi:i<a.length)
  (hout:∀r,Lim r->r.length=a.length+b.length->(∀k (hk:k<r.length),i+1+b.length<=k->r[k]=0)->val r=val (a.take (i+1))*val b->z6.Runs 8 (yl a b ((i+1:Nat):Int) r) [.new 194 arg (dig (a.length+b.length) (val a*val b))]):
  ∀(j k:Nat) (c:Int) (r:List Int),k+j=b.length->0<=c->c<1000000000->Lim r->r.length=a.length+b.length->(∀q (hq:q<r.length),i+b.length<=q->r[q]=0)->val r+pw (i+k)*c=val (a.take i)*val b+pw i*a[i]*val (b.take k)->
  z6.Runs 25 (wX a b (i:Int) a[i] c (k:Int) r) [.new 194 arg (dig (a.length+b.length) (val a*val b))]:=by
 have hsa:=ha.2;have hsb:=hb.2;have xa:=ha.1.get hi;intro j;induction j with
 |zero=>
  intro k c r hk c0 c1 hr hl hz hv;obtain rfl:k=b.length:=by omega
  have hir:i+b.length<r.length:=by omega
  have hr0:=hz _ hir (anT _)
  obtain⟨q,hq⟩:=hout (r.set (i+b.length) c) (hr.set _ ⟨c0,c1⟩) (by simpa using hl) (by rw[show i+1+b.length=i+b.length+1 by omega];exact pB hz) (by
   rw[fe hir,hr0,bh hi];rw[ao1]at hv;grind)
  refine Bm _ _ _ _ _ _ _ ⟨q,?_⟩;have hw:i64.wrap ((i:Int)+(b.length:Int))=((i+b.length:Nat):Int):=by rw[aM (by omega) (by omega)];simp
  unfold ve;rw[a8 (anT _),hw,ak r (i+b.length),aE,anN hir,cZ (x:=c) (by omega) (by omega),aT (k:=i) (by omega)];exact hq
 |succ j ih=>
  intro k c r hk c0 c1 hr hl hz hv;have hkb:k<b.length:=by omega
  have hir:i+k<r.length:=by omega
  have xb:=hb.1.get hkb;have xr:=hr.get hir;have hbd:=IH xr xa xb ⟨c0,c1⟩
  obtain⟨q,hq⟩:=ih (k+1) ((r[i+k]+a[i]*b[k]+c)/1000000000) (r.set (i+k) ((r[i+k]+a[i]*b[k]+c)%1000000000)) (by omega) hbd.2.2.1 hbd.2.2.2 (hr.set _ (by omega)) (by simpa using hl)
   (λm hm hq=>by rw[apa (by omega)];exact hz m (by simpa using hm) hq) (by
    rw[fe hir,bh hkb,show i+(k+1)=i+k+1 by omega,bW,fo];rw[fo]at hv;have e:=Int.emod_add_mul_ediv (r[i+k]+a[i]*b[k]+c) 1000000000;grind)
  refine Bm _ _ _ _ _ _ _ ⟨q,?_⟩;have hw:i64.wrap ((i:Int)+(k:Int))=((i+k:Nat):Int):=by rw[aM (by omega) (by omega)];simp
  unfold ve;rw[aO hkb,ak b k,anN hkb,hw,ak r (i+k),aE,anN hir];dsimp only;rw[bI (x:=r[i+k]) (by omega) (by omega),bI (x:=a[i]) (by omega) (by omega),bI (x:=b[k]) (by omega) (by omega),bI (x:=a[i]*b[k]) (by omega) (by omega),bI (x:=r[i+k]+a[i]*b[k]) (by omega) (by omega),bI (x:=r[i+k]+a[i]*b[k]+c) (by omega) (by omega),gJ (a:=r[i+k]+a[i]*b[k]+c) (by omega),ju (a:=r[i+k]+a[i]*b[k]+c) (by omega),bI (x:=(r[i+k]+a[i]*b[k]+c)/1000000000) (by omega) (by omega),cZ (x:=(r[i+k]+a[i]*b[k]+c)%1000000000) (by omega) (by omega),aT (k:=k) (by omega)];exact hq
theorem L7(a b:List Int)(ha:aQ a)(hb:aQ b):∀(j i:Nat) (r:List Int),i+j=a.length->Lim r->r.length=a.length+b.length->(∀k (hk:k<r.length),i+b.length<=k->r[k]=0)->val r=val (a.take i)*val b->
  z6.Runs 8 (yl a b (i:Int) r) [.new 194 arg (dig (a.length+b.length) (val a*val b))]:=by
 have hsa:=ha.2;intro j;induction j with
 |zero=>
  intro i r hi hr hl hz hv;obtain rfl:i=a.length:=by omega
  refine EB _ _ _ _ ⟨0,?_⟩;unfold zu;rw[ao1]at hv;rw[a8 (anT _),<-CE hr hl hv]
 |succ j ih=>
  intro i r hi hr hl hz hv;have hia:i<a.length:=by omega
  obtain⟨q,hq⟩:=Ms a b ha hb i hia (λr' h1 h2 h3 h4=>ih (i+1) r' (by omega) h1 h2 h3 h4) b.length 0 0 r (by omega) (by omega) (by omega) hr hl hz (by simp[val,hv]);refine EB _ _ _ _ ⟨q,?_⟩;unfold zu;rw[aO hia,ak,anN hia];exact hq
theorem Wp(a b:List Int)(h:aQ a/\aQ b):CQq7 190 [.d ard a,.d ard b] [.new 194 arg (dig (a.length+b.length) (val a*val b))]:=by
 refine fK (E:=[]) trivial (show z6.Res _ _ _ from ?_);obtain⟨ha,hb⟩:=h;have hsa:=ha.2;have hsb:=hb.2;obtain⟨q,hq⟩:=L7 a b ha hb a.length 0 (List.replicate (a.length+b.length) 0) (by omega) (Lim.rep _) (by simp) (λk hk _=>by simp) (by simp[val,gv]);refine agJ _ _ ⟨q,?_⟩;have hw:i64.wrap ((a.length:Int)+(b.length:Int))=((a.length+b.length:Nat):Int):=by rw[aM (by omega) (by omega)];simp
 unfold aao;rw[hw,t9 (by omega),aE];exact hq
theorem PP(a:List Int)(b:Int)(ha:aQ a)(hb:1<=b/\b<1000000000):∀(n:Nat) (c:Int) (r:List Int),n<=a.length->0<=c->c<b->Lim r->r.length=a.length->(∀k (hk:k<r.length),k<n->r[k]=0)->b*val r+pw n*c+val (a.take n)=val a->
  Kw.Runs 10 (wI a b c ((n:Int)-1) r) [.d ard (dig a.length (val a/b)),.d ard [val a%b]]:=by
 have hsa:=ha.2;intro n;induction n with
 |zero=>
  intro c r hn c0 c1 hr hl hz hv;simp only[nZ,List.take_zero,val,aqW,aq3]at hv
  have e1:val a%b=c:=by
   rw[<-hv,aqO,apU];exact ap7 c0 c1
  have e2:val a/b=val r:=by
   rw[<-hv,aqO,apC _ _ (by omega),aoV c0 c1];omega
  refine AH _ _ _ _ _ ⟨0,?_⟩;unfold vM;rw[anQ (by omega),e1,e2,<-CE hr hl rfl,cZ (x:=c) (by omega) (by omega)]
 |succ n ih=>
  intro c r hn c0 c1 hr hl hz hv;have hna:n<a.length:=by omega
  have hnr:n<r.length:=by omega
  have xa:=ha.1.get hna;have hr0:=hz n hnr (by omega);have hcb:0<=c*1000000000+a[n]:=by omega
  have m0:=aoZ (c*1000000000+a[n]) (show b≠0 by omega);have m1:=aoC (c*1000000000+a[n]) (show 0<b by omega);have md:=aoA (c*1000000000+a[n]) b;have d0:0<=(c*1000000000+a[n])/b:=aoO hcb (by omega)
  have d1:(c*1000000000+a[n])/b<1000000000:=by
   refine api (by omega) ?_;have:=an1 (show c+1<=b by omega) (show(0:Int)<=1000000000 by decide);rw[apD 1000000000 b];omega
  obtain⟨q,hq⟩:=ih ((c*1000000000+a[n])%b) (r.set n ((c*1000000000+a[n])/b)) (by omega) m0 m1 (hr.set n ⟨d0,d1⟩) (by simpa using hl)
   (λk hk hkn=>by rw[apa (by omega)];exact hz k (by simpa using hk) (by omega)) (by
    rw[fe hnr,hr0];rw[bh hna,bW]at hv;grind)
  refine AH _ _ _ _ _ ⟨q,?_⟩;unfold vM;rw[show((n+1:Nat):Int)-1=(n:Int) by omega,anO (by omega),ak a n,anN hna,bI (x:=b) (by omega) (by omega),anQ (show ¬b=0 by omega),ak r n,aE,anN hnr];dsimp only;rw[bI (x:=c*1000000000) (by omega) (by omega),bI (x:=a[n]) (by omega) (by omega),bI (x:=c*1000000000+a[n]) (by omega) (by omega),gJ hcb,ju hcb,bI (x:=(c*1000000000+a[n])/b) (by omega) (by omega),cZ (x:=(c*1000000000+a[n])/b) (by omega) (by omega),aM (x:=(n:Int)-1) (by omega) (by omega)];exact hq
def EZ(a:List Int)(b:Int):Prop:=aQ a/\1<=b/\b<1000000000
instance (a:List Int) (b:Int):Decidable (EZ a b):=by unfold EZ;infer_instance
theorem XD(a:List Int)(b:Int)(h:EZ a b):CQq7 316 [.d ard a,.d arg b] [.d ard (dig a.length (val a/b)),.d ard [val a%b]]:=by
 refine fK (E:=[]) trivial (show Kw.Res _ _ _ from ?_);obtain⟨ha,hb⟩:=h;have hsa:=ha.2;obtain⟨q,hq⟩:=PP a b ha hb a.length 0 (List.replicate a.length 0) (anT _) (by omega) (by omega) (Lim.rep _) (by simp) (λk hk _=>by simp) (by simp[gv]);refine al6 _ _ ⟨q,?_⟩;unfold Y7;rw[t9 (by omega),aE,aM (x:=(a.length:Int)-1) (by omega) (by omega)];exact hq
def Ja:cE:=spN T' F' [ard,ard] (λx=>D' (aQ x.1/\aQ x.2.1)) (λx=>[RV.new 194 arg (dig (max x.1.length x.2.1.length+1) (val x.1+val x.2.1))])
theorem Fo:SpK 276 Ja:=spX λx h=>US x.1 x.2.1 (anP h)
def HD:cE:=spN T' F' [ard,ard] (λx=>D' (oZ x.1 x.2.1)) (λx=>[RV.new 194 arg (dig x.1.length (val x.1-val x.2.1))])
theorem FE:SpK 277 HD:=spX λx h=>Vo x.1 x.2.1 (anP h)
def Hg:cE:=spN T' F' [ard,ard] (λx=>D' (aQ x.1/\aQ x.2.1)) (λx=>[RV.new 194 arg (dig (x.1.length+x.2.1.length) (val x.1*val x.2.1))])
theorem Fv:SpK 190 Hg:=spX λx h=>Wp x.1 x.2.1 (anP h)
def Tz:cE:=spN F' F' [ard,arg] (λx=>D' (EZ x.1 x.2.1)) (λx=>[RV.d ard (dig x.1.length (val x.1/x.2.1)),RV.d ard ([val x.1%x.2.1])])
theorem RK:SpK 316 Tz:=spX λx h=>XD x.1 x.2.1 (anP h)
def I4:cE:=spN T' F' [ard,ard] (λx=>D' (aQ x.1/\aQ x.2.1)) (λx=>[RV.d arf (b8 (val x.1) (val x.2.1))])
theorem Fb:SpK 188 I4:=spX λx h=>VV x.1 x.2.1 (anP h)
def Pm:Env:=[(265,G6),(276,Ja),(277,HD),(190,Hg),(316,Tz),(188,I4)]
theorem L8:EnvAll Tryz.prog Pm:=⟨GT,Fo,FE,Fv,RK,Fb,trivial⟩
def adg:NT:=[((268,34),{keep:=[6,7,8,9,10,11],hl:=6}),((268,49),{keep:=[6,7,8,9,10,11,13,14],hl:=6}),((317,8),{keep:=[0,1,2,7,8,14,15],hl:=6}),((318,5),{keep:=[0,1,4,8,9],hl:=6}),((268,68),{keep:=[6,7,8,9,10,11,13,151],hl:=0}),((268,72),{keep:=[6,7,8,9,10,11,13],hl:=0})]
def f0:Ctx:=CX Pm adg
def qv(b:List Int)(x2 s11:Int)(r5 r1:List Int):Cfg:=⟨268,[.blk 0,.seq 76],[(6,SI ((ae (val b).toNat).length:Int)),(7,.d arg (u32.wrap (u64.wrap (Int.tdiv 1000000000 (u64.wrap ((u64.wrap x2)+1)))))),(8,.own 1),(9,.d ard (ae (val (dig ((ae (val b).toNat).length+([u32.wrap (u64.wrap (Int.tdiv 1000000000 (u64.wrap ((u64.wrap x2)+1))))]).length) (val (ae (val b).toNat)*val ([u32.wrap (u64.wrap (Int.tdiv 1000000000 (u64.wrap ((u64.wrap x2)+1))))])))).toNat)),(10,.own 5),(11,SI s11)],[.row 194 arg ([u32.wrap (u64.wrap (Int.tdiv 1000000000 (u64.wrap ((u64.wrap x2)+1))))]),.row 194 arg r1,.row 194 arg ([0]),.row 194 arg ([u32.wrap (u64.wrap (Int.tdiv 1000000000 (u64.wrap ((u64.wrap x2)+1))))]),.gone,.row 194 arg r5],0,[]⟩
def nV(b:List Int)(x2 s11:Int)(r1 r5:List Int)(s13 s14:Int):Cfg:=⟨268,[.blk 2,.seq 66,.blk 1,.seq 75,.lp 34,.blk 0,.seq 76],[(6,SI ((ae (val b).toNat).length:Int)),(7,.d arg (u32.wrap (u64.wrap (Int.tdiv 1000000000 (u64.wrap ((u64.wrap x2)+1)))))),(8,.own 1),(9,.d ard (ae (val (dig ((ae (val b).toNat).length+([u32.wrap (u64.wrap (Int.tdiv 1000000000 (u64.wrap ((u64.wrap x2)+1))))]).length) (val (ae (val b).toNat)*val ([u32.wrap (u64.wrap (Int.tdiv 1000000000 (u64.wrap ((u64.wrap x2)+1))))])))).toNat)),(10,.own 5),(11,SI s11),(13,.d (.int .u64) s13),(14,.d (.int .u64) s14)],[.row 194 arg ([u32.wrap (u64.wrap (Int.tdiv 1000000000 (u64.wrap ((u64.wrap x2)+1))))]),.row 194 arg r1,.row 194 arg ([0]),.row 194 arg ([u32.wrap (u64.wrap (Int.tdiv 1000000000 (u64.wrap ((u64.wrap x2)+1))))]),.gone,.row 194 arg r5],0,[]⟩
def cW(b:List Int)(x2 s11:Int)(r5:List Int)(s317_2 f317_0_13 s317_7 s317_8 s317_15:Int)(r317_1:List Int):Cfg:=⟨317,[.blk 0,.seq 43],[(0,.osl 1 1 ((s11:Int).toNat) ((i64.wrap ((i64.wrap (s11+((ae (val b).toNat).length:Int)))+1):Int).toNat-(s11:Int).toNat)),(1,.d ard (ae (val (dig ((ae (val b).toNat).length+([u32.wrap (u64.wrap (Int.tdiv 1000000000 (u64.wrap ((u64.wrap x2)+1))))]).length) (val (ae (val b).toNat)*val ([u32.wrap (u64.wrap (Int.tdiv 1000000000 (u64.wrap ((u64.wrap x2)+1))))])))).toNat)),(2,.d (.int .u64) s317_2),(7,.d (.int .u64) s317_7),(8,.d (.int .u64) s317_8),(14,SI (((i64.wrap ((i64.wrap (s11+((ae (val b).toNat).length:Int)))+1):Int).toNat-(s11:Int).toNat:Nat):Int)),(15,SI s317_15)],[.row 194 arg ([u32.wrap (u64.wrap (Int.tdiv 1000000000 (u64.wrap ((u64.wrap x2)+1))))]),.row 194 arg r317_1,.row 194 arg ([0]),.row 194 arg ([u32.wrap (u64.wrap (Int.tdiv 1000000000 (u64.wrap ((u64.wrap x2)+1))))]),.gone,.row 194 arg r5],6,[⟨268,[.seq 69,.seq 74,.blk 1,.seq 75,.lp 34,.blk 0,.seq 76],68,9,[(6,SI ((ae (val b).toNat).length:Int)),(7,.d arg (u32.wrap (u64.wrap (Int.tdiv 1000000000 (u64.wrap ((u64.wrap x2)+1)))))),(8,.own 1),(9,.d ard (ae (val (dig ((ae (val b).toNat).length+([u32.wrap (u64.wrap (Int.tdiv 1000000000 (u64.wrap ((u64.wrap x2)+1))))]).length) (val (ae (val b).toNat)*val ([u32.wrap (u64.wrap (Int.tdiv 1000000000 (u64.wrap ((u64.wrap x2)+1))))])))).toNat)),(10,.own 5),(11,SI s11),(13,.d (.int .u64) f317_0_13)],0,N'⟩]⟩
def dE(b:List Int)(x2 s11:Int)(r5:List Int)(f317_0_13 s318_4 s318_9:Int)(r318_1:List Int):Cfg:=⟨318,[.blk 0],[(0,.osl 1 1 ((s11:Int).toNat) ((i64.wrap ((i64.wrap (s11+((ae (val b).toNat).length:Int)))+1):Int).toNat-(s11:Int).toNat)),(1,.d ard (ae (val (dig ((ae (val b).toNat).length+([u32.wrap (u64.wrap (Int.tdiv 1000000000 (u64.wrap ((u64.wrap x2)+1))))]).length) (val (ae (val b).toNat)*val ([u32.wrap (u64.wrap (Int.tdiv 1000000000 (u64.wrap ((u64.wrap x2)+1))))])))).toNat)),(4,.d arg s318_4),(8,SI (((i64.wrap ((i64.wrap (s11+((ae (val b).toNat).length:Int)))+1):Int).toNat-(s11:Int).toNat:Nat):Int)),(9,SI s318_9)],[.row 194 arg ([u32.wrap (u64.wrap (Int.tdiv 1000000000 (u64.wrap ((u64.wrap x2)+1))))]),.row 194 arg r318_1,.row 194 arg ([0]),.row 194 arg ([u32.wrap (u64.wrap (Int.tdiv 1000000000 (u64.wrap ((u64.wrap x2)+1))))]),.gone,.row 194 arg r5],6,[⟨268,[.seq 74,.blk 1,.seq 75,.lp 34,.blk 0,.seq 76],72,8,[(6,SI ((ae (val b).toNat).length:Int)),(7,.d arg (u32.wrap (u64.wrap (Int.tdiv 1000000000 (u64.wrap ((u64.wrap x2)+1)))))),(8,.own 1),(9,.d ard (ae (val (dig ((ae (val b).toNat).length+([u32.wrap (u64.wrap (Int.tdiv 1000000000 (u64.wrap ((u64.wrap x2)+1))))]).length) (val (ae (val b).toNat)*val ([u32.wrap (u64.wrap (Int.tdiv 1000000000 (u64.wrap ((u64.wrap x2)+1))))])))).toNat)),(10,.own 5),(11,SI s11),(13,.d (.int .u64) (u64.wrap (f317_0_13-1)))],0,N'⟩]⟩
def KL(a b:List Int)(k:KT):OLR:=og (D' (aQ a)) (og (D' (aQ b)) (match((ae (val b).toNat).length:Int)==1 with|T'=>(match aH (ae (val b).toNat) 0 with|S' x1=>(og (D' (EZ (ae (val a).toNat) x1)) (S' [RV.d ard (dig (ae (val a).toNat).length (val (ae (val a).toNat)/x1)),RV.d ard ([val (ae (val a).toNat)%x1])]))|N'=>N')|F'=>(og (D' (aQ (ae (val a).toNat)/\aQ (ae (val b).toNat))) (match D' ((b8 (val (ae (val a).toNat)) (val (ae (val b).toNat)))<0)with|T'=>(og (D' ((ae (val a).toNat).length*4<=140737488355328/\(ae (val a).toNat).length<=140737488355328)) (S' [RV.d ard ([]),RV.d ard (ae (val a).toNat)]))|F'=>(match aH (ae (val b).toNat) (i64.wrap (((ae (val b).toNat).length:Int)-1))with|S' x2=>(match D' (u64.wrap ((u64.wrap x2)+1)=(0:Int))with|T'=>N'|F'=>(og (D' (aQ (ae (val a).toNat)/\aQ ([u32.wrap (u64.wrap (Int.tdiv 1000000000 (u64.wrap ((u64.wrap x2)+1))))]))) (og (D' (((dig ((ae (val a).toNat).length+([u32.wrap (u64.wrap (Int.tdiv 1000000000 (u64.wrap ((u64.wrap x2)+1))))]).length) (val (ae (val a).toNat)*val ([u32.wrap (u64.wrap (Int.tdiv 1000000000 (u64.wrap ((u64.wrap x2)+1))))]))).length+([0]).length)*4<=140737488355328/\(dig ((ae (val a).toNat).length+([u32.wrap (u64.wrap (Int.tdiv 1000000000 (u64.wrap ((u64.wrap x2)+1))))]).length) (val (ae (val a).toNat)*val ([u32.wrap (u64.wrap (Int.tdiv 1000000000 (u64.wrap ((u64.wrap x2)+1))))]))).length+([0]).length<=140737488355328)) (og (D' (aQ (ae (val b).toNat)/\aQ ([u32.wrap (u64.wrap (Int.tdiv 1000000000 (u64.wrap ((u64.wrap x2)+1))))]))) (og (D' (aQ (dig ((ae (val b).toNat).length+([u32.wrap (u64.wrap (Int.tdiv 1000000000 (u64.wrap ((u64.wrap x2)+1))))]).length) (val (ae (val b).toNat)*val ([u32.wrap (u64.wrap (Int.tdiv 1000000000 (u64.wrap ((u64.wrap x2)+1))))]))))) (og (D' ((0:Int)<=i64.wrap ((((dig ((ae (val a).toNat).length+([u32.wrap (u64.wrap (Int.tdiv 1000000000 (u64.wrap ((u64.wrap x2)+1))))]).length) (val (ae (val a).toNat)*val ([u32.wrap (u64.wrap (Int.tdiv 1000000000 (u64.wrap ((u64.wrap x2)+1))))])))++([0])).length:Int)-((ae (val b).toNat).length:Int))/\(i64.wrap ((((dig ((ae (val a).toNat).length+([u32.wrap (u64.wrap (Int.tdiv 1000000000 (u64.wrap ((u64.wrap x2)+1))))]).length) (val (ae (val a).toNat)*val ([u32.wrap (u64.wrap (Int.tdiv 1000000000 (u64.wrap ((u64.wrap x2)+1))))])))++([0])).length:Int)-((ae (val b).toNat).length:Int)))*((4:Nat):Int)<=140737488355328/\i64.wrap ((((dig ((ae (val a).toNat).length+([u32.wrap (u64.wrap (Int.tdiv 1000000000 (u64.wrap ((u64.wrap x2)+1))))]).length) (val (ae (val a).toNat)*val ([u32.wrap (u64.wrap (Int.tdiv 1000000000 (u64.wrap ((u64.wrap x2)+1))))])))++([0])).length:Int)-((ae (val b).toNat).length:Int))<=140737488355328)) (k 34 (qv b x2 (i64.wrap ((i64.wrap ((((dig ((ae (val a).toNat).length+([u32.wrap (u64.wrap (Int.tdiv 1000000000 (u64.wrap ((u64.wrap x2)+1))))]).length) (val (ae (val a).toNat)*val ([u32.wrap (u64.wrap (Int.tdiv 1000000000 (u64.wrap ((u64.wrap x2)+1))))])))++([0])).length:Int)-((ae (val b).toNat).length:Int)))-1)) (List.replicate (i64.wrap ((((dig ((ae (val a).toNat).length+([u32.wrap (u64.wrap (Int.tdiv 1000000000 (u64.wrap ((u64.wrap x2)+1))))]).length) (val (ae (val a).toNat)*val ([u32.wrap (u64.wrap (Int.tdiv 1000000000 (u64.wrap ((u64.wrap x2)+1))))])))++([0])).length:Int)-((ae (val b).toNat).length:Int))).toNat (0:Int)) ((dig ((ae (val a).toNat).length+([u32.wrap (u64.wrap (Int.tdiv 1000000000 (u64.wrap ((u64.wrap x2)+1))))]).length) (val (ae (val a).toNat)*val ([u32.wrap (u64.wrap (Int.tdiv 1000000000 (u64.wrap ((u64.wrap x2)+1))))])))++([0]))))))))))|N'=>N')))))
theorem Ul(a b:List Int):RS f0 268 [.d ard a,.d ard b] (KL a b):=rsX
def vT(b:List Int)(x2 s11:Int)(r5 r1:List Int)(k:KT):OLR:=match D' (s11>=0)with|T'=>(match aH r1 (i64.wrap (s11+((ae (val b).toNat).length:Int)))with|S' _=>(match T',r1[(i64.wrap (s11+((ae (val b).toNat).length:Int))).toNat]? with|T',S' x3=>(match aH r1 (i64.wrap ((i64.wrap (s11+((ae (val b).toNat).length:Int)))-1))with|S' _=>(match T',r1[(i64.wrap ((i64.wrap (s11+((ae (val b).toNat).length:Int)))-1)).toNat]? with|T',S' x4=>(match aH (ae (val (dig ((ae (val b).toNat).length+([u32.wrap (u64.wrap (Int.tdiv 1000000000 (u64.wrap ((u64.wrap x2)+1))))]).length) (val (ae (val b).toNat)*val ([u32.wrap (u64.wrap (Int.tdiv 1000000000 (u64.wrap ((u64.wrap x2)+1))))])))).toNat) (i64.wrap (((ae (val b).toNat).length:Int)-1))with|S' x5=>(match D' (u64.wrap x5=(0:Int))with|T'=>N'|F'=>(match aH (ae (val (dig ((ae (val b).toNat).length+([u32.wrap (u64.wrap (Int.tdiv 1000000000 (u64.wrap ((u64.wrap x2)+1))))]).length) (val (ae (val b).toNat)*val ([u32.wrap (u64.wrap (Int.tdiv 1000000000 (u64.wrap ((u64.wrap x2)+1))))])))).toNat) (i64.wrap (((ae (val b).toNat).length:Int)-1))with|S' x6=>(match D' (u64.wrap x6=(0:Int))with|T'=>N'|F'=>k 49 (nV b x2 s11 r1 r5 (u64.wrap (Int.tdiv (u64.wrap ((u64.wrap ((u64.wrap x3)*1000000000))+(u64.wrap x4))) (u64.wrap x5))) (Int.tmod (u64.wrap ((u64.wrap ((u64.wrap x3)*1000000000))+(u64.wrap x4))) (u64.wrap x6))))|N'=>N'))|N'=>N')|_,_=>N')|N'=>N')|_,_=>N')|N'=>N')|F'=>(og (D' ((0:Int)<=0/\0<=((ae (val b).toNat).length:Int)/\((ae (val b).toNat).length:Int)<=(r1.length:Int))) (og (D' (aQ ((r1.drop ((0:Int).toNat)).take ((((ae (val b).toNat).length:Int):Int).toNat-(0:Int).toNat)))) (og (D' (EZ (ae (val ((r1.drop ((0:Int).toNat)).take ((((ae (val b).toNat).length:Int):Int).toNat-(0:Int).toNat))).toNat) (u32.wrap (u64.wrap (Int.tdiv 1000000000 (u64.wrap ((u64.wrap x2)+1))))))) (S' [RV.d ard r5,RV.d ard (dig (ae (val ((r1.drop ((0:Int).toNat)).take ((((ae (val b).toNat).length:Int):Int).toNat-(0:Int).toNat))).toNat).length (val (ae (val ((r1.drop ((0:Int).toNat)).take ((((ae (val b).toNat).length:Int):Int).toNat-(0:Int).toNat))).toNat)/(u32.wrap (u64.wrap (Int.tdiv 1000000000 (u64.wrap ((u64.wrap x2)+1)))))))]))))
theorem Bh(b:List Int)(x2 s11:Int)(r5 r1:List Int):RN f0 34 (qv b x2 s11 r5 r1) (vT b x2 s11 r5 r1):=rnX
def nJ(b:List Int)(x2 s11:Int)(r1 r5:List Int)(s13 s14:Int)(k:KT):OLR:=match D' (s13>=1000000000)with|T'=>(match aH (ae (val (dig ((ae (val b).toNat).length+([u32.wrap (u64.wrap (Int.tdiv 1000000000 (u64.wrap ((u64.wrap x2)+1))))]).length) (val (ae (val b).toNat)*val ([u32.wrap (u64.wrap (Int.tdiv 1000000000 (u64.wrap ((u64.wrap x2)+1))))])))).toNat) (i64.wrap (((ae (val b).toNat).length:Int)-1))with|S' x7=>(match D' ((u64.wrap (s14+(u64.wrap x7)))>=1000000000)with|T'=>(og (D' ((0:Int)<=s11/\s11<=i64.wrap ((i64.wrap (s11+((ae (val b).toNat).length:Int)))+1)/\i64.wrap ((i64.wrap (s11+((ae (val b).toNat).length:Int)))+1)<=(r1.length:Int))) (k 8 (cW b x2 s11 r5 (u64.wrap (s13-1)) (u64.wrap (s13-1)) 0 0 0 r1)))|F'=>k 49 (nV b x2 s11 r1 r5 (u64.wrap (s13-1)) (u64.wrap (s14+(u64.wrap x7)))))|N'=>N')|F'=>(match aH (ae (val (dig ((ae (val b).toNat).length+([u32.wrap (u64.wrap (Int.tdiv 1000000000 (u64.wrap ((u64.wrap x2)+1))))]).length) (val (ae (val b).toNat)*val ([u32.wrap (u64.wrap (Int.tdiv 1000000000 (u64.wrap ((u64.wrap x2)+1))))])))).toNat) (i64.wrap (((ae (val b).toNat).length:Int)-2))with|S' x8=>(match aH r1 (i64.wrap ((i64.wrap (s11+((ae (val b).toNat).length:Int)))-2))with|S' _=>(match T',r1[(i64.wrap ((i64.wrap (s11+((ae (val b).toNat).length:Int)))-2)).toNat]? with|T',S' x9=>(match D' ((u64.wrap (s13*(u64.wrap x8)))>(u64.wrap ((u64.wrap (s14*1000000000))+(u64.wrap x9))))with|T'=>(match aH (ae (val (dig ((ae (val b).toNat).length+([u32.wrap (u64.wrap (Int.tdiv 1000000000 (u64.wrap ((u64.wrap x2)+1))))]).length) (val (ae (val b).toNat)*val ([u32.wrap (u64.wrap (Int.tdiv 1000000000 (u64.wrap ((u64.wrap x2)+1))))])))).toNat) (i64.wrap (((ae (val b).toNat).length:Int)-1))with|S' x10=>(match D' ((u64.wrap (s14+(u64.wrap x10)))>=1000000000)with|T'=>(og (D' ((0:Int)<=s11/\s11<=i64.wrap ((i64.wrap (s11+((ae (val b).toNat).length:Int)))+1)/\i64.wrap ((i64.wrap (s11+((ae (val b).toNat).length:Int)))+1)<=(r1.length:Int))) (k 8 (cW b x2 s11 r5 (u64.wrap (s13-1)) (u64.wrap (s13-1)) 0 0 0 r1)))|F'=>k 49 (nV b x2 s11 r1 r5 (u64.wrap (s13-1)) (u64.wrap (s14+(u64.wrap x10)))))|N'=>N')|F'=>(og (D' ((0:Int)<=s11/\s11<=i64.wrap ((i64.wrap (s11+((ae (val b).toNat).length:Int)))+1)/\i64.wrap ((i64.wrap (s11+((ae (val b).toNat).length:Int)))+1)<=(r1.length:Int))) (k 8 (cW b x2 s11 r5 s13 s13 0 0 0 r1))))|_,_=>N')|N'=>N')|N'=>N')
theorem qw(b:List Int)(x2 s11:Int)(r1 r5:List Int)(s13 s14:Int):RN f0 49 (nV b x2 s11 r1 r5 s13 s14) (nJ b x2 s11 r1 r5 s13 s14):=rnX
def dt(b:List Int)(x2 s11:Int)(r5:List Int)(s317_2 f317_0_13 s317_7 s317_8 s317_15:Int)(r317_1:List Int)(k:KT):OLR:=match D' (s317_15<(((i64.wrap ((i64.wrap (s11+((ae (val b).toNat).length:Int)))+1):Int).toNat-(s11:Int).toNat:Nat):Int))with|T'=>(match D' (s317_15<((ae (val (dig ((ae (val b).toNat).length+([u32.wrap (u64.wrap (Int.tdiv 1000000000 (u64.wrap ((u64.wrap x2)+1))))]).length) (val (ae (val b).toNat)*val ([u32.wrap (u64.wrap (Int.tdiv 1000000000 (u64.wrap ((u64.wrap x2)+1))))])))).toNat).length:Int))with|T'=>(match aH (ae (val (dig ((ae (val b).toNat).length+([u32.wrap (u64.wrap (Int.tdiv 1000000000 (u64.wrap ((u64.wrap x2)+1))))]).length) (val (ae (val b).toNat)*val ([u32.wrap (u64.wrap (Int.tdiv 1000000000 (u64.wrap ((u64.wrap x2)+1))))])))).toNat) s317_15 with|S' x11=>(match T',D' ((0:Int)<=s317_15/\s317_15<(((i64.wrap ((i64.wrap (s11+((ae (val b).toNat).length:Int)))+1):Int).toNat-(s11:Int).toNat:Nat):Int))with|T',T'=>(match T',r317_1[(s11:Int).toNat+(s317_15).toNat]? with|T',S' x12=>(match D' ((u64.wrap x12)<(u64.wrap ((Int.tmod (u64.wrap (s317_7+(u64.wrap ((u64.wrap x11)*s317_2)))) 1000000000)+s317_8)))with|T'=>(match T',D' ((0:Int)<=s317_15/\s317_15<(((i64.wrap ((i64.wrap (s11+((ae (val b).toNat).length:Int)))+1):Int).toNat-(s11:Int).toNat:Nat):Int))with|T',T'=>(match T',r317_1[(s11:Int).toNat+(s317_15).toNat]? with|T',S' _=>k 8 (cW b x2 s11 r5 s317_2 f317_0_13 (u64.wrap (Int.tdiv (u64.wrap (s317_7+(u64.wrap ((u64.wrap x11)*s317_2)))) 1000000000)) 1 (i64.wrap (s317_15+1)) (r317_1.set ((s11:Int).toNat+(s317_15).toNat) (u32.wrap (u64.wrap ((u64.wrap ((u64.wrap x12)+1000000000))-(u64.wrap ((Int.tmod (u64.wrap (s317_7+(u64.wrap ((u64.wrap x11)*s317_2)))) 1000000000)+s317_8)))))))|_,_=>N')|_,_=>N')|F'=>(match T',D' ((0:Int)<=s317_15/\s317_15<(((i64.wrap ((i64.wrap (s11+((ae (val b).toNat).length:Int)))+1):Int).toNat-(s11:Int).toNat:Nat):Int))with|T',T'=>(match T',r317_1[(s11:Int).toNat+(s317_15).toNat]? with|T',S' _=>k 8 (cW b x2 s11 r5 s317_2 f317_0_13 (u64.wrap (Int.tdiv (u64.wrap (s317_7+(u64.wrap ((u64.wrap x11)*s317_2)))) 1000000000)) 0 (i64.wrap (s317_15+1)) (r317_1.set ((s11:Int).toNat+(s317_15).toNat) (u32.wrap (u64.wrap ((u64.wrap x12)-(u64.wrap ((Int.tmod (u64.wrap (s317_7+(u64.wrap ((u64.wrap x11)*s317_2)))) 1000000000)+s317_8)))))))|_,_=>N')|_,_=>N'))|_,_=>N')|_,_=>N')|N'=>N')|F'=>(match T',D' ((0:Int)<=s317_15/\s317_15<(((i64.wrap ((i64.wrap (s11+((ae (val b).toNat).length:Int)))+1):Int).toNat-(s11:Int).toNat:Nat):Int))with|T',T'=>(match T',r317_1[(s11:Int).toNat+(s317_15).toNat]? with|T',S' x15=>(match D' ((u64.wrap x15)<(u64.wrap ((Int.tmod s317_7 1000000000)+s317_8)))with|T'=>(match T',D' ((0:Int)<=s317_15/\s317_15<(((i64.wrap ((i64.wrap (s11+((ae (val b).toNat).length:Int)))+1):Int).toNat-(s11:Int).toNat:Nat):Int))with|T',T'=>(match T',r317_1[(s11:Int).toNat+(s317_15).toNat]? with|T',S' _=>k 8 (cW b x2 s11 r5 s317_2 f317_0_13 (u64.wrap (Int.tdiv s317_7 1000000000)) 1 (i64.wrap (s317_15+1)) (r317_1.set ((s11:Int).toNat+(s317_15).toNat) (u32.wrap (u64.wrap ((u64.wrap ((u64.wrap x15)+1000000000))-(u64.wrap ((Int.tmod s317_7 1000000000)+s317_8)))))))|_,_=>N')|_,_=>N')|F'=>(match T',D' ((0:Int)<=s317_15/\s317_15<(((i64.wrap ((i64.wrap (s11+((ae (val b).toNat).length:Int)))+1):Int).toNat-(s11:Int).toNat:Nat):Int))with|T',T'=>(match T',r317_1[(s11:Int).toNat+(s317_15).toNat]? with|T',S' _=>k 8 (cW b x2 s11 r5 s317_2 f317_0_13 (u64.wrap (Int.tdiv s317_7 1000000000)) 0 (i64.wrap (s317_15+1)) (r317_1.set ((s11:Int).toNat+(s317_15).toNat) (u32.wrap (u64.wrap ((u64.wrap x15)-(u64.wrap ((Int.tmod s317_7 1000000000)+s317_8)))))))|_,_=>N')|_,_=>N'))|_,_=>N')|_,_=>N'))|F'=>(match D' (s317_8>0)with|T'=>(og (D' ((0:Int)<=s11/\s11<=i64.wrap ((i64.wrap (s11+((ae (val b).toNat).length:Int)))+1)/\i64.wrap ((i64.wrap (s11+((ae (val b).toNat).length:Int)))+1)<=(r317_1.length:Int))) (k 5 (dE b x2 s11 r5 f317_0_13 0 0 r317_1)))|F'=>(match D' (s317_7>0)with|T'=>(og (D' ((0:Int)<=s11/\s11<=i64.wrap ((i64.wrap (s11+((ae (val b).toNat).length:Int)))+1)/\i64.wrap ((i64.wrap (s11+((ae (val b).toNat).length:Int)))+1)<=(r317_1.length:Int))) (k 5 (dE b x2 s11 r5 f317_0_13 0 0 r317_1)))|F'=>(match aH r5 s11 with|S' _=>(match T',r5[(s11).toNat]? with|T',S' _=>k 34 (qv b x2 (i64.wrap (s11-1)) (r5.set ((s11).toNat) (u32.wrap f317_0_13)) r317_1)|_,_=>N')|N'=>N')))
theorem fF(b:List Int)(x2 s11:Int)(r5:List Int)(s317_2 f317_0_13 s317_7 s317_8 s317_15:Int)(r317_1:List Int):RN f0 8 (cW b x2 s11 r5 s317_2 f317_0_13 s317_7 s317_8 s317_15 r317_1) (dt b x2 s11 r5 s317_2 f317_0_13 s317_7 s317_8 s317_15 r317_1):=rnX
def em(b:List Int)(x2 s11:Int)(r5:List Int)(f317_0_13 s318_4 s318_9:Int)(r318_1:List Int)(k:KT):OLR:=match D' (s318_9<(((i64.wrap ((i64.wrap (s11+((ae (val b).toNat).length:Int)))+1):Int).toNat-(s11:Int).toNat:Nat):Int))with|T'=>(match T',D' ((0:Int)<=s318_9/\s318_9<(((i64.wrap ((i64.wrap (s11+((ae (val b).toNat).length:Int)))+1):Int).toNat-(s11:Int).toNat:Nat):Int))with|T',T'=>(match T',r318_1[(s11:Int).toNat+(s318_9).toNat]? with|T',S' x19=>(match D' (s318_9<((ae (val (dig ((ae (val b).toNat).length+([u32.wrap (u64.wrap (Int.tdiv 1000000000 (u64.wrap ((u64.wrap x2)+1))))]).length) (val (ae (val b).toNat)*val ([u32.wrap (u64.wrap (Int.tdiv 1000000000 (u64.wrap ((u64.wrap x2)+1))))])))).toNat).length:Int))with|T'=>(match aH (ae (val (dig ((ae (val b).toNat).length+([u32.wrap (u64.wrap (Int.tdiv 1000000000 (u64.wrap ((u64.wrap x2)+1))))]).length) (val (ae (val b).toNat)*val ([u32.wrap (u64.wrap (Int.tdiv 1000000000 (u64.wrap ((u64.wrap x2)+1))))])))).toNat) s318_9 with|S' x20=>(match D' ((u32.wrap ((u32.wrap (x19+s318_4))+x20))>=1000000000)with|T'=>(match T',D' ((0:Int)<=s318_9/\s318_9<(((i64.wrap ((i64.wrap (s11+((ae (val b).toNat).length:Int)))+1):Int).toNat-(s11:Int).toNat:Nat):Int))with|T',T'=>(match T',r318_1[(s11:Int).toNat+(s318_9).toNat]? with|T',S' _=>k 5 (dE b x2 s11 r5 f317_0_13 1 (i64.wrap (s318_9+1)) (r318_1.set ((s11:Int).toNat+(s318_9).toNat) (u32.wrap ((u32.wrap ((u32.wrap (x19+s318_4))+x20))-1000000000))))|_,_=>N')|_,_=>N')|F'=>(match T',D' ((0:Int)<=s318_9/\s318_9<(((i64.wrap ((i64.wrap (s11+((ae (val b).toNat).length:Int)))+1):Int).toNat-(s11:Int).toNat:Nat):Int))with|T',T'=>(match T',r318_1[(s11:Int).toNat+(s318_9).toNat]? with|T',S' _=>k 5 (dE b x2 s11 r5 f317_0_13 0 (i64.wrap (s318_9+1)) (r318_1.set ((s11:Int).toNat+(s318_9).toNat) (u32.wrap ((u32.wrap (x19+s318_4))+x20))))|_,_=>N')|_,_=>N'))|N'=>N')|F'=>(match D' ((u32.wrap (x19+s318_4))>=1000000000)with|T'=>(match T',D' ((0:Int)<=s318_9/\s318_9<(((i64.wrap ((i64.wrap (s11+((ae (val b).toNat).length:Int)))+1):Int).toNat-(s11:Int).toNat:Nat):Int))with|T',T'=>(match T',r318_1[(s11:Int).toNat+(s318_9).toNat]? with|T',S' _=>k 5 (dE b x2 s11 r5 f317_0_13 1 (i64.wrap (s318_9+1)) (r318_1.set ((s11:Int).toNat+(s318_9).toNat) (u32.wrap ((u32.wrap (x19+s318_4))-1000000000))))|_,_=>N')|_,_=>N')|F'=>(match T',D' ((0:Int)<=s318_9/\s318_9<(((i64.wrap ((i64.wrap (s11+((ae (val b).toNat).length:Int)))+1):Int).toNat-(s11:Int).toNat:Nat):Int))with|T',T'=>(match T',r318_1[(s11:Int).toNat+(s318_9).toNat]? with|T',S' _=>k 5 (dE b x2 s11 r5 f317_0_13 0 (i64.wrap (s318_9+1)) (r318_1.set ((s11:Int).toNat+(s318_9).toNat) (u32.wrap (x19+s318_4))))|_,_=>N')|_,_=>N')))|_,_=>N')|_,_=>N')|F'=>(match aH r5 s11 with|S' _=>(match T',r5[(s11).toNat]? with|T',S' _=>k 34 (qv b x2 (i64.wrap (s11-1)) (r5.set ((s11).toNat) (u32.wrap (u64.wrap (f317_0_13-1)))) r318_1)|_,_=>N')|N'=>N')
theorem fE(b:List Int)(x2 s11:Int)(r5:List Int)(f317_0_13 s318_4 s318_9:Int)(r318_1:List Int):RN f0 5 (dE b x2 s11 r5 f317_0_13 s318_4 s318_9 r318_1) (em b x2 s11 r5 f317_0_13 s318_4 s318_9 r318_1):=rnX
section
theorem P3{x:Int}(h1:1<=x)(h2:x<1000000000):1<=1000000000/(x+1)/\1000000000/(x+1)<=500000000/\(x+1)*(1000000000/(x+1))<=1000000000/\500000000<=x*(1000000000/(x+1)):=by
 have m0:=aoZ 1000000000 (show x+1≠0 by omega);have m1:=aoC 1000000000 (show 0<x+1 by omega);have md:=aoA 1000000000 (x+1);have d1:1<=1000000000/(x+1):=Int.le_ediv_of_mul_le (by omega) (by omega)
 have d2:1000000000/(x+1)<=500000000:=by
  have:1000000000/(x+1)<500000001:=api (by omega) (by omega);omega
 generalize 1000000000/(x+1)=d at*
 refine⟨d1,d2,by omega,?_⟩;rcases aoj x 500000000 with hx|hx
 ·rcases aoj (x*d) 500000000 with hd|hd
  ·exfalso;have e2:(x+1)*d>=1000000000-x:=by omega
   have e3:(x+1)*(x*d)<=(x+1)*499999999:=anV (by omega) (by omega);have e4:x*(1000000000-x)<=x*((x+1)*d):=anV e2 (by omega);have e5:0<=(x-1)*(500000000-x):=aoL (by omega) (by omega);grind
  omega
 ·have:=ap5 hx d1 (by decide) (by omega);omega
structure Kn (w V u2 u1 u0 v1 v0:Int):Prop where
 P:∃P wl vl:Int,0<P/\0<=wl/\wl<P/\0<=vl/\vl<P/\w=wl+P*(u0+1000000000*u1+1000000000*1000000000*u2)/\V=vl+P*(v0+1000000000*v1)
 u2:0<=u2/\u2<1000000000
 u1:0<=u1/\u1<1000000000
 u0:0<=u0/\u0<1000000000
 v1:500000000<=v1/\v1<1000000000
 v0:0<=v0/\v0<1000000000
 lt:w<V*1000000000
section
variable {w V u2 u1 u0 v1 v0:Int} (h:Kn w V u2 u1 u0 v1 v0)
include h
theorem Kn.top:u2<=v1:=by
 obtain⟨⟨P,wl,vl,p0,a1,a2,b1,b2,hw,hV⟩,⟨x1,x2⟩,⟨x3,x4⟩,⟨x5,x6⟩,⟨y1,y2⟩,⟨y3,y4⟩,hlt⟩:=h;rcases aoj v1 u2 with hc|hc
 ·have e1:P*(1000000000*1000000000*(v1+1))<=P*(u0+1000000000*u1+1000000000*1000000000*u2):=anV (by omega) (by omega);have e2:P*(v0+1000000000*v1)<=P*(999999999+1000000000*v1):=anV (by omega) (by omega);grind
 omega
theorem Kn.pos:0<V:=by
 obtain⟨⟨P,wl,vl,p0,a1,a2,b1,b2,hw,hV⟩,⟨x1,x2⟩,⟨x3,x4⟩,⟨x5,x6⟩,⟨y1,y2⟩,⟨y3,y4⟩,hlt⟩:=h;have:=Int.mul_pos p0 (show 0<v0+1000000000*v1 by omega);omega
theorem Kn.great{g rest:Int}(hg:0<=g)(he:g*v1+rest=u2*1000000000+u1)(hc:rest*1000000000+u0<g*v0):w<g*V:=by
 obtain⟨⟨P,wl,vl,p0,a1,a2,b1,b2,hw,hV⟩,⟨x1,x2⟩,⟨x3,x4⟩,⟨x5,x6⟩,⟨y1,y2⟩,⟨y3,y4⟩,hlt⟩:=h;have e1:g*V=g*vl+P*(g*v0+1000000000*(g*v1)):=by rw[hV];grind
 have e2:0<=g*vl:=aoL hg b1;have e3:P*(u0+1000000000*u1+1000000000*1000000000*u2+1)<=P*(g*v0+1000000000*(g*v1)):=anV (by omega) (by omega);grind
theorem Kn.small{g rest:Int}(_hg:0<=g)(hgB:g<=1000000000)(he:g*v1+rest=u2*1000000000+u1)(hc:g*v0<=rest*1000000000+u0):g*V<w+V:=by
 obtain⟨⟨P,wl,vl,p0,a1,a2,b1,b2,hw,hV⟩,⟨x1,x2⟩,⟨x3,x4⟩,⟨x5,x6⟩,⟨y1,y2⟩,⟨y3,y4⟩,hlt⟩:=h;have e1:g*V=g*vl+P*(g*v0+1000000000*(g*v1)):=by rw[hV];grind
 have e2:g*vl<=1000000000*P:=ap5 hgB (by omega) b1 (by decide);have e3:P*(g*v0+1000000000*(g*v1))<=P*(u0+1000000000*u1+1000000000*1000000000*u2):=anV (by omega) (by omega);have e4:P*(1000000000*500000000)<=P*(v0+1000000000*v1):=anV (by omega) (by omega);omega
theorem Kn.first{g:Int}(hg:g=(u2*1000000000+u1)/v1):w<(g+1)*V:=by
 obtain⟨⟨P,wl,vl,p0,a1,a2,b1,b2,hw,hV⟩,⟨x1,x2⟩,⟨x3,x4⟩,⟨x5,x6⟩,⟨y1,y2⟩,⟨y3,y4⟩,hlt⟩:=h;have m1:=aoC (u2*1000000000+u1) (show 0<v1 by omega);have md:=aoA (u2*1000000000+u1) v1;rw[<-hg]at md;have g0:0<=g:=by rw[hg];exact aoO (by omega) (by omega)
 have e1:(g+1)*V=(g+1)*vl+P*((g+1)*v0+1000000000*((g+1)*v1)):=by rw[hV];grind
 have e2:0<=(g+1)*vl:=aoL (by omega) b1;have e3:0<=(g+1)*v0:=aoL (by omega) y3;have e4:(g+1)*v1=v1*g+v1:=by grind
 have e5:P*(1000000000*(u2*1000000000+u1+1))<=P*((g+1)*v0+1000000000*((g+1)*v1)):=anV (by omega) (by omega)
 have e6:P*(u0+1000000000*u1+1000000000*1000000000*u2)+P<=P*(1000000000*(u2*1000000000+u1+1)):=by
  have:P*(u0+1000000000*u1+1000000000*1000000000*u2+1)<=P*(1000000000*(u2*1000000000+u1+1)):=anV (by omega) (by omega);grind
 omega
end
theorem G3{l:List Int}{m:Nat}(h:l.length=m+2):val l=val (l.take m)+pw m*(l[m]+1000000000*l[m+1]):=by grind [bh,bW]
theorem Na{l:List Int}{m:Nat}(h:l.length=m+3):val l=val (l.take m)+pw m*(l[m]+1000000000*l[m+1]+1000000000*1000000000*l[m+2]):=by grind [bh,bW]
def win(k n:Nat)(r:List Int):Int:=val ((r.drop k).take (n+1))
theorem J0{k n:Nat}{r:List Int}(h:k+n+1<=r.length)(hz:val (r.drop (k+n+1))=0):val r=val (r.take k)+pw k*win k n r:=by
 have h1:=fT r k;have h2:=fT (r.drop k) (n+1);grind [aqY,win]
theorem UM{k n:Nat}{r:List Int}(hl:Lim r)(h:k+n+1<=r.length):0<=win k n r/\win k n r<pw (n+1):=by
 have h1:=(hl.drop k).take (n+1);have h2:=bU h1;rw[aoo,aqf,aor (by omega)]at h2;exact⟨aP h1,h2⟩
theorem aia{v r:List Int}{k m:Nat}(hv:Lim v)(hvl:v.length=m+2)(hr:Lim r)(hk:k+m+3<=r.length)(htop:500000000<=v[m+1])(hlt:win k (m+2) r<val v*1000000000):
  Kn (win k (m+2) r) (val v) r[k+m+2] r[k+m+1] r[k+m] v[m+1] v[m]:=by
 have hwl:((r.drop k).take (m+2+1)).length=m+3:=by rw[aoo,aqf];omega
 have h3:=Na hwl;have h2:=G3 hvl;have hl1:=(hr.drop k).take (m+2+1);have g:∀j (hj:j<m+3),((r.drop k).take (m+2+1))[j]=r[k+j]:=λj hj=>by simp
 rw[g m (by omega),g (m+1) (by omega),g (m+2) (by omega)]at h3;have t1:=hl1.take m;have t2:=hv.take m;have b1:=bU t1;have b2:=bU t2;rw[aoo,aor (by omega)]at b1 b2;exact⟨⟨pw m,_,_,cg m,aP t1,b1,aP t2,b2,h3,h2⟩,hr.get (by omega),hr.get (by omega),hr.get (by omega),⟨htop,(hv.get (by omega)).2⟩,hv.get (by omega),hlt⟩
end
section
theorem wg{r:List Int}{k i:Nat}(y:Int):(r.set (k+i) y).take k=r.take k:=List.take_set_of_le (by omega)
theorem wb{r:List Int}{k i n:Nat}(y:Int)(h:i<=n):(r.set (k+i) y).drop (k+n+1)=r.drop (k+n+1):=List.drop_set_of_lt (by omega)
section
variable (b:List Int) (x2:Int) (v:List Int) (m:Nat) (hN:(ae (val b).toNat).length=m+2) (hv:ae (val (dig ((ae (val b).toNat).length+([u32.wrap (u64.wrap (Int.tdiv 1000000000 (u64.wrap ((u64.wrap x2)+1))))]).length) (val (ae (val b).toNat)*val ([u32.wrap (u64.wrap (Int.tdiv 1000000000 (u64.wrap ((u64.wrap x2)+1))))])))).toNat=v) (lv:Lim v) (hvl:v.length=m+2)
include hN hv lv hvl
theorem P5(k:Nat)(r0 r5:List Int)(g:Int)(hg:0<=g/\g<1000000000)(hk:k+(m+2)+1<=r0.length)(hsz:r0.length<=4000000000)(R:List RV)
  (hno:∀r,Lim r->r.length=r0.length->r.take k=r0.take k->r.drop (k+(m+2)+1)=r0.drop (k+(m+2)+1)->val r=val r0-pw k*(g*val v)->∃q,dt b x2 (k:Int) r5 g g 0 0 ((m+2+1:Nat):Int) r (f0.k q)=S' R)
  (hyes:∀r,Lim r->r.length=r0.length->r.take k=r0.take k->r.drop (k+(m+2)+1)=r0.drop (k+(m+2)+1)->val r=val r0-pw k*(g*val v)+pw (k+(m+2)+1)->∃q,dt b x2 (k:Int) r5 g g 0 1 ((m+2+1:Nat):Int) r (f0.k q)=S' R):
  ∀(j i:Nat) (c bo:Int) (r:List Int),i+j=m+2+1->0<=c->c<1000000000->(i=m+2+1->c=0)->0<=bo->bo<=1->Lim r->r.length=r0.length->r.take k=r0.take k->r.drop (k+(m+2)+1)=r0.drop (k+(m+2)+1)->
   val r=val r0-pw k*(g*val (v.take i))+pw (k+i)*(c+bo)->f0.Runs 8 (cW b x2 (k:Int) r5 g g c bo (i:Int) r) R:=by
 have e1:i64.wrap ((k:Int)+((m+2:Nat):Int))=((k+(m+2):Nat):Int):=by rw[aM (by omega) (by omega)];simp
 have e2:i64.wrap (((k+(m+2):Nat):Int)+1)=((k+(m+2)+1:Nat):Int):=aT (by omega);have e3:k+(m+2)+1-k=m+2+1:=by omega
 intro j;induction j with
 |zero=>
  intro i c bo r hi c0 c1 hc b0 b1 lr hl ht hd hval;obtain rfl:i=m+2+1:=by omega
  obtain rfl:=hc rfl;rw[aoI (by omega)]at hval;refine fF _ _ _ _ _ _ _ _ _ _ ?_;rcases(show bo=0\/bo=1 by omega)with rfl|rfl
  ·exact hno r lr hl ht hd (by rw[hval];simp)
  ·exact hyes r lr hl ht hd (by rw[hval];simp;rfl)
 |succ j ih=>
  intro i c bo r hi c0 c1 hc b0 b1 lr hl ht hd hval;have hir:k+i<r.length:=by omega
  have xr:=lr.get hir;have hwi:D' ((0:Int)<=(i:Int)/\(i:Int)<((m+2+1:Nat):Int))=true:=anO (by omega);have hlt:D' ((i:Int)<((m+2+1:Nat):Int))=true:=anO (by omega);have hw:=hv
  have step:∀(c' y bo':Int),0<=c'->c'<1000000000->(i+1=m+2+1->c'=0)->0<=y->y<1000000000->0<=bo'->bo'<=1->y=r[k+i]-(val (v.take (i+1))-val (v.take i))/pw i*g-c+1000000000*c'-bo+1000000000*bo'->pw i*((val (v.take (i+1))-val (v.take i))/pw i)=val (v.take (i+1))-val (v.take i)->
    f0.Runs 8 (cW b x2 (k:Int) r5 g g c' bo' ((i+1:Nat):Int) (r.set (k+i) y)) R:=by
   intro c' y bo' k0 k1 kc y0 y1 k2 k3 hy hp;refine ih (i+1) c' bo' (r.set (k+i) y) (by omega) k0 k1 kc k2 k3 (lr.set _ ⟨y0,y1⟩) (by simpa using hl) (by rw[wg];exact ht) (by rw[wb _ (by omega)];exact hd) ?_;rw[fe hir,hval,hy,show k+(i+1)=k+i+1 by omega,bW,fo];generalize (val (v.take (i+1))-val (v.take i))/pw i=d at*
   have:val (v.take (i+1))=val (v.take i)+pw i*d:=by omega
   rw[this];grind
  by_cases hiv:i<m+2
  ·have hiv':i<v.length:=by omega
   have xv:=lv.get hiv'
   have hdv:(val (v.take (i+1))-val (v.take i))/pw i=v[i]:=by
    rw[bh hiv',show val (v.take i)+pw i*v[i]-val (v.take i)=pw i*v[i] by omega,ap8 _ (by have:=cg i;omega)]
   rw[hdv]at step;have hbd:=IH (r:=0) (by decide) xv hg ⟨c0,c1⟩;have t0:0<=c+v[i]*g:=by omega
   have q0:0<=(c+v[i]*g)/1000000000/\(c+v[i]*g)/1000000000<1000000000:=by omega
   have hpv:pw i*v[i]=val (v.take (i+1))-val (v.take i):=by rw[bh hiv'];omega
   by_cases hc2:r[k+i]<(c+v[i]*g)%1000000000+bo
   ·obtain⟨q,hq⟩:=step ((c+v[i]*g)/1000000000) (r[k+i]+1000000000-((c+v[i]*g)%1000000000+bo)) 1 q0.1 q0.2 (by omega) (by omega) (by omega) (by omega) (by omega) (by omega) hpv;refine fF _ _ _ _ _ _ _ _ _ _ ⟨q,?_⟩;unfold dt;rw[hw,hN,e1,e2,aE,aE,e3,hlt,hwi,hvl,aO hiv,ak v i,anN hiv',aE,anN hir];dsimp only
    rw[bI (x:=v[i]) (by omega) (by omega),bI (x:=v[i]*g) (by omega) (by omega),bI (x:=c+v[i]*g) (by omega) (by omega),ju t0,gJ t0,bI (x:=(c+v[i]*g)/1000000000) (by omega) (by omega),bI (x:=(c+v[i]*g)%1000000000+bo) (by omega) (by omega),bI (x:=r[k+i]) (by omega) (by omega),anO hc2,
     bI (x:=r[k+i]+1000000000) (by omega) (by omega),bI (x:=r[k+i]+1000000000-((c+v[i]*g)%1000000000+bo)) (by omega) (by omega),cZ (x:=r[k+i]+1000000000-((c+v[i]*g)%1000000000+bo)) (by omega) (by omega),aT (k:=i) (by omega)]
    exact hq
   ·obtain⟨q,hq⟩:=step ((c+v[i]*g)/1000000000) (r[k+i]-((c+v[i]*g)%1000000000+bo)) 0 q0.1 q0.2 (by omega) (by omega) (by omega) (by omega) (by omega) (by omega) hpv;refine fF _ _ _ _ _ _ _ _ _ _ ⟨q,?_⟩;unfold dt;rw[hw,hN,e1,e2,aE,aE,e3,hlt,hwi,hvl,aO hiv,ak v i,anN hiv',aE,anN hir];dsimp only
    rw[bI (x:=v[i]) (by omega) (by omega),bI (x:=v[i]*g) (by omega) (by omega),bI (x:=c+v[i]*g) (by omega) (by omega),ju t0,gJ t0,bI (x:=(c+v[i]*g)/1000000000) (by omega) (by omega),bI (x:=(c+v[i]*g)%1000000000+bo) (by omega) (by omega),bI (x:=r[k+i]) (by omega) (by omega),anQ hc2,
     bI (x:=r[k+i]-((c+v[i]*g)%1000000000+bo)) (by omega) (by omega),cZ (x:=r[k+i]-((c+v[i]*g)%1000000000+bo)) (by omega) (by omega),aT (k:=i) (by omega)]
    exact hq
  ·have hpz:val (v.take (i+1))-val (v.take i)=0:=by rw[kC (by omega)];omega
   rw[hpz]at step;simp only[Int.zero_ediv,Int.zero_mul,aqw,Int.sub_zero,forall_const]at step;have m0:c%1000000000=c:=by omega
   have d0:c/1000000000=0:=by omega
   by_cases hc2:r[k+i]<c+bo
   ·obtain⟨q,hq⟩:=step 0 (r[k+i]+1000000000-(c+bo)) 1 (by omega) (by omega) (by omega) (by omega) (by omega) (by omega) (by omega) (by omega);refine fF _ _ _ _ _ _ _ _ _ _ ⟨q,?_⟩;unfold dt;rw[hw,hN,e1,e2,aE,aE,e3,hlt,hwi,hvl,a8 (show m+2<=i by omega),aE,anN hir];dsimp only
    rw[ju c0,gJ c0,m0,d0,bI (x:=0) (by omega) (by omega),bI (x:=c+bo) (by omega) (by omega),bI (x:=r[k+i]) (by omega) (by omega),anO hc2,
     bI (x:=r[k+i]+1000000000) (by omega) (by omega),bI (x:=r[k+i]+1000000000-(c+bo)) (by omega) (by omega),cZ (x:=r[k+i]+1000000000-(c+bo)) (by omega) (by omega),aT (k:=i) (by omega)]
    exact hq
   ·obtain⟨q,hq⟩:=step 0 (r[k+i]-(c+bo)) 0 (by omega) (by omega) (by omega) (by omega) (by omega) (by omega) (by omega) (by omega);refine fF _ _ _ _ _ _ _ _ _ _ ⟨q,?_⟩;unfold dt;rw[hw,hN,e1,e2,aE,aE,e3,hlt,hwi,hvl,a8 (show m+2<=i by omega),aE,anN hir];dsimp only
    rw[ju c0,gJ c0,m0,d0,bI (x:=0) (by omega) (by omega),bI (x:=c+bo) (by omega) (by omega),bI (x:=r[k+i]) (by omega) (by omega),anQ hc2,
     bI (x:=r[k+i]-(c+bo)) (by omega) (by omega),cZ (x:=r[k+i]-(c+bo)) (by omega) (by omega),aT (k:=i) (by omega)]
    exact hq
end
end
end Go.Proofs.YtoimchcjhdcdmaaGreat
end
