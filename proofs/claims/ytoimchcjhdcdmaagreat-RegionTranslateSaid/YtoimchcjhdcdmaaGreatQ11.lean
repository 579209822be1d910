/- The reference's integers: trim, signed, ae, short, compare, plus, minus, times. -/
import Derived.Test.YtoimchcjhdcdmaaGreatQ10
noncomputable section
namespace Go.Proofs.YtoimchcjhdcdmaaGreat
open Go.RowKit Go.IntKind
open Bool renaming true->T',false->F'
open Option renaming some->S',none->N'
open Decidable renaming decide->D'
theorem arM:type_of% @decide_eq_decide:=@decide_eq_decide
def tn(a:List Int):Prop:=aR a/\val a<18446744073709551616
instance (a:List Int):Decidable (tn a):=by unfold tn;infer_instance
def rm(a b:List Int):Prop:=(can a/\a.length<=1000000000)/\(can b/\b.length<=1000000000)
instance (a b:List Int):Decidable (rm a b):=by unfold rm;infer_instance
def jx(l:List Int):Prop:=Lim l/\l.length<=10000000
instance (l:List Int):Decidable (jx l):=by unfold jx;infer_instance
theorem cr{n:Nat}(h:(ae n).length<=1000000000):aR (ae n):=⟨bV n,h⟩
theorem bS{v:Int}(h:0<=v):val (ae v.toNat)=v:=by grind [bG]
theorem cp{v:Int}{k:Nat}(h0:0<=v)(h:v<pw k):(ae v.toNat).length<=k:=dq (by omega)
def nN:List En:=[]
def Yj:NT:=[((197,4),{keep:=[0],pure_:=[(0,.int .u32)],hl:=0})]
def Cz:Ctx:=CX (ens nN) Yj
def wE(s0:List Int):Cfg:=⟨197,[.blk 0,.seq 13],[(0,.d asj s0)],[],0,[]⟩
def adi(a:List Int)(k:KT):OLR:=k 4 (wE a)
theorem afj(a:List Int):RS Cz 197 [.d asj a] (adi a):=rsX
def uI(s0:List Int)(k:KT):OLR:=match D' ((s0.length:Int)>0)with|T'=>(match aH s0 (i64.wrap ((s0.length:Int)-1))with|S' x1=>(match x1==0 with|T'=>(og (D' ((0:Int)<=0/\0<=i64.wrap ((s0.length:Int)-1)/\i64.wrap ((s0.length:Int)-1)<=(s0.length:Int))) (k 4 (wE ((s0.take (i64.wrap ((s0.length:Int)-1)).toNat).drop (0:Int).toNat))))|F'=>S' [RV.d asj s0])|N'=>N')|F'=>S' [RV.d asj s0]
theorem vE(s0:List Int):RN Cz 4 (wE s0) (uI s0):=rnX
def WA:NT:=[((199,8),{keep:=[0,3,4],hl:=0})]
def Dk:Ctx:=CX (ens nN) WA
def wY(a:List Int)(s3 s4:Int):Cfg:=⟨199,[.blk 0,.seq 19],[(0,.d asj a),(3,.d (.int .u64) s3),(4,SI s4)],[],0,[]⟩
def TF(a:List Int)(k:KT):OLR:=k 8 (wY a 0 (i64.wrap ((a.length:Int)-1)))
theorem adR(a:List Int):RS Dk 199 [.d asj a] (TF a):=rsX
def uB(a:List Int)(s3 s4:Int)(k:KT):OLR:=match D' (s4>=0)with|T'=>(match aH a s4 with|S' x1=>k 8 (wY a (u64.wrap ((u64.wrap (s3*1000000000))+(u64.wrap x1))) (i64.wrap (s4-1)))|N'=>N')|F'=>S' [RV.d (.int .u64) s3]
theorem BD(a:List Int)(s3 s4:Int):RN Dk 8 (wY a s3 s4) (uB a s3 s4):=rnX
def WZ:NT:=[((140,6),{keep:=[0,3],own:=[(3,194,.int .u32)],hl:=1})]
def Cs:Ctx:=CX (ens nN) WZ
def wK(s0:Int)(r0:List Int):Cfg:=⟨140,[.blk 0,.seq 17],[(0,.d (.int .u64) s0),(3,.own 0)],[.row 194 asl r0],0,[]⟩
def afk(u:Int)(k:KT):OLR:=k 6 (wK u ([]))
theorem agt(u:Int):RS Cs 140 [.d (.int .u64) u] (afk u):=rsX
def uS(s0:Int)(r0:List Int)(k:KT):OLR:=match D' (s0>0)with|T'=>(og (D' ((r0.length+([u32.wrap (Int.tmod s0 1000000000)]).length)*4<=140737488355328/\r0.length+([u32.wrap (Int.tmod s0 1000000000)]).length<=140737488355328)) (k 6 (wK (u64.wrap (Int.tdiv s0 1000000000)) (r0++([u32.wrap (Int.tmod s0 1000000000)])))))|F'=>S' [RV.new 194 asl r0]
theorem Bu(s0:Int)(r0:List Int):RN Cs 6 (wK s0 r0) (uS s0 r0):=rnX
def VI:NT:=[((113,22),{keep:=[0,1,5],hl:=0})]
def Dw:Ctx:=CX (ens nN) VI
def tZ(a b:List Int)(s5:Int):Cfg:=⟨113,[.blk 0,.seq 47],[(0,.d asj a),(1,.d asj b),(5,SI s5)],[],0,[]⟩
def Jc(a b:List Int)(k:KT):OLR:=match(a.length:Int) !=(b.length:Int)with|T'=>(match D' ((a.length:Int)<(b.length:Int))with|T'=>S' [RV.d ask (-1)]|F'=>S' [RV.d ask 1])|F'=>k 22 (tZ a b (i64.wrap ((a.length:Int)-1)))
theorem R6(a b:List Int):RS Dw 113 [.d asj a,.d asj b] (Jc a b):=rsX
def kX(a b:List Int)(s5:Int)(k:KT):OLR:=match D' (s5>=0)with|T'=>(match aH a s5 with|S' x1=>(match aH b s5 with|S' x2=>(match D' (x1<x2)with|T'=>S' [RV.d ask (-1)]|F'=>(match aH a s5 with|S' x3=>(match aH b s5 with|S' x4=>(match D' (x3>x4)with|T'=>S' [RV.d ask 1]|F'=>k 22 (tZ a b (i64.wrap (s5-1))))|N'=>N')|N'=>N'))|N'=>N')|N'=>N')|F'=>S' [RV.d ask 0]
theorem oe(a b:List Int)(s5:Int):RN Dw 22 (tZ a b s5) (kX a b s5):=rnX
theorem MO(l:List Int)(hl:Lim l)(hs:l.length<=1000000000):∀(n:Nat),n<=l.length->(∀j (hj:j<l.length),n<=j->l[j]=0)->Cz.Runs 4 (wE (l.take n)) [.d asj (ae (val l).toNat)]:=by
 intro n;induction n with
 |zero=>
  intro _ h;refine vE _ ⟨0,?_⟩;rw[<-mC hl (arh _) h (.inl rfl)];rfl
 |succ n ih=>
  intro hn h;have hlen:(l.take (n+1)).length=n+1:=by rw[app,aps hn]
  have hget:(l.take (n+1))[n]?=S' l[n]:=by rw[List.getElem?_take_of_lt (by omega),aoO (by omega)]
  by_cases hz:l[n]=0
  ·obtain⟨q,hq⟩:=ih (by omega) λj hj hk=>by
    rcases Nat.eq_or_lt_of_le hk with e|e
    ·subst e;exact hz
    ·exact h j hj e
   refine vE _ ⟨q,?_⟩;unfold uI;rw[hlen,aoP (by omega),M3 (by omega) (by omega),ak,show n+1-1=n from rfl,hget];dsimp only;rw[hz,aoP (show(0:Int)<=0/\(0:Int)<=(n:Int)/\(n:Int)<=((n+1:Nat):Int) by omega),aE,arJ,aps (by omega)];exact hq
  ·refine vE _ ⟨0,?_⟩;unfold uI;rw[hlen,aoP (by omega),M3 (by omega) (by omega),ak,show n+1-1=n from rfl,hget];dsimp only;rw[show(l[n]==0)=F' by simpa using hz,<-mC hl hn h (.inr ⟨Nat.lt_of_succ_le hn,hz⟩)]
def zF:Cn 197 [asj]:=cn λ(a:List Int)=>lf (aR a) [.d asj (ae (val a).toNat)] λh=>by
 refine aX nN (show Cz.Res _ _ _ from ?_);obtain⟨q,hq⟩:=MO a h.1 h.2 a.length (aoU _) (λj hj hk=>by omega);rw[ap6]at hq;exact afj _ ⟨q,hq⟩
theorem Mz(u:Nat):∀(r:List Int),(u:Int)<18446744073709551616->r.length+3<=1000+3-(ae u).length->Cs.Runs 6 (wK (u:Int) r) [.new 194 asl (r++ae u)]:=by
 induction u using qe with
 |h0=>
  intro r _ _;refine Bu _ _ ⟨0,?_⟩;unfold uS;rw[fA,apj];rfl
 |h1 n hn ih=>
  intro r hu hr;rw[iN hn]at hr;simp only[ao8]at hr;obtain⟨q,hq⟩:=ih (r++[((n%1000000000:Nat):Int)]) (by omega) (by rw[apr];simp only[apd];omega);refine Bu _ _ ⟨q,?_⟩;unfold uS;rw[aoP (by omega),ju (by omega),gG (by omega),bH (x:=(n:Int)/1000000000) (by omega) (by omega),cX (x:=(n:Int)%1000000000) (by omega) (by omega)];simp only[apd];rw[afC (by omega) (by omega),iN hn];rw[show((n:Int)%1000000000)=((n%1000000000:Nat):Int) by omega,show((n:Int)/1000000000)=((n/1000000000:Nat):Int) by omega];rw[apg]at hq;exact hq
def Ee:Cn 140 [(.int .u64)]:=cn λ(u:Int)=>lf (iw u) [.new 194 asl (ae u.toNat)] λh=>by
 refine aX nN (show Cs.Res _ _ _ from ?_);have h0:=h.1;have h1:=h.2;have hl:=dq (n:=u.toNat) (k:=3) (arr (show(u.toNat:Int)<18446744073709551616 by omega) (by decide));obtain⟨q,hq⟩:=Mz u.toNat [] (by omega) (by simp;omega)
 rw[show((u.toNat:Nat):Int)=u by omega]at hq;exact agt _ ⟨q,hq⟩
theorem A9(a:List Int)(h:tn a):∀(i:Nat),i<=a.length->Dk.Runs 8 (wY a (val (a.drop i)) ((i:Int)-1)) [.d (.int .u64) (val a)]
 |0,_=>by
  refine BD _ _ _ ⟨0,?_⟩;unfold uB;rw[aoR (by omega),aqB]
 |i+1,hi=>by
  obtain⟨n,ih⟩:=A9 a h i (by omega);have h0:=h.1.2;have hlim:=h.1.1;have hlt:=h.2;have hd:a.drop i=a[i]::a.drop (i+1):=jw (by omega)
  have hle:∀j,val (a.drop j)<=val a/\0<=val (a.drop j):=λj=>by
   have l1:Lim (a.drop j):=λy hy=>hlim y (aqu hy);have l2:Lim (a.take j):=λy hy=>hlim y (ap8 hy);have:=dz (a.take j) (a.drop j);rw[aqi]at this;have n1:=aP l1;have n2:=aP l2;have p:=cf (a.take j).length
   have:val (a.drop j)<=pw (a.take j).length*val (a.drop j):=by
    have:=ao2 (show 1<=pw (a.take j).length by omega) n1;omega
   omega
  have hb:=hlim a[i] (aoY _);have hv1:=hle i;have hv2:=hle (i+1);rw[hd]at hv1 ih;simp only[val]at hv1 ih;refine BD _ _ _ ⟨n,?_⟩;unfold uB;rw[show(((i+1:Nat):Int)-1)=(i:Int) by omega,aoP (by omega),ak,aoO (by omega)];dsimp only;rw[bH (x:=val (a.drop (i+1))*1000000000) (by omega) (by omega),bH (x:=a[i]) (by omega) (by omega),bH (by omega) (by omega),aM (by omega) (by omega)];rw[show val (a.drop (i+1))*1000000000+a[i]=a[i]+1000000000*val (a.drop (i+1)) by omega];exact ih
def Ci:Cn 199 [asj]:=cn λ(a:List Int)=>lf (tn a) [.d (.int .u64) (val a)] λh=>by
 refine aX nN (show Dk.Res _ _ _ from ?_);obtain⟨n,hn⟩:=A9 a h a.length (aoU _);have h0:=h.1.2;refine adR _ ⟨n,?_⟩;unfold TF;rw[arj]at hn;rw[aM (by omega) (by omega)];exact hn
theorem Mn(a b:List Int)(la:Lim a)(lb:Lim b)(hl:a.length=b.length)(hs:a.length<=1000000000):∀(n:Nat),n<=a.length->a.drop n=b.drop n->
  Dw.Runs 22 (tZ a b ((n:Int)-1)) [.d ask (b9 (val a) (val b))]:=by
 intro n;induction n with
 |zero=>
  intro _ h;refine oe _ _ _ ⟨0,?_⟩;have e:val a=val b:=by simp only[aqB]at h;rw[h]
  unfold kX;rw[aoR (by omega),e,dU]
 |succ n ih=>
  intro hn h;have h1:n<a.length:=by omega
  have h2:n<b.length:=by omega
  rcases Int.lt_trichotomy a[n] b[n]with hc|hc|hc
  ·refine oe _ _ _ ⟨0,?_⟩;have:=Ei la lb h1 h2 h hc;unfold kX;rw[show((n+1:Nat):Int)-1=(n:Int) by omega,aoP (by omega),ak,ak,aoO h1,aoO h2];dsimp only;rw[aoP hc,da (by omega)]
  ·obtain⟨q,hq⟩:=ih (by omega) (by rw[ao5 h1,ao5 h2,hc,h]);refine oe _ _ _ ⟨q,?_⟩;unfold kX;rw[show((n+1:Nat):Int)-1=(n:Int) by omega,aoP (by omega),ak,ak,aoO h1,aoO h2];dsimp only;rw[aoR (by omega),aoR (by omega),aM (x:=(n:Int)-1) (by omega) (by omega)];exact hq
  ·refine oe _ _ _ ⟨0,?_⟩;have:=Ei lb la h2 h1 h.symm hc;unfold kX;rw[show((n+1:Nat):Int)-1=(n:Int) by omega,aoP (by omega),ak,ak,aoO h1,aoO h2];dsimp only;rw[aoR (by omega),aoP hc,cH (by omega)]
theorem Kt{a b:List Int}(ha:can a)(hb:can b)(h:a.length<b.length):val a<val b:=by
 have ea:=p7 ha;have eb:=p7 hb;have:=xc (a:=(val a).toNat) (b:=(val b).toNat) (by rw[<-ea,<-eb];exact h);omega
def zY:Cn 113 [asj,asj]:=cn λ(a b:List Int)=>lf (rm a b) [.d ask (b9 (val a) (val b))] λh=>by
 refine aX nN (show Dw.Res _ _ _ from ?_);obtain⟨⟨ha,sa⟩,hb,sb⟩:=h;by_cases hl:a.length=b.length
 ·obtain⟨q,hq⟩:=Mn a b ha.1 hb.1 hl sa _ (aoU _) (by rw[arj,hl,arj]);refine R6 _ _ ⟨q,?_⟩;unfold Jc;rw[show((a.length:Int) !=(b.length:Int))=F' by simp[hl],aM (x:=(a.length:Int)-1) (by omega) (by omega)];exact hq
 ·refine R6 _ _ ⟨0,?_⟩;unfold Jc;rw[show((a.length:Int) !=(b.length:Int))=true by simp;omega];dsimp only;rcases Nat.lt_or_gt_of_ne hl with h1|h1
  ·have:=Kt ha hb h1;rw[aoP (by omega),da (by omega)]
  ·have:=Kt hb ha h1;rw[aoR (by omega),cH (by omega)]
def so:List En:=enK zF::enK Ee::enF Ci::enF zY::nN
def S5(neg:Bool)(l:List Int)(_k:KT):OLR:=og (D' (aR l)) (match neg with|T'=>S' [RV.d y3Y (D' (((ae (val l).toNat).length:Int)>0),ae (val l).toNat)]|F'=>S' [RV.d y3Y (F',ae (val l).toNat)])
def Yp:NT:=[((120,16),{keep:=[0,1,5,6,7],hl:=1})]
def zS:Ctx:=CX (ens so) Yp
def kN(s0 s1 r0:List Int)(s6 s7:Int):Cfg:=⟨120,[.blk 0,.seq 37],[(0,.d asj s0),(1,.d asj s1),(5,.own 0),(6,.d asl s6),(7,SI s7)],[.row 194 asl r0],0,[]⟩
def H3(a b:List Int)(k:KT):OLR:=match D' ((a.length:Int)<(b.length:Int))with|T'=>(og (D' ((0:Int)<=i64.wrap ((b.length:Int)+1)/\(i64.wrap ((b.length:Int)+1))*((4:Nat):Int)<=140737488355328/\i64.wrap ((b.length:Int)+1)<=140737488355328)) (k 16 (kN b a (List.replicate (i64.wrap ((b.length:Int)+1)).toNat (0:Int)) 0 0)))|F'=>(og (D' ((0:Int)<=i64.wrap ((a.length:Int)+1)/\(i64.wrap ((a.length:Int)+1))*((4:Nat):Int)<=140737488355328/\i64.wrap ((a.length:Int)+1)<=140737488355328)) (k 16 (kN a b (List.replicate (i64.wrap ((a.length:Int)+1)).toNat (0:Int)) 0 0)))
theorem OF(a b:List Int):RS zS 120 [.d asj a,.d asj b] (H3 a b):=rsX
def nE(s0 s1 r0:List Int)(s6 s7:Int)(k:KT):OLR:=match D' (s7<(s0.length:Int))with|T'=>(match aH s0 s7 with|S' x1=>(match D' (s7<(s1.length:Int))with|T'=>(match aH s1 s7 with|S' x2=>(match aH r0 s7 with|S' _=>(match T',r0[(s7).toNat]? with|T',S' _=>k 16 (kN s0 s1 (r0.set ((s7).toNat) (Int.tmod (u32.wrap ((u32.wrap (s6+x1))+x2)) 1000000000)) (u32.wrap (Int.tdiv (u32.wrap ((u32.wrap (s6+x1))+x2)) 1000000000)) (i64.wrap (s7+1)))|_,_=>N')|N'=>N')|N'=>N')|F'=>(match aH r0 s7 with|S' _=>(match T',r0[(s7).toNat]? with|T',S' _x2=>k 16 (kN s0 s1 (r0.set ((s7).toNat) (Int.tmod (u32.wrap (s6+x1)) 1000000000)) (u32.wrap (Int.tdiv (u32.wrap (s6+x1)) 1000000000)) (i64.wrap (s7+1)))|_,_=>N')|N'=>N'))|N'=>N')|F'=>(match aH r0 (s0.length:Int)with|S' _=>(match T',r0[((s0.length:Int)).toNat]? with|T',S' _x1=>(og (D' (aR (r0.set (((s0.length:Int)).toNat) s6))) (S' [RV.d asj (ae (val (r0.set (((s0.length:Int)).toNat) s6)).toNat)]))|_,_=>N')|N'=>N')
theorem rM(s0 s1 r0:List Int)(s6 s7:Int):RN zS 16 (kN s0 s1 r0 s6 s7) (nE s0 s1 r0 s6 s7):=rnX
def W7:NT:=[((121,10),{keep:=[0,1,5,6,7],hl:=1})]
def zt:Ctx:=CX (ens so) W7
def jv(a b:List Int)(s7:Int)(r0:List Int)(s6:Int):Cfg:=⟨121,[.blk 0,.seq 37],[(0,.d asj a),(1,.d asj b),(5,.own 0),(6,.d asl s6),(7,SI s7)],[.row 194 asl r0],0,[]⟩
def Q2(a b:List Int)(k:KT):OLR:=og (D' ((0:Int)<=(a.length:Int)/\(a.length:Int)*((4:Nat):Int)<=140737488355328/\(a.length:Int)<=140737488355328)) (k 10 (jv a b 0 (List.replicate ((a.length:Int)).toNat (0:Int)) 0))
theorem agd(a b:List Int):RS zt 121 [.d asj a,.d asj b] (Q2 a b):=rsX
def iI(a b:List Int)(s7:Int)(r0:List Int)(s6:Int)(k:KT):OLR:=match D' (s7<(a.length:Int))with|T'=>(match aH a s7 with|S' x1=>(match D' (s7<(b.length:Int))with|T'=>(match aH b s7 with|S' x2=>(match D' ((u32.wrap ((u32.wrap ((u32.wrap (x1+1000000000))-s6))-x2))>=1000000000)with|T'=>(match aH r0 s7 with|S' _=>(match T',r0[(s7).toNat]? with|T',S' _x3=>k 10 (jv a b (i64.wrap (s7+1)) (r0.set ((s7).toNat) (u32.wrap ((u32.wrap ((u32.wrap ((u32.wrap (x1+1000000000))-s6))-x2))-1000000000))) 0)|_,_=>N')|N'=>N')|F'=>(match aH r0 s7 with|S' _=>(match T',r0[(s7).toNat]? with|T',S' _x3=>k 10 (jv a b (i64.wrap (s7+1)) (r0.set ((s7).toNat) (u32.wrap ((u32.wrap ((u32.wrap (x1+1000000000))-s6))-x2))) 1)|_,_=>N')|N'=>N'))|N'=>N')|F'=>(match D' ((u32.wrap ((u32.wrap (x1+1000000000))-s6))>=1000000000)with|T'=>(match aH r0 s7 with|S' _=>(match T',r0[(s7).toNat]? with|T',S' _x2=>k 10 (jv a b (i64.wrap (s7+1)) (r0.set ((s7).toNat) (u32.wrap ((u32.wrap ((u32.wrap (x1+1000000000))-s6))-1000000000))) 0)|_,_=>N')|N'=>N')|F'=>(match aH r0 s7 with|S' _=>(match T',r0[(s7).toNat]? with|T',S' _x2=>k 10 (jv a b (i64.wrap (s7+1)) (r0.set ((s7).toNat) (u32.wrap ((u32.wrap (x1+1000000000))-s6))) 1)|_,_=>N')|N'=>N')))|N'=>N')|F'=>(og (D' (aR r0)) (S' [RV.d asj (ae (val r0).toNat)]))
theorem kU(a b:List Int)(s7:Int)(r0:List Int)(s6:Int):RN zt 10 (jv a b s7 r0 s6) (iI a b s7 r0 s6):=rnX
def Ye:NT:=[((115,8),{keep:=[0,1,5,6],hl:=1}),((115,23),{keep:=[0,1,5,6,7,8],hl:=1})]
def rB:Ctx:=CX (ens so) Ye
def ub(a b:List Int)(s6:Int)(r0:List Int):Cfg:=⟨115,[.blk 0,.seq 40],[(0,.d asj a),(1,.d asj b),(5,.own 0),(6,SI s6)],[.row 194 asl r0],0,[]⟩
def sX(a b:List Int)(s6 s7 s8:Int)(r0:List Int):Cfg:=⟨115,[.blk 2,.seq 38,.blk 1,.seq 39,.lp 8,.blk 0,.seq 40],[(0,.d asj a),(1,.d asj b),(5,.own 0),(6,SI s6),(7,.d (.int .u64) s7),(8,SI s8)],[.row 194 asl r0],0,[]⟩
def OC(a b:List Int)(k:KT):OLR:=og (D' ((0:Int)<=i64.wrap ((a.length:Int)+(b.length:Int))/\(i64.wrap ((a.length:Int)+(b.length:Int)))*((4:Nat):Int)<=140737488355328/\i64.wrap ((a.length:Int)+(b.length:Int))<=140737488355328)) (k 8 (ub a b 0 (List.replicate (i64.wrap ((a.length:Int)+(b.length:Int))).toNat (0:Int))))
theorem aft(a b:List Int):RS rB 115 [.d asj a,.d asj b] (OC a b):=rsX
def u5(a b:List Int)(s6:Int)(r0:List Int)(k:KT):OLR:=match D' (s6<(a.length:Int))with|T'=>k 23 (sX a b s6 0 0 r0)|F'=>(og (D' (aR r0)) (S' [RV.d asj (ae (val r0).toNat)]))
theorem Bf(a b:List Int)(s6:Int)(r0:List Int):RN rB 8 (ub a b s6 r0) (u5 a b s6 r0):=rnX
def ro(a b:List Int)(s6 s7 s8:Int)(r0:List Int)(k:KT):OLR:=match D' (s8<(b.length:Int))with|T'=>(match aH r0 (i64.wrap (s6+s8))with|S' _=>(match T',r0[(i64.wrap (s6+s8)).toNat]? with|T',S' x1=>(match aH a s6 with|S' x2=>(match aH b s8 with|S' x3=>(match aH r0 (i64.wrap (s6+s8))with|S' _=>(match T',r0[(i64.wrap (s6+s8)).toNat]? with|T',S' _=>k 23 (sX a b s6 (u64.wrap (Int.tdiv (u64.wrap ((u64.wrap (s7+(u64.wrap x1)))+(u64.wrap ((u64.wrap x2)*(u64.wrap x3))))) 1000000000)) (i64.wrap (s8+1)) (r0.set ((i64.wrap (s6+s8)).toNat) (u32.wrap (Int.tmod (u64.wrap ((u64.wrap (s7+(u64.wrap x1)))+(u64.wrap ((u64.wrap x2)*(u64.wrap x3))))) 1000000000))))|_,_=>N')|N'=>N')|N'=>N')|N'=>N')|_,_=>N')|N'=>N')|F'=>(match aH r0 (i64.wrap (s6+(b.length:Int)))with|S' _=>(match T',r0[(i64.wrap (s6+(b.length:Int))).toNat]? with|T',S' _x1=>k 8 (ub a b (i64.wrap (s6+1)) (r0.set ((i64.wrap (s6+(b.length:Int))).toNat) (u32.wrap s7)))|_,_=>N')|N'=>N')
theorem xA(a b:List Int)(s6 s7 s8:Int)(r0:List Int):RN rB 23 (sX a b s6 s7 s8 r0) (ro a b s6 s7 s8 r0):=rnX
def HO:Cn 114 [.bool,asj]:=cn λ(neg:Bool) (l:List Int)=>lf (aR l) [.d y3Y (ah (bZ neg (val l)))] λh=>by
 refine aA so (S5 neg l) ⟨0,?_⟩;have hv:=aP h.1
 have hp:D' (((ae (val l).toNat).length:Int)>0)=D' (0<val l):=by
  refine arM.2 ⟨λg=>?_,λg=>?_⟩
  ·apply apb;intro hc;rw[show(val l).toNat=0 by omega,fA]at g;simp at g
  ·have:ae (val l).toNat≠[]:=λe=>by rw[gF]at e;omega
   have:=apA.2 this;omega
 unfold S5;rw[aoP h,m7 neg hv,hp];cases neg<;>rfl
theorem Aw(a b:List Int)(ha:jx a)(hb:jx b)(hab:b.length<=a.length):∀(j i:Nat) (c:Int) (r:List Int),i+j=a.length->0<=c->c<=1->Lim r->r.length=a.length+1->(∀k (hk:k<r.length),i<=k->r[k]=0)->val r+pw i*c=val (a.take i)+val (b.take i)->
  zS.Runs 16 (kN a b r c (i:Int)) [.d asj (ae (val a+val b).toNat)]:=by
 have hsa:=ha.2;intro j;induction j with
 |zero=>
  intro i c r hi c0 c1 hr hl hz hv;obtain rfl:i=a.length:=by omega
  have hir:a.length<r.length:=by omega
  have hr0:=hz _ hir (aoU _)
  have e:val (r.set a.length c)=val a+val b:=by
   rw[eV hir,hr0];rw[ap6,apy hab]at hv;grind
  refine rM _ _ _ _ _ ⟨0,?_⟩;unfold nE;rw[bg (aoU _),ak r,aE,aoO hir];dsimp only;rw[aoP (show aR (r.set a.length c) from⟨hr.set _ ⟨c0,by omega⟩,by simp;omega⟩),e]
 |succ j ih=>
  intro i c r hi c0 c1 hr hl hz hv;have hia:i<a.length:=by omega
  have hir:i<r.length:=by omega
  have xa:=ha.1.get hia;have hr0:=hz i hir (aoU _)
  have step:∀(t:Int),0<=t->t<2000000000->val (b.take (i+1))=val (b.take i)+pw i*(t-a[i]-c)->zS.Runs 16 (kN a b (r.set i (t%1000000000)) (t/1000000000) ((i+1:Nat):Int)) [.d asj (ae (val a+val b).toNat)]:=by
   intro t t0 t1 hb';refine ih (i+1) (t/1000000000) (r.set i (t%1000000000)) (by omega) (by omega) (by omega) (hr.set i ⟨by omega,by omega⟩) (by simpa using hl) (pK hz) ?_;rw[eV hir,hr0,bi hia,hb',bW];have:=Int.emod_add_mul_ediv t 1000000000;grind
  by_cases hib:i<b.length
  ·have xb:=hb.1.get hib;have ht:=bi hib;obtain⟨q,hq⟩:=step (c+a[i]+b[i]) (by omega) (by omega) (by rw[ht];grind);refine rM _ _ _ _ _ ⟨q,?_⟩;unfold nE;rw[aO hia,ak,aoO hia,aO hib,ak,aoO hib,ak r i,aE,aoO hir];dsimp only;rw[cX (x:=c+a[i]) (by omega) (by omega),cX (x:=c+a[i]+b[i]) (by omega) (by omega),ju (by omega),gG (by omega),cX (x:=(c+a[i]+b[i])/1000000000) (by omega) (by omega),aS (by omega)];exact hq
  ·have ht:=j9 (b:=b) (i:=i) (by omega);obtain⟨q,hq⟩:=step (c+a[i]) (by omega) (by omega) (by rw[ht];grind);refine rM _ _ _ _ _ ⟨q,?_⟩;unfold nE;rw[aO hia,ak,aoO hia,bg (show b.length<=i by omega),ak r i,aE,aoO hir];dsimp only;rw[cX (x:=c+a[i]) (by omega) (by omega),ju (by omega),gG (by omega),cX (x:=(c+a[i])/1000000000) (by omega) (by omega),aS (by omega)];exact hq
def agv:Cn 120 [asj,asj]:=cn λ(a b:List Int)=>lf (jx a/\jx b) [.d asj (ae (val a+val b).toNat)] λh=>by
 refine aX so (show zS.Res _ _ _ from ?_);obtain⟨ha,hb⟩:=h;have hsa:=ha.2;have hsb:=hb.2;by_cases hc:a.length<b.length
 ·obtain⟨q,hq⟩:=Aw b a hb ha (by omega) b.length 0 0 (List.replicate (b.length+1) 0) (by omega) (by omega) (by omega) (Lim.rep _) (by simp) (λk hk _=>by simp) (by simp[val,gf]);refine OF _ _ ⟨q,?_⟩;unfold H3;rw[aO hc,aS (by omega),uj (by omega),aE,arU (val a)];exact hq
 ·obtain⟨q,hq⟩:=Aw a b ha hb (by omega) a.length 0 0 (List.replicate (a.length+1) 0) (by omega) (by omega) (by omega) (Lim.rep _) (by simp) (λk hk _=>by simp) (by simp[val,gf]);refine OF _ _ ⟨q,?_⟩;unfold H3;rw[bg (by omega),aS (k:=a.length) (by omega),uj (n:=a.length+1) (by omega),aE];exact hq
theorem M6(a b:List Int)(ha:aR a)(hb:aR b)(hle:val b<=val a):∀(j i:Nat) (c:Int) (r:List Int),i+j=a.length->0<=c->c<=1->Lim r->r.length=a.length->(∀k (hk:k<r.length),i<=k->r[k]=0)->val r+val (b.take i)=val (a.take i)+pw i*c->
  zt.Runs 10 (jv a b (i:Int) r c) [.d asj (ae (val a-val b).toNat)]:=by
 have hsa:=ha.2;intro j;induction j with
 |zero=>
  intro i c r hi c0 c1 hr hl hz hv;obtain rfl:i=a.length:=by omega
  refine kU _ _ _ _ _ ⟨0,?_⟩;unfold iI;rw[bg (aoU _)];have hrl:=bU hr;rw[hl]at hrl;have hb2:val b=val (b.take a.length)+pw (min a.length b.length)*val (b.drop a.length):=fO b a.length;have hbd:0<=val (b.drop a.length):=aP (hb.1.drop _);have hal:=bU ha.1;have hbt:=aP (hb.1.take a.length);rw[ap6]at hv
  have hz0:val (b.drop a.length)=0:=by
   rcases apu a.length b.length with h1|h1
   ·rw[aps (by omega)]at hb2;rcases apl 0 (val (b.drop a.length))with h2|h2
    ·have hp:=cf a.length;have:=aoW (show 1<=val (b.drop a.length) by omega) (apv hp);omega
    ·omega
   ·rw[apx h1];rfl
  rw[hz0,ary,asa]at hb2
  have hc0:c=0:=by
   have hp:=cf a.length;rcases(show c=0\/c=1 by omega)with h|h
   ·exact h
   ·subst h;rw[arx]at hv;omega
  subst hc0;rw[ary]at hv;rw[aoP (show aR r from⟨hr,by omega⟩),show val r=val a-val b by omega]
 |succ j ih=>
  intro i c r hi c0 c1 hr hl hz hv;have hia:i<a.length:=by omega
  have hir:i<r.length:=by omega
  have xa:=ha.1.get hia;have hr0:=hz i hir (aoU _)
  have step:∀(y c':Int),0<=y->y<1000000000->0<=c'->c'<=1->val (b.take (i+1))=val (b.take i)+pw i*(a[i]+1000000000*c'-y-c)->zt.Runs 10 (jv a b ((i+1:Nat):Int) (r.set i y) c') [.d asj (ae (val a-val b).toNat)]:=by
   intro y c' y0 y1 k0 k1 hb';refine ih (i+1) c' (r.set i y) (by omega) k0 k1 (hr.set i ⟨y0,y1⟩) (by simpa using hl) (pK hz) ?_;rw[eV hir,hr0,bi hia,hb',bW];grind
  by_cases hib:i<b.length
  ·have xb:=hb.1.get hib;have ht:=bi hib;by_cases hc:a[i]+1000000000-c-b[i]>=1000000000
   ·obtain⟨q,hq⟩:=step (a[i]+1000000000-c-b[i]-1000000000) 0 (by omega) (by omega) (by omega) (by omega) (by rw[ht];grind);refine kU _ _ _ _ _ ⟨q,?_⟩;unfold iI;rw[aO hia,ak,aoO hia,aO hib,ak,aoO hib,ak,aE,aoO hir];dsimp only;rw[cX (x:=a[i]+1000000000) (by omega) (by omega),cX (x:=a[i]+1000000000-c) (by omega) (by omega),cX (x:=a[i]+1000000000-c-b[i]) (by omega) (by omega),aoP hc,cX (x:=a[i]+1000000000-c-b[i]-1000000000) (by omega) (by omega),aS (by omega)];exact hq
   ·obtain⟨q,hq⟩:=step (a[i]+1000000000-c-b[i]) 1 (by omega) (by omega) (by omega) (by omega) (by rw[ht];grind);refine kU _ _ _ _ _ ⟨q,?_⟩;unfold iI;rw[aO hia,ak,aoO hia,aO hib,ak,aoO hib,ak,aE,aoO hir];dsimp only;rw[cX (x:=a[i]+1000000000) (by omega) (by omega),cX (x:=a[i]+1000000000-c) (by omega) (by omega),cX (x:=a[i]+1000000000-c-b[i]) (by omega) (by omega),aoR hc,aS (by omega)];exact hq
  ·have ht:=j9 (b:=b) (i:=i) (by omega);by_cases hc:a[i]+1000000000-c>=1000000000
   ·obtain⟨q,hq⟩:=step (a[i]+1000000000-c-1000000000) 0 (by omega) (by omega) (by omega) (by omega) (by rw[ht];grind);refine kU _ _ _ _ _ ⟨q,?_⟩;unfold iI;rw[aO hia,ak,aoO hia,bg (show b.length<=i by omega),ak r i,aE,aoO hir];dsimp only;rw[cX (x:=a[i]+1000000000) (by omega) (by omega),cX (x:=a[i]+1000000000-c) (by omega) (by omega),aoP hc,cX (x:=a[i]+1000000000-c-1000000000) (by omega) (by omega),aS (by omega)];exact hq
   ·obtain⟨q,hq⟩:=step (a[i]+1000000000-c) 1 (by omega) (by omega) (by omega) (by omega) (by rw[ht];grind);refine kU _ _ _ _ _ ⟨q,?_⟩;unfold iI;rw[aO hia,ak,aoO hia,bg (show b.length<=i by omega),ak r i,aE,aoO hir];dsimp only;rw[cX (x:=a[i]+1000000000) (by omega) (by omega),cX (x:=a[i]+1000000000-c) (by omega) (by omega),aoR hc,aS (by omega)];exact hq
def Hg:Cn 121 [asj,asj]:=cn λ(a b:List Int)=>lf (oQ a b) [.d asj (ae (val a-val b).toNat)] λh=>by
 refine aX so (show zt.Res _ _ _ from ?_);obtain⟨ha,hb,hle⟩:=h;have hsa:=ha.2;obtain⟨q,hq⟩:=M6 a b ha hb hle a.length 0 0 (List.replicate a.length 0) (by omega) (by omega) (by omega) (Lim.rep _) (by simp) (λk hk _=>by simp) (by simp[val,gf]);refine agd _ _ ⟨q,?_⟩;unfold Q2;rw[uj (by omega),aE];exact hq
theorem It(a b:List Int)(ha:jx a)(hb:jx b)(i:Nat)(hi:i<a.length)
  (hout:∀r,Lim r->r.length=a.length+b.length->(∀k (hk:k<r.length),i+1+b.length<=k->r[k]=0)->val r=val (a.take (i+1))*val b->rB.Runs 8 (ub a b ((i+1:Nat):Int) r) [.d asj (ae (val a*val b).toNat)]):
  ∀(j k:Nat) (c:Int) (r:List Int),k+j=b.length->0<=c->c<1000000000->Lim r->r.length=a.length+b.length->(∀q (hq:q<r.length),i+b.length<=q->r[q]=0)->val r+pw (i+k)*c=val (a.take i)*val b+pw i*a[i]*val (b.take k)->
  rB.Runs 23 (sX a b (i:Int) c (k:Int) r) [.d asj (ae (val a*val b).toNat)]:=by
 have hsa:=ha.2;have hsb:=hb.2;have xa:=ha.1.get hi;intro j;induction j with
 |zero=>
  intro k c r hk c0 c1 hr hl hz hv;obtain rfl:k=b.length:=by omega
  have hir:i+b.length<r.length:=by omega
  have hr0:=hz _ hir (aoU _)
  obtain⟨q,hq⟩:=hout (r.set (i+b.length) c) (hr.set _ ⟨c0,c1⟩) (by simpa using hl) (by rw[show i+1+b.length=i+b.length+1 by omega];exact pK hz) (by
   rw[eV hir,hr0,bi hi];rw[ap6]at hv;grind)
  refine xA _ _ _ _ _ _ ⟨q,?_⟩;have hw:i64.wrap ((i:Int)+(b.length:Int))=((i+b.length:Nat):Int):=by rw[aM (by omega) (by omega)];simp
  unfold ro;rw[bg (aoU _),hw,ak r (i+b.length),aE,aoO hir,cX (x:=c) (by omega) (by omega),aS (k:=i) (by omega)];exact hq
 |succ j ih=>
  intro k c r hk c0 c1 hr hl hz hv;have hkb:k<b.length:=by omega
  have hir:i+k<r.length:=by omega
  have xb:=hb.1.get hkb;have xr:=hr.get hir;have hbd:=Ix xr xa xb ⟨c0,c1⟩
  obtain⟨q,hq⟩:=ih (k+1) ((r[i+k]+a[i]*b[k]+c)/1000000000) (r.set (i+k) ((r[i+k]+a[i]*b[k]+c)%1000000000)) (by omega) hbd.2.2.1 hbd.2.2.2 (hr.set _ (by omega)) (by simpa using hl)
   (λm hm hq=>by rw[aqg (by omega)];exact hz m (by simpa using hm) hq) (by
    rw[eV hir,bi hkb,show i+(k+1)=i+k+1 by omega,bW,fk];rw[fk]at hv;have e:=Int.emod_add_mul_ediv (r[i+k]+a[i]*b[k]+c) 1000000000;grind)
  refine xA _ _ _ _ _ _ ⟨q,?_⟩;have hw:i64.wrap ((i:Int)+(k:Int))=((i+k:Nat):Int):=by rw[aM (by omega) (by omega)];simp
  unfold ro;rw[aO hkb,hw,ak b k,aoO hkb,ak a i,aoO hi,ak r (i+k),aE,aoO hir];dsimp only;rw[bH (x:=r[i+k]) (by omega) (by omega),bH (x:=a[i]) (by omega) (by omega),bH (x:=b[k]) (by omega) (by omega),bH (x:=a[i]*b[k]) (by omega) (by omega),bH (x:=c+r[i+k]) (by omega) (by omega),bH (x:=c+r[i+k]+a[i]*b[k]) (by omega) (by omega),show c+r[i+k]+a[i]*b[k]=r[i+k]+a[i]*b[k]+c by omega,gG (a:=r[i+k]+a[i]*b[k]+c) (by omega),ju (a:=r[i+k]+a[i]*b[k]+c) (by omega),bH (x:=(r[i+k]+a[i]*b[k]+c)/1000000000) (by omega) (by omega),cX (x:=(r[i+k]+a[i]*b[k]+c)%1000000000) (by omega) (by omega),aS (k:=k) (by omega)];exact hq
theorem HH(a b:List Int)(ha:jx a)(hb:jx b):∀(j i:Nat) (r:List Int),i+j=a.length->Lim r->r.length=a.length+b.length->(∀k (hk:k<r.length),i+b.length<=k->r[k]=0)->val r=val (a.take i)*val b->
  rB.Runs 8 (ub a b (i:Int) r) [.d asj (ae (val a*val b).toNat)]:=by
 have hsa:=ha.2;have hsb:=hb.2;intro j;induction j with
 |zero=>
  intro i r hi hr hl hz hv;obtain rfl:i=a.length:=by omega
  refine Bf _ _ _ _ ⟨0,?_⟩;unfold u5;rw[ap6]at hv;rw[bg (aoU _),aoP (show aR r from⟨hr,by omega⟩),hv]
 |succ j ih=>
  intro i r hi hr hl hz hv;have hia:i<a.length:=by omega
  obtain⟨q,hq⟩:=It a b ha hb i hia (λr' h1 h2 h3 h4=>ih (i+1) r' (by omega) h1 h2 h3 h4) b.length 0 0 r (by omega) (by omega) (by omega) hr hl hz (by simp[val,hv]);refine Bf _ _ _ _ ⟨q,?_⟩;grind [u5]
def age:Cn 115 [asj,asj]:=cn λ(a b:List Int)=>lf (jx a/\jx b) [.d asj (ae (val a*val b).toNat)] λh=>by
 refine aX so (show rB.Res _ _ _ from ?_);obtain⟨ha,hb⟩:=h;have hsa:=ha.2;have hsb:=hb.2;obtain⟨q,hq⟩:=HH a b ha hb a.length 0 (List.replicate (a.length+b.length) 0) (by omega) (Lim.rep _) (by simp) (λk hk _=>by simp) (by simp[val,gf]);refine aft _ _ ⟨q,?_⟩;have hw:i64.wrap ((a.length:Int)+(b.length:Int))=((a.length+b.length:Nat):Int):=by rw[aM (by omega) (by omega)];simp
 unfold OC;rw[hw,uj (by omega),aE];exact hq
theorem uh{x:BI}(h:okI x):jx x.2:=⟨h.1.1,by have:=h.2.2;omega⟩
theorem VJ(a b:Int):D' (b9 a b>=0)=D' (b<=a):=by grind [da,dU,cH]
theorem yK(a b:Int):D' (b9 a b>0)=D' (b<a):=by grind [da,dU,cH]
def o9:List En:=[enK zF,enK Ee,enF Ci,enF zY,enK HO,enK agv,enK Hg,enK age]
def SA(n:Int)(_k:KT):OLR:=match D' (n<0)with|T'=>(match D' (iw (u64.wrap (0-(u64.wrap n))))with|T'=>(match D' (aR (ae (u64.wrap (0-(u64.wrap n))).toNat))with|T'=>S' [RV.d y3Y (ah (bZ T' (val (ae (u64.wrap (0-(u64.wrap n))).toNat))))]|F'=>N')|F'=>N')|F'=>(match D' (iw (u64.wrap n))with|T'=>(match D' (aR (ae (u64.wrap n).toNat))with|T'=>S' [RV.d y3Y (ah (bZ F' (val (ae (u64.wrap n).toNat))))]|F'=>N')|F'=>N')
def NM(x:Bool×List Int)(_k:KT):OLR:=match(x.2.length:Int)==0 with|T'=>S' [RV.d ask 0]|F'=>(match x.1 with|T'=>S' [RV.d ask (-1)]|F'=>S' [RV.d ask 1])
def SX(x y:Bool×List Int)(_k:KT):OLR:=match !(x.1==y.1)with|T'=>(match x.1 with|T'=>S' [RV.d ask (-1)]|F'=>S' [RV.d ask 1])|F'=>(match x.1 with|T'=>(og (D' (rm y.2 x.2)) (S' [RV.d ask (b9 (val y.2) (val x.2))]))|F'=>(og (D' (rm x.2 y.2)) (S' [RV.d ask (b9 (val x.2) (val y.2))])))
def Uz(x y:Bool×List Int)(_k:KT):OLR:=match x.1==y.1 with|T'=>(og (D' (jx x.2/\jx y.2)) (og (D' (aR (ae (val x.2+val y.2).toNat))) (S' [RV.d y3Y (ah (bZ x.1 (val (ae (val x.2+val y.2).toNat))))])))|F'=>(og (D' (rm x.2 y.2)) (match D' ((b9 (val x.2) (val y.2))>=0)with|T'=>(og (D' (oQ x.2 y.2)) (og (D' (aR (ae (val x.2-val y.2).toNat))) (S' [RV.d y3Y (ah (bZ x.1 (val (ae (val x.2-val y.2).toNat))))])))|F'=>(og (D' (oQ y.2 x.2)) (og (D' (aR (ae (val y.2-val x.2).toNat))) (S' [RV.d y3Y (ah (bZ y.1 (val (ae (val y.2-val x.2).toNat))))])))))
def Ow(x:Bool×List Int)(_k:KT):OLR:=og (D' (aR x.2)) (S' [RV.d y3Y (ah (bZ (!x.1) (val x.2)))])
def QB(x y:Bool×List Int)(_k:KT):OLR:=og (D' (jx x.2/\jx y.2)) (og (D' (aR (ae (val x.2*val y.2).toNat))) (S' [RV.d y3Y (ah (bZ (!(x.1==y.1)) (val (ae (val x.2*val y.2).toNat))))]))
def aax(a:List Int)(n:Int)(_k:KT):OLR:=og (D' (aR ([n]))) (og (D' (jx a/\jx (ae (val ([n])).toNat))) (S' [RV.d asj (ae (val a*val (ae (val ([n])).toNat)).toNat)]))
def B5:Cn 70 [ask]:=cn λ(n:Int)=>lf (bI n) [.d y3Y (ah n)] λh=>by
 refine aA o9 (SA n) ⟨0,?_⟩;have h1:=h.1;have h2:=h.2;unfold SA;by_cases hn:n<0
 ·have e:u64.wrap (0-u64.wrap n)= -n:=by rw[apG,apG];omega
  have hl:(ae (-n).toNat).length<=3:=cp (by omega) (arr (show-n<18446744073709551616 by omega) (by decide));rw[aoP hn];dsimp only;rw[e,aoP (show iw (-n) from⟨by omega,by omega⟩),aoP (cr (n:=(-n).toNat) (by omega)),bS (v:= -n) (by omega)];dsimp only;rw[show bZ T' (-n)=n by unfold bZ;simp]
 ·have e:u64.wrap n=n:=bH (by omega) (by omega);have hl:(ae n.toNat).length<=3:=cp (by omega) (arr (show n<18446744073709551616 by omega) (by decide));rw[aoR hn];dsimp only;rw[e,aoP (show iw n from⟨by omega,by omega⟩),aoP (cr (n:=n.toNat) (by omega)),bS (v:=n) (by omega)];rfl
def OB:Cn 52 [y3Y]:=cn λ(x:Bool×List Int)=>lf (okI x) [.d ask (b9 (ab x) 0)] λh=>by
 refine aA o9 (NM x) ⟨0,?_⟩;obtain⟨h0,h1,h2⟩:=co h;unfold NM;rw[bQ];unfold bZ;by_cases he:x.2=[]
 ·have e0:=h2.1 he
  have ex:x.1=false:=by
   cases hx:x.1
   ·rfl
   ·have:=h1 hx;omega
  rw[ex,e0,he];rfl
 ·have hp:0<val x.2:=eu h.1 he;have:=apA.2 he;rw[show((x.2.length:Int)==0)=F' by simp;omega];cases x.1
  ·simp only[cond_false];rw[cH hp]
  ·simp only[cond_true];rw[da (by omega)]
def NO:Cn 50 [y3Y,y3Y]:=cn λ(x y:Bool×List Int)=>lf (okI x/\okI y) [.d ask (b9 (ab x) (ab y))] λh=>by
 refine aA o9 (SX x y) ⟨0,?_⟩;obtain⟨hx,hy⟩:=h;obtain⟨x0,x1,x2⟩:=co hx;obtain⟨y0,y1,y2⟩:=co hy;have sx:=hx.2.2;have sy:=hy.2.2;unfold SX;rw[bQ,bQ,aoP (show rm y.2 x.2 from⟨⟨hy.1,by omega⟩,hx.1,by omega⟩),aoP (show rm x.2 y.2 from⟨⟨hx.1,by omega⟩,hy.1,by omega⟩)];unfold bZ;cases ex:x.1<;>cases ey:y.1
 ·rfl
 ·have:=y1 ey;simp only[cond_true,cond_false];rw[show b9 (val x.2) (-val y.2)=1 from cH (by omega)];rfl
 ·have:=x1 ex;simp only[cond_true,cond_false];rw[show b9 (-val x.2) (val y.2)= -1 from da (by omega)];rfl
 ·simp only[cond_true];rw[KZ x0 y0];rfl
def DK:Cn 56 [y3Y,y3Y]:=cn λ(x y:Bool×List Int)=>lf (okI x/\okI y) [.d y3Y (ah (ab x+ab y))] λh=>by
 refine aA o9 (Uz x y) ⟨0,?_⟩;obtain⟨hx,hy⟩:=h;obtain⟨x0,x1,x2⟩:=co hx;obtain⟨y0,y1,y2⟩:=co hy;have lx:=fv hx;have ly:=fv hy;have tx:=uh hx;have ty:=uh hy;have sx:=hx.2.2;have sy:=hy.2.2;have bx:=bU hx.1.1;have by':=bU hy.1.1;have px:=dm (show x.2.length<=1000000 by omega);have py:=dm (show y.2.length<=1000000 by omega);have l1:(ae (val x.2+val y.2).toNat).length<=1000001:=cp (by omega) (by rw[bW];omega);have l2:(ae (val x.2-val y.2).toNat).length<=1000000:=dq (by have:=cf 1000000;omega);have l3:(ae (val y.2-val x.2).toNat).length<=1000000:=dq (by have:=cf 1000000;omega);unfold Uz
 rw[bQ,bQ,aoP (show jx x.2/\jx y.2 from⟨tx,ty⟩),aoP (cr (n:=(val x.2+val y.2).toNat) (by omega)),aoP (cr (n:=(val x.2-val y.2).toNat) (by omega)),aoP (cr (n:=(val y.2-val x.2).toNat) (by omega)),bS (v:=val x.2+val y.2) (by omega),
  aoP (show rm x.2 y.2 from⟨⟨hx.1,by omega⟩,hy.1,by omega⟩),VJ]
 cases hs:x.1==y.1
 ·dsimp only;rcases apl (val x.2) (val y.2)with hc|hc
  ·rw[aoR (show ¬val y.2<=val x.2 by omega),aoP (show oQ y.2 x.2 from⟨ly,lx,by omega⟩),bS (v:=val y.2-val x.2) (by omega)];dsimp only;unfold bZ;cases ex:x.1<;>cases ey:y.1<;>simp_all<;>congr 2<;>omega
  ·rw[aoP hc,aoP (show oQ x.2 y.2 from⟨lx,ly,hc⟩),bS (v:=val x.2-val y.2) (by omega)];dsimp only;unfold bZ;cases ex:x.1<;>cases ey:y.1<;>simp_all<;>congr 2<;>omega
 ·dsimp only;have e:=apw.1 hs;rw[<-e];unfold bZ;cases x.1
  ·rfl
  ·simp only[cond_true];rw[show-(val x.2+val y.2)= -val x.2+ -val y.2 by omega]
def Sa:Cn 117 [y3Y]:=cn λ(x:Bool×List Int)=>lf (okI x) [.d y3Y (ah (-ab x))] λh=>by
 refine aA o9 (Ow x) ⟨0,?_⟩;unfold Ow;rw[bQ,aoP (fv h)];unfold bZ;cases x.1<;>simp
def Pz:Cn 51 [y3Y,y3Y]:=cn λ(x y:Bool×List Int)=>lf (okI x/\okI y) [.d y3Y (ah (ab x*ab y))] λh=>by
 refine aA o9 (QB x y) ⟨0,?_⟩;obtain⟨hx,hy⟩:=h;obtain⟨x0,x1,x2⟩:=co hx;obtain⟨y0,y1,y2⟩:=co hy;have bx:=bU hx.1.1;have by':=bU hy.1.1;have sx:=hx.2.2;have sy:=hy.2.2;have hm:0<=val x.2*val y.2:=apN x0 y0
 have l1:(ae (val x.2*val y.2).toNat).length<=x.2.length+y.2.length:=cp hm (by
  rw[fk];have p1:=cf x.2.length;have p2:=cf y.2.length;have:=aq8 (show val x.2<=pw x.2.length-1 by omega) (show val y.2<=pw y.2.length-1 by omega) y0 (by omega);grind)
 unfold QB;rw[bQ,bQ,aoP (show jx x.2/\jx y.2 from⟨uh hx,uh hy⟩),aoP (cr (n:=(val x.2*val y.2).toNat) (by omega)),bS hm];unfold bZ;cases x.1<;>cases y.1<;>simp[Int.neg_mul,ar4]
def byP(a:List Int)(n:Int):Prop:=jx a/\0<=n/\n<1000000000
instance (a:List Int) (n:Int):Decidable (byP a n):=by unfold byP;infer_instance
def Y5:Cn 274 [asj,asl]:=cn λ(a:List Int) (n:Int)=>lf (byP a n) [.d asj (ae (val a*n).toNat)] λh=>by
 refine aA o9 (aax a n) ⟨0,?_⟩;obtain⟨ha,h1,h2⟩:=h;have hl:(ae n.toNat).length<=1:=cp (by omega) (by show n<pw 1;simp[pw];exact h2);have e:val [n]=n:=by simp[val]
 unfold aax;rw[e,aoP (show aR [n] from⟨Lim.cons ⟨by omega,h2⟩ Lim.nil,by simp⟩),aoP (show jx a/\jx (ae n.toNat) from⟨ha,bV _,by omega⟩),bS (by omega)]
def acX:List En:=enK DK::enK Sa::o9
def Tw(x y:Bool×List Int)(_k:KT):OLR:=og (D' (okI y)) (og (D' (okI x/\okI (ah (-ab y)))) (S' [RV.d y3Y (ah (ab x+ab (ah (-ab y))))]))
def agR:Cn 200 [y3Y,y3Y]:=cn λ(x y:Bool×List Int)=>lf (okI x/\okI y) [.d y3Y (ah (ab x-ab y))] λh=>by
 refine aA acX (Tw x y) ⟨0,?_⟩;obtain⟨hx,hy⟩:=h;unfold Tw;rw[aoP hy,aoP (show okI x/\okI (ah (-ab y)) from⟨hx,aT (by rw[iW];exact iG hy)⟩),dec_enc,Int.sub_eq_add_neg]
section
def GQ(a b:List Int):Prop:=(can a/\a.length<=1000000)/\(can b/\b.length<=1000000)/\b≠[]
instance (a b:List Int):Decidable (GQ a b):=by unfold GQ;infer_instance
def OR:List En:=[enK zF,enK Ee,enF Ci,enF zY,enK Y5,enK Hg]
def Wa:NT:=[((198,30),{keep:=[8,9,10,11,12,13,14],pure_:=[(11,.int .u32)],hl:=1}),((198,67),{keep:=[8,9,10,11,12,13,14,16,17],pure_:=[(17,.int .u32)],hl:=1}),((198,90),{keep:=[8,11,12,18,19,20],hl:=2})]
def jP:Ctx:=CX (ens OR) Wa
def kZ(a b:List Int)(x1 x2:Int)(s11:List Int)(s14:Int)(r0:List Int):Cfg:=⟨198,[.blk 0,.seq 82],[(8,.d asl (u32.wrap (u64.wrap (Int.tdiv 1000000000 (u64.wrap ((u64.wrap x1)+1)))))),(9,.d asj (ae (val b*(u32.wrap (u64.wrap (Int.tdiv 1000000000 (u64.wrap ((u64.wrap x1)+1)))))).toNat)),(10,.d (.int .u64) (u64.wrap x2)),(11,.d asj s11),(12,.osl 0 1 ((0:Int).toNat) ((((ae (val a*(u32.wrap (u64.wrap (Int.tdiv 1000000000 (u64.wrap ((u64.wrap x1)+1)))))).toNat).length:Int):Int).toNat-(0:Int).toNat)),(13,.d asj (ae (val a*(u32.wrap (u64.wrap (Int.tdiv 1000000000 (u64.wrap ((u64.wrap x1)+1)))))).toNat)),(14,SI s14)],[.row 194 asl r0],0,[]⟩
def eM(a b:List Int)(x1 x2:Int)(s11:List Int)(s14:Int)(r0:List Int)(x3 s16:Int)(s17:List Int):Cfg:=⟨198,[.blk 2,.seq 78,.blk 1,.seq 81,.lp 30,.blk 0,.seq 82],[(8,.d asl (u32.wrap (u64.wrap (Int.tdiv 1000000000 (u64.wrap ((u64.wrap x1)+1)))))),(9,.d asj (ae (val b*(u32.wrap (u64.wrap (Int.tdiv 1000000000 (u64.wrap ((u64.wrap x1)+1)))))).toNat)),(10,.d (.int .u64) (u64.wrap x2)),(11,.d asj (ae (val (([x3])++s11)).toNat)),(12,.osl 0 1 ((0:Int).toNat) ((((ae (val a*(u32.wrap (u64.wrap (Int.tdiv 1000000000 (u64.wrap ((u64.wrap x1)+1)))))).toNat).length:Int):Int).toNat-(0:Int).toNat)),(13,.d asj (ae (val a*(u32.wrap (u64.wrap (Int.tdiv 1000000000 (u64.wrap ((u64.wrap x1)+1)))))).toNat)),(14,SI s14),(16,.d (.int .u64) s16),(17,.d asj s17)],[.row 194 asl r0],0,[]⟩
def tt(a:List Int)(x1:Int)(s11 r0:List Int)(s18 s20:Int)(r1:List Int):Cfg:=⟨198,[.blk 4,.seq 105],[(8,.d asl (u32.wrap (u64.wrap (Int.tdiv 1000000000 (u64.wrap ((u64.wrap x1)+1)))))),(11,.d asj s11),(12,.osl 0 1 ((0:Int).toNat) ((((ae (val a*(u32.wrap (u64.wrap (Int.tdiv 1000000000 (u64.wrap ((u64.wrap x1)+1)))))).toNat).length:Int):Int).toNat-(0:Int).toNat)),(18,.d (.int .u64) s18),(19,.own 1),(20,SI s20)],[.row 194 asl r0,.row 194 asl r1],0,[]⟩
def Hj(a b:List Int)(k:KT):OLR:=match D' ((a.length:Int)<=2)with|T'=>(match D' ((b.length:Int)<=2)with|T'=>(og (D' (tn a)) (og (D' (tn b)) (match D' (val b=(0:Int))with|T'=>N'|F'=>(match D' (val b=(0:Int))with|T'=>N'|F'=>(og (D' (iw (u64.wrap (Int.tdiv (val a) (val b))))) (og (D' (iw (Int.tmod (val a) (val b)))) (S' [RV.d asj (ae (u64.wrap (Int.tdiv (val a) (val b))).toNat),RV.d asj (ae (Int.tmod (val a) (val b)).toNat)])))))))|F'=>(match aH b (i64.wrap ((b.length:Int)-1))with|S' x1=>(match D' (u64.wrap ((u64.wrap x1)+1)=(0:Int))with|T'=>N'|F'=>(og (D' (byP b (u32.wrap (u64.wrap (Int.tdiv 1000000000 (u64.wrap ((u64.wrap x1)+1))))))) (match aH (ae (val b*(u32.wrap (u64.wrap (Int.tdiv 1000000000 (u64.wrap ((u64.wrap x1)+1)))))).toNat) (i64.wrap (((ae (val b*(u32.wrap (u64.wrap (Int.tdiv 1000000000 (u64.wrap ((u64.wrap x1)+1)))))).toNat).length:Int)-1))with|S' x2=>(og (D' ((0:Int)<=i64.wrap ((a.length:Int)+1)/\(i64.wrap ((a.length:Int)+1))*((4:Nat):Int)<=140737488355328/\i64.wrap ((a.length:Int)+1)<=140737488355328)) (og (D' (byP a (u32.wrap (u64.wrap (Int.tdiv 1000000000 (u64.wrap ((u64.wrap x1)+1))))))) (og (D' ((0:Int)<=0/\0<=((ae (val a*(u32.wrap (u64.wrap (Int.tdiv 1000000000 (u64.wrap ((u64.wrap x1)+1)))))).toNat).length:Int)/\((ae (val a*(u32.wrap (u64.wrap (Int.tdiv 1000000000 (u64.wrap ((u64.wrap x1)+1)))))).toNat).length:Int)<=((List.replicate (i64.wrap ((a.length:Int)+1)).toNat (0:Int)).length:Int))) (k 30 (kZ a b x1 x2 ([]) (i64.wrap (((ae (val a*(u32.wrap (u64.wrap (Int.tdiv 1000000000 (u64.wrap ((u64.wrap x1)+1)))))).toNat).length:Int)-1)) (List.replicate (i64.wrap ((a.length:Int)+1)).toNat (0:Int)))))))|N'=>N')))|N'=>N'))|F'=>(match aH b (i64.wrap ((b.length:Int)-1))with|S' x1=>(match D' (u64.wrap ((u64.wrap x1)+1)=(0:Int))with|T'=>N'|F'=>(og (D' (byP b (u32.wrap (u64.wrap (Int.tdiv 1000000000 (u64.wrap ((u64.wrap x1)+1))))))) (match aH (ae (val b*(u32.wrap (u64.wrap (Int.tdiv 1000000000 (u64.wrap ((u64.wrap x1)+1)))))).toNat) (i64.wrap (((ae (val b*(u32.wrap (u64.wrap (Int.tdiv 1000000000 (u64.wrap ((u64.wrap x1)+1)))))).toNat).length:Int)-1))with|S' x2=>(og (D' ((0:Int)<=i64.wrap ((a.length:Int)+1)/\(i64.wrap ((a.length:Int)+1))*((4:Nat):Int)<=140737488355328/\i64.wrap ((a.length:Int)+1)<=140737488355328)) (og (D' (byP a (u32.wrap (u64.wrap (Int.tdiv 1000000000 (u64.wrap ((u64.wrap x1)+1))))))) (og (D' ((0:Int)<=0/\0<=((ae (val a*(u32.wrap (u64.wrap (Int.tdiv 1000000000 (u64.wrap ((u64.wrap x1)+1)))))).toNat).length:Int)/\((ae (val a*(u32.wrap (u64.wrap (Int.tdiv 1000000000 (u64.wrap ((u64.wrap x1)+1)))))).toNat).length:Int)<=((List.replicate (i64.wrap ((a.length:Int)+1)).toNat (0:Int)).length:Int))) (k 30 (kZ a b x1 x2 ([]) (i64.wrap (((ae (val a*(u32.wrap (u64.wrap (Int.tdiv 1000000000 (u64.wrap ((u64.wrap x1)+1)))))).toNat).length:Int)-1)) (List.replicate (i64.wrap ((a.length:Int)+1)).toNat (0:Int)))))))|N'=>N')))|N'=>N')
theorem Nx(a b:List Int):RS jP 198 [.d asj a,.d asj b] (Hj a b):=rsX
def kO(a b:List Int)(x1 x2:Int)(s11:List Int)(s14:Int)(r0:List Int)(k:KT):OLR:=match D' (s14>=0)with|T'=>(match aH (ae (val a*(u32.wrap (u64.wrap (Int.tdiv 1000000000 (u64.wrap ((u64.wrap x1)+1)))))).toNat) s14 with|S' x3=>(og (D' ((([x3]).length+s11.length)*4<=140737488355328/\([x3]).length+s11.length<=140737488355328)) (og (D' (aR (([x3])++s11))) (match D' (((ae (val (([x3])++s11)).toNat).length:Int)>((ae (val b*(u32.wrap (u64.wrap (Int.tdiv 1000000000 (u64.wrap ((u64.wrap x1)+1)))))).toNat).length:Int))with|T'=>(match aH (ae (val (([x3])++s11)).toNat) ((ae (val b*(u32.wrap (u64.wrap (Int.tdiv 1000000000 (u64.wrap ((u64.wrap x1)+1)))))).toNat).length:Int)with|S' x4=>(match D' (((ae (val (([x3])++s11)).toNat).length:Int)>=((ae (val b*(u32.wrap (u64.wrap (Int.tdiv 1000000000 (u64.wrap ((u64.wrap x1)+1)))))).toNat).length:Int))with|T'=>(match aH (ae (val (([x3])++s11)).toNat) (i64.wrap (((ae (val b*(u32.wrap (u64.wrap (Int.tdiv 1000000000 (u64.wrap ((u64.wrap x1)+1)))))).toNat).length:Int)-1))with|S' x5=>(match D' (u64.wrap x2=(0:Int))with|T'=>N'|F'=>(match D' ((u64.wrap (Int.tdiv (u64.wrap ((u64.wrap ((u64.wrap x4)*1000000000))+(u64.wrap x5))) (u64.wrap x2)))>999999999)with|T'=>(og (D' (byP (ae (val b*(u32.wrap (u64.wrap (Int.tdiv 1000000000 (u64.wrap ((u64.wrap x1)+1)))))).toNat) (u32.wrap 999999999))) (k 67 (eM a b x1 x2 s11 s14 r0 x3 999999999 (ae (val (ae (val b*(u32.wrap (u64.wrap (Int.tdiv 1000000000 (u64.wrap ((u64.wrap x1)+1)))))).toNat)*(u32.wrap 999999999)).toNat))))|F'=>(og (D' (byP (ae (val b*(u32.wrap (u64.wrap (Int.tdiv 1000000000 (u64.wrap ((u64.wrap x1)+1)))))).toNat) (u32.wrap (u64.wrap (Int.tdiv (u64.wrap ((u64.wrap ((u64.wrap x4)*1000000000))+(u64.wrap x5))) (u64.wrap x2)))))) (k 67 (eM a b x1 x2 s11 s14 r0 x3 (u64.wrap (Int.tdiv (u64.wrap ((u64.wrap ((u64.wrap x4)*1000000000))+(u64.wrap x5))) (u64.wrap x2))) (ae (val (ae (val b*(u32.wrap (u64.wrap (Int.tdiv 1000000000 (u64.wrap ((u64.wrap x1)+1)))))).toNat)*(u32.wrap (u64.wrap (Int.tdiv (u64.wrap ((u64.wrap ((u64.wrap x4)*1000000000))+(u64.wrap x5))) (u64.wrap x2))))).toNat))))))|N'=>N')|F'=>(match D' (u64.wrap x2=(0:Int))with|T'=>N'|F'=>(match D' ((u64.wrap (Int.tdiv (u64.wrap ((u64.wrap x4)*1000000000)) (u64.wrap x2)))>999999999)with|T'=>(og (D' (byP (ae (val b*(u32.wrap (u64.wrap (Int.tdiv 1000000000 (u64.wrap ((u64.wrap x1)+1)))))).toNat) (u32.wrap 999999999))) (k 67 (eM a b x1 x2 s11 s14 r0 x3 999999999 (ae (val (ae (val b*(u32.wrap (u64.wrap (Int.tdiv 1000000000 (u64.wrap ((u64.wrap x1)+1)))))).toNat)*(u32.wrap 999999999)).toNat))))|F'=>(og (D' (byP (ae (val b*(u32.wrap (u64.wrap (Int.tdiv 1000000000 (u64.wrap ((u64.wrap x1)+1)))))).toNat) (u32.wrap (u64.wrap (Int.tdiv (u64.wrap ((u64.wrap x4)*1000000000)) (u64.wrap x2)))))) (k 67 (eM a b x1 x2 s11 s14 r0 x3 (u64.wrap (Int.tdiv (u64.wrap ((u64.wrap x4)*1000000000)) (u64.wrap x2))) (ae (val (ae (val b*(u32.wrap (u64.wrap (Int.tdiv 1000000000 (u64.wrap ((u64.wrap x1)+1)))))).toNat)*(u32.wrap (u64.wrap (Int.tdiv (u64.wrap ((u64.wrap x4)*1000000000)) (u64.wrap x2))))).toNat)))))))|N'=>N')|F'=>(match D' (((ae (val (([x3])++s11)).toNat).length:Int)>=((ae (val b*(u32.wrap (u64.wrap (Int.tdiv 1000000000 (u64.wrap ((u64.wrap x1)+1)))))).toNat).length:Int))with|T'=>(match aH (ae (val (([x3])++s11)).toNat) (i64.wrap (((ae (val b*(u32.wrap (u64.wrap (Int.tdiv 1000000000 (u64.wrap ((u64.wrap x1)+1)))))).toNat).length:Int)-1))with|S' x4=>(match D' (u64.wrap x2=(0:Int))with|T'=>N'|F'=>(match D' ((u64.wrap (Int.tdiv (u64.wrap (0+(u64.wrap x4))) (u64.wrap x2)))>999999999)with|T'=>(og (D' (byP (ae (val b*(u32.wrap (u64.wrap (Int.tdiv 1000000000 (u64.wrap ((u64.wrap x1)+1)))))).toNat) (u32.wrap 999999999))) (k 67 (eM a b x1 x2 s11 s14 r0 x3 999999999 (ae (val (ae (val b*(u32.wrap (u64.wrap (Int.tdiv 1000000000 (u64.wrap ((u64.wrap x1)+1)))))).toNat)*(u32.wrap 999999999)).toNat))))|F'=>(og (D' (byP (ae (val b*(u32.wrap (u64.wrap (Int.tdiv 1000000000 (u64.wrap ((u64.wrap x1)+1)))))).toNat) (u32.wrap (u64.wrap (Int.tdiv (u64.wrap (0+(u64.wrap x4))) (u64.wrap x2)))))) (k 67 (eM a b x1 x2 s11 s14 r0 x3 (u64.wrap (Int.tdiv (u64.wrap (0+(u64.wrap x4))) (u64.wrap x2))) (ae (val (ae (val b*(u32.wrap (u64.wrap (Int.tdiv 1000000000 (u64.wrap ((u64.wrap x1)+1)))))).toNat)*(u32.wrap (u64.wrap (Int.tdiv (u64.wrap (0+(u64.wrap x4))) (u64.wrap x2))))).toNat))))))|N'=>N')|F'=>(match D' (u64.wrap x2=(0:Int))with|T'=>N'|F'=>(match D' ((u64.wrap (Int.tdiv 0 (u64.wrap x2)))>999999999)with|T'=>(og (D' (byP (ae (val b*(u32.wrap (u64.wrap (Int.tdiv 1000000000 (u64.wrap ((u64.wrap x1)+1)))))).toNat) (u32.wrap 999999999))) (k 67 (eM a b x1 x2 s11 s14 r0 x3 999999999 (ae (val (ae (val b*(u32.wrap (u64.wrap (Int.tdiv 1000000000 (u64.wrap ((u64.wrap x1)+1)))))).toNat)*(u32.wrap 999999999)).toNat))))|F'=>(og (D' (byP (ae (val b*(u32.wrap (u64.wrap (Int.tdiv 1000000000 (u64.wrap ((u64.wrap x1)+1)))))).toNat) (u32.wrap (u64.wrap (Int.tdiv 0 (u64.wrap x2)))))) (k 67 (eM a b x1 x2 s11 s14 r0 x3 (u64.wrap (Int.tdiv 0 (u64.wrap x2))) (ae (val (ae (val b*(u32.wrap (u64.wrap (Int.tdiv 1000000000 (u64.wrap ((u64.wrap x1)+1)))))).toNat)*(u32.wrap (u64.wrap (Int.tdiv 0 (u64.wrap x2))))).toNat))))))))))|N'=>N')|F'=>(og (D' ((0:Int)<=(s11.length:Int)/\(s11.length:Int)*((4:Nat):Int)<=140737488355328/\(s11.length:Int)<=140737488355328)) (k 90 (tt a x1 s11 r0 0 (i64.wrap ((s11.length:Int)-1)) (List.replicate ((s11.length:Int)).toNat (0:Int)))))
theorem nt(a b:List Int)(x1 x2:Int)(s11:List Int)(s14:Int)(r0:List Int):RN jP 30 (kZ a b x1 x2 s11 s14 r0) (kO a b x1 x2 s11 s14 r0):=rnX
def nB(a b:List Int)(x1 x2:Int)(s11:List Int)(s14:Int)(r0:List Int)(x3 s16:Int)(s17:List Int)(k:KT):OLR:=og (D' (rm s17 (ae (val (([x3])++s11)).toNat))) (match D' ((b9 (val s17) (val (ae (val (([x3])++s11)).toNat)))>0)with|T'=>(og (D' (oQ s17 (ae (val b*(u32.wrap (u64.wrap (Int.tdiv 1000000000 (u64.wrap ((u64.wrap x1)+1)))))).toNat))) (k 67 (eM a b x1 x2 s11 s14 r0 x3 (u64.wrap (s16-1)) (ae (val s17-val (ae (val b*(u32.wrap (u64.wrap (Int.tdiv 1000000000 (u64.wrap ((u64.wrap x1)+1)))))).toNat)).toNat))))|F'=>(og (D' (oQ (ae (val (([x3])++s11)).toNat) s17)) (match T',D' ((0:Int)<=s14/\s14<(((((ae (val a*(u32.wrap (u64.wrap (Int.tdiv 1000000000 (u64.wrap ((u64.wrap x1)+1)))))).toNat).length:Int):Int).toNat-(0:Int).toNat:Nat):Int))with|T',T'=>(match T',r0[(0:Int).toNat+(s14).toNat]? with|T',S' _=>k 30 (kZ a b x1 x2 (ae (val (ae (val (([x3])++s11)).toNat)-val s17).toNat) (i64.wrap (s14-1)) (r0.set ((0:Int).toNat+(s14).toNat) (u32.wrap s16)))|_,_=>N')|_,_=>N')))
theorem sB(a b:List Int)(x1 x2:Int)(s11:List Int)(s14:Int)(r0:List Int)(x3 s16:Int)(s17:List Int):RN jP 67 (eM a b x1 x2 s11 s14 r0 x3 s16 s17) (nB a b x1 x2 s11 s14 r0 x3 s16 s17):=rnX
def rO(a:List Int)(x1:Int)(s11 r0:List Int)(s18 s20:Int)(r1:List Int)(k:KT):OLR:=match D' (s20>=0)with|T'=>(match aH s11 s20 with|S' x2=>(match D' (u64.wrap (u32.wrap (u64.wrap (Int.tdiv 1000000000 (u64.wrap ((u64.wrap x1)+1)))))=(0:Int))with|T'=>N'|F'=>(match aH r1 s20 with|S' _=>(match T',r1[(s20).toNat]? with|T',S' _=>(match D' (u64.wrap (u32.wrap (u64.wrap (Int.tdiv 1000000000 (u64.wrap ((u64.wrap x1)+1)))))=(0:Int))with|T'=>N'|F'=>k 90 (tt a x1 s11 r0 (Int.tmod (u64.wrap ((u64.wrap (s18*1000000000))+(u64.wrap x2))) (u64.wrap (u32.wrap (u64.wrap (Int.tdiv 1000000000 (u64.wrap ((u64.wrap x1)+1))))))) (i64.wrap (s20-1)) (r1.set ((s20).toNat) (u32.wrap (u64.wrap (Int.tdiv (u64.wrap ((u64.wrap (s18*1000000000))+(u64.wrap x2))) (u64.wrap (u32.wrap (u64.wrap (Int.tdiv 1000000000 (u64.wrap ((u64.wrap x1)+1))))))))))))|_,_=>N')|N'=>N'))|N'=>N')|F'=>(og (D' (aR ((r0.drop ((0:Int).toNat)).take ((((ae (val a*(u32.wrap (u64.wrap (Int.tdiv 1000000000 (u64.wrap ((u64.wrap x1)+1)))))).toNat).length:Int):Int).toNat-(0:Int).toNat)))) (og (D' (aR r1)) (S' [RV.d asj (ae (val ((r0.drop ((0:Int).toNat)).take ((((ae (val a*(u32.wrap (u64.wrap (Int.tdiv 1000000000 (u64.wrap ((u64.wrap x1)+1)))))).toNat).length:Int):Int).toNat-(0:Int).toNat))).toNat),RV.d asj (ae (val r1).toNat)])))
theorem yf(a:List Int)(x1:Int)(s11 r0:List Int)(s18 s20:Int)(r1:List Int):RN jP 90 (tt a x1 s11 r0 s18 s20 r1) (rO a x1 s11 r0 s18 s20 r1):=rnX
def qsc(x1:Int):Int:=u32.wrap (u64.wrap (Int.tdiv 1000000000 (u64.wrap ((u64.wrap x1)+1))))
theorem f0(x1:Int):u32.wrap (u64.wrap (Int.tdiv 1000000000 (u64.wrap ((u64.wrap x1)+1))))=qsc x1:=by
 have h:∀y,qsc x1=y->y=qsc x1:=λy e=>e.symm;exact h _ rfl
theorem ahf{x:Int}(h1:1<=x)(h2:x<1000000000):qsc x=1000000000/(x+1)/\1<=qsc x/\qsc x<1000000000:=by
 have h3:1<=1000000000/(x+1):=Int.le_ediv_of_mul_le (by omega) (by omega);have h4:1000000000/(x+1)<1000000000:=aqo (by omega) (by omega);grind [qsc,bH,cX]
theorem IF{v:Int}(h:0<v):∃(n:Nat) (x:Int),(ae v.toNat).length=n+1/\(ae v.toNat)[n]?=S' x/\1<=x/\x<1000000000/\x*pw n<=v:=by
 have hne:ae v.toNat≠[]:=λe=>by rw[gF]at e;omega
 rcases List.eq_nil_or_concat (ae v.toNat)with h0|⟨l,x,hx⟩
 ·grind
 ·have hv:=bG v.toNat
  have hc:=dW v.toNat
  have hl:=bV v.toNat
  rw[List.concat_eq_append]at hx;rw[hx]at hv hc hl;have hxx:=hl x (by simp);have hx0:x≠0:=λe=>hc.2 (by simp[e]);have hln:=aP (l:=l) (λy hy=>hl y (by simp[hy]));rw[dz]at hv;simp only[val]at hv;refine⟨l.length,x,by rw[hx];simp,by rw[hx];simp,by omega,hxx.2,?_⟩;grind
section
variable (a b:List Int) (x1 x2:Int) (V:Int) (hV:val b*qsc x1=V) (hs:1<=qsc x1/\qsc x1<1000000000) (hp:0<V) (hra:(ae (val a*qsc x1).toNat).length<=a.length+1) (ha:Lim a/\a.length<=1000000) (hL:(ae V.toNat).length<=1000001)
theorem Oj(hs:1<=qsc x1/\qsc x1<1000000000)(l r0:List Int)(hl:Lim l/\l.length<=2000000)(hr0:aR r0)(hz0:∀k (hk:k<r0.length),(ae (val a*qsc x1).toNat).length<=k->r0[k]=0):∀(n:Nat) (c:Int) (r:List Int),n<=l.length->0<=c->c<qsc x1->Lim r->r.length=l.length->(∀k (hk:k<r.length),k<n->r[k]=0)->qsc x1*val r+pw n*c+val (l.take n)=val l->
  jP.Runs 90 (tt a x1 l r0 c ((n:Int)-1) r) [.d asj (ae (val r0).toNat),.d asj (ae (val l/qsc x1).toNat)]:=by
 have hsa:=hl.2;have e64:u64.wrap (qsc x1)=qsc x1:=bH (by omega) (by omega);intro n;induction n with
 |zero=>
  intro c r hn c0 c1 hr hlen hz hv;simp only[nL,List.take_zero,val,ar3,asa]at hv
  have e2:val l/qsc x1=val r:=by
   rw[<-hv,arU,aqF _ _ (by omega),apZ c0 c1];omega
  have e3:=xW hz0;have e4:aR (r0.take (ae (val a*qsc x1).toNat).length):=⟨hr0.1.take _,by have:=hr0.2;rw[app];omega⟩
  refine yf _ _ _ _ _ _ _ ⟨0,?_⟩;unfold rO;simp only[f0,Int.toNat_zero,ara,aqB,ar9];rw[dF (by omega)];dsimp only;rw[dT e4,dT (show aR r from⟨hr,by omega⟩),e3,e2]
 |succ n ih=>
  intro c r hn c0 c1 hr hlen hz hv;have hna:n<l.length:=by omega
  have hnr:n<r.length:=by omega
  have xa:=hl.1.get hna;have hr0':=hz n hnr (by omega);have hcb:0<=c*1000000000+l[n]:=by omega
  have m0:=ap4 (c*1000000000+l[n]) (show qsc x1≠0 by omega);have m1:=apE (c*1000000000+l[n]) (show 0<qsc x1 by omega);have md:=apC (c*1000000000+l[n]) (qsc x1);have d0:0<=(c*1000000000+l[n])/qsc x1:=apQ hcb (by omega)
  have d1:(c*1000000000+l[n])/qsc x1<1000000000:=by
   refine aqo (by omega) ?_;have:=ao2 (show c+1<=qsc x1 by omega) (show(0:Int)<=1000000000 by decide);rw[aqG 1000000000 (qsc x1)];omega
  obtain⟨q,hq⟩:=ih ((c*1000000000+l[n])%qsc x1) (r.set n ((c*1000000000+l[n])/qsc x1)) (by omega) m0 m1 (hr.set n ⟨d0,d1⟩) (by simpa using hlen)
   (λk hk hkn=>by rw[aqg (by omega)];exact hz k (by simpa using hk) (by omega)) (by
    rw[eV hnr,hr0'];rw[bi hna,bW]at hv;grind)
  refine yf _ _ _ _ _ _ _ ⟨q,?_⟩;unfold rO;simp only[f0];rw[show((n+1:Nat):Int)-1=(n:Int) by omega,dT (by omega),ak l n,aoO hna,e64,dF (show ¬qsc x1=0 by omega),ak r n,aE,aoO hnr];dsimp only;rw[bH (x:=c*1000000000) (by omega) (by omega),bH (x:=l[n]) (by omega) (by omega),bH (x:=c*1000000000+l[n]) (by omega) (by omega),gG hcb,ju hcb,bH (x:=(c*1000000000+l[n])/qsc x1) (by omega) (by omega),cX (x:=(c*1000000000+l[n])/qsc x1) (by omega) (by omega),aM (x:=(n:Int)-1) (by omega) (by omega)];exact hq
include hV hp hL in
theorem Hl{res:List RV}(i:Nat)(hi:i<(ae (val a*qsc x1).toNat).length)(r0 l:List Int)(hlr:r0.length=a.length+1)(hra:(ae (val a*qsc x1).toNat).length<=a.length+1)(x3 W:Int)(hW:val ([x3]++l)=W)(W0:0<=W)(hWl:(ae W.toNat).length<=1000002)
  (hout:jP.Runs 30 (kZ a b x1 x2 (ae (W%V).toNat) ((i:Int)-1) (r0.set i (W/V))) res) (hi':(ae (val a*qsc x1).toNat).length<=2000000):
  ∀(d:Nat),d<=999999999->W<V*((d:Int)+1)->jP.Runs 67 (eM a b x1 x2 l (i:Int) r0 x3 (d:Int) (ae (V*(d:Int)).toNat)) res:=by
 intro d
 have hsz:∀e:Nat,e<=999999999->(ae (V*(e:Int)).toNat).length<=1000002:=λe he=>by
  refine cp (apN (by omega) (by omega)) ?_
  have h1:V<pw 1000001:=by
   have:=bU (bV V.toNat);rw[bG]at this;have:=dm hL;omega
  rw[bW 1000001];have h2:V*(e:Int)<=V*999999999:=aoW (by omega) (by omega);omega
 induction d with
 |zero=>
  intro _ hd;obtain⟨q,hq⟩:=hout;have hWV:W<V:=by simpa using hd
  rw[arb W0 hWV,apZ W0 hWV]at hq;refine sB _ _ _ _ _ _ _ _ _ _ ⟨q,?_⟩;unfold nB;simp only[f0,hV,hW];rw[show(V*((0:Nat):Int)).toNat=0 by simp,dT (show rm (ae 0) (ae W.toNat) from⟨⟨dW _,by decide⟩,dW _,by omega⟩),bS W0,yK,show val (ae 0)=0 from rfl,dF (show ¬W<0 by omega),dT (show oQ (ae W.toNat) (ae 0) from⟨cr (by omega),cr (by decide),by rw[bS W0];exact W0⟩)];dsimp only;rw[dT (show(0:Int)<=(i:Int)/\(i:Int)<((((ae (val a*qsc x1).toNat).length:Int).toNat-(0:Int).toNat:Nat):Int) by constructor<;>simp<;>omega)];rw[show(0:Int).toNat+((i:Int)).toNat=i by simp,aoO (by omega)];dsimp only;rw[Int.sub_zero,aM (by omega) (by omega)];exact hq
 |succ d ih=>
  intro hd1 hd;have hc:((d+1:Nat):Int)=(d:Int)+1:=by omega
  rw[hc]at hd;have hV1:0<=V*((d:Int)+1):=apN (by omega) (by omega);have hV0:0<=V*(d:Int):=apN (by omega) (by omega);have hVd:V*((d:Int)+1)-V=V*(d:Int):=by grind
  have hs1:=hsz (d+1) (by omega);rw[hc]at hs1;have k1:=bG V.toNat
  by_cases hg:W<V*((d:Int)+1)
  ·obtain⟨q,hq⟩:=ih (by omega) hg;refine sB _ _ _ _ _ _ _ _ _ _ ⟨q,?_⟩;unfold nB;simp only[f0,hV,hW];rw[hc,dT (show rm (ae (V*((d:Int)+1)).toNat) (ae W.toNat) from⟨⟨dW _,by omega⟩,dW _,by omega⟩),bS W0,bS hV1,yK,dT hg,dT (show oQ (ae (V*((d:Int)+1)).toNat) (ae V.toNat) from⟨cr (by omega),cr (by omega),by rw[bS hV1,bS (by omega)];omega⟩),bS (v:=V) (by omega),hVd,bH (by omega) (by omega),show(d:Int)+1-1=(d:Int) by omega];exact hq
  ·obtain⟨q,hq⟩:=hout
   have e1:W/V=(d:Int)+1:=by
    have:W=(W-V*((d:Int)+1))+V*((d:Int)+1):=by omega
    rw[this,aqF _ _ (by omega),apZ (by omega) (by grind)];omega
   have e2:W%V=W-V*((d:Int)+1):=by
    have:=apC W V;rw[e1]at this;omega
   rw[e1,e2]at hq;refine sB _ _ _ _ _ _ _ _ _ _ ⟨q,?_⟩;unfold nB;simp only[f0,hV,hW];rw[hc,dT (show rm (ae (V*((d:Int)+1)).toNat) (ae W.toNat) from⟨⟨dW _,by omega⟩,dW _,by omega⟩),bS W0,bS hV1,yK,dF hg,dT (show oQ (ae W.toNat) (ae (V*((d:Int)+1)).toNat) from⟨cr (by omega),cr (by omega),by rw[bS hV1,bS W0];omega⟩)];dsimp only;rw[dT (show(0:Int)<=(i:Int)/\(i:Int)<((((ae (val a*qsc x1).toNat).length:Int).toNat-(0:Int).toNat:Nat):Int) by constructor<;>simp<;>omega)];rw[show(0:Int).toNat+((i:Int)).toNat=i by simp,aoO (by omega)];dsimp only;rw[aM (by omega) (by omega),cX (by omega) (by omega)];exact hq
end
end
section
def qo(k:Nat->Cfg->OLR)(a b:List Int)(x1 x2:Int)(s11:List Int)(s14:Int)(r0:List Int)(x3 H:Int):OLR:=match D' (u64.wrap x2=(0:Int))with|T'=>N'|F'=>(match D' ((u64.wrap (Int.tdiv H (u64.wrap x2)))>999999999)with|T'=>(og (D' (byP (ae (val b*(u32.wrap (u64.wrap (Int.tdiv 1000000000 (u64.wrap ((u64.wrap x1)+1)))))).toNat) (u32.wrap 999999999))) (k 67 (eM a b x1 x2 s11 s14 r0 x3 999999999 (ae (val (ae (val b*(u32.wrap (u64.wrap (Int.tdiv 1000000000 (u64.wrap ((u64.wrap x1)+1)))))).toNat)*(u32.wrap 999999999)).toNat))))|F'=>(og (D' (byP (ae (val b*(u32.wrap (u64.wrap (Int.tdiv 1000000000 (u64.wrap ((u64.wrap x1)+1)))))).toNat) (u32.wrap (u64.wrap (Int.tdiv H (u64.wrap x2)))))) (k 67 (eM a b x1 x2 s11 s14 r0 x3 (u64.wrap (Int.tdiv H (u64.wrap x2))) (ae (val (ae (val b*(u32.wrap (u64.wrap (Int.tdiv 1000000000 (u64.wrap ((u64.wrap x1)+1)))))).toNat)*(u32.wrap (u64.wrap (Int.tdiv H (u64.wrap x2))))).toNat)))))
theorem Pw{W V H x p d:Int}(hx:1<=x)(hW:W<(H+1)*p)(hp:0<p)(hV:x*p<=V)(hd:H/x=d)(h0:0<=H):W<V*(d+1):=by
 have h1:=apC H x;have h2:=apE H (show 0<x by omega);have h3:0<=d:=by rw[<-hd];exact apQ h0 (by omega)
 have h4:H+1<=x*(d+1):=by grind
 have h5:=ao2 h4 (apv hp);have h6:=ao2 hV (show 0<=d+1 by omega);grind
theorem afo{A B s R q:Int}(hs:0<s)(h:A*s=R+B*s*q)(h0:0<=R)(h1:R<B*s):A/B=q/\A%B=R/s:=by
 have e:R=s*(A-B*q):=by grind
 have hm:R/s=A-B*q:=by rw[e];exact arc _ (by omega)
 have m0:0<=A-B*q:=by
  apply apb;intro hc;have:=aoW (show A-B*q<= -1 by omega) (apv hs);omega
 have m1:A-B*q<B:=by
  apply apb;intro hc;have:=aoW (show B<=A-B*q by omega) (apv hs);grind
 have hA:A=(A-B*q)+B*q:=by omega
 constructor
 ·rw[hA,aqF _ _ (by omega),apZ (by omega) (by omega)];omega
 ·rw[hm,hA,aqY,arb (by omega) (by omega)];omega
section
variable (a b:List Int) (x1 x2:Int) (V:Int) (hV:val b*qsc x1=V) (hs:1<=qsc x1/\qsc x1<1000000000) (hp:0<V) (hra:(ae (val a*qsc x1).toNat).length<=a.length+1) (ha:Lim a/\a.length<=1000000) (hL:(ae V.toNat).length<=1000001)
include hV hs hp hra ha hL in
theorem HT(n:Nat)(hn:(ae V.toNat).length=n+1)(hx2:1<=x2/\x2<1000000000)(hxp:x2*pw n<=V):∀(i:Nat) (R:Int) (r0:List Int),i<=(ae (val a*qsc x1).toNat).length->0<=R->R<V->r0.length=a.length+1->Lim r0->
  (∀k (hk:k<r0.length),k<i->r0[k]=0)->(∀k (hk:k<r0.length),(ae (val a*qsc x1).toNat).length<=k->r0[k]=0)->val a*qsc x1=pw i*R+val ((ae (val a*qsc x1).toNat).take i)+V*val r0->
  jP.Runs 30 (kZ a b x1 x2 (ae R.toNat) ((i:Int)-1) r0) [.d asj (ae (val a/val b).toNat),.d asj (ae (val a%val b).toNat)]:=by
 have hVp:V<pw 1000001:=by
  have:=bU (bV V.toNat);rw[bG]at this;have:=dm hL;omega
 have ha2:=ha.2;intro i;induction i with
 |zero=>
  intro R r0 _ R0 RV hlr hl _ hz he;simp only[nL,List.take_zero,val,ar3,asa]at he;rw[<-hV]at he;obtain⟨e1,e2⟩:=afo (by omega) he R0 (by rw[hV];exact RV);have hRl:(ae R.toNat).length<=1000001:=cp R0 (by omega);obtain⟨q,hq⟩:=Oj a x1 hs (ae R.toNat) r0 ⟨bV _,by omega⟩ ⟨hl,by omega⟩ hz (ae R.toNat).length 0 (List.replicate (ae R.toNat).length 0) (aoU _) (by omega) (by omega) (Lim.rep _) (by simp) (λk hk _=>by simp) (by simp[gf]);rw[bS R0,<-e2,<-e1]at hq;refine nt _ _ _ _ _ _ _ ⟨q,?_⟩;unfold kO;rw[dF (by omega)];dsimp only;rw[dT (show(0:Int)<=((ae R.toNat).length:Int)/\((ae R.toNat).length:Int)*((4:Nat):Int)<=140737488355328/\((ae R.toNat).length:Int)<=140737488355328 from⟨by omega,by omega,by omega⟩),aE,aM (by omega) (by omega)];exact hq
 |succ i ih=>
  intro R r0 hi R0 RV hlr hl hz hz2 he;have hiU:i<(ae (val a*qsc x1).toNat).length:=by omega
  have hx:=(bV (val a*qsc x1).toNat).get hiU;have hir:i<r0.length:=by omega
  have hr0:=hz i hir (by omega)
  have hWv:val ([(ae (val a*qsc x1).toNat)[i]]++ae R.toNat)=(ae (val a*qsc x1).toNat)[i]+1000000000*R:=by
   rw[dz,bS R0];simp[val,pw]
  generalize hxi:(ae (val a*qsc x1).toNat)[i]=x at hx hWv;have W0:0<=x+1000000000*R:=by omega
  have WV:x+1000000000*R<1000000000*V:=by omega
  have hWl:(ae (x+1000000000*R).toNat).length<=n+2:=by
   refine cp W0 ?_;have:=bU (bV V.toNat);rw[bG,hn]at this;rw[bW (n+1)];omega
  have hRl:(ae R.toNat).length<=1000001:=cp R0 (by omega);have q0:0<=(x+1000000000*R)/V:=apQ W0 (by omega);have q1:(x+1000000000*R)/V<1000000000:=aqo hp (by omega);have m0:=ap4 (x+1000000000*R) (show V≠0 by omega);have m1:=apE (x+1000000000*R) hp;have md:=apC (x+1000000000*R) V
  have hout:=ih ((x+1000000000*R)%V) (r0.set i ((x+1000000000*R)/V)) (by omega) m0 m1 (by simpa using hlr) (hl.set i ⟨q0,q1⟩)
   (λk hk hk'=>by rw[aqg (by omega)];exact hz k (by simpa using hk) (by omega))
   (λk hk hk'=>by rw[aqg (by omega)];exact hz2 k (by simpa using hk) hk') (by
    rw[eV hir,hr0];rw[bi hiU,bW,hxi]at he;grind)
  have hdig:=Hl a b x1 x2 V hV hp hL i hiU r0 (ae R.toNat) hlr hra x (x+1000000000*R) hWv W0 (by omega) hout (by omega)
  have htail:∀H:Int,0<=H->H<1000000000000000000->x+1000000000*R<(H+1)*pw n->∃q,qo (jP.k q) a b x1 x2 (ae R.toNat) ((i:Int)) r0 x H=S' [.d asj (ae (val a/val b).toNat),.d asj (ae (val a%val b).toNat)]:=by
   intro H H0 H1 HW;have d0:0<=H/x2:=apQ H0 (by omega);have d1:H/x2<=H:=aqL _ H0;have hbyV:∀d:Int,0<=d->d<1000000000->byP (ae V.toNat) d:=λd h1 h2=>⟨⟨bV _,by omega⟩,h1,h2⟩
   by_cases hc:H/x2>999999999
   ·obtain⟨q,hq⟩:=hdig 999999999 (aoU _) (by rw[show V*(((999999999:Nat):Int)+1)=1000000000*V by omega];exact WV);refine⟨q,?_⟩;unfold qo;simp only[f0,hV];rw[bH (x:=x2) (by omega) (by omega),dF (show ¬x2=0 by omega),gG H0,bH (x:=H/x2) (by omega) (by omega),dT hc,cX (x:=999999999) (by decide) (by decide),dT (hbyV 999999999 (by decide) (by decide)),bS (v:=V) (by omega)];exact hq
   ·obtain⟨q,hq⟩:=hdig (H/x2).toNat (by omega) (by rw[show(((H/x2).toNat:Nat):Int)=H/x2 by omega];exact Pw hx2.1 HW (cf n) hxp rfl H0)
    rw[show(((H/x2).toNat:Nat):Int)=H/x2 by omega]at hq;refine⟨q,?_⟩;unfold qo;simp only[f0,hV];rw[bH (x:=x2) (by omega) (by omega),dF (show ¬x2=0 by omega),gG H0,bH (x:=H/x2) (by omega) (by omega),dF hc,cX (x:=H/x2) (by omega) (by omega),dT (hbyV (H/x2) (by omega) (by omega)),bS (v:=V) (by omega)];exact hq
  have hWlim:=bV (x+1000000000*R).toNat
  have hWval:=bS W0;have hsplit:=fO (ae (x+1000000000*R).toNat) n;have htl:=bU (hWlim.take n)
  have hpre:∀H,val ((ae (x+1000000000*R).toNat).drop n)=H->x+1000000000*R<(H+1)*pw n:=by
   intro H hH;rw[hH,hWval]at hsplit;have hm:(ae (x+1000000000*R).toNat |>.take n).length<=n:=by rw[app];omega
   have:=dm hm;rcases apu n (ae (x+1000000000*R).toNat).length with h|h
   ·rw[aps (by omega)]at hsplit;rw[Int.add_mul,aqG H,ar3];omega
   ·rw[apx h]at hH;have hH0:H=0:=by rw[<-hH];rfl
    subst hH0;rw[ary]at hsplit;omega
  have hstep:∀(H:Int) (q:Nat),qo (jP.k q) a b x1 x2 (ae R.toNat) ((i:Int)) r0 x H=S' [.d asj (ae (val a/val b).toNat),.d asj (ae (val a%val b).toNat)]->True:=λ_ _ _=>trivial;have hap:(([x]:List Int).length+(ae R.toNat).length)*4<=140737488355328/\([x]:List Int).length+(ae R.toNat).length<=140737488355328:=by simp only[apd];omega
  have hlS:aR ([x]++ae R.toNat):=⟨(Lim.cons ⟨hx.1,hx.2⟩ Lim.nil).append (bV _),by simp only[apr,apd];omega⟩
  have hw1:i64.wrap (((n+1:Nat):Int)-1)=((n:Nat):Int):=by rw[aM (by omega) (by omega)];omega
  rcases Nat.lt_trichotomy (ae (x+1000000000*R).toNat).length (n+1)with hc|hc|hc
  ·obtain⟨q,hq⟩:=htail 0 (by omega) (by omega) (hpre 0 (by rw[apx (by omega)];rfl));refine nt _ _ _ _ _ _ _ ⟨q,?_⟩;unfold kO;rw[dT (show((i+1:Nat):Int)-1>=0 by omega),show((i+1:Nat):Int)-1=(i:Int) by omega,f0,ak,aoO hiU,hxi];dsimp only;rw[dT hap,dT hlS,hWv,hV,hn];rw[dF (show ¬((ae (x+1000000000*R).toNat).length:Int)>((n+1:Nat):Int) by omega),dF (show ¬((ae (x+1000000000*R).toNat).length:Int)>=((n+1:Nat):Int) by omega)];rw[<-hV];exact hq
  ·have hget:(ae (x+1000000000*R).toNat)[n]?=S' (ae (x+1000000000*R).toNat)[n]:=aoO (by omega);have hxn:=hWlim.get (show n<(ae (x+1000000000*R).toNat).length by omega)
   have hdrop:val ((ae (x+1000000000*R).toNat).drop n)=(ae (x+1000000000*R).toNat)[n]:=by
    rw[jw (by omega),apx (by omega)];simp[val]
   obtain⟨q,hq⟩:=htail (ae (x+1000000000*R).toNat)[n] hxn.1 (by omega) (hpre _ hdrop);refine nt _ _ _ _ _ _ _ ⟨q,?_⟩;unfold kO;rw[dT (show((i+1:Nat):Int)-1>=0 by omega),show((i+1:Nat):Int)-1=(i:Int) by omega,f0,ak,aoO hiU,hxi];dsimp only;rw[dT hap,dT hlS,hWv,hV,hn];rw[dF (show ¬((ae (x+1000000000*R).toNat).length:Int)>((n+1:Nat):Int) by omega),dT (show((ae (x+1000000000*R).toNat).length:Int)>=((n+1:Nat):Int) by omega),hw1,ak (ae (x+1000000000*R).toNat) n,hget];dsimp only;rw[Int.zero_add,bH (x:=(ae (x+1000000000*R).toNat)[n]) (by omega) (by omega),bH (x:=(ae (x+1000000000*R).toNat)[n]) (by omega) (by omega)];rw[<-hV];exact hq
  ·have hget:(ae (x+1000000000*R).toNat)[n]?=S' (ae (x+1000000000*R).toNat)[n]:=aoO (by omega);have hget1:(ae (x+1000000000*R).toNat)[n+1]?=S' (ae (x+1000000000*R).toNat)[n+1]:=aoO (by omega);have hxn:=hWlim.get (show n<(ae (x+1000000000*R).toNat).length by omega);have hxn1:=hWlim.get (show n+1<(ae (x+1000000000*R).toNat).length by omega)
   have hdrop:val ((ae (x+1000000000*R).toNat).drop n)=(ae (x+1000000000*R).toNat)[n+1]*1000000000+(ae (x+1000000000*R).toNat)[n]:=by
    rw[jw (by omega),jw (by omega),apx (by omega)];simp only[val];omega
   obtain⟨q,hq⟩:=htail ((ae (x+1000000000*R).toNat)[n+1]*1000000000+(ae (x+1000000000*R).toNat)[n]) (by omega) (by omega) (hpre _ hdrop);refine nt _ _ _ _ _ _ _ ⟨q,?_⟩;unfold kO;rw[dT (show((i+1:Nat):Int)-1>=0 by omega),show((i+1:Nat):Int)-1=(i:Int) by omega,f0,ak,aoO hiU,hxi];dsimp only;rw[dT hap,dT hlS,hWv,hV,hn];rw[dT (show((ae (x+1000000000*R).toNat).length:Int)>((n+1:Nat):Int) by omega),ak (ae (x+1000000000*R).toNat) (n+1),hget1];dsimp only;rw[dT (show((ae (x+1000000000*R).toNat).length:Int)>=((n+1:Nat):Int) by omega),hw1,ak (ae (x+1000000000*R).toNat) n,hget];dsimp only;rw[bH (x:=(ae (x+1000000000*R).toNat)[n+1]) (by omega) (by omega),bH (x:=(ae (x+1000000000*R).toNat)[n+1]*1000000000) (by omega) (by omega),bH (x:=(ae (x+1000000000*R).toNat)[n]) (by omega) (by omega),bH (x:=(ae (x+1000000000*R).toNat)[n+1]*1000000000+(ae (x+1000000000*R).toNat)[n]) (by omega) (by omega)];rw[<-hV];exact hq
end
end
end Go.Proofs.YtoimchcjhdcdmaaGreat
end
