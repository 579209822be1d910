/- The reference's integers: trim, signed, ae, short, compare, plus, minus, times. -/
import Derived.Test.YtoimchcjhdcdmaaGreatP10
noncomputable section
namespace Go.Proofs.YtoimchcjhdcdmaaGreat
open Go.RowKit Go.IntKind
open Bool renaming true->T',false->F'
open Option renaming some->S',none->N'
open Decidable renaming decide->D'
theorem aqg:type_of% @decide_eq_decide:=@decide_eq_decide
def sQ(a:List Int):Prop:=aQ a/\val a<18446744073709551616
instance (a:List Int):Decidable (sQ a):=by unfold sQ;infer_instance
def sL(a b:List Int):Prop:=(can a/\a.length<=1000000000)/\(can b/\b.length<=1000000000)
instance (a b:List Int):Decidable (sL a b):=by unfold sL;infer_instance
def jw(l:List Int):Prop:=Lim l/\l.length<=10000000
instance (l:List Int):Decidable (jw l):=by unfold jw;infer_instance
theorem ct{n:Nat}(h:(ae n).length<=1000000000):aQ (ae n):=⟨bV n,h⟩
theorem bS{v:Int}(h:0<=v):val (ae v.toNat)=v:=by grind [bG]
theorem cq{v:Int}{k:Nat}(h0:0<=v)(h:v<pw k):(ae v.toNat).length<=k:=dl (by omega)
def ov:List En:=[]
def VT:NT:=[((197,4),{keep:=[0],pure_:=[(0,.int .u32)],hl:=0})]
def Cr:Ctx:=CX (ens ov) VT
def wS(s0:List Int):Cfg:=⟨197,[.blk 0,.seq 13],[(0,.d ard s0)],[],0,[]⟩
def agb(a:List Int)(k:KT):OLR:=k 4 (wS a)
theorem age(a:List Int):RS Cr 197 [.d ard a] (agb a):=rsX
def vI(s0:List Int)(k:KT):OLR:=match D' ((s0.length:Int)>0)with|T'=>(match aH s0 (i64.wrap ((s0.length:Int)-1))with|S' x1=>(match x1==0 with|T'=>(og (D' ((0:Int)<=0/\0<=i64.wrap ((s0.length:Int)-1)/\i64.wrap ((s0.length:Int)-1)<=(s0.length:Int))) (k 4 (wS ((s0.take (i64.wrap ((s0.length:Int)-1)).toNat).drop (0:Int).toNat))))|F'=>S' [RV.d ard s0])|N'=>N')|F'=>S' [RV.d ard s0]
theorem vJ(s0:List Int):RN Cr 4 (wS s0) (vI s0):=rnX
def V2:NT:=[((199,8),{keep:=[0,3,4],hl:=0})]
def B6:Ctx:=CX (ens ov) V2
def xf(a:List Int)(s3 s4:Int):Cfg:=⟨199,[.blk 0,.seq 19],[(0,.d ard a),(3,.d (.int .u64) s3),(4,SI s4)],[],0,[]⟩
def RP(a:List Int)(k:KT):OLR:=k 8 (xf a 0 (i64.wrap ((a.length:Int)-1)))
theorem afb(a:List Int):RS B6 199 [.d ard a] (RP a):=rsX
def vP(a:List Int)(s3 s4:Int)(k:KT):OLR:=match D' (s4>=0)with|T'=>(match aH a s4 with|S' x1=>k 8 (xf a (u64.wrap ((u64.wrap (s3*1000000000))+(u64.wrap x1))) (i64.wrap (s4-1)))|N'=>N')|F'=>S' [RV.d (.int .u64) s3]
theorem AJ(a:List Int)(s3 s4:Int):RN B6 8 (xf a s3 s4) (vP a s3 s4):=rnX
def Xp:NT:=[((140,6),{keep:=[0,3],own:=[(3,194,.int .u32)],hl:=1})]
def B4:Ctx:=CX (ens ov) Xp
def wJ(s0:Int)(r0:List Int):Cfg:=⟨140,[.blk 0,.seq 17],[(0,.d (.int .u64) s0),(3,.own 0)],[.row 194 arg r0],0,[]⟩
def ab2(u:Int)(k:KT):OLR:=k 6 (wJ u ([]))
theorem agv(u:Int):RS B4 140 [.d (.int .u64) u] (ab2 u):=rsX
def vp(s0:Int)(r0:List Int)(k:KT):OLR:=match D' (s0>0)with|T'=>(og (D' ((r0.length+([u32.wrap (Int.tmod s0 1000000000)]).length)*4<=140737488355328/\r0.length+([u32.wrap (Int.tmod s0 1000000000)]).length<=140737488355328)) (k 6 (wJ (u64.wrap (Int.tdiv s0 1000000000)) (r0++([u32.wrap (Int.tmod s0 1000000000)])))))|F'=>S' [RV.new 194 arg r0]
theorem Br(s0:Int)(r0:List Int):RN B4 6 (wJ s0 r0) (vp s0 r0):=rnX
def VO:NT:=[((113,22),{keep:=[0,1,5],hl:=0})]
def Em:Ctx:=CX (ens ov) VO
def tv(a b:List Int)(s5:Int):Cfg:=⟨113,[.blk 0,.seq 47],[(0,.d ard a),(1,.d ard b),(5,SI s5)],[],0,[]⟩
def IV(a b:List Int)(k:KT):OLR:=match(a.length:Int) !=(b.length:Int)with|T'=>(match D' ((a.length:Int)<(b.length:Int))with|T'=>S' [RV.d arf (-1)]|F'=>S' [RV.d arf 1])|F'=>k 22 (tv a b (i64.wrap ((a.length:Int)-1)))
theorem Po(a b:List Int):RS Em 113 [.d ard a,.d ard b] (IV a b):=rsX
def ld(a b:List Int)(s5:Int)(k:KT):OLR:=match D' (s5>=0)with|T'=>(match aH a s5 with|S' x1=>(match aH b s5 with|S' x2=>(match D' (x1<x2)with|T'=>S' [RV.d arf (-1)]|F'=>(match aH a s5 with|S' x3=>(match aH b s5 with|S' x4=>(match D' (x3>x4)with|T'=>S' [RV.d arf 1]|F'=>k 22 (tv a b (i64.wrap (s5-1))))|N'=>N')|N'=>N'))|N'=>N')|N'=>N')|F'=>S' [RV.d arf 0]
theorem nY(a b:List Int)(s5:Int):RN Em 22 (tv a b s5) (ld a b s5):=rnX
theorem LP(l:List Int)(hl:Lim l)(hs:l.length<=1000000000):∀(n:Nat),n<=l.length->(∀j (hj:j<l.length),n<=j->l[j]=0)->Cr.Runs 4 (wS (l.take n)) [.d ard (ae (val l).toNat)]:=by
 intro n;induction n with
 |zero=>
  intro _ h;refine vJ _ ⟨0,?_⟩;rw[<-nG hl (aqc _) h (.inl rfl)];rfl
 |succ n ih=>
  intro hn h;have hlen:(l.take (n+1)).length=n+1:=by rw[aoo,aor hn]
  have hget:(l.take (n+1))[n]?=S' l[n]:=by rw[List.getElem?_take_of_lt (by omega),anN (by omega)]
  by_cases hz:l[n]=0
  ·obtain⟨q,hq⟩:=ih (by omega) λj hj hk=>by
    rcases Nat.eq_or_lt_of_le hk with e|e
    ·subst e;exact hz
    ·exact h j hj e
   refine vJ _ ⟨q,?_⟩;unfold vI;rw[hlen,anO (by omega),My (by omega) (by omega),ak,show n+1-1=n from rfl,hget];dsimp only;rw[hz,anO (show(0:Int)<=0/\(0:Int)<=(n:Int)/\(n:Int)<=((n+1:Nat):Int) by omega),aE,aqH,aor (by omega)];exact hq
  ·refine vJ _ ⟨0,?_⟩;unfold vI;rw[hlen,anO (by omega),My (by omega) (by omega),ak,show n+1-1=n from rfl,hget];dsimp only;rw[show(l[n]==0)=F' by simpa using hz,<-nG hl hn h (.inr ⟨Nat.lt_of_succ_le hn,hz⟩)]
def z0:Cn 197 [ard]:=cn λ(a:List Int)=>lf (aQ a) [.d ard (ae (val a).toNat)] λh=>by
 refine bj ov (show Cr.Res _ _ _ from ?_);obtain⟨q,hq⟩:=LP a h.1 h.2 a.length (anT _) (λj hj hk=>by omega);rw[ao1]at hq;exact age _ ⟨q,hq⟩
theorem Mu(u:Nat):∀(r:List Int),(u:Int)<18446744073709551616->r.length+3<=1000+3-(ae u).length->B4.Runs 6 (wJ (u:Int) r) [.new 194 arg (r++ae u)]:=by
 induction u using qJ with
 |h0=>
  intro r _ _;refine Br _ _ ⟨0,?_⟩;unfold vp;rw[fH,aoi];rfl
 |h1 n hn ih=>
  intro r hu hr;rw[iV hn]at hr;simp only[an8]at hr;obtain⟨q,hq⟩:=ih (r++[((n%1000000000:Nat):Int)]) (by omega) (by rw[aoq];simp only[aoc];omega);refine Br _ _ ⟨q,?_⟩;unfold vp;rw[anO (by omega),ju (by omega),gJ (by omega),bI (x:=(n:Int)/1000000000) (by omega) (by omega),cZ (x:=(n:Int)%1000000000) (by omega) (by omega)];simp only[aoc];rw[ad4 (by omega) (by omega),iV hn];rw[show((n:Int)%1000000000)=((n%1000000000:Nat):Int) by omega,show((n:Int)/1000000000)=((n/1000000000:Nat):Int) by omega];rw[aof]at hq;exact hq
def Cu:Cn 140 [(.int .u64)]:=cn λ(u:Int)=>lf (iH u) [.new 194 arg (ae u.toNat)] λh=>by
 refine bj ov (show B4.Res _ _ _ from ?_);have h0:=h.1;have h1:=h.2;have hl:=dl (n:=u.toNat) (k:=3) (aqn (show(u.toNat:Int)<18446744073709551616 by omega) (by decide));obtain⟨q,hq⟩:=Mu u.toNat [] (by omega) (by simp;omega)
 rw[show((u.toNat:Nat):Int)=u by omega]at hq;exact agv _ ⟨q,hq⟩
theorem AF(a:List Int)(h:sQ a):∀(i:Nat),i<=a.length->B6.Runs 8 (xf a (val (a.drop i)) ((i:Int)-1)) [.d (.int .u64) (val a)]
 |0,_=>by
  refine AJ _ _ _ ⟨0,?_⟩;unfold vP;rw[anQ (by omega),apy]
 |i+1,hi=>by
  obtain⟨n,ih⟩:=AF a h i (by omega);have h0:=h.1.2;have hlim:=h.1.1;have hlt:=h.2;have hd:a.drop i=a[i]::a.drop (i+1):=jx (by omega)
  have hle:∀j,val (a.drop j)<=val a/\0<=val (a.drop j):=λj=>by
   have l1:Lim (a.drop j):=λy hy=>hlim y (apq hy);have l2:Lim (a.take j):=λy hy=>hlim y (ao3 hy);have:=dD (a.take j) (a.drop j);rw[apc]at this;have n1:=aP l1;have n2:=aP l2;have p:=cg (a.take j).length
   have:val (a.drop j)<=pw (a.take j).length*val (a.drop j):=by
    have:=an1 (show 1<=pw (a.take j).length by omega) n1;omega
   omega
  have hb:=hlim a[i] (anY _);have hv1:=hle i;have hv2:=hle (i+1);rw[hd]at hv1 ih;simp only[val]at hv1 ih;refine AJ _ _ _ ⟨n,?_⟩;unfold vP;rw[show(((i+1:Nat):Int)-1)=(i:Int) by omega,anO (by omega),ak,anN (by omega)];dsimp only;rw[bI (x:=val (a.drop (i+1))*1000000000) (by omega) (by omega),bI (x:=a[i]) (by omega) (by omega),bI (by omega) (by omega),aM (by omega) (by omega)];rw[show val (a.drop (i+1))*1000000000+a[i]=a[i]+1000000000*val (a.drop (i+1)) by omega];exact ih
def Di:Cn 199 [ard]:=cn λ(a:List Int)=>lf (sQ a) [.d (.int .u64) (val a)] λh=>by
 refine bj ov (show B6.Res _ _ _ from ?_);obtain⟨n,hn⟩:=AF a h a.length (anT _);have h0:=h.1.2;refine afb _ ⟨n,?_⟩;unfold RP;rw[aqe]at hn;rw[aM (by omega) (by omega)];exact hn
theorem LY(a b:List Int)(la:Lim a)(lb:Lim b)(hl:a.length=b.length)(hs:a.length<=1000000000):∀(n:Nat),n<=a.length->a.drop n=b.drop n->
  Em.Runs 22 (tv a b ((n:Int)-1)) [.d arf (b8 (val a) (val b))]:=by
 intro n;induction n with
 |zero=>
  intro _ h;refine nY _ _ _ ⟨0,?_⟩;have e:val a=val b:=by simp only[apy]at h;rw[h]
  unfold ld;rw[anQ (by omega),e,dV]
 |succ n ih=>
  intro hn h;have h1:n<a.length:=by omega
  have h2:n<b.length:=by omega
  rcases Int.lt_trichotomy a[n] b[n]with hc|hc|hc
  ·refine nY _ _ _ ⟨0,?_⟩;have:=Ds la lb h1 h2 h hc;unfold ld;rw[show((n+1:Nat):Int)-1=(n:Int) by omega,anO (by omega),ak,ak,anN h1,anN h2];dsimp only;rw[anO hc,c9 (by omega)]
  ·obtain⟨q,hq⟩:=ih (by omega) (by rw[an5 h1,an5 h2,hc,h]);refine nY _ _ _ ⟨q,?_⟩;unfold ld;rw[show((n+1:Nat):Int)-1=(n:Int) by omega,anO (by omega),ak,ak,anN h1,anN h2];dsimp only;rw[anQ (by omega),anQ (by omega),aM (x:=(n:Int)-1) (by omega) (by omega)];exact hq
  ·refine nY _ _ _ ⟨0,?_⟩;have:=Ds lb la h2 h1 h.symm hc;unfold ld;rw[show((n+1:Nat):Int)-1=(n:Int) by omega,anO (by omega),ak,ak,anN h1,anN h2];dsimp only;rw[anQ (by omega),anO hc,cH (by omega)]
theorem JM{a b:List Int}(ha:can a)(hb:can b)(h:a.length<b.length):val a<val b:=by
 have ea:=o9 ha;have eb:=o9 hb;have:=xe (a:=(val a).toNat) (b:=(val b).toNat) (by rw[<-ea,<-eb];exact h);omega
def yH:Cn 113 [ard,ard]:=cn λ(a b:List Int)=>lf (sL a b) [.d arf (b8 (val a) (val b))] λh=>by
 refine bj ov (show Em.Res _ _ _ from ?_);obtain⟨⟨ha,sa⟩,hb,sb⟩:=h;by_cases hl:a.length=b.length
 ·obtain⟨q,hq⟩:=LY a b ha.1 hb.1 hl sa _ (anT _) (by rw[aqe,hl,aqe]);refine Po _ _ ⟨q,?_⟩;unfold IV;rw[show((a.length:Int) !=(b.length:Int))=F' by simp[hl],aM (x:=(a.length:Int)-1) (by omega) (by omega)];exact hq
 ·refine Po _ _ ⟨0,?_⟩;unfold IV;rw[show((a.length:Int) !=(b.length:Int))=true by simp;omega];dsimp only;rcases Nat.lt_or_gt_of_ne hl with h1|h1
  ·have:=JM ha hb h1;rw[anO (by omega),c9 (by omega)]
  ·have:=JM hb ha h1;rw[anQ (by omega),cH (by omega)]
def sD:List En:=enK z0::enK Cu::enF Di::enF yH::ov
def RH(neg:Bool)(l:List Int)(_k:KT):OLR:=og (D' (aQ l)) (match neg with|T'=>S' [RV.d y3Y (D' (((ae (val l).toNat).length:Int)>0),ae (val l).toNat)]|F'=>S' [RV.d y3Y (F',ae (val l).toNat)])
def U1:NT:=[((120,16),{keep:=[0,1,5,6,7],hl:=1})]
def xH:Ctx:=CX (ens sD) U1
def kU(s0 s1 r0:List Int)(s6 s7:Int):Cfg:=⟨120,[.blk 0,.seq 37],[(0,.d ard s0),(1,.d ard s1),(5,.own 0),(6,.d arg s6),(7,SI s7)],[.row 194 arg r0],0,[]⟩
def HE(a b:List Int)(k:KT):OLR:=match D' ((a.length:Int)<(b.length:Int))with|T'=>(og (D' ((0:Int)<=i64.wrap ((b.length:Int)+1)/\(i64.wrap ((b.length:Int)+1))*((4:Nat):Int)<=140737488355328/\i64.wrap ((b.length:Int)+1)<=140737488355328)) (k 16 (kU b a (List.replicate (i64.wrap ((b.length:Int)+1)).toNat (0:Int)) 0 0)))|F'=>(og (D' ((0:Int)<=i64.wrap ((a.length:Int)+1)/\(i64.wrap ((a.length:Int)+1))*((4:Nat):Int)<=140737488355328/\i64.wrap ((a.length:Int)+1)<=140737488355328)) (k 16 (kU a b (List.replicate (i64.wrap ((a.length:Int)+1)).toNat (0:Int)) 0 0)))
theorem Qz(a b:List Int):RS xH 120 [.d ard a,.d ard b] (HE a b):=rsX
def oG(s0 s1 r0:List Int)(s6 s7:Int)(k:KT):OLR:=match D' (s7<(s0.length:Int))with|T'=>(match aH s0 s7 with|S' x1=>(match D' (s7<(s1.length:Int))with|T'=>(match aH s1 s7 with|S' x2=>(match aH r0 s7 with|S' _=>(match T',r0[(s7).toNat]? with|T',S' _=>k 16 (kU s0 s1 (r0.set ((s7).toNat) (Int.tmod (u32.wrap ((u32.wrap (s6+x1))+x2)) 1000000000)) (u32.wrap (Int.tdiv (u32.wrap ((u32.wrap (s6+x1))+x2)) 1000000000)) (i64.wrap (s7+1)))|_,_=>N')|N'=>N')|N'=>N')|F'=>(match aH r0 s7 with|S' _=>(match T',r0[(s7).toNat]? with|T',S' _x2=>k 16 (kU s0 s1 (r0.set ((s7).toNat) (Int.tmod (u32.wrap (s6+x1)) 1000000000)) (u32.wrap (Int.tdiv (u32.wrap (s6+x1)) 1000000000)) (i64.wrap (s7+1)))|_,_=>N')|N'=>N'))|N'=>N')|F'=>(match aH r0 (s0.length:Int)with|S' _=>(match T',r0[((s0.length:Int)).toNat]? with|T',S' _x1=>(og (D' (aQ (r0.set (((s0.length:Int)).toNat) s6))) (S' [RV.d ard (ae (val (r0.set (((s0.length:Int)).toNat) s6)).toNat)]))|_,_=>N')|N'=>N')
theorem sK(s0 s1 r0:List Int)(s6 s7:Int):RN xH 16 (kU s0 s1 r0 s6 s7) (oG s0 s1 r0 s6 s7):=rnX
def UV:NT:=[((121,10),{keep:=[0,1,5,6,7],hl:=1})]
def yV:Ctx:=CX (ens sD) UV
def jD(a b:List Int)(s7:Int)(r0:List Int)(s6:Int):Cfg:=⟨121,[.blk 0,.seq 37],[(0,.d ard a),(1,.d ard b),(5,.own 0),(6,.d arg s6),(7,SI s7)],[.row 194 arg r0],0,[]⟩
def Ru(a b:List Int)(k:KT):OLR:=og (D' ((0:Int)<=(a.length:Int)/\(a.length:Int)*((4:Nat):Int)<=140737488355328/\(a.length:Int)<=140737488355328)) (k 10 (jD a b 0 (List.replicate ((a.length:Int)).toNat (0:Int)) 0))
theorem acS(a b:List Int):RS yV 121 [.d ard a,.d ard b] (Ru a b):=rsX
def iZ(a b:List Int)(s7:Int)(r0:List Int)(s6:Int)(k:KT):OLR:=match D' (s7<(a.length:Int))with|T'=>(match aH a s7 with|S' x1=>(match D' (s7<(b.length:Int))with|T'=>(match aH b s7 with|S' x2=>(match D' ((u32.wrap ((u32.wrap ((u32.wrap (x1+1000000000))-s6))-x2))>=1000000000)with|T'=>(match aH r0 s7 with|S' _=>(match T',r0[(s7).toNat]? with|T',S' _x3=>k 10 (jD a b (i64.wrap (s7+1)) (r0.set ((s7).toNat) (u32.wrap ((u32.wrap ((u32.wrap ((u32.wrap (x1+1000000000))-s6))-x2))-1000000000))) 0)|_,_=>N')|N'=>N')|F'=>(match aH r0 s7 with|S' _=>(match T',r0[(s7).toNat]? with|T',S' _x3=>k 10 (jD a b (i64.wrap (s7+1)) (r0.set ((s7).toNat) (u32.wrap ((u32.wrap ((u32.wrap (x1+1000000000))-s6))-x2))) 1)|_,_=>N')|N'=>N'))|N'=>N')|F'=>(match D' ((u32.wrap ((u32.wrap (x1+1000000000))-s6))>=1000000000)with|T'=>(match aH r0 s7 with|S' _=>(match T',r0[(s7).toNat]? with|T',S' _x2=>k 10 (jD a b (i64.wrap (s7+1)) (r0.set ((s7).toNat) (u32.wrap ((u32.wrap ((u32.wrap (x1+1000000000))-s6))-1000000000))) 0)|_,_=>N')|N'=>N')|F'=>(match aH r0 s7 with|S' _=>(match T',r0[(s7).toNat]? with|T',S' _x2=>k 10 (jD a b (i64.wrap (s7+1)) (r0.set ((s7).toNat) (u32.wrap ((u32.wrap (x1+1000000000))-s6))) 1)|_,_=>N')|N'=>N')))|N'=>N')|F'=>(og (D' (aQ r0)) (S' [RV.d ard (ae (val r0).toNat)]))
theorem lh(a b:List Int)(s7:Int)(r0:List Int)(s6:Int):RN yV 10 (jD a b s7 r0 s6) (iZ a b s7 r0 s6):=rnX
def VA:NT:=[((115,8),{keep:=[0,1,5,6],hl:=1}),((115,23),{keep:=[0,1,5,6,7,8],hl:=1})]
def rM:Ctx:=CX (ens sD) VA
def sP(a b:List Int)(s6:Int)(r0:List Int):Cfg:=⟨115,[.blk 0,.seq 40],[(0,.d ard a),(1,.d ard b),(5,.own 0),(6,SI s6)],[.row 194 arg r0],0,[]⟩
def sT(a b:List Int)(s6 s7 s8:Int)(r0:List Int):Cfg:=⟨115,[.blk 2,.seq 38,.blk 1,.seq 39,.lp 8,.blk 0,.seq 40],[(0,.d ard a),(1,.d ard b),(5,.own 0),(6,SI s6),(7,.d (.int .u64) s7),(8,SI s8)],[.row 194 arg r0],0,[]⟩
def Tv(a b:List Int)(k:KT):OLR:=og (D' ((0:Int)<=i64.wrap ((a.length:Int)+(b.length:Int))/\(i64.wrap ((a.length:Int)+(b.length:Int)))*((4:Nat):Int)<=140737488355328/\i64.wrap ((a.length:Int)+(b.length:Int))<=140737488355328)) (k 8 (sP a b 0 (List.replicate (i64.wrap ((a.length:Int)+(b.length:Int))).toNat (0:Int))))
theorem afd(a b:List Int):RS rM 115 [.d ard a,.d ard b] (Tv a b):=rsX
def vt(a b:List Int)(s6:Int)(r0:List Int)(k:KT):OLR:=match D' (s6<(a.length:Int))with|T'=>k 23 (sT a b s6 0 0 r0)|F'=>(og (D' (aQ r0)) (S' [RV.d ard (ae (val r0).toNat)]))
theorem Au(a b:List Int)(s6:Int)(r0:List Int):RN rM 8 (sP a b s6 r0) (vt a b s6 r0):=rnX
def sG(a b:List Int)(s6 s7 s8:Int)(r0:List Int)(k:KT):OLR:=match D' (s8<(b.length:Int))with|T'=>(match aH r0 (i64.wrap (s6+s8))with|S' _=>(match T',r0[(i64.wrap (s6+s8)).toNat]? with|T',S' x1=>(match aH a s6 with|S' x2=>(match aH b s8 with|S' x3=>(match aH r0 (i64.wrap (s6+s8))with|S' _=>(match T',r0[(i64.wrap (s6+s8)).toNat]? with|T',S' _=>k 23 (sT a b s6 (u64.wrap (Int.tdiv (u64.wrap ((u64.wrap (s7+(u64.wrap x1)))+(u64.wrap ((u64.wrap x2)*(u64.wrap x3))))) 1000000000)) (i64.wrap (s8+1)) (r0.set ((i64.wrap (s6+s8)).toNat) (u32.wrap (Int.tmod (u64.wrap ((u64.wrap (s7+(u64.wrap x1)))+(u64.wrap ((u64.wrap x2)*(u64.wrap x3))))) 1000000000))))|_,_=>N')|N'=>N')|N'=>N')|N'=>N')|_,_=>N')|N'=>N')|F'=>(match aH r0 (i64.wrap (s6+(b.length:Int)))with|S' _=>(match T',r0[(i64.wrap (s6+(b.length:Int))).toNat]? with|T',S' _x1=>k 8 (sP a b (i64.wrap (s6+1)) (r0.set ((i64.wrap (s6+(b.length:Int))).toNat) (u32.wrap s7)))|_,_=>N')|N'=>N')
theorem yb(a b:List Int)(s6 s7 s8:Int)(r0:List Int):RN rM 23 (sT a b s6 s7 s8 r0) (sG a b s6 s7 s8 r0):=rnX
def IU:Cn 114 [.bool,ard]:=cn λ(neg:Bool) (l:List Int)=>lf (aQ l) [.d y3Y (ah (bZ neg (val l)))] λh=>by
 refine aA sD (RH neg l) ⟨0,?_⟩;have hv:=aP h.1
 have hp:D' (((ae (val l).toNat).length:Int)>0)=D' (0<val l):=by
  refine aqg.2 ⟨λg=>?_,λg=>?_⟩
  ·apply an9;intro hc;rw[show(val l).toNat=0 by omega,fH]at g;simp at g
  ·have:ae (val l).toNat≠[]:=λe=>by rw[gQ]at e;omega
   have:=aoy.2 this;omega
 unfold RH;rw[anO h,nf neg hv,hp];cases neg<;>rfl
theorem Bt(a b:List Int)(ha:jw a)(hb:jw b)(hab:b.length<=a.length):∀(j i:Nat) (c:Int) (r:List Int),i+j=a.length->0<=c->c<=1->Lim r->r.length=a.length+1->(∀k (hk:k<r.length),i<=k->r[k]=0)->val r+pw i*c=val (a.take i)+val (b.take i)->
  xH.Runs 16 (kU a b r c (i:Int)) [.d ard (ae (val a+val b).toNat)]:=by
 have hsa:=ha.2;intro j;induction j with
 |zero=>
  intro i c r hi c0 c1 hr hl hz hv;obtain rfl:i=a.length:=by omega
  have hir:a.length<r.length:=by omega
  have hr0:=hz _ hir (anT _)
  have e:val (r.set a.length c)=val a+val b:=by
   rw[fe hir,hr0];rw[ao1,aoI hab]at hv;grind
  refine sK _ _ _ _ _ ⟨0,?_⟩;unfold oG;rw[a8 (anT _),ak r,aE,anN hir];dsimp only;rw[anO (show aQ (r.set a.length c) from⟨hr.set _ ⟨c0,by omega⟩,by simp;omega⟩),e]
 |succ j ih=>
  intro i c r hi c0 c1 hr hl hz hv;have hia:i<a.length:=by omega
  have hir:i<r.length:=by omega
  have xa:=ha.1.get hia;have hr0:=hz i hir (anT _)
  have step:∀(t:Int),0<=t->t<2000000000->val (b.take (i+1))=val (b.take i)+pw i*(t-a[i]-c)->xH.Runs 16 (kU a b (r.set i (t%1000000000)) (t/1000000000) ((i+1:Nat):Int)) [.d ard (ae (val a+val b).toNat)]:=by
   intro t t0 t1 hb';refine ih (i+1) (t/1000000000) (r.set i (t%1000000000)) (by omega) (by omega) (by omega) (hr.set i ⟨by omega,by omega⟩) (by simpa using hl) (pB hz) ?_;rw[fe hir,hr0,bh hia,hb',bW];have:=Int.emod_add_mul_ediv t 1000000000;grind
  by_cases hib:i<b.length
  ·have xb:=hb.1.get hib;have ht:=bh hib;obtain⟨q,hq⟩:=step (c+a[i]+b[i]) (by omega) (by omega) (by rw[ht];grind);refine sK _ _ _ _ _ ⟨q,?_⟩;unfold oG;rw[aO hia,ak,anN hia,aO hib,ak,anN hib,ak r i,aE,anN hir];dsimp only;rw[cZ (x:=c+a[i]) (by omega) (by omega),cZ (x:=c+a[i]+b[i]) (by omega) (by omega),ju (by omega),gJ (by omega),cZ (x:=(c+a[i]+b[i])/1000000000) (by omega) (by omega),aT (by omega)];exact hq
  ·have ht:=kC (b:=b) (i:=i) (by omega);obtain⟨q,hq⟩:=step (c+a[i]) (by omega) (by omega) (by rw[ht];grind);refine sK _ _ _ _ _ ⟨q,?_⟩;unfold oG;rw[aO hia,ak,anN hia,a8 (show b.length<=i by omega),ak r i,aE,anN hir];dsimp only;rw[cZ (x:=c+a[i]) (by omega) (by omega),ju (by omega),gJ (by omega),cZ (x:=(c+a[i])/1000000000) (by omega) (by omega),aT (by omega)];exact hq
def agw:Cn 120 [ard,ard]:=cn λ(a b:List Int)=>lf (jw a/\jw b) [.d ard (ae (val a+val b).toNat)] λh=>by
 refine bj sD (show xH.Res _ _ _ from ?_);obtain⟨ha,hb⟩:=h;have hsa:=ha.2;have hsb:=hb.2;by_cases hc:a.length<b.length
 ·obtain⟨q,hq⟩:=Bt b a hb ha (by omega) b.length 0 0 (List.replicate (b.length+1) 0) (by omega) (by omega) (by omega) (Lim.rep _) (by simp) (λk hk _=>by simp) (by simp[val,gv]);refine Qz _ _ ⟨q,?_⟩;unfold HE;rw[aO hc,aT (by omega),t9 (by omega),aE,aqO (val a)];exact hq
 ·obtain⟨q,hq⟩:=Bt a b ha hb (by omega) a.length 0 0 (List.replicate (a.length+1) 0) (by omega) (by omega) (by omega) (Lim.rep _) (by simp) (λk hk _=>by simp) (by simp[val,gv]);refine Qz _ _ ⟨q,?_⟩;unfold HE;rw[a8 (by omega),aT (k:=a.length) (by omega),t9 (n:=a.length+1) (by omega),aE];exact hq
theorem Ma(a b:List Int)(ha:aQ a)(hb:aQ b)(hle:val b<=val a):∀(j i:Nat) (c:Int) (r:List Int),i+j=a.length->0<=c->c<=1->Lim r->r.length=a.length->(∀k (hk:k<r.length),i<=k->r[k]=0)->val r+val (b.take i)=val (a.take i)+pw i*c->
  yV.Runs 10 (jD a b (i:Int) r c) [.d ard (ae (val a-val b).toNat)]:=by
 have hsa:=ha.2;intro j;induction j with
 |zero=>
  intro i c r hi c0 c1 hr hl hz hv;obtain rfl:i=a.length:=by omega
  refine lh _ _ _ _ _ ⟨0,?_⟩;unfold iZ;rw[a8 (anT _)];have hrl:=bU hr;rw[hl]at hrl;have hb2:val b=val (b.take a.length)+pw (min a.length b.length)*val (b.drop a.length):=fT b a.length;have hbd:0<=val (b.drop a.length):=aP (hb.1.drop _);have hal:=bU ha.1;have hbt:=aP (hb.1.take a.length);rw[ao1]at hv
  have hz0:val (b.drop a.length)=0:=by
   rcases aov a.length b.length with h1|h1
   ·rw[aor (by omega)]at hb2;rcases aoj 0 (val (b.drop a.length))with h2|h2
    ·have hp:=cg a.length;have:=anV (show 1<=val (b.drop a.length) by omega) (aow hp);omega
    ·omega
   ·rw[aou h1];rfl
  rw[hz0,aqw,aq3]at hb2
  have hc0:c=0:=by
   have hp:=cg a.length;rcases(show c=0\/c=1 by omega)with h|h
   ·exact h
   ·subst h;rw[aqv]at hv;omega
  subst hc0;rw[aqw]at hv;rw[anO (show aQ r from⟨hr,by omega⟩),show val r=val a-val b by omega]
 |succ j ih=>
  intro i c r hi c0 c1 hr hl hz hv;have hia:i<a.length:=by omega
  have hir:i<r.length:=by omega
  have xa:=ha.1.get hia;have hr0:=hz i hir (anT _)
  have step:∀(y c':Int),0<=y->y<1000000000->0<=c'->c'<=1->val (b.take (i+1))=val (b.take i)+pw i*(a[i]+1000000000*c'-y-c)->yV.Runs 10 (jD a b ((i+1:Nat):Int) (r.set i y) c') [.d ard (ae (val a-val b).toNat)]:=by
   intro y c' y0 y1 k0 k1 hb';refine ih (i+1) c' (r.set i y) (by omega) k0 k1 (hr.set i ⟨y0,y1⟩) (by simpa using hl) (pB hz) ?_;rw[fe hir,hr0,bh hia,hb',bW];grind
  by_cases hib:i<b.length
  ·have xb:=hb.1.get hib;have ht:=bh hib;by_cases hc:a[i]+1000000000-c-b[i]>=1000000000
   ·obtain⟨q,hq⟩:=step (a[i]+1000000000-c-b[i]-1000000000) 0 (by omega) (by omega) (by omega) (by omega) (by rw[ht];grind);refine lh _ _ _ _ _ ⟨q,?_⟩;unfold iZ;rw[aO hia,ak,anN hia,aO hib,ak,anN hib,ak,aE,anN hir];dsimp only;rw[cZ (x:=a[i]+1000000000) (by omega) (by omega),cZ (x:=a[i]+1000000000-c) (by omega) (by omega),cZ (x:=a[i]+1000000000-c-b[i]) (by omega) (by omega),anO hc,cZ (x:=a[i]+1000000000-c-b[i]-1000000000) (by omega) (by omega),aT (by omega)];exact hq
   ·obtain⟨q,hq⟩:=step (a[i]+1000000000-c-b[i]) 1 (by omega) (by omega) (by omega) (by omega) (by rw[ht];grind);refine lh _ _ _ _ _ ⟨q,?_⟩;unfold iZ;rw[aO hia,ak,anN hia,aO hib,ak,anN hib,ak,aE,anN hir];dsimp only;rw[cZ (x:=a[i]+1000000000) (by omega) (by omega),cZ (x:=a[i]+1000000000-c) (by omega) (by omega),cZ (x:=a[i]+1000000000-c-b[i]) (by omega) (by omega),anQ hc,aT (by omega)];exact hq
  ·have ht:=kC (b:=b) (i:=i) (by omega);by_cases hc:a[i]+1000000000-c>=1000000000
   ·obtain⟨q,hq⟩:=step (a[i]+1000000000-c-1000000000) 0 (by omega) (by omega) (by omega) (by omega) (by rw[ht];grind);refine lh _ _ _ _ _ ⟨q,?_⟩;unfold iZ;rw[aO hia,ak,anN hia,a8 (show b.length<=i by omega),ak r i,aE,anN hir];dsimp only;rw[cZ (x:=a[i]+1000000000) (by omega) (by omega),cZ (x:=a[i]+1000000000-c) (by omega) (by omega),anO hc,cZ (x:=a[i]+1000000000-c-1000000000) (by omega) (by omega),aT (by omega)];exact hq
   ·obtain⟨q,hq⟩:=step (a[i]+1000000000-c) 1 (by omega) (by omega) (by omega) (by omega) (by rw[ht];grind);refine lh _ _ _ _ _ ⟨q,?_⟩;unfold iZ;rw[aO hia,ak,anN hia,a8 (show b.length<=i by omega),ak r i,aE,anN hir];dsimp only;rw[cZ (x:=a[i]+1000000000) (by omega) (by omega),cZ (x:=a[i]+1000000000-c) (by omega) (by omega),anQ hc,aT (by omega)];exact hq
def IY:Cn 121 [ard,ard]:=cn λ(a b:List Int)=>lf (oZ a b) [.d ard (ae (val a-val b).toNat)] λh=>by
 refine bj sD (show yV.Res _ _ _ from ?_);obtain⟨ha,hb,hle⟩:=h;have hsa:=ha.2;obtain⟨q,hq⟩:=Ma a b ha hb hle a.length 0 0 (List.replicate a.length 0) (by omega) (by omega) (by omega) (Lim.rep _) (by simp) (λk hk _=>by simp) (by simp[val,gv]);refine acS _ _ ⟨q,?_⟩;unfold Ru;rw[t9 (by omega),aE];exact hq
theorem Ik(a b:List Int)(ha:jw a)(hb:jw b)(i:Nat)(hi:i<a.length)
  (hout:∀r,Lim r->r.length=a.length+b.length->(∀k (hk:k<r.length),i+1+b.length<=k->r[k]=0)->val r=val (a.take (i+1))*val b->rM.Runs 8 (sP a b ((i+1:Nat):Int) r) [.d ard (ae (val a*val b).toNat)]):
  ∀(j k:Nat) (c:Int) (r:List Int),k+j=b.length->0<=c->c<1000000000->Lim r->r.length=a.length+b.length->(∀q (hq:q<r.length),i+b.length<=q->r[q]=0)->val r+pw (i+k)*c=val (a.take i)*val b+pw i*a[i]*val (b.take k)->
  rM.Runs 23 (sT a b (i:Int) c (k:Int) r) [.d ard (ae (val a*val b).toNat)]:=by
 have hsa:=ha.2;have hsb:=hb.2;have xa:=ha.1.get hi;intro j;induction j with
 |zero=>
  intro k c r hk c0 c1 hr hl hz hv;obtain rfl:k=b.length:=by omega
  have hir:i+b.length<r.length:=by omega
  have hr0:=hz _ hir (anT _)
  obtain⟨q,hq⟩:=hout (r.set (i+b.length) c) (hr.set _ ⟨c0,c1⟩) (by simpa using hl) (by rw[show i+1+b.length=i+b.length+1 by omega];exact pB hz) (by
   rw[fe hir,hr0,bh hi];rw[ao1]at hv;grind)
  refine yb _ _ _ _ _ _ ⟨q,?_⟩;have hw:i64.wrap ((i:Int)+(b.length:Int))=((i+b.length:Nat):Int):=by rw[aM (by omega) (by omega)];simp
  unfold sG;rw[a8 (anT _),hw,ak r (i+b.length),aE,anN hir,cZ (x:=c) (by omega) (by omega),aT (k:=i) (by omega)];exact hq
 |succ j ih=>
  intro k c r hk c0 c1 hr hl hz hv;have hkb:k<b.length:=by omega
  have hir:i+k<r.length:=by omega
  have xb:=hb.1.get hkb;have xr:=hr.get hir;have hbd:=IH xr xa xb ⟨c0,c1⟩
  obtain⟨q,hq⟩:=ih (k+1) ((r[i+k]+a[i]*b[k]+c)/1000000000) (r.set (i+k) ((r[i+k]+a[i]*b[k]+c)%1000000000)) (by omega) hbd.2.2.1 hbd.2.2.2 (hr.set _ (by omega)) (by simpa using hl)
   (λm hm hq=>by rw[apa (by omega)];exact hz m (by simpa using hm) hq) (by
    rw[fe hir,bh hkb,show i+(k+1)=i+k+1 by omega,bW,fo];rw[fo]at hv;have e:=Int.emod_add_mul_ediv (r[i+k]+a[i]*b[k]+c) 1000000000;grind)
  refine yb _ _ _ _ _ _ ⟨q,?_⟩;have hw:i64.wrap ((i:Int)+(k:Int))=((i+k:Nat):Int):=by rw[aM (by omega) (by omega)];simp
  unfold sG;rw[aO hkb,hw,ak b k,anN hkb,ak a i,anN hi,ak r (i+k),aE,anN hir];dsimp only;rw[bI (x:=r[i+k]) (by omega) (by omega),bI (x:=a[i]) (by omega) (by omega),bI (x:=b[k]) (by omega) (by omega),bI (x:=a[i]*b[k]) (by omega) (by omega),bI (x:=c+r[i+k]) (by omega) (by omega),bI (x:=c+r[i+k]+a[i]*b[k]) (by omega) (by omega),show c+r[i+k]+a[i]*b[k]=r[i+k]+a[i]*b[k]+c by omega,gJ (a:=r[i+k]+a[i]*b[k]+c) (by omega),ju (a:=r[i+k]+a[i]*b[k]+c) (by omega),bI (x:=(r[i+k]+a[i]*b[k]+c)/1000000000) (by omega) (by omega),cZ (x:=(r[i+k]+a[i]*b[k]+c)%1000000000) (by omega) (by omega),aT (k:=k) (by omega)];exact hq
theorem HB(a b:List Int)(ha:jw a)(hb:jw b):∀(j i:Nat) (r:List Int),i+j=a.length->Lim r->r.length=a.length+b.length->(∀k (hk:k<r.length),i+b.length<=k->r[k]=0)->val r=val (a.take i)*val b->
  rM.Runs 8 (sP a b (i:Int) r) [.d ard (ae (val a*val b).toNat)]:=by
 have hsa:=ha.2;have hsb:=hb.2;intro j;induction j with
 |zero=>
  intro i r hi hr hl hz hv;obtain rfl:i=a.length:=by omega
  refine Au _ _ _ _ ⟨0,?_⟩;unfold vt;rw[ao1]at hv;rw[a8 (anT _),anO (show aQ r from⟨hr,by omega⟩),hv]
 |succ j ih=>
  intro i r hi hr hl hz hv;have hia:i<a.length:=by omega
  obtain⟨q,hq⟩:=Ik a b ha hb i hia (λr' h1 h2 h3 h4=>ih (i+1) r' (by omega) h1 h2 h3 h4) b.length 0 0 r (by omega) (by omega) (by omega) hr hl hz (by simp[val,hv]);refine Au _ _ _ _ ⟨q,?_⟩;grind [vt]
def aew:Cn 115 [ard,ard]:=cn λ(a b:List Int)=>lf (jw a/\jw b) [.d ard (ae (val a*val b).toNat)] λh=>by
 refine bj sD (show rM.Res _ _ _ from ?_);obtain⟨ha,hb⟩:=h;have hsa:=ha.2;have hsb:=hb.2;obtain⟨q,hq⟩:=HB a b ha hb a.length 0 (List.replicate (a.length+b.length) 0) (by omega) (Lim.rep _) (by simp) (λk hk _=>by simp) (by simp[val,gv]);refine afd _ _ ⟨q,?_⟩;have hw:i64.wrap ((a.length:Int)+(b.length:Int))=((a.length+b.length:Nat):Int):=by rw[aM (by omega) (by omega)];simp
 unfold Tv;rw[hw,t9 (by omega),aE];exact hq
theorem tb{x:BI}(h:okI x):jw x.2:=⟨h.1.1,by have:=h.2.2;omega⟩
theorem VM(a b:Int):D' (b8 a b>=0)=D' (b<=a):=by grind [c9,dV,cH]
theorem xX(a b:Int):D' (b8 a b>0)=D' (b<a):=by grind [c9,dV,cH]
def qh:List En:=[enK z0,enK Cu,enF Di,enF yH,enK IU,enK agw,enK IY,enK aew]
def RU(n:Int)(_k:KT):OLR:=match D' (n<0)with|T'=>(match D' (iH (u64.wrap (0-(u64.wrap n))))with|T'=>(match D' (aQ (ae (u64.wrap (0-(u64.wrap n))).toNat))with|T'=>S' [RV.d y3Y (ah (bZ T' (val (ae (u64.wrap (0-(u64.wrap n))).toNat))))]|F'=>N')|F'=>N')|F'=>(match D' (iH (u64.wrap n))with|T'=>(match D' (aQ (ae (u64.wrap n).toNat))with|T'=>S' [RV.d y3Y (ah (bZ F' (val (ae (u64.wrap n).toNat))))]|F'=>N')|F'=>N')
def Ql(x:Bool×List Int)(_k:KT):OLR:=match(x.2.length:Int)==0 with|T'=>S' [RV.d arf 0]|F'=>(match x.1 with|T'=>S' [RV.d arf (-1)]|F'=>S' [RV.d arf 1])
def Pj(x y:Bool×List Int)(_k:KT):OLR:=match !(x.1==y.1)with|T'=>(match x.1 with|T'=>S' [RV.d arf (-1)]|F'=>S' [RV.d arf 1])|F'=>(match x.1 with|T'=>(og (D' (sL y.2 x.2)) (S' [RV.d arf (b8 (val y.2) (val x.2))]))|F'=>(og (D' (sL x.2 y.2)) (S' [RV.d arf (b8 (val x.2) (val y.2))])))
def Qp(x y:Bool×List Int)(_k:KT):OLR:=match x.1==y.1 with|T'=>(og (D' (jw x.2/\jw y.2)) (og (D' (aQ (ae (val x.2+val y.2).toNat))) (S' [RV.d y3Y (ah (bZ x.1 (val (ae (val x.2+val y.2).toNat))))])))|F'=>(og (D' (sL x.2 y.2)) (match D' ((b8 (val x.2) (val y.2))>=0)with|T'=>(og (D' (oZ x.2 y.2)) (og (D' (aQ (ae (val x.2-val y.2).toNat))) (S' [RV.d y3Y (ah (bZ x.1 (val (ae (val x.2-val y.2).toNat))))])))|F'=>(og (D' (oZ y.2 x.2)) (og (D' (aQ (ae (val y.2-val x.2).toNat))) (S' [RV.d y3Y (ah (bZ y.1 (val (ae (val y.2-val x.2).toNat))))])))))
def SJ(x:Bool×List Int)(_k:KT):OLR:=og (D' (aQ x.2)) (S' [RV.d y3Y (ah (bZ (!x.1) (val x.2)))])
def Tc(x y:Bool×List Int)(_k:KT):OLR:=og (D' (jw x.2/\jw y.2)) (og (D' (aQ (ae (val x.2*val y.2).toNat))) (S' [RV.d y3Y (ah (bZ (!(x.1==y.1)) (val (ae (val x.2*val y.2).toNat))))]))
def aa6(a:List Int)(n:Int)(_k:KT):OLR:=og (D' (aQ ([n]))) (og (D' (jw a/\jw (ae (val ([n])).toNat))) (S' [RV.d ard (ae (val a*val (ae (val ([n])).toNat)).toNat)]))
def Cy:Cn 70 [arf]:=cn λ(n:Int)=>lf (bH n) [.d y3Y (ah n)] λh=>by
 refine aA qh (RU n) ⟨0,?_⟩;have h1:=h.1;have h2:=h.2;unfold RU;by_cases hn:n<0
 ·have e:u64.wrap (0-u64.wrap n)= -n:=by rw[aoD,aoD];omega
  have hl:(ae (-n).toNat).length<=3:=cq (by omega) (aqn (show-n<18446744073709551616 by omega) (by decide));rw[anO hn];dsimp only;rw[e,anO (show iH (-n) from⟨by omega,by omega⟩),anO (ct (n:=(-n).toNat) (by omega)),bS (v:= -n) (by omega)];dsimp only;rw[show bZ T' (-n)=n by unfold bZ;simp]
 ·have e:u64.wrap n=n:=bI (by omega) (by omega);have hl:(ae n.toNat).length<=3:=cq (by omega) (aqn (show n<18446744073709551616 by omega) (by decide));rw[anQ hn];dsimp only;rw[e,anO (show iH n from⟨by omega,by omega⟩),anO (ct (n:=n.toNat) (by omega)),bS (v:=n) (by omega)];rfl
def O3:Cn 52 [y3Y]:=cn λ(x:Bool×List Int)=>lf (okI x) [.d arf (b8 (ab x) 0)] λh=>by
 refine aA qh (Ql x) ⟨0,?_⟩;obtain⟨h0,h1,h2⟩:=cp h;unfold Ql;rw[bO];unfold bZ;by_cases he:x.2=[]
 ·have e0:=h2.1 he
  have ex:x.1=false:=by
   cases hx:x.1
   ·rfl
   ·have:=h1 hx;omega
  rw[ex,e0,he];rfl
 ·have hp:0<val x.2:=eD h.1 he;have:=aoy.2 he;rw[show((x.2.length:Int)==0)=F' by simp;omega];cases x.1
  ·simp only[cond_false];rw[cH hp]
  ·simp only[cond_true];rw[c9 (by omega)]
def Uj:Cn 50 [y3Y,y3Y]:=cn λ(x y:Bool×List Int)=>lf (okI x/\okI y) [.d arf (b8 (ab x) (ab y))] λh=>by
 refine aA qh (Pj x y) ⟨0,?_⟩;obtain⟨hx,hy⟩:=h;obtain⟨x0,x1,x2⟩:=cp hx;obtain⟨y0,y1,y2⟩:=cp hy;have sx:=hx.2.2;have sy:=hy.2.2;unfold Pj;rw[bO,bO,anO (show sL y.2 x.2 from⟨⟨hy.1,by omega⟩,hx.1,by omega⟩),anO (show sL x.2 y.2 from⟨⟨hx.1,by omega⟩,hy.1,by omega⟩)];unfold bZ;cases ex:x.1<;>cases ey:y.1
 ·rfl
 ·have:=y1 ey;simp only[cond_true,cond_false];rw[show b8 (val x.2) (-val y.2)=1 from cH (by omega)];rfl
 ·have:=x1 ex;simp only[cond_true,cond_false];rw[show b8 (-val x.2) (val y.2)= -1 from c9 (by omega)];rfl
 ·simp only[cond_true];rw[JP x0 y0];rfl
def CT:Cn 56 [y3Y,y3Y]:=cn λ(x y:Bool×List Int)=>lf (okI x/\okI y) [.d y3Y (ah (ab x+ab y))] λh=>by
 refine aA qh (Qp x y) ⟨0,?_⟩;obtain⟨hx,hy⟩:=h;obtain⟨x0,x1,x2⟩:=cp hx;obtain⟨y0,y1,y2⟩:=cp hy;have lx:=fu hx;have ly:=fu hy;have tx:=tb hx;have ty:=tb hy;have sx:=hx.2.2;have sy:=hy.2.2;have bx:=bU hx.1.1;have by':=bU hy.1.1;have px:=du (show x.2.length<=1000000 by omega);have py:=du (show y.2.length<=1000000 by omega);have l1:(ae (val x.2+val y.2).toNat).length<=1000001:=cq (by omega) (by rw[bW];omega);have l2:(ae (val x.2-val y.2).toNat).length<=1000000:=dl (by have:=cg 1000000;omega);have l3:(ae (val y.2-val x.2).toNat).length<=1000000:=dl (by have:=cg 1000000;omega);unfold Qp
 rw[bO,bO,anO (show jw x.2/\jw y.2 from⟨tx,ty⟩),anO (ct (n:=(val x.2+val y.2).toNat) (by omega)),anO (ct (n:=(val x.2-val y.2).toNat) (by omega)),anO (ct (n:=(val y.2-val x.2).toNat) (by omega)),bS (v:=val x.2+val y.2) (by omega),
  anO (show sL x.2 y.2 from⟨⟨hx.1,by omega⟩,hy.1,by omega⟩),VM]
 cases hs:x.1==y.1
 ·dsimp only;rcases aoj (val x.2) (val y.2)with hc|hc
  ·rw[anQ (show ¬val y.2<=val x.2 by omega),anO (show oZ y.2 x.2 from⟨ly,lx,by omega⟩),bS (v:=val y.2-val x.2) (by omega)];dsimp only;unfold bZ;cases ex:x.1<;>cases ey:y.1<;>simp_all<;>congr 2<;>omega
  ·rw[anO hc,anO (show oZ x.2 y.2 from⟨lx,ly,hc⟩),bS (v:=val x.2-val y.2) (by omega)];dsimp only;unfold bZ;cases ex:x.1<;>cases ey:y.1<;>simp_all<;>congr 2<;>omega
 ·dsimp only;have e:=aos.1 hs;rw[<-e];unfold bZ;cases x.1
  ·rfl
  ·simp only[cond_true];rw[show-(val x.2+val y.2)= -val x.2+ -val y.2 by omega]
def TH:Cn 117 [y3Y]:=cn λ(x:Bool×List Int)=>lf (okI x) [.d y3Y (ah (-ab x))] λh=>by
 refine aA qh (SJ x) ⟨0,?_⟩;unfold SJ;rw[bO,anO (fu h)];unfold bZ;cases x.1<;>simp
def Py:Cn 51 [y3Y,y3Y]:=cn λ(x y:Bool×List Int)=>lf (okI x/\okI y) [.d y3Y (ah (ab x*ab y))] λh=>by
 refine aA qh (Tc x y) ⟨0,?_⟩;obtain⟨hx,hy⟩:=h;obtain⟨x0,x1,x2⟩:=cp hx;obtain⟨y0,y1,y2⟩:=cp hy;have bx:=bU hx.1.1;have by':=bU hy.1.1;have sx:=hx.2.2;have sy:=hy.2.2;have hm:0<=val x.2*val y.2:=aoL x0 y0
 have l1:(ae (val x.2*val y.2).toNat).length<=x.2.length+y.2.length:=cq hm (by
  rw[fo];have p1:=cg x.2.length;have p2:=cg y.2.length;have:=ap5 (show val x.2<=pw x.2.length-1 by omega) (show val y.2<=pw y.2.length-1 by omega) y0 (by omega);grind)
 unfold Tc;rw[bO,bO,anO (show jw x.2/\jw y.2 from⟨tb hx,tb hy⟩),anO (ct (n:=(val x.2*val y.2).toNat) (by omega)),bS hm];unfold bZ;cases x.1<;>cases y.1<;>simp[Int.neg_mul,aqX]
def byP(a:List Int)(n:Int):Prop:=jw a/\0<=n/\n<1000000000
instance (a:List Int) (n:Int):Decidable (byP a n):=by unfold byP;infer_instance
def Zq:Cn 274 [ard,arg]:=cn λ(a:List Int) (n:Int)=>lf (byP a n) [.d ard (ae (val a*n).toNat)] λh=>by
 refine aA qh (aa6 a n) ⟨0,?_⟩;obtain⟨ha,h1,h2⟩:=h;have hl:(ae n.toNat).length<=1:=cq (by omega) (by show n<pw 1;simp[pw];exact h2);have e:val [n]=n:=by simp[val]
 unfold aa6;rw[e,anO (show aQ [n] from⟨Lim.cons ⟨by omega,h2⟩ Lim.nil,by simp⟩),anO (show jw a/\jw (ae n.toNat) from⟨ha,bV _,by omega⟩),bS (by omega)]
def aeH:List En:=enK CT::enK TH::qh
def Sj(x y:Bool×List Int)(_k:KT):OLR:=og (D' (okI y)) (og (D' (okI x/\okI (ah (-ab y)))) (S' [RV.d y3Y (ah (ab x+ab (ah (-ab y))))]))
def acv:Cn 200 [y3Y,y3Y]:=cn λ(x y:Bool×List Int)=>lf (okI x/\okI y) [.d y3Y (ah (ab x-ab y))] λh=>by
 refine aA aeH (Sj x y) ⟨0,?_⟩;obtain⟨hx,hy⟩:=h;unfold Sj;rw[anO hy,anO (show okI x/\okI (ah (-ab y)) from⟨hx,aS (by rw[jc];exact iS hy)⟩),dec_enc,Int.sub_eq_add_neg]
section
def Gx(a b:List Int):Prop:=(can a/\a.length<=1000000)/\(can b/\b.length<=1000000)/\b≠[]
instance (a b:List Int):Decidable (Gx a b):=by unfold Gx;infer_instance
def Sz:List En:=[enK z0,enK Cu,enF Di,enF yH,enK Zq,enK IY]
def UZ:NT:=[((198,30),{keep:=[8,9,10,11,12,13,14],pure_:=[(11,.int .u32)],hl:=1}),((198,67),{keep:=[8,9,10,11,12,13,14,16,17],pure_:=[(17,.int .u32)],hl:=1}),((198,90),{keep:=[8,11,12,18,19,20],hl:=2})]
def jU:Ctx:=CX (ens Sz) UZ
def kL(a b:List Int)(x1 x2:Int)(s11:List Int)(s14:Int)(r0:List Int):Cfg:=⟨198,[.blk 0,.seq 82],[(8,.d arg (u32.wrap (u64.wrap (Int.tdiv 1000000000 (u64.wrap ((u64.wrap x1)+1)))))),(9,.d ard (ae (val b*(u32.wrap (u64.wrap (Int.tdiv 1000000000 (u64.wrap ((u64.wrap x1)+1)))))).toNat)),(10,.d (.int .u64) (u64.wrap x2)),(11,.d ard s11),(12,.osl 0 1 ((0:Int).toNat) ((((ae (val a*(u32.wrap (u64.wrap (Int.tdiv 1000000000 (u64.wrap ((u64.wrap x1)+1)))))).toNat).length:Int):Int).toNat-(0:Int).toNat)),(13,.d ard (ae (val a*(u32.wrap (u64.wrap (Int.tdiv 1000000000 (u64.wrap ((u64.wrap x1)+1)))))).toNat)),(14,SI s14)],[.row 194 arg r0],0,[]⟩
def eV(a b:List Int)(x1 x2:Int)(s11:List Int)(s14:Int)(r0:List Int)(x3 s16:Int)(s17:List Int):Cfg:=⟨198,[.blk 2,.seq 78,.blk 1,.seq 81,.lp 30,.blk 0,.seq 82],[(8,.d arg (u32.wrap (u64.wrap (Int.tdiv 1000000000 (u64.wrap ((u64.wrap x1)+1)))))),(9,.d ard (ae (val b*(u32.wrap (u64.wrap (Int.tdiv 1000000000 (u64.wrap ((u64.wrap x1)+1)))))).toNat)),(10,.d (.int .u64) (u64.wrap x2)),(11,.d ard (ae (val (([x3])++s11)).toNat)),(12,.osl 0 1 ((0:Int).toNat) ((((ae (val a*(u32.wrap (u64.wrap (Int.tdiv 1000000000 (u64.wrap ((u64.wrap x1)+1)))))).toNat).length:Int):Int).toNat-(0:Int).toNat)),(13,.d ard (ae (val a*(u32.wrap (u64.wrap (Int.tdiv 1000000000 (u64.wrap ((u64.wrap x1)+1)))))).toNat)),(14,SI s14),(16,.d (.int .u64) s16),(17,.d ard s17)],[.row 194 arg r0],0,[]⟩
def ug(a:List Int)(x1:Int)(s11 r0:List Int)(s18 s20:Int)(r1:List Int):Cfg:=⟨198,[.blk 4,.seq 105],[(8,.d arg (u32.wrap (u64.wrap (Int.tdiv 1000000000 (u64.wrap ((u64.wrap x1)+1)))))),(11,.d ard s11),(12,.osl 0 1 ((0:Int).toNat) ((((ae (val a*(u32.wrap (u64.wrap (Int.tdiv 1000000000 (u64.wrap ((u64.wrap x1)+1)))))).toNat).length:Int):Int).toNat-(0:Int).toNat)),(18,.d (.int .u64) s18),(19,.own 1),(20,SI s20)],[.row 194 arg r0,.row 194 arg r1],0,[]⟩
def IF(a b:List Int)(k:KT):OLR:=match D' ((a.length:Int)<=2)with|T'=>(match D' ((b.length:Int)<=2)with|T'=>(og (D' (sQ a)) (og (D' (sQ b)) (match D' (val b=(0:Int))with|T'=>N'|F'=>(match D' (val b=(0:Int))with|T'=>N'|F'=>(og (D' (iH (u64.wrap (Int.tdiv (val a) (val b))))) (og (D' (iH (Int.tmod (val a) (val b)))) (S' [RV.d ard (ae (u64.wrap (Int.tdiv (val a) (val b))).toNat),RV.d ard (ae (Int.tmod (val a) (val b)).toNat)])))))))|F'=>(match aH b (i64.wrap ((b.length:Int)-1))with|S' x1=>(match D' (u64.wrap ((u64.wrap x1)+1)=(0:Int))with|T'=>N'|F'=>(og (D' (byP b (u32.wrap (u64.wrap (Int.tdiv 1000000000 (u64.wrap ((u64.wrap x1)+1))))))) (match aH (ae (val b*(u32.wrap (u64.wrap (Int.tdiv 1000000000 (u64.wrap ((u64.wrap x1)+1)))))).toNat) (i64.wrap (((ae (val b*(u32.wrap (u64.wrap (Int.tdiv 1000000000 (u64.wrap ((u64.wrap x1)+1)))))).toNat).length:Int)-1))with|S' x2=>(og (D' ((0:Int)<=i64.wrap ((a.length:Int)+1)/\(i64.wrap ((a.length:Int)+1))*((4:Nat):Int)<=140737488355328/\i64.wrap ((a.length:Int)+1)<=140737488355328)) (og (D' (byP a (u32.wrap (u64.wrap (Int.tdiv 1000000000 (u64.wrap ((u64.wrap x1)+1))))))) (og (D' ((0:Int)<=0/\0<=((ae (val a*(u32.wrap (u64.wrap (Int.tdiv 1000000000 (u64.wrap ((u64.wrap x1)+1)))))).toNat).length:Int)/\((ae (val a*(u32.wrap (u64.wrap (Int.tdiv 1000000000 (u64.wrap ((u64.wrap x1)+1)))))).toNat).length:Int)<=((List.replicate (i64.wrap ((a.length:Int)+1)).toNat (0:Int)).length:Int))) (k 30 (kL a b x1 x2 ([]) (i64.wrap (((ae (val a*(u32.wrap (u64.wrap (Int.tdiv 1000000000 (u64.wrap ((u64.wrap x1)+1)))))).toNat).length:Int)-1)) (List.replicate (i64.wrap ((a.length:Int)+1)).toNat (0:Int)))))))|N'=>N')))|N'=>N'))|F'=>(match aH b (i64.wrap ((b.length:Int)-1))with|S' x1=>(match D' (u64.wrap ((u64.wrap x1)+1)=(0:Int))with|T'=>N'|F'=>(og (D' (byP b (u32.wrap (u64.wrap (Int.tdiv 1000000000 (u64.wrap ((u64.wrap x1)+1))))))) (match aH (ae (val b*(u32.wrap (u64.wrap (Int.tdiv 1000000000 (u64.wrap ((u64.wrap x1)+1)))))).toNat) (i64.wrap (((ae (val b*(u32.wrap (u64.wrap (Int.tdiv 1000000000 (u64.wrap ((u64.wrap x1)+1)))))).toNat).length:Int)-1))with|S' x2=>(og (D' ((0:Int)<=i64.wrap ((a.length:Int)+1)/\(i64.wrap ((a.length:Int)+1))*((4:Nat):Int)<=140737488355328/\i64.wrap ((a.length:Int)+1)<=140737488355328)) (og (D' (byP a (u32.wrap (u64.wrap (Int.tdiv 1000000000 (u64.wrap ((u64.wrap x1)+1))))))) (og (D' ((0:Int)<=0/\0<=((ae (val a*(u32.wrap (u64.wrap (Int.tdiv 1000000000 (u64.wrap ((u64.wrap x1)+1)))))).toNat).length:Int)/\((ae (val a*(u32.wrap (u64.wrap (Int.tdiv 1000000000 (u64.wrap ((u64.wrap x1)+1)))))).toNat).length:Int)<=((List.replicate (i64.wrap ((a.length:Int)+1)).toNat (0:Int)).length:Int))) (k 30 (kL a b x1 x2 ([]) (i64.wrap (((ae (val a*(u32.wrap (u64.wrap (Int.tdiv 1000000000 (u64.wrap ((u64.wrap x1)+1)))))).toNat).length:Int)-1)) (List.replicate (i64.wrap ((a.length:Int)+1)).toNat (0:Int)))))))|N'=>N')))|N'=>N')
theorem ON(a b:List Int):RS jU 198 [.d ard a,.d ard b] (IF a b):=rsX
def kR(a b:List Int)(x1 x2:Int)(s11:List Int)(s14:Int)(r0:List Int)(k:KT):OLR:=match D' (s14>=0)with|T'=>(match aH (ae (val a*(u32.wrap (u64.wrap (Int.tdiv 1000000000 (u64.wrap ((u64.wrap x1)+1)))))).toNat) s14 with|S' x3=>(og (D' ((([x3]).length+s11.length)*4<=140737488355328/\([x3]).length+s11.length<=140737488355328)) (og (D' (aQ (([x3])++s11))) (match D' (((ae (val (([x3])++s11)).toNat).length:Int)>((ae (val b*(u32.wrap (u64.wrap (Int.tdiv 1000000000 (u64.wrap ((u64.wrap x1)+1)))))).toNat).length:Int))with|T'=>(match aH (ae (val (([x3])++s11)).toNat) ((ae (val b*(u32.wrap (u64.wrap (Int.tdiv 1000000000 (u64.wrap ((u64.wrap x1)+1)))))).toNat).length:Int)with|S' x4=>(match D' (((ae (val (([x3])++s11)).toNat).length:Int)>=((ae (val b*(u32.wrap (u64.wrap (Int.tdiv 1000000000 (u64.wrap ((u64.wrap x1)+1)))))).toNat).length:Int))with|T'=>(match aH (ae (val (([x3])++s11)).toNat) (i64.wrap (((ae (val b*(u32.wrap (u64.wrap (Int.tdiv 1000000000 (u64.wrap ((u64.wrap x1)+1)))))).toNat).length:Int)-1))with|S' x5=>(match D' (u64.wrap x2=(0:Int))with|T'=>N'|F'=>(match D' ((u64.wrap (Int.tdiv (u64.wrap ((u64.wrap ((u64.wrap x4)*1000000000))+(u64.wrap x5))) (u64.wrap x2)))>999999999)with|T'=>(og (D' (byP (ae (val b*(u32.wrap (u64.wrap (Int.tdiv 1000000000 (u64.wrap ((u64.wrap x1)+1)))))).toNat) (u32.wrap 999999999))) (k 67 (eV a b x1 x2 s11 s14 r0 x3 999999999 (ae (val (ae (val b*(u32.wrap (u64.wrap (Int.tdiv 1000000000 (u64.wrap ((u64.wrap x1)+1)))))).toNat)*(u32.wrap 999999999)).toNat))))|F'=>(og (D' (byP (ae (val b*(u32.wrap (u64.wrap (Int.tdiv 1000000000 (u64.wrap ((u64.wrap x1)+1)))))).toNat) (u32.wrap (u64.wrap (Int.tdiv (u64.wrap ((u64.wrap ((u64.wrap x4)*1000000000))+(u64.wrap x5))) (u64.wrap x2)))))) (k 67 (eV a b x1 x2 s11 s14 r0 x3 (u64.wrap (Int.tdiv (u64.wrap ((u64.wrap ((u64.wrap x4)*1000000000))+(u64.wrap x5))) (u64.wrap x2))) (ae (val (ae (val b*(u32.wrap (u64.wrap (Int.tdiv 1000000000 (u64.wrap ((u64.wrap x1)+1)))))).toNat)*(u32.wrap (u64.wrap (Int.tdiv (u64.wrap ((u64.wrap ((u64.wrap x4)*1000000000))+(u64.wrap x5))) (u64.wrap x2))))).toNat))))))|N'=>N')|F'=>(match D' (u64.wrap x2=(0:Int))with|T'=>N'|F'=>(match D' ((u64.wrap (Int.tdiv (u64.wrap ((u64.wrap x4)*1000000000)) (u64.wrap x2)))>999999999)with|T'=>(og (D' (byP (ae (val b*(u32.wrap (u64.wrap (Int.tdiv 1000000000 (u64.wrap ((u64.wrap x1)+1)))))).toNat) (u32.wrap 999999999))) (k 67 (eV a b x1 x2 s11 s14 r0 x3 999999999 (ae (val (ae (val b*(u32.wrap (u64.wrap (Int.tdiv 1000000000 (u64.wrap ((u64.wrap x1)+1)))))).toNat)*(u32.wrap 999999999)).toNat))))|F'=>(og (D' (byP (ae (val b*(u32.wrap (u64.wrap (Int.tdiv 1000000000 (u64.wrap ((u64.wrap x1)+1)))))).toNat) (u32.wrap (u64.wrap (Int.tdiv (u64.wrap ((u64.wrap x4)*1000000000)) (u64.wrap x2)))))) (k 67 (eV a b x1 x2 s11 s14 r0 x3 (u64.wrap (Int.tdiv (u64.wrap ((u64.wrap x4)*1000000000)) (u64.wrap x2))) (ae (val (ae (val b*(u32.wrap (u64.wrap (Int.tdiv 1000000000 (u64.wrap ((u64.wrap x1)+1)))))).toNat)*(u32.wrap (u64.wrap (Int.tdiv (u64.wrap ((u64.wrap x4)*1000000000)) (u64.wrap x2))))).toNat)))))))|N'=>N')|F'=>(match D' (((ae (val (([x3])++s11)).toNat).length:Int)>=((ae (val b*(u32.wrap (u64.wrap (Int.tdiv 1000000000 (u64.wrap ((u64.wrap x1)+1)))))).toNat).length:Int))with|T'=>(match aH (ae (val (([x3])++s11)).toNat) (i64.wrap (((ae (val b*(u32.wrap (u64.wrap (Int.tdiv 1000000000 (u64.wrap ((u64.wrap x1)+1)))))).toNat).length:Int)-1))with|S' x4=>(match D' (u64.wrap x2=(0:Int))with|T'=>N'|F'=>(match D' ((u64.wrap (Int.tdiv (u64.wrap (0+(u64.wrap x4))) (u64.wrap x2)))>999999999)with|T'=>(og (D' (byP (ae (val b*(u32.wrap (u64.wrap (Int.tdiv 1000000000 (u64.wrap ((u64.wrap x1)+1)))))).toNat) (u32.wrap 999999999))) (k 67 (eV a b x1 x2 s11 s14 r0 x3 999999999 (ae (val (ae (val b*(u32.wrap (u64.wrap (Int.tdiv 1000000000 (u64.wrap ((u64.wrap x1)+1)))))).toNat)*(u32.wrap 999999999)).toNat))))|F'=>(og (D' (byP (ae (val b*(u32.wrap (u64.wrap (Int.tdiv 1000000000 (u64.wrap ((u64.wrap x1)+1)))))).toNat) (u32.wrap (u64.wrap (Int.tdiv (u64.wrap (0+(u64.wrap x4))) (u64.wrap x2)))))) (k 67 (eV a b x1 x2 s11 s14 r0 x3 (u64.wrap (Int.tdiv (u64.wrap (0+(u64.wrap x4))) (u64.wrap x2))) (ae (val (ae (val b*(u32.wrap (u64.wrap (Int.tdiv 1000000000 (u64.wrap ((u64.wrap x1)+1)))))).toNat)*(u32.wrap (u64.wrap (Int.tdiv (u64.wrap (0+(u64.wrap x4))) (u64.wrap x2))))).toNat))))))|N'=>N')|F'=>(match D' (u64.wrap x2=(0:Int))with|T'=>N'|F'=>(match D' ((u64.wrap (Int.tdiv 0 (u64.wrap x2)))>999999999)with|T'=>(og (D' (byP (ae (val b*(u32.wrap (u64.wrap (Int.tdiv 1000000000 (u64.wrap ((u64.wrap x1)+1)))))).toNat) (u32.wrap 999999999))) (k 67 (eV a b x1 x2 s11 s14 r0 x3 999999999 (ae (val (ae (val b*(u32.wrap (u64.wrap (Int.tdiv 1000000000 (u64.wrap ((u64.wrap x1)+1)))))).toNat)*(u32.wrap 999999999)).toNat))))|F'=>(og (D' (byP (ae (val b*(u32.wrap (u64.wrap (Int.tdiv 1000000000 (u64.wrap ((u64.wrap x1)+1)))))).toNat) (u32.wrap (u64.wrap (Int.tdiv 0 (u64.wrap x2)))))) (k 67 (eV a b x1 x2 s11 s14 r0 x3 (u64.wrap (Int.tdiv 0 (u64.wrap x2))) (ae (val (ae (val b*(u32.wrap (u64.wrap (Int.tdiv 1000000000 (u64.wrap ((u64.wrap x1)+1)))))).toNat)*(u32.wrap (u64.wrap (Int.tdiv 0 (u64.wrap x2))))).toNat))))))))))|N'=>N')|F'=>(og (D' ((0:Int)<=(s11.length:Int)/\(s11.length:Int)*((4:Nat):Int)<=140737488355328/\(s11.length:Int)<=140737488355328)) (k 90 (ug a x1 s11 r0 0 (i64.wrap ((s11.length:Int)-1)) (List.replicate ((s11.length:Int)).toNat (0:Int)))))
theorem oe(a b:List Int)(x1 x2:Int)(s11:List Int)(s14:Int)(r0:List Int):RN jU 30 (kL a b x1 x2 s11 s14 r0) (kR a b x1 x2 s11 s14 r0):=rnX
def oF(a b:List Int)(x1 x2:Int)(s11:List Int)(s14:Int)(r0:List Int)(x3 s16:Int)(s17:List Int)(k:KT):OLR:=og (D' (sL s17 (ae (val (([x3])++s11)).toNat))) (match D' ((b8 (val s17) (val (ae (val (([x3])++s11)).toNat)))>0)with|T'=>(og (D' (oZ s17 (ae (val b*(u32.wrap (u64.wrap (Int.tdiv 1000000000 (u64.wrap ((u64.wrap x1)+1)))))).toNat))) (k 67 (eV a b x1 x2 s11 s14 r0 x3 (u64.wrap (s16-1)) (ae (val s17-val (ae (val b*(u32.wrap (u64.wrap (Int.tdiv 1000000000 (u64.wrap ((u64.wrap x1)+1)))))).toNat)).toNat))))|F'=>(og (D' (oZ (ae (val (([x3])++s11)).toNat) s17)) (match T',D' ((0:Int)<=s14/\s14<(((((ae (val a*(u32.wrap (u64.wrap (Int.tdiv 1000000000 (u64.wrap ((u64.wrap x1)+1)))))).toNat).length:Int):Int).toNat-(0:Int).toNat:Nat):Int))with|T',T'=>(match T',r0[(0:Int).toNat+(s14).toNat]? with|T',S' _=>k 30 (kL a b x1 x2 (ae (val (ae (val (([x3])++s11)).toNat)-val s17).toNat) (i64.wrap (s14-1)) (r0.set ((0:Int).toNat+(s14).toNat) (u32.wrap s16)))|_,_=>N')|_,_=>N')))
theorem sI(a b:List Int)(x1 x2:Int)(s11:List Int)(s14:Int)(r0:List Int)(x3 s16:Int)(s17:List Int):RN jU 67 (eV a b x1 x2 s11 s14 r0 x3 s16 s17) (oF a b x1 x2 s11 s14 r0 x3 s16 s17):=rnX
def rN(a:List Int)(x1:Int)(s11 r0:List Int)(s18 s20:Int)(r1:List Int)(k:KT):OLR:=match D' (s20>=0)with|T'=>(match aH s11 s20 with|S' x2=>(match D' (u64.wrap (u32.wrap (u64.wrap (Int.tdiv 1000000000 (u64.wrap ((u64.wrap x1)+1)))))=(0:Int))with|T'=>N'|F'=>(match aH r1 s20 with|S' _=>(match T',r1[(s20).toNat]? with|T',S' _=>(match D' (u64.wrap (u32.wrap (u64.wrap (Int.tdiv 1000000000 (u64.wrap ((u64.wrap x1)+1)))))=(0:Int))with|T'=>N'|F'=>k 90 (ug a x1 s11 r0 (Int.tmod (u64.wrap ((u64.wrap (s18*1000000000))+(u64.wrap x2))) (u64.wrap (u32.wrap (u64.wrap (Int.tdiv 1000000000 (u64.wrap ((u64.wrap x1)+1))))))) (i64.wrap (s20-1)) (r1.set ((s20).toNat) (u32.wrap (u64.wrap (Int.tdiv (u64.wrap ((u64.wrap (s18*1000000000))+(u64.wrap x2))) (u64.wrap (u32.wrap (u64.wrap (Int.tdiv 1000000000 (u64.wrap ((u64.wrap x1)+1))))))))))))|_,_=>N')|N'=>N'))|N'=>N')|F'=>(og (D' (aQ ((r0.drop ((0:Int).toNat)).take ((((ae (val a*(u32.wrap (u64.wrap (Int.tdiv 1000000000 (u64.wrap ((u64.wrap x1)+1)))))).toNat).length:Int):Int).toNat-(0:Int).toNat)))) (og (D' (aQ r1)) (S' [RV.d ard (ae (val ((r0.drop ((0:Int).toNat)).take ((((ae (val a*(u32.wrap (u64.wrap (Int.tdiv 1000000000 (u64.wrap ((u64.wrap x1)+1)))))).toNat).length:Int):Int).toNat-(0:Int).toNat))).toNat),RV.d ard (ae (val r1).toNat)])))
theorem zC(a:List Int)(x1:Int)(s11 r0:List Int)(s18 s20:Int)(r1:List Int):RN jU 90 (ug a x1 s11 r0 s18 s20 r1) (rN a x1 s11 r0 s18 s20 r1):=rnX
def qsc(x1:Int):Int:=u32.wrap (u64.wrap (Int.tdiv 1000000000 (u64.wrap ((u64.wrap x1)+1))))
theorem gc(x1:Int):u32.wrap (u64.wrap (Int.tdiv 1000000000 (u64.wrap ((u64.wrap x1)+1))))=qsc x1:=by
 have h:∀y,qsc x1=y->y=qsc x1:=λy e=>e.symm;exact h _ rfl
theorem agq{x:Int}(h1:1<=x)(h2:x<1000000000):qsc x=1000000000/(x+1)/\1<=qsc x/\qsc x<1000000000:=by
 have h3:1<=1000000000/(x+1):=Int.le_ediv_of_mul_le (by omega) (by omega);have h4:1000000000/(x+1)<1000000000:=api (by omega) (by omega);grind [qsc,bI,cZ]
theorem IK{v:Int}(h:0<v):∃(n:Nat) (x:Int),(ae v.toNat).length=n+1/\(ae v.toNat)[n]?=S' x/\1<=x/\x<1000000000/\x*pw n<=v:=by
 have hne:ae v.toNat≠[]:=λe=>by rw[gQ]at e;omega
 rcases List.eq_nil_or_concat (ae v.toNat)with h0|⟨l,x,hx⟩
 ·grind
 ·have hv:=bG v.toNat
  have hc:=dX v.toNat
  have hl:=bV v.toNat
  rw[List.concat_eq_append]at hx;rw[hx]at hv hc hl;have hxx:=hl x (by simp);have hx0:x≠0:=λe=>hc.2 (by simp[e]);have hln:=aP (l:=l) (λy hy=>hl y (by simp[hy]));rw[dD]at hv;simp only[val]at hv;refine⟨l.length,x,by rw[hx];simp,by rw[hx];simp,by omega,hxx.2,?_⟩;grind
section
variable (a b:List Int) (x1 x2:Int) (V:Int) (hV:val b*qsc x1=V) (hs:1<=qsc x1/\qsc x1<1000000000) (hp:0<V) (hra:(ae (val a*qsc x1).toNat).length<=a.length+1) (ha:Lim a/\a.length<=1000000) (hL:(ae V.toNat).length<=1000001)
theorem TX(hs:1<=qsc x1/\qsc x1<1000000000)(l r0:List Int)(hl:Lim l/\l.length<=2000000)(hr0:aQ r0)(hz0:∀k (hk:k<r0.length),(ae (val a*qsc x1).toNat).length<=k->r0[k]=0):∀(n:Nat) (c:Int) (r:List Int),n<=l.length->0<=c->c<qsc x1->Lim r->r.length=l.length->(∀k (hk:k<r.length),k<n->r[k]=0)->qsc x1*val r+pw n*c+val (l.take n)=val l->
  jU.Runs 90 (ug a x1 l r0 c ((n:Int)-1) r) [.d ard (ae (val r0).toNat),.d ard (ae (val l/qsc x1).toNat)]:=by
 have hsa:=hl.2;have e64:u64.wrap (qsc x1)=qsc x1:=bI (by omega) (by omega);intro n;induction n with
 |zero=>
  intro c r hn c0 c1 hr hlen hz hv;simp only[nZ,List.take_zero,val,aqW,aq3]at hv
  have e2:val l/qsc x1=val r:=by
   rw[<-hv,aqO,apC _ _ (by omega),aoV c0 c1];omega
  have e3:=xn hz0;have e4:aQ (r0.take (ae (val a*qsc x1).toNat).length):=⟨hr0.1.take _,by have:=hr0.2;rw[aoo];omega⟩
  refine zC _ _ _ _ _ _ _ ⟨0,?_⟩;unfold rN;simp only[gc,Int.toNat_zero,apN,apy,aq2];rw[dF (by omega)];dsimp only;rw[dT e4,dT (show aQ r from⟨hr,by omega⟩),e3,e2]
 |succ n ih=>
  intro c r hn c0 c1 hr hlen hz hv;have hna:n<l.length:=by omega
  have hnr:n<r.length:=by omega
  have xa:=hl.1.get hna;have hr0':=hz n hnr (by omega);have hcb:0<=c*1000000000+l[n]:=by omega
  have m0:=aoZ (c*1000000000+l[n]) (show qsc x1≠0 by omega);have m1:=aoC (c*1000000000+l[n]) (show 0<qsc x1 by omega);have md:=aoA (c*1000000000+l[n]) (qsc x1);have d0:0<=(c*1000000000+l[n])/qsc x1:=aoO hcb (by omega)
  have d1:(c*1000000000+l[n])/qsc x1<1000000000:=by
   refine api (by omega) ?_;have:=an1 (show c+1<=qsc x1 by omega) (show(0:Int)<=1000000000 by decide);rw[apD 1000000000 (qsc x1)];omega
  obtain⟨q,hq⟩:=ih ((c*1000000000+l[n])%qsc x1) (r.set n ((c*1000000000+l[n])/qsc x1)) (by omega) m0 m1 (hr.set n ⟨d0,d1⟩) (by simpa using hlen)
   (λk hk hkn=>by rw[apa (by omega)];exact hz k (by simpa using hk) (by omega)) (by
    rw[fe hnr,hr0'];rw[bh hna,bW]at hv;grind)
  refine zC _ _ _ _ _ _ _ ⟨q,?_⟩;unfold rN;simp only[gc];rw[show((n+1:Nat):Int)-1=(n:Int) by omega,dT (by omega),ak l n,anN hna,e64,dF (show ¬qsc x1=0 by omega),ak r n,aE,anN hnr];dsimp only;rw[bI (x:=c*1000000000) (by omega) (by omega),bI (x:=l[n]) (by omega) (by omega),bI (x:=c*1000000000+l[n]) (by omega) (by omega),gJ hcb,ju hcb,bI (x:=(c*1000000000+l[n])/qsc x1) (by omega) (by omega),cZ (x:=(c*1000000000+l[n])/qsc x1) (by omega) (by omega),aM (x:=(n:Int)-1) (by omega) (by omega)];exact hq
include hV hp hL in
theorem Hv{res:List RV}(i:Nat)(hi:i<(ae (val a*qsc x1).toNat).length)(r0 l:List Int)(hlr:r0.length=a.length+1)(hra:(ae (val a*qsc x1).toNat).length<=a.length+1)(x3 W:Int)(hW:val ([x3]++l)=W)(W0:0<=W)(hWl:(ae W.toNat).length<=1000002)
  (hout:jU.Runs 30 (kL a b x1 x2 (ae (W%V).toNat) ((i:Int)-1) (r0.set i (W/V))) res) (hi':(ae (val a*qsc x1).toNat).length<=2000000):
  ∀(d:Nat),d<=999999999->W<V*((d:Int)+1)->jU.Runs 67 (eV a b x1 x2 l (i:Int) r0 x3 (d:Int) (ae (V*(d:Int)).toNat)) res:=by
 intro d
 have hsz:∀e:Nat,e<=999999999->(ae (V*(e:Int)).toNat).length<=1000002:=λe he=>by
  refine cq (aoL (by omega) (by omega)) ?_
  have h1:V<pw 1000001:=by
   have:=bU (bV V.toNat);rw[bG]at this;have:=du hL;omega
  rw[bW 1000001];have h2:V*(e:Int)<=V*999999999:=anV (by omega) (by omega);omega
 induction d with
 |zero=>
  intro _ hd;obtain⟨q,hq⟩:=hout;have hWV:W<V:=by simpa using hd
  rw[ap7 W0 hWV,aoV W0 hWV]at hq;refine sI _ _ _ _ _ _ _ _ _ _ ⟨q,?_⟩;unfold oF;simp only[gc,hV,hW];rw[show(V*((0:Nat):Int)).toNat=0 by simp,dT (show sL (ae 0) (ae W.toNat) from⟨⟨dX _,by decide⟩,dX _,by omega⟩),bS W0,xX,show val (ae 0)=0 from rfl,dF (show ¬W<0 by omega),dT (show oZ (ae W.toNat) (ae 0) from⟨ct (by omega),ct (by decide),by rw[bS W0];exact W0⟩)];dsimp only;rw[dT (show(0:Int)<=(i:Int)/\(i:Int)<((((ae (val a*qsc x1).toNat).length:Int).toNat-(0:Int).toNat:Nat):Int) by constructor<;>simp<;>omega)];rw[show(0:Int).toNat+((i:Int)).toNat=i by simp,anN (by omega)];dsimp only;rw[Int.sub_zero,aM (by omega) (by omega)];exact hq
 |succ d ih=>
  intro hd1 hd;have hc:((d+1:Nat):Int)=(d:Int)+1:=by omega
  rw[hc]at hd;have hV1:0<=V*((d:Int)+1):=aoL (by omega) (by omega);have hV0:0<=V*(d:Int):=aoL (by omega) (by omega);have hVd:V*((d:Int)+1)-V=V*(d:Int):=by grind
  have hs1:=hsz (d+1) (by omega);rw[hc]at hs1;have k1:=bG V.toNat
  by_cases hg:W<V*((d:Int)+1)
  ·obtain⟨q,hq⟩:=ih (by omega) hg;refine sI _ _ _ _ _ _ _ _ _ _ ⟨q,?_⟩;unfold oF;simp only[gc,hV,hW];rw[hc,dT (show sL (ae (V*((d:Int)+1)).toNat) (ae W.toNat) from⟨⟨dX _,by omega⟩,dX _,by omega⟩),bS W0,bS hV1,xX,dT hg,dT (show oZ (ae (V*((d:Int)+1)).toNat) (ae V.toNat) from⟨ct (by omega),ct (by omega),by rw[bS hV1,bS (by omega)];omega⟩),bS (v:=V) (by omega),hVd,bI (by omega) (by omega),show(d:Int)+1-1=(d:Int) by omega];exact hq
  ·obtain⟨q,hq⟩:=hout
   have e1:W/V=(d:Int)+1:=by
    have:W=(W-V*((d:Int)+1))+V*((d:Int)+1):=by omega
    rw[this,apC _ _ (by omega),aoV (by omega) (by grind)];omega
   have e2:W%V=W-V*((d:Int)+1):=by
    have:=aoA W V;rw[e1]at this;omega
   rw[e1,e2]at hq;refine sI _ _ _ _ _ _ _ _ _ _ ⟨q,?_⟩;unfold oF;simp only[gc,hV,hW];rw[hc,dT (show sL (ae (V*((d:Int)+1)).toNat) (ae W.toNat) from⟨⟨dX _,by omega⟩,dX _,by omega⟩),bS W0,bS hV1,xX,dF hg,dT (show oZ (ae W.toNat) (ae (V*((d:Int)+1)).toNat) from⟨ct (by omega),ct (by omega),by rw[bS hV1,bS W0];omega⟩)];dsimp only;rw[dT (show(0:Int)<=(i:Int)/\(i:Int)<((((ae (val a*qsc x1).toNat).length:Int).toNat-(0:Int).toNat:Nat):Int) by constructor<;>simp<;>omega)];rw[show(0:Int).toNat+((i:Int)).toNat=i by simp,anN (by omega)];dsimp only;rw[aM (by omega) (by omega),cZ (by omega) (by omega)];exact hq
end
end
section
def qM(k:Nat->Cfg->OLR)(a b:List Int)(x1 x2:Int)(s11:List Int)(s14:Int)(r0:List Int)(x3 H:Int):OLR:=match D' (u64.wrap x2=(0:Int))with|T'=>N'|F'=>(match D' ((u64.wrap (Int.tdiv H (u64.wrap x2)))>999999999)with|T'=>(og (D' (byP (ae (val b*(u32.wrap (u64.wrap (Int.tdiv 1000000000 (u64.wrap ((u64.wrap x1)+1)))))).toNat) (u32.wrap 999999999))) (k 67 (eV a b x1 x2 s11 s14 r0 x3 999999999 (ae (val (ae (val b*(u32.wrap (u64.wrap (Int.tdiv 1000000000 (u64.wrap ((u64.wrap x1)+1)))))).toNat)*(u32.wrap 999999999)).toNat))))|F'=>(og (D' (byP (ae (val b*(u32.wrap (u64.wrap (Int.tdiv 1000000000 (u64.wrap ((u64.wrap x1)+1)))))).toNat) (u32.wrap (u64.wrap (Int.tdiv H (u64.wrap x2)))))) (k 67 (eV a b x1 x2 s11 s14 r0 x3 (u64.wrap (Int.tdiv H (u64.wrap x2))) (ae (val (ae (val b*(u32.wrap (u64.wrap (Int.tdiv 1000000000 (u64.wrap ((u64.wrap x1)+1)))))).toNat)*(u32.wrap (u64.wrap (Int.tdiv H (u64.wrap x2))))).toNat)))))
theorem Qk{W V H x p d:Int}(hx:1<=x)(hW:W<(H+1)*p)(hp:0<p)(hV:x*p<=V)(hd:H/x=d)(h0:0<=H):W<V*(d+1):=by
 have h1:=aoA H x;have h2:=aoC H (show 0<x by omega);have h3:0<=d:=by rw[<-hd];exact aoO h0 (by omega)
 have h4:H+1<=x*(d+1):=by grind
 have h5:=an1 h4 (aow hp);have h6:=an1 hV (show 0<=d+1 by omega);grind
theorem adE{A B s R q:Int}(hs:0<s)(h:A*s=R+B*s*q)(h0:0<=R)(h1:R<B*s):A/B=q/\A%B=R/s:=by
 have e:R=s*(A-B*q):=by grind
 have hm:R/s=A-B*q:=by rw[e];exact ap8 _ (by omega)
 have m0:0<=A-B*q:=by
  apply an9;intro hc;have:=anV (show A-B*q<= -1 by omega) (aow hs);omega
 have m1:A-B*q<B:=by
  apply an9;intro hc;have:=anV (show B<=A-B*q by omega) (aow hs);grind
 have hA:A=(A-B*q)+B*q:=by omega
 constructor
 ·rw[hA,apC _ _ (by omega),aoV (by omega) (by omega)];omega
 ·rw[hm,hA,apU,ap7 (by omega) (by omega)];omega
section
variable (a b:List Int) (x1 x2:Int) (V:Int) (hV:val b*qsc x1=V) (hs:1<=qsc x1/\qsc x1<1000000000) (hp:0<V) (hra:(ae (val a*qsc x1).toNat).length<=a.length+1) (ha:Lim a/\a.length<=1000000) (hL:(ae V.toNat).length<=1000001)
include hV hs hp hra ha hL in
theorem HT(n:Nat)(hn:(ae V.toNat).length=n+1)(hx2:1<=x2/\x2<1000000000)(hxp:x2*pw n<=V):∀(i:Nat) (R:Int) (r0:List Int),i<=(ae (val a*qsc x1).toNat).length->0<=R->R<V->r0.length=a.length+1->Lim r0->
  (∀k (hk:k<r0.length),k<i->r0[k]=0)->(∀k (hk:k<r0.length),(ae (val a*qsc x1).toNat).length<=k->r0[k]=0)->val a*qsc x1=pw i*R+val ((ae (val a*qsc x1).toNat).take i)+V*val r0->
  jU.Runs 30 (kL a b x1 x2 (ae R.toNat) ((i:Int)-1) r0) [.d ard (ae (val a/val b).toNat),.d ard (ae (val a%val b).toNat)]:=by
 have hVp:V<pw 1000001:=by
  have:=bU (bV V.toNat);rw[bG]at this;have:=du hL;omega
 have ha2:=ha.2;intro i;induction i with
 |zero=>
  intro R r0 _ R0 RV hlr hl _ hz he;simp only[nZ,List.take_zero,val,aqW,aq3]at he;rw[<-hV]at he;obtain⟨e1,e2⟩:=adE (by omega) he R0 (by rw[hV];exact RV);have hRl:(ae R.toNat).length<=1000001:=cq R0 (by omega);obtain⟨q,hq⟩:=TX a x1 hs (ae R.toNat) r0 ⟨bV _,by omega⟩ ⟨hl,by omega⟩ hz (ae R.toNat).length 0 (List.replicate (ae R.toNat).length 0) (anT _) (by omega) (by omega) (Lim.rep _) (by simp) (λk hk _=>by simp) (by simp[gv]);rw[bS R0,<-e2,<-e1]at hq;refine oe _ _ _ _ _ _ _ ⟨q,?_⟩;unfold kR;rw[dF (by omega)];dsimp only;rw[dT (show(0:Int)<=((ae R.toNat).length:Int)/\((ae R.toNat).length:Int)*((4:Nat):Int)<=140737488355328/\((ae R.toNat).length:Int)<=140737488355328 from⟨by omega,by omega,by omega⟩),aE,aM (by omega) (by omega)];exact hq
 |succ i ih=>
  intro R r0 hi R0 RV hlr hl hz hz2 he;have hiU:i<(ae (val a*qsc x1).toNat).length:=by omega
  have hx:=(bV (val a*qsc x1).toNat).get hiU;have hir:i<r0.length:=by omega
  have hr0:=hz i hir (by omega)
  have hWv:val ([(ae (val a*qsc x1).toNat)[i]]++ae R.toNat)=(ae (val a*qsc x1).toNat)[i]+1000000000*R:=by
   rw[dD,bS R0];simp[val,pw]
  generalize hxi:(ae (val a*qsc x1).toNat)[i]=x at hx hWv;have W0:0<=x+1000000000*R:=by omega
  have WV:x+1000000000*R<1000000000*V:=by omega
  have hWl:(ae (x+1000000000*R).toNat).length<=n+2:=by
   refine cq W0 ?_;have:=bU (bV V.toNat);rw[bG,hn]at this;rw[bW (n+1)];omega
  have hRl:(ae R.toNat).length<=1000001:=cq R0 (by omega);have q0:0<=(x+1000000000*R)/V:=aoO W0 (by omega);have q1:(x+1000000000*R)/V<1000000000:=api hp (by omega);have m0:=aoZ (x+1000000000*R) (show V≠0 by omega);have m1:=aoC (x+1000000000*R) hp;have md:=aoA (x+1000000000*R) V
  have hout:=ih ((x+1000000000*R)%V) (r0.set i ((x+1000000000*R)/V)) (by omega) m0 m1 (by simpa using hlr) (hl.set i ⟨q0,q1⟩)
   (λk hk hk'=>by rw[apa (by omega)];exact hz k (by simpa using hk) (by omega))
   (λk hk hk'=>by rw[apa (by omega)];exact hz2 k (by simpa using hk) hk') (by
    rw[fe hir,hr0];rw[bh hiU,bW,hxi]at he;grind)
  have hdig:=Hv a b x1 x2 V hV hp hL i hiU r0 (ae R.toNat) hlr hra x (x+1000000000*R) hWv W0 (by omega) hout (by omega)
  have htail:∀H:Int,0<=H->H<1000000000000000000->x+1000000000*R<(H+1)*pw n->∃q,qM (jU.k q) a b x1 x2 (ae R.toNat) ((i:Int)) r0 x H=S' [.d ard (ae (val a/val b).toNat),.d ard (ae (val a%val b).toNat)]:=by
   intro H H0 H1 HW;have d0:0<=H/x2:=aoO H0 (by omega);have d1:H/x2<=H:=apI _ H0;have hbyV:∀d:Int,0<=d->d<1000000000->byP (ae V.toNat) d:=λd h1 h2=>⟨⟨bV _,by omega⟩,h1,h2⟩
   by_cases hc:H/x2>999999999
   ·obtain⟨q,hq⟩:=hdig 999999999 (anT _) (by rw[show V*(((999999999:Nat):Int)+1)=1000000000*V by omega];exact WV);refine⟨q,?_⟩;unfold qM;simp only[gc,hV];rw[bI (x:=x2) (by omega) (by omega),dF (show ¬x2=0 by omega),gJ H0,bI (x:=H/x2) (by omega) (by omega),dT hc,cZ (x:=999999999) (by decide) (by decide),dT (hbyV 999999999 (by decide) (by decide)),bS (v:=V) (by omega)];exact hq
   ·obtain⟨q,hq⟩:=hdig (H/x2).toNat (by omega) (by rw[show(((H/x2).toNat:Nat):Int)=H/x2 by omega];exact Qk hx2.1 HW (cg n) hxp rfl H0)
    rw[show(((H/x2).toNat:Nat):Int)=H/x2 by omega]at hq;refine⟨q,?_⟩;unfold qM;simp only[gc,hV];rw[bI (x:=x2) (by omega) (by omega),dF (show ¬x2=0 by omega),gJ H0,bI (x:=H/x2) (by omega) (by omega),dF hc,cZ (x:=H/x2) (by omega) (by omega),dT (hbyV (H/x2) (by omega) (by omega)),bS (v:=V) (by omega)];exact hq
  have hWlim:=bV (x+1000000000*R).toNat
  have hWval:=bS W0;have hsplit:=fT (ae (x+1000000000*R).toNat) n;have htl:=bU (hWlim.take n)
  have hpre:∀H,val ((ae (x+1000000000*R).toNat).drop n)=H->x+1000000000*R<(H+1)*pw n:=by
   intro H hH;rw[hH,hWval]at hsplit;have hm:(ae (x+1000000000*R).toNat |>.take n).length<=n:=by rw[aoo];omega
   have:=du hm;rcases aov n (ae (x+1000000000*R).toNat).length with h|h
   ·rw[aor (by omega)]at hsplit;rw[Int.add_mul,apD H,aqW];omega
   ·rw[aou h]at hH;have hH0:H=0:=by rw[<-hH];rfl
    subst hH0;rw[aqw]at hsplit;omega
  have hstep:∀(H:Int) (q:Nat),qM (jU.k q) a b x1 x2 (ae R.toNat) ((i:Int)) r0 x H=S' [.d ard (ae (val a/val b).toNat),.d ard (ae (val a%val b).toNat)]->True:=λ_ _ _=>trivial;have hap:(([x]:List Int).length+(ae R.toNat).length)*4<=140737488355328/\([x]:List Int).length+(ae R.toNat).length<=140737488355328:=by simp only[aoc];omega
  have hlS:aQ ([x]++ae R.toNat):=⟨(Lim.cons ⟨hx.1,hx.2⟩ Lim.nil).append (bV _),by simp only[aoq,aoc];omega⟩
  have hw1:i64.wrap (((n+1:Nat):Int)-1)=((n:Nat):Int):=by rw[aM (by omega) (by omega)];omega
  rcases Nat.lt_trichotomy (ae (x+1000000000*R).toNat).length (n+1)with hc|hc|hc
  ·obtain⟨q,hq⟩:=htail 0 (by omega) (by omega) (hpre 0 (by rw[aou (by omega)];rfl));refine oe _ _ _ _ _ _ _ ⟨q,?_⟩;unfold kR;rw[dT (show((i+1:Nat):Int)-1>=0 by omega),show((i+1:Nat):Int)-1=(i:Int) by omega,gc,ak,anN hiU,hxi];dsimp only;rw[dT hap,dT hlS,hWv,hV,hn];rw[dF (show ¬((ae (x+1000000000*R).toNat).length:Int)>((n+1:Nat):Int) by omega),dF (show ¬((ae (x+1000000000*R).toNat).length:Int)>=((n+1:Nat):Int) by omega)];rw[<-hV];exact hq
  ·have hget:(ae (x+1000000000*R).toNat)[n]?=S' (ae (x+1000000000*R).toNat)[n]:=anN (by omega);have hxn:=hWlim.get (show n<(ae (x+1000000000*R).toNat).length by omega)
   have hdrop:val ((ae (x+1000000000*R).toNat).drop n)=(ae (x+1000000000*R).toNat)[n]:=by
    rw[jx (by omega),aou (by omega)];simp[val]
   obtain⟨q,hq⟩:=htail (ae (x+1000000000*R).toNat)[n] hxn.1 (by omega) (hpre _ hdrop);refine oe _ _ _ _ _ _ _ ⟨q,?_⟩;unfold kR;rw[dT (show((i+1:Nat):Int)-1>=0 by omega),show((i+1:Nat):Int)-1=(i:Int) by omega,gc,ak,anN hiU,hxi];dsimp only;rw[dT hap,dT hlS,hWv,hV,hn];rw[dF (show ¬((ae (x+1000000000*R).toNat).length:Int)>((n+1:Nat):Int) by omega),dT (show((ae (x+1000000000*R).toNat).length:Int)>=((n+1:Nat):Int) by omega),hw1,ak (ae (x+1000000000*R).toNat) n,hget];dsimp only;rw[Int.zero_add,bI (x:=(ae (x+1000000000*R).toNat)[n]) (by omega) (by omega),bI (x:=(ae (x+1000000000*R).toNat)[n]) (by omega) (by omega)];rw[<-hV];exact hq
  ·have hget:(ae (x+1000000000*R).toNat)[n]?=S' (ae (x+1000000000*R).toNat)[n]:=anN (by omega);have hget1:(ae (x+1000000000*R).toNat)[n+1]?=S' (ae (x+1000000000*R).toNat)[n+1]:=anN (by omega);have hxn:=hWlim.get (show n<(ae (x+1000000000*R).toNat).length by omega);have hxn1:=hWlim.get (show n+1<(ae (x+1000000000*R).toNat).length by omega)
   have hdrop:val ((ae (x+1000000000*R).toNat).drop n)=(ae (x+1000000000*R).toNat)[n+1]*1000000000+(ae (x+1000000000*R).toNat)[n]:=by
    rw[jx (by omega),jx (by omega),aou (by omega)];simp only[val];omega
   obtain⟨q,hq⟩:=htail ((ae (x+1000000000*R).toNat)[n+1]*1000000000+(ae (x+1000000000*R).toNat)[n]) (by omega) (by omega) (hpre _ hdrop);refine oe _ _ _ _ _ _ _ ⟨q,?_⟩;unfold kR;rw[dT (show((i+1:Nat):Int)-1>=0 by omega),show((i+1:Nat):Int)-1=(i:Int) by omega,gc,ak,anN hiU,hxi];dsimp only;rw[dT hap,dT hlS,hWv,hV,hn];rw[dT (show((ae (x+1000000000*R).toNat).length:Int)>((n+1:Nat):Int) by omega),ak (ae (x+1000000000*R).toNat) (n+1),hget1];dsimp only;rw[dT (show((ae (x+1000000000*R).toNat).length:Int)>=((n+1:Nat):Int) by omega),hw1,ak (ae (x+1000000000*R).toNat) n,hget];dsimp only;rw[bI (x:=(ae (x+1000000000*R).toNat)[n+1]) (by omega) (by omega),bI (x:=(ae (x+1000000000*R).toNat)[n+1]*1000000000) (by omega) (by omega),bI (x:=(ae (x+1000000000*R).toNat)[n]) (by omega) (by omega),bI (x:=(ae (x+1000000000*R).toNat)[n+1]*1000000000+(ae (x+1000000000*R).toNat)[n]) (by omega) (by omega)];rw[<-hV];exact hq
end
end
end Go.Proofs.YtoimchcjhdcdmaaGreat
end
