/- The reference's integers: trim, signed, ae, short, compare, plus, minus, times. -/
import Derived.Test.YtmnlppieefomnaaGreatDoorN9
noncomputable section
namespace Go.Proofs.YtmnlppieefomnaaGreatDoor
open Go.RowKit Go.IntKind
theorem aoI:type_of% @decide_eq_decide:=@decide_eq_decide
def qy(a:List Int):Prop:=aN a/\val a<18446744073709551616
instance (a:List Int):Decidable (qy a):=by unfold qy;infer_instance
def rV(a b:List Int):Prop:=(can a/\a.length<=1000000000)/\(can b/\b.length<=1000000000)
instance (a b:List Int):Decidable (rV a b):=by unfold rV;infer_instance
def jl(l:List Int):Prop:=Lim l/\l.length<=10000000
instance (l:List Int):Decidable (jl l):=by unfold jl;infer_instance
theorem cC{n:Nat}(h:(ae n).length<=1000000000):aN (ae n):=⟨bS n,h⟩
theorem bR{v:Int}(h:0<=v):val (ae v.toNat)=v:=by grind [bG]
theorem cr{v:Int}{k:Nat}(h0:0<=v)(h:v<pw k):(ae v.toNat).length<=k:=dh (by omega)
def nL:List En:=[]
def Uw:NT:=[((59,4),{keep:=[0],pure_:=[(0,.int .u32)],hl:=0})]
def Ct:Ctx:=CX (ens nL) Uw
def wr(s0:List Int):Cfg:=⟨59,[.blk 0,.seq 13],[(0,.d apD s0)],[],0,[]⟩
def aeB(a:List Int)(k:KT):OLR:=k 4 (wr a)
theorem ab1(a:List Int):RS Ct 59 [.d apD a] (aeB a):=rsX
def uV(s0:List Int)(k:KT):OLR:=match decide ((s0.length:Int)>0)with|true=>(match aH s0 (i64.wrap ((s0.length:Int)-1))with|some x1=>(match x1==0 with|true=>(og (decide ((0:Int)<=0/\0<=i64.wrap ((s0.length:Int)-1)/\i64.wrap ((s0.length:Int)-1)<=(s0.length:Int))) (k 4 (wr ((s0.take (i64.wrap ((s0.length:Int)-1)).toNat).drop (0:Int).toNat))))|false=>some [RV.d apD s0])|none=>none)|false=>some [RV.d apD s0]
theorem uB(s0:List Int):RN Ct 4 (wr s0) (uV s0):=rnX
def Tn:NT:=[((63,8),{keep:=[0,3,4],hl:=0})]
def A9:Ctx:=CX (ens nL) Tn
def wc(a:List Int)(s3 s4:Int):Cfg:=⟨63,[.blk 0,.seq 19],[(0,.d apD a),(3,.d (.int .u64) s3),(4,SI s4)],[],0,[]⟩
def Qj(a:List Int)(k:KT):OLR:=k 8 (wc a 0 (i64.wrap ((a.length:Int)-1)))
theorem adQ(a:List Int):RS A9 63 [.d apD a] (Qj a):=rsX
def uh(a:List Int)(s3 s4:Int)(k:KT):OLR:=match decide (s4>=0)with|true=>(match aH a s4 with|some x1=>k 8 (wc a (u64.wrap ((u64.wrap (s3*1000000000))+(u64.wrap x1))) (i64.wrap (s4-1)))|none=>none)|false=>some [RV.d (.int .u64) s3]
theorem AM(a:List Int)(s3 s4:Int):RN A9 8 (wc a s3 s4) (uh a s3 s4):=rnX
def Vf:NT:=[((64,6),{keep:=[0,3],own:=[(3,109,.int .u32)],hl:=1})]
def C0:Ctx:=CX (ens nL) Vf
def wF(s0:Int)(r0:List Int):Cfg:=⟨64,[.blk 0,.seq 17],[(0,.d (.int .u64) s0),(3,.own 0)],[.row 109 apG r0],0,[]⟩
def adR(u:Int)(k:KT):OLR:=k 6 (wF u ([]))
theorem aeF(u:Int):RS C0 64 [.d (.int .u64) u] (adR u):=rsX
def uS(s0:Int)(r0:List Int)(k:KT):OLR:=match decide (s0>0)with|true=>(og (decide ((r0.length+([u32.wrap (Int.tmod s0 1000000000)]).length)*4<=140737488355328/\r0.length+([u32.wrap (Int.tmod s0 1000000000)]).length<=140737488355328)) (k 6 (wF (u64.wrap (Int.tdiv s0 1000000000)) (r0++([u32.wrap (Int.tmod s0 1000000000)])))))|false=>some [RV.new 109 apG r0]
theorem AP(s0:Int)(r0:List Int):RN C0 6 (wF s0 r0) (uS s0 r0):=rnX
def U3:NT:=[((60,22),{keep:=[0,1,5],hl:=0})]
def Bx:Ctx:=CX (ens nL) U3
def tv(a b:List Int)(s5:Int):Cfg:=⟨60,[.blk 0,.seq 47],[(0,.d apD a),(1,.d apD b),(5,SI s5)],[],0,[]⟩
def Hm(a b:List Int)(k:KT):OLR:=match(a.length:Int) !=(b.length:Int)with|true=>(match decide ((a.length:Int)<(b.length:Int))with|true=>some [RV.d apE (-1)]|false=>some [RV.d apE 1])|false=>k 22 (tv a b (i64.wrap ((a.length:Int)-1)))
theorem NX(a b:List Int):RS Bx 60 [.d apD a,.d apD b] (Hm a b):=rsX
def kO(a b:List Int)(s5:Int)(k:KT):OLR:=match decide (s5>=0)with|true=>(match aH a s5 with|some x1=>(match aH b s5 with|some x2=>(match decide (x1<x2)with|true=>some [RV.d apE (-1)]|false=>(match aH a s5 with|some x3=>(match aH b s5 with|some x4=>(match decide (x3>x4)with|true=>some [RV.d apE 1]|false=>k 22 (tv a b (i64.wrap (s5-1))))|none=>none)|none=>none))|none=>none)|none=>none)|false=>some [RV.d apE 0]
theorem nC(a b:List Int)(s5:Int):RN Bx 22 (tv a b s5) (kO a b s5):=rnX
theorem Lg(l:List Int)(hl:Lim l)(hs:l.length<=1000000000):∀(n:Nat),n<=l.length->(∀j (hj:j<l.length),n<=j->l[j]=0)->Ct.Runs 4 (wr (l.take n)) [.d apD (ae (val l).toNat)]:=by
 intro n;induction n with
 |zero=>
  intro _ h;refine uB _ ⟨0,?_⟩;rw[<-mr hl (aoE _) h (.inl rfl)];rfl
 |succ n ih=>
  intro hn h;have hlen:(l.take (n+1)).length=n+1:=by rw[amV,amZ hn]
  have hget:(l.take (n+1))[n]?=some l[n]:=by rw[List.getElem?_take_of_lt (by omega),amg (by omega)]
  by_cases hz:l[n]=0
  ·obtain⟨q,hq⟩:=ih (by omega) λj hj hk=>by
    rcases Nat.eq_or_lt_of_le hk with e|e
    ·subst e;exact hz
    ·exact h j hj e
   refine uB _ ⟨q,?_⟩;unfold uV;rw[hlen,amh (by omega),K3 (by omega) (by omega),ai,show n+1-1=n from rfl,hget];dsimp only;rw[hz,amh (show(0:Int)<=0/\(0:Int)<=(n:Int)/\(n:Int)<=((n+1:Nat):Int) by omega),aC,ao8,amZ (by omega)];exact hq
  ·refine uB _ ⟨0,?_⟩;unfold uV;rw[hlen,amh (by omega),K3 (by omega) (by omega),ai,show n+1-1=n from rfl,hget];dsimp only;rw[show(l[n]==0)=false by simpa using hz,<-mr hl hn h (.inr ⟨Nat.lt_of_succ_le hn,hz⟩)]
def uz:Cn 59 [apD]:=cn λ(a:List Int)=>lf (aN a) [.d apD (ae (val a).toNat)] λh=>by
 refine a8 nL (show Ct.Res _ _ _ from ?_);obtain⟨q,hq⟩:=Lg a h.1 h.2 a.length (amm _) (λj hj hk=>by omega);rw[ant]at hq;exact ab1 _ ⟨q,hq⟩
theorem Ka(u:Nat):∀(r:List Int),(u:Int)<18446744073709551616->r.length+3<=1000+3-(ae u).length->C0.Runs 6 (wF (u:Int) r) [.new 109 apG (r++ae u)]:=by
 induction u using qr with
 |h0=>
  intro r _ _;refine AP _ _ ⟨0,?_⟩;unfold uS;rw[fw,amO];rfl
 |h1 n hn ih=>
  intro r hu hr;rw[iw hn]at hr;simp only[amD]at hr;obtain⟨q,hq⟩:=ih (r++[((n%1000000000:Nat):Int)]) (by omega) (by rw[amU];simp only[amF];omega);refine AP _ _ ⟨q,?_⟩;unfold uS;rw[amh (by omega),ju (by omega),gC (by omega),bH (x:=(n:Int)/1000000000) (by omega) (by omega),cY (x:=(n:Int)%1000000000) (by omega) (by omega)];simp only[amF];rw[abo (by omega) (by omega),iw hn];rw[show((n:Int)%1000000000)=((n%1000000000:Nat):Int) by omega,show((n:Int)/1000000000)=((n/1000000000:Nat):Int) by omega];rw[amH]at hq;exact hq
def CY:Cn 64 [(.int .u64)]:=cn λ(u:Int)=>lf (ip u) [.new 109 apG (ae u.toNat)] λh=>by
 refine a8 nL (show C0.Res _ _ _ from ?_);have h0:=h.1;have h1:=h.2;have hl:=dh (n:=u.toNat) (k:=3) (aoO (show(u.toNat:Int)<18446744073709551616 by omega) (by decide));obtain⟨q,hq⟩:=Ka u.toNat [] (by omega) (by simp;omega)
 rw[show((u.toNat:Nat):Int)=u by omega]at hq;exact aeF _ ⟨q,hq⟩
theorem Ac(a:List Int)(h:qy a):∀(i:Nat),i<=a.length->A9.Runs 8 (wc a (val (a.drop i)) ((i:Int)-1)) [.d (.int .u64) (val a)]
 |0,_=>by
  refine AM _ _ _ ⟨0,?_⟩;unfold uh;rw[ami (by omega),an3]
 |i+1,hi=>by
  obtain⟨n,ih⟩:=Ac a h i (by omega);have h0:=h.1.2;have hlim:=h.1.1;have hlt:=h.2;have hd:a.drop i=a[i]::a.drop (i+1):=jm (by omega)
  have hle:∀j,val (a.drop j)<=val a/\0<=val (a.drop j):=λj=>by
   have l1:Lim (a.drop j):=λy hy=>hlim y (anS hy);have l2:Lim (a.take j):=λy hy=>hlim y (anv hy);have:=dv (a.take j) (a.drop j);rw[anG]at this;have n1:=aL l1;have n2:=aL l2;have p:=cg (a.take j).length
   have:val (a.drop j)<=pw (a.take j).length*val (a.drop j):=by
    have:=amu (show 1<=pw (a.take j).length by omega) n1;omega
   omega
  have hb:=hlim a[i] (ams _);have hv1:=hle i;have hv2:=hle (i+1);rw[hd]at hv1 ih;simp only[val]at hv1 ih;refine AM _ _ _ ⟨n,?_⟩;unfold uh;rw[show(((i+1:Nat):Int)-1)=(i:Int) by omega,amh (by omega),ai,amg (by omega)];dsimp only;rw[bH (x:=val (a.drop (i+1))*1000000000) (by omega) (by omega),bH (x:=a[i]) (by omega) (by omega),bH (by omega) (by omega),aO (by omega) (by omega)];rw[show val (a.drop (i+1))*1000000000+a[i]=a[i]+1000000000*val (a.drop (i+1)) by omega];exact ih
def xB:Cn 63 [apD]:=cn λ(a:List Int)=>lf (qy a) [.d (.int .u64) (val a)] λh=>by
 refine a8 nL (show A9.Res _ _ _ from ?_);obtain⟨n,hn⟩:=Ac a h a.length (amm _);have h0:=h.1.2;refine adQ _ ⟨n,?_⟩;unfold Qj;rw[aoG]at hn;rw[aO (by omega) (by omega)];exact hn
theorem KQ(a b:List Int)(la:Lim a)(lb:Lim b)(hl:a.length=b.length)(hs:a.length<=1000000000):∀(n:Nat),n<=a.length->a.drop n=b.drop n->
  Bx.Runs 22 (tv a b ((n:Int)-1)) [.d apE (bV (val a) (val b))]:=by
 intro n;induction n with
 |zero=>
  intro _ h;refine nC _ _ _ ⟨0,?_⟩;have e:val a=val b:=by simp only[an3]at h;rw[h]
  unfold kO;rw[ami (by omega),e,dB]
 |succ n ih=>
  intro hn h;have h1:n<a.length:=by omega
  have h2:n<b.length:=by omega
  rcases Int.lt_trichotomy a[n] b[n]with hc|hc|hc
  ·refine nC _ _ _ ⟨0,?_⟩;have:=BN la lb h1 h2 h hc;unfold kO;rw[show((n+1:Nat):Int)-1=(n:Int) by omega,amh (by omega),ai,ai,amg h1,amg h2];dsimp only;rw[amh hc,cQ (by omega)]
  ·obtain⟨q,hq⟩:=ih (by omega) (by rw[amz h1,amz h2,hc,h]);refine nC _ _ _ ⟨q,?_⟩;unfold kO;rw[show((n+1:Nat):Int)-1=(n:Int) by omega,amh (by omega),ai,ai,amg h1,amg h2];dsimp only;rw[ami (by omega),ami (by omega),aO (x:=(n:Int)-1) (by omega) (by omega)];exact hq
  ·refine nC _ _ _ ⟨0,?_⟩;have:=BN lb la h2 h1 h.symm hc;unfold kO;rw[show((n+1:Nat):Int)-1=(n:Int) by omega,amh (by omega),ai,ai,amg h1,amg h2];dsimp only;rw[ami (by omega),amh hc,cq (by omega)]
theorem ID{a b:List Int}(ha:can a)(hb:can b)(h:a.length<b.length):val a<val b:=by
 have ea:=pK ha;have eb:=pK hb;have:=wq (a:=(val a).toNat) (b:=(val b).toNat) (by rw[<-ea,<-eb];exact h);omega
def xD:Cn 60 [apD,apD]:=cn λ(a b:List Int)=>lf (rV a b) [.d apE (bV (val a) (val b))] λh=>by
 refine a8 nL (show Bx.Res _ _ _ from ?_);obtain⟨⟨ha,sa⟩,hb,sb⟩:=h;by_cases hl:a.length=b.length
 ·obtain⟨q,hq⟩:=KQ a b ha.1 hb.1 hl sa _ (amm _) (by rw[aoG,hl,aoG]);refine NX _ _ ⟨q,?_⟩;unfold Hm;rw[show((a.length:Int) !=(b.length:Int))=false by simp[hl],aO (x:=(a.length:Int)-1) (by omega) (by omega)];exact hq
 ·refine NX _ _ ⟨0,?_⟩;unfold Hm;rw[show((a.length:Int) !=(b.length:Int))=true by simp;omega];dsimp only;rcases Nat.lt_or_gt_of_ne hl with h1|h1
  ·have:=ID ha hb h1;rw[amh (by omega),cQ (by omega)]
  ·have:=ID hb ha h1;rw[ami (by omega),cq (by omega)]
def rA:List En:=enK uz::enK CY::enF xB::enF xD::nL
def NJ(neg:Bool)(l:List Int)(_k:KT):OLR:=og (decide (aN l)) (match neg with|true=>some [RV.d y3Y (decide (((ae (val l).toNat).length:Int)>0),ae (val l).toNat)]|false=>some [RV.d y3Y (false,ae (val l).toNat)])
def V9:NT:=[((202,16),{keep:=[0,1,5,6,7],hl:=1})]
def yf:Ctx:=CX (ens rA) V9
def ld(s0 s1 r0:List Int)(s6 s7:Int):Cfg:=⟨202,[.blk 0,.seq 37],[(0,.d apD s0),(1,.d apD s1),(5,.own 0),(6,.d apG s6),(7,SI s7)],[.row 109 apG r0],0,[]⟩
def GN(a b:List Int)(k:KT):OLR:=match decide ((a.length:Int)<(b.length:Int))with|true=>(og (decide ((0:Int)<=i64.wrap ((b.length:Int)+1)/\(i64.wrap ((b.length:Int)+1))*((4:Nat):Int)<=140737488355328/\i64.wrap ((b.length:Int)+1)<=140737488355328)) (k 16 (ld b a (List.replicate (i64.wrap ((b.length:Int)+1)).toNat (0:Int)) 0 0)))|false=>(og (decide ((0:Int)<=i64.wrap ((a.length:Int)+1)/\(i64.wrap ((a.length:Int)+1))*((4:Nat):Int)<=140737488355328/\i64.wrap ((a.length:Int)+1)<=140737488355328)) (k 16 (ld a b (List.replicate (i64.wrap ((a.length:Int)+1)).toNat (0:Int)) 0 0)))
theorem LL(a b:List Int):RS yf 202 [.d apD a,.d apD b] (GN a b):=rsX
def nH(s0 s1 r0:List Int)(s6 s7:Int)(k:KT):OLR:=match decide (s7<(s0.length:Int))with|true=>(match aH s0 s7 with|some x1=>(match decide (s7<(s1.length:Int))with|true=>(match aH s1 s7 with|some x2=>(match aH r0 s7 with|some _=>(match true,r0[(s7).toNat]? with|true,some _=>k 16 (ld s0 s1 (r0.set ((s7).toNat) (Int.tmod (u32.wrap ((u32.wrap (s6+x1))+x2)) 1000000000)) (u32.wrap (Int.tdiv (u32.wrap ((u32.wrap (s6+x1))+x2)) 1000000000)) (i64.wrap (s7+1)))|_,_=>none)|none=>none)|none=>none)|false=>(match aH r0 s7 with|some _=>(match true,r0[(s7).toNat]? with|true,some _x2=>k 16 (ld s0 s1 (r0.set ((s7).toNat) (Int.tmod (u32.wrap (s6+x1)) 1000000000)) (u32.wrap (Int.tdiv (u32.wrap (s6+x1)) 1000000000)) (i64.wrap (s7+1)))|_,_=>none)|none=>none))|none=>none)|false=>(match aH r0 (s0.length:Int)with|some _=>(match true,r0[((s0.length:Int)).toNat]? with|true,some _x1=>(og (decide (aN (r0.set (((s0.length:Int)).toNat) s6))) (some [RV.d apD (ae (val (r0.set (((s0.length:Int)).toNat) s6)).toNat)]))|_,_=>none)|none=>none)
theorem qT(s0 s1 r0:List Int)(s6 s7:Int):RN yf 16 (ld s0 s1 r0 s6 s7) (nH s0 s1 r0 s6 s7):=rnX
def US:NT:=[((103,10),{keep:=[0,1,5,6,7],hl:=1})]
def zd:Ctx:=CX (ens rA) US
def jg(a b:List Int)(s7:Int)(r0:List Int)(s6:Int):Cfg:=⟨103,[.blk 0,.seq 37],[(0,.d apD a),(1,.d apD b),(5,.own 0),(6,.d apG s6),(7,SI s7)],[.row 109 apG r0],0,[]⟩
def Py(a b:List Int)(k:KT):OLR:=og (decide ((0:Int)<=(a.length:Int)/\(a.length:Int)*((4:Nat):Int)<=140737488355328/\(a.length:Int)<=140737488355328)) (k 10 (jg a b 0 (List.replicate ((a.length:Int)).toNat (0:Int)) 0))
theorem aeC(a b:List Int):RS zd 103 [.d apD a,.d apD b] (Py a b):=rsX
def iG(a b:List Int)(s7:Int)(r0:List Int)(s6:Int)(k:KT):OLR:=match decide (s7<(a.length:Int))with|true=>(match aH a s7 with|some x1=>(match decide (s7<(b.length:Int))with|true=>(match aH b s7 with|some x2=>(match decide ((u32.wrap ((u32.wrap ((u32.wrap (x1+1000000000))-s6))-x2))>=1000000000)with|true=>(match aH r0 s7 with|some _=>(match true,r0[(s7).toNat]? with|true,some _x3=>k 10 (jg a b (i64.wrap (s7+1)) (r0.set ((s7).toNat) (u32.wrap ((u32.wrap ((u32.wrap ((u32.wrap (x1+1000000000))-s6))-x2))-1000000000))) 0)|_,_=>none)|none=>none)|false=>(match aH r0 s7 with|some _=>(match true,r0[(s7).toNat]? with|true,some _x3=>k 10 (jg a b (i64.wrap (s7+1)) (r0.set ((s7).toNat) (u32.wrap ((u32.wrap ((u32.wrap (x1+1000000000))-s6))-x2))) 1)|_,_=>none)|none=>none))|none=>none)|false=>(match decide ((u32.wrap ((u32.wrap (x1+1000000000))-s6))>=1000000000)with|true=>(match aH r0 s7 with|some _=>(match true,r0[(s7).toNat]? with|true,some _x2=>k 10 (jg a b (i64.wrap (s7+1)) (r0.set ((s7).toNat) (u32.wrap ((u32.wrap ((u32.wrap (x1+1000000000))-s6))-1000000000))) 0)|_,_=>none)|none=>none)|false=>(match aH r0 s7 with|some _=>(match true,r0[(s7).toNat]? with|true,some _x2=>k 10 (jg a b (i64.wrap (s7+1)) (r0.set ((s7).toNat) (u32.wrap ((u32.wrap (x1+1000000000))-s6))) 1)|_,_=>none)|none=>none)))|none=>none)|false=>(og (decide (aN r0)) (some [RV.d apD (ae (val r0).toNat)]))
theorem kR(a b:List Int)(s7:Int)(r0:List Int)(s6:Int):RN zd 10 (jg a b s7 r0 s6) (iG a b s7 r0 s6):=rnX
def Uo:NT:=[((147,8),{keep:=[0,1,5,6],hl:=1}),((147,23),{keep:=[0,1,5,6,7,8],hl:=1})]
def rO:Ctx:=CX (ens rA) Uo
def tJ(a b:List Int)(s6:Int)(r0:List Int):Cfg:=⟨147,[.blk 0,.seq 40],[(0,.d apD a),(1,.d apD b),(5,.own 0),(6,SI s6)],[.row 109 apG r0],0,[]⟩
def tC(a b:List Int)(s6 s7 s8:Int)(r0:List Int):Cfg:=⟨147,[.blk 2,.seq 38,.blk 1,.seq 39,.lp 8,.blk 0,.seq 40],[(0,.d apD a),(1,.d apD b),(5,.own 0),(6,SI s6),(7,.d (.int .u64) s7),(8,SI s8)],[.row 109 apG r0],0,[]⟩
def Mt(a b:List Int)(k:KT):OLR:=og (decide ((0:Int)<=i64.wrap ((a.length:Int)+(b.length:Int))/\(i64.wrap ((a.length:Int)+(b.length:Int)))*((4:Nat):Int)<=140737488355328/\i64.wrap ((a.length:Int)+(b.length:Int))<=140737488355328)) (k 8 (tJ a b 0 (List.replicate (i64.wrap ((a.length:Int)+(b.length:Int))).toNat (0:Int))))
theorem adf(a b:List Int):RS rO 147 [.d apD a,.d apD b] (Mt a b):=rsX
def uO(a b:List Int)(s6:Int)(r0:List Int)(k:KT):OLR:=match decide (s6<(a.length:Int))with|true=>k 23 (tC a b s6 0 0 r0)|false=>(og (decide (aN r0)) (some [RV.d apD (ae (val r0).toNat)]))
theorem zN(a b:List Int)(s6:Int)(r0:List Int):RN rO 8 (tJ a b s6 r0) (uO a b s6 r0):=rnX
def rB(a b:List Int)(s6 s7 s8:Int)(r0:List Int)(k:KT):OLR:=match decide (s8<(b.length:Int))with|true=>(match aH r0 (i64.wrap (s6+s8))with|some _=>(match true,r0[(i64.wrap (s6+s8)).toNat]? with|true,some x1=>(match aH a s6 with|some x2=>(match aH b s8 with|some x3=>(match aH r0 (i64.wrap (s6+s8))with|some _=>(match true,r0[(i64.wrap (s6+s8)).toNat]? with|true,some _=>k 23 (tC a b s6 (u64.wrap (Int.tdiv (u64.wrap ((u64.wrap (s7+(u64.wrap x1)))+(u64.wrap ((u64.wrap x2)*(u64.wrap x3))))) 1000000000)) (i64.wrap (s8+1)) (r0.set ((i64.wrap (s6+s8)).toNat) (u32.wrap (Int.tmod (u64.wrap ((u64.wrap (s7+(u64.wrap x1)))+(u64.wrap ((u64.wrap x2)*(u64.wrap x3))))) 1000000000))))|_,_=>none)|none=>none)|none=>none)|none=>none)|_,_=>none)|none=>none)|false=>(match aH r0 (i64.wrap (s6+(b.length:Int)))with|some _=>(match true,r0[(i64.wrap (s6+(b.length:Int))).toNat]? with|true,some _x1=>k 8 (tJ a b (i64.wrap (s6+1)) (r0.set ((i64.wrap (s6+(b.length:Int))).toNat) (u32.wrap s7)))|_,_=>none)|none=>none)
theorem ze(a b:List Int)(s6 s7 s8:Int)(r0:List Int):RN rO 23 (tC a b s6 s7 s8 r0) (rB a b s6 s7 s8 r0):=rnX
def Hn:Cn 62 [.bool,apD]:=cn λ(neg:Bool) (l:List Int)=>lf (aN l) [.d y3Y (ah (bX neg (val l)))] λh=>by
 refine aA rA (NJ neg l) ⟨0,?_⟩;have hv:=aL h.1
 have hp:decide (((ae (val l).toNat).length:Int)>0)=decide (0<val l):=by
  refine aoI.2 ⟨λg=>?_,λg=>?_⟩
  ·apply amB;intro hc;rw[show(val l).toNat=0 by omega,fw]at g;simp at g
  ·have:ae (val l).toNat≠[]:=λe=>by rw[gG]at e;omega
   have:=am1.2 this;omega
 unfold NJ;rw[amh h,mM neg hv,hp];cases neg<;>rfl
theorem AR(a b:List Int)(ha:jl a)(hb:jl b)(hab:b.length<=a.length):∀(j i:Nat) (c:Int) (r:List Int),i+j=a.length->0<=c->c<=1->Lim r->r.length=a.length+1->(∀k (hk:k<r.length),i<=k->r[k]=0)->val r+pw i*c=val (a.take i)+val (b.take i)->
  yf.Runs 16 (ld a b r c (i:Int)) [.d apD (ae (val a+val b).toNat)]:=by
 have hsa:=ha.2;intro j;induction j with
 |zero=>
  intro i c r hi c0 c1 hr hl hz hv;obtain rfl:i=a.length:=by omega
  have hir:a.length<r.length:=by omega
  have hr0:=hz _ hir (amm _)
  have e:val (r.set a.length c)=val a+val b:=by
   rw[eV hir,hr0];rw[ant,anj hab]at hv;grind
  refine qT _ _ _ _ _ ⟨0,?_⟩;unfold nH;rw[aX (amm _),ai r,aC,amg hir];dsimp only;rw[amh (show aN (r.set a.length c) from⟨hr.set _ ⟨c0,by omega⟩,by simp;omega⟩),e]
 |succ j ih=>
  intro i c r hi c0 c1 hr hl hz hv;have hia:i<a.length:=by omega
  have hir:i<r.length:=by omega
  have xa:=ha.1.get hia;have hr0:=hz i hir (amm _)
  have step:∀(t:Int),0<=t->t<2000000000->val (b.take (i+1))=val (b.take i)+pw i*(t-a[i]-c)->yf.Runs 16 (ld a b (r.set i (t%1000000000)) (t/1000000000) ((i+1:Nat):Int)) [.d apD (ae (val a+val b).toNat)]:=by
   intro t t0 t1 hb';refine ih (i+1) (t/1000000000) (r.set i (t%1000000000)) (by omega) (by omega) (by omega) (hr.set i ⟨by omega,by omega⟩) (by simpa using hl) (pq hz) ?_;rw[eV hir,hr0,bg hia,hb',bW];have:=Int.emod_add_mul_ediv t 1000000000;grind
  by_cases hib:i<b.length
  ·have xb:=hb.1.get hib;have ht:=bg hib;obtain⟨q,hq⟩:=step (c+a[i]+b[i]) (by omega) (by omega) (by rw[ht];grind);refine qT _ _ _ _ _ ⟨q,?_⟩;unfold nH;rw[aK hia,ai,amg hia,aK hib,ai,amg hib,ai r i,aC,amg hir];dsimp only;rw[cY (x:=c+a[i]) (by omega) (by omega),cY (x:=c+a[i]+b[i]) (by omega) (by omega),ju (by omega),gC (by omega),cY (x:=(c+a[i]+b[i])/1000000000) (by omega) (by omega),aT (by omega)];exact hq
  ·have ht:=kq (b:=b) (i:=i) (by omega);obtain⟨q,hq⟩:=step (c+a[i]) (by omega) (by omega) (by rw[ht];grind);refine qT _ _ _ _ _ ⟨q,?_⟩;unfold nH;rw[aK hia,ai,amg hia,aX (show b.length<=i by omega),ai r i,aC,amg hir];dsimp only;rw[cY (x:=c+a[i]) (by omega) (by omega),ju (by omega),gC (by omega),cY (x:=(c+a[i])/1000000000) (by omega) (by omega),aT (by omega)];exact hq
def adM:Cn 202 [apD,apD]:=cn λ(a b:List Int)=>lf (jl a/\jl b) [.d apD (ae (val a+val b).toNat)] λh=>by
 refine a8 rA (show yf.Res _ _ _ from ?_);obtain⟨ha,hb⟩:=h;have hsa:=ha.2;have hsb:=hb.2;by_cases hc:a.length<b.length
 ·obtain⟨q,hq⟩:=AR b a hb ha (by omega) b.length 0 0 (List.replicate (b.length+1) 0) (by omega) (by omega) (by omega) (Lim.rep _) (by simp) (λk hk _=>by simp) (by simp[val,gj]);refine LL _ _ ⟨q,?_⟩;unfold GN;rw[aK hc,aT (by omega),sP (by omega),aC,apf (val a)];exact hq
 ·obtain⟨q,hq⟩:=AR a b ha hb (by omega) a.length 0 0 (List.replicate (a.length+1) 0) (by omega) (by omega) (by omega) (Lim.rep _) (by simp) (λk hk _=>by simp) (by simp[val,gj]);refine LL _ _ ⟨q,?_⟩;unfold GN;rw[aX (by omega),aT (k:=a.length) (by omega),sP (n:=a.length+1) (by omega),aC];exact hq
theorem J7(a b:List Int)(ha:aN a)(hb:aN b)(hle:val b<=val a):∀(j i:Nat) (c:Int) (r:List Int),i+j=a.length->0<=c->c<=1->Lim r->r.length=a.length->(∀k (hk:k<r.length),i<=k->r[k]=0)->val r+val (b.take i)=val (a.take i)+pw i*c->
  zd.Runs 10 (jg a b (i:Int) r c) [.d apD (ae (val a-val b).toNat)]:=by
 have hsa:=ha.2;intro j;induction j with
 |zero=>
  intro i c r hi c0 c1 hr hl hz hv;obtain rfl:i=a.length:=by omega
  refine kR _ _ _ _ _ ⟨0,?_⟩;unfold iG;rw[aX (amm _)];have hrl:=bU hr;rw[hl]at hrl;have hb2:val b=val (b.take a.length)+pw (min a.length b.length)*val (b.drop a.length):=fH b a.length;have hbd:0<=val (b.drop a.length):=aL (hb.1.drop _);have hal:=bU ha.1;have hbt:=aL (hb.1.take a.length);rw[ant]at hv
  have hz0:val (b.drop a.length)=0:=by
   rcases amX a.length b.length with h1|h1
   ·rw[amZ (by omega)]at hb2;rcases amM 0 (val (b.drop a.length))with h2|h2
    ·have hp:=cg a.length;have:=amo (show 1<=val (b.drop a.length) by omega) (amY hp);omega
    ·omega
   ·rw[am0 h1];rfl
  rw[hz0,aoX,apv]at hb2
  have hc0:c=0:=by
   have hp:=cg a.length;rcases(show c=0\/c=1 by omega)with h|h
   ·exact h
   ·subst h;rw[aoW]at hv;omega
  subst hc0;rw[aoX]at hv;rw[amh (show aN r from⟨hr,by omega⟩),show val r=val a-val b by omega]
 |succ j ih=>
  intro i c r hi c0 c1 hr hl hz hv;have hia:i<a.length:=by omega
  have hir:i<r.length:=by omega
  have xa:=ha.1.get hia;have hr0:=hz i hir (amm _)
  have step:∀(y c':Int),0<=y->y<1000000000->0<=c'->c'<=1->val (b.take (i+1))=val (b.take i)+pw i*(a[i]+1000000000*c'-y-c)->zd.Runs 10 (jg a b ((i+1:Nat):Int) (r.set i y) c') [.d apD (ae (val a-val b).toNat)]:=by
   intro y c' y0 y1 k0 k1 hb';refine ih (i+1) c' (r.set i y) (by omega) k0 k1 (hr.set i ⟨y0,y1⟩) (by simpa using hl) (pq hz) ?_;rw[eV hir,hr0,bg hia,hb',bW];grind
  by_cases hib:i<b.length
  ·have xb:=hb.1.get hib;have ht:=bg hib;by_cases hc:a[i]+1000000000-c-b[i]>=1000000000
   ·obtain⟨q,hq⟩:=step (a[i]+1000000000-c-b[i]-1000000000) 0 (by omega) (by omega) (by omega) (by omega) (by rw[ht];grind);refine kR _ _ _ _ _ ⟨q,?_⟩;unfold iG;rw[aK hia,ai,amg hia,aK hib,ai,amg hib,ai,aC,amg hir];dsimp only;rw[cY (x:=a[i]+1000000000) (by omega) (by omega),cY (x:=a[i]+1000000000-c) (by omega) (by omega),cY (x:=a[i]+1000000000-c-b[i]) (by omega) (by omega),amh hc,cY (x:=a[i]+1000000000-c-b[i]-1000000000) (by omega) (by omega),aT (by omega)];exact hq
   ·obtain⟨q,hq⟩:=step (a[i]+1000000000-c-b[i]) 1 (by omega) (by omega) (by omega) (by omega) (by rw[ht];grind);refine kR _ _ _ _ _ ⟨q,?_⟩;unfold iG;rw[aK hia,ai,amg hia,aK hib,ai,amg hib,ai,aC,amg hir];dsimp only;rw[cY (x:=a[i]+1000000000) (by omega) (by omega),cY (x:=a[i]+1000000000-c) (by omega) (by omega),cY (x:=a[i]+1000000000-c-b[i]) (by omega) (by omega),ami hc,aT (by omega)];exact hq
  ·have ht:=kq (b:=b) (i:=i) (by omega);by_cases hc:a[i]+1000000000-c>=1000000000
   ·obtain⟨q,hq⟩:=step (a[i]+1000000000-c-1000000000) 0 (by omega) (by omega) (by omega) (by omega) (by rw[ht];grind);refine kR _ _ _ _ _ ⟨q,?_⟩;unfold iG;rw[aK hia,ai,amg hia,aX (show b.length<=i by omega),ai r i,aC,amg hir];dsimp only;rw[cY (x:=a[i]+1000000000) (by omega) (by omega),cY (x:=a[i]+1000000000-c) (by omega) (by omega),amh hc,cY (x:=a[i]+1000000000-c-1000000000) (by omega) (by omega),aT (by omega)];exact hq
   ·obtain⟨q,hq⟩:=step (a[i]+1000000000-c) 1 (by omega) (by omega) (by omega) (by omega) (by rw[ht];grind);refine kR _ _ _ _ _ ⟨q,?_⟩;unfold iG;rw[aK hia,ai,amg hia,aX (show b.length<=i by omega),ai r i,aC,amg hir];dsimp only;rw[cY (x:=a[i]+1000000000) (by omega) (by omega),cY (x:=a[i]+1000000000-c) (by omega) (by omega),ami hc,aT (by omega)];exact hq
def Gg:Cn 103 [apD,apD]:=cn λ(a b:List Int)=>lf (oD a b) [.d apD (ae (val a-val b).toNat)] λh=>by
 refine a8 rA (show zd.Res _ _ _ from ?_);obtain⟨ha,hb,hle⟩:=h;have hsa:=ha.2;obtain⟨q,hq⟩:=J7 a b ha hb hle a.length 0 0 (List.replicate a.length 0) (by omega) (by omega) (by omega) (Lim.rep _) (by simp) (λk hk _=>by simp) (by simp[val,gj]);refine aeC _ _ ⟨q,?_⟩;unfold Py;rw[sP (by omega),aC];exact hq
theorem Hw(a b:List Int)(ha:jl a)(hb:jl b)(i:Nat)(hi:i<a.length)
  (hout:∀r,Lim r->r.length=a.length+b.length->(∀k (hk:k<r.length),i+1+b.length<=k->r[k]=0)->val r=val (a.take (i+1))*val b->rO.Runs 8 (tJ a b ((i+1:Nat):Int) r) [.d apD (ae (val a*val b).toNat)]):
  ∀(j k:Nat) (c:Int) (r:List Int),k+j=b.length->0<=c->c<1000000000->Lim r->r.length=a.length+b.length->(∀q (hq:q<r.length),i+b.length<=q->r[q]=0)->val r+pw (i+k)*c=val (a.take i)*val b+pw i*a[i]*val (b.take k)->
  rO.Runs 23 (tC a b (i:Int) c (k:Int) r) [.d apD (ae (val a*val b).toNat)]:=by
 have hsa:=ha.2;have hsb:=hb.2;have xa:=ha.1.get hi;intro j;induction j with
 |zero=>
  intro k c r hk c0 c1 hr hl hz hv;obtain rfl:k=b.length:=by omega
  have hir:i+b.length<r.length:=by omega
  have hr0:=hz _ hir (amm _)
  obtain⟨q,hq⟩:=hout (r.set (i+b.length) c) (hr.set _ ⟨c0,c1⟩) (by simpa using hl) (by rw[show i+1+b.length=i+b.length+1 by omega];exact pq hz) (by
   rw[eV hir,hr0,bg hi];rw[ant]at hv;grind)
  refine ze _ _ _ _ _ _ ⟨q,?_⟩;have hw:i64.wrap ((i:Int)+(b.length:Int))=((i+b.length:Nat):Int):=by rw[aO (by omega) (by omega)];simp
  unfold rB;rw[aX (amm _),hw,ai r (i+b.length),aC,amg hir,cY (x:=c) (by omega) (by omega),aT (k:=i) (by omega)];exact hq
 |succ j ih=>
  intro k c r hk c0 c1 hr hl hz hv;have hkb:k<b.length:=by omega
  have hir:i+k<r.length:=by omega
  have xb:=hb.1.get hkb;have xr:=hr.get hir;have hbd:=Gf xr xa xb ⟨c0,c1⟩
  obtain⟨q,hq⟩:=ih (k+1) ((r[i+k]+a[i]*b[k]+c)/1000000000) (r.set (i+k) ((r[i+k]+a[i]*b[k]+c)%1000000000)) (by omega) hbd.2.2.1 hbd.2.2.2 (hr.set _ (by omega)) (by simpa using hl)
   (λm hm hq=>by rw[anE (by omega)];exact hz m (by simpa using hm) hq) (by
    rw[eV hir,bg hkb,show i+(k+1)=i+k+1 by omega,bW,fc];rw[fc]at hv;have e:=Int.emod_add_mul_ediv (r[i+k]+a[i]*b[k]+c) 1000000000;grind)
  refine ze _ _ _ _ _ _ ⟨q,?_⟩;have hw:i64.wrap ((i:Int)+(k:Int))=((i+k:Nat):Int):=by rw[aO (by omega) (by omega)];simp
  unfold rB;rw[aK hkb,hw,ai b k,amg hkb,ai a i,amg hi,ai r (i+k),aC,amg hir];dsimp only;rw[bH (x:=r[i+k]) (by omega) (by omega),bH (x:=a[i]) (by omega) (by omega),bH (x:=b[k]) (by omega) (by omega),bH (x:=a[i]*b[k]) (by omega) (by omega),bH (x:=c+r[i+k]) (by omega) (by omega),bH (x:=c+r[i+k]+a[i]*b[k]) (by omega) (by omega),show c+r[i+k]+a[i]*b[k]=r[i+k]+a[i]*b[k]+c by omega,gC (a:=r[i+k]+a[i]*b[k]+c) (by omega),ju (a:=r[i+k]+a[i]*b[k]+c) (by omega),bH (x:=(r[i+k]+a[i]*b[k]+c)/1000000000) (by omega) (by omega),cY (x:=(r[i+k]+a[i]*b[k]+c)%1000000000) (by omega) (by omega),aT (k:=k) (by omega)];exact hq
theorem G8(a b:List Int)(ha:jl a)(hb:jl b):∀(j i:Nat) (r:List Int),i+j=a.length->Lim r->r.length=a.length+b.length->(∀k (hk:k<r.length),i+b.length<=k->r[k]=0)->val r=val (a.take i)*val b->
  rO.Runs 8 (tJ a b (i:Int) r) [.d apD (ae (val a*val b).toNat)]:=by
 have hsa:=ha.2;have hsb:=hb.2;intro j;induction j with
 |zero=>
  intro i r hi hr hl hz hv;obtain rfl:i=a.length:=by omega
  refine zN _ _ _ _ ⟨0,?_⟩;unfold uO;rw[ant]at hv;rw[aX (amm _),amh (show aN r from⟨hr,by omega⟩),hv]
 |succ j ih=>
  intro i r hi hr hl hz hv;have hia:i<a.length:=by omega
  obtain⟨q,hq⟩:=Hw a b ha hb i hia (λr' h1 h2 h3 h4=>ih (i+1) r' (by omega) h1 h2 h3 h4) b.length 0 0 r (by omega) (by omega) (by omega) hr hl hz (by simp[val,hv]);refine zN _ _ _ _ ⟨q,?_⟩;grind [uO]
def acN:Cn 147 [apD,apD]:=cn λ(a b:List Int)=>lf (jl a/\jl b) [.d apD (ae (val a*val b).toNat)] λh=>by
 refine a8 rA (show rO.Res _ _ _ from ?_);obtain⟨ha,hb⟩:=h;have hsa:=ha.2;have hsb:=hb.2;obtain⟨q,hq⟩:=G8 a b ha hb a.length 0 (List.replicate (a.length+b.length) 0) (by omega) (Lim.rep _) (by simp) (λk hk _=>by simp) (by simp[val,gj]);refine adf _ _ ⟨q,?_⟩;have hw:i64.wrap ((a.length:Int)+(b.length:Int))=((a.length+b.length:Nat):Int):=by rw[aO (by omega) (by omega)];simp
 unfold Mt;rw[hw,sP (by omega),aC];exact hq
theorem sH{x:BI}(h:okI x):jl x.2:=⟨h.1.1,by have:=h.2.2;omega⟩
theorem Wd(a b:Int):decide (bV a b>=0)=decide (b<=a):=by grind [cQ,dB,cq]
theorem w8(a b:Int):decide (bV a b>0)=decide (b<a):=by grind [cQ,dB,cq]
def oJ:List En:=[enK uz,enK CY,enF xB,enF xD,enK Hn,enK adM,enK Gg,enK acN]
def RU(n:Int)(_k:KT):OLR:=match decide (n<0)with|true=>(match decide (ip (u64.wrap (0-(u64.wrap n))))with|true=>(match decide (aN (ae (u64.wrap (0-(u64.wrap n))).toNat))with|true=>some [RV.d y3Y (ah (bX true (val (ae (u64.wrap (0-(u64.wrap n))).toNat))))]|false=>none)|false=>none)|false=>(match decide (ip (u64.wrap n))with|true=>(match decide (aN (ae (u64.wrap n).toNat))with|true=>some [RV.d y3Y (ah (bX false (val (ae (u64.wrap n).toNat))))]|false=>none)|false=>none)
def O6(x:Bool×List Int)(_k:KT):OLR:=match(x.2.length:Int)==0 with|true=>some [RV.d apE 0]|false=>(match x.1 with|true=>some [RV.d apE (-1)]|false=>some [RV.d apE 1])
def Rv(x y:Bool×List Int)(_k:KT):OLR:=match !(x.1==y.1)with|true=>(match x.1 with|true=>some [RV.d apE (-1)]|false=>some [RV.d apE 1])|false=>(match x.1 with|true=>(og (decide (rV y.2 x.2)) (some [RV.d apE (bV (val y.2) (val x.2))]))|false=>(og (decide (rV x.2 y.2)) (some [RV.d apE (bV (val x.2) (val y.2))])))
def Te(x y:Bool×List Int)(_k:KT):OLR:=match x.1==y.1 with|true=>(og (decide (jl x.2/\jl y.2)) (og (decide (aN (ae (val x.2+val y.2).toNat))) (some [RV.d y3Y (ah (bX x.1 (val (ae (val x.2+val y.2).toNat))))])))|false=>(og (decide (rV x.2 y.2)) (match decide ((bV (val x.2) (val y.2))>=0)with|true=>(og (decide (oD x.2 y.2)) (og (decide (aN (ae (val x.2-val y.2).toNat))) (some [RV.d y3Y (ah (bX x.1 (val (ae (val x.2-val y.2).toNat))))])))|false=>(og (decide (oD y.2 x.2)) (og (decide (aN (ae (val y.2-val x.2).toNat))) (some [RV.d y3Y (ah (bX y.1 (val (ae (val y.2-val x.2).toNat))))])))))
def Qz(x:Bool×List Int)(_k:KT):OLR:=og (decide (aN x.2)) (some [RV.d y3Y (ah (bX (!x.1) (val x.2)))])
def LB(x y:Bool×List Int)(_k:KT):OLR:=og (decide (jl x.2/\jl y.2)) (og (decide (aN (ae (val x.2*val y.2).toNat))) (some [RV.d y3Y (ah (bX (!(x.1==y.1)) (val (ae (val x.2*val y.2).toNat))))]))
def Xv(a:List Int)(n:Int)(_k:KT):OLR:=og (decide (aN ([n]))) (og (decide (jl a/\jl (ae (val ([n])).toNat))) (some [RV.d apD (ae (val a*val (ae (val ([n])).toNat)).toNat)]))
def xM:Cn 65 [apE]:=cn λ(n:Int)=>lf (aR n) [.d y3Y (ah n)] λh=>by
 refine aA oJ (RU n) ⟨0,?_⟩;have h1:=h.1;have h2:=h.2;unfold RU;by_cases hn:n<0
 ·have e:u64.wrap (0-u64.wrap n)= -n:=by rw[am5,am5];omega
  have hl:(ae (-n).toNat).length<=3:=cr (by omega) (aoO (show-n<18446744073709551616 by omega) (by decide));rw[amh hn];dsimp only;rw[e,amh (show ip (-n) from⟨by omega,by omega⟩),amh (cC (n:=(-n).toNat) (by omega)),bR (v:= -n) (by omega)];dsimp only;rw[show bX true (-n)=n by unfold bX;simp]
 ·have e:u64.wrap n=n:=bH (by omega) (by omega);have hl:(ae n.toNat).length<=3:=cr (by omega) (aoO (show n<18446744073709551616 by omega) (by decide));rw[ami hn];dsimp only;rw[e,amh (show ip n from⟨by omega,by omega⟩),amh (cC (n:=n.toNat) (by omega)),bR (v:=n) (by omega)];rfl
def Gv:Cn 28 [y3Y]:=cn λ(x:Bool×List Int)=>lf (okI x) [.d apE (bV (ab x) 0)] λh=>by
 refine aA oJ (O6 x) ⟨0,?_⟩;obtain⟨h0,h1,h2⟩:=cp h;unfold O6;rw[bL];unfold bX;by_cases he:x.2=[]
 ·have e0:=h2.1 he
  have ex:x.1=false:=by
   cases hx:x.1
   ·rfl
   ·have:=h1 hx;omega
  rw[ex,e0,he];rfl
 ·have hp:0<val x.2:=eo h.1 he;have:=am1.2 he;rw[show((x.2.length:Int)==0)=false by simp;omega];cases x.1
  ·simp only[cond_false];rw[cq hp]
  ·simp only[cond_true];rw[cQ (by omega)]
def GP:Cn 99 [y3Y,y3Y]:=cn λ(x y:Bool×List Int)=>lf (okI x/\okI y) [.d apE (bV (ab x) (ab y))] λh=>by
 refine aA oJ (Rv x y) ⟨0,?_⟩;obtain⟨hx,hy⟩:=h;obtain⟨x0,x1,x2⟩:=cp hx;obtain⟨y0,y1,y2⟩:=cp hy;have sx:=hx.2.2;have sy:=hy.2.2;unfold Rv;rw[bL,bL,amh (show rV y.2 x.2 from⟨⟨hy.1,by omega⟩,hx.1,by omega⟩),amh (show rV x.2 y.2 from⟨⟨hx.1,by omega⟩,hy.1,by omega⟩)];unfold bX;cases ex:x.1<;>cases ey:y.1
 ·rfl
 ·have:=y1 ey;simp only[cond_true,cond_false];rw[show bV (val x.2) (-val y.2)=1 from cq (by omega)];rfl
 ·have:=x1 ex;simp only[cond_true,cond_false];rw[show bV (-val x.2) (val y.2)= -1 from cQ (by omega)];rfl
 ·simp only[cond_true];rw[HM x0 y0];rfl
def Cp:Cn 146 [y3Y,y3Y]:=cn λ(x y:Bool×List Int)=>lf (okI x/\okI y) [.d y3Y (ah (ab x+ab y))] λh=>by
 refine aA oJ (Te x y) ⟨0,?_⟩;obtain⟨hx,hy⟩:=h;obtain⟨x0,x1,x2⟩:=cp hx;obtain⟨y0,y1,y2⟩:=cp hy;have lx:=fi hx;have ly:=fi hy;have tx:=sH hx;have ty:=sH hy;have sx:=hx.2.2;have sy:=hy.2.2;have bx:=bU hx.1.1;have by':=bU hy.1.1;have px:=df (show x.2.length<=1000000 by omega);have py:=df (show y.2.length<=1000000 by omega);have l1:(ae (val x.2+val y.2).toNat).length<=1000001:=cr (by omega) (by rw[bW];omega);have l2:(ae (val x.2-val y.2).toNat).length<=1000000:=dh (by have:=cg 1000000;omega);have l3:(ae (val y.2-val x.2).toNat).length<=1000000:=dh (by have:=cg 1000000;omega);unfold Te
 rw[bL,bL,amh (show jl x.2/\jl y.2 from⟨tx,ty⟩),amh (cC (n:=(val x.2+val y.2).toNat) (by omega)),amh (cC (n:=(val x.2-val y.2).toNat) (by omega)),amh (cC (n:=(val y.2-val x.2).toNat) (by omega)),bR (v:=val x.2+val y.2) (by omega),
  amh (show rV x.2 y.2 from⟨⟨hx.1,by omega⟩,hy.1,by omega⟩),Wd]
 cases hs:x.1==y.1
 ·dsimp only;rcases amM (val x.2) (val y.2)with hc|hc
  ·rw[ami (show ¬val y.2<=val x.2 by omega),amh (show oD y.2 x.2 from⟨ly,lx,by omega⟩),bR (v:=val y.2-val x.2) (by omega)];dsimp only;unfold bX;cases ex:x.1<;>cases ey:y.1<;>simp_all<;>congr 2<;>omega
  ·rw[amh hc,amh (show oD x.2 y.2 from⟨lx,ly,hc⟩),bR (v:=val x.2-val y.2) (by omega)];dsimp only;unfold bX;cases ex:x.1<;>cases ey:y.1<;>simp_all<;>congr 2<;>omega
 ·dsimp only;have e:=amW.1 hs;rw[<-e];unfold bX;cases x.1
  ·rfl
  ·simp only[cond_true];rw[show-(val x.2+val y.2)= -val x.2+ -val y.2 by omega]
def P2:Cn 203 [y3Y]:=cn λ(x:Bool×List Int)=>lf (okI x) [.d y3Y (ah (-ab x))] λh=>by
 refine aA oJ (Qz x) ⟨0,?_⟩;unfold Qz;rw[bL,amh (fi h)];unfold bX;cases x.1<;>simp
def Nj:Cn 101 [y3Y,y3Y]:=cn λ(x y:Bool×List Int)=>lf (okI x/\okI y) [.d y3Y (ah (ab x*ab y))] λh=>by
 refine aA oJ (LB x y) ⟨0,?_⟩;obtain⟨hx,hy⟩:=h;obtain⟨x0,x1,x2⟩:=cp hx;obtain⟨y0,y1,y2⟩:=cp hy;have bx:=bU hx.1.1;have by':=bU hy.1.1;have sx:=hx.2.2;have sy:=hy.2.2;have hm:0<=val x.2*val y.2:=anc x0 y0
 have l1:(ae (val x.2*val y.2).toNat).length<=x.2.length+y.2.length:=cr hm (by
  rw[fc];have p1:=cg x.2.length;have p2:=cg y.2.length;have:=aox (show val x.2<=pw x.2.length-1 by omega) (show val y.2<=pw y.2.length-1 by omega) y0 (by omega);grind)
 unfold LB;rw[bL,bL,amh (show jl x.2/\jl y.2 from⟨sH hx,sH hy⟩),amh (cC (n:=(val x.2*val y.2).toNat) (by omega)),bR hm];unfold bX;cases x.1<;>cases y.1<;>simp[Int.neg_mul,app]
def byP(a:List Int)(n:Int):Prop:=jl a/\0<=n/\n<1000000000
instance (a:List Int) (n:Int):Decidable (byP a n):=by unfold byP;infer_instance
def WK:Cn 102 [apD,apG]:=cn λ(a:List Int) (n:Int)=>lf (byP a n) [.d apD (ae (val a*n).toNat)] λh=>by
 refine aA oJ (Xv a n) ⟨0,?_⟩;obtain⟨ha,h1,h2⟩:=h;have hl:(ae n.toNat).length<=1:=cr (by omega) (by show n<pw 1;simp[pw];exact h2);have e:val [n]=n:=by simp[val]
 unfold Xv;rw[e,amh (show aN [n] from⟨Lim.cons ⟨by omega,h2⟩ Lim.nil,by simp⟩),amh (show jl a/\jl (ae n.toNat) from⟨ha,bS _,by omega⟩),bR (by omega)]
def ad8:List En:=enK Cp::enK P2::oJ
def Mk(x y:Bool×List Int)(_k:KT):OLR:=og (decide (okI y)) (og (decide (okI x/\okI (ah (-ab y)))) (some [RV.d y3Y (ah (ab x+ab (ah (-ab y))))]))
def aa0:Cn 201 [y3Y,y3Y]:=cn λ(x y:Bool×List Int)=>lf (okI x/\okI y) [.d y3Y (ah (ab x-ab y))] λh=>by
 refine aA ad8 (Mk x y) ⟨0,?_⟩;obtain⟨hx,hy⟩:=h;unfold Mk;rw[amh hy,amh (show okI x/\okI (ah (-ab y)) from⟨hx,aS (by rw[i7];exact gK hy)⟩),dec_enc,Int.sub_eq_add_neg]
section
def Ej(a b:List Int):Prop:=(can a/\a.length<=1000000)/\(can b/\b.length<=1000000)/\b≠[]
instance (a b:List Int):Decidable (Ej a b):=by unfold Ej;infer_instance
def SS:List En:=[enK uz,enK CY,enF xB,enF xD,enK WK,enK Gg]
def Vg:NT:=[((61,30),{keep:=[8,9,10,11,12,13,14],pure_:=[(11,.int .u32)],hl:=1}),((61,67),{keep:=[8,9,10,11,12,13,14,16,17],pure_:=[(17,.int .u32)],hl:=1}),((61,90),{keep:=[8,11,12,18,19,20],hl:=2})]
def jP:Ctx:=CX (ens SS) Vg
def kv(a b:List Int)(x1 x2:Int)(s11:List Int)(s14:Int)(r0:List Int):Cfg:=⟨61,[.blk 0,.seq 82],[(8,.d apG (u32.wrap (u64.wrap (Int.tdiv 1000000000 (u64.wrap ((u64.wrap x1)+1)))))),(9,.d apD (ae (val b*(u32.wrap (u64.wrap (Int.tdiv 1000000000 (u64.wrap ((u64.wrap x1)+1)))))).toNat)),(10,.d (.int .u64) (u64.wrap x2)),(11,.d apD s11),(12,.osl 0 1 ((0:Int).toNat) ((((ae (val a*(u32.wrap (u64.wrap (Int.tdiv 1000000000 (u64.wrap ((u64.wrap x1)+1)))))).toNat).length:Int):Int).toNat-(0:Int).toNat)),(13,.d apD (ae (val a*(u32.wrap (u64.wrap (Int.tdiv 1000000000 (u64.wrap ((u64.wrap x1)+1)))))).toNat)),(14,SI s14)],[.row 109 apG r0],0,[]⟩
def eG(a b:List Int)(x1 x2:Int)(s11:List Int)(s14:Int)(r0:List Int)(x3 s16:Int)(s17:List Int):Cfg:=⟨61,[.blk 2,.seq 78,.blk 1,.seq 81,.lp 30,.blk 0,.seq 82],[(8,.d apG (u32.wrap (u64.wrap (Int.tdiv 1000000000 (u64.wrap ((u64.wrap x1)+1)))))),(9,.d apD (ae (val b*(u32.wrap (u64.wrap (Int.tdiv 1000000000 (u64.wrap ((u64.wrap x1)+1)))))).toNat)),(10,.d (.int .u64) (u64.wrap x2)),(11,.d apD (ae (val (([x3])++s11)).toNat)),(12,.osl 0 1 ((0:Int).toNat) ((((ae (val a*(u32.wrap (u64.wrap (Int.tdiv 1000000000 (u64.wrap ((u64.wrap x1)+1)))))).toNat).length:Int):Int).toNat-(0:Int).toNat)),(13,.d apD (ae (val a*(u32.wrap (u64.wrap (Int.tdiv 1000000000 (u64.wrap ((u64.wrap x1)+1)))))).toNat)),(14,SI s14),(16,.d (.int .u64) s16),(17,.d apD s17)],[.row 109 apG r0],0,[]⟩
def ua(a:List Int)(x1:Int)(s11 r0:List Int)(s18 s20:Int)(r1:List Int):Cfg:=⟨61,[.blk 4,.seq 105],[(8,.d apG (u32.wrap (u64.wrap (Int.tdiv 1000000000 (u64.wrap ((u64.wrap x1)+1)))))),(11,.d apD s11),(12,.osl 0 1 ((0:Int).toNat) ((((ae (val a*(u32.wrap (u64.wrap (Int.tdiv 1000000000 (u64.wrap ((u64.wrap x1)+1)))))).toNat).length:Int):Int).toNat-(0:Int).toNat)),(18,.d (.int .u64) s18),(19,.own 1),(20,SI s20)],[.row 109 apG r0,.row 109 apG r1],0,[]⟩
def Ff(a b:List Int)(k:KT):OLR:=match decide ((a.length:Int)<=2)with|true=>(match decide ((b.length:Int)<=2)with|true=>(og (decide (qy a)) (og (decide (qy b)) (match decide (val b=(0:Int))with|true=>none|false=>(match decide (val b=(0:Int))with|true=>none|false=>(og (decide (ip (u64.wrap (Int.tdiv (val a) (val b))))) (og (decide (ip (Int.tmod (val a) (val b)))) (some [RV.d apD (ae (u64.wrap (Int.tdiv (val a) (val b))).toNat),RV.d apD (ae (Int.tmod (val a) (val b)).toNat)])))))))|false=>(match aH b (i64.wrap ((b.length:Int)-1))with|some x1=>(match decide (u64.wrap ((u64.wrap x1)+1)=(0:Int))with|true=>none|false=>(og (decide (byP b (u32.wrap (u64.wrap (Int.tdiv 1000000000 (u64.wrap ((u64.wrap x1)+1))))))) (match aH (ae (val b*(u32.wrap (u64.wrap (Int.tdiv 1000000000 (u64.wrap ((u64.wrap x1)+1)))))).toNat) (i64.wrap (((ae (val b*(u32.wrap (u64.wrap (Int.tdiv 1000000000 (u64.wrap ((u64.wrap x1)+1)))))).toNat).length:Int)-1))with|some x2=>(og (decide ((0:Int)<=i64.wrap ((a.length:Int)+1)/\(i64.wrap ((a.length:Int)+1))*((4:Nat):Int)<=140737488355328/\i64.wrap ((a.length:Int)+1)<=140737488355328)) (og (decide (byP a (u32.wrap (u64.wrap (Int.tdiv 1000000000 (u64.wrap ((u64.wrap x1)+1))))))) (og (decide ((0:Int)<=0/\0<=((ae (val a*(u32.wrap (u64.wrap (Int.tdiv 1000000000 (u64.wrap ((u64.wrap x1)+1)))))).toNat).length:Int)/\((ae (val a*(u32.wrap (u64.wrap (Int.tdiv 1000000000 (u64.wrap ((u64.wrap x1)+1)))))).toNat).length:Int)<=((List.replicate (i64.wrap ((a.length:Int)+1)).toNat (0:Int)).length:Int))) (k 30 (kv a b x1 x2 ([]) (i64.wrap (((ae (val a*(u32.wrap (u64.wrap (Int.tdiv 1000000000 (u64.wrap ((u64.wrap x1)+1)))))).toNat).length:Int)-1)) (List.replicate (i64.wrap ((a.length:Int)+1)).toNat (0:Int)))))))|none=>none)))|none=>none))|false=>(match aH b (i64.wrap ((b.length:Int)-1))with|some x1=>(match decide (u64.wrap ((u64.wrap x1)+1)=(0:Int))with|true=>none|false=>(og (decide (byP b (u32.wrap (u64.wrap (Int.tdiv 1000000000 (u64.wrap ((u64.wrap x1)+1))))))) (match aH (ae (val b*(u32.wrap (u64.wrap (Int.tdiv 1000000000 (u64.wrap ((u64.wrap x1)+1)))))).toNat) (i64.wrap (((ae (val b*(u32.wrap (u64.wrap (Int.tdiv 1000000000 (u64.wrap ((u64.wrap x1)+1)))))).toNat).length:Int)-1))with|some x2=>(og (decide ((0:Int)<=i64.wrap ((a.length:Int)+1)/\(i64.wrap ((a.length:Int)+1))*((4:Nat):Int)<=140737488355328/\i64.wrap ((a.length:Int)+1)<=140737488355328)) (og (decide (byP a (u32.wrap (u64.wrap (Int.tdiv 1000000000 (u64.wrap ((u64.wrap x1)+1))))))) (og (decide ((0:Int)<=0/\0<=((ae (val a*(u32.wrap (u64.wrap (Int.tdiv 1000000000 (u64.wrap ((u64.wrap x1)+1)))))).toNat).length:Int)/\((ae (val a*(u32.wrap (u64.wrap (Int.tdiv 1000000000 (u64.wrap ((u64.wrap x1)+1)))))).toNat).length:Int)<=((List.replicate (i64.wrap ((a.length:Int)+1)).toNat (0:Int)).length:Int))) (k 30 (kv a b x1 x2 ([]) (i64.wrap (((ae (val a*(u32.wrap (u64.wrap (Int.tdiv 1000000000 (u64.wrap ((u64.wrap x1)+1)))))).toNat).length:Int)-1)) (List.replicate (i64.wrap ((a.length:Int)+1)).toNat (0:Int)))))))|none=>none)))|none=>none)
theorem Si(a b:List Int):RS jP 61 [.d apD a,.d apD b] (Ff a b):=rsX
def ln(a b:List Int)(x1 x2:Int)(s11:List Int)(s14:Int)(r0:List Int)(k:KT):OLR:=match decide (s14>=0)with|true=>(match aH (ae (val a*(u32.wrap (u64.wrap (Int.tdiv 1000000000 (u64.wrap ((u64.wrap x1)+1)))))).toNat) s14 with|some x3=>(og (decide ((([x3]).length+s11.length)*4<=140737488355328/\([x3]).length+s11.length<=140737488355328)) (og (decide (aN (([x3])++s11))) (match decide (((ae (val (([x3])++s11)).toNat).length:Int)>((ae (val b*(u32.wrap (u64.wrap (Int.tdiv 1000000000 (u64.wrap ((u64.wrap x1)+1)))))).toNat).length:Int))with|true=>(match aH (ae (val (([x3])++s11)).toNat) ((ae (val b*(u32.wrap (u64.wrap (Int.tdiv 1000000000 (u64.wrap ((u64.wrap x1)+1)))))).toNat).length:Int)with|some x4=>(match decide (((ae (val (([x3])++s11)).toNat).length:Int)>=((ae (val b*(u32.wrap (u64.wrap (Int.tdiv 1000000000 (u64.wrap ((u64.wrap x1)+1)))))).toNat).length:Int))with|true=>(match aH (ae (val (([x3])++s11)).toNat) (i64.wrap (((ae (val b*(u32.wrap (u64.wrap (Int.tdiv 1000000000 (u64.wrap ((u64.wrap x1)+1)))))).toNat).length:Int)-1))with|some x5=>(match decide (u64.wrap x2=(0:Int))with|true=>none|false=>(match decide ((u64.wrap (Int.tdiv (u64.wrap ((u64.wrap ((u64.wrap x4)*1000000000))+(u64.wrap x5))) (u64.wrap x2)))>999999999)with|true=>(og (decide (byP (ae (val b*(u32.wrap (u64.wrap (Int.tdiv 1000000000 (u64.wrap ((u64.wrap x1)+1)))))).toNat) (u32.wrap 999999999))) (k 67 (eG a b x1 x2 s11 s14 r0 x3 999999999 (ae (val (ae (val b*(u32.wrap (u64.wrap (Int.tdiv 1000000000 (u64.wrap ((u64.wrap x1)+1)))))).toNat)*(u32.wrap 999999999)).toNat))))|false=>(og (decide (byP (ae (val b*(u32.wrap (u64.wrap (Int.tdiv 1000000000 (u64.wrap ((u64.wrap x1)+1)))))).toNat) (u32.wrap (u64.wrap (Int.tdiv (u64.wrap ((u64.wrap ((u64.wrap x4)*1000000000))+(u64.wrap x5))) (u64.wrap x2)))))) (k 67 (eG a b x1 x2 s11 s14 r0 x3 (u64.wrap (Int.tdiv (u64.wrap ((u64.wrap ((u64.wrap x4)*1000000000))+(u64.wrap x5))) (u64.wrap x2))) (ae (val (ae (val b*(u32.wrap (u64.wrap (Int.tdiv 1000000000 (u64.wrap ((u64.wrap x1)+1)))))).toNat)*(u32.wrap (u64.wrap (Int.tdiv (u64.wrap ((u64.wrap ((u64.wrap x4)*1000000000))+(u64.wrap x5))) (u64.wrap x2))))).toNat))))))|none=>none)|false=>(match decide (u64.wrap x2=(0:Int))with|true=>none|false=>(match decide ((u64.wrap (Int.tdiv (u64.wrap ((u64.wrap x4)*1000000000)) (u64.wrap x2)))>999999999)with|true=>(og (decide (byP (ae (val b*(u32.wrap (u64.wrap (Int.tdiv 1000000000 (u64.wrap ((u64.wrap x1)+1)))))).toNat) (u32.wrap 999999999))) (k 67 (eG a b x1 x2 s11 s14 r0 x3 999999999 (ae (val (ae (val b*(u32.wrap (u64.wrap (Int.tdiv 1000000000 (u64.wrap ((u64.wrap x1)+1)))))).toNat)*(u32.wrap 999999999)).toNat))))|false=>(og (decide (byP (ae (val b*(u32.wrap (u64.wrap (Int.tdiv 1000000000 (u64.wrap ((u64.wrap x1)+1)))))).toNat) (u32.wrap (u64.wrap (Int.tdiv (u64.wrap ((u64.wrap x4)*1000000000)) (u64.wrap x2)))))) (k 67 (eG a b x1 x2 s11 s14 r0 x3 (u64.wrap (Int.tdiv (u64.wrap ((u64.wrap x4)*1000000000)) (u64.wrap x2))) (ae (val (ae (val b*(u32.wrap (u64.wrap (Int.tdiv 1000000000 (u64.wrap ((u64.wrap x1)+1)))))).toNat)*(u32.wrap (u64.wrap (Int.tdiv (u64.wrap ((u64.wrap x4)*1000000000)) (u64.wrap x2))))).toNat)))))))|none=>none)|false=>(match decide (((ae (val (([x3])++s11)).toNat).length:Int)>=((ae (val b*(u32.wrap (u64.wrap (Int.tdiv 1000000000 (u64.wrap ((u64.wrap x1)+1)))))).toNat).length:Int))with|true=>(match aH (ae (val (([x3])++s11)).toNat) (i64.wrap (((ae (val b*(u32.wrap (u64.wrap (Int.tdiv 1000000000 (u64.wrap ((u64.wrap x1)+1)))))).toNat).length:Int)-1))with|some x4=>(match decide (u64.wrap x2=(0:Int))with|true=>none|false=>(match decide ((u64.wrap (Int.tdiv (u64.wrap (0+(u64.wrap x4))) (u64.wrap x2)))>999999999)with|true=>(og (decide (byP (ae (val b*(u32.wrap (u64.wrap (Int.tdiv 1000000000 (u64.wrap ((u64.wrap x1)+1)))))).toNat) (u32.wrap 999999999))) (k 67 (eG a b x1 x2 s11 s14 r0 x3 999999999 (ae (val (ae (val b*(u32.wrap (u64.wrap (Int.tdiv 1000000000 (u64.wrap ((u64.wrap x1)+1)))))).toNat)*(u32.wrap 999999999)).toNat))))|false=>(og (decide (byP (ae (val b*(u32.wrap (u64.wrap (Int.tdiv 1000000000 (u64.wrap ((u64.wrap x1)+1)))))).toNat) (u32.wrap (u64.wrap (Int.tdiv (u64.wrap (0+(u64.wrap x4))) (u64.wrap x2)))))) (k 67 (eG a b x1 x2 s11 s14 r0 x3 (u64.wrap (Int.tdiv (u64.wrap (0+(u64.wrap x4))) (u64.wrap x2))) (ae (val (ae (val b*(u32.wrap (u64.wrap (Int.tdiv 1000000000 (u64.wrap ((u64.wrap x1)+1)))))).toNat)*(u32.wrap (u64.wrap (Int.tdiv (u64.wrap (0+(u64.wrap x4))) (u64.wrap x2))))).toNat))))))|none=>none)|false=>(match decide (u64.wrap x2=(0:Int))with|true=>none|false=>(match decide ((u64.wrap (Int.tdiv 0 (u64.wrap x2)))>999999999)with|true=>(og (decide (byP (ae (val b*(u32.wrap (u64.wrap (Int.tdiv 1000000000 (u64.wrap ((u64.wrap x1)+1)))))).toNat) (u32.wrap 999999999))) (k 67 (eG a b x1 x2 s11 s14 r0 x3 999999999 (ae (val (ae (val b*(u32.wrap (u64.wrap (Int.tdiv 1000000000 (u64.wrap ((u64.wrap x1)+1)))))).toNat)*(u32.wrap 999999999)).toNat))))|false=>(og (decide (byP (ae (val b*(u32.wrap (u64.wrap (Int.tdiv 1000000000 (u64.wrap ((u64.wrap x1)+1)))))).toNat) (u32.wrap (u64.wrap (Int.tdiv 0 (u64.wrap x2)))))) (k 67 (eG a b x1 x2 s11 s14 r0 x3 (u64.wrap (Int.tdiv 0 (u64.wrap x2))) (ae (val (ae (val b*(u32.wrap (u64.wrap (Int.tdiv 1000000000 (u64.wrap ((u64.wrap x1)+1)))))).toNat)*(u32.wrap (u64.wrap (Int.tdiv 0 (u64.wrap x2))))).toNat))))))))))|none=>none)|false=>(og (decide ((0:Int)<=(s11.length:Int)/\(s11.length:Int)*((4:Nat):Int)<=140737488355328/\(s11.length:Int)<=140737488355328)) (k 90 (ua a x1 s11 r0 0 (i64.wrap ((s11.length:Int)-1)) (List.replicate ((s11.length:Int)).toNat (0:Int)))))
theorem nU(a b:List Int)(x1 x2:Int)(s11:List Int)(s14:Int)(r0:List Int):RN jP 30 (kv a b x1 x2 s11 s14 r0) (ln a b x1 x2 s11 s14 r0):=rnX
def nw(a b:List Int)(x1 x2:Int)(s11:List Int)(s14:Int)(r0:List Int)(x3 s16:Int)(s17:List Int)(k:KT):OLR:=og (decide (rV s17 (ae (val (([x3])++s11)).toNat))) (match decide ((bV (val s17) (val (ae (val (([x3])++s11)).toNat)))>0)with|true=>(og (decide (oD s17 (ae (val b*(u32.wrap (u64.wrap (Int.tdiv 1000000000 (u64.wrap ((u64.wrap x1)+1)))))).toNat))) (k 67 (eG a b x1 x2 s11 s14 r0 x3 (u64.wrap (s16-1)) (ae (val s17-val (ae (val b*(u32.wrap (u64.wrap (Int.tdiv 1000000000 (u64.wrap ((u64.wrap x1)+1)))))).toNat)).toNat))))|false=>(og (decide (oD (ae (val (([x3])++s11)).toNat) s17)) (match true,decide ((0:Int)<=s14/\s14<(((((ae (val a*(u32.wrap (u64.wrap (Int.tdiv 1000000000 (u64.wrap ((u64.wrap x1)+1)))))).toNat).length:Int):Int).toNat-(0:Int).toNat:Nat):Int))with|true,true=>(match true,r0[(0:Int).toNat+(s14).toNat]? with|true,some _=>k 30 (kv a b x1 x2 (ae (val (ae (val (([x3])++s11)).toNat)-val s17).toNat) (i64.wrap (s14-1)) (r0.set ((0:Int).toNat+(s14).toNat) (u32.wrap s16)))|_,_=>none)|_,_=>none)))
theorem rZ(a b:List Int)(x1 x2:Int)(s11:List Int)(s14:Int)(r0:List Int)(x3 s16:Int)(s17:List Int):RN jP 67 (eG a b x1 x2 s11 s14 r0 x3 s16 s17) (nw a b x1 x2 s11 s14 r0 x3 s16 s17):=rnX
def rn(a:List Int)(x1:Int)(s11 r0:List Int)(s18 s20:Int)(r1:List Int)(k:KT):OLR:=match decide (s20>=0)with|true=>(match aH s11 s20 with|some x2=>(match decide (u64.wrap (u32.wrap (u64.wrap (Int.tdiv 1000000000 (u64.wrap ((u64.wrap x1)+1)))))=(0:Int))with|true=>none|false=>(match aH r1 s20 with|some _=>(match true,r1[(s20).toNat]? with|true,some _=>(match decide (u64.wrap (u32.wrap (u64.wrap (Int.tdiv 1000000000 (u64.wrap ((u64.wrap x1)+1)))))=(0:Int))with|true=>none|false=>k 90 (ua a x1 s11 r0 (Int.tmod (u64.wrap ((u64.wrap (s18*1000000000))+(u64.wrap x2))) (u64.wrap (u32.wrap (u64.wrap (Int.tdiv 1000000000 (u64.wrap ((u64.wrap x1)+1))))))) (i64.wrap (s20-1)) (r1.set ((s20).toNat) (u32.wrap (u64.wrap (Int.tdiv (u64.wrap ((u64.wrap (s18*1000000000))+(u64.wrap x2))) (u64.wrap (u32.wrap (u64.wrap (Int.tdiv 1000000000 (u64.wrap ((u64.wrap x1)+1))))))))))))|_,_=>none)|none=>none))|none=>none)|false=>(og (decide (aN ((r0.drop ((0:Int).toNat)).take ((((ae (val a*(u32.wrap (u64.wrap (Int.tdiv 1000000000 (u64.wrap ((u64.wrap x1)+1)))))).toNat).length:Int):Int).toNat-(0:Int).toNat)))) (og (decide (aN r1)) (some [RV.d apD (ae (val ((r0.drop ((0:Int).toNat)).take ((((ae (val a*(u32.wrap (u64.wrap (Int.tdiv 1000000000 (u64.wrap ((u64.wrap x1)+1)))))).toNat).length:Int):Int).toNat-(0:Int).toNat))).toNat),RV.d apD (ae (val r1).toNat)])))
theorem yg(a:List Int)(x1:Int)(s11 r0:List Int)(s18 s20:Int)(r1:List Int):RN jP 90 (ua a x1 s11 r0 s18 s20 r1) (rn a x1 s11 r0 s18 s20 r1):=rnX
def qsc(x1:Int):Int:=u32.wrap (u64.wrap (Int.tdiv 1000000000 (u64.wrap ((u64.wrap x1)+1))))
theorem fX(x1:Int):u32.wrap (u64.wrap (Int.tdiv 1000000000 (u64.wrap ((u64.wrap x1)+1))))=qsc x1:=by
 have h:∀y,qsc x1=y->y=qsc x1:=λy e=>e.symm;exact h _ rfl
theorem aeb{x:Int}(h1:1<=x)(h2:x<1000000000):qsc x=1000000000/(x+1)/\1<=qsc x/\qsc x<1000000000:=by
 have h3:1<=1000000000/(x+1):=Int.le_ediv_of_mul_le (by omega) (by omega);have h4:1000000000/(x+1)<1000000000:=anL (by omega) (by omega);grind [qsc,bH,cY]
theorem Gm{v:Int}(h:0<v):∃(n:Nat) (x:Int),(ae v.toNat).length=n+1/\(ae v.toNat)[n]?=some x/\1<=x/\x<1000000000/\x*pw n<=v:=by
 have hne:ae v.toNat≠[]:=λe=>by rw[gG]at e;omega
 rcases List.eq_nil_or_concat (ae v.toNat)with h0|⟨l,x,hx⟩
 ·grind
 ·have hv:=bG v.toNat
  have hc:=dK v.toNat
  have hl:=bS v.toNat
  rw[List.concat_eq_append]at hx;rw[hx]at hv hc hl;have hxx:=hl x (by simp);have hx0:x≠0:=λe=>hc.2 (by simp[e]);have hln:=aL (l:=l) (λy hy=>hl y (by simp[hy]));rw[dv]at hv;simp only[val]at hv;refine⟨l.length,x,by rw[hx];simp,by rw[hx];simp,by omega,hxx.2,?_⟩;grind
section
variable (a b:List Int) (x1 x2:Int) (V:Int) (hV:val b*qsc x1=V) (hs:1<=qsc x1/\qsc x1<1000000000) (hp:0<V) (hra:(ae (val a*qsc x1).toNat).length<=a.length+1) (ha:Lim a/\a.length<=1000000) (hL:(ae V.toNat).length<=1000001)
theorem Nq(hs:1<=qsc x1/\qsc x1<1000000000)(l r0:List Int)(hl:Lim l/\l.length<=2000000)(hr0:aN r0)(hz0:∀k (hk:k<r0.length),(ae (val a*qsc x1).toNat).length<=k->r0[k]=0):∀(n:Nat) (c:Int) (r:List Int),n<=l.length->0<=c->c<qsc x1->Lim r->r.length=l.length->(∀k (hk:k<r.length),k<n->r[k]=0)->qsc x1*val r+pw n*c+val (l.take n)=val l->
  jP.Runs 90 (ua a x1 l r0 c ((n:Int)-1) r) [.d apD (ae (val r0).toNat),.d apD (ae (val l/qsc x1).toNat)]:=by
 have hsa:=hl.2;have e64:u64.wrap (qsc x1)=qsc x1:=bH (by omega) (by omega);intro n;induction n with
 |zero=>
  intro c r hn c0 c1 hr hlen hz hv;simp only[n6,List.take_zero,val,apo,apv]at hv
  have e2:val l/qsc x1=val r:=by
   rw[<-hv,apf,an9 _ _ (by omega),anp c0 c1];omega
  have e3:=wJ hz0;have e4:aN (r0.take (ae (val a*qsc x1).toNat).length):=⟨hr0.1.take _,by have:=hr0.2;rw[amV];omega⟩
  refine yg _ _ _ _ _ _ _ ⟨0,?_⟩;unfold rn;simp only[fX,Int.toNat_zero,aoy,an3,apu];rw[dF (by omega)];dsimp only;rw[dT e4,dT (show aN r from⟨hr,by omega⟩),e3,e2]
 |succ n ih=>
  intro c r hn c0 c1 hr hlen hz hv;have hna:n<l.length:=by omega
  have hnr:n<r.length:=by omega
  have xa:=hl.1.get hna;have hr0':=hz n hnr (by omega);have hcb:0<=c*1000000000+l[n]:=by omega
  have m0:=ans (c*1000000000+l[n]) (show qsc x1≠0 by omega);have m1:=am4 (c*1000000000+l[n]) (show 0<qsc x1 by omega);have md:=am3 (c*1000000000+l[n]) (qsc x1);have d0:0<=(c*1000000000+l[n])/qsc x1:=anh hcb (by omega)
  have d1:(c*1000000000+l[n])/qsc x1<1000000000:=by
   refine anL (by omega) ?_;have:=amu (show c+1<=qsc x1 by omega) (show(0:Int)<=1000000000 by decide);rw[aoa 1000000000 (qsc x1)];omega
  obtain⟨q,hq⟩:=ih ((c*1000000000+l[n])%qsc x1) (r.set n ((c*1000000000+l[n])/qsc x1)) (by omega) m0 m1 (hr.set n ⟨d0,d1⟩) (by simpa using hlen)
   (λk hk hkn=>by rw[anE (by omega)];exact hz k (by simpa using hk) (by omega)) (by
    rw[eV hnr,hr0'];rw[bg hna,bW]at hv;grind)
  refine yg _ _ _ _ _ _ _ ⟨q,?_⟩;unfold rn;simp only[fX];rw[show((n+1:Nat):Int)-1=(n:Int) by omega,dT (by omega),ai l n,amg hna,e64,dF (show ¬qsc x1=0 by omega),ai r n,aC,amg hnr];dsimp only;rw[bH (x:=c*1000000000) (by omega) (by omega),bH (x:=l[n]) (by omega) (by omega),bH (x:=c*1000000000+l[n]) (by omega) (by omega),gC hcb,ju hcb,bH (x:=(c*1000000000+l[n])/qsc x1) (by omega) (by omega),cY (x:=(c*1000000000+l[n])/qsc x1) (by omega) (by omega),aO (x:=(n:Int)-1) (by omega) (by omega)];exact hq
include hV hp hL in
theorem Gx{res:List RV}(i:Nat)(hi:i<(ae (val a*qsc x1).toNat).length)(r0 l:List Int)(hlr:r0.length=a.length+1)(hra:(ae (val a*qsc x1).toNat).length<=a.length+1)(x3 W:Int)(hW:val ([x3]++l)=W)(W0:0<=W)(hWl:(ae W.toNat).length<=1000002)
  (hout:jP.Runs 30 (kv a b x1 x2 (ae (W%V).toNat) ((i:Int)-1) (r0.set i (W/V))) res) (hi':(ae (val a*qsc x1).toNat).length<=2000000):
  ∀(d:Nat),d<=999999999->W<V*((d:Int)+1)->jP.Runs 67 (eG a b x1 x2 l (i:Int) r0 x3 (d:Int) (ae (V*(d:Int)).toNat)) res:=by
 intro d
 have hsz:∀e:Nat,e<=999999999->(ae (V*(e:Int)).toNat).length<=1000002:=λe he=>by
  refine cr (anc (by omega) (by omega)) ?_
  have h1:V<pw 1000001:=by
   have:=bU (bS V.toNat);rw[bG]at this;have:=df hL;omega
  rw[bW 1000001];have h2:V*(e:Int)<=V*999999999:=amo (by omega) (by omega);omega
 induction d with
 |zero=>
  intro _ hd;obtain⟨q,hq⟩:=hout;have hWV:W<V:=by simpa using hd
  rw[aoz W0 hWV,anp W0 hWV]at hq;refine rZ _ _ _ _ _ _ _ _ _ _ ⟨q,?_⟩;unfold nw;simp only[fX,hV,hW];rw[show(V*((0:Nat):Int)).toNat=0 by simp,dT (show rV (ae 0) (ae W.toNat) from⟨⟨dK _,by decide⟩,dK _,by omega⟩),bR W0,w8,show val (ae 0)=0 from rfl,dF (show ¬W<0 by omega),dT (show oD (ae W.toNat) (ae 0) from⟨cC (by omega),cC (by decide),by rw[bR W0];exact W0⟩)];dsimp only;rw[dT (show(0:Int)<=(i:Int)/\(i:Int)<((((ae (val a*qsc x1).toNat).length:Int).toNat-(0:Int).toNat:Nat):Int) by constructor<;>simp<;>omega)];rw[show(0:Int).toNat+((i:Int)).toNat=i by simp,amg (by omega)];dsimp only;rw[Int.sub_zero,aO (by omega) (by omega)];exact hq
 |succ d ih=>
  intro hd1 hd;have hc:((d+1:Nat):Int)=(d:Int)+1:=by omega
  rw[hc]at hd;have hV1:0<=V*((d:Int)+1):=anc (by omega) (by omega);have hV0:0<=V*(d:Int):=anc (by omega) (by omega);have hVd:V*((d:Int)+1)-V=V*(d:Int):=by grind
  have hs1:=hsz (d+1) (by omega);rw[hc]at hs1;have k1:=bG V.toNat
  by_cases hg:W<V*((d:Int)+1)
  ·obtain⟨q,hq⟩:=ih (by omega) hg;refine rZ _ _ _ _ _ _ _ _ _ _ ⟨q,?_⟩;unfold nw;simp only[fX,hV,hW];rw[hc,dT (show rV (ae (V*((d:Int)+1)).toNat) (ae W.toNat) from⟨⟨dK _,by omega⟩,dK _,by omega⟩),bR W0,bR hV1,w8,dT hg,dT (show oD (ae (V*((d:Int)+1)).toNat) (ae V.toNat) from⟨cC (by omega),cC (by omega),by rw[bR hV1,bR (by omega)];omega⟩),bR (v:=V) (by omega),hVd,bH (by omega) (by omega),show(d:Int)+1-1=(d:Int) by omega];exact hq
  ·obtain⟨q,hq⟩:=hout
   have e1:W/V=(d:Int)+1:=by
    have:W=(W-V*((d:Int)+1))+V*((d:Int)+1):=by omega
    rw[this,an9 _ _ (by omega),anp (by omega) (by grind)];omega
   have e2:W%V=W-V*((d:Int)+1):=by
    have:=am3 W V;rw[e1]at this;omega
   rw[e1,e2]at hq;refine rZ _ _ _ _ _ _ _ _ _ _ ⟨q,?_⟩;unfold nw;simp only[fX,hV,hW];rw[hc,dT (show rV (ae (V*((d:Int)+1)).toNat) (ae W.toNat) from⟨⟨dK _,by omega⟩,dK _,by omega⟩),bR W0,bR hV1,w8,dF hg,dT (show oD (ae W.toNat) (ae (V*((d:Int)+1)).toNat) from⟨cC (by omega),cC (by omega),by rw[bR hV1,bR W0];omega⟩)];dsimp only;rw[dT (show(0:Int)<=(i:Int)/\(i:Int)<((((ae (val a*qsc x1).toNat).length:Int).toNat-(0:Int).toNat:Nat):Int) by constructor<;>simp<;>omega)];rw[show(0:Int).toNat+((i:Int)).toNat=i by simp,amg (by omega)];dsimp only;rw[aO (by omega) (by omega),cY (by omega) (by omega)];exact hq
end
end
section
def pT(k:Nat->Cfg->OLR)(a b:List Int)(x1 x2:Int)(s11:List Int)(s14:Int)(r0:List Int)(x3 H:Int):OLR:=match decide (u64.wrap x2=(0:Int))with|true=>none|false=>(match decide ((u64.wrap (Int.tdiv H (u64.wrap x2)))>999999999)with|true=>(og (decide (byP (ae (val b*(u32.wrap (u64.wrap (Int.tdiv 1000000000 (u64.wrap ((u64.wrap x1)+1)))))).toNat) (u32.wrap 999999999))) (k 67 (eG a b x1 x2 s11 s14 r0 x3 999999999 (ae (val (ae (val b*(u32.wrap (u64.wrap (Int.tdiv 1000000000 (u64.wrap ((u64.wrap x1)+1)))))).toNat)*(u32.wrap 999999999)).toNat))))|false=>(og (decide (byP (ae (val b*(u32.wrap (u64.wrap (Int.tdiv 1000000000 (u64.wrap ((u64.wrap x1)+1)))))).toNat) (u32.wrap (u64.wrap (Int.tdiv H (u64.wrap x2)))))) (k 67 (eG a b x1 x2 s11 s14 r0 x3 (u64.wrap (Int.tdiv H (u64.wrap x2))) (ae (val (ae (val b*(u32.wrap (u64.wrap (Int.tdiv 1000000000 (u64.wrap ((u64.wrap x1)+1)))))).toNat)*(u32.wrap (u64.wrap (Int.tdiv H (u64.wrap x2))))).toNat)))))
theorem M8{W V H x p d:Int}(hx:1<=x)(hW:W<(H+1)*p)(hp:0<p)(hV:x*p<=V)(hd:H/x=d)(h0:0<=H):W<V*(d+1):=by
 have h1:=am3 H x;have h2:=am4 H (show 0<x by omega);have h3:0<=d:=by rw[<-hd];exact anh h0 (by omega)
 have h4:H+1<=x*(d+1):=by grind
 have h5:=amu h4 (amY hp);have h6:=amu hV (show 0<=d+1 by omega);grind
theorem acS{A B s R q:Int}(hs:0<s)(h:A*s=R+B*s*q)(h0:0<=R)(h1:R<B*s):A/B=q/\A%B=R/s:=by
 have e:R=s*(A-B*q):=by grind
 have hm:R/s=A-B*q:=by rw[e];exact aoA _ (by omega)
 have m0:0<=A-B*q:=by
  apply amB;intro hc;have:=amo (show A-B*q<= -1 by omega) (amY hs);omega
 have m1:A-B*q<B:=by
  apply amB;intro hc;have:=amo (show B<=A-B*q by omega) (amY hs);grind
 have hA:A=(A-B*q)+B*q:=by omega
 constructor
 ·rw[hA,an9 _ _ (by omega),anp (by omega) (by omega)];omega
 ·rw[hm,hA,aon,aoz (by omega) (by omega)];omega
section
variable (a b:List Int) (x1 x2:Int) (V:Int) (hV:val b*qsc x1=V) (hs:1<=qsc x1/\qsc x1<1000000000) (hp:0<V) (hra:(ae (val a*qsc x1).toNat).length<=a.length+1) (ha:Lim a/\a.length<=1000000) (hL:(ae V.toNat).length<=1000001)
include hV hs hp hra ha hL in
theorem FF(n:Nat)(hn:(ae V.toNat).length=n+1)(hx2:1<=x2/\x2<1000000000)(hxp:x2*pw n<=V):∀(i:Nat) (R:Int) (r0:List Int),i<=(ae (val a*qsc x1).toNat).length->0<=R->R<V->r0.length=a.length+1->Lim r0->
  (∀k (hk:k<r0.length),k<i->r0[k]=0)->(∀k (hk:k<r0.length),(ae (val a*qsc x1).toNat).length<=k->r0[k]=0)->val a*qsc x1=pw i*R+val ((ae (val a*qsc x1).toNat).take i)+V*val r0->
  jP.Runs 30 (kv a b x1 x2 (ae R.toNat) ((i:Int)-1) r0) [.d apD (ae (val a/val b).toNat),.d apD (ae (val a%val b).toNat)]:=by
 have hVp:V<pw 1000001:=by
  have:=bU (bS V.toNat);rw[bG]at this;have:=df hL;omega
 have ha2:=ha.2;intro i;induction i with
 |zero=>
  intro R r0 _ R0 RV hlr hl _ hz he;simp only[n6,List.take_zero,val,apo,apv]at he;rw[<-hV]at he;obtain⟨e1,e2⟩:=acS (by omega) he R0 (by rw[hV];exact RV);have hRl:(ae R.toNat).length<=1000001:=cr R0 (by omega);obtain⟨q,hq⟩:=Nq a x1 hs (ae R.toNat) r0 ⟨bS _,by omega⟩ ⟨hl,by omega⟩ hz (ae R.toNat).length 0 (List.replicate (ae R.toNat).length 0) (amm _) (by omega) (by omega) (Lim.rep _) (by simp) (λk hk _=>by simp) (by simp[gj]);rw[bR R0,<-e2,<-e1]at hq;refine nU _ _ _ _ _ _ _ ⟨q,?_⟩;unfold ln;rw[dF (by omega)];dsimp only;rw[dT (show(0:Int)<=((ae R.toNat).length:Int)/\((ae R.toNat).length:Int)*((4:Nat):Int)<=140737488355328/\((ae R.toNat).length:Int)<=140737488355328 from⟨by omega,by omega,by omega⟩),aC,aO (by omega) (by omega)];exact hq
 |succ i ih=>
  intro R r0 hi R0 RV hlr hl hz hz2 he;have hiU:i<(ae (val a*qsc x1).toNat).length:=by omega
  have hx:=(bS (val a*qsc x1).toNat).get hiU;have hir:i<r0.length:=by omega
  have hr0:=hz i hir (by omega)
  have hWv:val ([(ae (val a*qsc x1).toNat)[i]]++ae R.toNat)=(ae (val a*qsc x1).toNat)[i]+1000000000*R:=by
   rw[dv,bR R0];simp[val,pw]
  generalize hxi:(ae (val a*qsc x1).toNat)[i]=x at hx hWv;have W0:0<=x+1000000000*R:=by omega
  have WV:x+1000000000*R<1000000000*V:=by omega
  have hWl:(ae (x+1000000000*R).toNat).length<=n+2:=by
   refine cr W0 ?_;have:=bU (bS V.toNat);rw[bG,hn]at this;rw[bW (n+1)];omega
  have hRl:(ae R.toNat).length<=1000001:=cr R0 (by omega);have q0:0<=(x+1000000000*R)/V:=anh W0 (by omega);have q1:(x+1000000000*R)/V<1000000000:=anL hp (by omega);have m0:=ans (x+1000000000*R) (show V≠0 by omega);have m1:=am4 (x+1000000000*R) hp;have md:=am3 (x+1000000000*R) V
  have hout:=ih ((x+1000000000*R)%V) (r0.set i ((x+1000000000*R)/V)) (by omega) m0 m1 (by simpa using hlr) (hl.set i ⟨q0,q1⟩)
   (λk hk hk'=>by rw[anE (by omega)];exact hz k (by simpa using hk) (by omega))
   (λk hk hk'=>by rw[anE (by omega)];exact hz2 k (by simpa using hk) hk') (by
    rw[eV hir,hr0];rw[bg hiU,bW,hxi]at he;grind)
  have hdig:=Gx a b x1 x2 V hV hp hL i hiU r0 (ae R.toNat) hlr hra x (x+1000000000*R) hWv W0 (by omega) hout (by omega)
  have htail:∀H:Int,0<=H->H<1000000000000000000->x+1000000000*R<(H+1)*pw n->∃q,pT (jP.k q) a b x1 x2 (ae R.toNat) ((i:Int)) r0 x H=some [.d apD (ae (val a/val b).toNat),.d apD (ae (val a%val b).toNat)]:=by
   intro H H0 H1 HW;have d0:0<=H/x2:=anh H0 (by omega);have d1:H/x2<=H:=aoe _ H0;have hbyV:∀d:Int,0<=d->d<1000000000->byP (ae V.toNat) d:=λd h1 h2=>⟨⟨bS _,by omega⟩,h1,h2⟩
   by_cases hc:H/x2>999999999
   ·obtain⟨q,hq⟩:=hdig 999999999 (amm _) (by rw[show V*(((999999999:Nat):Int)+1)=1000000000*V by omega];exact WV);refine⟨q,?_⟩;unfold pT;simp only[fX,hV];rw[bH (x:=x2) (by omega) (by omega),dF (show ¬x2=0 by omega),gC H0,bH (x:=H/x2) (by omega) (by omega),dT hc,cY (x:=999999999) (by decide) (by decide),dT (hbyV 999999999 (by decide) (by decide)),bR (v:=V) (by omega)];exact hq
   ·obtain⟨q,hq⟩:=hdig (H/x2).toNat (by omega) (by rw[show(((H/x2).toNat:Nat):Int)=H/x2 by omega];exact M8 hx2.1 HW (cg n) hxp rfl H0)
    rw[show(((H/x2).toNat:Nat):Int)=H/x2 by omega]at hq;refine⟨q,?_⟩;unfold pT;simp only[fX,hV];rw[bH (x:=x2) (by omega) (by omega),dF (show ¬x2=0 by omega),gC H0,bH (x:=H/x2) (by omega) (by omega),dF hc,cY (x:=H/x2) (by omega) (by omega),dT (hbyV (H/x2) (by omega) (by omega)),bR (v:=V) (by omega)];exact hq
  have hWlim:=bS (x+1000000000*R).toNat
  have hWval:=bR W0;have hsplit:=fH (ae (x+1000000000*R).toNat) n;have htl:=bU (hWlim.take n)
  have hpre:∀H,val ((ae (x+1000000000*R).toNat).drop n)=H->x+1000000000*R<(H+1)*pw n:=by
   intro H hH;rw[hH,hWval]at hsplit;have hm:(ae (x+1000000000*R).toNat |>.take n).length<=n:=by rw[amV];omega
   have:=df hm;rcases amX n (ae (x+1000000000*R).toNat).length with h|h
   ·rw[amZ (by omega)]at hsplit;rw[Int.add_mul,aoa H,apo];omega
   ·rw[am0 h]at hH;have hH0:H=0:=by rw[<-hH];rfl
    subst hH0;rw[aoX]at hsplit;omega
  have hstep:∀(H:Int) (q:Nat),pT (jP.k q) a b x1 x2 (ae R.toNat) ((i:Int)) r0 x H=some [.d apD (ae (val a/val b).toNat),.d apD (ae (val a%val b).toNat)]->True:=λ_ _ _=>trivial;have hap:(([x]:List Int).length+(ae R.toNat).length)*4<=140737488355328/\([x]:List Int).length+(ae R.toNat).length<=140737488355328:=by simp only[amF];omega
  have hlS:aN ([x]++ae R.toNat):=⟨(Lim.cons ⟨hx.1,hx.2⟩ Lim.nil).append (bS _),by simp only[amU,amF];omega⟩
  have hw1:i64.wrap (((n+1:Nat):Int)-1)=((n:Nat):Int):=by rw[aO (by omega) (by omega)];omega
  rcases Nat.lt_trichotomy (ae (x+1000000000*R).toNat).length (n+1)with hc|hc|hc
  ·obtain⟨q,hq⟩:=htail 0 (by omega) (by omega) (hpre 0 (by rw[am0 (by omega)];rfl));refine nU _ _ _ _ _ _ _ ⟨q,?_⟩;unfold ln;rw[dT (show((i+1:Nat):Int)-1>=0 by omega),show((i+1:Nat):Int)-1=(i:Int) by omega,fX,ai,amg hiU,hxi];dsimp only;rw[dT hap,dT hlS,hWv,hV,hn];rw[dF (show ¬((ae (x+1000000000*R).toNat).length:Int)>((n+1:Nat):Int) by omega),dF (show ¬((ae (x+1000000000*R).toNat).length:Int)>=((n+1:Nat):Int) by omega)];rw[<-hV];exact hq
  ·have hget:(ae (x+1000000000*R).toNat)[n]?=some (ae (x+1000000000*R).toNat)[n]:=amg (by omega);have hxn:=hWlim.get (show n<(ae (x+1000000000*R).toNat).length by omega)
   have hdrop:val ((ae (x+1000000000*R).toNat).drop n)=(ae (x+1000000000*R).toNat)[n]:=by
    rw[jm (by omega),am0 (by omega)];simp[val]
   obtain⟨q,hq⟩:=htail (ae (x+1000000000*R).toNat)[n] hxn.1 (by omega) (hpre _ hdrop);refine nU _ _ _ _ _ _ _ ⟨q,?_⟩;unfold ln;rw[dT (show((i+1:Nat):Int)-1>=0 by omega),show((i+1:Nat):Int)-1=(i:Int) by omega,fX,ai,amg hiU,hxi];dsimp only;rw[dT hap,dT hlS,hWv,hV,hn];rw[dF (show ¬((ae (x+1000000000*R).toNat).length:Int)>((n+1:Nat):Int) by omega),dT (show((ae (x+1000000000*R).toNat).length:Int)>=((n+1:Nat):Int) by omega),hw1,ai (ae (x+1000000000*R).toNat) n,hget];dsimp only;rw[Int.zero_add,bH (x:=(ae (x+1000000000*R).toNat)[n]) (by omega) (by omega),bH (x:=(ae (x+1000000000*R).toNat)[n]) (by omega) (by omega)];rw[<-hV];exact hq
  ·have hget:(ae (x+1000000000*R).toNat)[n]?=some (ae (x+1000000000*R).toNat)[n]:=amg (by omega);have hget1:(ae (x+1000000000*R).toNat)[n+1]?=some (ae (x+1000000000*R).toNat)[n+1]:=amg (by omega);have hxn:=hWlim.get (show n<(ae (x+1000000000*R).toNat).length by omega);have hxn1:=hWlim.get (show n+1<(ae (x+1000000000*R).toNat).length by omega)
   have hdrop:val ((ae (x+1000000000*R).toNat).drop n)=(ae (x+1000000000*R).toNat)[n+1]*1000000000+(ae (x+1000000000*R).toNat)[n]:=by
    rw[jm (by omega),jm (by omega),am0 (by omega)];simp only[val];omega
   obtain⟨q,hq⟩:=htail ((ae (x+1000000000*R).toNat)[n+1]*1000000000+(ae (x+1000000000*R).toNat)[n]) (by omega) (by omega) (hpre _ hdrop);refine nU _ _ _ _ _ _ _ ⟨q,?_⟩;unfold ln;rw[dT (show((i+1:Nat):Int)-1>=0 by omega),show((i+1:Nat):Int)-1=(i:Int) by omega,fX,ai,amg hiU,hxi];dsimp only;rw[dT hap,dT hlS,hWv,hV,hn];rw[dT (show((ae (x+1000000000*R).toNat).length:Int)>((n+1:Nat):Int) by omega),ai (ae (x+1000000000*R).toNat) (n+1),hget1];dsimp only;rw[dT (show((ae (x+1000000000*R).toNat).length:Int)>=((n+1:Nat):Int) by omega),hw1,ai (ae (x+1000000000*R).toNat) n,hget];dsimp only;rw[bH (x:=(ae (x+1000000000*R).toNat)[n+1]) (by omega) (by omega),bH (x:=(ae (x+1000000000*R).toNat)[n+1]*1000000000) (by omega) (by omega),bH (x:=(ae (x+1000000000*R).toNat)[n]) (by omega) (by omega),bH (x:=(ae (x+1000000000*R).toNat)[n+1]*1000000000+(ae (x+1000000000*R).toNat)[n]) (by omega) (by omega)];rw[<-hV];exact hq
end
end
end Go.Proofs.YtmnlppieefomnaaGreatDoor
end
