/- Square roots of reals. -/
import Derived.Test.YtnkndpoojnflmaaGreatH8
noncomputable section
namespace Go.Proofs.YtnkndpoojnflmaaGreat
open Go.RowKit Go.IntKind
theorem al8:type_of% @Rat.mul_nonneg:=@Rat.mul_nonneg
theorem amc:type_of% @decide_eq_decide:=@decide_eq_decide
theorem an2:type_of% @Rat.intCast_natCast:=@Rat.intCast_natCast
theorem an6:type_of% @Rat.intCast_le_intCast:=@Rat.intCast_le_intCast
section
namespace RE
open RL
theorem ahT(q:Rat):∃k:Nat,q<(k:Rat):=by
 refine⟨(q.floor+1).toNat,?_⟩
 have h1:q<((q.floor+1:Int):Rat):=(Rat.floor_lt_iff).1 (by omega)
 have h2:((q.floor+1:Int):Rat)≤(((q.floor+1).toNat:Int):Rat):=an6.2 (by omega)
 have h3:(((q.floor+1).toNat:Int):Rat)=(((q.floor+1).toNat:Nat):Rat):=an2 _
 rw[h3]at h2
 grind
theorem Vq(g d:Rat)(hg:0≤g)(hd:0<d):∃s:Rat,0≤s∧s*s≤g∧g<(s+d)*(s+d):=by
 apply alW
 intro hn
 have step:∀k:Nat,((k:Rat)*d)*((k:Rat)*d)≤g:=by
  intro k
  induction k with
  |zero=>rw[show((0:Nat):Rat)=0 from rfl];grind
  |succ k ih=>
   apply alW
   intro hc
   refine hn ⟨(k:Rat)*d,?_,ih,?_⟩
   ·have:(0:Rat)≤(k:Rat):=by
     have:=Rat.intCast_nonneg.2 (show(0:Int)≤(k:Int) by omega)
     rwa [an2]at this
    exact al8 this (by grind)
   ·have e:(((k+1:Nat)):Rat)=(k:Rat)+1:=by rw[Rat.natCast_add];rfl
    rw[e]at hc
    grind
 obtain⟨k,hk⟩:=ahT ((g+1)/d)
 have h1:g+1<(k:Rat)*d:=by
  have:=amy (show 0<(k:Rat)-(g+1)/d by grind) hd
  have e:((k:Rat)-(g+1)/d)*d=(k:Rat)*d-(g+1):=by grind
  grind
 have h2:=step k
 have h3:=amy (show 0<(k:Rat)*d-(g+1) by grind) (show 0<(k:Rat)*d by grind)
 have h4:=amy (show 0<(k:Rat)*d-(g+1) by grind) (show 0<g+1 by grind)
 have h5:=al8 hg hg
 clear hn step hk
 generalize (k:Rat)*d=t at h1 h2 h3 h4
 grind
def eps(n:Nat):Rat:=1/((n:Rat)+1)
theorem qV(n:Nat):(0:Rat)≤(n:Rat):=by
 have:=Rat.intCast_nonneg.2 (show(0:Int)≤(n:Int) by omega)
 rwa [an2]at this
theorem tD(n:Nat):0<eps n:=by
 have:=qV n
 exact amy (by grind) (Rat.inv_pos.2 (by grind))
theorem zq(e:Rat)(he:0<e):∃N,∀n,N≤n→eps n<e:=by
 obtain⟨N,hN⟩:=ahT (1/e)
 refine⟨N,fun n hn=>?_⟩
 have h0:=qV n
 have h1:(N:Rat)≤(n:Rat):=by
  have:=an6.2 (show(N:Int)≤(n:Int) by omega)
  rwa [an2,an2]at this
 have h2:1/e<(n:Rat)+1:=by grind
 have h3:=amy (show 0<(n:Rat)+1-1/e by grind) (amy he (tD n))
 unfold eps at h3 ⊢
 have e1:((n:Rat)+1-1/e)*(e*(1/((n:Rat)+1)))=e-1/((n:Rat)+1):=by
  have:(n:Rat)+1≠0:=by grind
  have:e≠0:=by grind
  grind
 grind
theorem FY(n:Nat):eps n≤1:=by
 have h0:=qV n
 have:=tD n
 unfold eps at*
 have h3:=al8 h0 (show(0:Rat)≤1/((n:Rat)+1) by grind)
 have e1:(n:Rat)*(1/((n:Rat)+1))=1-1/((n:Rat)+1):=by
  have:(n:Rat)+1≠0:=by grind
  grind
 grind
theorem KW{a b:Rat}(ha:0≤a)(hb:0≤b)(h:a*a<b*b):a<b:=by
 apply alW
 intro hc
 have:=al8 (show 0≤a-b by grind) (show 0≤a+b by grind)
 grind
theorem Bi(x:RE)(hx:0≤x):∃y:RE,0≤y∧y*y=x:=by
 induction x using am0
 rename_i f
 have hc:∀n,∃s:Rat,0≤s∧s*s≤(if 0≤f.f n then f.f n else 0)∧(if 0≤f.f n then f.f n else 0)<(s+eps n)*(s+eps n):=fun n=>
  Vq _ _ (by split<;>grind) (tD n)
 let g:Nat→Rat:=fun n=>if 0≤f.f n then f.f n else 0
 let s:Nat→Rat:=fun n=>Classical.choose (hc n)
 have hs:∀n,0≤s n∧s n*s n≤g n∧g n<(s n+eps n)*(s n+eps n):=fun n=>am8 (hc n)
 have hg:∀m n,g m-g n≤(if 0≤f.f m-f.f n then f.f m-f.f n else 0):=fun m n=>by
  show(if 0≤f.f m then f.f m else 0)-(if 0≤f.f n then f.f n else 0)≤_
  split<;>split<;>split<;>grind
 obtain⟨B,hB,NB,hBn⟩:=f.bd
 have hgB:∀n,NB≤n→g n<B:=fun n hn=>by
  show(if 0≤f.f n then f.f n else 0)<B
  have:=hBn n hn
  split<;>grind
 have hsB:∀n,NB≤n→s n<B+1:=fun n hn=>by
  have h1:=hs n
  have h2:=hgB n hn
  refine KW h1.1 (by grind) ?_
  have:=al8 (show 0≤B by grind) (show 0≤B by grind)
  grind
 have hcau:∀e:Rat,0<e→∃N,∀m n,N≤m→N≤n→s m-s n<e:=by
  intro e he
  obtain⟨N1,h1⟩:=f.cau (e*e/4) (by have:=amy he he;grind)
  obtain⟨N2,h2⟩:=zq (e/2) (by grind)
  refine⟨max N1 N2,fun m n hm hn=>?_⟩
  apply alW
  intro hne
  have a1:=hs m
  have a2:=hs n
  have a3:=h1 m n (by omega) (by omega)
  have a4:=h2 n (by omega)
  have a5:=hg m n
  have a6:=tD n
  have p1:=al8 (show 0≤s m-(s n+e) by grind) (show 0≤s m+(s n+e) by grind)
  have p2:=al8 (show 0≤e/2-eps n by grind) (show 0≤(s n+e/2)+(s n+eps n) by grind)
  have p3:=al8 (show 0≤e by grind) a2.1
  have p4:=amy he he
  split at a5<;>grind
 refine⟨Quotient.mk _ ⟨s,hcau⟩,?_,aow fun e he=>?_⟩
 ·rintro ⟨e,he,N,h⟩
  have h1:=h N (alL _)
  have h2:=(hs N).1
  simp only[RL.const]at h1
  grind
 ·-- s n*s n is near to f n
  have hneg:∃N,∀n,N≤n→ -(e/4)<f.f n:=by
   apply alW
   intro hne
   obtain⟨M,hM⟩:=f.cau (e/8) (by grind)
   refine hx ⟨e/16,by grind,M,fun n hn=>?_⟩
   apply alW
   intro hge
   refine hne ⟨M,fun k hk=>?_⟩
   have:=hM n k hn hk
   simp only[RL.const]at hge
   grind
  obtain⟨N1,h1⟩:=hneg
  obtain⟨N2,h2⟩:=zq (e/(4*(B+2))) (amy he (Rat.inv_pos.2 (by grind)))
  refine⟨max (max N1 N2) NB,fun n hn=>?_⟩
  have a1:=hs n
  have a2:=h1 n (by omega)
  have a3:=h2 n (by omega)
  have a4:=hsB n (by omega)
  have a5:=tD n
  have a6:=FY n
  have hgf:f.f n≤g n∧g n<f.f n+e/4:=by
   show f.f n≤(if 0≤f.f n then f.f n else 0)∧(if 0≤f.f n then f.f n else 0)<_
   split<;>constructor<;>grind
  have p1:=al8 (show 0≤eps n by grind) (show 0≤2*(B+2)-(2*s n+eps n) by grind)
  have p2:eps n*(2*(B+2))<e/2:=by
   have:=amy (show 0<e/(4*(B+2))-eps n by grind) (show 0<2*(B+2) by grind)
   have e1:(e/(4*(B+2))-eps n)*(2*(B+2))=e/2-eps n*(2*(B+2)):=by
    have:B+2≠0:=by grind
    grind
   grind
  simp only[RL.mul]
  constructor<;>grind
open Classical in
def yl(x:RE):RE:=if h:0≤x then Classical.choose (Bi x h)else 0
theorem pI(x:RE):0≤yl x:=by
 unfold yl
 split
 ·rename_i h;exact(am8 (Bi x h)).1
 ·exact lt_irrefl 0
theorem Cb{x:RE}(h:0≤x):yl x*yl x=x:=by
 unfold yl
 rw[dif_pos h]
 exact(am8 (Bi x h)).2
theorem jQ{a b:Rat}:of a≤of b↔a≤b:=by
 constructor
 ·intro h
  apply alW
  intro hc
  exact h (iz (by grind))
 ·intro h h'
  rcases(by grind:a<b∨a=b)with h1|h1
  ·exact lt_irrefl _ (cW h' (iz h1))
  ·rw[h1]at h';exact lt_irrefl _ h'
theorem m5{a b:Rat}(h:of a=of b):a=b:=by
 have h1:=jQ.1 (show of a≤of b by rw[h];exact lt_irrefl _)
 have h2:=jQ.1 (show of b≤of a by rw[h];exact lt_irrefl _)
 grind
end RE
end
section
namespace RE
open RL
open Classical in
def sg(x:RE):Int:=if 0<x then 1 else if x<0 then-1 else 0
theorem dt{x:RE}(h:0<x):sg x=1:=ama h
theorem gk{x:RE}(h:x<0):sg x= -1:=by unfold sg;rw[al3 (fun h'=>lt_irrefl _ (cW h h')),ama h]
theorem db:sg 0=0:=by unfold sg;rw[al3 (lt_irrefl _),al3 (lt_irrefl _)]
theorem bh(x:RE):(0<x∧sg x=1)∨(x=0∧sg x=0)∨(x<0∧sg x= -1):=by
 rcases mp 0 x with h|h|h
 ·exact .inl ⟨h,dt h⟩
 ·exact .inr (.inl ⟨h.symm,by rw[←h,db]⟩)
 ·exact .inr (.inr ⟨h,gk h⟩)
theorem pP{x:RE}:sg x=0↔x=0:=by
 rcases bh x with⟨h,e⟩|⟨h,e⟩|⟨h,e⟩<;>rw[e]
 ·exact⟨fun h'=>by omega,fun h'=>by rw[h']at h;exact absurd h (lt_irrefl _)⟩
 ·exact⟨fun _=>h,fun _=>rfl⟩
 ·exact⟨fun h'=>by omega,fun h'=>by rw[h']at h;exact absurd h (lt_irrefl _)⟩
theorem F1{x:RE}:sg x=1↔0<x:=by
 rcases bh x with⟨h,e⟩|⟨h,e⟩|⟨h,e⟩<;>rw[e]
 ·exact⟨fun _=>h,fun _=>rfl⟩
 ·exact⟨fun h'=>by omega,fun h'=>by rw[h]at h';exact absurd h' (lt_irrefl _)⟩
 ·exact⟨fun h'=>by omega,fun h'=>absurd (cW h h') (lt_irrefl _)⟩
theorem adB{x:RE}:sg x= -1↔x<0:=by
 rcases bh x with⟨h,e⟩|⟨h,e⟩|⟨h,e⟩<;>rw[e]
 ·exact⟨fun h'=>by omega,fun h'=>absurd (cW h h') (lt_irrefl _)⟩
 ·exact⟨fun h'=>by omega,fun h'=>by rw[h]at h';exact absurd h' (lt_irrefl _)⟩
 ·exact⟨fun _=>h,fun _=>rfl⟩
theorem Rr{x:RE}:0≤sg x↔0≤x:=by
 rcases bh x with⟨h,e⟩|⟨h,e⟩|⟨h,e⟩<;>rw[e]
 ·exact⟨fun _=>le_of_lt h,fun _=>by omega⟩
 ·exact⟨fun _=>by rw[h];exact le_refl _,fun _=>by omega⟩
 ·exact⟨fun h'=>by omega,fun h'=>absurd h h'⟩
theorem aid{x:RE}:sg x≤0↔x≤0:=by
 rcases bh x with⟨h,e⟩|⟨h,e⟩|⟨h,e⟩<;>rw[e]
 ·exact⟨fun h'=>by omega,fun h'=>absurd h h'⟩
 ·exact⟨fun _=>by rw[h];exact le_refl _,fun _=>by omega⟩
 ·exact⟨fun _=>le_of_lt h,fun _=>by omega⟩
theorem neg_mul(a b:RE): -a*b= -(a*b):=by grind
theorem mul_neg(a b:RE):a* -b= -(a*b):=by grind
theorem neg_neg(a:RE): - -a=a:=by grind
theorem sub_self(a:RE):a-a=0:=by grind
theorem ST(a b:RE): -(a-b)=b-a:=by grind
theorem Gd(x y:RE):(x+y)*(x-y)=x*x-y*y:=by grind
theorem OH(x y:RE):((x-(0))*(0-(y)))+((x*y-(0)))=0:=by grind
theorem E7(x y:RE)(h1:0<x)(h2:y<0):x*y<0:=ru.1 fun hg=>far (aI (mul_pos (aK h1) (aK h2)) (aE hg)) (OH x y)
theorem aaI(x y:RE)(h1:x<0)(h2:y<0):x+y<0:=by grind
theorem PR(x y:RE)(h1:0<x)(h2:y<0):0<x-y:=by grind
theorem LM(x y:RE)(h1:x<0)(h2:0<y):x-y<0:=by grind
theorem Ny(x y:RE)(h1:0<x)(h2:0<y):0<x+y:=by grind
theorem DX: -(0:RE)=0:=by rw[←zero_add (-0),lD]
theorem rI(x:RE):sg (-x)= -sg x:=by
 rcases bh x with⟨h,e⟩|⟨h,e⟩|⟨h,e⟩<;>rw[e]
 ·exact gk (Ft h)
 ·rw[h,DX,db];rfl
 ·exact dt (jP h)
theorem dp(x y:RE):sg (x*y)=sg x*sg y:=by
 rcases bh x with⟨h,e⟩|⟨h,e⟩|⟨h,e⟩<;>rw[e]
 ·rcases bh y with⟨h',e'⟩|⟨h',e'⟩|⟨h',e'⟩<;>rw[e']
  ·exact dt (mul_pos h h')
  ·rw[h',mul_zero,db];rfl
  ·exact gk (E7 _ _ h h')
 ·rw[h,zero_mul,db];omega
 ·rcases bh y with⟨h',e'⟩|⟨h',e'⟩|⟨h',e'⟩<;>rw[e']
  ·rw[mul_comm];exact gk (E7 _ _ h' h)
  ·rw[h',mul_zero,db];rfl
  ·have:=mul_pos (jP h) (jP h')
   rw[neg_mul,mul_neg,neg_neg]at this
   exact dt this
theorem sg_of(q:Rat):sg (of q)=aG q 0:=by
 rcases(by grind:q<0∨q=0∨0<q)with h|h|h
 ·rw[dE h];exact gk (iz h)
 ·rw[h,d7];exact db
 ·rw[dq h];exact dt (iz h)
def addS(s t d:Int):Int:=bif t==0||s==t then s else bif s==0 then t else s*d
theorem Fw(x y:RE):sg (x+y)=addS (sg x) (sg y) (sg (x*x-y*y)):=by
 rw[←Gd,dp]
 rcases bh x with⟨h,e⟩|⟨h,e⟩|⟨h,e⟩<;>rw[e]
 ·rcases bh y with⟨h',e'⟩|⟨h',e'⟩|⟨h',e'⟩<;>rw[e']
  ·exact dt (Ny _ _ h h')
  ·rw[h',add_zero,e];rfl
  ·rw[dt (PR _ _ h h')]
   show _=1*(_*1)
   omega
 ·rcases bh y with⟨h',e'⟩|⟨h',e'⟩|⟨h',e'⟩<;>rw[e',h,zero_add,e']<;>rfl
 ·rcases bh y with⟨h',e'⟩|⟨h',e'⟩|⟨h',e'⟩<;>rw[e']
  ·rw[gk (LM _ _ h h')]
   show _= -1*(_* -1)
   omega
  ·rw[h',add_zero,e];rfl
  ·exact gk (aaI _ _ h h')
theorem afe(x:RE): -1≤sg x∧sg x≤1:=by rcases bh x with⟨_,e⟩|⟨_,e⟩|⟨_,e⟩<;>rw[e]<;>omega
end RE
end
def uh:Nat→Nat→Nat
 |0,_=>0
 |f+1,n=>bif decide (n=0)then 0 else bif decide ((2*uh f (n/4)+1)*(2*uh f (n/4)+1)≤n)then 2*uh f (n/4)+1 else 2*uh f (n/4)
def Mo(n:Nat):Nat:=uh (n.log2+1) n
theorem I2:∀(f n:Nat),n<2^f→uh f n*uh f n≤n∧n<(uh f n+1)*(uh f n+1)
 |0,n,h=>by
  have:n=0:=by simpa using h
  subst this
  exact⟨alL _,by decide⟩
 |f+1,n,h=>by
  rcases amA n with h0|h0
  ·subst h0
   show uh (f+1) 0*uh (f+1) 0≤0∧_
   exact⟨alL _,by show 0<(0+1)*(0+1);decide⟩
  ·have h4:n/4<2^f:=by
    rw[Nat.pow_succ]at h
    omega
   obtain⟨h1,h2⟩:=I2 f (n/4) h4
   simp only[uh]
   rw[alH (show ¬n=0 by omega)]
   generalize uh f (n/4)=s at h1 h2
   have e1:(2*s)*(2*s)=4*(s*s):=by grind
   have e2:(2*s+1+1)*(2*s+1+1)=4*((s+1)*(s+1)):=by grind
   by_cases hc:(2*s+1)*(2*s+1)≤n
   ·rw[alF hc]
    exact⟨hc,by show n<(2*s+1+1)*(2*s+1+1);rw[e2];omega⟩
   ·rw[alH hc]
    exact⟨by show(2*s)*(2*s)≤n;rw[e1];omega,by show n<(2*s+1)*(2*s+1);omega⟩
theorem TX(n:Nat):Mo n*Mo n≤n∧n<(Mo n+1)*(Mo n+1):=I2 _ n Nat.lt_log2_self
def bK(z:Int):Int:=(Mo z.toNat:Int)
theorem fU{z:Int}(h:0≤z):0≤bK z∧bK z*bK z≤z∧z<(bK z+1)*(bK z+1):=by
 obtain⟨h1,h2⟩:=TX z.toNat
 grind [bK]
theorem sR{a b:Int}(ha:0≤a)(h:a≤b):a*a≤b*b:=anQ h h ha (by omega)
theorem sq_lt{a b:Int}(hb:0≤b)(h:a*a<b*b):a<b:=by
 apply alW
 intro hc
 have:=sR hb (show b≤a by omega)
 omega
theorem TF{z s:Int}(h0:0≤s)(h1:s*s≤z)(h2:z<(s+1)*(s+1)):bK z=s:=by
 obtain⟨g0,g1,g2⟩:=fU (show 0≤z by have:=sR (a:=0) (by omega) h0;omega)
 have a1:=sq_lt (b:=s+1) (a:=bK z) (by omega) (by omega)
 have a2:=sq_lt (b:=bK z+1) (a:=s) (by omega) (by omega)
 omega
theorem Lm{a x s:Int}(hx:0<x)(_hs:0≤s)(h1:s*s≤a):s≤(x+a/x)/2:=by
 have hq:=amv a x
 have hm:=amp a hx
 apply alW
 intro hc
 have h2:a/x≤2*s-x-1:=by omega
 have h3:x*(a/x)≤x*(2*s-x-1):=alN h2 (by omega)
 have h4:0≤(s-x)*(s-x):=by
  rcases Int.le_total 0 (s-x)with h|h
  ·exact amD h h
  ·exact Int.mul_nonneg_of_nonpos_of_nonpos h h
 grind
theorem wX{a x s:Int}(hx:0<x)(hs:s≤x)(_h1:s*s≤a)(h2:a<(s+1)*(s+1))(h3:0≤s)(h:x≤(x+a/x)/2):x=s:=by
 have hq:=amv a x
 have hm:=amK a (show x≠0 by omega)
 have h4:x≤a/x:=by omega
 have h5:x*x≤x*(a/x):=alN h4 (by omega)
 have:=sq_lt (a:=x) (b:=s+1) (by omega) (by omega)
 omega
def fy(x:BI):BI:=bif x.1 then(false,[])else ai (bK (ae x))
def vt(x:BI):Int:=bif x.1 then 7 else 0
def vU:List En:=[⟨210,oS,lg⟩,⟨172,ri,mY⟩,⟨215,oI,kZ⟩,⟨269,wI,sX⟩,⟨341,Az,xo⟩]
def acZ:NT:=[((351,25),{keep:=[1,2,5,6],hl:=6})]
def HD:Ctx:=CX (ens vU) acZ
def nh(x:Bool×List Int)(b4_0:Bool)(b4_1:List Int):Cfg:=⟨351,[.blk 0],[(1,.box 0 0),(2,.box 1 0),(5,.box 4 0),(6,.box 5 0)],[.box 29 [SB x.1,.d aoW x.2],.box 29 [SB false,.nil],.gone,.row 225 aoY ([1]),.box 29 [SB b4_0,.d aoW b4_1],.box 29 [SB ((ai (2:Int)).1),.d aoW ((ai (2:Int)).2)]],0,[]⟩
def GZ(x:Bool×List Int)(k:KT):Option (List RV):=match x.1 with|true=>some [RV.d y2Y (false,[]),RV.d aoX 7]|false=>(match(x.2.length:Int)==0 with|true=>some [RV.d y2Y (false,[]),RV.d aoX 0]|false=>(og (decide ((0:Int)≤i64.wrap (Int.tdiv (i64.wrap ((x.2.length:Int)+1)) 2)∧(i64.wrap (Int.tdiv (i64.wrap ((x.2.length:Int)+1)) 2))*((4:Nat):Int)≤140737488355328∧i64.wrap (Int.tdiv (i64.wrap ((x.2.length:Int)+1)) 2)≤140737488355328)) (og (decide (((List.replicate (i64.wrap (Int.tdiv (i64.wrap ((x.2.length:Int)+1)) 2)).toNat (0:Int)).length+([1]).length)*4≤140737488355328∧(List.replicate (i64.wrap (Int.tdiv (i64.wrap ((x.2.length:Int)+1)) 2)).toNat (0:Int)).length+([1]).length≤140737488355328)) (og (decide (aQ ((List.replicate (i64.wrap (Int.tdiv (i64.wrap ((x.2.length:Int)+1)) 2)).toNat (0:Int))++([1])))) (og (decide (aH (2:Int))) (k 25 (nh x ((ai (cd false (val ((List.replicate (i64.wrap (Int.tdiv (i64.wrap ((x.2.length:Int)+1)) 2)).toNat (0:Int))++([1]))))).1) ((ai (cd false (val ((List.replicate (i64.wrap (Int.tdiv (i64.wrap ((x.2.length:Int)+1)) 2)).toNat (0:Int))++([1]))))).2))))))))
theorem Ox(x:Bool×List Int):RS HD 351 [.d y2Y x] (GZ x):=rsX
def t6(x:Bool×List Int)(b4_0:Bool)(b4_1:List Int)(k:KT):Option (List RV):=og (decide (fp x (b4_0,b4_1))) (ce (og (decide (okI (b4_0,b4_1)∧okI (ai (ae x/ae (b4_0,b4_1))))) (ce (og (decide (fp (ai (ae (b4_0,b4_1)+ae (ai (ae x/ae (b4_0,b4_1))))) (ai (2:Int)))) (dup (.b .l .l) (og (decide (okI (ai (ae (ai (ae (b4_0,b4_1)+ae (ai (ae x/ae (b4_0,b4_1)))))/ae (ai (2:Int))))∧okI (b4_0,b4_1))) (match decide ((cr (ae (ai (ae (ai (ae (b4_0,b4_1)+ae (ai (ae x/ae (b4_0,b4_1)))))/ae (ai (2:Int))))) (ae (b4_0,b4_1)))≥0)with|true=>some [RV.d y2Y (b4_0,b4_1),RV.d aoX 0]|false=>k 25 (nh x ((ai (ae (ai (ae (b4_0,b4_1)+ae (ai (ae x/ae (b4_0,b4_1)))))/ae (ai (2:Int)))).1) ((ai (ae (ai (ae (b4_0,b4_1)+ae (ai (ae x/ae (b4_0,b4_1)))))/ae (ai (2:Int)))).2)))))) (dup (.b (.b .l .l) (.b .l .l)) (og (decide (fp (ai (ae (b4_0,b4_1)+ae (ai (ae x/ae (b4_0,b4_1))))) (ai (2:Int)))) (og (decide (okI (ai (ae (ai (ae (b4_0,b4_1)+ae (ai (ae x/ae (b4_0,b4_1)))))/ae (ai (2:Int))))∧okI (b4_0,b4_1))) (match decide ((cr (ae (ai (ae (ai (ae (b4_0,b4_1)+ae (ai (ae x/ae (b4_0,b4_1)))))/ae (ai (2:Int))))) (ae (b4_0,b4_1)))≥0)with|true=>some [RV.d y2Y (b4_0,b4_1),RV.d aoX 0]|false=>k 25 (nh x ((ai (ae (ai (ae (b4_0,b4_1)+ae (ai (ae x/ae (b4_0,b4_1)))))/ae (ai (2:Int)))).1) ((ai (ae (ai (ae (b4_0,b4_1)+ae (ai (ae x/ae (b4_0,b4_1)))))/ae (ai (2:Int)))).2)))))))) (dup (.b .l .l) (ce (og (decide (okI (b4_0,b4_1)∧okI (ai (ae x/ae (b4_0,b4_1))))) (dup (.b .l .l) (og (decide (fp (ai (ae (b4_0,b4_1)+ae (ai (ae x/ae (b4_0,b4_1))))) (ai (2:Int)))) (og (decide (okI (ai (ae (ai (ae (b4_0,b4_1)+ae (ai (ae x/ae (b4_0,b4_1)))))/ae (ai (2:Int))))∧okI (b4_0,b4_1))) (match decide ((cr (ae (ai (ae (ai (ae (b4_0,b4_1)+ae (ai (ae x/ae (b4_0,b4_1)))))/ae (ai (2:Int))))) (ae (b4_0,b4_1)))≥0)with|true=>some [RV.d y2Y (b4_0,b4_1),RV.d aoX 0]|false=>k 25 (nh x ((ai (ae (ai (ae (b4_0,b4_1)+ae (ai (ae x/ae (b4_0,b4_1)))))/ae (ai (2:Int)))).1) ((ai (ae (ai (ae (b4_0,b4_1)+ae (ai (ae x/ae (b4_0,b4_1)))))/ae (ai (2:Int)))).2))))))) (og (decide (okI (b4_0,b4_1)∧okI (ai (ae x/ae (b4_0,b4_1))))) (og (decide (fp (ai (ae (b4_0,b4_1)+ae (ai (ae x/ae (b4_0,b4_1))))) (ai (2:Int)))) (og (decide (okI (ai (ae (ai (ae (b4_0,b4_1)+ae (ai (ae x/ae (b4_0,b4_1)))))/ae (ai (2:Int))))∧okI (b4_0,b4_1))) (match decide ((cr (ae (ai (ae (ai (ae (b4_0,b4_1)+ae (ai (ae x/ae (b4_0,b4_1)))))/ae (ai (2:Int))))) (ae (b4_0,b4_1)))≥0)with|true=>some [RV.d y2Y (b4_0,b4_1),RV.d aoX 0]|false=>k 25 (nh x ((ai (ae (ai (ae (b4_0,b4_1)+ae (ai (ae x/ae (b4_0,b4_1)))))/ae (ai (2:Int)))).1) ((ai (ae (ai (ae (b4_0,b4_1)+ae (ai (ae x/ae (b4_0,b4_1)))))/ae (ai (2:Int)))).2)))))))))
theorem zx(x:Bool×List Int)(b4_0:Bool)(b4_1:List Int):RN HD 25 (nh x b4_0 b4_1) (t6 x b4_0 b4_1):=rnX
def aa9:NT:=[((354,16),{keep:=[1,4,5],hl:=1})]
def H8:Ctx:=CX (ens vU) aa9
def we(x:Bool×List Int)(s4 s5:Int):Cfg:=⟨354,[.blk 0,.seq 27],[(1,.box 0 0),(4,.d (.int .u64) s4),(5,SI s5)],[.box 29 [SB x.1,.d aoW x.2]],0,[]⟩
def IN(x:Bool×List Int)(k:KT):Option (List RV):=og (decide (aH ((-9223372036854775808):Int))) (og (decide (okI x∧okI (ai ((-9223372036854775808):Int)))) (dup (.b .l .l) (match decide ((cr (ae x) (ae (ai ((-9223372036854775808):Int))))<0)with|true=>some [RV.d aoX 0,RV.d .bool false]|false=>(og (decide (aH (9223372036854775807:Int))) (og (decide (okI x∧okI (ai (9223372036854775807:Int)))) (match decide ((cr (ae x) (ae (ai (9223372036854775807:Int))))>0)with|true=>some [RV.d aoX 0,RV.d .bool false]|false=>k 16 (we x 0 (i64.wrap ((x.2.length:Int)-1)))))))))
theorem QU(x:Bool×List Int):RS H8 354 [.d y2Y x] (IN x):=rsX
def u4(x:Bool×List Int)(s4 s5:Int)(k:KT):Option (List RV):=match decide (s5≥0)with|true=>(match aR x.2 s5 with|some x1=>k 16 (we x (u64.wrap ((u64.wrap (s4*1000000000))+(u64.wrap x1))) (i64.wrap (s5-1)))|none=>none)|false=>(match x.1 with|true=>some [RV.d aoX (i64.wrap (u64.wrap (0-s4))),RV.d .bool true]|false=>some [RV.d aoX (i64.wrap s4),RV.d .bool true])
theorem zE(x:Bool×List Int)(s4 s5:Int):RN H8 16 (we x s4 s5) (u4 x s4 s5):=rnX
theorem KR(x:BI)(hx:okI x)(h0:0<ae x):∀(m:Nat) (X:Int),X.toNat=m→0<X→bK (ae x)≤X→szI X≤900000→HD.Runs 25 (nh x (ai X).1 (ai X).2) [.d y2Y (ai (bK (ae x))),.d aoX 0]:=by
 intro m
 induction m using Nat.strongRecOn with
 |ind m ih=>
  intro X hm hX hs hsz
  obtain⟨g0,g1,g2⟩:=fU (amn h0)
  have hq0:0≤ae x/X:=amG (by omega) (by omega)
  have hq1:ae x/X≤ae x:=anB _ (by omega)
  have oX:okI (ai X):=aU (by omega)
  have sq:szI (ae x/X)≤1000000:=alU (dw (by omega)) (iS hx)
  have p1:fp x (ai X):=⟨hx,oX,by rw[dec_enc];exact hX⟩
  have ssum:szI (X+ae x/X)≤1000000:=by
   have b1:=nv hsz
   have b2:=nv (iS hx)
   have e:pw 1000000=pw 900000*pw 100000:=by rw[←fu]
   have p9:(1000:Int)≤pw 100000:=by
    have:pw 100000=pw 99999*1000000000:=b8 99999
    have:=cp 99999
    omega
   have p8:=cp 900000
   have h8:pw 900000*1000≤pw 900000*pw 100000:=alN p9 (by omega)
   rcases amd X 2 with hX1|hX1
   ·-- X=1:then the number is less than 4
    have:X=1:=by omega
    subst this
    have:bK (ae x)≤1:=hs
    have h4:ae x<4:=by
     have:=sR (a:=bK (ae x)+1) (b:=2) (by omega) (by omega)
     omega
    refine fh ?_ ?_<;>(rw[e,Int.ediv_one];omega)
   ·have hq2:ae x/X≤ae x/2:=by
     have:=Int.ediv_mul_le (ae x) (show X≠0 by omega)
     have h2:ae x/X*2≤ae x/X*X:=alN hX1 hq0
     omega
    refine fh ?_ ?_<;>(rw[e]at b2 ⊢;omega)
  have o1:okI (ai X)∧okI (ai (ae x/X)):=⟨oX,aU sq⟩
  have p2:fp (ai (X+ae x/X)) (ai 2):=⟨aU ssum,by decide,by rw[dec_enc];decide⟩
  have hn:=Lm hX g0 g1
  have o2:okI (ai ((X+ae x/X)/2))∧okI (ai X):=⟨aU (alU (dw (by omega)) ssum),oX⟩
  by_cases hc:X≤(X+ae x/X)/2
  ·have hXs:=wX hX hs g1 g2 g0 hc
   refine zx _ _ _ ⟨0,?_⟩
   unfold t6
   simp only[cS,eU]
   have e:∀z:Int,((ai z).1,(ai z).2)=ai z:=fun z=>rfl
   simp only[e,dec_enc,alF p1,alF o1,alF p2,alF o2]
   have hg:decide (cr ((X+ae x/X)/2) X≥0)=true:=by
    rcases Int.lt_or_eq_of_le hc with h|h
    ·rw[cM h];rfl
    ·rw[←h,dX];rfl
   rw[hg,hXs]
  ·obtain⟨n,hN⟩:=ih ((X+ae x/X)/2).toNat (by omega) ((X+ae x/X)/2) rfl (by
    rcases amd 0 (bK (ae x))with h|h
    ·omega
    ·exfalso
     have:bK (ae x)=0:=by omega
     rw[this]at g2
     omega) hn (alU (dw (by omega)) hsz)
   refine zx _ _ _ ⟨n,?_⟩
   unfold t6
   simp only[cS,eU]
   have e:∀z:Int,((ai z).1,(ai z).2)=ai z:=fun z=>rfl
   simp only[e,dec_enc,alF p1,alF o1,alF p2,alF o2]
   rw[c8 (by omega)]
   exact hN
def Zz:Cn 351 [y2Y]:=cn fun(x:Bool×List Int)=>lf (okI x) [.d y2Y (fy x),.d aoX (vt x)] fun h=>by
 refine cZ vU (show HD.Res _ _ _ from ?_)
 obtain⟨x0,x1,x2⟩:=cE h
 have hl:=h.2.2
 cases hn:x.1
 ·by_cases hz:x.2=[]
  ·refine Ox _ ⟨0,?_⟩
   unfold GZ fy vt
   have:ae x=0:=by unfold ae;rw[hn,hz];rfl
   rw[hn,hz,this]
   rfl
  ·have hp:0<val x.2:=eI h.1 hz
   have hd:ae x=val x.2:=by unfold ae;rw[hn];rfl
   have hlen:=ami.2 hz
   have hk:i64.wrap (Int.tdiv (i64.wrap ((x.2.length:Int)+1)) 2)=(((x.2.length+1)/2:Nat):Int):=by
    rw[bV (by omega),gX (by omega),aT (by omega) (by omega)]
    omega
   have hv:val (List.replicate ((x.2.length+1)/2) 0++[1])=pw ((x.2.length+1)/2):=by
    rw[dB,gI,aof]
    simp[val]
   have hL:aQ (List.replicate ((x.2.length+1)/2) 0++[1]):=by
    refine⟨fun y hy=>?_,by simp;omega⟩
    rcases amr.1 hy with hy|hy
    ·have:=List.eq_of_mem_replicate hy;omega
    ·simp at hy;omega
   have hpos:=cp ((x.2.length+1)/2)
   obtain⟨n,hN⟩:=KR x h (by omega) _ (pw ((x.2.length+1)/2)) rfl hpos (by
     obtain⟨g0,g1,g2⟩:=fU (show 0≤ae x by omega)
     have hlt:=bW h.1.1
     have hm:=dh (show x.2.length≤(x.2.length+1)/2+(x.2.length+1)/2 by omega)
     rw[fu]at hm
     have:=sq_lt (a:=bK (ae x)) (b:=pw ((x.2.length+1)/2)) (by omega) (by omega)
     omega) (fh (k:=900000) (by have:=cp 900000;omega) (by
      have:=dh (show(x.2.length+1)/2+1≤900000 by omega)
      rw[b8]at this
      omega))
   refine Ox _ ⟨n,?_⟩
   unfold GZ fy vt
   simp only[hk]
   rw[hn,show((x.2.length:Int)==0)=false by simp;omega]
   simp only[anm]
   rw[alF (show(0:Int)≤(((x.2.length+1)/2:Nat):Int)∧(((x.2.length+1)/2:Nat):Int)*((4:Nat):Int)≤140737488355328∧(((x.2.length+1)/2:Nat):Int)≤140737488355328 by omega)]
   rw[alF (show((List.replicate ((x.2.length+1)/2) (0:Int)).length+([1]:List Nat).length)*4≤140737488355328∧(List.replicate ((x.2.length+1)/2) (0:Int)).length+([1]:List Nat).length≤140737488355328 by simp;omega)]
   rw[alF hL,alF (show aH 2 by decide),hv]
   exact hN
 ·refine Ox _ ⟨0,?_⟩
  unfold GZ fy vt
  rw[hn]
  rfl
theorem C0(x:BI)(hx:okI x)(hv:val x.2≤9223372036854775808):∀(i:Nat),i≤x.2.length→H8.Runs 16 (we x (val (x.2.drop i)) ((i:Int)-1)) [.d aoX (i64.wrap (bif x.1 then u64.wrap (0-val x.2)else val x.2)),.d .bool true]
 |0,_=>by
  refine zE _ _ _ ⟨0,?_⟩
  unfold u4
  rw[alH (by omega),ann]
  cases x.1<;>rfl
 |i+1,hi=>by
  obtain⟨n,ih⟩:=C0 x hx hv i (by omega)
  have h0:=hx.2.2
  have hlim:=hx.1.1
  have hd:x.2.drop i=x.2[i]::x.2.drop (i+1):=gh (by omega)
  have hle:∀j,val (x.2.drop j)≤9223372036854775808∧0≤val (x.2.drop j):=fun j=>by
   have l1:Lim (x.2.drop j):=fun y hy=>hlim y (anS hy)
   have l2:Lim (x.2.take j):=fun y hy=>hlim y (anR hy)
   have:=dB (x.2.take j) (x.2.drop j)
   rw[am3]at this
   have n1:=aP l1
   have n2:=aP l2
   have p:=cp (x.2.take j).length
   have:val (x.2.drop j)≤pw (x.2.take j).length*val (x.2.drop j):=by
    have:=alT (show 1≤pw (x.2.take j).length by omega) n1
    omega
   omega
  have hb:=hlim x.2[i] (amh _)
  have hv1:=hle i
  have hv2:=hle (i+1)
  rw[hd]at hv1 ih
  simp only[val]at hv1 ih
  refine zE _ _ _ ⟨n,?_⟩
  unfold u4
  rw[show(((i+1:Nat):Int)-1)=(i:Int) by omega,alF (by omega),ao,alG (by omega)]
  dsimp only
  rw[bj (x:=val (x.2.drop (i+1))*1000000000) (by omega) (by omega),bj (x:=x.2[i]) (by omega) (by omega),bj (by omega) (by omega),aT (by omega) (by omega)]
  rw[show val (x.2.drop (i+1))*1000000000+x.2[i]=x.2[i]+1000000000*val (x.2.drop (i+1)) by omega]
  exact ih
def ZL:Cn 354 [y2Y]:=cn fun(x:Bool×List Int)=>lf (okI x) [.d aoX (bif decide (aH (ae x))then ae x else 0),.d .bool (decide (aH (ae x)))] fun h=>by
 refine cZ vU (show H8.Res _ _ _ from ?_)
 obtain⟨x0,x1,x2⟩:=cE h
 have o1:okI x∧okI (ai (-9223372036854775808)):=⟨h,by decide⟩
 have o2:okI x∧okI (ai 9223372036854775807):=⟨h,by decide⟩
 have hl:=h.2.2
 by_cases h1:ae x< -9223372036854775808
 ·refine QU _ ⟨0,?_⟩
  unfold IN
  simp only[eU,dec_enc,alF o1]
  rw[alF (show aH (-9223372036854775808) by decide),c8 h1,alH (show ¬aH (ae x) from fun g=>by have:=g.1;omega)]
  rfl
 ·have c1:decide (cr (ae x) (-9223372036854775808)<0)=false:=by
   rcases Int.lt_or_eq_of_le (show-9223372036854775808≤ae x by omega)with g|g
   ·rw[cM g];rfl
   ·rw[←g,dX];rfl
  by_cases h2:9223372036854775807<ae x
  ·refine QU _ ⟨0,?_⟩
   unfold IN
   simp only[eU,dec_enc,alF o1,alF o2]
   rw[alF (show aH (-9223372036854775808) by decide),c1,alF (show aH 9223372036854775807 by decide),cM h2,alH (show ¬aH (ae x) from fun g=>by have:=g.2;omega)]
   rfl
  ·have c2:decide (cr (ae x) 9223372036854775807>0)=false:=by
    rcases Int.lt_or_eq_of_le (show ae x≤9223372036854775807 by omega)with g|g
    ·rw[c8 g];rfl
    ·rw[g,dX];rfl
   have hp:aH (ae x):=⟨by omega,by omega⟩
   have hvv:val x.2≤9223372036854775808:=by
    have g1:=hp.1
    have g2:=hp.2
    have hd:ae x=bif x.1 then-val x.2 else val x.2:=rfl
    cases hb:x.1<;>rw[hb]at hd<;>simp only[cond_true,cond_false]at hd<;>omega
   obtain⟨n,hN⟩:=C0 x h hvv x.2.length (alL _)
   refine QU _ ⟨n,?_⟩
   unfold IN
   simp only[eU,dec_enc,alF o1,alF o2]
   rw[alF (show aH (-9223372036854775808) by decide),c1,alF (show aH 9223372036854775807 by decide),c2,alF hp]
   rw[an3]at hN
   rw[aT (by omega) (by omega)]
   refine hN.trans ?_
   have hr:i64.wrap (bif x.1 then u64.wrap (0-val x.2)else val x.2)=ae x:=by
    have hd:ae x=bif x.1 then-val x.2 else val x.2:=rfl
    have:=hp.1
    have:=hp.2
    cases hb:x.1<;>rw[hb]at hd<;>simp only[cond_true,cond_false]at hd ⊢
    ·rw[aT (by omega) (by omega)];omega
    ·have:=x1 hb
     rw[amx,IntKind.wrap_i64]
     omega
   rw[hr]
   rfl
def tM(a:List Int):Prop:=aQ a∧val a<18446744073709551616
instance (a:List Int):Decidable (tM a):=by unfold tM;infer_instance
def rn(a b:List Int):Prop:=(can a∧a.length≤1000000000)∧(can b∧b.length≤1000000000)
instance (a b:List Int):Decidable (rn a b):=by unfold rn;infer_instance
def jw(l:List Int):Prop:=Lim l∧l.length≤10000000
instance (l:List Int):Decidable (jw l):=by unfold jw;infer_instance
theorem cD{n:Nat}(h:(ag n).length≤1000000000):aQ (ag n):=⟨bZ n,h⟩
theorem bU{v:Int}(h:0≤v):val (ag v.toNat)=v:=by grind [bg]
theorem cB{v:Int}{k:Nat}(h0:0≤v)(h:v<pw k):(ag v.toNat).length≤k:=dl (by omega)
def nj:List En:=[]
def VF:NT:=[((263,4),{keep:=[0],pure_:=[(0,.int .u32)],hl:=0})]
def AG:Ctx:=CX (ens nj) VF
def vM(s0:List Int):Cfg:=⟨263,[.blk 0,.seq 13],[(0,.d aoW s0)],[],0,[]⟩
def ab4(a:List Int)(k:KT):Option (List RV):=k 4 (vM a)
theorem adp(a:List Int):RS AG 263 [.d aoW a] (ab4 a):=rsX
def ud(s0:List Int)(k:KT):Option (List RV):=match decide ((s0.length:Int)>0)with|true=>(match aR s0 (i64.wrap ((s0.length:Int)-1))with|some x1=>(match x1==0 with|true=>(og (decide ((0:Int)≤0∧0≤i64.wrap ((s0.length:Int)-1)∧i64.wrap ((s0.length:Int)-1)≤(s0.length:Int))) (k 4 (vM ((s0.take (i64.wrap ((s0.length:Int)-1)).toNat).drop (0:Int).toNat))))|false=>some [RV.d aoW s0])|none=>none)|false=>some [RV.d aoW s0]
theorem uE(s0:List Int):RN AG 4 (vM s0) (ud s0):=rnX
def UO:NT:=[((265,8),{keep:=[0,3,4],hl:=0})]
def BB:Ctx:=CX (ens nj) UO
def wc(a:List Int)(s3 s4:Int):Cfg:=⟨265,[.blk 0,.seq 19],[(0,.d aoW a),(3,.d (.int .u64) s3),(4,SI s4)],[],0,[]⟩
def Nx(a:List Int)(k:KT):Option (List RV):=k 8 (wc a 0 (i64.wrap ((a.length:Int)-1)))
theorem acN(a:List Int):RS BB 265 [.d aoW a] (Nx a):=rsX
def uN(a:List Int)(s3 s4:Int)(k:KT):Option (List RV):=match decide (s4≥0)with|true=>(match aR a s4 with|some x1=>k 8 (wc a (u64.wrap ((u64.wrap (s3*1000000000))+(u64.wrap x1))) (i64.wrap (s4-1)))|none=>none)|false=>some [RV.d (.int .u64) s3]
theorem z6(a:List Int)(s3 s4:Int):RN BB 8 (wc a s3 s4) (uN a s3 s4):=rnX
def SC:NT:=[((182,6),{keep:=[0,3],own:=[(3,225,.int .u32)],hl:=1})]
def Bx:Ctx:=CX (ens nj) SC
def wk(s0:Int)(r0:List Int):Cfg:=⟨182,[.blk 0,.seq 17],[(0,.d (.int .u64) s0),(3,.own 0)],[.row 225 aoY r0],0,[]⟩
def abz(u:Int)(k:KT):Option (List RV):=k 6 (wk u ([]))
theorem abt(u:Int):RS Bx 182 [.d (.int .u64) u] (abz u):=rsX
def ux(s0:Int)(r0:List Int)(k:KT):Option (List RV):=match decide (s0>0)with|true=>(og (decide ((r0.length+([u32.wrap (Int.tmod s0 1000000000)]).length)*4≤140737488355328∧r0.length+([u32.wrap (Int.tmod s0 1000000000)]).length≤140737488355328)) (k 6 (wk (u64.wrap (Int.tdiv s0 1000000000)) (r0++([u32.wrap (Int.tmod s0 1000000000)])))))|false=>some [RV.new 225 aoY r0]
theorem zA(s0:Int)(r0:List Int):RN Bx 6 (wk s0 r0) (ux s0 r0):=rnX
def U8:NT:=[((168,22),{keep:=[0,1,5],hl:=0})]
def Ar:Ctx:=CX (ens nj) U8
def sK(a b:List Int)(s5:Int):Cfg:=⟨168,[.blk 0,.seq 47],[(0,.d aoW a),(1,.d aoW b),(5,SI s5)],[],0,[]⟩
def GE(a b:List Int)(k:KT):Option (List RV):=match(a.length:Int) !=(b.length:Int)with|true=>(match decide ((a.length:Int)<(b.length:Int))with|true=>some [RV.d aoX (-1)]|false=>some [RV.d aoX 1])|false=>k 22 (sK a b (i64.wrap ((a.length:Int)-1)))
theorem L5(a b:List Int):RS Ar 168 [.d aoW a,.d aoW b] (GE a b):=rsX
def lc(a b:List Int)(s5:Int)(k:KT):Option (List RV):=match decide (s5≥0)with|true=>(match aR a s5 with|some x1=>(match aR b s5 with|some x2=>(match decide (x1<x2)with|true=>some [RV.d aoX (-1)]|false=>(match aR a s5 with|some x3=>(match aR b s5 with|some x4=>(match decide (x3>x4)with|true=>some [RV.d aoX 1]|false=>k 22 (sK a b (i64.wrap (s5-1))))|none=>none)|none=>none))|none=>none)|none=>none)|false=>some [RV.d aoX 0]
theorem nE(a b:List Int)(s5:Int):RN Ar 22 (sK a b s5) (lc a b s5):=rnX
theorem Km(l:List Int)(hl:Lim l)(hs:l.length≤1000000000):∀(n:Nat),n≤l.length→(∀j (hj:j<l.length),n≤j→l[j]=0)→AG.Runs 4 (vM (l.take n)) [.d aoW (ag (val l).toNat)]:=by
 intro n
 induction n with
 |zero=>
  intro _ h
  refine uE _ ⟨0,?_⟩
  rw[←mj hl (aoc _) h (.inl rfl)]
  rfl
 |succ n ih=>
  intro hn h
  have hlen:(l.take (n+1)).length=n+1:=by rw[ams,amu hn]
  have hget:(l.take (n+1))[n]?=some l[n]:=by rw[List.getElem?_take_of_lt (by omega),alG (by omega)]
  by_cases hz:l[n]=0
  ·obtain⟨q,hq⟩:=ih (by omega) fun j hj hk=>by
    rcases Nat.eq_or_lt_of_le hk with e|e
    ·subst e;exact hz
    ·exact h j hj e
   refine uE _ ⟨q,?_⟩
   unfold ud
   rw[hlen,alF (by omega),Kh (by omega) (by omega),ao,show n+1-1=n from rfl,hget]
   dsimp only
   rw[hz,alF (show(0:Int)≤0∧(0:Int)≤(n:Int)∧(n:Int)≤((n+1:Nat):Int) by omega),aD,aoP,amu (by omega)]
   exact hq
  ·refine uE _ ⟨0,?_⟩
   unfold ud
   rw[hlen,alF (by omega),Kh (by omega) (by omega),ao,show n+1-1=n from rfl,hget]
   dsimp only
   rw[show(l[n]==0)=false by simpa using hz,←mj hl hn h (.inr ⟨Nat.lt_of_succ_le hn,hz⟩)]
def xl:Cn 263 [aoW]:=cn fun(a:List Int)=>lf (aQ a) [.d aoW (ag (val a).toNat)] fun h=>by
 refine cZ nj (show AG.Res _ _ _ from ?_)
 obtain⟨q,hq⟩:=Km a h.1 h.2 a.length (alL _) (fun j hj hk=>by omega)
 rw[amY]at hq
 exact adp _ ⟨q,hq⟩
theorem JM(u:Nat):∀(r:List Int),(u:Int)<18446744073709551616→r.length+3≤1000+3-(ag u).length→Bx.Runs 6 (wk (u:Int) r) [.new 225 aoY (r++ag u)]:=by
 induction u using qg with
 |h0=>
  intro r _ _
  refine zA _ _ ⟨0,?_⟩
  unfold ux
  rw[fI,ame]
  rfl
 |h1 n hn ih=>
  intro r hu hr
  rw[iK hn]at hr
  simp only[alY]at hr
  obtain⟨q,hq⟩:=ih (r++[((n%1000000000:Nat):Int)]) (by omega) (by rw[amf];simp only[al6];omega)
  refine zA _ _ ⟨q,?_⟩
  unfold ux
  rw[alF (by omega),jo (by omega),gX (by omega),bj (x:=(n:Int)/1000000000) (by omega) (by omega),c7 (x:=(n:Int)%1000000000) (by omega) (by omega)]
  simp only[al6]
  rw[adu (by omega) (by omega),iK hn]
  rw[show((n:Int)%1000000000)=((n%1000000000:Nat):Int) by omega,show((n:Int)/1000000000)=((n/1000000000:Nat):Int) by omega]
  rw[al7]at hq
  exact hq
def Bs:Cn 182 [(.int .u64)]:=cn fun(u:Int)=>lf (iC u) [.new 225 aoY (ag u.toNat)] fun h=>by
 refine cZ nj (show Bx.Res _ _ _ from ?_)
 have h0:=h.1
 have h1:=h.2
 have hl:=dl (n:=u.toNat) (k:=3) (an9 (show(u.toNat:Int)<18446744073709551616 by omega) (by decide))
 obtain⟨q,hq⟩:=JM u.toNat [] (by omega) (by simp;omega)
 rw[show((u.toNat:Nat):Int)=u by omega]at hq
 exact abt _ ⟨q,hq⟩
theorem yW(a:List Int)(h:tM a):∀(i:Nat),i≤a.length→BB.Runs 8 (wc a (val (a.drop i)) ((i:Int)-1)) [.d (.int .u64) (val a)]
 |0,_=>by
  refine z6 _ _ _ ⟨0,?_⟩
  unfold uN
  rw[alH (by omega),ann]
 |i+1,hi=>by
  obtain⟨n,ih⟩:=yW a h i (by omega)
  have h0:=h.1.2
  have hlim:=h.1.1
  have hlt:=h.2
  have hd:a.drop i=a[i]::a.drop (i+1):=gh (by omega)
  have hle:∀j,val (a.drop j)≤val a∧0≤val (a.drop j):=fun j=>by
   have l1:Lim (a.drop j):=fun y hy=>hlim y (anS hy)
   have l2:Lim (a.take j):=fun y hy=>hlim y (anR hy)
   have:=dB (a.take j) (a.drop j)
   rw[am3]at this
   have n1:=aP l1
   have n2:=aP l2
   have p:=cp (a.take j).length
   have:val (a.drop j)≤pw (a.take j).length*val (a.drop j):=by
    have:=alT (show 1≤pw (a.take j).length by omega) n1
    omega
   omega
  have hb:=hlim a[i] (amh _)
  have hv1:=hle i
  have hv2:=hle (i+1)
  rw[hd]at hv1 ih
  simp only[val]at hv1 ih
  refine z6 _ _ _ ⟨n,?_⟩
  unfold uN
  rw[show(((i+1:Nat):Int)-1)=(i:Int) by omega,alF (by omega),ao,alG (by omega)]
  dsimp only
  rw[bj (x:=val (a.drop (i+1))*1000000000) (by omega) (by omega),bj (x:=a[i]) (by omega) (by omega),bj (by omega) (by omega),aT (by omega) (by omega)]
  rw[show val (a.drop (i+1))*1000000000+a[i]=a[i]+1000000000*val (a.drop (i+1)) by omega]
  exact ih
def AD:Cn 265 [aoW]:=cn fun(a:List Int)=>lf (tM a) [.d (.int .u64) (val a)] fun h=>by
 refine cZ nj (show BB.Res _ _ _ from ?_)
 obtain⟨n,hn⟩:=yW a h a.length (alL _)
 have h0:=h.1.2
 refine acN _ ⟨n,?_⟩
 unfold Nx
 rw[an3]at hn
 rw[aT (by omega) (by omega)]
 exact hn
theorem Kl(a b:List Int)(la:Lim a)(lb:Lim b)(hl:a.length=b.length)(hs:a.length≤1000000000):∀(n:Nat),n≤a.length→a.drop n=b.drop n→
  Ar.Runs 22 (sK a b ((n:Int)-1)) [.d aoX (cr (val a) (val b))]:=by
 intro n
 induction n with
 |zero=>
  intro _ h
  refine nE _ _ _ ⟨0,?_⟩
  have e:val a=val b:=by simp only[ann]at h;rw[h]
  unfold lc
  rw[alH (by omega),e,dX]
 |succ n ih=>
  intro hn h
  have h1:n<a.length:=by omega
  have h2:n<b.length:=by omega
  rcases Int.lt_trichotomy a[n] b[n]with hc|hc|hc
  ·refine nE _ _ _ ⟨0,?_⟩
   have:=Ag la lb h1 h2 h hc
   unfold lc
   rw[show((n+1:Nat):Int)-1=(n:Int) by omega,alF (by omega),ao,ao,alG h1,alG h2]
   dsimp only
   rw[alF hc,c8 (by omega)]
  ·obtain⟨q,hq⟩:=ih (by omega) (by rw[al1 h1,al1 h2,hc,h])
   refine nE _ _ _ ⟨q,?_⟩
   unfold lc
   rw[show((n+1:Nat):Int)-1=(n:Int) by omega,alF (by omega),ao,ao,alG h1,alG h2]
   dsimp only
   rw[alH (by omega),alH (by omega),aT (x:=(n:Int)-1) (by omega) (by omega)]
   exact hq
  ·refine nE _ _ _ ⟨0,?_⟩
   have:=Ag lb la h2 h1 h.symm hc
   unfold lc
   rw[show((n+1:Nat):Int)-1=(n:Int) by omega,alF (by omega),ao,ao,alG h1,alG h2]
   dsimp only
   rw[alH (by omega),alF hc,cM (by omega)]
theorem Hy{a b:List Int}(ha:can a)(hb:can b)(h:a.length<b.length):val a<val b:=by
 have ea:=po ha
 have eb:=po hb
 have:=wm (a:=(val a).toNat) (b:=(val b).toNat) (by rw[←ea,←eb];exact h)
 omega
def xU:Cn 168 [aoW,aoW]:=cn fun(a b:List Int)=>lf (rn a b) [.d aoX (cr (val a) (val b))] fun h=>by
 refine cZ nj (show Ar.Res _ _ _ from ?_)
 obtain⟨⟨ha,sa⟩,hb,sb⟩:=h
 by_cases hl:a.length=b.length
 ·obtain⟨q,hq⟩:=Kl a b ha.1 hb.1 hl sa _ (alL _) (by rw[an3,hl,an3])
  refine L5 _ _ ⟨q,?_⟩
  unfold GE
  rw[show((a.length:Int) !=(b.length:Int))=false by simp[hl],aT (x:=(a.length:Int)-1) (by omega) (by omega)]
  exact hq
 ·refine L5 _ _ ⟨0,?_⟩
  unfold GE
  rw[show((a.length:Int) !=(b.length:Int))=true by simp;omega]
  dsimp only
  rcases Nat.lt_or_gt_of_ne hl with h1|h1
  ·have:=Hy ha hb h1
   rw[alF (by omega),c8 (by omega)]
  ·have:=Hy hb ha h1
   rw[alH (by omega),cM (by omega)]
def rG:List En:=enK xl::enK Bs::enF AD::enF xU::nj
def Lw(neg:Bool)(l:List Int)(_k:KT):Option (List RV):=og (decide (aQ l)) (match neg with|true=>some [RV.d y2Y (decide (((ag (val l).toNat).length:Int)>0),ag (val l).toNat)]|false=>some [RV.d y2Y (false,ag (val l).toNat)])
def UU:NT:=[((167,16),{keep:=[0,1,5,6,7],hl:=1})]
def xk:Ctx:=CX (ens rG) UU
def kO(s0 s1 r0:List Int)(s6 s7:Int):Cfg:=⟨167,[.blk 0,.seq 37],[(0,.d aoW s0),(1,.d aoW s1),(5,.own 0),(6,.d aoY s6),(7,SI s7)],[.row 225 aoY r0],0,[]⟩
def FZ(a b:List Int)(k:KT):Option (List RV):=match decide ((a.length:Int)<(b.length:Int))with|true=>(og (decide ((0:Int)≤i64.wrap ((b.length:Int)+1)∧(i64.wrap ((b.length:Int)+1))*((4:Nat):Int)≤140737488355328∧i64.wrap ((b.length:Int)+1)≤140737488355328)) (k 16 (kO b a (List.replicate (i64.wrap ((b.length:Int)+1)).toNat (0:Int)) 0 0)))|false=>(og (decide ((0:Int)≤i64.wrap ((a.length:Int)+1)∧(i64.wrap ((a.length:Int)+1))*((4:Nat):Int)≤140737488355328∧i64.wrap ((a.length:Int)+1)≤140737488355328)) (k 16 (kO a b (List.replicate (i64.wrap ((a.length:Int)+1)).toNat (0:Int)) 0 0)))
theorem Mu(a b:List Int):RS xk 167 [.d aoW a,.d aoW b] (FZ a b):=rsX
def nY(s0 s1 r0:List Int)(s6 s7:Int)(k:KT):Option (List RV):=match decide (s7<(s0.length:Int))with|true=>(match aR s0 s7 with|some x1=>(match decide (s7<(s1.length:Int))with|true=>(match aR s1 s7 with|some x2=>(match aR r0 s7 with|some _=>(match true,r0[(s7).toNat]? with|true,some _=>k 16 (kO s0 s1 (r0.set ((s7).toNat) (Int.tmod (u32.wrap ((u32.wrap (s6+x1))+x2)) 1000000000)) (u32.wrap (Int.tdiv (u32.wrap ((u32.wrap (s6+x1))+x2)) 1000000000)) (i64.wrap (s7+1)))|_,_=>none)|none=>none)|none=>none)|false=>(match aR r0 s7 with|some _=>(match true,r0[(s7).toNat]? with|true,some _x2=>k 16 (kO s0 s1 (r0.set ((s7).toNat) (Int.tmod (u32.wrap (s6+x1)) 1000000000)) (u32.wrap (Int.tdiv (u32.wrap (s6+x1)) 1000000000)) (i64.wrap (s7+1)))|_,_=>none)|none=>none))|none=>none)|false=>(match aR r0 (s0.length:Int)with|some _=>(match true,r0[((s0.length:Int)).toNat]? with|true,some _x1=>(og (decide (aQ (r0.set (((s0.length:Int)).toNat) s6))) (some [RV.d aoW (ag (val (r0.set (((s0.length:Int)).toNat) s6)).toNat)]))|_,_=>none)|none=>none)
theorem qX(s0 s1 r0:List Int)(s6 s7:Int):RN xk 16 (kO s0 s1 r0 s6 s7) (nY s0 s1 r0 s6 s7):=rnX
def Tx:NT:=[((169,10),{keep:=[0,1,5,6,7],hl:=1})]
def wB:Ctx:=CX (ens rG) Tx
def jp(a b:List Int)(s7:Int)(r0:List Int)(s6:Int):Cfg:=⟨169,[.blk 0,.seq 37],[(0,.d aoW a),(1,.d aoW b),(5,.own 0),(6,.d aoY s6),(7,SI s7)],[.row 225 aoY r0],0,[]⟩
def LI(a b:List Int)(k:KT):Option (List RV):=og (decide ((0:Int)≤(a.length:Int)∧(a.length:Int)*((4:Nat):Int)≤140737488355328∧(a.length:Int)≤140737488355328)) (k 10 (jp a b 0 (List.replicate ((a.length:Int)).toNat (0:Int)) 0))
theorem adr(a b:List Int):RS wB 169 [.d aoW a,.d aoW b] (LI a b):=rsX
def iR(a b:List Int)(s7:Int)(r0:List Int)(s6:Int)(k:KT):Option (List RV):=match decide (s7<(a.length:Int))with|true=>(match aR a s7 with|some x1=>(match decide (s7<(b.length:Int))with|true=>(match aR b s7 with|some x2=>(match decide ((u32.wrap ((u32.wrap ((u32.wrap (x1+1000000000))-s6))-x2))≥1000000000)with|true=>(match aR r0 s7 with|some _=>(match true,r0[(s7).toNat]? with|true,some _x3=>k 10 (jp a b (i64.wrap (s7+1)) (r0.set ((s7).toNat) (u32.wrap ((u32.wrap ((u32.wrap ((u32.wrap (x1+1000000000))-s6))-x2))-1000000000))) 0)|_,_=>none)|none=>none)|false=>(match aR r0 s7 with|some _=>(match true,r0[(s7).toNat]? with|true,some _x3=>k 10 (jp a b (i64.wrap (s7+1)) (r0.set ((s7).toNat) (u32.wrap ((u32.wrap ((u32.wrap (x1+1000000000))-s6))-x2))) 1)|_,_=>none)|none=>none))|none=>none)|false=>(match decide ((u32.wrap ((u32.wrap (x1+1000000000))-s6))≥1000000000)with|true=>(match aR r0 s7 with|some _=>(match true,r0[(s7).toNat]? with|true,some _x2=>k 10 (jp a b (i64.wrap (s7+1)) (r0.set ((s7).toNat) (u32.wrap ((u32.wrap ((u32.wrap (x1+1000000000))-s6))-1000000000))) 0)|_,_=>none)|none=>none)|false=>(match aR r0 s7 with|some _=>(match true,r0[(s7).toNat]? with|true,some _x2=>k 10 (jp a b (i64.wrap (s7+1)) (r0.set ((s7).toNat) (u32.wrap ((u32.wrap (x1+1000000000))-s6))) 1)|_,_=>none)|none=>none)))|none=>none)|false=>(og (decide (aQ r0)) (some [RV.d aoW (ag (val r0).toNat)]))
theorem kx(a b:List Int)(s7:Int)(r0:List Int)(s6:Int):RN wB 10 (jp a b s7 r0 s6) (iR a b s7 r0 s6):=rnX
def TC:NT:=[((163,8),{keep:=[0,1,5,6],hl:=1}),((163,23),{keep:=[0,1,5,6,7,8],hl:=1})]
def rC:Ctx:=CX (ens rG) TC
def r9(a b:List Int)(s6:Int)(r0:List Int):Cfg:=⟨163,[.blk 0,.seq 40],[(0,.d aoW a),(1,.d aoW b),(5,.own 0),(6,SI s6)],[.row 225 aoY r0],0,[]⟩
def sB(a b:List Int)(s6 s7 s8:Int)(r0:List Int):Cfg:=⟨163,[.blk 2,.seq 38,.blk 1,.seq 39,.lp 8,.blk 0,.seq 40],[(0,.d aoW a),(1,.d aoW b),(5,.own 0),(6,SI s6),(7,.d (.int .u64) s7),(8,SI s8)],[.row 225 aoY r0],0,[]⟩
def QZ(a b:List Int)(k:KT):Option (List RV):=og (decide ((0:Int)≤i64.wrap ((a.length:Int)+(b.length:Int))∧(i64.wrap ((a.length:Int)+(b.length:Int)))*((4:Nat):Int)≤140737488355328∧i64.wrap ((a.length:Int)+(b.length:Int))≤140737488355328)) (k 8 (r9 a b 0 (List.replicate (i64.wrap ((a.length:Int)+(b.length:Int))).toNat (0:Int))))
theorem adJ(a b:List Int):RS rC 163 [.d aoW a,.d aoW b] (QZ a b):=rsX
def uT(a b:List Int)(s6:Int)(r0:List Int)(k:KT):Option (List RV):=match decide (s6<(a.length:Int))with|true=>k 23 (sB a b s6 0 0 r0)|false=>(og (decide (aQ r0)) (some [RV.d aoW (ag (val r0).toNat)]))
theorem zK(a b:List Int)(s6:Int)(r0:List Int):RN rC 8 (r9 a b s6 r0) (uT a b s6 r0):=rnX
def qU(a b:List Int)(s6 s7 s8:Int)(r0:List Int)(k:KT):Option (List RV):=match decide (s8<(b.length:Int))with|true=>(match aR r0 (i64.wrap (s6+s8))with|some _=>(match true,r0[(i64.wrap (s6+s8)).toNat]? with|true,some x1=>(match aR a s6 with|some x2=>(match aR b s8 with|some x3=>(match aR r0 (i64.wrap (s6+s8))with|some _=>(match true,r0[(i64.wrap (s6+s8)).toNat]? with|true,some _=>k 23 (sB a b s6 (u64.wrap (Int.tdiv (u64.wrap ((u64.wrap (s7+(u64.wrap x1)))+(u64.wrap ((u64.wrap x2)*(u64.wrap x3))))) 1000000000)) (i64.wrap (s8+1)) (r0.set ((i64.wrap (s6+s8)).toNat) (u32.wrap (Int.tmod (u64.wrap ((u64.wrap (s7+(u64.wrap x1)))+(u64.wrap ((u64.wrap x2)*(u64.wrap x3))))) 1000000000))))|_,_=>none)|none=>none)|none=>none)|none=>none)|_,_=>none)|none=>none)|false=>(match aR r0 (i64.wrap (s6+(b.length:Int)))with|some _=>(match true,r0[(i64.wrap (s6+(b.length:Int))).toNat]? with|true,some _x1=>k 8 (r9 a b (i64.wrap (s6+1)) (r0.set ((i64.wrap (s6+(b.length:Int))).toNat) (u32.wrap s7)))|_,_=>none)|none=>none)
theorem xi(a b:List Int)(s6 s7 s8:Int)(r0:List Int):RN rC 23 (sB a b s6 s7 s8 r0) (qU a b s6 s7 s8 r0):=rnX
def Gq:Cn 162 [.bool,aoW]:=cn fun(neg:Bool) (l:List Int)=>lf (aQ l) [.d y2Y (ai (cd neg (val l)))] fun h=>by
 refine aA rG (Lw neg l) ⟨0,?_⟩
 have hv:=aP h.1
 have hp:decide (((ag (val l).toNat).length:Int)>0)=decide (0<val l):=by
  refine amc.2 ⟨fun g=>?_,fun g=>?_⟩
  ·apply alW
   intro hc
   rw[show(val l).toNat=0 by omega,fI]at g
   simp at g
  ·have:ag (val l).toNat≠[]:=fun e=>by rw[gU]at e;omega
   have:=ami.2 this
   omega
 unfold Lw
 rw[alF h,mZ neg hv,hp]
 cases neg<;>rfl
theorem zY(a b:List Int)(ha:jw a)(hb:jw b)(hab:b.length≤a.length):∀(j i:Nat) (c:Int) (r:List Int),i+j=a.length→0≤c→c≤1→Lim r→r.length=a.length+1→(∀k (hk:k<r.length),i≤k→r[k]=0)→val r+pw i*c=val (a.take i)+val (b.take i)→
  xk.Runs 16 (kO a b r c (i:Int)) [.d aoW (ag (val a+val b).toNat)]:=by
 have hsa:=ha.2
 intro j
 induction j with
 |zero=>
  intro i c r hi c0 c1 hr hl hz hv
  obtain rfl:i=a.length:=by omega
  have hir:a.length<r.length:=by omega
  have hr0:=hz _ hir (alL _)
  have e:val (r.set a.length c)=val a+val b:=by
   rw[fj hir,hr0]
   rw[amY,amT hab]at hv
   grind
  refine qX _ _ _ _ _ ⟨0,?_⟩
  unfold nY
  rw[b9 (alL _),ao r,aD,alG hir]
  dsimp only
  rw[alF (show aQ (r.set a.length c) from⟨hr.set _ ⟨c0,by omega⟩,by simp;omega⟩),e]
 |succ j ih=>
  intro i c r hi c0 c1 hr hl hz hv
  have hia:i<a.length:=by omega
  have hir:i<r.length:=by omega
  have xa:=ha.1.get hia
  have hr0:=hz i hir (alL _)
  have step:∀(t:Int),0≤t→t<2000000000→val (b.take (i+1))=val (b.take i)+pw i*(t-a[i]-c)→xk.Runs 16 (kO a b (r.set i (t%1000000000)) (t/1000000000) ((i+1:Nat):Int)) [.d aoW (ag (val a+val b).toNat)]:=by
   intro t t0 t1 hb'
   refine ih (i+1) (t/1000000000) (r.set i (t%1000000000)) (by omega) (by omega) (by omega) (hr.set i ⟨by omega,by omega⟩) (by simpa using hl) (pu hz) ?_
   rw[fj hir,hr0,aW hia,hb',b8]
   have:=Int.emod_add_mul_ediv t 1000000000
   grind
  by_cases hib:i<b.length
  ·have xb:=hb.1.get hib
   have ht:=aW hib
   obtain⟨q,hq⟩:=step (c+a[i]+b[i]) (by omega) (by omega) (by rw[ht];grind)
   refine qX _ _ _ _ _ ⟨q,?_⟩
   unfold nY
   rw[bH hia,ao,alG hia,bH hib,ao,alG hib,ao r i,aD,alG hir]
   dsimp only
   rw[c7 (x:=c+a[i]) (by omega) (by omega),c7 (x:=c+a[i]+b[i]) (by omega) (by omega),jo (by omega),gX (by omega),c7 (x:=(c+a[i]+b[i])/1000000000) (by omega) (by omega),bV (by omega)]
   exact hq
  ·have ht:=kj (b:=b) (i:=i) (by omega)
   obtain⟨q,hq⟩:=step (c+a[i]) (by omega) (by omega) (by rw[ht];grind)
   refine qX _ _ _ _ _ ⟨q,?_⟩
   unfold nY
   rw[bH hia,ao,alG hia,b9 (show b.length≤i by omega),ao r i,aD,alG hir]
   dsimp only
   rw[c7 (x:=c+a[i]) (by omega) (by omega),jo (by omega),gX (by omega),c7 (x:=(c+a[i])/1000000000) (by omega) (by omega),bV (by omega)]
   exact hq
def ac1:Cn 167 [aoW,aoW]:=cn fun(a b:List Int)=>lf (jw a∧jw b) [.d aoW (ag (val a+val b).toNat)] fun h=>by
 refine cZ rG (show xk.Res _ _ _ from ?_)
 obtain⟨ha,hb⟩:=h
 have hsa:=ha.2
 have hsb:=hb.2
 by_cases hc:a.length<b.length
 ·obtain⟨q,hq⟩:=zY b a hb ha (by omega) b.length 0 0 (List.replicate (b.length+1) 0) (by omega) (by omega) (by omega) (Lim.rep _) (by simp) (fun k hk _=>by simp) (by simp[val,gI])
  refine Mu _ _ ⟨q,?_⟩
  unfold FZ
  rw[bH hc,bV (by omega),tY (by omega),aD,aoB (val a)]
  exact hq
 ·obtain⟨q,hq⟩:=zY a b ha hb (by omega) a.length 0 0 (List.replicate (a.length+1) 0) (by omega) (by omega) (by omega) (Lim.rep _) (by simp) (fun k hk _=>by simp) (by simp[val,gI])
  refine Mu _ _ ⟨q,?_⟩
  unfold FZ
  rw[b9 (by omega),bV (k:=a.length) (by omega),tY (n:=a.length+1) (by omega),aD]
  exact hq
theorem Kp(a b:List Int)(ha:aQ a)(hb:aQ b)(hle:val b≤val a):∀(j i:Nat) (c:Int) (r:List Int),i+j=a.length→0≤c→c≤1→Lim r→r.length=a.length→(∀k (hk:k<r.length),i≤k→r[k]=0)→val r+val (b.take i)=val (a.take i)+pw i*c→
  wB.Runs 10 (jp a b (i:Int) r c) [.d aoW (ag (val a-val b).toNat)]:=by
 have hsa:=ha.2
 intro j
 induction j with
 |zero=>
  intro i c r hi c0 c1 hr hl hz hv
  obtain rfl:i=a.length:=by omega
  refine kx _ _ _ _ _ ⟨0,?_⟩
  unfold iR
  rw[b9 (alL _)]
  have hrl:=bW hr
  rw[hl]at hrl
  have hb2:val b=val (b.take a.length)+pw (min a.length b.length)*val (b.drop a.length):=f0 b a.length
  have hbd:0≤val (b.drop a.length):=aP (hb.1.drop _)
  have hal:=bW ha.1
  have hbt:=aP (hb.1.take a.length)
  rw[amY]at hv
  have hz0:val (b.drop a.length)=0:=by
   rcases amm a.length b.length with h1|h1
   ·rw[amu (by omega)]at hb2
    rcases amd 0 (val (b.drop a.length))with h2|h2
    ·have hp:=cp a.length
     have:=alN (show 1≤val (b.drop a.length) by omega) (amn hp)
     omega
    ·omega
   ·rw[amB h1];rfl
  rw[hz0,anY,aoQ]at hb2
  have hc0:c=0:=by
   have hp:=cp a.length
   rcases(show c=0∨c=1 by omega)with h|h
   ·exact h
   ·subst h;rw[an1]at hv;omega
  subst hc0
  rw[anY]at hv
  rw[alF (show aQ r from⟨hr,by omega⟩),show val r=val a-val b by omega]
 |succ j ih=>
  intro i c r hi c0 c1 hr hl hz hv
  have hia:i<a.length:=by omega
  have hir:i<r.length:=by omega
  have xa:=ha.1.get hia
  have hr0:=hz i hir (alL _)
  have step:∀(y c':Int),0≤y→y<1000000000→0≤c'→c'≤1→val (b.take (i+1))=val (b.take i)+pw i*(a[i]+1000000000*c'-y-c)→wB.Runs 10 (jp a b ((i+1:Nat):Int) (r.set i y) c') [.d aoW (ag (val a-val b).toNat)]:=by
   intro y c' y0 y1 k0 k1 hb'
   refine ih (i+1) c' (r.set i y) (by omega) k0 k1 (hr.set i ⟨y0,y1⟩) (by simpa using hl) (pu hz) ?_
   rw[fj hir,hr0,aW hia,hb',b8]
   grind
  by_cases hib:i<b.length
  ·have xb:=hb.1.get hib
   have ht:=aW hib
   by_cases hc:a[i]+1000000000-c-b[i]≥1000000000
   ·obtain⟨q,hq⟩:=step (a[i]+1000000000-c-b[i]-1000000000) 0 (by omega) (by omega) (by omega) (by omega) (by rw[ht];grind)
    refine kx _ _ _ _ _ ⟨q,?_⟩
    unfold iR
    rw[bH hia,ao,alG hia,bH hib,ao,alG hib,ao,aD,alG hir]
    dsimp only
    rw[c7 (x:=a[i]+1000000000) (by omega) (by omega),c7 (x:=a[i]+1000000000-c) (by omega) (by omega),c7 (x:=a[i]+1000000000-c-b[i]) (by omega) (by omega),alF hc,c7 (x:=a[i]+1000000000-c-b[i]-1000000000) (by omega) (by omega),bV (by omega)]
    exact hq
   ·obtain⟨q,hq⟩:=step (a[i]+1000000000-c-b[i]) 1 (by omega) (by omega) (by omega) (by omega) (by rw[ht];grind)
    refine kx _ _ _ _ _ ⟨q,?_⟩
    unfold iR
    rw[bH hia,ao,alG hia,bH hib,ao,alG hib,ao,aD,alG hir]
    dsimp only
    rw[c7 (x:=a[i]+1000000000) (by omega) (by omega),c7 (x:=a[i]+1000000000-c) (by omega) (by omega),c7 (x:=a[i]+1000000000-c-b[i]) (by omega) (by omega),alH hc,bV (by omega)]
    exact hq
  ·have ht:=kj (b:=b) (i:=i) (by omega)
   by_cases hc:a[i]+1000000000-c≥1000000000
   ·obtain⟨q,hq⟩:=step (a[i]+1000000000-c-1000000000) 0 (by omega) (by omega) (by omega) (by omega) (by rw[ht];grind)
    refine kx _ _ _ _ _ ⟨q,?_⟩
    unfold iR
    rw[bH hia,ao,alG hia,b9 (show b.length≤i by omega),ao r i,aD,alG hir]
    dsimp only
    rw[c7 (x:=a[i]+1000000000) (by omega) (by omega),c7 (x:=a[i]+1000000000-c) (by omega) (by omega),alF hc,c7 (x:=a[i]+1000000000-c-1000000000) (by omega) (by omega),bV (by omega)]
    exact hq
   ·obtain⟨q,hq⟩:=step (a[i]+1000000000-c) 1 (by omega) (by omega) (by omega) (by omega) (by rw[ht];grind)
    refine kx _ _ _ _ _ ⟨q,?_⟩
    unfold iR
    rw[bH hia,ao,alG hia,b9 (show b.length≤i by omega),ao r i,aD,alG hir]
    dsimp only
    rw[c7 (x:=a[i]+1000000000) (by omega) (by omega),c7 (x:=a[i]+1000000000-c) (by omega) (by omega),alH hc,bV (by omega)]
    exact hq
def E4:Cn 169 [aoW,aoW]:=cn fun(a b:List Int)=>lf (oo a b) [.d aoW (ag (val a-val b).toNat)] fun h=>by
 refine cZ rG (show wB.Res _ _ _ from ?_)
 obtain⟨ha,hb,hle⟩:=h
 have hsa:=ha.2
 obtain⟨q,hq⟩:=Kp a b ha hb hle a.length 0 0 (List.replicate a.length 0) (by omega) (by omega) (by omega) (Lim.rep _) (by simp) (fun k hk _=>by simp) (by simp[val,gI])
 refine adr _ _ ⟨q,?_⟩
 unfold LI
 rw[tY (by omega),aD]
 exact hq
theorem Gb(a b:List Int)(ha:jw a)(hb:jw b)(i:Nat)(hi:i<a.length)
  (hout:∀r,Lim r→r.length=a.length+b.length→(∀k (hk:k<r.length),i+1+b.length≤k→r[k]=0)→val r=val (a.take (i+1))*val b→rC.Runs 8 (r9 a b ((i+1:Nat):Int) r) [.d aoW (ag (val a*val b).toNat)]):
  ∀(j k:Nat) (c:Int) (r:List Int),k+j=b.length→0≤c→c<1000000000→Lim r→r.length=a.length+b.length→(∀q (hq:q<r.length),i+b.length≤q→r[q]=0)→val r+pw (i+k)*c=val (a.take i)*val b+pw i*a[i]*val (b.take k)→
  rC.Runs 23 (sB a b (i:Int) c (k:Int) r) [.d aoW (ag (val a*val b).toNat)]:=by
 have hsa:=ha.2
 have hsb:=hb.2
 have xa:=ha.1.get hi
 intro j
 induction j with
 |zero=>
  intro k c r hk c0 c1 hr hl hz hv
  obtain rfl:k=b.length:=by omega
  have hir:i+b.length<r.length:=by omega
  have hr0:=hz _ hir (alL _)
  obtain⟨q,hq⟩:=hout (r.set (i+b.length) c) (hr.set _ ⟨c0,c1⟩) (by simpa using hl) (by rw[show i+1+b.length=i+b.length+1 by omega];exact pu hz) (by
   rw[fj hir,hr0,aW hi]
   rw[amY]at hv
   grind)
  refine xi _ _ _ _ _ _ ⟨q,?_⟩
  have hw:i64.wrap ((i:Int)+(b.length:Int))=((i+b.length:Nat):Int):=by rw[aT (by omega) (by omega)];simp
  unfold qU
  rw[b9 (alL _),hw,ao r (i+b.length),aD,alG hir,c7 (x:=c) (by omega) (by omega),bV (k:=i) (by omega)]
  exact hq
 |succ j ih=>
  intro k c r hk c0 c1 hr hl hz hv
  have hkb:k<b.length:=by omega
  have hir:i+k<r.length:=by omega
  have xb:=hb.1.get hkb
  have xr:=hr.get hir
  have hbd:=Fq xr xa xb ⟨c0,c1⟩
  obtain⟨q,hq⟩:=ih (k+1) ((r[i+k]+a[i]*b[k]+c)/1000000000) (r.set (i+k) ((r[i+k]+a[i]*b[k]+c)%1000000000)) (by omega) hbd.2.2.1 hbd.2.2.2 (hr.set _ (by omega)) (by simpa using hl)
   (fun m hm hq=>by rw[am1 (by omega)];exact hz m (by simpa using hm) hq) (by
    rw[fj hir,aW hkb,show i+(k+1)=i+k+1 by omega,b8,fu]
    rw[fu]at hv
    have e:=Int.emod_add_mul_ediv (r[i+k]+a[i]*b[k]+c) 1000000000
    grind)
  refine xi _ _ _ _ _ _ ⟨q,?_⟩
  have hw:i64.wrap ((i:Int)+(k:Int))=((i+k:Nat):Int):=by rw[aT (by omega) (by omega)];simp
  unfold qU
  rw[bH hkb,hw,ao b k,alG hkb,ao a i,alG hi,ao r (i+k),aD,alG hir]
  dsimp only
  rw[bj (x:=r[i+k]) (by omega) (by omega),bj (x:=a[i]) (by omega) (by omega),bj (x:=b[k]) (by omega) (by omega),bj (x:=a[i]*b[k]) (by omega) (by omega),bj (x:=c+r[i+k]) (by omega) (by omega),bj (x:=c+r[i+k]+a[i]*b[k]) (by omega) (by omega),show c+r[i+k]+a[i]*b[k]=r[i+k]+a[i]*b[k]+c by omega,gX (a:=r[i+k]+a[i]*b[k]+c) (by omega),jo (a:=r[i+k]+a[i]*b[k]+c) (by omega),bj (x:=(r[i+k]+a[i]*b[k]+c)/1000000000) (by omega) (by omega),c7 (x:=(r[i+k]+a[i]*b[k]+c)%1000000000) (by omega) (by omega),bV (k:=k) (by omega)]
  exact hq
theorem EZ(a b:List Int)(ha:jw a)(hb:jw b):∀(j i:Nat) (r:List Int),i+j=a.length→Lim r→r.length=a.length+b.length→(∀k (hk:k<r.length),i+b.length≤k→r[k]=0)→val r=val (a.take i)*val b→
  rC.Runs 8 (r9 a b (i:Int) r) [.d aoW (ag (val a*val b).toNat)]:=by
 have hsa:=ha.2
 have hsb:=hb.2
 intro j
 induction j with
 |zero=>
  intro i r hi hr hl hz hv
  obtain rfl:i=a.length:=by omega
  refine zK _ _ _ _ ⟨0,?_⟩
  unfold uT
  rw[amY]at hv
  rw[b9 (alL _),alF (show aQ r from⟨hr,by omega⟩),hv]
 |succ j ih=>
  intro i r hi hr hl hz hv
  have hia:i<a.length:=by omega
  obtain⟨q,hq⟩:=Gb a b ha hb i hia (fun r' h1 h2 h3 h4=>ih (i+1) r' (by omega) h1 h2 h3 h4) b.length 0 0 r (by omega) (by omega) (by omega) hr hl hz (by simp[val,hv])
  refine zK _ _ _ _ ⟨q,?_⟩
  grind [uT]
def abE:Cn 163 [aoW,aoW]:=cn fun(a b:List Int)=>lf (jw a∧jw b) [.d aoW (ag (val a*val b).toNat)] fun h=>by
 refine cZ rG (show rC.Res _ _ _ from ?_)
 obtain⟨ha,hb⟩:=h
 have hsa:=ha.2
 have hsb:=hb.2
 obtain⟨q,hq⟩:=EZ a b ha hb a.length 0 (List.replicate (a.length+b.length) 0) (by omega) (Lim.rep _) (by simp) (fun k hk _=>by simp) (by simp[val,gI])
 refine adJ _ _ ⟨q,?_⟩
 have hw:i64.wrap ((a.length:Int)+(b.length:Int))=((a.length+b.length:Nat):Int):=by rw[aT (by omega) (by omega)];simp
 unfold QZ
 rw[hw,tY (by omega),aD]
 exact hq
theorem rZ{x:BI}(h:okI x):jw x.2:=⟨h.1.1,by have:=h.2.2;omega⟩
theorem Tm(a b:Int):decide (cr a b≥0)=decide (b≤a):=by grind [c8,dX,cM]
theorem xy(a b:Int):decide (cr a b>0)=decide (b<a):=by grind [c8,dX,cM]
def pL:List En:=[enK xl,enK Bs,enF AD,enF xU,enK Gq,enK ac1,enK E4,enK abE]
def O9(n:Int)(_k:KT):Option (List RV):=match decide (n<0)with|true=>(match decide (iC (u64.wrap (0-(u64.wrap n))))with|true=>(match decide (aQ (ag (u64.wrap (0-(u64.wrap n))).toNat))with|true=>some [RV.d y2Y (ai (cd true (val (ag (u64.wrap (0-(u64.wrap n))).toNat))))]|false=>none)|false=>none)|false=>(match decide (iC (u64.wrap n))with|true=>(match decide (aQ (ag (u64.wrap n).toNat))with|true=>some [RV.d y2Y (ai (cd false (val (ag (u64.wrap n).toNat))))]|false=>none)|false=>none)
def OA(x:Bool×List Int)(_k:KT):Option (List RV):=match(x.2.length:Int)==0 with|true=>some [RV.d aoX 0]|false=>(match x.1 with|true=>some [RV.d aoX (-1)]|false=>some [RV.d aoX 1])
def NS(x y:Bool×List Int)(_k:KT):Option (List RV):=match !(x.1==y.1)with|true=>(match x.1 with|true=>some [RV.d aoX (-1)]|false=>some [RV.d aoX 1])|false=>(match x.1 with|true=>(og (decide (rn y.2 x.2)) (some [RV.d aoX (cr (val y.2) (val x.2))]))|false=>(og (decide (rn x.2 y.2)) (some [RV.d aoX (cr (val x.2) (val y.2))])))
def Mq(x y:Bool×List Int)(_k:KT):Option (List RV):=match x.1==y.1 with|true=>(og (decide (jw x.2∧jw y.2)) (og (decide (aQ (ag (val x.2+val y.2).toNat))) (some [RV.d y2Y (ai (cd x.1 (val (ag (val x.2+val y.2).toNat))))])))|false=>(og (decide (rn x.2 y.2)) (match decide ((cr (val x.2) (val y.2))≥0)with|true=>(og (decide (oo x.2 y.2)) (og (decide (aQ (ag (val x.2-val y.2).toNat))) (some [RV.d y2Y (ai (cd x.1 (val (ag (val x.2-val y.2).toNat))))])))|false=>(og (decide (oo y.2 x.2)) (og (decide (aQ (ag (val y.2-val x.2).toNat))) (some [RV.d y2Y (ai (cd y.1 (val (ag (val y.2-val x.2).toNat))))])))))
def No(x:Bool×List Int)(_k:KT):Option (List RV):=og (decide (aQ x.2)) (some [RV.d y2Y (ai (cd (!x.1) (val x.2)))])
def Rh(x y:Bool×List Int)(_k:KT):Option (List RV):=og (decide (jw x.2∧jw y.2)) (og (decide (aQ (ag (val x.2*val y.2).toNat))) (some [RV.d y2Y (ai (cd (!(x.1==y.1)) (val (ag (val x.2*val y.2).toNat))))]))
def YU(a:List Int)(n:Int)(_k:KT):Option (List RV):=og (decide (aQ ([n]))) (og (decide (jw a∧jw (ag (val ([n])).toNat))) (some [RV.d aoW (ag (val a*val (ag (val ([n])).toNat)).toNat)]))
def AS:Cn 82 [aoX]:=cn fun(n:Int)=>lf (aH n) [.d y2Y (ai n)] fun h=>by
 refine aA pL (O9 n) ⟨0,?_⟩
 have h1:=h.1
 have h2:=h.2
 unfold O9
 by_cases hn:n<0
 ·have e:u64.wrap (0-u64.wrap n)= -n:=by rw[amx,amx];omega
  have hl:(ag (-n).toNat).length≤3:=cB (by omega) (an9 (show-n<18446744073709551616 by omega) (by decide))
  rw[alF hn]
  dsimp only
  rw[e,alF (show iC (-n) from⟨by omega,by omega⟩),alF (cD (n:=(-n).toNat) (by omega)),bU (v:= -n) (by omega)]
  dsimp only
  rw[show cd true (-n)=n by unfold cd;simp]
 ·have e:u64.wrap n=n:=bj (by omega) (by omega)
  have hl:(ag n.toNat).length≤3:=cB (by omega) (an9 (show n<18446744073709551616 by omega) (by decide))
  rw[alH hn]
  dsimp only
  rw[e,alF (show iC n from⟨by omega,by omega⟩),alF (cD (n:=n.toNat) (by omega)),bU (v:=n) (by omega)]
  rfl
def RU:Cn 117 [y2Y]:=cn fun(x:Bool×List Int)=>lf (okI x) [.d aoX (cr (ae x) 0)] fun h=>by
 refine aA pL (OA x) ⟨0,?_⟩
 obtain⟨h0,h1,h2⟩:=cE h
 unfold OA
 rw[bL]
 unfold cd
 by_cases he:x.2=[]
 ·have e0:=h2.1 he
  have ex:x.1=false:=by
   cases hx:x.1
   ·rfl
   ·have:=h1 hx;omega
  rw[ex,e0,he]
  rfl
 ·have hp:0<val x.2:=eI h.1 he
  have:=ami.2 he
  rw[show((x.2.length:Int)==0)=false by simp;omega]
  cases x.1
  ·simp only[cond_false];rw[cM hp]
  ·simp only[cond_true];rw[c8 (by omega)]
def Sk:Cn 176 [y2Y,y2Y]:=cn fun(x y:Bool×List Int)=>lf (okI x∧okI y) [.d aoX (cr (ae x) (ae y))] fun h=>by
 refine aA pL (NS x y) ⟨0,?_⟩
 obtain⟨hx,hy⟩:=h
 obtain⟨x0,x1,x2⟩:=cE hx
 obtain⟨y0,y1,y2⟩:=cE hy
 have sx:=hx.2.2
 have sy:=hy.2.2
 unfold NS
 rw[bL,bL,alF (show rn y.2 x.2 from⟨⟨hy.1,by omega⟩,hx.1,by omega⟩),alF (show rn x.2 y.2 from⟨⟨hx.1,by omega⟩,hy.1,by omega⟩)]
 unfold cd
 cases ex:x.1<;>cases ey:y.1
 ·rfl
 ·have:=y1 ey
  simp only[cond_true,cond_false]
  rw[show cr (val x.2) (-val y.2)=1 from cM (by omega)]
  rfl
 ·have:=x1 ex
  simp only[cond_true,cond_false]
  rw[show cr (-val x.2) (val y.2)= -1 from c8 (by omega)]
  rfl
 ·simp only[cond_true]
  rw[HO x0 y0]
  rfl
def BD:Cn 67 [y2Y,y2Y]:=cn fun(x y:Bool×List Int)=>lf (okI x∧okI y) [.d y2Y (ai (ae x+ae y))] fun h=>by
 refine aA pL (Mq x y) ⟨0,?_⟩
 obtain⟨hx,hy⟩:=h
 obtain⟨x0,x1,x2⟩:=cE hx
 obtain⟨y0,y1,y2⟩:=cE hy
 have lx:=fW hx
 have ly:=fW hy
 have tx:=rZ hx
 have ty:=rZ hy
 have sx:=hx.2.2
 have sy:=hy.2.2
 have bx:=bW hx.1.1
 have by':=bW hy.1.1
 have px:=dh (show x.2.length≤1000000 by omega)
 have py:=dh (show y.2.length≤1000000 by omega)
 have l1:(ag (val x.2+val y.2).toNat).length≤1000001:=cB (by omega) (by rw[b8];omega)
 have l2:(ag (val x.2-val y.2).toNat).length≤1000000:=dl (by have:=cp 1000000;omega)
 have l3:(ag (val y.2-val x.2).toNat).length≤1000000:=dl (by have:=cp 1000000;omega)
 unfold Mq
 rw[bL,bL,alF (show jw x.2∧jw y.2 from⟨tx,ty⟩),alF (cD (n:=(val x.2+val y.2).toNat) (by omega)),alF (cD (n:=(val x.2-val y.2).toNat) (by omega)),alF (cD (n:=(val y.2-val x.2).toNat) (by omega)),bU (v:=val x.2+val y.2) (by omega),
  alF (show rn x.2 y.2 from⟨⟨hx.1,by omega⟩,hy.1,by omega⟩),Tm]
 cases hs:x.1==y.1
 ·dsimp only
  rcases amd (val x.2) (val y.2)with hc|hc
  ·rw[alH (show ¬val y.2≤val x.2 by omega),alF (show oo y.2 x.2 from⟨ly,lx,by omega⟩),bU (v:=val y.2-val x.2) (by omega)]
   dsimp only
   unfold cd
   cases ex:x.1<;>cases ey:y.1<;>simp_all<;>congr 2<;>omega
  ·rw[alF hc,alF (show oo x.2 y.2 from⟨lx,ly,hc⟩),bU (v:=val x.2-val y.2) (by omega)]
   dsimp only
   unfold cd
   cases ex:x.1<;>cases ey:y.1<;>simp_all<;>congr 2<;>omega
 ·dsimp only
  have e:=amR.1 hs
  rw[←e]
  unfold cd
  cases x.1
  ·rfl
  ·simp only[cond_true]
   rw[show-(val x.2+val y.2)= -val x.2+ -val y.2 by omega]
def PL:Cn 164 [y2Y]:=cn fun(x:Bool×List Int)=>lf (okI x) [.d y2Y (ai (-ae x))] fun h=>by
 refine aA pL (No x) ⟨0,?_⟩
 unfold No
 rw[bL,alF (fW h)]
 unfold cd
 cases x.1<;>simp
def O4:Cn 65 [y2Y,y2Y]:=cn fun(x y:Bool×List Int)=>lf (okI x∧okI y) [.d y2Y (ai (ae x*ae y))] fun h=>by
 refine aA pL (Rh x y) ⟨0,?_⟩
 obtain⟨hx,hy⟩:=h
 obtain⟨x0,x1,x2⟩:=cE hx
 obtain⟨y0,y1,y2⟩:=cE hy
 have bx:=bW hx.1.1
 have by':=bW hy.1.1
 have sx:=hx.2.2
 have sy:=hy.2.2
 have hm:0≤val x.2*val y.2:=amD x0 y0
 have l1:(ag (val x.2*val y.2).toNat).length≤x.2.length+y.2.length:=cB hm (by
  rw[fu]
  have p1:=cp x.2.length
  have p2:=cp y.2.length
  have:=anQ (show val x.2≤pw x.2.length-1 by omega) (show val y.2≤pw y.2.length-1 by omega) y0 (by omega)
  grind)
 unfold Rh
 rw[bL,bL,alF (show jw x.2∧jw y.2 from⟨rZ hx,rZ hy⟩),alF (cD (n:=(val x.2*val y.2).toNat) (by omega)),bU hm]
 unfold cd
 cases x.1<;>cases y.1<;>simp[Int.neg_mul,aoy]
def byP(a:List Int)(n:Int):Prop:=jw a∧0≤n∧n<1000000000
instance (a:List Int) (n:Int):Decidable (byP a n):=by unfold byP;infer_instance
def XT:Cn 321 [aoW,aoY]:=cn fun(a:List Int) (n:Int)=>lf (byP a n) [.d aoW (ag (val a*n).toNat)] fun h=>by
 refine aA pL (YU a n) ⟨0,?_⟩
 obtain⟨ha,h1,h2⟩:=h
 have hl:(ag n.toNat).length≤1:=cB (by omega) (by show n<pw 1;simp[pw];exact h2)
 have e:val [n]=n:=by simp[val]
 unfold YU
 rw[e,alF (show aQ [n] from⟨Lim.cons ⟨by omega,h2⟩ Lim.nil,by simp⟩),alF (show jw a∧jw (ag n.toNat) from⟨ha,bZ _,by omega⟩),bU (by omega)]
def aaw:List En:=enK BD::enK PL::pL
def M6(x y:Bool×List Int)(_k:KT):Option (List RV):=og (decide (okI y)) (og (decide (okI x∧okI (ai (-ae y)))) (some [RV.d y2Y (ai (ae x+ae (ai (-ae y))))]))
def abv:Cn 266 [y2Y,y2Y]:=cn fun(x y:Bool×List Int)=>lf (okI x∧okI y) [.d y2Y (ai (ae x-ae y))] fun h=>by
 refine aA aaw (M6 x y) ⟨0,?_⟩
 obtain⟨hx,hy⟩:=h
 unfold M6
 rw[alF hy,alF (show okI x∧okI (ai (-ae y)) from⟨hx,aU (by rw[je];exact iS hy)⟩),dec_enc,Int.sub_eq_add_neg]
end Go.Proofs.YtnkndpoojnflmaaGreat
end
