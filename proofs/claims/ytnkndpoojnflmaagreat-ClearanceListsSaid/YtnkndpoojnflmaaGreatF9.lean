/- The order of the reals; what holds of all fractions holds of them. -/
import Derived.Test.YtnkndpoojnflmaaGreatF8
noncomputable section
namespace Go.Proofs.YtnkndpoojnflmaaGreat
open Go.RowKit Go.IntKind
theorem anl:type_of% @Rat.mul_nonneg:=@Rat.mul_nonneg
theorem anI:type_of% @decide_eq_decide:=@decide_eq_decide
theorem apq:type_of% @Rat.intCast_natCast:=@Rat.intCast_natCast
theorem apv:type_of% @Rat.intCast_le_intCast:=@Rat.intCast_le_intCast
theorem apM:type_of% @Rat.intCast_neg:=@Rat.intCast_neg
section
namespace RE
open RL
theorem AS(a b:RE):a≤b↔¬b<a:=Iff.rfl
theorem le_of_lt{a b:RE}(h:a<b):a≤b:=fun h'=>lt_irrefl a (cO h h')
theorem lt_or_ge(a b:RE):a<b∨b≤a:=by
 by_cases h:a<b
 ·exact .inl h
 ·exact .inr h
theorem le_antisymm{a b:RE}(h1:a≤b)(h2:b≤a):a=b:=by
 rcases m9 a b with h|h|h
 ·exact absurd h h2
 ·exact h
 ·exact absurd h h1
theorem le_trans{a b c:RE}(h1:a≤b)(h2:b≤c):a≤c:=fun h=>by
 rcases m9 a b with h'|h'|h'
 ·exact h2 (cO h h')
 ·subst h';exact h2 h
 ·exact h1 h'
theorem zero_lt_one:(0:RE)<1:=ib (by decide+kernel:(0:Rat)<1)
theorem lD(a:RE):a+ -a=0:=by rw[add_comm,wr]
theorem jQ{a:RE}(h:a<0):0< -a:=by
 have:=kO (-a) h;rw[lD,add_comm,add_zero]at this;exact this
theorem Fd{a:RE}(h:0<a): -a<0:=by
 have:=kO (-a) h;rw[lD,add_comm,add_zero]at this;exact this
instance:Std.IsLinearOrder RE where
 le_refl a:=lt_irrefl a
 le_trans _ _ _:=le_trans
 le_antisymm _ _:=le_antisymm
 le_total a b:=by
  rcases lt_or_ge a b with h|h
  ·exact .inl (le_of_lt h)
  ·exact .inr h
instance:Std.LawfulOrderLT RE where
 lt_iff a b:=⟨fun h=>⟨le_of_lt h,fun h'=>h' h⟩,fun h=>by
  rcases lt_or_ge a b with h'|h'
  ·exact h'
  ·exact absurd h' h.2⟩
theorem rX{a b:RE}:¬a≤b↔b<a:=⟨fun h=>by
  rcases lt_or_ge b a with h'|h'
  ·exact h'
  ·exact absurd h' h,fun h h'=>h' h⟩
theorem aL{a b:RE}(h:a<b):0<b-a:=by
 have:=kO (-a) h;rw[lD]at this;exact this
theorem ae0{a b:RE}(h:0<b-a):a<b:=by
 have:=kO a h
 have e:b-a+a=b:=by
  show b+ -a+a=b;rw[add_assoc,wr,add_zero]
 rw[e,add_comm,add_zero]at this;exact this
theorem aF{a b:RE}(h:a≤b):0≤b-a:=fun h'=>h (by
 have:=kO a h'
 have e:b-a+a=b:=by
  show b+ -a+a=b;rw[add_assoc,wr,add_zero]
 rw[e,add_comm,add_zero]at this;exact this)
theorem fS{a:RE}(h:0≤a):0<a∨a=0:=by
 rcases m9 0 a with h'|h'|h'
 ·exact .inl h'
 ·exact .inr h'.symm
 ·exact absurd h' h
theorem le_refl(a:RE):a≤a:=lt_irrefl a
theorem ow{a b:RE}(h:a=b):a≤b:=by rw[h];exact le_refl _
theorem lT{a b:RE}(h:a=b):b≤a:=by rw[h];exact le_refl _
theorem zero_mul(a:RE):0*a=0:=by rw[mul_comm,mul_zero]
theorem zero_add(a:RE):0+a=a:=by rw[add_comm,add_zero]
theorem one_mul(a:RE):1*a=a:=by rw[mul_comm,mul_one]
theorem bg{a b:RE}(h:0≤a)(h':0≤b):0≤a*b:=by
 rcases fS h with h1|h1
 ·rcases fS h' with h2|h2
  ·exact le_of_lt (mul_pos h1 h2)
  ·rw[h2,mul_zero];exact le_refl _
 ·rw[h1,zero_mul];exact le_refl _
theorem aK{a b:RE}(h:0<a)(h':0≤b):0<a+b:=by
 have:=kO b h;rw[zero_add]at this;rcases fS h' with h2|h2
 ·exact cO h2 this
 ·rw[h2,add_zero];exact h
theorem fo(a:RE):0≤a*a:=by
 rcases lt_or_ge a 0 with h|h
 ·have h1:=jQ h;have h2:=mul_pos h1 h1
  have e: -a* -a=a*a:=by
   induction a using aoh
   exact snd fun n=>by show-_* -_=_*_;grind
  rw[e]at h2;exact le_of_lt h2
 ·exact bg h h
instance:NatCast RE:=⟨fun n=>of (n:Rat)⟩
instance:IntCast RE:=⟨fun n=>of (n:Rat)⟩
instance:SMul Nat RE:=⟨fun n a=>of (n:Rat)*a⟩
instance:SMul Int RE:=⟨fun n a=>of (n:Rat)*a⟩
def pw(a:RE):Nat→RE
 |0=>1
 |n+1=>pw a n*a
instance:Pow RE Nat:=⟨pw⟩
instance:Lean.Grind.CommRing RE where
 add_zero:=add_zero
 add_comm:=add_comm
 add_assoc:=add_assoc
 mul_assoc:=mul_assoc
 mul_one:=mul_one
 mul_comm:=mul_comm
 left_distrib:=left_distrib
 mul_zero:=mul_zero
 zero_mul:=zero_mul
 one_mul:=one_mul
 right_distrib a b c:=by rw[mul_comm,left_distrib,mul_comm c,mul_comm c]
 pow_zero _:=rfl
 pow_succ _ _:=rfl
 ofNat_succ n:=by
  show of ((OfNat.ofNat (n+1):Rat))=of ((OfNat.ofNat n:Rat))+of 1;rw[←of_add];congr 1;show(((n+1:Nat):Rat))=((n:Nat):Rat)+1;rw[Rat.natCast_add];rfl
 ofNat_eq_natCast _:=rfl
 nsmul_eq_natCast_mul _ _:=rfl
 neg_add_cancel:=wr
 sub_eq_add_neg _ _:=rfl
 neg_zsmul i a:=by
  show of ((-i:Int):Rat)*a= -(of (i:Rat)*a)
  rw[apM,of_neg];induction a using aoh
  exact snd fun n=>by show-_*_= -(_*_);grind
 zsmul_natCast_eq_nsmul _ _:=rfl
 intCast_ofNat _:=rfl
 intCast_neg i:=by show of _= -of _;rw[apM,of_neg]
theorem IK{a b c:RE}(h:a<b)(hc:0<c):c*a<c*b:=by
 have h1:=kO (-a) h;rw[lD]at h1;have h2:=kO (c*a) (mul_pos hc h1);rwa [show c*(b+ -a)+c*a=c*b by grind,zero_add]at h2
instance:Lean.Grind.OrderedRing RE where
 add_le_left_iff {a b} c:=⟨fun h h'=>h (by
   have:=kO (-c) h';rw[add_assoc,add_assoc,lD,add_zero,add_zero]at this;exact this),fun h h'=>h (kO c h')⟩
 zero_lt_one:=zero_lt_one
 mul_lt_mul_of_pos_left:=IK
 mul_lt_mul_of_pos_right {a b c} h hc:=by
  rw[mul_comm a,mul_comm b];exact IK h hc
theorem I6{c:Rat}(hc:(0:Rat)<c){a:RE}(h:0<a):0<of c*a:=mul_pos (ib hc) h
theorem iH{c:Rat}(hc:(0:Rat)<c){a:RE}(h:0≤a):0≤of c*a:=bg (le_of_lt (ib hc)) h
theorem far{s:RE}(h:0<s)(e:s=0):False:=by rw[e]at h;exact lt_irrefl _ h
theorem VR(x y:RE):((y*y-(x*x)))+((x-(0))*(x-(y)))+((y-(0))*(x-(y)))=0:=by grind
theorem sq_lt(x y:RE)(h1:0≤x)(h2:0≤y)(h3:x*x<y*y):x<y:=rX.1 fun hg=>far (aK (aK (aL h3) (bg (aF h1) (aF hg))) (bg (aF h2) (aF hg))) (VR x y)
theorem Uu(x y:RE):((x-(y))*(x-(y)))+((y*y-(x*x)))+2*((y-(0))*(x-(y)))=0:=by grind
theorem sO(x y:RE)(_h1:0≤x)(h2:0≤y)(h3:x*x≤y*y):x≤y:=fun hg=>far (aK (aK (mul_pos (aL hg) (aL hg)) (aF h3)) (iH (by decide+kernel:(0:Rat)<2) (bg (aF h2) (le_of_lt (aL hg))))) (Uu x y)
theorem J5(x y:RE):((x*x-(y*y)))+2*((x-(0))*(y-(x)))+((y-(x))*(y-(x)))=0:=by grind
theorem sq_mono(x y:RE)(h1:0≤x)(h2:x≤y):x*x≤y*y:=fun hg=>far (aK (aK (aL hg) (iH (by decide+kernel:(0:Rat)<2) (bg (aF h1) (aF h2)))) (bg (aF h2) (aF h2))) (J5 x y)
theorem aeL(x y:RE):((y-(x))*(y-(x)))+((x*x-(y*y)))+2*((x-(0))*(y-(x)))=0:=by grind
theorem Nf(x y:RE):((x-(y))*(x-(y)))+((y*y-(x*x)))+2*((y-(0))*(x-(y)))=0:=by grind
theorem acZ(x y:RE)(_h1:0≤x)(h2:0≤y)(h3:x*x=y*y):x≤y:=fun hg=>far (aK (aK (mul_pos (aL hg) (aL hg)) (aF (ow h3))) (iH (by decide+kernel:(0:Rat)<2) (bg (aF h2) (le_of_lt (aL hg))))) (Nf x y)
theorem SG(x y:RE):((y-(x))*(y-(x)))+((x*x-(y*y)))+2*((x-(0))*(y-(x)))=0:=by grind
theorem acG(x y:RE)(h1:0≤x)(_h2:0≤y)(h3:x*x=y*y):y≤x:=fun hg=>far (aK (aK (mul_pos (aL hg) (aL hg)) (aF (lT h3))) (iH (by decide+kernel:(0:Rat)<2) (bg (aF h1) (le_of_lt (aL hg))))) (SG x y)
theorem EM(x y:RE)(h1:0≤x)(h2:0≤y)(h3:x*x=y*y):x=y:=le_antisymm (acZ x y h1 h2 h3) (acG x y h1 h2 h3)
end RE
end
section
namespace RE
open RL
theorem afl(q:Rat):∃k:Nat,q<(k:Rat):=by
 refine⟨(q.floor+1).toNat,?_⟩;have h1:q<((q.floor+1:Int):Rat):=(Rat.floor_lt_iff).1 (by omega);have h2:((q.floor+1:Int):Rat)≤(((q.floor+1).toNat:Int):Rat):=apv.2 (by omega);have h3:(((q.floor+1).toNat:Int):Rat)=(((q.floor+1).toNat:Nat):Rat):=apq _;rw[h3]at h2;grind
theorem VE(g d:Rat)(hg:0≤g)(hd:0<d):∃s:Rat,0≤s∧s*s≤g∧g<(s+d)*(s+d):=by
 apply ano;intro hn
 have step:∀k:Nat,((k:Rat)*d)*((k:Rat)*d)≤g:=by
  intro k;induction k with
  |zero=>rw[show((0:Nat):Rat)=0 from rfl];grind
  |succ k ih=>
   apply ano;intro hc;refine hn ⟨(k:Rat)*d,?_,ih,?_⟩
   ·have:(0:Rat)≤(k:Rat):=by
     have:=Rat.intCast_nonneg.2 (show(0:Int)≤(k:Int) by omega);rwa [apq]at this
    exact anl this (by grind)
   ·have e:(((k+1:Nat)):Rat)=(k:Rat)+1:=by rw[Rat.natCast_add];rfl
    rw[e]at hc;grind
 obtain⟨k,hk⟩:=afl ((g+1)/d)
 have h1:g+1<(k:Rat)*d:=by
  have:=anA (show 0<(k:Rat)-(g+1)/d by grind) hd;have e:((k:Rat)-(g+1)/d)*d=(k:Rat)*d-(g+1):=by grind
  grind
 have h2:=step k;have h3:=anA (show 0<(k:Rat)*d-(g+1) by grind) (show 0<(k:Rat)*d by grind);have h4:=anA (show 0<(k:Rat)*d-(g+1) by grind) (show 0<g+1 by grind);have h5:=anl hg hg;clear hn step hk;generalize (k:Rat)*d=t at h1 h2 h3 h4;grind
def eps(n:Nat):Rat:=1/((n:Rat)+1)
theorem sw(n:Nat):(0:Rat)≤(n:Rat):=by
 have:=Rat.intCast_nonneg.2 (show(0:Int)≤(n:Int) by omega);rwa [apq]at this
theorem t7(n:Nat):0<eps n:=by
 have:=sw n;exact anA (by grind) (aqp.2 (by grind))
theorem zP(e:Rat)(he:0<e):∃N,∀n,N≤n→eps n<e:=by
 obtain⟨N,hN⟩:=afl (1/e);refine⟨N,fun n hn=>?_⟩;have h0:=sw n
 have h1:(N:Rat)≤(n:Rat):=by
  have:=apv.2 (show(N:Int)≤(n:Int) by omega);rwa [apq,apq]at this
 have h2:1/e<(n:Rat)+1:=by grind
 have h3:=anA (show 0<(n:Rat)+1-1/e by grind) (anA he (t7 n));unfold eps at h3 ⊢
 have e1:((n:Rat)+1-1/e)*(e*(1/((n:Rat)+1)))=e-1/((n:Rat)+1):=by
  have:(n:Rat)+1≠0:=by grind
  have:e≠0:=by grind
  grind
 grind
theorem FQ(n:Nat):eps n≤1:=by
 have h0:=sw n;have:=t7 n;unfold eps at*
 have h3:=anl h0 (show(0:Rat)≤1/((n:Rat)+1) by grind)
 have e1:(n:Rat)*(1/((n:Rat)+1))=1-1/((n:Rat)+1):=by
  have:(n:Rat)+1≠0:=by grind
  grind
 grind
theorem N7{a b:Rat}(ha:0≤a)(hb:0≤b)(h:a*a<b*b):a<b:=by
 apply ano;intro hc;have:=anl (show 0≤a-b by grind) (show 0≤a+b by grind);grind
theorem B3(x:RE)(hx:0≤x):∃y:RE,0≤y∧y*y=x:=by
 induction x using aoh
 rename_i f
 have hc:∀n,∃s:Rat,0≤s∧s*s≤(if 0≤f.f n then f.f n else 0)∧(if 0≤f.f n then f.f n else 0)<(s+eps n)*(s+eps n):=fun n=>
  VE _ _ (by split<;>grind) (t7 n)
 let g:Nat→Rat:=fun n=>if 0≤f.f n then f.f n else 0
 let s:Nat→Rat:=fun n=>Classical.choose (hc n)
 have hs:∀n,0≤s n∧s n*s n≤g n∧g n<(s n+eps n)*(s n+eps n):=fun n=>aoy (hc n)
 have hg:∀m n,g m-g n≤(if 0≤f.f m-f.f n then f.f m-f.f n else 0):=fun m n=>by
  show(if 0≤f.f m then f.f m else 0)-(if 0≤f.f n then f.f n else 0)≤_;split<;>split<;>split<;>grind
 obtain⟨B,hB,NB,hBn⟩:=f.bd
 have hgB:∀n,NB≤n→g n<B:=fun n hn=>by
  show(if 0≤f.f n then f.f n else 0)<B;have:=hBn n hn;split<;>grind
 have hsB:∀n,NB≤n→s n<B+1:=fun n hn=>by
  have h1:=hs n;have h2:=hgB n hn;refine N7 h1.1 (by grind) ?_;have:=anl (show 0≤B by grind) (show 0≤B by grind);grind
 have hcau:∀e:Rat,0<e→∃N,∀m n,N≤m→N≤n→s m-s n<e:=by
  intro e he;obtain⟨N1,h1⟩:=f.cau (e*e/4) (by have:=anA he he;grind);obtain⟨N2,h2⟩:=zP (e/2) (by grind);refine⟨max N1 N2,fun m n hm hn=>?_⟩;apply ano;intro hne;have a1:=hs m;have a2:=hs n;have a3:=h1 m n (by omega) (by omega);have a4:=h2 n (by omega);have a5:=hg m n;have a6:=t7 n;have p1:=anl (show 0≤s m-(s n+e) by grind) (show 0≤s m+(s n+e) by grind);have p2:=anl (show 0≤e/2-eps n by grind) (show 0≤(s n+e/2)+(s n+eps n) by grind);have p3:=anl (show 0≤e by grind) a2.1;have p4:=anA he he;split at a5<;>grind
 refine⟨Quotient.mk _ ⟨s,hcau⟩,?_,apu fun e he=>?_⟩
 ·rintro ⟨e,he,N,h⟩
  have h1:=h N (anb _);have h2:=(hs N).1;simp only[RL.const]at h1;grind
 ·-- s n*s n is near to f n
  have hneg:∃N,∀n,N≤n→ -(e/4)<f.f n:=by
   apply ano;intro hne;obtain⟨M,hM⟩:=f.cau (e/8) (by grind);refine hx ⟨e/16,by grind,M,fun n hn=>?_⟩;apply ano;intro hge;refine hne ⟨M,fun k hk=>?_⟩;have:=hM n k hn hk;simp only[RL.const]at hge;grind
  obtain⟨N1,h1⟩:=hneg;obtain⟨N2,h2⟩:=zP (e/(4*(B+2))) (anA he (aqp.2 (by grind)));refine⟨max (max N1 N2) NB,fun n hn=>?_⟩;have a1:=hs n;have a2:=h1 n (by omega);have a3:=h2 n (by omega);have a4:=hsB n (by omega);have a5:=t7 n;have a6:=FQ n
  have hgf:f.f n≤g n∧g n<f.f n+e/4:=by
   show f.f n≤(if 0≤f.f n then f.f n else 0)∧(if 0≤f.f n then f.f n else 0)<_;split<;>constructor<;>grind
  have p1:=anl (show 0≤eps n by grind) (show 0≤2*(B+2)-(2*s n+eps n) by grind)
  have p2:eps n*(2*(B+2))<e/2:=by
   have:=anA (show 0<e/(4*(B+2))-eps n by grind) (show 0<2*(B+2) by grind)
   have e1:(e/(4*(B+2))-eps n)*(2*(B+2))=e/2-eps n*(2*(B+2)):=by
    have:B+2≠0:=by grind
    grind
   grind
  simp only[RL.mul];constructor<;>grind
open Classical in
def vY(x:RE):RE:=if h:0≤x then Classical.choose (B3 x h)else 0
theorem jD(x:RE):0≤vY x:=by
 unfold vY;split
 ·rename_i h;exact(aoy (B3 x h)).1
 ·exact lt_irrefl 0
theorem sI{x:RE}(h:0≤x):vY x*vY x=x:=by
 unfold vY;rw[dif_pos h];exact(aoy (B3 x h)).2
theorem fx{a b:Rat}:of a≤of b↔a≤b:=by
 constructor
 ·intro h;apply ano;intro hc;exact h (ib (by grind))
 ·intro h h';rcases(by grind:a<b∨a=b)with h1|h1
  ·exact lt_irrefl _ (cO h' (ib h1))
  ·rw[h1]at h';exact lt_irrefl _ h'
theorem yv{a b:Rat}(h:of a=of b):a=b:=by
 have h1:=fx.1 (show of a≤of b by rw[h];exact lt_irrefl _);have h2:=fx.1 (show of b≤of a by rw[h];exact lt_irrefl _);grind
end RE
end
section
namespace RE
open RL
open Classical in
def sg(x:RE):Int:=if 0<x then 1 else if x<0 then-1 else 0
theorem dB{x:RE}(h:0<x):sg x=1:=anB h
theorem gE{x:RE}(h:x<0):sg x= -1:=by unfold sg;rw[anr (fun h'=>lt_irrefl _ (cO h h')),anB h]
theorem dg:sg 0=0:=by unfold sg;rw[anr (lt_irrefl _),anr (lt_irrefl _)]
theorem bi(x:RE):(0<x∧sg x=1)∨(x=0∧sg x=0)∨(x<0∧sg x= -1):=by
 rcases m9 0 x with h|h|h
 ·exact .inl ⟨h,dB h⟩
 ·exact .inr (.inl ⟨h.symm,by rw[←h,dg]⟩)
 ·exact .inr (.inr ⟨h,gE h⟩)
theorem pC{x:RE}:sg x=0↔x=0:=by
 rcases bi x with⟨h,e⟩|⟨h,e⟩|⟨h,e⟩<;>rw[e]
 ·exact⟨fun h'=>by omega,fun h'=>by rw[h']at h;exact absurd h (lt_irrefl _)⟩
 ·exact⟨fun _=>h,fun _=>rfl⟩
 ·exact⟨fun h'=>by omega,fun h'=>by rw[h']at h;exact absurd h (lt_irrefl _)⟩
theorem Fe{x:RE}:sg x=1↔0<x:=by
 rcases bi x with⟨h,e⟩|⟨h,e⟩|⟨h,e⟩<;>rw[e]
 ·exact⟨fun _=>h,fun _=>rfl⟩
 ·exact⟨fun h'=>by omega,fun h'=>by rw[h]at h';exact absurd h' (lt_irrefl _)⟩
 ·exact⟨fun h'=>by omega,fun h'=>absurd (cO h h') (lt_irrefl _)⟩
theorem acN{x:RE}:sg x= -1↔x<0:=by
 rcases bi x with⟨h,e⟩|⟨h,e⟩|⟨h,e⟩<;>rw[e]
 ·exact⟨fun h'=>by omega,fun h'=>absurd (cO h h') (lt_irrefl _)⟩
 ·exact⟨fun h'=>by omega,fun h'=>by rw[h]at h';exact absurd h' (lt_irrefl _)⟩
 ·exact⟨fun _=>h,fun _=>rfl⟩
theorem Lz{x:RE}:0≤sg x↔0≤x:=by
 rcases bi x with⟨h,e⟩|⟨h,e⟩|⟨h,e⟩<;>rw[e]
 ·exact⟨fun _=>le_of_lt h,fun _=>by omega⟩
 ·exact⟨fun _=>by rw[h];exact le_refl _,fun _=>by omega⟩
 ·exact⟨fun h'=>by omega,fun h'=>absurd h h'⟩
theorem ajf{x:RE}:sg x≤0↔x≤0:=by
 rcases bi x with⟨h,e⟩|⟨h,e⟩|⟨h,e⟩<;>rw[e]
 ·exact⟨fun h'=>by omega,fun h'=>absurd h h'⟩
 ·exact⟨fun _=>by rw[h];exact le_refl _,fun _=>by omega⟩
 ·exact⟨fun _=>le_of_lt h,fun _=>by omega⟩
theorem neg_mul(a b:RE): -a*b= -(a*b):=by grind
theorem mul_neg(a b:RE):a* -b= -(a*b):=by grind
theorem neg_neg(a:RE): - -a=a:=by grind
theorem sub_self(a:RE):a-a=0:=by grind
theorem HG(a b:RE): -(a-b)=b-a:=by grind
theorem Ht(x y:RE):(x+y)*(x-y)=x*x-y*y:=by grind
theorem M3(x y:RE):((x-(0))*(0-(y)))+((x*y-(0)))=0:=by grind
theorem Fw(x y:RE)(h1:0<x)(h2:y<0):x*y<0:=rX.1 fun hg=>far (aK (mul_pos (aL h1) (aL h2)) (aF hg)) (M3 x y)
theorem aet(x y:RE)(h1:x<0)(h2:y<0):x+y<0:=by grind
theorem Lx(x y:RE)(h1:0<x)(h2:y<0):0<x-y:=by grind
theorem P1(x y:RE)(h1:x<0)(h2:0<y):x-y<0:=by grind
theorem QT(x y:RE)(h1:0<x)(h2:0<y):0<x+y:=by grind
theorem C0: -(0:RE)=0:=by rw[←zero_add (-0),lD]
theorem pD(x:RE):sg (-x)= -sg x:=by
 rcases bi x with⟨h,e⟩|⟨h,e⟩|⟨h,e⟩<;>rw[e]
 ·exact gE (Fd h)
 ·rw[h,C0,dg];rfl
 ·exact dB (jQ h)
theorem dA(x y:RE):sg (x*y)=sg x*sg y:=by
 rcases bi x with⟨h,e⟩|⟨h,e⟩|⟨h,e⟩<;>rw[e]
 ·rcases bi y with⟨h',e'⟩|⟨h',e'⟩|⟨h',e'⟩<;>rw[e']
  ·exact dB (mul_pos h h')
  ·rw[h',mul_zero,dg];rfl
  ·exact gE (Fw _ _ h h')
 ·rw[h,zero_mul,dg];omega
 ·rcases bi y with⟨h',e'⟩|⟨h',e'⟩|⟨h',e'⟩<;>rw[e']
  ·rw[mul_comm];exact gE (Fw _ _ h' h)
  ·rw[h',mul_zero,dg];rfl
  ·have:=mul_pos (jQ h) (jQ h');rw[neg_mul,mul_neg,neg_neg]at this;exact dB this
theorem sg_of(q:Rat):sg (of q)=aD q 0:=by
 rcases(by grind:q<0∨q=0∨0<q)with h|h|h
 ·rw[dK h];exact gE (ib h)
 ·rw[h,d8];exact dg
 ·rw[dp h];exact dB (ib h)
def addS(s t d:Int):Int:=bif t==0||s==t then s else bif s==0 then t else s*d
theorem Gv(x y:RE):sg (x+y)=addS (sg x) (sg y) (sg (x*x-y*y)):=by
 rw[←Ht,dA];rcases bi x with⟨h,e⟩|⟨h,e⟩|⟨h,e⟩<;>rw[e]
 ·rcases bi y with⟨h',e'⟩|⟨h',e'⟩|⟨h',e'⟩<;>rw[e']
  ·exact dB (QT _ _ h h')
  ·rw[h',add_zero,e];rfl
  ·rw[dB (Lx _ _ h h')];show _=1*(_*1)
   omega
 ·rcases bi y with⟨h',e'⟩|⟨h',e'⟩|⟨h',e'⟩<;>rw[e',h,zero_add,e']<;>rfl
 ·rcases bi y with⟨h',e'⟩|⟨h',e'⟩|⟨h',e'⟩<;>rw[e']
  ·rw[gE (P1 _ _ h h')];show _= -1*(_* -1)
   omega
  ·rw[h',add_zero,e];rfl
  ·exact gE (aet _ _ h h')
theorem aaU(x:RE): -1≤sg x∧sg x≤1:=by rcases bi x with⟨_,e⟩|⟨_,e⟩|⟨_,e⟩<;>rw[e]<;>omega
end RE
end
def uG:Nat→Nat→Nat
 |0,_=>0
 |f+1,n=>bif decide (n=0)then 0 else bif decide ((2*uG f (n/4)+1)*(2*uG f (n/4)+1)≤n)then 2*uG f (n/4)+1 else 2*uG f (n/4)
def QZ(n:Nat):Nat:=uG (n.log2+1) n
theorem Jb:∀(f n:Nat),n<2^f→uG f n*uG f n≤n∧n<(uG f n+1)*(uG f n+1)
 |0,n,h=>by
  have:n=0:=by simpa using h
  subst this;exact⟨anb _,by decide⟩
 |f+1,n,h=>by
  rcases an0 n with h0|h0
  ·subst h0;show uG (f+1) 0*uG (f+1) 0≤0∧_;exact⟨anb _,by show 0<(0+1)*(0+1);decide⟩
  ·have h4:n/4<2^f:=by
    rw[Nat.pow_succ]at h;omega
   obtain⟨h1,h2⟩:=Jb f (n/4) h4;simp only[uG];rw[am7 (show ¬n=0 by omega)];generalize uG f (n/4)=s at h1 h2;have e1:(2*s)*(2*s)=4*(s*s):=by grind
   have e2:(2*s+1+1)*(2*s+1+1)=4*((s+1)*(s+1)):=by grind
   by_cases hc:(2*s+1)*(2*s+1)≤n
   ·rw[am5 hc];exact⟨hc,by show n<(2*s+1+1)*(2*s+1+1);rw[e2];omega⟩
   ·rw[am7 hc];exact⟨by show(2*s)*(2*s)≤n;rw[e1];omega,by show n<(2*s+1)*(2*s+1);omega⟩
theorem VX(n:Nat):QZ n*QZ n≤n∧n<(QZ n+1)*(QZ n+1):=Jb _ n Nat.lt_log2_self
def bL(z:Int):Int:=(QZ z.toNat:Int)
theorem gh{z:Int}(h:0≤z):0≤bL z∧bL z*bL z≤z∧z<(bL z+1)*(bL z+1):=by
 obtain⟨h1,h2⟩:=VX z.toNat
 grind [bL]
theorem sq_mono{a b:Int}(ha:0≤a)(h:a≤b):a*a≤b*b:=apf h h ha (by omega)
theorem sq_lt{a b:Int}(hb:0≤b)(h:a*a<b*b):a<b:=by
 apply ano;intro hc;have:=sq_mono hb (show b≤a by omega);omega
theorem Vs{z s:Int}(h0:0≤s)(h1:s*s≤z)(h2:z<(s+1)*(s+1)):bL z=s:=by
 obtain⟨g0,g1,g2⟩:=gh (show 0≤z by have:=sq_mono (a:=0) (by omega) h0;omega);have a1:=sq_lt (b:=s+1) (a:=bL z) (by omega) (by omega);have a2:=sq_lt (b:=bL z+1) (a:=s) (by omega) (by omega);omega
theorem Rv{a x s:Int}(hx:0<x)(_hs:0≤s)(h1:s*s≤a):s≤(x+a/x)/2:=by
 have hq:=anU a x;have hm:=anW a hx;apply ano;intro hc;have h2:a/x≤2*s-x-1:=by omega
 have h3:x*(a/x)≤x*(2*s-x-1):=ane h2 (by omega)
 have h4:0≤(s-x)*(s-x):=by
  rcases Int.le_total 0 (s-x)with h|h
  ·exact an5 h h
  ·exact Int.mul_nonneg_of_nonpos_of_nonpos h h
 grind
theorem wV{a x s:Int}(hx:0<x)(hs:s≤x)(_h1:s*s≤a)(h2:a<(s+1)*(s+1))(h3:0≤s)(h:x≤(x+a/x)/2):x=s:=by
 have hq:=anU a x;have hm:=aom a (show x≠0 by omega);have h4:x≤a/x:=by omega
 have h5:x*x≤x*(a/x):=ane h4 (by omega);have:=sq_lt (a:=x) (b:=s+1) (by omega) (by omega);omega
def fN(x:BI):BI:=bif x.1 then(false,[])else ai (bL (ag x))
def vS(x:BI):Int:=bif x.1 then 7 else 0
def wi:List En:=[⟨210,pe,kL⟩,⟨172,rI,mY⟩,⟨215,pQ,kM⟩,⟨269,xw,sD⟩,⟨341,Cl,xo⟩]
def abZ:NT:=[((351,25),{keep:=[1,2,5,6],hl:=6})]
def I2:Ctx:=CX (ens wi) abZ
def nU(x:Bool×List Int)(b4_0:Bool)(b4_1:List Int):Cfg:=⟨351,[.blk 0],[(1,.box 0 0),(2,.box 1 0),(5,.box 4 0),(6,.box 5 0)],[.box 29 [SB x.1,.d aqs x.2],.box 29 [SB false,.nil],.gone,.row 225 aqu ([1]),.box 29 [SB b4_0,.d aqs b4_1],.box 29 [SB ((ai (2:Int)).1),.d aqs ((ai (2:Int)).2)]],0,[]⟩
def IE(x:Bool×List Int)(k:KT):OLR:=match x.1 with|true=>some [RV.d y2Y (false,[]),RV.d aqt 7]|false=>(match(x.2.length:Int)==0 with|true=>some [RV.d y2Y (false,[]),RV.d aqt 0]|false=>(og (decide ((0:Int)≤i64.wrap (Int.tdiv (i64.wrap ((x.2.length:Int)+1)) 2)∧(i64.wrap (Int.tdiv (i64.wrap ((x.2.length:Int)+1)) 2))*((4:Nat):Int)≤140737488355328∧i64.wrap (Int.tdiv (i64.wrap ((x.2.length:Int)+1)) 2)≤140737488355328)) (og (decide (((List.replicate (i64.wrap (Int.tdiv (i64.wrap ((x.2.length:Int)+1)) 2)).toNat (0:Int)).length+([1]).length)*4≤140737488355328∧(List.replicate (i64.wrap (Int.tdiv (i64.wrap ((x.2.length:Int)+1)) 2)).toNat (0:Int)).length+([1]).length≤140737488355328)) (og (decide (aR ((List.replicate (i64.wrap (Int.tdiv (i64.wrap ((x.2.length:Int)+1)) 2)).toNat (0:Int))++([1])))) (og (decide (aH (2:Int))) (k 25 (nU x ((ai (cj false (val ((List.replicate (i64.wrap (Int.tdiv (i64.wrap ((x.2.length:Int)+1)) 2)).toNat (0:Int))++([1]))))).1) ((ai (cj false (val ((List.replicate (i64.wrap (Int.tdiv (i64.wrap ((x.2.length:Int)+1)) 2)).toNat (0:Int))++([1]))))).2))))))))
theorem Rc(x:Bool×List Int):RS I2 351 [.d y2Y x] (IE x):=rsX
def vc(x:Bool×List Int)(b4_0:Bool)(b4_1:List Int)(k:KT):OLR:=og (decide (fy x (b4_0,b4_1))) (ck (og (decide (okI (b4_0,b4_1)∧okI (ai (ag x/ag (b4_0,b4_1))))) (ck (og (decide (fy (ai (ag (b4_0,b4_1)+ag (ai (ag x/ag (b4_0,b4_1))))) (ai (2:Int)))) (dup (.b .l .l) (og (decide (okI (ai (ag (ai (ag (b4_0,b4_1)+ag (ai (ag x/ag (b4_0,b4_1)))))/ag (ai (2:Int))))∧okI (b4_0,b4_1))) (match decide ((cC (ag (ai (ag (ai (ag (b4_0,b4_1)+ag (ai (ag x/ag (b4_0,b4_1)))))/ag (ai (2:Int))))) (ag (b4_0,b4_1)))≥0)with|true=>some [RV.d y2Y (b4_0,b4_1),RV.d aqt 0]|false=>k 25 (nU x ((ai (ag (ai (ag (b4_0,b4_1)+ag (ai (ag x/ag (b4_0,b4_1)))))/ag (ai (2:Int)))).1) ((ai (ag (ai (ag (b4_0,b4_1)+ag (ai (ag x/ag (b4_0,b4_1)))))/ag (ai (2:Int)))).2)))))) (dup (.b (.b .l .l) (.b .l .l)) (og (decide (fy (ai (ag (b4_0,b4_1)+ag (ai (ag x/ag (b4_0,b4_1))))) (ai (2:Int)))) (og (decide (okI (ai (ag (ai (ag (b4_0,b4_1)+ag (ai (ag x/ag (b4_0,b4_1)))))/ag (ai (2:Int))))∧okI (b4_0,b4_1))) (match decide ((cC (ag (ai (ag (ai (ag (b4_0,b4_1)+ag (ai (ag x/ag (b4_0,b4_1)))))/ag (ai (2:Int))))) (ag (b4_0,b4_1)))≥0)with|true=>some [RV.d y2Y (b4_0,b4_1),RV.d aqt 0]|false=>k 25 (nU x ((ai (ag (ai (ag (b4_0,b4_1)+ag (ai (ag x/ag (b4_0,b4_1)))))/ag (ai (2:Int)))).1) ((ai (ag (ai (ag (b4_0,b4_1)+ag (ai (ag x/ag (b4_0,b4_1)))))/ag (ai (2:Int)))).2)))))))) (dup (.b .l .l) (ck (og (decide (okI (b4_0,b4_1)∧okI (ai (ag x/ag (b4_0,b4_1))))) (dup (.b .l .l) (og (decide (fy (ai (ag (b4_0,b4_1)+ag (ai (ag x/ag (b4_0,b4_1))))) (ai (2:Int)))) (og (decide (okI (ai (ag (ai (ag (b4_0,b4_1)+ag (ai (ag x/ag (b4_0,b4_1)))))/ag (ai (2:Int))))∧okI (b4_0,b4_1))) (match decide ((cC (ag (ai (ag (ai (ag (b4_0,b4_1)+ag (ai (ag x/ag (b4_0,b4_1)))))/ag (ai (2:Int))))) (ag (b4_0,b4_1)))≥0)with|true=>some [RV.d y2Y (b4_0,b4_1),RV.d aqt 0]|false=>k 25 (nU x ((ai (ag (ai (ag (b4_0,b4_1)+ag (ai (ag x/ag (b4_0,b4_1)))))/ag (ai (2:Int)))).1) ((ai (ag (ai (ag (b4_0,b4_1)+ag (ai (ag x/ag (b4_0,b4_1)))))/ag (ai (2:Int)))).2))))))) (og (decide (okI (b4_0,b4_1)∧okI (ai (ag x/ag (b4_0,b4_1))))) (og (decide (fy (ai (ag (b4_0,b4_1)+ag (ai (ag x/ag (b4_0,b4_1))))) (ai (2:Int)))) (og (decide (okI (ai (ag (ai (ag (b4_0,b4_1)+ag (ai (ag x/ag (b4_0,b4_1)))))/ag (ai (2:Int))))∧okI (b4_0,b4_1))) (match decide ((cC (ag (ai (ag (ai (ag (b4_0,b4_1)+ag (ai (ag x/ag (b4_0,b4_1)))))/ag (ai (2:Int))))) (ag (b4_0,b4_1)))≥0)with|true=>some [RV.d y2Y (b4_0,b4_1),RV.d aqt 0]|false=>k 25 (nU x ((ai (ag (ai (ag (b4_0,b4_1)+ag (ai (ag x/ag (b4_0,b4_1)))))/ag (ai (2:Int)))).1) ((ai (ag (ai (ag (b4_0,b4_1)+ag (ai (ag x/ag (b4_0,b4_1)))))/ag (ai (2:Int)))).2)))))))))
theorem zT(x:Bool×List Int)(b4_0:Bool)(b4_1:List Int):RN I2 25 (nU x b4_0 b4_1) (vc x b4_0 b4_1):=rnX
def ac7:NT:=[((354,16),{keep:=[1,4,5],hl:=1})]
def IJ:Ctx:=CX (ens wi) ac7
def wE(x:Bool×List Int)(s4 s5:Int):Cfg:=⟨354,[.blk 0,.seq 27],[(1,.box 0 0),(4,.d (.int .u64) s4),(5,SI s5)],[.box 29 [SB x.1,.d aqs x.2]],0,[]⟩
def JK(x:Bool×List Int)(k:KT):OLR:=og (decide (aH ((-9223372036854775808):Int))) (og (decide (okI x∧okI (ai ((-9223372036854775808):Int)))) (dup (.b .l .l) (match decide ((cC (ag x) (ag (ai ((-9223372036854775808):Int))))<0)with|true=>some [RV.d aqt 0,RV.d .bool false]|false=>(og (decide (aH (9223372036854775807:Int))) (og (decide (okI x∧okI (ai (9223372036854775807:Int)))) (match decide ((cC (ag x) (ag (ai (9223372036854775807:Int))))>0)with|true=>some [RV.d aqt 0,RV.d .bool false]|false=>k 16 (wE x 0 (i64.wrap ((x.2.length:Int)-1)))))))))
theorem Py(x:Bool×List Int):RS IJ 354 [.d y2Y x] (JK x):=rsX
def uF(x:Bool×List Int)(s4 s5:Int)(k:KT):OLR:=match decide (s5≥0)with|true=>(match aU x.2 s5 with|some x1=>k 16 (wE x (u64.wrap ((u64.wrap (s4*1000000000))+(u64.wrap x1))) (i64.wrap (s5-1)))|none=>none)|false=>(match x.1 with|true=>some [RV.d aqt (i64.wrap (u64.wrap (0-s4))),RV.d .bool true]|false=>some [RV.d aqt (i64.wrap s4),RV.d .bool true])
theorem zJ(x:Bool×List Int)(s4 s5:Int):RN IJ 16 (wE x s4 s5) (uF x s4 s5):=rnX
theorem SE(x:BI)(hx:okI x)(h0:0<ag x):∀(m:Nat) (X:Int),X.toNat=m→0<X→bL (ag x)≤X→szI X≤900000→I2.Runs 25 (nU x (ai X).1 (ai X).2) [.d y2Y (ai (bL (ag x))),.d aqt 0]:=by
 intro m;induction m using Nat.strongRecOn with
 |ind m ih=>
  intro X hm hX hs hsz;obtain⟨g0,g1,g2⟩:=gh (anO h0);have hq0:0≤ag x/X:=an9 (by omega) (by omega);have hq1:ag x/X≤ag x:=aoW _ (by omega);have oX:okI (ai X):=aV (by omega);have sq:szI (ag x/X)≤1000000:=ank (dH (by omega)) (iZ hx);have p1:fy x (ai X):=⟨hx,oX,by rw[dec_enc];exact hX⟩
  have ssum:szI (X+ag x/X)≤1000000:=by
   have b1:=nS hsz;have b2:=nS (iZ hx);have e:pw 1000000=pw 900000*pw 100000:=by rw[←fI]
   have p9:(1000:Int)≤pw 100000:=by
    have:pw 100000=pw 99999*1000000000:=cg 99999;have:=cB 99999;omega
   have p8:=cB 900000;have h8:pw 900000*1000≤pw 900000*pw 100000:=ane p9 (by omega);rcases anC X 2 with hX1|hX1
   ·-- X=1:then the number is less than 4
    have:X=1:=by omega
    subst this;have:bL (ag x)≤1:=hs
    have h4:ag x<4:=by
     have:=sq_mono (a:=bL (ag x)+1) (b:=2) (by omega) (by omega);omega
    refine fu ?_ ?_<;>(rw[e,Int.ediv_one];omega)
   ·have hq2:ag x/X≤ag x/2:=by
     have:=Int.ediv_mul_le (ag x) (show X≠0 by omega);have h2:ag x/X*2≤ag x/X*X:=ane hX1 hq0;omega
    refine fu ?_ ?_<;>(rw[e]at b2 ⊢;omega)
  have o1:okI (ai X)∧okI (ai (ag x/X)):=⟨oX,aV sq⟩
  have p2:fy (ai (X+ag x/X)) (ai 2):=⟨aV ssum,by decide,by rw[dec_enc];decide⟩
  have hn:=Rv hX g0 g1;have o2:okI (ai ((X+ag x/X)/2))∧okI (ai X):=⟨aV (ank (dH (by omega)) ssum),oX⟩
  by_cases hc:X≤(X+ag x/X)/2
  ·have hXs:=wV hX hs g1 g2 g0 hc;refine zT _ _ _ ⟨0,?_⟩;unfold vc;simp only[c9,fa];have e:∀z:Int,((ai z).1,(ai z).2)=ai z:=fun z=>rfl;simp only[e,dec_enc,am5 p1,am5 o1,am5 p2,am5 o2]
   have hg:decide (cC ((X+ag x/X)/2) X≥0)=true:=by
    rcases Int.lt_or_eq_of_le hc with h|h
    ·rw[cU h];rfl
    ·rw[←h,d7];rfl
   rw[hg,hXs]
  ·obtain⟨n,hN⟩:=ih ((X+ag x/X)/2).toNat (by omega) ((X+ag x/X)/2) rfl (by
    rcases anC 0 (bL (ag x))with h|h
    ·omega
    ·exfalso;have:bL (ag x)=0:=by omega
     rw[this]at g2;omega) hn (ank (dH (by omega)) hsz)
   refine zT _ _ _ ⟨n,?_⟩;unfold vc;simp only[c9,fa];have e:∀z:Int,((ai z).1,(ai z).2)=ai z:=fun z=>rfl;simp only[e,dec_enc,am5 p1,am5 o1,am5 p2,am5 o2];rw[da (by omega)];exact hN
def Xe:Cn 351 [y2Y]:=cn fun(x:Bool×List Int)=>lf (okI x) [.d y2Y (fN x),.d aqt (vS x)] fun h=>by
 refine cY wi (show I2.Res _ _ _ from ?_);obtain⟨x0,x1,x2⟩:=cK h;have hl:=h.2.2;cases hn:x.1
 ·by_cases hz:x.2=[]
  ·refine Rc _ ⟨0,?_⟩;unfold IE fN vS;have:ag x=0:=by unfold ag;rw[hn,hz];rfl
   rw[hn,hz,this];rfl
  ·have hp:0<val x.2:=eW h.1 hz;have hd:ag x=val x.2:=by unfold ag;rw[hn];rfl
   have hlen:=anE.2 hz
   have hk:i64.wrap (Int.tdiv (i64.wrap ((x.2.length:Int)+1)) 2)=(((x.2.length+1)/2:Nat):Int):=by
    rw[bW (by omega),hU (by omega),aT (by omega) (by omega)];omega
   have hv:val (List.replicate ((x.2.length+1)/2) 0++[1])=pw ((x.2.length+1)/2):=by
    rw[dG,gN,apC];simp[val]
   have hL:aR (List.replicate ((x.2.length+1)/2) 0++[1]):=by
    refine⟨fun y hy=>?_,by simp;omega⟩;rcases aoe.1 hy with hy|hy
    ·have:=List.eq_of_mem_replicate hy;omega
    ·simp at hy;omega
   have hpos:=cB ((x.2.length+1)/2)
   obtain⟨n,hN⟩:=SE x h (by omega) _ (pw ((x.2.length+1)/2)) rfl hpos (by
     obtain⟨g0,g1,g2⟩:=gh (show 0≤ag x by omega);have hlt:=b9 h.1.1;have hm:=dm (show x.2.length≤(x.2.length+1)/2+(x.2.length+1)/2 by omega);rw[fI]at hm;have:=sq_lt (a:=bL (ag x)) (b:=pw ((x.2.length+1)/2)) (by omega) (by omega)
     omega) (fu (k:=900000) (by have:=cB 900000;omega) (by
      have:=dm (show(x.2.length+1)/2+1≤900000 by omega);rw[cg]at this;omega))
   refine Rc _ ⟨n,?_⟩;unfold IE fN vS;simp only[hk];rw[hn,show((x.2.length:Int)==0)=false by simp;omega];simp only[ao2];rw[am5 (show(0:Int)≤(((x.2.length+1)/2:Nat):Int)∧(((x.2.length+1)/2:Nat):Int)*((4:Nat):Int)≤140737488355328∧(((x.2.length+1)/2:Nat):Int)≤140737488355328 by omega)];rw[am5 (show((List.replicate ((x.2.length+1)/2) (0:Int)).length+([1]:List Nat).length)*4≤140737488355328∧(List.replicate ((x.2.length+1)/2) (0:Int)).length+([1]:List Nat).length≤140737488355328 by simp;omega)];rw[am5 hL,am5 (show aH 2 by decide),hv];exact hN
 ·refine Rc _ ⟨0,?_⟩;unfold IE fN vS;rw[hn];rfl
theorem C5(x:BI)(hx:okI x)(hv:val x.2≤9223372036854775808):∀(i:Nat),i≤x.2.length→IJ.Runs 16 (wE x (val (x.2.drop i)) ((i:Int)-1)) [.d aqt (i64.wrap (bif x.1 then u64.wrap (0-val x.2)else val x.2)),.d .bool true]
 |0,_=>by
  refine zJ _ _ _ ⟨0,?_⟩;unfold uF;rw[am7 (by omega),aoK];cases x.1<;>rfl
 |i+1,hi=>by
  obtain⟨n,ih⟩:=C5 x hx hv i (by omega);have h0:=hx.2.2;have hlim:=hx.1.1;have hd:x.2.drop i=x.2[i]::x.2.drop (i+1):=fA (by omega)
  have hle:∀j,val (x.2.drop j)≤9223372036854775808∧0≤val (x.2.drop j):=fun j=>by
   have l1:Lim (x.2.drop j):=fun y hy=>hlim y (apg hy);have l2:Lim (x.2.take j):=fun y hy=>hlim y (aoY hy);have:=dG (x.2.take j) (x.2.drop j);rw[aot]at this;have n1:=aQ l1;have n2:=aQ l2;have p:=cB (x.2.take j).length
   have:val (x.2.drop j)≤pw (x.2.take j).length*val (x.2.drop j):=by
    have:=ani (show 1≤pw (x.2.take j).length by omega) n1;omega
   omega
  have hb:=hlim x.2[i] (anD _);have hv1:=hle i;have hv2:=hle (i+1);rw[hd]at hv1 ih;simp only[val]at hv1 ih;refine zJ _ _ _ ⟨n,?_⟩;unfold uF;rw[show(((i+1:Nat):Int)-1)=(i:Int) by omega,am5 (by omega),av,am6 (by omega)];dsimp only;rw[bH (x:=val (x.2.drop (i+1))*1000000000) (by omega) (by omega),bH (x:=x.2[i]) (by omega) (by omega),bH (by omega) (by omega),aT (by omega) (by omega)];rw[show val (x.2.drop (i+1))*1000000000+x.2[i]=x.2[i]+1000000000*val (x.2.drop (i+1)) by omega];exact ih
def aaD:Cn 354 [y2Y]:=cn fun(x:Bool×List Int)=>lf (okI x) [.d aqt (bif decide (aH (ag x))then ag x else 0),.d .bool (decide (aH (ag x)))] fun h=>by
 refine cY wi (show IJ.Res _ _ _ from ?_);obtain⟨x0,x1,x2⟩:=cK h;have o1:okI x∧okI (ai (-9223372036854775808)):=⟨h,by decide⟩
 have o2:okI x∧okI (ai 9223372036854775807):=⟨h,by decide⟩
 have hl:=h.2.2;by_cases h1:ag x< -9223372036854775808
 ·refine Py _ ⟨0,?_⟩;unfold JK;simp only[fa,dec_enc,am5 o1];rw[am5 (show aH (-9223372036854775808) by decide),da h1,am7 (show ¬aH (ag x) from fun g=>by have:=g.1;omega)];rfl
 ·have c1:decide (cC (ag x) (-9223372036854775808)<0)=false:=by
   rcases Int.lt_or_eq_of_le (show-9223372036854775808≤ag x by omega)with g|g
   ·rw[cU g];rfl
   ·rw[←g,d7];rfl
  by_cases h2:9223372036854775807<ag x
  ·refine Py _ ⟨0,?_⟩;unfold JK;simp only[fa,dec_enc,am5 o1,am5 o2];rw[am5 (show aH (-9223372036854775808) by decide),c1,am5 (show aH 9223372036854775807 by decide),cU h2,am7 (show ¬aH (ag x) from fun g=>by have:=g.2;omega)];rfl
  ·have c2:decide (cC (ag x) 9223372036854775807>0)=false:=by
    rcases Int.lt_or_eq_of_le (show ag x≤9223372036854775807 by omega)with g|g
    ·rw[da g];rfl
    ·rw[g,d7];rfl
   have hp:aH (ag x):=⟨by omega,by omega⟩
   have hvv:val x.2≤9223372036854775808:=by
    have g1:=hp.1;have g2:=hp.2;have hd:ag x=bif x.1 then-val x.2 else val x.2:=rfl;cases hb:x.1<;>rw[hb]at hd<;>simp only[cond_true,cond_false]at hd<;>omega
   obtain⟨n,hN⟩:=C5 x h hvv x.2.length (anb _);refine Py _ ⟨n,?_⟩;unfold JK;simp only[fa,dec_enc,am5 o1,am5 o2];rw[am5 (show aH (-9223372036854775808) by decide),c1,am5 (show aH 9223372036854775807 by decide),c2,am5 hp];rw[aps]at hN;rw[aT (by omega) (by omega)];refine hN.trans ?_
   have hr:i64.wrap (bif x.1 then u64.wrap (0-val x.2)else val x.2)=ag x:=by
    have hd:ag x=bif x.1 then-val x.2 else val x.2:=rfl;have:=hp.1;have:=hp.2;cases hb:x.1<;>rw[hb]at hd<;>simp only[cond_true,cond_false]at hd ⊢
    ·rw[aT (by omega) (by omega)];omega
    ·have:=x1 hb;rw[anX,IntKind.wrap_i64];omega
   rw[hr];rfl
def uc(a:List Int):Prop:=aR a∧val a<18446744073709551616
instance (a:List Int):Decidable (uc a):=by unfold uc;infer_instance
def rB(a b:List Int):Prop:=(can a∧a.length≤1000000000)∧(can b∧b.length≤1000000000)
instance (a b:List Int):Decidable (rB a b):=by unfold rB;infer_instance
def jI(l:List Int):Prop:=Lim l∧l.length≤10000000
instance (l:List Int):Decidable (jI l):=by unfold jI;infer_instance
theorem cH{n:Nat}(h:(ah n).length≤1000000000):aR (ah n):=⟨ce n,h⟩
theorem bZ{v:Int}(h:0≤v):val (ah v.toNat)=v:=by grind [bj]
theorem cG{v:Int}{k:Nat}(h0:0≤v)(h:v<pw k):(ah v.toNat).length≤k:=dl (by omega)
def nw:List En:=[]
def Tj:NT:=[((263,4),{keep:=[0],pure_:=[(0,.int .u32)],hl:=0})]
def BH:Ctx:=CX (ens nw) Tj
def wx(s0:List Int):Cfg:=⟨263,[.blk 0,.seq 13],[(0,.d aqs s0)],[],0,[]⟩
def adx(a:List Int)(k:KT):OLR:=k 4 (wx a)
theorem adk(a:List Int):RS BH 263 [.d aqs a] (adx a):=rsX
def uR(s0:List Int)(k:KT):OLR:=match decide ((s0.length:Int)>0)with|true=>(match aU s0 (i64.wrap ((s0.length:Int)-1))with|some x1=>(match x1==0 with|true=>(og (decide ((0:Int)≤0∧0≤i64.wrap ((s0.length:Int)-1)∧i64.wrap ((s0.length:Int)-1)≤(s0.length:Int))) (k 4 (wx ((s0.take (i64.wrap ((s0.length:Int)-1)).toNat).drop (0:Int).toNat))))|false=>some [RV.d aqs s0])|none=>none)|false=>some [RV.d aqs s0]
theorem u7(s0:List Int):RN BH 4 (wx s0) (uR s0):=rnX
def Uy:NT:=[((265,8),{keep:=[0,3,4],hl:=0})]
def AZ:Ctx:=CX (ens nw) Uy
def wy(a:List Int)(s3 s4:Int):Cfg:=⟨265,[.blk 0,.seq 19],[(0,.d aqs a),(3,.d (.int .u64) s3),(4,SI s4)],[],0,[]⟩
def Sb(a:List Int)(k:KT):OLR:=k 8 (wy a 0 (i64.wrap ((a.length:Int)-1)))
theorem abq(a:List Int):RS AZ 265 [.d aqs a] (Sb a):=rsX
def vd(a:List Int)(s3 s4:Int)(k:KT):OLR:=match decide (s4≥0)with|true=>(match aU a s4 with|some x1=>k 8 (wy a (u64.wrap ((u64.wrap (s3*1000000000))+(u64.wrap x1))) (i64.wrap (s4-1)))|none=>none)|false=>some [RV.d (.int .u64) s3]
theorem zg(a:List Int)(s3 s4:Int):RN AZ 8 (wy a s3 s4) (vd a s3 s4):=rnX
def TJ:NT:=[((182,6),{keep:=[0,3],own:=[(3,225,.int .u32)],hl:=1})]
def AG:Ctx:=CX (ens nw) TJ
def wc(s0:Int)(r0:List Int):Cfg:=⟨182,[.blk 0,.seq 17],[(0,.d (.int .u64) s0),(3,.own 0)],[.row 225 aqu r0],0,[]⟩
def aci(u:Int)(k:KT):OLR:=k 6 (wc u ([]))
theorem aeE(u:Int):RS AG 182 [.d (.int .u64) u] (aci u):=rsX
def vo(s0:Int)(r0:List Int)(k:KT):OLR:=match decide (s0>0)with|true=>(og (decide ((r0.length+([u32.wrap (Int.tmod s0 1000000000)]).length)*4≤140737488355328∧r0.length+([u32.wrap (Int.tmod s0 1000000000)]).length≤140737488355328)) (k 6 (wc (u64.wrap (Int.tdiv s0 1000000000)) (r0++([u32.wrap (Int.tmod s0 1000000000)])))))|false=>some [RV.new 225 aqu r0]
theorem An(s0:Int)(r0:List Int):RN AG 6 (wc s0 r0) (vo s0 r0):=rnX
def VJ:NT:=[((168,22),{keep:=[0,1,5],hl:=0})]
def Bt:Ctx:=CX (ens nw) VJ
def sL(a b:List Int)(s5:Int):Cfg:=⟨168,[.blk 0,.seq 47],[(0,.d aqs a),(1,.d aqs b),(5,SI s5)],[],0,[]⟩
def Fq(a b:List Int)(k:KT):OLR:=match(a.length:Int) !=(b.length:Int)with|true=>(match decide ((a.length:Int)<(b.length:Int))with|true=>some [RV.d aqt (-1)]|false=>some [RV.d aqt 1])|false=>k 22 (sL a b (i64.wrap ((a.length:Int)-1)))
theorem SX(a b:List Int):RS Bt 168 [.d aqs a,.d aqs b] (Fq a b):=rsX
def lc(a b:List Int)(s5:Int)(k:KT):OLR:=match decide (s5≥0)with|true=>(match aU a s5 with|some x1=>(match aU b s5 with|some x2=>(match decide (x1<x2)with|true=>some [RV.d aqt (-1)]|false=>(match aU a s5 with|some x3=>(match aU b s5 with|some x4=>(match decide (x3>x4)with|true=>some [RV.d aqt 1]|false=>k 22 (sL a b (i64.wrap (s5-1))))|none=>none)|none=>none))|none=>none)|none=>none)|false=>some [RV.d aqt 0]
theorem ob(a b:List Int)(s5:Int):RN Bt 22 (sL a b s5) (lc a b s5):=rnX
theorem KN(l:List Int)(hl:Lim l)(hs:l.length≤1000000000):∀(n:Nat),n≤l.length→(∀j (hj:j<l.length),n≤j→l[j]=0)→BH.Runs 4 (wx (l.take n)) [.d aqs (ah (val l).toNat)]:=by
 intro n;induction n with
 |zero=>
  intro _ h;refine u7 _ ⟨0,?_⟩;rw[←m5 hl (apz _) h (.inl rfl)];rfl
 |succ n ih=>
  intro hn h;have hlen:(l.take (n+1)).length=n+1:=by rw[anR,anT hn]
  have hget:(l.take (n+1))[n]?=some l[n]:=by rw[List.getElem?_take_of_lt (by omega),am6 (by omega)]
  by_cases hz:l[n]=0
  ·obtain⟨q,hq⟩:=ih (by omega) fun j hj hk=>by
    rcases Nat.eq_or_lt_of_le hk with e|e
    ·subst e;exact hz
    ·exact h j hj e
   refine u7 _ ⟨q,?_⟩;unfold uR;rw[hlen,am5 (by omega),KD (by omega) (by omega),av,show n+1-1=n from rfl,hget];dsimp only;rw[hz,am5 (show(0:Int)≤0∧(0:Int)≤(n:Int)∧(n:Int)≤((n+1:Nat):Int) by omega),aE,aqg,anT (by omega)];exact hq
  ·refine u7 _ ⟨0,?_⟩;unfold uR;rw[hlen,am5 (by omega),KD (by omega) (by omega),av,show n+1-1=n from rfl,hget];dsimp only;rw[show(l[n]==0)=false by simpa using hz,←m5 hl hn h (.inr ⟨Nat.lt_of_succ_le hn,hz⟩)]
def wP:Cn 263 [aqs]:=cn fun(a:List Int)=>lf (aR a) [.d aqs (ah (val a).toNat)] fun h=>by
 refine cY nw (show BH.Res _ _ _ from ?_);obtain⟨q,hq⟩:=KN a h.1 h.2 a.length (anb _) (fun j hj hk=>by omega);rw[aon]at hq;exact adk _ ⟨q,hq⟩
theorem Kk(u:Nat):∀(r:List Int),(u:Int)<18446744073709551616→r.length+3≤1000+3-(ah u).length→AG.Runs 6 (wc (u:Int) r) [.new 225 aqu (r++ah u)]:=by
 induction u using qP with
 |h0=>
  intro r _ _;refine An _ _ ⟨0,?_⟩;unfold vo;rw[fK,anM];rfl
 |h1 n hn ih=>
  intro r hu hr;rw[i7 hn]at hr;simp only[anp]at hr;obtain⟨q,hq⟩:=ih (r++[((n%1000000000:Nat):Int)]) (by omega) (by rw[anJ];simp only[anu];omega);refine An _ _ ⟨q,?_⟩;unfold vo;rw[am5 (by omega),jy (by omega),hU (by omega),bH (x:=(n:Int)/1000000000) (by omega) (by omega),c8 (x:=(n:Int)%1000000000) (by omega) (by omega)];simp only[anu];rw[aeZ (by omega) (by omega),i7 hn];rw[show((n:Int)%1000000000)=((n%1000000000:Nat):Int) by omega,show((n:Int)/1000000000)=((n/1000000000:Nat):Int) by omega];rw[anx]at hq;exact hq
def By:Cn 182 [(.int .u64)]:=cn fun(u:Int)=>lf (iI u) [.new 225 aqu (ah u.toNat)] fun h=>by
 refine cY nw (show AG.Res _ _ _ from ?_);have h0:=h.1;have h1:=h.2;have hl:=dl (n:=u.toNat) (k:=3) (apx (show(u.toNat:Int)<18446744073709551616 by omega) (by decide));obtain⟨q,hq⟩:=Kk u.toNat [] (by omega) (by simp;omega)
 rw[show((u.toNat:Nat):Int)=u by omega]at hq;exact aeE _ ⟨q,hq⟩
theorem zW(a:List Int)(h:uc a):∀(i:Nat),i≤a.length→AZ.Runs 8 (wy a (val (a.drop i)) ((i:Int)-1)) [.d (.int .u64) (val a)]
 |0,_=>by
  refine zg _ _ _ ⟨0,?_⟩;unfold vd;rw[am7 (by omega),aoK]
 |i+1,hi=>by
  obtain⟨n,ih⟩:=zW a h i (by omega);have h0:=h.1.2;have hlim:=h.1.1;have hlt:=h.2;have hd:a.drop i=a[i]::a.drop (i+1):=fA (by omega)
  have hle:∀j,val (a.drop j)≤val a∧0≤val (a.drop j):=fun j=>by
   have l1:Lim (a.drop j):=fun y hy=>hlim y (apg hy);have l2:Lim (a.take j):=fun y hy=>hlim y (aoY hy);have:=dG (a.take j) (a.drop j);rw[aot]at this;have n1:=aQ l1;have n2:=aQ l2;have p:=cB (a.take j).length
   have:val (a.drop j)≤pw (a.take j).length*val (a.drop j):=by
    have:=ani (show 1≤pw (a.take j).length by omega) n1;omega
   omega
  have hb:=hlim a[i] (anD _);have hv1:=hle i;have hv2:=hle (i+1);rw[hd]at hv1 ih;simp only[val]at hv1 ih;refine zg _ _ _ ⟨n,?_⟩;unfold vd;rw[show(((i+1:Nat):Int)-1)=(i:Int) by omega,am5 (by omega),av,am6 (by omega)];dsimp only;rw[bH (x:=val (a.drop (i+1))*1000000000) (by omega) (by omega),bH (x:=a[i]) (by omega) (by omega),bH (by omega) (by omega),aT (by omega) (by omega)];rw[show val (a.drop (i+1))*1000000000+a[i]=a[i]+1000000000*val (a.drop (i+1)) by omega];exact ih
def Cf:Cn 265 [aqs]:=cn fun(a:List Int)=>lf (uc a) [.d (.int .u64) (val a)] fun h=>by
 refine cY nw (show AZ.Res _ _ _ from ?_);obtain⟨n,hn⟩:=zW a h a.length (anb _);have h0:=h.1.2;refine abq _ ⟨n,?_⟩;unfold Sb;rw[aps]at hn;rw[aT (by omega) (by omega)];exact hn
theorem J7(a b:List Int)(la:Lim a)(lb:Lim b)(hl:a.length=b.length)(hs:a.length≤1000000000):∀(n:Nat),n≤a.length→a.drop n=b.drop n→
  Bt.Runs 22 (sL a b ((n:Int)-1)) [.d aqt (cC (val a) (val b))]:=by
 intro n;induction n with
 |zero=>
  intro _ h;refine ob _ _ _ ⟨0,?_⟩;have e:val a=val b:=by simp only[aoK]at h;rw[h]
  unfold lc;rw[am7 (by omega),e,d7]
 |succ n ih=>
  intro hn h;have h1:n<a.length:=by omega
  have h2:n<b.length:=by omega
  rcases Int.lt_trichotomy a[n] b[n]with hc|hc|hc
  ·refine ob _ _ _ ⟨0,?_⟩;have:=AO la lb h1 h2 h hc;unfold lc;rw[show((n+1:Nat):Int)-1=(n:Int) by omega,am5 (by omega),av,av,am6 h1,am6 h2];dsimp only;rw[am5 hc,da (by omega)]
  ·obtain⟨q,hq⟩:=ih (by omega) (by rw[ant h1,ant h2,hc,h]);refine ob _ _ _ ⟨q,?_⟩;unfold lc;rw[show((n+1:Nat):Int)-1=(n:Int) by omega,am5 (by omega),av,av,am6 h1,am6 h2];dsimp only;rw[am7 (by omega),am7 (by omega),aT (x:=(n:Int)-1) (by omega) (by omega)];exact hq
  ·refine ob _ _ _ ⟨0,?_⟩;have:=AO lb la h2 h1 h.symm hc;unfold lc;rw[show((n+1:Nat):Int)-1=(n:Int) by omega,am5 (by omega),av,av,am6 h1,am6 h2];dsimp only;rw[am7 (by omega),am5 hc,cU (by omega)]
theorem HI{a b:List Int}(ha:can a)(hb:can b)(h:a.length<b.length):val a<val b:=by
 have ea:=oW ha;have eb:=oW hb;have:=wb (a:=(val a).toNat) (b:=(val b).toNat) (by rw[←ea,←eb];exact h);omega
def xp:Cn 168 [aqs,aqs]:=cn fun(a b:List Int)=>lf (rB a b) [.d aqt (cC (val a) (val b))] fun h=>by
 refine cY nw (show Bt.Res _ _ _ from ?_);obtain⟨⟨ha,sa⟩,hb,sb⟩:=h;by_cases hl:a.length=b.length
 ·obtain⟨q,hq⟩:=J7 a b ha.1 hb.1 hl sa _ (anb _) (by rw[aps,hl,aps]);refine SX _ _ ⟨q,?_⟩;unfold Fq;rw[show((a.length:Int) !=(b.length:Int))=false by simp[hl],aT (x:=(a.length:Int)-1) (by omega) (by omega)];exact hq
 ·refine SX _ _ ⟨0,?_⟩;unfold Fq;rw[show((a.length:Int) !=(b.length:Int))=true by simp;omega];dsimp only;rcases Nat.lt_or_gt_of_ne hl with h1|h1
  ·have:=HI ha hb h1;rw[am5 (by omega),da (by omega)]
  ·have:=HI hb ha h1;rw[am7 (by omega),cU (by omega)]
def sC:List En:=enK wP::enK By::enF Cf::enF xp::nw
def P0(neg:Bool)(l:List Int)(_k:KT):OLR:=og (decide (aR l)) (match neg with|true=>some [RV.d y2Y (decide (((ah (val l).toNat).length:Int)>0),ah (val l).toNat)]|false=>some [RV.d y2Y (false,ah (val l).toNat)])
def Wi:NT:=[((167,16),{keep:=[0,1,5,6,7],hl:=1})]
def xF:Ctx:=CX (ens sC) Wi
def kS(s0 s1 r0:List Int)(s6 s7:Int):Cfg:=⟨167,[.blk 0,.seq 37],[(0,.d aqs s0),(1,.d aqs s1),(5,.own 0),(6,.d aqu s6),(7,SI s7)],[.row 225 aqu r0],0,[]⟩
def GZ(a b:List Int)(k:KT):OLR:=match decide ((a.length:Int)<(b.length:Int))with|true=>(og (decide ((0:Int)≤i64.wrap ((b.length:Int)+1)∧(i64.wrap ((b.length:Int)+1))*((4:Nat):Int)≤140737488355328∧i64.wrap ((b.length:Int)+1)≤140737488355328)) (k 16 (kS b a (List.replicate (i64.wrap ((b.length:Int)+1)).toNat (0:Int)) 0 0)))|false=>(og (decide ((0:Int)≤i64.wrap ((a.length:Int)+1)∧(i64.wrap ((a.length:Int)+1))*((4:Nat):Int)≤140737488355328∧i64.wrap ((a.length:Int)+1)≤140737488355328)) (k 16 (kS a b (List.replicate (i64.wrap ((a.length:Int)+1)).toNat (0:Int)) 0 0)))
theorem Rm(a b:List Int):RS xF 167 [.d aqs a,.d aqs b] (GZ a b):=rsX
def nX(s0 s1 r0:List Int)(s6 s7:Int)(k:KT):OLR:=match decide (s7<(s0.length:Int))with|true=>(match aU s0 s7 with|some x1=>(match decide (s7<(s1.length:Int))with|true=>(match aU s1 s7 with|some x2=>(match aU r0 s7 with|some _=>(match true,r0[(s7).toNat]? with|true,some _=>k 16 (kS s0 s1 (r0.set ((s7).toNat) (Int.tmod (u32.wrap ((u32.wrap (s6+x1))+x2)) 1000000000)) (u32.wrap (Int.tdiv (u32.wrap ((u32.wrap (s6+x1))+x2)) 1000000000)) (i64.wrap (s7+1)))|_,_=>none)|none=>none)|none=>none)|false=>(match aU r0 s7 with|some _=>(match true,r0[(s7).toNat]? with|true,some _x2=>k 16 (kS s0 s1 (r0.set ((s7).toNat) (Int.tmod (u32.wrap (s6+x1)) 1000000000)) (u32.wrap (Int.tdiv (u32.wrap (s6+x1)) 1000000000)) (i64.wrap (s7+1)))|_,_=>none)|none=>none))|none=>none)|false=>(match aU r0 (s0.length:Int)with|some _=>(match true,r0[((s0.length:Int)).toNat]? with|true,some _x1=>(og (decide (aR (r0.set (((s0.length:Int)).toNat) s6))) (some [RV.d aqs (ah (val (r0.set (((s0.length:Int)).toNat) s6)).toNat)]))|_,_=>none)|none=>none)
theorem se(s0 s1 r0:List Int)(s6 s7:Int):RN xF 16 (kS s0 s1 r0 s6 s7) (nX s0 s1 r0 s6 s7):=rnX
def Tu:NT:=[((169,10),{keep:=[0,1,5,6,7],hl:=1})]
def yO:Ctx:=CX (ens sC) Tu
def jN(a b:List Int)(s7:Int)(r0:List Int)(s6:Int):Cfg:=⟨169,[.blk 0,.seq 37],[(0,.d aqs a),(1,.d aqs b),(5,.own 0),(6,.d aqu s6),(7,SI s7)],[.row 225 aqu r0],0,[]⟩
def SK(a b:List Int)(k:KT):OLR:=og (decide ((0:Int)≤(a.length:Int)∧(a.length:Int)*((4:Nat):Int)≤140737488355328∧(a.length:Int)≤140737488355328)) (k 10 (jN a b 0 (List.replicate ((a.length:Int)).toNat (0:Int)) 0))
theorem acn(a b:List Int):RS yO 169 [.d aqs a,.d aqs b] (SK a b):=rsX
def iU(a b:List Int)(s7:Int)(r0:List Int)(s6:Int)(k:KT):OLR:=match decide (s7<(a.length:Int))with|true=>(match aU a s7 with|some x1=>(match decide (s7<(b.length:Int))with|true=>(match aU b s7 with|some x2=>(match decide ((u32.wrap ((u32.wrap ((u32.wrap (x1+1000000000))-s6))-x2))≥1000000000)with|true=>(match aU r0 s7 with|some _=>(match true,r0[(s7).toNat]? with|true,some _x3=>k 10 (jN a b (i64.wrap (s7+1)) (r0.set ((s7).toNat) (u32.wrap ((u32.wrap ((u32.wrap ((u32.wrap (x1+1000000000))-s6))-x2))-1000000000))) 0)|_,_=>none)|none=>none)|false=>(match aU r0 s7 with|some _=>(match true,r0[(s7).toNat]? with|true,some _x3=>k 10 (jN a b (i64.wrap (s7+1)) (r0.set ((s7).toNat) (u32.wrap ((u32.wrap ((u32.wrap (x1+1000000000))-s6))-x2))) 1)|_,_=>none)|none=>none))|none=>none)|false=>(match decide ((u32.wrap ((u32.wrap (x1+1000000000))-s6))≥1000000000)with|true=>(match aU r0 s7 with|some _=>(match true,r0[(s7).toNat]? with|true,some _x2=>k 10 (jN a b (i64.wrap (s7+1)) (r0.set ((s7).toNat) (u32.wrap ((u32.wrap ((u32.wrap (x1+1000000000))-s6))-1000000000))) 0)|_,_=>none)|none=>none)|false=>(match aU r0 s7 with|some _=>(match true,r0[(s7).toNat]? with|true,some _x2=>k 10 (jN a b (i64.wrap (s7+1)) (r0.set ((s7).toNat) (u32.wrap ((u32.wrap (x1+1000000000))-s6))) 1)|_,_=>none)|none=>none)))|none=>none)|false=>(og (decide (aR r0)) (some [RV.d aqs (ah (val r0).toNat)]))
theorem lg(a b:List Int)(s7:Int)(r0:List Int)(s6:Int):RN yO 10 (jN a b s7 r0 s6) (iU a b s7 r0 s6):=rnX
def V7:NT:=[((163,8),{keep:=[0,1,5,6],hl:=1}),((163,23),{keep:=[0,1,5,6,7,8],hl:=1})]
def rF:Ctx:=CX (ens sC) V7
def tJ(a b:List Int)(s6:Int)(r0:List Int):Cfg:=⟨163,[.blk 0,.seq 40],[(0,.d aqs a),(1,.d aqs b),(5,.own 0),(6,SI s6)],[.row 225 aqu r0],0,[]⟩
def tb(a b:List Int)(s6 s7 s8:Int)(r0:List Int):Cfg:=⟨163,[.blk 2,.seq 38,.blk 1,.seq 39,.lp 8,.blk 0,.seq 40],[(0,.d aqs a),(1,.d aqs b),(5,.own 0),(6,SI s6),(7,.d (.int .u64) s7),(8,SI s8)],[.row 225 aqu r0],0,[]⟩
def Sf(a b:List Int)(k:KT):OLR:=og (decide ((0:Int)≤i64.wrap ((a.length:Int)+(b.length:Int))∧(i64.wrap ((a.length:Int)+(b.length:Int)))*((4:Nat):Int)≤140737488355328∧i64.wrap ((a.length:Int)+(b.length:Int))≤140737488355328)) (k 8 (tJ a b 0 (List.replicate (i64.wrap ((a.length:Int)+(b.length:Int))).toNat (0:Int))))
theorem aed(a b:List Int):RS rF 163 [.d aqs a,.d aqs b] (Sf a b):=rsX
def vn(a b:List Int)(s6:Int)(r0:List Int)(k:KT):OLR:=match decide (s6<(a.length:Int))with|true=>k 23 (tb a b s6 0 0 r0)|false=>(og (decide (aR r0)) (some [RV.d aqs (ah (val r0).toNat)]))
theorem zA(a b:List Int)(s6:Int)(r0:List Int):RN rF 8 (tJ a b s6 r0) (vn a b s6 r0):=rnX
def r9(a b:List Int)(s6 s7 s8:Int)(r0:List Int)(k:KT):OLR:=match decide (s8<(b.length:Int))with|true=>(match aU r0 (i64.wrap (s6+s8))with|some _=>(match true,r0[(i64.wrap (s6+s8)).toNat]? with|true,some x1=>(match aU a s6 with|some x2=>(match aU b s8 with|some x3=>(match aU r0 (i64.wrap (s6+s8))with|some _=>(match true,r0[(i64.wrap (s6+s8)).toNat]? with|true,some _=>k 23 (tb a b s6 (u64.wrap (Int.tdiv (u64.wrap ((u64.wrap (s7+(u64.wrap x1)))+(u64.wrap ((u64.wrap x2)*(u64.wrap x3))))) 1000000000)) (i64.wrap (s8+1)) (r0.set ((i64.wrap (s6+s8)).toNat) (u32.wrap (Int.tmod (u64.wrap ((u64.wrap (s7+(u64.wrap x1)))+(u64.wrap ((u64.wrap x2)*(u64.wrap x3))))) 1000000000))))|_,_=>none)|none=>none)|none=>none)|none=>none)|_,_=>none)|none=>none)|false=>(match aU r0 (i64.wrap (s6+(b.length:Int)))with|some _=>(match true,r0[(i64.wrap (s6+(b.length:Int))).toNat]? with|true,some _x1=>k 8 (tJ a b (i64.wrap (s6+1)) (r0.set ((i64.wrap (s6+(b.length:Int))).toNat) (u32.wrap s7)))|_,_=>none)|none=>none)
theorem xA(a b:List Int)(s6 s7 s8:Int)(r0:List Int):RN rF 23 (tb a b s6 s7 s8 r0) (r9 a b s6 s7 s8 r0):=rnX
def Gk:Cn 162 [.bool,aqs]:=cn fun(neg:Bool) (l:List Int)=>lf (aR l) [.d y2Y (ai (cj neg (val l)))] fun h=>by
 refine aA sC (P0 neg l) ⟨0,?_⟩;have hv:=aQ h.1
 have hp:decide (((ah (val l).toNat).length:Int)>0)=decide (0<val l):=by
  refine anI.2 ⟨fun g=>?_,fun g=>?_⟩
  ·apply ano;intro hc;rw[show(val l).toNat=0 by omega,fK]at g;simp at g
  ·have:ah (val l).toNat≠[]:=fun e=>by rw[ie]at e;omega
   have:=anE.2 this;omega
 unfold P0;rw[am5 h,mL neg hv,hp];cases neg<;>rfl
theorem zI(a b:List Int)(ha:jI a)(hb:jI b)(hab:b.length≤a.length):∀(j i:Nat) (c:Int) (r:List Int),i+j=a.length→0≤c→c≤1→Lim r→r.length=a.length+1→(∀k (hk:k<r.length),i≤k→r[k]=0)→val r+pw i*c=val (a.take i)+val (b.take i)→
  xF.Runs 16 (kS a b r c (i:Int)) [.d aqs (ah (val a+val b).toNat)]:=by
 have hsa:=ha.2;intro j;induction j with
 |zero=>
  intro i c r hi c0 c1 hr hl hz hv;obtain rfl:i=a.length:=by omega
  have hir:a.length<r.length:=by omega
  have hr0:=hz _ hir (anb _)
  have e:val (r.set a.length c)=val a+val b:=by
   rw[fp hir,hr0];rw[aon,anQ hab]at hv;grind
  refine se _ _ _ _ _ ⟨0,?_⟩;unfold nX;rw[cd (anb _),av r,aE,am6 hir];dsimp only;rw[am5 (show aR (r.set a.length c) from⟨hr.set _ ⟨c0,by omega⟩,by simp;omega⟩),e]
 |succ j ih=>
  intro i c r hi c0 c1 hr hl hz hv;have hia:i<a.length:=by omega
  have hir:i<r.length:=by omega
  have xa:=ha.1.get hia;have hr0:=hz i hir (anb _)
  have step:∀(t:Int),0≤t→t<2000000000→val (b.take (i+1))=val (b.take i)+pw i*(t-a[i]-c)→xF.Runs 16 (kS a b (r.set i (t%1000000000)) (t/1000000000) ((i+1:Nat):Int)) [.d aqs (ah (val a+val b).toNat)]:=by
   intro t t0 t1 hb';refine ih (i+1) (t/1000000000) (r.set i (t%1000000000)) (by omega) (by omega) (by omega) (hr.set i ⟨by omega,by omega⟩) (by simpa using hl) (pH hz) ?_;rw[fp hir,hr0,a8 hia,hb',cg];have:=Int.emod_add_mul_ediv t 1000000000;grind
  by_cases hib:i<b.length
  ·have xb:=hb.1.get hib;have ht:=a8 hib;obtain⟨q,hq⟩:=step (c+a[i]+b[i]) (by omega) (by omega) (by rw[ht];grind);refine se _ _ _ _ _ ⟨q,?_⟩;unfold nX;rw[bG hia,av,am6 hia,bG hib,av,am6 hib,av r i,aE,am6 hir];dsimp only;rw[c8 (x:=c+a[i]) (by omega) (by omega),c8 (x:=c+a[i]+b[i]) (by omega) (by omega),jy (by omega),hU (by omega),c8 (x:=(c+a[i]+b[i])/1000000000) (by omega) (by omega),bW (by omega)];exact hq
  ·have ht:=kA (b:=b) (i:=i) (by omega);obtain⟨q,hq⟩:=step (c+a[i]) (by omega) (by omega) (by rw[ht];grind);refine se _ _ _ _ _ ⟨q,?_⟩;unfold nX;rw[bG hia,av,am6 hia,cd (show b.length≤i by omega),av r i,aE,am6 hir];dsimp only;rw[c8 (x:=c+a[i]) (by omega) (by omega),jy (by omega),hU (by omega),c8 (x:=(c+a[i])/1000000000) (by omega) (by omega),bW (by omega)];exact hq
def abx:Cn 167 [aqs,aqs]:=cn fun(a b:List Int)=>lf (jI a∧jI b) [.d aqs (ah (val a+val b).toNat)] fun h=>by
 refine cY sC (show xF.Res _ _ _ from ?_);obtain⟨ha,hb⟩:=h;have hsa:=ha.2;have hsb:=hb.2;by_cases hc:a.length<b.length
 ·obtain⟨q,hq⟩:=zI b a hb ha (by omega) b.length 0 0 (List.replicate (b.length+1) 0) (by omega) (by omega) (by omega) (Lim.rep _) (by simp) (fun k hk _=>by simp) (by simp[val,gN]);refine Rm _ _ ⟨q,?_⟩;unfold GZ;rw[bG hc,bW (by omega),tW (by omega),aE,ap3 (val a)];exact hq
 ·obtain⟨q,hq⟩:=zI a b ha hb (by omega) a.length 0 0 (List.replicate (a.length+1) 0) (by omega) (by omega) (by omega) (Lim.rep _) (by simp) (fun k hk _=>by simp) (by simp[val,gN]);refine Rm _ _ ⟨q,?_⟩;unfold GZ;rw[cd (by omega),bW (k:=a.length) (by omega),tW (n:=a.length+1) (by omega),aE];exact hq
theorem Kb(a b:List Int)(ha:aR a)(hb:aR b)(hle:val b≤val a):∀(j i:Nat) (c:Int) (r:List Int),i+j=a.length→0≤c→c≤1→Lim r→r.length=a.length→(∀k (hk:k<r.length),i≤k→r[k]=0)→val r+val (b.take i)=val (a.take i)+pw i*c→
  yO.Runs 10 (jN a b (i:Int) r c) [.d aqs (ah (val a-val b).toNat)]:=by
 have hsa:=ha.2;intro j;induction j with
 |zero=>
  intro i c r hi c0 c1 hr hl hz hv;obtain rfl:i=a.length:=by omega
  refine lg _ _ _ _ _ ⟨0,?_⟩;unfold iU;rw[cd (anb _)];have hrl:=b9 hr;rw[hl]at hrl;have hb2:val b=val (b.take a.length)+pw (min a.length b.length)*val (b.drop a.length):=ge b a.length;have hbd:0≤val (b.drop a.length):=aQ (hb.1.drop _);have hal:=b9 ha.1;have hbt:=aQ (hb.1.take a.length);rw[aon]at hv
  have hz0:val (b.drop a.length)=0:=by
   rcases anG a.length b.length with h1|h1
   ·rw[anT (by omega)]at hb2;rcases anC 0 (val (b.drop a.length))with h2|h2
    ·have hp:=cB a.length;have:=ane (show 1≤val (b.drop a.length) by omega) (anO hp);omega
    ·omega
   ·rw[an1 h1];rfl
  rw[hz0,apl,aqj]at hb2
  have hc0:c=0:=by
   have hp:=cB a.length;rcases(show c=0∨c=1 by omega)with h|h
   ·exact h
   ·subst h;rw[app]at hv;omega
  subst hc0;rw[apl]at hv;rw[am5 (show aR r from⟨hr,by omega⟩),show val r=val a-val b by omega]
 |succ j ih=>
  intro i c r hi c0 c1 hr hl hz hv;have hia:i<a.length:=by omega
  have hir:i<r.length:=by omega
  have xa:=ha.1.get hia;have hr0:=hz i hir (anb _)
  have step:∀(y c':Int),0≤y→y<1000000000→0≤c'→c'≤1→val (b.take (i+1))=val (b.take i)+pw i*(a[i]+1000000000*c'-y-c)→yO.Runs 10 (jN a b ((i+1:Nat):Int) (r.set i y) c') [.d aqs (ah (val a-val b).toNat)]:=by
   intro y c' y0 y1 k0 k1 hb';refine ih (i+1) c' (r.set i y) (by omega) k0 k1 (hr.set i ⟨y0,y1⟩) (by simpa using hl) (pH hz) ?_;rw[fp hir,hr0,a8 hia,hb',cg];grind
  by_cases hib:i<b.length
  ·have xb:=hb.1.get hib;have ht:=a8 hib;by_cases hc:a[i]+1000000000-c-b[i]≥1000000000
   ·obtain⟨q,hq⟩:=step (a[i]+1000000000-c-b[i]-1000000000) 0 (by omega) (by omega) (by omega) (by omega) (by rw[ht];grind);refine lg _ _ _ _ _ ⟨q,?_⟩;unfold iU;rw[bG hia,av,am6 hia,bG hib,av,am6 hib,av,aE,am6 hir];dsimp only;rw[c8 (x:=a[i]+1000000000) (by omega) (by omega),c8 (x:=a[i]+1000000000-c) (by omega) (by omega),c8 (x:=a[i]+1000000000-c-b[i]) (by omega) (by omega),am5 hc,c8 (x:=a[i]+1000000000-c-b[i]-1000000000) (by omega) (by omega),bW (by omega)];exact hq
   ·obtain⟨q,hq⟩:=step (a[i]+1000000000-c-b[i]) 1 (by omega) (by omega) (by omega) (by omega) (by rw[ht];grind);refine lg _ _ _ _ _ ⟨q,?_⟩;unfold iU;rw[bG hia,av,am6 hia,bG hib,av,am6 hib,av,aE,am6 hir];dsimp only;rw[c8 (x:=a[i]+1000000000) (by omega) (by omega),c8 (x:=a[i]+1000000000-c) (by omega) (by omega),c8 (x:=a[i]+1000000000-c-b[i]) (by omega) (by omega),am7 hc,bW (by omega)];exact hq
  ·have ht:=kA (b:=b) (i:=i) (by omega);by_cases hc:a[i]+1000000000-c≥1000000000
   ·obtain⟨q,hq⟩:=step (a[i]+1000000000-c-1000000000) 0 (by omega) (by omega) (by omega) (by omega) (by rw[ht];grind);refine lg _ _ _ _ _ ⟨q,?_⟩;unfold iU;rw[bG hia,av,am6 hia,cd (show b.length≤i by omega),av r i,aE,am6 hir];dsimp only;rw[c8 (x:=a[i]+1000000000) (by omega) (by omega),c8 (x:=a[i]+1000000000-c) (by omega) (by omega),am5 hc,c8 (x:=a[i]+1000000000-c-1000000000) (by omega) (by omega),bW (by omega)];exact hq
   ·obtain⟨q,hq⟩:=step (a[i]+1000000000-c) 1 (by omega) (by omega) (by omega) (by omega) (by rw[ht];grind);refine lg _ _ _ _ _ ⟨q,?_⟩;unfold iU;rw[bG hia,av,am6 hia,cd (show b.length≤i by omega),av r i,aE,am6 hir];dsimp only;rw[c8 (x:=a[i]+1000000000) (by omega) (by omega),c8 (x:=a[i]+1000000000-c) (by omega) (by omega),am7 hc,bW (by omega)];exact hq
def Gc:Cn 169 [aqs,aqs]:=cn fun(a b:List Int)=>lf (oK a b) [.d aqs (ah (val a-val b).toNat)] fun h=>by
 refine cY sC (show yO.Res _ _ _ from ?_);obtain⟨ha,hb,hle⟩:=h;have hsa:=ha.2;obtain⟨q,hq⟩:=Kb a b ha hb hle a.length 0 0 (List.replicate a.length 0) (by omega) (by omega) (by omega) (Lim.rep _) (by simp) (fun k hk _=>by simp) (by simp[val,gN]);refine acn _ _ ⟨q,?_⟩;unfold SK;rw[tW (by omega),aE];exact hq
theorem Hj(a b:List Int)(ha:jI a)(hb:jI b)(i:Nat)(hi:i<a.length)
  (hout:∀r,Lim r→r.length=a.length+b.length→(∀k (hk:k<r.length),i+1+b.length≤k→r[k]=0)→val r=val (a.take (i+1))*val b→rF.Runs 8 (tJ a b ((i+1:Nat):Int) r) [.d aqs (ah (val a*val b).toNat)]):
  ∀(j k:Nat) (c:Int) (r:List Int),k+j=b.length→0≤c→c<1000000000→Lim r→r.length=a.length+b.length→(∀q (hq:q<r.length),i+b.length≤q→r[q]=0)→val r+pw (i+k)*c=val (a.take i)*val b+pw i*a[i]*val (b.take k)→
  rF.Runs 23 (tb a b (i:Int) c (k:Int) r) [.d aqs (ah (val a*val b).toNat)]:=by
 have hsa:=ha.2;have hsb:=hb.2;have xa:=ha.1.get hi;intro j;induction j with
 |zero=>
  intro k c r hk c0 c1 hr hl hz hv;obtain rfl:k=b.length:=by omega
  have hir:i+b.length<r.length:=by omega
  have hr0:=hz _ hir (anb _)
  obtain⟨q,hq⟩:=hout (r.set (i+b.length) c) (hr.set _ ⟨c0,c1⟩) (by simpa using hl) (by rw[show i+1+b.length=i+b.length+1 by omega];exact pH hz) (by
   rw[fp hir,hr0,a8 hi];rw[aon]at hv;grind)
  refine xA _ _ _ _ _ _ ⟨q,?_⟩;have hw:i64.wrap ((i:Int)+(b.length:Int))=((i+b.length:Nat):Int):=by rw[aT (by omega) (by omega)];simp
  unfold r9;rw[cd (anb _),hw,av r (i+b.length),aE,am6 hir,c8 (x:=c) (by omega) (by omega),bW (k:=i) (by omega)];exact hq
 |succ j ih=>
  intro k c r hk c0 c1 hr hl hz hv;have hkb:k<b.length:=by omega
  have hir:i+k<r.length:=by omega
  have xb:=hb.1.get hkb;have xr:=hr.get hir;have hbd:=HC xr xa xb ⟨c0,c1⟩
  obtain⟨q,hq⟩:=ih (k+1) ((r[i+k]+a[i]*b[k]+c)/1000000000) (r.set (i+k) ((r[i+k]+a[i]*b[k]+c)%1000000000)) (by omega) hbd.2.2.1 hbd.2.2.2 (hr.set _ (by omega)) (by simpa using hl)
   (fun m hm hq=>by rw[aor (by omega)];exact hz m (by simpa using hm) hq) (by
    rw[fp hir,a8 hkb,show i+(k+1)=i+k+1 by omega,cg,fI];rw[fI]at hv;have e:=Int.emod_add_mul_ediv (r[i+k]+a[i]*b[k]+c) 1000000000;grind)
  refine xA _ _ _ _ _ _ ⟨q,?_⟩;have hw:i64.wrap ((i:Int)+(k:Int))=((i+k:Nat):Int):=by rw[aT (by omega) (by omega)];simp
  unfold r9;rw[bG hkb,hw,av b k,am6 hkb,av a i,am6 hi,av r (i+k),aE,am6 hir];dsimp only;rw[bH (x:=r[i+k]) (by omega) (by omega),bH (x:=a[i]) (by omega) (by omega),bH (x:=b[k]) (by omega) (by omega),bH (x:=a[i]*b[k]) (by omega) (by omega),bH (x:=c+r[i+k]) (by omega) (by omega),bH (x:=c+r[i+k]+a[i]*b[k]) (by omega) (by omega),show c+r[i+k]+a[i]*b[k]=r[i+k]+a[i]*b[k]+c by omega,hU (a:=r[i+k]+a[i]*b[k]+c) (by omega),jy (a:=r[i+k]+a[i]*b[k]+c) (by omega),bH (x:=(r[i+k]+a[i]*b[k]+c)/1000000000) (by omega) (by omega),c8 (x:=(r[i+k]+a[i]*b[k]+c)%1000000000) (by omega) (by omega),bW (k:=k) (by omega)];exact hq
theorem F8(a b:List Int)(ha:jI a)(hb:jI b):∀(j i:Nat) (r:List Int),i+j=a.length→Lim r→r.length=a.length+b.length→(∀k (hk:k<r.length),i+b.length≤k→r[k]=0)→val r=val (a.take i)*val b→
  rF.Runs 8 (tJ a b (i:Int) r) [.d aqs (ah (val a*val b).toNat)]:=by
 have hsa:=ha.2;have hsb:=hb.2;intro j;induction j with
 |zero=>
  intro i r hi hr hl hz hv;obtain rfl:i=a.length:=by omega
  refine zA _ _ _ _ ⟨0,?_⟩;unfold vn;rw[aon]at hv;rw[cd (anb _),am5 (show aR r from⟨hr,by omega⟩),hv]
 |succ j ih=>
  intro i r hi hr hl hz hv;have hia:i<a.length:=by omega
  obtain⟨q,hq⟩:=Hj a b ha hb i hia (fun r' h1 h2 h3 h4=>ih (i+1) r' (by omega) h1 h2 h3 h4) b.length 0 0 r (by omega) (by omega) (by omega) hr hl hz (by simp[val,hv]);refine zA _ _ _ _ ⟨q,?_⟩;grind [vn]
def ad2:Cn 163 [aqs,aqs]:=cn fun(a b:List Int)=>lf (jI a∧jI b) [.d aqs (ah (val a*val b).toNat)] fun h=>by
 refine cY sC (show rF.Res _ _ _ from ?_);obtain⟨ha,hb⟩:=h;have hsa:=ha.2;have hsb:=hb.2;obtain⟨q,hq⟩:=F8 a b ha hb a.length 0 (List.replicate (a.length+b.length) 0) (by omega) (Lim.rep _) (by simp) (fun k hk _=>by simp) (by simp[val,gN]);refine aed _ _ ⟨q,?_⟩;have hw:i64.wrap ((a.length:Int)+(b.length:Int))=((a.length+b.length:Nat):Int):=by rw[aT (by omega) (by omega)];simp
 unfold Sf;rw[hw,tW (by omega),aE];exact hq
theorem t8{x:BI}(h:okI x):jI x.2:=⟨h.1.1,by have:=h.2.2;omega⟩
theorem VS(a b:Int):decide (cC a b≥0)=decide (b≤a):=by grind [da,d7,cU]
theorem xz(a b:Int):decide (cC a b>0)=decide (b<a):=by grind [da,d7,cU]
def pp:List En:=[enK wP,enK By,enF Cf,enF xp,enK Gk,enK abx,enK Gc,enK ad2]
def QV(n:Int)(_k:KT):OLR:=match decide (n<0)with|true=>(match decide (iI (u64.wrap (0-(u64.wrap n))))with|true=>(match decide (aR (ah (u64.wrap (0-(u64.wrap n))).toNat))with|true=>some [RV.d y2Y (ai (cj true (val (ah (u64.wrap (0-(u64.wrap n))).toNat))))]|false=>none)|false=>none)|false=>(match decide (iI (u64.wrap n))with|true=>(match decide (aR (ah (u64.wrap n).toNat))with|true=>some [RV.d y2Y (ai (cj false (val (ah (u64.wrap n).toNat))))]|false=>none)|false=>none)
def QH(x:Bool×List Int)(_k:KT):OLR:=match(x.2.length:Int)==0 with|true=>some [RV.d aqt 0]|false=>(match x.1 with|true=>some [RV.d aqt (-1)]|false=>some [RV.d aqt 1])
def Sr(x y:Bool×List Int)(_k:KT):OLR:=match !(x.1==y.1)with|true=>(match x.1 with|true=>some [RV.d aqt (-1)]|false=>some [RV.d aqt 1])|false=>(match x.1 with|true=>(og (decide (rB y.2 x.2)) (some [RV.d aqt (cC (val y.2) (val x.2))]))|false=>(og (decide (rB x.2 y.2)) (some [RV.d aqt (cC (val x.2) (val y.2))])))
def QC(x y:Bool×List Int)(_k:KT):OLR:=match x.1==y.1 with|true=>(og (decide (jI x.2∧jI y.2)) (og (decide (aR (ah (val x.2+val y.2).toNat))) (some [RV.d y2Y (ai (cj x.1 (val (ah (val x.2+val y.2).toNat))))])))|false=>(og (decide (rB x.2 y.2)) (match decide ((cC (val x.2) (val y.2))≥0)with|true=>(og (decide (oK x.2 y.2)) (og (decide (aR (ah (val x.2-val y.2).toNat))) (some [RV.d y2Y (ai (cj x.1 (val (ah (val x.2-val y.2).toNat))))])))|false=>(og (decide (oK y.2 x.2)) (og (decide (aR (ah (val y.2-val x.2).toNat))) (some [RV.d y2Y (ai (cj y.1 (val (ah (val y.2-val x.2).toNat))))])))))
def Ni(x:Bool×List Int)(_k:KT):OLR:=og (decide (aR x.2)) (some [RV.d y2Y (ai (cj (!x.1) (val x.2)))])
def Sn(x y:Bool×List Int)(_k:KT):OLR:=og (decide (jI x.2∧jI y.2)) (og (decide (aR (ah (val x.2*val y.2).toNat))) (some [RV.d y2Y (ai (cj (!(x.1==y.1)) (val (ah (val x.2*val y.2).toNat))))]))
def Xa(a:List Int)(n:Int)(_k:KT):OLR:=og (decide (aR ([n]))) (og (decide (jI a∧jI (ah (val ([n])).toNat))) (some [RV.d aqs (ah (val a*val (ah (val ([n])).toNat)).toNat)]))
def BW:Cn 82 [aqt]:=cn fun(n:Int)=>lf (aH n) [.d y2Y (ai n)] fun h=>by
 refine aA pp (QV n) ⟨0,?_⟩;have h1:=h.1;have h2:=h.2;unfold QV;by_cases hn:n<0
 ·have e:u64.wrap (0-u64.wrap n)= -n:=by rw[anX,anX];omega
  have hl:(ah (-n).toNat).length≤3:=cG (by omega) (apx (show-n<18446744073709551616 by omega) (by decide));rw[am5 hn];dsimp only;rw[e,am5 (show iI (-n) from⟨by omega,by omega⟩),am5 (cH (n:=(-n).toNat) (by omega)),bZ (v:= -n) (by omega)];dsimp only;rw[show cj true (-n)=n by unfold cj;simp]
 ·have e:u64.wrap n=n:=bH (by omega) (by omega);have hl:(ah n.toNat).length≤3:=cG (by omega) (apx (show n<18446744073709551616 by omega) (by decide));rw[am7 hn];dsimp only;rw[e,am5 (show iI n from⟨by omega,by omega⟩),am5 (cH (n:=n.toNat) (by omega)),bZ (v:=n) (by omega)];rfl
def M7:Cn 117 [y2Y]:=cn fun(x:Bool×List Int)=>lf (okI x) [.d aqt (cC (ag x) 0)] fun h=>by
 refine aA pp (QH x) ⟨0,?_⟩;obtain⟨h0,h1,h2⟩:=cK h;unfold QH;rw[bO];unfold cj;by_cases he:x.2=[]
 ·have e0:=h2.1 he
  have ex:x.1=false:=by
   cases hx:x.1
   ·rfl
   ·have:=h1 hx;omega
  rw[ex,e0,he];rfl
 ·have hp:0<val x.2:=eW h.1 he;have:=anE.2 he;rw[show((x.2.length:Int)==0)=false by simp;omega];cases x.1
  ·simp only[cond_false];rw[cU hp]
  ·simp only[cond_true];rw[da (by omega)]
def Ox:Cn 176 [y2Y,y2Y]:=cn fun(x y:Bool×List Int)=>lf (okI x∧okI y) [.d aqt (cC (ag x) (ag y))] fun h=>by
 refine aA pp (Sr x y) ⟨0,?_⟩;obtain⟨hx,hy⟩:=h;obtain⟨x0,x1,x2⟩:=cK hx;obtain⟨y0,y1,y2⟩:=cK hy;have sx:=hx.2.2;have sy:=hy.2.2;unfold Sr;rw[bO,bO,am5 (show rB y.2 x.2 from⟨⟨hy.1,by omega⟩,hx.1,by omega⟩),am5 (show rB x.2 y.2 from⟨⟨hx.1,by omega⟩,hy.1,by omega⟩)];unfold cj;cases ex:x.1<;>cases ey:y.1
 ·rfl
 ·have:=y1 ey;simp only[cond_true,cond_false];rw[show cC (val x.2) (-val y.2)=1 from cU (by omega)];rfl
 ·have:=x1 ex;simp only[cond_true,cond_false];rw[show cC (-val x.2) (val y.2)= -1 from da (by omega)];rfl
 ·simp only[cond_true];rw[Jx x0 y0];rfl
def AE:Cn 67 [y2Y,y2Y]:=cn fun(x y:Bool×List Int)=>lf (okI x∧okI y) [.d y2Y (ai (ag x+ag y))] fun h=>by
 refine aA pp (QC x y) ⟨0,?_⟩;obtain⟨hx,hy⟩:=h;obtain⟨x0,x1,x2⟩:=cK hx;obtain⟨y0,y1,y2⟩:=cK hy;have lx:=gf hx;have ly:=gf hy;have tx:=t8 hx;have ty:=t8 hy;have sx:=hx.2.2;have sy:=hy.2.2;have bx:=b9 hx.1.1;have by':=b9 hy.1.1;have px:=dm (show x.2.length≤1000000 by omega);have py:=dm (show y.2.length≤1000000 by omega);have l1:(ah (val x.2+val y.2).toNat).length≤1000001:=cG (by omega) (by rw[cg];omega);have l2:(ah (val x.2-val y.2).toNat).length≤1000000:=dl (by have:=cB 1000000;omega);have l3:(ah (val y.2-val x.2).toNat).length≤1000000:=dl (by have:=cB 1000000;omega);unfold QC
 rw[bO,bO,am5 (show jI x.2∧jI y.2 from⟨tx,ty⟩),am5 (cH (n:=(val x.2+val y.2).toNat) (by omega)),am5 (cH (n:=(val x.2-val y.2).toNat) (by omega)),am5 (cH (n:=(val y.2-val x.2).toNat) (by omega)),bZ (v:=val x.2+val y.2) (by omega),
  am5 (show rB x.2 y.2 from⟨⟨hx.1,by omega⟩,hy.1,by omega⟩),VS]
 cases hs:x.1==y.1
 ·dsimp only;rcases anC (val x.2) (val y.2)with hc|hc
  ·rw[am7 (show ¬val y.2≤val x.2 by omega),am5 (show oK y.2 x.2 from⟨ly,lx,by omega⟩),bZ (v:=val y.2-val x.2) (by omega)];dsimp only;unfold cj;cases ex:x.1<;>cases ey:y.1<;>simp_all<;>congr 2<;>omega
  ·rw[am5 hc,am5 (show oK x.2 y.2 from⟨lx,ly,hc⟩),bZ (v:=val x.2-val y.2) (by omega)];dsimp only;unfold cj;cases ex:x.1<;>cases ey:y.1<;>simp_all<;>congr 2<;>omega
 ·dsimp only;have e:=an3.1 hs;rw[←e];unfold cj;cases x.1
  ·rfl
  ·simp only[cond_true];rw[show-(val x.2+val y.2)= -val x.2+ -val y.2 by omega]
def Mr:Cn 164 [y2Y]:=cn fun(x:Bool×List Int)=>lf (okI x) [.d y2Y (ai (-ag x))] fun h=>by
 refine aA pp (Ni x) ⟨0,?_⟩;unfold Ni;rw[bO,am5 (gf h)];unfold cj;cases x.1<;>simp
def M1:Cn 65 [y2Y,y2Y]:=cn fun(x y:Bool×List Int)=>lf (okI x∧okI y) [.d y2Y (ai (ag x*ag y))] fun h=>by
 refine aA pp (Sn x y) ⟨0,?_⟩;obtain⟨hx,hy⟩:=h;obtain⟨x0,x1,x2⟩:=cK hx;obtain⟨y0,y1,y2⟩:=cK hy;have bx:=b9 hx.1.1;have by':=b9 hy.1.1;have sx:=hx.2.2;have sy:=hy.2.2;have hm:0≤val x.2*val y.2:=an5 x0 y0
 have l1:(ah (val x.2*val y.2).toNat).length≤x.2.length+y.2.length:=cG hm (by
  rw[fI];have p1:=cB x.2.length;have p2:=cB y.2.length;have:=apf (show val x.2≤pw x.2.length-1 by omega) (show val y.2≤pw y.2.length-1 by omega) y0 (by omega);grind)
 unfold Sn;rw[bO,bO,am5 (show jI x.2∧jI y.2 from⟨t8 hx,t8 hy⟩),am5 (cH (n:=(val x.2*val y.2).toNat) (by omega)),bZ hm];unfold cj;cases x.1<;>cases y.1<;>simp[Int.neg_mul,apZ]
def byP(a:List Int)(n:Int):Prop:=jI a∧0≤n∧n<1000000000
instance (a:List Int) (n:Int):Decidable (byP a n):=by unfold byP;infer_instance
def Y1:Cn 321 [aqs,aqu]:=cn fun(a:List Int) (n:Int)=>lf (byP a n) [.d aqs (ah (val a*n).toNat)] fun h=>by
 refine aA pp (Xa a n) ⟨0,?_⟩;obtain⟨ha,h1,h2⟩:=h;have hl:(ah n.toNat).length≤1:=cG (by omega) (by show n<pw 1;simp[pw];exact h2);have e:val [n]=n:=by simp[val]
 unfold Xa;rw[e,am5 (show aR [n] from⟨Lim.cons ⟨by omega,h2⟩ Lim.nil,by simp⟩),am5 (show jI a∧jI (ah n.toNat) from⟨ha,ce _,by omega⟩),bZ (by omega)]
def acT:List En:=enK AE::enK Mr::pp
def Mk(x y:Bool×List Int)(_k:KT):OLR:=og (decide (okI y)) (og (decide (okI x∧okI (ai (-ag y)))) (some [RV.d y2Y (ai (ag x+ag (ai (-ag y))))]))
def acO:Cn 266 [y2Y,y2Y]:=cn fun(x y:Bool×List Int)=>lf (okI x∧okI y) [.d y2Y (ai (ag x-ag y))] fun h=>by
 refine aA acT (Mk x y) ⟨0,?_⟩;obtain⟨hx,hy⟩:=h;unfold Mk;rw[am5 hy,am5 (show okI x∧okI (ai (-ag y)) from⟨hx,aV (by rw[jf];exact iZ hy)⟩),dec_enc,Int.sub_eq_add_neg]
end Go.Proofs.YtnkndpoojnflmaaGreat
end
