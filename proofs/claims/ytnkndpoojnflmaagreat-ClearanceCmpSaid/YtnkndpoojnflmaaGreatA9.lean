/- The order of the reals; what holds of all fractions holds of them. -/
import Derived.Test.YtnkndpoojnflmaaGreatA8
noncomputable section
namespace Go.Proofs.YtnkndpoojnflmaaGreat
open Go.RowKit Go.IntKind
theorem amU:type_of% @Rat.mul_nonneg:=@Rat.mul_nonneg
theorem anq:type_of% @decide_eq_decide:=@decide_eq_decide
theorem aoY:type_of% @Rat.intCast_natCast:=@Rat.intCast_natCast
theorem ao3:type_of% @Rat.intCast_le_intCast:=@Rat.intCast_le_intCast
theorem apj:type_of% @Rat.intCast_neg:=@Rat.intCast_neg
section
namespace RE
open RL
theorem BA(a b:RE):a≤b↔¬b<a:=Iff.rfl
theorem le_of_lt{a b:RE}(h:a<b):a≤b:=fun h'=>lt_irrefl a (cO h h')
theorem lt_or_ge(a b:RE):a<b∨b≤a:=by
 by_cases h:a<b
 ·exact .inl h
 ·exact .inr h
theorem le_antisymm{a b:RE}(h1:a≤b)(h2:b≤a):a=b:=by
 rcases mW a b with h|h|h
 ·exact absurd h h2
 ·exact h
 ·exact absurd h h1
theorem le_trans{a b c:RE}(h1:a≤b)(h2:b≤c):a≤c:=fun h=>by
 rcases mW a b with h'|h'|h'
 ·exact h2 (cO h h')
 ·subst h';exact h2 h
 ·exact h1 h'
theorem zero_lt_one:(0:RE)<1:=ik (by decide+kernel:(0:Rat)<1)
theorem lR(a:RE):a+ -a=0:=by rw[add_comm,wy]
theorem jN{a:RE}(h:a<0):0< -a:=by
 have:=kR (-a) h;rw[lR,add_comm,add_zero]at this;exact this
theorem Gq{a:RE}(h:0<a): -a<0:=by
 have:=kR (-a) h;rw[lR,add_comm,add_zero]at this;exact this
instance:Std.IsLinearOrder RE where
 le_refl a:=lt_irrefl a
 le_trans _ _ _:=le_trans
 le_antisymm _ _:=le_antisymm
 le_total a b:=by
  rcases lt_or_ge a b with h|h
  ·exact .inl (le_of_lt h)
  ·exact .inr h
instance:Std.LawfulOrderLT RE where
 lt_iff a b:=⟨fun h=>⟨le_of_lt h,fun h'=>h' h⟩,fun h=>by
  rcases lt_or_ge a b with h'|h'
  ·exact h'
  ·exact absurd h' h.2⟩
theorem re{a b:RE}:¬a≤b↔b<a:=⟨fun h=>by
  rcases lt_or_ge b a with h'|h'
  ·exact h'
  ·exact absurd h' h,fun h h'=>h' h⟩
theorem aL{a b:RE}(h:a<b):0<b-a:=by
 have:=kR (-a) h;rw[lR]at this;exact this
theorem acS{a b:RE}(h:0<b-a):a<b:=by
 have:=kR a h
 have e:b-a+a=b:=by
  show b+ -a+a=b;rw[add_assoc,wy,add_zero]
 rw[e,add_comm,add_zero]at this;exact this
theorem aF{a b:RE}(h:a≤b):0≤b-a:=fun h'=>h (by
 have:=kR a h'
 have e:b-a+a=b:=by
  show b+ -a+a=b;rw[add_assoc,wy,add_zero]
 rw[e,add_comm,add_zero]at this;exact this)
theorem fU{a:RE}(h:0≤a):0<a∨a=0:=by
 rcases mW 0 a with h'|h'|h'
 ·exact .inl h'
 ·exact .inr h'.symm
 ·exact absurd h' h
theorem le_refl(a:RE):a≤a:=lt_irrefl a
theorem ob{a b:RE}(h:a=b):a≤b:=by rw[h];exact le_refl _
theorem ls{a b:RE}(h:a=b):b≤a:=by rw[h];exact le_refl _
theorem zero_mul(a:RE):0*a=0:=by rw[mul_comm,mul_zero]
theorem zero_add(a:RE):0+a=a:=by rw[add_comm,add_zero]
theorem one_mul(a:RE):1*a=a:=by rw[mul_comm,mul_one]
theorem bg{a b:RE}(h:0≤a)(h':0≤b):0≤a*b:=by
 rcases fU h with h1|h1
 ·rcases fU h' with h2|h2
  ·exact le_of_lt (mul_pos h1 h2)
  ·rw[h2,mul_zero];exact le_refl _
 ·rw[h1,zero_mul];exact le_refl _
theorem aK{a b:RE}(h:0<a)(h':0≤b):0<a+b:=by
 have:=kR b h;rw[zero_add]at this;rcases fU h' with h2|h2
 ·exact cO h2 this
 ·rw[h2,add_zero];exact h
theorem gh(a:RE):0≤a*a:=by
 rcases lt_or_ge a 0 with h|h
 ·have h1:=jN h;have h2:=mul_pos h1 h1
  have e: -a* -a=a*a:=by
   induction a using anR
   exact snd fun n=>by show-_* -_=_*_;grind
  rw[e]at h2;exact le_of_lt h2
 ·exact bg h h
instance:NatCast RE:=⟨fun n=>of (n:Rat)⟩
instance:IntCast RE:=⟨fun n=>of (n:Rat)⟩
instance:SMul Nat RE:=⟨fun n a=>of (n:Rat)*a⟩
instance:SMul Int RE:=⟨fun n a=>of (n:Rat)*a⟩
def pw(a:RE):Nat→RE
 |0=>1
 |n+1=>pw a n*a
instance:Pow RE Nat:=⟨pw⟩
instance:Lean.Grind.CommRing RE where
 add_zero:=add_zero
 add_comm:=add_comm
 add_assoc:=add_assoc
 mul_assoc:=mul_assoc
 mul_one:=mul_one
 mul_comm:=mul_comm
 left_distrib:=left_distrib
 mul_zero:=mul_zero
 zero_mul:=zero_mul
 one_mul:=one_mul
 right_distrib a b c:=by rw[mul_comm,left_distrib,mul_comm c,mul_comm c]
 pow_zero _:=rfl
 pow_succ _ _:=rfl
 ofNat_succ n:=by
  show of ((OfNat.ofNat (n+1):Rat))=of ((OfNat.ofNat n:Rat))+of 1;rw[←of_add];congr 1;show(((n+1:Nat):Rat))=((n:Nat):Rat)+1;rw[Rat.natCast_add];rfl
 ofNat_eq_natCast _:=rfl
 nsmul_eq_natCast_mul _ _:=rfl
 neg_add_cancel:=wy
 sub_eq_add_neg _ _:=rfl
 neg_zsmul i a:=by
  show of ((-i:Int):Rat)*a= -(of (i:Rat)*a);rw[apj,of_neg];induction a using anR
  exact snd fun n=>by show-_*_= -(_*_);grind
 zsmul_natCast_eq_nsmul _ _:=rfl
 intCast_ofNat _:=rfl
 intCast_neg i:=by show of _= -of _;rw[apj,of_neg]
theorem IG{a b c:RE}(h:a<b)(hc:0<c):c*a<c*b:=by
 have h1:=kR (-a) h;rw[lR]at h1;have h2:=kR (c*a) (mul_pos hc h1);rwa [show c*(b+ -a)+c*a=c*b by grind,zero_add]at h2
instance:Lean.Grind.OrderedRing RE where
 add_le_left_iff {a b} c:=⟨fun h h'=>h (by
   have:=kR (-c) h';rw[add_assoc,add_assoc,lR,add_zero,add_zero]at this;exact this),fun h h'=>h (kR c h')⟩
 zero_lt_one:=zero_lt_one
 mul_lt_mul_of_pos_left:=IG
 mul_lt_mul_of_pos_right {a b c} h hc:=by
  rw[mul_comm a,mul_comm b];exact IG h hc
theorem IM{c:Rat}(hc:(0:Rat)<c){a:RE}(h:0<a):0<of c*a:=mul_pos (ik hc) h
theorem iy{c:Rat}(hc:(0:Rat)<c){a:RE}(h:0≤a):0≤of c*a:=bg (le_of_lt (ik hc)) h
theorem far{s:RE}(h:0<s)(e:s=0):False:=by rw[e]at h;exact lt_irrefl _ h
theorem Tz(x y:RE):((y*y-(x*x)))+((x-(0))*(x-(y)))+((y-(0))*(x-(y)))=0:=by grind
theorem sq_lt(x y:RE)(h1:0≤x)(h2:0≤y)(h3:x*x<y*y):x<y:=re.1 fun hg=>far (aK (aK (aL h3) (bg (aF h1) (aF hg))) (bg (aF h2) (aF hg))) (Tz x y)
theorem TR(x y:RE):((x-(y))*(x-(y)))+((y*y-(x*x)))+2*((y-(0))*(x-(y)))=0:=by grind
theorem t7(x y:RE)(_h1:0≤x)(h2:0≤y)(h3:x*x≤y*y):x≤y:=fun hg=>far (aK (aK (mul_pos (aL hg) (aL hg)) (aF h3)) (iy (by decide+kernel:(0:Rat)<2) (bg (aF h2) (le_of_lt (aL hg))))) (TR x y)
theorem JV(x y:RE):((x*x-(y*y)))+2*((x-(0))*(y-(x)))+((y-(x))*(y-(x)))=0:=by grind
theorem sq_mono(x y:RE)(h1:0≤x)(h2:x≤y):x*x≤y*y:=fun hg=>far (aK (aK (aL hg) (iy (by decide+kernel:(0:Rat)<2) (bg (aF h1) (aF h2)))) (bg (aF h2) (aF h2))) (JV x y)
theorem ab5(x y:RE):((y-(x))*(y-(x)))+((x*x-(y*y)))+2*((x-(0))*(y-(x)))=0:=by grind
theorem MI(x y:RE):((x-(y))*(x-(y)))+((y*y-(x*x)))+2*((y-(0))*(x-(y)))=0:=by grind
theorem abl(x y:RE)(_h1:0≤x)(h2:0≤y)(h3:x*x=y*y):x≤y:=fun hg=>far (aK (aK (mul_pos (aL hg) (aL hg)) (aF (ob h3))) (iy (by decide+kernel:(0:Rat)<2) (bg (aF h2) (le_of_lt (aL hg))))) (MI x y)
theorem PG(x y:RE):((y-(x))*(y-(x)))+((x*x-(y*y)))+2*((x-(0))*(y-(x)))=0:=by grind
theorem ac1(x y:RE)(h1:0≤x)(_h2:0≤y)(h3:x*x=y*y):y≤x:=fun hg=>far (aK (aK (mul_pos (aL hg) (aL hg)) (aF (ls h3))) (iy (by decide+kernel:(0:Rat)<2) (bg (aF h1) (le_of_lt (aL hg))))) (PG x y)
theorem D1(x y:RE)(h1:0≤x)(h2:0≤y)(h3:x*x=y*y):x=y:=le_antisymm (abl x y h1 h2 h3) (ac1 x y h1 h2 h3)
end RE
end
section
namespace RE
open RL
theorem afS(q:Rat):∃k:Nat,q<(k:Rat):=by
 refine⟨(q.floor+1).toNat,?_⟩;have h1:q<((q.floor+1:Int):Rat):=(Rat.floor_lt_iff).1 (by omega);have h2:((q.floor+1:Int):Rat)≤(((q.floor+1).toNat:Int):Rat):=ao3.2 (by omega);have h3:(((q.floor+1).toNat:Int):Rat)=(((q.floor+1).toNat:Nat):Rat):=aoY _;rw[h3]at h2;grind
theorem Vi(g d:Rat)(hg:0≤g)(hd:0<d):∃s:Rat,0≤s∧s*s≤g∧g<(s+d)*(s+d):=by
 apply amY;intro hn
 have step:∀k:Nat,((k:Rat)*d)*((k:Rat)*d)≤g:=by
  intro k;induction k with
  |zero=>rw[show((0:Nat):Rat)=0 from rfl];grind
  |succ k ih=>
   apply amY;intro hc;refine hn ⟨(k:Rat)*d,?_,ih,?_⟩
   ·have:(0:Rat)≤(k:Rat):=by
     have:=Rat.intCast_nonneg.2 (show(0:Int)≤(k:Int) by omega);rwa [aoY]at this
    exact amU this (by grind)
   ·have e:(((k+1:Nat)):Rat)=(k:Rat)+1:=by rw[Rat.natCast_add];rfl
    rw[e]at hc;grind
 obtain⟨k,hk⟩:=afS ((g+1)/d)
 have h1:g+1<(k:Rat)*d:=by
  have:=am6 (show 0<(k:Rat)-(g+1)/d by grind) hd;have e:((k:Rat)-(g+1)/d)*d=(k:Rat)*d-(g+1):=by grind
  grind
 have h2:=step k;have h3:=am6 (show 0<(k:Rat)*d-(g+1) by grind) (show 0<(k:Rat)*d by grind);have h4:=am6 (show 0<(k:Rat)*d-(g+1) by grind) (show 0<g+1 by grind);have h5:=amU hg hg;clear hn step hk;generalize (k:Rat)*d=t at h1 h2 h3 h4;grind
def eps(n:Nat):Rat:=1/((n:Rat)+1)
theorem rN(n:Nat):(0:Rat)≤(n:Rat):=by
 have:=Rat.intCast_nonneg.2 (show(0:Int)≤(n:Int) by omega);rwa [aoY]at this
theorem tH(n:Nat):0<eps n:=by
 have:=rN n;exact am6 (by grind) (apU.2 (by grind))
theorem zy(e:Rat)(he:0<e):∃N,∀n,N≤n→eps n<e:=by
 obtain⟨N,hN⟩:=afS (1/e);refine⟨N,fun n hn=>?_⟩;have h0:=rN n
 have h1:(N:Rat)≤(n:Rat):=by
  have:=ao3.2 (show(N:Int)≤(n:Int) by omega);rwa [aoY,aoY]at this
 have h2:1/e<(n:Rat)+1:=by grind
 have h3:=am6 (show 0<(n:Rat)+1-1/e by grind) (am6 he (tH n));unfold eps at h3 ⊢
 have e1:((n:Rat)+1-1/e)*(e*(1/((n:Rat)+1)))=e-1/((n:Rat)+1):=by
  have:(n:Rat)+1≠0:=by grind
  have:e≠0:=by grind
  grind
 grind
theorem Fw(n:Nat):eps n≤1:=by
 have h0:=rN n;have:=tH n;unfold eps at*;have h3:=amU h0 (show(0:Rat)≤1/((n:Rat)+1) by grind)
 have e1:(n:Rat)*(1/((n:Rat)+1))=1-1/((n:Rat)+1):=by
  have:(n:Rat)+1≠0:=by grind
  grind
 grind
theorem Nk{a b:Rat}(ha:0≤a)(hb:0≤b)(h:a*a<b*b):a<b:=by
 apply amY;intro hc;have:=amU (show 0≤a-b by grind) (show 0≤a+b by grind);grind
theorem A9(x:RE)(hx:0≤x):∃y:RE,0≤y∧y*y=x:=by
 induction x using anR
 rename_i f
 have hc:∀n,∃s:Rat,0≤s∧s*s≤(if 0≤f.f n then f.f n else 0)∧(if 0≤f.f n then f.f n else 0)<(s+eps n)*(s+eps n):=fun n=>
  Vi _ _ (by split<;>grind) (tH n)
 let g:Nat→Rat:=fun n=>if 0≤f.f n then f.f n else 0
 let s:Nat→Rat:=fun n=>Classical.choose (hc n)
 have hs:∀n,0≤s n∧s n*s n≤g n∧g n<(s n+eps n)*(s n+eps n):=fun n=>an7 (hc n)
 have hg:∀m n,g m-g n≤(if 0≤f.f m-f.f n then f.f m-f.f n else 0):=fun m n=>by
  show(if 0≤f.f m then f.f m else 0)-(if 0≤f.f n then f.f n else 0)≤_;split<;>split<;>split<;>grind
 obtain⟨B,hB,NB,hBn⟩:=f.bd
 have hgB:∀n,NB≤n→g n<B:=fun n hn=>by
  show(if 0≤f.f n then f.f n else 0)<B;have:=hBn n hn;split<;>grind
 have hsB:∀n,NB≤n→s n<B+1:=fun n hn=>by
  have h1:=hs n;have h2:=hgB n hn;refine Nk h1.1 (by grind) ?_;have:=amU (show 0≤B by grind) (show 0≤B by grind);grind
 have hcau:∀e:Rat,0<e→∃N,∀m n,N≤m→N≤n→s m-s n<e:=by
  intro e he;obtain⟨N1,h1⟩:=f.cau (e*e/4) (by have:=am6 he he;grind);obtain⟨N2,h2⟩:=zy (e/2) (by grind);refine⟨max N1 N2,fun m n hm hn=>?_⟩;apply amY;intro hne;have a1:=hs m;have a2:=hs n;have a3:=h1 m n (by omega) (by omega);have a4:=h2 n (by omega);have a5:=hg m n;have a6:=tH n;have p1:=amU (show 0≤s m-(s n+e) by grind) (show 0≤s m+(s n+e) by grind);have p2:=amU (show 0≤e/2-eps n by grind) (show 0≤(s n+e/2)+(s n+eps n) by grind);have p3:=amU (show 0≤e by grind) a2.1;have p4:=am6 he he;split at a5<;>grind
 refine⟨Quotient.mk _ ⟨s,hcau⟩,?_,ao2 fun e he=>?_⟩
 ·rintro ⟨e,he,N,h⟩
  have h1:=h N (amK _);have h2:=(hs N).1;simp only[RL.const]at h1;grind
 ·-- s n*s n is near to f n
  have hneg:∃N,∀n,N≤n→ -(e/4)<f.f n:=by
   apply amY;intro hne;obtain⟨M,hM⟩:=f.cau (e/8) (by grind);refine hx ⟨e/16,by grind,M,fun n hn=>?_⟩;apply amY;intro hge;refine hne ⟨M,fun k hk=>?_⟩;have:=hM n k hn hk;simp only[RL.const]at hge;grind
  obtain⟨N1,h1⟩:=hneg;obtain⟨N2,h2⟩:=zy (e/(4*(B+2))) (am6 he (apU.2 (by grind)));refine⟨max (max N1 N2) NB,fun n hn=>?_⟩;have a1:=hs n;have a2:=h1 n (by omega);have a3:=h2 n (by omega);have a4:=hsB n (by omega);have a5:=tH n;have a6:=Fw n
  have hgf:f.f n≤g n∧g n<f.f n+e/4:=by
   show f.f n≤(if 0≤f.f n then f.f n else 0)∧(if 0≤f.f n then f.f n else 0)<_;split<;>constructor<;>grind
  have p1:=amU (show 0≤eps n by grind) (show 0≤2*(B+2)-(2*s n+eps n) by grind)
  have p2:eps n*(2*(B+2))<e/2:=by
   have:=am6 (show 0<e/(4*(B+2))-eps n by grind) (show 0<2*(B+2) by grind)
   have e1:(e/(4*(B+2))-eps n)*(2*(B+2))=e/2-eps n*(2*(B+2)):=by
    have:B+2≠0:=by grind
    grind
   grind
  simp only[RL.mul];constructor<;>grind
open Classical in
def vF(x:RE):RE:=if h:0≤x then Classical.choose (A9 x h)else 0
theorem jF(x:RE):0≤vF x:=by
 unfold vF;split
 ·rename_i h;exact(an7 (A9 x h)).1
 ·exact lt_irrefl 0
theorem sY{x:RE}(h:0≤x):vF x*vF x=x:=by
 unfold vF;rw[dif_pos h];exact(an7 (A9 x h)).2
theorem fu{a b:Rat}:of a≤of b↔a≤b:=by
 constructor
 ·intro h;apply amY;intro hc;exact h (ik (by grind))
 ·intro h h';rcases(by grind:a<b∨a=b)with h1|h1
  ·exact lt_irrefl _ (cO h' (ik h1))
  ·rw[h1]at h';exact lt_irrefl _ h'
theorem xU{a b:Rat}(h:of a=of b):a=b:=by
 have h1:=fu.1 (show of a≤of b by rw[h];exact lt_irrefl _);have h2:=fu.1 (show of b≤of a by rw[h];exact lt_irrefl _);grind
end RE
end
section
namespace RE
open RL
open Classical in
def sg(x:RE):Int:=if 0<x then 1 else if x<0 then-1 else 0
theorem dM{x:RE}(h:0<x):sg x=1:=am7 h
theorem ju{x:RE}(h:x<0):sg x= -1:=by unfold sg;rw[am0 (fun h'=>lt_irrefl _ (cO h h')),am7 h]
theorem dZ:sg 0=0:=by unfold sg;rw[am0 (lt_irrefl _),am0 (lt_irrefl _)]
theorem bh(x:RE):(0<x∧sg x=1)∨(x=0∧sg x=0)∨(x<0∧sg x= -1):=by
 rcases mW 0 x with h|h|h
 ·exact .inl ⟨h,dM h⟩
 ·exact .inr (.inl ⟨h.symm,by rw[←h,dZ]⟩)
 ·exact .inr (.inr ⟨h,ju h⟩)
theorem oZ{x:RE}:sg x=0↔x=0:=by
 rcases bh x with⟨h,e⟩|⟨h,e⟩|⟨h,e⟩<;>rw[e]
 ·exact⟨fun h'=>by omega,fun h'=>by rw[h']at h;exact absurd h (lt_irrefl _)⟩
 ·exact⟨fun _=>h,fun _=>rfl⟩
 ·exact⟨fun h'=>by omega,fun h'=>by rw[h']at h;exact absurd h (lt_irrefl _)⟩
theorem Gz{x:RE}:sg x=1↔0<x:=by
 rcases bh x with⟨h,e⟩|⟨h,e⟩|⟨h,e⟩<;>rw[e]
 ·exact⟨fun _=>h,fun _=>rfl⟩
 ·exact⟨fun h'=>by omega,fun h'=>by rw[h]at h';exact absurd h' (lt_irrefl _)⟩
 ·exact⟨fun h'=>by omega,fun h'=>absurd (cO h h') (lt_irrefl _)⟩
theorem aa8{x:RE}:sg x= -1↔x<0:=by
 rcases bh x with⟨h,e⟩|⟨h,e⟩|⟨h,e⟩<;>rw[e]
 ·exact⟨fun h'=>by omega,fun h'=>absurd (cO h h') (lt_irrefl _)⟩
 ·exact⟨fun h'=>by omega,fun h'=>by rw[h]at h';exact absurd h' (lt_irrefl _)⟩
 ·exact⟨fun _=>h,fun _=>rfl⟩
theorem R6{x:RE}:0≤sg x↔0≤x:=by
 rcases bh x with⟨h,e⟩|⟨h,e⟩|⟨h,e⟩<;>rw[e]
 ·exact⟨fun _=>le_of_lt h,fun _=>by omega⟩
 ·exact⟨fun _=>by rw[h];exact le_refl _,fun _=>by omega⟩
 ·exact⟨fun h'=>by omega,fun h'=>absurd h h'⟩
theorem aju{x:RE}:sg x≤0↔x≤0:=by
 rcases bh x with⟨h,e⟩|⟨h,e⟩|⟨h,e⟩<;>rw[e]
 ·exact⟨fun h'=>by omega,fun h'=>absurd h h'⟩
 ·exact⟨fun _=>by rw[h];exact le_refl _,fun _=>by omega⟩
 ·exact⟨fun _=>le_of_lt h,fun _=>by omega⟩
theorem neg_mul(a b:RE): -a*b= -(a*b):=by grind
theorem mul_neg(a b:RE):a* -b= -(a*b):=by grind
theorem neg_neg(a:RE): - -a=a:=by grind
theorem sub_self(a:RE):a-a=0:=by grind
theorem Jd(a b:RE): -(a-b)=b-a:=by grind
theorem Hm(x y:RE):(x+y)*(x-y)=x*x-y*y:=by grind
theorem O3(x y:RE):((x-(0))*(0-(y)))+((x*y-(0)))=0:=by grind
theorem F6(x y:RE)(h1:0<x)(h2:y<0):x*y<0:=re.1 fun hg=>far (aK (mul_pos (aL h1) (aL h2)) (aF hg)) (O3 x y)
theorem abL(x y:RE)(h1:x<0)(h2:y<0):x+y<0:=by grind
theorem Lb(x y:RE)(h1:0<x)(h2:y<0):0<x-y:=by grind
theorem QM(x y:RE)(h1:x<0)(h2:0<y):x-y<0:=by grind
theorem OX(x y:RE)(h1:0<x)(h2:0<y):0<x+y:=by grind
theorem Do: -(0:RE)=0:=by rw[←zero_add (-0),lR]
theorem o0(x:RE):sg (-x)= -sg x:=by
 rcases bh x with⟨h,e⟩|⟨h,e⟩|⟨h,e⟩<;>rw[e]
 ·exact ju (Gq h)
 ·rw[h,Do,dZ];rfl
 ·exact dM (jN h)
theorem dQ(x y:RE):sg (x*y)=sg x*sg y:=by
 rcases bh x with⟨h,e⟩|⟨h,e⟩|⟨h,e⟩<;>rw[e]
 ·rcases bh y with⟨h',e'⟩|⟨h',e'⟩|⟨h',e'⟩<;>rw[e']
  ·exact dM (mul_pos h h')
  ·rw[h',mul_zero,dZ];rfl
  ·exact ju (F6 _ _ h h')
 ·rw[h,zero_mul,dZ];omega
 ·rcases bh y with⟨h',e'⟩|⟨h',e'⟩|⟨h',e'⟩<;>rw[e']
  ·rw[mul_comm];exact ju (F6 _ _ h' h)
  ·rw[h',mul_zero,dZ];rfl
  ·have:=mul_pos (jN h) (jN h');rw[neg_mul,mul_neg,neg_neg]at this;exact dM this
theorem sg_of(q:Rat):sg (of q)=aD q 0:=by
 rcases(by grind:q<0∨q=0∨0<q)with h|h|h
 ·rw[dH h];exact ju (ik h)
 ·rw[h,d7];exact dZ
 ·rw[dk h];exact dM (ik h)
def addS(s t d:Int):Int:=bif t==0||s==t then s else bif s==0 then t else s*d
theorem Fk(x y:RE):sg (x+y)=addS (sg x) (sg y) (sg (x*x-y*y)):=by
 rw[←Hm,dQ];rcases bh x with⟨h,e⟩|⟨h,e⟩|⟨h,e⟩<;>rw[e]
 ·rcases bh y with⟨h',e'⟩|⟨h',e'⟩|⟨h',e'⟩<;>rw[e']
  ·exact dM (OX _ _ h h')
  ·rw[h',add_zero,e];rfl
  ·rw[dM (Lb _ _ h h')];show _=1*(_*1);omega
 ·rcases bh y with⟨h',e'⟩|⟨h',e'⟩|⟨h',e'⟩<;>rw[e',h,zero_add,e']<;>rfl
 ·rcases bh y with⟨h',e'⟩|⟨h',e'⟩|⟨h',e'⟩<;>rw[e']
  ·rw[ju (QM _ _ h h')];show _= -1*(_* -1);omega
  ·rw[h',add_zero,e];rfl
  ·exact ju (abL _ _ h h')
theorem WK(x:RE): -1≤sg x∧sg x≤1:=by rcases bh x with⟨_,e⟩|⟨_,e⟩|⟨_,e⟩<;>rw[e]<;>omega
end RE
end
def vd:Nat→Nat→Nat
 |0,_=>0
 |f+1,n=>bif decide (n=0)then 0 else bif decide ((2*vd f (n/4)+1)*(2*vd f (n/4)+1)≤n)then 2*vd f (n/4)+1 else 2*vd f (n/4)
def RT(n:Nat):Nat:=vd (n.log2+1) n
theorem IT:∀(f n:Nat),n<2^f→vd f n*vd f n≤n∧n<(vd f n+1)*(vd f n+1)
 |0,n,h=>by
  have:n=0:=by simpa using h
  subst this;exact⟨amK _,by decide⟩
 |f+1,n,h=>by
  rcases anx n with h0|h0
  ·subst h0;show vd (f+1) 0*vd (f+1) 0≤0∧_;exact⟨amK _,by show 0<(0+1)*(0+1);decide⟩
  ·have h4:n/4<2^f:=by
    rw[Nat.pow_succ]at h;omega
   obtain⟨h1,h2⟩:=IT f (n/4) h4;simp only[vd];rw[amG (show ¬n=0 by omega)];generalize vd f (n/4)=s at h1 h2;have e1:(2*s)*(2*s)=4*(s*s):=by grind
   have e2:(2*s+1+1)*(2*s+1+1)=4*((s+1)*(s+1)):=by grind
   by_cases hc:(2*s+1)*(2*s+1)≤n
   ·rw[amE hc];exact⟨hc,by show n<(2*s+1+1)*(2*s+1+1);rw[e2];omega⟩
   ·rw[amG hc];exact⟨by show(2*s)*(2*s)≤n;rw[e1];omega,by show n<(2*s+1)*(2*s+1);omega⟩
theorem VV(n:Nat):RT n*RT n≤n∧n<(RT n+1)*(RT n+1):=IT _ n Nat.lt_log2_self
def bL(z:Int):Int:=(RT z.toNat:Int)
theorem gb{z:Int}(h:0≤z):0≤bL z∧bL z*bL z≤z∧z<(bL z+1)*(bL z+1):=by
 obtain⟨h1,h2⟩:=VV z.toNat
 grind [bL]
theorem sq_mono{a b:Int}(ha:0≤a)(h:a≤b):a*a≤b*b:=aoN h h ha (by omega)
theorem sq_lt{a b:Int}(hb:0≤b)(h:a*a<b*b):a<b:=by
 apply amY;intro hc;have:=sq_mono hb (show b≤a by omega);omega
theorem UG{z s:Int}(h0:0≤s)(h1:s*s≤z)(h2:z<(s+1)*(s+1)):bL z=s:=by
 obtain⟨g0,g1,g2⟩:=gb (show 0≤z by have:=sq_mono (a:=0) (by omega) h0;omega);have a1:=sq_lt (b:=s+1) (a:=bL z) (by omega) (by omega);have a2:=sq_lt (b:=bL z+1) (a:=s) (by omega) (by omega);omega
theorem Lo{a x s:Int}(hx:0<x)(_hs:0≤s)(h1:s*s≤a):s≤(x+a/x)/2:=by
 have hq:=ant a x;have hm:=anl a hx;apply amY;intro hc;have h2:a/x≤2*s-x-1:=by omega
 have h3:x*(a/x)≤x*(2*s-x-1):=amM h2 (by omega)
 have h4:0≤(s-x)*(s-x):=by
  rcases Int.le_total 0 (s-x)with h|h
  ·exact anC h h
  ·exact Int.mul_nonneg_of_nonpos_of_nonpos h h
 grind
theorem xR{a x s:Int}(hx:0<x)(hs:s≤x)(_h1:s*s≤a)(h2:a<(s+1)*(s+1))(h3:0≤s)(h:x≤(x+a/x)/2):x=s:=by
 have hq:=ant a x;have hm:=anM a (show x≠0 by omega);have h4:x≤a/x:=by omega
 have h5:x*x≤x*(a/x):=amM h4 (by omega);have:=sq_lt (a:=x) (b:=s+1) (by omega) (by omega);omega
def fO(x:BI):BI:=bif x.1 then(false,[])else ai (bL (ae x))
def vN(x:BI):Int:=bif x.1 then 7 else 0
def wq:List En:=[⟨210,pN,kS⟩,⟨172,rF,mS⟩,⟨215,pS,kx⟩,⟨269,xn,rZ⟩,⟨341,Bw,xF⟩]
def aea:NT:=[((351,25),{keep:=[1,2,5,6],hl:=6})]
def Ij:Ctx:=CX (ens wq) aea
def nj(x:Bool×List Int)(b4_0:Bool)(b4_1:List Int):Cfg:=⟨351,[.blk 0],[(1,.box 0 0),(2,.box 1 0),(5,.box 4 0),(6,.box 5 0)],[.box 29 [SB x.1,.d apX x.2],.box 29 [SB false,.nil],.gone,.row 225 apZ ([1]),.box 29 [SB b4_0,.d apX b4_1],.box 29 [SB ((ai (2:Int)).1),.d apX ((ai (2:Int)).2)]],0,[]⟩
def JB(x:Bool×List Int)(k:KT):OLR:=match x.1 with|true=>some [RV.d y2Y (false,[]),RV.d apY 7]|false=>(match(x.2.length:Int)==0 with|true=>some [RV.d y2Y (false,[]),RV.d apY 0]|false=>(og (decide ((0:Int)≤i64.wrap (Int.tdiv (i64.wrap ((x.2.length:Int)+1)) 2)∧(i64.wrap (Int.tdiv (i64.wrap ((x.2.length:Int)+1)) 2))*((4:Nat):Int)≤140737488355328∧i64.wrap (Int.tdiv (i64.wrap ((x.2.length:Int)+1)) 2)≤140737488355328)) (og (decide (((List.replicate (i64.wrap (Int.tdiv (i64.wrap ((x.2.length:Int)+1)) 2)).toNat (0:Int)).length+([1]).length)*4≤140737488355328∧(List.replicate (i64.wrap (Int.tdiv (i64.wrap ((x.2.length:Int)+1)) 2)).toNat (0:Int)).length+([1]).length≤140737488355328)) (og (decide (aR ((List.replicate (i64.wrap (Int.tdiv (i64.wrap ((x.2.length:Int)+1)) 2)).toNat (0:Int))++([1])))) (og (decide (aG (2:Int))) (k 25 (nj x ((ai (cg false (val ((List.replicate (i64.wrap (Int.tdiv (i64.wrap ((x.2.length:Int)+1)) 2)).toNat (0:Int))++([1]))))).1) ((ai (cg false (val ((List.replicate (i64.wrap (Int.tdiv (i64.wrap ((x.2.length:Int)+1)) 2)).toNat (0:Int))++([1]))))).2))))))))
theorem M3(x:Bool×List Int):RS Ij 351 [.d y2Y x] (JB x):=rsX
def ui(x:Bool×List Int)(b4_0:Bool)(b4_1:List Int)(k:KT):OLR:=og (decide (fv x (b4_0,b4_1))) (cj (og (decide (okI (b4_0,b4_1)∧okI (ai (ae x/ae (b4_0,b4_1))))) (cj (og (decide (fv (ai (ae (b4_0,b4_1)+ae (ai (ae x/ae (b4_0,b4_1))))) (ai (2:Int)))) (dup (.b .l .l) (og (decide (okI (ai (ae (ai (ae (b4_0,b4_1)+ae (ai (ae x/ae (b4_0,b4_1)))))/ae (ai (2:Int))))∧okI (b4_0,b4_1))) (match decide ((cB (ae (ai (ae (ai (ae (b4_0,b4_1)+ae (ai (ae x/ae (b4_0,b4_1)))))/ae (ai (2:Int))))) (ae (b4_0,b4_1)))≥0)with|true=>some [RV.d y2Y (b4_0,b4_1),RV.d apY 0]|false=>k 25 (nj x ((ai (ae (ai (ae (b4_0,b4_1)+ae (ai (ae x/ae (b4_0,b4_1)))))/ae (ai (2:Int)))).1) ((ai (ae (ai (ae (b4_0,b4_1)+ae (ai (ae x/ae (b4_0,b4_1)))))/ae (ai (2:Int)))).2)))))) (dup (.b (.b .l .l) (.b .l .l)) (og (decide (fv (ai (ae (b4_0,b4_1)+ae (ai (ae x/ae (b4_0,b4_1))))) (ai (2:Int)))) (og (decide (okI (ai (ae (ai (ae (b4_0,b4_1)+ae (ai (ae x/ae (b4_0,b4_1)))))/ae (ai (2:Int))))∧okI (b4_0,b4_1))) (match decide ((cB (ae (ai (ae (ai (ae (b4_0,b4_1)+ae (ai (ae x/ae (b4_0,b4_1)))))/ae (ai (2:Int))))) (ae (b4_0,b4_1)))≥0)with|true=>some [RV.d y2Y (b4_0,b4_1),RV.d apY 0]|false=>k 25 (nj x ((ai (ae (ai (ae (b4_0,b4_1)+ae (ai (ae x/ae (b4_0,b4_1)))))/ae (ai (2:Int)))).1) ((ai (ae (ai (ae (b4_0,b4_1)+ae (ai (ae x/ae (b4_0,b4_1)))))/ae (ai (2:Int)))).2)))))))) (dup (.b .l .l) (cj (og (decide (okI (b4_0,b4_1)∧okI (ai (ae x/ae (b4_0,b4_1))))) (dup (.b .l .l) (og (decide (fv (ai (ae (b4_0,b4_1)+ae (ai (ae x/ae (b4_0,b4_1))))) (ai (2:Int)))) (og (decide (okI (ai (ae (ai (ae (b4_0,b4_1)+ae (ai (ae x/ae (b4_0,b4_1)))))/ae (ai (2:Int))))∧okI (b4_0,b4_1))) (match decide ((cB (ae (ai (ae (ai (ae (b4_0,b4_1)+ae (ai (ae x/ae (b4_0,b4_1)))))/ae (ai (2:Int))))) (ae (b4_0,b4_1)))≥0)with|true=>some [RV.d y2Y (b4_0,b4_1),RV.d apY 0]|false=>k 25 (nj x ((ai (ae (ai (ae (b4_0,b4_1)+ae (ai (ae x/ae (b4_0,b4_1)))))/ae (ai (2:Int)))).1) ((ai (ae (ai (ae (b4_0,b4_1)+ae (ai (ae x/ae (b4_0,b4_1)))))/ae (ai (2:Int)))).2))))))) (og (decide (okI (b4_0,b4_1)∧okI (ai (ae x/ae (b4_0,b4_1))))) (og (decide (fv (ai (ae (b4_0,b4_1)+ae (ai (ae x/ae (b4_0,b4_1))))) (ai (2:Int)))) (og (decide (okI (ai (ae (ai (ae (b4_0,b4_1)+ae (ai (ae x/ae (b4_0,b4_1)))))/ae (ai (2:Int))))∧okI (b4_0,b4_1))) (match decide ((cB (ae (ai (ae (ai (ae (b4_0,b4_1)+ae (ai (ae x/ae (b4_0,b4_1)))))/ae (ai (2:Int))))) (ae (b4_0,b4_1)))≥0)with|true=>some [RV.d y2Y (b4_0,b4_1),RV.d apY 0]|false=>k 25 (nj x ((ai (ae (ai (ae (b4_0,b4_1)+ae (ai (ae x/ae (b4_0,b4_1)))))/ae (ai (2:Int)))).1) ((ai (ae (ai (ae (b4_0,b4_1)+ae (ai (ae x/ae (b4_0,b4_1)))))/ae (ai (2:Int)))).2)))))))))
theorem zH(x:Bool×List Int)(b4_0:Bool)(b4_1:List Int):RN Ij 25 (nj x b4_0 b4_1) (ui x b4_0 b4_1):=rnX
def acG:NT:=[((354,16),{keep:=[1,4,5],hl:=1})]
def HJ:Ctx:=CX (ens wq) acG
def wc(x:Bool×List Int)(s4 s5:Int):Cfg:=⟨354,[.blk 0,.seq 27],[(1,.box 0 0),(4,.d (.int .u64) s4),(5,SI s5)],[.box 29 [SB x.1,.d apX x.2]],0,[]⟩
def IF(x:Bool×List Int)(k:KT):OLR:=og (decide (aG ((-9223372036854775808):Int))) (og (decide (okI x∧okI (ai ((-9223372036854775808):Int)))) (dup (.b .l .l) (match decide ((cB (ae x) (ae (ai ((-9223372036854775808):Int))))<0)with|true=>some [RV.d apY 0,RV.d .bool false]|false=>(og (decide (aG (9223372036854775807:Int))) (og (decide (okI x∧okI (ai (9223372036854775807:Int)))) (match decide ((cB (ae x) (ae (ai (9223372036854775807:Int))))>0)with|true=>some [RV.d apY 0,RV.d .bool false]|false=>k 16 (wc x 0 (i64.wrap ((x.2.length:Int)-1)))))))))
theorem Qk(x:Bool×List Int):RS HJ 354 [.d y2Y x] (IF x):=rsX
def uh(x:Bool×List Int)(s4 s5:Int)(k:KT):OLR:=match decide (s5≥0)with|true=>(match aS x.2 s5 with|some x1=>k 16 (wc x (u64.wrap ((u64.wrap (s4*1000000000))+(u64.wrap x1))) (i64.wrap (s5-1)))|none=>none)|false=>(match x.1 with|true=>some [RV.d apY (i64.wrap (u64.wrap (0-s4))),RV.d .bool true]|false=>some [RV.d apY (i64.wrap s4),RV.d .bool true])
theorem zx(x:Bool×List Int)(s4 s5:Int):RN HJ 16 (wc x s4 s5) (uh x s4 s5):=rnX
theorem ON(x:BI)(hx:okI x)(h0:0<ae x):∀(m:Nat) (X:Int),X.toNat=m→0<X→bL (ae x)≤X→szI X≤900000→Ij.Runs 25 (nj x (ai X).1 (ai X).2) [.d y2Y (ai (bL (ae x))),.d apY 0]:=by
 intro m;induction m using Nat.strongRecOn with
 |ind m ih=>
  intro X hm hX hs hsz;obtain⟨g0,g1,g2⟩:=gb (ank h0);have hq0:0≤ae x/X:=anH (by omega) (by omega);have hq1:ae x/X≤ae x:=aov _ (by omega);have oX:okI (ai X):=aV (by omega);have sq:szI (ae x/X)≤1000000:=amS (dA (by omega)) (iK hx);have p1:fv x (ai X):=⟨hx,oX,by rw[dec_enc];exact hX⟩
  have ssum:szI (X+ae x/X)≤1000000:=by
   have b1:=nt hsz;have b2:=nt (iK hx);have e:pw 1000000=pw 900000*pw 100000:=by rw[←fC]
   have p9:(1000:Int)≤pw 100000:=by
    have:pw 100000=pw 99999*1000000000:=cf 99999;have:=cA 99999;omega
   have p8:=cA 900000;have h8:pw 900000*1000≤pw 900000*pw 100000:=amM p9 (by omega);rcases am8 X 2 with hX1|hX1
   ·-- X=1:then the number is less than 4
    have:X=1:=by omega
    subst this;have:bL (ae x)≤1:=hs
    have h4:ae x<4:=by
     have:=sq_mono (a:=bL (ae x)+1) (b:=2) (by omega) (by omega);omega
    refine fk ?_ ?_<;>(rw[e,Int.ediv_one];omega)
   ·have hq2:ae x/X≤ae x/2:=by
     have:=Int.ediv_mul_le (ae x) (show X≠0 by omega);have h2:ae x/X*2≤ae x/X*X:=amM hX1 hq0;omega
    refine fk ?_ ?_<;>(rw[e]at b2 ⊢;omega)
  have o1:okI (ai X)∧okI (ai (ae x/X)):=⟨oX,aV sq⟩
  have p2:fv (ai (X+ae x/X)) (ai 2):=⟨aV ssum,by decide,by rw[dec_enc];decide⟩
  have hn:=Lo hX g0 g1;have o2:okI (ai ((X+ae x/X)/2))∧okI (ai X):=⟨aV (amS (dA (by omega)) ssum),oX⟩
  by_cases hc:X≤(X+ae x/X)/2
  ·have hXs:=xR hX hs g1 g2 g0 hc;refine zH _ _ _ ⟨0,?_⟩;unfold ui;simp only[cX,eZ];have e:∀z:Int,((ai z).1,(ai z).2)=ai z:=fun z=>rfl;simp only[e,dec_enc,amE p1,amE o1,amE p2,amE o2]
   have hg:decide (cB ((X+ae x/X)/2) X≥0)=true:=by
    rcases Int.lt_or_eq_of_le hc with h|h
    ·rw[cV h];rfl
    ·rw[←h,dW];rfl
   rw[hg,hXs]
  ·obtain⟨n,hN⟩:=ih ((X+ae x/X)/2).toNat (by omega) ((X+ae x/X)/2) rfl (by
    rcases am8 0 (bL (ae x))with h|h
    ·omega
    ·exfalso;have:bL (ae x)=0:=by omega
     rw[this]at g2;omega) hn (amS (dA (by omega)) hsz)
   refine zH _ _ _ ⟨n,?_⟩;unfold ui;simp only[cX,eZ];have e:∀z:Int,((ai z).1,(ai z).2)=ai z:=fun z=>rfl;simp only[e,dec_enc,amE p1,amE o1,amE p2,amE o2];rw[db (by omega)];exact hN
def WW:Cn 351 [y2Y]:=cn fun(x:Bool×List Int)=>lf (okI x) [.d y2Y (fO x),.d apY (vN x)] fun h=>by
 refine c8 wq (show Ij.Res _ _ _ from ?_);obtain⟨x0,x1,x2⟩:=cL h;have hl:=h.2.2;cases hn:x.1
 ·by_cases hz:x.2=[]
  ·refine M3 _ ⟨0,?_⟩;unfold JB fO vN;have:ae x=0:=by unfold ae;rw[hn,hz];rfl
   rw[hn,hz,this];rfl
  ·have hp:0<val x.2:=eK h.1 hz;have hd:ae x=val x.2:=by unfold ae;rw[hn];rfl
   have hlen:=anm.2 hz
   have hk:i64.wrap (Int.tdiv (i64.wrap ((x.2.length:Int)+1)) 2)=(((x.2.length+1)/2:Nat):Int):=by
    rw[b8 (by omega),gW (by omega),aT (by omega) (by omega)];omega
   have hv:val (List.replicate ((x.2.length+1)/2) 0++[1])=pw ((x.2.length+1)/2):=by
    rw[dw,gJ,apa];simp[val]
   have hL:aR (List.replicate ((x.2.length+1)/2) 0++[1]):=by
    refine⟨fun y hy=>?_,by simp;omega⟩;rcases ano.1 hy with hy|hy
    ·have:=List.eq_of_mem_replicate hy;omega
    ·simp at hy;omega
   have hpos:=cA ((x.2.length+1)/2)
   obtain⟨n,hN⟩:=ON x h (by omega) _ (pw ((x.2.length+1)/2)) rfl hpos (by
     obtain⟨g0,g1,g2⟩:=gb (show 0≤ae x by omega);have hlt:=b9 h.1.1;have hm:=dl (show x.2.length≤(x.2.length+1)/2+(x.2.length+1)/2 by omega);rw[fC]at hm;have:=sq_lt (a:=bL (ae x)) (b:=pw ((x.2.length+1)/2)) (by omega) (by omega)
     omega) (fk (k:=900000) (by have:=cA 900000;omega) (by
      have:=dl (show(x.2.length+1)/2+1≤900000 by omega);rw[cf]at this;omega))
   refine M3 _ ⟨n,?_⟩;unfold JB fO vN;simp only[hk];rw[hn,show((x.2.length:Int)==0)=false by simp;omega];simp only[aoi];rw[amE (show(0:Int)≤(((x.2.length+1)/2:Nat):Int)∧(((x.2.length+1)/2:Nat):Int)*((4:Nat):Int)≤140737488355328∧(((x.2.length+1)/2:Nat):Int)≤140737488355328 by omega)];rw[amE (show((List.replicate ((x.2.length+1)/2) (0:Int)).length+([1]:List Nat).length)*4≤140737488355328∧(List.replicate ((x.2.length+1)/2) (0:Int)).length+([1]:List Nat).length≤140737488355328 by simp;omega)];rw[amE hL,amE (show aG 2 by decide),hv];exact hN
 ·refine M3 _ ⟨0,?_⟩;unfold JB fO vN;rw[hn];rfl
theorem Es(x:BI)(hx:okI x)(hv:val x.2≤9223372036854775808):∀(i:Nat),i≤x.2.length→HJ.Runs 16 (wc x (val (x.2.drop i)) ((i:Int)-1)) [.d apY (i64.wrap (bif x.1 then u64.wrap (0-val x.2)else val x.2)),.d .bool true]
 |0,_=>by
  refine zx _ _ _ ⟨0,?_⟩;unfold uh;rw[amG (by omega),aoj];cases x.1<;>rfl
 |i+1,hi=>by
  obtain⟨n,ih⟩:=Es x hx hv i (by omega);have h0:=hx.2.2;have hlim:=hx.1.1;have hd:x.2.drop i=x.2[i]::x.2.drop (i+1):=gI (by omega)
  have hle:∀j,val (x.2.drop j)≤9223372036854775808∧0≤val (x.2.drop j):=fun j=>by
   have l1:Lim (x.2.drop j):=fun y hy=>hlim y (aoP hy);have l2:Lim (x.2.take j):=fun y hy=>hlim y (aoO hy);have:=dw (x.2.take j) (x.2.drop j);rw[an2]at this;have n1:=aQ l1;have n2:=aQ l2;have p:=cA (x.2.take j).length
   have:val (x.2.drop j)≤pw (x.2.take j).length*val (x.2.drop j):=by
    have:=amR (show 1≤pw (x.2.take j).length by omega) n1;omega
   omega
  have hb:=hlim x.2[i] (ane _);have hv1:=hle i;have hv2:=hle (i+1);rw[hd]at hv1 ih;simp only[val]at hv1 ih;refine zx _ _ _ ⟨n,?_⟩;unfold uh;rw[show(((i+1:Nat):Int)-1)=(i:Int) by omega,amE (by omega),av,amF (by omega)];dsimp only;rw[bG (x:=val (x.2.drop (i+1))*1000000000) (by omega) (by omega),bG (x:=x.2[i]) (by omega) (by omega),bG (by omega) (by omega),aT (by omega) (by omega)];rw[show val (x.2.drop (i+1))*1000000000+x.2[i]=x.2[i]+1000000000*val (x.2.drop (i+1)) by omega];exact ih
def XO:Cn 354 [y2Y]:=cn fun(x:Bool×List Int)=>lf (okI x) [.d apY (bif decide (aG (ae x))then ae x else 0),.d .bool (decide (aG (ae x)))] fun h=>by
 refine c8 wq (show HJ.Res _ _ _ from ?_);obtain⟨x0,x1,x2⟩:=cL h;have o1:okI x∧okI (ai (-9223372036854775808)):=⟨h,by decide⟩
 have o2:okI x∧okI (ai 9223372036854775807):=⟨h,by decide⟩
 have hl:=h.2.2;by_cases h1:ae x< -9223372036854775808
 ·refine Qk _ ⟨0,?_⟩;unfold IF;simp only[eZ,dec_enc,amE o1];rw[amE (show aG (-9223372036854775808) by decide),db h1,amG (show ¬aG (ae x) from fun g=>by have:=g.1;omega)];rfl
 ·have c1:decide (cB (ae x) (-9223372036854775808)<0)=false:=by
   rcases Int.lt_or_eq_of_le (show-9223372036854775808≤ae x by omega)with g|g
   ·rw[cV g];rfl
   ·rw[←g,dW];rfl
  by_cases h2:9223372036854775807<ae x
  ·refine Qk _ ⟨0,?_⟩;unfold IF;simp only[eZ,dec_enc,amE o1,amE o2];rw[amE (show aG (-9223372036854775808) by decide),c1,amE (show aG 9223372036854775807 by decide),cV h2,amG (show ¬aG (ae x) from fun g=>by have:=g.2;omega)];rfl
  ·have c2:decide (cB (ae x) 9223372036854775807>0)=false:=by
    rcases Int.lt_or_eq_of_le (show ae x≤9223372036854775807 by omega)with g|g
    ·rw[db g];rfl
    ·rw[g,dW];rfl
   have hp:aG (ae x):=⟨by omega,by omega⟩
   have hvv:val x.2≤9223372036854775808:=by
    have g1:=hp.1;have g2:=hp.2;have hd:ae x=bif x.1 then-val x.2 else val x.2:=rfl;cases hb:x.1<;>rw[hb]at hd<;>simp only[cond_true,cond_false]at hd<;>omega
   obtain⟨n,hN⟩:=Es x h hvv x.2.length (amK _);refine Qk _ ⟨n,?_⟩;unfold IF;simp only[eZ,dec_enc,amE o1,amE o2];rw[amE (show aG (-9223372036854775808) by decide),c1,amE (show aG 9223372036854775807 by decide),c2,amE hp];rw[aoZ]at hN;rw[aT (by omega) (by omega)];refine hN.trans ?_
   have hr:i64.wrap (bif x.1 then u64.wrap (0-val x.2)else val x.2)=ae x:=by
    have hd:ae x=bif x.1 then-val x.2 else val x.2:=rfl;have:=hp.1;have:=hp.2;cases hb:x.1<;>rw[hb]at hd<;>simp only[cond_true,cond_false]at hd ⊢
    ·rw[aT (by omega) (by omega)];omega
    ·have:=x1 hb;rw[anv,IntKind.wrap_i64];omega
   rw[hr];rfl
def t8(a:List Int):Prop:=aR a∧val a<18446744073709551616
instance (a:List Int):Decidable (t8 a):=by unfold t8;infer_instance
def ru(a b:List Int):Prop:=(can a∧a.length≤1000000000)∧(can b∧b.length≤1000000000)
instance (a b:List Int):Decidable (ru a b):=by unfold ru;infer_instance
def jv(l:List Int):Prop:=Lim l∧l.length≤10000000
instance (l:List Int):Decidable (jv l):=by unfold jv;infer_instance
theorem cH{n:Nat}(h:(ah n).length≤1000000000):aR (ah n):=⟨cd n,h⟩
theorem bZ{v:Int}(h:0≤v):val (ah v.toNat)=v:=by grind [bj]
theorem cG{v:Int}{k:Nat}(h0:0≤v)(h:v<pw k):(ah v.toNat).length≤k:=dm (by omega)
def nH:List En:=[]
def VZ:NT:=[((263,4),{keep:=[0],pure_:=[(0,.int .u32)],hl:=0})]
def Ci:Ctx:=CX (ens nH) VZ
def vV(s0:List Int):Cfg:=⟨263,[.blk 0,.seq 13],[(0,.d apX s0)],[],0,[]⟩
def ac2(a:List Int)(k:KT):OLR:=k 4 (vV a)
theorem acM(a:List Int):RS Ci 263 [.d apX a] (ac2 a):=rsX
def ut(s0:List Int)(k:KT):OLR:=match decide ((s0.length:Int)>0)with|true=>(match aS s0 (i64.wrap ((s0.length:Int)-1))with|some x1=>(match x1==0 with|true=>(og (decide ((0:Int)≤0∧0≤i64.wrap ((s0.length:Int)-1)∧i64.wrap ((s0.length:Int)-1)≤(s0.length:Int))) (k 4 (vV ((s0.take (i64.wrap ((s0.length:Int)-1)).toNat).drop (0:Int).toNat))))|false=>some [RV.d apX s0])|none=>none)|false=>some [RV.d apX s0]
theorem uY(s0:List Int):RN Ci 4 (vV s0) (ut s0):=rnX
def TJ:NT:=[((265,8),{keep:=[0,3,4],hl:=0})]
def Bg:Ctx:=CX (ens nH) TJ
def vS(a:List Int)(s3 s4:Int):Cfg:=⟨265,[.blk 0,.seq 19],[(0,.d apX a),(3,.d (.int .u64) s3),(4,SI s4)],[],0,[]⟩
def QF(a:List Int)(k:KT):OLR:=k 8 (vS a 0 (i64.wrap ((a.length:Int)-1)))
theorem ab6(a:List Int):RS Bg 265 [.d apX a] (QF a):=rsX
def uM(a:List Int)(s3 s4:Int)(k:KT):OLR:=match decide (s4≥0)with|true=>(match aS a s4 with|some x1=>k 8 (vS a (u64.wrap ((u64.wrap (s3*1000000000))+(u64.wrap x1))) (i64.wrap (s4-1)))|none=>none)|false=>some [RV.d (.int .u64) s3]
theorem Al(a:List Int)(s3 s4:Int):RN Bg 8 (vS a s3 s4) (uM a s3 s4):=rnX
def To:NT:=[((182,6),{keep:=[0,3],own:=[(3,225,.int .u32)],hl:=1})]
def AZ:Ctx:=CX (ens nH) To
def wx(s0:Int)(r0:List Int):Cfg:=⟨182,[.blk 0,.seq 17],[(0,.d (.int .u64) s0),(3,.own 0)],[.row 225 apZ r0],0,[]⟩
def ac6(u:Int)(k:KT):OLR:=k 6 (wx u ([]))
theorem aer(u:Int):RS AZ 182 [.d (.int .u64) u] (ac6 u):=rsX
def uJ(s0:Int)(r0:List Int)(k:KT):OLR:=match decide (s0>0)with|true=>(og (decide ((r0.length+([u32.wrap (Int.tmod s0 1000000000)]).length)*4≤140737488355328∧r0.length+([u32.wrap (Int.tmod s0 1000000000)]).length≤140737488355328)) (k 6 (wx (u64.wrap (Int.tdiv s0 1000000000)) (r0++([u32.wrap (Int.tmod s0 1000000000)])))))|false=>some [RV.new 225 apZ r0]
theorem Aj(s0:Int)(r0:List Int):RN AZ 6 (wx s0 r0) (uJ s0 r0):=rnX
def V5:NT:=[((168,22),{keep:=[0,1,5],hl:=0})]
def A5:Ctx:=CX (ens nH) V5
def sd(a b:List Int)(s5:Int):Cfg:=⟨168,[.blk 0,.seq 47],[(0,.d apX a),(1,.d apX b),(5,SI s5)],[],0,[]⟩
def Fg(a b:List Int)(k:KT):OLR:=match(a.length:Int) !=(b.length:Int)with|true=>(match decide ((a.length:Int)<(b.length:Int))with|true=>some [RV.d apY (-1)]|false=>some [RV.d apY 1])|false=>k 22 (sd a b (i64.wrap ((a.length:Int)-1)))
theorem Pq(a b:List Int):RS A5 168 [.d apX a,.d apX b] (Fg a b):=rsX
def kw(a b:List Int)(s5:Int)(k:KT):OLR:=match decide (s5≥0)with|true=>(match aS a s5 with|some x1=>(match aS b s5 with|some x2=>(match decide (x1<x2)with|true=>some [RV.d apY (-1)]|false=>(match aS a s5 with|some x3=>(match aS b s5 with|some x4=>(match decide (x3>x4)with|true=>some [RV.d apY 1]|false=>k 22 (sd a b (i64.wrap (s5-1))))|none=>none)|none=>none))|none=>none)|none=>none)|false=>some [RV.d apY 0]
theorem nw(a b:List Int)(s5:Int):RN A5 22 (sd a b s5) (kw a b s5):=rnX
theorem KL(l:List Int)(hl:Lim l)(hs:l.length≤1000000000):∀(n:Nat),n≤l.length→(∀j (hj:j<l.length),n≤j→l[j]=0)→Ci.Runs 4 (vV (l.take n)) [.d apX (ah (val l).toNat)]:=by
 intro n;induction n with
 |zero=>
  intro _ h;refine uY _ ⟨0,?_⟩;rw[←m5 hl (ao7 _) h (.inl rfl)];rfl
 |succ n ih=>
  intro hn h;have hlen:(l.take (n+1)).length=n+1:=by rw[anp,ans hn]
  have hget:(l.take (n+1))[n]?=some l[n]:=by rw[List.getElem?_take_of_lt (by omega),amF (by omega)]
  by_cases hz:l[n]=0
  ·obtain⟨q,hq⟩:=ih (by omega) fun j hj hk=>by
    rcases Nat.eq_or_lt_of_le hk with e|e
    ·subst e;exact hz
    ·exact h j hj e
   refine uY _ ⟨q,?_⟩;unfold ut;rw[hlen,amE (by omega),KW (by omega) (by omega),av,show n+1-1=n from rfl,hget];dsimp only;rw[hz,amE (show(0:Int)≤0∧(0:Int)≤(n:Int)∧(n:Int)≤((n+1:Nat):Int) by omega),aE,apL,ans (by omega)];exact hq
  ·refine uY _ ⟨0,?_⟩;unfold ut;rw[hlen,amE (by omega),KW (by omega) (by omega),av,show n+1-1=n from rfl,hget];dsimp only;rw[show(l[n]==0)=false by simpa using hz,←m5 hl hn h (.inr ⟨Nat.lt_of_succ_le hn,hz⟩)]
def xf:Cn 263 [apX]:=cn fun(a:List Int)=>lf (aR a) [.d apX (ah (val a).toNat)] fun h=>by
 refine c8 nH (show Ci.Res _ _ _ from ?_);obtain⟨q,hq⟩:=KL a h.1 h.2 a.length (amK _) (fun j hj hk=>by omega);rw[anX]at hq;exact acM _ ⟨q,hq⟩
theorem J0(u:Nat):∀(r:List Int),(u:Int)<18446744073709551616→r.length+3≤1000+3-(ah u).length→AZ.Runs 6 (wx (u:Int) r) [.new 225 apZ (r++ah u)]:=by
 induction u using qD with
 |h0=>
  intro r _ _;refine Aj _ _ ⟨0,?_⟩;unfold uJ;rw[fP,am9];rfl
 |h1 n hn ih=>
  intro r hu hr;rw[iR hn]at hr;simp only[amV]at hr;obtain⟨q,hq⟩:=ih (r++[((n%1000000000:Nat):Int)]) (by omega) (by rw[ana];simp only[am2];omega);refine Aj _ _ ⟨q,?_⟩;unfold uJ;rw[amE (by omega),jD (by omega),gW (by omega),bG (x:=(n:Int)/1000000000) (by omega) (by omega),da (x:=(n:Int)%1000000000) (by omega) (by omega)];simp only[am2];rw[aeR (by omega) (by omega),iR hn];rw[show((n:Int)%1000000000)=((n%1000000000:Nat):Int) by omega,show((n:Int)/1000000000)=((n/1000000000:Nat):Int) by omega];rw[am3]at hq;exact hq
def Br:Cn 182 [(.int .u64)]:=cn fun(u:Int)=>lf (iB u) [.new 225 apZ (ah u.toNat)] fun h=>by
 refine c8 nH (show AZ.Res _ _ _ from ?_);have h0:=h.1;have h1:=h.2;have hl:=dm (n:=u.toNat) (k:=3) (ao5 (show(u.toNat:Int)<18446744073709551616 by omega) (by decide));obtain⟨q,hq⟩:=J0 u.toNat [] (by omega) (by simp;omega)
 rw[show((u.toNat:Nat):Int)=u by omega]at hq;exact aer _ ⟨q,hq⟩
theorem zV(a:List Int)(h:t8 a):∀(i:Nat),i≤a.length→Bg.Runs 8 (vS a (val (a.drop i)) ((i:Int)-1)) [.d (.int .u64) (val a)]
 |0,_=>by
  refine Al _ _ _ ⟨0,?_⟩;unfold uM;rw[amG (by omega),aoj]
 |i+1,hi=>by
  obtain⟨n,ih⟩:=zV a h i (by omega);have h0:=h.1.2;have hlim:=h.1.1;have hlt:=h.2;have hd:a.drop i=a[i]::a.drop (i+1):=gI (by omega)
  have hle:∀j,val (a.drop j)≤val a∧0≤val (a.drop j):=fun j=>by
   have l1:Lim (a.drop j):=fun y hy=>hlim y (aoP hy);have l2:Lim (a.take j):=fun y hy=>hlim y (aoO hy);have:=dw (a.take j) (a.drop j);rw[an2]at this;have n1:=aQ l1;have n2:=aQ l2;have p:=cA (a.take j).length
   have:val (a.drop j)≤pw (a.take j).length*val (a.drop j):=by
    have:=amR (show 1≤pw (a.take j).length by omega) n1;omega
   omega
  have hb:=hlim a[i] (ane _);have hv1:=hle i;have hv2:=hle (i+1);rw[hd]at hv1 ih;simp only[val]at hv1 ih;refine Al _ _ _ ⟨n,?_⟩;unfold uM;rw[show(((i+1:Nat):Int)-1)=(i:Int) by omega,amE (by omega),av,amF (by omega)];dsimp only;rw[bG (x:=val (a.drop (i+1))*1000000000) (by omega) (by omega),bG (x:=a[i]) (by omega) (by omega),bG (by omega) (by omega),aT (by omega) (by omega)];rw[show val (a.drop (i+1))*1000000000+a[i]=a[i]+1000000000*val (a.drop (i+1)) by omega];exact ih
def BN:Cn 265 [apX]:=cn fun(a:List Int)=>lf (t8 a) [.d (.int .u64) (val a)] fun h=>by
 refine c8 nH (show Bg.Res _ _ _ from ?_);obtain⟨n,hn⟩:=zV a h a.length (amK _);have h0:=h.1.2;refine ab6 _ ⟨n,?_⟩;unfold QF;rw[aoZ]at hn;rw[aT (by omega) (by omega)];exact hn
theorem KN(a b:List Int)(la:Lim a)(lb:Lim b)(hl:a.length=b.length)(hs:a.length≤1000000000):∀(n:Nat),n≤a.length→a.drop n=b.drop n→
  A5.Runs 22 (sd a b ((n:Int)-1)) [.d apY (cB (val a) (val b))]:=by
 intro n;induction n with
 |zero=>
  intro _ h;refine nw _ _ _ ⟨0,?_⟩;have e:val a=val b:=by simp only[aoj]at h;rw[h]
  unfold kw;rw[amG (by omega),e,dW]
 |succ n ih=>
  intro hn h;have h1:n<a.length:=by omega
  have h2:n<b.length:=by omega
  rcases Int.lt_trichotomy a[n] b[n]with hc|hc|hc
  ·refine nw _ _ _ ⟨0,?_⟩;have:=Bz la lb h1 h2 h hc;unfold kw;rw[show((n+1:Nat):Int)-1=(n:Int) by omega,amE (by omega),av,av,amF h1,amF h2];dsimp only;rw[amE hc,db (by omega)]
  ·obtain⟨q,hq⟩:=ih (by omega) (by rw[amX h1,amX h2,hc,h]);refine nw _ _ _ ⟨q,?_⟩;unfold kw;rw[show((n+1:Nat):Int)-1=(n:Int) by omega,amE (by omega),av,av,amF h1,amF h2];dsimp only;rw[amG (by omega),amG (by omega),aT (x:=(n:Int)-1) (by omega) (by omega)];exact hq
  ·refine nw _ _ _ ⟨0,?_⟩;have:=Bz lb la h2 h1 h.symm hc;unfold kw;rw[show((n+1:Nat):Int)-1=(n:Int) by omega,amE (by omega),av,av,amF h1,amF h2];dsimp only;rw[amG (by omega),amE hc,cV (by omega)]
theorem Hv{a b:List Int}(ha:can a)(hb:can b)(h:a.length<b.length):val a<val b:=by
 have ea:=pP ha;have eb:=pP hb;have:=wg (a:=(val a).toNat) (b:=(val b).toNat) (by rw[←ea,←eb];exact h);omega
def xp:Cn 168 [apX,apX]:=cn fun(a b:List Int)=>lf (ru a b) [.d apY (cB (val a) (val b))] fun h=>by
 refine c8 nH (show A5.Res _ _ _ from ?_);obtain⟨⟨ha,sa⟩,hb,sb⟩:=h;by_cases hl:a.length=b.length
 ·obtain⟨q,hq⟩:=KN a b ha.1 hb.1 hl sa _ (amK _) (by rw[aoZ,hl,aoZ]);refine Pq _ _ ⟨q,?_⟩;unfold Fg;rw[show((a.length:Int) !=(b.length:Int))=false by simp[hl],aT (x:=(a.length:Int)-1) (by omega) (by omega)];exact hq
 ·refine Pq _ _ ⟨0,?_⟩;unfold Fg;rw[show((a.length:Int) !=(b.length:Int))=true by simp;omega];dsimp only;rcases Nat.lt_or_gt_of_ne hl with h1|h1
  ·have:=Hv ha hb h1;rw[amE (by omega),db (by omega)]
  ·have:=Hv hb ha h1;rw[amG (by omega),cV (by omega)]
def rD:List En:=enK xf::enK Br::enF BN::enF xp::nH
def Pf(neg:Bool)(l:List Int)(_k:KT):OLR:=og (decide (aR l)) (match neg with|true=>some [RV.d y2Y (decide (((ah (val l).toNat).length:Int)>0),ah (val l).toNat)]|false=>some [RV.d y2Y (false,ah (val l).toNat)])
def T9:NT:=[((167,16),{keep:=[0,1,5,6,7],hl:=1})]
def xq:Ctx:=CX (ens rD) T9
def kX(s0 s1 r0:List Int)(s6 s7:Int):Cfg:=⟨167,[.blk 0,.seq 37],[(0,.d apX s0),(1,.d apX s1),(5,.own 0),(6,.d apZ s6),(7,SI s7)],[.row 225 apZ r0],0,[]⟩
def F1(a b:List Int)(k:KT):OLR:=match decide ((a.length:Int)<(b.length:Int))with|true=>(og (decide ((0:Int)≤i64.wrap ((b.length:Int)+1)∧(i64.wrap ((b.length:Int)+1))*((4:Nat):Int)≤140737488355328∧i64.wrap ((b.length:Int)+1)≤140737488355328)) (k 16 (kX b a (List.replicate (i64.wrap ((b.length:Int)+1)).toNat (0:Int)) 0 0)))|false=>(og (decide ((0:Int)≤i64.wrap ((a.length:Int)+1)∧(i64.wrap ((a.length:Int)+1))*((4:Nat):Int)≤140737488355328∧i64.wrap ((a.length:Int)+1)≤140737488355328)) (k 16 (kX a b (List.replicate (i64.wrap ((a.length:Int)+1)).toNat (0:Int)) 0 0)))
theorem Lp(a b:List Int):RS xq 167 [.d apX a,.d apX b] (F1 a b):=rsX
def nB(s0 s1 r0:List Int)(s6 s7:Int)(k:KT):OLR:=match decide (s7<(s0.length:Int))with|true=>(match aS s0 s7 with|some x1=>(match decide (s7<(s1.length:Int))with|true=>(match aS s1 s7 with|some x2=>(match aS r0 s7 with|some _=>(match true,r0[(s7).toNat]? with|true,some _=>k 16 (kX s0 s1 (r0.set ((s7).toNat) (Int.tmod (u32.wrap ((u32.wrap (s6+x1))+x2)) 1000000000)) (u32.wrap (Int.tdiv (u32.wrap ((u32.wrap (s6+x1))+x2)) 1000000000)) (i64.wrap (s7+1)))|_,_=>none)|none=>none)|none=>none)|false=>(match aS r0 s7 with|some _=>(match true,r0[(s7).toNat]? with|true,some _x2=>k 16 (kX s0 s1 (r0.set ((s7).toNat) (Int.tmod (u32.wrap (s6+x1)) 1000000000)) (u32.wrap (Int.tdiv (u32.wrap (s6+x1)) 1000000000)) (i64.wrap (s7+1)))|_,_=>none)|none=>none))|none=>none)|false=>(match aS r0 (s0.length:Int)with|some _=>(match true,r0[((s0.length:Int)).toNat]? with|true,some _x1=>(og (decide (aR (r0.set (((s0.length:Int)).toNat) s6))) (some [RV.d apX (ah (val (r0.set (((s0.length:Int)).toNat) s6)).toNat)]))|_,_=>none)|none=>none)
theorem rX(s0 s1 r0:List Int)(s6 s7:Int):RN xq 16 (kX s0 s1 r0 s6 s7) (nB s0 s1 r0 s6 s7):=rnX
def TY:NT:=[((169,10),{keep:=[0,1,5,6,7],hl:=1})]
def w9:Ctx:=CX (ens rD) TY
def jn(a b:List Int)(s7:Int)(r0:List Int)(s6:Int):Cfg:=⟨169,[.blk 0,.seq 37],[(0,.d apX a),(1,.d apX b),(5,.own 0),(6,.d apZ s6),(7,SI s7)],[.row 225 apZ r0],0,[]⟩
def P0(a b:List Int)(k:KT):OLR:=og (decide ((0:Int)≤(a.length:Int)∧(a.length:Int)*((4:Nat):Int)≤140737488355328∧(a.length:Int)≤140737488355328)) (k 10 (jn a b 0 (List.replicate ((a.length:Int)).toNat (0:Int)) 0))
theorem aa6(a b:List Int):RS w9 169 [.d apX a,.d apX b] (P0 a b):=rsX
def iJ(a b:List Int)(s7:Int)(r0:List Int)(s6:Int)(k:KT):OLR:=match decide (s7<(a.length:Int))with|true=>(match aS a s7 with|some x1=>(match decide (s7<(b.length:Int))with|true=>(match aS b s7 with|some x2=>(match decide ((u32.wrap ((u32.wrap ((u32.wrap (x1+1000000000))-s6))-x2))≥1000000000)with|true=>(match aS r0 s7 with|some _=>(match true,r0[(s7).toNat]? with|true,some _x3=>k 10 (jn a b (i64.wrap (s7+1)) (r0.set ((s7).toNat) (u32.wrap ((u32.wrap ((u32.wrap ((u32.wrap (x1+1000000000))-s6))-x2))-1000000000))) 0)|_,_=>none)|none=>none)|false=>(match aS r0 s7 with|some _=>(match true,r0[(s7).toNat]? with|true,some _x3=>k 10 (jn a b (i64.wrap (s7+1)) (r0.set ((s7).toNat) (u32.wrap ((u32.wrap ((u32.wrap (x1+1000000000))-s6))-x2))) 1)|_,_=>none)|none=>none))|none=>none)|false=>(match decide ((u32.wrap ((u32.wrap (x1+1000000000))-s6))≥1000000000)with|true=>(match aS r0 s7 with|some _=>(match true,r0[(s7).toNat]? with|true,some _x2=>k 10 (jn a b (i64.wrap (s7+1)) (r0.set ((s7).toNat) (u32.wrap ((u32.wrap ((u32.wrap (x1+1000000000))-s6))-1000000000))) 0)|_,_=>none)|none=>none)|false=>(match aS r0 s7 with|some _=>(match true,r0[(s7).toNat]? with|true,some _x2=>k 10 (jn a b (i64.wrap (s7+1)) (r0.set ((s7).toNat) (u32.wrap ((u32.wrap (x1+1000000000))-s6))) 1)|_,_=>none)|none=>none)))|none=>none)|false=>(og (decide (aR r0)) (some [RV.d apX (ah (val r0).toNat)]))
theorem kL(a b:List Int)(s7:Int)(r0:List Int)(s6:Int):RN w9 10 (jn a b s7 r0 s6) (iJ a b s7 r0 s6):=rnX
def Uv:NT:=[((163,8),{keep:=[0,1,5,6],hl:=1}),((163,23),{keep:=[0,1,5,6,7,8],hl:=1})]
def rY:Ctx:=CX (ens rD) Uv
def sK(a b:List Int)(s6:Int)(r0:List Int):Cfg:=⟨163,[.blk 0,.seq 40],[(0,.d apX a),(1,.d apX b),(5,.own 0),(6,SI s6)],[.row 225 apZ r0],0,[]⟩
def so(a b:List Int)(s6 s7 s8:Int)(r0:List Int):Cfg:=⟨163,[.blk 2,.seq 38,.blk 1,.seq 39,.lp 8,.blk 0,.seq 40],[(0,.d apX a),(1,.d apX b),(5,.own 0),(6,SI s6),(7,.d (.int .u64) s7),(8,SI s8)],[.row 225 apZ r0],0,[]⟩
def PT(a b:List Int)(k:KT):OLR:=og (decide ((0:Int)≤i64.wrap ((a.length:Int)+(b.length:Int))∧(i64.wrap ((a.length:Int)+(b.length:Int)))*((4:Nat):Int)≤140737488355328∧i64.wrap ((a.length:Int)+(b.length:Int))≤140737488355328)) (k 8 (sK a b 0 (List.replicate (i64.wrap ((a.length:Int)+(b.length:Int))).toNat (0:Int))))
theorem abJ(a b:List Int):RS rY 163 [.d apX a,.d apX b] (PT a b):=rsX
def ud(a b:List Int)(s6:Int)(r0:List Int)(k:KT):OLR:=match decide (s6<(a.length:Int))with|true=>k 23 (so a b s6 0 0 r0)|false=>(og (decide (aR r0)) (some [RV.d apX (ah (val r0).toNat)]))
theorem zC(a b:List Int)(s6:Int)(r0:List Int):RN rY 8 (sK a b s6 r0) (ud a b s6 r0):=rnX
def rS(a b:List Int)(s6 s7 s8:Int)(r0:List Int)(k:KT):OLR:=match decide (s8<(b.length:Int))with|true=>(match aS r0 (i64.wrap (s6+s8))with|some _=>(match true,r0[(i64.wrap (s6+s8)).toNat]? with|true,some x1=>(match aS a s6 with|some x2=>(match aS b s8 with|some x3=>(match aS r0 (i64.wrap (s6+s8))with|some _=>(match true,r0[(i64.wrap (s6+s8)).toNat]? with|true,some _=>k 23 (so a b s6 (u64.wrap (Int.tdiv (u64.wrap ((u64.wrap (s7+(u64.wrap x1)))+(u64.wrap ((u64.wrap x2)*(u64.wrap x3))))) 1000000000)) (i64.wrap (s8+1)) (r0.set ((i64.wrap (s6+s8)).toNat) (u32.wrap (Int.tmod (u64.wrap ((u64.wrap (s7+(u64.wrap x1)))+(u64.wrap ((u64.wrap x2)*(u64.wrap x3))))) 1000000000))))|_,_=>none)|none=>none)|none=>none)|none=>none)|_,_=>none)|none=>none)|false=>(match aS r0 (i64.wrap (s6+(b.length:Int)))with|some _=>(match true,r0[(i64.wrap (s6+(b.length:Int))).toNat]? with|true,some _x1=>k 8 (sK a b (i64.wrap (s6+1)) (r0.set ((i64.wrap (s6+(b.length:Int))).toNat) (u32.wrap s7)))|_,_=>none)|none=>none)
theorem yu(a b:List Int)(s6 s7 s8:Int)(r0:List Int):RN rY 23 (so a b s6 s7 s8 r0) (rS a b s6 s7 s8 r0):=rnX
def E0:Cn 162 [.bool,apX]:=cn fun(neg:Bool) (l:List Int)=>lf (aR l) [.d y2Y (ai (cg neg (val l)))] fun h=>by
 refine aA rD (Pf neg l) ⟨0,?_⟩;have hv:=aQ h.1
 have hp:decide (((ah (val l).toNat).length:Int)>0)=decide (0<val l):=by
  refine anq.2 ⟨fun g=>?_,fun g=>?_⟩
  ·apply amY;intro hc;rw[show(val l).toNat=0 by omega,fP]at g;simp at g
  ·have:ah (val l).toNat≠[]:=fun e=>by rw[gV]at e;omega
   have:=anm.2 this;omega
 unfold Pf;rw[amE h,mq neg hv,hp];cases neg<;>rfl
theorem zn(a b:List Int)(ha:jv a)(hb:jv b)(hab:b.length≤a.length):∀(j i:Nat) (c:Int) (r:List Int),i+j=a.length→0≤c→c≤1→Lim r→r.length=a.length+1→(∀k (hk:k<r.length),i≤k→r[k]=0)→val r+pw i*c=val (a.take i)+val (b.take i)→
  xq.Runs 16 (kX a b r c (i:Int)) [.d apX (ah (val a+val b).toNat)]:=by
 have hsa:=ha.2;intro j;induction j with
 |zero=>
  intro i c r hi c0 c1 hr hl hz hv;obtain rfl:i=a.length:=by omega
  have hir:a.length<r.length:=by omega
  have hr0:=hz _ hir (amK _)
  have e:val (r.set a.length c)=val a+val b:=by
   rw[fj hir,hr0];rw[anX,anS hab]at hv;grind
  refine rX _ _ _ _ _ ⟨0,?_⟩;unfold nB;rw[ce (amK _),av r,aE,amF hir];dsimp only;rw[amE (show aR (r.set a.length c) from⟨hr.set _ ⟨c0,by omega⟩,by simp;omega⟩),e]
 |succ j ih=>
  intro i c r hi c0 c1 hr hl hz hv;have hia:i<a.length:=by omega
  have hir:i<r.length:=by omega
  have xa:=ha.1.get hia;have hr0:=hz i hir (amK _)
  have step:∀(t:Int),0≤t→t<2000000000→val (b.take (i+1))=val (b.take i)+pw i*(t-a[i]-c)→xq.Runs 16 (kX a b (r.set i (t%1000000000)) (t/1000000000) ((i+1:Nat):Int)) [.d apX (ah (val a+val b).toNat)]:=by
   intro t t0 t1 hb';refine ih (i+1) (t/1000000000) (r.set i (t%1000000000)) (by omega) (by omega) (by omega) (hr.set i ⟨by omega,by omega⟩) (by simpa using hl) (pp hz) ?_;rw[fj hir,hr0,a8 hia,hb',cf];have:=Int.emod_add_mul_ediv t 1000000000;grind
  by_cases hib:i<b.length
  ·have xb:=hb.1.get hib;have ht:=a8 hib;obtain⟨q,hq⟩:=step (c+a[i]+b[i]) (by omega) (by omega) (by rw[ht];grind);refine rX _ _ _ _ _ ⟨q,?_⟩;unfold nB;rw[bI hia,av,amF hia,bI hib,av,amF hib,av r i,aE,amF hir];dsimp only;rw[da (x:=c+a[i]) (by omega) (by omega),da (x:=c+a[i]+b[i]) (by omega) (by omega),jD (by omega),gW (by omega),da (x:=(c+a[i]+b[i])/1000000000) (by omega) (by omega),b8 (by omega)];exact hq
  ·have ht:=kg (b:=b) (i:=i) (by omega);obtain⟨q,hq⟩:=step (c+a[i]) (by omega) (by omega) (by rw[ht];grind);refine rX _ _ _ _ _ ⟨q,?_⟩;unfold nB;rw[bI hia,av,amF hia,ce (show b.length≤i by omega),av r i,aE,amF hir];dsimp only;rw[da (x:=c+a[i]) (by omega) (by omega),jD (by omega),gW (by omega),da (x:=(c+a[i])/1000000000) (by omega) (by omega),b8 (by omega)];exact hq
def abM:Cn 167 [apX,apX]:=cn fun(a b:List Int)=>lf (jv a∧jv b) [.d apX (ah (val a+val b).toNat)] fun h=>by
 refine c8 rD (show xq.Res _ _ _ from ?_);obtain⟨ha,hb⟩:=h;have hsa:=ha.2;have hsb:=hb.2;by_cases hc:a.length<b.length
 ·obtain⟨q,hq⟩:=zn b a hb ha (by omega) b.length 0 0 (List.replicate (b.length+1) 0) (by omega) (by omega) (by omega) (Lim.rep _) (by simp) (fun k hk _=>by simp) (by simp[val,gJ]);refine Lp _ _ ⟨q,?_⟩;unfold F1;rw[bI hc,b8 (by omega),sB (by omega),aE,apw (val a)];exact hq
 ·obtain⟨q,hq⟩:=zn a b ha hb (by omega) a.length 0 0 (List.replicate (a.length+1) 0) (by omega) (by omega) (by omega) (Lim.rep _) (by simp) (fun k hk _=>by simp) (by simp[val,gJ]);refine Lp _ _ ⟨q,?_⟩;unfold F1;rw[ce (by omega),b8 (k:=a.length) (by omega),sB (n:=a.length+1) (by omega),aE];exact hq
theorem Kv(a b:List Int)(ha:aR a)(hb:aR b)(hle:val b≤val a):∀(j i:Nat) (c:Int) (r:List Int),i+j=a.length→0≤c→c≤1→Lim r→r.length=a.length→(∀k (hk:k<r.length),i≤k→r[k]=0)→val r+val (b.take i)=val (a.take i)+pw i*c→
  w9.Runs 10 (jn a b (i:Int) r c) [.d apX (ah (val a-val b).toNat)]:=by
 have hsa:=ha.2;intro j;induction j with
 |zero=>
  intro i c r hi c0 c1 hr hl hz hv;obtain rfl:i=a.length:=by omega
  refine kL _ _ _ _ _ ⟨0,?_⟩;unfold iJ;rw[ce (amK _)];have hrl:=b9 hr;rw[hl]at hrl;have hb2:val b=val (b.take a.length)+pw (min a.length b.length)*val (b.drop a.length):=fY b a.length;have hbd:0≤val (b.drop a.length):=aQ (hb.1.drop _);have hal:=b9 ha.1;have hbt:=aQ (hb.1.take a.length);rw[anX]at hv
  have hz0:val (b.drop a.length)=0:=by
   rcases anj a.length b.length with h1|h1
   ·rw[ans (by omega)]at hb2;rcases am8 0 (val (b.drop a.length))with h2|h2
    ·have hp:=cA a.length;have:=amM (show 1≤val (b.drop a.length) by omega) (ank hp);omega
    ·omega
   ·rw[anz h1];rfl
  rw[hz0,aoU,apN]at hb2
  have hc0:c=0:=by
   have hp:=cA a.length;rcases(show c=0∨c=1 by omega)with h|h
   ·exact h
   ·subst h;rw[aoX]at hv;omega
  subst hc0;rw[aoU]at hv;rw[amE (show aR r from⟨hr,by omega⟩),show val r=val a-val b by omega]
 |succ j ih=>
  intro i c r hi c0 c1 hr hl hz hv;have hia:i<a.length:=by omega
  have hir:i<r.length:=by omega
  have xa:=ha.1.get hia;have hr0:=hz i hir (amK _)
  have step:∀(y c':Int),0≤y→y<1000000000→0≤c'→c'≤1→val (b.take (i+1))=val (b.take i)+pw i*(a[i]+1000000000*c'-y-c)→w9.Runs 10 (jn a b ((i+1:Nat):Int) (r.set i y) c') [.d apX (ah (val a-val b).toNat)]:=by
   intro y c' y0 y1 k0 k1 hb';refine ih (i+1) c' (r.set i y) (by omega) k0 k1 (hr.set i ⟨y0,y1⟩) (by simpa using hl) (pp hz) ?_;rw[fj hir,hr0,a8 hia,hb',cf];grind
  by_cases hib:i<b.length
  ·have xb:=hb.1.get hib;have ht:=a8 hib;by_cases hc:a[i]+1000000000-c-b[i]≥1000000000
   ·obtain⟨q,hq⟩:=step (a[i]+1000000000-c-b[i]-1000000000) 0 (by omega) (by omega) (by omega) (by omega) (by rw[ht];grind);refine kL _ _ _ _ _ ⟨q,?_⟩;unfold iJ;rw[bI hia,av,amF hia,bI hib,av,amF hib,av,aE,amF hir];dsimp only;rw[da (x:=a[i]+1000000000) (by omega) (by omega),da (x:=a[i]+1000000000-c) (by omega) (by omega),da (x:=a[i]+1000000000-c-b[i]) (by omega) (by omega),amE hc,da (x:=a[i]+1000000000-c-b[i]-1000000000) (by omega) (by omega),b8 (by omega)];exact hq
   ·obtain⟨q,hq⟩:=step (a[i]+1000000000-c-b[i]) 1 (by omega) (by omega) (by omega) (by omega) (by rw[ht];grind);refine kL _ _ _ _ _ ⟨q,?_⟩;unfold iJ;rw[bI hia,av,amF hia,bI hib,av,amF hib,av,aE,amF hir];dsimp only;rw[da (x:=a[i]+1000000000) (by omega) (by omega),da (x:=a[i]+1000000000-c) (by omega) (by omega),da (x:=a[i]+1000000000-c-b[i]) (by omega) (by omega),amG hc,b8 (by omega)];exact hq
  ·have ht:=kg (b:=b) (i:=i) (by omega);by_cases hc:a[i]+1000000000-c≥1000000000
   ·obtain⟨q,hq⟩:=step (a[i]+1000000000-c-1000000000) 0 (by omega) (by omega) (by omega) (by omega) (by rw[ht];grind);refine kL _ _ _ _ _ ⟨q,?_⟩;unfold iJ;rw[bI hia,av,amF hia,ce (show b.length≤i by omega),av r i,aE,amF hir];dsimp only;rw[da (x:=a[i]+1000000000) (by omega) (by omega),da (x:=a[i]+1000000000-c) (by omega) (by omega),amE hc,da (x:=a[i]+1000000000-c-1000000000) (by omega) (by omega),b8 (by omega)];exact hq
   ·obtain⟨q,hq⟩:=step (a[i]+1000000000-c) 1 (by omega) (by omega) (by omega) (by omega) (by rw[ht];grind);refine kL _ _ _ _ _ ⟨q,?_⟩;unfold iJ;rw[bI hia,av,amF hia,ce (show b.length≤i by omega),av r i,aE,amF hir];dsimp only;rw[da (x:=a[i]+1000000000) (by omega) (by omega),da (x:=a[i]+1000000000-c) (by omega) (by omega),amG hc,b8 (by omega)];exact hq
def G3:Cn 169 [apX,apX]:=cn fun(a b:List Int)=>lf (oB a b) [.d apX (ah (val a-val b).toNat)] fun h=>by
 refine c8 rD (show w9.Res _ _ _ from ?_);obtain⟨ha,hb,hle⟩:=h;have hsa:=ha.2;obtain⟨q,hq⟩:=Kv a b ha hb hle a.length 0 0 (List.replicate a.length 0) (by omega) (by omega) (by omega) (Lim.rep _) (by simp) (fun k hk _=>by simp) (by simp[val,gJ]);refine aa6 _ _ ⟨q,?_⟩;unfold P0;rw[sB (by omega),aE];exact hq
theorem GU(a b:List Int)(ha:jv a)(hb:jv b)(i:Nat)(hi:i<a.length)
  (hout:∀r,Lim r→r.length=a.length+b.length→(∀k (hk:k<r.length),i+1+b.length≤k→r[k]=0)→val r=val (a.take (i+1))*val b→rY.Runs 8 (sK a b ((i+1:Nat):Int) r) [.d apX (ah (val a*val b).toNat)]):
  ∀(j k:Nat) (c:Int) (r:List Int),k+j=b.length→0≤c→c<1000000000→Lim r→r.length=a.length+b.length→(∀q (hq:q<r.length),i+b.length≤q→r[q]=0)→val r+pw (i+k)*c=val (a.take i)*val b+pw i*a[i]*val (b.take k)→
  rY.Runs 23 (so a b (i:Int) c (k:Int) r) [.d apX (ah (val a*val b).toNat)]:=by
 have hsa:=ha.2;have hsb:=hb.2;have xa:=ha.1.get hi;intro j;induction j with
 |zero=>
  intro k c r hk c0 c1 hr hl hz hv;obtain rfl:k=b.length:=by omega
  have hir:i+b.length<r.length:=by omega
  have hr0:=hz _ hir (amK _)
  obtain⟨q,hq⟩:=hout (r.set (i+b.length) c) (hr.set _ ⟨c0,c1⟩) (by simpa using hl) (by rw[show i+1+b.length=i+b.length+1 by omega];exact pp hz) (by
   rw[fj hir,hr0,a8 hi];rw[anX]at hv;grind)
  refine yu _ _ _ _ _ _ ⟨q,?_⟩;have hw:i64.wrap ((i:Int)+(b.length:Int))=((i+b.length:Nat):Int):=by rw[aT (by omega) (by omega)];simp
  unfold rS;rw[ce (amK _),hw,av r (i+b.length),aE,amF hir,da (x:=c) (by omega) (by omega),b8 (k:=i) (by omega)];exact hq
 |succ j ih=>
  intro k c r hk c0 c1 hr hl hz hv;have hkb:k<b.length:=by omega
  have hir:i+k<r.length:=by omega
  have xb:=hb.1.get hkb;have xr:=hr.get hir;have hbd:=G5 xr xa xb ⟨c0,c1⟩
  obtain⟨q,hq⟩:=ih (k+1) ((r[i+k]+a[i]*b[k]+c)/1000000000) (r.set (i+k) ((r[i+k]+a[i]*b[k]+c)%1000000000)) (by omega) hbd.2.2.1 hbd.2.2.2 (hr.set _ (by omega)) (by simpa using hl)
   (fun m hm hq=>by rw[an0 (by omega)];exact hz m (by simpa using hm) hq) (by
    rw[fj hir,a8 hkb,show i+(k+1)=i+k+1 by omega,cf,fC];rw[fC]at hv;have e:=Int.emod_add_mul_ediv (r[i+k]+a[i]*b[k]+c) 1000000000;grind)
  refine yu _ _ _ _ _ _ ⟨q,?_⟩;have hw:i64.wrap ((i:Int)+(k:Int))=((i+k:Nat):Int):=by rw[aT (by omega) (by omega)];simp
  unfold rS;rw[bI hkb,hw,av b k,amF hkb,av a i,amF hi,av r (i+k),aE,amF hir];dsimp only;rw[bG (x:=r[i+k]) (by omega) (by omega),bG (x:=a[i]) (by omega) (by omega),bG (x:=b[k]) (by omega) (by omega),bG (x:=a[i]*b[k]) (by omega) (by omega),bG (x:=c+r[i+k]) (by omega) (by omega),bG (x:=c+r[i+k]+a[i]*b[k]) (by omega) (by omega),show c+r[i+k]+a[i]*b[k]=r[i+k]+a[i]*b[k]+c by omega,gW (a:=r[i+k]+a[i]*b[k]+c) (by omega),jD (a:=r[i+k]+a[i]*b[k]+c) (by omega),bG (x:=(r[i+k]+a[i]*b[k]+c)/1000000000) (by omega) (by omega),da (x:=(r[i+k]+a[i]*b[k]+c)%1000000000) (by omega) (by omega),b8 (k:=k) (by omega)];exact hq
theorem GF(a b:List Int)(ha:jv a)(hb:jv b):∀(j i:Nat) (r:List Int),i+j=a.length→Lim r→r.length=a.length+b.length→(∀k (hk:k<r.length),i+b.length≤k→r[k]=0)→val r=val (a.take i)*val b→
  rY.Runs 8 (sK a b (i:Int) r) [.d apX (ah (val a*val b).toNat)]:=by
 have hsa:=ha.2;have hsb:=hb.2;intro j;induction j with
 |zero=>
  intro i r hi hr hl hz hv;obtain rfl:i=a.length:=by omega
  refine zC _ _ _ _ ⟨0,?_⟩;unfold ud;rw[anX]at hv;rw[ce (amK _),amE (show aR r from⟨hr,by omega⟩),hv]
 |succ j ih=>
  intro i r hi hr hl hz hv;have hia:i<a.length:=by omega
  obtain⟨q,hq⟩:=GU a b ha hb i hia (fun r' h1 h2 h3 h4=>ih (i+1) r' (by omega) h1 h2 h3 h4) b.length 0 0 r (by omega) (by omega) (by omega) hr hl hz (by simp[val,hv]);refine zC _ _ _ _ ⟨q,?_⟩;grind [ud]
def acp:Cn 163 [apX,apX]:=cn fun(a b:List Int)=>lf (jv a∧jv b) [.d apX (ah (val a*val b).toNat)] fun h=>by
 refine c8 rD (show rY.Res _ _ _ from ?_);obtain⟨ha,hb⟩:=h;have hsa:=ha.2;have hsb:=hb.2;obtain⟨q,hq⟩:=GF a b ha hb a.length 0 (List.replicate (a.length+b.length) 0) (by omega) (Lim.rep _) (by simp) (fun k hk _=>by simp) (by simp[val,gJ]);refine abJ _ _ ⟨q,?_⟩;have hw:i64.wrap ((a.length:Int)+(b.length:Int))=((a.length+b.length:Nat):Int):=by rw[aT (by omega) (by omega)];simp
 unfold PT;rw[hw,sB (by omega),aE];exact hq
theorem tk{x:BI}(h:okI x):jv x.2:=⟨h.1.1,by have:=h.2.2;omega⟩
theorem Vp(a b:Int):decide (cB a b≥0)=decide (b≤a):=by grind [db,dW,cV]
theorem wS(a b:Int):decide (cB a b>0)=decide (b<a):=by grind [db,dW,cV]
def pH:List En:=[enK xf,enK Br,enF BN,enF xp,enK E0,enK abM,enK G3,enK acp]
def SJ(n:Int)(_k:KT):OLR:=match decide (n<0)with|true=>(match decide (iB (u64.wrap (0-(u64.wrap n))))with|true=>(match decide (aR (ah (u64.wrap (0-(u64.wrap n))).toNat))with|true=>some [RV.d y2Y (ai (cg true (val (ah (u64.wrap (0-(u64.wrap n))).toNat))))]|false=>none)|false=>none)|false=>(match decide (iB (u64.wrap n))with|true=>(match decide (aR (ah (u64.wrap n).toNat))with|true=>some [RV.d y2Y (ai (cg false (val (ah (u64.wrap n).toNat))))]|false=>none)|false=>none)
def ND(x:Bool×List Int)(_k:KT):OLR:=match(x.2.length:Int)==0 with|true=>some [RV.d apY 0]|false=>(match x.1 with|true=>some [RV.d apY (-1)]|false=>some [RV.d apY 1])
def PL(x y:Bool×List Int)(_k:KT):OLR:=match !(x.1==y.1)with|true=>(match x.1 with|true=>some [RV.d apY (-1)]|false=>some [RV.d apY 1])|false=>(match x.1 with|true=>(og (decide (ru y.2 x.2)) (some [RV.d apY (cB (val y.2) (val x.2))]))|false=>(og (decide (ru x.2 y.2)) (some [RV.d apY (cB (val x.2) (val y.2))])))
def Nm(x y:Bool×List Int)(_k:KT):OLR:=match x.1==y.1 with|true=>(og (decide (jv x.2∧jv y.2)) (og (decide (aR (ah (val x.2+val y.2).toNat))) (some [RV.d y2Y (ai (cg x.1 (val (ah (val x.2+val y.2).toNat))))])))|false=>(og (decide (ru x.2 y.2)) (match decide ((cB (val x.2) (val y.2))≥0)with|true=>(og (decide (oB x.2 y.2)) (og (decide (aR (ah (val x.2-val y.2).toNat))) (some [RV.d y2Y (ai (cg x.1 (val (ah (val x.2-val y.2).toNat))))])))|false=>(og (decide (oB y.2 x.2)) (og (decide (aR (ah (val y.2-val x.2).toNat))) (some [RV.d y2Y (ai (cg y.1 (val (ah (val y.2-val x.2).toNat))))])))))
def Mw(x:Bool×List Int)(_k:KT):OLR:=og (decide (aR x.2)) (some [RV.d y2Y (ai (cg (!x.1) (val x.2)))])
def PD(x y:Bool×List Int)(_k:KT):OLR:=og (decide (jv x.2∧jv y.2)) (og (decide (aR (ah (val x.2*val y.2).toNat))) (some [RV.d y2Y (ai (cg (!(x.1==y.1)) (val (ah (val x.2*val y.2).toNat))))]))
def Y3(a:List Int)(n:Int)(_k:KT):OLR:=og (decide (aR ([n]))) (og (decide (jv a∧jv (ah (val ([n])).toNat))) (some [RV.d apX (ah (val a*val (ah (val ([n])).toNat)).toNat)]))
def AN:Cn 82 [apY]:=cn fun(n:Int)=>lf (aG n) [.d y2Y (ai n)] fun h=>by
 refine aA pH (SJ n) ⟨0,?_⟩;have h1:=h.1;have h2:=h.2;unfold SJ;by_cases hn:n<0
 ·have e:u64.wrap (0-u64.wrap n)= -n:=by rw[anv,anv];omega
  have hl:(ah (-n).toNat).length≤3:=cG (by omega) (ao5 (show-n<18446744073709551616 by omega) (by decide));rw[amE hn];dsimp only;rw[e,amE (show iB (-n) from⟨by omega,by omega⟩),amE (cH (n:=(-n).toNat) (by omega)),bZ (v:= -n) (by omega)];dsimp only;rw[show cg true (-n)=n by unfold cg;simp]
 ·have e:u64.wrap n=n:=bG (by omega) (by omega);have hl:(ah n.toNat).length≤3:=cG (by omega) (ao5 (show n<18446744073709551616 by omega) (by decide));rw[amG hn];dsimp only;rw[e,amE (show iB n from⟨by omega,by omega⟩),amE (cH (n:=n.toNat) (by omega)),bZ (v:=n) (by omega)];rfl
def Pa:Cn 117 [y2Y]:=cn fun(x:Bool×List Int)=>lf (okI x) [.d apY (cB (ae x) 0)] fun h=>by
 refine aA pH (ND x) ⟨0,?_⟩;obtain⟨h0,h1,h2⟩:=cL h;unfold ND;rw[bO];unfold cg;by_cases he:x.2=[]
 ·have e0:=h2.1 he
  have ex:x.1=false:=by
   cases hx:x.1
   ·rfl
   ·have:=h1 hx;omega
  rw[ex,e0,he];rfl
 ·have hp:0<val x.2:=eK h.1 he;have:=anm.2 he;rw[show((x.2.length:Int)==0)=false by simp;omega];cases x.1
  ·simp only[cond_false];rw[cV hp]
  ·simp only[cond_true];rw[db (by omega)]
def PF:Cn 176 [y2Y,y2Y]:=cn fun(x y:Bool×List Int)=>lf (okI x∧okI y) [.d apY (cB (ae x) (ae y))] fun h=>by
 refine aA pH (PL x y) ⟨0,?_⟩;obtain⟨hx,hy⟩:=h;obtain⟨x0,x1,x2⟩:=cL hx;obtain⟨y0,y1,y2⟩:=cL hy;have sx:=hx.2.2;have sy:=hy.2.2;unfold PL;rw[bO,bO,amE (show ru y.2 x.2 from⟨⟨hy.1,by omega⟩,hx.1,by omega⟩),amE (show ru x.2 y.2 from⟨⟨hx.1,by omega⟩,hy.1,by omega⟩)];unfold cg;cases ex:x.1<;>cases ey:y.1
 ·rfl
 ·have:=y1 ey;simp only[cond_true,cond_false];rw[show cB (val x.2) (-val y.2)=1 from cV (by omega)];rfl
 ·have:=x1 ex;simp only[cond_true,cond_false];rw[show cB (-val x.2) (val y.2)= -1 from db (by omega)];rfl
 ·simp only[cond_true];rw[Jq x0 y0];rfl
def BT:Cn 67 [y2Y,y2Y]:=cn fun(x y:Bool×List Int)=>lf (okI x∧okI y) [.d y2Y (ai (ae x+ae y))] fun h=>by
 refine aA pH (Nm x y) ⟨0,?_⟩;obtain⟨hx,hy⟩:=h;obtain⟨x0,x1,x2⟩:=cL hx;obtain⟨y0,y1,y2⟩:=cL hy;have lx:=ge hx;have ly:=ge hy;have tx:=tk hx;have ty:=tk hy;have sx:=hx.2.2;have sy:=hy.2.2;have bx:=b9 hx.1.1;have by':=b9 hy.1.1;have px:=dl (show x.2.length≤1000000 by omega);have py:=dl (show y.2.length≤1000000 by omega);have l1:(ah (val x.2+val y.2).toNat).length≤1000001:=cG (by omega) (by rw[cf];omega);have l2:(ah (val x.2-val y.2).toNat).length≤1000000:=dm (by have:=cA 1000000;omega);have l3:(ah (val y.2-val x.2).toNat).length≤1000000:=dm (by have:=cA 1000000;omega);unfold Nm
 rw[bO,bO,amE (show jv x.2∧jv y.2 from⟨tx,ty⟩),amE (cH (n:=(val x.2+val y.2).toNat) (by omega)),amE (cH (n:=(val x.2-val y.2).toNat) (by omega)),amE (cH (n:=(val y.2-val x.2).toNat) (by omega)),bZ (v:=val x.2+val y.2) (by omega),
  amE (show ru x.2 y.2 from⟨⟨hx.1,by omega⟩,hy.1,by omega⟩),Vp]
 cases hs:x.1==y.1
 ·dsimp only;rcases am8 (val x.2) (val y.2)with hc|hc
  ·rw[amG (show ¬val y.2≤val x.2 by omega),amE (show oB y.2 x.2 from⟨ly,lx,by omega⟩),bZ (v:=val y.2-val x.2) (by omega)];dsimp only;unfold cg;cases ex:x.1<;>cases ey:y.1<;>simp_all<;>congr 2<;>omega
  ·rw[amE hc,amE (show oB x.2 y.2 from⟨lx,ly,hc⟩),bZ (v:=val x.2-val y.2) (by omega)];dsimp only;unfold cg;cases ex:x.1<;>cases ey:y.1<;>simp_all<;>congr 2<;>omega
 ·dsimp only;have e:=anE.1 hs;rw[←e];unfold cg;cases x.1
  ·rfl
  ·simp only[cond_true];rw[show-(val x.2+val y.2)= -val x.2+ -val y.2 by omega]
def LZ:Cn 164 [y2Y]:=cn fun(x:Bool×List Int)=>lf (okI x) [.d y2Y (ai (-ae x))] fun h=>by
 refine aA pH (Mw x) ⟨0,?_⟩;unfold Mw;rw[bO,amE (ge h)];unfold cg;cases x.1<;>simp
def OZ:Cn 65 [y2Y,y2Y]:=cn fun(x y:Bool×List Int)=>lf (okI x∧okI y) [.d y2Y (ai (ae x*ae y))] fun h=>by
 refine aA pH (PD x y) ⟨0,?_⟩;obtain⟨hx,hy⟩:=h;obtain⟨x0,x1,x2⟩:=cL hx;obtain⟨y0,y1,y2⟩:=cL hy;have bx:=b9 hx.1.1;have by':=b9 hy.1.1;have sx:=hx.2.2;have sy:=hy.2.2;have hm:0≤val x.2*val y.2:=anC x0 y0
 have l1:(ah (val x.2*val y.2).toNat).length≤x.2.length+y.2.length:=cG hm (by
  rw[fC];have p1:=cA x.2.length;have p2:=cA y.2.length;have:=aoN (show val x.2≤pw x.2.length-1 by omega) (show val y.2≤pw y.2.length-1 by omega) y0 (by omega);grind)
 unfold PD;rw[bO,bO,amE (show jv x.2∧jv y.2 from⟨tk hx,tk hy⟩),amE (cH (n:=(val x.2*val y.2).toNat) (by omega)),bZ hm];unfold cg;cases x.1<;>cases y.1<;>simp[Int.neg_mul,apt]
def byP(a:List Int)(n:Int):Prop:=jv a∧0≤n∧n<1000000000
instance (a:List Int) (n:Int):Decidable (byP a n):=by unfold byP;infer_instance
def WI:Cn 321 [apX,apZ]:=cn fun(a:List Int) (n:Int)=>lf (byP a n) [.d apX (ah (val a*n).toNat)] fun h=>by
 refine aA pH (Y3 a n) ⟨0,?_⟩;obtain⟨ha,h1,h2⟩:=h;have hl:(ah n.toNat).length≤1:=cG (by omega) (by show n<pw 1;simp[pw];exact h2);have e:val [n]=n:=by simp[val]
 unfold Y3;rw[e,amE (show aR [n] from⟨Lim.cons ⟨by omega,h2⟩ Lim.nil,by simp⟩),amE (show jv a∧jv (ah n.toNat) from⟨ha,cd _,by omega⟩),bZ (by omega)]
def acY:List En:=enK BT::enK LZ::pH
def LY(x y:Bool×List Int)(_k:KT):OLR:=og (decide (okI y)) (og (decide (okI x∧okI (ai (-ae y)))) (some [RV.d y2Y (ai (ae x+ae (ai (-ae y))))]))
def acX:Cn 266 [y2Y,y2Y]:=cn fun(x y:Bool×List Int)=>lf (okI x∧okI y) [.d y2Y (ai (ae x-ae y))] fun h=>by
 refine aA acY (LY x y) ⟨0,?_⟩;obtain⟨hx,hy⟩:=h;unfold LY;rw[amE hy,amE (show okI x∧okI (ai (-ae y)) from⟨hx,aV (by rw[je];exact iK hy)⟩),dec_enc,Int.sub_eq_add_neg]
end Go.Proofs.YtnkndpoojnflmaaGreat
end
