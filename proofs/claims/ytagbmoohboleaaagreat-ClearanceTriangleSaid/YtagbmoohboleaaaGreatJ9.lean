/- The order of the reals; what holds of all fractions holds of them. -/
import Derived.Test.YtagbmoohboleaaaGreatJ8
noncomputable section
namespace Go.Proofs.YtagbmoohboleaaaGreat
open Go.RowKit Go.IntKind
theorem anh:type_of% @Rat.mul_nonneg:=@Rat.mul_nonneg
theorem an7:type_of% @decide_eq_decide:=@decide_eq_decide
theorem apg:type_of% @Rat.intCast_natCast:=@Rat.intCast_natCast
theorem apm:type_of% @Rat.intCast_le_intCast:=@Rat.intCast_le_intCast
theorem apD:type_of% @Rat.intCast_neg:=@Rat.intCast_neg
section
namespace RE
open RL
theorem CF(a b:RE):a<=b↔¬b<a:=Iff.rfl
theorem le_of_lt{a b:RE}(h:a<b):a<=b:=λh'=>lt_irrefl a (c7 h h')
theorem lt_or_ge(a b:RE):a<b\/b<=a:=by
 by_cases h:a<b
 ·exact .inl h
 ·exact .inr h
theorem le_antisymm{a b:RE}(h1:a<=b)(h2:b<=a):a=b:=by
 rcases nZ a b with h|h|h
 ·exact absurd h h2
 ·exact h
 ·exact absurd h h1
theorem le_trans{a b c:RE}(h1:a<=b)(h2:b<=c):a<=c:=λh=>by
 rcases nZ a b with h'|h'|h'
 ·exact h2 (c7 h h')
 ·subst h';exact h2 h
 ·exact h1 h'
theorem zero_lt_one:(0:RE)<1:=fX (by decide+kernel:(0:Rat)<1)
theorem mD(a:RE):a+ -a=0:=by rw[add_comm,xn]
theorem kj{a:RE}(h:a<0):0< -a:=by
 have:=ln (-a) h;rw[mD,add_comm,add_zero]at this;exact this
theorem Gn{a:RE}(h:0<a): -a<0:=by
 have:=ln (-a) h;rw[mD,add_comm,add_zero]at this;exact this
instance:Std.IsLinearOrder RE where
 le_refl a:=lt_irrefl a
 le_trans _ _ _:=le_trans
 le_antisymm _ _:=le_antisymm
 le_total a b:=by
  rcases lt_or_ge a b with h|h
  ·exact .inl (le_of_lt h)
  ·exact .inr h
instance:Std.LawfulOrderLT RE where
 lt_iff a b:=⟨λh=>⟨le_of_lt h,λh'=>h' h⟩,λh=>by
  rcases lt_or_ge a b with h'|h'
  ·exact h'
  ·exact absurd h' h.2⟩
theorem tv{a b:RE}:¬a<=b↔b<a:=⟨λh=>by
  rcases lt_or_ge b a with h'|h'
  ·exact h'
  ·exact absurd h' h,λh h'=>h' h⟩
theorem aM{a b:RE}(h:a<b):0<b-a:=by
 have:=ln (-a) h;rw[mD]at this;exact this
theorem aeY{a b:RE}(h:0<b-a):a<b:=by
 have:=ln a h
 have e:b-a+a=b:=by
  show b+ -a+a=b;rw[add_assoc,xn,add_zero]
 rw[e,add_comm,add_zero]at this;exact this
theorem aG{a b:RE}(h:a<=b):0<=b-a:=λh'=>h (by
 have:=ln a h'
 have e:b-a+a=b:=by
  show b+ -a+a=b;rw[add_assoc,xn,add_zero]
 rw[e,add_comm,add_zero]at this;exact this)
theorem cO{a:RE}(h:0<=a):0<a\/a=0:=by
 rcases nZ 0 a with h'|h'|h'
 ·exact .inl h'
 ·exact .inr h'.symm
 ·exact absurd h' h
theorem le_refl(a:RE):a<=a:=lt_irrefl a
theorem fP{a b:RE}(h:a=b):a<=b:=by rw[h];exact le_refl _
theorem mp{a b:RE}(h:a=b):b<=a:=by rw[h];exact le_refl _
theorem zero_mul(a:RE):0*a=0:=by rw[mul_comm,mul_zero]
theorem zero_add(a:RE):0+a=a:=by rw[add_comm,add_zero]
theorem one_mul(a:RE):1*a=a:=by rw[mul_comm,mul_one]
theorem aH{a b:RE}(h:0<=a)(h':0<=b):0<=a*b:=by
 rcases cO h with h1|h1
 ·rcases cO h' with h2|h2
  ·exact le_of_lt (mul_pos h1 h2)
  ·rw[h2,mul_zero];exact le_refl _
 ·rw[h1,zero_mul];exact le_refl _
theorem aJ{a b:RE}(h:0<a)(h':0<=b):0<a+b:=by
 have:=ln b h;rw[zero_add]at this;rcases cO h' with h2|h2
 ·exact c7 h2 this
 ·rw[h2,add_zero];exact h
theorem cZ(a:RE):0<=a*a:=by
 rcases lt_or_ge a 0 with h|h
 ·have h1:=kj h;have h2:=mul_pos h1 h1
  have e: -a* -a=a*a:=by
   induction a using anU
   exact snd λn=>by show-_* -_=_*_;grind
  rw[e]at h2;exact le_of_lt h2
 ·exact aH h h
instance:NatCast RE:=⟨λn=>of (n:Rat)⟩
instance:IntCast RE:=⟨λn=>of (n:Rat)⟩
instance:SMul Nat RE:=⟨λn a=>of (n:Rat)*a⟩
instance:SMul Int RE:=⟨λn a=>of (n:Rat)*a⟩
def pw(a:RE):Nat->RE
 |0=>1
 |n+1=>pw a n*a
instance:Pow RE Nat:=⟨pw⟩
instance:Lean.Grind.CommRing RE where
 add_zero:=add_zero
 add_comm:=add_comm
 add_assoc:=add_assoc
 mul_assoc:=mul_assoc
 mul_one:=mul_one
 mul_comm:=mul_comm
 left_distrib:=left_distrib
 mul_zero:=mul_zero
 zero_mul:=zero_mul
 one_mul:=one_mul
 right_distrib a b c:=by rw[mul_comm,left_distrib,mul_comm c,mul_comm c]
 pow_zero _:=rfl
 pow_succ _ _:=rfl
 ofNat_succ n:=by
  show of ((OfNat.ofNat (n+1):Rat))=of ((OfNat.ofNat n:Rat))+of 1;rw[<-of_add];congr 1;show(((n+1:Nat):Rat))=((n:Nat):Rat)+1;rw[Rat.natCast_add];rfl
 ofNat_eq_natCast _:=rfl
 nsmul_eq_natCast_mul _ _:=rfl
 neg_add_cancel:=xn
 sub_eq_add_neg _ _:=rfl
 neg_zsmul i a:=by
  show of ((-i:Int):Rat)*a= -(of (i:Rat)*a)
  rw[apD,of_neg];induction a using anU
  exact snd λn=>by show-_*_= -(_*_);grind
 zsmul_natCast_eq_nsmul _ _:=rfl
 intCast_ofNat _:=rfl
 intCast_neg i:=by show of _= -of _;rw[apD,of_neg]
theorem BX{a b c:RE}(h:a<b)(hc:0<c):c*a<c*b:=by
 have h1:=ln (-a) h;rw[mD]at h1;have h2:=ln (c*a) (mul_pos hc h1);rwa [show c*(b+ -a)+c*a=c*b by grind,zero_add]at h2
instance:Lean.Grind.OrderedRing RE where
 add_le_left_iff {a b} c:=⟨λh h'=>h (by
   have:=ln (-c) h';rw[add_assoc,add_assoc,mD,add_zero,add_zero]at this;exact this),λh h'=>h (ln c h')⟩
 zero_lt_one:=zero_lt_one
 mul_lt_mul_of_pos_left:=BX
 mul_lt_mul_of_pos_right {a b c} h hc:=by
  rw[mul_comm a,mul_comm b];exact BX h hc
theorem Ix{c:Rat}(hc:(0:Rat)<c){a:RE}(h:0<a):0<of c*a:=mul_pos (fX hc) h
theorem ja{c:Rat}(hc:(0:Rat)<c){a:RE}(h:0<=a):0<=of c*a:=aH (le_of_lt (fX hc)) h
theorem far{s:RE}(h:0<s)(e:s=0):False:=by rw[e]at h;exact lt_irrefl _ h
theorem TH(x y:RE):((y*y-(x*x)))+((x-(0))*(x-(y)))+((y-(0))*(x-(y)))=0:=by grind
theorem sq_lt(x y:RE)(h1:0<=x)(h2:0<=y)(h3:x*x<y*y):x<y:=tv.1 λhg=>far (aJ (aJ (aM h3) (aH (aG h1) (aG hg))) (aH (aG h2) (aG hg))) (TH x y)
theorem Wn(x y:RE):((x-(y))*(x-(y)))+((y*y-(x*x)))+2*((y-(0))*(x-(y)))=0:=by grind
theorem sd(x y:RE)(_h1:0<=x)(h2:0<=y)(h3:x*x<=y*y):x<=y:=λhg=>far (aJ (aJ (mul_pos (aM hg) (aM hg)) (aG h3)) (ja (by decide+kernel:(0:Rat)<2) (aH (aG h2) (le_of_lt (aM hg))))) (Wn x y)
theorem KV(x y:RE):((x*x-(y*y)))+2*((x-(0))*(y-(x)))+((y-(x))*(y-(x)))=0:=by grind
theorem sq_mono(x y:RE)(h1:0<=x)(h2:x<=y):x*x<=y*y:=λhg=>far (aJ (aJ (aM hg) (ja (by decide+kernel:(0:Rat)<2) (aH (aG h1) (aG h2)))) (aH (aG h2) (aG h2))) (KV x y)
theorem ab3(x y:RE):((y-(x))*(y-(x)))+((x*x-(y*y)))+2*((x-(0))*(y-(x)))=0:=by grind
theorem Mf(x y:RE):((x-(y))*(x-(y)))+((y*y-(x*x)))+2*((y-(0))*(x-(y)))=0:=by grind
theorem abZ(x y:RE)(_h1:0<=x)(h2:0<=y)(h3:x*x=y*y):x<=y:=λhg=>far (aJ (aJ (mul_pos (aM hg) (aM hg)) (aG (fP h3))) (ja (by decide+kernel:(0:Rat)<2) (aH (aG h2) (le_of_lt (aM hg))))) (Mf x y)
theorem OC(x y:RE):((y-(x))*(y-(x)))+((x*x-(y*y)))+2*((x-(0))*(y-(x)))=0:=by grind
theorem afe(x y:RE)(h1:0<=x)(_h2:0<=y)(h3:x*x=y*y):y<=x:=λhg=>far (aJ (aJ (mul_pos (aM hg) (aM hg)) (aG (mp h3))) (ja (by decide+kernel:(0:Rat)<2) (aH (aG h1) (le_of_lt (aM hg))))) (OC x y)
theorem EW(x y:RE)(h1:0<=x)(h2:0<=y)(h3:x*x=y*y):x=y:=le_antisymm (abZ x y h1 h2 h3) (afe x y h1 h2 h3)
end RE
end
section
namespace RE
open RL
theorem aka(q:Rat):∃k:Nat,q<(k:Rat):=by
 refine⟨(q.floor+1).toNat,?_⟩;have h1:q<((q.floor+1:Int):Rat):=(Rat.floor_lt_iff).1 (by omega);have h2:((q.floor+1:Int):Rat)<=(((q.floor+1).toNat:Int):Rat):=apm.2 (by omega);have h3:(((q.floor+1).toNat:Int):Rat)=(((q.floor+1).toNat:Nat):Rat):=apg _;rw[h3]at h2;grind
theorem Vw(g d:Rat)(hg:0<=g)(hd:0<d):∃s:Rat,0<=s/\s*s<=g/\g<(s+d)*(s+d):=by
 apply ang;intro hn
 have step:∀k:Nat,((k:Rat)*d)*((k:Rat)*d)<=g:=by
  intro k;induction k with
  |zero=>rw[show((0:Nat):Rat)=0 from rfl];grind
  |succ k ih=>
   apply ang;intro hc;refine hn ⟨(k:Rat)*d,?_,ih,?_⟩
   ·have:(0:Rat)<=(k:Rat):=by
     have:=Rat.intCast_nonneg.2 (show(0:Int)<=(k:Int) by omega);rwa [apg]at this
    exact anh this (by grind)
   ·have e:(((k+1:Nat)):Rat)=(k:Rat)+1:=by rw[Rat.natCast_add];rfl
    rw[e]at hc;grind
 obtain⟨k,hk⟩:=aka ((g+1)/d)
 have h1:g+1<(k:Rat)*d:=by
  have:=ano (show 0<(k:Rat)-(g+1)/d by grind) hd;have e:((k:Rat)-(g+1)/d)*d=(k:Rat)*d-(g+1):=by grind
  grind
 have h2:=step k;have h3:=ano (show 0<(k:Rat)*d-(g+1) by grind) (show 0<(k:Rat)*d by grind);have h4:=ano (show 0<(k:Rat)*d-(g+1) by grind) (show 0<g+1 by grind);have h5:=anh hg hg;clear hn step hk;generalize (k:Rat)*d=t at h1 h2 h3 h4;grind
def eps(n:Nat):Rat:=1/((n:Rat)+1)
theorem pC(n:Nat):(0:Rat)<=(n:Rat):=by
 have:=Rat.intCast_nonneg.2 (show(0:Int)<=(n:Int) by omega);rwa [apg]at this
theorem uj(n:Nat):0<eps n:=by
 have:=pC n;exact ano (by grind) (apB.2 (by grind))
theorem ru(e:Rat)(he:0<e):∃N,∀n,N<=n->eps n<e:=by
 obtain⟨N,hN⟩:=aka (1/e);refine⟨N,λn hn=>?_⟩;have h0:=pC n
 have h1:(N:Rat)<=(n:Rat):=by
  have:=apm.2 (show(N:Int)<=(n:Int) by omega);rwa [apg,apg]at this
 have h2:1/e<(n:Rat)+1:=by grind
 have h3:=ano (show 0<(n:Rat)+1-1/e by grind) (ano he (uj n));unfold eps at h3 ⊢
 have e1:((n:Rat)+1-1/e)*(e*(1/((n:Rat)+1)))=e-1/((n:Rat)+1):=by
  have:(n:Rat)+1≠0:=by grind
  have:e≠0:=by grind
  grind
 grind
theorem GL(n:Nat):eps n<=1:=by
 have h0:=pC n;have:=uj n;unfold eps at*
 have h3:=anh h0 (show(0:Rat)<=1/((n:Rat)+1) by grind)
 have e1:(n:Rat)*(1/((n:Rat)+1))=1-1/((n:Rat)+1):=by
  have:(n:Rat)+1≠0:=by grind
  grind
 grind
theorem Sr{a b:Rat}(ha:0<=a)(hb:0<=b)(h:a*a<b*b):a<b:=by
 apply ang;intro hc;have:=anh (show 0<=a-b by grind) (show 0<=a+b by grind);grind
theorem Br(x:RE)(hx:0<=x):∃y:RE,0<=y/\y*y=x:=by
 induction x using anU
 rename_i f
 have hc:∀n,∃s:Rat,0<=s/\s*s<=(if 0<=f.f n then f.f n else 0)/\(if 0<=f.f n then f.f n else 0)<(s+eps n)*(s+eps n):=λn=>
  Vw _ _ (by split<;>grind) (uj n)
 let g:Nat->Rat:=λn=>if 0<=f.f n then f.f n else 0
 let s:Nat->Rat:=λn=>Classical.choose (hc n)
 have hs:∀n,0<=s n/\s n*s n<=g n/\g n<(s n+eps n)*(s n+eps n):=λn=>anY (hc n)
 have hg:∀m n,g m-g n<=(if 0<=f.f m-f.f n then f.f m-f.f n else 0):=λm n=>by
  show(if 0<=f.f m then f.f m else 0)-(if 0<=f.f n then f.f n else 0)<=_;split<;>split<;>split<;>grind
 obtain⟨B,hB,NB,hBn⟩:=f.bd
 have hgB:∀n,NB<=n->g n<B:=λn hn=>by
  show(if 0<=f.f n then f.f n else 0)<B;have:=hBn n hn;split<;>grind
 have hsB:∀n,NB<=n->s n<B+1:=λn hn=>by
  have h1:=hs n;have h2:=hgB n hn;refine Sr h1.1 (by grind) ?_;have:=anh (show 0<=B by grind) (show 0<=B by grind);grind
 have hcau:∀e:Rat,0<e->∃N,∀m n,N<=m->N<=n->s m-s n<e:=by
  intro e he;obtain⟨N1,h1⟩:=f.cau (e*e/4) (by have:=ano he he;grind);obtain⟨N2,h2⟩:=ru (e/2) (by grind);refine⟨max N1 N2,λm n hm hn=>?_⟩;apply ang;intro hne;have a1:=hs m;have a2:=hs n;have a3:=h1 m n (by omega) (by omega);have a4:=h2 n (by omega);have a5:=hg m n;have a6:=uj n;have p1:=anh (show 0<=s m-(s n+e) by grind) (show 0<=s m+(s n+e) by grind);have p2:=anh (show 0<=e/2-eps n by grind) (show 0<=(s n+e/2)+(s n+eps n) by grind);have p3:=anh (show 0<=e by grind) a2.1;have p4:=ano he he;split at a5<;>grind
 refine⟨Quotient.mk _ ⟨s,hcau⟩,?_,apl λe he=>?_⟩
 ·rintro ⟨e,he,N,h⟩
  have h1:=h N (am2 _);have h2:=(hs N).1;simp only[RL.const]at h1;grind
 ·-- s n*s n is acV to f n
  have hneg:∃N,∀n,N<=n-> -(e/4)<f.f n:=by
   apply ang;intro hne;obtain⟨M,hM⟩:=f.cau (e/8) (by grind);refine hx ⟨e/16,by grind,M,λn hn=>?_⟩;apply ang;intro hge;refine hne ⟨M,λk hk=>?_⟩;have:=hM n k hn hk;simp only[RL.const]at hge;grind
  obtain⟨N1,h1⟩:=hneg;obtain⟨N2,h2⟩:=ru (e/(4*(B+2))) (ano he (apB.2 (by grind)));refine⟨max (max N1 N2) NB,λn hn=>?_⟩;have a1:=hs n;have a2:=h1 n (by omega);have a3:=h2 n (by omega);have a4:=hsB n (by omega);have a5:=uj n;have a6:=GL n
  have hgf:f.f n<=g n/\g n<f.f n+e/4:=by
   show f.f n<=(if 0<=f.f n then f.f n else 0)/\(if 0<=f.f n then f.f n else 0)<_;split<;>constructor<;>grind
  have p1:=anh (show 0<=eps n by grind) (show 0<=2*(B+2)-(2*s n+eps n) by grind)
  have p2:eps n*(2*(B+2))<e/2:=by
   have:=ano (show 0<e/(4*(B+2))-eps n by grind) (show 0<2*(B+2) by grind)
   have e1:(e/(4*(B+2))-eps n)*(2*(B+2))=e/2-eps n*(2*(B+2)):=by
    have:B+2≠0:=by grind
    grind
   grind
  simp only[RL.mul];constructor<;>grind
open Classical in
def kH(x:RE):RE:=if h:0<=x then Classical.choose (Br x h)else 0
theorem dK(x:RE):0<=kH x:=by
 unfold kH;split
 ·rename_i h;exact(anY (Br x h)).1
 ·exact lt_irrefl 0
theorem gI{x:RE}(h:0<=x):kH x*kH x=x:=by
 unfold kH;rw[dif_pos h];exact(anY (Br x h)).2
theorem fQ{a b:Rat}:of a<=of b↔a<=b:=by
 constructor
 ·intro h;apply ang;intro hc;exact h (fX (by grind))
 ·intro h h';rcases(by grind:a<b\/a=b)with h1|h1
  ·exact lt_irrefl _ (c7 h' (fX h1))
  ·rw[h1]at h';exact lt_irrefl _ h'
theorem l8{a b:Rat}(h:of a=of b):a=b:=by
 have h1:=fQ.1 (show of a<=of b by rw[h];exact lt_irrefl _);have h2:=fQ.1 (show of b<=of a by rw[h];exact lt_irrefl _);grind
end RE
end
section
namespace RE
open RL
open Classical in
def sg(x:RE):Int:=if 0<x then 1 else if x<0 then-1 else 0
theorem dA{x:RE}(h:0<x):sg x=1:=anp h
theorem ii{x:RE}(h:x<0):sg x= -1:=by unfold sg;rw[ank (λh'=>lt_irrefl _ (c7 h h')),anp h]
theorem dm:sg 0=0:=by unfold sg;rw[ank (lt_irrefl _),ank (lt_irrefl _)]
theorem bi(x:RE):(0<x/\sg x=1)\/(x=0/\sg x=0)\/(x<0/\sg x= -1):=by
 rcases nZ 0 x with h|h|h
 ·exact .inl ⟨h,dA h⟩
 ·exact .inr (.inl ⟨h.symm,by rw[<-h,dm]⟩)
 ·exact .inr (.inr ⟨h,ii h⟩)
theorem qz{x:RE}:sg x=0↔x=0:=by
 rcases bi x with⟨h,e⟩|⟨h,e⟩|⟨h,e⟩<;>rw[e]
 ·exact⟨λh'=>by omega,λh'=>by rw[h']at h;exact absurd h (lt_irrefl _)⟩
 ·exact⟨λ_=>h,λ_=>rfl⟩
 ·exact⟨λh'=>by omega,λh'=>by rw[h']at h;exact absurd h (lt_irrefl _)⟩
theorem Co{x:RE}:sg x=1↔0<x:=by
 rcases bi x with⟨h,e⟩|⟨h,e⟩|⟨h,e⟩<;>rw[e]
 ·exact⟨λ_=>h,λ_=>rfl⟩
 ·exact⟨λh'=>by omega,λh'=>by rw[h]at h';exact absurd h' (lt_irrefl _)⟩
 ·exact⟨λh'=>by omega,λh'=>absurd (c7 h h') (lt_irrefl _)⟩
theorem adq{x:RE}:sg x= -1↔x<0:=by
 rcases bi x with⟨h,e⟩|⟨h,e⟩|⟨h,e⟩<;>rw[e]
 ·exact⟨λh'=>by omega,λh'=>absurd (c7 h h') (lt_irrefl _)⟩
 ·exact⟨λh'=>by omega,λh'=>by rw[h]at h';exact absurd h' (lt_irrefl _)⟩
 ·exact⟨λ_=>h,λ_=>rfl⟩
theorem Pf{x:RE}:0<=sg x↔0<=x:=by
 rcases bi x with⟨h,e⟩|⟨h,e⟩|⟨h,e⟩<;>rw[e]
 ·exact⟨λ_=>le_of_lt h,λ_=>by omega⟩
 ·exact⟨λ_=>by rw[h];exact le_refl _,λ_=>by omega⟩
 ·exact⟨λh'=>by omega,λh'=>absurd h h'⟩
theorem Oy{x:RE}:sg x<=0↔x<=0:=by
 rcases bi x with⟨h,e⟩|⟨h,e⟩|⟨h,e⟩<;>rw[e]
 ·exact⟨λh'=>by omega,λh'=>absurd h h'⟩
 ·exact⟨λ_=>by rw[h];exact le_refl _,λ_=>by omega⟩
 ·exact⟨λ_=>le_of_lt h,λ_=>by omega⟩
theorem neg_mul(a b:RE): -a*b= -(a*b):=by grind
theorem mul_neg(a b:RE):a* -b= -(a*b):=by grind
theorem neg_neg(a:RE): - -a=a:=by grind
theorem sub_self(a:RE):a-a=0:=by grind
theorem W7(a b:RE): -(a-b)=b-a:=by grind
theorem Gw(x y:RE):(x+y)*(x-y)=x*x-y*y:=by grind
theorem Pq(x y:RE):((x-(0))*(0-(y)))+((x*y-(0)))=0:=by grind
theorem FZ(x y:RE)(h1:0<x)(h2:y<0):x*y<0:=tv.1 λhg=>far (aJ (mul_pos (aM h1) (aM h2)) (aG hg)) (Pq x y)
theorem adX(x y:RE)(h1:x<0)(h2:y<0):x+y<0:=by grind
theorem PK(x y:RE)(h1:0<x)(h2:y<0):0<x-y:=by grind
theorem R9(x y:RE)(h1:x<0)(h2:0<y):x-y<0:=by grind
theorem Nr(x y:RE)(h1:0<x)(h2:0<y):0<x+y:=by grind
theorem Dv: -(0:RE)=0:=by rw[<-zero_add (-0),mD]
theorem sM(x:RE):sg (-x)= -sg x:=by
 rcases bi x with⟨h,e⟩|⟨h,e⟩|⟨h,e⟩<;>rw[e]
 ·exact ii (Gn h)
 ·rw[h,Dv,dm];rfl
 ·exact dA (kj h)
theorem dp(x y:RE):sg (x*y)=sg x*sg y:=by
 rcases bi x with⟨h,e⟩|⟨h,e⟩|⟨h,e⟩<;>rw[e]
 ·rcases bi y with⟨h',e'⟩|⟨h',e'⟩|⟨h',e'⟩<;>rw[e']
  ·exact dA (mul_pos h h')
  ·rw[h',mul_zero,dm];rfl
  ·exact ii (FZ _ _ h h')
 ·rw[h,zero_mul,dm];omega
 ·rcases bi y with⟨h',e'⟩|⟨h',e'⟩|⟨h',e'⟩<;>rw[e']
  ·rw[mul_comm];exact ii (FZ _ _ h' h)
  ·rw[h',mul_zero,dm];rfl
  ·have:=mul_pos (kj h) (kj h');rw[neg_mul,mul_neg,neg_neg]at this;exact dA this
theorem sg_of(q:Rat):sg (of q)=aE q 0:=by
 rcases(by grind:q<0\/q=0\/0<q)with h|h|h
 ·rw[dQ h];exact ii (fX h)
 ·rw[h,eE];exact dm
 ·rw[dJ h];exact dA (fX h)
def addS(s t d:Int):Int:=bif t==0||s==t then s else bif s==0 then t else s*d
theorem HJ(x y:RE):sg (x+y)=addS (sg x) (sg y) (sg (x*x-y*y)):=by
 rw[<-Gw,dp];rcases bi x with⟨h,e⟩|⟨h,e⟩|⟨h,e⟩<;>rw[e]
 ·rcases bi y with⟨h',e'⟩|⟨h',e'⟩|⟨h',e'⟩<;>rw[e']
  ·exact dA (Nr _ _ h h')
  ·rw[h',add_zero,e];rfl
  ·rw[dA (PK _ _ h h')];show _=1*(_*1)
   omega
 ·rcases bi y with⟨h',e'⟩|⟨h',e'⟩|⟨h',e'⟩<;>rw[e',h,zero_add,e']<;>rfl
 ·rcases bi y with⟨h',e'⟩|⟨h',e'⟩|⟨h',e'⟩<;>rw[e']
  ·rw[ii (R9 _ _ h h')];show _= -1*(_* -1)
   omega
  ·rw[h',add_zero,e];rfl
  ·exact ii (adX _ _ h h')
theorem Yd(x:RE): -1<=sg x/\sg x<=1:=by rcases bi x with⟨_,e⟩|⟨_,e⟩|⟨_,e⟩<;>rw[e]<;>omega
end RE
end
def vN:Nat->Nat->Nat
 |0,_=>0
 |f+1,n=>bif decide (n=0)then 0 else bif decide ((2*vN f (n/4)+1)*(2*vN f (n/4)+1)<=n)then 2*vN f (n/4)+1 else 2*vN f (n/4)
def SF(n:Nat):Nat:=vN (n.log2+1) n
theorem Ii:∀(f n:Nat),n<2^f->vN f n*vN f n<=n/\n<(vN f n+1)*(vN f n+1)
 |0,n,h=>by
  have:n=0:=by simpa using h
  subst this;exact⟨am2 _,by decide⟩
 |f+1,n,h=>by
  rcases anQ n with h0|h0
  ·subst h0;show vN (f+1) 0*vN (f+1) 0<=0/\_;exact⟨am2 _,by show 0<(0+1)*(0+1);decide⟩
  ·have h4:n/4<2^f:=by
    rw[Nat.pow_succ]at h;omega
   obtain⟨h1,h2⟩:=Ii f (n/4) h4;simp only[vN];rw[amY (show ¬n=0 by omega)];generalize vN f (n/4)=s at h1 h2;have e1:(2*s)*(2*s)=4*(s*s):=by grind
   have e2:(2*s+1+1)*(2*s+1+1)=4*((s+1)*(s+1)):=by grind
   by_cases hc:(2*s+1)*(2*s+1)<=n
   ·rw[amW hc];exact⟨hc,by show n<(2*s+1+1)*(2*s+1+1);rw[e2];omega⟩
   ·rw[amY hc];exact⟨by show(2*s)*(2*s)<=n;rw[e1];omega,by show n<(2*s+1)*(2*s+1);omega⟩
theorem WO(n:Nat):SF n*SF n<=n/\n<(SF n+1)*(SF n+1):=Ii _ n Nat.lt_log2_self
def bK(z:Int):Int:=(SF z.toNat:Int)
theorem gN{z:Int}(h:0<=z):0<=bK z/\bK z*bK z<=z/\z<(bK z+1)*(bK z+1):=by
 obtain⟨h1,h2⟩:=WO z.toNat
 grind [bK]
theorem sq_mono{a b:Int}(ha:0<=a)(h:a<=b):a*a<=b*b:=ao3 h h ha (by omega)
theorem sq_lt{a b:Int}(hb:0<=b)(h:a*a<b*b):a<b:=by
 apply ang;intro hc;have:=sq_mono hb (show b<=a by omega);omega
theorem UC{z s:Int}(h0:0<=s)(h1:s*s<=z)(h2:z<(s+1)*(s+1)):bK z=s:=by
 obtain⟨g0,g1,g2⟩:=gN (show 0<=z by have:=sq_mono (a:=0) (by omega) h0;omega);have a1:=sq_lt (b:=s+1) (a:=bK z) (by omega) (by omega);have a2:=sq_lt (b:=bK z+1) (a:=s) (by omega) (by omega);omega
theorem Mk{a x s:Int}(hx:0<x)(_hs:0<=s)(h1:s*s<=a):s<=(x+a/x)/2:=by
 have hq:=anM a x;have hm:=anF a hx;apply ang;intro hc;have h2:a/x<=2*s-x-1:=by omega
 have h3:x*(a/x)<=x*(2*s-x-1):=am4 h2 (by omega)
 have h4:0<=(s-x)*(s-x):=by
  rcases Int.le_total 0 (s-x)with h|h
  ·exact anT h h
  ·exact Int.mul_nonneg_of_nonpos_of_nonpos h h
 grind
theorem zK{a x s:Int}(hx:0<x)(hs:s<=x)(_h1:s*s<=a)(h2:a<(s+1)*(s+1))(h3:0<=s)(h:x<=(x+a/x)/2):x=s:=by
 have hq:=anM a x;have hm:=an3 a (show x≠0 by omega);have h4:x<=a/x:=by omega
 have h5:x*x<=x*(a/x):=am4 h4 (by omega);have:=sq_lt (a:=x) (b:=s+1) (by omega) (by omega);omega
def ge(x:BI):BI:=bif x.1 then(false,[])else ai (bK (ae x))
def wD(x:BI):Int:=bif x.1 then 7 else 0
def xf:List En:=[⟨223,qm,l7⟩,⟨163,sD,n8⟩,⟨227,qI,lL⟩,⟨248,zn,uS⟩,⟨302,B5,zq⟩]
def abW:NT:=[((331,25),{keep:=[1,2,5,6],hl:=6})]
def I5:Ctx:=CX (ens xf) abW
def oO(x:Bool×List Int)(b4_0:Bool)(b4_1:List Int):Cfg:=⟨331,[.blk 0],[(1,.box 0 0),(2,.box 1 0),(5,.box 4 0),(6,.box 5 0)],[.box 29 [SB x.1,.d aqg x.2],.box 29 [SB false,.nil],.gone,.row 200 aqi ([1]),.box 29 [SB b4_0,.d aqg b4_1],.box 29 [SB ((ai (2:Int)).1),.d aqg ((ai (2:Int)).2)]],0,[]⟩
def I1(x:Bool×List Int)(k:KT):OLR:=match x.1 with|true=>some [RV.d y2Y (false,[]),RV.d aqh 7]|false=>(match(x.2.length:Int)==0 with|true=>some [RV.d y2Y (false,[]),RV.d aqh 0]|false=>(og (decide ((0:Int)<=i64.wrap (Int.tdiv (i64.wrap ((x.2.length:Int)+1)) 2)/\(i64.wrap (Int.tdiv (i64.wrap ((x.2.length:Int)+1)) 2))*((4:Nat):Int)<=140737488355328/\i64.wrap (Int.tdiv (i64.wrap ((x.2.length:Int)+1)) 2)<=140737488355328)) (og (decide (((List.replicate (i64.wrap (Int.tdiv (i64.wrap ((x.2.length:Int)+1)) 2)).toNat (0:Int)).length+([1]).length)*4<=140737488355328/\(List.replicate (i64.wrap (Int.tdiv (i64.wrap ((x.2.length:Int)+1)) 2)).toNat (0:Int)).length+([1]).length<=140737488355328)) (og (decide (aS ((List.replicate (i64.wrap (Int.tdiv (i64.wrap ((x.2.length:Int)+1)) 2)).toNat (0:Int))++([1])))) (og (decide (aI (2:Int))) (k 25 (oO x ((ai (cf false (val ((List.replicate (i64.wrap (Int.tdiv (i64.wrap ((x.2.length:Int)+1)) 2)).toNat (0:Int))++([1]))))).1) ((ai (cf false (val ((List.replicate (i64.wrap (Int.tdiv (i64.wrap ((x.2.length:Int)+1)) 2)).toNat (0:Int))++([1]))))).2))))))))
theorem RA(x:Bool×List Int):RS I5 331 [.d y2Y x] (I1 x):=rsX
def vP(x:Bool×List Int)(b4_0:Bool)(b4_1:List Int)(k:KT):OLR:=og (decide (fN x (b4_0,b4_1))) (cA (og (decide (okI (b4_0,b4_1)/\okI (ai (ae x/ae (b4_0,b4_1))))) (cA (og (decide (fN (ai (ae (b4_0,b4_1)+ae (ai (ae x/ae (b4_0,b4_1))))) (ai (2:Int)))) (dup (.b .l .l) (og (decide (okI (ai (ae (ai (ae (b4_0,b4_1)+ae (ai (ae x/ae (b4_0,b4_1)))))/ae (ai (2:Int))))/\okI (b4_0,b4_1))) (match decide ((cr (ae (ai (ae (ai (ae (b4_0,b4_1)+ae (ai (ae x/ae (b4_0,b4_1)))))/ae (ai (2:Int))))) (ae (b4_0,b4_1)))>=0)with|true=>some [RV.d y2Y (b4_0,b4_1),RV.d aqh 0]|false=>k 25 (oO x ((ai (ae (ai (ae (b4_0,b4_1)+ae (ai (ae x/ae (b4_0,b4_1)))))/ae (ai (2:Int)))).1) ((ai (ae (ai (ae (b4_0,b4_1)+ae (ai (ae x/ae (b4_0,b4_1)))))/ae (ai (2:Int)))).2)))))) (dup (.b (.b .l .l) (.b .l .l)) (og (decide (fN (ai (ae (b4_0,b4_1)+ae (ai (ae x/ae (b4_0,b4_1))))) (ai (2:Int)))) (og (decide (okI (ai (ae (ai (ae (b4_0,b4_1)+ae (ai (ae x/ae (b4_0,b4_1)))))/ae (ai (2:Int))))/\okI (b4_0,b4_1))) (match decide ((cr (ae (ai (ae (ai (ae (b4_0,b4_1)+ae (ai (ae x/ae (b4_0,b4_1)))))/ae (ai (2:Int))))) (ae (b4_0,b4_1)))>=0)with|true=>some [RV.d y2Y (b4_0,b4_1),RV.d aqh 0]|false=>k 25 (oO x ((ai (ae (ai (ae (b4_0,b4_1)+ae (ai (ae x/ae (b4_0,b4_1)))))/ae (ai (2:Int)))).1) ((ai (ae (ai (ae (b4_0,b4_1)+ae (ai (ae x/ae (b4_0,b4_1)))))/ae (ai (2:Int)))).2)))))))) (dup (.b .l .l) (cA (og (decide (okI (b4_0,b4_1)/\okI (ai (ae x/ae (b4_0,b4_1))))) (dup (.b .l .l) (og (decide (fN (ai (ae (b4_0,b4_1)+ae (ai (ae x/ae (b4_0,b4_1))))) (ai (2:Int)))) (og (decide (okI (ai (ae (ai (ae (b4_0,b4_1)+ae (ai (ae x/ae (b4_0,b4_1)))))/ae (ai (2:Int))))/\okI (b4_0,b4_1))) (match decide ((cr (ae (ai (ae (ai (ae (b4_0,b4_1)+ae (ai (ae x/ae (b4_0,b4_1)))))/ae (ai (2:Int))))) (ae (b4_0,b4_1)))>=0)with|true=>some [RV.d y2Y (b4_0,b4_1),RV.d aqh 0]|false=>k 25 (oO x ((ai (ae (ai (ae (b4_0,b4_1)+ae (ai (ae x/ae (b4_0,b4_1)))))/ae (ai (2:Int)))).1) ((ai (ae (ai (ae (b4_0,b4_1)+ae (ai (ae x/ae (b4_0,b4_1)))))/ae (ai (2:Int)))).2))))))) (og (decide (okI (b4_0,b4_1)/\okI (ai (ae x/ae (b4_0,b4_1))))) (og (decide (fN (ai (ae (b4_0,b4_1)+ae (ai (ae x/ae (b4_0,b4_1))))) (ai (2:Int)))) (og (decide (okI (ai (ae (ai (ae (b4_0,b4_1)+ae (ai (ae x/ae (b4_0,b4_1)))))/ae (ai (2:Int))))/\okI (b4_0,b4_1))) (match decide ((cr (ae (ai (ae (ai (ae (b4_0,b4_1)+ae (ai (ae x/ae (b4_0,b4_1)))))/ae (ai (2:Int))))) (ae (b4_0,b4_1)))>=0)with|true=>some [RV.d y2Y (b4_0,b4_1),RV.d aqh 0]|false=>k 25 (oO x ((ai (ae (ai (ae (b4_0,b4_1)+ae (ai (ae x/ae (b4_0,b4_1)))))/ae (ai (2:Int)))).1) ((ai (ae (ai (ae (b4_0,b4_1)+ae (ai (ae x/ae (b4_0,b4_1)))))/ae (ai (2:Int)))).2)))))))))
theorem AC(x:Bool×List Int)(b4_0:Bool)(b4_1:List Int):RN I5 25 (oO x b4_0 b4_1) (vP x b4_0 b4_1):=rnX
def aeX:NT:=[((326,16),{keep:=[1,4,5],hl:=1})]
def IE:Ctx:=CX (ens xf) aeX
def xe(x:Bool×List Int)(s4 s5:Int):Cfg:=⟨326,[.blk 0,.seq 27],[(1,.box 0 0),(4,.d (.int .u64) s4),(5,SI s5)],[.box 29 [SB x.1,.d aqg x.2]],0,[]⟩
def J4(x:Bool×List Int)(k:KT):OLR:=og (decide (aI ((-9223372036854775808):Int))) (og (decide (okI x/\okI (ai ((-9223372036854775808):Int)))) (dup (.b .l .l) (match decide ((cr (ae x) (ae (ai ((-9223372036854775808):Int))))<0)with|true=>some [RV.d aqh 0,RV.d .bool false]|false=>(og (decide (aI (9223372036854775807:Int))) (og (decide (okI x/\okI (ai (9223372036854775807:Int)))) (match decide ((cr (ae x) (ae (ai (9223372036854775807:Int))))>0)with|true=>some [RV.d aqh 0,RV.d .bool false]|false=>k 16 (xe x 0 (i64.wrap ((x.2.length:Int)-1)))))))))
theorem S8(x:Bool×List Int):RS IE 326 [.d y2Y x] (J4 x):=rsX
def vY(x:Bool×List Int)(s4 s5:Int)(k:KT):OLR:=match decide (s5>=0)with|true=>(match aT x.2 s5 with|some x1=>k 16 (xe x (u64.wrap ((u64.wrap (s4*1000000000))+(u64.wrap x1))) (i64.wrap (s5-1)))|none=>none)|false=>(match x.1 with|true=>some [RV.d aqh (i64.wrap (u64.wrap (0-s4))),RV.d .bool true]|false=>some [RV.d aqh (i64.wrap s4),RV.d .bool true])
theorem Ae(x:Bool×List Int)(s4 s5:Int):RN IE 16 (xe x s4 s5) (vY x s4 s5):=rnX
theorem M1(x:BI)(hx:okI x)(h0:0<ae x):∀(m:Nat) (X:Int),X.toNat=m->0<X->bK (ae x)<=X->szI X<=900000->I5.Runs 25 (oO x (ai X).1 (ai X).2) [.d y2Y (ai (bK (ae x))),.d aqh 0]:=by
 intro m;induction m using Nat.strongRecOn with
 |ind m ih=>
  intro X hm hX hs hsz;obtain⟨g0,g1,g2⟩:=gN (anD h0);have hq0:0<=ae x/X:=anZ (by omega) (by omega);have hq1:ae x/X<=ae x:=aoN _ (by omega);have oX:okI (ai X):=aX (by omega);have sq:szI (ae x/X)<=1000000:=am9 (dM (by omega)) (jA hx);have p1:fN x (ai X):=⟨hx,oX,by rw[dec_enc];exact hX⟩
  have ssum:szI (X+ae x/X)<=1000000:=by
   have b1:=pk hsz;have b2:=pk (jA hx);have e:pw 1000000=pw 900000*pw 100000:=by rw[<-fW]
   have p9:(1000:Int)<=pw 100000:=by
    have:pw 100000=pw 99999*1000000000:=ce 99999;have:=cp 99999;omega
   have p8:=cp 900000;have h8:pw 900000*1000<=pw 900000*pw 100000:=am4 p9 (by omega);rcases ans X 2 with hX1|hX1
   ·-- X=1:then the number is less than 4
    have:X=1:=by omega
    subst this;have:bK (ae x)<=1:=hs
    have h4:ae x<4:=by
     have:=sq_mono (a:=bK (ae x)+1) (b:=2) (by omega) (by omega);omega
    refine fL ?_ ?_<;>(rw[e,Int.ediv_one];omega)
   ·have hq2:ae x/X<=ae x/2:=by
     have:=Int.ediv_mul_le (ae x) (show X≠0 by omega);have h2:ae x/X*2<=ae x/X*X:=am4 hX1 hq0;omega
    refine fL ?_ ?_<;>(rw[e]at b2 ⊢;omega)
  have o1:okI (ai X)/\okI (ai (ae x/X)):=⟨oX,aX sq⟩
  have p2:fN (ai (X+ae x/X)) (ai 2):=⟨aX ssum,by decide,by rw[dec_enc];decide⟩
  have hn:=Mk hX g0 g1;have o2:okI (ai ((X+ae x/X)/2))/\okI (ai X):=⟨aX (am9 (dM (by omega)) ssum),oX⟩
  by_cases hc:X<=(X+ae x/X)/2
  ·have hXs:=zK hX hs g1 g2 g0 hc;refine AC _ _ _ ⟨0,?_⟩;unfold vP;simp only[cX,fy];have e:∀z:Int,((ai z).1,(ai z).2)=ai z:=λz=>rfl;simp only[e,dec_enc,amW p1,amW o1,amW p2,amW o2]
   have hg:decide (cr ((X+ae x/X)/2) X>=0)=true:=by
    rcases Int.lt_or_eq_of_le hc with h|h
    ·rw[cU h];rfl
    ·rw[<-h,eH];rfl
   rw[hg,hXs]
  ·obtain⟨n,hN⟩:=ih ((X+ae x/X)/2).toNat (by omega) ((X+ae x/X)/2) rfl (by
    rcases ans 0 (bK (ae x))with h|h
    ·omega
    ·exfalso;have:bK (ae x)=0:=by omega
     rw[this]at g2;omega) hn (am9 (dM (by omega)) hsz)
   refine AC _ _ _ ⟨n,?_⟩;unfold vP;simp only[cX,fy];have e:∀z:Int,((ai z).1,(ai z).2)=ai z:=λz=>rfl;simp only[e,dec_enc,amW p1,amW o1,amW p2,amW o2];rw[dl (by omega)];exact hN
def Xq:Cn 331 [y2Y]:=cn λ(x:Bool×List Int)=>lf (okI x) [.d y2Y (ge x),.d aqh (wD x)] λh=>by
 refine da xf (show I5.Res _ _ _ from ?_);obtain⟨x0,x1,x2⟩:=cH h;have hl:=h.2.2;cases hn:x.1
 ·by_cases hz:x.2=[]
  ·refine RA _ ⟨0,?_⟩;unfold I1 ge wD;have:ae x=0:=by unfold ae;rw[hn,hz];rfl
   rw[hn,hz,this];rfl
  ·have hp:0<val x.2:=fh h.1 hz;have hd:ae x=val x.2:=by unfold ae;rw[hn];rfl
   have hlen:=anG.2 hz
   have hk:i64.wrap (Int.tdiv (i64.wrap ((x.2.length:Int)+1)) 2)=(((x.2.length+1)/2:Nat):Int):=by
    rw[bW (by omega),iI (by omega),aV (by omega) (by omega)];omega
   have hv:val (List.replicate ((x.2.length+1)/2) 0++[1])=pw ((x.2.length+1)/2):=by
    rw[dN,io,apu];simp[val]
   have hL:aS (List.replicate ((x.2.length+1)/2) 0++[1]):=by
    refine⟨λy hy=>?_,by simp;omega⟩;rcases anI.1 hy with hy|hy
    ·have:=List.eq_of_mem_replicate hy;omega
    ·simp at hy;omega
   have hpos:=cp ((x.2.length+1)/2)
   obtain⟨n,hN⟩:=M1 x h (by omega) _ (pw ((x.2.length+1)/2)) rfl hpos (by
     obtain⟨g0,g1,g2⟩:=gN (show 0<=ae x by omega);have hlt:=b8 h.1.1;have hm:=dH (show x.2.length<=(x.2.length+1)/2+(x.2.length+1)/2 by omega);rw[fW]at hm;have:=sq_lt (a:=bK (ae x)) (b:=pw ((x.2.length+1)/2)) (by omega) (by omega)
     omega) (fL (k:=900000) (by have:=cp 900000;omega) (by
      have:=dH (show(x.2.length+1)/2+1<=900000 by omega);rw[ce]at this;omega))
   refine RA _ ⟨n,?_⟩;unfold I1 ge wD;simp only[hk];rw[hn,show((x.2.length:Int)==0)=false by simp;omega];simp only[aoC];rw[amW (show(0:Int)<=(((x.2.length+1)/2:Nat):Int)/\(((x.2.length+1)/2:Nat):Int)*((4:Nat):Int)<=140737488355328/\(((x.2.length+1)/2:Nat):Int)<=140737488355328 by omega)];rw[amW (show((List.replicate ((x.2.length+1)/2) (0:Int)).length+([1]:List Nat).length)*4<=140737488355328/\(List.replicate ((x.2.length+1)/2) (0:Int)).length+([1]:List Nat).length<=140737488355328 by simp;omega)];rw[amW hL,amW (show aI 2 by decide),hv];exact hN
 ·refine RA _ ⟨0,?_⟩;unfold I1 ge wD;rw[hn];rfl
theorem Fy(x:BI)(hx:okI x)(hv:val x.2<=9223372036854775808):∀(i:Nat),i<=x.2.length->IE.Runs 16 (xe x (val (x.2.drop i)) ((i:Int)-1)) [.d aqh (i64.wrap (bif x.1 then u64.wrap (0-val x.2)else val x.2)),.d .bool true]
 |0,_=>by
  refine Ae _ _ _ ⟨0,?_⟩;unfold vY;rw[amY (by omega),aoD];cases x.1<;>rfl
 |i+1,hi=>by
  obtain⟨n,ih⟩:=Fy x hx hv i (by omega);have h0:=hx.2.2;have hlim:=hx.1.1;have hd:x.2.drop i=x.2[i]::x.2.drop (i+1):=ij (by omega)
  have hle:∀j,val (x.2.drop j)<=9223372036854775808/\0<=val (x.2.drop j):=λj=>by
   have l1:Lim (x.2.drop j):=λy hy=>hlim y (ao5 hy);have l2:Lim (x.2.take j):=λy hy=>hlim y (ao4 hy);have:=dN (x.2.take j) (x.2.drop j);rw[aol]at this;have n1:=aR l1;have n2:=aR l2;have p:=cp (x.2.take j).length
   have:val (x.2.drop j)<=pw (x.2.take j).length*val (x.2.drop j):=by
    have:=am8 (show 1<=pw (x.2.take j).length by omega) n1;omega
   omega
  have hb:=hlim x.2[i] (anw _);have hv1:=hle i;have hv2:=hle (i+1);rw[hd]at hv1 ih;simp only[val]at hv1 ih;refine Ae _ _ _ ⟨n,?_⟩;unfold vY;rw[show(((i+1:Nat):Int)-1)=(i:Int) by omega,amW (by omega),av,amX (by omega)];dsimp only;rw[bG (x:=val (x.2.drop (i+1))*1000000000) (by omega) (by omega),bG (x:=x.2[i]) (by omega) (by omega),bG (by omega) (by omega),aV (by omega) (by omega)];rw[show val (x.2.drop (i+1))*1000000000+x.2[i]=x.2[i]+1000000000*val (x.2.drop (i+1)) by omega];exact ih
def Zc:Cn 326 [y2Y]:=cn λ(x:Bool×List Int)=>lf (okI x) [.d aqh (bif decide (aI (ae x))then ae x else 0),.d .bool (decide (aI (ae x)))] λh=>by
 refine da xf (show IE.Res _ _ _ from ?_);obtain⟨x0,x1,x2⟩:=cH h;have o1:okI x/\okI (ai (-9223372036854775808)):=⟨h,by decide⟩
 have o2:okI x/\okI (ai 9223372036854775807):=⟨h,by decide⟩
 have hl:=h.2.2;by_cases h1:ae x< -9223372036854775808
 ·refine S8 _ ⟨0,?_⟩;unfold J4;simp only[fy,dec_enc,amW o1];rw[amW (show aI (-9223372036854775808) by decide),dl h1,amY (show ¬aI (ae x) from λg=>by have:=g.1;omega)];rfl
 ·have c1:decide (cr (ae x) (-9223372036854775808)<0)=false:=by
   rcases Int.lt_or_eq_of_le (show-9223372036854775808<=ae x by omega)with g|g
   ·rw[cU g];rfl
   ·rw[<-g,eH];rfl
  by_cases h2:9223372036854775807<ae x
  ·refine S8 _ ⟨0,?_⟩;unfold J4;simp only[fy,dec_enc,amW o1,amW o2];rw[amW (show aI (-9223372036854775808) by decide),c1,amW (show aI 9223372036854775807 by decide),cU h2,amY (show ¬aI (ae x) from λg=>by have:=g.2;omega)];rfl
  ·have c2:decide (cr (ae x) 9223372036854775807>0)=false:=by
    rcases Int.lt_or_eq_of_le (show ae x<=9223372036854775807 by omega)with g|g
    ·rw[dl g];rfl
    ·rw[g,eH];rfl
   have hp:aI (ae x):=⟨by omega,by omega⟩
   have hvv:val x.2<=9223372036854775808:=by
    have g1:=hp.1;have g2:=hp.2;have hd:ae x=bif x.1 then-val x.2 else val x.2:=rfl;cases hb:x.1<;>rw[hb]at hd<;>simp only[cond_true,cond_false]at hd<;>omega
   obtain⟨n,hN⟩:=Fy x h hvv x.2.length (am2 _);refine S8 _ ⟨n,?_⟩;unfold J4;simp only[fy,dec_enc,amW o1,amW o2];rw[amW (show aI (-9223372036854775808) by decide),c1,amW (show aI 9223372036854775807 by decide),c2,amW hp];rw[api]at hN;rw[aV (by omega) (by omega)];refine hN.trans ?_
   have hr:i64.wrap (bif x.1 then u64.wrap (0-val x.2)else val x.2)=ae x:=by
    have hd:ae x=bif x.1 then-val x.2 else val x.2:=rfl;have:=hp.1;have:=hp.2;cases hb:x.1<;>rw[hb]at hd<;>simp only[cond_true,cond_false]at hd ⊢
    ·rw[aV (by omega) (by omega)];omega
    ·have:=x1 hb;rw[anO,IntKind.wrap_i64];omega
   rw[hr];rfl
def uq(a:List Int):Prop:=aS a/\val a<18446744073709551616
instance (a:List Int):Decidable (uq a):=by unfold uq;infer_instance
def sY(a b:List Int):Prop:=(can a/\a.length<=1000000000)/\(can b/\b.length<=1000000000)
instance (a b:List Int):Decidable (sY a b):=by unfold sY;infer_instance
def j8(l:List Int):Prop:=Lim l/\l.length<=10000000
instance (l:List Int):Decidable (j8 l):=by unfold j8;infer_instance
theorem cG{n:Nat}(h:(ag n).length<=1000000000):aS (ag n):=⟨b9 n,h⟩
theorem bV{v:Int}(h:0<=v):val (ag v.toNat)=v:=by grind [bj]
theorem cE{v:Int}{k:Nat}(h0:0<=v)(h:v<pw k):(ag v.toNat).length<=k:=dD (by omega)
def o8:List En:=[]
def WU:NT:=[((241,4),{keep:=[0],pure_:=[(0,.int .u32)],hl:=0})]
def CH:Ctx:=CX (ens o8) WU
def xF(s0:List Int):Cfg:=⟨241,[.blk 0,.seq 13],[(0,.d aqg s0)],[],0,[]⟩
def ae6(a:List Int)(k:KT):OLR:=k 4 (xF a)
theorem acx(a:List Int):RS CH 241 [.d aqg a] (ae6 a):=rsX
def vX(s0:List Int)(k:KT):OLR:=match decide ((s0.length:Int)>0)with|true=>(match aT s0 (i64.wrap ((s0.length:Int)-1))with|some x1=>(match x1==0 with|true=>(og (decide ((0:Int)<=0/\0<=i64.wrap ((s0.length:Int)-1)/\i64.wrap ((s0.length:Int)-1)<=(s0.length:Int))) (k 4 (xF ((s0.take (i64.wrap ((s0.length:Int)-1)).toNat).drop (0:Int).toNat))))|false=>some [RV.d aqg s0])|none=>none)|false=>some [RV.d aqg s0]
theorem wd(s0:List Int):RN CH 4 (xF s0) (vX s0):=rnX
def Vg:NT:=[((243,8),{keep:=[0,3,4],hl:=0})]
def CZ:Ctx:=CX (ens o8) Vg
def xz(a:List Int)(s3 s4:Int):Cfg:=⟨243,[.blk 0,.seq 19],[(0,.d aqg a),(3,.d (.int .u64) s3),(4,SI s4)],[],0,[]⟩
def PC(a:List Int)(k:KT):OLR:=k 8 (xz a 0 (i64.wrap ((a.length:Int)-1)))
theorem acn(a:List Int):RS CZ 243 [.d aqg a] (PC a):=rsX
def vc(a:List Int)(s3 s4:Int)(k:KT):OLR:=match decide (s4>=0)with|true=>(match aT a s4 with|some x1=>k 8 (xz a (u64.wrap ((u64.wrap (s3*1000000000))+(u64.wrap x1))) (i64.wrap (s4-1)))|none=>none)|false=>some [RV.d (.int .u64) s3]
theorem AD(a:List Int)(s3 s4:Int):RN CZ 8 (xz a s3 s4) (vc a s3 s4):=rnX
def VY:NT:=[((178,6),{keep:=[0,3],own:=[(3,200,.int .u32)],hl:=1})]
def CB:Ctx:=CX (ens o8) VY
def xC(s0:Int)(r0:List Int):Cfg:=⟨178,[.blk 0,.seq 17],[(0,.d (.int .u64) s0),(3,.own 0)],[.row 200 aqi r0],0,[]⟩
def afa(u:Int)(k:KT):OLR:=k 6 (xC u ([]))
theorem aeV(u:Int):RS CB 178 [.d (.int .u64) u] (afa u):=rsX
def vt(s0:Int)(r0:List Int)(k:KT):OLR:=match decide (s0>0)with|true=>(og (decide ((r0.length+([u32.wrap (Int.tmod s0 1000000000)]).length)*4<=140737488355328/\r0.length+([u32.wrap (Int.tmod s0 1000000000)]).length<=140737488355328)) (k 6 (xC (u64.wrap (Int.tdiv s0 1000000000)) (r0++([u32.wrap (Int.tmod s0 1000000000)])))))|false=>some [RV.new 200 aqi r0]
theorem AK(s0:Int)(r0:List Int):RN CB 6 (xC s0 r0) (vt s0 r0):=rnX
def TE:NT:=[((155,22),{keep:=[0,1,5],hl:=0})]
def CJ:Ctx:=CX (ens o8) TE
def un(a b:List Int)(s5:Int):Cfg:=⟨155,[.blk 0,.seq 47],[(0,.d aqg a),(1,.d aqg b),(5,SI s5)],[],0,[]⟩
def HA(a b:List Int)(k:KT):OLR:=match(a.length:Int) !=(b.length:Int)with|true=>(match decide ((a.length:Int)<(b.length:Int))with|true=>some [RV.d aqh (-1)]|false=>some [RV.d aqh 1])|false=>k 22 (un a b (i64.wrap ((a.length:Int)-1)))
theorem Nw(a b:List Int):RS CJ 155 [.d aqg a,.d aqg b] (HA a b):=rsX
def l9(a b:List Int)(s5:Int)(k:KT):OLR:=match decide (s5>=0)with|true=>(match aT a s5 with|some x1=>(match aT b s5 with|some x2=>(match decide (x1<x2)with|true=>some [RV.d aqh (-1)]|false=>(match aT a s5 with|some x3=>(match aT b s5 with|some x4=>(match decide (x3>x4)with|true=>some [RV.d aqh 1]|false=>k 22 (un a b (i64.wrap (s5-1))))|none=>none)|none=>none))|none=>none)|none=>none)|false=>some [RV.d aqh 0]
theorem pp(a b:List Int)(s5:Int):RN CJ 22 (un a b s5) (l9 a b s5):=rnX
theorem LD(l:List Int)(hl:Lim l)(hs:l.length<=1000000000):∀(n:Nat),n<=l.length->(∀j (hj:j<l.length),n<=j->l[j]=0)->CH.Runs 4 (xF (l.take n)) [.d aqg (ag (val l).toNat)]:=by
 intro n;induction n with
 |zero=>
  intro _ h;refine wd _ ⟨0,?_⟩;rw[<-nO hl (apr _) h (.inl rfl)];rfl
 |succ n ih=>
  intro hn h;have hlen:(l.take (n+1)).length=n+1:=by rw[anJ,anL hn]
  have hget:(l.take (n+1))[n]?=some l[n]:=by rw[List.getElem?_take_of_lt (by omega),amX (by omega)]
  by_cases hz:l[n]=0
  ·obtain⟨q,hq⟩:=ih (by omega) λj hj hk=>by
    rcases Nat.eq_or_lt_of_le hk with e|e
    ·subst e;exact hz
    ·exact h j hj e
   refine wd _ ⟨q,?_⟩;unfold vX;rw[hlen,amW (by omega),KY (by omega) (by omega),av,show n+1-1=n from rfl,hget];dsimp only;rw[hz,amW (show(0:Int)<=0/\(0:Int)<=(n:Int)/\(n:Int)<=((n+1:Nat):Int) by omega),aF,ap9,anL (by omega)];exact hq
  ·refine wd _ ⟨0,?_⟩;unfold vX;rw[hlen,amW (by omega),KY (by omega) (by omega),av,show n+1-1=n from rfl,hget];dsimp only;rw[show(l[n]==0)=false by simpa using hz,<-nO hl hn h (.inr ⟨Nat.lt_of_succ_le hn,hz⟩)]
def zP:Cn 241 [aqg]:=cn λ(a:List Int)=>lf (aS a) [.d aqg (ag (val a).toNat)] λh=>by
 refine da o8 (show CH.Res _ _ _ from ?_);obtain⟨q,hq⟩:=LD a h.1 h.2 a.length (am2 _) (λj hj hk=>by omega);rw[aof]at hq;exact acx _ ⟨q,hq⟩
theorem K8(u:Nat):∀(r:List Int),(u:Int)<18446744073709551616->r.length+3<=1000+3-(ag u).length->CB.Runs 6 (xC (u:Int) r) [.new 200 aqi (r++ag u)]:=by
 induction u using rM with
 |h0=>
  intro r _ _;refine AK _ _ ⟨0,?_⟩;unfold vt;rw[gv,ant];rfl
 |h1 n hn ih=>
  intro r hu hr;rw[jz hn]at hr;simp only[anb]at hr;obtain⟨q,hq⟩:=ih (r++[((n%1000000000:Nat):Int)]) (by omega) (by rw[anu];simp only[anm];omega);refine AK _ _ ⟨q,?_⟩;unfold vt;rw[amW (by omega),ke (by omega),iI (by omega),bG (x:=(n:Int)/1000000000) (by omega) (by omega),dg (x:=(n:Int)%1000000000) (by omega) (by omega)];simp only[anm];rw[ad9 (by omega) (by omega),jz hn];rw[show((n:Int)%1000000000)=((n%1000000000:Nat):Int) by omega,show((n:Int)/1000000000)=((n/1000000000:Nat):Int) by omega];rw[ann]at hq;exact hq
def CD:Cn 178 [(.int .u64)]:=cn λ(u:Int)=>lf (jm u) [.new 200 aqi (ag u.toNat)] λh=>by
 refine da o8 (show CB.Res _ _ _ from ?_);have h0:=h.1;have h1:=h.2;have hl:=dD (n:=u.toNat) (k:=3) (app (show(u.toNat:Int)<18446744073709551616 by omega) (by decide));obtain⟨q,hq⟩:=K8 u.toNat [] (by omega) (by simp;omega)
 rw[show((u.toNat:Nat):Int)=u by omega]at hq;exact aeV _ ⟨q,hq⟩
theorem A0(a:List Int)(h:uq a):∀(i:Nat),i<=a.length->CZ.Runs 8 (xz a (val (a.drop i)) ((i:Int)-1)) [.d (.int .u64) (val a)]
 |0,_=>by
  refine AD _ _ _ ⟨0,?_⟩;unfold vc;rw[amY (by omega),aoD]
 |i+1,hi=>by
  obtain⟨n,ih⟩:=A0 a h i (by omega);have h0:=h.1.2;have hlim:=h.1.1;have hlt:=h.2;have hd:a.drop i=a[i]::a.drop (i+1):=ij (by omega)
  have hle:∀j,val (a.drop j)<=val a/\0<=val (a.drop j):=λj=>by
   have l1:Lim (a.drop j):=λy hy=>hlim y (ao5 hy);have l2:Lim (a.take j):=λy hy=>hlim y (ao4 hy);have:=dN (a.take j) (a.drop j);rw[aol]at this;have n1:=aR l1;have n2:=aR l2;have p:=cp (a.take j).length
   have:val (a.drop j)<=pw (a.take j).length*val (a.drop j):=by
    have:=am8 (show 1<=pw (a.take j).length by omega) n1;omega
   omega
  have hb:=hlim a[i] (anw _);have hv1:=hle i;have hv2:=hle (i+1);rw[hd]at hv1 ih;simp only[val]at hv1 ih;refine AD _ _ _ ⟨n,?_⟩;unfold vc;rw[show(((i+1:Nat):Int)-1)=(i:Int) by omega,amW (by omega),av,amX (by omega)];dsimp only;rw[bG (x:=val (a.drop (i+1))*1000000000) (by omega) (by omega),bG (x:=a[i]) (by omega) (by omega),bG (by omega) (by omega),aV (by omega) (by omega)];rw[show val (a.drop (i+1))*1000000000+a[i]=a[i]+1000000000*val (a.drop (i+1)) by omega];exact ih
def By:Cn 243 [aqg]:=cn λ(a:List Int)=>lf (uq a) [.d (.int .u64) (val a)] λh=>by
 refine da o8 (show CZ.Res _ _ _ from ?_);obtain⟨n,hn⟩:=A0 a h a.length (am2 _);have h0:=h.1.2;refine acn _ ⟨n,?_⟩;unfold PC;rw[api]at hn;rw[aV (by omega) (by omega)];exact hn
theorem K5(a b:List Int)(la:Lim a)(lb:Lim b)(hl:a.length=b.length)(hs:a.length<=1000000000):∀(n:Nat),n<=a.length->a.drop n=b.drop n->
  CJ.Runs 22 (un a b ((n:Int)-1)) [.d aqh (cr (val a) (val b))]:=by
 intro n;induction n with
 |zero=>
  intro _ h;refine pp _ _ _ ⟨0,?_⟩;have e:val a=val b:=by simp only[aoD]at h;rw[h]
  unfold l9;rw[amY (by omega),e,eH]
 |succ n ih=>
  intro hn h;have h1:n<a.length:=by omega
  have h2:n<b.length:=by omega
  rcases Int.lt_trichotomy a[n] b[n]with hc|hc|hc
  ·refine pp _ _ _ ⟨0,?_⟩;have:=Ck la lb h1 h2 h hc;unfold l9;rw[show((n+1:Nat):Int)-1=(n:Int) by omega,amW (by omega),av,av,amX h1,amX h2];dsimp only;rw[amW hc,dl (by omega)]
  ·obtain⟨q,hq⟩:=ih (by omega) (by rw[anf h1,anf h2,hc,h]);refine pp _ _ _ ⟨q,?_⟩;unfold l9;rw[show((n+1:Nat):Int)-1=(n:Int) by omega,amW (by omega),av,av,amX h1,amX h2];dsimp only;rw[amY (by omega),amY (by omega),aV (x:=(n:Int)-1) (by omega) (by omega)];exact hq
  ·refine pp _ _ _ ⟨0,?_⟩;have:=Ck lb la h2 h1 h.symm hc;unfold l9;rw[show((n+1:Nat):Int)-1=(n:Int) by omega,amW (by omega),av,av,amX h1,amX h2];dsimp only;rw[amY (by omega),amW hc,cU (by omega)]
theorem Jj{a b:List Int}(ha:can a)(hb:can b)(h:a.length<b.length):val a<val b:=by
 have ea:=qg ha;have eb:=qg hb;have:=xq (a:=(val a).toNat) (b:=(val b).toNat) (by rw[<-ea,<-eb];exact h);omega
def zA:Cn 155 [aqg,aqg]:=cn λ(a b:List Int)=>lf (sY a b) [.d aqh (cr (val a) (val b))] λh=>by
 refine da o8 (show CJ.Res _ _ _ from ?_);obtain⟨⟨ha,sa⟩,hb,sb⟩:=h;by_cases hl:a.length=b.length
 ·obtain⟨q,hq⟩:=K5 a b ha.1 hb.1 hl sa _ (am2 _) (by rw[api,hl,api]);refine Nw _ _ ⟨q,?_⟩;unfold HA;rw[show((a.length:Int) !=(b.length:Int))=false by simp[hl],aV (x:=(a.length:Int)-1) (by omega) (by omega)];exact hq
 ·refine Nw _ _ ⟨0,?_⟩;unfold HA;rw[show((a.length:Int) !=(b.length:Int))=true by simp;omega];dsimp only;rcases Nat.lt_or_gt_of_ne hl with h1|h1
  ·have:=Jj ha hb h1;rw[amW (by omega),dl (by omega)]
  ·have:=Jj hb ha h1;rw[amY (by omega),cU (by omega)]
def tD:List En:=enK zP::enK CD::enF By::enF zA::o8
def RI(neg:Bool)(l:List Int)(_k:KT):OLR:=og (decide (aS l)) (match neg with|true=>some [RV.d y2Y (decide (((ag (val l).toNat).length:Int)>0),ag (val l).toNat)]|false=>some [RV.d y2Y (false,ag (val l).toNat)])
def VH:NT:=[((154,16),{keep:=[0,1,5,6,7],hl:=1})]
def xG:Ctx:=CX (ens tD) VH
def lm(s0 s1 r0:List Int)(s6 s7:Int):Cfg:=⟨154,[.blk 0,.seq 37],[(0,.d aqg s0),(1,.d aqg s1),(5,.own 0),(6,.d aqi s6),(7,SI s7)],[.row 200 aqi r0],0,[]⟩
def HN(a b:List Int)(k:KT):OLR:=match decide ((a.length:Int)<(b.length:Int))with|true=>(og (decide ((0:Int)<=i64.wrap ((b.length:Int)+1)/\(i64.wrap ((b.length:Int)+1))*((4:Nat):Int)<=140737488355328/\i64.wrap ((b.length:Int)+1)<=140737488355328)) (k 16 (lm b a (List.replicate (i64.wrap ((b.length:Int)+1)).toNat (0:Int)) 0 0)))|false=>(og (decide ((0:Int)<=i64.wrap ((a.length:Int)+1)/\(i64.wrap ((a.length:Int)+1))*((4:Nat):Int)<=140737488355328/\i64.wrap ((a.length:Int)+1)<=140737488355328)) (k 16 (lm a b (List.replicate (i64.wrap ((a.length:Int)+1)).toNat (0:Int)) 0 0)))
theorem MQ(a b:List Int):RS xG 154 [.d aqg a,.d aqg b] (HN a b):=rsX
def oz(s0 s1 r0:List Int)(s6 s7:Int)(k:KT):OLR:=match decide (s7<(s0.length:Int))with|true=>(match aT s0 s7 with|some x1=>(match decide (s7<(s1.length:Int))with|true=>(match aT s1 s7 with|some x2=>(match aT r0 s7 with|some _=>(match true,r0[(s7).toNat]? with|true,some _=>k 16 (lm s0 s1 (r0.set ((s7).toNat) (Int.tmod (u32.wrap ((u32.wrap (s6+x1))+x2)) 1000000000)) (u32.wrap (Int.tdiv (u32.wrap ((u32.wrap (s6+x1))+x2)) 1000000000)) (i64.wrap (s7+1)))|_,_=>none)|none=>none)|none=>none)|false=>(match aT r0 s7 with|some _=>(match true,r0[(s7).toNat]? with|true,some _x2=>k 16 (lm s0 s1 (r0.set ((s7).toNat) (Int.tmod (u32.wrap (s6+x1)) 1000000000)) (u32.wrap (Int.tdiv (u32.wrap (s6+x1)) 1000000000)) (i64.wrap (s7+1)))|_,_=>none)|none=>none))|none=>none)|false=>(match aT r0 (s0.length:Int)with|some _=>(match true,r0[((s0.length:Int)).toNat]? with|true,some _x1=>(og (decide (aS (r0.set (((s0.length:Int)).toNat) s6))) (some [RV.d aqg (ag (val (r0.set (((s0.length:Int)).toNat) s6)).toNat)]))|_,_=>none)|none=>none)
theorem sA(s0 s1 r0:List Int)(s6 s7:Int):RN xG 16 (lm s0 s1 r0 s6 s7) (oz s0 s1 r0 s6 s7):=rnX
def V7:NT:=[((156,10),{keep:=[0,1,5,6,7],hl:=1})]
def zR:Ctx:=CX (ens tD) V7
def jZ(a b:List Int)(s7:Int)(r0:List Int)(s6:Int):Cfg:=⟨156,[.blk 0,.seq 37],[(0,.d aqg a),(1,.d aqg b),(5,.own 0),(6,.d aqi s6),(7,SI s7)],[.row 200 aqi r0],0,[]⟩
def Ph(a b:List Int)(k:KT):OLR:=og (decide ((0:Int)<=(a.length:Int)/\(a.length:Int)*((4:Nat):Int)<=140737488355328/\(a.length:Int)<=140737488355328)) (k 10 (jZ a b 0 (List.replicate ((a.length:Int)).toNat (0:Int)) 0))
theorem aeu(a b:List Int):RS zR 156 [.d aqg a,.d aqg b] (Ph a b):=rsX
def jr(a b:List Int)(s7:Int)(r0:List Int)(s6:Int)(k:KT):OLR:=match decide (s7<(a.length:Int))with|true=>(match aT a s7 with|some x1=>(match decide (s7<(b.length:Int))with|true=>(match aT b s7 with|some x2=>(match decide ((u32.wrap ((u32.wrap ((u32.wrap (x1+1000000000))-s6))-x2))>=1000000000)with|true=>(match aT r0 s7 with|some _=>(match true,r0[(s7).toNat]? with|true,some _x3=>k 10 (jZ a b (i64.wrap (s7+1)) (r0.set ((s7).toNat) (u32.wrap ((u32.wrap ((u32.wrap ((u32.wrap (x1+1000000000))-s6))-x2))-1000000000))) 0)|_,_=>none)|none=>none)|false=>(match aT r0 s7 with|some _=>(match true,r0[(s7).toNat]? with|true,some _x3=>k 10 (jZ a b (i64.wrap (s7+1)) (r0.set ((s7).toNat) (u32.wrap ((u32.wrap ((u32.wrap (x1+1000000000))-s6))-x2))) 1)|_,_=>none)|none=>none))|none=>none)|false=>(match decide ((u32.wrap ((u32.wrap (x1+1000000000))-s6))>=1000000000)with|true=>(match aT r0 s7 with|some _=>(match true,r0[(s7).toNat]? with|true,some _x2=>k 10 (jZ a b (i64.wrap (s7+1)) (r0.set ((s7).toNat) (u32.wrap ((u32.wrap ((u32.wrap (x1+1000000000))-s6))-1000000000))) 0)|_,_=>none)|none=>none)|false=>(match aT r0 s7 with|some _=>(match true,r0[(s7).toNat]? with|true,some _x2=>k 10 (jZ a b (i64.wrap (s7+1)) (r0.set ((s7).toNat) (u32.wrap ((u32.wrap (x1+1000000000))-s6))) 1)|_,_=>none)|none=>none)))|none=>none)|false=>(og (decide (aS r0)) (some [RV.d aqg (ag (val r0).toNat)]))
theorem lN(a b:List Int)(s7:Int)(r0:List Int)(s6:Int):RN zR 10 (jZ a b s7 r0 s6) (jr a b s7 r0 s6):=rnX
def TQ:NT:=[((150,8),{keep:=[0,1,5,6],hl:=1}),((150,23),{keep:=[0,1,5,6,7,8],hl:=1})]
def sC:Ctx:=CX (ens tD) TQ
def uu(a b:List Int)(s6:Int)(r0:List Int):Cfg:=⟨150,[.blk 0,.seq 40],[(0,.d aqg a),(1,.d aqg b),(5,.own 0),(6,SI s6)],[.row 200 aqi r0],0,[]⟩
def tM(a b:List Int)(s6 s7 s8:Int)(r0:List Int):Cfg:=⟨150,[.blk 2,.seq 38,.blk 1,.seq 39,.lp 8,.blk 0,.seq 40],[(0,.d aqg a),(1,.d aqg b),(5,.own 0),(6,SI s6),(7,.d (.int .u64) s7),(8,SI s8)],[.row 200 aqi r0],0,[]⟩
def O7(a b:List Int)(k:KT):OLR:=og (decide ((0:Int)<=i64.wrap ((a.length:Int)+(b.length:Int))/\(i64.wrap ((a.length:Int)+(b.length:Int)))*((4:Nat):Int)<=140737488355328/\i64.wrap ((a.length:Int)+(b.length:Int))<=140737488355328)) (k 8 (uu a b 0 (List.replicate (i64.wrap ((a.length:Int)+(b.length:Int))).toNat (0:Int))))
theorem ae8(a b:List Int):RS sC 150 [.d aqg a,.d aqg b] (O7 a b):=rsX
def vk(a b:List Int)(s6:Int)(r0:List Int)(k:KT):OLR:=match decide (s6<(a.length:Int))with|true=>k 23 (tM a b s6 0 0 r0)|false=>(og (decide (aS r0)) (some [RV.d aqg (ag (val r0).toNat)]))
theorem Ad(a b:List Int)(s6:Int)(r0:List Int):RN sC 8 (uu a b s6 r0) (vk a b s6 r0):=rnX
def tJ(a b:List Int)(s6 s7 s8:Int)(r0:List Int)(k:KT):OLR:=match decide (s8<(b.length:Int))with|true=>(match aT r0 (i64.wrap (s6+s8))with|some _=>(match true,r0[(i64.wrap (s6+s8)).toNat]? with|true,some x1=>(match aT a s6 with|some x2=>(match aT b s8 with|some x3=>(match aT r0 (i64.wrap (s6+s8))with|some _=>(match true,r0[(i64.wrap (s6+s8)).toNat]? with|true,some _=>k 23 (tM a b s6 (u64.wrap (Int.tdiv (u64.wrap ((u64.wrap (s7+(u64.wrap x1)))+(u64.wrap ((u64.wrap x2)*(u64.wrap x3))))) 1000000000)) (i64.wrap (s8+1)) (r0.set ((i64.wrap (s6+s8)).toNat) (u32.wrap (Int.tmod (u64.wrap ((u64.wrap (s7+(u64.wrap x1)))+(u64.wrap ((u64.wrap x2)*(u64.wrap x3))))) 1000000000))))|_,_=>none)|none=>none)|none=>none)|none=>none)|_,_=>none)|none=>none)|false=>(match aT r0 (i64.wrap (s6+(b.length:Int)))with|some _=>(match true,r0[(i64.wrap (s6+(b.length:Int))).toNat]? with|true,some _x1=>k 8 (uu a b (i64.wrap (s6+1)) (r0.set ((i64.wrap (s6+(b.length:Int))).toNat) (u32.wrap s7)))|_,_=>none)|none=>none)
theorem yo(a b:List Int)(s6 s7 s8:Int)(r0:List Int):RN sC 23 (tM a b s6 s7 s8 r0) (tJ a b s6 s7 s8 r0):=rnX
def Gr:Cn 149 [.bool,aqg]:=cn λ(neg:Bool) (l:List Int)=>lf (aS l) [.d y2Y (ai (cf neg (val l)))] λh=>by
 refine aB tD (RI neg l) ⟨0,?_⟩;have hv:=aR h.1
 have hp:decide (((ag (val l).toNat).length:Int)>0)=decide (0<val l):=by
  refine an7.2 ⟨λg=>?_,λg=>?_⟩
  ·apply ang;intro hc;rw[show(val l).toNat=0 by omega,gv]at g;simp at g
  ·have:ag (val l).toNat≠[]:=λe=>by rw[iK]at e;omega
   have:=anG.2 this;omega
 unfold RI;rw[amW h,nJ neg hv,hp];cases neg<;>rfl
theorem AT(a b:List Int)(ha:j8 a)(hb:j8 b)(hab:b.length<=a.length):∀(j i:Nat) (c:Int) (r:List Int),i+j=a.length->0<=c->c<=1->Lim r->r.length=a.length+1->(∀k (hk:k<r.length),i<=k->r[k]=0)->val r+pw i*c=val (a.take i)+val (b.take i)->
  xG.Runs 16 (lm a b r c (i:Int)) [.d aqg (ag (val a+val b).toNat)]:=by
 have hsa:=ha.2;intro j;induction j with
 |zero=>
  intro i c r hi c0 c1 hr hl hz hv;obtain rfl:i=a.length:=by omega
  have hir:a.length<r.length:=by omega
  have hr0:=hz _ hir (am2 _)
  have e:val (r.set a.length c)=val a+val b:=by
   rw[fK hir,hr0];rw[aof,aob hab]at hv;grind
  refine sA _ _ _ _ _ ⟨0,?_⟩;unfold oz;rw[cd (am2 _),av r,aF,amX hir];dsimp only;rw[amW (show aS (r.set a.length c) from⟨hr.set _ ⟨c0,by omega⟩,by simp;omega⟩),e]
 |succ j ih=>
  intro i c r hi c0 c1 hr hl hz hv;have hia:i<a.length:=by omega
  have hir:i<r.length:=by omega
  have xa:=ha.1.get hia;have hr0:=hz i hir (am2 _)
  have step:∀(t:Int),0<=t->t<2000000000->val (b.take (i+1))=val (b.take i)+pw i*(t-a[i]-c)->xG.Runs 16 (lm a b (r.set i (t%1000000000)) (t/1000000000) ((i+1:Nat):Int)) [.d aqg (ag (val a+val b).toNat)]:=by
   intro t t0 t1 hb';refine ih (i+1) (t/1000000000) (r.set i (t%1000000000)) (by omega) (by omega) (by omega) (hr.set i ⟨by omega,by omega⟩) (by simpa using hl) (qo hz) ?_;rw[fK hir,hr0,a9 hia,hb',ce];have:=Int.emod_add_mul_ediv t 1000000000;grind
  by_cases hib:i<b.length
  ·have xb:=hb.1.get hib;have ht:=a9 hib;obtain⟨q,hq⟩:=step (c+a[i]+b[i]) (by omega) (by omega) (by rw[ht];grind);refine sA _ _ _ _ _ ⟨q,?_⟩;unfold oz;rw[bI hia,av,amX hia,bI hib,av,amX hib,av r i,aF,amX hir];dsimp only;rw[dg (x:=c+a[i]) (by omega) (by omega),dg (x:=c+a[i]+b[i]) (by omega) (by omega),ke (by omega),iI (by omega),dg (x:=(c+a[i]+b[i])/1000000000) (by omega) (by omega),bW (by omega)];exact hq
  ·have ht:=lc (b:=b) (i:=i) (by omega);obtain⟨q,hq⟩:=step (c+a[i]) (by omega) (by omega) (by rw[ht];grind);refine sA _ _ _ _ _ ⟨q,?_⟩;unfold oz;rw[bI hia,av,amX hia,cd (show b.length<=i by omega),av r i,aF,amX hir];dsimp only;rw[dg (x:=c+a[i]) (by omega) (by omega),ke (by omega),iI (by omega),dg (x:=(c+a[i])/1000000000) (by omega) (by omega),bW (by omega)];exact hq
def adQ:Cn 154 [aqg,aqg]:=cn λ(a b:List Int)=>lf (j8 a/\j8 b) [.d aqg (ag (val a+val b).toNat)] λh=>by
 refine da tD (show xG.Res _ _ _ from ?_);obtain⟨ha,hb⟩:=h;have hsa:=ha.2;have hsb:=hb.2;by_cases hc:a.length<b.length
 ·obtain⟨q,hq⟩:=AT b a hb ha (by omega) b.length 0 0 (List.replicate (b.length+1) 0) (by omega) (by omega) (by omega) (Lim.rep _) (by simp) (λk hk _=>by simp) (by simp[val,io]);refine MQ _ _ ⟨q,?_⟩;unfold HN;rw[bI hc,bW (by omega),uH (by omega),aF,apT (val a)];exact hq
 ·obtain⟨q,hq⟩:=AT a b ha hb (by omega) a.length 0 0 (List.replicate (a.length+1) 0) (by omega) (by omega) (by omega) (Lim.rep _) (by simp) (λk hk _=>by simp) (by simp[val,io]);refine MQ _ _ ⟨q,?_⟩;unfold HN;rw[cd (by omega),bW (k:=a.length) (by omega),uH (n:=a.length+1) (by omega),aF];exact hq
theorem LJ(a b:List Int)(ha:aS a)(hb:aS b)(hle:val b<=val a):∀(j i:Nat) (c:Int) (r:List Int),i+j=a.length->0<=c->c<=1->Lim r->r.length=a.length->(∀k (hk:k<r.length),i<=k->r[k]=0)->val r+val (b.take i)=val (a.take i)+pw i*c->
  zR.Runs 10 (jZ a b (i:Int) r c) [.d aqg (ag (val a-val b).toNat)]:=by
 have hsa:=ha.2;intro j;induction j with
 |zero=>
  intro i c r hi c0 c1 hr hl hz hv;obtain rfl:i=a.length:=by omega
  refine lN _ _ _ _ _ ⟨0,?_⟩;unfold jr;rw[cd (am2 _)];have hrl:=b8 hr;rw[hl]at hrl;have hb2:val b=val (b.take a.length)+pw (min a.length b.length)*val (b.drop a.length):=gK b a.length;have hbd:0<=val (b.drop a.length):=aR (hb.1.drop _);have hal:=b8 ha.1;have hbt:=aR (hb.1.take a.length);rw[aof]at hv
  have hz0:val (b.drop a.length)=0:=by
   rcases anC a.length b.length with h1|h1
   ·rw[anL (by omega)]at hb2;rcases ans 0 (val (b.drop a.length))with h2|h2
    ·have hp:=cp a.length;have:=am4 (show 1<=val (b.drop a.length) by omega) (anD hp);omega
    ·omega
   ·rw[anR h1];rfl
  rw[hz0,apc,aqa]at hb2
  have hc0:c=0:=by
   have hp:=cp a.length;rcases(show c=0\/c=1 by omega)with h|h
   ·exact h
   ·subst h;rw[apf]at hv;omega
  subst hc0;rw[apc]at hv;rw[amW (show aS r from⟨hr,by omega⟩),show val r=val a-val b by omega]
 |succ j ih=>
  intro i c r hi c0 c1 hr hl hz hv;have hia:i<a.length:=by omega
  have hir:i<r.length:=by omega
  have xa:=ha.1.get hia;have hr0:=hz i hir (am2 _)
  have step:∀(y c':Int),0<=y->y<1000000000->0<=c'->c'<=1->val (b.take (i+1))=val (b.take i)+pw i*(a[i]+1000000000*c'-y-c)->zR.Runs 10 (jZ a b ((i+1:Nat):Int) (r.set i y) c') [.d aqg (ag (val a-val b).toNat)]:=by
   intro y c' y0 y1 k0 k1 hb';refine ih (i+1) c' (r.set i y) (by omega) k0 k1 (hr.set i ⟨y0,y1⟩) (by simpa using hl) (qo hz) ?_;rw[fK hir,hr0,a9 hia,hb',ce];grind
  by_cases hib:i<b.length
  ·have xb:=hb.1.get hib;have ht:=a9 hib;by_cases hc:a[i]+1000000000-c-b[i]>=1000000000
   ·obtain⟨q,hq⟩:=step (a[i]+1000000000-c-b[i]-1000000000) 0 (by omega) (by omega) (by omega) (by omega) (by rw[ht];grind);refine lN _ _ _ _ _ ⟨q,?_⟩;unfold jr;rw[bI hia,av,amX hia,bI hib,av,amX hib,av,aF,amX hir];dsimp only;rw[dg (x:=a[i]+1000000000) (by omega) (by omega),dg (x:=a[i]+1000000000-c) (by omega) (by omega),dg (x:=a[i]+1000000000-c-b[i]) (by omega) (by omega),amW hc,dg (x:=a[i]+1000000000-c-b[i]-1000000000) (by omega) (by omega),bW (by omega)];exact hq
   ·obtain⟨q,hq⟩:=step (a[i]+1000000000-c-b[i]) 1 (by omega) (by omega) (by omega) (by omega) (by rw[ht];grind);refine lN _ _ _ _ _ ⟨q,?_⟩;unfold jr;rw[bI hia,av,amX hia,bI hib,av,amX hib,av,aF,amX hir];dsimp only;rw[dg (x:=a[i]+1000000000) (by omega) (by omega),dg (x:=a[i]+1000000000-c) (by omega) (by omega),dg (x:=a[i]+1000000000-c-b[i]) (by omega) (by omega),amY hc,bW (by omega)];exact hq
  ·have ht:=lc (b:=b) (i:=i) (by omega);by_cases hc:a[i]+1000000000-c>=1000000000
   ·obtain⟨q,hq⟩:=step (a[i]+1000000000-c-1000000000) 0 (by omega) (by omega) (by omega) (by omega) (by rw[ht];grind);refine lN _ _ _ _ _ ⟨q,?_⟩;unfold jr;rw[bI hia,av,amX hia,cd (show b.length<=i by omega),av r i,aF,amX hir];dsimp only;rw[dg (x:=a[i]+1000000000) (by omega) (by omega),dg (x:=a[i]+1000000000-c) (by omega) (by omega),amW hc,dg (x:=a[i]+1000000000-c-1000000000) (by omega) (by omega),bW (by omega)];exact hq
   ·obtain⟨q,hq⟩:=step (a[i]+1000000000-c) 1 (by omega) (by omega) (by omega) (by omega) (by rw[ht];grind);refine lN _ _ _ _ _ ⟨q,?_⟩;unfold jr;rw[bI hia,av,amX hia,cd (show b.length<=i by omega),av r i,aF,amX hir];dsimp only;rw[dg (x:=a[i]+1000000000) (by omega) (by omega),dg (x:=a[i]+1000000000-c) (by omega) (by omega),amY hc,bW (by omega)];exact hq
def Hp:Cn 156 [aqg,aqg]:=cn λ(a b:List Int)=>lf (pZ a b) [.d aqg (ag (val a-val b).toNat)] λh=>by
 refine da tD (show zR.Res _ _ _ from ?_);obtain⟨ha,hb,hle⟩:=h;have hsa:=ha.2;obtain⟨q,hq⟩:=LJ a b ha hb hle a.length 0 0 (List.replicate a.length 0) (by omega) (by omega) (by omega) (Lim.rep _) (by simp) (λk hk _=>by simp) (by simp[val,io]);refine aeu _ _ ⟨q,?_⟩;unfold Ph;rw[uH (by omega),aF];exact hq
theorem Gp(a b:List Int)(ha:j8 a)(hb:j8 b)(i:Nat)(hi:i<a.length)
  (hout:∀r,Lim r->r.length=a.length+b.length->(∀k (hk:k<r.length),i+1+b.length<=k->r[k]=0)->val r=val (a.take (i+1))*val b->sC.Runs 8 (uu a b ((i+1:Nat):Int) r) [.d aqg (ag (val a*val b).toNat)]):
  ∀(j k:Nat) (c:Int) (r:List Int),k+j=b.length->0<=c->c<1000000000->Lim r->r.length=a.length+b.length->(∀q (hq:q<r.length),i+b.length<=q->r[q]=0)->val r+pw (i+k)*c=val (a.take i)*val b+pw i*a[i]*val (b.take k)->
  sC.Runs 23 (tM a b (i:Int) c (k:Int) r) [.d aqg (ag (val a*val b).toNat)]:=by
 have hsa:=ha.2;have hsb:=hb.2;have xa:=ha.1.get hi;intro j;induction j with
 |zero=>
  intro k c r hk c0 c1 hr hl hz hv;obtain rfl:k=b.length:=by omega
  have hir:i+b.length<r.length:=by omega
  have hr0:=hz _ hir (am2 _)
  obtain⟨q,hq⟩:=hout (r.set (i+b.length) c) (hr.set _ ⟨c0,c1⟩) (by simpa using hl) (by rw[show i+1+b.length=i+b.length+1 by omega];exact qo hz) (by
   rw[fK hir,hr0,a9 hi];rw[aof]at hv;grind)
  refine yo _ _ _ _ _ _ ⟨q,?_⟩;have hw:i64.wrap ((i:Int)+(b.length:Int))=((i+b.length:Nat):Int):=by rw[aV (by omega) (by omega)];simp
  unfold tJ;rw[cd (am2 _),hw,av r (i+b.length),aF,amX hir,dg (x:=c) (by omega) (by omega),bW (k:=i) (by omega)];exact hq
 |succ j ih=>
  intro k c r hk c0 c1 hr hl hz hv;have hkb:k<b.length:=by omega
  have hir:i+k<r.length:=by omega
  have xb:=hb.1.get hkb;have xr:=hr.get hir;have hbd:=GZ xr xa xb ⟨c0,c1⟩
  obtain⟨q,hq⟩:=ih (k+1) ((r[i+k]+a[i]*b[k]+c)/1000000000) (r.set (i+k) ((r[i+k]+a[i]*b[k]+c)%1000000000)) (by omega) hbd.2.2.1 hbd.2.2.2 (hr.set _ (by omega)) (by simpa using hl)
   (λm hm hq=>by rw[aoj (by omega)];exact hz m (by simpa using hm) hq) (by
    rw[fK hir,a9 hkb,show i+(k+1)=i+k+1 by omega,ce,fW];rw[fW]at hv;have e:=Int.emod_add_mul_ediv (r[i+k]+a[i]*b[k]+c) 1000000000;grind)
  refine yo _ _ _ _ _ _ ⟨q,?_⟩;have hw:i64.wrap ((i:Int)+(k:Int))=((i+k:Nat):Int):=by rw[aV (by omega) (by omega)];simp
  unfold tJ;rw[bI hkb,hw,av b k,amX hkb,av a i,amX hi,av r (i+k),aF,amX hir];dsimp only;rw[bG (x:=r[i+k]) (by omega) (by omega),bG (x:=a[i]) (by omega) (by omega),bG (x:=b[k]) (by omega) (by omega),bG (x:=a[i]*b[k]) (by omega) (by omega),bG (x:=c+r[i+k]) (by omega) (by omega),bG (x:=c+r[i+k]+a[i]*b[k]) (by omega) (by omega),show c+r[i+k]+a[i]*b[k]=r[i+k]+a[i]*b[k]+c by omega,iI (a:=r[i+k]+a[i]*b[k]+c) (by omega),ke (a:=r[i+k]+a[i]*b[k]+c) (by omega),bG (x:=(r[i+k]+a[i]*b[k]+c)/1000000000) (by omega) (by omega),dg (x:=(r[i+k]+a[i]*b[k]+c)%1000000000) (by omega) (by omega),bW (k:=k) (by omega)];exact hq
theorem GW(a b:List Int)(ha:j8 a)(hb:j8 b):∀(j i:Nat) (r:List Int),i+j=a.length->Lim r->r.length=a.length+b.length->(∀k (hk:k<r.length),i+b.length<=k->r[k]=0)->val r=val (a.take i)*val b->
  sC.Runs 8 (uu a b (i:Int) r) [.d aqg (ag (val a*val b).toNat)]:=by
 have hsa:=ha.2;have hsb:=hb.2;intro j;induction j with
 |zero=>
  intro i r hi hr hl hz hv;obtain rfl:i=a.length:=by omega
  refine Ad _ _ _ _ ⟨0,?_⟩;unfold vk;rw[aof]at hv;rw[cd (am2 _),amW (show aS r from⟨hr,by omega⟩),hv]
 |succ j ih=>
  intro i r hi hr hl hz hv;have hia:i<a.length:=by omega
  obtain⟨q,hq⟩:=Gp a b ha hb i hia (λr' h1 h2 h3 h4=>ih (i+1) r' (by omega) h1 h2 h3 h4) b.length 0 0 r (by omega) (by omega) (by omega) hr hl hz (by simp[val,hv]);refine Ad _ _ _ _ ⟨q,?_⟩;grind [vk]
def aeQ:Cn 150 [aqg,aqg]:=cn λ(a b:List Int)=>lf (j8 a/\j8 b) [.d aqg (ag (val a*val b).toNat)] λh=>by
 refine da tD (show sC.Res _ _ _ from ?_);obtain⟨ha,hb⟩:=h;have hsa:=ha.2;have hsb:=hb.2;obtain⟨q,hq⟩:=GW a b ha hb a.length 0 (List.replicate (a.length+b.length) 0) (by omega) (Lim.rep _) (by simp) (λk hk _=>by simp) (by simp[val,io]);refine ae8 _ _ ⟨q,?_⟩;have hw:i64.wrap ((a.length:Int)+(b.length:Int))=((a.length+b.length:Nat):Int):=by rw[aV (by omega) (by omega)];simp
 unfold O7;rw[hw,uH (by omega),aF];exact hq
theorem uF{x:BI}(h:okI x):j8 x.2:=⟨h.1.1,by have:=h.2.2;omega⟩
theorem WG(a b:Int):decide (cr a b>=0)=decide (b<=a):=by grind [dl,eH,cU]
theorem zL(a b:Int):decide (cr a b>0)=decide (b<a):=by grind [dl,eH,cU]
def qh:List En:=[enK zP,enK CD,enF By,enF zA,enK Gr,enK adQ,enK Hp,enK aeQ]
def Qs(n:Int)(_k:KT):OLR:=match decide (n<0)with|true=>(match decide (jm (u64.wrap (0-(u64.wrap n))))with|true=>(match decide (aS (ag (u64.wrap (0-(u64.wrap n))).toNat))with|true=>some [RV.d y2Y (ai (cf true (val (ag (u64.wrap (0-(u64.wrap n))).toNat))))]|false=>none)|false=>none)|false=>(match decide (jm (u64.wrap n))with|true=>(match decide (aS (ag (u64.wrap n).toNat))with|true=>some [RV.d y2Y (ai (cf false (val (ag (u64.wrap n).toNat))))]|false=>none)|false=>none)
def Qz(x:Bool×List Int)(_k:KT):OLR:=match(x.2.length:Int)==0 with|true=>some [RV.d aqh 0]|false=>(match x.1 with|true=>some [RV.d aqh (-1)]|false=>some [RV.d aqh 1])
def NA(x y:Bool×List Int)(_k:KT):OLR:=match !(x.1==y.1)with|true=>(match x.1 with|true=>some [RV.d aqh (-1)]|false=>some [RV.d aqh 1])|false=>(match x.1 with|true=>(og (decide (sY y.2 x.2)) (some [RV.d aqh (cr (val y.2) (val x.2))]))|false=>(og (decide (sY x.2 y.2)) (some [RV.d aqh (cr (val x.2) (val y.2))])))
def Qr(x y:Bool×List Int)(_k:KT):OLR:=match x.1==y.1 with|true=>(og (decide (j8 x.2/\j8 y.2)) (og (decide (aS (ag (val x.2+val y.2).toNat))) (some [RV.d y2Y (ai (cf x.1 (val (ag (val x.2+val y.2).toNat))))])))|false=>(og (decide (sY x.2 y.2)) (match decide ((cr (val x.2) (val y.2))>=0)with|true=>(og (decide (pZ x.2 y.2)) (og (decide (aS (ag (val x.2-val y.2).toNat))) (some [RV.d y2Y (ai (cf x.1 (val (ag (val x.2-val y.2).toNat))))])))|false=>(og (decide (pZ y.2 x.2)) (og (decide (aS (ag (val y.2-val x.2).toNat))) (some [RV.d y2Y (ai (cf y.1 (val (ag (val y.2-val x.2).toNat))))])))))
def Ms(x:Bool×List Int)(_k:KT):OLR:=og (decide (aS x.2)) (some [RV.d y2Y (ai (cf (!x.1) (val x.2)))])
def Pk(x y:Bool×List Int)(_k:KT):OLR:=og (decide (j8 x.2/\j8 y.2)) (og (decide (aS (ag (val x.2*val y.2).toNat))) (some [RV.d y2Y (ai (cf (!(x.1==y.1)) (val (ag (val x.2*val y.2).toNat))))]))
def Xo(a:List Int)(n:Int)(_k:KT):OLR:=og (decide (aS ([n]))) (og (decide (j8 a/\j8 (ag (val ([n])).toNat))) (some [RV.d aqg (ag (val a*val (ag (val ([n])).toNat)).toNat)]))
def Cs:Cn 79 [aqh]:=cn λ(n:Int)=>lf (aI n) [.d y2Y (ai n)] λh=>by
 refine aB qh (Qs n) ⟨0,?_⟩;have h1:=h.1;have h2:=h.2;unfold Qs;by_cases hn:n<0
 ·have e:u64.wrap (0-u64.wrap n)= -n:=by rw[anO,anO];omega
  have hl:(ag (-n).toNat).length<=3:=cE (by omega) (app (show-n<18446744073709551616 by omega) (by decide));rw[amW hn];dsimp only;rw[e,amW (show jm (-n) from⟨by omega,by omega⟩),amW (cG (n:=(-n).toNat) (by omega)),bV (v:= -n) (by omega)];dsimp only;rw[show cf true (-n)=n by unfold cf;simp]
 ·have e:u64.wrap n=n:=bG (by omega) (by omega);have hl:(ag n.toNat).length<=3:=cE (by omega) (app (show n<18446744073709551616 by omega) (by decide));rw[amY hn];dsimp only;rw[e,amW (show jm n from⟨by omega,by omega⟩),amW (cG (n:=n.toNat) (by omega)),bV (v:=n) (by omega)];rfl
def Px:Cn 109 [y2Y]:=cn λ(x:Bool×List Int)=>lf (okI x) [.d aqh (cr (ae x) 0)] λh=>by
 refine aB qh (Qz x) ⟨0,?_⟩;obtain⟨h0,h1,h2⟩:=cH h;unfold Qz;rw[bO];unfold cf;by_cases he:x.2=[]
 ·have e0:=h2.1 he
  have ex:x.1=false:=by
   cases hx:x.1
   ·rfl
   ·have:=h1 hx;omega
  rw[ex,e0,he];rfl
 ·have hp:0<val x.2:=fh h.1 he;have:=anG.2 he;rw[show((x.2.length:Int)==0)=false by simp;omega];cases x.1
  ·simp only[cond_false];rw[cU hp]
  ·simp only[cond_true];rw[dl (by omega)]
def QC:Cn 269 [y2Y,y2Y]:=cn λ(x y:Bool×List Int)=>lf (okI x/\okI y) [.d aqh (cr (ae x) (ae y))] λh=>by
 refine aB qh (NA x y) ⟨0,?_⟩;obtain⟨hx,hy⟩:=h;obtain⟨x0,x1,x2⟩:=cH hx;obtain⟨y0,y1,y2⟩:=cH hy;have sx:=hx.2.2;have sy:=hy.2.2;unfold NA;rw[bO,bO,amW (show sY y.2 x.2 from⟨⟨hy.1,by omega⟩,hx.1,by omega⟩),amW (show sY x.2 y.2 from⟨⟨hx.1,by omega⟩,hy.1,by omega⟩)];unfold cf;cases ex:x.1<;>cases ey:y.1
 ·rfl
 ·have:=y1 ey;simp only[cond_true,cond_false];rw[show cr (val x.2) (-val y.2)=1 from cU (by omega)];rfl
 ·have:=x1 ex;simp only[cond_true,cond_false];rw[show cr (-val x.2) (val y.2)= -1 from dl (by omega)];rfl
 ·simp only[cond_true];rw[IZ x0 y0];rfl
def C9:Cn 63 [y2Y,y2Y]:=cn λ(x y:Bool×List Int)=>lf (okI x/\okI y) [.d y2Y (ai (ae x+ae y))] λh=>by
 refine aB qh (Qr x y) ⟨0,?_⟩;obtain⟨hx,hy⟩:=h;obtain⟨x0,x1,x2⟩:=cH hx;obtain⟨y0,y1,y2⟩:=cH hy;have lx:=gH hx;have ly:=gH hy;have tx:=uF hx;have ty:=uF hy;have sx:=hx.2.2;have sy:=hy.2.2;have bx:=b8 hx.1.1;have by':=b8 hy.1.1;have px:=dH (show x.2.length<=1000000 by omega);have py:=dH (show y.2.length<=1000000 by omega);have l1:(ag (val x.2+val y.2).toNat).length<=1000001:=cE (by omega) (by rw[ce];omega);have l2:(ag (val x.2-val y.2).toNat).length<=1000000:=dD (by have:=cp 1000000;omega);have l3:(ag (val y.2-val x.2).toNat).length<=1000000:=dD (by have:=cp 1000000;omega);unfold Qr
 rw[bO,bO,amW (show j8 x.2/\j8 y.2 from⟨tx,ty⟩),amW (cG (n:=(val x.2+val y.2).toNat) (by omega)),amW (cG (n:=(val x.2-val y.2).toNat) (by omega)),amW (cG (n:=(val y.2-val x.2).toNat) (by omega)),bV (v:=val x.2+val y.2) (by omega),
  amW (show sY x.2 y.2 from⟨⟨hx.1,by omega⟩,hy.1,by omega⟩),WG]
 cases hs:x.1==y.1
 ·dsimp only;rcases ans (val x.2) (val y.2)with hc|hc
  ·rw[amY (show ¬val y.2<=val x.2 by omega),amW (show pZ y.2 x.2 from⟨ly,lx,by omega⟩),bV (v:=val y.2-val x.2) (by omega)];dsimp only;unfold cf;cases ex:x.1<;>cases ey:y.1<;>simp_all<;>congr 2<;>omega
  ·rw[amW hc,amW (show pZ x.2 y.2 from⟨lx,ly,hc⟩),bV (v:=val x.2-val y.2) (by omega)];dsimp only;unfold cf;cases ex:x.1<;>cases ey:y.1<;>simp_all<;>congr 2<;>omega
 ·dsimp only;have e:=anV.1 hs;rw[<-e];unfold cf;cases x.1
  ·rfl
  ·simp only[cond_true];rw[show-(val x.2+val y.2)= -val x.2+ -val y.2 by omega]
def NK:Cn 151 [y2Y]:=cn λ(x:Bool×List Int)=>lf (okI x) [.d y2Y (ai (-ae x))] λh=>by
 refine aB qh (Ms x) ⟨0,?_⟩;unfold Ms;rw[bO,amW (gH h)];unfold cf;cases x.1<;>simp
def LV:Cn 61 [y2Y,y2Y]:=cn λ(x y:Bool×List Int)=>lf (okI x/\okI y) [.d y2Y (ai (ae x*ae y))] λh=>by
 refine aB qh (Pk x y) ⟨0,?_⟩;obtain⟨hx,hy⟩:=h;obtain⟨x0,x1,x2⟩:=cH hx;obtain⟨y0,y1,y2⟩:=cH hy;have bx:=b8 hx.1.1;have by':=b8 hy.1.1;have sx:=hx.2.2;have sy:=hy.2.2;have hm:0<=val x.2*val y.2:=anT x0 y0
 have l1:(ag (val x.2*val y.2).toNat).length<=x.2.length+y.2.length:=cE hm (by
  rw[fW];have p1:=cp x.2.length;have p2:=cp y.2.length;have:=ao3 (show val x.2<=pw x.2.length-1 by omega) (show val y.2<=pw y.2.length-1 by omega) y0 (by omega);grind)
 unfold Pk;rw[bO,bO,amW (show j8 x.2/\j8 y.2 from⟨uF hx,uF hy⟩),amW (cG (n:=(val x.2*val y.2).toNat) (by omega)),bV hm];unfold cf;cases x.1<;>cases y.1<;>simp[Int.neg_mul,apP]
def byP(a:List Int)(n:Int):Prop:=j8 a/\0<=n/\n<1000000000
instance (a:List Int) (n:Int):Decidable (byP a n):=by unfold byP;infer_instance
def abe:Cn 298 [aqg,aqi]:=cn λ(a:List Int) (n:Int)=>lf (byP a n) [.d aqg (ag (val a*n).toNat)] λh=>by
 refine aB qh (Xo a n) ⟨0,?_⟩;obtain⟨ha,h1,h2⟩:=h;have hl:(ag n.toNat).length<=1:=cE (by omega) (by show n<pw 1;simp[pw];exact h2);have e:val [n]=n:=by simp[val]
 unfold Xo;rw[e,amW (show aS [n] from⟨Lim.cons ⟨by omega,h2⟩ Lim.nil,by simp⟩),amW (show j8 a/\j8 (ag n.toNat) from⟨ha,b9 _,by omega⟩),bV (by omega)]
def adS:List En:=enK C9::enK NK::qh
def QD(x y:Bool×List Int)(_k:KT):OLR:=og (decide (okI y)) (og (decide (okI x/\okI (ai (-ae y)))) (some [RV.d y2Y (ai (ae x+ae (ai (-ae y))))]))
def acB:Cn 244 [y2Y,y2Y]:=cn λ(x y:Bool×List Int)=>lf (okI x/\okI y) [.d y2Y (ai (ae x-ae y))] λh=>by
 refine aB adS (QD x y) ⟨0,?_⟩;obtain⟨hx,hy⟩:=h;unfold QD;rw[amW hy,amW (show okI x/\okI (ai (-ae y)) from⟨hx,aX (by rw[jI];exact jA hy)⟩),dec_enc,Int.sub_eq_add_neg]
end Go.Proofs.YtagbmoohboleaaaGreat
end
