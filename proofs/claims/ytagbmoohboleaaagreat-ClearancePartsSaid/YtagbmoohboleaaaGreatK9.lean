/- The order of the reals; what holds of all fractions holds of them. -/
import Derived.Test.YtagbmoohboleaaaGreatK8
noncomputable section
namespace Go.Proofs.YtagbmoohboleaaaGreat
open Go.RowKit Go.IntKind
theorem anw:type_of% @Rat.mul_nonneg:=@Rat.mul_nonneg
theorem aom:type_of% @decide_eq_decide:=@decide_eq_decide
theorem apx:type_of% @Rat.intCast_natCast:=@Rat.intCast_natCast
theorem apC:type_of% @Rat.intCast_le_intCast:=@Rat.intCast_le_intCast
theorem apU:type_of% @Rat.intCast_neg:=@Rat.intCast_neg
section
namespace RE
open RL
theorem DQ(a b:RE):a<=b↔¬b<a:=Iff.rfl
theorem le_of_lt{a b:RE}(h:a<b):a<=b:=λh'=>lt_irrefl a (da h h')
theorem lt_or_ge(a b:RE):a<b\/b<=a:=by
 by_cases h:a<b
 ·exact .inl h
 ·exact .inr h
theorem le_antisymm{a b:RE}(h1:a<=b)(h2:b<=a):a=b:=by
 rcases n8 a b with h|h|h
 ·exact absurd h h2
 ·exact h
 ·exact absurd h h1
theorem le_trans{a b c:RE}(h1:a<=b)(h2:b<=c):a<=c:=λh=>by
 rcases n8 a b with h'|h'|h'
 ·exact h2 (da h h')
 ·subst h';exact h2 h
 ·exact h1 h'
theorem zero_lt_one:(0:RE)<1:=fS (by decide+kernel:(0:Rat)<1)
theorem nf(a:RE):a+ -a=0:=by rw[add_comm,xE]
theorem kE{a:RE}(h:a<0):0< -a:=by
 have:=l7 (-a) h;rw[nf,add_comm,add_zero]at this;exact this
theorem GD{a:RE}(h:0<a): -a<0:=by
 have:=l7 (-a) h;rw[nf,add_comm,add_zero]at this;exact this
instance:Std.IsLinearOrder RE where
 le_refl a:=lt_irrefl a
 le_trans _ _ _:=le_trans
 le_antisymm _ _:=le_antisymm
 le_total a b:=by
  rcases lt_or_ge a b with h|h
  ·exact .inl (le_of_lt h)
  ·exact .inr h
instance:Std.LawfulOrderLT RE where
 lt_iff a b:=⟨λh=>⟨le_of_lt h,λh'=>h' h⟩,λh=>by
  rcases lt_or_ge a b with h'|h'
  ·exact h'
  ·exact absurd h' h.2⟩
theorem td{a b:RE}:¬a<=b↔b<a:=⟨λh=>by
  rcases lt_or_ge b a with h'|h'
  ·exact h'
  ·exact absurd h' h,λh h'=>h' h⟩
theorem aL{a b:RE}(h:a<b):0<b-a:=by
 have:=l7 (-a) h;rw[nf]at this;exact this
theorem aek{a b:RE}(h:0<b-a):a<b:=by
 have:=l7 a h
 have e:b-a+a=b:=by
  show b+ -a+a=b;rw[add_assoc,xE,add_zero]
 rw[e,add_comm,add_zero]at this;exact this
theorem aG{a b:RE}(h:a<=b):0<=b-a:=λh'=>h (by
 have:=l7 a h'
 have e:b-a+a=b:=by
  show b+ -a+a=b;rw[add_assoc,xE,add_zero]
 rw[e,add_comm,add_zero]at this;exact this)
theorem cJ{a:RE}(h:0<=a):0<a\/a=0:=by
 rcases n8 0 a with h'|h'|h'
 ·exact .inl h'
 ·exact .inr h'.symm
 ·exact absurd h' h
theorem le_refl(a:RE):a<=a:=lt_irrefl a
theorem ge{a b:RE}(h:a=b):a<=b:=by rw[h];exact le_refl _
theorem mZ{a b:RE}(h:a=b):b<=a:=by rw[h];exact le_refl _
theorem zero_mul(a:RE):0*a=0:=by rw[mul_comm,mul_zero]
theorem zero_add(a:RE):0+a=a:=by rw[add_comm,add_zero]
theorem one_mul(a:RE):1*a=a:=by rw[mul_comm,mul_one]
theorem aD{a b:RE}(h:0<=a)(h':0<=b):0<=a*b:=by
 rcases cJ h with h1|h1
 ·rcases cJ h' with h2|h2
  ·exact le_of_lt (mul_pos h1 h2)
  ·rw[h2,mul_zero];exact le_refl _
 ·rw[h1,zero_mul];exact le_refl _
theorem aK{a b:RE}(h:0<a)(h':0<=b):0<a+b:=by
 have:=l7 b h;rw[zero_add]at this;rcases cJ h' with h2|h2
 ·exact da h2 this
 ·rw[h2,add_zero];exact h
theorem c9(a:RE):0<=a*a:=by
 rcases lt_or_ge a 0 with h|h
 ·have h1:=kE h;have h2:=mul_pos h1 h1
  have e: -a* -a=a*a:=by
   induction a using aoa
   exact snd λn=>by show-_* -_=_*_;grind
  rw[e]at h2;exact le_of_lt h2
 ·exact aD h h
instance:NatCast RE:=⟨λn=>of (n:Rat)⟩
instance:IntCast RE:=⟨λn=>of (n:Rat)⟩
instance:SMul Nat RE:=⟨λn a=>of (n:Rat)*a⟩
instance:SMul Int RE:=⟨λn a=>of (n:Rat)*a⟩
def pw(a:RE):Nat->RE
 |0=>1
 |n+1=>pw a n*a
instance:Pow RE Nat:=⟨pw⟩
instance:Lean.Grind.CommRing RE where
 add_zero:=add_zero
 add_comm:=add_comm
 add_assoc:=add_assoc
 mul_assoc:=mul_assoc
 mul_one:=mul_one
 mul_comm:=mul_comm
 left_distrib:=left_distrib
 mul_zero:=mul_zero
 zero_mul:=zero_mul
 one_mul:=one_mul
 right_distrib a b c:=by rw[mul_comm,left_distrib,mul_comm c,mul_comm c]
 pow_zero _:=rfl
 pow_succ _ _:=rfl
 ofNat_succ n:=by
  show of ((OfNat.ofNat (n+1):Rat))=of ((OfNat.ofNat n:Rat))+of 1;rw[<-of_add];congr 1;show(((n+1:Nat):Rat))=((n:Nat):Rat)+1;rw[Rat.natCast_add];rfl
 ofNat_eq_natCast _:=rfl
 nsmul_eq_natCast_mul _ _:=rfl
 neg_add_cancel:=xE
 sub_eq_add_neg _ _:=rfl
 neg_zsmul i a:=by
  show of ((-i:Int):Rat)*a= -(of (i:Rat)*a)
  rw[apU,of_neg];induction a using aoa
  exact snd λn=>by show-_*_= -(_*_);grind
 zsmul_natCast_eq_nsmul _ _:=rfl
 intCast_ofNat _:=rfl
 intCast_neg i:=by show of _= -of _;rw[apU,of_neg]
theorem B8{a b c:RE}(h:a<b)(hc:0<c):c*a<c*b:=by
 have h1:=l7 (-a) h;rw[nf]at h1;have h2:=l7 (c*a) (mul_pos hc h1);rwa [show c*(b+ -a)+c*a=c*b by grind,zero_add]at h2
instance:Lean.Grind.OrderedRing RE where
 add_le_left_iff {a b} c:=⟨λh h'=>h (by
   have:=l7 (-c) h';rw[add_assoc,add_assoc,nf,add_zero,add_zero]at this;exact this),λh h'=>h (l7 c h')⟩
 zero_lt_one:=zero_lt_one
 mul_lt_mul_of_pos_left:=B8
 mul_lt_mul_of_pos_right {a b c} h hc:=by
  rw[mul_comm a,mul_comm b];exact B8 h hc
theorem J7{c:Rat}(hc:(0:Rat)<c){a:RE}(h:0<a):0<of c*a:=mul_pos (fS hc) h
theorem jq{c:Rat}(hc:(0:Rat)<c){a:RE}(h:0<=a):0<=of c*a:=aD (le_of_lt (fS hc)) h
theorem far{s:RE}(h:0<s)(e:s=0):False:=by rw[e]at h;exact lt_irrefl _ h
theorem UY(x y:RE):((y*y-(x*x)))+((x-(0))*(x-(y)))+((y-(0))*(x-(y)))=0:=by grind
theorem sq_lt(x y:RE)(h1:0<=x)(h2:0<=y)(h3:x*x<y*y):x<y:=td.1 λhg=>far (aK (aK (aL h3) (aD (aG h1) (aG hg))) (aD (aG h2) (aG hg))) (UY x y)
theorem Vg(x y:RE):((x-(y))*(x-(y)))+((y*y-(x*x)))+2*((y-(0))*(x-(y)))=0:=by grind
theorem uP(x y:RE)(_h1:0<=x)(h2:0<=y)(h3:x*x<=y*y):x<=y:=λhg=>far (aK (aK (mul_pos (aL hg) (aL hg)) (aG h3)) (jq (by decide+kernel:(0:Rat)<2) (aD (aG h2) (le_of_lt (aL hg))))) (Vg x y)
theorem Ll(x y:RE):((x*x-(y*y)))+2*((x-(0))*(y-(x)))+((y-(x))*(y-(x)))=0:=by grind
theorem sq_mono(x y:RE)(h1:0<=x)(h2:x<=y):x*x<=y*y:=λhg=>far (aK (aK (aL hg) (jq (by decide+kernel:(0:Rat)<2) (aD (aG h1) (aG h2)))) (aD (aG h2) (aG h2))) (Ll x y)
theorem afC(x y:RE):((y-(x))*(y-(x)))+((x*x-(y*y)))+2*((x-(0))*(y-(x)))=0:=by grind
theorem PZ(x y:RE):((x-(y))*(x-(y)))+((y*y-(x*x)))+2*((y-(0))*(x-(y)))=0:=by grind
theorem acY(x y:RE)(_h1:0<=x)(h2:0<=y)(h3:x*x=y*y):x<=y:=λhg=>far (aK (aK (mul_pos (aL hg) (aL hg)) (aG (ge h3))) (jq (by decide+kernel:(0:Rat)<2) (aD (aG h2) (le_of_lt (aL hg))))) (PZ x y)
theorem TA(x y:RE):((y-(x))*(y-(x)))+((x*x-(y*y)))+2*((x-(0))*(y-(x)))=0:=by grind
theorem afF(x y:RE)(h1:0<=x)(_h2:0<=y)(h3:x*x=y*y):y<=x:=λhg=>far (aK (aK (mul_pos (aL hg) (aL hg)) (aG (mZ h3))) (jq (by decide+kernel:(0:Rat)<2) (aD (aG h1) (le_of_lt (aL hg))))) (TA x y)
theorem Ex(x y:RE)(h1:0<=x)(h2:0<=y)(h3:x*x=y*y):x=y:=le_antisymm (acY x y h1 h2 h3) (afF x y h1 h2 h3)
end RE
end
section
namespace RE
open RL
theorem aht(q:Rat):∃k:Nat,q<(k:Rat):=by
 refine⟨(q.floor+1).toNat,?_⟩;have h1:q<((q.floor+1:Int):Rat):=(Rat.floor_lt_iff).1 (by omega);have h2:((q.floor+1:Int):Rat)<=(((q.floor+1).toNat:Int):Rat):=apC.2 (by omega);have h3:(((q.floor+1).toNat:Int):Rat)=(((q.floor+1).toNat:Nat):Rat):=apx _;rw[h3]at h2;grind
theorem Wn(g d:Rat)(hg:0<=g)(hd:0<d):∃s:Rat,0<=s/\s*s<=g/\g<(s+d)*(s+d):=by
 apply anv;intro hn
 have step:∀k:Nat,((k:Rat)*d)*((k:Rat)*d)<=g:=by
  intro k;induction k with
  |zero=>rw[show((0:Nat):Rat)=0 from rfl];grind
  |succ k ih=>
   apply anv;intro hc;refine hn ⟨(k:Rat)*d,?_,ih,?_⟩
   ·have:(0:Rat)<=(k:Rat):=by
     have:=Rat.intCast_nonneg.2 (show(0:Int)<=(k:Int) by omega);rwa [apx]at this
    exact anw this (by grind)
   ·have e:(((k+1:Nat)):Rat)=(k:Rat)+1:=by rw[Rat.natCast_add];rfl
    rw[e]at hc;grind
 obtain⟨k,hk⟩:=aht ((g+1)/d)
 have h1:g+1<(k:Rat)*d:=by
  have:=anE (show 0<(k:Rat)-(g+1)/d by grind) hd;have e:((k:Rat)-(g+1)/d)*d=(k:Rat)*d-(g+1):=by grind
  grind
 have h2:=step k;have h3:=anE (show 0<(k:Rat)*d-(g+1) by grind) (show 0<(k:Rat)*d by grind);have h4:=anE (show 0<(k:Rat)*d-(g+1) by grind) (show 0<g+1 by grind);have h5:=anw hg hg;clear hn step hk;generalize (k:Rat)*d=t at h1 h2 h3 h4;grind
def eps(n:Nat):Rat:=1/((n:Rat)+1)
theorem o8(n:Nat):(0:Rat)<=(n:Rat):=by
 have:=Rat.intCast_nonneg.2 (show(0:Int)<=(n:Int) by omega);rwa [apx]at this
theorem vg(n:Nat):0<eps n:=by
 have:=o8 n;exact anE (by grind) (apS.2 (by grind))
theorem ru(e:Rat)(he:0<e):∃N,∀n,N<=n->eps n<e:=by
 obtain⟨N,hN⟩:=aht (1/e);refine⟨N,λn hn=>?_⟩;have h0:=o8 n
 have h1:(N:Rat)<=(n:Rat):=by
  have:=apC.2 (show(N:Int)<=(n:Int) by omega);rwa [apx,apx]at this
 have h2:1/e<(n:Rat)+1:=by grind
 have h3:=anE (show 0<(n:Rat)+1-1/e by grind) (anE he (vg n));unfold eps at h3 ⊢
 have e1:((n:Rat)+1-1/e)*(e*(1/((n:Rat)+1)))=e-1/((n:Rat)+1):=by
  have:(n:Rat)+1≠0:=by grind
  have:e≠0:=by grind
  grind
 grind
theorem HH(n:Nat):eps n<=1:=by
 have h0:=o8 n;have:=vg n;unfold eps at*
 have h3:=anw h0 (show(0:Rat)<=1/((n:Rat)+1) by grind)
 have e1:(n:Rat)*(1/((n:Rat)+1))=1-1/((n:Rat)+1):=by
  have:(n:Rat)+1≠0:=by grind
  grind
 grind
theorem Th{a b:Rat}(ha:0<=a)(hb:0<=b)(h:a*a<b*b):a<b:=by
 apply anv;intro hc;have:=anw (show 0<=a-b by grind) (show 0<=a+b by grind);grind
theorem CH(x:RE)(hx:0<=x):∃y:RE,0<=y/\y*y=x:=by
 induction x using aoa
 rename_i f
 have hc:∀n,∃s:Rat,0<=s/\s*s<=(if 0<=f.f n then f.f n else 0)/\(if 0<=f.f n then f.f n else 0)<(s+eps n)*(s+eps n):=λn=>
  Wn _ _ (by split<;>grind) (vg n)
 let g:Nat->Rat:=λn=>if 0<=f.f n then f.f n else 0
 let s:Nat->Rat:=λn=>Classical.choose (hc n)
 have hs:∀n,0<=s n/\s n*s n<=g n/\g n<(s n+eps n)*(s n+eps n):=λn=>aod (hc n)
 have hg:∀m n,g m-g n<=(if 0<=f.f m-f.f n then f.f m-f.f n else 0):=λm n=>by
  show(if 0<=f.f m then f.f m else 0)-(if 0<=f.f n then f.f n else 0)<=_;split<;>split<;>split<;>grind
 obtain⟨B,hB,NB,hBn⟩:=f.bd
 have hgB:∀n,NB<=n->g n<B:=λn hn=>by
  show(if 0<=f.f n then f.f n else 0)<B;have:=hBn n hn;split<;>grind
 have hsB:∀n,NB<=n->s n<B+1:=λn hn=>by
  have h1:=hs n;have h2:=hgB n hn;refine Th h1.1 (by grind) ?_;have:=anw (show 0<=B by grind) (show 0<=B by grind);grind
 have hcau:∀e:Rat,0<e->∃N,∀m n,N<=m->N<=n->s m-s n<e:=by
  intro e he;obtain⟨N1,h1⟩:=f.cau (e*e/4) (by have:=anE he he;grind);obtain⟨N2,h2⟩:=ru (e/2) (by grind);refine⟨max N1 N2,λm n hm hn=>?_⟩;apply anv;intro hne;have a1:=hs m;have a2:=hs n;have a3:=h1 m n (by omega) (by omega);have a4:=h2 n (by omega);have a5:=hg m n;have a6:=vg n;have p1:=anw (show 0<=s m-(s n+e) by grind) (show 0<=s m+(s n+e) by grind);have p2:=anw (show 0<=e/2-eps n by grind) (show 0<=(s n+e/2)+(s n+eps n) by grind);have p3:=anw (show 0<=e by grind) a2.1;have p4:=anE he he;split at a5<;>grind
 refine⟨Quotient.mk _ ⟨s,hcau⟩,?_,apB λe he=>?_⟩
 ·rintro ⟨e,he,N,h⟩
  have h1:=h N (ani _);have h2:=(hs N).1;simp only[RL.const]at h1;grind
 ·-- s n*s n is aee to f n
  have hneg:∃N,∀n,N<=n-> -(e/4)<f.f n:=by
   apply anv;intro hne;obtain⟨M,hM⟩:=f.cau (e/8) (by grind);refine hx ⟨e/16,by grind,M,λn hn=>?_⟩;apply anv;intro hge;refine hne ⟨M,λk hk=>?_⟩;have:=hM n k hn hk;simp only[RL.const]at hge;grind
  obtain⟨N1,h1⟩:=hneg;obtain⟨N2,h2⟩:=ru (e/(4*(B+2))) (anE he (apS.2 (by grind)));refine⟨max (max N1 N2) NB,λn hn=>?_⟩;have a1:=hs n;have a2:=h1 n (by omega);have a3:=h2 n (by omega);have a4:=hsB n (by omega);have a5:=vg n;have a6:=HH n
  have hgf:f.f n<=g n/\g n<f.f n+e/4:=by
   show f.f n<=(if 0<=f.f n then f.f n else 0)/\(if 0<=f.f n then f.f n else 0)<_;split<;>constructor<;>grind
  have p1:=anw (show 0<=eps n by grind) (show 0<=2*(B+2)-(2*s n+eps n) by grind)
  have p2:eps n*(2*(B+2))<e/2:=by
   have:=anE (show 0<e/(4*(B+2))-eps n by grind) (show 0<2*(B+2) by grind)
   have e1:(e/(4*(B+2))-eps n)*(2*(B+2))=e/2-eps n*(2*(B+2)):=by
    have:B+2≠0:=by grind
    grind
   grind
  simp only[RL.mul];constructor<;>grind
open Classical in
def mb(x:RE):RE:=if h:0<=x then Classical.choose (CH x h)else 0
theorem eV(x:RE):0<=mb x:=by
 unfold mb;split
 ·rename_i h;exact(aod (CH x h)).1
 ·exact lt_irrefl 0
theorem jo{x:RE}(h:0<=x):mb x*mb x=x:=by
 unfold mb;rw[dif_pos h];exact(aod (CH x h)).2
theorem gr{a b:Rat}:of a<=of b↔a<=b:=by
 constructor
 ·intro h;apply anv;intro hc;exact h (fS (by grind))
 ·intro h h';rcases(by grind:a<b\/a=b)with h1|h1
  ·exact lt_irrefl _ (da h' (fS h1))
  ·rw[h1]at h';exact lt_irrefl _ h'
theorem lL{a b:Rat}(h:of a=of b):a=b:=by
 have h1:=gr.1 (show of a<=of b by rw[h];exact lt_irrefl _);have h2:=gr.1 (show of b<=of a by rw[h];exact lt_irrefl _);grind
end RE
end
section
namespace RE
open RL
open Classical in
def sg(x:RE):Int:=if 0<x then 1 else if x<0 then-1 else 0
theorem dD{x:RE}(h:0<x):sg x=1:=anH h
theorem iw{x:RE}(h:x<0):sg x= -1:=by unfold sg;rw[anA (λh'=>lt_irrefl _ (da h h')),anH h]
theorem du:sg 0=0:=by unfold sg;rw[anA (lt_irrefl _),anA (lt_irrefl _)]
theorem bj(x:RE):(0<x/\sg x=1)\/(x=0/\sg x=0)\/(x<0/\sg x= -1):=by
 rcases n8 0 x with h|h|h
 ·exact .inl ⟨h,dD h⟩
 ·exact .inr (.inl ⟨h.symm,by rw[<-h,du]⟩)
 ·exact .inr (.inr ⟨h,iw h⟩)
theorem qK{x:RE}:sg x=0↔x=0:=by
 rcases bj x with⟨h,e⟩|⟨h,e⟩|⟨h,e⟩<;>rw[e]
 ·exact⟨λh'=>by omega,λh'=>by rw[h']at h;exact absurd h (lt_irrefl _)⟩
 ·exact⟨λ_=>h,λ_=>rfl⟩
 ·exact⟨λh'=>by omega,λh'=>by rw[h']at h;exact absurd h (lt_irrefl _)⟩
theorem BZ{x:RE}:sg x=1↔0<x:=by
 rcases bj x with⟨h,e⟩|⟨h,e⟩|⟨h,e⟩<;>rw[e]
 ·exact⟨λ_=>h,λ_=>rfl⟩
 ·exact⟨λh'=>by omega,λh'=>by rw[h]at h';exact absurd h' (lt_irrefl _)⟩
 ·exact⟨λh'=>by omega,λh'=>absurd (da h h') (lt_irrefl _)⟩
theorem ab1{x:RE}:sg x= -1↔x<0:=by
 rcases bj x with⟨h,e⟩|⟨h,e⟩|⟨h,e⟩<;>rw[e]
 ·exact⟨λh'=>by omega,λh'=>absurd (da h h') (lt_irrefl _)⟩
 ·exact⟨λh'=>by omega,λh'=>by rw[h]at h';exact absurd h' (lt_irrefl _)⟩
 ·exact⟨λ_=>h,λ_=>rfl⟩
theorem QE{x:RE}:0<=sg x↔0<=x:=by
 rcases bj x with⟨h,e⟩|⟨h,e⟩|⟨h,e⟩<;>rw[e]
 ·exact⟨λ_=>le_of_lt h,λ_=>by omega⟩
 ·exact⟨λ_=>by rw[h];exact le_refl _,λ_=>by omega⟩
 ·exact⟨λh'=>by omega,λh'=>absurd h h'⟩
theorem aia{x:RE}:sg x<=0↔x<=0:=by
 rcases bj x with⟨h,e⟩|⟨h,e⟩|⟨h,e⟩<;>rw[e]
 ·exact⟨λh'=>by omega,λh'=>absurd h h'⟩
 ·exact⟨λ_=>by rw[h];exact le_refl _,λ_=>by omega⟩
 ·exact⟨λ_=>le_of_lt h,λ_=>by omega⟩
theorem neg_mul(a b:RE): -a*b= -(a*b):=by grind
theorem mul_neg(a b:RE):a* -b= -(a*b):=by grind
theorem neg_neg(a:RE): - -a=a:=by grind
theorem sub_self(a:RE):a-a=0:=by grind
theorem UM(a b:RE): -(a-b)=b-a:=by grind
theorem Iq(x y:RE):(x+y)*(x-y)=x*x-y*y:=by grind
theorem OL(x y:RE):((x-(0))*(0-(y)))+((x*y-(0)))=0:=by grind
theorem IH(x y:RE)(h1:0<x)(h2:y<0):x*y<0:=td.1 λhg=>far (aK (mul_pos (aL h1) (aL h2)) (aG hg)) (OL x y)
theorem act(x y:RE)(h1:x<0)(h2:y<0):x+y<0:=by grind
theorem NR(x y:RE)(h1:0<x)(h2:y<0):0<x-y:=by grind
theorem NJ(x y:RE)(h1:x<0)(h2:0<y):x-y<0:=by grind
theorem RI(x y:RE)(h1:0<x)(h2:0<y):0<x+y:=by grind
theorem FJ: -(0:RE)=0:=by rw[<-zero_add (-0),nf]
theorem tF(x:RE):sg (-x)= -sg x:=by
 rcases bj x with⟨h,e⟩|⟨h,e⟩|⟨h,e⟩<;>rw[e]
 ·exact iw (GD h)
 ·rw[h,FJ,du];rfl
 ·exact dD (kE h)
theorem dA(x y:RE):sg (x*y)=sg x*sg y:=by
 rcases bj x with⟨h,e⟩|⟨h,e⟩|⟨h,e⟩<;>rw[e]
 ·rcases bj y with⟨h',e'⟩|⟨h',e'⟩|⟨h',e'⟩<;>rw[e']
  ·exact dD (mul_pos h h')
  ·rw[h',mul_zero,du];rfl
  ·exact iw (IH _ _ h h')
 ·rw[h,zero_mul,du];omega
 ·rcases bj y with⟨h',e'⟩|⟨h',e'⟩|⟨h',e'⟩<;>rw[e']
  ·rw[mul_comm];exact iw (IH _ _ h' h)
  ·rw[h',mul_zero,du];rfl
  ·have:=mul_pos (kE h) (kE h');rw[neg_mul,mul_neg,neg_neg]at this;exact dD this
theorem sg_of(q:Rat):sg (of q)=aF q 0:=by
 rcases(by grind:q<0\/q=0\/0<q)with h|h|h
 ·rw[dU h];exact iw (fS h)
 ·rw[h,eU];exact du
 ·rw[dG h];exact dD (fS h)
def addS(s t d:Int):Int:=bif t==0||s==t then s else bif s==0 then t else s*d
theorem Ix(x y:RE):sg (x+y)=addS (sg x) (sg y) (sg (x*x-y*y)):=by
 rw[<-Iq,dA];rcases bj x with⟨h,e⟩|⟨h,e⟩|⟨h,e⟩<;>rw[e]
 ·rcases bj y with⟨h',e'⟩|⟨h',e'⟩|⟨h',e'⟩<;>rw[e']
  ·exact dD (RI _ _ h h')
  ·rw[h',add_zero,e];rfl
  ·rw[dD (NR _ _ h h')];show _=1*(_*1)
   omega
 ·rcases bj y with⟨h',e'⟩|⟨h',e'⟩|⟨h',e'⟩<;>rw[e',h,zero_add,e']<;>rfl
 ·rcases bj y with⟨h',e'⟩|⟨h',e'⟩|⟨h',e'⟩<;>rw[e']
  ·rw[iw (NJ _ _ h h')];show _= -1*(_* -1)
   omega
  ·rw[h',add_zero,e];rfl
  ·exact iw (act _ _ h h')
theorem aa7(x:RE): -1<=sg x/\sg x<=1:=by rcases bj x with⟨_,e⟩|⟨_,e⟩|⟨_,e⟩<;>rw[e]<;>omega
end RE
end
def wO:Nat->Nat->Nat
 |0,_=>0
 |f+1,n=>bif decide (n=0)then 0 else bif decide ((2*wO f (n/4)+1)*(2*wO f (n/4)+1)<=n)then 2*wO f (n/4)+1 else 2*wO f (n/4)
def O8(n:Nat):Nat:=wO (n.log2+1) n
theorem Ld:∀(f n:Nat),n<2^f->wO f n*wO f n<=n/\n<(wO f n+1)*(wO f n+1)
 |0,n,h=>by
  have:n=0:=by simpa using h
  subst this;exact⟨ani _,by decide⟩
 |f+1,n,h=>by
  rcases an5 n with h0|h0
  ·subst h0;show wO (f+1) 0*wO (f+1) 0<=0/\_;exact⟨ani _,by show 0<(0+1)*(0+1);decide⟩
  ·have h4:n/4<2^f:=by
    rw[Nat.pow_succ]at h;omega
   obtain⟨h1,h2⟩:=Ld f (n/4) h4;simp only[wO];rw[ane (show ¬n=0 by omega)];generalize wO f (n/4)=s at h1 h2;have e1:(2*s)*(2*s)=4*(s*s):=by grind
   have e2:(2*s+1+1)*(2*s+1+1)=4*((s+1)*(s+1)):=by grind
   by_cases hc:(2*s+1)*(2*s+1)<=n
   ·rw[anb hc];exact⟨hc,by show n<(2*s+1+1)*(2*s+1+1);rw[e2];omega⟩
   ·rw[ane hc];exact⟨by show(2*s)*(2*s)<=n;rw[e1];omega,by show n<(2*s+1)*(2*s+1);omega⟩
theorem U1(n:Nat):O8 n*O8 n<=n/\n<(O8 n+1)*(O8 n+1):=Ld _ n Nat.lt_log2_self
def bO(z:Int):Int:=(O8 z.toNat:Int)
theorem ic{z:Int}(h:0<=z):0<=bO z/\bO z*bO z<=z/\z<(bO z+1)*(bO z+1):=by
 obtain⟨h1,h2⟩:=U1 z.toNat
 grind [bO]
theorem sq_mono{a b:Int}(ha:0<=a)(h:a<=b):a*a<=b*b:=apk h h ha (by omega)
theorem sq_lt{a b:Int}(hb:0<=b)(h:a*a<b*b):a<b:=by
 apply anv;intro hc;have:=sq_mono hb (show b<=a by omega);omega
theorem WD{z s:Int}(h0:0<=s)(h1:s*s<=z)(h2:z<(s+1)*(s+1)):bO z=s:=by
 obtain⟨g0,g1,g2⟩:=ic (show 0<=z by have:=sq_mono (a:=0) (by omega) h0;omega);have a1:=sq_lt (b:=s+1) (a:=bO z) (by omega) (by omega);have a2:=sq_lt (b:=bO z+1) (a:=s) (by omega) (by omega);omega
theorem QG{a x s:Int}(hx:0<x)(_hs:0<=s)(h1:s*s<=a):s<=(x+a/x)/2:=by
 have hq:=an1 a x;have hm:=anV a hx;apply anv;intro hc;have h2:a/x<=2*s-x-1:=by omega
 have h3:x*(a/x)<=x*(2*s-x-1):=ank h2 (by omega)
 have h4:0<=(s-x)*(s-x):=by
  rcases Int.le_total 0 (s-x)with h|h
  ·exact an9 h h
  ·exact Int.mul_nonneg_of_nonpos_of_nonpos h h
 grind
theorem yv{a x s:Int}(hx:0<x)(hs:s<=x)(_h1:s*s<=a)(h2:a<(s+1)*(s+1))(h3:0<=s)(h:x<=(x+a/x)/2):x=s:=by
 have hq:=an1 a x;have hm:=aoj a (show x≠0 by omega);have h4:x<=a/x:=by omega
 have h5:x*x<=x*(a/x):=ank h4 (by omega);have:=sq_lt (a:=x) (b:=s+1) (by omega) (by omega);omega
def gO(x:BI):BI:=bif x.1 then(false,[])else ai (bO (ae x))
def xd(x:BI):Int:=bif x.1 then 7 else 0
def xp:List En:=[⟨223,qv,lW⟩,⟨163,te,oD⟩,⟨227,qQ,lN⟩,⟨248,zS,u7⟩,⟨302,B0,yQ⟩]
def abQ:NT:=[((331,25),{keep:=[1,2,5,6],hl:=6})]
def Jq:Ctx:=CX (ens xp) abQ
def oY(x:Bool×List Int)(b4_0:Bool)(b4_1:List Int):Cfg:=⟨331,[.blk 0],[(1,.box 0 0),(2,.box 1 0),(5,.box 4 0),(6,.box 5 0)],[.box 29 [SB x.1,.d aqv x.2],.box 29 [SB false,.nil],.gone,.row 200 aqx ([1]),.box 29 [SB b4_0,.d aqv b4_1],.box 29 [SB ((ai (2:Int)).1),.d aqv ((ai (2:Int)).2)]],0,[]⟩
def KE(x:Bool×List Int)(k:KT):OLR:=match x.1 with|true=>some [RV.d y2Y (false,[]),RV.d aqw 7]|false=>(match(x.2.length:Int)==0 with|true=>some [RV.d y2Y (false,[]),RV.d aqw 0]|false=>(og (decide ((0:Int)<=i64.wrap (Int.tdiv (i64.wrap ((x.2.length:Int)+1)) 2)/\(i64.wrap (Int.tdiv (i64.wrap ((x.2.length:Int)+1)) 2))*((4:Nat):Int)<=140737488355328/\i64.wrap (Int.tdiv (i64.wrap ((x.2.length:Int)+1)) 2)<=140737488355328)) (og (decide (((List.replicate (i64.wrap (Int.tdiv (i64.wrap ((x.2.length:Int)+1)) 2)).toNat (0:Int)).length+([1]).length)*4<=140737488355328/\(List.replicate (i64.wrap (Int.tdiv (i64.wrap ((x.2.length:Int)+1)) 2)).toNat (0:Int)).length+([1]).length<=140737488355328)) (og (decide (aU ((List.replicate (i64.wrap (Int.tdiv (i64.wrap ((x.2.length:Int)+1)) 2)).toNat (0:Int))++([1])))) (og (decide (aJ (2:Int))) (k 25 (oY x ((ai (cg false (val ((List.replicate (i64.wrap (Int.tdiv (i64.wrap ((x.2.length:Int)+1)) 2)).toNat (0:Int))++([1]))))).1) ((ai (cg false (val ((List.replicate (i64.wrap (Int.tdiv (i64.wrap ((x.2.length:Int)+1)) 2)).toNat (0:Int))++([1]))))).2))))))))
theorem Rh(x:Bool×List Int):RS Jq 331 [.d y2Y x] (KE x):=rsX
def wI(x:Bool×List Int)(b4_0:Bool)(b4_1:List Int)(k:KT):OLR:=og (decide (ga x (b4_0,b4_1))) (cD (og (decide (okI (b4_0,b4_1)/\okI (ai (ae x/ae (b4_0,b4_1))))) (cD (og (decide (ga (ai (ae (b4_0,b4_1)+ae (ai (ae x/ae (b4_0,b4_1))))) (ai (2:Int)))) (dup (.b .l .l) (og (decide (okI (ai (ae (ai (ae (b4_0,b4_1)+ae (ai (ae x/ae (b4_0,b4_1)))))/ae (ai (2:Int))))/\okI (b4_0,b4_1))) (match decide ((cE (ae (ai (ae (ai (ae (b4_0,b4_1)+ae (ai (ae x/ae (b4_0,b4_1)))))/ae (ai (2:Int))))) (ae (b4_0,b4_1)))>=0)with|true=>some [RV.d y2Y (b4_0,b4_1),RV.d aqw 0]|false=>k 25 (oY x ((ai (ae (ai (ae (b4_0,b4_1)+ae (ai (ae x/ae (b4_0,b4_1)))))/ae (ai (2:Int)))).1) ((ai (ae (ai (ae (b4_0,b4_1)+ae (ai (ae x/ae (b4_0,b4_1)))))/ae (ai (2:Int)))).2)))))) (dup (.b (.b .l .l) (.b .l .l)) (og (decide (ga (ai (ae (b4_0,b4_1)+ae (ai (ae x/ae (b4_0,b4_1))))) (ai (2:Int)))) (og (decide (okI (ai (ae (ai (ae (b4_0,b4_1)+ae (ai (ae x/ae (b4_0,b4_1)))))/ae (ai (2:Int))))/\okI (b4_0,b4_1))) (match decide ((cE (ae (ai (ae (ai (ae (b4_0,b4_1)+ae (ai (ae x/ae (b4_0,b4_1)))))/ae (ai (2:Int))))) (ae (b4_0,b4_1)))>=0)with|true=>some [RV.d y2Y (b4_0,b4_1),RV.d aqw 0]|false=>k 25 (oY x ((ai (ae (ai (ae (b4_0,b4_1)+ae (ai (ae x/ae (b4_0,b4_1)))))/ae (ai (2:Int)))).1) ((ai (ae (ai (ae (b4_0,b4_1)+ae (ai (ae x/ae (b4_0,b4_1)))))/ae (ai (2:Int)))).2)))))))) (dup (.b .l .l) (cD (og (decide (okI (b4_0,b4_1)/\okI (ai (ae x/ae (b4_0,b4_1))))) (dup (.b .l .l) (og (decide (ga (ai (ae (b4_0,b4_1)+ae (ai (ae x/ae (b4_0,b4_1))))) (ai (2:Int)))) (og (decide (okI (ai (ae (ai (ae (b4_0,b4_1)+ae (ai (ae x/ae (b4_0,b4_1)))))/ae (ai (2:Int))))/\okI (b4_0,b4_1))) (match decide ((cE (ae (ai (ae (ai (ae (b4_0,b4_1)+ae (ai (ae x/ae (b4_0,b4_1)))))/ae (ai (2:Int))))) (ae (b4_0,b4_1)))>=0)with|true=>some [RV.d y2Y (b4_0,b4_1),RV.d aqw 0]|false=>k 25 (oY x ((ai (ae (ai (ae (b4_0,b4_1)+ae (ai (ae x/ae (b4_0,b4_1)))))/ae (ai (2:Int)))).1) ((ai (ae (ai (ae (b4_0,b4_1)+ae (ai (ae x/ae (b4_0,b4_1)))))/ae (ai (2:Int)))).2))))))) (og (decide (okI (b4_0,b4_1)/\okI (ai (ae x/ae (b4_0,b4_1))))) (og (decide (ga (ai (ae (b4_0,b4_1)+ae (ai (ae x/ae (b4_0,b4_1))))) (ai (2:Int)))) (og (decide (okI (ai (ae (ai (ae (b4_0,b4_1)+ae (ai (ae x/ae (b4_0,b4_1)))))/ae (ai (2:Int))))/\okI (b4_0,b4_1))) (match decide ((cE (ae (ai (ae (ai (ae (b4_0,b4_1)+ae (ai (ae x/ae (b4_0,b4_1)))))/ae (ai (2:Int))))) (ae (b4_0,b4_1)))>=0)with|true=>some [RV.d y2Y (b4_0,b4_1),RV.d aqw 0]|false=>k 25 (oY x ((ai (ae (ai (ae (b4_0,b4_1)+ae (ai (ae x/ae (b4_0,b4_1)))))/ae (ai (2:Int)))).1) ((ai (ae (ai (ae (b4_0,b4_1)+ae (ai (ae x/ae (b4_0,b4_1)))))/ae (ai (2:Int)))).2)))))))))
theorem BE(x:Bool×List Int)(b4_0:Bool)(b4_1:List Int):RN Jq 25 (oY x b4_0 b4_1) (wI x b4_0 b4_1):=rnX
def adN:NT:=[((326,16),{keep:=[1,4,5],hl:=1})]
def K4:Ctx:=CX (ens xp) adN
def xV(x:Bool×List Int)(s4 s5:Int):Cfg:=⟨326,[.blk 0,.seq 27],[(1,.box 0 0),(4,.d (.int .u64) s4),(5,SI s5)],[.box 29 [SB x.1,.d aqv x.2]],0,[]⟩
def Jd(x:Bool×List Int)(k:KT):OLR:=og (decide (aJ ((-9223372036854775808):Int))) (og (decide (okI x/\okI (ai ((-9223372036854775808):Int)))) (dup (.b .l .l) (match decide ((cE (ae x) (ae (ai ((-9223372036854775808):Int))))<0)with|true=>some [RV.d aqw 0,RV.d .bool false]|false=>(og (decide (aJ (9223372036854775807:Int))) (og (decide (okI x/\okI (ai (9223372036854775807:Int)))) (match decide ((cE (ae x) (ae (ai (9223372036854775807:Int))))>0)with|true=>some [RV.d aqw 0,RV.d .bool false]|false=>k 16 (xV x 0 (i64.wrap ((x.2.length:Int)-1)))))))))
theorem Rs(x:Bool×List Int):RS K4 326 [.d y2Y x] (Jd x):=rsX
def wd(x:Bool×List Int)(s4 s5:Int)(k:KT):OLR:=match decide (s5>=0)with|true=>(match aS x.2 s5 with|some x1=>k 16 (xV x (u64.wrap ((u64.wrap (s4*1000000000))+(u64.wrap x1))) (i64.wrap (s5-1)))|none=>none)|false=>(match x.1 with|true=>some [RV.d aqw (i64.wrap (u64.wrap (0-s4))),RV.d .bool true]|false=>some [RV.d aqw (i64.wrap s4),RV.d .bool true])
theorem By(x:Bool×List Int)(s4 s5:Int):RN K4 16 (xV x s4 s5) (wd x s4 s5):=rnX
theorem NO(x:BI)(hx:okI x)(h0:0<ae x):∀(m:Nat) (X:Int),X.toNat=m->0<X->bO (ae x)<=X->szI X<=900000->Jq.Runs 25 (oY x (ai X).1 (ai X).2) [.d y2Y (ai (bO (ae x))),.d aqw 0]:=by
 intro m;induction m using Nat.strongRecOn with
 |ind m ih=>
  intro X hm hX hs hsz;obtain⟨g0,g1,g2⟩:=ic (anU h0);have hq0:0<=ae x/X:=aoe (by omega) (by omega);have hq1:ae x/X<=ae x:=ao3 _ (by omega);have oX:okI (ai X):=aW (by omega);have sq:szI (ae x/X)<=1000000:=anq (dP (by omega)) (jJ hx);have p1:ga x (ai X):=⟨hx,oX,by rw[dec_enc];exact hX⟩
  have ssum:szI (X+ae x/X)<=1000000:=by
   have b1:=pD hsz;have b2:=pD (jJ hx);have e:pw 1000000=pw 900000*pw 100000:=by rw[<-gh]
   have p9:(1000:Int)<=pw 100000:=by
    have:pw 100000=pw 99999*1000000000:=ce 99999;have:=cB 99999;omega
   have p8:=cB 900000;have h8:pw 900000*1000<=pw 900000*pw 100000:=ank p9 (by omega);rcases anL X 2 with hX1|hX1
   ·-- X=1:then the number is less than 4
    have:X=1:=by omega
    subst this;have:bO (ae x)<=1:=hs
    have h4:ae x<4:=by
     have:=sq_mono (a:=bO (ae x)+1) (b:=2) (by omega) (by omega);omega
    refine fV ?_ ?_<;>(rw[e,Int.ediv_one];omega)
   ·have hq2:ae x/X<=ae x/2:=by
     have:=Int.ediv_mul_le (ae x) (show X≠0 by omega);have h2:ae x/X*2<=ae x/X*X:=ank hX1 hq0;omega
    refine fV ?_ ?_<;>(rw[e]at b2 ⊢;omega)
  have o1:okI (ai X)/\okI (ai (ae x/X)):=⟨oX,aW sq⟩
  have p2:ga (ai (X+ae x/X)) (ai 2):=⟨aW ssum,by decide,by rw[dec_enc];decide⟩
  have hn:=QG hX g0 g1;have o2:okI (ai ((X+ae x/X)/2))/\okI (ai X):=⟨aW (anq (dP (by omega)) ssum),oX⟩
  by_cases hc:X<=(X+ae x/X)/2
  ·have hXs:=yv hX hs g1 g2 g0 hc;refine BE _ _ _ ⟨0,?_⟩;unfold wI;simp only[c8,fE];have e:∀z:Int,((ai z).1,(ai z).2)=ai z:=λz=>rfl;simp only[e,dec_enc,anb p1,anb o1,anb p2,anb o2]
   have hg:decide (cE ((X+ae x/X)/2) X>=0)=true:=by
    rcases Int.lt_or_eq_of_le hc with h|h
    ·rw[cX h];rfl
    ·rw[<-h,eM];rfl
   rw[hg,hXs]
  ·obtain⟨n,hN⟩:=ih ((X+ae x/X)/2).toNat (by omega) ((X+ae x/X)/2) rfl (by
    rcases anL 0 (bO (ae x))with h|h
    ·omega
    ·exfalso;have:bO (ae x)=0:=by omega
     rw[this]at g2;omega) hn (anq (dP (by omega)) hsz)
   refine BE _ _ _ ⟨n,?_⟩;unfold wI;simp only[c8,fE];have e:∀z:Int,((ai z).1,(ai z).2)=ai z:=λz=>rfl;simp only[e,dec_enc,anb p1,anb o1,anb p2,anb o2];rw[dl (by omega)];exact hN
def ZH:Cn 331 [y2Y]:=cn λ(x:Bool×List Int)=>lf (okI x) [.d y2Y (gO x),.d aqw (xd x)] λh=>by
 refine dk xp (show Jq.Res _ _ _ from ?_);obtain⟨x0,x1,x2⟩:=cN h;have hl:=h.2.2;cases hn:x.1
 ·by_cases hz:x.2=[]
  ·refine Rh _ ⟨0,?_⟩;unfold KE gO xd;have:ae x=0:=by unfold ae;rw[hn,hz];rfl
   rw[hn,hz,this];rfl
  ·have hp:0<val x.2:=fC h.1 hz;have hd:ae x=val x.2:=by unfold ae;rw[hn];rfl
   have hlen:=anW.2 hz
   have hk:i64.wrap (Int.tdiv (i64.wrap ((x.2.length:Int)+1)) 2)=(((x.2.length+1)/2:Nat):Int):=by
    rw[bW (by omega),iZ (by omega),aV (by omega) (by omega)];omega
   have hv:val (List.replicate ((x.2.length+1)/2) 0++[1])=pw ((x.2.length+1)/2):=by
    rw[dO,iK,apK];simp[val]
   have hL:aU (List.replicate ((x.2.length+1)/2) 0++[1]):=by
    refine⟨λy hy=>?_,by simp;omega⟩;rcases anR.1 hy with hy|hy
    ·have:=List.eq_of_mem_replicate hy;omega
    ·simp at hy;omega
   have hpos:=cB ((x.2.length+1)/2)
   obtain⟨n,hN⟩:=NO x h (by omega) _ (pw ((x.2.length+1)/2)) rfl hpos (by
     obtain⟨g0,g1,g2⟩:=ic (show 0<=ae x by omega);have hlt:=b9 h.1.1;have hm:=dH (show x.2.length<=(x.2.length+1)/2+(x.2.length+1)/2 by omega);rw[gh]at hm;have:=sq_lt (a:=bO (ae x)) (b:=pw ((x.2.length+1)/2)) (by omega) (by omega)
     omega) (fV (k:=900000) (by have:=cB 900000;omega) (by
      have:=dH (show(x.2.length+1)/2+1<=900000 by omega);rw[ce]at this;omega))
   refine Rh _ ⟨n,?_⟩;unfold KE gO xd;simp only[hk];rw[hn,show((x.2.length:Int)==0)=false by simp;omega];simp only[aoS];rw[anb (show(0:Int)<=(((x.2.length+1)/2:Nat):Int)/\(((x.2.length+1)/2:Nat):Int)*((4:Nat):Int)<=140737488355328/\(((x.2.length+1)/2:Nat):Int)<=140737488355328 by omega)];rw[anb (show((List.replicate ((x.2.length+1)/2) (0:Int)).length+([1]:List Nat).length)*4<=140737488355328/\(List.replicate ((x.2.length+1)/2) (0:Int)).length+([1]:List Nat).length<=140737488355328 by simp;omega)];rw[anb hL,anb (show aJ 2 by decide),hv];exact hN
 ·refine Rh _ ⟨0,?_⟩;unfold KE gO xd;rw[hn];rfl
theorem EZ(x:BI)(hx:okI x)(hv:val x.2<=9223372036854775808):∀(i:Nat),i<=x.2.length->K4.Runs 16 (xV x (val (x.2.drop i)) ((i:Int)-1)) [.d aqw (i64.wrap (bif x.1 then u64.wrap (0-val x.2)else val x.2)),.d .bool true]
 |0,_=>by
  refine By _ _ _ ⟨0,?_⟩;unfold wd;rw[ane (by omega),aoT];cases x.1<;>rfl
 |i+1,hi=>by
  obtain⟨n,ih⟩:=EZ x hx hv i (by omega);have h0:=hx.2.2;have hlim:=hx.1.1;have hd:x.2.drop i=x.2[i]::x.2.drop (i+1):=ir (by omega)
  have hle:∀j,val (x.2.drop j)<=9223372036854775808/\0<=val (x.2.drop j):=λj=>by
   have l1:Lim (x.2.drop j):=λy hy=>hlim y (apm hy);have l2:Lim (x.2.take j):=λy hy=>hlim y (apl hy);have:=dO (x.2.take j) (x.2.drop j);rw[aoA]at this;have n1:=aT l1;have n2:=aT l2;have p:=cB (x.2.take j).length
   have:val (x.2.drop j)<=pw (x.2.take j).length*val (x.2.drop j):=by
    have:=anp (show 1<=pw (x.2.take j).length by omega) n1;omega
   omega
  have hb:=hlim x.2[i] (anG _);have hv1:=hle i;have hv2:=hle (i+1);rw[hd]at hv1 ih;simp only[val]at hv1 ih;refine By _ _ _ ⟨n,?_⟩;unfold wd;rw[show(((i+1:Nat):Int)-1)=(i:Int) by omega,anb (by omega),aq,anc (by omega)];dsimp only;rw[bI (x:=val (x.2.drop (i+1))*1000000000) (by omega) (by omega),bI (x:=x.2[i]) (by omega) (by omega),bI (by omega) (by omega),aV (by omega) (by omega)];rw[show val (x.2.drop (i+1))*1000000000+x.2[i]=x.2[i]+1000000000*val (x.2.drop (i+1)) by omega];exact ih
def YL:Cn 326 [y2Y]:=cn λ(x:Bool×List Int)=>lf (okI x) [.d aqw (bif decide (aJ (ae x))then ae x else 0),.d .bool (decide (aJ (ae x)))] λh=>by
 refine dk xp (show K4.Res _ _ _ from ?_);obtain⟨x0,x1,x2⟩:=cN h;have o1:okI x/\okI (ai (-9223372036854775808)):=⟨h,by decide⟩
 have o2:okI x/\okI (ai 9223372036854775807):=⟨h,by decide⟩
 have hl:=h.2.2;by_cases h1:ae x< -9223372036854775808
 ·refine Rs _ ⟨0,?_⟩;unfold Jd;simp only[fE,dec_enc,anb o1];rw[anb (show aJ (-9223372036854775808) by decide),dl h1,ane (show ¬aJ (ae x) from λg=>by have:=g.1;omega)];rfl
 ·have c1:decide (cE (ae x) (-9223372036854775808)<0)=false:=by
   rcases Int.lt_or_eq_of_le (show-9223372036854775808<=ae x by omega)with g|g
   ·rw[cX g];rfl
   ·rw[<-g,eM];rfl
  by_cases h2:9223372036854775807<ae x
  ·refine Rs _ ⟨0,?_⟩;unfold Jd;simp only[fE,dec_enc,anb o1,anb o2];rw[anb (show aJ (-9223372036854775808) by decide),c1,anb (show aJ 9223372036854775807 by decide),cX h2,ane (show ¬aJ (ae x) from λg=>by have:=g.2;omega)];rfl
  ·have c2:decide (cE (ae x) 9223372036854775807>0)=false:=by
    rcases Int.lt_or_eq_of_le (show ae x<=9223372036854775807 by omega)with g|g
    ·rw[dl g];rfl
    ·rw[g,eM];rfl
   have hp:aJ (ae x):=⟨by omega,by omega⟩
   have hvv:val x.2<=9223372036854775808:=by
    have g1:=hp.1;have g2:=hp.2;have hd:ae x=bif x.1 then-val x.2 else val x.2:=rfl;cases hb:x.1<;>rw[hb]at hd<;>simp only[cond_true,cond_false]at hd<;>omega
   obtain⟨n,hN⟩:=EZ x h hvv x.2.length (ani _);refine Rs _ ⟨n,?_⟩;unfold Jd;simp only[fE,dec_enc,anb o1,anb o2];rw[anb (show aJ (-9223372036854775808) by decide),c1,anb (show aJ 9223372036854775807 by decide),c2,anb hp];rw[apy]at hN;rw[aV (by omega) (by omega)];refine hN.trans ?_
   have hr:i64.wrap (bif x.1 then u64.wrap (0-val x.2)else val x.2)=ae x:=by
    have hd:ae x=bif x.1 then-val x.2 else val x.2:=rfl;have:=hp.1;have:=hp.2;cases hb:x.1<;>rw[hb]at hd<;>simp only[cond_true,cond_false]at hd ⊢
    ·rw[aV (by omega) (by omega)];omega
    ·have:=x1 hb;rw[an3,IntKind.wrap_i64];omega
   rw[hr];rfl
def uj(a:List Int):Prop:=aU a/\val a<18446744073709551616
instance (a:List Int):Decidable (uj a):=by unfold uj;infer_instance
def t5(a b:List Int):Prop:=(can a/\a.length<=1000000000)/\(can b/\b.length<=1000000000)
instance (a b:List Int):Decidable (t5 a b):=by unfold t5;infer_instance
def ko(l:List Int):Prop:=Lim l/\l.length<=10000000
instance (l:List Int):Decidable (ko l):=by unfold ko;infer_instance
theorem cL{n:Nat}(h:(ag n).length<=1000000000):aU (ag n):=⟨cd n,h⟩
theorem bZ{v:Int}(h:0<=v):val (ag v.toNat)=v:=by grind [bG]
theorem cK{v:Int}{k:Nat}(h0:0<=v)(h:v<pw k):(ag v.toNat).length<=k:=dJ (by omega)
def pF:List En:=[]
def WB:NT:=[((241,4),{keep:=[0],pure_:=[(0,.int .u32)],hl:=0})]
def DZ:Ctx:=CX (ens pF) WB
def yf(s0:List Int):Cfg:=⟨241,[.blk 0,.seq 13],[(0,.d aqv s0)],[],0,[]⟩
def ac3(a:List Int)(k:KT):OLR:=k 4 (yf a)
theorem ad0(a:List Int):RS DZ 241 [.d aqv a] (ac3 a):=rsX
def vL(s0:List Int)(k:KT):OLR:=match decide ((s0.length:Int)>0)with|true=>(match aS s0 (i64.wrap ((s0.length:Int)-1))with|some x1=>(match x1==0 with|true=>(og (decide ((0:Int)<=0/\0<=i64.wrap ((s0.length:Int)-1)/\i64.wrap ((s0.length:Int)-1)<=(s0.length:Int))) (k 4 (yf ((s0.take (i64.wrap ((s0.length:Int)-1)).toNat).drop (0:Int).toNat))))|false=>some [RV.d aqv s0])|none=>none)|false=>some [RV.d aqv s0]
theorem wv(s0:List Int):RN DZ 4 (yf s0) (vL s0):=rnX
def UF:NT:=[((243,8),{keep:=[0,3,4],hl:=0})]
def CQ:Ctx:=CX (ens pF) UF
def xN(a:List Int)(s3 s4:Int):Cfg:=⟨243,[.blk 0,.seq 19],[(0,.d aqv a),(3,.d (.int .u64) s3),(4,SI s4)],[],0,[]⟩
def NK(a:List Int)(k:KT):OLR:=k 8 (xN a 0 (i64.wrap ((a.length:Int)-1)))
theorem adu(a:List Int):RS CQ 243 [.d aqv a] (NK a):=rsX
def wa(a:List Int)(s3 s4:Int)(k:KT):OLR:=match decide (s4>=0)with|true=>(match aS a s4 with|some x1=>k 8 (xN a (u64.wrap ((u64.wrap (s3*1000000000))+(u64.wrap x1))) (i64.wrap (s4-1)))|none=>none)|false=>some [RV.d (.int .u64) s3]
theorem AR(a:List Int)(s3 s4:Int):RN CQ 8 (xN a s3 s4) (wa a s3 s4):=rnX
def VJ:NT:=[((178,6),{keep:=[0,3],own:=[(3,200,.int .u32)],hl:=1})]
def Dv:Ctx:=CX (ens pF) VJ
def xW(s0:Int)(r0:List Int):Cfg:=⟨178,[.blk 0,.seq 17],[(0,.d (.int .u64) s0),(3,.own 0)],[.row 200 aqx r0],0,[]⟩
def afj(u:Int)(k:KT):OLR:=k 6 (xW u ([]))
theorem ad9(u:Int):RS Dv 178 [.d (.int .u64) u] (afj u):=rsX
def vU(s0:Int)(r0:List Int)(k:KT):OLR:=match decide (s0>0)with|true=>(og (decide ((r0.length+([u32.wrap (Int.tmod s0 1000000000)]).length)*4<=140737488355328/\r0.length+([u32.wrap (Int.tmod s0 1000000000)]).length<=140737488355328)) (k 6 (xW (u64.wrap (Int.tdiv s0 1000000000)) (r0++([u32.wrap (Int.tmod s0 1000000000)])))))|false=>some [RV.new 200 aqx r0]
theorem Bk(s0:Int)(r0:List Int):RN Dv 6 (xW s0 r0) (vU s0 r0):=rnX
def U6:NT:=[((155,22),{keep:=[0,1,5],hl:=0})]
def DP:Ctx:=CX (ens pF) U6
def uo(a b:List Int)(s5:Int):Cfg:=⟨155,[.blk 0,.seq 47],[(0,.d aqv a),(1,.d aqv b),(5,SI s5)],[],0,[]⟩
def GO(a b:List Int)(k:KT):OLR:=match(a.length:Int) !=(b.length:Int)with|true=>(match decide ((a.length:Int)<(b.length:Int))with|true=>some [RV.d aqw (-1)]|false=>some [RV.d aqw 1])|false=>k 22 (uo a b (i64.wrap ((a.length:Int)-1)))
theorem SH(a b:List Int):RS DP 155 [.d aqv a,.d aqv b] (GO a b):=rsX
def lQ(a b:List Int)(s5:Int)(k:KT):OLR:=match decide (s5>=0)with|true=>(match aS a s5 with|some x1=>(match aS b s5 with|some x2=>(match decide (x1<x2)with|true=>some [RV.d aqw (-1)]|false=>(match aS a s5 with|some x3=>(match aS b s5 with|some x4=>(match decide (x3>x4)with|true=>some [RV.d aqw 1]|false=>k 22 (uo a b (i64.wrap (s5-1))))|none=>none)|none=>none))|none=>none)|none=>none)|false=>some [RV.d aqw 0]
theorem qa(a b:List Int)(s5:Int):RN DP 22 (uo a b s5) (lQ a b s5):=rnX
theorem Mm(l:List Int)(hl:Lim l)(hs:l.length<=1000000000):∀(n:Nat),n<=l.length->(∀j (hj:j<l.length),n<=j->l[j]=0)->DZ.Runs 4 (yf (l.take n)) [.d aqv (ag (val l).toNat)]:=by
 intro n;induction n with
 |zero=>
  intro _ h;refine wv _ ⟨0,?_⟩;rw[<-oh hl (apH _) h (.inl rfl)];rfl
 |succ n ih=>
  intro hn h;have hlen:(l.take (n+1)).length=n+1:=by rw[anY,an0 hn]
  have hget:(l.take (n+1))[n]?=some l[n]:=by rw[List.getElem?_take_of_lt (by omega),anc (by omega)]
  by_cases hz:l[n]=0
  ·obtain⟨q,hq⟩:=ih (by omega) λj hj hk=>by
    rcases Nat.eq_or_lt_of_le hk with e|e
    ·subst e;exact hz
    ·exact h j hj e
   refine wv _ ⟨q,?_⟩;unfold vL;rw[hlen,anb (by omega),Lz (by omega) (by omega),aq,show n+1-1=n from rfl,hget];dsimp only;rw[hz,anb (show(0:Int)<=0/\(0:Int)<=(n:Int)/\(n:Int)<=((n+1:Nat):Int) by omega),aE,aqo,an0 (by omega)];exact hq
  ·refine wv _ ⟨0,?_⟩;unfold vL;rw[hlen,anb (by omega),Lz (by omega) (by omega),aq,show n+1-1=n from rfl,hget];dsimp only;rw[show(l[n]==0)=false by simpa using hz,<-oh hl hn h (.inr ⟨Nat.lt_of_succ_le hn,hz⟩)]
def yJ:Cn 241 [aqv]:=cn λ(a:List Int)=>lf (aU a) [.d aqv (ag (val a).toNat)] λh=>by
 refine dk pF (show DZ.Res _ _ _ from ?_);obtain⟨q,hq⟩:=Mm a h.1 h.2 a.length (ani _) (λj hj hk=>by omega);rw[aov]at hq;exact ad0 _ ⟨q,hq⟩
theorem Md(u:Nat):∀(r:List Int),(u:Int)<18446744073709551616->r.length+3<=1000+3-(ag u).length->Dv.Runs 6 (xW (u:Int) r) [.new 200 aqx (r++ag u)]:=by
 induction u using rB with
 |h0=>
  intro r _ _;refine Bk _ _ ⟨0,?_⟩;unfold vU;rw[gz,anM];rfl
 |h1 n hn ih=>
  intro r hu hr;rw[jO hn]at hr;simp only[ans]at hr;obtain⟨q,hq⟩:=ih (r++[((n%1000000000:Nat):Int)]) (by omega) (by rw[anK];simp only[anC];omega);refine Bk _ _ ⟨q,?_⟩;unfold vU;rw[anb (by omega),kw (by omega),iZ (by omega),bI (x:=(n:Int)/1000000000) (by omega) (by omega),dh (x:=(n:Int)%1000000000) (by omega) (by omega)];simp only[anC];rw[acq (by omega) (by omega),jO hn];rw[show((n:Int)%1000000000)=((n%1000000000:Nat):Int) by omega,show((n:Int)/1000000000)=((n/1000000000:Nat):Int) by omega];rw[anD]at hq;exact hq
def CY:Cn 178 [(.int .u64)]:=cn λ(u:Int)=>lf (jD u) [.new 200 aqx (ag u.toNat)] λh=>by
 refine dk pF (show Dv.Res _ _ _ from ?_);have h0:=h.1;have h1:=h.2;have hl:=dJ (n:=u.toNat) (k:=3) (apE (show(u.toNat:Int)<18446744073709551616 by omega) (by decide));obtain⟨q,hq⟩:=Md u.toNat [] (by omega) (by simp;omega)
 rw[show((u.toNat:Nat):Int)=u by omega]at hq;exact ad9 _ ⟨q,hq⟩
theorem AJ(a:List Int)(h:uj a):∀(i:Nat),i<=a.length->CQ.Runs 8 (xN a (val (a.drop i)) ((i:Int)-1)) [.d (.int .u64) (val a)]
 |0,_=>by
  refine AR _ _ _ ⟨0,?_⟩;unfold wa;rw[ane (by omega),aoT]
 |i+1,hi=>by
  obtain⟨n,ih⟩:=AJ a h i (by omega);have h0:=h.1.2;have hlim:=h.1.1;have hlt:=h.2;have hd:a.drop i=a[i]::a.drop (i+1):=ir (by omega)
  have hle:∀j,val (a.drop j)<=val a/\0<=val (a.drop j):=λj=>by
   have l1:Lim (a.drop j):=λy hy=>hlim y (apm hy);have l2:Lim (a.take j):=λy hy=>hlim y (apl hy);have:=dO (a.take j) (a.drop j);rw[aoA]at this;have n1:=aT l1;have n2:=aT l2;have p:=cB (a.take j).length
   have:val (a.drop j)<=pw (a.take j).length*val (a.drop j):=by
    have:=anp (show 1<=pw (a.take j).length by omega) n1;omega
   omega
  have hb:=hlim a[i] (anG _);have hv1:=hle i;have hv2:=hle (i+1);rw[hd]at hv1 ih;simp only[val]at hv1 ih;refine AR _ _ _ ⟨n,?_⟩;unfold wa;rw[show(((i+1:Nat):Int)-1)=(i:Int) by omega,anb (by omega),aq,anc (by omega)];dsimp only;rw[bI (x:=val (a.drop (i+1))*1000000000) (by omega) (by omega),bI (x:=a[i]) (by omega) (by omega),bI (by omega) (by omega),aV (by omega) (by omega)];rw[show val (a.drop (i+1))*1000000000+a[i]=a[i]+1000000000*val (a.drop (i+1)) by omega];exact ih
def Du:Cn 243 [aqv]:=cn λ(a:List Int)=>lf (uj a) [.d (.int .u64) (val a)] λh=>by
 refine dk pF (show CQ.Res _ _ _ from ?_);obtain⟨n,hn⟩:=AJ a h a.length (ani _);have h0:=h.1.2;refine adu _ ⟨n,?_⟩;unfold NK;rw[apy]at hn;rw[aV (by omega) (by omega)];exact hn
theorem Ml(a b:List Int)(la:Lim a)(lb:Lim b)(hl:a.length=b.length)(hs:a.length<=1000000000):∀(n:Nat),n<=a.length->a.drop n=b.drop n->
  DP.Runs 22 (uo a b ((n:Int)-1)) [.d aqw (cE (val a) (val b))]:=by
 intro n;induction n with
 |zero=>
  intro _ h;refine qa _ _ _ ⟨0,?_⟩;have e:val a=val b:=by simp only[aoT]at h;rw[h]
  unfold lQ;rw[ane (by omega),e,eM]
 |succ n ih=>
  intro hn h;have h1:n<a.length:=by omega
  have h2:n<b.length:=by omega
  rcases Int.lt_trichotomy a[n] b[n]with hc|hc|hc
  ·refine qa _ _ _ ⟨0,?_⟩;have:=B4 la lb h1 h2 h hc;unfold lQ;rw[show((n+1:Nat):Int)-1=(n:Int) by omega,anb (by omega),aq,aq,anc h1,anc h2];dsimp only;rw[anb hc,dl (by omega)]
  ·obtain⟨q,hq⟩:=ih (by omega) (by rw[anu h1,anu h2,hc,h]);refine qa _ _ _ ⟨q,?_⟩;unfold lQ;rw[show((n+1:Nat):Int)-1=(n:Int) by omega,anb (by omega),aq,aq,anc h1,anc h2];dsimp only;rw[ane (by omega),ane (by omega),aV (x:=(n:Int)-1) (by omega) (by omega)];exact hq
  ·refine qa _ _ _ ⟨0,?_⟩;have:=B4 lb la h2 h1 h.symm hc;unfold lQ;rw[show((n+1:Nat):Int)-1=(n:Int) by omega,anb (by omega),aq,aq,anc h1,anc h2];dsimp only;rw[ane (by omega),anb hc,cX (by omega)]
theorem K5{a b:List Int}(ha:can a)(hb:can b)(h:a.length<b.length):val a<val b:=by
 have ea:=ro ha;have eb:=ro hb;have:=yg (a:=(val a).toNat) (b:=(val b).toNat) (by rw[<-ea,<-eb];exact h);omega
def yF:Cn 155 [aqv,aqv]:=cn λ(a b:List Int)=>lf (t5 a b) [.d aqw (cE (val a) (val b))] λh=>by
 refine dk pF (show DP.Res _ _ _ from ?_);obtain⟨⟨ha,sa⟩,hb,sb⟩:=h;by_cases hl:a.length=b.length
 ·obtain⟨q,hq⟩:=Ml a b ha.1 hb.1 hl sa _ (ani _) (by rw[apy,hl,apy]);refine SH _ _ ⟨q,?_⟩;unfold GO;rw[show((a.length:Int) !=(b.length:Int))=false by simp[hl],aV (x:=(a.length:Int)-1) (by omega) (by omega)];exact hq
 ·refine SH _ _ ⟨0,?_⟩;unfold GO;rw[show((a.length:Int) !=(b.length:Int))=true by simp;omega];dsimp only;rcases Nat.lt_or_gt_of_ne hl with h1|h1
  ·have:=K5 ha hb h1;rw[anb (by omega),dl (by omega)]
  ·have:=K5 hb ha h1;rw[ane (by omega),cX (by omega)]
def ug:List En:=enK yJ::enK CY::enF Du::enF yF::pF
def MN(neg:Bool)(l:List Int)(_k:KT):OLR:=og (decide (aU l)) (match neg with|true=>some [RV.d y2Y (decide (((ag (val l).toNat).length:Int)>0),ag (val l).toNat)]|false=>some [RV.d y2Y (false,ag (val l).toNat)])
def Uo:NT:=[((154,16),{keep:=[0,1,5,6,7],hl:=1})]
def yH:Ctx:=CX (ens ug) Uo
def lZ(s0 s1 r0:List Int)(s6 s7:Int):Cfg:=⟨154,[.blk 0,.seq 37],[(0,.d aqv s0),(1,.d aqv s1),(5,.own 0),(6,.d aqx s6),(7,SI s7)],[.row 200 aqx r0],0,[]⟩
def It(a b:List Int)(k:KT):OLR:=match decide ((a.length:Int)<(b.length:Int))with|true=>(og (decide ((0:Int)<=i64.wrap ((b.length:Int)+1)/\(i64.wrap ((b.length:Int)+1))*((4:Nat):Int)<=140737488355328/\i64.wrap ((b.length:Int)+1)<=140737488355328)) (k 16 (lZ b a (List.replicate (i64.wrap ((b.length:Int)+1)).toNat (0:Int)) 0 0)))|false=>(og (decide ((0:Int)<=i64.wrap ((a.length:Int)+1)/\(i64.wrap ((a.length:Int)+1))*((4:Nat):Int)<=140737488355328/\i64.wrap ((a.length:Int)+1)<=140737488355328)) (k 16 (lZ a b (List.replicate (i64.wrap ((a.length:Int)+1)).toNat (0:Int)) 0 0)))
theorem Pq(a b:List Int):RS yH 154 [.d aqv a,.d aqv b] (It a b):=rsX
def oZ(s0 s1 r0:List Int)(s6 s7:Int)(k:KT):OLR:=match decide (s7<(s0.length:Int))with|true=>(match aS s0 s7 with|some x1=>(match decide (s7<(s1.length:Int))with|true=>(match aS s1 s7 with|some x2=>(match aS r0 s7 with|some _=>(match true,r0[(s7).toNat]? with|true,some _=>k 16 (lZ s0 s1 (r0.set ((s7).toNat) (Int.tmod (u32.wrap ((u32.wrap (s6+x1))+x2)) 1000000000)) (u32.wrap (Int.tdiv (u32.wrap ((u32.wrap (s6+x1))+x2)) 1000000000)) (i64.wrap (s7+1)))|_,_=>none)|none=>none)|none=>none)|false=>(match aS r0 s7 with|some _=>(match true,r0[(s7).toNat]? with|true,some _x2=>k 16 (lZ s0 s1 (r0.set ((s7).toNat) (Int.tmod (u32.wrap (s6+x1)) 1000000000)) (u32.wrap (Int.tdiv (u32.wrap (s6+x1)) 1000000000)) (i64.wrap (s7+1)))|_,_=>none)|none=>none))|none=>none)|false=>(match aS r0 (s0.length:Int)with|some _=>(match true,r0[((s0.length:Int)).toNat]? with|true,some _x1=>(og (decide (aU (r0.set (((s0.length:Int)).toNat) s6))) (some [RV.d aqv (ag (val (r0.set (((s0.length:Int)).toNat) s6)).toNat)]))|_,_=>none)|none=>none)
theorem tj(s0 s1 r0:List Int)(s6 s7:Int):RN yH 16 (lZ s0 s1 r0 s6 s7) (oZ s0 s1 r0 s6 s7):=rnX
def VX:NT:=[((156,10),{keep:=[0,1,5,6,7],hl:=1})]
def ym:Ctx:=CX (ens ug) VX
def kr(a b:List Int)(s7:Int)(r0:List Int)(s6:Int):Cfg:=⟨156,[.blk 0,.seq 37],[(0,.d aqv a),(1,.d aqv b),(5,.own 0),(6,.d aqx s6),(7,SI s7)],[.row 200 aqx r0],0,[]⟩
def Qw(a b:List Int)(k:KT):OLR:=og (decide ((0:Int)<=(a.length:Int)/\(a.length:Int)*((4:Nat):Int)<=140737488355328/\(a.length:Int)<=140737488355328)) (k 10 (kr a b 0 (List.replicate ((a.length:Int)).toNat (0:Int)) 0))
theorem ae2(a b:List Int):RS ym 156 [.d aqv a,.d aqv b] (Qw a b):=rsX
def jH(a b:List Int)(s7:Int)(r0:List Int)(s6:Int)(k:KT):OLR:=match decide (s7<(a.length:Int))with|true=>(match aS a s7 with|some x1=>(match decide (s7<(b.length:Int))with|true=>(match aS b s7 with|some x2=>(match decide ((u32.wrap ((u32.wrap ((u32.wrap (x1+1000000000))-s6))-x2))>=1000000000)with|true=>(match aS r0 s7 with|some _=>(match true,r0[(s7).toNat]? with|true,some _x3=>k 10 (kr a b (i64.wrap (s7+1)) (r0.set ((s7).toNat) (u32.wrap ((u32.wrap ((u32.wrap ((u32.wrap (x1+1000000000))-s6))-x2))-1000000000))) 0)|_,_=>none)|none=>none)|false=>(match aS r0 s7 with|some _=>(match true,r0[(s7).toNat]? with|true,some _x3=>k 10 (kr a b (i64.wrap (s7+1)) (r0.set ((s7).toNat) (u32.wrap ((u32.wrap ((u32.wrap (x1+1000000000))-s6))-x2))) 1)|_,_=>none)|none=>none))|none=>none)|false=>(match decide ((u32.wrap ((u32.wrap (x1+1000000000))-s6))>=1000000000)with|true=>(match aS r0 s7 with|some _=>(match true,r0[(s7).toNat]? with|true,some _x2=>k 10 (kr a b (i64.wrap (s7+1)) (r0.set ((s7).toNat) (u32.wrap ((u32.wrap ((u32.wrap (x1+1000000000))-s6))-1000000000))) 0)|_,_=>none)|none=>none)|false=>(match aS r0 s7 with|some _=>(match true,r0[(s7).toNat]? with|true,some _x2=>k 10 (kr a b (i64.wrap (s7+1)) (r0.set ((s7).toNat) (u32.wrap ((u32.wrap (x1+1000000000))-s6))) 1)|_,_=>none)|none=>none)))|none=>none)|false=>(og (decide (aU r0)) (some [RV.d aqv (ag (val r0).toNat)]))
theorem l8(a b:List Int)(s7:Int)(r0:List Int)(s6:Int):RN ym 10 (kr a b s7 r0 s6) (jH a b s7 r0 s6):=rnX
def Xu:NT:=[((150,8),{keep:=[0,1,5,6],hl:=1}),((150,23),{keep:=[0,1,5,6,7,8],hl:=1})]
def tz:Ctx:=CX (ens ug) Xu
def uz(a b:List Int)(s6:Int)(r0:List Int):Cfg:=⟨150,[.blk 0,.seq 40],[(0,.d aqv a),(1,.d aqv b),(5,.own 0),(6,SI s6)],[.row 200 aqx r0],0,[]⟩
def vp(a b:List Int)(s6 s7 s8:Int)(r0:List Int):Cfg:=⟨150,[.blk 2,.seq 38,.blk 1,.seq 39,.lp 8,.blk 0,.seq 40],[(0,.d aqv a),(1,.d aqv b),(5,.own 0),(6,SI s6),(7,.d (.int .u64) s7),(8,SI s8)],[.row 200 aqx r0],0,[]⟩
def NP(a b:List Int)(k:KT):OLR:=og (decide ((0:Int)<=i64.wrap ((a.length:Int)+(b.length:Int))/\(i64.wrap ((a.length:Int)+(b.length:Int)))*((4:Nat):Int)<=140737488355328/\i64.wrap ((a.length:Int)+(b.length:Int))<=140737488355328)) (k 8 (uz a b 0 (List.replicate (i64.wrap ((a.length:Int)+(b.length:Int))).toNat (0:Int))))
theorem acD(a b:List Int):RS tz 150 [.d aqv a,.d aqv b] (NP a b):=rsX
def wz(a b:List Int)(s6:Int)(r0:List Int)(k:KT):OLR:=match decide (s6<(a.length:Int))with|true=>k 23 (vp a b s6 0 0 r0)|false=>(og (decide (aU r0)) (some [RV.d aqv (ag (val r0).toNat)]))
theorem A0(a b:List Int)(s6:Int)(r0:List Int):RN tz 8 (uz a b s6 r0) (wz a b s6 r0):=rnX
def t9(a b:List Int)(s6 s7 s8:Int)(r0:List Int)(k:KT):OLR:=match decide (s8<(b.length:Int))with|true=>(match aS r0 (i64.wrap (s6+s8))with|some _=>(match true,r0[(i64.wrap (s6+s8)).toNat]? with|true,some x1=>(match aS a s6 with|some x2=>(match aS b s8 with|some x3=>(match aS r0 (i64.wrap (s6+s8))with|some _=>(match true,r0[(i64.wrap (s6+s8)).toNat]? with|true,some _=>k 23 (vp a b s6 (u64.wrap (Int.tdiv (u64.wrap ((u64.wrap (s7+(u64.wrap x1)))+(u64.wrap ((u64.wrap x2)*(u64.wrap x3))))) 1000000000)) (i64.wrap (s8+1)) (r0.set ((i64.wrap (s6+s8)).toNat) (u32.wrap (Int.tmod (u64.wrap ((u64.wrap (s7+(u64.wrap x1)))+(u64.wrap ((u64.wrap x2)*(u64.wrap x3))))) 1000000000))))|_,_=>none)|none=>none)|none=>none)|none=>none)|_,_=>none)|none=>none)|false=>(match aS r0 (i64.wrap (s6+(b.length:Int)))with|some _=>(match true,r0[(i64.wrap (s6+(b.length:Int))).toNat]? with|true,some _x1=>k 8 (uz a b (i64.wrap (s6+1)) (r0.set ((i64.wrap (s6+(b.length:Int))).toNat) (u32.wrap s7)))|_,_=>none)|none=>none)
theorem Ae(a b:List Int)(s6 s7 s8:Int)(r0:List Int):RN tz 23 (vp a b s6 s7 s8 r0) (t9 a b s6 s7 s8 r0):=rnX
def GY:Cn 149 [.bool,aqv]:=cn λ(neg:Bool) (l:List Int)=>lf (aU l) [.d y2Y (ai (cg neg (val l)))] λh=>by
 refine aB ug (MN neg l) ⟨0,?_⟩;have hv:=aT h.1
 have hp:decide (((ag (val l).toNat).length:Int)>0)=decide (0<val l):=by
  refine aom.2 ⟨λg=>?_,λg=>?_⟩
  ·apply anv;intro hc;rw[show(val l).toNat=0 by omega,gz]at g;simp at g
  ·have:ag (val l).toNat≠[]:=λe=>by rw[ja]at e;omega
   have:=anW.2 this;omega
 unfold MN;rw[anb h,oJ neg hv,hp];cases neg<;>rfl
theorem Bm(a b:List Int)(ha:ko a)(hb:ko b)(hab:b.length<=a.length):∀(j i:Nat) (c:Int) (r:List Int),i+j=a.length->0<=c->c<=1->Lim r->r.length=a.length+1->(∀k (hk:k<r.length),i<=k->r[k]=0)->val r+pw i*c=val (a.take i)+val (b.take i)->
  yH.Runs 16 (lZ a b r c (i:Int)) [.d aqv (ag (val a+val b).toNat)]:=by
 have hsa:=ha.2;intro j;induction j with
 |zero=>
  intro i c r hi c0 c1 hr hl hz hv;obtain rfl:i=a.length:=by omega
  have hir:a.length<r.length:=by omega
  have hr0:=hz _ hir (ani _)
  have e:val (r.set a.length c)=val a+val b:=by
   rw[fY hir,hr0];rw[aov,aog hab]at hv;grind
  refine tj _ _ _ _ _ ⟨0,?_⟩;unfold oZ;rw[b8 (ani _),aq r,aE,anc hir];dsimp only;rw[anb (show aU (r.set a.length c) from⟨hr.set _ ⟨c0,by omega⟩,by simp;omega⟩),e]
 |succ j ih=>
  intro i c r hi c0 c1 hr hl hz hv;have hia:i<a.length:=by omega
  have hir:i<r.length:=by omega
  have xa:=ha.1.get hia;have hr0:=hz i hir (ani _)
  have step:∀(t:Int),0<=t->t<2000000000->val (b.take (i+1))=val (b.take i)+pw i*(t-a[i]-c)->yH.Runs 16 (lZ a b (r.set i (t%1000000000)) (t/1000000000) ((i+1:Nat):Int)) [.d aqv (ag (val a+val b).toNat)]:=by
   intro t t0 t1 hb';refine ih (i+1) (t/1000000000) (r.set i (t%1000000000)) (by omega) (by omega) (by omega) (hr.set i ⟨by omega,by omega⟩) (by simpa using hl) (qx hz) ?_;rw[fY hir,hr0,a8 hia,hb',ce];have:=Int.emod_add_mul_ediv t 1000000000;grind
  by_cases hib:i<b.length
  ·have xb:=hb.1.get hib;have ht:=a8 hib;obtain⟨q,hq⟩:=step (c+a[i]+b[i]) (by omega) (by omega) (by rw[ht];grind);refine tj _ _ _ _ _ ⟨q,?_⟩;unfold oZ;rw[bH hia,aq,anc hia,bH hib,aq,anc hib,aq r i,aE,anc hir];dsimp only;rw[dh (x:=c+a[i]) (by omega) (by omega),dh (x:=c+a[i]+b[i]) (by omega) (by omega),kw (by omega),iZ (by omega),dh (x:=(c+a[i]+b[i])/1000000000) (by omega) (by omega),bW (by omega)];exact hq
  ·have ht:=lA (b:=b) (i:=i) (by omega);obtain⟨q,hq⟩:=step (c+a[i]) (by omega) (by omega) (by rw[ht];grind);refine tj _ _ _ _ _ ⟨q,?_⟩;unfold oZ;rw[bH hia,aq,anc hia,b8 (show b.length<=i by omega),aq r i,aE,anc hir];dsimp only;rw[dh (x:=c+a[i]) (by omega) (by omega),kw (by omega),iZ (by omega),dh (x:=(c+a[i])/1000000000) (by omega) (by omega),bW (by omega)];exact hq
def adk:Cn 154 [aqv,aqv]:=cn λ(a b:List Int)=>lf (ko a/\ko b) [.d aqv (ag (val a+val b).toNat)] λh=>by
 refine dk ug (show yH.Res _ _ _ from ?_);obtain⟨ha,hb⟩:=h;have hsa:=ha.2;have hsb:=hb.2;by_cases hc:a.length<b.length
 ·obtain⟨q,hq⟩:=Bm b a hb ha (by omega) b.length 0 0 (List.replicate (b.length+1) 0) (by omega) (by omega) (by omega) (Lim.rep _) (by simp) (λk hk _=>by simp) (by simp[val,iK]);refine Pq _ _ ⟨q,?_⟩;unfold It;rw[bH hc,bW (by omega),vw (by omega),aE,ap9 (val a)];exact hq
 ·obtain⟨q,hq⟩:=Bm a b ha hb (by omega) a.length 0 0 (List.replicate (a.length+1) 0) (by omega) (by omega) (by omega) (Lim.rep _) (by simp) (λk hk _=>by simp) (by simp[val,iK]);refine Pq _ _ ⟨q,?_⟩;unfold It;rw[b8 (by omega),bW (k:=a.length) (by omega),vw (n:=a.length+1) (by omega),aE];exact hq
theorem LH(a b:List Int)(ha:aU a)(hb:aU b)(hle:val b<=val a):∀(j i:Nat) (c:Int) (r:List Int),i+j=a.length->0<=c->c<=1->Lim r->r.length=a.length->(∀k (hk:k<r.length),i<=k->r[k]=0)->val r+val (b.take i)=val (a.take i)+pw i*c->
  ym.Runs 10 (kr a b (i:Int) r c) [.d aqv (ag (val a-val b).toNat)]:=by
 have hsa:=ha.2;intro j;induction j with
 |zero=>
  intro i c r hi c0 c1 hr hl hz hv;obtain rfl:i=a.length:=by omega
  refine l8 _ _ _ _ _ ⟨0,?_⟩;unfold jH;rw[b8 (ani _)];have hrl:=b9 hr;rw[hl]at hrl;have hb2:val b=val (b.take a.length)+pw (min a.length b.length)*val (b.drop a.length):=ib b a.length;have hbd:0<=val (b.drop a.length):=aT (hb.1.drop _);have hal:=b9 ha.1;have hbt:=aT (hb.1.take a.length);rw[aov]at hv
  have hz0:val (b.drop a.length)=0:=by
   rcases anT a.length b.length with h1|h1
   ·rw[an0 (by omega)]at hb2;rcases anL 0 (val (b.drop a.length))with h2|h2
    ·have hp:=cB a.length;have:=ank (show 1<=val (b.drop a.length) by omega) (anU hp);omega
    ·omega
   ·rw[an7 h1];rfl
  rw[hz0,apt,aqp]at hb2
  have hc0:c=0:=by
   have hp:=cB a.length;rcases(show c=0\/c=1 by omega)with h|h
   ·exact h
   ·subst h;rw[apw]at hv;omega
  subst hc0;rw[apt]at hv;rw[anb (show aU r from⟨hr,by omega⟩),show val r=val a-val b by omega]
 |succ j ih=>
  intro i c r hi c0 c1 hr hl hz hv;have hia:i<a.length:=by omega
  have hir:i<r.length:=by omega
  have xa:=ha.1.get hia;have hr0:=hz i hir (ani _)
  have step:∀(y c':Int),0<=y->y<1000000000->0<=c'->c'<=1->val (b.take (i+1))=val (b.take i)+pw i*(a[i]+1000000000*c'-y-c)->ym.Runs 10 (kr a b ((i+1:Nat):Int) (r.set i y) c') [.d aqv (ag (val a-val b).toNat)]:=by
   intro y c' y0 y1 k0 k1 hb';refine ih (i+1) c' (r.set i y) (by omega) k0 k1 (hr.set i ⟨y0,y1⟩) (by simpa using hl) (qx hz) ?_;rw[fY hir,hr0,a8 hia,hb',ce];grind
  by_cases hib:i<b.length
  ·have xb:=hb.1.get hib;have ht:=a8 hib;by_cases hc:a[i]+1000000000-c-b[i]>=1000000000
   ·obtain⟨q,hq⟩:=step (a[i]+1000000000-c-b[i]-1000000000) 0 (by omega) (by omega) (by omega) (by omega) (by rw[ht];grind);refine l8 _ _ _ _ _ ⟨q,?_⟩;unfold jH;rw[bH hia,aq,anc hia,bH hib,aq,anc hib,aq,aE,anc hir];dsimp only;rw[dh (x:=a[i]+1000000000) (by omega) (by omega),dh (x:=a[i]+1000000000-c) (by omega) (by omega),dh (x:=a[i]+1000000000-c-b[i]) (by omega) (by omega),anb hc,dh (x:=a[i]+1000000000-c-b[i]-1000000000) (by omega) (by omega),bW (by omega)];exact hq
   ·obtain⟨q,hq⟩:=step (a[i]+1000000000-c-b[i]) 1 (by omega) (by omega) (by omega) (by omega) (by rw[ht];grind);refine l8 _ _ _ _ _ ⟨q,?_⟩;unfold jH;rw[bH hia,aq,anc hia,bH hib,aq,anc hib,aq,aE,anc hir];dsimp only;rw[dh (x:=a[i]+1000000000) (by omega) (by omega),dh (x:=a[i]+1000000000-c) (by omega) (by omega),dh (x:=a[i]+1000000000-c-b[i]) (by omega) (by omega),ane hc,bW (by omega)];exact hq
  ·have ht:=lA (b:=b) (i:=i) (by omega);by_cases hc:a[i]+1000000000-c>=1000000000
   ·obtain⟨q,hq⟩:=step (a[i]+1000000000-c-1000000000) 0 (by omega) (by omega) (by omega) (by omega) (by rw[ht];grind);refine l8 _ _ _ _ _ ⟨q,?_⟩;unfold jH;rw[bH hia,aq,anc hia,b8 (show b.length<=i by omega),aq r i,aE,anc hir];dsimp only;rw[dh (x:=a[i]+1000000000) (by omega) (by omega),dh (x:=a[i]+1000000000-c) (by omega) (by omega),anb hc,dh (x:=a[i]+1000000000-c-1000000000) (by omega) (by omega),bW (by omega)];exact hq
   ·obtain⟨q,hq⟩:=step (a[i]+1000000000-c) 1 (by omega) (by omega) (by omega) (by omega) (by rw[ht];grind);refine l8 _ _ _ _ _ ⟨q,?_⟩;unfold jH;rw[bH hia,aq,anc hia,b8 (show b.length<=i by omega),aq r i,aE,anc hir];dsimp only;rw[dh (x:=a[i]+1000000000) (by omega) (by omega),dh (x:=a[i]+1000000000-c) (by omega) (by omega),ane hc,bW (by omega)];exact hq
def Gx:Cn 156 [aqv,aqv]:=cn λ(a b:List Int)=>lf (ql a b) [.d aqv (ag (val a-val b).toNat)] λh=>by
 refine dk ug (show ym.Res _ _ _ from ?_);obtain⟨ha,hb,hle⟩:=h;have hsa:=ha.2;obtain⟨q,hq⟩:=LH a b ha hb hle a.length 0 0 (List.replicate a.length 0) (by omega) (by omega) (by omega) (Lim.rep _) (by simp) (λk hk _=>by simp) (by simp[val,iK]);refine ae2 _ _ ⟨q,?_⟩;unfold Qw;rw[vw (by omega),aE];exact hq
theorem IJ(a b:List Int)(ha:ko a)(hb:ko b)(i:Nat)(hi:i<a.length)
  (hout:∀r,Lim r->r.length=a.length+b.length->(∀k (hk:k<r.length),i+1+b.length<=k->r[k]=0)->val r=val (a.take (i+1))*val b->tz.Runs 8 (uz a b ((i+1:Nat):Int) r) [.d aqv (ag (val a*val b).toNat)]):
  ∀(j k:Nat) (c:Int) (r:List Int),k+j=b.length->0<=c->c<1000000000->Lim r->r.length=a.length+b.length->(∀q (hq:q<r.length),i+b.length<=q->r[q]=0)->val r+pw (i+k)*c=val (a.take i)*val b+pw i*a[i]*val (b.take k)->
  tz.Runs 23 (vp a b (i:Int) c (k:Int) r) [.d aqv (ag (val a*val b).toNat)]:=by
 have hsa:=ha.2;have hsb:=hb.2;have xa:=ha.1.get hi;intro j;induction j with
 |zero=>
  intro k c r hk c0 c1 hr hl hz hv;obtain rfl:k=b.length:=by omega
  have hir:i+b.length<r.length:=by omega
  have hr0:=hz _ hir (ani _)
  obtain⟨q,hq⟩:=hout (r.set (i+b.length) c) (hr.set _ ⟨c0,c1⟩) (by simpa using hl) (by rw[show i+1+b.length=i+b.length+1 by omega];exact qx hz) (by
   rw[fY hir,hr0,a8 hi];rw[aov]at hv;grind)
  refine Ae _ _ _ _ _ _ ⟨q,?_⟩;have hw:i64.wrap ((i:Int)+(b.length:Int))=((i+b.length:Nat):Int):=by rw[aV (by omega) (by omega)];simp
  unfold t9;rw[b8 (ani _),hw,aq r (i+b.length),aE,anc hir,dh (x:=c) (by omega) (by omega),bW (k:=i) (by omega)];exact hq
 |succ j ih=>
  intro k c r hk c0 c1 hr hl hz hv;have hkb:k<b.length:=by omega
  have hir:i+k<r.length:=by omega
  have xb:=hb.1.get hkb;have xr:=hr.get hir;have hbd:=H5 xr xa xb ⟨c0,c1⟩
  obtain⟨q,hq⟩:=ih (k+1) ((r[i+k]+a[i]*b[k]+c)/1000000000) (r.set (i+k) ((r[i+k]+a[i]*b[k]+c)%1000000000)) (by omega) hbd.2.2.1 hbd.2.2.2 (hr.set _ (by omega)) (by simpa using hl)
   (λm hm hq=>by rw[aoy (by omega)];exact hz m (by simpa using hm) hq) (by
    rw[fY hir,a8 hkb,show i+(k+1)=i+k+1 by omega,ce,gh];rw[gh]at hv;have e:=Int.emod_add_mul_ediv (r[i+k]+a[i]*b[k]+c) 1000000000;grind)
  refine Ae _ _ _ _ _ _ ⟨q,?_⟩;have hw:i64.wrap ((i:Int)+(k:Int))=((i+k:Nat):Int):=by rw[aV (by omega) (by omega)];simp
  unfold t9;rw[bH hkb,hw,aq b k,anc hkb,aq a i,anc hi,aq r (i+k),aE,anc hir];dsimp only;rw[bI (x:=r[i+k]) (by omega) (by omega),bI (x:=a[i]) (by omega) (by omega),bI (x:=b[k]) (by omega) (by omega),bI (x:=a[i]*b[k]) (by omega) (by omega),bI (x:=c+r[i+k]) (by omega) (by omega),bI (x:=c+r[i+k]+a[i]*b[k]) (by omega) (by omega),show c+r[i+k]+a[i]*b[k]=r[i+k]+a[i]*b[k]+c by omega,iZ (a:=r[i+k]+a[i]*b[k]+c) (by omega),kw (a:=r[i+k]+a[i]*b[k]+c) (by omega),bI (x:=(r[i+k]+a[i]*b[k]+c)/1000000000) (by omega) (by omega),dh (x:=(r[i+k]+a[i]*b[k]+c)%1000000000) (by omega) (by omega),bW (k:=k) (by omega)];exact hq
theorem H4(a b:List Int)(ha:ko a)(hb:ko b):∀(j i:Nat) (r:List Int),i+j=a.length->Lim r->r.length=a.length+b.length->(∀k (hk:k<r.length),i+b.length<=k->r[k]=0)->val r=val (a.take i)*val b->
  tz.Runs 8 (uz a b (i:Int) r) [.d aqv (ag (val a*val b).toNat)]:=by
 have hsa:=ha.2;have hsb:=hb.2;intro j;induction j with
 |zero=>
  intro i r hi hr hl hz hv;obtain rfl:i=a.length:=by omega
  refine A0 _ _ _ _ ⟨0,?_⟩;unfold wz;rw[aov]at hv;rw[b8 (ani _),anb (show aU r from⟨hr,by omega⟩),hv]
 |succ j ih=>
  intro i r hi hr hl hz hv;have hia:i<a.length:=by omega
  obtain⟨q,hq⟩:=IJ a b ha hb i hia (λr' h1 h2 h3 h4=>ih (i+1) r' (by omega) h1 h2 h3 h4) b.length 0 0 r (by omega) (by omega) (by omega) hr hl hz (by simp[val,hv]);refine A0 _ _ _ _ ⟨q,?_⟩;grind [wz]
def aco:Cn 150 [aqv,aqv]:=cn λ(a b:List Int)=>lf (ko a/\ko b) [.d aqv (ag (val a*val b).toNat)] λh=>by
 refine dk ug (show tz.Res _ _ _ from ?_);obtain⟨ha,hb⟩:=h;have hsa:=ha.2;have hsb:=hb.2;obtain⟨q,hq⟩:=H4 a b ha hb a.length 0 (List.replicate (a.length+b.length) 0) (by omega) (Lim.rep _) (by simp) (λk hk _=>by simp) (by simp[val,iK]);refine acD _ _ ⟨q,?_⟩;have hw:i64.wrap ((a.length:Int)+(b.length:Int))=((a.length+b.length:Nat):Int):=by rw[aV (by omega) (by omega)];simp
 unfold NP;rw[hw,vw (by omega),aE];exact hq
theorem vt{x:BI}(h:okI x):ko x.2:=⟨h.1.1,by have:=h.2.2;omega⟩
theorem Uy(a b:Int):decide (cE a b>=0)=decide (b<=a):=by grind [dl,eM,cX]
theorem Ak(a b:Int):decide (cE a b>0)=decide (b<a):=by grind [dl,eM,cX]
def qE:List En:=[enK yJ,enK CY,enF Du,enF yF,enK GY,enK adk,enK Gx,enK aco]
def Pc(n:Int)(_k:KT):OLR:=match decide (n<0)with|true=>(match decide (jD (u64.wrap (0-(u64.wrap n))))with|true=>(match decide (aU (ag (u64.wrap (0-(u64.wrap n))).toNat))with|true=>some [RV.d y2Y (ai (cg true (val (ag (u64.wrap (0-(u64.wrap n))).toNat))))]|false=>none)|false=>none)|false=>(match decide (jD (u64.wrap n))with|true=>(match decide (aU (ag (u64.wrap n).toNat))with|true=>some [RV.d y2Y (ai (cg false (val (ag (u64.wrap n).toNat))))]|false=>none)|false=>none)
def RG(x:Bool×List Int)(_k:KT):OLR:=match(x.2.length:Int)==0 with|true=>some [RV.d aqw 0]|false=>(match x.1 with|true=>some [RV.d aqw (-1)]|false=>some [RV.d aqw 1])
def Rm(x y:Bool×List Int)(_k:KT):OLR:=match !(x.1==y.1)with|true=>(match x.1 with|true=>some [RV.d aqw (-1)]|false=>some [RV.d aqw 1])|false=>(match x.1 with|true=>(og (decide (t5 y.2 x.2)) (some [RV.d aqw (cE (val y.2) (val x.2))]))|false=>(og (decide (t5 x.2 y.2)) (some [RV.d aqw (cE (val x.2) (val y.2))])))
def MW(x y:Bool×List Int)(_k:KT):OLR:=match x.1==y.1 with|true=>(og (decide (ko x.2/\ko y.2)) (og (decide (aU (ag (val x.2+val y.2).toNat))) (some [RV.d y2Y (ai (cg x.1 (val (ag (val x.2+val y.2).toNat))))])))|false=>(og (decide (t5 x.2 y.2)) (match decide ((cE (val x.2) (val y.2))>=0)with|true=>(og (decide (ql x.2 y.2)) (og (decide (aU (ag (val x.2-val y.2).toNat))) (some [RV.d y2Y (ai (cg x.1 (val (ag (val x.2-val y.2).toNat))))])))|false=>(og (decide (ql y.2 x.2)) (og (decide (aU (ag (val y.2-val x.2).toNat))) (some [RV.d y2Y (ai (cg y.1 (val (ag (val y.2-val x.2).toNat))))])))))
def Q1(x:Bool×List Int)(_k:KT):OLR:=og (decide (aU x.2)) (some [RV.d y2Y (ai (cg (!x.1) (val x.2)))])
def TK(x y:Bool×List Int)(_k:KT):OLR:=og (decide (ko x.2/\ko y.2)) (og (decide (aU (ag (val x.2*val y.2).toNat))) (some [RV.d y2Y (ai (cg (!(x.1==y.1)) (val (ag (val x.2*val y.2).toNat))))]))
def aaP(a:List Int)(n:Int)(_k:KT):OLR:=og (decide (aU ([n]))) (og (decide (ko a/\ko (ag (val ([n])).toNat))) (some [RV.d aqv (ag (val a*val (ag (val ([n])).toNat)).toNat)]))
def Cj:Cn 79 [aqw]:=cn λ(n:Int)=>lf (aJ n) [.d y2Y (ai n)] λh=>by
 refine aB qE (Pc n) ⟨0,?_⟩;have h1:=h.1;have h2:=h.2;unfold Pc;by_cases hn:n<0
 ·have e:u64.wrap (0-u64.wrap n)= -n:=by rw[an3,an3];omega
  have hl:(ag (-n).toNat).length<=3:=cK (by omega) (apE (show-n<18446744073709551616 by omega) (by decide));rw[anb hn];dsimp only;rw[e,anb (show jD (-n) from⟨by omega,by omega⟩),anb (cL (n:=(-n).toNat) (by omega)),bZ (v:= -n) (by omega)];dsimp only;rw[show cg true (-n)=n by unfold cg;simp]
 ·have e:u64.wrap n=n:=bI (by omega) (by omega);have hl:(ag n.toNat).length<=3:=cK (by omega) (apE (show n<18446744073709551616 by omega) (by decide));rw[ane hn];dsimp only;rw[e,anb (show jD n from⟨by omega,by omega⟩),anb (cL (n:=n.toNat) (by omega)),bZ (v:=n) (by omega)];rfl
def Ot:Cn 109 [y2Y]:=cn λ(x:Bool×List Int)=>lf (okI x) [.d aqw (cE (ae x) 0)] λh=>by
 refine aB qE (RG x) ⟨0,?_⟩;obtain⟨h0,h1,h2⟩:=cN h;unfold RG;rw[bR];unfold cg;by_cases he:x.2=[]
 ·have e0:=h2.1 he
  have ex:x.1=false:=by
   cases hx:x.1
   ·rfl
   ·have:=h1 hx;omega
  rw[ex,e0,he];rfl
 ·have hp:0<val x.2:=fC h.1 he;have:=anW.2 he;rw[show((x.2.length:Int)==0)=false by simp;omega];cases x.1
  ·simp only[cond_false];rw[cX hp]
  ·simp only[cond_true];rw[dl (by omega)]
def PP:Cn 269 [y2Y,y2Y]:=cn λ(x y:Bool×List Int)=>lf (okI x/\okI y) [.d aqw (cE (ae x) (ae y))] λh=>by
 refine aB qE (Rm x y) ⟨0,?_⟩;obtain⟨hx,hy⟩:=h;obtain⟨x0,x1,x2⟩:=cN hx;obtain⟨y0,y1,y2⟩:=cN hy;have sx:=hx.2.2;have sy:=hy.2.2;unfold Rm;rw[bR,bR,anb (show t5 y.2 x.2 from⟨⟨hy.1,by omega⟩,hx.1,by omega⟩),anb (show t5 x.2 y.2 from⟨⟨hx.1,by omega⟩,hy.1,by omega⟩)];unfold cg;cases ex:x.1<;>cases ey:y.1
 ·rfl
 ·have:=y1 ey;simp only[cond_true,cond_false];rw[show cE (val x.2) (-val y.2)=1 from cX (by omega)];rfl
 ·have:=x1 ex;simp only[cond_true,cond_false];rw[show cE (-val x.2) (val y.2)= -1 from dl (by omega)];rfl
 ·simp only[cond_true];rw[KO x0 y0];rfl
def CE:Cn 63 [y2Y,y2Y]:=cn λ(x y:Bool×List Int)=>lf (okI x/\okI y) [.d y2Y (ai (ae x+ae y))] λh=>by
 refine aB qE (MW x y) ⟨0,?_⟩;obtain⟨hx,hy⟩:=h;obtain⟨x0,x1,x2⟩:=cN hx;obtain⟨y0,y1,y2⟩:=cN hy;have lx:=gY hx;have ly:=gY hy;have tx:=vt hx;have ty:=vt hy;have sx:=hx.2.2;have sy:=hy.2.2;have bx:=b9 hx.1.1;have by':=b9 hy.1.1;have px:=dH (show x.2.length<=1000000 by omega);have py:=dH (show y.2.length<=1000000 by omega);have l1:(ag (val x.2+val y.2).toNat).length<=1000001:=cK (by omega) (by rw[ce];omega);have l2:(ag (val x.2-val y.2).toNat).length<=1000000:=dJ (by have:=cB 1000000;omega);have l3:(ag (val y.2-val x.2).toNat).length<=1000000:=dJ (by have:=cB 1000000;omega);unfold MW
 rw[bR,bR,anb (show ko x.2/\ko y.2 from⟨tx,ty⟩),anb (cL (n:=(val x.2+val y.2).toNat) (by omega)),anb (cL (n:=(val x.2-val y.2).toNat) (by omega)),anb (cL (n:=(val y.2-val x.2).toNat) (by omega)),bZ (v:=val x.2+val y.2) (by omega),
  anb (show t5 x.2 y.2 from⟨⟨hx.1,by omega⟩,hy.1,by omega⟩),Uy]
 cases hs:x.1==y.1
 ·dsimp only;rcases anL (val x.2) (val y.2)with hc|hc
  ·rw[ane (show ¬val y.2<=val x.2 by omega),anb (show ql y.2 x.2 from⟨ly,lx,by omega⟩),bZ (v:=val y.2-val x.2) (by omega)];dsimp only;unfold cg;cases ex:x.1<;>cases ey:y.1<;>simp_all<;>congr 2<;>omega
  ·rw[anb hc,anb (show ql x.2 y.2 from⟨lx,ly,hc⟩),bZ (v:=val x.2-val y.2) (by omega)];dsimp only;unfold cg;cases ex:x.1<;>cases ey:y.1<;>simp_all<;>congr 2<;>omega
 ·dsimp only;have e:=aop.1 hs;rw[<-e];unfold cg;cases x.1
  ·rfl
  ·simp only[cond_true];rw[show-(val x.2+val y.2)= -val x.2+ -val y.2 by omega]
def Rk:Cn 151 [y2Y]:=cn λ(x:Bool×List Int)=>lf (okI x) [.d y2Y (ai (-ae x))] λh=>by
 refine aB qE (Q1 x) ⟨0,?_⟩;unfold Q1;rw[bR,anb (gY h)];unfold cg;cases x.1<;>simp
def Re:Cn 61 [y2Y,y2Y]:=cn λ(x y:Bool×List Int)=>lf (okI x/\okI y) [.d y2Y (ai (ae x*ae y))] λh=>by
 refine aB qE (TK x y) ⟨0,?_⟩;obtain⟨hx,hy⟩:=h;obtain⟨x0,x1,x2⟩:=cN hx;obtain⟨y0,y1,y2⟩:=cN hy;have bx:=b9 hx.1.1;have by':=b9 hy.1.1;have sx:=hx.2.2;have sy:=hy.2.2;have hm:0<=val x.2*val y.2:=an9 x0 y0
 have l1:(ag (val x.2*val y.2).toNat).length<=x.2.length+y.2.length:=cK hm (by
  rw[gh];have p1:=cB x.2.length;have p2:=cB y.2.length;have:=apk (show val x.2<=pw x.2.length-1 by omega) (show val y.2<=pw y.2.length-1 by omega) y0 (by omega);grind)
 unfold TK;rw[bR,bR,anb (show ko x.2/\ko y.2 from⟨vt hx,vt hy⟩),anb (cL (n:=(val x.2*val y.2).toNat) (by omega)),bZ hm];unfold cg;cases x.1<;>cases y.1<;>simp[Int.neg_mul,ap6]
def byP(a:List Int)(n:Int):Prop:=ko a/\0<=n/\n<1000000000
instance (a:List Int) (n:Int):Decidable (byP a n):=by unfold byP;infer_instance
def abf:Cn 298 [aqv,aqx]:=cn λ(a:List Int) (n:Int)=>lf (byP a n) [.d aqv (ag (val a*n).toNat)] λh=>by
 refine aB qE (aaP a n) ⟨0,?_⟩;obtain⟨ha,h1,h2⟩:=h;have hl:(ag n.toNat).length<=1:=cK (by omega) (by show n<pw 1;simp[pw];exact h2);have e:val [n]=n:=by simp[val]
 unfold aaP;rw[e,anb (show aU [n] from⟨Lim.cons ⟨by omega,h2⟩ Lim.nil,by simp⟩),anb (show ko a/\ko (ag n.toNat) from⟨ha,cd _,by omega⟩),bZ (by omega)]
def afq:List En:=enK CE::enK Rk::qE
def QP(x y:Bool×List Int)(_k:KT):OLR:=og (decide (okI y)) (og (decide (okI x/\okI (ai (-ae y)))) (some [RV.d y2Y (ai (ae x+ae (ai (-ae y))))]))
def ab7:Cn 244 [y2Y,y2Y]:=cn λ(x y:Bool×List Int)=>lf (okI x/\okI y) [.d y2Y (ai (ae x-ae y))] λh=>by
 refine aB afq (QP x y) ⟨0,?_⟩;obtain⟨hx,hy⟩:=h;unfold QP;rw[anb hy,anb (show okI x/\okI (ai (-ae y)) from⟨hx,aW (by rw[ke];exact jJ hy)⟩),dec_enc,Int.sub_eq_add_neg]
end Go.Proofs.YtagbmoohboleaaaGreat
end
