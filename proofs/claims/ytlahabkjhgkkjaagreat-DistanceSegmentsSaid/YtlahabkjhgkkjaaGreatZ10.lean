/- The order of the reals; what holds of all fractions holds of them. -/
import Derived.Test.YtlahabkjhgkkjaaGreatZ9
namespace Go.Proofs.YtlahabkjhgkkjaaGreat
namespace RE
open RL
theorem le_of_lt{a b:RE}(h:a<b):a≤b:=fun h'=>lt_irrefl a (lm h h')
theorem lt_or_ge(a b:RE):a<b∨b≤a:=by
 by_cases h:a<b
 ·exact .inl h
 ·exact .inr h
theorem le_antisymm{a b:RE}(h1:a≤b)(h2:b≤a):a=b:=by
 rcases Jn a b with h|h|h
 ·exact absurd h h2
 ·exact h
 ·exact absurd h h1
theorem le_trans{a b c:RE}(h1:a≤b)(h2:b≤c):a≤c:=fun h=>by
 rcases Jn a b with h'|h'|h'
 ·exact h2 (lm h h')
 ·subst h';exact h2 h
 ·exact h1 h'
theorem zero_lt_one:(0:RE)<1:=lV (by decide+kernel:(0:Rat)<1)
theorem KN(a:RE):a+ -a=0:=by rw[add_comm,Ly]
theorem Sw{a:RE}(h:a<0):0< -a:=by
 have:=A4 (-a) h
 rw[KN,add_comm,add_zero]at this
 exact this
instance:Std.IsLinearOrder RE where
 le_refl a:=lt_irrefl a
 le_trans _ _ _:=le_trans
 le_antisymm _ _:=le_antisymm
 le_total a b:=by
  rcases lt_or_ge a b with h|h
  ·exact .inl (le_of_lt h)
  ·exact .inr h
instance:Std.LawfulOrderLT RE where
 lt_iff a b:=⟨fun h=>⟨le_of_lt h,fun h'=>h' h⟩,fun h=>by
  rcases lt_or_ge a b with h'|h'
  ·exact h'
  ·exact absurd h' h.2⟩
theorem jh{a b:RE}:¬a≤b↔b<a:=⟨fun h=>by
  rcases lt_or_ge b a with h'|h'
  ·exact h'
  ·exact absurd h' h,fun h h'=>h' h⟩
theorem bW{a b:RE}(h:a<b):0<b-a:=by
 have:=A4 (-a) h
 rw[KN]at this
 exact this
theorem a9{a b:RE}(h:a≤b):0≤b-a:=fun h'=>h (by
 have:=A4 a h'
 have e:b-a+a=b:=by
  show b+ -a+a=b
  rw[add_assoc,Ly,add_zero]
 rw[e,add_comm,add_zero]at this
 exact this)
theorem nL{a:RE}(h:0≤a):0<a∨a=0:=by
 rcases Jn 0 a with h'|h'|h'
 ·exact .inl h'
 ·exact .inr h'.symm
 ·exact absurd h' h
theorem le_refl(a:RE):a≤a:=lt_irrefl a
theorem aeE{a b:RE}(h:a=b):a≤b:=by rw[h];exact le_refl _
theorem acj{a b:RE}(h:a=b):b≤a:=by rw[h];exact le_refl _
theorem zero_mul(a:RE):0*a=0:=by rw[mul_comm,mul_zero]
theorem zero_add(a:RE):0+a=a:=by rw[add_comm,add_zero]
theorem one_mul(a:RE):1*a=a:=by rw[mul_comm,mul_one]
theorem cK{a b:RE}(h:0≤a)(h':0≤b):0≤a*b:=by
 rcases nL h with h1|h1
 ·rcases nL h' with h2|h2
  ·exact le_of_lt (mul_pos h1 h2)
  ·rw[h2,mul_zero];exact le_refl _
 ·rw[h1,zero_mul];exact le_refl _
theorem bu{a b:RE}(h:0<a)(h':0≤b):0<a+b:=by
 have:=A4 b h
 rw[zero_add]at this
 rcases nL h' with h2|h2
 ·exact lm h2 this
 ·rw[h2,add_zero];exact h
theorem qV{c:Rat}(hc:(0:Rat)<c){a:RE}(h:0≤a):0≤of c*a:=cK (le_of_lt (lV hc)) h
theorem far{s:RE}(h:0<s)(e:s=0):False:=by rw[e]at h;exact lt_irrefl _ h
theorem VD(x y:RE):((y*y-(x*x)))+((x-(0))*(x-(y)))+((y-(0))*(x-(y)))=0:=by
 induction x using Quotient.inductionOn
 induction y using Quotient.inductionOn
 exact snd fun n=>by
  simp only[RL.add,RL.mul,RL.neg,RL.const]
  grind
theorem sq_lt(x y:RE)(h1:0≤x)(h2:0≤y)(h3:x*x<y*y):x<y:=jh.1 fun hg=>far (bu (bu (bW h3) (cK (a9 h1) (a9 hg))) (cK (a9 h2) (a9 hg))) (VD x y)
theorem Xd(x y:RE):((x-(y))*(x-(y)))+((y*y-(x*x)))+of 2*((y-(0))*(x-(y)))=0:=by
 induction x using Quotient.inductionOn
 induction y using Quotient.inductionOn
 exact snd fun n=>by
  simp only[RL.add,RL.mul,RL.neg,RL.const]
  grind
theorem Uz(x y:RE)(_h1:0≤x)(h2:0≤y)(h3:x*x≤y*y):x≤y:=fun hg=>far (bu (bu (mul_pos (bW hg) (bW hg)) (a9 h3)) (qV (by decide+kernel:(0:Rat)<2) (cK (a9 h2) (le_of_lt (bW hg))))) (Xd x y)
theorem LA(x y:RE):((x*x-(y*y)))+of 2*((x-(0))*(y-(x)))+((y-(x))*(y-(x)))=0:=by
 induction x using Quotient.inductionOn
 induction y using Quotient.inductionOn
 exact snd fun n=>by
  simp only[RL.add,RL.mul,RL.neg,RL.const]
  grind
theorem n3(x y:RE)(h1:0≤x)(h2:x≤y):x*x≤y*y:=fun hg=>far (bu (bu (bW hg) (qV (by decide+kernel:(0:Rat)<2) (cK (a9 h1) (a9 h2)))) (cK (a9 h2) (a9 h2))) (LA x y)
theorem aa5(x y:RE):((y-(x))*(y-(x)))+((x*x-(y*y)))+of 2*((x-(0))*(y-(x)))=0:=by
 induction x using Quotient.inductionOn
 induction y using Quotient.inductionOn
 exact snd fun n=>by
  simp only[RL.add,RL.mul,RL.neg,RL.const]
  grind
theorem UN(x y:RE):((x-(y))*(x-(y)))+((y*y-(x*x)))+of 2*((y-(0))*(x-(y)))=0:=by
 induction x using Quotient.inductionOn
 induction y using Quotient.inductionOn
 exact snd fun n=>by
  simp only[RL.add,RL.mul,RL.neg,RL.const]
  grind
theorem aaH(x y:RE)(_h1:0≤x)(h2:0≤y)(h3:x*x=y*y):x≤y:=fun hg=>far (bu (bu (mul_pos (bW hg) (bW hg)) (a9 (aeE h3))) (qV (by decide+kernel:(0:Rat)<2) (cK (a9 h2) (le_of_lt (bW hg))))) (UN x y)
theorem Sm(x y:RE):((y-(x))*(y-(x)))+((x*x-(y*y)))+of 2*((x-(0))*(y-(x)))=0:=by
 induction x using Quotient.inductionOn
 induction y using Quotient.inductionOn
 exact snd fun n=>by
  simp only[RL.add,RL.mul,RL.neg,RL.const]
  grind
theorem abZ(x y:RE)(h1:0≤x)(_h2:0≤y)(h3:x*x=y*y):y≤x:=fun hg=>far (bu (bu (mul_pos (bW hg) (bW hg)) (a9 (acj h3))) (qV (by decide+kernel:(0:Rat)<2) (cK (a9 h1) (le_of_lt (bW hg))))) (Sm x y)
theorem aci(x y:RE)(h1:0≤x)(h2:0≤y)(h3:x*x=y*y):x=y:=le_antisymm (aaH x y h1 h2 h3) (abZ x y h1 h2 h3)
end RE
end Go.Proofs.YtlahabkjhgkkjaaGreat
namespace Go.Proofs.YtlahabkjhgkkjaaGreat
namespace RE
open RL
theorem aeV(q:Rat):∃k:Nat,q<(k:Rat):=by
 refine⟨(q.floor+1).toNat,?_⟩
 have h1:q<((q.floor+1:Int):Rat):=(Rat.floor_lt_iff).1 (by omega)
 have h2:((q.floor+1:Int):Rat)≤(((q.floor+1).toNat:Int):Rat):=Rat.intCast_le_intCast.2 (by omega)
 have h3:(((q.floor+1).toNat:Int):Rat)=(((q.floor+1).toNat:Nat):Rat):=Rat.intCast_natCast _
 rw[h3]at h2
 grind
theorem VX(g d:Rat)(hg:0≤g)(hd:0<d):∃s:Rat,0≤s∧s*s≤g∧g<(s+d)*(s+d):=by
 apply Classical.byContradiction
 intro hn
 have step:∀k:Nat,((k:Rat)*d)*((k:Rat)*d)≤g:=by
  intro k
  induction k with
  |zero=>rw[show((0:Nat):Rat)=0 from rfl];grind
  |succ k ih=>
   apply Classical.byContradiction
   intro hc
   refine hn ⟨(k:Rat)*d,?_,ih,?_⟩
   ·have:(0:Rat)≤(k:Rat):=by
     have:=Rat.intCast_nonneg.2 (show(0:Int)≤(k:Int) by omega)
     rwa [Rat.intCast_natCast]at this
    exact Rat.mul_nonneg this (by grind)
   ·have e:(((k+1:Nat)):Rat)=(k:Rat)+1:=by rw[Rat.natCast_add];rfl
    rw[e]at hc
    grind
 obtain⟨k,hk⟩:=aeV ((g+1)/d)
 have h1:g+1<(k:Rat)*d:=by
  have:=Rat.mul_pos (show 0<(k:Rat)-(g+1)/d by grind) hd
  have e:((k:Rat)-(g+1)/d)*d=(k:Rat)*d-(g+1):=by grind
  grind
 have h2:=step k
 have h3:=Rat.mul_pos (show 0<(k:Rat)*d-(g+1) by grind) (show 0<(k:Rat)*d by grind)
 have h4:=Rat.mul_pos (show 0<(k:Rat)*d-(g+1) by grind) (show 0<g+1 by grind)
 have h5:=Rat.mul_nonneg hg hg
 clear hn step hk
 generalize (k:Rat)*d=t at h1 h2 h3 h4
 grind
def eps(n:Nat):Rat:=1/((n:Rat)+1)
theorem nD(n:Nat):(0:Rat)≤(n:Rat):=by
 have:=Rat.intCast_nonneg.2 (show(0:Int)≤(n:Int) by omega)
 rwa [Rat.intCast_natCast]at this
theorem ob(n:Nat):0<eps n:=by
 have:=nD n
 exact Rat.mul_pos (by grind) (Rat.inv_pos.2 (by grind))
theorem vJ(e:Rat)(he:0<e):∃N,∀n,N≤n→eps n<e:=by
 obtain⟨N,hN⟩:=aeV (1/e)
 refine⟨N,fun n hn=>?_⟩
 have h0:=nD n
 have h1:(N:Rat)≤(n:Rat):=by
  have:=Rat.intCast_le_intCast.2 (show(N:Int)≤(n:Int) by omega)
  rwa [Rat.intCast_natCast,Rat.intCast_natCast]at this
 have h2:1/e<(n:Rat)+1:=by grind
 have h3:=Rat.mul_pos (show 0<(n:Rat)+1-1/e by grind) (Rat.mul_pos he (ob n))
 unfold eps at h3 ⊢
 have e1:((n:Rat)+1-1/e)*(e*(1/((n:Rat)+1)))=e-1/((n:Rat)+1):=by
  have:(n:Rat)+1≠0:=by grind
  have:e≠0:=by grind
  grind
 grind
theorem FH(n:Nat):eps n≤1:=by
 have h0:=nD n
 have:=ob n
 unfold eps at*
 have h3:=Rat.mul_nonneg h0 (show(0:Rat)≤1/((n:Rat)+1) by grind)
 have e1:(n:Rat)*(1/((n:Rat)+1))=1-1/((n:Rat)+1):=by
  have:(n:Rat)+1≠0:=by grind
  grind
 grind
theorem TA{a b:Rat}(ha:0≤a)(hb:0≤b)(h:a*a<b*b):a<b:=by
 apply Classical.byContradiction
 intro hc
 have:=Rat.mul_nonneg (show 0≤a-b by grind) (show 0≤a+b by grind)
 grind
theorem xz(x:RE)(hx:0≤x):∃y:RE,0≤y∧y*y=x:=by
 induction x using Quotient.inductionOn
 rename_i f
 have hc:∀n,∃s:Rat,0≤s∧s*s≤(if 0≤f.f n then f.f n else 0)∧(if 0≤f.f n then f.f n else 0)<(s+eps n)*(s+eps n):=fun n=>
  VX _ _ (by split<;>grind) (ob n)
 let g:Nat→Rat:=fun n=>if 0≤f.f n then f.f n else 0
 let s:Nat→Rat:=fun n=>Classical.choose (hc n)
 have hs:∀n,0≤s n∧s n*s n≤g n∧g n<(s n+eps n)*(s n+eps n):=fun n=>Classical.choose_spec (hc n)
 have hg:∀m n,g m-g n≤(if 0≤f.f m-f.f n then f.f m-f.f n else 0):=fun m n=>by
  show(if 0≤f.f m then f.f m else 0)-(if 0≤f.f n then f.f n else 0)≤_
  split<;>split<;>split<;>grind
 obtain⟨B,hB,NB,hBn⟩:=f.bd
 have hgB:∀n,NB≤n→g n<B:=fun n hn=>by
  show(if 0≤f.f n then f.f n else 0)<B
  have:=hBn n hn
  split<;>grind
 have hsB:∀n,NB≤n→s n<B+1:=fun n hn=>by
  have h1:=hs n
  have h2:=hgB n hn
  refine TA h1.1 (by grind) ?_
  have:=Rat.mul_nonneg (show 0≤B by grind) (show 0≤B by grind)
  grind
 have hcau:∀e:Rat,0<e→∃N,∀m n,N≤m→N≤n→s m-s n<e:=by
  intro e he
  obtain⟨N1,h1⟩:=f.cau (e*e/4) (by have:=Rat.mul_pos he he;grind)
  obtain⟨N2,h2⟩:=vJ (e/2) (by grind)
  refine⟨max N1 N2,fun m n hm hn=>?_⟩
  apply Classical.byContradiction
  intro hne
  have a1:=hs m
  have a2:=hs n
  have a3:=h1 m n (by omega) (by omega)
  have a4:=h2 n (by omega)
  have a5:=hg m n
  have a6:=ob n
  have p1:=Rat.mul_nonneg (show 0≤s m-(s n+e) by grind) (show 0≤s m+(s n+e) by grind)
  have p2:=Rat.mul_nonneg (show 0≤e/2-eps n by grind) (show 0≤(s n+e/2)+(s n+eps n) by grind)
  have p3:=Rat.mul_nonneg (show 0≤e by grind) a2.1
  have p4:=Rat.mul_pos he he
  split at a5<;>grind
 refine⟨Quotient.mk _ ⟨s,hcau⟩,?_,Quotient.sound fun e he=>?_⟩
 ·rintro ⟨e,he,N,h⟩
  have h1:=h N (Nat.le_refl _)
  have h2:=(hs N).1
  simp only[RL.const]at h1
  grind
 ·-- s n*s n is near to f n
  have hneg:∃N,∀n,N≤n→ -(e/4)<f.f n:=by
   apply Classical.byContradiction
   intro hne
   obtain⟨M,hM⟩:=f.cau (e/8) (by grind)
   refine hx ⟨e/16,by grind,M,fun n hn=>?_⟩
   apply Classical.byContradiction
   intro hge
   refine hne ⟨M,fun k hk=>?_⟩
   have:=hM n k hn hk
   simp only[RL.const]at hge
   grind
  obtain⟨N1,h1⟩:=hneg
  obtain⟨N2,h2⟩:=vJ (e/(4*(B+2))) (Rat.mul_pos he (Rat.inv_pos.2 (by grind)))
  refine⟨max (max N1 N2) NB,fun n hn=>?_⟩
  have a1:=hs n
  have a2:=h1 n (by omega)
  have a3:=h2 n (by omega)
  have a4:=hsB n (by omega)
  have a5:=ob n
  have a6:=FH n
  have hgf:f.f n≤g n∧g n<f.f n+e/4:=by
   show f.f n≤(if 0≤f.f n then f.f n else 0)∧(if 0≤f.f n then f.f n else 0)<_
   split<;>constructor<;>grind
  have p1:=Rat.mul_nonneg (show 0≤eps n by grind) (show 0≤2*(B+2)-(2*s n+eps n) by grind)
  have p2:eps n*(2*(B+2))<e/2:=by
   have:=Rat.mul_pos (show 0<e/(4*(B+2))-eps n by grind) (show 0<2*(B+2) by grind)
   have e1:(e/(4*(B+2))-eps n)*(2*(B+2))=e/2-eps n*(2*(B+2)):=by
    have:B+2≠0:=by grind
    grind
   grind
  simp only[RL.mul]
  constructor<;>grind
open Classical in
noncomputable def so(x:RE):RE:=if h:0≤x then Classical.choose (xz x h)else 0
theorem lz(x:RE):0≤so x:=by
 unfold so
 split
 ·rename_i h;exact(Classical.choose_spec (xz x h)).1
 ·exact lt_irrefl 0
theorem za{x:RE}(h:0≤x):so x*so x=x:=by
 unfold so
 rw[dif_pos h]
 exact(Classical.choose_spec (xz x h)).2
theorem oq{a b:Rat}:of a≤of b↔a≤b:=by
 constructor
 ·intro h
  apply Classical.byContradiction
  intro hc
  exact h (lV (by grind))
 ·intro h h'
  rcases(by grind:a<b∨a=b)with h1|h1
  ·exact lt_irrefl _ (lm h' (lV h1))
  ·rw[h1]at h';exact lt_irrefl _ h'
end RE
end Go.Proofs.YtlahabkjhgkkjaaGreat
namespace Go.Proofs.YtlahabkjhgkkjaaGreat
namespace RE
open RL
open Classical in
noncomputable def sg(x:RE):Int:=if 0<x then 1 else if x<0 then-1 else 0
theorem jW{x:RE}(h:0<x):sg x=1:=if_pos h
theorem qB{x:RE}(h:x<0):sg x= -1:=by unfold sg;rw[if_neg (fun h'=>lt_irrefl _ (lm h h')),if_pos h]
theorem mr:sg 0=0:=by unfold sg;rw[if_neg (lt_irrefl _),if_neg (lt_irrefl _)]
theorem iC(x:RE):(0<x∧sg x=1)∨(x=0∧sg x=0)∨(x<0∧sg x= -1):=by
 rcases Jn 0 x with h|h|h
 ·exact .inl ⟨h,jW h⟩
 ·exact .inr (.inl ⟨h.symm,by rw[←h,mr]⟩)
 ·exact .inr (.inr ⟨h,qB h⟩)
theorem neg_mul(a b:RE): -a*b= -(a*b):=by
 induction a using Quotient.inductionOn
 induction b using Quotient.inductionOn
 exact snd fun n=>by
  simp only[RL.mul,RL.neg]
  grind
theorem mul_neg(a b:RE):a* -b= -(a*b):=by
 induction a using Quotient.inductionOn
 induction b using Quotient.inductionOn
 exact snd fun n=>by
  simp only[RL.mul,RL.neg]
  grind
theorem neg_neg(a:RE): - -a=a:=by
 induction a using Quotient.inductionOn
 exact snd fun n=>by
  simp only[RL.neg]
  grind
theorem sub_self(a:RE):a-a=0:=by
 induction a using Quotient.inductionOn
 exact snd fun n=>by
  simp only[RL.add,RL.neg,RL.const]
  grind
theorem aaK(x y:RE):(x+y)*(x-y)=x*x-y*y:=by
 induction x using Quotient.inductionOn
 induction y using Quotient.inductionOn
 exact snd fun n=>by
  simp only[RL.add,RL.mul,RL.neg]
  grind
theorem Vh(x y:RE):((x-(0))*(0-(y)))+((x*y-(0)))=0:=by
 induction x using Quotient.inductionOn
 induction y using Quotient.inductionOn
 exact snd fun n=>by
  simp only[RL.add,RL.mul,RL.neg,RL.const]
  grind
theorem Vx(x y:RE)(h1:0<x)(h2:y<0):x*y<0:=jh.1 fun hg=>far (bu (mul_pos (bW h1) (bW h2)) (a9 hg)) (Vh x y)
theorem Vk(x y:RE):((0-(x)))+((0-(y)))+((x+y-(0)))=0:=by
 induction x using Quotient.inductionOn
 induction y using Quotient.inductionOn
 exact snd fun n=>by
  simp only[RL.add,RL.neg,RL.const]
  grind
theorem Z7(x y:RE)(h1:x<0)(h2:y<0):x+y<0:=jh.1 fun hg=>far (bu (bu (bW h1) (le_of_lt (bW h2))) (a9 hg)) (Vk x y)
theorem Rs(x y:RE):((x-(0)))+((0-(y)))+((0-(x-y)))=0:=by
 induction x using Quotient.inductionOn
 induction y using Quotient.inductionOn
 exact snd fun n=>by
  simp only[RL.add,RL.neg,RL.const]
  grind
theorem aag(x y:RE)(h1:0<x)(h2:y<0):0<x-y:=jh.1 fun hg=>far (bu (bu (bW h1) (le_of_lt (bW h2))) (a9 hg)) (Rs x y)
theorem OL(x y:RE):((0-(x)))+((y-(0)))+((x-y-(0)))=0:=by
 induction x using Quotient.inductionOn
 induction y using Quotient.inductionOn
 exact snd fun n=>by
  simp only[RL.add,RL.neg,RL.const]
  grind
theorem aaw(x y:RE)(h1:x<0)(h2:0<y):x-y<0:=jh.1 fun hg=>far (bu (bu (bW h1) (le_of_lt (bW h2))) (a9 hg)) (OL x y)
theorem Ta(x y:RE):((x-(0)))+((y-(0)))+((0-(x+y)))=0:=by
 induction x using Quotient.inductionOn
 induction y using Quotient.inductionOn
 exact snd fun n=>by
  simp only[RL.add,RL.neg,RL.const]
  grind
theorem aaZ(x y:RE)(h1:0<x)(h2:0<y):0<x+y:=jh.1 fun hg=>far (bu (bu (bW h1) (le_of_lt (bW h2))) (a9 hg)) (Ta x y)
theorem pK(x y:RE):sg (x*y)=sg x*sg y:=by
 rcases iC x with⟨h,e⟩|⟨h,e⟩|⟨h,e⟩<;>rw[e]
 ·rcases iC y with⟨h',e'⟩|⟨h',e'⟩|⟨h',e'⟩<;>rw[e']
  ·exact jW (mul_pos h h')
  ·rw[h',mul_zero,mr];rfl
  ·exact qB (Vx _ _ h h')
 ·rw[h,zero_mul,mr];omega
 ·rcases iC y with⟨h',e'⟩|⟨h',e'⟩|⟨h',e'⟩<;>rw[e']
  ·rw[mul_comm];exact qB (Vx _ _ h' h)
  ·rw[h',mul_zero,mr];rfl
  ·have:=mul_pos (Sw h) (Sw h')
   rw[neg_mul,mul_neg,neg_neg]at this
   exact jW this
theorem sg_of(q:Rat):sg (of q)=aQ q 0:=by
 rcases(by grind:q<0∨q=0∨0<q)with h|h|h
 ·rw[cO h];exact qB (lV h)
 ·rw[h,cY];exact mr
 ·rw[cH h];exact jW (lV h)
def addS(s t d:Int):Int:=bif t==0||s==t then s else bif s==0 then t else s*d
theorem Om(x y:RE):sg (x+y)=addS (sg x) (sg y) (sg (x*x-y*y)):=by
 rw[←aaK,pK]
 rcases iC x with⟨h,e⟩|⟨h,e⟩|⟨h,e⟩<;>rw[e]
 ·rcases iC y with⟨h',e'⟩|⟨h',e'⟩|⟨h',e'⟩<;>rw[e']
  ·exact jW (aaZ _ _ h h')
  ·rw[h',add_zero,e];rfl
  ·rw[jW (aag _ _ h h')]
   show _=1*(_*1)
   omega
 ·rcases iC y with⟨h',e'⟩|⟨h',e'⟩|⟨h',e'⟩<;>rw[e',h,zero_add,e']<;>rfl
 ·rcases iC y with⟨h',e'⟩|⟨h',e'⟩|⟨h',e'⟩<;>rw[e']
  ·rw[qB (aaw _ _ h h')]
   show _= -1*(_* -1)
   omega
  ·rw[h',add_zero,e];rfl
  ·exact qB (Z7 _ _ h h')
end RE
end Go.Proofs.YtlahabkjhgkkjaaGreat
namespace Go.Proofs.YtlahabkjhgkkjaaGreat
open Go.RowKit
def qb:Nat→Nat→Nat
 |0,_=>0
 |f+1,n=>bif decide (n=0)then 0 else bif decide ((2*qb f (n/4)+1)*(2*qb f (n/4)+1)≤n)then 2*qb f (n/4)+1 else 2*qb f (n/4)
def AM(n:Nat):Nat:=qb (n.log2+1) n
theorem IX:∀(f n:Nat),n<2^f→qb f n*qb f n≤n∧n<(qb f n+1)*(qb f n+1)
 |0,n,h=>by
  have:n=0:=by simpa using h
  subst this
  exact⟨Nat.le_refl _,by decide⟩
 |f+1,n,h=>by
  rcases Nat.eq_zero_or_pos n with h0|h0
  ·subst h0
   show qb (f+1) 0*qb (f+1) 0≤0∧_
   exact⟨Nat.le_refl _,by show 0<(0+1)*(0+1);decide⟩
  ·have h4:n/4<2^f:=by
    rw[Nat.pow_succ]at h
    omega
   obtain⟨h1,h2⟩:=IX f (n/4) h4
   simp only[qb]
   rw[decide_eq_false (show ¬n=0 by omega)]
   generalize qb f (n/4)=s at h1 h2
   have e1:(2*s)*(2*s)=4*(s*s):=by grind
   have e2:(2*s+1+1)*(2*s+1+1)=4*((s+1)*(s+1)):=by grind
   by_cases hc:(2*s+1)*(2*s+1)≤n
   ·rw[decide_eq_true hc]
    exact⟨hc,by show n<(2*s+1+1)*(2*s+1+1);rw[e2];omega⟩
   ·rw[decide_eq_false hc]
    exact⟨by show(2*s)*(2*s)≤n;rw[e1];omega,by show n<(2*s+1)*(2*s+1);omega⟩
theorem Yv(n:Nat):AM n*AM n≤n∧n<(AM n+1)*(AM n+1):=IX _ n Nat.lt_log2_self
def bG(z:Int):Int:=(AM z.toNat:Int)
theorem er{z:Int}(h:0≤z):0≤bG z∧bG z*bG z≤z∧z<(bG z+1)*(bG z+1):=by
 obtain⟨h1,h2⟩:=Yv z.toNat
 unfold bG
 have h3:((AM z.toNat*AM z.toNat:Nat):Int)≤(z.toNat:Int):=by omega
 have h4:(z.toNat:Int)<(((AM z.toNat+1)*(AM z.toNat+1):Nat):Int):=by omega
 rw[Int.natCast_mul]at h3 h4
 exact⟨by omega,by omega,by simp only[Int.natCast_add,Int.natCast_one]at h4;omega⟩
theorem n3{a b:Int}(ha:0≤a)(h:a≤b):a*a≤b*b:=Int.mul_le_mul h h ha (by omega)
theorem sq_lt{a b:Int}(hb:0≤b)(h:a*a<b*b):a<b:=by
 apply Classical.byContradiction
 intro hc
 have:=n3 hb (show b≤a by omega)
 omega
theorem YR{z s:Int}(h0:0≤s)(h1:s*s≤z)(h2:z<(s+1)*(s+1)):bG z=s:=by
 obtain⟨g0,g1,g2⟩:=er (show 0≤z by have:=n3 (a:=0) (by omega) h0;omega)
 have a1:=sq_lt (b:=s+1) (a:=bG z) (by omega) (by omega)
 have a2:=sq_lt (b:=bG z+1) (a:=s) (by omega) (by omega)
 omega
theorem Pz{a x s:Int}(hx:0<x)(_hs:0≤s)(h1:s*s≤a):s≤(x+a/x)/2:=by
 have hq:=Int.mul_ediv_add_emod a x
 have hm:=Int.emod_lt_of_pos a hx
 apply Classical.byContradiction
 intro hc
 have h2:a/x≤2*s-x-1:=by omega
 have h3:x*(a/x)≤x*(2*s-x-1):=Int.mul_le_mul_of_nonneg_left h2 (by omega)
 have h4:0≤(s-x)*(s-x):=by
  rcases Int.le_total 0 (s-x)with h|h
  ·exact Int.mul_nonneg h h
  ·exact Int.mul_nonneg_of_nonpos_of_nonpos h h
 grind
theorem rN{a x s:Int}(hx:0<x)(hs:s≤x)(_h1:s*s≤a)(h2:a<(s+1)*(s+1))(h3:0≤s)(h:x≤(x+a/x)/2):x=s:=by
 have hq:=Int.mul_ediv_add_emod a x
 have hm:=Int.emod_nonneg a (show x≠0 by omega)
 have h4:x≤a/x:=by omega
 have h5:x*x≤x*(a/x):=Int.mul_le_mul_of_nonneg_left h4 (by omega)
 have:=sq_lt (a:=x) (b:=s+1) (by omega) (by omega)
 omega
def dU(x:BI):BI:=bif x.1 then(false,[])else ag (bG (ab x))
def nS(x:BI):Int:=bif x.1 then 7 else 0
def kq:Env:=[(160,kA),(183,lQ),(222,kx),(226,qj),(287,tD)]
theorem t9:EnvAll Tryz.prog kq:=⟨iG,j8,io,ou,rU,trivial⟩
def GY:NT:=[((288,25),{keep:=[1,2,5,6],hl:=6})]
noncomputable def vK:Ctx:=⟨Tryz.prog,ft,tys,kq,GY⟩
def gZ(x:Bool×List Int)(b4_0:Bool)(b4_1:List Int):Cfg:=⟨288,[.blk 0],[(1,.box 0 0),(2,.box 1 0),(5,.box 4 0),(6,.box 5 0)],[.box 33 [SB x.1,.d (.sl (.int .u32)) x.2],.box 33 [SB false,.nil],.gone,.row 183 (.int .u32) ([1]),.box 33 [SB b4_0,.d (.sl (.int .u32)) b4_1],.box 33 [SB ((ag (2:Int)).1),.d (.sl (.int .u32)) ((ag (2:Int)).2)]],0,[]⟩
noncomputable def wB(k:KT)(x:Bool×List Int):Option (List RV):=match x.1 with|true=>some [RV.d (.st (.pair .bool (.sl (.int .u32)))) (false,[]),RV.d (.int .i64) 7]|false=>(match(x.2.length:Int)==0 with|true=>some [RV.d (.st (.pair .bool (.sl (.int .u32)))) (false,[]),RV.d (.int .i64) 0]|false=>(match decide ((0:Int)≤IntKind.i64.wrap (Int.tdiv (IntKind.i64.wrap ((x.2.length:Int)+1)) 2)∧(IntKind.i64.wrap (Int.tdiv (IntKind.i64.wrap ((x.2.length:Int)+1)) 2))*((4:Nat):Int)≤140737488355328∧IntKind.i64.wrap (Int.tdiv (IntKind.i64.wrap ((x.2.length:Int)+1)) 2)≤140737488355328)with|true=>(match decide (((List.replicate (IntKind.i64.wrap (Int.tdiv (IntKind.i64.wrap ((x.2.length:Int)+1)) 2)).toNat (0:Int)).length+([1]).length)*4≤140737488355328∧(List.replicate (IntKind.i64.wrap (Int.tdiv (IntKind.i64.wrap ((x.2.length:Int)+1)) 2)).toNat (0:Int)).length+([1]).length≤140737488355328)with|true=>(match decide (a8 ((List.replicate (IntKind.i64.wrap (Int.tdiv (IntKind.i64.wrap ((x.2.length:Int)+1)) 2)).toNat (0:Int))++([1])))with|true=>(match decide (bh (2:Int))with|true=>k 25 (gZ x ((ag (bV false (val ((List.replicate (IntKind.i64.wrap (Int.tdiv (IntKind.i64.wrap ((x.2.length:Int)+1)) 2)).toNat (0:Int))++([1]))))).1) ((ag (bV false (val ((List.replicate (IntKind.i64.wrap (Int.tdiv (IntKind.i64.wrap ((x.2.length:Int)+1)) 2)).toNat (0:Int))++([1]))))).2))|false=>none)|false=>none)|false=>none)|false=>none))
theorem Ow(x:Bool×List Int){rX:List RV}(hX:∃nX,wB (vK.k nX) x=some rX):vK.Res 288 [.d (.st (.pair .bool (.sl (.int .u32)))) x] rX:=aO (t:=fun k=>wB k x) (fun k=>show go2 Tryz.prog ft tys kq GY k 4000 (az 288 [.d (.st (.pair .bool (.sl (.int .u32)))) x]) (.node 0)=wB k x by kernel_rfl) hX
noncomputable def kj(k:KT)(x:Bool×List Int)(b4_0:Bool)(b4_1:List Int):Option (List RV):=match decide (dK x (b4_0,b4_1))with|true=>cA (match decide (okI (b4_0,b4_1)∧okI (ag (ab x/ab (b4_0,b4_1))))with|true=>cA (match decide (dK (ag (ab (b4_0,b4_1)+ab (ag (ab x/ab (b4_0,b4_1))))) (ag (2:Int)))with|true=>dup (.b .l .l) (match decide (okI (ag (ab (ag (ab (b4_0,b4_1)+ab (ag (ab x/ab (b4_0,b4_1)))))/ab (ag (2:Int))))∧okI (b4_0,b4_1))with|true=>(match decide ((b8 (ab (ag (ab (ag (ab (b4_0,b4_1)+ab (ag (ab x/ab (b4_0,b4_1)))))/ab (ag (2:Int))))) (ab (b4_0,b4_1)))≥0)with|true=>some [RV.d (.st (.pair .bool (.sl (.int .u32)))) (b4_0,b4_1),RV.d (.int .i64) 0]|false=>k 25 (gZ x ((ag (ab (ag (ab (b4_0,b4_1)+ab (ag (ab x/ab (b4_0,b4_1)))))/ab (ag (2:Int)))).1) ((ag (ab (ag (ab (b4_0,b4_1)+ab (ag (ab x/ab (b4_0,b4_1)))))/ab (ag (2:Int)))).2)))|false=>none)|false=>none) (dup (.b (.b .l .l) (.b .l .l)) (match decide (dK (ag (ab (b4_0,b4_1)+ab (ag (ab x/ab (b4_0,b4_1))))) (ag (2:Int)))with|true=>(match decide (okI (ag (ab (ag (ab (b4_0,b4_1)+ab (ag (ab x/ab (b4_0,b4_1)))))/ab (ag (2:Int))))∧okI (b4_0,b4_1))with|true=>(match decide ((b8 (ab (ag (ab (ag (ab (b4_0,b4_1)+ab (ag (ab x/ab (b4_0,b4_1)))))/ab (ag (2:Int))))) (ab (b4_0,b4_1)))≥0)with|true=>some [RV.d (.st (.pair .bool (.sl (.int .u32)))) (b4_0,b4_1),RV.d (.int .i64) 0]|false=>k 25 (gZ x ((ag (ab (ag (ab (b4_0,b4_1)+ab (ag (ab x/ab (b4_0,b4_1)))))/ab (ag (2:Int)))).1) ((ag (ab (ag (ab (b4_0,b4_1)+ab (ag (ab x/ab (b4_0,b4_1)))))/ab (ag (2:Int)))).2)))|false=>none)|false=>none))|false=>none) (dup (.b .l .l) (cA (match decide (okI (b4_0,b4_1)∧okI (ag (ab x/ab (b4_0,b4_1))))with|true=>dup (.b .l .l) (match decide (dK (ag (ab (b4_0,b4_1)+ab (ag (ab x/ab (b4_0,b4_1))))) (ag (2:Int)))with|true=>(match decide (okI (ag (ab (ag (ab (b4_0,b4_1)+ab (ag (ab x/ab (b4_0,b4_1)))))/ab (ag (2:Int))))∧okI (b4_0,b4_1))with|true=>(match decide ((b8 (ab (ag (ab (ag (ab (b4_0,b4_1)+ab (ag (ab x/ab (b4_0,b4_1)))))/ab (ag (2:Int))))) (ab (b4_0,b4_1)))≥0)with|true=>some [RV.d (.st (.pair .bool (.sl (.int .u32)))) (b4_0,b4_1),RV.d (.int .i64) 0]|false=>k 25 (gZ x ((ag (ab (ag (ab (b4_0,b4_1)+ab (ag (ab x/ab (b4_0,b4_1)))))/ab (ag (2:Int)))).1) ((ag (ab (ag (ab (b4_0,b4_1)+ab (ag (ab x/ab (b4_0,b4_1)))))/ab (ag (2:Int)))).2)))|false=>none)|false=>none)|false=>none) (match decide (okI (b4_0,b4_1)∧okI (ag (ab x/ab (b4_0,b4_1))))with|true=>(match decide (dK (ag (ab (b4_0,b4_1)+ab (ag (ab x/ab (b4_0,b4_1))))) (ag (2:Int)))with|true=>(match decide (okI (ag (ab (ag (ab (b4_0,b4_1)+ab (ag (ab x/ab (b4_0,b4_1)))))/ab (ag (2:Int))))∧okI (b4_0,b4_1))with|true=>(match decide ((b8 (ab (ag (ab (ag (ab (b4_0,b4_1)+ab (ag (ab x/ab (b4_0,b4_1)))))/ab (ag (2:Int))))) (ab (b4_0,b4_1)))≥0)with|true=>some [RV.d (.st (.pair .bool (.sl (.int .u32)))) (b4_0,b4_1),RV.d (.int .i64) 0]|false=>k 25 (gZ x ((ag (ab (ag (ab (b4_0,b4_1)+ab (ag (ab x/ab (b4_0,b4_1)))))/ab (ag (2:Int)))).1) ((ag (ab (ag (ab (b4_0,b4_1)+ab (ag (ab x/ab (b4_0,b4_1)))))/ab (ag (2:Int)))).2)))|false=>none)|false=>none)|false=>none)))|false=>none
theorem wx(x:Bool×List Int)(b4_0:Bool)(b4_1:List Int){rX:List RV}(hX:∃nX,kj (vK.k nX) x b4_0 b4_1=some rX):vK.Runs 25 (gZ x b4_0 b4_1) rX:=em (t:=fun k=>kj k x b4_0 b4_1) (fun k=>show go2 Tryz.prog ft tys kq GY k 4000 {gZ x b4_0 b4_1 with K:=.lp 25::(gZ x b4_0 b4_1).K} (.node 26)=kj k x b4_0 b4_1 by kernel_rfl) hX
def Ea:NT:=[((295,16),{keep:=[1,4,5],hl:=1})]
noncomputable def wF:Ctx:=⟨Tryz.prog,ft,tys,kq,Ea⟩
def mB(x:Bool×List Int)(s4:Int)(s5:Int):Cfg:=⟨295,[.blk 0,.seq 27],[(1,.box 0 0),(4,.d (.int .u64) s4),(5,SI s5)],[.box 33 [SB x.1,.d (.sl (.int .u32)) x.2]],0,[]⟩
noncomputable def vp(k:KT)(x:Bool×List Int):Option (List RV):=match decide (bh ((-9223372036854775808):Int))with|true=>(match decide (okI x∧okI (ag ((-9223372036854775808):Int)))with|true=>dup (.b .l .l) (match decide ((b8 (ab x) (ab (ag ((-9223372036854775808):Int))))<0)with|true=>some [RV.d (.int .i64) 0,RV.d .bool false]|false=>(match decide (bh (9223372036854775807:Int))with|true=>(match decide (okI x∧okI (ag (9223372036854775807:Int)))with|true=>(match decide ((b8 (ab x) (ab (ag (9223372036854775807:Int))))>0)with|true=>some [RV.d (.int .i64) 0,RV.d .bool false]|false=>k 16 (mB x 0 (IntKind.i64.wrap ((x.2.length:Int)-1))))|false=>none)|false=>none))|false=>none)|false=>none
theorem S8(x:Bool×List Int){rX:List RV}(hX:∃nX,vp (wF.k nX) x=some rX):wF.Res 295 [.d (.st (.pair .bool (.sl (.int .u32)))) x] rX:=aO (t:=fun k=>vp k x) (fun k=>show go2 Tryz.prog ft tys kq Ea k 4000 (az 295 [.d (.st (.pair .bool (.sl (.int .u32)))) x]) (.node 0)=vp k x by kernel_rfl) hX
noncomputable def jJ(k:KT)(x:Bool×List Int)(s4:Int)(s5:Int):Option (List RV):=match decide (s5≥0)with|true=>(match bw x.2 s5 with|some x1=>k 16 (mB x (IntKind.u64.wrap ((IntKind.u64.wrap (s4*1000000000))+(IntKind.u64.wrap x1))) (IntKind.i64.wrap (s5-1)))|none=>none)|false=>(match x.1 with|true=>some [RV.d (.int .i64) (IntKind.i64.wrap (IntKind.u64.wrap (0-s4))),RV.d .bool true]|false=>some [RV.d (.int .i64) (IntKind.i64.wrap s4),RV.d .bool true])
theorem wr(x:Bool×List Int)(s4:Int)(s5:Int){rX:List RV}(hX:∃nX,jJ (wF.k nX) x s4 s5=some rX):wF.Runs 16 (mB x s4 s5) rX:=em (t:=fun k=>jJ k x s4 s5) (fun k=>show go2 Tryz.prog ft tys kq Ea k 4000 {mB x s4 s5 with K:=.lp 16::(mB x s4 s5).K} (.node 17)=jJ k x s4 s5 by kernel_rfl) hX
theorem Ui(x:BI)(hx:okI x)(h0:0<ab x):∀(m:Nat) (X:Int),X.toNat=m→0<X→bG (ab x)≤X→szI X≤900000→vK.Runs 25 (gZ x (ag X).1 (ag X).2) [.d (.st (.pair .bool (.sl (.int .u32)))) (ag (bG (ab x))),.d (.int .i64) 0]:=by
 intro m
 induction m using Nat.strongRecOn with
 |ind m ih=>
  intro X hm hX hs hsz
  obtain⟨g0,g1,g2⟩:=er (Int.le_of_lt h0)
  have hq0:0≤ab x/X:=Int.ediv_nonneg (by omega) (by omega)
  have hq1:ab x/X≤ab x:=Int.ediv_le_self _ (by omega)
  have oX:okI (ag X):=bj (by omega)
  have sq:szI (ab x/X)≤1000000:=Nat.le_trans (cS (by omega)) (ge hx)
  have p1:dK x (ag X):=⟨hx,oX,by rw[dec_enc];exact hX⟩
  have ssum:szI (X+ab x/X)≤1000000:=by
   have b1:=kv hsz
   have b2:=kv (ge hx)
   have e:pw 1000000=pw 900000*pw 100000:=by rw[←dV]
   have p9:(1000:Int)≤pw 100000:=by
    have:pw 100000=pw 99999*1000000000:=bZ 99999
    have:=bR 99999
    omega
   have p8:=bR 900000
   have h8:pw 900000*1000≤pw 900000*pw 100000:=Int.mul_le_mul_of_nonneg_left p9 (by omega)
   rcases Int.lt_or_le X 2 with hX1|hX1
   ·-- X=1:then the number is less than 4
    have:X=1:=by omega
    subst this
    have:bG (ab x)≤1:=hs
    have h4:ab x<4:=by
     have:=n3 (a:=bG (ab x)+1) (b:=2) (by omega) (by omega)
     omega
    refine dW ?_ ?_<;>(rw[e,Int.ediv_one];omega)
   ·have hq2:ab x/X≤ab x/2:=by
     have:=Int.ediv_mul_le (ab x) (show X≠0 by omega)
     have h2:ab x/X*2≤ab x/X*X:=Int.mul_le_mul_of_nonneg_left hX1 hq0
     omega
    refine dW ?_ ?_<;>(rw[e]at b2 ⊢;omega)
  have o1:okI (ag X)∧okI (ag (ab x/X)):=⟨oX,bj sq⟩
  have p2:dK (ag (X+ab x/X)) (ag 2):=⟨bj ssum,by decide,by rw[dec_enc];decide⟩
  have hn:=Pz hX g0 g1
  have o2:okI (ag ((X+ab x/X)/2))∧okI (ag X):=⟨bj (Nat.le_trans (cS (by omega)) ssum),oX⟩
  by_cases hc:X≤(X+ab x/X)/2
  ·have hXs:=rN hX hs g1 g2 g0 hc
   refine wx _ _ _ ⟨0,?_⟩
   unfold kj
   simp only[am,aJ]
   have e:∀z:Int,((ag z).1,(ag z).2)=ag z:=fun z=>rfl
   simp only[e,dec_enc,decide_eq_true p1,decide_eq_true o1,decide_eq_true p2,decide_eq_true o2]
   have hg:decide (b8 ((X+ab x/X)/2) X≥0)=true:=by
    rcases Int.lt_or_eq_of_le hc with h|h
    ·rw[cz h];rfl
    ·rw[←h,cV];rfl
   rw[hg,hXs]
  ·obtain⟨n,hN⟩:=ih ((X+ab x/X)/2).toNat (by omega) ((X+ab x/X)/2) rfl (by
    rcases Int.lt_or_le 0 (bG (ab x))with h|h
    ·omega
    ·exfalso
     have:bG (ab x)=0:=by omega
     rw[this]at g2
     omega) hn (Nat.le_trans (cS (by omega)) hsz)
   refine wx _ _ _ ⟨n,?_⟩
   unfold kj
   simp only[am,aJ]
   have e:∀z:Int,((ag z).1,(ag z).2)=ag z:=fun z=>rfl
   simp only[e,dec_enc,decide_eq_true p1,decide_eq_true o1,decide_eq_true p2,decide_eq_true o2]
   rw[cF (by omega)]
   exact hN
theorem YV(x:Bool×List Int)(h:okI x):Con Tryz.prog 288 [.d (.st (.pair .bool (.sl (.int .u32)))) x] [.d (.st (.pair .bool (.sl (.int .u32)))) (dU x),.d (.int .i64) (nS x)]:=by
 refine Ctx.Res.con (C:=vK) (au t9) ?_ (fn:=Tryz.f288) (by kernel_rfl) (by kernel_rfl)
 obtain⟨x0,x1,x2⟩:=cg h
 have hl:=h.2.2
 cases hn:x.1
 ·by_cases hz:x.2=[]
  ·refine Ow _ ⟨0,?_⟩
   unfold wB dU nS
   have:ab x=0:=by unfold ab;rw[hn,hz];rfl
   rw[hn,hz,this]
   rfl
  ·have hp:0<val x.2:=dp h.1 hz
   have hd:ab x=val x.2:=by unfold ab;rw[hn];rfl
   have hlen:=List.length_pos_iff.2 hz
   have hk:IntKind.i64.wrap (Int.tdiv (IntKind.i64.wrap ((x.2.length:Int)+1)) 2)=(((x.2.length+1)/2:Nat):Int):=by
    rw[cI (by omega),eN (by omega),bk (by omega) (by omega)]
    omega
   have hv:val (List.replicate ((x.2.length+1)/2) 0++[1])=pw ((x.2.length+1)/2):=by
    rw[cT,eU,List.length_replicate]
    simp[val]
   have hL:a8 (List.replicate ((x.2.length+1)/2) 0++[1]):=by
    refine⟨fun y hy=>?_,by simp;omega⟩
    rcases List.mem_append.1 hy with hy|hy
    ·have:=List.eq_of_mem_replicate hy;omega
    ·simp at hy;omega
   have hpos:=bR ((x.2.length+1)/2)
   obtain⟨n,hN⟩:=Ui x h (by omega) _ (pw ((x.2.length+1)/2)) rfl hpos (by
     obtain⟨g0,g1,g2⟩:=er (show 0≤ab x by omega)
     have hlt:=bQ h.1.1
     have hm:=cM (show x.2.length≤(x.2.length+1)/2+(x.2.length+1)/2 by omega)
     rw[dV]at hm
     have:=sq_lt (a:=bG (ab x)) (b:=pw ((x.2.length+1)/2)) (by omega) (by omega)
     omega) (dW (k:=900000) (by have:=bR 900000;omega) (by
      have:=cM (show(x.2.length+1)/2+1≤900000 by omega)
      rw[bZ]at this
      omega))
   refine Ow _ ⟨n,?_⟩
   unfold wB dU nS
   simp only[hk]
   rw[hn,show((x.2.length:Int)==0)=false by simp;omega]
   simp only[Int.toNat_natCast]
   rw[decide_eq_true (show(0:Int)≤(((x.2.length+1)/2:Nat):Int)∧(((x.2.length+1)/2:Nat):Int)*((4:Nat):Int)≤140737488355328∧(((x.2.length+1)/2:Nat):Int)≤140737488355328 by omega)]
   rw[decide_eq_true (show((List.replicate ((x.2.length+1)/2) (0:Int)).length+([1]:List Nat).length)*4≤140737488355328∧(List.replicate ((x.2.length+1)/2) (0:Int)).length+([1]:List Nat).length≤140737488355328 by simp;omega)]
   rw[decide_eq_true hL,decide_eq_true (show bh 2 by decide),hv]
   exact hN
 ·refine Ow _ ⟨0,?_⟩
  unfold wB dU nS
  rw[hn]
  rfl
theorem Dr(x:BI)(hx:okI x)(hv:val x.2≤9223372036854775808):∀(i:Nat),i≤x.2.length→wF.Runs 16 (mB x (val (x.2.drop i)) ((i:Int)-1)) [.d (.int .i64) (IntKind.i64.wrap (bif x.1 then IntKind.u64.wrap (0-val x.2)else val x.2)),.d .bool true]
 |0,_=>by
  refine wr _ _ _ ⟨0,?_⟩
  unfold jJ
  rw[decide_eq_false (by omega),List.drop_zero]
  cases x.1<;>rfl
 |i+1,hi=>by
  obtain⟨n,ih⟩:=Dr x hx hv i (by omega)
  have h0:=hx.2.2
  have hlim:=hx.1.1
  have hd:x.2.drop i=x.2[i]::x.2.drop (i+1):=ka (by omega)
  have hle:∀j,val (x.2.drop j)≤9223372036854775808∧0≤val (x.2.drop j):=fun j=>by
   have l1:Lim (x.2.drop j):=fun y hy=>hlim y (List.mem_of_mem_drop hy)
   have l2:Lim (x.2.take j):=fun y hy=>hlim y (List.mem_of_mem_take hy)
   have:=cT (x.2.take j) (x.2.drop j)
   rw[List.take_append_drop]at this
   have n1:=aY l1
   have n2:=aY l2
   have p:=bR (x.2.take j).length
   have:val (x.2.drop j)≤pw (x.2.take j).length*val (x.2.drop j):=by
    have:=Int.mul_le_mul_of_nonneg_right (show 1≤pw (x.2.take j).length by omega) n1
    omega
   omega
  have hb:=hlim x.2[i] (List.getElem_mem _)
  have hv1:=hle i
  have hv2:=hle (i+1)
  rw[hd]at hv1 ih
  simp only[val]at hv1 ih
  refine wr _ _ _ ⟨n,?_⟩
  unfold jJ
  rw[show(((i+1:Nat):Int)-1)=(i:Int) by omega,decide_eq_true (by omega),aB,List.getElem?_eq_getElem (by omega)]
  dsimp only
  rw[bz (x:=val (x.2.drop (i+1))*1000000000) (by omega) (by omega),bz (x:=x.2[i]) (by omega) (by omega),bz (by omega) (by omega),bk (by omega) (by omega)]
  rw[show val (x.2.drop (i+1))*1000000000+x.2[i]=x.2[i]+1000000000*val (x.2.drop (i+1)) by omega]
  exact ih
theorem XT(x:Bool×List Int)(h:okI x):Con Tryz.prog 295 [.d (.st (.pair .bool (.sl (.int .u32)))) x] [.d (.int .i64) (bif decide (bh (ab x))then ab x else 0),.d .bool (decide (bh (ab x)))]:=by
 refine Ctx.Res.con (C:=wF) (au t9) ?_ (fn:=Tryz.f295) (by kernel_rfl) (by kernel_rfl)
 obtain⟨x0,x1,x2⟩:=cg h
 have o1:okI x∧okI (ag (-9223372036854775808)):=⟨h,by decide⟩
 have o2:okI x∧okI (ag 9223372036854775807):=⟨h,by decide⟩
 have hl:=h.2.2
 by_cases h1:ab x< -9223372036854775808
 ·refine S8 _ ⟨0,?_⟩
  unfold vp
  simp only[aJ,dec_enc,decide_eq_true o1]
  rw[decide_eq_true (show bh (-9223372036854775808) by decide),cF h1,decide_eq_false (show ¬bh (ab x) from fun g=>by have:=g.1;omega)]
  rfl
 ·have c1:decide (b8 (ab x) (-9223372036854775808)<0)=false:=by
   rcases Int.lt_or_eq_of_le (show-9223372036854775808≤ab x by omega)with g|g
   ·rw[cz g];rfl
   ·rw[←g,cV];rfl
  by_cases h2:9223372036854775807<ab x
  ·refine S8 _ ⟨0,?_⟩
   unfold vp
   simp only[aJ,dec_enc,decide_eq_true o1,decide_eq_true o2]
   rw[decide_eq_true (show bh (-9223372036854775808) by decide),c1,decide_eq_true (show bh 9223372036854775807 by decide),cz h2,decide_eq_false (show ¬bh (ab x) from fun g=>by have:=g.2;omega)]
   rfl
  ·have c2:decide (b8 (ab x) 9223372036854775807>0)=false:=by
    rcases Int.lt_or_eq_of_le (show ab x≤9223372036854775807 by omega)with g|g
    ·rw[cF g];rfl
    ·rw[g,cV];rfl
   have hp:bh (ab x):=⟨by omega,by omega⟩
   have hvv:val x.2≤9223372036854775808:=by
    have g1:=hp.1
    have g2:=hp.2
    have hd:ab x=bif x.1 then-val x.2 else val x.2:=rfl
    cases hb:x.1<;>rw[hb]at hd<;>simp only[cond_true,cond_false]at hd<;>omega
   obtain⟨n,hN⟩:=Dr x h hvv x.2.length (Nat.le_refl _)
   refine S8 _ ⟨n,?_⟩
   unfold vp
   simp only[aJ,dec_enc,decide_eq_true o1,decide_eq_true o2]
   rw[decide_eq_true (show bh (-9223372036854775808) by decide),c1,decide_eq_true (show bh 9223372036854775807 by decide),c2,decide_eq_true hp]
   rw[List.drop_length]at hN
   rw[bk (by omega) (by omega)]
   refine hN.trans ?_
   have hr:IntKind.i64.wrap (bif x.1 then IntKind.u64.wrap (0-val x.2)else val x.2)=ab x:=by
    have hd:ab x=bif x.1 then-val x.2 else val x.2:=rfl
    have:=hp.1
    have:=hp.2
    cases hb:x.1<;>rw[hb]at hd<;>simp only[cond_true,cond_false]at hd ⊢
    ·rw[bk (by omega) (by omega)];omega
    ·have:=x1 hb
     rw[IntKind.wrap_u64,IntKind.wrap_i64]
     omega
   rw[hr]
   rfl
end Go.Proofs.YtlahabkjhgkkjaaGreat
namespace Go.Proofs.YtlahabkjhgkkjaaGreat
open Go.RowKit
def nt(a:List Int):Prop:=a8 a∧val a<18446744073709551616
instance (a:List Int):Decidable (nt a):=by unfold nt;infer_instance
def mW(a b:List Int):Prop:=(can a∧a.length≤1000000000)∧(can b∧b.length≤1000000000)
instance (a b:List Int):Decidable (mW a b):=by unfold mW;infer_instance
def fv(l:List Int):Prop:=Lim l∧l.length≤10000000
instance (l:List Int):Decidable (fv l):=by unfold fv;infer_instance
theorem cp{n:Nat}(h:(ac n).length≤1000000000):a8 (ac n):=⟨bT n,h⟩
theorem bO{v:Int}(h:0≤v):val (ac v.toNat)=v:=by rw[bE];omega
theorem ck{v:Int}{k:Nat}(h0:0≤v)(h:v<pw k):(ac v.toNat).length≤k:=cJ (by omega)
def fH:Env:=[]
theorem jX:EnvAll Tryz.prog fH:=trivial
def z8:NT:=[((185,4),{keep:=[0],pure_:=[(0,.int .u32)],hl:=0})]
noncomputable def qs:Ctx:=⟨Tryz.prog,ft,tys,fH,z8⟩
def mG(s0:List Int):Cfg:=⟨185,[.blk 0,.seq 13],[(0,.d (.sl (.int .u32)) s0)],[],0,[]⟩
noncomputable def Hn(k:KT)(a:List Int):Option (List RV):=k 4 (mG a)
theorem aap(a:List Int){rX:List RV}(hX:∃nX,Hn (qs.k nX) a=some rX):qs.Res 185 [.d (.sl (.int .u32)) a] rX:=aO (t:=fun k=>Hn k a) (fun k=>show go2 Tryz.prog ft tys fH z8 k 4000 (az 185 [.d (.sl (.int .u32)) a]) (.node 0)=Hn k a by kernel_rfl) hX
noncomputable def jv(k:KT)(s0:List Int):Option (List RV):=match decide ((s0.length:Int)>0)with|true=>(match bw s0 (IntKind.i64.wrap ((s0.length:Int)-1))with|some x1=>(match x1==0 with|true=>(match decide ((0:Int)≤0∧0≤IntKind.i64.wrap ((s0.length:Int)-1)∧IntKind.i64.wrap ((s0.length:Int)-1)≤(s0.length:Int))with|true=>k 4 (mG ((s0.take (IntKind.i64.wrap ((s0.length:Int)-1)).toNat).drop (0:Int).toNat))|false=>none)|false=>some [RV.d (.sl (.int .u32)) s0])|none=>none)|false=>some [RV.d (.sl (.int .u32)) s0]
theorem pk(s0:List Int){rX:List RV}(hX:∃nX,jv (qs.k nX) s0=some rX):qs.Runs 4 (mG s0) rX:=em (t:=fun k=>jv k s0) (fun k=>show go2 Tryz.prog ft tys fH z8 k 4000 {mG s0 with K:=.lp 4::(mG s0).K} (.node 5)=jv k s0 by kernel_rfl) hX
def xf:NT:=[((189,8),{keep:=[0,3,4],hl:=0})]
noncomputable def pe:Ctx:=⟨Tryz.prog,ft,tys,fH,xf⟩
def mc(a:List Int)(s3:Int)(s4:Int):Cfg:=⟨189,[.blk 0,.seq 19],[(0,.d (.sl (.int .u32)) a),(3,.d (.int .u64) s3),(4,SI s4)],[],0,[]⟩
noncomputable def yD(k:KT)(a:List Int):Option (List RV):=k 8 (mc a 0 (IntKind.i64.wrap ((a.length:Int)-1)))
theorem abY(a:List Int){rX:List RV}(hX:∃nX,yD (pe.k nX) a=some rX):pe.Res 189 [.d (.sl (.int .u32)) a] rX:=aO (t:=fun k=>yD k a) (fun k=>show go2 Tryz.prog ft tys fH xf k 4000 (az 189 [.d (.sl (.int .u32)) a]) (.node 0)=yD k a by kernel_rfl) hX
noncomputable def jY(k:KT)(a:List Int)(s3:Int)(s4:Int):Option (List RV):=match decide (s4≥0)with|true=>(match bw a s4 with|some x1=>k 8 (mc a (IntKind.u64.wrap ((IntKind.u64.wrap (s3*1000000000))+(IntKind.u64.wrap x1))) (IntKind.i64.wrap (s4-1)))|none=>none)|false=>some [RV.d (.int .u64) s3]
theorem u6(a:List Int)(s3:Int)(s4:Int){rX:List RV}(hX:∃nX,jY (pe.k nX) a s3 s4=some rX):pe.Runs 8 (mc a s3 s4) rX:=em (t:=fun k=>jY k a s3 s4) (fun k=>show go2 Tryz.prog ft tys fH xf k 4000 {mc a s3 s4 with K:=.lp 8::(mc a s3 s4).K} (.node 9)=jY k a s3 s4 by kernel_rfl) hX
def zq:NT:=[((190,6),{keep:=[0,3],own:=[(3,183,.int .u32)],hl:=1})]
noncomputable def pz:Ctx:=⟨Tryz.prog,ft,tys,fH,zq⟩
def mp(s0:Int)(r0:List Int):Cfg:=⟨190,[.blk 0,.seq 17],[(0,.d (.int .u64) s0),(3,.own 0)],[.row 183 (.int .u32) r0],0,[]⟩
noncomputable def Hu(k:KT)(u:Int):Option (List RV):=k 6 (mp u ([]))
theorem abi(u:Int){rX:List RV}(hX:∃nX,Hu (pz.k nX) u=some rX):pz.Res 190 [.d (.int .u64) u] rX:=aO (t:=fun k=>Hu k u) (fun k=>show go2 Tryz.prog ft tys fH zq k 4000 (az 190 [.d (.int .u64) u]) (.node 0)=Hu k u by kernel_rfl) hX
noncomputable def jB(k:KT)(s0:Int)(r0:List Int):Option (List RV):=match decide (s0>0)with|true=>(match decide ((r0.length+([IntKind.u32.wrap (Int.tmod s0 1000000000)]).length)*4≤140737488355328∧r0.length+([IntKind.u32.wrap (Int.tmod s0 1000000000)]).length≤140737488355328)with|true=>k 6 (mp (IntKind.u64.wrap (Int.tdiv s0 1000000000)) (r0++([IntKind.u32.wrap (Int.tmod s0 1000000000)])))|false=>none)|false=>some [RV.new 183 (.int .u32) r0]
theorem vL(s0:Int)(r0:List Int){rX:List RV}(hX:∃nX,jB (pz.k nX) s0 r0=some rX):pz.Runs 6 (mp s0 r0) rX:=em (t:=fun k=>jB k s0 r0) (fun k=>show go2 Tryz.prog ft tys fH zq k 4000 {mp s0 r0 with K:=.lp 6::(mp s0 r0).K} (.node 7)=jB k s0 r0 by kernel_rfl) hX
def AN:NT:=[((186,22),{keep:=[0,1,5],hl:=0})]
noncomputable def qp:Ctx:=⟨Tryz.prog,ft,tys,fH,AN⟩
def jm(a:List Int)(b:List Int)(s5:Int):Cfg:=⟨186,[.blk 0,.seq 47],[(0,.d (.sl (.int .u32)) a),(1,.d (.sl (.int .u32)) b),(5,SI s5)],[],0,[]⟩
noncomputable def r7(k:KT)(a:List Int)(b:List Int):Option (List RV):=match(a.length:Int) !=(b.length:Int)with|true=>(match decide ((a.length:Int)<(b.length:Int))with|true=>some [RV.d (.int .i64) (-1)]|false=>some [RV.d (.int .i64) 1])|false=>k 22 (jm a b (IntKind.i64.wrap ((a.length:Int)-1)))
theorem NK(a:List Int)(b:List Int){rX:List RV}(hX:∃nX,r7 (qp.k nX) a b=some rX):qp.Res 186 [.d (.sl (.int .u32)) a,.d (.sl (.int .u32)) b] rX:=aO (t:=fun k=>r7 k a b) (fun k=>show go2 Tryz.prog ft tys fH AN k 4000 (az 186 [.d (.sl (.int .u32)) a,.d (.sl (.int .u32)) b]) (.node 0)=r7 k a b by kernel_rfl) hX
noncomputable def fa(k:KT)(a:List Int)(b:List Int)(s5:Int):Option (List RV):=match decide (s5≥0)with|true=>(match bw a s5 with|some x1=>(match bw b s5 with|some x2=>(match decide (x1<x2)with|true=>some [RV.d (.int .i64) (-1)]|false=>(match bw a s5 with|some x3=>(match bw b s5 with|some x4=>(match decide (x3>x4)with|true=>some [RV.d (.int .i64) 1]|false=>k 22 (jm a b (IntKind.i64.wrap (s5-1))))|none=>none)|none=>none))|none=>none)|none=>none)|false=>some [RV.d (.int .i64) 0]
theorem kM(a:List Int)(b:List Int)(s5:Int){rX:List RV}(hX:∃nX,fa (qp.k nX) a b s5=some rX):qp.Runs 22 (jm a b s5) rX:=em (t:=fun k=>fa k a b s5) (fun k=>show go2 Tryz.prog ft tys fH AN k 4000 {jm a b s5 with K:=.lp 22::(jm a b s5).K} (.node 23)=fa k a b s5 by kernel_rfl) hX
theorem Ni(l:List Int)(hl:Lim l)(hs:l.length≤1000000000):∀(n:Nat),n≤l.length→(∀j (hj:j<l.length),n≤j→l[j]=0)→qs.Runs 4 (mG (l.take n)) [.d (.sl (.int .u32)) (ac (val l).toNat)]:=by
 intro n
 induction n with
 |zero=>
  intro _ h
  refine pk _ ⟨0,?_⟩
  rw[←jR hl (Nat.zero_le _) h (.inl rfl)]
  rfl
 |succ n ih=>
  intro hn h
  have hlen:(l.take (n+1)).length=n+1:=by rw[List.length_take,Nat.min_eq_left hn]
  have hget:(l.take (n+1))[n]?=some l[n]:=by rw[List.getElem?_take_of_lt (by omega),List.getElem?_eq_getElem (by omega)]
  by_cases hz:l[n]=0
  ·obtain⟨q,hq⟩:=ih (by omega) fun j hj hk=>by
    rcases Nat.eq_or_lt_of_le hk with e|e
    ·subst e;exact hz
    ·exact h j hj e
   refine pk _ ⟨q,?_⟩
   unfold jv
   rw[hlen,decide_eq_true (by omega),MS (by omega) (by omega),aB,show n+1-1=n from rfl,hget]
   dsimp only
   rw[hz,decide_eq_true (show(0:Int)≤0∧(0:Int)≤(n:Int)∧(n:Int)≤((n+1:Nat):Int) by omega),aM,List.take_take,Nat.min_eq_left (by omega)]
   exact hq
  ·refine pk _ ⟨0,?_⟩
   unfold jv
   rw[hlen,decide_eq_true (by omega),MS (by omega) (by omega),aB,show n+1-1=n from rfl,hget]
   dsimp only
   rw[show(l[n]==0)=false by simpa using hz,←jR hl hn h (.inr ⟨Nat.lt_of_succ_le hn,hz⟩)]
theorem NY(a:List Int)(h:a8 a):Con Tryz.prog 185 [.d (.sl (.int .u32)) a] [.d (.sl (.int .u32)) (ac (val a).toNat)]:=by
 refine Ctx.Res.con (C:=qs) (au jX) ?_ (fn:=Tryz.f185) (by kernel_rfl) (by kernel_rfl)
 obtain⟨q,hq⟩:=Ni a h.1 h.2 a.length (Nat.le_refl _) (fun j hj hk=>by omega)
 rw[List.take_length]at hq
 exact aap _ ⟨q,hq⟩
theorem LQ(u:Nat):∀(r:List Int),(u:Int)<18446744073709551616→r.length+3≤1000+3-(ac u).length→pz.Runs 6 (mp (u:Int) r) [.new 183 (.int .u32) (r++ac u)]:=by
 induction u using mA with
 |h0=>
  intro r _ _
  refine vL _ _ ⟨0,?_⟩
  unfold jB
  rw[dL,List.append_nil]
  rfl
 |h1 n hn ih=>
  intro r hu hr
  rw[fo hn]at hr
  simp only[List.length_cons]at hr
  obtain⟨q,hq⟩:=ih (r++[((n%1000000000:Nat):Int)]) (by omega) (by rw[List.length_append];simp only[List.length_singleton];omega)
  refine vL _ _ ⟨q,?_⟩
  unfold jB
  rw[decide_eq_true (by omega),gJ (by omega),eN (by omega),bz (x:=(n:Int)/1000000000) (by omega) (by omega),cG (x:=(n:Int)%1000000000) (by omega) (by omega)]
  simp only[List.length_singleton]
  rw[ZU (by omega) (by omega),fo hn]
  rw[show((n:Int)%1000000000)=((n%1000000000:Nat):Int) by omega,show((n:Int)/1000000000)=((n/1000000000:Nat):Int) by omega]
  rw[List.append_assoc]at hq
  exact hq
theorem Rl(u:Int)(h:fe u):Con Tryz.prog 190 [.d (.int .u64) u] [.new 183 (.int .u32) (ac u.toNat)]:=by
 refine Ctx.Res.con (C:=pz) (au jX) ?_ (fn:=Tryz.f190) (by kernel_rfl) (by kernel_rfl)
 have h0:=h.1
 have h1:=h.2
 have hl:=cJ (n:=u.toNat) (k:=3) (Int.lt_of_lt_of_le (show(u.toNat:Int)<18446744073709551616 by omega) (by decide))
 obtain⟨q,hq⟩:=LQ u.toNat [] (by omega) (by simp;omega)
 rw[show((u.toNat:Nat):Int)=u by omega]at hq
 exact abi _ ⟨q,hq⟩
theorem wO(a:List Int)(h:nt a):∀(i:Nat),i≤a.length→pe.Runs 8 (mc a (val (a.drop i)) ((i:Int)-1)) [.d (.int .u64) (val a)]
 |0,_=>by
  refine u6 _ _ _ ⟨0,?_⟩
  unfold jY
  rw[decide_eq_false (by omega),List.drop_zero]
 |i+1,hi=>by
  obtain⟨n,ih⟩:=wO a h i (by omega)
  have h0:=h.1.2
  have hlim:=h.1.1
  have hlt:=h.2
  have hd:a.drop i=a[i]::a.drop (i+1):=ka (by omega)
  have hle:∀j,val (a.drop j)≤val a∧0≤val (a.drop j):=fun j=>by
   have l1:Lim (a.drop j):=fun y hy=>hlim y (List.mem_of_mem_drop hy)
   have l2:Lim (a.take j):=fun y hy=>hlim y (List.mem_of_mem_take hy)
   have:=cT (a.take j) (a.drop j)
   rw[List.take_append_drop]at this
   have n1:=aY l1
   have n2:=aY l2
   have p:=bR (a.take j).length
   have:val (a.drop j)≤pw (a.take j).length*val (a.drop j):=by
    have:=Int.mul_le_mul_of_nonneg_right (show 1≤pw (a.take j).length by omega) n1
    omega
   omega
  have hb:=hlim a[i] (List.getElem_mem _)
  have hv1:=hle i
  have hv2:=hle (i+1)
  rw[hd]at hv1 ih
  simp only[val]at hv1 ih
  refine u6 _ _ _ ⟨n,?_⟩
  unfold jY
  rw[show(((i+1:Nat):Int)-1)=(i:Int) by omega,decide_eq_true (by omega),aB,List.getElem?_eq_getElem (by omega)]
  dsimp only
  rw[bz (x:=val (a.drop (i+1))*1000000000) (by omega) (by omega),bz (x:=a[i]) (by omega) (by omega),bz (by omega) (by omega),bk (by omega) (by omega)]
  rw[show val (a.drop (i+1))*1000000000+a[i]=a[i]+1000000000*val (a.drop (i+1)) by omega]
  exact ih
theorem RX(a:List Int)(h:nt a):Con Tryz.prog 189 [.d (.sl (.int .u32)) a] [.d (.int .u64) (val a)]:=by
 refine Ctx.Res.con (C:=pe) (au jX) ?_ (fn:=Tryz.f189) (by kernel_rfl) (by kernel_rfl)
 obtain⟨n,hn⟩:=wO a h a.length (Nat.le_refl _)
 have h0:=h.1.2
 refine abY _ ⟨n,?_⟩
 unfold yD
 rw[List.drop_length]at hn
 rw[bk (by omega) (by omega)]
 exact hn
theorem Mr(a b:List Int)(la:Lim a)(lb:Lim b)(hl:a.length=b.length)(hs:a.length≤1000000000):∀(n:Nat),n≤a.length→a.drop n=b.drop n→
  qp.Runs 22 (jm a b ((n:Int)-1)) [.d (.int .i64) (b8 (val a) (val b))]:=by
 intro n
 induction n with
 |zero=>
  intro _ h
  refine kM _ _ _ ⟨0,?_⟩
  have e:val a=val b:=by simp only[List.drop_zero]at h;rw[h]
  unfold fa
  rw[decide_eq_false (by omega),e,cV]
 |succ n ih=>
  intro hn h
  have h1:n<a.length:=by omega
  have h2:n<b.length:=by omega
  rcases Int.lt_trichotomy a[n] b[n]with hc|hc|hc
  ·refine kM _ _ _ ⟨0,?_⟩
   have:=xk la lb h1 h2 h hc
   unfold fa
   rw[show((n+1:Nat):Int)-1=(n:Int) by omega,decide_eq_true (by omega),aB,aB,List.getElem?_eq_getElem h1,List.getElem?_eq_getElem h2]
   dsimp only
   rw[decide_eq_true hc,cF (by omega)]
  ·obtain⟨q,hq⟩:=ih (by omega) (by rw[List.drop_eq_getElem_cons h1,List.drop_eq_getElem_cons h2,hc,h])
   refine kM _ _ _ ⟨q,?_⟩
   unfold fa
   rw[show((n+1:Nat):Int)-1=(n:Int) by omega,decide_eq_true (by omega),aB,aB,List.getElem?_eq_getElem h1,List.getElem?_eq_getElem h2]
   dsimp only
   rw[decide_eq_false (by omega),decide_eq_false (by omega),bk (x:=(n:Int)-1) (by omega) (by omega)]
   exact hq
  ·refine kM _ _ _ ⟨0,?_⟩
   have:=xk lb la h2 h1 h.symm hc
   unfold fa
   rw[show((n+1:Nat):Int)-1=(n:Int) by omega,decide_eq_true (by omega),aB,aB,List.getElem?_eq_getElem h1,List.getElem?_eq_getElem h2]
   dsimp only
   rw[decide_eq_false (by omega),decide_eq_true hc,cz (by omega)]
theorem Kt{a b:List Int}(ha:can a)(hb:can b)(h:a.length<b.length):val a<val b:=by
 have ea:=lU ha
 have eb:=lU hb
 have:=rg (a:=(val a).toNat) (b:=(val b).toNat) (by rw[←ea,←eb];exact h)
 have:=aY ha.1
 omega
theorem Vw(a:List Int)(b:List Int)(h:mW a b):Con Tryz.prog 186 [.d (.sl (.int .u32)) a,.d (.sl (.int .u32)) b] [.d (.int .i64) (b8 (val a) (val b))]:=by
 refine Ctx.Res.con (C:=qp) (au jX) ?_ (fn:=Tryz.f186) (by kernel_rfl) (by kernel_rfl)
 obtain⟨⟨ha,sa⟩,hb,sb⟩:=h
 by_cases hl:a.length=b.length
 ·obtain⟨q,hq⟩:=Mr a b ha.1 hb.1 hl sa _ (Nat.le_refl _) (by rw[List.drop_length,hl,List.drop_length])
  refine NK _ _ ⟨q,?_⟩
  unfold r7
  rw[show((a.length:Int) !=(b.length:Int))=false by simp[hl],bk (x:=(a.length:Int)-1) (by omega) (by omega)]
  exact hq
 ·refine NK _ _ ⟨0,?_⟩
  unfold r7
  rw[show((a.length:Int) !=(b.length:Int))=true by simp;omega]
  dsimp only
  rcases Nat.lt_or_gt_of_ne hl with h1|h1
  ·have:=Kt ha hb h1
   rw[decide_eq_true (by omega),cF (by omega)]
  ·have:=Kt hb ha h1
   rw[decide_eq_false (by omega),cz (by omega)]
def kN:aL:=spN false false [(.sl (.int .u32))] (fun x=>decide (a8 x.1)) (fun x=>[RV.d (.sl (.int .u32)) (ac (val x.1).toNat)])
theorem jy:af Tryz.prog 185=true∧ao Tryz.prog 185 kN∧∀g,kN.mut_=some g→aK Tryz.prog 185 g:=aq (by kernel_rfl) fun x h=>NY x.1 (of_decide_eq_true h)
def mO:aL:=spN false false [(.int .u64)] (fun x=>decide (fe x.1)) (fun x=>[RV.new 183 (.int .u32) (ac x.1.toNat)])
theorem mE:af Tryz.prog 190=true∧ao Tryz.prog 190 mO∧∀g,mO.mut_=some g→aK Tryz.prog 190 g:=aq (by kernel_rfl) fun x h=>Rl x.1 (of_decide_eq_true h)
def mF:aL:=spN true false [(.sl (.int .u32))] (fun x=>decide (nt x.1)) (fun x=>[RV.d (.int .u64) (val x.1)])
theorem mv:af Tryz.prog 189=true∧ao Tryz.prog 189 mF∧∀g,mF.mut_=some g→aK Tryz.prog 189 g:=aq (by kernel_rfl) fun x h=>RX x.1 (of_decide_eq_true h)
def kL:aL:=spN true false [(.sl (.int .u32)),(.sl (.int .u32))] (fun x=>decide (mW x.1 x.2.1)) (fun x=>[RV.d (.int .i64) (b8 (val x.1) (val x.2.1))])
theorem jD:af Tryz.prog 186=true∧ao Tryz.prog 186 kL∧∀g,kL.mut_=some g→aK Tryz.prog 186 g:=aq (by kernel_rfl) fun x h=>Vw x.1 x.2.1 (of_decide_eq_true h)
def gd:Env:=(185,kN)::(190,mO)::(189,mF)::(186,kL)::fH
theorem mi:EnvAll Tryz.prog gd:=⟨jy,mE,mv,jD,jX⟩
noncomputable def GW:Ctx:=⟨Tryz.prog,ft,tys,gd,[]⟩
noncomputable def AE(_k:KT)(neg:Bool)(l:List Int):Option (List RV):=match decide (a8 l)with|true=>(match neg with|true=>some [RV.d (.st (.pair .bool (.sl (.int .u32)))) (decide (((ac (val l).toNat).length:Int)>0),ac (val l).toNat)]|false=>some [RV.d (.st (.pair .bool (.sl (.int .u32)))) (false,ac (val l).toNat)])|false=>none
theorem abd(neg:Bool)(l:List Int){rX:List RV}(hX:∃nX,AE (GW.k nX) neg l=some rX):GW.Res 188 [SB neg,.d (.sl (.int .u32)) l] rX:=aO (t:=fun k=>AE k neg l) (fun k=>show go2 Tryz.prog ft tys gd [] k 4000 (az 188 [SB neg,.d (.sl (.int .u32)) l]) (.node 0)=AE k neg l by kernel_rfl) hX
def AW:NT:=[((255,16),{keep:=[0,1,5,6,7],hl:=1})]
noncomputable def nJ:Ctx:=⟨Tryz.prog,ft,tys,gd,AW⟩
def fy(s0:List Int)(s1:List Int)(r0:List Int)(s6:Int)(s7:Int):Cfg:=⟨255,[.blk 0,.seq 37],[(0,.d (.sl (.int .u32)) s0),(1,.d (.sl (.int .u32)) s1),(5,.own 0),(6,.d (.int .u32) s6),(7,SI s7)],[.row 183 (.int .u32) r0],0,[]⟩
noncomputable def sE(k:KT)(a:List Int)(b:List Int):Option (List RV):=match decide ((a.length:Int)<(b.length:Int))with|true=>(match decide ((0:Int)≤IntKind.i64.wrap ((b.length:Int)+1)∧(IntKind.i64.wrap ((b.length:Int)+1))*((4:Nat):Int)≤140737488355328∧IntKind.i64.wrap ((b.length:Int)+1)≤140737488355328)with|true=>k 16 (fy b a (List.replicate (IntKind.i64.wrap ((b.length:Int)+1)).toNat (0:Int)) 0 0)|false=>none)|false=>(match decide ((0:Int)≤IntKind.i64.wrap ((a.length:Int)+1)∧(IntKind.i64.wrap ((a.length:Int)+1))*((4:Nat):Int)≤140737488355328∧IntKind.i64.wrap ((a.length:Int)+1)≤140737488355328)with|true=>k 16 (fy a b (List.replicate (IntKind.i64.wrap ((a.length:Int)+1)).toNat (0:Int)) 0 0)|false=>none)
theorem PL(a:List Int)(b:List Int){rX:List RV}(hX:∃nX,sE (nJ.k nX) a b=some rX):nJ.Res 255 [.d (.sl (.int .u32)) a,.d (.sl (.int .u32)) b] rX:=aO (t:=fun k=>sE k a b) (fun k=>show go2 Tryz.prog ft tys gd AW k 4000 (az 255 [.d (.sl (.int .u32)) a,.d (.sl (.int .u32)) b]) (.node 0)=sE k a b by kernel_rfl) hX
noncomputable def gi(k:KT)(s0:List Int)(s1:List Int)(r0:List Int)(s6:Int)(s7:Int):Option (List RV):=match decide (s7<(s0.length:Int))with|true=>(match bw s0 s7 with|some x1=>(match decide (s7<(s1.length:Int))with|true=>(match bw s1 s7 with|some x2=>(match bw r0 s7 with|some _=>(match true,r0[(s7).toNat]? with|true,some _=>k 16 (fy s0 s1 (r0.set ((s7).toNat) (Int.tmod (IntKind.u32.wrap ((IntKind.u32.wrap (s6+x1))+x2)) 1000000000)) (IntKind.u32.wrap (Int.tdiv (IntKind.u32.wrap ((IntKind.u32.wrap (s6+x1))+x2)) 1000000000)) (IntKind.i64.wrap (s7+1)))|_,_=>none)|none=>none)|none=>none)|false=>(match bw r0 s7 with|some _=>(match true,r0[(s7).toNat]? with|true,some _x2=>k 16 (fy s0 s1 (r0.set ((s7).toNat) (Int.tmod (IntKind.u32.wrap (s6+x1)) 1000000000)) (IntKind.u32.wrap (Int.tdiv (IntKind.u32.wrap (s6+x1)) 1000000000)) (IntKind.i64.wrap (s7+1)))|_,_=>none)|none=>none))|none=>none)|false=>(match bw r0 (s0.length:Int)with|some _=>(match true,r0[((s0.length:Int)).toNat]? with|true,some _x1=>(match decide (a8 (r0.set (((s0.length:Int)).toNat) s6))with|true=>some [RV.d (.sl (.int .u32)) (ac (val (r0.set (((s0.length:Int)).toNat) s6)).toNat)]|false=>none)|_,_=>none)|none=>none)
theorem nl(s0:List Int)(s1:List Int)(r0:List Int)(s6:Int)(s7:Int){rX:List RV}(hX:∃nX,gi (nJ.k nX) s0 s1 r0 s6 s7=some rX):nJ.Runs 16 (fy s0 s1 r0 s6 s7) rX:=em (t:=fun k=>gi k s0 s1 r0 s6 s7) (fun k=>show go2 Tryz.prog ft tys gd AW k 4000 {fy s0 s1 r0 s6 s7 with K:=.lp 16::(fy s0 s1 r0 s6 s7).K} (.node 17)=gi k s0 s1 r0 s6 s7 by kernel_rfl) hX
def zu:NT:=[((250,10),{keep:=[0,1,5,6,7],hl:=1})]
noncomputable def nd:Ctx:=⟨Tryz.prog,ft,tys,gd,zu⟩
def eM(a:List Int)(b:List Int)(s7:Int)(r0:List Int)(s6:Int):Cfg:=⟨250,[.blk 0,.seq 37],[(0,.d (.sl (.int .u32)) a),(1,.d (.sl (.int .u32)) b),(5,.own 0),(6,.d (.int .u32) s6),(7,SI s7)],[.row 183 (.int .u32) r0],0,[]⟩
noncomputable def xL(k:KT)(a:List Int)(b:List Int):Option (List RV):=match decide ((0:Int)≤(a.length:Int)∧(a.length:Int)*((4:Nat):Int)≤140737488355328∧(a.length:Int)≤140737488355328)with|true=>k 10 (eM a b 0 (List.replicate ((a.length:Int)).toNat (0:Int)) 0)|false=>none
theorem aaL(a:List Int)(b:List Int){rX:List RV}(hX:∃nX,xL (nd.k nX) a b=some rX):nd.Res 250 [.d (.sl (.int .u32)) a,.d (.sl (.int .u32)) b] rX:=aO (t:=fun k=>xL k a b) (fun k=>show go2 Tryz.prog ft tys gd zu k 4000 (az 250 [.d (.sl (.int .u32)) a,.d (.sl (.int .u32)) b]) (.node 0)=xL k a b by kernel_rfl) hX
noncomputable def dZ(k:KT)(a:List Int)(b:List Int)(s7:Int)(r0:List Int)(s6:Int):Option (List RV):=match decide (s7<(a.length:Int))with|true=>(match bw a s7 with|some x1=>(match decide (s7<(b.length:Int))with|true=>(match bw b s7 with|some x2=>(match decide ((IntKind.u32.wrap ((IntKind.u32.wrap ((IntKind.u32.wrap (x1+1000000000))-s6))-x2))≥1000000000)with|true=>(match bw r0 s7 with|some _=>(match true,r0[(s7).toNat]? with|true,some _x3=>k 10 (eM a b (IntKind.i64.wrap (s7+1)) (r0.set ((s7).toNat) (IntKind.u32.wrap ((IntKind.u32.wrap ((IntKind.u32.wrap ((IntKind.u32.wrap (x1+1000000000))-s6))-x2))-1000000000))) 0)|_,_=>none)|none=>none)|false=>(match bw r0 s7 with|some _=>(match true,r0[(s7).toNat]? with|true,some _x3=>k 10 (eM a b (IntKind.i64.wrap (s7+1)) (r0.set ((s7).toNat) (IntKind.u32.wrap ((IntKind.u32.wrap ((IntKind.u32.wrap (x1+1000000000))-s6))-x2))) 1)|_,_=>none)|none=>none))|none=>none)|false=>(match decide ((IntKind.u32.wrap ((IntKind.u32.wrap (x1+1000000000))-s6))≥1000000000)with|true=>(match bw r0 s7 with|some _=>(match true,r0[(s7).toNat]? with|true,some _x2=>k 10 (eM a b (IntKind.i64.wrap (s7+1)) (r0.set ((s7).toNat) (IntKind.u32.wrap ((IntKind.u32.wrap ((IntKind.u32.wrap (x1+1000000000))-s6))-1000000000))) 0)|_,_=>none)|none=>none)|false=>(match bw r0 s7 with|some _=>(match true,r0[(s7).toNat]? with|true,some _x2=>k 10 (eM a b (IntKind.i64.wrap (s7+1)) (r0.set ((s7).toNat) (IntKind.u32.wrap ((IntKind.u32.wrap (x1+1000000000))-s6))) 1)|_,_=>none)|none=>none)))|none=>none)|false=>(match decide (a8 r0)with|true=>some [RV.d (.sl (.int .u32)) (ac (val r0).toNat)]|false=>none)
theorem iK(a:List Int)(b:List Int)(s7:Int)(r0:List Int)(s6:Int){rX:List RV}(hX:∃nX,dZ (nd.k nX) a b s7 r0 s6=some rX):nd.Runs 10 (eM a b s7 r0 s6) rX:=em (t:=fun k=>dZ k a b s7 r0 s6) (fun k=>show go2 Tryz.prog ft tys gd zu k 4000 {eM a b s7 r0 s6 with K:=.lp 10::(eM a b s7 r0 s6).K} (.node 11)=dZ k a b s7 r0 s6 by kernel_rfl) hX
def rF:NT:=[((251,8),{keep:=[0,1,5,6],hl:=1}),((251,23),{keep:=[0,1,5,6,7,8],hl:=1})]
noncomputable def jk:Ctx:=⟨Tryz.prog,ft,tys,gd,rF⟩
def kI(a:List Int)(b:List Int)(s6:Int)(r0:List Int):Cfg:=⟨251,[.blk 0,.seq 40],[(0,.d (.sl (.int .u32)) a),(1,.d (.sl (.int .u32)) b),(5,.own 0),(6,SI s6)],[.row 183 (.int .u32) r0],0,[]⟩
def jn(a:List Int)(b:List Int)(s6:Int)(s7:Int)(s8:Int)(r0:List Int):Cfg:=⟨251,[.blk 2,.seq 38,.blk 1,.seq 39,.lp 8,.blk 0,.seq 40],[(0,.d (.sl (.int .u32)) a),(1,.d (.sl (.int .u32)) b),(5,.own 0),(6,SI s6),(7,.d (.int .u64) s7),(8,SI s8)],[.row 183 (.int .u32) r0],0,[]⟩
noncomputable def xN(k:KT)(a:List Int)(b:List Int):Option (List RV):=match decide ((0:Int)≤IntKind.i64.wrap ((a.length:Int)+(b.length:Int))∧(IntKind.i64.wrap ((a.length:Int)+(b.length:Int)))*((4:Nat):Int)≤140737488355328∧IntKind.i64.wrap ((a.length:Int)+(b.length:Int))≤140737488355328)with|true=>k 8 (kI a b 0 (List.replicate (IntKind.i64.wrap ((a.length:Int)+(b.length:Int))).toNat (0:Int)))|false=>none
theorem aak(a:List Int)(b:List Int){rX:List RV}(hX:∃nX,xN (jk.k nX) a b=some rX):jk.Res 251 [.d (.sl (.int .u32)) a,.d (.sl (.int .u32)) b] rX:=aO (t:=fun k=>xN k a b) (fun k=>show go2 Tryz.prog ft tys gd rF k 4000 (az 251 [.d (.sl (.int .u32)) a,.d (.sl (.int .u32)) b]) (.node 0)=xN k a b by kernel_rfl) hX
noncomputable def j7(k:KT)(a:List Int)(b:List Int)(s6:Int)(r0:List Int):Option (List RV):=match decide (s6<(a.length:Int))with|true=>k 23 (jn a b s6 0 0 r0)|false=>(match decide (a8 r0)with|true=>some [RV.d (.sl (.int .u32)) (ac (val r0).toNat)]|false=>none)
theorem wI(a:List Int)(b:List Int)(s6:Int)(r0:List Int){rX:List RV}(hX:∃nX,j7 (jk.k nX) a b s6 r0=some rX):jk.Runs 8 (kI a b s6 r0) rX:=em (t:=fun k=>j7 k a b s6 r0) (fun k=>show go2 Tryz.prog ft tys gd rF k 4000 {kI a b s6 r0 with K:=.lp 8::(kI a b s6 r0).K} (.node 9)=j7 k a b s6 r0 by kernel_rfl) hX
noncomputable def iA(k:KT)(a:List Int)(b:List Int)(s6:Int)(s7:Int)(s8:Int)(r0:List Int):Option (List RV):=match decide (s8<(b.length:Int))with|true=>(match bw r0 (IntKind.i64.wrap (s6+s8))with|some _=>(match true,r0[(IntKind.i64.wrap (s6+s8)).toNat]? with|true,some x1=>(match bw a s6 with|some x2=>(match bw b s8 with|some x3=>(match bw r0 (IntKind.i64.wrap (s6+s8))with|some _=>(match true,r0[(IntKind.i64.wrap (s6+s8)).toNat]? with|true,some _=>k 23 (jn a b s6 (IntKind.u64.wrap (Int.tdiv (IntKind.u64.wrap ((IntKind.u64.wrap (s7+(IntKind.u64.wrap x1)))+(IntKind.u64.wrap ((IntKind.u64.wrap x2)*(IntKind.u64.wrap x3))))) 1000000000)) (IntKind.i64.wrap (s8+1)) (r0.set ((IntKind.i64.wrap (s6+s8)).toNat) (IntKind.u32.wrap (Int.tmod (IntKind.u64.wrap ((IntKind.u64.wrap (s7+(IntKind.u64.wrap x1)))+(IntKind.u64.wrap ((IntKind.u64.wrap x2)*(IntKind.u64.wrap x3))))) 1000000000))))|_,_=>none)|none=>none)|none=>none)|none=>none)|_,_=>none)|none=>none)|false=>(match bw r0 (IntKind.i64.wrap (s6+(b.length:Int)))with|some _=>(match true,r0[(IntKind.i64.wrap (s6+(b.length:Int))).toNat]? with|true,some _x1=>k 8 (kI a b (IntKind.i64.wrap (s6+1)) (r0.set ((IntKind.i64.wrap (s6+(b.length:Int))).toNat) (IntKind.u32.wrap s7)))|_,_=>none)|none=>none)
theorem rP(a:List Int)(b:List Int)(s6:Int)(s7:Int)(s8:Int)(r0:List Int){rX:List RV}(hX:∃nX,iA (jk.k nX) a b s6 s7 s8 r0=some rX):jk.Runs 23 (jn a b s6 s7 s8 r0) rX:=em (t:=fun k=>iA k a b s6 s7 s8 r0) (fun k=>show go2 Tryz.prog ft tys gd rF k 4000 {jn a b s6 s7 s8 r0 with K:=.lp 23::(jn a b s6 s7 s8 r0).K} (.node 24)=iA k a b s6 s7 s8 r0 by kernel_rfl) hX
theorem QP(neg:Bool)(l:List Int)(h:a8 l):Con Tryz.prog 188 [.d .bool neg,.d (.sl (.int .u32)) l] [.d (.st (.pair .bool (.sl (.int .u32)))) (ag (bV neg (val l)))]:=by
 refine Ctx.Res.con (C:=GW) (au mi) (abd _ _ ⟨0,?_⟩) (fn:=Tryz.f188) (by kernel_rfl) (by kernel_rfl)
 have hv:=aY h.1
 have hp:decide (((ac (val l).toNat).length:Int)>0)=decide (0<val l):=by
  refine decide_eq_decide.2 ⟨fun g=>?_,fun g=>?_⟩
  ·apply Classical.byContradiction
   intro hc
   rw[show(val l).toNat=0 by omega,dL]at g
   simp at g
  ·have:ac (val l).toNat≠[]:=fun e=>by rw[fu]at e;omega
   have:=List.length_pos_iff.2 this
   omega
 unfold AE
 rw[decide_eq_true h,jT neg hv,hp]
 cases neg<;>rfl
theorem vw(a b:List Int)(ha:fv a)(hb:fv b)(hab:b.length≤a.length):∀(j i:Nat) (c:Int) (r:List Int),i+j=a.length→0≤c→c≤1→Lim r→r.length=a.length+1→(∀k (hk:k<r.length),i≤k→r[k]=0)→val r+pw i*c=val (a.take i)+val (b.take i)→
  nJ.Runs 16 (fy a b r c (i:Int)) [.d (.sl (.int .u32)) (ac (val a+val b).toNat)]:=by
 have hsa:=ha.2
 intro j
 induction j with
 |zero=>
  intro i c r hi c0 c1 hr hl hz hv
  obtain rfl:i=a.length:=by omega
  have hir:a.length<r.length:=by omega
  have hr0:=hz _ hir (Nat.le_refl _)
  have e:val (r.set a.length c)=val a+val b:=by
   rw[dN hir,hr0]
   rw[List.take_length,List.take_of_length_le hab]at hv
   grind
  refine nl _ _ _ _ _ ⟨0,?_⟩
  unfold gi
  rw[cN (Nat.le_refl _),aB r,aM,List.getElem?_eq_getElem hir]
  dsimp only
  rw[decide_eq_true (show a8 (r.set a.length c) from⟨hr.set _ ⟨c0,by omega⟩,by simp;omega⟩),e]
 |succ j ih=>
  intro i c r hi c0 c1 hr hl hz hv
  have hia:i<a.length:=by omega
  have hir:i<r.length:=by omega
  have xa:=ha.1.get hia
  have hr0:=hz i hir (Nat.le_refl _)
  have step:∀(t:Int),0≤t→t<2000000000→val (b.take (i+1))=val (b.take i)+pw i*(t-a[i]-c)→nJ.Runs 16 (fy a b (r.set i (t%1000000000)) (t/1000000000) ((i+1:Nat):Int)) [.d (.sl (.int .u32)) (ac (val a+val b).toNat)]:=by
   intro t t0 t1 hb'
   refine ih (i+1) (t/1000000000) (r.set i (t%1000000000)) (by omega) (by omega) (by omega) (hr.set i ⟨by omega,by omega⟩) (by simpa using hl) (l7 hz) ?_
   rw[dN hir,hr0,bi hia,hb',bZ]
   have:=Int.emod_add_mul_ediv t 1000000000
   grind
  by_cases hib:i<b.length
  ·have xb:=hb.1.get hib
   have ht:=bi hib
   obtain⟨q,hq⟩:=step (c+a[i]+b[i]) (by omega) (by omega) (by rw[ht];grind)
   refine nl _ _ _ _ _ ⟨q,?_⟩
   unfold gi
   rw[ct hia,aB,List.getElem?_eq_getElem hia,ct hib,aB,List.getElem?_eq_getElem hib,aB r i,aM,List.getElem?_eq_getElem hir]
   dsimp only
   rw[cG (x:=c+a[i]) (by omega) (by omega),cG (x:=c+a[i]+b[i]) (by omega) (by omega),gJ (by omega),eN (by omega),cG (x:=(c+a[i]+b[i])/1000000000) (by omega) (by omega),cI (by omega)]
   exact hq
  ·have ht:=ij (b:=b) (i:=i) (by omega)
   obtain⟨q,hq⟩:=step (c+a[i]) (by omega) (by omega) (by rw[ht];grind)
   refine nl _ _ _ _ _ ⟨q,?_⟩
   unfold gi
   rw[ct hia,aB,List.getElem?_eq_getElem hia,cN (show b.length≤i by omega),aB r i,aM,List.getElem?_eq_getElem hir]
   dsimp only
   rw[cG (x:=c+a[i]) (by omega) (by omega),gJ (by omega),eN (by omega),cG (x:=(c+a[i])/1000000000) (by omega) (by omega),cI (by omega)]
   exact hq
theorem Ri(a:List Int)(b:List Int)(h:fv a∧fv b):Con Tryz.prog 255 [.d (.sl (.int .u32)) a,.d (.sl (.int .u32)) b] [.d (.sl (.int .u32)) (ac (val a+val b).toNat)]:=by
 refine Ctx.Res.con (C:=nJ) (au mi) ?_ (fn:=Tryz.f255) (by kernel_rfl) (by kernel_rfl)
 obtain⟨ha,hb⟩:=h
 have hsa:=ha.2
 have hsb:=hb.2
 by_cases hc:a.length<b.length
 ·obtain⟨q,hq⟩:=vw b a hb ha (by omega) b.length 0 0 (List.replicate (b.length+1) 0) (by omega) (by omega) (by omega) (Lim.rep _) (by simp) (fun k hk _=>by simp) (by simp[val,eU])
  refine PL _ _ ⟨q,?_⟩
  unfold sE
  rw[ct hc,cI (by omega),oP (by omega),aM,Int.add_comm (val a)]
  exact hq
 ·obtain⟨q,hq⟩:=vw a b ha hb (by omega) a.length 0 0 (List.replicate (a.length+1) 0) (by omega) (by omega) (by omega) (Lim.rep _) (by simp) (fun k hk _=>by simp) (by simp[val,eU])
  refine PL _ _ ⟨q,?_⟩
  unfold sE
  rw[cN (by omega),cI (k:=a.length) (by omega),oP (n:=a.length+1) (by omega),aM]
  exact hq
theorem L7(a b:List Int)(ha:a8 a)(hb:a8 b)(hle:val b≤val a):∀(j i:Nat) (c:Int) (r:List Int),i+j=a.length→0≤c→c≤1→Lim r→r.length=a.length→(∀k (hk:k<r.length),i≤k→r[k]=0)→val r+val (b.take i)=val (a.take i)+pw i*c→
  nd.Runs 10 (eM a b (i:Int) r c) [.d (.sl (.int .u32)) (ac (val a-val b).toNat)]:=by
 have hsa:=ha.2
 intro j
 induction j with
 |zero=>
  intro i c r hi c0 c1 hr hl hz hv
  obtain rfl:i=a.length:=by omega
  refine iK _ _ _ _ _ ⟨0,?_⟩
  unfold dZ
  rw[cN (Nat.le_refl _)]
  have hrl:=bQ hr
  rw[hl]at hrl
  have hb2:val b=val (b.take a.length)+pw (min a.length b.length)*val (b.drop a.length):=eu b a.length
  have hbd:0≤val (b.drop a.length):=aY (hb.1.drop _)
  have hal:=bQ ha.1
  have hbt:=aY (hb.1.take a.length)
  rw[List.take_length]at hv
  have hz0:val (b.drop a.length)=0:=by
   rcases Nat.lt_or_ge a.length b.length with h1|h1
   ·rw[Nat.min_eq_left (by omega)]at hb2
    rcases Int.lt_or_le 0 (val (b.drop a.length))with h2|h2
    ·have hp:=bR a.length
     have:=Int.mul_le_mul_of_nonneg_left (show 1≤val (b.drop a.length) by omega) (Int.le_of_lt hp)
     omega
    ·omega
   ·rw[List.drop_eq_nil_of_le h1];rfl
  rw[hz0,Int.mul_zero,Int.add_zero]at hb2
  have hc0:c=0:=by
   have hp:=bR a.length
   rcases(show c=0∨c=1 by omega)with h|h
   ·exact h
   ·subst h;rw[Int.mul_one]at hv;omega
  subst hc0
  rw[Int.mul_zero]at hv
  rw[decide_eq_true (show a8 r from⟨hr,by omega⟩),show val r=val a-val b by omega]
 |succ j ih=>
  intro i c r hi c0 c1 hr hl hz hv
  have hia:i<a.length:=by omega
  have hir:i<r.length:=by omega
  have xa:=ha.1.get hia
  have hr0:=hz i hir (Nat.le_refl _)
  have step:∀(y c':Int),0≤y→y<1000000000→0≤c'→c'≤1→val (b.take (i+1))=val (b.take i)+pw i*(a[i]+1000000000*c'-y-c)→nd.Runs 10 (eM a b ((i+1:Nat):Int) (r.set i y) c') [.d (.sl (.int .u32)) (ac (val a-val b).toNat)]:=by
   intro y c' y0 y1 k0 k1 hb'
   refine ih (i+1) c' (r.set i y) (by omega) k0 k1 (hr.set i ⟨y0,y1⟩) (by simpa using hl) (l7 hz) ?_
   rw[dN hir,hr0,bi hia,hb',bZ]
   grind
  by_cases hib:i<b.length
  ·have xb:=hb.1.get hib
   have ht:=bi hib
   by_cases hc:a[i]+1000000000-c-b[i]≥1000000000
   ·obtain⟨q,hq⟩:=step (a[i]+1000000000-c-b[i]-1000000000) 0 (by omega) (by omega) (by omega) (by omega) (by rw[ht];grind)
    refine iK _ _ _ _ _ ⟨q,?_⟩
    unfold dZ
    rw[ct hia,aB,List.getElem?_eq_getElem hia,ct hib,aB,List.getElem?_eq_getElem hib,aB,aM,List.getElem?_eq_getElem hir]
    dsimp only
    rw[cG (x:=a[i]+1000000000) (by omega) (by omega),cG (x:=a[i]+1000000000-c) (by omega) (by omega),cG (x:=a[i]+1000000000-c-b[i]) (by omega) (by omega),decide_eq_true hc,cG (x:=a[i]+1000000000-c-b[i]-1000000000) (by omega) (by omega),cI (by omega)]
    exact hq
   ·obtain⟨q,hq⟩:=step (a[i]+1000000000-c-b[i]) 1 (by omega) (by omega) (by omega) (by omega) (by rw[ht];grind)
    refine iK _ _ _ _ _ ⟨q,?_⟩
    unfold dZ
    rw[ct hia,aB,List.getElem?_eq_getElem hia,ct hib,aB,List.getElem?_eq_getElem hib,aB,aM,List.getElem?_eq_getElem hir]
    dsimp only
    rw[cG (x:=a[i]+1000000000) (by omega) (by omega),cG (x:=a[i]+1000000000-c) (by omega) (by omega),cG (x:=a[i]+1000000000-c-b[i]) (by omega) (by omega),decide_eq_false hc,cI (by omega)]
    exact hq
  ·have ht:=ij (b:=b) (i:=i) (by omega)
   by_cases hc:a[i]+1000000000-c≥1000000000
   ·obtain⟨q,hq⟩:=step (a[i]+1000000000-c-1000000000) 0 (by omega) (by omega) (by omega) (by omega) (by rw[ht];grind)
    refine iK _ _ _ _ _ ⟨q,?_⟩
    unfold dZ
    rw[ct hia,aB,List.getElem?_eq_getElem hia,cN (show b.length≤i by omega),aB r i,aM,List.getElem?_eq_getElem hir]
    dsimp only
    rw[cG (x:=a[i]+1000000000) (by omega) (by omega),cG (x:=a[i]+1000000000-c) (by omega) (by omega),decide_eq_true hc,cG (x:=a[i]+1000000000-c-1000000000) (by omega) (by omega),cI (by omega)]
    exact hq
   ·obtain⟨q,hq⟩:=step (a[i]+1000000000-c) 1 (by omega) (by omega) (by omega) (by omega) (by rw[ht];grind)
    refine iK _ _ _ _ _ ⟨q,?_⟩
    unfold dZ
    rw[ct hia,aB,List.getElem?_eq_getElem hia,cN (show b.length≤i by omega),aB r i,aM,List.getElem?_eq_getElem hir]
    dsimp only
    rw[cG (x:=a[i]+1000000000) (by omega) (by omega),cG (x:=a[i]+1000000000-c) (by omega) (by omega),decide_eq_false hc,cI (by omega)]
    exact hq
theorem PV(a:List Int)(b:List Int)(h:kK a b):Con Tryz.prog 250 [.d (.sl (.int .u32)) a,.d (.sl (.int .u32)) b] [.d (.sl (.int .u32)) (ac (val a-val b).toNat)]:=by
 refine Ctx.Res.con (C:=nd) (au mi) ?_ (fn:=Tryz.f250) (by kernel_rfl) (by kernel_rfl)
 obtain⟨ha,hb,hle⟩:=h
 have hsa:=ha.2
 obtain⟨q,hq⟩:=L7 a b ha hb hle a.length 0 0 (List.replicate a.length 0) (by omega) (by omega) (by omega) (Lim.rep _) (by simp) (fun k hk _=>by simp) (by simp[val,eU])
 refine aaL _ _ ⟨q,?_⟩
 unfold xL
 rw[oP (by omega),aM]
 exact hq
theorem Gv(a b:List Int)(ha:fv a)(hb:fv b)(i:Nat)(hi:i<a.length)
  (hout:∀r,Lim r→r.length=a.length+b.length→(∀k (hk:k<r.length),i+1+b.length≤k→r[k]=0)→val r=val (a.take (i+1))*val b→jk.Runs 8 (kI a b ((i+1:Nat):Int) r) [.d (.sl (.int .u32)) (ac (val a*val b).toNat)]):
  ∀(j k:Nat) (c:Int) (r:List Int),k+j=b.length→0≤c→c<1000000000→Lim r→r.length=a.length+b.length→(∀q (hq:q<r.length),i+b.length≤q→r[q]=0)→val r+pw (i+k)*c=val (a.take i)*val b+pw i*a[i]*val (b.take k)→
  jk.Runs 23 (jn a b (i:Int) c (k:Int) r) [.d (.sl (.int .u32)) (ac (val a*val b).toNat)]:=by
 have hsa:=ha.2
 have hsb:=hb.2
 have xa:=ha.1.get hi
 intro j
 induction j with
 |zero=>
  intro k c r hk c0 c1 hr hl hz hv
  obtain rfl:k=b.length:=by omega
  have hir:i+b.length<r.length:=by omega
  have hr0:=hz _ hir (Nat.le_refl _)
  obtain⟨q,hq⟩:=hout (r.set (i+b.length) c) (hr.set _ ⟨c0,c1⟩) (by simpa using hl) (by rw[show i+1+b.length=i+b.length+1 by omega];exact l7 hz) (by
   rw[dN hir,hr0,bi hi]
   rw[List.take_length]at hv
   grind)
  refine rP _ _ _ _ _ _ ⟨q,?_⟩
  have hw:IntKind.i64.wrap ((i:Int)+(b.length:Int))=((i+b.length:Nat):Int):=by rw[bk (by omega) (by omega)];simp
  unfold iA
  rw[cN (Nat.le_refl _),hw,aB r (i+b.length),aM,List.getElem?_eq_getElem hir,cG (x:=c) (by omega) (by omega),cI (k:=i) (by omega)]
  exact hq
 |succ j ih=>
  intro k c r hk c0 c1 hr hl hz hv
  have hkb:k<b.length:=by omega
  have hir:i+k<r.length:=by omega
  have xb:=hb.1.get hkb
  have xr:=hr.get hir
  have hbd:=GN xr xa xb ⟨c0,c1⟩
  obtain⟨q,hq⟩:=ih (k+1) ((r[i+k]+a[i]*b[k]+c)/1000000000) (r.set (i+k) ((r[i+k]+a[i]*b[k]+c)%1000000000)) (by omega) hbd.2.2.1 hbd.2.2.2 (hr.set _ (by omega)) (by simpa using hl)
   (fun m hm hq=>by rw[List.getElem_set_ne (by omega)];exact hz m (by simpa using hm) hq) (by
    rw[dN hir,bi hkb,show i+(k+1)=i+k+1 by omega,bZ,dV]
    rw[dV]at hv
    have e:=Int.emod_add_mul_ediv (r[i+k]+a[i]*b[k]+c) 1000000000
    grind)
  refine rP _ _ _ _ _ _ ⟨q,?_⟩
  have hw:IntKind.i64.wrap ((i:Int)+(k:Int))=((i+k:Nat):Int):=by rw[bk (by omega) (by omega)];simp
  unfold iA
  rw[ct hkb,hw,aB b k,List.getElem?_eq_getElem hkb,aB a i,List.getElem?_eq_getElem hi,aB r (i+k),aM,List.getElem?_eq_getElem hir]
  dsimp only
  rw[bz (x:=r[i+k]) (by omega) (by omega),bz (x:=a[i]) (by omega) (by omega),bz (x:=b[k]) (by omega) (by omega),bz (x:=a[i]*b[k]) (by omega) (by omega),bz (x:=c+r[i+k]) (by omega) (by omega),bz (x:=c+r[i+k]+a[i]*b[k]) (by omega) (by omega),show c+r[i+k]+a[i]*b[k]=r[i+k]+a[i]*b[k]+c by omega,eN (a:=r[i+k]+a[i]*b[k]+c) (by omega),gJ (a:=r[i+k]+a[i]*b[k]+c) (by omega),bz (x:=(r[i+k]+a[i]*b[k]+c)/1000000000) (by omega) (by omega),cG (x:=(r[i+k]+a[i]*b[k]+c)%1000000000) (by omega) (by omega),cI (k:=k) (by omega)]
  exact hq
theorem EE(a b:List Int)(ha:fv a)(hb:fv b):∀(j i:Nat) (r:List Int),i+j=a.length→Lim r→r.length=a.length+b.length→(∀k (hk:k<r.length),i+b.length≤k→r[k]=0)→val r=val (a.take i)*val b→
  jk.Runs 8 (kI a b (i:Int) r) [.d (.sl (.int .u32)) (ac (val a*val b).toNat)]:=by
 have hsa:=ha.2
 have hsb:=hb.2
 intro j
 induction j with
 |zero=>
  intro i r hi hr hl hz hv
  obtain rfl:i=a.length:=by omega
  refine wI _ _ _ _ ⟨0,?_⟩
  unfold j7
  rw[List.take_length]at hv
  rw[cN (Nat.le_refl _),decide_eq_true (show a8 r from⟨hr,by omega⟩),hv]
 |succ j ih=>
  intro i r hi hr hl hz hv
  have hia:i<a.length:=by omega
  obtain⟨q,hq⟩:=Gv a b ha hb i hia (fun r' h1 h2 h3 h4=>ih (i+1) r' (by omega) h1 h2 h3 h4) b.length 0 0 r (by omega) (by omega) (by omega) hr hl hz (by simp[val,hv])
  refine wI _ _ _ _ ⟨q,?_⟩
  unfold j7
  rw[ct hia]
  exact hq
theorem Vg(a:List Int)(b:List Int)(h:fv a∧fv b):Con Tryz.prog 251 [.d (.sl (.int .u32)) a,.d (.sl (.int .u32)) b] [.d (.sl (.int .u32)) (ac (val a*val b).toNat)]:=by
 refine Ctx.Res.con (C:=jk) (au mi) ?_ (fn:=Tryz.f251) (by kernel_rfl) (by kernel_rfl)
 obtain⟨ha,hb⟩:=h
 have hsa:=ha.2
 have hsb:=hb.2
 obtain⟨q,hq⟩:=EE a b ha hb a.length 0 (List.replicate (a.length+b.length) 0) (by omega) (Lim.rep _) (by simp) (fun k hk _=>by simp) (by simp[val,eU])
 refine aak _ _ ⟨q,?_⟩
 have hw:IntKind.i64.wrap ((a.length:Int)+(b.length:Int))=((a.length+b.length:Nat):Int):=by rw[bk (by omega) (by omega)];simp
 unfold xN
 rw[hw,oP (by omega),aM]
 exact hq
end Go.Proofs.YtlahabkjhgkkjaaGreat
