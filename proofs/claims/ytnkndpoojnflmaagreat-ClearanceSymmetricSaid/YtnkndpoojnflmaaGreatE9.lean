/- The order of the reals; what holds of all fractions holds of them. -/
import Derived.Test.YtnkndpoojnflmaaGreatE8
noncomputable section
namespace Go.Proofs.YtnkndpoojnflmaaGreat
open Go.RowKit Go.IntKind
theorem alp:type_of% @Rat.mul_nonneg:=@Rat.mul_nonneg
theorem al6:type_of% @decide_eq_decide:=@decide_eq_decide
theorem am8:type_of% @Rat.intCast_le_intCast:=@Rat.intCast_le_intCast
theorem ant:type_of% @Rat.intCast_natCast:=@Rat.intCast_natCast
theorem anO:type_of% @Rat.intCast_neg:=@Rat.intCast_neg
section
namespace RE
open RL
theorem A5(a b:RE):a≤b↔¬b<a:=Iff.rfl
theorem le_of_lt{a b:RE}(h:a<b):a≤b:=fun h'=>lt_irrefl a (cV h h')
theorem lt_or_ge(a b:RE):a<b∨b≤a:=by
 by_cases h:a<b
 ·exact .inl h
 ·exact .inr h
theorem le_antisymm{a b:RE}(h1:a≤b)(h2:b≤a):a=b:=by
 rcases mN a b with h|h|h
 ·exact absurd h h2
 ·exact h
 ·exact absurd h h1
theorem le_trans{a b c:RE}(h1:a≤b)(h2:b≤c):a≤c:=fun h=>by
 rcases mN a b with h'|h'|h'
 ·exact h2 (cV h h')
 ·subst h';exact h2 h
 ·exact h1 h'
theorem zero_lt_one:(0:RE)<1:=hZ (by decide+kernel:(0:Rat)<1)
theorem lC(a:RE):a+ -a=0:=by rw[add_comm,wj]
theorem jN{a:RE}(h:a<0):0< -a:=by
 have:=ku (-a) h
 rw[lC,add_comm,add_zero]at this
 exact this
theorem Fy{a:RE}(h:0<a): -a<0:=by
 have:=ku (-a) h
 rw[lC,add_comm,add_zero]at this
 exact this
instance:Std.IsLinearOrder RE where
 le_refl a:=lt_irrefl a
 le_trans _ _ _:=le_trans
 le_antisymm _ _:=le_antisymm
 le_total a b:=by
  rcases lt_or_ge a b with h|h
  ·exact .inl (le_of_lt h)
  ·exact .inr h
instance:Std.LawfulOrderLT RE where
 lt_iff a b:=⟨fun h=>⟨le_of_lt h,fun h'=>h' h⟩,fun h=>by
  rcases lt_or_ge a b with h'|h'
  ·exact h'
  ·exact absurd h' h.2⟩
theorem qV{a b:RE}:¬a≤b↔b<a:=⟨fun h=>by
  rcases lt_or_ge b a with h'|h'
  ·exact h'
  ·exact absurd h' h,fun h h'=>h' h⟩
theorem aJ{a b:RE}(h:a<b):0<b-a:=by
 have:=ku (-a) h
 rw[lC]at this
 exact this
theorem abr{a b:RE}(h:0<b-a):a<b:=by
 have:=ku a h
 have e:b-a+a=b:=by
  show b+ -a+a=b
  rw[add_assoc,wj,add_zero]
 rw[e,add_comm,add_zero]at this
 exact this
theorem aD{a b:RE}(h:a≤b):0≤b-a:=fun h'=>h (by
 have:=ku a h'
 have e:b-a+a=b:=by
  show b+ -a+a=b
  rw[add_assoc,wj,add_zero]
 rw[e,add_comm,add_zero]at this
 exact this)
theorem fO{a:RE}(h:0≤a):0<a∨a=0:=by
 rcases mN 0 a with h'|h'|h'
 ·exact .inl h'
 ·exact .inr h'.symm
 ·exact absurd h' h
theorem le_refl(a:RE):a≤a:=lt_irrefl a
theorem n4{a b:RE}(h:a=b):a≤b:=by rw[h];exact le_refl _
theorem lh{a b:RE}(h:a=b):b≤a:=by rw[h];exact le_refl _
theorem zero_mul(a:RE):0*a=0:=by rw[mul_comm,mul_zero]
theorem zero_add(a:RE):0+a=a:=by rw[add_comm,add_zero]
theorem one_mul(a:RE):1*a=a:=by rw[mul_comm,mul_one]
theorem a9{a b:RE}(h:0≤a)(h':0≤b):0≤a*b:=by
 rcases fO h with h1|h1
 ·rcases fO h' with h2|h2
  ·exact le_of_lt (mul_pos h1 h2)
  ·rw[h2,mul_zero];exact le_refl _
 ·rw[h1,zero_mul];exact le_refl _
theorem aI{a b:RE}(h:0<a)(h':0≤b):0<a+b:=by
 have:=ku b h
 rw[zero_add]at this
 rcases fO h' with h2|h2
 ·exact cV h2 this
 ·rw[h2,add_zero];exact h
theorem gn(a:RE):0≤a*a:=by
 rcases lt_or_ge a 0 with h|h
 ·have h1:=jN h
  have h2:=mul_pos h1 h1
  have e: -a* -a=a*a:=by
   induction a using ami
   exact snd fun n=>by show-_* -_=_*_;grind
  rw[e]at h2
  exact le_of_lt h2
 ·exact a9 h h
instance:NatCast RE:=⟨fun n=>of (n:Rat)⟩
instance:IntCast RE:=⟨fun n=>of (n:Rat)⟩
instance:SMul Nat RE:=⟨fun n a=>of (n:Rat)*a⟩
instance:SMul Int RE:=⟨fun n a=>of (n:Rat)*a⟩
def pw(a:RE):Nat→RE
 |0=>1
 |n+1=>pw a n*a
instance:Pow RE Nat:=⟨pw⟩
instance:Lean.Grind.CommRing RE where
 add_zero:=add_zero
 add_comm:=add_comm
 add_assoc:=add_assoc
 mul_assoc:=mul_assoc
 mul_one:=mul_one
 mul_comm:=mul_comm
 left_distrib:=left_distrib
 mul_zero:=mul_zero
 zero_mul:=zero_mul
 one_mul:=one_mul
 right_distrib a b c:=by rw[mul_comm,left_distrib,mul_comm c,mul_comm c]
 pow_zero _:=rfl
 pow_succ _ _:=rfl
 ofNat_succ n:=by
  show of ((OfNat.ofNat (n+1):Rat))=of ((OfNat.ofNat n:Rat))+of 1
  rw[←of_add]
  congr 1
  show(((n+1:Nat):Rat))=((n:Nat):Rat)+1
  rw[Rat.natCast_add]
  rfl
 ofNat_eq_natCast _:=rfl
 nsmul_eq_natCast_mul _ _:=rfl
 neg_add_cancel:=wj
 sub_eq_add_neg _ _:=rfl
 neg_zsmul i a:=by
  show of ((-i:Int):Rat)*a= -(of (i:Rat)*a)
  rw[anO,of_neg]
  induction a using ami
  exact snd fun n=>by show-_*_= -(_*_);grind
 zsmul_natCast_eq_nsmul _ _:=rfl
 intCast_ofNat _:=rfl
 intCast_neg i:=by show of _= -of _;rw[anO,of_neg]
theorem Hx{a b c:RE}(h:a<b)(hc:0<c):c*a<c*b:=by
 have h1:=ku (-a) h
 rw[lC]at h1
 have h2:=ku (c*a) (mul_pos hc h1)
 rwa [show c*(b+ -a)+c*a=c*b by grind,zero_add]at h2
instance:Lean.Grind.OrderedRing RE where
 add_le_left_iff {a b} c:=⟨fun h h'=>h (by
   have:=ku (-c) h'
   rw[add_assoc,add_assoc,lC,add_zero,add_zero]at this
   exact this),fun h h'=>h (ku c h')⟩
 zero_lt_one:=zero_lt_one
 mul_lt_mul_of_pos_left:=Hx
 mul_lt_mul_of_pos_right {a b c} h hc:=by
  rw[mul_comm a,mul_comm b]
  exact Hx h hc
theorem He{c:Rat}(hc:(0:Rat)<c){a:RE}(h:0<a):0<of c*a:=mul_pos (hZ hc) h
theorem iD{c:Rat}(hc:(0:Rat)<c){a:RE}(h:0≤a):0≤of c*a:=a9 (le_of_lt (hZ hc)) h
theorem far{s:RE}(h:0<s)(e:s=0):False:=by rw[e]at h;exact lt_irrefl _ h
theorem Vw(x y:RE):((y*y-(x*x)))+((x-(0))*(x-(y)))+((y-(0))*(x-(y)))=0:=by grind
theorem sq_lt(x y:RE)(h1:0≤x)(h2:0≤y)(h3:x*x<y*y):x<y:=qV.1 fun hg=>far (aI (aI (aJ h3) (a9 (aD h1) (aD hg))) (a9 (aD h2) (aD hg))) (Vw x y)
theorem Uh(x y:RE):((x-(y))*(x-(y)))+((y*y-(x*x)))+2*((y-(0))*(x-(y)))=0:=by grind
theorem zp(x y:RE)(_h1:0≤x)(h2:0≤y)(h3:x*x≤y*y):x≤y:=fun hg=>far (aI (aI (mul_pos (aJ hg) (aJ hg)) (aD h3)) (iD (by decide+kernel:(0:Rat)<2) (a9 (aD h2) (le_of_lt (aJ hg))))) (Uh x y)
theorem Kx(x y:RE):((x*x-(y*y)))+2*((x-(0))*(y-(x)))+((y-(x))*(y-(x)))=0:=by grind
theorem sV(x y:RE)(h1:0≤x)(h2:x≤y):x*x≤y*y:=fun hg=>far (aI (aI (aJ hg) (iD (by decide+kernel:(0:Rat)<2) (a9 (aD h1) (aD h2)))) (a9 (aD h2) (aD h2))) (Kx x y)
theorem aaZ(x y:RE):((y-(x))*(y-(x)))+((x*x-(y*y)))+2*((x-(0))*(y-(x)))=0:=by grind
theorem Pa(x y:RE):((x-(y))*(x-(y)))+((y*y-(x*x)))+2*((y-(0))*(x-(y)))=0:=by grind
theorem aah(x y:RE)(_h1:0≤x)(h2:0≤y)(h3:x*x=y*y):x≤y:=fun hg=>far (aI (aI (mul_pos (aJ hg) (aJ hg)) (aD (n4 h3))) (iD (by decide+kernel:(0:Rat)<2) (a9 (aD h2) (le_of_lt (aJ hg))))) (Pa x y)
theorem NG(x y:RE):((y-(x))*(y-(x)))+((x*x-(y*y)))+2*((x-(0))*(y-(x)))=0:=by grind
theorem adk(x y:RE)(h1:0≤x)(_h2:0≤y)(h3:x*x=y*y):y≤x:=fun hg=>far (aI (aI (mul_pos (aJ hg) (aJ hg)) (aD (lh h3))) (iD (by decide+kernel:(0:Rat)<2) (a9 (aD h1) (le_of_lt (aJ hg))))) (NG x y)
theorem C0(x y:RE)(h1:0≤x)(h2:0≤y)(h3:x*x=y*y):x=y:=le_antisymm (aah x y h1 h2 h3) (adk x y h1 h2 h3)
end RE
end
section
namespace RE
open RL
theorem afi(q:Rat):∃k:Nat,q<(k:Rat):=by
 refine⟨(q.floor+1).toNat,?_⟩
 have h1:q<((q.floor+1:Int):Rat):=(Rat.floor_lt_iff).1 (by omega)
 have h2:((q.floor+1:Int):Rat)≤(((q.floor+1).toNat:Int):Rat):=am8.2 (by omega)
 have h3:(((q.floor+1).toNat:Int):Rat)=(((q.floor+1).toNat:Nat):Rat):=ant _
 rw[h3]at h2
 grind
theorem T7(g d:Rat)(hg:0≤g)(hd:0<d):∃s:Rat,0≤s∧s*s≤g∧g<(s+d)*(s+d):=by
 apply aln
 intro hn
 have step:∀k:Nat,((k:Rat)*d)*((k:Rat)*d)≤g:=by
  intro k
  induction k with
  |zero=>rw[show((0:Nat):Rat)=0 from rfl];grind
  |succ k ih=>
   apply aln
   intro hc
   refine hn ⟨(k:Rat)*d,?_,ih,?_⟩
   ·have:(0:Rat)≤(k:Rat):=by
     have:=Rat.intCast_nonneg.2 (show(0:Int)≤(k:Int) by omega)
     rwa [ant]at this
    exact alp this (by grind)
   ·have e:(((k+1:Nat)):Rat)=(k:Rat)+1:=by rw[Rat.natCast_add];rfl
    rw[e]at hc
    grind
 obtain⟨k,hk⟩:=afi ((g+1)/d)
 have h1:g+1<(k:Rat)*d:=by
  have:=alv (show 0<(k:Rat)-(g+1)/d by grind) hd
  have e:((k:Rat)-(g+1)/d)*d=(k:Rat)*d-(g+1):=by grind
  grind
 have h2:=step k
 have h3:=alv (show 0<(k:Rat)*d-(g+1) by grind) (show 0<(k:Rat)*d by grind)
 have h4:=alv (show 0<(k:Rat)*d-(g+1) by grind) (show 0<g+1 by grind)
 have h5:=alp hg hg
 clear hn step hk
 generalize (k:Rat)*d=t at h1 h2 h3 h4
 grind
def eps(n:Nat):Rat:=1/((n:Rat)+1)
theorem qT(n:Nat):(0:Rat)≤(n:Rat):=by
 have:=Rat.intCast_nonneg.2 (show(0:Int)≤(n:Int) by omega)
 rwa [ant]at this
theorem tz(n:Nat):0<eps n:=by
 have:=qT n
 exact alv (by grind) (aoj.2 (by grind))
theorem z5(e:Rat)(he:0<e):∃N,∀n,N≤n→eps n<e:=by
 obtain⟨N,hN⟩:=afi (1/e)
 refine⟨N,fun n hn=>?_⟩
 have h0:=qT n
 have h1:(N:Rat)≤(n:Rat):=by
  have:=am8.2 (show(N:Int)≤(n:Int) by omega)
  rwa [ant,ant]at this
 have h2:1/e<(n:Rat)+1:=by grind
 have h3:=alv (show 0<(n:Rat)+1-1/e by grind) (alv he (tz n))
 unfold eps at h3 ⊢
 have e1:((n:Rat)+1-1/e)*(e*(1/((n:Rat)+1)))=e-1/((n:Rat)+1):=by
  have:(n:Rat)+1≠0:=by grind
  have:e≠0:=by grind
  grind
 grind
theorem EL(n:Nat):eps n≤1:=by
 have h0:=qT n
 have:=tz n
 unfold eps at*
 have h3:=alp h0 (show(0:Rat)≤1/((n:Rat)+1) by grind)
 have e1:(n:Rat)*(1/((n:Rat)+1))=1-1/((n:Rat)+1):=by
  have:(n:Rat)+1≠0:=by grind
  grind
 grind
theorem Mt{a b:Rat}(ha:0≤a)(hb:0≤b)(h:a*a<b*b):a<b:=by
 apply aln
 intro hc
 have:=alp (show 0≤a-b by grind) (show 0≤a+b by grind)
 grind
theorem A7(x:RE)(hx:0≤x):∃y:RE,0≤y∧y*y=x:=by
 induction x using ami
 rename_i f
 have hc:∀n,∃s:Rat,0≤s∧s*s≤(if 0≤f.f n then f.f n else 0)∧(if 0≤f.f n then f.f n else 0)<(s+eps n)*(s+eps n):=fun n=>
  T7 _ _ (by split<;>grind) (tz n)
 let g:Nat→Rat:=fun n=>if 0≤f.f n then f.f n else 0
 let s:Nat→Rat:=fun n=>Classical.choose (hc n)
 have hs:∀n,0≤s n∧s n*s n≤g n∧g n<(s n+eps n)*(s n+eps n):=fun n=>amy (hc n)
 have hg:∀m n,g m-g n≤(if 0≤f.f m-f.f n then f.f m-f.f n else 0):=fun m n=>by
  show(if 0≤f.f m then f.f m else 0)-(if 0≤f.f n then f.f n else 0)≤_
  split<;>split<;>split<;>grind
 obtain⟨B,hB,NB,hBn⟩:=f.bd
 have hgB:∀n,NB≤n→g n<B:=fun n hn=>by
  show(if 0≤f.f n then f.f n else 0)<B
  have:=hBn n hn
  split<;>grind
 have hsB:∀n,NB≤n→s n<B+1:=fun n hn=>by
  have h1:=hs n
  have h2:=hgB n hn
  refine Mt h1.1 (by grind) ?_
  have:=alp (show 0≤B by grind) (show 0≤B by grind)
  grind
 have hcau:∀e:Rat,0<e→∃N,∀m n,N≤m→N≤n→s m-s n<e:=by
  intro e he
  obtain⟨N1,h1⟩:=f.cau (e*e/4) (by have:=alv he he;grind)
  obtain⟨N2,h2⟩:=z5 (e/2) (by grind)
  refine⟨max N1 N2,fun m n hm hn=>?_⟩
  apply aln
  intro hne
  have a1:=hs m
  have a2:=hs n
  have a3:=h1 m n (by omega) (by omega)
  have a4:=h2 n (by omega)
  have a5:=hg m n
  have a6:=tz n
  have p1:=alp (show 0≤s m-(s n+e) by grind) (show 0≤s m+(s n+e) by grind)
  have p2:=alp (show 0≤e/2-eps n by grind) (show 0≤(s n+e/2)+(s n+eps n) by grind)
  have p3:=alp (show 0≤e by grind) a2.1
  have p4:=alv he he
  split at a5<;>grind
 refine⟨Quotient.mk _ ⟨s,hcau⟩,?_,anz fun e he=>?_⟩
 ·rintro ⟨e,he,N,h⟩
  have h1:=h N (ak9 _)
  have h2:=(hs N).1
  simp only[RL.const]at h1
  grind
 ·-- s n*s n is near to f n
  have hneg:∃N,∀n,N≤n→ -(e/4)<f.f n:=by
   apply aln
   intro hne
   obtain⟨M,hM⟩:=f.cau (e/8) (by grind)
   refine hx ⟨e/16,by grind,M,fun n hn=>?_⟩
   apply aln
   intro hge
   refine hne ⟨M,fun k hk=>?_⟩
   have:=hM n k hn hk
   simp only[RL.const]at hge
   grind
  obtain⟨N1,h1⟩:=hneg
  obtain⟨N2,h2⟩:=z5 (e/(4*(B+2))) (alv he (aoj.2 (by grind)))
  refine⟨max (max N1 N2) NB,fun n hn=>?_⟩
  have a1:=hs n
  have a2:=h1 n (by omega)
  have a3:=h2 n (by omega)
  have a4:=hsB n (by omega)
  have a5:=tz n
  have a6:=EL n
  have hgf:f.f n≤g n∧g n<f.f n+e/4:=by
   show f.f n≤(if 0≤f.f n then f.f n else 0)∧(if 0≤f.f n then f.f n else 0)<_
   split<;>constructor<;>grind
  have p1:=alp (show 0≤eps n by grind) (show 0≤2*(B+2)-(2*s n+eps n) by grind)
  have p2:eps n*(2*(B+2))<e/2:=by
   have:=alv (show 0<e/(4*(B+2))-eps n by grind) (show 0<2*(B+2) by grind)
   have e1:(e/(4*(B+2))-eps n)*(2*(B+2))=e/2-eps n*(2*(B+2)):=by
    have:B+2≠0:=by grind
    grind
   grind
  simp only[RL.mul]
  constructor<;>grind
open Classical in
def vt(x:RE):RE:=if h:0≤x then Classical.choose (A7 x h)else 0
theorem lk(x:RE):0≤vt x:=by
 unfold vt
 split
 ·rename_i h;exact(amy (A7 x h)).1
 ·exact lt_irrefl 0
theorem vW{x:RE}(h:0≤x):vt x*vt x=x:=by
 unfold vt
 rw[dif_pos h]
 exact(amy (A7 x h)).2
theorem gi{a b:Rat}:of a≤of b↔a≤b:=by
 constructor
 ·intro h
  apply aln
  intro hc
  exact h (hZ (by grind))
 ·intro h h'
  rcases(by grind:a<b∨a=b)with h1|h1
  ·exact lt_irrefl _ (cV h' (hZ h1))
  ·rw[h1]at h';exact lt_irrefl _ h'
theorem wQ{a b:Rat}(h:of a=of b):a=b:=by
 have h1:=gi.1 (show of a≤of b by rw[h];exact lt_irrefl _)
 have h2:=gi.1 (show of b≤of a by rw[h];exact lt_irrefl _)
 grind
end RE
end
section
namespace RE
open RL
open Classical in
def sg(x:RE):Int:=if 0<x then 1 else if x<0 then-1 else 0
theorem dk{x:RE}(h:0<x):sg x=1:=alx h
theorem gh{x:RE}(h:x<0):sg x= -1:=by unfold sg;rw[alq (fun h'=>lt_irrefl _ (cV h h')),alx h]
theorem da:sg 0=0:=by unfold sg;rw[alq (lt_irrefl _),alq (lt_irrefl _)]
theorem bg(x:RE):(0<x∧sg x=1)∨(x=0∧sg x=0)∨(x<0∧sg x= -1):=by
 rcases mN 0 x with h|h|h
 ·exact .inl ⟨h,dk h⟩
 ·exact .inr (.inl ⟨h.symm,by rw[←h,da]⟩)
 ·exact .inr (.inr ⟨h,gh h⟩)
theorem nL{x:RE}:sg x=0↔x=0:=by
 rcases bg x with⟨h,e⟩|⟨h,e⟩|⟨h,e⟩<;>rw[e]
 ·exact⟨fun h'=>by omega,fun h'=>by rw[h']at h;exact absurd h (lt_irrefl _)⟩
 ·exact⟨fun _=>h,fun _=>rfl⟩
 ·exact⟨fun h'=>by omega,fun h'=>by rw[h']at h;exact absurd h (lt_irrefl _)⟩
theorem Cc{x:RE}:sg x=1↔0<x:=by
 rcases bg x with⟨h,e⟩|⟨h,e⟩|⟨h,e⟩<;>rw[e]
 ·exact⟨fun _=>h,fun _=>rfl⟩
 ·exact⟨fun h'=>by omega,fun h'=>by rw[h]at h';exact absurd h' (lt_irrefl _)⟩
 ·exact⟨fun h'=>by omega,fun h'=>absurd (cV h h') (lt_irrefl _)⟩
theorem aaY{x:RE}:sg x= -1↔x<0:=by
 rcases bg x with⟨h,e⟩|⟨h,e⟩|⟨h,e⟩<;>rw[e]
 ·exact⟨fun h'=>by omega,fun h'=>absurd (cV h h') (lt_irrefl _)⟩
 ·exact⟨fun h'=>by omega,fun h'=>by rw[h]at h';exact absurd h' (lt_irrefl _)⟩
 ·exact⟨fun _=>h,fun _=>rfl⟩
theorem OP{x:RE}:0≤sg x↔0≤x:=by
 rcases bg x with⟨h,e⟩|⟨h,e⟩|⟨h,e⟩<;>rw[e]
 ·exact⟨fun _=>le_of_lt h,fun _=>by omega⟩
 ·exact⟨fun _=>by rw[h];exact le_refl _,fun _=>by omega⟩
 ·exact⟨fun h'=>by omega,fun h'=>absurd h h'⟩
theorem agB{x:RE}:sg x≤0↔x≤0:=by
 rcases bg x with⟨h,e⟩|⟨h,e⟩|⟨h,e⟩<;>rw[e]
 ·exact⟨fun h'=>by omega,fun h'=>absurd h h'⟩
 ·exact⟨fun _=>by rw[h];exact le_refl _,fun _=>by omega⟩
 ·exact⟨fun _=>le_of_lt h,fun _=>by omega⟩
theorem neg_mul(a b:RE): -a*b= -(a*b):=by grind
theorem mul_neg(a b:RE):a* -b= -(a*b):=by grind
theorem neg_neg(a:RE): - -a=a:=by grind
theorem sub_self(a:RE):a-a=0:=by grind
theorem U7(a b:RE): -(a-b)=b-a:=by grind
theorem GO(x y:RE):(x+y)*(x-y)=x*x-y*y:=by grind
theorem Rm(x y:RE):((x-(0))*(0-(y)))+((x*y-(0)))=0:=by grind
theorem FF(x y:RE)(h1:0<x)(h2:y<0):x*y<0:=qV.1 fun hg=>far (aI (mul_pos (aJ h1) (aJ h2)) (aD hg)) (Rm x y)
theorem ZQ(x y:RE)(h1:x<0)(h2:y<0):x+y<0:=by grind
theorem Q2(x y:RE)(h1:0<x)(h2:y<0):0<x-y:=by grind
theorem RW(x y:RE)(h1:x<0)(h2:0<y):x-y<0:=by grind
theorem QR(x y:RE)(h1:0<x)(h2:0<y):0<x+y:=by grind
theorem CQ: -(0:RE)=0:=by rw[←zero_add (-0),lC]
theorem qU(x:RE):sg (-x)= -sg x:=by
 rcases bg x with⟨h,e⟩|⟨h,e⟩|⟨h,e⟩<;>rw[e]
 ·exact gh (Fy h)
 ·rw[h,CQ,da];rfl
 ·exact dk (jN h)
theorem dh(x y:RE):sg (x*y)=sg x*sg y:=by
 rcases bg x with⟨h,e⟩|⟨h,e⟩|⟨h,e⟩<;>rw[e]
 ·rcases bg y with⟨h',e'⟩|⟨h',e'⟩|⟨h',e'⟩<;>rw[e']
  ·exact dk (mul_pos h h')
  ·rw[h',mul_zero,da];rfl
  ·exact gh (FF _ _ h h')
 ·rw[h,zero_mul,da];omega
 ·rcases bg y with⟨h',e'⟩|⟨h',e'⟩|⟨h',e'⟩<;>rw[e']
  ·rw[mul_comm];exact gh (FF _ _ h' h)
  ·rw[h',mul_zero,da];rfl
  ·have:=mul_pos (jN h) (jN h')
   rw[neg_mul,mul_neg,neg_neg]at this
   exact dk this
theorem sg_of(q:Rat):sg (of q)=aC q 0:=by
 rcases(by grind:q<0∨q=0∨0<q)with h|h|h
 ·rw[dJ h];exact gh (hZ h)
 ·rw[h,dV];exact da
 ·rw[dp h];exact dk (hZ h)
def addS(s t d:Int):Int:=bif t==0||s==t then s else bif s==0 then t else s*d
theorem Ge(x y:RE):sg (x+y)=addS (sg x) (sg y) (sg (x*x-y*y)):=by
 rw[←GO,dh]
 rcases bg x with⟨h,e⟩|⟨h,e⟩|⟨h,e⟩<;>rw[e]
 ·rcases bg y with⟨h',e'⟩|⟨h',e'⟩|⟨h',e'⟩<;>rw[e']
  ·exact dk (QR _ _ h h')
  ·rw[h',add_zero,e];rfl
  ·rw[dk (Q2 _ _ h h')]
   show _=1*(_*1)
   omega
 ·rcases bg y with⟨h',e'⟩|⟨h',e'⟩|⟨h',e'⟩<;>rw[e',h,zero_add,e']<;>rfl
 ·rcases bg y with⟨h',e'⟩|⟨h',e'⟩|⟨h',e'⟩<;>rw[e']
  ·rw[gh (RW _ _ h h')]
   show _= -1*(_* -1)
   omega
  ·rw[h',add_zero,e];rfl
  ·exact gh (ZQ _ _ h h')
theorem X7(x:RE): -1≤sg x∧sg x≤1:=by rcases bg x with⟨_,e⟩|⟨_,e⟩|⟨_,e⟩<;>rw[e]<;>omega
end RE
end
def uA:Nat→Nat→Nat
 |0,_=>0
 |f+1,n=>bif decide (n=0)then 0 else bif decide ((2*uA f (n/4)+1)*(2*uA f (n/4)+1)≤n)then 2*uA f (n/4)+1 else 2*uA f (n/4)
def Ot(n:Nat):Nat:=uA (n.log2+1) n
theorem IP:∀(f n:Nat),n<2^f→uA f n*uA f n≤n∧n<(uA f n+1)*(uA f n+1)
 |0,n,h=>by
  have:n=0:=by simpa using h
  subst this
  exact⟨ak9 _,by decide⟩
 |f+1,n,h=>by
  rcases alY n with h0|h0
  ·subst h0
   show uA (f+1) 0*uA (f+1) 0≤0∧_
   exact⟨ak9 _,by show 0<(0+1)*(0+1);decide⟩
  ·have h4:n/4<2^f:=by
    rw[Nat.pow_succ]at h
    omega
   obtain⟨h1,h2⟩:=IP f (n/4) h4
   simp only[uA]
   rw[ak5 (show ¬n=0 by omega)]
   generalize uA f (n/4)=s at h1 h2
   have e1:(2*s)*(2*s)=4*(s*s):=by grind
   have e2:(2*s+1+1)*(2*s+1+1)=4*((s+1)*(s+1)):=by grind
   by_cases hc:(2*s+1)*(2*s+1)≤n
   ·rw[ak3 hc]
    exact⟨hc,by show n<(2*s+1+1)*(2*s+1+1);rw[e2];omega⟩
   ·rw[ak5 hc]
    exact⟨by show(2*s)*(2*s)≤n;rw[e1];omega,by show n<(2*s+1)*(2*s+1);omega⟩
theorem Vm(n:Nat):Ot n*Ot n≤n∧n<(Ot n+1)*(Ot n+1):=IP _ n Nat.lt_log2_self
def bK(z:Int):Int:=(Ot z.toNat:Int)
theorem gf{z:Int}(h:0≤z):0≤bK z∧bK z*bK z≤z∧z<(bK z+1)*(bK z+1):=by
 obtain⟨h1,h2⟩:=Vm z.toNat
 grind [bK]
theorem sV{a b:Int}(ha:0≤a)(h:a≤b):a*a≤b*b:=ani h h ha (by omega)
theorem sq_lt{a b:Int}(hb:0≤b)(h:a*a<b*b):a<b:=by
 apply aln
 intro hc
 have:=sV hb (show b≤a by omega)
 omega
theorem UH{z s:Int}(h0:0≤s)(h1:s*s≤z)(h2:z<(s+1)*(s+1)):bK z=s:=by
 obtain⟨g0,g1,g2⟩:=gf (show 0≤z by have:=sV (a:=0) (by omega) h0;omega)
 have a1:=sq_lt (b:=s+1) (a:=bK z) (by omega) (by omega)
 have a2:=sq_lt (b:=bK z+1) (a:=s) (by omega) (by omega)
 omega
theorem QT{a x s:Int}(hx:0<x)(_hs:0≤s)(h1:s*s≤a):s≤(x+a/x)/2:=by
 have hq:=alT a x
 have hm:=alM a hx
 apply aln
 intro hc
 have h2:a/x≤2*s-x-1:=by omega
 have h3:x*(a/x)≤x*(2*s-x-1):=alb h2 (by omega)
 have h4:0≤(s-x)*(s-x):=by
  rcases Int.le_total 0 (s-x)with h|h
  ·exact al1 h h
  ·exact Int.mul_nonneg_of_nonpos_of_nonpos h h
 grind
theorem xi{a x s:Int}(hx:0<x)(hs:s≤x)(_h1:s*s≤a)(h2:a<(s+1)*(s+1))(h3:0≤s)(h:x≤(x+a/x)/2):x=s:=by
 have hq:=alT a x
 have hm:=al9 a (show x≠0 by omega)
 have h4:x≤a/x:=by omega
 have h5:x*x≤x*(a/x):=alb h4 (by omega)
 have:=sq_lt (a:=x) (b:=s+1) (by omega) (by omega)
 omega
def fY(x:BI):BI:=bif x.1 then(false,[])else ai (bK (ae x))
def vn(x:BI):Int:=bif x.1 then 7 else 0
def wi:List En:=[⟨210,pI,ky⟩,⟨172,ro,mU⟩,⟨215,pi,kC⟩,⟨269,yu,sA⟩,⟨341,AY,xG⟩]
def abb:NT:=[((351,25),{keep:=[1,2,5,6],hl:=6})]
def It:Ctx:=CX (ens wi) abb
def m8(x:Bool×List Int)(b4_0:Bool)(b4_1:List Int):Cfg:=⟨351,[.blk 0],[(1,.box 0 0),(2,.box 1 0),(5,.box 4 0),(6,.box 5 0)],[.box 29 [SB x.1,.d aom x.2],.box 29 [SB false,.nil],.gone,.row 225 aoo ([1]),.box 29 [SB b4_0,.d aom b4_1],.box 29 [SB ((ai (2:Int)).1),.d aom ((ai (2:Int)).2)]],0,[]⟩
def I1(x:Bool×List Int)(k:KT):Option (List RV):=match x.1 with|true=>some [RV.d y2Y (false,[]),RV.d aon 7]|false=>(match(x.2.length:Int)==0 with|true=>some [RV.d y2Y (false,[]),RV.d aon 0]|false=>(og (decide ((0:Int)≤i64.wrap (Int.tdiv (i64.wrap ((x.2.length:Int)+1)) 2)∧(i64.wrap (Int.tdiv (i64.wrap ((x.2.length:Int)+1)) 2))*((4:Nat):Int)≤140737488355328∧i64.wrap (Int.tdiv (i64.wrap ((x.2.length:Int)+1)) 2)≤140737488355328)) (og (decide (((List.replicate (i64.wrap (Int.tdiv (i64.wrap ((x.2.length:Int)+1)) 2)).toNat (0:Int)).length+([1]).length)*4≤140737488355328∧(List.replicate (i64.wrap (Int.tdiv (i64.wrap ((x.2.length:Int)+1)) 2)).toNat (0:Int)).length+([1]).length≤140737488355328)) (og (decide (aQ ((List.replicate (i64.wrap (Int.tdiv (i64.wrap ((x.2.length:Int)+1)) 2)).toNat (0:Int))++([1])))) (og (decide (aG (2:Int))) (k 25 (m8 x ((ai (ce false (val ((List.replicate (i64.wrap (Int.tdiv (i64.wrap ((x.2.length:Int)+1)) 2)).toNat (0:Int))++([1]))))).1) ((ai (ce false (val ((List.replicate (i64.wrap (Int.tdiv (i64.wrap ((x.2.length:Int)+1)) 2)).toNat (0:Int))++([1]))))).2))))))))
theorem P1(x:Bool×List Int):RS It 351 [.d y2Y x] (I1 x):=rsX
def uB(x:Bool×List Int)(b4_0:Bool)(b4_1:List Int)(k:KT):Option (List RV):=og (decide (fB x (b4_0,b4_1))) (ct (og (decide (okI (b4_0,b4_1)∧okI (ai (ae x/ae (b4_0,b4_1))))) (ct (og (decide (fB (ai (ae (b4_0,b4_1)+ae (ai (ae x/ae (b4_0,b4_1))))) (ai (2:Int)))) (dup (.b .l .l) (og (decide (okI (ai (ae (ai (ae (b4_0,b4_1)+ae (ai (ae x/ae (b4_0,b4_1)))))/ae (ai (2:Int))))∧okI (b4_0,b4_1))) (match decide ((cr (ae (ai (ae (ai (ae (b4_0,b4_1)+ae (ai (ae x/ae (b4_0,b4_1)))))/ae (ai (2:Int))))) (ae (b4_0,b4_1)))≥0)with|true=>some [RV.d y2Y (b4_0,b4_1),RV.d aon 0]|false=>k 25 (m8 x ((ai (ae (ai (ae (b4_0,b4_1)+ae (ai (ae x/ae (b4_0,b4_1)))))/ae (ai (2:Int)))).1) ((ai (ae (ai (ae (b4_0,b4_1)+ae (ai (ae x/ae (b4_0,b4_1)))))/ae (ai (2:Int)))).2)))))) (dup (.b (.b .l .l) (.b .l .l)) (og (decide (fB (ai (ae (b4_0,b4_1)+ae (ai (ae x/ae (b4_0,b4_1))))) (ai (2:Int)))) (og (decide (okI (ai (ae (ai (ae (b4_0,b4_1)+ae (ai (ae x/ae (b4_0,b4_1)))))/ae (ai (2:Int))))∧okI (b4_0,b4_1))) (match decide ((cr (ae (ai (ae (ai (ae (b4_0,b4_1)+ae (ai (ae x/ae (b4_0,b4_1)))))/ae (ai (2:Int))))) (ae (b4_0,b4_1)))≥0)with|true=>some [RV.d y2Y (b4_0,b4_1),RV.d aon 0]|false=>k 25 (m8 x ((ai (ae (ai (ae (b4_0,b4_1)+ae (ai (ae x/ae (b4_0,b4_1)))))/ae (ai (2:Int)))).1) ((ai (ae (ai (ae (b4_0,b4_1)+ae (ai (ae x/ae (b4_0,b4_1)))))/ae (ai (2:Int)))).2)))))))) (dup (.b .l .l) (ct (og (decide (okI (b4_0,b4_1)∧okI (ai (ae x/ae (b4_0,b4_1))))) (dup (.b .l .l) (og (decide (fB (ai (ae (b4_0,b4_1)+ae (ai (ae x/ae (b4_0,b4_1))))) (ai (2:Int)))) (og (decide (okI (ai (ae (ai (ae (b4_0,b4_1)+ae (ai (ae x/ae (b4_0,b4_1)))))/ae (ai (2:Int))))∧okI (b4_0,b4_1))) (match decide ((cr (ae (ai (ae (ai (ae (b4_0,b4_1)+ae (ai (ae x/ae (b4_0,b4_1)))))/ae (ai (2:Int))))) (ae (b4_0,b4_1)))≥0)with|true=>some [RV.d y2Y (b4_0,b4_1),RV.d aon 0]|false=>k 25 (m8 x ((ai (ae (ai (ae (b4_0,b4_1)+ae (ai (ae x/ae (b4_0,b4_1)))))/ae (ai (2:Int)))).1) ((ai (ae (ai (ae (b4_0,b4_1)+ae (ai (ae x/ae (b4_0,b4_1)))))/ae (ai (2:Int)))).2))))))) (og (decide (okI (b4_0,b4_1)∧okI (ai (ae x/ae (b4_0,b4_1))))) (og (decide (fB (ai (ae (b4_0,b4_1)+ae (ai (ae x/ae (b4_0,b4_1))))) (ai (2:Int)))) (og (decide (okI (ai (ae (ai (ae (b4_0,b4_1)+ae (ai (ae x/ae (b4_0,b4_1)))))/ae (ai (2:Int))))∧okI (b4_0,b4_1))) (match decide ((cr (ae (ai (ae (ai (ae (b4_0,b4_1)+ae (ai (ae x/ae (b4_0,b4_1)))))/ae (ai (2:Int))))) (ae (b4_0,b4_1)))≥0)with|true=>some [RV.d y2Y (b4_0,b4_1),RV.d aon 0]|false=>k 25 (m8 x ((ai (ae (ai (ae (b4_0,b4_1)+ae (ai (ae x/ae (b4_0,b4_1)))))/ae (ai (2:Int)))).1) ((ai (ae (ai (ae (b4_0,b4_1)+ae (ai (ae x/ae (b4_0,b4_1)))))/ae (ai (2:Int)))).2)))))))))
theorem zb(x:Bool×List Int)(b4_0:Bool)(b4_1:List Int):RN It 25 (m8 x b4_0 b4_1) (uB x b4_0 b4_1):=rnX
def ads:NT:=[((354,16),{keep:=[1,4,5],hl:=1})]
def I7:Ctx:=CX (ens wi) ads
def vS(x:Bool×List Int)(s4 s5:Int):Cfg:=⟨354,[.blk 0,.seq 27],[(1,.box 0 0),(4,.d (.int .u64) s4),(5,SI s5)],[.box 29 [SB x.1,.d aom x.2]],0,[]⟩
def In(x:Bool×List Int)(k:KT):Option (List RV):=og (decide (aG ((-9223372036854775808):Int))) (og (decide (okI x∧okI (ai ((-9223372036854775808):Int)))) (dup (.b .l .l) (match decide ((cr (ae x) (ae (ai ((-9223372036854775808):Int))))<0)with|true=>some [RV.d aon 0,RV.d .bool false]|false=>(og (decide (aG (9223372036854775807:Int))) (og (decide (okI x∧okI (ai (9223372036854775807:Int)))) (match decide ((cr (ae x) (ae (ai (9223372036854775807:Int))))>0)with|true=>some [RV.d aon 0,RV.d .bool false]|false=>k 16 (vS x 0 (i64.wrap ((x.2.length:Int)-1)))))))))
theorem Rf(x:Bool×List Int):RS I7 354 [.d y2Y x] (In x):=rsX
def uQ(x:Bool×List Int)(s4 s5:Int)(k:KT):Option (List RV):=match decide (s5≥0)with|true=>(match aR x.2 s5 with|some x1=>k 16 (vS x (u64.wrap ((u64.wrap (s4*1000000000))+(u64.wrap x1))) (i64.wrap (s5-1)))|none=>none)|false=>(match x.1 with|true=>some [RV.d aon (i64.wrap (u64.wrap (0-s4))),RV.d .bool true]|false=>some [RV.d aon (i64.wrap s4),RV.d .bool true])
theorem zF(x:Bool×List Int)(s4 s5:Int):RN I7 16 (vS x s4 s5) (uQ x s4 s5):=rnX
theorem OA(x:BI)(hx:okI x)(h0:0<ae x):∀(m:Nat) (X:Int),X.toNat=m→0<X→bK (ae x)≤X→szI X≤900000→It.Runs 25 (m8 x (ai X).1 (ai X).2) [.d y2Y (ai (bK (ae x))),.d aon 0]:=by
 intro m
 induction m using Nat.strongRecOn with
 |ind m ih=>
  intro X hm hX hs hsz
  obtain⟨g0,g1,g2⟩:=gf (alK h0)
  have hq0:0≤ae x/X:=al4 (by omega) (by omega)
  have hq1:ae x/X≤ae x:=amW _ (by omega)
  have oX:okI (ai X):=aT (by omega)
  have sq:szI (ae x/X)≤1000000:=alg (dB (by omega)) (iO hx)
  have p1:fB x (ai X):=⟨hx,oX,by rw[dec_enc];exact hX⟩
  have ssum:szI (X+ae x/X)≤1000000:=by
   have b1:=ng hsz
   have b2:=ng (iO hx)
   have e:pw 1000000=pw 900000*pw 100000:=by rw[←fD]
   have p9:(1000:Int)≤pw 100000:=by
    have:pw 100000=pw 99999*1000000000:=b9 99999
    have:=cp 99999
    omega
   have p8:=cp 900000
   have h8:pw 900000*1000≤pw 900000*pw 100000:=alb p9 (by omega)
   rcases alz X 2 with hX1|hX1
   ·-- X=1:then the number is less than 4
    have:X=1:=by omega
    subst this
    have:bK (ae x)≤1:=hs
    have h4:ae x<4:=by
     have:=sV (a:=bK (ae x)+1) (b:=2) (by omega) (by omega)
     omega
    refine fu ?_ ?_<;>(rw[e,Int.ediv_one];omega)
   ·have hq2:ae x/X≤ae x/2:=by
     have:=Int.ediv_mul_le (ae x) (show X≠0 by omega)
     have h2:ae x/X*2≤ae x/X*X:=alb hX1 hq0
     omega
    refine fu ?_ ?_<;>(rw[e]at b2 ⊢;omega)
  have o1:okI (ai X)∧okI (ai (ae x/X)):=⟨oX,aT sq⟩
  have p2:fB (ai (X+ae x/X)) (ai 2):=⟨aT ssum,by decide,by rw[dec_enc];decide⟩
  have hn:=QT hX g0 g1
  have o2:okI (ai ((X+ae x/X)/2))∧okI (ai X):=⟨aT (alg (dB (by omega)) ssum),oX⟩
  by_cases hc:X≤(X+ae x/X)/2
  ·have hXs:=xi hX hs g1 g2 g0 hc
   refine zb _ _ _ ⟨0,?_⟩
   unfold uB
   simp only[cU,eZ]
   have e:∀z:Int,((ai z).1,(ai z).2)=ai z:=fun z=>rfl
   simp only[e,dec_enc,ak3 p1,ak3 o1,ak3 p2,ak3 o2]
   have hg:decide (cr ((X+ae x/X)/2) X≥0)=true:=by
    rcases Int.lt_or_eq_of_le hc with h|h
    ·rw[cL h];rfl
    ·rw[←h,dW];rfl
   rw[hg,hXs]
  ·obtain⟨n,hN⟩:=ih ((X+ae x/X)/2).toNat (by omega) ((X+ae x/X)/2) rfl (by
    rcases alz 0 (bK (ae x))with h|h
    ·omega
    ·exfalso
     have:bK (ae x)=0:=by omega
     rw[this]at g2
     omega) hn (alg (dB (by omega)) hsz)
   refine zb _ _ _ ⟨n,?_⟩
   unfold uB
   simp only[cU,eZ]
   have e:∀z:Int,((ai z).1,(ai z).2)=ai z:=fun z=>rfl
   simp only[e,dec_enc,ak3 p1,ak3 o1,ak3 p2,ak3 o2]
   rw[db (by omega)]
   exact hN
def XO:Cn 351 [y2Y]:=cn fun(x:Bool×List Int)=>lf (okI x) [.d y2Y (fY x),.d aon (vn x)] fun h=>by
 refine c7 wi (show It.Res _ _ _ from ?_)
 obtain⟨x0,x1,x2⟩:=cE h
 have hl:=h.2.2
 cases hn:x.1
 ·by_cases hz:x.2=[]
  ·refine P1 _ ⟨0,?_⟩
   unfold I1 fY vn
   have:ae x=0:=by unfold ae;rw[hn,hz];rfl
   rw[hn,hz,this]
   rfl
  ·have hp:0<val x.2:=eU h.1 hz
   have hd:ae x=val x.2:=by unfold ae;rw[hn];rfl
   have hlen:=alF.2 hz
   have hk:i64.wrap (Int.tdiv (i64.wrap ((x.2.length:Int)+1)) 2)=(((x.2.length+1)/2:Nat):Int):=by
    rw[bW (by omega),ii (by omega),aS (by omega) (by omega)]
    omega
   have hv:val (List.replicate ((x.2.length+1)/2) 0++[1])=pw ((x.2.length+1)/2):=by
    rw[dA,gR,anF]
    simp[val]
   have hL:aQ (List.replicate ((x.2.length+1)/2) 0++[1]):=by
    refine⟨fun y hy=>?_,by simp;omega⟩
    rcases alO.1 hy with hy|hy
    ·have:=List.eq_of_mem_replicate hy;omega
    ·simp at hy;omega
   have hpos:=cp ((x.2.length+1)/2)
   obtain⟨n,hN⟩:=OA x h (by omega) _ (pw ((x.2.length+1)/2)) rfl hpos (by
     obtain⟨g0,g1,g2⟩:=gf (show 0≤ae x by omega)
     have hlt:=bZ h.1.1
     have hm:=dl (show x.2.length≤(x.2.length+1)/2+(x.2.length+1)/2 by omega)
     rw[fD]at hm
     have:=sq_lt (a:=bK (ae x)) (b:=pw ((x.2.length+1)/2)) (by omega) (by omega)
     omega) (fu (k:=900000) (by have:=cp 900000;omega) (by
      have:=dl (show(x.2.length+1)/2+1≤900000 by omega)
      rw[b9]at this
      omega))
   refine P1 _ ⟨n,?_⟩
   unfold I1 fY vn
   simp only[hk]
   rw[hn,show((x.2.length:Int)==0)=false by simp;omega]
   simp only[amK]
   rw[ak3 (show(0:Int)≤(((x.2.length+1)/2:Nat):Int)∧(((x.2.length+1)/2:Nat):Int)*((4:Nat):Int)≤140737488355328∧(((x.2.length+1)/2:Nat):Int)≤140737488355328 by omega)]
   rw[ak3 (show((List.replicate ((x.2.length+1)/2) (0:Int)).length+([1]:List Nat).length)*4≤140737488355328∧(List.replicate ((x.2.length+1)/2) (0:Int)).length+([1]:List Nat).length≤140737488355328 by simp;omega)]
   rw[ak3 hL,ak3 (show aG 2 by decide),hv]
   exact hN
 ·refine P1 _ ⟨0,?_⟩
  unfold I1 fY vn
  rw[hn]
  rfl
theorem Cl(x:BI)(hx:okI x)(hv:val x.2≤9223372036854775808):∀(i:Nat),i≤x.2.length→I7.Runs 16 (vS x (val (x.2.drop i)) ((i:Int)-1)) [.d aon (i64.wrap (bif x.1 then u64.wrap (0-val x.2)else val x.2)),.d .bool true]
 |0,_=>by
  refine zF _ _ _ ⟨0,?_⟩
  unfold uQ
  rw[ak5 (by omega),amL]
  cases x.1<;>rfl
 |i+1,hi=>by
  obtain⟨n,ih⟩:=Cl x hx hv i (by omega)
  have h0:=hx.2.2
  have hlim:=hx.1.1
  have hd:x.2.drop i=x.2[i]::x.2.drop (i+1):=gA (by omega)
  have hle:∀j,val (x.2.drop j)≤9223372036854775808∧0≤val (x.2.drop j):=fun j=>by
   have l1:Lim (x.2.drop j):=fun y hy=>hlim y (ank hy)
   have l2:Lim (x.2.take j):=fun y hy=>hlim y (anj hy)
   have:=dA (x.2.take j) (x.2.drop j)
   rw[amt]at this
   have n1:=aP l1
   have n2:=aP l2
   have p:=cp (x.2.take j).length
   have:val (x.2.drop j)≤pw (x.2.take j).length*val (x.2.drop j):=by
    have:=alf (show 1≤pw (x.2.take j).length by omega) n1
    omega
   omega
  have hb:=hlim x.2[i] (alE _)
  have hv1:=hle i
  have hv2:=hle (i+1)
  rw[hd]at hv1 ih
  simp only[val]at hv1 ih
  refine zF _ _ _ ⟨n,?_⟩
  unfold uQ
  rw[show(((i+1:Nat):Int)-1)=(i:Int) by omega,ak3 (by omega),ao,ak4 (by omega)]
  dsimp only
  rw[bj (x:=val (x.2.drop (i+1))*1000000000) (by omega) (by omega),bj (x:=x.2[i]) (by omega) (by omega),bj (by omega) (by omega),aS (by omega) (by omega)]
  rw[show val (x.2.drop (i+1))*1000000000+x.2[i]=x.2[i]+1000000000*val (x.2.drop (i+1)) by omega]
  exact ih
def Wq:Cn 354 [y2Y]:=cn fun(x:Bool×List Int)=>lf (okI x) [.d aon (bif decide (aG (ae x))then ae x else 0),.d .bool (decide (aG (ae x)))] fun h=>by
 refine c7 wi (show I7.Res _ _ _ from ?_)
 obtain⟨x0,x1,x2⟩:=cE h
 have o1:okI x∧okI (ai (-9223372036854775808)):=⟨h,by decide⟩
 have o2:okI x∧okI (ai 9223372036854775807):=⟨h,by decide⟩
 have hl:=h.2.2
 by_cases h1:ae x< -9223372036854775808
 ·refine Rf _ ⟨0,?_⟩
  unfold In
  simp only[eZ,dec_enc,ak3 o1]
  rw[ak3 (show aG (-9223372036854775808) by decide),db h1,ak5 (show ¬aG (ae x) from fun g=>by have:=g.1;omega)]
  rfl
 ·have c1:decide (cr (ae x) (-9223372036854775808)<0)=false:=by
   rcases Int.lt_or_eq_of_le (show-9223372036854775808≤ae x by omega)with g|g
   ·rw[cL g];rfl
   ·rw[←g,dW];rfl
  by_cases h2:9223372036854775807<ae x
  ·refine Rf _ ⟨0,?_⟩
   unfold In
   simp only[eZ,dec_enc,ak3 o1,ak3 o2]
   rw[ak3 (show aG (-9223372036854775808) by decide),c1,ak3 (show aG 9223372036854775807 by decide),cL h2,ak5 (show ¬aG (ae x) from fun g=>by have:=g.2;omega)]
   rfl
  ·have c2:decide (cr (ae x) 9223372036854775807>0)=false:=by
    rcases Int.lt_or_eq_of_le (show ae x≤9223372036854775807 by omega)with g|g
    ·rw[db g];rfl
    ·rw[g,dW];rfl
   have hp:aG (ae x):=⟨by omega,by omega⟩
   have hvv:val x.2≤9223372036854775808:=by
    have g1:=hp.1
    have g2:=hp.2
    have hd:ae x=bif x.1 then-val x.2 else val x.2:=rfl
    cases hb:x.1<;>rw[hb]at hd<;>simp only[cond_true,cond_false]at hd<;>omega
   obtain⟨n,hN⟩:=Cl x h hvv x.2.length (ak9 _)
   refine Rf _ ⟨n,?_⟩
   unfold In
   simp only[eZ,dec_enc,ak3 o1,ak3 o2]
   rw[ak3 (show aG (-9223372036854775808) by decide),c1,ak3 (show aG 9223372036854775807 by decide),c2,ak3 hp]
   rw[anv]at hN
   rw[aS (by omega) (by omega)]
   refine hN.trans ?_
   have hr:i64.wrap (bif x.1 then u64.wrap (0-val x.2)else val x.2)=ae x:=by
    have hd:ae x=bif x.1 then-val x.2 else val x.2:=rfl
    have:=hp.1
    have:=hp.2
    cases hb:x.1<;>rw[hb]at hd<;>simp only[cond_true,cond_false]at hd ⊢
    ·rw[aS (by omega) (by omega)];omega
    ·have:=x1 hb
     rw[alV,IntKind.wrap_i64]
     omega
   rw[hr]
   rfl
def sH(a:List Int):Prop:=aQ a∧val a<18446744073709551616
instance (a:List Int):Decidable (sH a):=by unfold sH;infer_instance
def rg(a b:List Int):Prop:=(can a∧a.length≤1000000000)∧(can b∧b.length≤1000000000)
instance (a b:List Int):Decidable (rg a b):=by unfold rg;infer_instance
def jr(l:List Int):Prop:=Lim l∧l.length≤10000000
instance (l:List Int):Decidable (jr l):=by unfold jr;infer_instance
theorem cD{n:Nat}(h:(ag n).length≤1000000000):aQ (ag n):=⟨b8 n,h⟩
theorem bV{v:Int}(h:0≤v):val (ag v.toNat)=v:=by grind [bh]
theorem cC{v:Int}{k:Nat}(h0:0≤v)(h:v<pw k):(ag v.toNat).length≤k:=dt (by omega)
def nZ:List En:=[]
def S7:NT:=[((263,4),{keep:=[0],pure_:=[(0,.int .u32)],hl:=0})]
def BY:Ctx:=CX (ens nZ) S7
def vL(s0:List Int):Cfg:=⟨263,[.blk 0,.seq 13],[(0,.d aom s0)],[],0,[]⟩
def adr(a:List Int)(k:KT):Option (List RV):=k 4 (vL a)
theorem acf(a:List Int):RS BY 263 [.d aom a] (adr a):=rsX
def un(s0:List Int)(k:KT):Option (List RV):=match decide ((s0.length:Int)>0)with|true=>(match aR s0 (i64.wrap ((s0.length:Int)-1))with|some x1=>(match x1==0 with|true=>(og (decide ((0:Int)≤0∧0≤i64.wrap ((s0.length:Int)-1)∧i64.wrap ((s0.length:Int)-1)≤(s0.length:Int))) (k 4 (vL ((s0.take (i64.wrap ((s0.length:Int)-1)).toNat).drop (0:Int).toNat))))|false=>some [RV.d aom s0])|none=>none)|false=>some [RV.d aom s0]
theorem uu(s0:List Int):RN BY 4 (vL s0) (un s0):=rnX
def Ud:NT:=[((265,8),{keep:=[0,3,4],hl:=0})]
def B4:Ctx:=CX (ens nZ) Ud
def wg(a:List Int)(s3 s4:Int):Cfg:=⟨265,[.blk 0,.seq 19],[(0,.d aom a),(3,.d (.int .u64) s3),(4,SI s4)],[],0,[]⟩
def N7(a:List Int)(k:KT):Option (List RV):=k 8 (wg a 0 (i64.wrap ((a.length:Int)-1)))
theorem aaI(a:List Int):RS B4 265 [.d aom a] (N7 a):=rsX
def u5(a:List Int)(s3 s4:Int)(k:KT):Option (List RV):=match decide (s4≥0)with|true=>(match aR a s4 with|some x1=>k 8 (wg a (u64.wrap ((u64.wrap (s3*1000000000))+(u64.wrap x1))) (i64.wrap (s4-1)))|none=>none)|false=>some [RV.d (.int .u64) s3]
theorem zJ(a:List Int)(s3 s4:Int):RN B4 8 (wg a s3 s4) (u5 a s3 s4):=rnX
def Vu:NT:=[((182,6),{keep:=[0,3],own:=[(3,225,.int .u32)],hl:=1})]
def BB:Ctx:=CX (ens nZ) Vu
def wu(s0:Int)(r0:List Int):Cfg:=⟨182,[.blk 0,.seq 17],[(0,.d (.int .u64) s0),(3,.own 0)],[.row 225 aoo r0],0,[]⟩
def acp(u:Int)(k:KT):Option (List RV):=k 6 (wu u ([]))
theorem adx(u:Int):RS BB 182 [.d (.int .u64) u] (acp u):=rsX
def u4(s0:Int)(r0:List Int)(k:KT):Option (List RV):=match decide (s0>0)with|true=>(og (decide ((r0.length+([u32.wrap (Int.tmod s0 1000000000)]).length)*4≤140737488355328∧r0.length+([u32.wrap (Int.tmod s0 1000000000)]).length≤140737488355328)) (k 6 (wu (u64.wrap (Int.tdiv s0 1000000000)) (r0++([u32.wrap (Int.tmod s0 1000000000)])))))|false=>some [RV.new 225 aoo r0]
theorem zl(s0:Int)(r0:List Int):RN BB 6 (wu s0 r0) (u4 s0 r0):=rnX
def TZ:NT:=[((168,22),{keep:=[0,1,5],hl:=0})]
def BZ:Ctx:=CX (ens nZ) TZ
def sS(a b:List Int)(s5:Int):Cfg:=⟨168,[.blk 0,.seq 47],[(0,.d aom a),(1,.d aom b),(5,SI s5)],[],0,[]⟩
def F7(a b:List Int)(k:KT):Option (List RV):=match(a.length:Int) !=(b.length:Int)with|true=>(match decide ((a.length:Int)<(b.length:Int))with|true=>some [RV.d aon (-1)]|false=>some [RV.d aon 1])|false=>k 22 (sS a b (i64.wrap ((a.length:Int)-1)))
theorem OO(a b:List Int):RS BZ 168 [.d aom a,.d aom b] (F7 a b):=rsX
def kX(a b:List Int)(s5:Int)(k:KT):Option (List RV):=match decide (s5≥0)with|true=>(match aR a s5 with|some x1=>(match aR b s5 with|some x2=>(match decide (x1<x2)with|true=>some [RV.d aon (-1)]|false=>(match aR a s5 with|some x3=>(match aR b s5 with|some x4=>(match decide (x3>x4)with|true=>some [RV.d aon 1]|false=>k 22 (sS a b (i64.wrap (s5-1))))|none=>none)|none=>none))|none=>none)|none=>none)|false=>some [RV.d aon 0]
theorem nM(a b:List Int)(s5:Int):RN BZ 22 (sS a b s5) (kX a b s5):=rnX
theorem JT(l:List Int)(hl:Lim l)(hs:l.length≤1000000000):∀(n:Nat),n≤l.length→(∀j (hj:j<l.length),n≤j→l[j]=0)→BY.Runs 4 (vL (l.take n)) [.d aom (ag (val l).toNat)]:=by
 intro n
 induction n with
 |zero=>
  intro _ h
  refine uu _ ⟨0,?_⟩
  rw[←mO hl (anC _) h (.inl rfl)]
  rfl
 |succ n ih=>
  intro hn h
  have hlen:(l.take (n+1)).length=n+1:=by rw[alP,alR hn]
  have hget:(l.take (n+1))[n]?=some l[n]:=by rw[List.getElem?_take_of_lt (by omega),ak4 (by omega)]
  by_cases hz:l[n]=0
  ·obtain⟨q,hq⟩:=ih (by omega) fun j hj hk=>by
    rcases Nat.eq_or_lt_of_le hk with e|e
    ·subst e;exact hz
    ·exact h j hj e
   refine uu _ ⟨q,?_⟩
   unfold un
   rw[hlen,ak3 (by omega),Kr (by omega) (by omega),ao,show n+1-1=n from rfl,hget]
   dsimp only
   rw[hz,ak3 (show(0:Int)≤0∧(0:Int)≤(n:Int)∧(n:Int)≤((n+1:Nat):Int) by omega),aB,aoe,alR (by omega)]
   exact hq
  ·refine uu _ ⟨0,?_⟩
   unfold un
   rw[hlen,ak3 (by omega),Kr (by omega) (by omega),ao,show n+1-1=n from rfl,hget]
   dsimp only
   rw[show(l[n]==0)=false by simpa using hz,←mO hl hn h (.inr ⟨Nat.lt_of_succ_le hn,hz⟩)]
def wG:Cn 263 [aom]:=cn fun(a:List Int)=>lf (aQ a) [.d aom (ag (val a).toNat)] fun h=>by
 refine c7 nZ (show BY.Res _ _ _ from ?_)
 obtain⟨q,hq⟩:=JT a h.1 h.2 a.length (ak9 _) (fun j hj hk=>by omega)
 rw[amn]at hq
 exact acf _ ⟨q,hq⟩
theorem Kh(u:Nat):∀(r:List Int),(u:Int)<18446744073709551616→r.length+3≤1000+3-(ag u).length→BB.Runs 6 (wu (u:Int) r) [.new 225 aoo (r++ag u)]:=by
 induction u using pU with
 |h0=>
  intro r _ _
  refine zl _ _ ⟨0,?_⟩
  unfold u4
  rw[fJ,alB]
  rfl
 |h1 n hn ih=>
  intro r hu hr
  rw[iN hn]at hr
  simp only[alj]at hr
  obtain⟨q,hq⟩:=ih (r++[((n%1000000000:Nat):Int)]) (by omega) (by rw[alC];simp only[alt];omega)
  refine zl _ _ ⟨q,?_⟩
  unfold u4
  rw[ak3 (by omega),jx (by omega),ii (by omega),bj (x:=(n:Int)/1000000000) (by omega) (by omega),cY (x:=(n:Int)%1000000000) (by omega) (by omega)]
  simp only[alt]
  rw[ZT (by omega) (by omega),iN hn]
  rw[show((n:Int)%1000000000)=((n%1000000000:Nat):Int) by omega,show((n:Int)/1000000000)=((n/1000000000:Nat):Int) by omega]
  rw[alu]at hq
  exact hq
def Ao:Cn 182 [(.int .u64)]:=cn fun(u:Int)=>lf (iI u) [.new 225 aoo (ag u.toNat)] fun h=>by
 refine c7 nZ (show BB.Res _ _ _ from ?_)
 have h0:=h.1
 have h1:=h.2
 have hl:=dt (n:=u.toNat) (k:=3) (anA (show(u.toNat:Int)<18446744073709551616 by omega) (by decide))
 obtain⟨q,hq⟩:=Kh u.toNat [] (by omega) (by simp;omega)
 rw[show((u.toNat:Nat):Int)=u by omega]at hq
 exact adx _ ⟨q,hq⟩
theorem z9(a:List Int)(h:sH a):∀(i:Nat),i≤a.length→B4.Runs 8 (wg a (val (a.drop i)) ((i:Int)-1)) [.d (.int .u64) (val a)]
 |0,_=>by
  refine zJ _ _ _ ⟨0,?_⟩
  unfold u5
  rw[ak5 (by omega),amL]
 |i+1,hi=>by
  obtain⟨n,ih⟩:=z9 a h i (by omega)
  have h0:=h.1.2
  have hlim:=h.1.1
  have hlt:=h.2
  have hd:a.drop i=a[i]::a.drop (i+1):=gA (by omega)
  have hle:∀j,val (a.drop j)≤val a∧0≤val (a.drop j):=fun j=>by
   have l1:Lim (a.drop j):=fun y hy=>hlim y (ank hy)
   have l2:Lim (a.take j):=fun y hy=>hlim y (anj hy)
   have:=dA (a.take j) (a.drop j)
   rw[amt]at this
   have n1:=aP l1
   have n2:=aP l2
   have p:=cp (a.take j).length
   have:val (a.drop j)≤pw (a.take j).length*val (a.drop j):=by
    have:=alf (show 1≤pw (a.take j).length by omega) n1
    omega
   omega
  have hb:=hlim a[i] (alE _)
  have hv1:=hle i
  have hv2:=hle (i+1)
  rw[hd]at hv1 ih
  simp only[val]at hv1 ih
  refine zJ _ _ _ ⟨n,?_⟩
  unfold u5
  rw[show(((i+1:Nat):Int)-1)=(i:Int) by omega,ak3 (by omega),ao,ak4 (by omega)]
  dsimp only
  rw[bj (x:=val (a.drop (i+1))*1000000000) (by omega) (by omega),bj (x:=a[i]) (by omega) (by omega),bj (by omega) (by omega),aS (by omega) (by omega)]
  rw[show val (a.drop (i+1))*1000000000+a[i]=a[i]+1000000000*val (a.drop (i+1)) by omega]
  exact ih
def Bo:Cn 265 [aom]:=cn fun(a:List Int)=>lf (sH a) [.d (.int .u64) (val a)] fun h=>by
 refine c7 nZ (show B4.Res _ _ _ from ?_)
 obtain⟨n,hn⟩:=z9 a h a.length (ak9 _)
 have h0:=h.1.2
 refine aaI _ ⟨n,?_⟩
 unfold N7
 rw[anv]at hn
 rw[aS (by omega) (by omega)]
 exact hn
theorem Kz(a b:List Int)(la:Lim a)(lb:Lim b)(hl:a.length=b.length)(hs:a.length≤1000000000):∀(n:Nat),n≤a.length→a.drop n=b.drop n→
  BZ.Runs 22 (sS a b ((n:Int)-1)) [.d aon (cr (val a) (val b))]:=by
 intro n
 induction n with
 |zero=>
  intro _ h
  refine nM _ _ _ ⟨0,?_⟩
  have e:val a=val b:=by simp only[amL]at h;rw[h]
  unfold kX
  rw[ak5 (by omega),e,dW]
 |succ n ih=>
  intro hn h
  have h1:n<a.length:=by omega
  have h2:n<b.length:=by omega
  rcases Int.lt_trichotomy a[n] b[n]with hc|hc|hc
  ·refine nM _ _ _ ⟨0,?_⟩
   have:=BU la lb h1 h2 h hc
   unfold kX
   rw[show((n+1:Nat):Int)-1=(n:Int) by omega,ak3 (by omega),ao,ao,ak4 h1,ak4 h2]
   dsimp only
   rw[ak3 hc,db (by omega)]
  ·obtain⟨q,hq⟩:=ih (by omega) (by rw[alm h1,alm h2,hc,h])
   refine nM _ _ _ ⟨q,?_⟩
   unfold kX
   rw[show((n+1:Nat):Int)-1=(n:Int) by omega,ak3 (by omega),ao,ao,ak4 h1,ak4 h2]
   dsimp only
   rw[ak5 (by omega),ak5 (by omega),aS (x:=(n:Int)-1) (by omega) (by omega)]
   exact hq
  ·refine nM _ _ _ ⟨0,?_⟩
   have:=BU lb la h2 h1 h.symm hc
   unfold kX
   rw[show((n+1:Nat):Int)-1=(n:Int) by omega,ak3 (by omega),ao,ao,ak4 h1,ak4 h2]
   dsimp only
   rw[ak5 (by omega),ak3 hc,cL (by omega)]
theorem Hk{a b:List Int}(ha:can a)(hb:can b)(h:a.length<b.length):val a<val b:=by
 have ea:=oS ha
 have eb:=oS hb
 have:=wd (a:=(val a).toNat) (b:=(val b).toNat) (by rw[←ea,←eb];exact h)
 omega
def yx:Cn 168 [aom,aom]:=cn fun(a b:List Int)=>lf (rg a b) [.d aon (cr (val a) (val b))] fun h=>by
 refine c7 nZ (show BZ.Res _ _ _ from ?_)
 obtain⟨⟨ha,sa⟩,hb,sb⟩:=h
 by_cases hl:a.length=b.length
 ·obtain⟨q,hq⟩:=Kz a b ha.1 hb.1 hl sa _ (ak9 _) (by rw[anv,hl,anv])
  refine OO _ _ ⟨q,?_⟩
  unfold F7
  rw[show((a.length:Int) !=(b.length:Int))=false by simp[hl],aS (x:=(a.length:Int)-1) (by omega) (by omega)]
  exact hq
 ·refine OO _ _ ⟨0,?_⟩
  unfold F7
  rw[show((a.length:Int) !=(b.length:Int))=true by simp;omega]
  dsimp only
  rcases Nat.lt_or_gt_of_ne hl with h1|h1
  ·have:=Hk ha hb h1
   rw[ak3 (by omega),db (by omega)]
  ·have:=Hk hb ha h1
   rw[ak5 (by omega),cL (by omega)]
def rG:List En:=enK wG::enK Ao::enF Bo::enF yx::nZ
def RD(neg:Bool)(l:List Int)(_k:KT):Option (List RV):=og (decide (aQ l)) (match neg with|true=>some [RV.d y2Y (decide (((ag (val l).toNat).length:Int)>0),ag (val l).toNat)]|false=>some [RV.d y2Y (false,ag (val l).toNat)])
def Vp:NT:=[((167,16),{keep:=[0,1,5,6,7],hl:=1})]
def xM:Ctx:=CX (ens rG) Vp
def kB(s0 s1 r0:List Int)(s6 s7:Int):Cfg:=⟨167,[.blk 0,.seq 37],[(0,.d aom s0),(1,.d aom s1),(5,.own 0),(6,.d aoo s6),(7,SI s7)],[.row 225 aoo r0],0,[]⟩
def EQ(a b:List Int)(k:KT):Option (List RV):=match decide ((a.length:Int)<(b.length:Int))with|true=>(og (decide ((0:Int)≤i64.wrap ((b.length:Int)+1)∧(i64.wrap ((b.length:Int)+1))*((4:Nat):Int)≤140737488355328∧i64.wrap ((b.length:Int)+1)≤140737488355328)) (k 16 (kB b a (List.replicate (i64.wrap ((b.length:Int)+1)).toNat (0:Int)) 0 0)))|false=>(og (decide ((0:Int)≤i64.wrap ((a.length:Int)+1)∧(i64.wrap ((a.length:Int)+1))*((4:Nat):Int)≤140737488355328∧i64.wrap ((a.length:Int)+1)≤140737488355328)) (k 16 (kB a b (List.replicate (i64.wrap ((a.length:Int)+1)).toNat (0:Int)) 0 0)))
theorem Pq(a b:List Int):RS xM 167 [.d aom a,.d aom b] (EQ a b):=rsX
def nV(s0 s1 r0:List Int)(s6 s7:Int)(k:KT):Option (List RV):=match decide (s7<(s0.length:Int))with|true=>(match aR s0 s7 with|some x1=>(match decide (s7<(s1.length:Int))with|true=>(match aR s1 s7 with|some x2=>(match aR r0 s7 with|some _=>(match true,r0[(s7).toNat]? with|true,some _=>k 16 (kB s0 s1 (r0.set ((s7).toNat) (Int.tmod (u32.wrap ((u32.wrap (s6+x1))+x2)) 1000000000)) (u32.wrap (Int.tdiv (u32.wrap ((u32.wrap (s6+x1))+x2)) 1000000000)) (i64.wrap (s7+1)))|_,_=>none)|none=>none)|none=>none)|false=>(match aR r0 s7 with|some _=>(match true,r0[(s7).toNat]? with|true,some _x2=>k 16 (kB s0 s1 (r0.set ((s7).toNat) (Int.tmod (u32.wrap (s6+x1)) 1000000000)) (u32.wrap (Int.tdiv (u32.wrap (s6+x1)) 1000000000)) (i64.wrap (s7+1)))|_,_=>none)|none=>none))|none=>none)|false=>(match aR r0 (s0.length:Int)with|some _=>(match true,r0[((s0.length:Int)).toNat]? with|true,some _x1=>(og (decide (aQ (r0.set (((s0.length:Int)).toNat) s6))) (some [RV.d aom (ag (val (r0.set (((s0.length:Int)).toNat) s6)).toNat)]))|_,_=>none)|none=>none)
theorem rC(s0 s1 r0:List Int)(s6 s7:Int):RN xM 16 (kB s0 s1 r0 s6 s7) (nV s0 s1 r0 s6 s7):=rnX
def Uy:NT:=[((169,10),{keep:=[0,1,5,6,7],hl:=1})]
def yc:Ctx:=CX (ens rG) Uy
def jD(a b:List Int)(s7:Int)(r0:List Int)(s6:Int):Cfg:=⟨169,[.blk 0,.seq 37],[(0,.d aom a),(1,.d aom b),(5,.own 0),(6,.d aoo s6),(7,SI s7)],[.row 225 aoo r0],0,[]⟩
def OU(a b:List Int)(k:KT):Option (List RV):=og (decide ((0:Int)≤(a.length:Int)∧(a.length:Int)*((4:Nat):Int)≤140737488355328∧(a.length:Int)≤140737488355328)) (k 10 (jD a b 0 (List.replicate ((a.length:Int)).toNat (0:Int)) 0))
theorem aaG(a b:List Int):RS yc 169 [.d aom a,.d aom b] (OU a b):=rsX
def iY(a b:List Int)(s7:Int)(r0:List Int)(s6:Int)(k:KT):Option (List RV):=match decide (s7<(a.length:Int))with|true=>(match aR a s7 with|some x1=>(match decide (s7<(b.length:Int))with|true=>(match aR b s7 with|some x2=>(match decide ((u32.wrap ((u32.wrap ((u32.wrap (x1+1000000000))-s6))-x2))≥1000000000)with|true=>(match aR r0 s7 with|some _=>(match true,r0[(s7).toNat]? with|true,some _x3=>k 10 (jD a b (i64.wrap (s7+1)) (r0.set ((s7).toNat) (u32.wrap ((u32.wrap ((u32.wrap ((u32.wrap (x1+1000000000))-s6))-x2))-1000000000))) 0)|_,_=>none)|none=>none)|false=>(match aR r0 s7 with|some _=>(match true,r0[(s7).toNat]? with|true,some _x3=>k 10 (jD a b (i64.wrap (s7+1)) (r0.set ((s7).toNat) (u32.wrap ((u32.wrap ((u32.wrap (x1+1000000000))-s6))-x2))) 1)|_,_=>none)|none=>none))|none=>none)|false=>(match decide ((u32.wrap ((u32.wrap (x1+1000000000))-s6))≥1000000000)with|true=>(match aR r0 s7 with|some _=>(match true,r0[(s7).toNat]? with|true,some _x2=>k 10 (jD a b (i64.wrap (s7+1)) (r0.set ((s7).toNat) (u32.wrap ((u32.wrap ((u32.wrap (x1+1000000000))-s6))-1000000000))) 0)|_,_=>none)|none=>none)|false=>(match aR r0 s7 with|some _=>(match true,r0[(s7).toNat]? with|true,some _x2=>k 10 (jD a b (i64.wrap (s7+1)) (r0.set ((s7).toNat) (u32.wrap ((u32.wrap (x1+1000000000))-s6))) 1)|_,_=>none)|none=>none)))|none=>none)|false=>(og (decide (aQ r0)) (some [RV.d aom (ag (val r0).toNat)]))
theorem kG(a b:List Int)(s7:Int)(r0:List Int)(s6:Int):RN yc 10 (jD a b s7 r0 s6) (iY a b s7 r0 s6):=rnX
def TO:NT:=[((163,8),{keep:=[0,1,5,6],hl:=1}),((163,23),{keep:=[0,1,5,6,7,8],hl:=1})]
def rv:Ctx:=CX (ens rG) TO
def so(a b:List Int)(s6:Int)(r0:List Int):Cfg:=⟨163,[.blk 0,.seq 40],[(0,.d aom a),(1,.d aom b),(5,.own 0),(6,SI s6)],[.row 225 aoo r0],0,[]⟩
def tj(a b:List Int)(s6 s7 s8:Int)(r0:List Int):Cfg:=⟨163,[.blk 2,.seq 38,.blk 1,.seq 39,.lp 8,.blk 0,.seq 40],[(0,.d aom a),(1,.d aom b),(5,.own 0),(6,SI s6),(7,.d (.int .u64) s7),(8,SI s8)],[.row 225 aoo r0],0,[]⟩
def RA(a b:List Int)(k:KT):Option (List RV):=og (decide ((0:Int)≤i64.wrap ((a.length:Int)+(b.length:Int))∧(i64.wrap ((a.length:Int)+(b.length:Int)))*((4:Nat):Int)≤140737488355328∧i64.wrap ((a.length:Int)+(b.length:Int))≤140737488355328)) (k 8 (so a b 0 (List.replicate (i64.wrap ((a.length:Int)+(b.length:Int))).toNat (0:Int))))
theorem aao(a b:List Int):RS rv 163 [.d aom a,.d aom b] (RA a b):=rsX
def uH(a b:List Int)(s6:Int)(r0:List Int)(k:KT):Option (List RV):=match decide (s6<(a.length:Int))with|true=>k 23 (tj a b s6 0 0 r0)|false=>(og (decide (aQ r0)) (some [RV.d aom (ag (val r0).toNat)]))
theorem zr(a b:List Int)(s6:Int)(r0:List Int):RN rv 8 (so a b s6 r0) (uH a b s6 r0):=rnX
def rj(a b:List Int)(s6 s7 s8:Int)(r0:List Int)(k:KT):Option (List RV):=match decide (s8<(b.length:Int))with|true=>(match aR r0 (i64.wrap (s6+s8))with|some _=>(match true,r0[(i64.wrap (s6+s8)).toNat]? with|true,some x1=>(match aR a s6 with|some x2=>(match aR b s8 with|some x3=>(match aR r0 (i64.wrap (s6+s8))with|some _=>(match true,r0[(i64.wrap (s6+s8)).toNat]? with|true,some _=>k 23 (tj a b s6 (u64.wrap (Int.tdiv (u64.wrap ((u64.wrap (s7+(u64.wrap x1)))+(u64.wrap ((u64.wrap x2)*(u64.wrap x3))))) 1000000000)) (i64.wrap (s8+1)) (r0.set ((i64.wrap (s6+s8)).toNat) (u32.wrap (Int.tmod (u64.wrap ((u64.wrap (s7+(u64.wrap x1)))+(u64.wrap ((u64.wrap x2)*(u64.wrap x3))))) 1000000000))))|_,_=>none)|none=>none)|none=>none)|none=>none)|_,_=>none)|none=>none)|false=>(match aR r0 (i64.wrap (s6+(b.length:Int)))with|some _=>(match true,r0[(i64.wrap (s6+(b.length:Int))).toNat]? with|true,some _x1=>k 8 (so a b (i64.wrap (s6+1)) (r0.set ((i64.wrap (s6+(b.length:Int))).toNat) (u32.wrap s7)))|_,_=>none)|none=>none)
theorem wY(a b:List Int)(s6 s7 s8:Int)(r0:List Int):RN rv 23 (tj a b s6 s7 s8 r0) (rj a b s6 s7 s8 r0):=rnX
def EG:Cn 162 [.bool,aom]:=cn fun(neg:Bool) (l:List Int)=>lf (aQ l) [.d y2Y (ai (ce neg (val l)))] fun h=>by
 refine aA rG (RD neg l) ⟨0,?_⟩
 have hv:=aP h.1
 have hp:decide (((ag (val l).toNat).length:Int)>0)=decide (0<val l):=by
  refine al6.2 ⟨fun g=>?_,fun g=>?_⟩
  ·apply aln
   intro hc
   rw[show(val l).toNat=0 by omega,fJ]at g
   simp at g
  ·have:ag (val l).toNat≠[]:=fun e=>by rw[ia]at e;omega
   have:=alF.2 this
   omega
 unfold RD
 rw[ak3 h,mM neg hv,hp]
 cases neg<;>rfl
theorem zN(a b:List Int)(ha:jr a)(hb:jr b)(hab:b.length≤a.length):∀(j i:Nat) (c:Int) (r:List Int),i+j=a.length→0≤c→c≤1→Lim r→r.length=a.length+1→(∀k (hk:k<r.length),i≤k→r[k]=0)→val r+pw i*c=val (a.take i)+val (b.take i)→
  xM.Runs 16 (kB a b r c (i:Int)) [.d aom (ag (val a+val b).toNat)]:=by
 have hsa:=ha.2
 intro j
 induction j with
 |zero=>
  intro i c r hi c0 c1 hr hl hz hv
  obtain rfl:i=a.length:=by omega
  have hir:a.length<r.length:=by omega
  have hr0:=hz _ hir (ak9 _)
  have e:val (r.set a.length c)=val a+val b:=by
   rw[fv hir,hr0]
   rw[amn,amj hab]at hv
   grind
  refine rC _ _ _ _ _ ⟨0,?_⟩
  unfold nV
  rw[cd (ak9 _),ao r,aB,ak4 hir]
  dsimp only
  rw[ak3 (show aQ (r.set a.length c) from⟨hr.set _ ⟨c0,by omega⟩,by simp;omega⟩),e]
 |succ j ih=>
  intro i c r hi c0 c1 hr hl hz hv
  have hia:i<a.length:=by omega
  have hir:i<r.length:=by omega
  have xa:=ha.1.get hia
  have hr0:=hz i hir (ak9 _)
  have step:∀(t:Int),0≤t→t<2000000000→val (b.take (i+1))=val (b.take i)+pw i*(t-a[i]-c)→xM.Runs 16 (kB a b (r.set i (t%1000000000)) (t/1000000000) ((i+1:Nat):Int)) [.d aom (ag (val a+val b).toNat)]:=by
   intro t t0 t1 hb'
   refine ih (i+1) (t/1000000000) (r.set i (t%1000000000)) (by omega) (by omega) (by omega) (hr.set i ⟨by omega,by omega⟩) (by simpa using hl) (oI hz) ?_
   rw[fv hir,hr0,aX hia,hb',b9]
   have:=Int.emod_add_mul_ediv t 1000000000
   grind
  by_cases hib:i<b.length
  ·have xb:=hb.1.get hib
   have ht:=aX hib
   obtain⟨q,hq⟩:=step (c+a[i]+b[i]) (by omega) (by omega) (by rw[ht];grind)
   refine rC _ _ _ _ _ ⟨q,?_⟩
   unfold nV
   rw[bH hia,ao,ak4 hia,bH hib,ao,ak4 hib,ao r i,aB,ak4 hir]
   dsimp only
   rw[cY (x:=c+a[i]) (by omega) (by omega),cY (x:=c+a[i]+b[i]) (by omega) (by omega),jx (by omega),ii (by omega),cY (x:=(c+a[i]+b[i])/1000000000) (by omega) (by omega),bW (by omega)]
   exact hq
  ·have ht:=ke (b:=b) (i:=i) (by omega)
   obtain⟨q,hq⟩:=step (c+a[i]) (by omega) (by omega) (by rw[ht];grind)
   refine rC _ _ _ _ _ ⟨q,?_⟩
   unfold nV
   rw[bH hia,ao,ak4 hia,cd (show b.length≤i by omega),ao r i,aB,ak4 hir]
   dsimp only
   rw[cY (x:=c+a[i]) (by omega) (by omega),jx (by omega),ii (by omega),cY (x:=(c+a[i])/1000000000) (by omega) (by omega),bW (by omega)]
   exact hq
def adw:Cn 167 [aom,aom]:=cn fun(a b:List Int)=>lf (jr a∧jr b) [.d aom (ag (val a+val b).toNat)] fun h=>by
 refine c7 rG (show xM.Res _ _ _ from ?_)
 obtain⟨ha,hb⟩:=h
 have hsa:=ha.2
 have hsb:=hb.2
 by_cases hc:a.length<b.length
 ·obtain⟨q,hq⟩:=zN b a hb ha (by omega) b.length 0 0 (List.replicate (b.length+1) 0) (by omega) (by omega) (by omega) (Lim.rep _) (by simp) (fun k hk _=>by simp) (by simp[val,gR])
  refine Pq _ _ ⟨q,?_⟩
  unfold EQ
  rw[bH hc,bW (by omega),rX (by omega),aB,an0 (val a)]
  exact hq
 ·obtain⟨q,hq⟩:=zN a b ha hb (by omega) a.length 0 0 (List.replicate (a.length+1) 0) (by omega) (by omega) (by omega) (Lim.rep _) (by simp) (fun k hk _=>by simp) (by simp[val,gR])
  refine Pq _ _ ⟨q,?_⟩
  unfold EQ
  rw[cd (by omega),bW (k:=a.length) (by omega),rX (n:=a.length+1) (by omega),aB]
  exact hq
theorem Ko(a b:List Int)(ha:aQ a)(hb:aQ b)(hle:val b≤val a):∀(j i:Nat) (c:Int) (r:List Int),i+j=a.length→0≤c→c≤1→Lim r→r.length=a.length→(∀k (hk:k<r.length),i≤k→r[k]=0)→val r+val (b.take i)=val (a.take i)+pw i*c→
  yc.Runs 10 (jD a b (i:Int) r c) [.d aom (ag (val a-val b).toNat)]:=by
 have hsa:=ha.2
 intro j
 induction j with
 |zero=>
  intro i c r hi c0 c1 hr hl hz hv
  obtain rfl:i=a.length:=by omega
  refine kG _ _ _ _ _ ⟨0,?_⟩
  unfold iY
  rw[cd (ak9 _)]
  have hrl:=bZ hr
  rw[hl]at hrl
  have hb2:val b=val (b.take a.length)+pw (min a.length b.length)*val (b.drop a.length):=ga b a.length
  have hbd:0≤val (b.drop a.length):=aP (hb.1.drop _)
  have hal:=bZ ha.1
  have hbt:=aP (hb.1.take a.length)
  rw[amn]at hv
  have hz0:val (b.drop a.length)=0:=by
   rcases alJ a.length b.length with h1|h1
   ·rw[alR (by omega)]at hb2
    rcases alz 0 (val (b.drop a.length))with h2|h2
    ·have hp:=cp a.length
     have:=alb (show 1≤val (b.drop a.length) by omega) (alK hp)
     omega
    ·omega
   ·rw[alZ h1];rfl
  rw[hz0,anp,aof]at hb2
  have hc0:c=0:=by
   have hp:=cp a.length
   rcases(show c=0∨c=1 by omega)with h|h
   ·exact h
   ·subst h;rw[ans]at hv;omega
  subst hc0
  rw[anp]at hv
  rw[ak3 (show aQ r from⟨hr,by omega⟩),show val r=val a-val b by omega]
 |succ j ih=>
  intro i c r hi c0 c1 hr hl hz hv
  have hia:i<a.length:=by omega
  have hir:i<r.length:=by omega
  have xa:=ha.1.get hia
  have hr0:=hz i hir (ak9 _)
  have step:∀(y c':Int),0≤y→y<1000000000→0≤c'→c'≤1→val (b.take (i+1))=val (b.take i)+pw i*(a[i]+1000000000*c'-y-c)→yc.Runs 10 (jD a b ((i+1:Nat):Int) (r.set i y) c') [.d aom (ag (val a-val b).toNat)]:=by
   intro y c' y0 y1 k0 k1 hb'
   refine ih (i+1) c' (r.set i y) (by omega) k0 k1 (hr.set i ⟨y0,y1⟩) (by simpa using hl) (oI hz) ?_
   rw[fv hir,hr0,aX hia,hb',b9]
   grind
  by_cases hib:i<b.length
  ·have xb:=hb.1.get hib
   have ht:=aX hib
   by_cases hc:a[i]+1000000000-c-b[i]≥1000000000
   ·obtain⟨q,hq⟩:=step (a[i]+1000000000-c-b[i]-1000000000) 0 (by omega) (by omega) (by omega) (by omega) (by rw[ht];grind)
    refine kG _ _ _ _ _ ⟨q,?_⟩
    unfold iY
    rw[bH hia,ao,ak4 hia,bH hib,ao,ak4 hib,ao,aB,ak4 hir]
    dsimp only
    rw[cY (x:=a[i]+1000000000) (by omega) (by omega),cY (x:=a[i]+1000000000-c) (by omega) (by omega),cY (x:=a[i]+1000000000-c-b[i]) (by omega) (by omega),ak3 hc,cY (x:=a[i]+1000000000-c-b[i]-1000000000) (by omega) (by omega),bW (by omega)]
    exact hq
   ·obtain⟨q,hq⟩:=step (a[i]+1000000000-c-b[i]) 1 (by omega) (by omega) (by omega) (by omega) (by rw[ht];grind)
    refine kG _ _ _ _ _ ⟨q,?_⟩
    unfold iY
    rw[bH hia,ao,ak4 hia,bH hib,ao,ak4 hib,ao,aB,ak4 hir]
    dsimp only
    rw[cY (x:=a[i]+1000000000) (by omega) (by omega),cY (x:=a[i]+1000000000-c) (by omega) (by omega),cY (x:=a[i]+1000000000-c-b[i]) (by omega) (by omega),ak5 hc,bW (by omega)]
    exact hq
  ·have ht:=ke (b:=b) (i:=i) (by omega)
   by_cases hc:a[i]+1000000000-c≥1000000000
   ·obtain⟨q,hq⟩:=step (a[i]+1000000000-c-1000000000) 0 (by omega) (by omega) (by omega) (by omega) (by rw[ht];grind)
    refine kG _ _ _ _ _ ⟨q,?_⟩
    unfold iY
    rw[bH hia,ao,ak4 hia,cd (show b.length≤i by omega),ao r i,aB,ak4 hir]
    dsimp only
    rw[cY (x:=a[i]+1000000000) (by omega) (by omega),cY (x:=a[i]+1000000000-c) (by omega) (by omega),ak3 hc,cY (x:=a[i]+1000000000-c-1000000000) (by omega) (by omega),bW (by omega)]
    exact hq
   ·obtain⟨q,hq⟩:=step (a[i]+1000000000-c) 1 (by omega) (by omega) (by omega) (by omega) (by rw[ht];grind)
    refine kG _ _ _ _ _ ⟨q,?_⟩
    unfold iY
    rw[bH hia,ao,ak4 hia,cd (show b.length≤i by omega),ao r i,aB,ak4 hir]
    dsimp only
    rw[cY (x:=a[i]+1000000000) (by omega) (by omega),cY (x:=a[i]+1000000000-c) (by omega) (by omega),ak5 hc,bW (by omega)]
    exact hq
def Fl:Cn 169 [aom,aom]:=cn fun(a b:List Int)=>lf (oA a b) [.d aom (ag (val a-val b).toNat)] fun h=>by
 refine c7 rG (show yc.Res _ _ _ from ?_)
 obtain⟨ha,hb,hle⟩:=h
 have hsa:=ha.2
 obtain⟨q,hq⟩:=Ko a b ha hb hle a.length 0 0 (List.replicate a.length 0) (by omega) (by omega) (by omega) (Lim.rep _) (by simp) (fun k hk _=>by simp) (by simp[val,gR])
 refine aaG _ _ ⟨q,?_⟩
 unfold OU
 rw[rX (by omega),aB]
 exact hq
theorem EO(a b:List Int)(ha:jr a)(hb:jr b)(i:Nat)(hi:i<a.length)
  (hout:∀r,Lim r→r.length=a.length+b.length→(∀k (hk:k<r.length),i+1+b.length≤k→r[k]=0)→val r=val (a.take (i+1))*val b→rv.Runs 8 (so a b ((i+1:Nat):Int) r) [.d aom (ag (val a*val b).toNat)]):
  ∀(j k:Nat) (c:Int) (r:List Int),k+j=b.length→0≤c→c<1000000000→Lim r→r.length=a.length+b.length→(∀q (hq:q<r.length),i+b.length≤q→r[q]=0)→val r+pw (i+k)*c=val (a.take i)*val b+pw i*a[i]*val (b.take k)→
  rv.Runs 23 (tj a b (i:Int) c (k:Int) r) [.d aom (ag (val a*val b).toNat)]:=by
 have hsa:=ha.2
 have hsb:=hb.2
 have xa:=ha.1.get hi
 intro j
 induction j with
 |zero=>
  intro k c r hk c0 c1 hr hl hz hv
  obtain rfl:k=b.length:=by omega
  have hir:i+b.length<r.length:=by omega
  have hr0:=hz _ hir (ak9 _)
  obtain⟨q,hq⟩:=hout (r.set (i+b.length) c) (hr.set _ ⟨c0,c1⟩) (by simpa using hl) (by rw[show i+1+b.length=i+b.length+1 by omega];exact oI hz) (by
   rw[fv hir,hr0,aX hi]
   rw[amn]at hv
   grind)
  refine wY _ _ _ _ _ _ ⟨q,?_⟩
  have hw:i64.wrap ((i:Int)+(b.length:Int))=((i+b.length:Nat):Int):=by rw[aS (by omega) (by omega)];simp
  unfold rj
  rw[cd (ak9 _),hw,ao r (i+b.length),aB,ak4 hir,cY (x:=c) (by omega) (by omega),bW (k:=i) (by omega)]
  exact hq
 |succ j ih=>
  intro k c r hk c0 c1 hr hl hz hv
  have hkb:k<b.length:=by omega
  have hir:i+k<r.length:=by omega
  have xb:=hb.1.get hkb
  have xr:=hr.get hir
  have hbd:=Fa xr xa xb ⟨c0,c1⟩
  obtain⟨q,hq⟩:=ih (k+1) ((r[i+k]+a[i]*b[k]+c)/1000000000) (r.set (i+k) ((r[i+k]+a[i]*b[k]+c)%1000000000)) (by omega) hbd.2.2.1 hbd.2.2.2 (hr.set _ (by omega)) (by simpa using hl)
   (fun m hm hq=>by rw[amr (by omega)];exact hz m (by simpa using hm) hq) (by
    rw[fv hir,aX hkb,show i+(k+1)=i+k+1 by omega,b9,fD]
    rw[fD]at hv
    have e:=Int.emod_add_mul_ediv (r[i+k]+a[i]*b[k]+c) 1000000000
    grind)
  refine wY _ _ _ _ _ _ ⟨q,?_⟩
  have hw:i64.wrap ((i:Int)+(k:Int))=((i+k:Nat):Int):=by rw[aS (by omega) (by omega)];simp
  unfold rj
  rw[bH hkb,hw,ao b k,ak4 hkb,ao a i,ak4 hi,ao r (i+k),aB,ak4 hir]
  dsimp only
  rw[bj (x:=r[i+k]) (by omega) (by omega),bj (x:=a[i]) (by omega) (by omega),bj (x:=b[k]) (by omega) (by omega),bj (x:=a[i]*b[k]) (by omega) (by omega),bj (x:=c+r[i+k]) (by omega) (by omega),bj (x:=c+r[i+k]+a[i]*b[k]) (by omega) (by omega),show c+r[i+k]+a[i]*b[k]=r[i+k]+a[i]*b[k]+c by omega,ii (a:=r[i+k]+a[i]*b[k]+c) (by omega),jx (a:=r[i+k]+a[i]*b[k]+c) (by omega),bj (x:=(r[i+k]+a[i]*b[k]+c)/1000000000) (by omega) (by omega),cY (x:=(r[i+k]+a[i]*b[k]+c)%1000000000) (by omega) (by omega),bW (k:=k) (by omega)]
  exact hq
theorem FW(a b:List Int)(ha:jr a)(hb:jr b):∀(j i:Nat) (r:List Int),i+j=a.length→Lim r→r.length=a.length+b.length→(∀k (hk:k<r.length),i+b.length≤k→r[k]=0)→val r=val (a.take i)*val b→
  rv.Runs 8 (so a b (i:Int) r) [.d aom (ag (val a*val b).toNat)]:=by
 have hsa:=ha.2
 have hsb:=hb.2
 intro j
 induction j with
 |zero=>
  intro i r hi hr hl hz hv
  obtain rfl:i=a.length:=by omega
  refine zr _ _ _ _ ⟨0,?_⟩
  unfold uH
  rw[amn]at hv
  rw[cd (ak9 _),ak3 (show aQ r from⟨hr,by omega⟩),hv]
 |succ j ih=>
  intro i r hi hr hl hz hv
  have hia:i<a.length:=by omega
  obtain⟨q,hq⟩:=EO a b ha hb i hia (fun r' h1 h2 h3 h4=>ih (i+1) r' (by omega) h1 h2 h3 h4) b.length 0 0 r (by omega) (by omega) (by omega) hr hl hz (by simp[val,hv])
  refine zr _ _ _ _ ⟨q,?_⟩
  grind [uH]
def abA:Cn 163 [aom,aom]:=cn fun(a b:List Int)=>lf (jr a∧jr b) [.d aom (ag (val a*val b).toNat)] fun h=>by
 refine c7 rG (show rv.Res _ _ _ from ?_)
 obtain⟨ha,hb⟩:=h
 have hsa:=ha.2
 have hsb:=hb.2
 obtain⟨q,hq⟩:=FW a b ha hb a.length 0 (List.replicate (a.length+b.length) 0) (by omega) (Lim.rep _) (by simp) (fun k hk _=>by simp) (by simp[val,gR])
 refine aao _ _ ⟨q,?_⟩
 have hw:i64.wrap ((a.length:Int)+(b.length:Int))=((a.length+b.length:Nat):Int):=by rw[aS (by omega) (by omega)];simp
 unfold RA
 rw[hw,rX (by omega),aB]
 exact hq
theorem sh{x:BI}(h:okI x):jr x.2:=⟨h.1.1,by have:=h.2.2;omega⟩
theorem T5(a b:Int):decide (cr a b≥0)=decide (b≤a):=by grind [db,dW,cL]
theorem xx(a b:Int):decide (cr a b>0)=decide (b<a):=by grind [db,dW,cL]
def oH:List En:=[enK wG,enK Ao,enF Bo,enF yx,enK EG,enK adw,enK Fl,enK abA]
def Lt(n:Int)(_k:KT):Option (List RV):=match decide (n<0)with|true=>(match decide (iI (u64.wrap (0-(u64.wrap n))))with|true=>(match decide (aQ (ag (u64.wrap (0-(u64.wrap n))).toNat))with|true=>some [RV.d y2Y (ai (ce true (val (ag (u64.wrap (0-(u64.wrap n))).toNat))))]|false=>none)|false=>none)|false=>(match decide (iI (u64.wrap n))with|true=>(match decide (aQ (ag (u64.wrap n).toNat))with|true=>some [RV.d y2Y (ai (ce false (val (ag (u64.wrap n).toNat))))]|false=>none)|false=>none)
def LP(x:Bool×List Int)(_k:KT):Option (List RV):=match(x.2.length:Int)==0 with|true=>some [RV.d aon 0]|false=>(match x.1 with|true=>some [RV.d aon (-1)]|false=>some [RV.d aon 1])
def NE(x y:Bool×List Int)(_k:KT):Option (List RV):=match !(x.1==y.1)with|true=>(match x.1 with|true=>some [RV.d aon (-1)]|false=>some [RV.d aon 1])|false=>(match x.1 with|true=>(og (decide (rg y.2 x.2)) (some [RV.d aon (cr (val y.2) (val x.2))]))|false=>(og (decide (rg x.2 y.2)) (some [RV.d aon (cr (val x.2) (val y.2))])))
def QN(x y:Bool×List Int)(_k:KT):Option (List RV):=match x.1==y.1 with|true=>(og (decide (jr x.2∧jr y.2)) (og (decide (aQ (ag (val x.2+val y.2).toNat))) (some [RV.d y2Y (ai (ce x.1 (val (ag (val x.2+val y.2).toNat))))])))|false=>(og (decide (rg x.2 y.2)) (match decide ((cr (val x.2) (val y.2))≥0)with|true=>(og (decide (oA x.2 y.2)) (og (decide (aQ (ag (val x.2-val y.2).toNat))) (some [RV.d y2Y (ai (ce x.1 (val (ag (val x.2-val y.2).toNat))))])))|false=>(og (decide (oA y.2 x.2)) (og (decide (aQ (ag (val y.2-val x.2).toNat))) (some [RV.d y2Y (ai (ce y.1 (val (ag (val y.2-val x.2).toNat))))])))))
def Qp(x:Bool×List Int)(_k:KT):Option (List RV):=og (decide (aQ x.2)) (some [RV.d y2Y (ai (ce (!x.1) (val x.2)))])
def Oy(x y:Bool×List Int)(_k:KT):Option (List RV):=og (decide (jr x.2∧jr y.2)) (og (decide (aQ (ag (val x.2*val y.2).toNat))) (some [RV.d y2Y (ai (ce (!(x.1==y.1)) (val (ag (val x.2*val y.2).toNat))))]))
def Zn(a:List Int)(n:Int)(_k:KT):Option (List RV):=og (decide (aQ ([n]))) (og (decide (jr a∧jr (ag (val ([n])).toNat))) (some [RV.d aom (ag (val a*val (ag (val ([n])).toNat)).toNat)]))
def BC:Cn 82 [aon]:=cn fun(n:Int)=>lf (aG n) [.d y2Y (ai n)] fun h=>by
 refine aA oH (Lt n) ⟨0,?_⟩
 have h1:=h.1
 have h2:=h.2
 unfold Lt
 by_cases hn:n<0
 ·have e:u64.wrap (0-u64.wrap n)= -n:=by rw[alV,alV];omega
  have hl:(ag (-n).toNat).length≤3:=cC (by omega) (anA (show-n<18446744073709551616 by omega) (by decide))
  rw[ak3 hn]
  dsimp only
  rw[e,ak3 (show iI (-n) from⟨by omega,by omega⟩),ak3 (cD (n:=(-n).toNat) (by omega)),bV (v:= -n) (by omega)]
  dsimp only
  rw[show ce true (-n)=n by unfold ce;simp]
 ·have e:u64.wrap n=n:=bj (by omega) (by omega)
  have hl:(ag n.toNat).length≤3:=cC (by omega) (anA (show n<18446744073709551616 by omega) (by decide))
  rw[ak5 hn]
  dsimp only
  rw[e,ak3 (show iI n from⟨by omega,by omega⟩),ak3 (cD (n:=n.toNat) (by omega)),bV (v:=n) (by omega)]
  rfl
def Oq:Cn 117 [y2Y]:=cn fun(x:Bool×List Int)=>lf (okI x) [.d aon (cr (ae x) 0)] fun h=>by
 refine aA oH (LP x) ⟨0,?_⟩
 obtain⟨h0,h1,h2⟩:=cE h
 unfold LP
 rw[bO]
 unfold ce
 by_cases he:x.2=[]
 ·have e0:=h2.1 he
  have ex:x.1=false:=by
   cases hx:x.1
   ·rfl
   ·have:=h1 hx;omega
  rw[ex,e0,he]
  rfl
 ·have hp:0<val x.2:=eU h.1 he
  have:=alF.2 he
  rw[show((x.2.length:Int)==0)=false by simp;omega]
  cases x.1
  ·simp only[cond_false];rw[cL hp]
  ·simp only[cond_true];rw[db (by omega)]
def Qi:Cn 176 [y2Y,y2Y]:=cn fun(x y:Bool×List Int)=>lf (okI x∧okI y) [.d aon (cr (ae x) (ae y))] fun h=>by
 refine aA oH (NE x y) ⟨0,?_⟩
 obtain⟨hx,hy⟩:=h
 obtain⟨x0,x1,x2⟩:=cE hx
 obtain⟨y0,y1,y2⟩:=cE hy
 have sx:=hx.2.2
 have sy:=hy.2.2
 unfold NE
 rw[bO,bO,ak3 (show rg y.2 x.2 from⟨⟨hy.1,by omega⟩,hx.1,by omega⟩),ak3 (show rg x.2 y.2 from⟨⟨hx.1,by omega⟩,hy.1,by omega⟩)]
 unfold ce
 cases ex:x.1<;>cases ey:y.1
 ·rfl
 ·have:=y1 ey
  simp only[cond_true,cond_false]
  rw[show cr (val x.2) (-val y.2)=1 from cL (by omega)]
  rfl
 ·have:=x1 ex
  simp only[cond_true,cond_false]
  rw[show cr (-val x.2) (val y.2)= -1 from db (by omega)]
  rfl
 ·simp only[cond_true]
  rw[Jl x0 y0]
  rfl
def B5:Cn 67 [y2Y,y2Y]:=cn fun(x y:Bool×List Int)=>lf (okI x∧okI y) [.d y2Y (ai (ae x+ae y))] fun h=>by
 refine aA oH (QN x y) ⟨0,?_⟩
 obtain⟨hx,hy⟩:=h
 obtain⟨x0,x1,x2⟩:=cE hx
 obtain⟨y0,y1,y2⟩:=cE hy
 have lx:=f0 hx
 have ly:=f0 hy
 have tx:=sh hx
 have ty:=sh hy
 have sx:=hx.2.2
 have sy:=hy.2.2
 have bx:=bZ hx.1.1
 have by':=bZ hy.1.1
 have px:=dl (show x.2.length≤1000000 by omega)
 have py:=dl (show y.2.length≤1000000 by omega)
 have l1:(ag (val x.2+val y.2).toNat).length≤1000001:=cC (by omega) (by rw[b9];omega)
 have l2:(ag (val x.2-val y.2).toNat).length≤1000000:=dt (by have:=cp 1000000;omega)
 have l3:(ag (val y.2-val x.2).toNat).length≤1000000:=dt (by have:=cp 1000000;omega)
 unfold QN
 rw[bO,bO,ak3 (show jr x.2∧jr y.2 from⟨tx,ty⟩),ak3 (cD (n:=(val x.2+val y.2).toNat) (by omega)),ak3 (cD (n:=(val x.2-val y.2).toNat) (by omega)),ak3 (cD (n:=(val y.2-val x.2).toNat) (by omega)),bV (v:=val x.2+val y.2) (by omega),
  ak3 (show rg x.2 y.2 from⟨⟨hx.1,by omega⟩,hy.1,by omega⟩),T5]
 cases hs:x.1==y.1
 ·dsimp only
  rcases alz (val x.2) (val y.2)with hc|hc
  ·rw[ak5 (show ¬val y.2≤val x.2 by omega),ak3 (show oA y.2 x.2 from⟨ly,lx,by omega⟩),bV (v:=val y.2-val x.2) (by omega)]
   dsimp only
   unfold ce
   cases ex:x.1<;>cases ey:y.1<;>simp_all<;>congr 2<;>omega
  ·rw[ak3 hc,ak3 (show oA x.2 y.2 from⟨lx,ly,hc⟩),bV (v:=val x.2-val y.2) (by omega)]
   dsimp only
   unfold ce
   cases ex:x.1<;>cases ey:y.1<;>simp_all<;>congr 2<;>omega
 ·dsimp only
  have e:=ama.1 hs
  rw[←e]
  unfold ce
  cases x.1
  ·rfl
  ·simp only[cond_true]
   rw[show-(val x.2+val y.2)= -val x.2+ -val y.2 by omega]
def RF:Cn 164 [y2Y]:=cn fun(x:Bool×List Int)=>lf (okI x) [.d y2Y (ai (-ae x))] fun h=>by
 refine aA oH (Qp x) ⟨0,?_⟩
 unfold Qp
 rw[bO,ak3 (f0 h)]
 unfold ce
 cases x.1<;>simp
def Oh:Cn 65 [y2Y,y2Y]:=cn fun(x y:Bool×List Int)=>lf (okI x∧okI y) [.d y2Y (ai (ae x*ae y))] fun h=>by
 refine aA oH (Oy x y) ⟨0,?_⟩
 obtain⟨hx,hy⟩:=h
 obtain⟨x0,x1,x2⟩:=cE hx
 obtain⟨y0,y1,y2⟩:=cE hy
 have bx:=bZ hx.1.1
 have by':=bZ hy.1.1
 have sx:=hx.2.2
 have sy:=hy.2.2
 have hm:0≤val x.2*val y.2:=al1 x0 y0
 have l1:(ag (val x.2*val y.2).toNat).length≤x.2.length+y.2.length:=cC hm (by
  rw[fD]
  have p1:=cp x.2.length
  have p2:=cp y.2.length
  have:=ani (show val x.2≤pw x.2.length-1 by omega) (show val y.2≤pw y.2.length-1 by omega) y0 (by omega)
  grind)
 unfold Oy
 rw[bO,bO,ak3 (show jr x.2∧jr y.2 from⟨sh hx,sh hy⟩),ak3 (cD (n:=(val x.2*val y.2).toNat) (by omega)),bV hm]
 unfold ce
 cases x.1<;>cases y.1<;>simp[Int.neg_mul,anX]
def byP(a:List Int)(n:Int):Prop:=jr a∧0≤n∧n<1000000000
instance (a:List Int) (n:Int):Decidable (byP a n):=by unfold byP;infer_instance
def W1:Cn 321 [aom,aoo]:=cn fun(a:List Int) (n:Int)=>lf (byP a n) [.d aom (ag (val a*n).toNat)] fun h=>by
 refine aA oH (Zn a n) ⟨0,?_⟩
 obtain⟨ha,h1,h2⟩:=h
 have hl:(ag n.toNat).length≤1:=cC (by omega) (by show n<pw 1;simp[pw];exact h2)
 have e:val [n]=n:=by simp[val]
 unfold Zn
 rw[e,ak3 (show aQ [n] from⟨Lim.cons ⟨by omega,h2⟩ Lim.nil,by simp⟩),ak3 (show jr a∧jr (ag n.toNat) from⟨ha,b8 _,by omega⟩),bV (by omega)]
def adm:List En:=enK B5::enK RF::oH
def QV(x y:Bool×List Int)(_k:KT):Option (List RV):=og (decide (okI y)) (og (decide (okI x∧okI (ai (-ae y)))) (some [RV.d y2Y (ai (ae x+ae (ai (-ae y))))]))
def aaw:Cn 266 [y2Y,y2Y]:=cn fun(x y:Bool×List Int)=>lf (okI x∧okI y) [.d y2Y (ai (ae x-ae y))] fun h=>by
 refine aA adm (QV x y) ⟨0,?_⟩
 obtain⟨hx,hy⟩:=h
 unfold QV
 rw[ak3 hy,ak3 (show okI x∧okI (ai (-ae y)) from⟨hx,aT (by rw[jo];exact iO hy)⟩),dec_enc,Int.sub_eq_add_neg]
end Go.Proofs.YtnkndpoojnflmaaGreat
end
