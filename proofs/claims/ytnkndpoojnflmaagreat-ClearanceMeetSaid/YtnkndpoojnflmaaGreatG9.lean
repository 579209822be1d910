/- The order of the reals; what holds of all fractions holds of them. -/
import Derived.Test.YtnkndpoojnflmaaGreatG8
noncomputable section
namespace Go.Proofs.YtnkndpoojnflmaaGreat
open Go.RowKit Go.IntKind
theorem alj:type_of% @Rat.mul_nonneg:=@Rat.mul_nonneg
theorem amb:type_of% @decide_eq_decide:=@decide_eq_decide
theorem anl:type_of% @Rat.intCast_natCast:=@Rat.intCast_natCast
theorem anr:type_of% @Rat.intCast_le_intCast:=@Rat.intCast_le_intCast
theorem anJ:type_of% @Rat.intCast_neg:=@Rat.intCast_neg
section
namespace RE
open RL
theorem Co(a b:RE):a≤b↔¬b<a:=Iff.rfl
theorem le_of_lt{a b:RE}(h:a<b):a≤b:=fun h'=>lt_irrefl a (cU h h')
theorem lt_or_ge(a b:RE):a<b∨b≤a:=by
 by_cases h:a<b
 ·exact .inl h
 ·exact .inr h
theorem le_antisymm{a b:RE}(h1:a≤b)(h2:b≤a):a=b:=by
 rcases mi a b with h|h|h
 ·exact absurd h h2
 ·exact h
 ·exact absurd h h1
theorem le_trans{a b c:RE}(h1:a≤b)(h2:b≤c):a≤c:=fun h=>by
 rcases mi a b with h'|h'|h'
 ·exact h2 (cU h h')
 ·subst h';exact h2 h
 ·exact h1 h'
theorem zero_lt_one:(0:RE)<1:=io (by decide+kernel:(0:Rat)<1)
theorem ln(a:RE):a+ -a=0:=by rw[add_comm,wj]
theorem jT{a:RE}(h:a<0):0< -a:=by
 have:=ky (-a) h
 rw[ln,add_comm,add_zero]at this
 exact this
theorem FK{a:RE}(h:0<a): -a<0:=by
 have:=ky (-a) h
 rw[ln,add_comm,add_zero]at this
 exact this
instance:Std.IsLinearOrder RE where
 le_refl a:=lt_irrefl a
 le_trans _ _ _:=le_trans
 le_antisymm _ _:=le_antisymm
 le_total a b:=by
  rcases lt_or_ge a b with h|h
  ·exact .inl (le_of_lt h)
  ·exact .inr h
instance:Std.LawfulOrderLT RE where
 lt_iff a b:=⟨fun h=>⟨le_of_lt h,fun h'=>h' h⟩,fun h=>by
  rcases lt_or_ge a b with h'|h'
  ·exact h'
  ·exact absurd h' h.2⟩
theorem r8{a b:RE}:¬a≤b↔b<a:=⟨fun h=>by
  rcases lt_or_ge b a with h'|h'
  ·exact h'
  ·exact absurd h' h,fun h h'=>h' h⟩
theorem aJ{a b:RE}(h:a<b):0<b-a:=by
 have:=ky (-a) h
 rw[ln]at this
 exact this
theorem ab8{a b:RE}(h:0<b-a):a<b:=by
 have:=ky a h
 have e:b-a+a=b:=by
  show b+ -a+a=b
  rw[add_assoc,wj,add_zero]
 rw[e,add_comm,add_zero]at this
 exact this
theorem aC{a b:RE}(h:a≤b):0≤b-a:=fun h'=>h (by
 have:=ky a h'
 have e:b-a+a=b:=by
  show b+ -a+a=b
  rw[add_assoc,wj,add_zero]
 rw[e,add_comm,add_zero]at this
 exact this)
theorem fh{a:RE}(h:0≤a):0<a∨a=0:=by
 rcases mi 0 a with h'|h'|h'
 ·exact .inl h'
 ·exact .inr h'.symm
 ·exact absurd h' h
theorem le_refl(a:RE):a≤a:=lt_irrefl a
theorem oa{a b:RE}(h:a=b):a≤b:=by rw[h];exact le_refl _
theorem lI{a b:RE}(h:a=b):b≤a:=by rw[h];exact le_refl _
theorem zero_mul(a:RE):0*a=0:=by rw[mul_comm,mul_zero]
theorem zero_add(a:RE):0+a=a:=by rw[add_comm,add_zero]
theorem one_mul(a:RE):1*a=a:=by rw[mul_comm,mul_one]
theorem bg{a b:RE}(h:0≤a)(h':0≤b):0≤a*b:=by
 rcases fh h with h1|h1
 ·rcases fh h' with h2|h2
  ·exact le_of_lt (mul_pos h1 h2)
  ·rw[h2,mul_zero];exact le_refl _
 ·rw[h1,zero_mul];exact le_refl _
theorem aI{a b:RE}(h:0<a)(h':0≤b):0<a+b:=by
 have:=ky b h
 rw[zero_add]at this
 rcases fh h' with h2|h2
 ·exact cU h2 this
 ·rw[h2,add_zero];exact h
theorem fQ(a:RE):0≤a*a:=by
 rcases lt_or_ge a 0 with h|h
 ·have h1:=jT h
  have h2:=mul_pos h1 h1
  have e: -a* -a=a*a:=by
   induction a using ame
   exact snd fun n=>by show-_* -_=_*_;grind
  rw[e]at h2
  exact le_of_lt h2
 ·exact bg h h
instance:NatCast RE:=⟨fun n=>of (n:Rat)⟩
instance:IntCast RE:=⟨fun n=>of (n:Rat)⟩
instance:SMul Nat RE:=⟨fun n a=>of (n:Rat)*a⟩
instance:SMul Int RE:=⟨fun n a=>of (n:Rat)*a⟩
def pw(a:RE):Nat→RE
 |0=>1
 |n+1=>pw a n*a
instance:Pow RE Nat:=⟨pw⟩
instance:Lean.Grind.CommRing RE where
 add_zero:=add_zero
 add_comm:=add_comm
 add_assoc:=add_assoc
 mul_assoc:=mul_assoc
 mul_one:=mul_one
 mul_comm:=mul_comm
 left_distrib:=left_distrib
 mul_zero:=mul_zero
 zero_mul:=zero_mul
 one_mul:=one_mul
 right_distrib a b c:=by rw[mul_comm,left_distrib,mul_comm c,mul_comm c]
 pow_zero _:=rfl
 pow_succ _ _:=rfl
 ofNat_succ n:=by
  show of ((OfNat.ofNat (n+1):Rat))=of ((OfNat.ofNat n:Rat))+of 1
  rw[←of_add]
  congr 1
  show(((n+1:Nat):Rat))=((n:Nat):Rat)+1
  rw[Rat.natCast_add]
  rfl
 ofNat_eq_natCast _:=rfl
 nsmul_eq_natCast_mul _ _:=rfl
 neg_add_cancel:=wj
 sub_eq_add_neg _ _:=rfl
 neg_zsmul i a:=by
  show of ((-i:Int):Rat)*a= -(of (i:Rat)*a)
  rw[anJ,of_neg]
  induction a using ame
  exact snd fun n=>by show-_*_= -(_*_);grind
 zsmul_natCast_eq_nsmul _ _:=rfl
 intCast_ofNat _:=rfl
 intCast_neg i:=by show of _= -of _;rw[anJ,of_neg]
theorem Jy{a b c:RE}(h:a<b)(hc:0<c):c*a<c*b:=by
 have h1:=ky (-a) h
 rw[ln]at h1
 have h2:=ky (c*a) (mul_pos hc h1)
 rwa [show c*(b+ -a)+c*a=c*b by grind,zero_add]at h2
instance:Lean.Grind.OrderedRing RE where
 add_le_left_iff {a b} c:=⟨fun h h'=>h (by
   have:=ky (-c) h'
   rw[add_assoc,add_assoc,ln,add_zero,add_zero]at this
   exact this),fun h h'=>h (ky c h')⟩
 zero_lt_one:=zero_lt_one
 mul_lt_mul_of_pos_left:=Jy
 mul_lt_mul_of_pos_right {a b c} h hc:=by
  rw[mul_comm a,mul_comm b]
  exact Jy h hc
theorem HS{c:Rat}(hc:(0:Rat)<c){a:RE}(h:0<a):0<of c*a:=mul_pos (io hc) h
theorem iC{c:Rat}(hc:(0:Rat)<c){a:RE}(h:0≤a):0≤of c*a:=bg (le_of_lt (io hc)) h
theorem far{s:RE}(h:0<s)(e:s=0):False:=by rw[e]at h;exact lt_irrefl _ h
theorem Tf(x y:RE):((y*y-(x*x)))+((x-(0))*(x-(y)))+((y-(0))*(x-(y)))=0:=by grind
theorem sq_lt(x y:RE)(h1:0≤x)(h2:0≤y)(h3:x*x<y*y):x<y:=r8.1 fun hg=>far (aI (aI (aJ h3) (bg (aC h1) (aC hg))) (bg (aC h2) (aC hg))) (Tf x y)
theorem TJ(x y:RE):((x-(y))*(x-(y)))+((y*y-(x*x)))+2*((y-(0))*(x-(y)))=0:=by grind
theorem Aa(x y:RE)(_h1:0≤x)(h2:0≤y)(h3:x*x≤y*y):x≤y:=fun hg=>far (aI (aI (mul_pos (aJ hg) (aJ hg)) (aC h3)) (iC (by decide+kernel:(0:Rat)<2) (bg (aC h2) (le_of_lt (aJ hg))))) (TJ x y)
theorem KK(x y:RE):((x*x-(y*y)))+2*((x-(0))*(y-(x)))+((y-(x))*(y-(x)))=0:=by grind
theorem tc(x y:RE)(h1:0≤x)(h2:x≤y):x*x≤y*y:=fun hg=>far (aI (aI (aJ hg) (iC (by decide+kernel:(0:Rat)<2) (bg (aC h1) (aC h2)))) (bg (aC h2) (aC h2))) (KK x y)
theorem acI(x y:RE):((y-(x))*(y-(x)))+((x*x-(y*y)))+2*((x-(0))*(y-(x)))=0:=by grind
theorem QY(x y:RE):((x-(y))*(x-(y)))+((y*y-(x*x)))+2*((y-(0))*(x-(y)))=0:=by grind
theorem acT(x y:RE)(_h1:0≤x)(h2:0≤y)(h3:x*x=y*y):x≤y:=fun hg=>far (aI (aI (mul_pos (aJ hg) (aJ hg)) (aC (oa h3))) (iC (by decide+kernel:(0:Rat)<2) (bg (aC h2) (le_of_lt (aJ hg))))) (QY x y)
theorem KY(x y:RE):((y-(x))*(y-(x)))+((x*x-(y*y)))+2*((x-(0))*(y-(x)))=0:=by grind
theorem acu(x y:RE)(h1:0≤x)(_h2:0≤y)(h3:x*x=y*y):y≤x:=fun hg=>far (aI (aI (mul_pos (aJ hg) (aJ hg)) (aC (lI h3))) (iC (by decide+kernel:(0:Rat)<2) (bg (aC h1) (le_of_lt (aJ hg))))) (KY x y)
theorem Dt(x y:RE)(h1:0≤x)(h2:0≤y)(h3:x*x=y*y):x=y:=le_antisymm (acT x y h1 h2 h3) (acu x y h1 h2 h3)
end RE
end
section
namespace RE
open RL
theorem ah9(q:Rat):∃k:Nat,q<(k:Rat):=by
 refine⟨(q.floor+1).toNat,?_⟩
 have h1:q<((q.floor+1:Int):Rat):=(Rat.floor_lt_iff).1 (by omega)
 have h2:((q.floor+1:Int):Rat)≤(((q.floor+1).toNat:Int):Rat):=anr.2 (by omega)
 have h3:(((q.floor+1).toNat:Int):Rat)=(((q.floor+1).toNat:Nat):Rat):=anl _
 rw[h3]at h2
 grind
theorem Uf(g d:Rat)(hg:0≤g)(hd:0<d):∃s:Rat,0≤s∧s*s≤g∧g<(s+d)*(s+d):=by
 apply alh
 intro hn
 have step:∀k:Nat,((k:Rat)*d)*((k:Rat)*d)≤g:=by
  intro k
  induction k with
  |zero=>rw[show((0:Nat):Rat)=0 from rfl];grind
  |succ k ih=>
   apply alh
   intro hc
   refine hn ⟨(k:Rat)*d,?_,ih,?_⟩
   ·have:(0:Rat)≤(k:Rat):=by
     have:=Rat.intCast_nonneg.2 (show(0:Int)≤(k:Int) by omega)
     rwa [anl]at this
    exact alj this (by grind)
   ·have e:(((k+1:Nat)):Rat)=(k:Rat)+1:=by rw[Rat.natCast_add];rfl
    rw[e]at hc
    grind
 obtain⟨k,hk⟩:=ah9 ((g+1)/d)
 have h1:g+1<(k:Rat)*d:=by
  have:=alt (show 0<(k:Rat)-(g+1)/d by grind) hd
  have e:((k:Rat)-(g+1)/d)*d=(k:Rat)*d-(g+1):=by grind
  grind
 have h2:=step k
 have h3:=alt (show 0<(k:Rat)*d-(g+1) by grind) (show 0<(k:Rat)*d by grind)
 have h4:=alt (show 0<(k:Rat)*d-(g+1) by grind) (show 0<g+1 by grind)
 have h5:=alj hg hg
 clear hn step hk
 generalize (k:Rat)*d=t at h1 h2 h3 h4
 grind
def eps(n:Nat):Rat:=1/((n:Rat)+1)
theorem r7(n:Nat):(0:Rat)≤(n:Rat):=by
 have:=Rat.intCast_nonneg.2 (show(0:Int)≤(n:Int) by omega)
 rwa [anl]at this
theorem td(n:Nat):0<eps n:=by
 have:=r7 n
 exact alt (by grind) (aoe.2 (by grind))
theorem z5(e:Rat)(he:0<e):∃N,∀n,N≤n→eps n<e:=by
 obtain⟨N,hN⟩:=ah9 (1/e)
 refine⟨N,fun n hn=>?_⟩
 have h0:=r7 n
 have h1:(N:Rat)≤(n:Rat):=by
  have:=anr.2 (show(N:Int)≤(n:Int) by omega)
  rwa [anl,anl]at this
 have h2:1/e<(n:Rat)+1:=by grind
 have h3:=alt (show 0<(n:Rat)+1-1/e by grind) (alt he (td n))
 unfold eps at h3 ⊢
 have e1:((n:Rat)+1-1/e)*(e*(1/((n:Rat)+1)))=e-1/((n:Rat)+1):=by
  have:(n:Rat)+1≠0:=by grind
  have:e≠0:=by grind
  grind
 grind
theorem EZ(n:Nat):eps n≤1:=by
 have h0:=r7 n
 have:=td n
 unfold eps at*
 have h3:=alj h0 (show(0:Rat)≤1/((n:Rat)+1) by grind)
 have e1:(n:Rat)*(1/((n:Rat)+1))=1-1/((n:Rat)+1):=by
  have:(n:Rat)+1≠0:=by grind
  grind
 grind
theorem OE{a b:Rat}(ha:0≤a)(hb:0≤b)(h:a*a<b*b):a<b:=by
 apply alh
 intro hc
 have:=alj (show 0≤a-b by grind) (show 0≤a+b by grind)
 grind
theorem B3(x:RE)(hx:0≤x):∃y:RE,0≤y∧y*y=x:=by
 induction x using ame
 rename_i f
 have hc:∀n,∃s:Rat,0≤s∧s*s≤(if 0≤f.f n then f.f n else 0)∧(if 0≤f.f n then f.f n else 0)<(s+eps n)*(s+eps n):=fun n=>
  Uf _ _ (by split<;>grind) (td n)
 let g:Nat→Rat:=fun n=>if 0≤f.f n then f.f n else 0
 let s:Nat→Rat:=fun n=>Classical.choose (hc n)
 have hs:∀n,0≤s n∧s n*s n≤g n∧g n<(s n+eps n)*(s n+eps n):=fun n=>amt (hc n)
 have hg:∀m n,g m-g n≤(if 0≤f.f m-f.f n then f.f m-f.f n else 0):=fun m n=>by
  show(if 0≤f.f m then f.f m else 0)-(if 0≤f.f n then f.f n else 0)≤_
  split<;>split<;>split<;>grind
 obtain⟨B,hB,NB,hBn⟩:=f.bd
 have hgB:∀n,NB≤n→g n<B:=fun n hn=>by
  show(if 0≤f.f n then f.f n else 0)<B
  have:=hBn n hn
  split<;>grind
 have hsB:∀n,NB≤n→s n<B+1:=fun n hn=>by
  have h1:=hs n
  have h2:=hgB n hn
  refine OE h1.1 (by grind) ?_
  have:=alj (show 0≤B by grind) (show 0≤B by grind)
  grind
 have hcau:∀e:Rat,0<e→∃N,∀m n,N≤m→N≤n→s m-s n<e:=by
  intro e he
  obtain⟨N1,h1⟩:=f.cau (e*e/4) (by have:=alt he he;grind)
  obtain⟨N2,h2⟩:=z5 (e/2) (by grind)
  refine⟨max N1 N2,fun m n hm hn=>?_⟩
  apply alh
  intro hne
  have a1:=hs m
  have a2:=hs n
  have a3:=h1 m n (by omega) (by omega)
  have a4:=h2 n (by omega)
  have a5:=hg m n
  have a6:=td n
  have p1:=alj (show 0≤s m-(s n+e) by grind) (show 0≤s m+(s n+e) by grind)
  have p2:=alj (show 0≤e/2-eps n by grind) (show 0≤(s n+e/2)+(s n+eps n) by grind)
  have p3:=alj (show 0≤e by grind) a2.1
  have p4:=alt he he
  split at a5<;>grind
 refine⟨Quotient.mk _ ⟨s,hcau⟩,?_,anq fun e he=>?_⟩
 ·rintro ⟨e,he,N,h⟩
  have h1:=h N (ak4 _)
  have h2:=(hs N).1
  simp only[RL.const]at h1
  grind
 ·-- s n*s n is near to f n
  have hneg:∃N,∀n,N≤n→ -(e/4)<f.f n:=by
   apply alh
   intro hne
   obtain⟨M,hM⟩:=f.cau (e/8) (by grind)
   refine hx ⟨e/16,by grind,M,fun n hn=>?_⟩
   apply alh
   intro hge
   refine hne ⟨M,fun k hk=>?_⟩
   have:=hM n k hn hk
   simp only[RL.const]at hge
   grind
  obtain⟨N1,h1⟩:=hneg
  obtain⟨N2,h2⟩:=z5 (e/(4*(B+2))) (alt he (aoe.2 (by grind)))
  refine⟨max (max N1 N2) NB,fun n hn=>?_⟩
  have a1:=hs n
  have a2:=h1 n (by omega)
  have a3:=h2 n (by omega)
  have a4:=hsB n (by omega)
  have a5:=td n
  have a6:=EZ n
  have hgf:f.f n≤g n∧g n<f.f n+e/4:=by
   show f.f n≤(if 0≤f.f n then f.f n else 0)∧(if 0≤f.f n then f.f n else 0)<_
   split<;>constructor<;>grind
  have p1:=alj (show 0≤eps n by grind) (show 0≤2*(B+2)-(2*s n+eps n) by grind)
  have p2:eps n*(2*(B+2))<e/2:=by
   have:=alt (show 0<e/(4*(B+2))-eps n by grind) (show 0<2*(B+2) by grind)
   have e1:(e/(4*(B+2))-eps n)*(2*(B+2))=e/2-eps n*(2*(B+2)):=by
    have:B+2≠0:=by grind
    grind
   grind
  simp only[RL.mul]
  constructor<;>grind
open Classical in
def vN(x:RE):RE:=if h:0≤x then Classical.choose (B3 x h)else 0
theorem lD(x:RE):0≤vN x:=by
 unfold vN
 split
 ·rename_i h;exact(amt (B3 x h)).1
 ·exact lt_irrefl 0
theorem vO{x:RE}(h:0≤x):vN x*vN x=x:=by
 unfold vN
 rw[dif_pos h]
 exact(amt (B3 x h)).2
theorem gN{a b:Rat}:of a≤of b↔a≤b:=by
 constructor
 ·intro h
  apply alh
  intro hc
  exact h (io (by grind))
 ·intro h h'
  rcases(by grind:a<b∨a=b)with h1|h1
  ·exact lt_irrefl _ (cU h' (io h1))
  ·rw[h1]at h';exact lt_irrefl _ h'
theorem nQ{a b:Rat}(h:of a=of b):a=b:=by
 have h1:=gN.1 (show of a≤of b by rw[h];exact lt_irrefl _)
 have h2:=gN.1 (show of b≤of a by rw[h];exact lt_irrefl _)
 grind
end RE
end
section
namespace RE
open RL
open Classical in
def sg(x:RE):Int:=if 0<x then 1 else if x<0 then-1 else 0
theorem cY{x:RE}(h:0<x):sg x=1:=alr h
theorem gu{x:RE}(h:x<0):sg x= -1:=by unfold sg;rw[alm (fun h'=>lt_irrefl _ (cU h h')),alr h]
theorem dg:sg 0=0:=by unfold sg;rw[alm (lt_irrefl _),alm (lt_irrefl _)]
theorem bh(x:RE):(0<x∧sg x=1)∨(x=0∧sg x=0)∨(x<0∧sg x= -1):=by
 rcases mi 0 x with h|h|h
 ·exact .inl ⟨h,cY h⟩
 ·exact .inr (.inl ⟨h.symm,by rw[←h,dg]⟩)
 ·exact .inr (.inr ⟨h,gu h⟩)
theorem o0{x:RE}:sg x=0↔x=0:=by
 rcases bh x with⟨h,e⟩|⟨h,e⟩|⟨h,e⟩<;>rw[e]
 ·exact⟨fun h'=>by omega,fun h'=>by rw[h']at h;exact absurd h (lt_irrefl _)⟩
 ·exact⟨fun _=>h,fun _=>rfl⟩
 ·exact⟨fun h'=>by omega,fun h'=>by rw[h']at h;exact absurd h (lt_irrefl _)⟩
theorem BS{x:RE}:sg x=1↔0<x:=by
 rcases bh x with⟨h,e⟩|⟨h,e⟩|⟨h,e⟩<;>rw[e]
 ·exact⟨fun _=>h,fun _=>rfl⟩
 ·exact⟨fun h'=>by omega,fun h'=>by rw[h]at h';exact absurd h' (lt_irrefl _)⟩
 ·exact⟨fun h'=>by omega,fun h'=>absurd (cU h h') (lt_irrefl _)⟩
theorem ab1{x:RE}:sg x= -1↔x<0:=by
 rcases bh x with⟨h,e⟩|⟨h,e⟩|⟨h,e⟩<;>rw[e]
 ·exact⟨fun h'=>by omega,fun h'=>absurd (cU h h') (lt_irrefl _)⟩
 ·exact⟨fun h'=>by omega,fun h'=>by rw[h]at h';exact absurd h' (lt_irrefl _)⟩
 ·exact⟨fun _=>h,fun _=>rfl⟩
theorem ML{x:RE}:0≤sg x↔0≤x:=by
 rcases bh x with⟨h,e⟩|⟨h,e⟩|⟨h,e⟩<;>rw[e]
 ·exact⟨fun _=>le_of_lt h,fun _=>by omega⟩
 ·exact⟨fun _=>by rw[h];exact le_refl _,fun _=>by omega⟩
 ·exact⟨fun h'=>by omega,fun h'=>absurd h h'⟩
theorem aer{x:RE}:sg x≤0↔x≤0:=by
 rcases bh x with⟨h,e⟩|⟨h,e⟩|⟨h,e⟩<;>rw[e]
 ·exact⟨fun h'=>by omega,fun h'=>absurd h h'⟩
 ·exact⟨fun _=>by rw[h];exact le_refl _,fun _=>by omega⟩
 ·exact⟨fun _=>le_of_lt h,fun _=>by omega⟩
theorem neg_mul(a b:RE): -a*b= -(a*b):=by grind
theorem mul_neg(a b:RE):a* -b= -(a*b):=by grind
theorem neg_neg(a:RE): - -a=a:=by grind
theorem sub_self(a:RE):a-a=0:=by grind
theorem VQ(a b:RE): -(a-b)=b-a:=by grind
theorem GV(x y:RE):(x+y)*(x-y)=x*x-y*y:=by grind
theorem Px(x y:RE):((x-(0))*(0-(y)))+((x*y-(0)))=0:=by grind
theorem GA(x y:RE)(h1:0<x)(h2:y<0):x*y<0:=r8.1 fun hg=>far (aI (mul_pos (aJ h1) (aJ h2)) (aC hg)) (Px x y)
theorem adg(x y:RE)(h1:x<0)(h2:y<0):x+y<0:=by grind
theorem Qm(x y:RE)(h1:0<x)(h2:y<0):0<x-y:=by grind
theorem R8(x y:RE)(h1:x<0)(h2:0<y):x-y<0:=by grind
theorem PA(x y:RE)(h1:0<x)(h2:0<y):0<x+y:=by grind
theorem C0: -(0:RE)=0:=by rw[←zero_add (-0),ln]
theorem rF(x:RE):sg (-x)= -sg x:=by
 rcases bh x with⟨h,e⟩|⟨h,e⟩|⟨h,e⟩<;>rw[e]
 ·exact gu (FK h)
 ·rw[h,C0,dg];rfl
 ·exact cY (jT h)
theorem dk(x y:RE):sg (x*y)=sg x*sg y:=by
 rcases bh x with⟨h,e⟩|⟨h,e⟩|⟨h,e⟩<;>rw[e]
 ·rcases bh y with⟨h',e'⟩|⟨h',e'⟩|⟨h',e'⟩<;>rw[e']
  ·exact cY (mul_pos h h')
  ·rw[h',mul_zero,dg];rfl
  ·exact gu (GA _ _ h h')
 ·rw[h,zero_mul,dg];omega
 ·rcases bh y with⟨h',e'⟩|⟨h',e'⟩|⟨h',e'⟩<;>rw[e']
  ·rw[mul_comm];exact gu (GA _ _ h' h)
  ·rw[h',mul_zero,dg];rfl
  ·have:=mul_pos (jT h) (jT h')
   rw[neg_mul,mul_neg,neg_neg]at this
   exact cY this
theorem sg_of(q:Rat):sg (of q)=aD q 0:=by
 rcases(by grind:q<0∨q=0∨0<q)with h|h|h
 ·rw[dK h];exact gu (io h)
 ·rw[h,dP];exact dg
 ·rw[dp h];exact cY (io h)
def addS(s t d:Int):Int:=bif t==0||s==t then s else bif s==0 then t else s*d
theorem Hg(x y:RE):sg (x+y)=addS (sg x) (sg y) (sg (x*x-y*y)):=by
 rw[←GV,dk]
 rcases bh x with⟨h,e⟩|⟨h,e⟩|⟨h,e⟩<;>rw[e]
 ·rcases bh y with⟨h',e'⟩|⟨h',e'⟩|⟨h',e'⟩<;>rw[e']
  ·exact cY (PA _ _ h h')
  ·rw[h',add_zero,e];rfl
  ·rw[cY (Qm _ _ h h')]
   show _=1*(_*1)
   omega
 ·rcases bh y with⟨h',e'⟩|⟨h',e'⟩|⟨h',e'⟩<;>rw[e',h,zero_add,e']<;>rfl
 ·rcases bh y with⟨h',e'⟩|⟨h',e'⟩|⟨h',e'⟩<;>rw[e']
  ·rw[gu (R8 _ _ h h')]
   show _= -1*(_* -1)
   omega
  ·rw[h',add_zero,e];rfl
  ·exact gu (adg _ _ h h')
theorem ad2(x:RE): -1≤sg x∧sg x≤1:=by rcases bh x with⟨_,e⟩|⟨_,e⟩|⟨_,e⟩<;>rw[e]<;>omega
end RE
end
def uf:Nat→Nat→Nat
 |0,_=>0
 |f+1,n=>bif decide (n=0)then 0 else bif decide ((2*uf f (n/4)+1)*(2*uf f (n/4)+1)≤n)then 2*uf f (n/4)+1 else 2*uf f (n/4)
def MX(n:Nat):Nat:=uf (n.log2+1) n
theorem HU:∀(f n:Nat),n<2^f→uf f n*uf f n≤n∧n<(uf f n+1)*(uf f n+1)
 |0,n,h=>by
  have:n=0:=by simpa using h
  subst this
  exact⟨ak4 _,by decide⟩
 |f+1,n,h=>by
  rcases alR n with h0|h0
  ·subst h0
   show uf (f+1) 0*uf (f+1) 0≤0∧_
   exact⟨ak4 _,by show 0<(0+1)*(0+1);decide⟩
  ·have h4:n/4<2^f:=by
    rw[Nat.pow_succ]at h
    omega
   obtain⟨h1,h2⟩:=HU f (n/4) h4
   simp only[uf]
   rw[ak0 (show ¬n=0 by omega)]
   generalize uf f (n/4)=s at h1 h2
   have e1:(2*s)*(2*s)=4*(s*s):=by grind
   have e2:(2*s+1+1)*(2*s+1+1)=4*((s+1)*(s+1)):=by grind
   by_cases hc:(2*s+1)*(2*s+1)≤n
   ·rw[akY hc]
    exact⟨hc,by show n<(2*s+1+1)*(2*s+1+1);rw[e2];omega⟩
   ·rw[ak0 hc]
    exact⟨by show(2*s)*(2*s)≤n;rw[e1];omega,by show n<(2*s+1)*(2*s+1);omega⟩
theorem SO(n:Nat):MX n*MX n≤n∧n<(MX n+1)*(MX n+1):=HU _ n Nat.lt_log2_self
def bJ(z:Int):Int:=(MX z.toNat:Int)
theorem gg{z:Int}(h:0≤z):0≤bJ z∧bJ z*bJ z≤z∧z<(bJ z+1)*(bJ z+1):=by
 obtain⟨h1,h2⟩:=SO z.toNat
 grind [bJ]
theorem tc{a b:Int}(ha:0≤a)(h:a≤b):a*a≤b*b:=am7 h h ha (by omega)
theorem sq_lt{a b:Int}(hb:0≤b)(h:a*a<b*b):a<b:=by
 apply alh
 intro hc
 have:=tc hb (show b≤a by omega)
 omega
theorem UP{z s:Int}(h0:0≤s)(h1:s*s≤z)(h2:z<(s+1)*(s+1)):bJ z=s:=by
 obtain⟨g0,g1,g2⟩:=gg (show 0≤z by have:=tc (a:=0) (by omega) h0;omega)
 have a1:=sq_lt (b:=s+1) (a:=bJ z) (by omega) (by omega)
 have a2:=sq_lt (b:=bJ z+1) (a:=s) (by omega) (by omega)
 omega
theorem RA{a x s:Int}(hx:0<x)(_hs:0≤s)(h1:s*s≤a):s≤(x+a/x)/2:=by
 have hq:=alN a x
 have hm:=alH a hx
 apply alh
 intro hc
 have h2:a/x≤2*s-x-1:=by omega
 have h3:x*(a/x)≤x*(2*s-x-1):=ak6 h2 (by omega)
 have h4:0≤(s-x)*(s-x):=by
  rcases Int.le_total 0 (s-x)with h|h
  ·exact alW h h
  ·exact Int.mul_nonneg_of_nonpos_of_nonpos h h
 grind
theorem wZ{a x s:Int}(hx:0<x)(hs:s≤x)(_h1:s*s≤a)(h2:a<(s+1)*(s+1))(h3:0≤s)(h:x≤(x+a/x)/2):x=s:=by
 have hq:=alN a x
 have hm:=al6 a (show x≠0 by omega)
 have h4:x≤a/x:=by omega
 have h5:x*x≤x*(a/x):=ak6 h4 (by omega)
 have:=sq_lt (a:=x) (b:=s+1) (by omega) (by omega)
 omega
def fE(x:BI):BI:=bif x.1 then(false,[])else ai (bJ (ae x))
def vL(x:BI):Int:=bif x.1 then 7 else 0
def wv:List En:=[⟨210,pp,kz⟩,⟨172,rm,mp⟩,⟨215,oV,kR⟩,⟨269,ya,t4⟩,⟨341,As,wH⟩]
def aaq:NT:=[((351,25),{keep:=[1,2,5,6],hl:=6})]
def Jm:Ctx:=CX (ens wv) aaq
def nB(x:Bool×List Int)(b4_0:Bool)(b4_1:List Int):Cfg:=⟨351,[.blk 0],[(1,.box 0 0),(2,.box 1 0),(5,.box 4 0),(6,.box 5 0)],[.box 29 [SB x.1,.d aoh x.2],.box 29 [SB false,.nil],.gone,.row 225 aoj ([1]),.box 29 [SB b4_0,.d aoh b4_1],.box 29 [SB ((ai (2:Int)).1),.d aoh ((ai (2:Int)).2)]],0,[]⟩
def IF(x:Bool×List Int)(k:KT):Option (List RV):=match x.1 with|true=>some [RV.d y2Y (false,[]),RV.d aoi 7]|false=>(match(x.2.length:Int)==0 with|true=>some [RV.d y2Y (false,[]),RV.d aoi 0]|false=>(og (decide ((0:Int)≤i64.wrap (Int.tdiv (i64.wrap ((x.2.length:Int)+1)) 2)∧(i64.wrap (Int.tdiv (i64.wrap ((x.2.length:Int)+1)) 2))*((4:Nat):Int)≤140737488355328∧i64.wrap (Int.tdiv (i64.wrap ((x.2.length:Int)+1)) 2)≤140737488355328)) (og (decide (((List.replicate (i64.wrap (Int.tdiv (i64.wrap ((x.2.length:Int)+1)) 2)).toNat (0:Int)).length+([1]).length)*4≤140737488355328∧(List.replicate (i64.wrap (Int.tdiv (i64.wrap ((x.2.length:Int)+1)) 2)).toNat (0:Int)).length+([1]).length≤140737488355328)) (og (decide (aQ ((List.replicate (i64.wrap (Int.tdiv (i64.wrap ((x.2.length:Int)+1)) 2)).toNat (0:Int))++([1])))) (og (decide (aH (2:Int))) (k 25 (nB x ((ai (cd false (val ((List.replicate (i64.wrap (Int.tdiv (i64.wrap ((x.2.length:Int)+1)) 2)).toNat (0:Int))++([1]))))).1) ((ai (cd false (val ((List.replicate (i64.wrap (Int.tdiv (i64.wrap ((x.2.length:Int)+1)) 2)).toNat (0:Int))++([1]))))).2))))))))
theorem Lw(x:Bool×List Int):RS Jm 351 [.d y2Y x] (IF x):=rsX
def uH(x:Bool×List Int)(b4_0:Bool)(b4_1:List Int)(k:KT):Option (List RV):=og (decide (fw x (b4_0,b4_1))) (cr (og (decide (okI (b4_0,b4_1)∧okI (ai (ae x/ae (b4_0,b4_1))))) (cr (og (decide (fw (ai (ae (b4_0,b4_1)+ae (ai (ae x/ae (b4_0,b4_1))))) (ai (2:Int)))) (dup (.b .l .l) (og (decide (okI (ai (ae (ai (ae (b4_0,b4_1)+ae (ai (ae x/ae (b4_0,b4_1)))))/ae (ai (2:Int))))∧okI (b4_0,b4_1))) (match decide ((cp (ae (ai (ae (ai (ae (b4_0,b4_1)+ae (ai (ae x/ae (b4_0,b4_1)))))/ae (ai (2:Int))))) (ae (b4_0,b4_1)))≥0)with|true=>some [RV.d y2Y (b4_0,b4_1),RV.d aoi 0]|false=>k 25 (nB x ((ai (ae (ai (ae (b4_0,b4_1)+ae (ai (ae x/ae (b4_0,b4_1)))))/ae (ai (2:Int)))).1) ((ai (ae (ai (ae (b4_0,b4_1)+ae (ai (ae x/ae (b4_0,b4_1)))))/ae (ai (2:Int)))).2)))))) (dup (.b (.b .l .l) (.b .l .l)) (og (decide (fw (ai (ae (b4_0,b4_1)+ae (ai (ae x/ae (b4_0,b4_1))))) (ai (2:Int)))) (og (decide (okI (ai (ae (ai (ae (b4_0,b4_1)+ae (ai (ae x/ae (b4_0,b4_1)))))/ae (ai (2:Int))))∧okI (b4_0,b4_1))) (match decide ((cp (ae (ai (ae (ai (ae (b4_0,b4_1)+ae (ai (ae x/ae (b4_0,b4_1)))))/ae (ai (2:Int))))) (ae (b4_0,b4_1)))≥0)with|true=>some [RV.d y2Y (b4_0,b4_1),RV.d aoi 0]|false=>k 25 (nB x ((ai (ae (ai (ae (b4_0,b4_1)+ae (ai (ae x/ae (b4_0,b4_1)))))/ae (ai (2:Int)))).1) ((ai (ae (ai (ae (b4_0,b4_1)+ae (ai (ae x/ae (b4_0,b4_1)))))/ae (ai (2:Int)))).2)))))))) (dup (.b .l .l) (cr (og (decide (okI (b4_0,b4_1)∧okI (ai (ae x/ae (b4_0,b4_1))))) (dup (.b .l .l) (og (decide (fw (ai (ae (b4_0,b4_1)+ae (ai (ae x/ae (b4_0,b4_1))))) (ai (2:Int)))) (og (decide (okI (ai (ae (ai (ae (b4_0,b4_1)+ae (ai (ae x/ae (b4_0,b4_1)))))/ae (ai (2:Int))))∧okI (b4_0,b4_1))) (match decide ((cp (ae (ai (ae (ai (ae (b4_0,b4_1)+ae (ai (ae x/ae (b4_0,b4_1)))))/ae (ai (2:Int))))) (ae (b4_0,b4_1)))≥0)with|true=>some [RV.d y2Y (b4_0,b4_1),RV.d aoi 0]|false=>k 25 (nB x ((ai (ae (ai (ae (b4_0,b4_1)+ae (ai (ae x/ae (b4_0,b4_1)))))/ae (ai (2:Int)))).1) ((ai (ae (ai (ae (b4_0,b4_1)+ae (ai (ae x/ae (b4_0,b4_1)))))/ae (ai (2:Int)))).2))))))) (og (decide (okI (b4_0,b4_1)∧okI (ai (ae x/ae (b4_0,b4_1))))) (og (decide (fw (ai (ae (b4_0,b4_1)+ae (ai (ae x/ae (b4_0,b4_1))))) (ai (2:Int)))) (og (decide (okI (ai (ae (ai (ae (b4_0,b4_1)+ae (ai (ae x/ae (b4_0,b4_1)))))/ae (ai (2:Int))))∧okI (b4_0,b4_1))) (match decide ((cp (ae (ai (ae (ai (ae (b4_0,b4_1)+ae (ai (ae x/ae (b4_0,b4_1)))))/ae (ai (2:Int))))) (ae (b4_0,b4_1)))≥0)with|true=>some [RV.d y2Y (b4_0,b4_1),RV.d aoi 0]|false=>k 25 (nB x ((ai (ae (ai (ae (b4_0,b4_1)+ae (ai (ae x/ae (b4_0,b4_1)))))/ae (ai (2:Int)))).1) ((ai (ae (ai (ae (b4_0,b4_1)+ae (ai (ae x/ae (b4_0,b4_1)))))/ae (ai (2:Int)))).2)))))))))
theorem zX(x:Bool×List Int)(b4_0:Bool)(b4_1:List Int):RN Jm 25 (nB x b4_0 b4_1) (uH x b4_0 b4_1):=rnX
def ac0:NT:=[((354,16),{keep:=[1,4,5],hl:=1})]
def Jl:Ctx:=CX (ens wv) ac0
def wb(x:Bool×List Int)(s4 s5:Int):Cfg:=⟨354,[.blk 0,.seq 27],[(1,.box 0 0),(4,.d (.int .u64) s4),(5,SI s5)],[.box 29 [SB x.1,.d aoh x.2]],0,[]⟩
def Im(x:Bool×List Int)(k:KT):Option (List RV):=og (decide (aH ((-9223372036854775808):Int))) (og (decide (okI x∧okI (ai ((-9223372036854775808):Int)))) (dup (.b .l .l) (match decide ((cp (ae x) (ae (ai ((-9223372036854775808):Int))))<0)with|true=>some [RV.d aoi 0,RV.d .bool false]|false=>(og (decide (aH (9223372036854775807:Int))) (og (decide (okI x∧okI (ai (9223372036854775807:Int)))) (match decide ((cp (ae x) (ae (ai (9223372036854775807:Int))))>0)with|true=>some [RV.d aoi 0,RV.d .bool false]|false=>k 16 (wb x 0 (i64.wrap ((x.2.length:Int)-1)))))))))
theorem Mt(x:Bool×List Int):RS Jl 354 [.d y2Y x] (Im x):=rsX
def uv(x:Bool×List Int)(s4 s5:Int)(k:KT):Option (List RV):=match decide (s5≥0)with|true=>(match aR x.2 s5 with|some x1=>k 16 (wb x (u64.wrap ((u64.wrap (s4*1000000000))+(u64.wrap x1))) (i64.wrap (s5-1)))|none=>none)|false=>(match x.1 with|true=>some [RV.d aoi (i64.wrap (u64.wrap (0-s4))),RV.d .bool true]|false=>some [RV.d aoi (i64.wrap s4),RV.d .bool true])
theorem zu(x:Bool×List Int)(s4 s5:Int):RN Jl 16 (wb x s4 s5) (uv x s4 s5):=rnX
theorem Si(x:BI)(hx:okI x)(h0:0<ae x):∀(m:Nat) (X:Int),X.toNat=m→0<X→bJ (ae x)≤X→szI X≤900000→Jm.Runs 25 (nB x (ai X).1 (ai X).2) [.d y2Y (ai (bJ (ae x))),.d aoi 0]:=by
 intro m
 induction m using Nat.strongRecOn with
 |ind m ih=>
  intro X hm hX hs hsz
  obtain⟨g0,g1,g2⟩:=gg (alG h0)
  have hq0:0≤ae x/X:=al1 (by omega) (by omega)
  have hq1:ae x/X≤ae x:=amU _ (by omega)
  have oX:okI (ai X):=aT (by omega)
  have sq:szI (ae x/X)≤1000000:=alc (dD (by omega)) (iN hx)
  have p1:fw x (ai X):=⟨hx,oX,by rw[dec_enc];exact hX⟩
  have ssum:szI (X+ae x/X)≤1000000:=by
   have b1:=nh hsz
   have b2:=nh (iN hx)
   have e:pw 1000000=pw 900000*pw 100000:=by rw[←fB]
   have p9:(1000:Int)≤pw 100000:=by
    have:pw 100000=pw 99999*1000000000:=b8 99999
    have:=co 99999
    omega
   have p8:=co 900000
   have h8:pw 900000*1000≤pw 900000*pw 100000:=ak6 p9 (by omega)
   rcases alu X 2 with hX1|hX1
   ·-- X=1:then the number is less than 4
    have:X=1:=by omega
    subst this
    have:bJ (ae x)≤1:=hs
    have h4:ae x<4:=by
     have:=tc (a:=bJ (ae x)+1) (b:=2) (by omega) (by omega)
     omega
    refine fu ?_ ?_<;>(rw[e,Int.ediv_one];omega)
   ·have hq2:ae x/X≤ae x/2:=by
     have:=Int.ediv_mul_le (ae x) (show X≠0 by omega)
     have h2:ae x/X*2≤ae x/X*X:=ak6 hX1 hq0
     omega
    refine fu ?_ ?_<;>(rw[e]at b2 ⊢;omega)
  have o1:okI (ai X)∧okI (ai (ae x/X)):=⟨oX,aT sq⟩
  have p2:fw (ai (X+ae x/X)) (ai 2):=⟨aT ssum,by decide,by rw[dec_enc];decide⟩
  have hn:=RA hX g0 g1
  have o2:okI (ai ((X+ae x/X)/2))∧okI (ai X):=⟨aT (alc (dD (by omega)) ssum),oX⟩
  by_cases hc:X≤(X+ae x/X)/2
  ·have hXs:=wZ hX hs g1 g2 g0 hc
   refine zX _ _ _ ⟨0,?_⟩
   unfold uH
   simp only[cS,eZ]
   have e:∀z:Int,((ai z).1,(ai z).2)=ai z:=fun z=>rfl
   simp only[e,dec_enc,akY p1,akY o1,akY p2,akY o2]
   have hg:decide (cp ((X+ae x/X)/2) X≥0)=true:=by
    rcases Int.lt_or_eq_of_le hc with h|h
    ·rw[cO h];rfl
    ·rw[←h,d7];rfl
   rw[hg,hXs]
  ·obtain⟨n,hN⟩:=ih ((X+ae x/X)/2).toNat (by omega) ((X+ae x/X)/2) rfl (by
    rcases alu 0 (bJ (ae x))with h|h
    ·omega
    ·exfalso
     have:bJ (ae x)=0:=by omega
     rw[this]at g2
     omega) hn (alc (dD (by omega)) hsz)
   refine zX _ _ _ ⟨n,?_⟩
   unfold uH
   simp only[cS,eZ]
   have e:∀z:Int,((ai z).1,(ai z).2)=ai z:=fun z=>rfl
   simp only[e,dec_enc,akY p1,akY o1,akY p2,akY o2]
   rw[df (by omega)]
   exact hN
def Zi:Cn 351 [y2Y]:=cn fun(x:Bool×List Int)=>lf (okI x) [.d y2Y (fE x),.d aoi (vL x)] fun h=>by
 refine c8 wv (show Jm.Res _ _ _ from ?_)
 obtain⟨x0,x1,x2⟩:=cE h
 have hl:=h.2.2
 cases hn:x.1
 ·by_cases hz:x.2=[]
  ·refine Lw _ ⟨0,?_⟩
   unfold IF fE vL
   have:ae x=0:=by unfold ae;rw[hn,hz];rfl
   rw[hn,hz,this]
   rfl
  ·have hp:0<val x.2:=eU h.1 hz
   have hd:ae x=val x.2:=by unfold ae;rw[hn];rfl
   have hlen:=alB.2 hz
   have hk:i64.wrap (Int.tdiv (i64.wrap ((x.2.length:Int)+1)) 2)=(((x.2.length+1)/2:Nat):Int):=by
    rw[bV (by omega),ic (by omega),aS (by omega) (by omega)]
    omega
   have hv:val (List.replicate ((x.2.length+1)/2) 0++[1])=pw ((x.2.length+1)/2):=by
    rw[dG,gS,anA]
    simp[val]
   have hL:aQ (List.replicate ((x.2.length+1)/2) 0++[1]):=by
    refine⟨fun y hy=>?_,by simp;omega⟩
    rcases alJ.1 hy with hy|hy
    ·have:=List.eq_of_mem_replicate hy;omega
    ·simp at hy;omega
   have hpos:=co ((x.2.length+1)/2)
   obtain⟨n,hN⟩:=Si x h (by omega) _ (pw ((x.2.length+1)/2)) rfl hpos (by
     obtain⟨g0,g1,g2⟩:=gg (show 0≤ae x by omega)
     have hlt:=bW h.1.1
     have hm:=du (show x.2.length≤(x.2.length+1)/2+(x.2.length+1)/2 by omega)
     rw[fB]at hm
     have:=sq_lt (a:=bJ (ae x)) (b:=pw ((x.2.length+1)/2)) (by omega) (by omega)
     omega) (fu (k:=900000) (by have:=co 900000;omega) (by
      have:=du (show(x.2.length+1)/2+1≤900000 by omega)
      rw[b8]at this
      omega))
   refine Lw _ ⟨n,?_⟩
   unfold IF fE vL
   simp only[hk]
   rw[hn,show((x.2.length:Int)==0)=false by simp;omega]
   simp only[amF]
   rw[akY (show(0:Int)≤(((x.2.length+1)/2:Nat):Int)∧(((x.2.length+1)/2:Nat):Int)*((4:Nat):Int)≤140737488355328∧(((x.2.length+1)/2:Nat):Int)≤140737488355328 by omega)]
   rw[akY (show((List.replicate ((x.2.length+1)/2) (0:Int)).length+([1]:List Nat).length)*4≤140737488355328∧(List.replicate ((x.2.length+1)/2) (0:Int)).length+([1]:List Nat).length≤140737488355328 by simp;omega)]
   rw[akY hL,akY (show aH 2 by decide),hv]
   exact hN
 ·refine Lw _ ⟨0,?_⟩
  unfold IF fE vL
  rw[hn]
  rfl
theorem Dk(x:BI)(hx:okI x)(hv:val x.2≤9223372036854775808):∀(i:Nat),i≤x.2.length→Jl.Runs 16 (wb x (val (x.2.drop i)) ((i:Int)-1)) [.d aoi (i64.wrap (bif x.1 then u64.wrap (0-val x.2)else val x.2)),.d .bool true]
 |0,_=>by
  refine zu _ _ _ ⟨0,?_⟩
  unfold uv
  rw[ak0 (by omega),amG]
  cases x.1<;>rfl
 |i+1,hi=>by
  obtain⟨n,ih⟩:=Dk x hx hv i (by omega)
  have h0:=hx.2.2
  have hlim:=hx.1.1
  have hd:x.2.drop i=x.2[i]::x.2.drop (i+1):=gz (by omega)
  have hle:∀j,val (x.2.drop j)≤9223372036854775808∧0≤val (x.2.drop j):=fun j=>by
   have l1:Lim (x.2.drop j):=fun y hy=>hlim y (am9 hy)
   have l2:Lim (x.2.take j):=fun y hy=>hlim y (am8 hy)
   have:=dG (x.2.take j) (x.2.drop j)
   rw[amo]at this
   have n1:=aP l1
   have n2:=aP l2
   have p:=co (x.2.take j).length
   have:val (x.2.drop j)≤pw (x.2.take j).length*val (x.2.drop j):=by
    have:=alb (show 1≤pw (x.2.take j).length by omega) n1
    omega
   omega
  have hb:=hlim x.2[i] (alz _)
  have hv1:=hle i
  have hv2:=hle (i+1)
  rw[hd]at hv1 ih
  simp only[val]at hv1 ih
  refine zu _ _ _ ⟨n,?_⟩
  unfold uv
  rw[show(((i+1:Nat):Int)-1)=(i:Int) by omega,akY (by omega),ao,akZ (by omega)]
  dsimp only
  rw[bj (x:=val (x.2.drop (i+1))*1000000000) (by omega) (by omega),bj (x:=x.2[i]) (by omega) (by omega),bj (by omega) (by omega),aS (by omega) (by omega)]
  rw[show val (x.2.drop (i+1))*1000000000+x.2[i]=x.2[i]+1000000000*val (x.2.drop (i+1)) by omega]
  exact ih
def ZF:Cn 354 [y2Y]:=cn fun(x:Bool×List Int)=>lf (okI x) [.d aoi (bif decide (aH (ae x))then ae x else 0),.d .bool (decide (aH (ae x)))] fun h=>by
 refine c8 wv (show Jl.Res _ _ _ from ?_)
 obtain⟨x0,x1,x2⟩:=cE h
 have o1:okI x∧okI (ai (-9223372036854775808)):=⟨h,by decide⟩
 have o2:okI x∧okI (ai 9223372036854775807):=⟨h,by decide⟩
 have hl:=h.2.2
 by_cases h1:ae x< -9223372036854775808
 ·refine Mt _ ⟨0,?_⟩
  unfold Im
  simp only[eZ,dec_enc,akY o1]
  rw[akY (show aH (-9223372036854775808) by decide),df h1,ak0 (show ¬aH (ae x) from fun g=>by have:=g.1;omega)]
  rfl
 ·have c1:decide (cp (ae x) (-9223372036854775808)<0)=false:=by
   rcases Int.lt_or_eq_of_le (show-9223372036854775808≤ae x by omega)with g|g
   ·rw[cO g];rfl
   ·rw[←g,d7];rfl
  by_cases h2:9223372036854775807<ae x
  ·refine Mt _ ⟨0,?_⟩
   unfold Im
   simp only[eZ,dec_enc,akY o1,akY o2]
   rw[akY (show aH (-9223372036854775808) by decide),c1,akY (show aH 9223372036854775807 by decide),cO h2,ak0 (show ¬aH (ae x) from fun g=>by have:=g.2;omega)]
   rfl
  ·have c2:decide (cp (ae x) 9223372036854775807>0)=false:=by
    rcases Int.lt_or_eq_of_le (show ae x≤9223372036854775807 by omega)with g|g
    ·rw[df g];rfl
    ·rw[g,d7];rfl
   have hp:aH (ae x):=⟨by omega,by omega⟩
   have hvv:val x.2≤9223372036854775808:=by
    have g1:=hp.1
    have g2:=hp.2
    have hd:ae x=bif x.1 then-val x.2 else val x.2:=rfl
    cases hb:x.1<;>rw[hb]at hd<;>simp only[cond_true,cond_false]at hd<;>omega
   obtain⟨n,hN⟩:=Dk x h hvv x.2.length (ak4 _)
   refine Mt _ ⟨n,?_⟩
   unfold Im
   simp only[eZ,dec_enc,akY o1,akY o2]
   rw[akY (show aH (-9223372036854775808) by decide),c1,akY (show aH 9223372036854775807 by decide),c2,akY hp]
   rw[ann]at hN
   rw[aS (by omega) (by omega)]
   refine hN.trans ?_
   have hr:i64.wrap (bif x.1 then u64.wrap (0-val x.2)else val x.2)=ae x:=by
    have hd:ae x=bif x.1 then-val x.2 else val x.2:=rfl
    have:=hp.1
    have:=hp.2
    cases hb:x.1<;>rw[hb]at hd<;>simp only[cond_true,cond_false]at hd ⊢
    ·rw[aS (by omega) (by omega)];omega
    ·have:=x1 hb
     rw[alP,IntKind.wrap_i64]
     omega
   rw[hr]
   rfl
def tg(a:List Int):Prop:=aQ a∧val a<18446744073709551616
instance (a:List Int):Decidable (tg a):=by unfold tg;infer_instance
def qY(a b:List Int):Prop:=(can a∧a.length≤1000000000)∧(can b∧b.length≤1000000000)
instance (a b:List Int):Decidable (qY a b):=by unfold qY;infer_instance
def ju(l:List Int):Prop:=Lim l∧l.length≤10000000
instance (l:List Int):Decidable (ju l):=by unfold ju;infer_instance
theorem cD{n:Nat}(h:(ag n).length≤1000000000):aQ (ag n):=⟨bZ n,h⟩
theorem bU{v:Int}(h:0≤v):val (ag v.toNat)=v:=by grind [bi]
theorem cC{v:Int}{k:Nat}(h0:0≤v)(h:v<pw k):(ag v.toNat).length≤k:=dm (by omega)
def nK:List En:=[]
def TY:NT:=[((263,4),{keep:=[0],pure_:=[(0,.int .u32)],hl:=0})]
def BD:Ctx:=CX (ens nK) TY
def v8(s0:List Int):Cfg:=⟨263,[.blk 0,.seq 13],[(0,.d aoh s0)],[],0,[]⟩
def abh(a:List Int)(k:KT):Option (List RV):=k 4 (v8 a)
theorem abJ(a:List Int):RS BD 263 [.d aoh a] (abh a):=rsX
def ve(s0:List Int)(k:KT):Option (List RV):=match decide ((s0.length:Int)>0)with|true=>(match aR s0 (i64.wrap ((s0.length:Int)-1))with|some x1=>(match x1==0 with|true=>(og (decide ((0:Int)≤0∧0≤i64.wrap ((s0.length:Int)-1)∧i64.wrap ((s0.length:Int)-1)≤(s0.length:Int))) (k 4 (v8 ((s0.take (i64.wrap ((s0.length:Int)-1)).toNat).drop (0:Int).toNat))))|false=>some [RV.d aoh s0])|none=>none)|false=>some [RV.d aoh s0]
theorem uJ(s0:List Int):RN BD 4 (v8 s0) (ve s0):=rnX
def S6:NT:=[((265,8),{keep:=[0,3,4],hl:=0})]
def AD:Ctx:=CX (ens nK) S6
def wd(a:List Int)(s3 s4:Int):Cfg:=⟨265,[.blk 0,.seq 19],[(0,.d aoh a),(3,.d (.int .u64) s3),(4,SI s4)],[],0,[]⟩
def RY(a:List Int)(k:KT):Option (List RV):=k 8 (wd a 0 (i64.wrap ((a.length:Int)-1)))
theorem aax(a:List Int):RS AD 265 [.d aoh a] (RY a):=rsX
def uM(a:List Int)(s3 s4:Int)(k:KT):Option (List RV):=match decide (s4≥0)with|true=>(match aR a s4 with|some x1=>k 8 (wd a (u64.wrap ((u64.wrap (s3*1000000000))+(u64.wrap x1))) (i64.wrap (s4-1)))|none=>none)|false=>some [RV.d (.int .u64) s3]
theorem Aj(a:List Int)(s3 s4:Int):RN AD 8 (wd a s3 s4) (uM a s3 s4):=rnX
def VZ:NT:=[((182,6),{keep:=[0,3],own:=[(3,225,.int .u32)],hl:=1})]
def Bk:Ctx:=CX (ens nK) VZ
def vS(s0:Int)(r0:List Int):Cfg:=⟨182,[.blk 0,.seq 17],[(0,.d (.int .u64) s0),(3,.own 0)],[.row 225 aoj r0],0,[]⟩
def ac9(u:Int)(k:KT):Option (List RV):=k 6 (vS u ([]))
theorem ac8(u:Int):RS Bk 182 [.d (.int .u64) u] (ac9 u):=rsX
def um(s0:Int)(r0:List Int)(k:KT):Option (List RV):=match decide (s0>0)with|true=>(og (decide ((r0.length+([u32.wrap (Int.tmod s0 1000000000)]).length)*4≤140737488355328∧r0.length+([u32.wrap (Int.tmod s0 1000000000)]).length≤140737488355328)) (k 6 (vS (u64.wrap (Int.tdiv s0 1000000000)) (r0++([u32.wrap (Int.tmod s0 1000000000)])))))|false=>some [RV.new 225 aoj r0]
theorem zE(s0:Int)(r0:List Int):RN Bk 6 (vS s0 r0) (um s0 r0):=rnX
def T5:NT:=[((168,22),{keep:=[0,1,5],hl:=0})]
def Cj:Ctx:=CX (ens nK) T5
def sX(a b:List Int)(s5:Int):Cfg:=⟨168,[.blk 0,.seq 47],[(0,.d aoh a),(1,.d aoh b),(5,SI s5)],[],0,[]⟩
def G5(a b:List Int)(k:KT):Option (List RV):=match(a.length:Int) !=(b.length:Int)with|true=>(match decide ((a.length:Int)<(b.length:Int))with|true=>some [RV.d aoi (-1)]|false=>some [RV.d aoi 1])|false=>k 22 (sX a b (i64.wrap ((a.length:Int)-1)))
theorem Nx(a b:List Int):RS Cj 168 [.d aoh a,.d aoh b] (G5 a b):=rsX
def kG(a b:List Int)(s5:Int)(k:KT):Option (List RV):=match decide (s5≥0)with|true=>(match aR a s5 with|some x1=>(match aR b s5 with|some x2=>(match decide (x1<x2)with|true=>some [RV.d aoi (-1)]|false=>(match aR a s5 with|some x3=>(match aR b s5 with|some x4=>(match decide (x3>x4)with|true=>some [RV.d aoi 1]|false=>k 22 (sX a b (i64.wrap (s5-1))))|none=>none)|none=>none))|none=>none)|none=>none)|false=>some [RV.d aoi 0]
theorem n7(a b:List Int)(s5:Int):RN Cj 22 (sX a b s5) (kG a b s5):=rnX
theorem JD(l:List Int)(hl:Lim l)(hs:l.length≤1000000000):∀(n:Nat),n≤l.length→(∀j (hj:j<l.length),n≤j→l[j]=0)→BD.Runs 4 (v8 (l.take n)) [.d aoh (ag (val l).toNat)]:=by
 intro n
 induction n with
 |zero=>
  intro _ h
  refine uJ _ ⟨0,?_⟩
  rw[←mh hl (anw _) h (.inl rfl)]
  rfl
 |succ n ih=>
  intro hn h
  have hlen:(l.take (n+1)).length=n+1:=by rw[alK,alM hn]
  have hget:(l.take (n+1))[n]?=some l[n]:=by rw[List.getElem?_take_of_lt (by omega),akZ (by omega)]
  by_cases hz:l[n]=0
  ·obtain⟨q,hq⟩:=ih (by omega) fun j hj hk=>by
    rcases Nat.eq_or_lt_of_le hk with e|e
    ·subst e;exact hz
    ·exact h j hj e
   refine uJ _ ⟨q,?_⟩
   unfold ve
   rw[hlen,akY (by omega),KR (by omega) (by omega),ao,show n+1-1=n from rfl,hget]
   dsimp only
   rw[hz,akY (show(0:Int)≤0∧(0:Int)≤(n:Int)∧(n:Int)≤((n+1:Nat):Int) by omega),aB,an9,alM (by omega)]
   exact hq
  ·refine uJ _ ⟨0,?_⟩
   unfold ve
   rw[hlen,akY (by omega),KR (by omega) (by omega),ao,show n+1-1=n from rfl,hget]
   dsimp only
   rw[show(l[n]==0)=false by simpa using hz,←mh hl hn h (.inr ⟨Nat.lt_of_succ_le hn,hz⟩)]
def xI:Cn 263 [aoh]:=cn fun(a:List Int)=>lf (aQ a) [.d aoh (ag (val a).toNat)] fun h=>by
 refine c8 nK (show BD.Res _ _ _ from ?_)
 obtain⟨q,hq⟩:=JD a h.1 h.2 a.length (ak4 _) (fun j hj hk=>by omega)
 rw[amj]at hq
 exact abJ _ ⟨q,hq⟩
theorem JH(u:Nat):∀(r:List Int),(u:Int)<18446744073709551616→r.length+3≤1000+3-(ag u).length→Bk.Runs 6 (vS (u:Int) r) [.new 225 aoj (r++ag u)]:=by
 induction u using qo with
 |h0=>
  intro r _ _
  refine zE _ _ ⟨0,?_⟩
  unfold um
  rw[fP,alv]
  rfl
 |h1 n hn ih=>
  intro r hu hr
  rw[iO hn]at hr
  simp only[ale]at hr
  obtain⟨q,hq⟩:=ih (r++[((n%1000000000:Nat):Int)]) (by omega) (by rw[alw];simp only[alo];omega)
  refine zE _ _ ⟨q,?_⟩
  unfold um
  rw[akY (by omega),jF (by omega),ic (by omega),bj (x:=(n:Int)/1000000000) (by omega) (by omega),c7 (x:=(n:Int)%1000000000) (by omega) (by omega)]
  simp only[alo]
  rw[acQ (by omega) (by omega),iO hn]
  rw[show((n:Int)%1000000000)=((n%1000000000:Nat):Int) by omega,show((n:Int)/1000000000)=((n/1000000000:Nat):Int) by omega]
  rw[alp]at hq
  exact hq
def BY:Cn 182 [(.int .u64)]:=cn fun(u:Int)=>lf (iI u) [.new 225 aoj (ag u.toNat)] fun h=>by
 refine c8 nK (show Bk.Res _ _ _ from ?_)
 have h0:=h.1
 have h1:=h.2
 have hl:=dm (n:=u.toNat) (k:=3) (anu (show(u.toNat:Int)<18446744073709551616 by omega) (by decide))
 obtain⟨q,hq⟩:=JH u.toNat [] (by omega) (by simp;omega)
 rw[show((u.toNat:Nat):Int)=u by omega]at hq
 exact ac8 _ ⟨q,hq⟩
theorem zi(a:List Int)(h:tg a):∀(i:Nat),i≤a.length→AD.Runs 8 (wd a (val (a.drop i)) ((i:Int)-1)) [.d (.int .u64) (val a)]
 |0,_=>by
  refine Aj _ _ _ ⟨0,?_⟩
  unfold uM
  rw[ak0 (by omega),amG]
 |i+1,hi=>by
  obtain⟨n,ih⟩:=zi a h i (by omega)
  have h0:=h.1.2
  have hlim:=h.1.1
  have hlt:=h.2
  have hd:a.drop i=a[i]::a.drop (i+1):=gz (by omega)
  have hle:∀j,val (a.drop j)≤val a∧0≤val (a.drop j):=fun j=>by
   have l1:Lim (a.drop j):=fun y hy=>hlim y (am9 hy)
   have l2:Lim (a.take j):=fun y hy=>hlim y (am8 hy)
   have:=dG (a.take j) (a.drop j)
   rw[amo]at this
   have n1:=aP l1
   have n2:=aP l2
   have p:=co (a.take j).length
   have:val (a.drop j)≤pw (a.take j).length*val (a.drop j):=by
    have:=alb (show 1≤pw (a.take j).length by omega) n1
    omega
   omega
  have hb:=hlim a[i] (alz _)
  have hv1:=hle i
  have hv2:=hle (i+1)
  rw[hd]at hv1 ih
  simp only[val]at hv1 ih
  refine Aj _ _ _ ⟨n,?_⟩
  unfold uM
  rw[show(((i+1:Nat):Int)-1)=(i:Int) by omega,akY (by omega),ao,akZ (by omega)]
  dsimp only
  rw[bj (x:=val (a.drop (i+1))*1000000000) (by omega) (by omega),bj (x:=a[i]) (by omega) (by omega),bj (by omega) (by omega),aS (by omega) (by omega)]
  rw[show val (a.drop (i+1))*1000000000+a[i]=a[i]+1000000000*val (a.drop (i+1)) by omega]
  exact ih
def BG:Cn 265 [aoh]:=cn fun(a:List Int)=>lf (tg a) [.d (.int .u64) (val a)] fun h=>by
 refine c8 nK (show AD.Res _ _ _ from ?_)
 obtain⟨n,hn⟩:=zi a h a.length (ak4 _)
 have h0:=h.1.2
 refine aax _ ⟨n,?_⟩
 unfold RY
 rw[ann]at hn
 rw[aS (by omega) (by omega)]
 exact hn
theorem JU(a b:List Int)(la:Lim a)(lb:Lim b)(hl:a.length=b.length)(hs:a.length≤1000000000):∀(n:Nat),n≤a.length→a.drop n=b.drop n→
  Cj.Runs 22 (sX a b ((n:Int)-1)) [.d aoi (cp (val a) (val b))]:=by
 intro n
 induction n with
 |zero=>
  intro _ h
  refine n7 _ _ _ ⟨0,?_⟩
  have e:val a=val b:=by simp only[amG]at h;rw[h]
  unfold kG
  rw[ak0 (by omega),e,d7]
 |succ n ih=>
  intro hn h
  have h1:n<a.length:=by omega
  have h2:n<b.length:=by omega
  rcases Int.lt_trichotomy a[n] b[n]with hc|hc|hc
  ·refine n7 _ _ _ ⟨0,?_⟩
   have:=Bw la lb h1 h2 h hc
   unfold kG
   rw[show((n+1:Nat):Int)-1=(n:Int) by omega,akY (by omega),ao,ao,akZ h1,akZ h2]
   dsimp only
   rw[akY hc,df (by omega)]
  ·obtain⟨q,hq⟩:=ih (by omega) (by rw[alg h1,alg h2,hc,h])
   refine n7 _ _ _ ⟨q,?_⟩
   unfold kG
   rw[show((n+1:Nat):Int)-1=(n:Int) by omega,akY (by omega),ao,ao,akZ h1,akZ h2]
   dsimp only
   rw[ak0 (by omega),ak0 (by omega),aS (x:=(n:Int)-1) (by omega) (by omega)]
   exact hq
  ·refine n7 _ _ _ ⟨0,?_⟩
   have:=Bw lb la h2 h1 h.symm hc
   unfold kG
   rw[show((n+1:Nat):Int)-1=(n:Int) by omega,akY (by omega),ao,ao,akZ h1,akZ h2]
   dsimp only
   rw[ak0 (by omega),akY hc,cO (by omega)]
theorem IR{a b:List Int}(ha:can a)(hb:can b)(h:a.length<b.length):val a<val b:=by
 have ea:=oC ha
 have eb:=oC hb
 have:=vW (a:=(val a).toNat) (b:=(val b).toNat) (by rw[←ea,←eb];exact h)
 omega
def xC:Cn 168 [aoh,aoh]:=cn fun(a b:List Int)=>lf (qY a b) [.d aoi (cp (val a) (val b))] fun h=>by
 refine c8 nK (show Cj.Res _ _ _ from ?_)
 obtain⟨⟨ha,sa⟩,hb,sb⟩:=h
 by_cases hl:a.length=b.length
 ·obtain⟨q,hq⟩:=JU a b ha.1 hb.1 hl sa _ (ak4 _) (by rw[ann,hl,ann])
  refine Nx _ _ ⟨q,?_⟩
  unfold G5
  rw[show((a.length:Int) !=(b.length:Int))=false by simp[hl],aS (x:=(a.length:Int)-1) (by omega) (by omega)]
  exact hq
 ·refine Nx _ _ ⟨0,?_⟩
  unfold G5
  rw[show((a.length:Int) !=(b.length:Int))=true by simp;omega]
  dsimp only
  rcases Nat.lt_or_gt_of_ne hl with h1|h1
  ·have:=IR ha hb h1
   rw[akY (by omega),df (by omega)]
  ·have:=IR hb ha h1
   rw[ak0 (by omega),cO (by omega)]
def rQ:List En:=enK xI::enK BY::enF BG::enF xC::nK
def PC(neg:Bool)(l:List Int)(_k:KT):Option (List RV):=og (decide (aQ l)) (match neg with|true=>some [RV.d y2Y (decide (((ag (val l).toNat).length:Int)>0),ag (val l).toNat)]|false=>some [RV.d y2Y (false,ag (val l).toNat)])
def US:NT:=[((167,16),{keep:=[0,1,5,6,7],hl:=1})]
def yd:Ctx:=CX (ens rQ) US
def kO(s0 s1 r0:List Int)(s6 s7:Int):Cfg:=⟨167,[.blk 0,.seq 37],[(0,.d aoh s0),(1,.d aoh s1),(5,.own 0),(6,.d aoj s6),(7,SI s7)],[.row 225 aoj r0],0,[]⟩
def GH(a b:List Int)(k:KT):Option (List RV):=match decide ((a.length:Int)<(b.length:Int))with|true=>(og (decide ((0:Int)≤i64.wrap ((b.length:Int)+1)∧(i64.wrap ((b.length:Int)+1))*((4:Nat):Int)≤140737488355328∧i64.wrap ((b.length:Int)+1)≤140737488355328)) (k 16 (kO b a (List.replicate (i64.wrap ((b.length:Int)+1)).toNat (0:Int)) 0 0)))|false=>(og (decide ((0:Int)≤i64.wrap ((a.length:Int)+1)∧(i64.wrap ((a.length:Int)+1))*((4:Nat):Int)≤140737488355328∧i64.wrap ((a.length:Int)+1)≤140737488355328)) (k 16 (kO a b (List.replicate (i64.wrap ((a.length:Int)+1)).toNat (0:Int)) 0 0)))
theorem OL(a b:List Int):RS yd 167 [.d aoh a,.d aoh b] (GH a b):=rsX
def m8(s0 s1 r0:List Int)(s6 s7:Int)(k:KT):Option (List RV):=match decide (s7<(s0.length:Int))with|true=>(match aR s0 s7 with|some x1=>(match decide (s7<(s1.length:Int))with|true=>(match aR s1 s7 with|some x2=>(match aR r0 s7 with|some _=>(match true,r0[(s7).toNat]? with|true,some _=>k 16 (kO s0 s1 (r0.set ((s7).toNat) (Int.tmod (u32.wrap ((u32.wrap (s6+x1))+x2)) 1000000000)) (u32.wrap (Int.tdiv (u32.wrap ((u32.wrap (s6+x1))+x2)) 1000000000)) (i64.wrap (s7+1)))|_,_=>none)|none=>none)|none=>none)|false=>(match aR r0 s7 with|some _=>(match true,r0[(s7).toNat]? with|true,some _x2=>k 16 (kO s0 s1 (r0.set ((s7).toNat) (Int.tmod (u32.wrap (s6+x1)) 1000000000)) (u32.wrap (Int.tdiv (u32.wrap (s6+x1)) 1000000000)) (i64.wrap (s7+1)))|_,_=>none)|none=>none))|none=>none)|false=>(match aR r0 (s0.length:Int)with|some _=>(match true,r0[((s0.length:Int)).toNat]? with|true,some _x1=>(og (decide (aQ (r0.set (((s0.length:Int)).toNat) s6))) (some [RV.d aoh (ag (val (r0.set (((s0.length:Int)).toNat) s6)).toNat)]))|_,_=>none)|none=>none)
theorem rH(s0 s1 r0:List Int)(s6 s7:Int):RN yd 16 (kO s0 s1 r0 s6 s7) (m8 s0 s1 r0 s6 s7):=rnX
def Vb:NT:=[((169,10),{keep:=[0,1,5,6,7],hl:=1})]
def xV:Ctx:=CX (ens rQ) Vb
def jw(a b:List Int)(s7:Int)(r0:List Int)(s6:Int):Cfg:=⟨169,[.blk 0,.seq 37],[(0,.d aoh a),(1,.d aoh b),(5,.own 0),(6,.d aoj s6),(7,SI s7)],[.row 225 aoj r0],0,[]⟩
def Ls(a b:List Int)(k:KT):Option (List RV):=og (decide ((0:Int)≤(a.length:Int)∧(a.length:Int)*((4:Nat):Int)≤140737488355328∧(a.length:Int)≤140737488355328)) (k 10 (jw a b 0 (List.replicate ((a.length:Int)).toNat (0:Int)) 0))
theorem ac6(a b:List Int):RS xV 169 [.d aoh a,.d aoh b] (Ls a b):=rsX
def iM(a b:List Int)(s7:Int)(r0:List Int)(s6:Int)(k:KT):Option (List RV):=match decide (s7<(a.length:Int))with|true=>(match aR a s7 with|some x1=>(match decide (s7<(b.length:Int))with|true=>(match aR b s7 with|some x2=>(match decide ((u32.wrap ((u32.wrap ((u32.wrap (x1+1000000000))-s6))-x2))≥1000000000)with|true=>(match aR r0 s7 with|some _=>(match true,r0[(s7).toNat]? with|true,some _x3=>k 10 (jw a b (i64.wrap (s7+1)) (r0.set ((s7).toNat) (u32.wrap ((u32.wrap ((u32.wrap ((u32.wrap (x1+1000000000))-s6))-x2))-1000000000))) 0)|_,_=>none)|none=>none)|false=>(match aR r0 s7 with|some _=>(match true,r0[(s7).toNat]? with|true,some _x3=>k 10 (jw a b (i64.wrap (s7+1)) (r0.set ((s7).toNat) (u32.wrap ((u32.wrap ((u32.wrap (x1+1000000000))-s6))-x2))) 1)|_,_=>none)|none=>none))|none=>none)|false=>(match decide ((u32.wrap ((u32.wrap (x1+1000000000))-s6))≥1000000000)with|true=>(match aR r0 s7 with|some _=>(match true,r0[(s7).toNat]? with|true,some _x2=>k 10 (jw a b (i64.wrap (s7+1)) (r0.set ((s7).toNat) (u32.wrap ((u32.wrap ((u32.wrap (x1+1000000000))-s6))-1000000000))) 0)|_,_=>none)|none=>none)|false=>(match aR r0 s7 with|some _=>(match true,r0[(s7).toNat]? with|true,some _x2=>k 10 (jw a b (i64.wrap (s7+1)) (r0.set ((s7).toNat) (u32.wrap ((u32.wrap (x1+1000000000))-s6))) 1)|_,_=>none)|none=>none)))|none=>none)|false=>(og (decide (aQ r0)) (some [RV.d aoh (ag (val r0).toNat)]))
theorem kE(a b:List Int)(s7:Int)(r0:List Int)(s6:Int):RN xV 10 (jw a b s7 r0 s6) (iM a b s7 r0 s6):=rnX
def U0:NT:=[((163,8),{keep:=[0,1,5,6],hl:=1}),((163,23),{keep:=[0,1,5,6,7,8],hl:=1})]
def rv:Ctx:=CX (ens rQ) U0
def t3(a b:List Int)(s6:Int)(r0:List Int):Cfg:=⟨163,[.blk 0,.seq 40],[(0,.d aoh a),(1,.d aoh b),(5,.own 0),(6,SI s6)],[.row 225 aoj r0],0,[]⟩
def sM(a b:List Int)(s6 s7 s8:Int)(r0:List Int):Cfg:=⟨163,[.blk 2,.seq 38,.blk 1,.seq 39,.lp 8,.blk 0,.seq 40],[(0,.d aoh a),(1,.d aoh b),(5,.own 0),(6,SI s6),(7,.d (.int .u64) s7),(8,SI s8)],[.row 225 aoj r0],0,[]⟩
def NA(a b:List Int)(k:KT):Option (List RV):=og (decide ((0:Int)≤i64.wrap ((a.length:Int)+(b.length:Int))∧(i64.wrap ((a.length:Int)+(b.length:Int)))*((4:Nat):Int)≤140737488355328∧i64.wrap ((a.length:Int)+(b.length:Int))≤140737488355328)) (k 8 (t3 a b 0 (List.replicate (i64.wrap ((a.length:Int)+(b.length:Int))).toNat (0:Int))))
theorem adm(a b:List Int):RS rv 163 [.d aoh a,.d aoh b] (NA a b):=rsX
def uu(a b:List Int)(s6:Int)(r0:List Int)(k:KT):Option (List RV):=match decide (s6<(a.length:Int))with|true=>k 23 (sM a b s6 0 0 r0)|false=>(og (decide (aQ r0)) (some [RV.d aoh (ag (val r0).toNat)]))
theorem zZ(a b:List Int)(s6:Int)(r0:List Int):RN rv 8 (t3 a b s6 r0) (uu a b s6 r0):=rnX
def rM(a b:List Int)(s6 s7 s8:Int)(r0:List Int)(k:KT):Option (List RV):=match decide (s8<(b.length:Int))with|true=>(match aR r0 (i64.wrap (s6+s8))with|some _=>(match true,r0[(i64.wrap (s6+s8)).toNat]? with|true,some x1=>(match aR a s6 with|some x2=>(match aR b s8 with|some x3=>(match aR r0 (i64.wrap (s6+s8))with|some _=>(match true,r0[(i64.wrap (s6+s8)).toNat]? with|true,some _=>k 23 (sM a b s6 (u64.wrap (Int.tdiv (u64.wrap ((u64.wrap (s7+(u64.wrap x1)))+(u64.wrap ((u64.wrap x2)*(u64.wrap x3))))) 1000000000)) (i64.wrap (s8+1)) (r0.set ((i64.wrap (s6+s8)).toNat) (u32.wrap (Int.tmod (u64.wrap ((u64.wrap (s7+(u64.wrap x1)))+(u64.wrap ((u64.wrap x2)*(u64.wrap x3))))) 1000000000))))|_,_=>none)|none=>none)|none=>none)|none=>none)|_,_=>none)|none=>none)|false=>(match aR r0 (i64.wrap (s6+(b.length:Int)))with|some _=>(match true,r0[(i64.wrap (s6+(b.length:Int))).toNat]? with|true,some _x1=>k 8 (t3 a b (i64.wrap (s6+1)) (r0.set ((i64.wrap (s6+(b.length:Int))).toNat) (u32.wrap s7)))|_,_=>none)|none=>none)
theorem yv(a b:List Int)(s6 s7 s8:Int)(r0:List Int):RN rv 23 (sM a b s6 s7 s8 r0) (rM a b s6 s7 s8 r0):=rnX
def FO:Cn 162 [.bool,aoh]:=cn fun(neg:Bool) (l:List Int)=>lf (aQ l) [.d y2Y (ai (cd neg (val l)))] fun h=>by
 refine aA rQ (PC neg l) ⟨0,?_⟩
 have hv:=aP h.1
 have hp:decide (((ag (val l).toNat).length:Int)>0)=decide (0<val l):=by
  refine amb.2 ⟨fun g=>?_,fun g=>?_⟩
  ·apply alh
   intro hc
   rw[show(val l).toNat=0 by omega,fP]at g
   simp at g
  ·have:ag (val l).toNat≠[]:=fun e=>by rw[ii]at e;omega
   have:=alB.2 this
   omega
 unfold PC
 rw[akY h,ml neg hv,hp]
 cases neg<;>rfl
theorem zs(a b:List Int)(ha:ju a)(hb:ju b)(hab:b.length≤a.length):∀(j i:Nat) (c:Int) (r:List Int),i+j=a.length→0≤c→c≤1→Lim r→r.length=a.length+1→(∀k (hk:k<r.length),i≤k→r[k]=0)→val r+pw i*c=val (a.take i)+val (b.take i)→
  yd.Runs 16 (kO a b r c (i:Int)) [.d aoh (ag (val a+val b).toNat)]:=by
 have hsa:=ha.2
 intro j
 induction j with
 |zero=>
  intro i c r hi c0 c1 hr hl hz hv
  obtain rfl:i=a.length:=by omega
  have hir:a.length<r.length:=by omega
  have hr0:=hz _ hir (ak4 _)
  have e:val (r.set a.length c)=val a+val b:=by
   rw[fp hir,hr0]
   rw[amj,amf hab]at hv
   grind
  refine rH _ _ _ _ _ ⟨0,?_⟩
  unfold m8
  rw[b9 (ak4 _),ao r,aB,akZ hir]
  dsimp only
  rw[akY (show aQ (r.set a.length c) from⟨hr.set _ ⟨c0,by omega⟩,by simp;omega⟩),e]
 |succ j ih=>
  intro i c r hi c0 c1 hr hl hz hv
  have hia:i<a.length:=by omega
  have hir:i<r.length:=by omega
  have xa:=ha.1.get hia
  have hr0:=hz i hir (ak4 _)
  have step:∀(t:Int),0≤t→t<2000000000→val (b.take (i+1))=val (b.take i)+pw i*(t-a[i]-c)→yd.Runs 16 (kO a b (r.set i (t%1000000000)) (t/1000000000) ((i+1:Nat):Int)) [.d aoh (ag (val a+val b).toNat)]:=by
   intro t t0 t1 hb'
   refine ih (i+1) (t/1000000000) (r.set i (t%1000000000)) (by omega) (by omega) (by omega) (hr.set i ⟨by omega,by omega⟩) (by simpa using hl) (pK hz) ?_
   rw[fp hir,hr0,aX hia,hb',b8]
   have:=Int.emod_add_mul_ediv t 1000000000
   grind
  by_cases hib:i<b.length
  ·have xb:=hb.1.get hib
   have ht:=aX hib
   obtain⟨q,hq⟩:=step (c+a[i]+b[i]) (by omega) (by omega) (by rw[ht];grind)
   refine rH _ _ _ _ _ ⟨q,?_⟩
   unfold m8
   rw[bH hia,ao,akZ hia,bH hib,ao,akZ hib,ao r i,aB,akZ hir]
   dsimp only
   rw[c7 (x:=c+a[i]) (by omega) (by omega),c7 (x:=c+a[i]+b[i]) (by omega) (by omega),jF (by omega),ic (by omega),c7 (x:=(c+a[i]+b[i])/1000000000) (by omega) (by omega),bV (by omega)]
   exact hq
  ·have ht:=kg (b:=b) (i:=i) (by omega)
   obtain⟨q,hq⟩:=step (c+a[i]) (by omega) (by omega) (by rw[ht];grind)
   refine rH _ _ _ _ _ ⟨q,?_⟩
   unfold m8
   rw[bH hia,ao,akZ hia,b9 (show b.length≤i by omega),ao r i,aB,akZ hir]
   dsimp only
   rw[c7 (x:=c+a[i]) (by omega) (by omega),jF (by omega),ic (by omega),c7 (x:=(c+a[i])/1000000000) (by omega) (by omega),bV (by omega)]
   exact hq
def aar:Cn 167 [aoh,aoh]:=cn fun(a b:List Int)=>lf (ju a∧ju b) [.d aoh (ag (val a+val b).toNat)] fun h=>by
 refine c8 rQ (show yd.Res _ _ _ from ?_)
 obtain⟨ha,hb⟩:=h
 have hsa:=ha.2
 have hsb:=hb.2
 by_cases hc:a.length<b.length
 ·obtain⟨q,hq⟩:=zs b a hb ha (by omega) b.length 0 0 (List.replicate (b.length+1) 0) (by omega) (by omega) (by omega) (Lim.rep _) (by simp) (fun k hk _=>by simp) (by simp[val,gS])
  refine OL _ _ ⟨q,?_⟩
  unfold GH
  rw[bH hc,bV (by omega),tC (by omega),aB,anV (val a)]
  exact hq
 ·obtain⟨q,hq⟩:=zs a b ha hb (by omega) a.length 0 0 (List.replicate (a.length+1) 0) (by omega) (by omega) (by omega) (Lim.rep _) (by simp) (fun k hk _=>by simp) (by simp[val,gS])
  refine OL _ _ ⟨q,?_⟩
  unfold GH
  rw[b9 (by omega),bV (k:=a.length) (by omega),tC (n:=a.length+1) (by omega),aB]
  exact hq
theorem KE(a b:List Int)(ha:aQ a)(hb:aQ b)(hle:val b≤val a):∀(j i:Nat) (c:Int) (r:List Int),i+j=a.length→0≤c→c≤1→Lim r→r.length=a.length→(∀k (hk:k<r.length),i≤k→r[k]=0)→val r+val (b.take i)=val (a.take i)+pw i*c→
  xV.Runs 10 (jw a b (i:Int) r c) [.d aoh (ag (val a-val b).toNat)]:=by
 have hsa:=ha.2
 intro j
 induction j with
 |zero=>
  intro i c r hi c0 c1 hr hl hz hv
  obtain rfl:i=a.length:=by omega
  refine kE _ _ _ _ _ ⟨0,?_⟩
  unfold iM
  rw[b9 (ak4 _)]
  have hrl:=bW hr
  rw[hl]at hrl
  have hb2:val b=val (b.take a.length)+pw (min a.length b.length)*val (b.drop a.length):=ge b a.length
  have hbd:0≤val (b.drop a.length):=aP (hb.1.drop _)
  have hal:=bW ha.1
  have hbt:=aP (hb.1.take a.length)
  rw[amj]at hv
  have hz0:val (b.drop a.length)=0:=by
   rcases alF a.length b.length with h1|h1
   ·rw[alM (by omega)]at hb2
    rcases alu 0 (val (b.drop a.length))with h2|h2
    ·have hp:=co a.length
     have:=ak6 (show 1≤val (b.drop a.length) by omega) (alG hp)
     omega
    ·omega
   ·rw[alT h1];rfl
  rw[hz0,anh,aoa]at hb2
  have hc0:c=0:=by
   have hp:=co a.length
   rcases(show c=0∨c=1 by omega)with h|h
   ·exact h
   ·subst h;rw[ank]at hv;omega
  subst hc0
  rw[anh]at hv
  rw[akY (show aQ r from⟨hr,by omega⟩),show val r=val a-val b by omega]
 |succ j ih=>
  intro i c r hi c0 c1 hr hl hz hv
  have hia:i<a.length:=by omega
  have hir:i<r.length:=by omega
  have xa:=ha.1.get hia
  have hr0:=hz i hir (ak4 _)
  have step:∀(y c':Int),0≤y→y<1000000000→0≤c'→c'≤1→val (b.take (i+1))=val (b.take i)+pw i*(a[i]+1000000000*c'-y-c)→xV.Runs 10 (jw a b ((i+1:Nat):Int) (r.set i y) c') [.d aoh (ag (val a-val b).toNat)]:=by
   intro y c' y0 y1 k0 k1 hb'
   refine ih (i+1) c' (r.set i y) (by omega) k0 k1 (hr.set i ⟨y0,y1⟩) (by simpa using hl) (pK hz) ?_
   rw[fp hir,hr0,aX hia,hb',b8]
   grind
  by_cases hib:i<b.length
  ·have xb:=hb.1.get hib
   have ht:=aX hib
   by_cases hc:a[i]+1000000000-c-b[i]≥1000000000
   ·obtain⟨q,hq⟩:=step (a[i]+1000000000-c-b[i]-1000000000) 0 (by omega) (by omega) (by omega) (by omega) (by rw[ht];grind)
    refine kE _ _ _ _ _ ⟨q,?_⟩
    unfold iM
    rw[bH hia,ao,akZ hia,bH hib,ao,akZ hib,ao,aB,akZ hir]
    dsimp only
    rw[c7 (x:=a[i]+1000000000) (by omega) (by omega),c7 (x:=a[i]+1000000000-c) (by omega) (by omega),c7 (x:=a[i]+1000000000-c-b[i]) (by omega) (by omega),akY hc,c7 (x:=a[i]+1000000000-c-b[i]-1000000000) (by omega) (by omega),bV (by omega)]
    exact hq
   ·obtain⟨q,hq⟩:=step (a[i]+1000000000-c-b[i]) 1 (by omega) (by omega) (by omega) (by omega) (by rw[ht];grind)
    refine kE _ _ _ _ _ ⟨q,?_⟩
    unfold iM
    rw[bH hia,ao,akZ hia,bH hib,ao,akZ hib,ao,aB,akZ hir]
    dsimp only
    rw[c7 (x:=a[i]+1000000000) (by omega) (by omega),c7 (x:=a[i]+1000000000-c) (by omega) (by omega),c7 (x:=a[i]+1000000000-c-b[i]) (by omega) (by omega),ak0 hc,bV (by omega)]
    exact hq
  ·have ht:=kg (b:=b) (i:=i) (by omega)
   by_cases hc:a[i]+1000000000-c≥1000000000
   ·obtain⟨q,hq⟩:=step (a[i]+1000000000-c-1000000000) 0 (by omega) (by omega) (by omega) (by omega) (by rw[ht];grind)
    refine kE _ _ _ _ _ ⟨q,?_⟩
    unfold iM
    rw[bH hia,ao,akZ hia,b9 (show b.length≤i by omega),ao r i,aB,akZ hir]
    dsimp only
    rw[c7 (x:=a[i]+1000000000) (by omega) (by omega),c7 (x:=a[i]+1000000000-c) (by omega) (by omega),akY hc,c7 (x:=a[i]+1000000000-c-1000000000) (by omega) (by omega),bV (by omega)]
    exact hq
   ·obtain⟨q,hq⟩:=step (a[i]+1000000000-c) 1 (by omega) (by omega) (by omega) (by omega) (by rw[ht];grind)
    refine kE _ _ _ _ _ ⟨q,?_⟩
    unfold iM
    rw[bH hia,ao,akZ hia,b9 (show b.length≤i by omega),ao r i,aB,akZ hir]
    dsimp only
    rw[c7 (x:=a[i]+1000000000) (by omega) (by omega),c7 (x:=a[i]+1000000000-c) (by omega) (by omega),ak0 hc,bV (by omega)]
    exact hq
def G6:Cn 169 [aoh,aoh]:=cn fun(a b:List Int)=>lf (oz a b) [.d aoh (ag (val a-val b).toNat)] fun h=>by
 refine c8 rQ (show xV.Res _ _ _ from ?_)
 obtain⟨ha,hb,hle⟩:=h
 have hsa:=ha.2
 obtain⟨q,hq⟩:=KE a b ha hb hle a.length 0 0 (List.replicate a.length 0) (by omega) (by omega) (by omega) (Lim.rep _) (by simp) (fun k hk _=>by simp) (by simp[val,gS])
 refine ac6 _ _ ⟨q,?_⟩
 unfold Ls
 rw[tC (by omega),aB]
 exact hq
theorem Fc(a b:List Int)(ha:ju a)(hb:ju b)(i:Nat)(hi:i<a.length)
  (hout:∀r,Lim r→r.length=a.length+b.length→(∀k (hk:k<r.length),i+1+b.length≤k→r[k]=0)→val r=val (a.take (i+1))*val b→rv.Runs 8 (t3 a b ((i+1:Nat):Int) r) [.d aoh (ag (val a*val b).toNat)]):
  ∀(j k:Nat) (c:Int) (r:List Int),k+j=b.length→0≤c→c<1000000000→Lim r→r.length=a.length+b.length→(∀q (hq:q<r.length),i+b.length≤q→r[q]=0)→val r+pw (i+k)*c=val (a.take i)*val b+pw i*a[i]*val (b.take k)→
  rv.Runs 23 (sM a b (i:Int) c (k:Int) r) [.d aoh (ag (val a*val b).toNat)]:=by
 have hsa:=ha.2
 have hsb:=hb.2
 have xa:=ha.1.get hi
 intro j
 induction j with
 |zero=>
  intro k c r hk c0 c1 hr hl hz hv
  obtain rfl:k=b.length:=by omega
  have hir:i+b.length<r.length:=by omega
  have hr0:=hz _ hir (ak4 _)
  obtain⟨q,hq⟩:=hout (r.set (i+b.length) c) (hr.set _ ⟨c0,c1⟩) (by simpa using hl) (by rw[show i+1+b.length=i+b.length+1 by omega];exact pK hz) (by
   rw[fp hir,hr0,aX hi]
   rw[amj]at hv
   grind)
  refine yv _ _ _ _ _ _ ⟨q,?_⟩
  have hw:i64.wrap ((i:Int)+(b.length:Int))=((i+b.length:Nat):Int):=by rw[aS (by omega) (by omega)];simp
  unfold rM
  rw[b9 (ak4 _),hw,ao r (i+b.length),aB,akZ hir,c7 (x:=c) (by omega) (by omega),bV (k:=i) (by omega)]
  exact hq
 |succ j ih=>
  intro k c r hk c0 c1 hr hl hz hv
  have hkb:k<b.length:=by omega
  have hir:i+k<r.length:=by omega
  have xb:=hb.1.get hkb
  have xr:=hr.get hir
  have hbd:=FU xr xa xb ⟨c0,c1⟩
  obtain⟨q,hq⟩:=ih (k+1) ((r[i+k]+a[i]*b[k]+c)/1000000000) (r.set (i+k) ((r[i+k]+a[i]*b[k]+c)%1000000000)) (by omega) hbd.2.2.1 hbd.2.2.2 (hr.set _ (by omega)) (by simpa using hl)
   (fun m hm hq=>by rw[amm (by omega)];exact hz m (by simpa using hm) hq) (by
    rw[fp hir,aX hkb,show i+(k+1)=i+k+1 by omega,b8,fB]
    rw[fB]at hv
    have e:=Int.emod_add_mul_ediv (r[i+k]+a[i]*b[k]+c) 1000000000
    grind)
  refine yv _ _ _ _ _ _ ⟨q,?_⟩
  have hw:i64.wrap ((i:Int)+(k:Int))=((i+k:Nat):Int):=by rw[aS (by omega) (by omega)];simp
  unfold rM
  rw[bH hkb,hw,ao b k,akZ hkb,ao a i,akZ hi,ao r (i+k),aB,akZ hir]
  dsimp only
  rw[bj (x:=r[i+k]) (by omega) (by omega),bj (x:=a[i]) (by omega) (by omega),bj (x:=b[k]) (by omega) (by omega),bj (x:=a[i]*b[k]) (by omega) (by omega),bj (x:=c+r[i+k]) (by omega) (by omega),bj (x:=c+r[i+k]+a[i]*b[k]) (by omega) (by omega),show c+r[i+k]+a[i]*b[k]=r[i+k]+a[i]*b[k]+c by omega,ic (a:=r[i+k]+a[i]*b[k]+c) (by omega),jF (a:=r[i+k]+a[i]*b[k]+c) (by omega),bj (x:=(r[i+k]+a[i]*b[k]+c)/1000000000) (by omega) (by omega),c7 (x:=(r[i+k]+a[i]*b[k]+c)%1000000000) (by omega) (by omega),bV (k:=k) (by omega)]
  exact hq
theorem Gd(a b:List Int)(ha:ju a)(hb:ju b):∀(j i:Nat) (r:List Int),i+j=a.length→Lim r→r.length=a.length+b.length→(∀k (hk:k<r.length),i+b.length≤k→r[k]=0)→val r=val (a.take i)*val b→
  rv.Runs 8 (t3 a b (i:Int) r) [.d aoh (ag (val a*val b).toNat)]:=by
 have hsa:=ha.2
 have hsb:=hb.2
 intro j
 induction j with
 |zero=>
  intro i r hi hr hl hz hv
  obtain rfl:i=a.length:=by omega
  refine zZ _ _ _ _ ⟨0,?_⟩
  unfold uu
  rw[amj]at hv
  rw[b9 (ak4 _),akY (show aQ r from⟨hr,by omega⟩),hv]
 |succ j ih=>
  intro i r hi hr hl hz hv
  have hia:i<a.length:=by omega
  obtain⟨q,hq⟩:=Fc a b ha hb i hia (fun r' h1 h2 h3 h4=>ih (i+1) r' (by omega) h1 h2 h3 h4) b.length 0 0 r (by omega) (by omega) (by omega) hr hl hz (by simp[val,hv])
  refine zZ _ _ _ _ ⟨q,?_⟩
  grind [uu]
def abW:Cn 163 [aoh,aoh]:=cn fun(a b:List Int)=>lf (ju a∧ju b) [.d aoh (ag (val a*val b).toNat)] fun h=>by
 refine c8 rQ (show rv.Res _ _ _ from ?_)
 obtain⟨ha,hb⟩:=h
 have hsa:=ha.2
 have hsb:=hb.2
 obtain⟨q,hq⟩:=Gd a b ha hb a.length 0 (List.replicate (a.length+b.length) 0) (by omega) (Lim.rep _) (by simp) (fun k hk _=>by simp) (by simp[val,gS])
 refine adm _ _ ⟨q,?_⟩
 have hw:i64.wrap ((a.length:Int)+(b.length:Int))=((a.length+b.length:Nat):Int):=by rw[aS (by omega) (by omega)];simp
 unfold NA
 rw[hw,tC (by omega),aB]
 exact hq
theorem tu{x:BI}(h:okI x):ju x.2:=⟨h.1.1,by have:=h.2.2;omega⟩
theorem Vo(a b:Int):decide (cp a b≥0)=decide (b≤a):=by grind [df,d7,cO]
theorem xG(a b:Int):decide (cp a b>0)=decide (b<a):=by grind [df,d7,cO]
def po:List En:=[enK xI,enK BY,enF BG,enF xC,enK FO,enK aar,enK G6,enK abW]
def O9(n:Int)(_k:KT):Option (List RV):=match decide (n<0)with|true=>(match decide (iI (u64.wrap (0-(u64.wrap n))))with|true=>(match decide (aQ (ag (u64.wrap (0-(u64.wrap n))).toNat))with|true=>some [RV.d y2Y (ai (cd true (val (ag (u64.wrap (0-(u64.wrap n))).toNat))))]|false=>none)|false=>none)|false=>(match decide (iI (u64.wrap n))with|true=>(match decide (aQ (ag (u64.wrap n).toNat))with|true=>some [RV.d y2Y (ai (cd false (val (ag (u64.wrap n).toNat))))]|false=>none)|false=>none)
def N6(x:Bool×List Int)(_k:KT):Option (List RV):=match(x.2.length:Int)==0 with|true=>some [RV.d aoi 0]|false=>(match x.1 with|true=>some [RV.d aoi (-1)]|false=>some [RV.d aoi 1])
def LO(x y:Bool×List Int)(_k:KT):Option (List RV):=match !(x.1==y.1)with|true=>(match x.1 with|true=>some [RV.d aoi (-1)]|false=>some [RV.d aoi 1])|false=>(match x.1 with|true=>(og (decide (qY y.2 x.2)) (some [RV.d aoi (cp (val y.2) (val x.2))]))|false=>(og (decide (qY x.2 y.2)) (some [RV.d aoi (cp (val x.2) (val y.2))])))
def Qu(x y:Bool×List Int)(_k:KT):Option (List RV):=match x.1==y.1 with|true=>(og (decide (ju x.2∧ju y.2)) (og (decide (aQ (ag (val x.2+val y.2).toNat))) (some [RV.d y2Y (ai (cd x.1 (val (ag (val x.2+val y.2).toNat))))])))|false=>(og (decide (qY x.2 y.2)) (match decide ((cp (val x.2) (val y.2))≥0)with|true=>(og (decide (oz x.2 y.2)) (og (decide (aQ (ag (val x.2-val y.2).toNat))) (some [RV.d y2Y (ai (cd x.1 (val (ag (val x.2-val y.2).toNat))))])))|false=>(og (decide (oz y.2 x.2)) (og (decide (aQ (ag (val y.2-val x.2).toNat))) (some [RV.d y2Y (ai (cd y.1 (val (ag (val y.2-val x.2).toNat))))])))))
def OP(x:Bool×List Int)(_k:KT):Option (List RV):=og (decide (aQ x.2)) (some [RV.d y2Y (ai (cd (!x.1) (val x.2)))])
def Ph(x y:Bool×List Int)(_k:KT):Option (List RV):=og (decide (ju x.2∧ju y.2)) (og (decide (aQ (ag (val x.2*val y.2).toNat))) (some [RV.d y2Y (ai (cd (!(x.1==y.1)) (val (ag (val x.2*val y.2).toNat))))]))
def XV(a:List Int)(n:Int)(_k:KT):Option (List RV):=og (decide (aQ ([n]))) (og (decide (ju a∧ju (ag (val ([n])).toNat))) (some [RV.d aoh (ag (val a*val (ag (val ([n])).toNat)).toNat)]))
def Ch:Cn 82 [aoi]:=cn fun(n:Int)=>lf (aH n) [.d y2Y (ai n)] fun h=>by
 refine aA po (O9 n) ⟨0,?_⟩
 have h1:=h.1
 have h2:=h.2
 unfold O9
 by_cases hn:n<0
 ·have e:u64.wrap (0-u64.wrap n)= -n:=by rw[alP,alP];omega
  have hl:(ag (-n).toNat).length≤3:=cC (by omega) (anu (show-n<18446744073709551616 by omega) (by decide))
  rw[akY hn]
  dsimp only
  rw[e,akY (show iI (-n) from⟨by omega,by omega⟩),akY (cD (n:=(-n).toNat) (by omega)),bU (v:= -n) (by omega)]
  dsimp only
  rw[show cd true (-n)=n by unfold cd;simp]
 ·have e:u64.wrap n=n:=bj (by omega) (by omega)
  have hl:(ag n.toNat).length≤3:=cC (by omega) (anu (show n<18446744073709551616 by omega) (by decide))
  rw[ak0 hn]
  dsimp only
  rw[e,akY (show iI n from⟨by omega,by omega⟩),akY (cD (n:=n.toNat) (by omega)),bU (v:=n) (by omega)]
  rfl
def Q6:Cn 117 [y2Y]:=cn fun(x:Bool×List Int)=>lf (okI x) [.d aoi (cp (ae x) 0)] fun h=>by
 refine aA po (N6 x) ⟨0,?_⟩
 obtain⟨h0,h1,h2⟩:=cE h
 unfold N6
 rw[bL]
 unfold cd
 by_cases he:x.2=[]
 ·have e0:=h2.1 he
  have ex:x.1=false:=by
   cases hx:x.1
   ·rfl
   ·have:=h1 hx;omega
  rw[ex,e0,he]
  rfl
 ·have hp:0<val x.2:=eU h.1 he
  have:=alB.2 he
  rw[show((x.2.length:Int)==0)=false by simp;omega]
  cases x.1
  ·simp only[cond_false];rw[cO hp]
  ·simp only[cond_true];rw[df (by omega)]
def MA:Cn 176 [y2Y,y2Y]:=cn fun(x y:Bool×List Int)=>lf (okI x∧okI y) [.d aoi (cp (ae x) (ae y))] fun h=>by
 refine aA po (LO x y) ⟨0,?_⟩
 obtain⟨hx,hy⟩:=h
 obtain⟨x0,x1,x2⟩:=cE hx
 obtain⟨y0,y1,y2⟩:=cE hy
 have sx:=hx.2.2
 have sy:=hy.2.2
 unfold LO
 rw[bL,bL,akY (show qY y.2 x.2 from⟨⟨hy.1,by omega⟩,hx.1,by omega⟩),akY (show qY x.2 y.2 from⟨⟨hx.1,by omega⟩,hy.1,by omega⟩)]
 unfold cd
 cases ex:x.1<;>cases ey:y.1
 ·rfl
 ·have:=y1 ey
  simp only[cond_true,cond_false]
  rw[show cp (val x.2) (-val y.2)=1 from cO (by omega)]
  rfl
 ·have:=x1 ex
  simp only[cond_true,cond_false]
  rw[show cp (-val x.2) (val y.2)= -1 from df (by omega)]
  rfl
 ·simp only[cond_true]
  rw[JA x0 y0]
  rfl
def Bi:Cn 67 [y2Y,y2Y]:=cn fun(x y:Bool×List Int)=>lf (okI x∧okI y) [.d y2Y (ai (ae x+ae y))] fun h=>by
 refine aA po (Qu x y) ⟨0,?_⟩
 obtain⟨hx,hy⟩:=h
 obtain⟨x0,x1,x2⟩:=cE hx
 obtain⟨y0,y1,y2⟩:=cE hy
 have lx:=gb hx
 have ly:=gb hy
 have tx:=tu hx
 have ty:=tu hy
 have sx:=hx.2.2
 have sy:=hy.2.2
 have bx:=bW hx.1.1
 have by':=bW hy.1.1
 have px:=du (show x.2.length≤1000000 by omega)
 have py:=du (show y.2.length≤1000000 by omega)
 have l1:(ag (val x.2+val y.2).toNat).length≤1000001:=cC (by omega) (by rw[b8];omega)
 have l2:(ag (val x.2-val y.2).toNat).length≤1000000:=dm (by have:=co 1000000;omega)
 have l3:(ag (val y.2-val x.2).toNat).length≤1000000:=dm (by have:=co 1000000;omega)
 unfold Qu
 rw[bL,bL,akY (show ju x.2∧ju y.2 from⟨tx,ty⟩),akY (cD (n:=(val x.2+val y.2).toNat) (by omega)),akY (cD (n:=(val x.2-val y.2).toNat) (by omega)),akY (cD (n:=(val y.2-val x.2).toNat) (by omega)),bU (v:=val x.2+val y.2) (by omega),
  akY (show qY x.2 y.2 from⟨⟨hx.1,by omega⟩,hy.1,by omega⟩),Vo]
 cases hs:x.1==y.1
 ·dsimp only
  rcases alu (val x.2) (val y.2)with hc|hc
  ·rw[ak0 (show ¬val y.2≤val x.2 by omega),akY (show oz y.2 x.2 from⟨ly,lx,by omega⟩),bU (v:=val y.2-val x.2) (by omega)]
   dsimp only
   unfold cd
   cases ex:x.1<;>cases ey:y.1<;>simp_all<;>congr 2<;>omega
  ·rw[akY hc,akY (show oz x.2 y.2 from⟨lx,ly,hc⟩),bU (v:=val x.2-val y.2) (by omega)]
   dsimp only
   unfold cd
   cases ex:x.1<;>cases ey:y.1<;>simp_all<;>congr 2<;>omega
 ·dsimp only
  have e:=al9.1 hs
  rw[←e]
  unfold cd
  cases x.1
  ·rfl
  ·simp only[cond_true]
   rw[show-(val x.2+val y.2)= -val x.2+ -val y.2 by omega]
def RM:Cn 164 [y2Y]:=cn fun(x:Bool×List Int)=>lf (okI x) [.d y2Y (ai (-ae x))] fun h=>by
 refine aA po (OP x) ⟨0,?_⟩
 unfold OP
 rw[bL,akY (gb h)]
 unfold cd
 cases x.1<;>simp
def Sf:Cn 65 [y2Y,y2Y]:=cn fun(x y:Bool×List Int)=>lf (okI x∧okI y) [.d y2Y (ai (ae x*ae y))] fun h=>by
 refine aA po (Ph x y) ⟨0,?_⟩
 obtain⟨hx,hy⟩:=h
 obtain⟨x0,x1,x2⟩:=cE hx
 obtain⟨y0,y1,y2⟩:=cE hy
 have bx:=bW hx.1.1
 have by':=bW hy.1.1
 have sx:=hx.2.2
 have sy:=hy.2.2
 have hm:0≤val x.2*val y.2:=alW x0 y0
 have l1:(ag (val x.2*val y.2).toNat).length≤x.2.length+y.2.length:=cC hm (by
  rw[fB]
  have p1:=co x.2.length
  have p2:=co y.2.length
  have:=am7 (show val x.2≤pw x.2.length-1 by omega) (show val y.2≤pw y.2.length-1 by omega) y0 (by omega)
  grind)
 unfold Ph
 rw[bL,bL,akY (show ju x.2∧ju y.2 from⟨tu hx,tu hy⟩),akY (cD (n:=(val x.2*val y.2).toNat) (by omega)),bU hm]
 unfold cd
 cases x.1<;>cases y.1<;>simp[Int.neg_mul,anS]
def byP(a:List Int)(n:Int):Prop:=ju a∧0≤n∧n<1000000000
instance (a:List Int) (n:Int):Decidable (byP a n):=by unfold byP;infer_instance
def Wn:Cn 321 [aoh,aoj]:=cn fun(a:List Int) (n:Int)=>lf (byP a n) [.d aoh (ag (val a*n).toNat)] fun h=>by
 refine aA po (XV a n) ⟨0,?_⟩
 obtain⟨ha,h1,h2⟩:=h
 have hl:(ag n.toNat).length≤1:=cC (by omega) (by show n<pw 1;simp[pw];exact h2)
 have e:val [n]=n:=by simp[val]
 unfold XV
 rw[e,akY (show aQ [n] from⟨Lim.cons ⟨by omega,h2⟩ Lim.nil,by simp⟩),akY (show ju a∧ju (ag n.toNat) from⟨ha,bZ _,by omega⟩),bU (by omega)]
def ab5:List En:=enK Bi::enK RM::po
def Mb(x y:Bool×List Int)(_k:KT):Option (List RV):=og (decide (okI y)) (og (decide (okI x∧okI (ai (-ae y)))) (some [RV.d y2Y (ai (ae x+ae (ai (-ae y))))]))
def abG:Cn 266 [y2Y,y2Y]:=cn fun(x y:Bool×List Int)=>lf (okI x∧okI y) [.d y2Y (ai (ae x-ae y))] fun h=>by
 refine aA ab5 (Mb x y) ⟨0,?_⟩
 obtain⟨hx,hy⟩:=h
 unfold Mb
 rw[akY hy,akY (show okI x∧okI (ai (-ae y)) from⟨hx,aT (by rw[jk];exact iN hy)⟩),dec_enc,Int.sub_eq_add_neg]
end Go.Proofs.YtnkndpoojnflmaaGreat
end
