/- The reals as Cauchy sequences of fractions. -/
import Derived.Test.YtgddhgcjmddjfaaGreatC8
noncomputable section
namespace Go.Proofs.YtgddhgcjmddjfaaGreat
open Go.RowKit Go.IntKind
theorem atR:type_of% @Quotient.inductionOn:=@Quotient.inductionOn
theorem auP:type_of% @Rat.mul_nonneg:=@Rat.mul_nonneg
theorem auX:type_of% @Rat.mul_pos:=@Rat.mul_pos
theorem awl:type_of% @Rat.intCast_natCast:=@Rat.intCast_natCast
theorem awp:type_of% @Rat.intCast_le_intCast:=@Rat.intCast_le_intCast
theorem awB:type_of% @Quotient.inductionOn₂:=@Quotient.inductionOn₂
theorem awC:type_of% @Quotient.inductionOn₃:=@Quotient.inductionOn₃
theorem awD:type_of% @Rat.mul_comm:=@Rat.mul_comm
theorem awL:type_of% @Quotient.sound:=@Quotient.sound
section
namespace RL
theorem jU{x y B e:Rat}(h1:x<B)(h2: -B<x)(h3:y<e)(h4: -e<y):x*y<B*e:=by
 have p:=auX (a:=B-x) (b:=e+y) (by grind) (by grind)
 have q:=auX (a:=B+x) (b:=e-y) (by grind) (by grind)
 grind
theorem afp{e:Rat}(h:0<e):0<e/2:=by grind
theorem B4{e B:Rat}(h:0<e)(hB:0<B):∃d,0<d∧B*d+B*d<e:=by
 refine⟨e/(4*B),?_,?_⟩
 ·exact auX h (Rat.inv_pos.2 (by grind))
 ·have:B*(e/(4*B))=e/4:=by grind
  grind
structure CS where
 f:Nat→Rat
 cau:∀e:Rat,0<e→∃N,∀m n,N≤m→N≤n→f m-f n<e
theorem CS.bd(a:CS):∃B:Rat,0<B∧∃N,∀n,N≤n→ -B<a.f n∧a.f n<B:=by
 obtain⟨N,h⟩:=a.cau 1 (by grind)
 refine⟨(if 0≤a.f N then a.f N else-a.f N)+1,?_,N,fun n hn=>?_⟩
 ·split<;>grind
 ·have h1:=h n N hn (at5 _)
  have h2:=h N n (at5 _) hn
  split<;>grind
def add(a b:CS):CS:=⟨fun n=>a.f n+b.f n,fun e he=>by
 obtain⟨N,h⟩:=a.cau (e/2) (by grind)
 obtain⟨M,h'⟩:=b.cau (e/2) (by grind)
 refine⟨max N M,fun m n hm hn=>?_⟩
 have:=h m n (by omega) (by omega)
 have:=h' m n (by omega) (by omega)
 grind⟩
def neg(a:CS):CS:=⟨fun n=> -a.f n,fun e he=>by
 obtain⟨N,h⟩:=a.cau e he
 exact⟨N,fun m n hm hn=>by have:=h n m hn hm;grind⟩⟩
theorem Wr(a b:CS)(e:Rat)(he:0<e):∃N,∀m n,N≤m→N≤n→a.f m*b.f m-a.f n*b.f n<e:=by
 obtain⟨A,hA,N1,h1⟩:=a.bd
 obtain⟨B,hB,N2,h2⟩:=b.bd
 obtain⟨d,hd,hd'⟩:=B4 (e:=e) (B:=A+B) he (by grind)
 obtain⟨N3,h3⟩:=a.cau d hd
 obtain⟨N4,h4⟩:=b.cau d hd
 refine⟨max (max N1 N2) (max N3 N4),fun m n hm hn=>?_⟩
 have a1:=h1 m (by omega)
 have b1:=h2 n (by omega)
 have p:=jU a1.2 a1.1 (h4 m n (by omega) (by omega)) (by have:=h4 n m (by omega) (by omega);grind)
 have q:=jU b1.2 b1.1 (h3 m n (by omega) (by omega)) (by have:=h3 n m (by omega) (by omega);grind)
 have r:=auX hA hd
 have s:=auX hB hd
 grind
def mul(a b:CS):CS:=⟨fun n=>a.f n*b.f n,Wr a b⟩
def eqv(a b:CS):Prop:=∀e:Rat,0<e→∃N,∀n,N≤n→a.f n-b.f n<e∧b.f n-a.f n<e
instance st:Setoid CS where
 r:=eqv
 iseqv:=⟨fun a e he=>⟨0,fun n _=>by grind⟩,fun h e he=>by
   obtain⟨N,h⟩:=h e he
   exact⟨N,fun n hn=>⟨(h n hn).2,(h n hn).1⟩⟩,
  fun h h' e he=>by
   obtain⟨N,h⟩:=h (e/2) (by grind)
   obtain⟨M,h'⟩:=h' (e/2) (by grind)
   refine⟨max N M,fun n hn=>?_⟩
   have:=h n (by omega)
   have:=h' n (by omega)
   grind⟩
def const(q:Rat):CS:=⟨fun _=>q,fun e he=>⟨0,fun m n _ _=>by grind⟩⟩
end RL
def RE:Type:=Quotient RL.st
namespace RE
open RL
def of(q:Rat):RE:=Quotient.mk _ (const q)
theorem ajM(a b a' b':CS)(h:a≈a')(h':b≈b'):add a b≈add a' b':=fun e he=>by
 obtain⟨N,h⟩:=h (e/2) (by grind)
 obtain⟨M,h'⟩:=h' (e/2) (by grind)
 refine⟨max N M,fun n hn=>?_⟩
 have:=h n (by omega)
 have:=h' n (by omega)
 simp only[RL.add]
 grind
theorem akq(a a':CS)(h:a≈a'):neg a≈neg a':=fun e he=>by
 obtain⟨N,h⟩:=h e he
 refine⟨N,fun n hn=>?_⟩
 have:=h n (by omega)
 simp only[RL.neg]
 grind
theorem ajg(a b a' b':CS)(h:a≈a')(h':b≈b'):mul a b≈mul a' b':=fun e he=>by
 obtain⟨A,hA,N1,h1⟩:=a.bd
 obtain⟨B,hB,N2,h2⟩:=b'.bd
 obtain⟨d,hd,hd'⟩:=B4 (e:=e) (B:=A+B) he (by grind)
 obtain⟨N3,h3⟩:=h d hd
 obtain⟨N4,h4⟩:=h' d hd
 refine⟨max (max N1 N2) (max N3 N4),fun n hn=>?_⟩
 have a1:=h1 n (by omega)
 have b1:=h2 n (by omega)
 have a3:=h3 n (by omega)
 have b3:=h4 n (by omega)
 have p:=jU a1.2 a1.1 (y:=b.f n-b'.f n) b3.1 (by grind)
 have q:=jU b1.2 b1.1 (y:=a.f n-a'.f n) a3.1 (by grind)
 have p':=jU a1.2 a1.1 (y:=b'.f n-b.f n) b3.2 (by grind)
 have q':=jU b1.2 b1.1 (y:=a'.f n-a.f n) a3.2 (by grind)
 have r:=auX hA hd
 have s:=auX hB hd
 simp only[RL.mul]
 constructor<;>grind
instance:Add RE:=⟨Quotient.lift₂ (fun a b=>Quotient.mk _ (add a b)) (fun _ _ _ _ h h'=>awL (ajM _ _ _ _ h h'))⟩
instance:Neg RE:=⟨Quotient.lift (fun a=>Quotient.mk _ (neg a)) (fun _ _ h=>awL (akq _ _ h))⟩
instance:Sub RE:=⟨fun a b=>a+ -b⟩
instance:Mul RE:=⟨Quotient.lift₂ (fun a b=>Quotient.mk _ (mul a b)) (fun _ _ _ _ h h'=>awL (ajg _ _ _ _ h h'))⟩
theorem snd{a b:CS}(h:∀n,a.f n=b.f n):(Quotient.mk st a:RE)=Quotient.mk st b:=
 awL fun e he=>⟨0,fun n _=>by rw[h n];grind⟩
instance (n:Nat):OfNat RE n:=⟨of (OfNat.ofNat n)⟩
theorem of_add(a b:Rat):of (a+b)=of a+of b:=rfl
theorem ck(a b:Rat):of (a*b)=of a*of b:=rfl
theorem of_neg(a:Rat):of (-a)= -of a:=rfl
theorem of_sub(a b:Rat):of (a-b)=of a-of b:=by rw[awt];rfl
theorem xe:of 0=0:=rfl
theorem Zw:of 1=1:=rfl
theorem add_zero(a:RE):a+0=a:=by
 induction a using atR;exact snd fun n=>Rat.add_zero _
theorem add_comm(a b:RE):a+b=b+a:=by
 induction a,b using awB;exact snd fun n=>Rat.add_comm _ _
theorem add_assoc(a b c:RE):a+b+c=a+(b+c):=by
 induction a,b,c using awC;exact snd fun n=>Rat.add_assoc _ _ _
theorem mul_assoc(a b c:RE):a*b*c=a*(b*c):=by
 induction a,b,c using awC;exact snd fun n=>Rat.mul_assoc _ _ _
theorem mul_comm(a b:RE):a*b=b*a:=by
 induction a,b using awB;exact snd fun n=>awD _ _
theorem mul_one(a:RE):a*1=a:=by
 induction a using atR;exact snd fun n=>Rat.mul_one _
theorem mul_zero(a:RE):a*0=0:=by
 induction a using atR;exact snd fun n=>Rat.mul_zero _
theorem Lm(a:RE): -a+a=0:=by
 induction a using atR;exact snd fun n=>Rat.neg_add_cancel _
def clt(a b:CS):Prop:=∃e:Rat,0<e∧∃N,∀n,N≤n→a.f n+e<b.f n
theorem Rc(a b a' b':CS)(h:a≈a')(h':b≈b')(hl:clt a b):clt a' b':=by
 obtain⟨e,he,N,hl⟩:=hl
 obtain⟨N1,h⟩:=h (e/4) (by grind)
 obtain⟨N2,h'⟩:=h' (e/4) (by grind)
 refine⟨e/2,by grind,max N (max N1 N2),fun n hn=>?_⟩
 have:=hl n (by omega)
 have:=h n (by omega)
 have:=h' n (by omega)
 grind
instance:LT RE:=⟨Quotient.lift₂ clt (fun _ _ _ _ h h'=>propext ⟨Rc _ _ _ _ h h',Rc _ _ _ _ (Setoid.symm h) (Setoid.symm h')⟩)⟩
instance:LE RE:=⟨fun a b=>¬b<a⟩
theorem lt_irrefl(a:RE):¬a<a:=by
 induction a using atR
 rintro ⟨e,he,N,h⟩
 have:=h N (at5 _)
 grind
theorem fN{a b c:RE}:a<b→b<c→a<c:=by
 induction a,b,c using awC
 rintro ⟨e,he,N,h⟩ ⟨e',he',N',h'⟩
 refine⟨e,he,max N N',fun n hn=>?_⟩
 have:=h n (by omega)
 have:=h' n (by omega)
 grind
theorem ow(a b:RE):a<b∨a=b∨b<a:=by
 induction a,b using awB
 rename_i a b
 by_cases h1:clt a b
 ·exact .inl h1
 by_cases h2:clt b a
 ·exact .inr (.inr h2)
 refine .inr (.inl (awL fun e he=>?_))
 obtain⟨N,ha⟩:=a.cau (e/4) (by grind)
 obtain⟨M,hb⟩:=b.cau (e/4) (by grind)
 have g1:∃n,max N M≤n∧b.f n≤a.f n+e/4:=by
  apply aul
  intro hc
  exact h1 ⟨e/4,by grind,max N M,fun n hn=>by
   apply aul
   intro h
   exact hc ⟨n,hn,by grind⟩⟩
 have g2:∃n,max N M≤n∧a.f n≤b.f n+e/4:=by
  apply aul
  intro hc
  exact h2 ⟨e/4,by grind,max N M,fun n hn=>by
   apply aul
   intro h
   exact hc ⟨n,hn,by grind⟩⟩
 obtain⟨p,hp,gp⟩:=g1
 obtain⟨q,hq,gq⟩:=g2
 refine⟨max N M,fun n hn=>?_⟩
 have a1:=ha n q (by omega) (by omega)
 have b1:=hb q n (by omega) (by omega)
 have a2:=ha p n (by omega) (by omega)
 have b2:=hb n p (by omega) (by omega)
 constructor<;>grind
theorem yf{a b:RE}(c:RE):a<b→a+c<b+c:=by
 induction a,b,c using awC
 rintro ⟨e,he,N,h⟩
 refine⟨e,he,N,fun n hn=>?_⟩
 have:=h n hn
 simp only[RL.add]
 grind
theorem mul_pos{a b:RE}:0<a→0<b→0<a*b:=by
 induction a,b using awB
 rintro ⟨e,he,N,h⟩ ⟨e',he',N',h'⟩
 refine⟨e*e',auX he he',max N N',fun n hn=>?_⟩
 have h1:=h n (by omega)
 have h2:=h' n (by omega)
 simp only[RL.const]at h1 h2 ⊢
 rename_i a b
 have p:=auX (a:=a.f n-e) (b:=b.f n-e') (by grind) (by grind)
 have q:=auX (a:=a.f n-e) (b:=e') (by grind) (by grind)
 have r:=auX (a:=e) (b:=b.f n-e') (by grind) (by grind)
 simp only[RL.mul]
 grind
theorem jG{a b:Rat}(h:a<b):of a<of b:=⟨(b-a)/2,by grind,0,fun n _=>by simp only[RL.const];grind⟩
end RE
end
section
namespace RE
open RL
theorem Ek(a b:RE):a≤b↔¬b<a:=Iff.rfl
theorem le_of_lt{a b:RE}(h:a<b):a≤b:=fun h'=>lt_irrefl a (fN h h')
theorem lt_or_ge(a b:RE):a<b∨b≤a:=by
 by_cases h:a<b
 ·exact .inl h
 ·exact .inr h
theorem le_antisymm{a b:RE}(h1:a≤b)(h2:b≤a):a=b:=by
 rcases ow a b with h|h|h
 ·exact absurd h h2
 ·exact h
 ·exact absurd h h1
theorem le_trans{a b c:RE}(h1:a≤b)(h2:b≤c):a≤c:=fun h=>by
 rcases ow a b with h'|h'|h'
 ·exact h2 (fN h h')
 ·subst h';exact h2 h
 ·exact h1 h'
theorem zero_lt_one:(0:RE)<1:=jG (by decide+kernel:(0:Rat)<1)
theorem ql(a:RE):a+ -a=0:=by rw[add_comm,Lm]
theorem vJ{a:RE}(h:a<0):0< -a:=by
 have:=yf (-a) h
 rw[ql,add_comm,add_zero]at this
 exact this
theorem akb{a:RE}(h:0<a): -a<0:=by
 have:=yf (-a) h
 rw[ql,add_comm,add_zero]at this
 exact this
instance:Std.IsLinearOrder RE where
 le_refl a:=lt_irrefl a
 le_trans _ _ _:=le_trans
 le_antisymm _ _:=le_antisymm
 le_total a b:=by
  rcases lt_or_ge a b with h|h
  ·exact .inl (le_of_lt h)
  ·exact .inr h
instance:Std.LawfulOrderLT RE where
 lt_iff a b:=⟨fun h=>⟨le_of_lt h,fun h'=>h' h⟩,fun h=>by
  rcases lt_or_ge a b with h'|h'
  ·exact h'
  ·exact absurd h' h.2⟩
theorem iK{a b:RE}:¬a≤b↔b<a:=⟨fun h=>by
  rcases lt_or_ge b a with h'|h'
  ·exact h'
  ·exact absurd h' h,fun h h'=>h' h⟩
theorem a8{a b:RE}(h:a<b):0<b-a:=by
 have:=yf (-a) h
 rw[ql]at this
 exact this
theorem aR{a b:RE}(h:a≤b):0≤b-a:=fun h'=>h (by
 have:=yf a h'
 have e:b-a+a=b:=by
  show b+ -a+a=b
  rw[add_assoc,Lm,add_zero]
 rw[e,add_comm,add_zero]at this
 exact this)
theorem pp{a:RE}(h:0≤a):0<a∨a=0:=by
 rcases ow 0 a with h'|h'|h'
 ·exact .inl h'
 ·exact .inr h'.symm
 ·exact absurd h' h
theorem le_refl(a:RE):a≤a:=lt_irrefl a
theorem jH{a b:RE}(h:a=b):a≤b:=by rw[h];exact le_refl _
theorem ji{a b:RE}(h:a=b):b≤a:=by rw[h];exact le_refl _
theorem zero_mul(a:RE):0*a=0:=by rw[mul_comm,mul_zero]
theorem zero_add(a:RE):0+a=a:=by rw[add_comm,add_zero]
theorem one_mul(a:RE):1*a=a:=by rw[mul_comm,mul_one]
theorem cW{a b:RE}(h:0≤a)(h':0≤b):0≤a*b:=by
 rcases pp h with h1|h1
 ·rcases pp h' with h2|h2
  ·exact le_of_lt (mul_pos h1 h2)
  ·rw[h2,mul_zero];exact le_refl _
 ·rw[h1,zero_mul];exact le_refl _
theorem aU{a b:RE}(h:0<a)(h':0≤b):0<a+b:=by
 have:=yf b h
 rw[zero_add]at this
 rcases pp h' with h2|h2
 ·exact fN h2 this
 ·rw[h2,add_zero];exact h
theorem HP(a:RE):0≤a*a:=by
 rcases lt_or_ge a 0 with h|h
 ·have h1:=vJ h
  have h2:=mul_pos h1 h1
  have e: -a* -a=a*a:=by
   induction a using atR
   exact snd fun n=>by show-_* -_=_*_;grind
  rw[e]at h2
  exact le_of_lt h2
 ·exact cW h h
theorem xf{c:Rat}(hc:(0:Rat)<c){a:RE}(h:0<a):0<of c*a:=mul_pos (jG hc) h
theorem ls{c:Rat}(hc:(0:Rat)<c){a:RE}(h:0≤a):0≤of c*a:=cW (le_of_lt (jG hc)) h
theorem far{s:RE}(h:0<s)(e:s=0):False:=by rw[e]at h;exact lt_irrefl _ h
theorem aak(x y:RE):((y*y-(x*x)))+((x-(0))*(x-(y)))+((y-(0))*(x-(y)))=0:=by
 induction x using atR
 induction y using atR
 exact snd fun n=>by
  simp only[RL.add,RL.mul,RL.neg,RL.const]
  grind
theorem sq_lt(x y:RE)(h1:0≤x)(h2:0≤y)(h3:x*x<y*y):x<y:=iK.1 fun hg=>far (aU (aU (a8 h3) (cW (aR h1) (aR hg))) (cW (aR h2) (aR hg))) (aak x y)
theorem aeh(x y:RE):((x-(y))*(x-(y)))+((y*y-(x*x)))+of 2*((y-(0))*(x-(y)))=0:=by
 induction x using atR
 induction y using atR
 exact snd fun n=>by
  simp only[RL.add,RL.mul,RL.neg,RL.const]
  grind
theorem Zj(x y:RE)(_h1:0≤x)(h2:0≤y)(h3:x*x≤y*y):x≤y:=fun hg=>far (aU (aU (mul_pos (a8 hg) (a8 hg)) (aR h3)) (ls (by decide+kernel:(0:Rat)<2) (cW (aR h2) (le_of_lt (a8 hg))))) (aeh x y)
theorem PP(x y:RE):((x*x-(y*y)))+of 2*((x-(0))*(y-(x)))+((y-(x))*(y-(x)))=0:=by
 induction x using atR
 induction y using atR
 exact snd fun n=>by
  simp only[RL.add,RL.mul,RL.neg,RL.const]
  grind
theorem tL(x y:RE)(h1:0≤x)(h2:x≤y):x*x≤y*y:=fun hg=>far (aU (aU (a8 hg) (ls (by decide+kernel:(0:Rat)<2) (cW (aR h1) (aR h2)))) (cW (aR h2) (aR h2))) (PP x y)
theorem ajo(x y:RE):((y-(x))*(y-(x)))+((x*x-(y*y)))+of 2*((x-(0))*(y-(x)))=0:=by
 induction x using atR
 induction y using atR
 exact snd fun n=>by
  simp only[RL.add,RL.mul,RL.neg,RL.const]
  grind
theorem P1(x y:RE):((x-(y))*(x-(y)))+((y*y-(x*x)))+of 2*((y-(0))*(x-(y)))=0:=by
 induction x using atR
 induction y using atR
 exact snd fun n=>by
  simp only[RL.add,RL.mul,RL.neg,RL.const]
  grind
theorem aj9(x y:RE)(_h1:0≤x)(h2:0≤y)(h3:x*x=y*y):x≤y:=fun hg=>far (aU (aU (mul_pos (a8 hg) (a8 hg)) (aR (jH h3))) (ls (by decide+kernel:(0:Rat)<2) (cW (aR h2) (le_of_lt (a8 hg))))) (P1 x y)
theorem U2(x y:RE):((y-(x))*(y-(x)))+((x*x-(y*y)))+of 2*((x-(0))*(y-(x)))=0:=by
 induction x using atR
 induction y using atR
 exact snd fun n=>by
  simp only[RL.add,RL.mul,RL.neg,RL.const]
  grind
theorem akD(x y:RE)(h1:0≤x)(_h2:0≤y)(h3:x*x=y*y):y≤x:=fun hg=>far (aU (aU (mul_pos (a8 hg) (a8 hg)) (aR (ji h3))) (ls (by decide+kernel:(0:Rat)<2) (cW (aR h1) (le_of_lt (a8 hg))))) (U2 x y)
theorem aeZ(x y:RE)(h1:0≤x)(h2:0≤y)(h3:x*x=y*y):x=y:=le_antisymm (aj9 x y h1 h2 h3) (akD x y h1 h2 h3)
end RE
end
section
namespace RE
open RL
theorem anO(q:Rat):∃k:Nat,q<(k:Rat):=by
 refine⟨(q.floor+1).toNat,?_⟩
 have h1:q<((q.floor+1:Int):Rat):=(Rat.floor_lt_iff).1 (by omega)
 have h2:((q.floor+1:Int):Rat)≤(((q.floor+1).toNat:Int):Rat):=awp.2 (by omega)
 have h3:(((q.floor+1).toNat:Int):Rat)=(((q.floor+1).toNat:Nat):Rat):=awl _
 rw[h3]at h2
 grind
theorem abC(g d:Rat)(hg:0≤g)(hd:0<d):∃s:Rat,0≤s∧s*s≤g∧g<(s+d)*(s+d):=by
 apply aul
 intro hn
 have step:∀k:Nat,((k:Rat)*d)*((k:Rat)*d)≤g:=by
  intro k
  induction k with
  |zero=>rw[show((0:Nat):Rat)=0 from rfl];grind
  |succ k ih=>
   apply aul
   intro hc
   refine hn ⟨(k:Rat)*d,?_,ih,?_⟩
   ·have:(0:Rat)≤(k:Rat):=by
     have:=Rat.intCast_nonneg.2 (show(0:Int)≤(k:Int) by omega)
     rwa [awl]at this
    exact auP this (by grind)
   ·have e:(((k+1:Nat)):Rat)=(k:Rat)+1:=by rw[Rat.natCast_add];rfl
    rw[e]at hc
    grind
 obtain⟨k,hk⟩:=anO ((g+1)/d)
 have h1:g+1<(k:Rat)*d:=by
  have:=auX (show 0<(k:Rat)-(g+1)/d by grind) hd
  have e:((k:Rat)-(g+1)/d)*d=(k:Rat)*d-(g+1):=by grind
  grind
 have h2:=step k
 have h3:=auX (show 0<(k:Rat)*d-(g+1) by grind) (show 0<(k:Rat)*d by grind)
 have h4:=auX (show 0<(k:Rat)*d-(g+1) by grind) (show 0<g+1 by grind)
 have h5:=auP hg hg
 clear hn step hk
 generalize (k:Rat)*d=t at h1 h2 h3 h4
 grind
def eps(n:Nat):Rat:=1/((n:Rat)+1)
theorem rH(n:Nat):(0:Rat)≤(n:Rat):=by
 have:=Rat.intCast_nonneg.2 (show(0:Int)≤(n:Int) by omega)
 rwa [awl]at this
theorem sQ(n:Nat):0<eps n:=by
 have:=rH n
 exact auX (by grind) (Rat.inv_pos.2 (by grind))
theorem Cb(e:Rat)(he:0<e):∃N,∀n,N≤n→eps n<e:=by
 obtain⟨N,hN⟩:=anO (1/e)
 refine⟨N,fun n hn=>?_⟩
 have h0:=rH n
 have h1:(N:Rat)≤(n:Rat):=by
  have:=awp.2 (show(N:Int)≤(n:Int) by omega)
  rwa [awl,awl]at this
 have h2:1/e<(n:Rat)+1:=by grind
 have h3:=auX (show 0<(n:Rat)+1-1/e by grind) (auX he (sQ n))
 unfold eps at h3 ⊢
 have e1:((n:Rat)+1-1/e)*(e*(1/((n:Rat)+1)))=e-1/((n:Rat)+1):=by
  have:(n:Rat)+1≠0:=by grind
  have:e≠0:=by grind
  grind
 grind
theorem IP(n:Nat):eps n≤1:=by
 have h0:=rH n
 have:=sQ n
 unfold eps at*
 have h3:=auP h0 (show(0:Rat)≤1/((n:Rat)+1) by grind)
 have e1:(n:Rat)*(1/((n:Rat)+1))=1-1/((n:Rat)+1):=by
  have:(n:Rat)+1≠0:=by grind
  grind
 grind
theorem P3{a b:Rat}(ha:0≤a)(hb:0≤b)(h:a*a<b*b):a<b:=by
 apply aul
 intro hc
 have:=auP (show 0≤a-b by grind) (show 0≤a+b by grind)
 grind
theorem CV(x:RE)(hx:0≤x):∃y:RE,0≤y∧y*y=x:=by
 induction x using atR
 rename_i f
 have hc:∀n,∃s:Rat,0≤s∧s*s≤(if 0≤f.f n then f.f n else 0)∧(if 0≤f.f n then f.f n else 0)<(s+eps n)*(s+eps n):=fun n=>
  abC _ _ (by split<;>grind) (sQ n)
 let g:Nat→Rat:=fun n=>if 0≤f.f n then f.f n else 0
 let s:Nat→Rat:=fun n=>Classical.choose (hc n)
 have hs:∀n,0≤s n∧s n*s n≤g n∧g n<(s n+eps n)*(s n+eps n):=fun n=>ave (hc n)
 have hg:∀m n,g m-g n≤(if 0≤f.f m-f.f n then f.f m-f.f n else 0):=fun m n=>by
  show(if 0≤f.f m then f.f m else 0)-(if 0≤f.f n then f.f n else 0)≤_
  split<;>split<;>split<;>grind
 obtain⟨B,hB,NB,hBn⟩:=f.bd
 have hgB:∀n,NB≤n→g n<B:=fun n hn=>by
  show(if 0≤f.f n then f.f n else 0)<B
  have:=hBn n hn
  split<;>grind
 have hsB:∀n,NB≤n→s n<B+1:=fun n hn=>by
  have h1:=hs n
  have h2:=hgB n hn
  refine P3 h1.1 (by grind) ?_
  have:=auP (show 0≤B by grind) (show 0≤B by grind)
  grind
 have hcau:∀e:Rat,0<e→∃N,∀m n,N≤m→N≤n→s m-s n<e:=by
  intro e he
  obtain⟨N1,h1⟩:=f.cau (e*e/4) (by have:=auX he he;grind)
  obtain⟨N2,h2⟩:=Cb (e/2) (by grind)
  refine⟨max N1 N2,fun m n hm hn=>?_⟩
  apply aul
  intro hne
  have a1:=hs m
  have a2:=hs n
  have a3:=h1 m n (by omega) (by omega)
  have a4:=h2 n (by omega)
  have a5:=hg m n
  have a6:=sQ n
  have p1:=auP (show 0≤s m-(s n+e) by grind) (show 0≤s m+(s n+e) by grind)
  have p2:=auP (show 0≤e/2-eps n by grind) (show 0≤(s n+e/2)+(s n+eps n) by grind)
  have p3:=auP (show 0≤e by grind) a2.1
  have p4:=auX he he
  split at a5<;>grind
 refine⟨Quotient.mk _ ⟨s,hcau⟩,?_,awL fun e he=>?_⟩
 ·rintro ⟨e,he,N,h⟩
  have h1:=h N (at5 _)
  have h2:=(hs N).1
  simp only[RL.const]at h1
  grind
 ·-- s n*s n is near to f n
  have hneg:∃N,∀n,N≤n→ -(e/4)<f.f n:=by
   apply aul
   intro hne
   obtain⟨M,hM⟩:=f.cau (e/8) (by grind)
   refine hx ⟨e/16,by grind,M,fun n hn=>?_⟩
   apply aul
   intro hge
   refine hne ⟨M,fun k hk=>?_⟩
   have:=hM n k hn hk
   simp only[RL.const]at hge
   grind
  obtain⟨N1,h1⟩:=hneg
  obtain⟨N2,h2⟩:=Cb (e/(4*(B+2))) (auX he (Rat.inv_pos.2 (by grind)))
  refine⟨max (max N1 N2) NB,fun n hn=>?_⟩
  have a1:=hs n
  have a2:=h1 n (by omega)
  have a3:=h2 n (by omega)
  have a4:=hsB n (by omega)
  have a5:=sQ n
  have a6:=IP n
  have hgf:f.f n≤g n∧g n<f.f n+e/4:=by
   show f.f n≤(if 0≤f.f n then f.f n else 0)∧(if 0≤f.f n then f.f n else 0)<_
   split<;>constructor<;>grind
  have p1:=auP (show 0≤eps n by grind) (show 0≤2*(B+2)-(2*s n+eps n) by grind)
  have p2:eps n*(2*(B+2))<e/2:=by
   have:=auX (show 0<e/(4*(B+2))-eps n by grind) (show 0<2*(B+2) by grind)
   have e1:(e/(4*(B+2))-eps n)*(2*(B+2))=e/2-eps n*(2*(B+2)):=by
    have:B+2≠0:=by grind
    grind
   grind
  simp only[RL.mul]
  constructor<;>grind
open Classical in
def zG(x:RE):RE:=if h:0≤x then Classical.choose (CV x h)else 0
theorem pZ(x:RE):0≤zG x:=by
 unfold zG
 split
 ·rename_i h;exact(ave (CV x h)).1
 ·exact lt_irrefl 0
theorem Dh{x:RE}(h:0≤x):zG x*zG x=x:=by
 unfold zG
 rw[dif_pos h]
 exact(ave (CV x h)).2
theorem nW{a b:Rat}:of a≤of b↔a≤b:=by
 constructor
 ·intro h
  apply aul
  intro hc
  exact h (jG (by grind))
 ·intro h h'
  rcases(by grind:a<b∨a=b)with h1|h1
  ·exact lt_irrefl _ (fN h' (jG h1))
  ·rw[h1]at h';exact lt_irrefl _ h'
theorem Id{a b:Rat}(h:of a=of b):a=b:=by
 have h1:=nW.1 (show of a≤of b by rw[h];exact lt_irrefl _)
 have h2:=nW.1 (show of b≤of a by rw[h];exact lt_irrefl _)
 grind
end RE
end
section
namespace RE
open RL
open Classical in
def sg(x:RE):Int:=if 0<x then 1 else if x<0 then-1 else 0
theorem jr{x:RE}(h:0<x):sg x=1:=auv h
theorem n4{x:RE}(h:x<0):sg x= -1:=by unfold sg;rw[aum (fun h'=>lt_irrefl _ (fN h h')),auv h]
theorem fV:sg 0=0:=by unfold sg;rw[aum (lt_irrefl _),aum (lt_irrefl _)]
theorem dB(x:RE):(0<x∧sg x=1)∨(x=0∧sg x=0)∨(x<0∧sg x= -1):=by
 rcases ow 0 x with h|h|h
 ·exact .inl ⟨h,jr h⟩
 ·exact .inr (.inl ⟨h.symm,by rw[←h,fV]⟩)
 ·exact .inr (.inr ⟨h,n4 h⟩)
theorem TF{x:RE}:sg x=0↔x=0:=by
 rcases dB x with⟨h,e⟩|⟨h,e⟩|⟨h,e⟩<;>rw[e]
 ·exact⟨fun h'=>by omega,fun h'=>by rw[h']at h;exact absurd h (lt_irrefl _)⟩
 ·exact⟨fun _=>h,fun _=>rfl⟩
 ·exact⟨fun h'=>by omega,fun h'=>by rw[h']at h;exact absurd h (lt_irrefl _)⟩
theorem neg_mul(a b:RE): -a*b= -(a*b):=by
 induction a using atR
 induction b using atR
 exact snd fun n=>by
  simp only[RL.mul,RL.neg]
  grind
theorem mul_neg(a b:RE):a* -b= -(a*b):=by
 induction a using atR
 induction b using atR
 exact snd fun n=>by
  simp only[RL.mul,RL.neg]
  grind
theorem neg_neg(a:RE): - -a=a:=by
 induction a using atR
 exact snd fun n=>by
  simp only[RL.neg]
  grind
theorem sub_self(a:RE):a-a=0:=by
 induction a using atR
 exact snd fun n=>by
  simp only[RL.add,RL.neg,RL.const]
  grind
theorem akv(x y:RE):(x+y)*(x-y)=x*x-y*y:=by
 induction x using atR
 induction y using atR
 exact snd fun n=>by
  simp only[RL.add,RL.mul,RL.neg]
  grind
theorem YD(x y:RE):((x-(0))*(0-(y)))+((x*y-(0)))=0:=by
 induction x using atR
 induction y using atR
 exact snd fun n=>by
  simp only[RL.add,RL.mul,RL.neg,RL.const]
  grind
theorem SX(x y:RE)(h1:0<x)(h2:y<0):x*y<0:=iK.1 fun hg=>far (aU (mul_pos (a8 h1) (a8 h2)) (aR hg)) (YD x y)
theorem TV(x y:RE):((0-(x)))+((0-(y)))+((x+y-(0)))=0:=by
 induction x using atR
 induction y using atR
 exact snd fun n=>by
  simp only[RL.add,RL.neg,RL.const]
  grind
theorem aiv(x y:RE)(h1:x<0)(h2:y<0):x+y<0:=iK.1 fun hg=>far (aU (aU (a8 h1) (le_of_lt (a8 h2))) (aR hg)) (TV x y)
theorem Wn(x y:RE):((x-(0)))+((0-(y)))+((0-(x-y)))=0:=by
 induction x using atR
 induction y using atR
 exact snd fun n=>by
  simp only[RL.add,RL.neg,RL.const]
  grind
theorem alz(x y:RE)(h1:0<x)(h2:y<0):0<x-y:=iK.1 fun hg=>far (aU (aU (a8 h1) (le_of_lt (a8 h2))) (aR hg)) (Wn x y)
theorem Xp(x y:RE):((0-(x)))+((y-(0)))+((x-y-(0)))=0:=by
 induction x using atR
 induction y using atR
 exact snd fun n=>by
  simp only[RL.add,RL.neg,RL.const]
  grind
theorem akf(x y:RE)(h1:x<0)(h2:0<y):x-y<0:=iK.1 fun hg=>far (aU (aU (a8 h1) (le_of_lt (a8 h2))) (aR hg)) (Xp x y)
theorem TM(x y:RE):((x-(0)))+((y-(0)))+((0-(x+y)))=0:=by
 induction x using atR
 induction y using atR
 exact snd fun n=>by
  simp only[RL.add,RL.neg,RL.const]
  grind
theorem aii(x y:RE)(h1:0<x)(h2:0<y):0<x+y:=iK.1 fun hg=>far (aU (aU (a8 h1) (le_of_lt (a8 h2))) (aR hg)) (TM x y)
theorem QD: -(0:RE)=0:=by rw[←zero_add (-0),ql]
theorem akM(x:RE):sg (-x)= -sg x:=by
 rcases dB x with⟨h,e⟩|⟨h,e⟩|⟨h,e⟩<;>rw[e]
 ·exact n4 (akb h)
 ·rw[h,QD,fV];rfl
 ·exact jr (vJ h)
theorem uQ(x y:RE):sg (x*y)=sg x*sg y:=by
 rcases dB x with⟨h,e⟩|⟨h,e⟩|⟨h,e⟩<;>rw[e]
 ·rcases dB y with⟨h',e'⟩|⟨h',e'⟩|⟨h',e'⟩<;>rw[e']
  ·exact jr (mul_pos h h')
  ·rw[h',mul_zero,fV];rfl
  ·exact n4 (SX _ _ h h')
 ·rw[h,zero_mul,fV];omega
 ·rcases dB y with⟨h',e'⟩|⟨h',e'⟩|⟨h',e'⟩<;>rw[e']
  ·rw[mul_comm];exact n4 (SX _ _ h' h)
  ·rw[h',mul_zero,fV];rfl
  ·have:=mul_pos (vJ h) (vJ h')
   rw[neg_mul,mul_neg,neg_neg]at this
   exact jr this
theorem sg_of(q:Rat):sg (of q)=aS q 0:=by
 rcases(by grind:q<0∨q=0∨0<q)with h|h|h
 ·rw[dK h];exact n4 (jG h)
 ·rw[h,dY];exact fV
 ·rw[dA h];exact jr (jG h)
def addS(s t d:Int):Int:=bif t==0||s==t then s else bif s==0 then t else s*d
theorem Yb(x y:RE):sg (x+y)=addS (sg x) (sg y) (sg (x*x-y*y)):=by
 rw[←akv,uQ]
 rcases dB x with⟨h,e⟩|⟨h,e⟩|⟨h,e⟩<;>rw[e]
 ·rcases dB y with⟨h',e'⟩|⟨h',e'⟩|⟨h',e'⟩<;>rw[e']
  ·exact jr (aii _ _ h h')
  ·rw[h',add_zero,e];rfl
  ·rw[jr (alz _ _ h h')]
   show _=1*(_*1)
   omega
 ·rcases dB y with⟨h',e'⟩|⟨h',e'⟩|⟨h',e'⟩<;>rw[e',h,zero_add,e']<;>rfl
 ·rcases dB y with⟨h',e'⟩|⟨h',e'⟩|⟨h',e'⟩<;>rw[e']
  ·rw[n4 (akf _ _ h h')]
   show _= -1*(_* -1)
   omega
  ·rw[h',add_zero,e];rfl
  ·exact n4 (aiv _ _ h h')
end RE
end
def uZ:Nat→Nat→Nat
 |0,_=>0
 |f+1,n=>bif decide (n=0)then 0 else bif decide ((2*uZ f (n/4)+1)*(2*uZ f (n/4)+1)≤n)then 2*uZ f (n/4)+1 else 2*uZ f (n/4)
def Dt(n:Nat):Nat:=uZ (n.log2+1) n
theorem MV:∀(f n:Nat),n<2^f→uZ f n*uZ f n≤n∧n<(uZ f n+1)*(uZ f n+1)
 |0,n,h=>by
  have:n=0:=by simpa using h
  subst this
  exact⟨at5 _,by decide⟩
 |f+1,n,h=>by
  rcases auI n with h0|h0
  ·subst h0
   show uZ (f+1) 0*uZ (f+1) 0≤0∧_
   exact⟨at5 _,by show 0<(0+1)*(0+1);decide⟩
  ·have h4:n/4<2^f:=by
    rw[Nat.pow_succ]at h
    omega
   obtain⟨h1,h2⟩:=MV f (n/4) h4
   simp only[uZ]
   rw[atV (show ¬n=0 by omega)]
   generalize uZ f (n/4)=s at h1 h2
   have e1:(2*s)*(2*s)=4*(s*s):=by grind
   have e2:(2*s+1+1)*(2*s+1+1)=4*((s+1)*(s+1)):=by grind
   by_cases hc:(2*s+1)*(2*s+1)≤n
   ·rw[atT hc]
    exact⟨hc,by show n<(2*s+1+1)*(2*s+1+1);rw[e2];omega⟩
   ·rw[atV hc]
    exact⟨by show(2*s)*(2*s)≤n;rw[e1];omega,by show n<(2*s+1)*(2*s+1);omega⟩
theorem adF(n:Nat):Dt n*Dt n≤n∧n<(Dt n+1)*(Dt n+1):=MV _ n Nat.lt_log2_self
def b9(z:Int):Int:=(Dt z.toNat:Int)
theorem fT{z:Int}(h:0≤z):0≤b9 z∧b9 z*b9 z≤z∧z<(b9 z+1)*(b9 z+1):=by
 obtain⟨h1,h2⟩:=adF z.toNat
 unfold b9
 have h3:((Dt z.toNat*Dt z.toNat:Nat):Int)≤(z.toNat:Int):=by omega
 have h4:(z.toNat:Int)<(((Dt z.toNat+1)*(Dt z.toNat+1):Nat):Int):=by omega
 rw[avq]at h3 h4
 exact⟨by omega,by omega,by simp only[Int.natCast_add,Int.natCast_one]at h4;omega⟩
theorem tL{a b:Int}(ha:0≤a)(h:a≤b):a*a≤b*b:=av8 h h ha (by omega)
theorem sq_lt{a b:Int}(hb:0≤b)(h:a*a<b*b):a<b:=by
 apply aul
 intro hc
 have:=tL hb (show b≤a by omega)
 omega
theorem Z7{z s:Int}(h0:0≤s)(h1:s*s≤z)(h2:z<(s+1)*(s+1)):b9 z=s:=by
 obtain⟨g0,g1,g2⟩:=fT (show 0≤z by have:=tL (a:=0) (by omega) h0;omega)
 have a1:=sq_lt (b:=s+1) (a:=b9 z) (by omega) (by omega)
 have a2:=sq_lt (b:=b9 z+1) (a:=s) (by omega) (by omega)
 omega
theorem TJ{a x s:Int}(hx:0<x)(_hs:0≤s)(h1:s*s≤a):s≤(x+a/x)/2:=by
 have hq:=auR a x
 have hm:=auJ a hx
 apply aul
 intro hc
 have h2:a/x≤2*s-x-1:=by omega
 have h3:x*(a/x)≤x*(2*s-x-1):=aua h2 (by omega)
 have h4:0≤(s-x)*(s-x):=by
  rcases Int.le_total 0 (s-x)with h|h
  ·exact au1 h h
  ·exact Int.mul_nonneg_of_nonpos_of_nonpos h h
 grind
theorem ya{a x s:Int}(hx:0<x)(hs:s≤x)(_h1:s*s≤a)(h2:a<(s+1)*(s+1))(h3:0≤s)(h:x≤(x+a/x)/2):x=s:=by
 have hq:=auR a x
 have hm:=avc a (show x≠0 by omega)
 have h4:x≤a/x:=by omega
 have h5:x*x≤x*(a/x):=aua h4 (by omega)
 have:=sq_lt (a:=x) (b:=s+1) (by omega) (by omega)
 omega
def fC(x:BI):BI:=bif x.1 then(false,[])else aj (b9 (ag x))
def tg(x:BI):Int:=bif x.1 then 7 else 0
def CP:Env:=[(206,oN),(148,rO),(195,ph),(200,yS),(248,DB)]
theorem yV:EnvAll Tryz.prog CP:=⟨kg,mp,kR,tt,zR,trivial⟩
def akc:NT:=[((282,25),{keep:=[1,2,5,6],hl:=6})]
def M5:Ctx:=CX CP akc
def nq(x:Bool×List Int)(b4_0:Bool)(b4_1:List Int):Cfg:=⟨282,[.blk 0],[(1,.box 0 0),(2,.box 1 0),(5,.box 4 0),(6,.box 5 0)],[.box 33 [SB x.1,.d axe x.2],.box 33 [SB false,.nil],.gone,.row 180 axg ([1]),.box 33 [SB b4_0,.d axe b4_1],.box 33 [SB ((aj (2:Int)).1),.d axe ((aj (2:Int)).2)]],0,[]⟩
def J1(x:Bool×List Int)(k:KT):Option (List RV):=match x.1 with|true=>some [RV.d y2Y (false,[]),RV.d axf 7]|false=>(match(x.2.length:Int)==0 with|true=>some [RV.d y2Y (false,[]),RV.d axf 0]|false=>(match decide ((0:Int)≤i64.wrap (Int.tdiv (i64.wrap ((x.2.length:Int)+1)) 2)∧(i64.wrap (Int.tdiv (i64.wrap ((x.2.length:Int)+1)) 2))*((4:Nat):Int)≤140737488355328∧i64.wrap (Int.tdiv (i64.wrap ((x.2.length:Int)+1)) 2)≤140737488355328)with|true=>(match decide (((List.replicate (i64.wrap (Int.tdiv (i64.wrap ((x.2.length:Int)+1)) 2)).toNat (0:Int)).length+([1]).length)*4≤140737488355328∧(List.replicate (i64.wrap (Int.tdiv (i64.wrap ((x.2.length:Int)+1)) 2)).toNat (0:Int)).length+([1]).length≤140737488355328)with|true=>(match decide (bj ((List.replicate (i64.wrap (Int.tdiv (i64.wrap ((x.2.length:Int)+1)) 2)).toNat (0:Int))++([1])))with|true=>(match decide (bO (2:Int))with|true=>k 25 (nq x ((aj (cC false (val ((List.replicate (i64.wrap (Int.tdiv (i64.wrap ((x.2.length:Int)+1)) 2)).toNat (0:Int))++([1]))))).1) ((aj (cC false (val ((List.replicate (i64.wrap (Int.tdiv (i64.wrap ((x.2.length:Int)+1)) 2)).toNat (0:Int))++([1]))))).2))|false=>none)|false=>none)|false=>none)|false=>none))
theorem Yw(x:Bool×List Int):RS M5 282 [.d y2Y x] (J1 x):=rsX
def vN(x:Bool×List Int)(b4_0:Bool)(b4_1:List Int)(k:KT):Option (List RV):=match decide (fv x (b4_0,b4_1))with|true=>dl (match decide (okI (b4_0,b4_1)∧okI (aj (ag x/ag (b4_0,b4_1))))with|true=>dl (match decide (fv (aj (ag (b4_0,b4_1)+ag (aj (ag x/ag (b4_0,b4_1))))) (aj (2:Int)))with|true=>dup (.b .l .l) (match decide (okI (aj (ag (aj (ag (b4_0,b4_1)+ag (aj (ag x/ag (b4_0,b4_1)))))/ag (aj (2:Int))))∧okI (b4_0,b4_1))with|true=>(match decide ((cH (ag (aj (ag (aj (ag (b4_0,b4_1)+ag (aj (ag x/ag (b4_0,b4_1)))))/ag (aj (2:Int))))) (ag (b4_0,b4_1)))≥0)with|true=>some [RV.d y2Y (b4_0,b4_1),RV.d axf 0]|false=>k 25 (nq x ((aj (ag (aj (ag (b4_0,b4_1)+ag (aj (ag x/ag (b4_0,b4_1)))))/ag (aj (2:Int)))).1) ((aj (ag (aj (ag (b4_0,b4_1)+ag (aj (ag x/ag (b4_0,b4_1)))))/ag (aj (2:Int)))).2)))|false=>none)|false=>none) (dup (.b (.b .l .l) (.b .l .l)) (match decide (fv (aj (ag (b4_0,b4_1)+ag (aj (ag x/ag (b4_0,b4_1))))) (aj (2:Int)))with|true=>(match decide (okI (aj (ag (aj (ag (b4_0,b4_1)+ag (aj (ag x/ag (b4_0,b4_1)))))/ag (aj (2:Int))))∧okI (b4_0,b4_1))with|true=>(match decide ((cH (ag (aj (ag (aj (ag (b4_0,b4_1)+ag (aj (ag x/ag (b4_0,b4_1)))))/ag (aj (2:Int))))) (ag (b4_0,b4_1)))≥0)with|true=>some [RV.d y2Y (b4_0,b4_1),RV.d axf 0]|false=>k 25 (nq x ((aj (ag (aj (ag (b4_0,b4_1)+ag (aj (ag x/ag (b4_0,b4_1)))))/ag (aj (2:Int)))).1) ((aj (ag (aj (ag (b4_0,b4_1)+ag (aj (ag x/ag (b4_0,b4_1)))))/ag (aj (2:Int)))).2)))|false=>none)|false=>none))|false=>none) (dup (.b .l .l) (dl (match decide (okI (b4_0,b4_1)∧okI (aj (ag x/ag (b4_0,b4_1))))with|true=>dup (.b .l .l) (match decide (fv (aj (ag (b4_0,b4_1)+ag (aj (ag x/ag (b4_0,b4_1))))) (aj (2:Int)))with|true=>(match decide (okI (aj (ag (aj (ag (b4_0,b4_1)+ag (aj (ag x/ag (b4_0,b4_1)))))/ag (aj (2:Int))))∧okI (b4_0,b4_1))with|true=>(match decide ((cH (ag (aj (ag (aj (ag (b4_0,b4_1)+ag (aj (ag x/ag (b4_0,b4_1)))))/ag (aj (2:Int))))) (ag (b4_0,b4_1)))≥0)with|true=>some [RV.d y2Y (b4_0,b4_1),RV.d axf 0]|false=>k 25 (nq x ((aj (ag (aj (ag (b4_0,b4_1)+ag (aj (ag x/ag (b4_0,b4_1)))))/ag (aj (2:Int)))).1) ((aj (ag (aj (ag (b4_0,b4_1)+ag (aj (ag x/ag (b4_0,b4_1)))))/ag (aj (2:Int)))).2)))|false=>none)|false=>none)|false=>none) (match decide (okI (b4_0,b4_1)∧okI (aj (ag x/ag (b4_0,b4_1))))with|true=>(match decide (fv (aj (ag (b4_0,b4_1)+ag (aj (ag x/ag (b4_0,b4_1))))) (aj (2:Int)))with|true=>(match decide (okI (aj (ag (aj (ag (b4_0,b4_1)+ag (aj (ag x/ag (b4_0,b4_1)))))/ag (aj (2:Int))))∧okI (b4_0,b4_1))with|true=>(match decide ((cH (ag (aj (ag (aj (ag (b4_0,b4_1)+ag (aj (ag x/ag (b4_0,b4_1)))))/ag (aj (2:Int))))) (ag (b4_0,b4_1)))≥0)with|true=>some [RV.d y2Y (b4_0,b4_1),RV.d axf 0]|false=>k 25 (nq x ((aj (ag (aj (ag (b4_0,b4_1)+ag (aj (ag x/ag (b4_0,b4_1)))))/ag (aj (2:Int)))).1) ((aj (ag (aj (ag (b4_0,b4_1)+ag (aj (ag x/ag (b4_0,b4_1)))))/ag (aj (2:Int)))).2)))|false=>none)|false=>none)|false=>none)))|false=>none
theorem Ba(x:Bool×List Int)(b4_0:Bool)(b4_1:List Int):RN M5 25 (nq x b4_0 b4_1) (vN x b4_0 b4_1):=rnX
def amf:NT:=[((254,16),{keep:=[1,4,5],hl:=1})]
def L5:Ctx:=CX CP amf
def wG(x:Bool×List Int)(s4 s5:Int):Cfg:=⟨254,[.blk 0,.seq 27],[(1,.box 0 0),(4,.d (.int .u64) s4),(5,SI s5)],[.box 33 [SB x.1,.d axe x.2]],0,[]⟩
def Li(x:Bool×List Int)(k:KT):Option (List RV):=match decide (bO ((-9223372036854775808):Int))with|true=>(match decide (okI x∧okI (aj ((-9223372036854775808):Int)))with|true=>dup (.b .l .l) (match decide ((cH (ag x) (ag (aj ((-9223372036854775808):Int))))<0)with|true=>some [RV.d axf 0,RV.d .bool false]|false=>(match decide (bO (9223372036854775807:Int))with|true=>(match decide (okI x∧okI (aj (9223372036854775807:Int)))with|true=>(match decide ((cH (ag x) (ag (aj (9223372036854775807:Int))))>0)with|true=>some [RV.d axf 0,RV.d .bool false]|false=>k 16 (wG x 0 (i64.wrap ((x.2.length:Int)-1))))|false=>none)|false=>none))|false=>none)|false=>none
theorem S6(x:Bool×List Int):RS L5 254 [.d y2Y x] (Li x):=rsX
def uV(x:Bool×List Int)(s4 s5:Int)(k:KT):Option (List RV):=match decide (s5≥0)with|true=>(match bi x.2 s5 with|some x1=>k 16 (wG x (u64.wrap ((u64.wrap (s4*1000000000))+(u64.wrap x1))) (i64.wrap (s5-1)))|none=>none)|false=>(match x.1 with|true=>some [RV.d axf (i64.wrap (u64.wrap (0-s4))),RV.d .bool true]|false=>some [RV.d axf (i64.wrap s4),RV.d .bool true])
theorem AW(x:Bool×List Int)(s4 s5:Int):RN L5 16 (wG x s4 s5) (uV x s4 s5):=rnX
theorem Qy(x:BI)(hx:okI x)(h0:0<ag x):∀(m:Nat) (X:Int),X.toNat=m→0<X→b9 (ag x)≤X→szI X≤900000→M5.Runs 25 (nq x (aj X).1 (aj X).2) [.d y2Y (aj (b9 (ag x))),.d axf 0]:=by
 intro m
 induction m using Nat.strongRecOn with
 |ind m ih=>
  intro X hm hX hs hsz
  obtain⟨g0,g1,g2⟩:=fT (auH h0)
  have hq0:0≤ag x/X:=au8 (by omega) (by omega)
  have hq1:ag x/X≤ag x:=avW _ (by omega)
  have oX:okI (aj X):=bK (by omega)
  have sq:szI (ag x/X)≤1000000:=auh (dE (by omega)) (iI hx)
  have p1:fv x (aj X):=⟨hx,oX,by rw[dec_enc];exact hX⟩
  have ssum:szI (X+ag x/X)≤1000000:=by
   have b1:=nJ hsz
   have b2:=nJ (iI hx)
   have e:pw 1000000=pw 900000*pw 100000:=by rw[←fB]
   have p9:(1000:Int)≤pw 100000:=by
    have:pw 100000=pw 99999*1000000000:=cB 99999
    have:=ct 99999
    omega
   have p8:=ct 900000
   have h8:pw 900000*1000≤pw 900000*pw 100000:=aua p9 (by omega)
   rcases auA X 2 with hX1|hX1
   ·-- X=1:then the number is less than 4
    have:X=1:=by omega
    subst this
    have:b9 (ag x)≤1:=hs
    have h4:ag x<4:=by
     have:=tL (a:=b9 (ag x)+1) (b:=2) (by omega) (by omega)
     omega
    refine fu ?_ ?_<;>(rw[e,Int.ediv_one];omega)
   ·have hq2:ag x/X≤ag x/2:=by
     have:=Int.ediv_mul_le (ag x) (show X≠0 by omega)
     have h2:ag x/X*2≤ag x/X*X:=aua hX1 hq0
     omega
    refine fu ?_ ?_<;>(rw[e]at b2 ⊢;omega)
  have o1:okI (aj X)∧okI (aj (ag x/X)):=⟨oX,bK sq⟩
  have p2:fv (aj (X+ag x/X)) (aj 2):=⟨bK ssum,by decide,by rw[dec_enc];decide⟩
  have hn:=TJ hX g0 g1
  have o2:okI (aj ((X+ag x/X)/2))∧okI (aj X):=⟨bK (auh (dE (by omega)) ssum),oX⟩
  by_cases hc:X≤(X+ag x/X)/2
  ·have hXs:=ya hX hs g1 g2 g0 hc
   refine Ba _ _ _ ⟨0,?_⟩
   unfold vN
   simp only[au,aO]
   have e:∀z:Int,((aj z).1,(aj z).2)=aj z:=fun z=>rfl
   simp only[e,dec_enc,atT p1,atT o1,atT p2,atT o2]
   have hg:decide (cH ((X+ag x/X)/2) X≥0)=true:=by
    rcases Int.lt_or_eq_of_le hc with h|h
    ·rw[cZ h];rfl
    ·rw[←h,dV];rfl
   rw[hg,hXs]
  ·obtain⟨n,hN⟩:=ih ((X+ag x/X)/2).toNat (by omega) ((X+ag x/X)/2) rfl (by
    rcases auA 0 (b9 (ag x))with h|h
    ·omega
    ·exfalso
     have:b9 (ag x)=0:=by omega
     rw[this]at g2
     omega) hn (auh (dE (by omega)) hsz)
   refine Ba _ _ _ ⟨n,?_⟩
   unfold vN
   simp only[au,aO]
   have e:∀z:Int,((aj z).1,(aj z).2)=aj z:=fun z=>rfl
   simp only[e,dec_enc,atT p1,atT o1,atT p2,atT o2]
   rw[df (by omega)]
   exact hN
theorem aeb(x:Bool×List Int)(h:okI x):Con Tryz.prog 282 [.d y2Y x] [.d y2Y (fC x),.d axf (tg x)]:=by
 refine aP yV (show M5.Res _ _ _ from ?_)
 obtain⟨x0,x1,x2⟩:=cN h
 have hl:=h.2.2
 cases hn:x.1
 ·by_cases hz:x.2=[]
  ·refine Yw _ ⟨0,?_⟩
   unfold J1 fC tg
   have:ag x=0:=by unfold ag;rw[hn,hz];rfl
   rw[hn,hz,this]
   rfl
  ·have hp:0<val x.2:=eM h.1 hz
   have hd:ag x=val x.2:=by unfold ag;rw[hn];rfl
   have hlen:=auM.2 hz
   have hk:i64.wrap (Int.tdiv (i64.wrap ((x.2.length:Int)+1)) 2)=(((x.2.length+1)/2:Nat):Int):=by
    rw[co (by omega),gi (by omega),bz (by omega) (by omega)]
    omega
   have hv:val (List.replicate ((x.2.length+1)/2) 0++[1])=pw ((x.2.length+1)/2):=by
    rw[dH,gG,awu]
    simp[val]
   have hL:bj (List.replicate ((x.2.length+1)/2) 0++[1]):=by
    refine⟨fun y hy=>?_,by simp;omega⟩
    rcases auo.1 hy with hy|hy
    ·have:=List.eq_of_mem_replicate hy;omega
    ·simp at hy;omega
   have hpos:=ct ((x.2.length+1)/2)
   obtain⟨n,hN⟩:=Qy x h (by omega) _ (pw ((x.2.length+1)/2)) rfl hpos (by
     obtain⟨g0,g1,g2⟩:=fT (show 0≤ag x by omega)
     have hlt:=cr h.1.1
     have hm:=du (show x.2.length≤(x.2.length+1)/2+(x.2.length+1)/2 by omega)
     rw[fB]at hm
     have:=sq_lt (a:=b9 (ag x)) (b:=pw ((x.2.length+1)/2)) (by omega) (by omega)
     omega) (fu (k:=900000) (by have:=ct 900000;omega) (by
      have:=du (show(x.2.length+1)/2+1≤900000 by omega)
      rw[cB]at this
      omega))
   refine Yw _ ⟨n,?_⟩
   unfold J1 fC tg
   simp only[hk]
   rw[hn,show((x.2.length:Int)==0)=false by simp;omega]
   simp only[avM]
   rw[atT (show(0:Int)≤(((x.2.length+1)/2:Nat):Int)∧(((x.2.length+1)/2:Nat):Int)*((4:Nat):Int)≤140737488355328∧(((x.2.length+1)/2:Nat):Int)≤140737488355328 by omega)]
   rw[atT (show((List.replicate ((x.2.length+1)/2) (0:Int)).length+([1]:List Nat).length)*4≤140737488355328∧(List.replicate ((x.2.length+1)/2) (0:Int)).length+([1]:List Nat).length≤140737488355328 by simp;omega)]
   rw[atT hL,atT (show bO 2 by decide),hv]
   exact hN
 ·refine Yw _ ⟨0,?_⟩
  unfold J1 fC tg
  rw[hn]
  rfl
theorem Fe(x:BI)(hx:okI x)(hv:val x.2≤9223372036854775808):∀(i:Nat),i≤x.2.length→L5.Runs 16 (wG x (val (x.2.drop i)) ((i:Int)-1)) [.d axf (i64.wrap (bif x.1 then u64.wrap (0-val x.2)else val x.2)),.d .bool true]
 |0,_=>by
  refine AW _ _ _ ⟨0,?_⟩
  unfold uV
  rw[atV (by omega),avz]
  cases x.1<;>rfl
 |i+1,hi=>by
  obtain⟨n,ih⟩:=Fe x hx hv i (by omega)
  have h0:=hx.2.2
  have hlim:=hx.1.1
  have hd:x.2.drop i=x.2[i]::x.2.drop (i+1):=jw (by omega)
  have hle:∀j,val (x.2.drop j)≤9223372036854775808∧0≤val (x.2.drop j):=fun j=>by
   have l1:Lim (x.2.drop j):=fun y hy=>hlim y (awa hy)
   have l2:Lim (x.2.take j):=fun y hy=>hlim y (av9 hy)
   have:=dH (x.2.take j) (x.2.drop j)
   rw[avp]at this
   have n1:=bg l1
   have n2:=bg l2
   have p:=ct (x.2.take j).length
   have:val (x.2.drop j)≤pw (x.2.take j).length*val (x.2.drop j):=by
    have:=auj (show 1≤pw (x.2.take j).length by omega) n1
    omega
   omega
  have hb:=hlim x.2[i] (auB _)
  have hv1:=hle i
  have hv2:=hle (i+1)
  rw[hd]at hv1 ih
  simp only[val]at hv1 ih
  refine AW _ _ _ ⟨n,?_⟩
  unfold uV
  rw[show(((i+1:Nat):Int)-1)=(i:Int) by omega,atT (by omega),aA,atU (by omega)]
  dsimp only
  rw[bU (x:=val (x.2.drop (i+1))*1000000000) (by omega) (by omega),bU (x:=x.2[i]) (by omega) (by omega),bU (by omega) (by omega),bz (by omega) (by omega)]
  rw[show val (x.2.drop (i+1))*1000000000+x.2[i]=x.2[i]+1000000000*val (x.2.drop (i+1)) by omega]
  exact ih
theorem aaQ(x:Bool×List Int)(h:okI x):Con Tryz.prog 254 [.d y2Y x] [.d axf (bif decide (bO (ag x))then ag x else 0),.d .bool (decide (bO (ag x)))]:=by
 refine aP yV (show L5.Res _ _ _ from ?_)
 obtain⟨x0,x1,x2⟩:=cN h
 have o1:okI x∧okI (aj (-9223372036854775808)):=⟨h,by decide⟩
 have o2:okI x∧okI (aj 9223372036854775807):=⟨h,by decide⟩
 have hl:=h.2.2
 by_cases h1:ag x< -9223372036854775808
 ·refine S6 _ ⟨0,?_⟩
  unfold Li
  simp only[aO,dec_enc,atT o1]
  rw[atT (show bO (-9223372036854775808) by decide),df h1,atV (show ¬bO (ag x) from fun g=>by have:=g.1;omega)]
  rfl
 ·have c1:decide (cH (ag x) (-9223372036854775808)<0)=false:=by
   rcases Int.lt_or_eq_of_le (show-9223372036854775808≤ag x by omega)with g|g
   ·rw[cZ g];rfl
   ·rw[←g,dV];rfl
  by_cases h2:9223372036854775807<ag x
  ·refine S6 _ ⟨0,?_⟩
   unfold Li
   simp only[aO,dec_enc,atT o1,atT o2]
   rw[atT (show bO (-9223372036854775808) by decide),c1,atT (show bO 9223372036854775807 by decide),cZ h2,atV (show ¬bO (ag x) from fun g=>by have:=g.2;omega)]
   rfl
  ·have c2:decide (cH (ag x) 9223372036854775807>0)=false:=by
    rcases Int.lt_or_eq_of_le (show ag x≤9223372036854775807 by omega)with g|g
    ·rw[df g];rfl
    ·rw[g,dV];rfl
   have hp:bO (ag x):=⟨by omega,by omega⟩
   have hvv:val x.2≤9223372036854775808:=by
    have g1:=hp.1
    have g2:=hp.2
    have hd:ag x=bif x.1 then-val x.2 else val x.2:=rfl
    cases hb:x.1<;>rw[hb]at hd<;>simp only[cond_true,cond_false]at hd<;>omega
   obtain⟨n,hN⟩:=Fe x h hvv x.2.length (at5 _)
   refine S6 _ ⟨n,?_⟩
   unfold Li
   simp only[aO,dec_enc,atT o1,atT o2]
   rw[atT (show bO (-9223372036854775808) by decide),c1,atT (show bO 9223372036854775807 by decide),c2,atT hp]
   rw[awm]at hN
   rw[bz (by omega) (by omega)]
   refine hN.trans ?_
   have hr:i64.wrap (bif x.1 then u64.wrap (0-val x.2)else val x.2)=ag x:=by
    have hd:ag x=bif x.1 then-val x.2 else val x.2:=rfl
    have:=hp.1
    have:=hp.2
    cases hb:x.1<;>rw[hb]at hd<;>simp only[cond_true,cond_false]at hd ⊢
    ·rw[bz (by omega) (by omega)];omega
    ·have:=x1 hb
     rw[auU,IntKind.wrap_i64]
     omega
   rw[hr]
   rfl
def r9(a:List Int):Prop:=bj a∧val a<18446744073709551616
instance (a:List Int):Decidable (r9 a):=by unfold r9;infer_instance
def qZ(a b:List Int):Prop:=(can a∧a.length≤1000000000)∧(can b∧b.length≤1000000000)
instance (a b:List Int):Decidable (qZ a b):=by unfold qZ;infer_instance
def gV(l:List Int):Prop:=Lim l∧l.length≤10000000
instance (l:List Int):Decidable (gV l):=by unfold gV;infer_instance
theorem cS{n:Nat}(h:(ah n).length≤1000000000):bj (ah n):=⟨cA n,h⟩
theorem cp{v:Int}(h:0≤v):val (ah v.toNat)=v:=by rw[bW];omega
theorem cO{v:Int}{k:Nat}(h0:0≤v)(h:v<pw k):(ah v.toNat).length≤k:=dt (by omega)
def uD:Env:=[]
theorem mo:EnvAll Tryz.prog uD:=trivial
def adY:NT:=[((209,4),{keep:=[0],pure_:=[(0,.int .u32)],hl:=0})]
def Dv:Ctx:=CX uD adY
def wR(s0:List Int):Cfg:=⟨209,[.blk 0,.seq 13],[(0,.d axe s0)],[],0,[]⟩
def alk(a:List Int)(k:KT):Option (List RV):=k 4 (wR a)
theorem ahN(a:List Int):RS Dv 209 [.d axe a] (alk a):=rsX
def vw(s0:List Int)(k:KT):Option (List RV):=match decide ((s0.length:Int)>0)with|true=>(match bi s0 (i64.wrap ((s0.length:Int)-1))with|some x1=>(match x1==0 with|true=>(match decide ((0:Int)≤0∧0≤i64.wrap ((s0.length:Int)-1)∧i64.wrap ((s0.length:Int)-1)≤(s0.length:Int))with|true=>k 4 (wR ((s0.take (i64.wrap ((s0.length:Int)-1)).toNat).drop (0:Int).toNat))|false=>none)|false=>some [RV.d axe s0])|none=>none)|false=>some [RV.d axe s0]
theorem vF(s0:List Int):RN Dv 4 (wR s0) (vw s0):=rnX
def abe:NT:=[((216,8),{keep:=[0,3,4],hl:=0})]
def D1:Ctx:=CX uD abe
def xd(a:List Int)(s3 s4:Int):Cfg:=⟨216,[.blk 0,.seq 19],[(0,.d axe a),(3,.d (.int .u64) s3),(4,SI s4)],[],0,[]⟩
def Yz(a:List Int)(k:KT):Option (List RV):=k 8 (xd a 0 (i64.wrap ((a.length:Int)-1)))
theorem ame(a:List Int):RS D1 216 [.d axe a] (Yz a):=rsX
def uE(a:List Int)(s3 s4:Int)(k:KT):Option (List RV):=match decide (s4≥0)with|true=>(match bi a s4 with|some x1=>k 8 (xd a (u64.wrap ((u64.wrap (s3*1000000000))+(u64.wrap x1))) (i64.wrap (s4-1)))|none=>none)|false=>some [RV.d (.int .u64) s3]
theorem BC(a:List Int)(s3 s4:Int):RN D1 8 (xd a s3 s4) (uE a s3 s4):=rnX
def aaT:NT:=[((155,6),{keep:=[0,3],own:=[(3,180,.int .u32)],hl:=1})]
def CJ:Ctx:=CX uD aaT
def xu(s0:Int)(r0:List Int):Cfg:=⟨155,[.blk 0,.seq 17],[(0,.d (.int .u64) s0),(3,.own 0)],[.row 180 axg r0],0,[]⟩
def aja(u:Int)(k:KT):Option (List RV):=k 6 (xu u ([]))
theorem aiB(u:Int):RS CJ 155 [.d (.int .u64) u] (aja u):=rsX
def uB(s0:Int)(r0:List Int)(k:KT):Option (List RV):=match decide (s0>0)with|true=>(match decide ((r0.length+([u32.wrap (Int.tmod s0 1000000000)]).length)*4≤140737488355328∧r0.length+([u32.wrap (Int.tmod s0 1000000000)]).length≤140737488355328)with|true=>k 6 (xu (u64.wrap (Int.tdiv s0 1000000000)) (r0++([u32.wrap (Int.tmod s0 1000000000)])))|false=>none)|false=>some [RV.new 180 axg r0]
theorem BT(s0:Int)(r0:List Int):RN CJ 6 (xu s0 r0) (uB s0 r0):=rnX
def aal:NT:=[((213,22),{keep:=[0,1,5],hl:=0})]
def DK:Ctx:=CX uD aal
def sZ(a b:List Int)(s5:Int):Cfg:=⟨213,[.blk 0,.seq 47],[(0,.d axe a),(1,.d axe b),(5,SI s5)],[],0,[]⟩
def Ik(a b:List Int)(k:KT):Option (List RV):=match(a.length:Int) !=(b.length:Int)with|true=>(match decide ((a.length:Int)<(b.length:Int))with|true=>some [RV.d axf (-1)]|false=>some [RV.d axf 1])|false=>k 22 (sZ a b (i64.wrap ((a.length:Int)-1)))
theorem Ui(a b:List Int):RS DK 213 [.d axe a,.d axe b] (Ik a b):=rsX
def kf(a b:List Int)(s5:Int)(k:KT):Option (List RV):=match decide (s5≥0)with|true=>(match bi a s5 with|some x1=>(match bi b s5 with|some x2=>(match decide (x1<x2)with|true=>some [RV.d axf (-1)]|false=>(match bi a s5 with|some x3=>(match bi b s5 with|some x4=>(match decide (x3>x4)with|true=>some [RV.d axf 1]|false=>k 22 (sZ a b (i64.wrap (s5-1))))|none=>none)|none=>none))|none=>none)|none=>none)|false=>some [RV.d axf 0]
theorem np(a b:List Int)(s5:Int):RN DK 22 (sZ a b s5) (kf a b s5):=rnX
theorem PZ(l:List Int)(hl:Lim l)(hs:l.length≤1000000000):∀(n:Nat),n≤l.length→(∀j (hj:j<l.length),n≤j→l[j]=0)→Dv.Runs 4 (wR (l.take n)) [.d axe (ah (val l).toNat)]:=by
 intro n
 induction n with
 |zero=>
  intro _ h
  refine vF _ ⟨0,?_⟩
  rw[←mc hl (awg _) h (.inl rfl)]
  rfl
 |succ n ih=>
  intro hn h
  have hlen:(l.take (n+1)).length=n+1:=by rw[auG,auF hn]
  have hget:(l.take (n+1))[n]?=some l[n]:=by rw[List.getElem?_take_of_lt (by omega),atU (by omega)]
  by_cases hz:l[n]=0
  ·obtain⟨q,hq⟩:=ih (by omega) fun j hj hk=>by
    rcases Nat.eq_or_lt_of_le hk with e|e
    ·subst e;exact hz
    ·exact h j hj e
   refine vF _ ⟨q,?_⟩
   unfold vw
   rw[hlen,atT (by omega),Nj (by omega) (by omega),aA,show n+1-1=n from rfl,hget]
   dsimp only
   rw[hz,atT (show(0:Int)≤0∧(0:Int)≤(n:Int)∧(n:Int)≤((n+1:Nat):Int) by omega),aQ,aw7,auF (by omega)]
   exact hq
  ·refine vF _ ⟨0,?_⟩
   unfold vw
   rw[hlen,atT (by omega),Nj (by omega) (by omega),aA,show n+1-1=n from rfl,hget]
   dsimp only
   rw[show(l[n]==0)=false by simpa using hz,←mc hl hn h (.inr ⟨Nat.lt_of_succ_le hn,hz⟩)]
theorem XA(a:List Int)(h:bj a):Con Tryz.prog 209 [.d axe a] [.d axe (ah (val a).toNat)]:=by
 refine aP mo (show Dv.Res _ _ _ from ?_)
 obtain⟨q,hq⟩:=PZ a h.1 h.2 a.length (at5 _) (fun j hj hk=>by omega)
 rw[avg]at hq
 exact ahN _ ⟨q,hq⟩
theorem O7(u:Nat):∀(r:List Int),(u:Int)<18446744073709551616→r.length+3≤1000+3-(ah u).length→CJ.Runs 6 (xu (u:Int) r) [.new 180 axg (r++ah u)]:=by
 induction u using p7 with
 |h0=>
  intro r _ _
  refine BT _ _ ⟨0,?_⟩
  unfold uB
  rw[fq,auz]
  rfl
 |h1 n hn ih=>
  intro r hu hr
  rw[gP hn]at hr
  simp only[aui]at hr
  obtain⟨q,hq⟩:=ih (r++[((n%1000000000:Nat):Int)]) (by omega) (by rw[aus];simp only[aur];omega)
  refine BT _ _ ⟨q,?_⟩
  unfold uB
  rw[atT (by omega),jk (by omega),gi (by omega),bU (x:=(n:Int)/1000000000) (by omega) (by omega),dp (x:=(n:Int)%1000000000) (by omega) (by omega)]
  simp only[aur]
  rw[akR (by omega) (by omega),gP hn]
  rw[show((n:Int)%1000000000)=((n%1000000000:Nat):Int) by omega,show((n:Int)/1000000000)=((n/1000000000:Nat):Int) by omega]
  rw[aut]at hq
  exact hq
theorem UZ(u:Int)(h:gL u):Con Tryz.prog 155 [.d (.int .u64) u] [.new 180 axg (ah u.toNat)]:=by
 refine aP mo (show CJ.Res _ _ _ from ?_)
 have h0:=h.1
 have h1:=h.2
 have hl:=dt (n:=u.toNat) (k:=3) (aws (show(u.toNat:Int)<18446744073709551616 by omega) (by decide))
 obtain⟨q,hq⟩:=O7 u.toNat [] (by omega) (by simp;omega)
 rw[show((u.toNat:Nat):Int)=u by omega]at hq
 exact aiB _ ⟨q,hq⟩
theorem Bp(a:List Int)(h:r9 a):∀(i:Nat),i≤a.length→D1.Runs 8 (xd a (val (a.drop i)) ((i:Int)-1)) [.d (.int .u64) (val a)]
 |0,_=>by
  refine BC _ _ _ ⟨0,?_⟩
  unfold uE
  rw[atV (by omega),avz]
 |i+1,hi=>by
  obtain⟨n,ih⟩:=Bp a h i (by omega)
  have h0:=h.1.2
  have hlim:=h.1.1
  have hlt:=h.2
  have hd:a.drop i=a[i]::a.drop (i+1):=jw (by omega)
  have hle:∀j,val (a.drop j)≤val a∧0≤val (a.drop j):=fun j=>by
   have l1:Lim (a.drop j):=fun y hy=>hlim y (awa hy)
   have l2:Lim (a.take j):=fun y hy=>hlim y (av9 hy)
   have:=dH (a.take j) (a.drop j)
   rw[avp]at this
   have n1:=bg l1
   have n2:=bg l2
   have p:=ct (a.take j).length
   have:val (a.drop j)≤pw (a.take j).length*val (a.drop j):=by
    have:=auj (show 1≤pw (a.take j).length by omega) n1
    omega
   omega
  have hb:=hlim a[i] (auB _)
  have hv1:=hle i
  have hv2:=hle (i+1)
  rw[hd]at hv1 ih
  simp only[val]at hv1 ih
  refine BC _ _ _ ⟨n,?_⟩
  unfold uE
  rw[show(((i+1:Nat):Int)-1)=(i:Int) by omega,atT (by omega),aA,atU (by omega)]
  dsimp only
  rw[bU (x:=val (a.drop (i+1))*1000000000) (by omega) (by omega),bU (x:=a[i]) (by omega) (by omega),bU (by omega) (by omega),bz (by omega) (by omega)]
  rw[show val (a.drop (i+1))*1000000000+a[i]=a[i]+1000000000*val (a.drop (i+1)) by omega]
  exact ih
theorem TP(a:List Int)(h:r9 a):Con Tryz.prog 216 [.d axe a] [.d (.int .u64) (val a)]:=by
 refine aP mo (show D1.Res _ _ _ from ?_)
 obtain⟨n,hn⟩:=Bp a h a.length (at5 _)
 have h0:=h.1.2
 refine ame _ ⟨n,?_⟩
 unfold Yz
 rw[awm]at hn
 rw[bz (by omega) (by omega)]
 exact hn
theorem OI(a b:List Int)(la:Lim a)(lb:Lim b)(hl:a.length=b.length)(hs:a.length≤1000000000):∀(n:Nat),n≤a.length→a.drop n=b.drop n→
  DK.Runs 22 (sZ a b ((n:Int)-1)) [.d axf (cH (val a) (val b))]:=by
 intro n
 induction n with
 |zero=>
  intro _ h
  refine np _ _ _ ⟨0,?_⟩
  have e:val a=val b:=by simp only[avz]at h;rw[h]
  unfold kf
  rw[atV (by omega),e,dV]
 |succ n ih=>
  intro hn h
  have h1:n<a.length:=by omega
  have h2:n<b.length:=by omega
  rcases avZ a[n] b[n]with hc|hc|hc
  ·refine np _ _ _ ⟨0,?_⟩
   have:=DN la lb h1 h2 h hc
   unfold kf
   rw[show((n+1:Nat):Int)-1=(n:Int) by omega,atT (by omega),aA,aA,atU h1,atU h2]
   dsimp only
   rw[atT hc,df (by omega)]
  ·obtain⟨q,hq⟩:=ih (by omega) (by rw[auk h1,auk h2,hc,h])
   refine np _ _ _ ⟨q,?_⟩
   unfold kf
   rw[show((n+1:Nat):Int)-1=(n:Int) by omega,atT (by omega),aA,aA,atU h1,atU h2]
   dsimp only
   rw[atV (by omega),atV (by omega),bz (x:=(n:Int)-1) (by omega) (by omega)]
   exact hq
  ·refine np _ _ _ ⟨0,?_⟩
   have:=DN lb la h2 h1 h.symm hc
   unfold kf
   rw[show((n+1:Nat):Int)-1=(n:Int) by omega,atT (by omega),aA,aA,atU h1,atU h2]
   dsimp only
   rw[atV (by omega),atT hc,cZ (by omega)]
theorem KD{a b:List Int}(ha:can a)(hb:can b)(h:a.length<b.length):val a<val b:=by
 have ea:=oG ha
 have eb:=oG hb
 have:=xi (a:=(val a).toNat) (b:=(val b).toNat) (by rw[←ea,←eb];exact h)
 have:=bg ha.1
 omega
theorem Vw(a b:List Int)(h:qZ a b):Con Tryz.prog 213 [.d axe a,.d axe b] [.d axf (cH (val a) (val b))]:=by
 refine aP mo (show DK.Res _ _ _ from ?_)
 obtain⟨⟨ha,sa⟩,hb,sb⟩:=h
 by_cases hl:a.length=b.length
 ·obtain⟨q,hq⟩:=OI a b ha.1 hb.1 hl sa _ (at5 _) (by rw[awm,hl,awm])
  refine Ui _ _ ⟨q,?_⟩
  unfold Ik
  rw[show((a.length:Int) !=(b.length:Int))=false by simp[hl],bz (x:=(a.length:Int)-1) (by omega) (by omega)]
  exact hq
 ·refine Ui _ _ ⟨0,?_⟩
  unfold Ik
  rw[show((a.length:Int) !=(b.length:Int))=true by simp;omega]
  dsimp only
  rcases Nat.lt_or_gt_of_ne hl with h1|h1
  ·have:=KD ha hb h1
   rw[atT (by omega),df (by omega)]
  ·have:=KD hb ha h1
   rw[atV (by omega),cZ (by omega)]
def qR:aN:=spN false false [axe] (fun x=>decide (bj x.1)) (fun x=>[RV.d axe (ah (val x.1).toNat)])
theorem l9:SpK 209 qR:=spX fun x h=>XA x.1 (atS h)
def tv:aN:=spN false false [(.int .u64)] (fun x=>decide (gL x.1)) (fun x=>[RV.new 180 axg (ah x.1.toNat)])
theorem qI:SpK 155 tv:=spX fun x h=>UZ x.1 (atS h)
def ua:aN:=spN true false [axe] (fun x=>decide (r9 x.1)) (fun x=>[RV.d (.int .u64) (val x.1)])
theorem qd:SpK 216 ua:=spX fun x h=>TP x.1 (atS h)
def qC:aN:=spN true false [axe,axe] (fun x=>decide (qZ x.1 x.2.1)) (fun x=>[RV.d axf (cH (val x.1) (val x.2.1))])
theorem lY:SpK 213 qC:=spX fun x h=>Vw x.1 x.2.1 (atS h)
def zr:Env:=(209,qR)::(155,tv)::(216,ua)::(213,qC)::uD
theorem qQ:EnvAll Tryz.prog zr:=⟨l9,qI,qd,lY,mo⟩
def alU:Ctx:=CX zr []
def Yf(neg:Bool)(l:List Int)(_k:KT):Option (List RV):=match decide (bj l)with|true=>(match neg with|true=>some [RV.d y2Y (decide (((ah (val l).toNat).length:Int)>0),ah (val l).toNat)]|false=>some [RV.d y2Y (false,ah (val l).toNat)])|false=>none
theorem alH(neg:Bool)(l:List Int):RS alU 154 [SB neg,.d axe l] (Yf neg l):=rsX
def acl:NT:=[((212,16),{keep:=[0,1,5,6,7],hl:=1})]
def xY:Ctx:=CX zr acl
def ku(s0 s1 r0:List Int)(s6 s7:Int):Cfg:=⟨212,[.blk 0,.seq 37],[(0,.d axe s0),(1,.d axe s1),(5,.own 0),(6,.d axg s6),(7,SI s7)],[.row 180 axg r0],0,[]⟩
def In(a b:List Int)(k:KT):Option (List RV):=match decide ((a.length:Int)<(b.length:Int))with|true=>(match decide ((0:Int)≤i64.wrap ((b.length:Int)+1)∧(i64.wrap ((b.length:Int)+1))*((4:Nat):Int)≤140737488355328∧i64.wrap ((b.length:Int)+1)≤140737488355328)with|true=>k 16 (ku b a (List.replicate (i64.wrap ((b.length:Int)+1)).toNat (0:Int)) 0 0)|false=>none)|false=>(match decide ((0:Int)≤i64.wrap ((a.length:Int)+1)∧(i64.wrap ((a.length:Int)+1))*((4:Nat):Int)≤140737488355328∧i64.wrap ((a.length:Int)+1)≤140737488355328)with|true=>k 16 (ku a b (List.replicate (i64.wrap ((a.length:Int)+1)).toNat (0:Int)) 0 0)|false=>none)
theorem RW(a b:List Int):RS xY 212 [.d axe a,.d axe b] (In a b):=rsX
def mU(s0 s1 r0:List Int)(s6 s7:Int)(k:KT):Option (List RV):=match decide (s7<(s0.length:Int))with|true=>(match bi s0 s7 with|some x1=>(match decide (s7<(s1.length:Int))with|true=>(match bi s1 s7 with|some x2=>(match bi r0 s7 with|some _=>(match true,r0[(s7).toNat]? with|true,some _=>k 16 (ku s0 s1 (r0.set ((s7).toNat) (Int.tmod (u32.wrap ((u32.wrap (s6+x1))+x2)) 1000000000)) (u32.wrap (Int.tdiv (u32.wrap ((u32.wrap (s6+x1))+x2)) 1000000000)) (i64.wrap (s7+1)))|_,_=>none)|none=>none)|none=>none)|false=>(match bi r0 s7 with|some _=>(match true,r0[(s7).toNat]? with|true,some _x2=>k 16 (ku s0 s1 (r0.set ((s7).toNat) (Int.tmod (u32.wrap (s6+x1)) 1000000000)) (u32.wrap (Int.tdiv (u32.wrap (s6+x1)) 1000000000)) (i64.wrap (s7+1)))|_,_=>none)|none=>none))|none=>none)|false=>(match bi r0 (s0.length:Int)with|some _=>(match true,r0[((s0.length:Int)).toNat]? with|true,some _x1=>(match decide (bj (r0.set (((s0.length:Int)).toNat) s6))with|true=>some [RV.d axe (ah (val (r0.set (((s0.length:Int)).toNat) s6)).toNat)]|false=>none)|_,_=>none)|none=>none)
theorem rN(s0 s1 r0:List Int)(s6 s7:Int):RN xY 16 (ku s0 s1 r0 s6 s7) (mU s0 s1 r0 s6 s7):=rnX
def aew:NT:=[((214,10),{keep:=[0,1,5,6,7],hl:=1})]
def zv:Ctx:=CX zr aew
def jf(a b:List Int)(s7:Int)(r0:List Int)(s6:Int):Cfg:=⟨214,[.blk 0,.seq 37],[(0,.d axe a),(1,.d axe b),(5,.own 0),(6,.d axg s6),(7,SI s7)],[.row 180 axg r0],0,[]⟩
def T1(a b:List Int)(k:KT):Option (List RV):=match decide ((0:Int)≤(a.length:Int)∧(a.length:Int)*((4:Nat):Int)≤140737488355328∧(a.length:Int)≤140737488355328)with|true=>k 10 (jf a b 0 (List.replicate ((a.length:Int)).toNat (0:Int)) 0)|false=>none
theorem aig(a b:List Int):RS zv 214 [.d axe a,.d axe b] (T1 a b):=rsX
def iB(a b:List Int)(s7:Int)(r0:List Int)(s6:Int)(k:KT):Option (List RV):=match decide (s7<(a.length:Int))with|true=>(match bi a s7 with|some x1=>(match decide (s7<(b.length:Int))with|true=>(match bi b s7 with|some x2=>(match decide ((u32.wrap ((u32.wrap ((u32.wrap (x1+1000000000))-s6))-x2))≥1000000000)with|true=>(match bi r0 s7 with|some _=>(match true,r0[(s7).toNat]? with|true,some _x3=>k 10 (jf a b (i64.wrap (s7+1)) (r0.set ((s7).toNat) (u32.wrap ((u32.wrap ((u32.wrap ((u32.wrap (x1+1000000000))-s6))-x2))-1000000000))) 0)|_,_=>none)|none=>none)|false=>(match bi r0 s7 with|some _=>(match true,r0[(s7).toNat]? with|true,some _x3=>k 10 (jf a b (i64.wrap (s7+1)) (r0.set ((s7).toNat) (u32.wrap ((u32.wrap ((u32.wrap (x1+1000000000))-s6))-x2))) 1)|_,_=>none)|none=>none))|none=>none)|false=>(match decide ((u32.wrap ((u32.wrap (x1+1000000000))-s6))≥1000000000)with|true=>(match bi r0 s7 with|some _=>(match true,r0[(s7).toNat]? with|true,some _x2=>k 10 (jf a b (i64.wrap (s7+1)) (r0.set ((s7).toNat) (u32.wrap ((u32.wrap ((u32.wrap (x1+1000000000))-s6))-1000000000))) 0)|_,_=>none)|none=>none)|false=>(match bi r0 s7 with|some _=>(match true,r0[(s7).toNat]? with|true,some _x2=>k 10 (jf a b (i64.wrap (s7+1)) (r0.set ((s7).toNat) (u32.wrap ((u32.wrap (x1+1000000000))-s6))) 1)|_,_=>none)|none=>none)))|none=>none)|false=>(match decide (bj r0)with|true=>some [RV.d axe (ah (val r0).toNat)]|false=>none)
theorem kL(a b:List Int)(s7:Int)(r0:List Int)(s6:Int):RN zv 10 (jf a b s7 r0 s6) (iB a b s7 r0 s6):=rnX
def adV:NT:=[((211,8),{keep:=[0,1,5,6],hl:=1}),((211,23),{keep:=[0,1,5,6,7,8],hl:=1})]
def rY:Ctx:=CX zr adV
def ub(a b:List Int)(s6:Int)(r0:List Int):Cfg:=⟨211,[.blk 0,.seq 40],[(0,.d axe a),(1,.d axe b),(5,.own 0),(6,SI s6)],[.row 180 axg r0],0,[]⟩
def sG(a b:List Int)(s6 s7 s8:Int)(r0:List Int):Cfg:=⟨211,[.blk 2,.seq 38,.blk 1,.seq 39,.lp 8,.blk 0,.seq 40],[(0,.d axe a),(1,.d axe b),(5,.own 0),(6,SI s6),(7,.d (.int .u64) s7),(8,SI s8)],[.row 180 axg r0],0,[]⟩
def Zi(a b:List Int)(k:KT):Option (List RV):=match decide ((0:Int)≤i64.wrap ((a.length:Int)+(b.length:Int))∧(i64.wrap ((a.length:Int)+(b.length:Int)))*((4:Nat):Int)≤140737488355328∧i64.wrap ((a.length:Int)+(b.length:Int))≤140737488355328)with|true=>k 8 (ub a b 0 (List.replicate (i64.wrap ((a.length:Int)+(b.length:Int))).toNat (0:Int)))|false=>none
theorem ah9(a b:List Int):RS rY 211 [.d axe a,.d axe b] (Zi a b):=rsX
def vh(a b:List Int)(s6:Int)(r0:List Int)(k:KT):Option (List RV):=match decide (s6<(a.length:Int))with|true=>k 23 (sG a b s6 0 0 r0)|false=>(match decide (bj r0)with|true=>some [RV.d axe (ah (val r0).toNat)]|false=>none)
theorem AG(a b:List Int)(s6:Int)(r0:List Int):RN rY 8 (ub a b s6 r0) (vh a b s6 r0):=rnX
def sh(a b:List Int)(s6 s7 s8:Int)(r0:List Int)(k:KT):Option (List RV):=match decide (s8<(b.length:Int))with|true=>(match bi r0 (i64.wrap (s6+s8))with|some _=>(match true,r0[(i64.wrap (s6+s8)).toNat]? with|true,some x1=>(match bi a s6 with|some x2=>(match bi b s8 with|some x3=>(match bi r0 (i64.wrap (s6+s8))with|some _=>(match true,r0[(i64.wrap (s6+s8)).toNat]? with|true,some _=>k 23 (sG a b s6 (u64.wrap (Int.tdiv (u64.wrap ((u64.wrap (s7+(u64.wrap x1)))+(u64.wrap ((u64.wrap x2)*(u64.wrap x3))))) 1000000000)) (i64.wrap (s8+1)) (r0.set ((i64.wrap (s6+s8)).toNat) (u32.wrap (Int.tmod (u64.wrap ((u64.wrap (s7+(u64.wrap x1)))+(u64.wrap ((u64.wrap x2)*(u64.wrap x3))))) 1000000000))))|_,_=>none)|none=>none)|none=>none)|none=>none)|_,_=>none)|none=>none)|false=>(match bi r0 (i64.wrap (s6+(b.length:Int)))with|some _=>(match true,r0[(i64.wrap (s6+(b.length:Int))).toNat]? with|true,some _x1=>k 8 (ub a b (i64.wrap (s6+1)) (r0.set ((i64.wrap (s6+(b.length:Int))).toNat) (u32.wrap s7)))|_,_=>none)|none=>none)
theorem Af(a b:List Int)(s6 s7 s8:Int)(r0:List Int):RN rY 23 (sG a b s6 s7 s8 r0) (sh a b s6 s7 s8 r0):=rnX
theorem Us(neg:Bool)(l:List Int)(h:bj l):Con Tryz.prog 154 [.d .bool neg,.d axe l] [.d y2Y (aj (cC neg (val l)))]:=by
 refine aP qQ (alH _ _ ⟨0,?_⟩)
 have hv:=bg h.1
 have hp:decide (((ah (val l).toNat).length:Int)>0)=decide (0<val l):=by
  refine avX.2 ⟨fun g=>?_,fun g=>?_⟩
  ·apply aul
   intro hc
   rw[show(val l).toNat=0 by omega,fq]at g
   simp at g
  ·have:ah (val l).toNat≠[]:=fun e=>by rw[gS]at e;omega
   have:=auM.2 this
   omega
 unfold Yf
 rw[atT h,l4 neg hv,hp]
 cases neg<;>rfl
theorem B3(a b:List Int)(ha:gV a)(hb:gV b)(hab:b.length≤a.length):∀(j i:Nat) (c:Int) (r:List Int),i+j=a.length→0≤c→c≤1→Lim r→r.length=a.length+1→(∀k (hk:k<r.length),i≤k→r[k]=0)→val r+pw i*c=val (a.take i)+val (b.take i)→
  xY.Runs 16 (ku a b r c (i:Int)) [.d axe (ah (val a+val b).toNat)]:=by
 have hsa:=ha.2
 intro j
 induction j with
 |zero=>
  intro i c r hi c0 c1 hr hl hz hv
  obtain rfl:i=a.length:=by omega
  have hir:a.length<r.length:=by omega
  have hr0:=hz _ hir (at5 _)
  have e:val (r.set a.length c)=val a+val b:=by
   rw[fp hir,hr0]
   rw[avg,auT hab]at hv
   grind
  refine rN _ _ _ _ _ ⟨0,?_⟩
  unfold mU
  rw[cz (at5 _),aA r,aQ,atU hir]
  dsimp only
  rw[atT (show bj (r.set a.length c) from⟨hr.set _ ⟨c0,by omega⟩,by simp;omega⟩),e]
 |succ j ih=>
  intro i c r hi c0 c1 hr hl hz hv
  have hia:i<a.length:=by omega
  have hir:i<r.length:=by omega
  have xa:=ha.1.get hia
  have hr0:=hz i hir (at5 _)
  have step:∀(t:Int),0≤t→t<2000000000→val (b.take (i+1))=val (b.take i)+pw i*(t-a[i]-c)→xY.Runs 16 (ku a b (r.set i (t%1000000000)) (t/1000000000) ((i+1:Nat):Int)) [.d axe (ah (val a+val b).toNat)]:=by
   intro t t0 t1 hb'
   refine ih (i+1) (t/1000000000) (r.set i (t%1000000000)) (by omega) (by omega) (by omega) (hr.set i ⟨by omega,by omega⟩) (by simpa using hl) (pn hz) ?_
   rw[fp hir,hr0,bJ hia,hb',cB]
   have:=Int.emod_add_mul_ediv t 1000000000
   grind
  by_cases hib:i<b.length
  ·have xb:=hb.1.get hib
   have ht:=bJ hib
   obtain⟨q,hq⟩:=step (c+a[i]+b[i]) (by omega) (by omega) (by rw[ht];grind)
   refine rN _ _ _ _ _ ⟨q,?_⟩
   unfold mU
   rw[bS hia,aA,atU hia,bS hib,aA,atU hib,aA r i,aQ,atU hir]
   dsimp only
   rw[dp (x:=c+a[i]) (by omega) (by omega),dp (x:=c+a[i]+b[i]) (by omega) (by omega),jk (by omega),gi (by omega),dp (x:=(c+a[i]+b[i])/1000000000) (by omega) (by omega),co (by omega)]
   exact hq
  ·have ht:=j8 (b:=b) (i:=i) (by omega)
   obtain⟨q,hq⟩:=step (c+a[i]) (by omega) (by omega) (by rw[ht];grind)
   refine rN _ _ _ _ _ ⟨q,?_⟩
   unfold mU
   rw[bS hia,aA,atU hia,cz (show b.length≤i by omega),aA r i,aQ,atU hir]
   dsimp only
   rw[dp (x:=c+a[i]) (by omega) (by omega),jk (by omega),gi (by omega),dp (x:=(c+a[i])/1000000000) (by omega) (by omega),co (by omega)]
   exact hq
theorem TE(a b:List Int)(h:gV a∧gV b):Con Tryz.prog 212 [.d axe a,.d axe b] [.d axe (ah (val a+val b).toNat)]:=by
 refine aP qQ (show xY.Res _ _ _ from ?_)
 obtain⟨ha,hb⟩:=h
 have hsa:=ha.2
 have hsb:=hb.2
 by_cases hc:a.length<b.length
 ·obtain⟨q,hq⟩:=B3 b a hb ha (by omega) b.length 0 0 (List.replicate (b.length+1) 0) (by omega) (by omega) (by omega) (Lim.rep _) (by simp) (fun k hk _=>by simp) (by simp[val,gG])
  refine RW _ _ ⟨q,?_⟩
  unfold In
  rw[bS hc,co (by omega),uq (by omega),aQ,awS (val a)]
  exact hq
 ·obtain⟨q,hq⟩:=B3 a b ha hb (by omega) a.length 0 0 (List.replicate (a.length+1) 0) (by omega) (by omega) (by omega) (Lim.rep _) (by simp) (fun k hk _=>by simp) (by simp[val,gG])
  refine RW _ _ ⟨q,?_⟩
  unfold In
  rw[cz (by omega),co (k:=a.length) (by omega),uq (n:=a.length+1) (by omega),aQ]
  exact hq
theorem NF(a b:List Int)(ha:bj a)(hb:bj b)(hle:val b≤val a):∀(j i:Nat) (c:Int) (r:List Int),i+j=a.length→0≤c→c≤1→Lim r→r.length=a.length→(∀k (hk:k<r.length),i≤k→r[k]=0)→val r+val (b.take i)=val (a.take i)+pw i*c→
  zv.Runs 10 (jf a b (i:Int) r c) [.d axe (ah (val a-val b).toNat)]:=by
 have hsa:=ha.2
 intro j
 induction j with
 |zero=>
  intro i c r hi c0 c1 hr hl hz hv
  obtain rfl:i=a.length:=by omega
  refine kL _ _ _ _ _ ⟨0,?_⟩
  unfold iB
  rw[cz (at5 _)]
  have hrl:=cr hr
  rw[hl]at hrl
  have hb2:val b=val (b.take a.length)+pw (min a.length b.length)*val (b.drop a.length):=fZ b a.length
  have hbd:0≤val (b.drop a.length):=bg (hb.1.drop _)
  have hal:=cr ha.1
  have hbt:=bg (hb.1.take a.length)
  rw[avg]at hv
  have hz0:val (b.drop a.length)=0:=by
   rcases auw a.length b.length with h1|h1
   ·rw[auF (by omega)]at hb2
    rcases auA 0 (val (b.drop a.length))with h2|h2
    ·have hp:=ct a.length
     have:=aua (show 1≤val (b.drop a.length) by omega) (auH hp)
     omega
    ·omega
   ·rw[auY h1];rfl
  rw[hz0,awf,awR]at hb2
  have hc0:c=0:=by
   have hp:=ct a.length
   rcases(show c=0∨c=1 by omega)with h|h
   ·exact h
   ·subst h;rw[awk]at hv;omega
  subst hc0
  rw[awf]at hv
  rw[atT (show bj r from⟨hr,by omega⟩),show val r=val a-val b by omega]
 |succ j ih=>
  intro i c r hi c0 c1 hr hl hz hv
  have hia:i<a.length:=by omega
  have hir:i<r.length:=by omega
  have xa:=ha.1.get hia
  have hr0:=hz i hir (at5 _)
  have step:∀(y c':Int),0≤y→y<1000000000→0≤c'→c'≤1→val (b.take (i+1))=val (b.take i)+pw i*(a[i]+1000000000*c'-y-c)→zv.Runs 10 (jf a b ((i+1:Nat):Int) (r.set i y) c') [.d axe (ah (val a-val b).toNat)]:=by
   intro y c' y0 y1 k0 k1 hb'
   refine ih (i+1) c' (r.set i y) (by omega) k0 k1 (hr.set i ⟨y0,y1⟩) (by simpa using hl) (pn hz) ?_
   rw[fp hir,hr0,bJ hia,hb',cB]
   grind
  by_cases hib:i<b.length
  ·have xb:=hb.1.get hib
   have ht:=bJ hib
   by_cases hc:a[i]+1000000000-c-b[i]≥1000000000
   ·obtain⟨q,hq⟩:=step (a[i]+1000000000-c-b[i]-1000000000) 0 (by omega) (by omega) (by omega) (by omega) (by rw[ht];grind)
    refine kL _ _ _ _ _ ⟨q,?_⟩
    unfold iB
    rw[bS hia,aA,atU hia,bS hib,aA,atU hib,aA,aQ,atU hir]
    dsimp only
    rw[dp (x:=a[i]+1000000000) (by omega) (by omega),dp (x:=a[i]+1000000000-c) (by omega) (by omega),dp (x:=a[i]+1000000000-c-b[i]) (by omega) (by omega),atT hc,dp (x:=a[i]+1000000000-c-b[i]-1000000000) (by omega) (by omega),co (by omega)]
    exact hq
   ·obtain⟨q,hq⟩:=step (a[i]+1000000000-c-b[i]) 1 (by omega) (by omega) (by omega) (by omega) (by rw[ht];grind)
    refine kL _ _ _ _ _ ⟨q,?_⟩
    unfold iB
    rw[bS hia,aA,atU hia,bS hib,aA,atU hib,aA,aQ,atU hir]
    dsimp only
    rw[dp (x:=a[i]+1000000000) (by omega) (by omega),dp (x:=a[i]+1000000000-c) (by omega) (by omega),dp (x:=a[i]+1000000000-c-b[i]) (by omega) (by omega),atV hc,co (by omega)]
    exact hq
  ·have ht:=j8 (b:=b) (i:=i) (by omega)
   by_cases hc:a[i]+1000000000-c≥1000000000
   ·obtain⟨q,hq⟩:=step (a[i]+1000000000-c-1000000000) 0 (by omega) (by omega) (by omega) (by omega) (by rw[ht];grind)
    refine kL _ _ _ _ _ ⟨q,?_⟩
    unfold iB
    rw[bS hia,aA,atU hia,cz (show b.length≤i by omega),aA r i,aQ,atU hir]
    dsimp only
    rw[dp (x:=a[i]+1000000000) (by omega) (by omega),dp (x:=a[i]+1000000000-c) (by omega) (by omega),atT hc,dp (x:=a[i]+1000000000-c-1000000000) (by omega) (by omega),co (by omega)]
    exact hq
   ·obtain⟨q,hq⟩:=step (a[i]+1000000000-c) 1 (by omega) (by omega) (by omega) (by omega) (by rw[ht];grind)
    refine kL _ _ _ _ _ ⟨q,?_⟩
    unfold iB
    rw[bS hia,aA,atU hia,cz (show b.length≤i by omega),aA r i,aQ,atU hir]
    dsimp only
    rw[dp (x:=a[i]+1000000000) (by omega) (by omega),dp (x:=a[i]+1000000000-c) (by omega) (by omega),atV hc,co (by omega)]
    exact hq
theorem Wx(a b:List Int)(h:nH a b):Con Tryz.prog 214 [.d axe a,.d axe b] [.d axe (ah (val a-val b).toNat)]:=by
 refine aP qQ (show zv.Res _ _ _ from ?_)
 obtain⟨ha,hb,hle⟩:=h
 have hsa:=ha.2
 obtain⟨q,hq⟩:=NF a b ha hb hle a.length 0 0 (List.replicate a.length 0) (by omega) (by omega) (by omega) (Lim.rep _) (by simp) (fun k hk _=>by simp) (by simp[val,gG])
 refine aig _ _ ⟨q,?_⟩
 unfold T1
 rw[uq (by omega),aQ]
 exact hq
theorem JF(a b:List Int)(ha:gV a)(hb:gV b)(i:Nat)(hi:i<a.length)
  (hout:∀r,Lim r→r.length=a.length+b.length→(∀k (hk:k<r.length),i+1+b.length≤k→r[k]=0)→val r=val (a.take (i+1))*val b→rY.Runs 8 (ub a b ((i+1:Nat):Int) r) [.d axe (ah (val a*val b).toNat)]):
  ∀(j k:Nat) (c:Int) (r:List Int),k+j=b.length→0≤c→c<1000000000→Lim r→r.length=a.length+b.length→(∀q (hq:q<r.length),i+b.length≤q→r[q]=0)→val r+pw (i+k)*c=val (a.take i)*val b+pw i*a[i]*val (b.take k)→
  rY.Runs 23 (sG a b (i:Int) c (k:Int) r) [.d axe (ah (val a*val b).toNat)]:=by
 have hsa:=ha.2
 have hsb:=hb.2
 have xa:=ha.1.get hi
 intro j
 induction j with
 |zero=>
  intro k c r hk c0 c1 hr hl hz hv
  obtain rfl:k=b.length:=by omega
  have hir:i+b.length<r.length:=by omega
  have hr0:=hz _ hir (at5 _)
  obtain⟨q,hq⟩:=hout (r.set (i+b.length) c) (hr.set _ ⟨c0,c1⟩) (by simpa using hl) (by rw[show i+1+b.length=i+b.length+1 by omega];exact pn hz) (by
   rw[fp hir,hr0,bJ hi]
   rw[avg]at hv
   grind)
  refine Af _ _ _ _ _ _ ⟨q,?_⟩
  have hw:i64.wrap ((i:Int)+(b.length:Int))=((i+b.length:Nat):Int):=by rw[bz (by omega) (by omega)];simp
  unfold sh
  rw[cz (at5 _),hw,aA r (i+b.length),aQ,atU hir,dp (x:=c) (by omega) (by omega),co (k:=i) (by omega)]
  exact hq
 |succ j ih=>
  intro k c r hk c0 c1 hr hl hz hv
  have hkb:k<b.length:=by omega
  have hir:i+k<r.length:=by omega
  have xb:=hb.1.get hkb
  have xr:=hr.get hir
  have hbd:=IB xr xa xb ⟨c0,c1⟩
  obtain⟨q,hq⟩:=ih (k+1) ((r[i+k]+a[i]*b[k]+c)/1000000000) (r.set (i+k) ((r[i+k]+a[i]*b[k]+c)%1000000000)) (by omega) hbd.2.2.1 hbd.2.2.2 (hr.set _ (by omega)) (by simpa using hl)
   (fun m hm hq=>by rw[avs (by omega)];exact hz m (by simpa using hm) hq) (by
    rw[fp hir,bJ hkb,show i+(k+1)=i+k+1 by omega,cB,fB]
    rw[fB]at hv
    have e:=Int.emod_add_mul_ediv (r[i+k]+a[i]*b[k]+c) 1000000000
    grind)
  refine Af _ _ _ _ _ _ ⟨q,?_⟩
  have hw:i64.wrap ((i:Int)+(k:Int))=((i+k:Nat):Int):=by rw[bz (by omega) (by omega)];simp
  unfold sh
  rw[bS hkb,hw,aA b k,atU hkb,aA a i,atU hi,aA r (i+k),aQ,atU hir]
  dsimp only
  rw[bU (x:=r[i+k]) (by omega) (by omega),bU (x:=a[i]) (by omega) (by omega),bU (x:=b[k]) (by omega) (by omega),bU (x:=a[i]*b[k]) (by omega) (by omega),bU (x:=c+r[i+k]) (by omega) (by omega),bU (x:=c+r[i+k]+a[i]*b[k]) (by omega) (by omega),show c+r[i+k]+a[i]*b[k]=r[i+k]+a[i]*b[k]+c by omega,gi (a:=r[i+k]+a[i]*b[k]+c) (by omega),jk (a:=r[i+k]+a[i]*b[k]+c) (by omega),bU (x:=(r[i+k]+a[i]*b[k]+c)/1000000000) (by omega) (by omega),dp (x:=(r[i+k]+a[i]*b[k]+c)%1000000000) (by omega) (by omega),co (k:=k) (by omega)]
  exact hq
theorem Ir(a b:List Int)(ha:gV a)(hb:gV b):∀(j i:Nat) (r:List Int),i+j=a.length→Lim r→r.length=a.length+b.length→(∀k (hk:k<r.length),i+b.length≤k→r[k]=0)→val r=val (a.take i)*val b→
  rY.Runs 8 (ub a b (i:Int) r) [.d axe (ah (val a*val b).toNat)]:=by
 have hsa:=ha.2
 have hsb:=hb.2
 intro j
 induction j with
 |zero=>
  intro i r hi hr hl hz hv
  obtain rfl:i=a.length:=by omega
  refine AG _ _ _ _ ⟨0,?_⟩
  unfold vh
  rw[avg]at hv
  rw[cz (at5 _),atT (show bj r from⟨hr,by omega⟩),hv]
 |succ j ih=>
  intro i r hi hr hl hz hv
  have hia:i<a.length:=by omega
  obtain⟨q,hq⟩:=JF a b ha hb i hia (fun r' h1 h2 h3 h4=>ih (i+1) r' (by omega) h1 h2 h3 h4) b.length 0 0 r (by omega) (by omega) (by omega) hr hl hz (by simp[val,hv])
  refine AG _ _ _ _ ⟨q,?_⟩
  unfold vh
  rw[bS hia]
  exact hq
theorem R6(a b:List Int)(h:gV a∧gV b):Con Tryz.prog 211 [.d axe a,.d axe b] [.d axe (ah (val a*val b).toNat)]:=by
 refine aP qQ (show rY.Res _ _ _ from ?_)
 obtain⟨ha,hb⟩:=h
 have hsa:=ha.2
 have hsb:=hb.2
 obtain⟨q,hq⟩:=Ir a b ha hb a.length 0 (List.replicate (a.length+b.length) 0) (by omega) (Lim.rep _) (by simp) (fun k hk _=>by simp) (by simp[val,gG])
 refine ah9 _ _ ⟨q,?_⟩
 have hw:i64.wrap ((a.length:Int)+(b.length:Int))=((a.length+b.length:Nat):Int):=by rw[bz (by omega) (by omega)];simp
 unfold Zi
 rw[hw,uq (by omega),aQ]
 exact hq
end Go.Proofs.YtgddhgcjmddjfaaGreat
end
