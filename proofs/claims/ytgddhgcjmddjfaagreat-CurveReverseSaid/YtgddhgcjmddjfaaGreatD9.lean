/- The reals as Cauchy sequences of fractions. -/
import Derived.Test.YtgddhgcjmddjfaaGreatD8
noncomputable section
namespace Go.Proofs.YtgddhgcjmddjfaaGreat
open Go.RowKit Go.IntKind
theorem auM:type_of% @Quotient.inductionOn:=@Quotient.inductionOn
theorem avI:type_of% @Rat.mul_nonneg:=@Rat.mul_nonneg
theorem avT:type_of% @Rat.mul_pos:=@Rat.mul_pos
theorem awM:type_of% @Rat.mul_comm:=@Rat.mul_comm
theorem axh:type_of% @Rat.intCast_natCast:=@Rat.intCast_natCast
theorem axk:type_of% @Rat.intCast_le_intCast:=@Rat.intCast_le_intCast
theorem axw:type_of% @Quotient.inductionOn₂:=@Quotient.inductionOn₂
theorem axx:type_of% @Quotient.inductionOn₃:=@Quotient.inductionOn₃
theorem axF:type_of% @Quotient.sound:=@Quotient.sound
section
namespace RL
theorem ka{x y B e:Rat}(h1:x<B)(h2: -B<x)(h3:y<e)(h4: -e<y):x*y<B*e:=by
 have p:=avT (a:=B-x) (b:=e+y) (by grind) (by grind)
 have q:=avT (a:=B+x) (b:=e-y) (by grind) (by grind)
 grind
theorem ah8{e:Rat}(h:0<e):0<e/2:=by grind
theorem Br{e B:Rat}(h:0<e)(hB:0<B):∃d,0<d∧B*d+B*d<e:=by
 refine⟨e/(4*B),?_,?_⟩
 ·exact avT h (Rat.inv_pos.2 (by grind))
 ·have:B*(e/(4*B))=e/4:=by grind
  grind
structure CS where
 f:Nat→Rat
 cau:∀e:Rat,0<e→∃N,∀m n,N≤m→N≤n→f m-f n<e
theorem CS.bd(a:CS):∃B:Rat,0<B∧∃N,∀n,N≤n→ -B<a.f n∧a.f n<B:=by
 obtain⟨N,h⟩:=a.cau 1 (by grind)
 refine⟨(if 0≤a.f N then a.f N else-a.f N)+1,?_,N,fun n hn=>?_⟩
 ·split<;>grind
 ·have h1:=h n N hn (auY _)
  have h2:=h N n (auY _) hn
  split<;>grind
def add(a b:CS):CS:=⟨fun n=>a.f n+b.f n,fun e he=>by
 obtain⟨N,h⟩:=a.cau (e/2) (by grind)
 obtain⟨M,h'⟩:=b.cau (e/2) (by grind)
 refine⟨max N M,fun m n hm hn=>?_⟩
 have:=h m n (by omega) (by omega)
 have:=h' m n (by omega) (by omega)
 grind⟩
def neg(a:CS):CS:=⟨fun n=> -a.f n,fun e he=>by
 obtain⟨N,h⟩:=a.cau e he
 exact⟨N,fun m n hm hn=>by have:=h n m hn hm;grind⟩⟩
theorem UC(a b:CS)(e:Rat)(he:0<e):∃N,∀m n,N≤m→N≤n→a.f m*b.f m-a.f n*b.f n<e:=by
 obtain⟨A,hA,N1,h1⟩:=a.bd
 obtain⟨B,hB,N2,h2⟩:=b.bd
 obtain⟨d,hd,hd'⟩:=Br (e:=e) (B:=A+B) he (by grind)
 obtain⟨N3,h3⟩:=a.cau d hd
 obtain⟨N4,h4⟩:=b.cau d hd
 refine⟨max (max N1 N2) (max N3 N4),fun m n hm hn=>?_⟩
 have a1:=h1 m (by omega)
 have b1:=h2 n (by omega)
 have p:=ka a1.2 a1.1 (h4 m n (by omega) (by omega)) (by have:=h4 n m (by omega) (by omega);grind)
 have q:=ka b1.2 b1.1 (h3 m n (by omega) (by omega)) (by have:=h3 n m (by omega) (by omega);grind)
 have r:=avT hA hd
 have s:=avT hB hd
 grind
def mul(a b:CS):CS:=⟨fun n=>a.f n*b.f n,UC a b⟩
def eqv(a b:CS):Prop:=∀e:Rat,0<e→∃N,∀n,N≤n→a.f n-b.f n<e∧b.f n-a.f n<e
instance st:Setoid CS where
 r:=eqv
 iseqv:=⟨fun a e he=>⟨0,fun n _=>by grind⟩,fun h e he=>by
   obtain⟨N,h⟩:=h e he
   exact⟨N,fun n hn=>⟨(h n hn).2,(h n hn).1⟩⟩,
  fun h h' e he=>by
   obtain⟨N,h⟩:=h (e/2) (by grind)
   obtain⟨M,h'⟩:=h' (e/2) (by grind)
   refine⟨max N M,fun n hn=>?_⟩
   have:=h n (by omega)
   have:=h' n (by omega)
   grind⟩
def const(q:Rat):CS:=⟨fun _=>q,fun e he=>⟨0,fun m n _ _=>by grind⟩⟩
end RL
def RE:Type:=Quotient RL.st
namespace RE
open RL
def of(q:Rat):RE:=Quotient.mk _ (const q)
theorem aiC(a b a' b':CS)(h:a≈a')(h':b≈b'):add a b≈add a' b':=fun e he=>by
 obtain⟨N,h⟩:=h (e/2) (by grind)
 obtain⟨M,h'⟩:=h' (e/2) (by grind)
 refine⟨max N M,fun n hn=>?_⟩
 have:=h n (by omega)
 have:=h' n (by omega)
 simp only[RL.add]
 grind
theorem akx(a a':CS)(h:a≈a'):neg a≈neg a':=fun e he=>by
 obtain⟨N,h⟩:=h e he
 refine⟨N,fun n hn=>?_⟩
 have:=h n (by omega)
 simp only[RL.neg]
 grind
theorem aja(a b a' b':CS)(h:a≈a')(h':b≈b'):mul a b≈mul a' b':=fun e he=>by
 obtain⟨A,hA,N1,h1⟩:=a.bd
 obtain⟨B,hB,N2,h2⟩:=b'.bd
 obtain⟨d,hd,hd'⟩:=Br (e:=e) (B:=A+B) he (by grind)
 obtain⟨N3,h3⟩:=h d hd
 obtain⟨N4,h4⟩:=h' d hd
 refine⟨max (max N1 N2) (max N3 N4),fun n hn=>?_⟩
 have a1:=h1 n (by omega)
 have b1:=h2 n (by omega)
 have a3:=h3 n (by omega)
 have b3:=h4 n (by omega)
 have p:=ka a1.2 a1.1 (y:=b.f n-b'.f n) b3.1 (by grind)
 have q:=ka b1.2 b1.1 (y:=a.f n-a'.f n) a3.1 (by grind)
 have p':=ka a1.2 a1.1 (y:=b'.f n-b.f n) b3.2 (by grind)
 have q':=ka b1.2 b1.1 (y:=a'.f n-a.f n) a3.2 (by grind)
 have r:=avT hA hd
 have s:=avT hB hd
 simp only[RL.mul]
 constructor<;>grind
instance:Add RE:=⟨Quotient.lift₂ (fun a b=>Quotient.mk _ (add a b)) (fun _ _ _ _ h h'=>axF (aiC _ _ _ _ h h'))⟩
instance:Neg RE:=⟨Quotient.lift (fun a=>Quotient.mk _ (neg a)) (fun _ _ h=>axF (akx _ _ h))⟩
instance:Sub RE:=⟨fun a b=>a+ -b⟩
instance:Mul RE:=⟨Quotient.lift₂ (fun a b=>Quotient.mk _ (mul a b)) (fun _ _ _ _ h h'=>axF (aja _ _ _ _ h h'))⟩
theorem snd{a b:CS}(h:∀n,a.f n=b.f n):(Quotient.mk st a:RE)=Quotient.mk st b:=
 axF fun e he=>⟨0,fun n _=>by rw[h n];grind⟩
instance (n:Nat):OfNat RE n:=⟨of (OfNat.ofNat n)⟩
theorem of_add(a b:Rat):of (a+b)=of a+of b:=rfl
theorem bR(a b:Rat):of (a*b)=of a*of b:=rfl
theorem of_neg(a:Rat):of (-a)= -of a:=rfl
theorem of_sub(a b:Rat):of (a-b)=of a-of b:=by rw[axo];rfl
theorem qX:of 0=0:=rfl
theorem EQ:of 1=1:=rfl
theorem add_zero(a:RE):a+0=a:=by
 induction a using auM;exact snd fun n=>Rat.add_zero _
theorem add_comm(a b:RE):a+b=b+a:=by
 induction a,b using axw;exact snd fun n=>Rat.add_comm _ _
theorem add_assoc(a b c:RE):a+b+c=a+(b+c):=by
 induction a,b,c using axx;exact snd fun n=>Rat.add_assoc _ _ _
theorem mul_assoc(a b c:RE):a*b*c=a*(b*c):=by
 induction a,b,c using axx;exact snd fun n=>Rat.mul_assoc _ _ _
theorem mul_comm(a b:RE):a*b=b*a:=by
 induction a,b using axw;exact snd fun n=>awM _ _
theorem mul_one(a:RE):a*1=a:=by
 induction a using auM;exact snd fun n=>Rat.mul_one _
theorem mul_zero(a:RE):a*0=0:=by
 induction a using auM;exact snd fun n=>Rat.mul_zero _
theorem KW(a:RE): -a+a=0:=by
 induction a using auM;exact snd fun n=>Rat.neg_add_cancel _
def clt(a b:CS):Prop:=∃e:Rat,0<e∧∃N,∀n,N≤n→a.f n+e<b.f n
theorem XP(a b a' b':CS)(h:a≈a')(h':b≈b')(hl:clt a b):clt a' b':=by
 obtain⟨e,he,N,hl⟩:=hl
 obtain⟨N1,h⟩:=h (e/4) (by grind)
 obtain⟨N2,h'⟩:=h' (e/4) (by grind)
 refine⟨e/2,by grind,max N (max N1 N2),fun n hn=>?_⟩
 have:=hl n (by omega)
 have:=h n (by omega)
 have:=h' n (by omega)
 grind
instance:LT RE:=⟨Quotient.lift₂ clt (fun _ _ _ _ h h'=>propext ⟨XP _ _ _ _ h h',XP _ _ _ _ (Setoid.symm h) (Setoid.symm h')⟩)⟩
instance:LE RE:=⟨fun a b=>¬b<a⟩
theorem lt_irrefl(a:RE):¬a<a:=by
 induction a using auM
 rintro ⟨e,he,N,h⟩
 have:=h N (auY _)
 grind
theorem fP{a b c:RE}:a<b→b<c→a<c:=by
 induction a,b,c using axx
 rintro ⟨e,he,N,h⟩ ⟨e',he',N',h'⟩
 refine⟨e,he,max N N',fun n hn=>?_⟩
 have:=h n (by omega)
 have:=h' n (by omega)
 grind
theorem qi(a b:RE):a<b∨a=b∨b<a:=by
 induction a,b using axw
 rename_i a b
 by_cases h1:clt a b
 ·exact .inl h1
 by_cases h2:clt b a
 ·exact .inr (.inr h2)
 refine .inr (.inl (axF fun e he=>?_))
 obtain⟨N,ha⟩:=a.cau (e/4) (by grind)
 obtain⟨M,hb⟩:=b.cau (e/4) (by grind)
 have g1:∃n,max N M≤n∧b.f n≤a.f n+e/4:=by
  apply ave
  intro hc
  exact h1 ⟨e/4,by grind,max N M,fun n hn=>by
   apply ave
   intro h
   exact hc ⟨n,hn,by grind⟩⟩
 have g2:∃n,max N M≤n∧a.f n≤b.f n+e/4:=by
  apply ave
  intro hc
  exact h2 ⟨e/4,by grind,max N M,fun n hn=>by
   apply ave
   intro h
   exact hc ⟨n,hn,by grind⟩⟩
 obtain⟨p,hp,gp⟩:=g1
 obtain⟨q,hq,gq⟩:=g2
 refine⟨max N M,fun n hn=>?_⟩
 have a1:=ha n q (by omega) (by omega)
 have b1:=hb q n (by omega) (by omega)
 have a2:=ha p n (by omega) (by omega)
 have b2:=hb n p (by omega) (by omega)
 constructor<;>grind
theorem xN{a b:RE}(c:RE):a<b→a+c<b+c:=by
 induction a,b,c using axx
 rintro ⟨e,he,N,h⟩
 refine⟨e,he,N,fun n hn=>?_⟩
 have:=h n hn
 simp only[RL.add]
 grind
theorem mul_pos{a b:RE}:0<a→0<b→0<a*b:=by
 induction a,b using axw
 rintro ⟨e,he,N,h⟩ ⟨e',he',N',h'⟩
 refine⟨e*e',avT he he',max N N',fun n hn=>?_⟩
 have h1:=h n (by omega)
 have h2:=h' n (by omega)
 simp only[RL.const]at h1 h2 ⊢
 rename_i a b
 have p:=avT (a:=a.f n-e) (b:=b.f n-e') (by grind) (by grind)
 have q:=avT (a:=a.f n-e) (b:=e') (by grind) (by grind)
 have r:=avT (a:=e) (b:=b.f n-e') (by grind) (by grind)
 simp only[RL.mul]
 grind
theorem jz{a b:Rat}(h:a<b):of a<of b:=⟨(b-a)/2,by grind,0,fun n _=>by simp only[RL.const];grind⟩
end RE
end
section
namespace RE
open RL
theorem EL(a b:RE):a≤b↔¬b<a:=Iff.rfl
theorem le_of_lt{a b:RE}(h:a<b):a≤b:=fun h'=>lt_irrefl a (fP h h')
theorem lt_or_ge(a b:RE):a<b∨b≤a:=by
 by_cases h:a<b
 ·exact .inl h
 ·exact .inr h
theorem le_antisymm{a b:RE}(h1:a≤b)(h2:b≤a):a=b:=by
 rcases qi a b with h|h|h
 ·exact absurd h h2
 ·exact h
 ·exact absurd h h1
theorem le_trans{a b c:RE}(h1:a≤b)(h2:b≤c):a≤c:=fun h=>by
 rcases qi a b with h'|h'|h'
 ·exact h2 (fP h h')
 ·subst h';exact h2 h
 ·exact h1 h'
theorem zero_lt_one:(0:RE)<1:=jz (by decide+kernel:(0:Rat)<1)
theorem qZ(a:RE):a+ -a=0:=by rw[add_comm,KW]
theorem vM{a:RE}(h:a<0):0< -a:=by
 have:=xN (-a) h
 rw[qZ,add_comm,add_zero]at this
 exact this
theorem alh{a:RE}(h:0<a): -a<0:=by
 have:=xN (-a) h
 rw[qZ,add_comm,add_zero]at this
 exact this
instance:Std.IsLinearOrder RE where
 le_refl a:=lt_irrefl a
 le_trans _ _ _:=le_trans
 le_antisymm _ _:=le_antisymm
 le_total a b:=by
  rcases lt_or_ge a b with h|h
  ·exact .inl (le_of_lt h)
  ·exact .inr h
instance:Std.LawfulOrderLT RE where
 lt_iff a b:=⟨fun h=>⟨le_of_lt h,fun h'=>h' h⟩,fun h=>by
  rcases lt_or_ge a b with h'|h'
  ·exact h'
  ·exact absurd h' h.2⟩
theorem iS{a b:RE}:¬a≤b↔b<a:=⟨fun h=>by
  rcases lt_or_ge b a with h'|h'
  ·exact h'
  ·exact absurd h' h,fun h h'=>h' h⟩
theorem aX{a b:RE}(h:a<b):0<b-a:=by
 have:=xN (-a) h
 rw[qZ]at this
 exact this
theorem aQ{a b:RE}(h:a≤b):0≤b-a:=fun h'=>h (by
 have:=xN a h'
 have e:b-a+a=b:=by
  show b+ -a+a=b
  rw[add_assoc,KW,add_zero]
 rw[e,add_comm,add_zero]at this
 exact this)
theorem pW{a:RE}(h:0≤a):0<a∨a=0:=by
 rcases qi 0 a with h'|h'|h'
 ·exact .inl h'
 ·exact .inr h'.symm
 ·exact absurd h' h
theorem le_refl(a:RE):a≤a:=lt_irrefl a
theorem jw{a b:RE}(h:a=b):a≤b:=by rw[h];exact le_refl _
theorem iy{a b:RE}(h:a=b):b≤a:=by rw[h];exact le_refl _
theorem zero_mul(a:RE):0*a=0:=by rw[mul_comm,mul_zero]
theorem zero_add(a:RE):0+a=a:=by rw[add_comm,add_zero]
theorem one_mul(a:RE):1*a=a:=by rw[mul_comm,mul_one]
theorem cZ{a b:RE}(h:0≤a)(h':0≤b):0≤a*b:=by
 rcases pW h with h1|h1
 ·rcases pW h' with h2|h2
  ·exact le_of_lt (mul_pos h1 h2)
  ·rw[h2,mul_zero];exact le_refl _
 ·rw[h1,zero_mul];exact le_refl _
theorem aT{a b:RE}(h:0<a)(h':0≤b):0<a+b:=by
 have:=xN b h
 rw[zero_add]at this
 rcases pW h' with h2|h2
 ·exact fP h2 this
 ·rw[h2,add_zero];exact h
theorem Dp(a:RE):0≤a*a:=by
 rcases lt_or_ge a 0 with h|h
 ·have h1:=vM h
  have h2:=mul_pos h1 h1
  have e: -a* -a=a*a:=by
   induction a using auM
   exact snd fun n=>by show-_* -_=_*_;grind
  rw[e]at h2
  exact le_of_lt h2
 ·exact cZ h h
theorem w7{c:Rat}(hc:(0:Rat)<c){a:RE}(h:0<a):0<of c*a:=mul_pos (jz hc) h
theorem lL{c:Rat}(hc:(0:Rat)<c){a:RE}(h:0≤a):0≤of c*a:=cZ (le_of_lt (jz hc)) h
theorem far{s:RE}(h:0<s)(e:s=0):False:=by rw[e]at h;exact lt_irrefl _ h
theorem abt(x y:RE):((y*y-(x*x)))+((x-(0))*(x-(y)))+((y-(0))*(x-(y)))=0:=by
 induction x using auM
 induction y using auM
 exact snd fun n=>by
  simp only[RL.add,RL.mul,RL.neg,RL.const]
  grind
theorem sq_lt(x y:RE)(h1:0≤x)(h2:0≤y)(h3:x*x<y*y):x<y:=iS.1 fun hg=>far (aT (aT (aX h3) (cZ (aQ h1) (aQ hg))) (cZ (aQ h2) (aQ hg))) (abt x y)
theorem ac0(x y:RE):((x-(y))*(x-(y)))+((y*y-(x*x)))+of 2*((y-(0))*(x-(y)))=0:=by
 induction x using auM
 induction y using auM
 exact snd fun n=>by
  simp only[RL.add,RL.mul,RL.neg,RL.const]
  grind
theorem Zq(x y:RE)(_h1:0≤x)(h2:0≤y)(h3:x*x≤y*y):x≤y:=fun hg=>far (aT (aT (mul_pos (aX hg) (aX hg)) (aQ h3)) (lL (by decide+kernel:(0:Rat)<2) (cZ (aQ h2) (le_of_lt (aX hg))))) (ac0 x y)
theorem Pd(x y:RE):((x*x-(y*y)))+of 2*((x-(0))*(y-(x)))+((y-(x))*(y-(x)))=0:=by
 induction x using auM
 induction y using auM
 exact snd fun n=>by
  simp only[RL.add,RL.mul,RL.neg,RL.const]
  grind
theorem tk(x y:RE)(h1:0≤x)(h2:x≤y):x*x≤y*y:=fun hg=>far (aT (aT (aX hg) (lL (by decide+kernel:(0:Rat)<2) (cZ (aQ h1) (aQ h2)))) (cZ (aQ h2) (aQ h2))) (Pd x y)
theorem akk(x y:RE):((y-(x))*(y-(x)))+((x*x-(y*y)))+of 2*((x-(0))*(y-(x)))=0:=by
 induction x using auM
 induction y using auM
 exact snd fun n=>by
  simp only[RL.add,RL.mul,RL.neg,RL.const]
  grind
theorem Xj(x y:RE):((x-(y))*(x-(y)))+((y*y-(x*x)))+of 2*((y-(0))*(x-(y)))=0:=by
 induction x using auM
 induction y using auM
 exact snd fun n=>by
  simp only[RL.add,RL.mul,RL.neg,RL.const]
  grind
theorem aiz(x y:RE)(_h1:0≤x)(h2:0≤y)(h3:x*x=y*y):x≤y:=fun hg=>far (aT (aT (mul_pos (aX hg) (aX hg)) (aQ (jw h3))) (lL (by decide+kernel:(0:Rat)<2) (cZ (aQ h2) (le_of_lt (aX hg))))) (Xj x y)
theorem Rc(x y:RE):((y-(x))*(y-(x)))+((x*x-(y*y)))+of 2*((x-(0))*(y-(x)))=0:=by
 induction x using auM
 induction y using auM
 exact snd fun n=>by
  simp only[RL.add,RL.mul,RL.neg,RL.const]
  grind
theorem ajr(x y:RE)(h1:0≤x)(_h2:0≤y)(h3:x*x=y*y):y≤x:=fun hg=>far (aT (aT (mul_pos (aX hg) (aX hg)) (aQ (iy h3))) (lL (by decide+kernel:(0:Rat)<2) (cZ (aQ h1) (le_of_lt (aX hg))))) (Rc x y)
theorem agu(x y:RE)(h1:0≤x)(h2:0≤y)(h3:x*x=y*y):x=y:=le_antisymm (aiz x y h1 h2 h3) (ajr x y h1 h2 h3)
end RE
end
section
namespace RE
open RL
theorem aqx(q:Rat):∃k:Nat,q<(k:Rat):=by
 refine⟨(q.floor+1).toNat,?_⟩
 have h1:q<((q.floor+1:Int):Rat):=(Rat.floor_lt_iff).1 (by omega)
 have h2:((q.floor+1:Int):Rat)≤(((q.floor+1).toNat:Int):Rat):=axk.2 (by omega)
 have h3:(((q.floor+1).toNat:Int):Rat)=(((q.floor+1).toNat:Nat):Rat):=axh _
 rw[h3]at h2
 grind
theorem acG(g d:Rat)(hg:0≤g)(hd:0<d):∃s:Rat,0≤s∧s*s≤g∧g<(s+d)*(s+d):=by
 apply ave
 intro hn
 have step:∀k:Nat,((k:Rat)*d)*((k:Rat)*d)≤g:=by
  intro k
  induction k with
  |zero=>rw[show((0:Nat):Rat)=0 from rfl];grind
  |succ k ih=>
   apply ave
   intro hc
   refine hn ⟨(k:Rat)*d,?_,ih,?_⟩
   ·have:(0:Rat)≤(k:Rat):=by
     have:=Rat.intCast_nonneg.2 (show(0:Int)≤(k:Int) by omega)
     rwa [axh]at this
    exact avI this (by grind)
   ·have e:(((k+1:Nat)):Rat)=(k:Rat)+1:=by rw[Rat.natCast_add];rfl
    rw[e]at hc
    grind
 obtain⟨k,hk⟩:=aqx ((g+1)/d)
 have h1:g+1<(k:Rat)*d:=by
  have:=avT (show 0<(k:Rat)-(g+1)/d by grind) hd
  have e:((k:Rat)-(g+1)/d)*d=(k:Rat)*d-(g+1):=by grind
  grind
 have h2:=step k
 have h3:=avT (show 0<(k:Rat)*d-(g+1) by grind) (show 0<(k:Rat)*d by grind)
 have h4:=avT (show 0<(k:Rat)*d-(g+1) by grind) (show 0<g+1 by grind)
 have h5:=avI hg hg
 clear hn step hk
 generalize (k:Rat)*d=t at h1 h2 h3 h4
 grind
def eps(n:Nat):Rat:=1/((n:Rat)+1)
theorem sA(n:Nat):(0:Rat)≤(n:Rat):=by
 have:=Rat.intCast_nonneg.2 (show(0:Int)≤(n:Int) by omega)
 rwa [axh]at this
theorem sY(n:Nat):0<eps n:=by
 have:=sA n
 exact avT (by grind) (Rat.inv_pos.2 (by grind))
theorem BE(e:Rat)(he:0<e):∃N,∀n,N≤n→eps n<e:=by
 obtain⟨N,hN⟩:=aqx (1/e)
 refine⟨N,fun n hn=>?_⟩
 have h0:=sA n
 have h1:(N:Rat)≤(n:Rat):=by
  have:=axk.2 (show(N:Int)≤(n:Int) by omega)
  rwa [axh,axh]at this
 have h2:1/e<(n:Rat)+1:=by grind
 have h3:=avT (show 0<(n:Rat)+1-1/e by grind) (avT he (sY n))
 unfold eps at h3 ⊢
 have e1:((n:Rat)+1-1/e)*(e*(1/((n:Rat)+1)))=e-1/((n:Rat)+1):=by
  have:(n:Rat)+1≠0:=by grind
  have:e≠0:=by grind
  grind
 grind
theorem I2(n:Nat):eps n≤1:=by
 have h0:=sA n
 have:=sY n
 unfold eps at*
 have h3:=avI h0 (show(0:Rat)≤1/((n:Rat)+1) by grind)
 have e1:(n:Rat)*(1/((n:Rat)+1))=1-1/((n:Rat)+1):=by
  have:(n:Rat)+1≠0:=by grind
  grind
 grind
theorem Yf{a b:Rat}(ha:0≤a)(hb:0≤b)(h:a*a<b*b):a<b:=by
 apply ave
 intro hc
 have:=avI (show 0≤a-b by grind) (show 0≤a+b by grind)
 grind
theorem EK(x:RE)(hx:0≤x):∃y:RE,0≤y∧y*y=x:=by
 induction x using auM
 rename_i f
 have hc:∀n,∃s:Rat,0≤s∧s*s≤(if 0≤f.f n then f.f n else 0)∧(if 0≤f.f n then f.f n else 0)<(s+eps n)*(s+eps n):=fun n=>
  acG _ _ (by split<;>grind) (sY n)
 let g:Nat→Rat:=fun n=>if 0≤f.f n then f.f n else 0
 let s:Nat→Rat:=fun n=>Classical.choose (hc n)
 have hs:∀n,0≤s n∧s n*s n≤g n∧g n<(s n+eps n)*(s n+eps n):=fun n=>av6 (hc n)
 have hg:∀m n,g m-g n≤(if 0≤f.f m-f.f n then f.f m-f.f n else 0):=fun m n=>by
  show(if 0≤f.f m then f.f m else 0)-(if 0≤f.f n then f.f n else 0)≤_
  split<;>split<;>split<;>grind
 obtain⟨B,hB,NB,hBn⟩:=f.bd
 have hgB:∀n,NB≤n→g n<B:=fun n hn=>by
  show(if 0≤f.f n then f.f n else 0)<B
  have:=hBn n hn
  split<;>grind
 have hsB:∀n,NB≤n→s n<B+1:=fun n hn=>by
  have h1:=hs n
  have h2:=hgB n hn
  refine Yf h1.1 (by grind) ?_
  have:=avI (show 0≤B by grind) (show 0≤B by grind)
  grind
 have hcau:∀e:Rat,0<e→∃N,∀m n,N≤m→N≤n→s m-s n<e:=by
  intro e he
  obtain⟨N1,h1⟩:=f.cau (e*e/4) (by have:=avT he he;grind)
  obtain⟨N2,h2⟩:=BE (e/2) (by grind)
  refine⟨max N1 N2,fun m n hm hn=>?_⟩
  apply ave
  intro hne
  have a1:=hs m
  have a2:=hs n
  have a3:=h1 m n (by omega) (by omega)
  have a4:=h2 n (by omega)
  have a5:=hg m n
  have a6:=sY n
  have p1:=avI (show 0≤s m-(s n+e) by grind) (show 0≤s m+(s n+e) by grind)
  have p2:=avI (show 0≤e/2-eps n by grind) (show 0≤(s n+e/2)+(s n+eps n) by grind)
  have p3:=avI (show 0≤e by grind) a2.1
  have p4:=avT he he
  split at a5<;>grind
 refine⟨Quotient.mk _ ⟨s,hcau⟩,?_,axF fun e he=>?_⟩
 ·rintro ⟨e,he,N,h⟩
  have h1:=h N (auY _)
  have h2:=(hs N).1
  simp only[RL.const]at h1
  grind
 ·-- s n*s n is near to f n
  have hneg:∃N,∀n,N≤n→ -(e/4)<f.f n:=by
   apply ave
   intro hne
   obtain⟨M,hM⟩:=f.cau (e/8) (by grind)
   refine hx ⟨e/16,by grind,M,fun n hn=>?_⟩
   apply ave
   intro hge
   refine hne ⟨M,fun k hk=>?_⟩
   have:=hM n k hn hk
   simp only[RL.const]at hge
   grind
  obtain⟨N1,h1⟩:=hneg
  obtain⟨N2,h2⟩:=BE (e/(4*(B+2))) (avT he (Rat.inv_pos.2 (by grind)))
  refine⟨max (max N1 N2) NB,fun n hn=>?_⟩
  have a1:=hs n
  have a2:=h1 n (by omega)
  have a3:=h2 n (by omega)
  have a4:=hsB n (by omega)
  have a5:=sY n
  have a6:=I2 n
  have hgf:f.f n≤g n∧g n<f.f n+e/4:=by
   show f.f n≤(if 0≤f.f n then f.f n else 0)∧(if 0≤f.f n then f.f n else 0)<_
   split<;>constructor<;>grind
  have p1:=avI (show 0≤eps n by grind) (show 0≤2*(B+2)-(2*s n+eps n) by grind)
  have p2:eps n*(2*(B+2))<e/2:=by
   have:=avT (show 0<e/(4*(B+2))-eps n by grind) (show 0<2*(B+2) by grind)
   have e1:(e/(4*(B+2))-eps n)*(2*(B+2))=e/2-eps n*(2*(B+2)):=by
    have:B+2≠0:=by grind
    grind
   grind
  simp only[RL.mul]
  constructor<;>grind
open Classical in
def zR(x:RE):RE:=if h:0≤x then Classical.choose (EK x h)else 0
theorem pT(x:RE):0≤zR x:=by
 unfold zR
 split
 ·rename_i h;exact(av6 (EK x h)).1
 ·exact lt_irrefl 0
theorem Ec{x:RE}(h:0≤x):zR x*zR x=x:=by
 unfold zR
 rw[dif_pos h]
 exact(av6 (EK x h)).2
theorem ou{a b:Rat}:of a≤of b↔a≤b:=by
 constructor
 ·intro h
  apply ave
  intro hc
  exact h (jz (by grind))
 ·intro h h'
  rcases(by grind:a<b∨a=b)with h1|h1
  ·exact lt_irrefl _ (fP h' (jz h1))
  ·rw[h1]at h';exact lt_irrefl _ h'
theorem Jy{a b:Rat}(h:of a=of b):a=b:=by
 have h1:=ou.1 (show of a≤of b by rw[h];exact lt_irrefl _)
 have h2:=ou.1 (show of b≤of a by rw[h];exact lt_irrefl _)
 grind
end RE
end
section
namespace RE
open RL
open Classical in
def sg(x:RE):Int:=if 0<x then 1 else if x<0 then-1 else 0
theorem gv{x:RE}(h:0<x):sg x=1:=avn h
theorem jN{x:RE}(h:x<0):sg x= -1:=by unfold sg;rw[avf (fun h'=>lt_irrefl _ (fP h h')),avn h]
theorem eP:sg 0=0:=by unfold sg;rw[avf (lt_irrefl _),avf (lt_irrefl _)]
theorem dE(x:RE):(0<x∧sg x=1)∨(x=0∧sg x=0)∨(x<0∧sg x= -1):=by
 rcases qi 0 x with h|h|h
 ·exact .inl ⟨h,gv h⟩
 ·exact .inr (.inl ⟨h.symm,by rw[←h,eP]⟩)
 ·exact .inr (.inr ⟨h,jN h⟩)
theorem Yl{x:RE}:sg x=0↔x=0:=by
 rcases dE x with⟨h,e⟩|⟨h,e⟩|⟨h,e⟩<;>rw[e]
 ·exact⟨fun h'=>by omega,fun h'=>by rw[h']at h;exact absurd h (lt_irrefl _)⟩
 ·exact⟨fun _=>h,fun _=>rfl⟩
 ·exact⟨fun h'=>by omega,fun h'=>by rw[h']at h;exact absurd h (lt_irrefl _)⟩
theorem neg_mul(a b:RE): -a*b= -(a*b):=by
 induction a using auM
 induction b using auM
 exact snd fun n=>by
  simp only[RL.mul,RL.neg]
  grind
theorem mul_neg(a b:RE):a* -b= -(a*b):=by
 induction a using auM
 induction b using auM
 exact snd fun n=>by
  simp only[RL.mul,RL.neg]
  grind
theorem neg_neg(a:RE): - -a=a:=by
 induction a using auM
 exact snd fun n=>by
  simp only[RL.neg]
  grind
theorem sub_self(a:RE):a-a=0:=by
 induction a using auM
 exact snd fun n=>by
  simp only[RL.add,RL.neg,RL.const]
  grind
theorem alt(x y:RE):(x+y)*(x-y)=x*x-y*y:=by
 induction x using auM
 induction y using auM
 exact snd fun n=>by
  simp only[RL.add,RL.mul,RL.neg]
  grind
theorem WE(x y:RE):((x-(0))*(0-(y)))+((x*y-(0)))=0:=by
 induction x using auM
 induction y using auM
 exact snd fun n=>by
  simp only[RL.add,RL.mul,RL.neg,RL.const]
  grind
theorem Y5(x y:RE)(h1:0<x)(h2:y<0):x*y<0:=iS.1 fun hg=>far (aT (mul_pos (aX h1) (aX h2)) (aQ hg)) (WE x y)
theorem Xv(x y:RE):((0-(x)))+((0-(y)))+((x+y-(0)))=0:=by
 induction x using auM
 induction y using auM
 exact snd fun n=>by
  simp only[RL.add,RL.neg,RL.const]
  grind
theorem amn(x y:RE)(h1:x<0)(h2:y<0):x+y<0:=iS.1 fun hg=>far (aT (aT (aX h1) (le_of_lt (aX h2))) (aQ hg)) (Xv x y)
theorem WC(x y:RE):((x-(0)))+((0-(y)))+((0-(x-y)))=0:=by
 induction x using auM
 induction y using auM
 exact snd fun n=>by
  simp only[RL.add,RL.neg,RL.const]
  grind
theorem amk(x y:RE)(h1:0<x)(h2:y<0):0<x-y:=iS.1 fun hg=>far (aT (aT (aX h1) (le_of_lt (aX h2))) (aQ hg)) (WC x y)
theorem YU(x y:RE):((0-(x)))+((y-(0)))+((x-y-(0)))=0:=by
 induction x using auM
 induction y using auM
 exact snd fun n=>by
  simp only[RL.add,RL.neg,RL.const]
  grind
theorem ajp(x y:RE)(h1:x<0)(h2:0<y):x-y<0:=iS.1 fun hg=>far (aT (aT (aX h1) (le_of_lt (aX h2))) (aQ hg)) (YU x y)
theorem QE(x y:RE):((x-(0)))+((y-(0)))+((0-(x+y)))=0:=by
 induction x using auM
 induction y using auM
 exact snd fun n=>by
  simp only[RL.add,RL.neg,RL.const]
  grind
theorem ak0(x y:RE)(h1:0<x)(h2:0<y):0<x+y:=iS.1 fun hg=>far (aT (aT (aX h1) (le_of_lt (aX h2))) (aQ hg)) (QE x y)
theorem Sb: -(0:RE)=0:=by rw[←zero_add (-0),qZ]
theorem akS(x:RE):sg (-x)= -sg x:=by
 rcases dE x with⟨h,e⟩|⟨h,e⟩|⟨h,e⟩<;>rw[e]
 ·exact jN (alh h)
 ·rw[h,Sb,eP];rfl
 ·exact gv (vM h)
theorem mc(x y:RE):sg (x*y)=sg x*sg y:=by
 rcases dE x with⟨h,e⟩|⟨h,e⟩|⟨h,e⟩<;>rw[e]
 ·rcases dE y with⟨h',e'⟩|⟨h',e'⟩|⟨h',e'⟩<;>rw[e']
  ·exact gv (mul_pos h h')
  ·rw[h',mul_zero,eP];rfl
  ·exact jN (Y5 _ _ h h')
 ·rw[h,zero_mul,eP];omega
 ·rcases dE y with⟨h',e'⟩|⟨h',e'⟩|⟨h',e'⟩<;>rw[e']
  ·rw[mul_comm];exact jN (Y5 _ _ h' h)
  ·rw[h',mul_zero,eP];rfl
  ·have:=mul_pos (vM h) (vM h')
   rw[neg_mul,mul_neg,neg_neg]at this
   exact gv this
theorem sg_of(q:Rat):sg (of q)=aR q 0:=by
 rcases(by grind:q<0∨q=0∨0<q)with h|h|h
 ·rw[dM h];exact jN (jz h)
 ·rw[h,dY];exact eP
 ·rw[dA h];exact gv (jz h)
def addS(s t d:Int):Int:=bif t==0||s==t then s else bif s==0 then t else s*d
theorem Yh(x y:RE):sg (x+y)=addS (sg x) (sg y) (sg (x*x-y*y)):=by
 rw[←alt,mc]
 rcases dE x with⟨h,e⟩|⟨h,e⟩|⟨h,e⟩<;>rw[e]
 ·rcases dE y with⟨h',e'⟩|⟨h',e'⟩|⟨h',e'⟩<;>rw[e']
  ·exact gv (ak0 _ _ h h')
  ·rw[h',add_zero,e];rfl
  ·rw[gv (amk _ _ h h')]
   show _=1*(_*1)
   omega
 ·rcases dE y with⟨h',e'⟩|⟨h',e'⟩|⟨h',e'⟩<;>rw[e',h,zero_add,e']<;>rfl
 ·rcases dE y with⟨h',e'⟩|⟨h',e'⟩|⟨h',e'⟩<;>rw[e']
  ·rw[jN (ajp _ _ h h')]
   show _= -1*(_* -1)
   omega
  ·rw[h',add_zero,e];rfl
  ·exact jN (amn _ _ h h')
end RE
end
def vo:Nat→Nat→Nat
 |0,_=>0
 |f+1,n=>bif decide (n=0)then 0 else bif decide ((2*vo f (n/4)+1)*(2*vo f (n/4)+1)≤n)then 2*vo f (n/4)+1 else 2*vo f (n/4)
def DE(n:Nat):Nat:=vo (n.log2+1) n
theorem M0:∀(f n:Nat),n<2^f→vo f n*vo f n≤n∧n<(vo f n+1)*(vo f n+1)
 |0,n,h=>by
  have:n=0:=by simpa using h
  subst this
  exact⟨auY _,by decide⟩
 |f+1,n,h=>by
  rcases avB n with h0|h0
  ·subst h0
   show vo (f+1) 0*vo (f+1) 0≤0∧_
   exact⟨auY _,by show 0<(0+1)*(0+1);decide⟩
  ·have h4:n/4<2^f:=by
    rw[Nat.pow_succ]at h
    omega
   obtain⟨h1,h2⟩:=M0 f (n/4) h4
   simp only[vo]
   rw[auQ (show ¬n=0 by omega)]
   generalize vo f (n/4)=s at h1 h2
   have e1:(2*s)*(2*s)=4*(s*s):=by grind
   have e2:(2*s+1+1)*(2*s+1+1)=4*((s+1)*(s+1)):=by grind
   by_cases hc:(2*s+1)*(2*s+1)≤n
   ·rw[auO hc]
    exact⟨hc,by show n<(2*s+1+1)*(2*s+1+1);rw[e2];omega⟩
   ·rw[auQ hc]
    exact⟨by show(2*s)*(2*s)≤n;rw[e1];omega,by show n<(2*s+1)*(2*s+1);omega⟩
theorem abU(n:Nat):DE n*DE n≤n∧n<(DE n+1)*(DE n+1):=M0 _ n Nat.lt_log2_self
def ce(z:Int):Int:=(DE z.toNat:Int)
theorem fT{z:Int}(h:0≤z):0≤ce z∧ce z*ce z≤z∧z<(ce z+1)*(ce z+1):=by
 obtain⟨h1,h2⟩:=abU z.toNat
 unfold ce
 have h3:((DE z.toNat*DE z.toNat:Nat):Int)≤(z.toNat:Int):=by omega
 have h4:(z.toNat:Int)<(((DE z.toNat+1)*(DE z.toNat+1):Nat):Int):=by omega
 rw[awh]at h3 h4
 exact⟨by omega,by omega,by simp only[Int.natCast_add,Int.natCast_one]at h4;omega⟩
theorem tk{a b:Int}(ha:0≤a)(h:a≤b):a*a≤b*b:=aw2 h h ha (by omega)
theorem sq_lt{a b:Int}(hb:0≤b)(h:a*a<b*b):a<b:=by
 apply ave
 intro hc
 have:=tk hb (show b≤a by omega)
 omega
theorem adi{z s:Int}(h0:0≤s)(h1:s*s≤z)(h2:z<(s+1)*(s+1)):ce z=s:=by
 obtain⟨g0,g1,g2⟩:=fT (show 0≤z by have:=tk (a:=0) (by omega) h0;omega)
 have a1:=sq_lt (b:=s+1) (a:=ce z) (by omega) (by omega)
 have a2:=sq_lt (b:=ce z+1) (a:=s) (by omega) (by omega)
 omega
theorem X4{a x s:Int}(hx:0<x)(_hs:0≤s)(h1:s*s≤a):s≤(x+a/x)/2:=by
 have hq:=avK a x
 have hm:=avC a hx
 apply ave
 intro hc
 have h2:a/x≤2*s-x-1:=by omega
 have h3:x*(a/x)≤x*(2*s-x-1):=au3 h2 (by omega)
 have h4:0≤(s-x)*(s-x):=by
  rcases Int.le_total 0 (s-x)with h|h
  ·exact avX h h
  ·exact Int.mul_nonneg_of_nonpos_of_nonpos h h
 grind
theorem Ai{a x s:Int}(hx:0<x)(hs:s≤x)(_h1:s*s≤a)(h2:a<(s+1)*(s+1))(h3:0≤s)(h:x≤(x+a/x)/2):x=s:=by
 have hq:=avK a x
 have hm:=av4 a (show x≠0 by omega)
 have h4:x≤a/x:=by omega
 have h5:x*x≤x*(a/x):=au3 h4 (by omega)
 have:=sq_lt (a:=x) (b:=s+1) (by omega) (by omega)
 omega
def fJ(x:BI):BI:=bif x.1 then(false,[])else aj (ce (ag x))
def sX(x:BI):Int:=bif x.1 then 7 else 0
def DC:Env:=[(206,pU),(148,sd),(195,pC),(200,yn),(248,CF)]
theorem xD:EnvAll Tryz.prog DC:=⟨kv,mC,lc,sO,yg,trivial⟩
def ak2:NT:=[((282,25),{keep:=[1,2,5,6],hl:=6})]
def KA:Ctx:=CX DC ak2
def nE(x:Bool×List Int)(b4_0:Bool)(b4_1:List Int):Cfg:=⟨282,[.blk 0],[(1,.box 0 0),(2,.box 1 0),(5,.box 4 0),(6,.box 5 0)],[.box 33 [SB x.1,.d aya x.2],.box 33 [SB false,.nil],.gone,.row 180 ayc ([1]),.box 33 [SB b4_0,.d aya b4_1],.box 33 [SB ((aj (2:Int)).1),.d aya ((aj (2:Int)).2)]],0,[]⟩
def Nr(x:Bool×List Int)(k:KT):OLR:=match x.1 with|true=>some [RV.d y2Y (false,[]),RV.d ayb 7]|false=>(match(x.2.length:Int)==0 with|true=>some [RV.d y2Y (false,[]),RV.d ayb 0]|false=>(match decide ((0:Int)≤i64.wrap (Int.tdiv (i64.wrap ((x.2.length:Int)+1)) 2)∧(i64.wrap (Int.tdiv (i64.wrap ((x.2.length:Int)+1)) 2))*((4:Nat):Int)≤140737488355328∧i64.wrap (Int.tdiv (i64.wrap ((x.2.length:Int)+1)) 2)≤140737488355328)with|true=>(match decide (((List.replicate (i64.wrap (Int.tdiv (i64.wrap ((x.2.length:Int)+1)) 2)).toNat (0:Int)).length+([1]).length)*4≤140737488355328∧(List.replicate (i64.wrap (Int.tdiv (i64.wrap ((x.2.length:Int)+1)) 2)).toNat (0:Int)).length+([1]).length≤140737488355328)with|true=>(match decide (bj ((List.replicate (i64.wrap (Int.tdiv (i64.wrap ((x.2.length:Int)+1)) 2)).toNat (0:Int))++([1])))with|true=>(match decide (bU (2:Int))with|true=>k 25 (nE x ((aj (cC false (val ((List.replicate (i64.wrap (Int.tdiv (i64.wrap ((x.2.length:Int)+1)) 2)).toNat (0:Int))++([1]))))).1) ((aj (cC false (val ((List.replicate (i64.wrap (Int.tdiv (i64.wrap ((x.2.length:Int)+1)) 2)).toNat (0:Int))++([1]))))).2))|false=>none)|false=>none)|false=>none)|false=>none))
theorem Td(x:Bool×List Int):RS KA 282 [.d y2Y x] (Nr x):=rsX
def wk(x:Bool×List Int)(b4_0:Bool)(b4_1:List Int)(k:KT):OLR:=match decide (fy x (b4_0,b4_1))with|true=>dl (match decide (okI (b4_0,b4_1)∧okI (aj (ag x/ag (b4_0,b4_1))))with|true=>dl (match decide (fy (aj (ag (b4_0,b4_1)+ag (aj (ag x/ag (b4_0,b4_1))))) (aj (2:Int)))with|true=>dup (.b .l .l) (match decide (okI (aj (ag (aj (ag (b4_0,b4_1)+ag (aj (ag x/ag (b4_0,b4_1)))))/ag (aj (2:Int))))∧okI (b4_0,b4_1))with|true=>(match decide ((cJ (ag (aj (ag (aj (ag (b4_0,b4_1)+ag (aj (ag x/ag (b4_0,b4_1)))))/ag (aj (2:Int))))) (ag (b4_0,b4_1)))≥0)with|true=>some [RV.d y2Y (b4_0,b4_1),RV.d ayb 0]|false=>k 25 (nE x ((aj (ag (aj (ag (b4_0,b4_1)+ag (aj (ag x/ag (b4_0,b4_1)))))/ag (aj (2:Int)))).1) ((aj (ag (aj (ag (b4_0,b4_1)+ag (aj (ag x/ag (b4_0,b4_1)))))/ag (aj (2:Int)))).2)))|false=>none)|false=>none) (dup (.b (.b .l .l) (.b .l .l)) (match decide (fy (aj (ag (b4_0,b4_1)+ag (aj (ag x/ag (b4_0,b4_1))))) (aj (2:Int)))with|true=>(match decide (okI (aj (ag (aj (ag (b4_0,b4_1)+ag (aj (ag x/ag (b4_0,b4_1)))))/ag (aj (2:Int))))∧okI (b4_0,b4_1))with|true=>(match decide ((cJ (ag (aj (ag (aj (ag (b4_0,b4_1)+ag (aj (ag x/ag (b4_0,b4_1)))))/ag (aj (2:Int))))) (ag (b4_0,b4_1)))≥0)with|true=>some [RV.d y2Y (b4_0,b4_1),RV.d ayb 0]|false=>k 25 (nE x ((aj (ag (aj (ag (b4_0,b4_1)+ag (aj (ag x/ag (b4_0,b4_1)))))/ag (aj (2:Int)))).1) ((aj (ag (aj (ag (b4_0,b4_1)+ag (aj (ag x/ag (b4_0,b4_1)))))/ag (aj (2:Int)))).2)))|false=>none)|false=>none))|false=>none) (dup (.b .l .l) (dl (match decide (okI (b4_0,b4_1)∧okI (aj (ag x/ag (b4_0,b4_1))))with|true=>dup (.b .l .l) (match decide (fy (aj (ag (b4_0,b4_1)+ag (aj (ag x/ag (b4_0,b4_1))))) (aj (2:Int)))with|true=>(match decide (okI (aj (ag (aj (ag (b4_0,b4_1)+ag (aj (ag x/ag (b4_0,b4_1)))))/ag (aj (2:Int))))∧okI (b4_0,b4_1))with|true=>(match decide ((cJ (ag (aj (ag (aj (ag (b4_0,b4_1)+ag (aj (ag x/ag (b4_0,b4_1)))))/ag (aj (2:Int))))) (ag (b4_0,b4_1)))≥0)with|true=>some [RV.d y2Y (b4_0,b4_1),RV.d ayb 0]|false=>k 25 (nE x ((aj (ag (aj (ag (b4_0,b4_1)+ag (aj (ag x/ag (b4_0,b4_1)))))/ag (aj (2:Int)))).1) ((aj (ag (aj (ag (b4_0,b4_1)+ag (aj (ag x/ag (b4_0,b4_1)))))/ag (aj (2:Int)))).2)))|false=>none)|false=>none)|false=>none) (match decide (okI (b4_0,b4_1)∧okI (aj (ag x/ag (b4_0,b4_1))))with|true=>(match decide (fy (aj (ag (b4_0,b4_1)+ag (aj (ag x/ag (b4_0,b4_1))))) (aj (2:Int)))with|true=>(match decide (okI (aj (ag (aj (ag (b4_0,b4_1)+ag (aj (ag x/ag (b4_0,b4_1)))))/ag (aj (2:Int))))∧okI (b4_0,b4_1))with|true=>(match decide ((cJ (ag (aj (ag (aj (ag (b4_0,b4_1)+ag (aj (ag x/ag (b4_0,b4_1)))))/ag (aj (2:Int))))) (ag (b4_0,b4_1)))≥0)with|true=>some [RV.d y2Y (b4_0,b4_1),RV.d ayb 0]|false=>k 25 (nE x ((aj (ag (aj (ag (b4_0,b4_1)+ag (aj (ag x/ag (b4_0,b4_1)))))/ag (aj (2:Int)))).1) ((aj (ag (aj (ag (b4_0,b4_1)+ag (aj (ag x/ag (b4_0,b4_1)))))/ag (aj (2:Int)))).2)))|false=>none)|false=>none)|false=>none)))|false=>none
theorem Cb(x:Bool×List Int)(b4_0:Bool)(b4_1:List Int):RN KA 25 (nE x b4_0 b4_1) (wk x b4_0 b4_1):=rnX
def air:NT:=[((254,16),{keep:=[1,4,5],hl:=1})]
def KL:Ctx:=CX DC air
def xu(x:Bool×List Int)(s4 s5:Int):Cfg:=⟨254,[.blk 0,.seq 27],[(1,.box 0 0),(4,.d (.int .u64) s4),(5,SI s5)],[.box 33 [SB x.1,.d aya x.2]],0,[]⟩
def KK(x:Bool×List Int)(k:KT):OLR:=match decide (bU ((-9223372036854775808):Int))with|true=>(match decide (okI x∧okI (aj ((-9223372036854775808):Int)))with|true=>dup (.b .l .l) (match decide ((cJ (ag x) (ag (aj ((-9223372036854775808):Int))))<0)with|true=>some [RV.d ayb 0,RV.d .bool false]|false=>(match decide (bU (9223372036854775807:Int))with|true=>(match decide (okI x∧okI (aj (9223372036854775807:Int)))with|true=>(match decide ((cJ (ag x) (ag (aj (9223372036854775807:Int))))>0)with|true=>some [RV.d ayb 0,RV.d .bool false]|false=>k 16 (xu x 0 (i64.wrap ((x.2.length:Int)-1))))|false=>none)|false=>none))|false=>none)|false=>none
theorem Xu(x:Bool×List Int):RS KL 254 [.d y2Y x] (KK x):=rsX
def vV(x:Bool×List Int)(s4 s5:Int)(k:KT):OLR:=match decide (s5≥0)with|true=>(match bi x.2 s5 with|some x1=>k 16 (xu x (u64.wrap ((u64.wrap (s4*1000000000))+(u64.wrap x1))) (i64.wrap (s5-1)))|none=>none)|false=>(match x.1 with|true=>some [RV.d ayb (i64.wrap (u64.wrap (0-s4))),RV.d .bool true]|false=>some [RV.d ayb (i64.wrap s4),RV.d .bool true])
theorem Cf(x:Bool×List Int)(s4 s5:Int):RN KL 16 (xu x s4 s5) (vV x s4 s5):=rnX
theorem QF(x:BI)(hx:okI x)(h0:0<ag x):∀(m:Nat) (X:Int),X.toNat=m→0<X→ce (ag x)≤X→szI X≤900000→KA.Runs 25 (nE x (aj X).1 (aj X).2) [.d y2Y (aj (ce (ag x))),.d ayb 0]:=by
 intro m
 induction m using Nat.strongRecOn with
 |ind m ih=>
  intro X hm hX hs hsz
  obtain⟨g0,g1,g2⟩:=fT (avA h0)
  have hq0:0≤ag x/X:=av2 (by omega) (by omega)
  have hq1:ag x/X≤ag x:=awR _ (by omega)
  have oX:okI (aj X):=bK (by omega)
  have sq:szI (ag x/X)≤1000000:=ava (dG (by omega)) (iO hx)
  have p1:fy x (aj X):=⟨hx,oX,by rw[dec_enc];exact hX⟩
  have ssum:szI (X+ag x/X)≤1000000:=by
   have b1:=n4 hsz
   have b2:=n4 (iO hx)
   have e:pw 1000000=pw 900000*pw 100000:=by rw[←fI]
   have p9:(1000:Int)≤pw 100000:=by
    have:pw 100000=pw 99999*1000000000:=cD 99999
    have:=ct 99999
    omega
   have p8:=ct 900000
   have h8:pw 900000*1000≤pw 900000*pw 100000:=au3 p9 (by omega)
   rcases avt X 2 with hX1|hX1
   ·-- X=1:then the number is less than 4
    have:X=1:=by omega
    subst this
    have:ce (ag x)≤1:=hs
    have h4:ag x<4:=by
     have:=tk (a:=ce (ag x)+1) (b:=2) (by omega) (by omega)
     omega
    refine fu ?_ ?_<;>(rw[e,Int.ediv_one];omega)
   ·have hq2:ag x/X≤ag x/2:=by
     have:=Int.ediv_mul_le (ag x) (show X≠0 by omega)
     have h2:ag x/X*2≤ag x/X*X:=au3 hX1 hq0
     omega
    refine fu ?_ ?_<;>(rw[e]at b2 ⊢;omega)
  have o1:okI (aj X)∧okI (aj (ag x/X)):=⟨oX,bK sq⟩
  have p2:fy (aj (X+ag x/X)) (aj 2):=⟨bK ssum,by decide,by rw[dec_enc];decide⟩
  have hn:=X4 hX g0 g1
  have o2:okI (aj ((X+ag x/X)/2))∧okI (aj X):=⟨bK (ava (dG (by omega)) ssum),oX⟩
  by_cases hc:X≤(X+ag x/X)/2
  ·have hXs:=Ai hX hs g1 g2 g0 hc
   refine Cb _ _ _ ⟨0,?_⟩
   unfold wk
   simp only[au,aN]
   have e:∀z:Int,((aj z).1,(aj z).2)=aj z:=fun z=>rfl
   simp only[e,dec_enc,auO p1,auO o1,auO p2,auO o2]
   have hg:decide (cJ ((X+ag x/X)/2) X≥0)=true:=by
    rcases Int.lt_or_eq_of_le hc with h|h
    ·rw[c8 h];rfl
    ·rw[←h,dU];rfl
   rw[hg,hXs]
  ·obtain⟨n,hN⟩:=ih ((X+ag x/X)/2).toNat (by omega) ((X+ag x/X)/2) rfl (by
    rcases avt 0 (ce (ag x))with h|h
    ·omega
    ·exfalso
     have:ce (ag x)=0:=by omega
     rw[this]at g2
     omega) hn (ava (dG (by omega)) hsz)
   refine Cb _ _ _ ⟨n,?_⟩
   unfold wk
   simp only[au,aN]
   have e:∀z:Int,((aj z).1,(aj z).2)=aj z:=fun z=>rfl
   simp only[e,dec_enc,auO p1,auO o1,auO p2,auO o2]
   rw[df (by omega)]
   exact hN
theorem aas(x:Bool×List Int)(h:okI x):Con Tryz.prog 282 [.d y2Y x] [.d y2Y (fJ x),.d ayb (sX x)]:=by
 refine aO xD (show KA.Res _ _ _ from ?_)
 obtain⟨x0,x1,x2⟩:=cS h
 have hl:=h.2.2
 cases hn:x.1
 ·by_cases hz:x.2=[]
  ·refine Td _ ⟨0,?_⟩
   unfold Nr fJ sX
   have:ag x=0:=by unfold ag;rw[hn,hz];rfl
   rw[hn,hz,this]
   rfl
  ·have hp:0<val x.2:=eW h.1 hz
   have hd:ag x=val x.2:=by unfold ag;rw[hn];rfl
   have hlen:=avF.2 hz
   have hk:i64.wrap (Int.tdiv (i64.wrap ((x.2.length:Int)+1)) 2)=(((x.2.length+1)/2:Nat):Int):=by
    rw[cr (by omega),gu (by omega),bz (by omega) (by omega)]
    omega
   have hv:val (List.replicate ((x.2.length+1)/2) 0++[1])=pw ((x.2.length+1)/2):=by
    rw[dH,gI,axp]
    simp[val]
   have hL:bj (List.replicate ((x.2.length+1)/2) 0++[1]):=by
    refine⟨fun y hy=>?_,by simp;omega⟩
    rcases avj.1 hy with hy|hy
    ·have:=List.eq_of_mem_replicate hy;omega
    ·simp at hy;omega
   have hpos:=ct ((x.2.length+1)/2)
   obtain⟨n,hN⟩:=QF x h (by omega) _ (pw ((x.2.length+1)/2)) rfl hpos (by
     obtain⟨g0,g1,g2⟩:=fT (show 0≤ag x by omega)
     have hlt:=cA h.1.1
     have hm:=dt (show x.2.length≤(x.2.length+1)/2+(x.2.length+1)/2 by omega)
     rw[fI]at hm
     have:=sq_lt (a:=ce (ag x)) (b:=pw ((x.2.length+1)/2)) (by omega) (by omega)
     omega) (fu (k:=900000) (by have:=ct 900000;omega) (by
      have:=dt (show(x.2.length+1)/2+1≤900000 by omega)
      rw[cD]at this
      omega))
   refine Td _ ⟨n,?_⟩
   unfold Nr fJ sX
   simp only[hk]
   rw[hn,show((x.2.length:Int)==0)=false by simp;omega]
   simp only[awH]
   rw[auO (show(0:Int)≤(((x.2.length+1)/2:Nat):Int)∧(((x.2.length+1)/2:Nat):Int)*((4:Nat):Int)≤140737488355328∧(((x.2.length+1)/2:Nat):Int)≤140737488355328 by omega)]
   rw[auO (show((List.replicate ((x.2.length+1)/2) (0:Int)).length+([1]:List Nat).length)*4≤140737488355328∧(List.replicate ((x.2.length+1)/2) (0:Int)).length+([1]:List Nat).length≤140737488355328 by simp;omega)]
   rw[auO hL,auO (show bU 2 by decide),hv]
   exact hN
 ·refine Td _ ⟨0,?_⟩
  unfold Nr fJ sX
  rw[hn]
  rfl
theorem Hn(x:BI)(hx:okI x)(hv:val x.2≤9223372036854775808):∀(i:Nat),i≤x.2.length→KL.Runs 16 (xu x (val (x.2.drop i)) ((i:Int)-1)) [.d ayb (i64.wrap (bif x.1 then u64.wrap (0-val x.2)else val x.2)),.d .bool true]
 |0,_=>by
  refine Cf _ _ _ ⟨0,?_⟩
  unfold vV
  rw[auQ (by omega),awv]
  cases x.1<;>rfl
 |i+1,hi=>by
  obtain⟨n,ih⟩:=Hn x hx hv i (by omega)
  have h0:=hx.2.2
  have hlim:=hx.1.1
  have hd:x.2.drop i=x.2[i]::x.2.drop (i+1):=ju (by omega)
  have hle:∀j,val (x.2.drop j)≤9223372036854775808∧0≤val (x.2.drop j):=fun j=>by
   have l1:Lim (x.2.drop j):=fun y hy=>hlim y (aw4 hy)
   have l2:Lim (x.2.take j):=fun y hy=>hlim y (aw3 hy)
   have:=dH (x.2.take j) (x.2.drop j)
   rw[awg]at this
   have n1:=bg l1
   have n2:=bg l2
   have p:=ct (x.2.take j).length
   have:val (x.2.drop j)≤pw (x.2.take j).length*val (x.2.drop j):=by
    have:=avb (show 1≤pw (x.2.take j).length by omega) n1
    omega
   omega
  have hb:=hlim x.2[i] (avu _)
  have hv1:=hle i
  have hv2:=hle (i+1)
  rw[hd]at hv1 ih
  simp only[val]at hv1 ih
  refine Cf _ _ _ ⟨n,?_⟩
  unfold vV
  rw[show(((i+1:Nat):Int)-1)=(i:Int) by omega,auO (by omega),aA,auP (by omega)]
  dsimp only
  rw[b8 (x:=val (x.2.drop (i+1))*1000000000) (by omega) (by omega),b8 (x:=x.2[i]) (by omega) (by omega),b8 (by omega) (by omega),bz (by omega) (by omega)]
  rw[show val (x.2.drop (i+1))*1000000000+x.2[i]=x.2[i]+1000000000*val (x.2.drop (i+1)) by omega]
  exact ih
theorem adj(x:Bool×List Int)(h:okI x):Con Tryz.prog 254 [.d y2Y x] [.d ayb (bif decide (bU (ag x))then ag x else 0),.d .bool (decide (bU (ag x)))]:=by
 refine aO xD (show KL.Res _ _ _ from ?_)
 obtain⟨x0,x1,x2⟩:=cS h
 have o1:okI x∧okI (aj (-9223372036854775808)):=⟨h,by decide⟩
 have o2:okI x∧okI (aj 9223372036854775807):=⟨h,by decide⟩
 have hl:=h.2.2
 by_cases h1:ag x< -9223372036854775808
 ·refine Xu _ ⟨0,?_⟩
  unfold KK
  simp only[aN,dec_enc,auO o1]
  rw[auO (show bU (-9223372036854775808) by decide),df h1,auQ (show ¬bU (ag x) from fun g=>by have:=g.1;omega)]
  rfl
 ·have c1:decide (cJ (ag x) (-9223372036854775808)<0)=false:=by
   rcases Int.lt_or_eq_of_le (show-9223372036854775808≤ag x by omega)with g|g
   ·rw[c8 g];rfl
   ·rw[←g,dU];rfl
  by_cases h2:9223372036854775807<ag x
  ·refine Xu _ ⟨0,?_⟩
   unfold KK
   simp only[aN,dec_enc,auO o1,auO o2]
   rw[auO (show bU (-9223372036854775808) by decide),c1,auO (show bU 9223372036854775807 by decide),c8 h2,auQ (show ¬bU (ag x) from fun g=>by have:=g.2;omega)]
   rfl
  ·have c2:decide (cJ (ag x) 9223372036854775807>0)=false:=by
    rcases Int.lt_or_eq_of_le (show ag x≤9223372036854775807 by omega)with g|g
    ·rw[df g];rfl
    ·rw[g,dU];rfl
   have hp:bU (ag x):=⟨by omega,by omega⟩
   have hvv:val x.2≤9223372036854775808:=by
    have g1:=hp.1
    have g2:=hp.2
    have hd:ag x=bif x.1 then-val x.2 else val x.2:=rfl
    cases hb:x.1<;>rw[hb]at hd<;>simp only[cond_true,cond_false]at hd<;>omega
   obtain⟨n,hN⟩:=Hn x h hvv x.2.length (auY _)
   refine Xu _ ⟨n,?_⟩
   unfold KK
   simp only[aN,dec_enc,auO o1,auO o2]
   rw[auO (show bU (-9223372036854775808) by decide),c1,auO (show bU 9223372036854775807 by decide),c2,auO hp]
   rw[axi]at hN
   rw[bz (by omega) (by omega)]
   refine hN.trans ?_
   have hr:i64.wrap (bif x.1 then u64.wrap (0-val x.2)else val x.2)=ag x:=by
    have hd:ag x=bif x.1 then-val x.2 else val x.2:=rfl
    have:=hp.1
    have:=hp.2
    cases hb:x.1<;>rw[hb]at hd<;>simp only[cond_true,cond_false]at hd ⊢
    ·rw[bz (by omega) (by omega)];omega
    ·have:=x1 hb
     rw[avP,IntKind.wrap_i64]
     omega
   rw[hr]
   rfl
def rZ(a:List Int):Prop:=bj a∧val a<18446744073709551616
instance (a:List Int):Decidable (rZ a):=by unfold rZ;infer_instance
def rG(a b:List Int):Prop:=(can a∧a.length≤1000000000)∧(can b∧b.length≤1000000000)
instance (a b:List Int):Decidable (rG a b):=by unfold rG;infer_instance
def hU(l:List Int):Prop:=Lim l∧l.length≤10000000
instance (l:List Int):Decidable (hU l):=by unfold hU;infer_instance
theorem cY{n:Nat}(h:(ah n).length≤1000000000):bj (ah n):=⟨cB n,h⟩
theorem cq{v:Int}(h:0≤v):val (ah v.toNat)=v:=by rw[bZ];omega
theorem cU{v:Int}{k:Nat}(h0:0≤v)(h:v<pw k):(ah v.toNat).length≤k:=dw (by omega)
def uN:Env:=[]
theorem mf:EnvAll Tryz.prog uN:=trivial
def adP:NT:=[((209,4),{keep:=[0],pure_:=[(0,.int .u32)],hl:=0})]
def D4:Ctx:=CX uN adP
def xx(s0:List Int):Cfg:=⟨209,[.blk 0,.seq 13],[(0,.d aya s0)],[],0,[]⟩
def aje(a:List Int)(k:KT):OLR:=k 4 (xx a)
theorem aii(a:List Int):RS D4 209 [.d aya a] (aje a):=rsX
def uL(s0:List Int)(k:KT):OLR:=match decide ((s0.length:Int)>0)with|true=>(match bi s0 (i64.wrap ((s0.length:Int)-1))with|some x1=>(match x1==0 with|true=>(match decide ((0:Int)≤0∧0≤i64.wrap ((s0.length:Int)-1)∧i64.wrap ((s0.length:Int)-1)≤(s0.length:Int))with|true=>k 4 (xx ((s0.take (i64.wrap ((s0.length:Int)-1)).toNat).drop (0:Int).toNat))|false=>none)|false=>some [RV.d aya s0])|none=>none)|false=>some [RV.d aya s0]
theorem vn(s0:List Int):RN D4 4 (xx s0) (uL s0):=rnX
def abg:NT:=[((216,8),{keep:=[0,3,4],hl:=0})]
def C5:Ctx:=CX uN abg
def xc(a:List Int)(s3 s4:Int):Cfg:=⟨216,[.blk 0,.seq 19],[(0,.d aya a),(3,.d (.int .u64) s3),(4,SI s4)],[],0,[]⟩
def Vr(a:List Int)(k:KT):OLR:=k 8 (xc a 0 (i64.wrap ((a.length:Int)-1)))
theorem ai1(a:List Int):RS C5 216 [.d aya a] (Vr a):=rsX
def vf(a:List Int)(s3 s4:Int)(k:KT):OLR:=match decide (s4≥0)with|true=>(match bi a s4 with|some x1=>k 8 (xc a (u64.wrap ((u64.wrap (s3*1000000000))+(u64.wrap x1))) (i64.wrap (s4-1)))|none=>none)|false=>some [RV.d (.int .u64) s3]
theorem Ct(a:List Int)(s3 s4:Int):RN C5 8 (xc a s3 s4) (vf a s3 s4):=rnX
def adS:NT:=[((155,6),{keep:=[0,3],own:=[(3,180,.int .u32)],hl:=1})]
def D8:Ctx:=CX uN adS
def w9(s0:Int)(r0:List Int):Cfg:=⟨155,[.blk 0,.seq 17],[(0,.d (.int .u64) s0),(3,.own 0)],[.row 180 ayc r0],0,[]⟩
def ali(u:Int)(k:KT):OLR:=k 6 (w9 u ([]))
theorem ai9(u:Int):RS D8 155 [.d (.int .u64) u] (ali u):=rsX
def vK(s0:Int)(r0:List Int)(k:KT):OLR:=match decide (s0>0)with|true=>(match decide ((r0.length+([u32.wrap (Int.tmod s0 1000000000)]).length)*4≤140737488355328∧r0.length+([u32.wrap (Int.tmod s0 1000000000)]).length≤140737488355328)with|true=>k 6 (w9 (u64.wrap (Int.tdiv s0 1000000000)) (r0++([u32.wrap (Int.tmod s0 1000000000)])))|false=>none)|false=>some [RV.new 180 ayc r0]
theorem A8(s0:Int)(r0:List Int):RN D8 6 (w9 s0 r0) (vK s0 r0):=rnX
def adU:NT:=[((213,22),{keep:=[0,1,5],hl:=0})]
def CA:Ctx:=CX uN adU
def sU(a b:List Int)(s5:Int):Cfg:=⟨213,[.blk 0,.seq 47],[(0,.d aya a),(1,.d aya b),(5,SI s5)],[],0,[]⟩
def Iy(a b:List Int)(k:KT):OLR:=match(a.length:Int) !=(b.length:Int)with|true=>(match decide ((a.length:Int)<(b.length:Int))with|true=>some [RV.d ayb (-1)]|false=>some [RV.d ayb 1])|false=>k 22 (sU a b (i64.wrap ((a.length:Int)-1)))
theorem Wv(a b:List Int):RS CA 213 [.d aya a,.d aya b] (Iy a b):=rsX
def kV(a b:List Int)(s5:Int)(k:KT):OLR:=match decide (s5≥0)with|true=>(match bi a s5 with|some x1=>(match bi b s5 with|some x2=>(match decide (x1<x2)with|true=>some [RV.d ayb (-1)]|false=>(match bi a s5 with|some x3=>(match bi b s5 with|some x4=>(match decide (x3>x4)with|true=>some [RV.d ayb 1]|false=>k 22 (sU a b (i64.wrap (s5-1))))|none=>none)|none=>none))|none=>none)|none=>none)|false=>some [RV.d ayb 0]
theorem nV(a b:List Int)(s5:Int):RN CA 22 (sU a b s5) (kV a b s5):=rnX
theorem P8(l:List Int)(hl:Lim l)(hs:l.length≤1000000000):∀(n:Nat),n≤l.length→(∀j (hj:j<l.length),n≤j→l[j]=0)→D4.Runs 4 (xx (l.take n)) [.d aya (ah (val l).toNat)]:=by
 intro n
 induction n with
 |zero=>
  intro _ h
  refine vn _ ⟨0,?_⟩
  rw[←mi hl (axb _) h (.inl rfl)]
  rfl
 |succ n ih=>
  intro hn h
  have hlen:(l.take (n+1)).length=n+1:=by rw[avz,avy hn]
  have hget:(l.take (n+1))[n]?=some l[n]:=by rw[List.getElem?_take_of_lt (by omega),auP (by omega)]
  by_cases hz:l[n]=0
  ·obtain⟨q,hq⟩:=ih (by omega) fun j hj hk=>by
    rcases Nat.eq_or_lt_of_le hk with e|e
    ·subst e;exact hz
    ·exact h j hj e
   refine vn _ ⟨q,?_⟩
   unfold uL
   rw[hlen,auO (by omega),Pi (by omega) (by omega),aA,show n+1-1=n from rfl,hget]
   dsimp only
   rw[hz,auO (show(0:Int)≤0∧(0:Int)≤(n:Int)∧(n:Int)≤((n+1:Nat):Int) by omega),aP,ax3,avy (by omega)]
   exact hq
  ·refine vn _ ⟨0,?_⟩
   unfold uL
   rw[hlen,auO (by omega),Pi (by omega) (by omega),aA,show n+1-1=n from rfl,hget]
   dsimp only
   rw[show(l[n]==0)=false by simpa using hz,←mi hl hn h (.inr ⟨Nat.lt_of_succ_le hn,hz⟩)]
theorem TV(a:List Int)(h:bj a):Con Tryz.prog 209 [.d aya a] [.d aya (ah (val a).toNat)]:=by
 refine aO mf (show D4.Res _ _ _ from ?_)
 obtain⟨q,hq⟩:=P8 a h.1 h.2 a.length (auY _) (fun j hj hk=>by omega)
 rw[av8]at hq
 exact aii _ ⟨q,hq⟩
theorem Om(u:Nat):∀(r:List Int),(u:Int)<18446744073709551616→r.length+3≤1000+3-(ah u).length→D8.Runs 6 (w9 (u:Int) r) [.new 180 ayc (r++ah u)]:=by
 induction u using qJ with
 |h0=>
  intro r _ _
  refine A8 _ _ ⟨0,?_⟩
  unfold vK
  rw[fv,avs]
  rfl
 |h1 n hn ih=>
  intro r hu hr
  rw[gW hn]at hr
  simp only[avc]at hr
  obtain⟨q,hq⟩:=ih (r++[((n%1000000000:Nat):Int)]) (by omega) (by rw[avv];simp only[avk];omega)
  refine A8 _ _ ⟨q,?_⟩
  unfold vK
  rw[auO (by omega),jA (by omega),gu (by omega),b8 (x:=(n:Int)/1000000000) (by omega) (by omega),dm (x:=(n:Int)%1000000000) (by omega) (by omega)]
  simp only[avk]
  rw[ams (by omega) (by omega),gW hn]
  rw[show((n:Int)%1000000000)=((n%1000000000:Nat):Int) by omega,show((n:Int)/1000000000)=((n/1000000000:Nat):Int) by omega]
  rw[avl]at hq
  exact hq
theorem Z7(u:Int)(h:gP u):Con Tryz.prog 155 [.d (.int .u64) u] [.new 180 ayc (ah u.toNat)]:=by
 refine aO mf (show D8.Res _ _ _ from ?_)
 have h0:=h.1
 have h1:=h.2
 have hl:=dw (n:=u.toNat) (k:=3) (axn (show(u.toNat:Int)<18446744073709551616 by omega) (by decide))
 obtain⟨q,hq⟩:=Om u.toNat [] (by omega) (by simp;omega)
 rw[show((u.toNat:Nat):Int)=u by omega]at hq
 exact ai9 _ ⟨q,hq⟩
theorem Cj(a:List Int)(h:rZ a):∀(i:Nat),i≤a.length→C5.Runs 8 (xc a (val (a.drop i)) ((i:Int)-1)) [.d (.int .u64) (val a)]
 |0,_=>by
  refine Ct _ _ _ ⟨0,?_⟩
  unfold vf
  rw[auQ (by omega),awv]
 |i+1,hi=>by
  obtain⟨n,ih⟩:=Cj a h i (by omega)
  have h0:=h.1.2
  have hlim:=h.1.1
  have hlt:=h.2
  have hd:a.drop i=a[i]::a.drop (i+1):=ju (by omega)
  have hle:∀j,val (a.drop j)≤val a∧0≤val (a.drop j):=fun j=>by
   have l1:Lim (a.drop j):=fun y hy=>hlim y (aw4 hy)
   have l2:Lim (a.take j):=fun y hy=>hlim y (aw3 hy)
   have:=dH (a.take j) (a.drop j)
   rw[awg]at this
   have n1:=bg l1
   have n2:=bg l2
   have p:=ct (a.take j).length
   have:val (a.drop j)≤pw (a.take j).length*val (a.drop j):=by
    have:=avb (show 1≤pw (a.take j).length by omega) n1
    omega
   omega
  have hb:=hlim a[i] (avu _)
  have hv1:=hle i
  have hv2:=hle (i+1)
  rw[hd]at hv1 ih
  simp only[val]at hv1 ih
  refine Ct _ _ _ ⟨n,?_⟩
  unfold vf
  rw[show(((i+1:Nat):Int)-1)=(i:Int) by omega,auO (by omega),aA,auP (by omega)]
  dsimp only
  rw[b8 (x:=val (a.drop (i+1))*1000000000) (by omega) (by omega),b8 (x:=a[i]) (by omega) (by omega),b8 (by omega) (by omega),bz (by omega) (by omega)]
  rw[show val (a.drop (i+1))*1000000000+a[i]=a[i]+1000000000*val (a.drop (i+1)) by omega]
  exact ih
theorem ZN(a:List Int)(h:rZ a):Con Tryz.prog 216 [.d aya a] [.d (.int .u64) (val a)]:=by
 refine aO mf (show C5.Res _ _ _ from ?_)
 obtain⟨n,hn⟩:=Cj a h a.length (auY _)
 have h0:=h.1.2
 refine ai1 _ ⟨n,?_⟩
 unfold Vr
 rw[axi]at hn
 rw[bz (by omega) (by omega)]
 exact hn
theorem Oi(a b:List Int)(la:Lim a)(lb:Lim b)(hl:a.length=b.length)(hs:a.length≤1000000000):∀(n:Nat),n≤a.length→a.drop n=b.drop n→
  CA.Runs 22 (sU a b ((n:Int)-1)) [.d ayb (cJ (val a) (val b))]:=by
 intro n
 induction n with
 |zero=>
  intro _ h
  refine nV _ _ _ ⟨0,?_⟩
  have e:val a=val b:=by simp only[awv]at h;rw[h]
  unfold kV
  rw[auQ (by omega),e,dU]
 |succ n ih=>
  intro hn h
  have h1:n<a.length:=by omega
  have h2:n<b.length:=by omega
  rcases awT a[n] b[n]with hc|hc|hc
  ·refine nV _ _ _ ⟨0,?_⟩
   have:=DK la lb h1 h2 h hc
   unfold kV
   rw[show((n+1:Nat):Int)-1=(n:Int) by omega,auO (by omega),aA,aA,auP h1,auP h2]
   dsimp only
   rw[auO hc,df (by omega)]
  ·obtain⟨q,hq⟩:=ih (by omega) (by rw[avd h1,avd h2,hc,h])
   refine nV _ _ _ ⟨q,?_⟩
   unfold kV
   rw[show((n+1:Nat):Int)-1=(n:Int) by omega,auO (by omega),aA,aA,auP h1,auP h2]
   dsimp only
   rw[auQ (by omega),auQ (by omega),bz (x:=(n:Int)-1) (by omega) (by omega)]
   exact hq
  ·refine nV _ _ _ ⟨0,?_⟩
   have:=DK lb la h2 h1 h.symm hc
   unfold kV
   rw[show((n+1:Nat):Int)-1=(n:Int) by omega,auO (by omega),aA,aA,auP h1,auP h2]
   dsimp only
   rw[auQ (by omega),auO hc,c8 (by omega)]
theorem KC{a b:List Int}(ha:can a)(hb:can b)(h:a.length<b.length):val a<val b:=by
 have ea:=oY ha
 have eb:=oY hb
 have:=wT (a:=(val a).toNat) (b:=(val b).toNat) (by rw[←ea,←eb];exact h)
 have:=bg ha.1
 omega
theorem Zy(a b:List Int)(h:rG a b):Con Tryz.prog 213 [.d aya a,.d aya b] [.d ayb (cJ (val a) (val b))]:=by
 refine aO mf (show CA.Res _ _ _ from ?_)
 obtain⟨⟨ha,sa⟩,hb,sb⟩:=h
 by_cases hl:a.length=b.length
 ·obtain⟨q,hq⟩:=Oi a b ha.1 hb.1 hl sa _ (auY _) (by rw[axi,hl,axi])
  refine Wv _ _ ⟨q,?_⟩
  unfold Iy
  rw[show((a.length:Int) !=(b.length:Int))=false by simp[hl],bz (x:=(a.length:Int)-1) (by omega) (by omega)]
  exact hq
 ·refine Wv _ _ ⟨0,?_⟩
  unfold Iy
  rw[show((a.length:Int) !=(b.length:Int))=true by simp;omega]
  dsimp only
  rcases Nat.lt_or_gt_of_ne hl with h1|h1
  ·have:=KC ha hb h1
   rw[auO (by omega),df (by omega)]
  ·have:=KC hb ha h1
   rw[auQ (by omega),c8 (by omega)]
def qH:aM:=spN false false [aya] (fun x=>decide (bj x.1)) (fun x=>[RV.d aya (ah (val x.1).toNat)])
theorem mZ:SpK 209 qH:=spX fun x h=>TV x.1 (auN h)
def ua:aM:=spN false false [(.int .u64)] (fun x=>decide (gP x.1)) (fun x=>[RV.new 180 ayc (ah x.1.toNat)])
theorem qV:SpK 155 ua:=spX fun x h=>Z7 x.1 (auN h)
def uw:aM:=spN true false [aya] (fun x=>decide (rZ x.1)) (fun x=>[RV.d (.int .u64) (val x.1)])
theorem rj:SpK 216 uw:=spX fun x h=>ZN x.1 (auN h)
def qC:aM:=spN true false [aya,aya] (fun x=>decide (rG x.1 x.2.1)) (fun x=>[RV.d ayb (cJ (val x.1) (val x.2.1))])
theorem mn:SpK 213 qC:=spX fun x h=>Zy x.1 x.2.1 (auN h)
def Am:Env:=(209,qH)::(155,ua)::(216,uw)::(213,qC)::uN
theorem rl:EnvAll Tryz.prog Am:=⟨mZ,qV,rj,mn,mf⟩
def aiP:Ctx:=CX Am []
def Y8(neg:Bool)(l:List Int)(_k:KT):OLR:=match decide (bj l)with|true=>(match neg with|true=>some [RV.d y2Y (decide (((ah (val l).toNat).length:Int)>0),ah (val l).toNat)]|false=>some [RV.d y2Y (false,ah (val l).toNat)])|false=>none
theorem alF(neg:Bool)(l:List Int):RS aiP 154 [SB neg,.d aya l] (Y8 neg l):=rsX
def abN:NT:=[((212,16),{keep:=[0,1,5,6,7],hl:=1})]
def zP:Ctx:=CX Am abN
def kS(s0 s1 r0:List Int)(s6 s7:Int):Cfg:=⟨212,[.blk 0,.seq 37],[(0,.d aya s0),(1,.d aya s1),(5,.own 0),(6,.d ayc s6),(7,SI s7)],[.row 180 ayc r0],0,[]⟩
def Jx(a b:List Int)(k:KT):OLR:=match decide ((a.length:Int)<(b.length:Int))with|true=>(match decide ((0:Int)≤i64.wrap ((b.length:Int)+1)∧(i64.wrap ((b.length:Int)+1))*((4:Nat):Int)≤140737488355328∧i64.wrap ((b.length:Int)+1)≤140737488355328)with|true=>k 16 (kS b a (List.replicate (i64.wrap ((b.length:Int)+1)).toNat (0:Int)) 0 0)|false=>none)|false=>(match decide ((0:Int)≤i64.wrap ((a.length:Int)+1)∧(i64.wrap ((a.length:Int)+1))*((4:Nat):Int)≤140737488355328∧i64.wrap ((a.length:Int)+1)≤140737488355328)with|true=>k 16 (kS a b (List.replicate (i64.wrap ((a.length:Int)+1)).toNat (0:Int)) 0 0)|false=>none)
theorem ZW(a b:List Int):RS zP 212 [.d aya a,.d aya b] (Jx a b):=rsX
def nK(s0 s1 r0:List Int)(s6 s7:Int)(k:KT):OLR:=match decide (s7<(s0.length:Int))with|true=>(match bi s0 s7 with|some x1=>(match decide (s7<(s1.length:Int))with|true=>(match bi s1 s7 with|some x2=>(match bi r0 s7 with|some _=>(match true,r0[(s7).toNat]? with|true,some _=>k 16 (kS s0 s1 (r0.set ((s7).toNat) (Int.tmod (u32.wrap ((u32.wrap (s6+x1))+x2)) 1000000000)) (u32.wrap (Int.tdiv (u32.wrap ((u32.wrap (s6+x1))+x2)) 1000000000)) (i64.wrap (s7+1)))|_,_=>none)|none=>none)|none=>none)|false=>(match bi r0 s7 with|some _=>(match true,r0[(s7).toNat]? with|true,some _x2=>k 16 (kS s0 s1 (r0.set ((s7).toNat) (Int.tmod (u32.wrap (s6+x1)) 1000000000)) (u32.wrap (Int.tdiv (u32.wrap (s6+x1)) 1000000000)) (i64.wrap (s7+1)))|_,_=>none)|none=>none))|none=>none)|false=>(match bi r0 (s0.length:Int)with|some _=>(match true,r0[((s0.length:Int)).toNat]? with|true,some _x1=>(match decide (bj (r0.set (((s0.length:Int)).toNat) s6))with|true=>some [RV.d aya (ah (val (r0.set (((s0.length:Int)).toNat) s6)).toNat)]|false=>none)|_,_=>none)|none=>none)
theorem r9(s0 s1 r0:List Int)(s6 s7:Int):RN zP 16 (kS s0 s1 r0 s6 s7) (nK s0 s1 r0 s6 s7):=rnX
def ad0:NT:=[((214,10),{keep:=[0,1,5,6,7],hl:=1})]
def zk:Ctx:=CX Am ad0
def jF(a b:List Int)(s7:Int)(r0:List Int)(s6:Int):Cfg:=⟨214,[.blk 0,.seq 37],[(0,.d aya a),(1,.d aya b),(5,.own 0),(6,.d ayc s6),(7,SI s7)],[.row 180 ayc r0],0,[]⟩
def Z8(a b:List Int)(k:KT):OLR:=match decide ((0:Int)≤(a.length:Int)∧(a.length:Int)*((4:Nat):Int)≤140737488355328∧(a.length:Int)≤140737488355328)with|true=>k 10 (jF a b 0 (List.replicate ((a.length:Int)).toNat (0:Int)) 0)|false=>none
theorem ak9(a b:List Int):RS zk 214 [.d aya a,.d aya b] (Z8 a b):=rsX
def iU(a b:List Int)(s7:Int)(r0:List Int)(s6:Int)(k:KT):OLR:=match decide (s7<(a.length:Int))with|true=>(match bi a s7 with|some x1=>(match decide (s7<(b.length:Int))with|true=>(match bi b s7 with|some x2=>(match decide ((u32.wrap ((u32.wrap ((u32.wrap (x1+1000000000))-s6))-x2))≥1000000000)with|true=>(match bi r0 s7 with|some _=>(match true,r0[(s7).toNat]? with|true,some _x3=>k 10 (jF a b (i64.wrap (s7+1)) (r0.set ((s7).toNat) (u32.wrap ((u32.wrap ((u32.wrap ((u32.wrap (x1+1000000000))-s6))-x2))-1000000000))) 0)|_,_=>none)|none=>none)|false=>(match bi r0 s7 with|some _=>(match true,r0[(s7).toNat]? with|true,some _x3=>k 10 (jF a b (i64.wrap (s7+1)) (r0.set ((s7).toNat) (u32.wrap ((u32.wrap ((u32.wrap (x1+1000000000))-s6))-x2))) 1)|_,_=>none)|none=>none))|none=>none)|false=>(match decide ((u32.wrap ((u32.wrap (x1+1000000000))-s6))≥1000000000)with|true=>(match bi r0 s7 with|some _=>(match true,r0[(s7).toNat]? with|true,some _x2=>k 10 (jF a b (i64.wrap (s7+1)) (r0.set ((s7).toNat) (u32.wrap ((u32.wrap ((u32.wrap (x1+1000000000))-s6))-1000000000))) 0)|_,_=>none)|none=>none)|false=>(match bi r0 s7 with|some _=>(match true,r0[(s7).toNat]? with|true,some _x2=>k 10 (jF a b (i64.wrap (s7+1)) (r0.set ((s7).toNat) (u32.wrap ((u32.wrap (x1+1000000000))-s6))) 1)|_,_=>none)|none=>none)))|none=>none)|false=>(match decide (bj r0)with|true=>some [RV.d aya (ah (val r0).toNat)]|false=>none)
theorem lm(a b:List Int)(s7:Int)(r0:List Int)(s6:Int):RN zk 10 (jF a b s7 r0 s6) (iU a b s7 r0 s6):=rnX
def aan:NT:=[((211,8),{keep:=[0,1,5,6],hl:=1}),((211,23),{keep:=[0,1,5,6,7,8],hl:=1})]
def sK:Ctx:=CX Am aan
def tj(a b:List Int)(s6:Int)(r0:List Int):Cfg:=⟨211,[.blk 0,.seq 40],[(0,.d aya a),(1,.d aya b),(5,.own 0),(6,SI s6)],[.row 180 ayc r0],0,[]⟩
def sQ(a b:List Int)(s6 s7 s8:Int)(r0:List Int):Cfg:=⟨211,[.blk 2,.seq 38,.blk 1,.seq 39,.lp 8,.blk 0,.seq 40],[(0,.d aya a),(1,.d aya b),(5,.own 0),(6,SI s6),(7,.d (.int .u64) s7),(8,SI s8)],[.row 180 ayc r0],0,[]⟩
def QA(a b:List Int)(k:KT):OLR:=match decide ((0:Int)≤i64.wrap ((a.length:Int)+(b.length:Int))∧(i64.wrap ((a.length:Int)+(b.length:Int)))*((4:Nat):Int)≤140737488355328∧i64.wrap ((a.length:Int)+(b.length:Int))≤140737488355328)with|true=>k 8 (tj a b 0 (List.replicate (i64.wrap ((a.length:Int)+(b.length:Int))).toNat (0:Int)))|false=>none
theorem amG(a b:List Int):RS sK 211 [.d aya a,.d aya b] (QA a b):=rsX
def uW(a b:List Int)(s6:Int)(r0:List Int)(k:KT):OLR:=match decide (s6<(a.length:Int))with|true=>k 23 (sQ a b s6 0 0 r0)|false=>(match decide (bj r0)with|true=>some [RV.d aya (ah (val r0).toNat)]|false=>none)
theorem BU(a b:List Int)(s6:Int)(r0:List Int):RN sK 8 (tj a b s6 r0) (uW a b s6 r0):=rnX
def sf(a b:List Int)(s6 s7 s8:Int)(r0:List Int)(k:KT):OLR:=match decide (s8<(b.length:Int))with|true=>(match bi r0 (i64.wrap (s6+s8))with|some _=>(match true,r0[(i64.wrap (s6+s8)).toNat]? with|true,some x1=>(match bi a s6 with|some x2=>(match bi b s8 with|some x3=>(match bi r0 (i64.wrap (s6+s8))with|some _=>(match true,r0[(i64.wrap (s6+s8)).toNat]? with|true,some _=>k 23 (sQ a b s6 (u64.wrap (Int.tdiv (u64.wrap ((u64.wrap (s7+(u64.wrap x1)))+(u64.wrap ((u64.wrap x2)*(u64.wrap x3))))) 1000000000)) (i64.wrap (s8+1)) (r0.set ((i64.wrap (s6+s8)).toNat) (u32.wrap (Int.tmod (u64.wrap ((u64.wrap (s7+(u64.wrap x1)))+(u64.wrap ((u64.wrap x2)*(u64.wrap x3))))) 1000000000))))|_,_=>none)|none=>none)|none=>none)|none=>none)|_,_=>none)|none=>none)|false=>(match bi r0 (i64.wrap (s6+(b.length:Int)))with|some _=>(match true,r0[(i64.wrap (s6+(b.length:Int))).toNat]? with|true,some _x1=>k 8 (tj a b (i64.wrap (s6+1)) (r0.set ((i64.wrap (s6+(b.length:Int))).toNat) (u32.wrap s7)))|_,_=>none)|none=>none)
theorem Af(a b:List Int)(s6 s7 s8:Int)(r0:List Int):RN sK 23 (sQ a b s6 s7 s8 r0) (sf a b s6 s7 s8 r0):=rnX
theorem QB(neg:Bool)(l:List Int)(h:bj l):Con Tryz.prog 154 [.d .bool neg,.d aya l] [.d y2Y (aj (cC neg (val l)))]:=by
 refine aO rl (alF _ _ ⟨0,?_⟩)
 have hv:=bg h.1
 have hp:decide (((ah (val l).toNat).length:Int)>0)=decide (0<val l):=by
  refine awl.2 ⟨fun g=>?_,fun g=>?_⟩
  ·apply ave
   intro hc
   rw[show(val l).toNat=0 by omega,fv]at g
   simp at g
  ·have:ah (val l).toNat≠[]:=fun e=>by rw[gT]at e;omega
   have:=avF.2 this
   omega
 unfold Y8
 rw[auO h,mK neg hv,hp]
 cases neg<;>rfl
theorem BM(a b:List Int)(ha:hU a)(hb:hU b)(hab:b.length≤a.length):∀(j i:Nat) (c:Int) (r:List Int),i+j=a.length→0≤c→c≤1→Lim r→r.length=a.length+1→(∀k (hk:k<r.length),i≤k→r[k]=0)→val r+pw i*c=val (a.take i)+val (b.take i)→
  zP.Runs 16 (kS a b r c (i:Int)) [.d aya (ah (val a+val b).toNat)]:=by
 have hsa:=ha.2
 intro j
 induction j with
 |zero=>
  intro i c r hi c0 c1 hr hl hz hv
  obtain rfl:i=a.length:=by omega
  have hir:a.length<r.length:=by omega
  have hr0:=hz _ hir (auY _)
  have e:val (r.set a.length c)=val a+val b:=by
   rw[fx hir,hr0]
   rw[av8,avO hab]at hv
   grind
  refine r9 _ _ _ _ _ ⟨0,?_⟩
  unfold nK
  rw[cz (auY _),aA r,aP,auP hir]
  dsimp only
  rw[auO (show bj (r.set a.length c) from⟨hr.set _ ⟨c0,by omega⟩,by simp;omega⟩),e]
 |succ j ih=>
  intro i c r hi c0 c1 hr hl hz hv
  have hia:i<a.length:=by omega
  have hir:i<r.length:=by omega
  have xa:=ha.1.get hia
  have hr0:=hz i hir (auY _)
  have step:∀(t:Int),0≤t→t<2000000000→val (b.take (i+1))=val (b.take i)+pw i*(t-a[i]-c)→zP.Runs 16 (kS a b (r.set i (t%1000000000)) (t/1000000000) ((i+1:Nat):Int)) [.d aya (ah (val a+val b).toNat)]:=by
   intro t t0 t1 hb'
   refine ih (i+1) (t/1000000000) (r.set i (t%1000000000)) (by omega) (by omega) (by omega) (hr.set i ⟨by omega,by omega⟩) (by simpa using hl) (pc hz) ?_
   rw[fx hir,hr0,bJ hia,hb',cD]
   have:=Int.emod_add_mul_ediv t 1000000000
   grind
  by_cases hib:i<b.length
  ·have xb:=hb.1.get hib
   have ht:=bJ hib
   obtain⟨q,hq⟩:=step (c+a[i]+b[i]) (by omega) (by omega) (by rw[ht];grind)
   refine r9 _ _ _ _ _ ⟨q,?_⟩
   unfold nK
   rw[cd hia,aA,auP hia,cd hib,aA,auP hib,aA r i,aP,auP hir]
   dsimp only
   rw[dm (x:=c+a[i]) (by omega) (by omega),dm (x:=c+a[i]+b[i]) (by omega) (by omega),jA (by omega),gu (by omega),dm (x:=(c+a[i]+b[i])/1000000000) (by omega) (by omega),cr (by omega)]
   exact hq
  ·have ht:=kg (b:=b) (i:=i) (by omega)
   obtain⟨q,hq⟩:=step (c+a[i]) (by omega) (by omega) (by rw[ht];grind)
   refine r9 _ _ _ _ _ ⟨q,?_⟩
   unfold nK
   rw[cd hia,aA,auP hia,cz (show b.length≤i by omega),aA r i,aP,auP hir]
   dsimp only
   rw[dm (x:=c+a[i]) (by omega) (by omega),jA (by omega),gu (by omega),dm (x:=(c+a[i])/1000000000) (by omega) (by omega),cr (by omega)]
   exact hq
theorem Tw(a b:List Int)(h:hU a∧hU b):Con Tryz.prog 212 [.d aya a,.d aya b] [.d aya (ah (val a+val b).toNat)]:=by
 refine aO rl (show zP.Res _ _ _ from ?_)
 obtain⟨ha,hb⟩:=h
 have hsa:=ha.2
 have hsb:=hb.2
 by_cases hc:a.length<b.length
 ·obtain⟨q,hq⟩:=BM b a hb ha (by omega) b.length 0 0 (List.replicate (b.length+1) 0) (by omega) (by omega) (by omega) (Lim.rep _) (by simp) (fun k hk _=>by simp) (by simp[val,gI])
  refine ZW _ _ ⟨q,?_⟩
  unfold Jx
  rw[cd hc,cr (by omega),tY (by omega),aP,axL (val a)]
  exact hq
 ·obtain⟨q,hq⟩:=BM a b ha hb (by omega) a.length 0 0 (List.replicate (a.length+1) 0) (by omega) (by omega) (by omega) (Lim.rep _) (by simp) (fun k hk _=>by simp) (by simp[val,gI])
  refine ZW _ _ ⟨q,?_⟩
  unfold Jx
  rw[cz (by omega),cr (k:=a.length) (by omega),tY (n:=a.length+1) (by omega),aP]
  exact hq
theorem Qh(a b:List Int)(ha:bj a)(hb:bj b)(hle:val b≤val a):∀(j i:Nat) (c:Int) (r:List Int),i+j=a.length→0≤c→c≤1→Lim r→r.length=a.length→(∀k (hk:k<r.length),i≤k→r[k]=0)→val r+val (b.take i)=val (a.take i)+pw i*c→
  zk.Runs 10 (jF a b (i:Int) r c) [.d aya (ah (val a-val b).toNat)]:=by
 have hsa:=ha.2
 intro j
 induction j with
 |zero=>
  intro i c r hi c0 c1 hr hl hz hv
  obtain rfl:i=a.length:=by omega
  refine lm _ _ _ _ _ ⟨0,?_⟩
  unfold iU
  rw[cz (auY _)]
  have hrl:=cA hr
  rw[hl]at hrl
  have hb2:val b=val (b.take a.length)+pw (min a.length b.length)*val (b.drop a.length):=fX b a.length
  have hbd:0≤val (b.drop a.length):=bg (hb.1.drop _)
  have hal:=cA ha.1
  have hbt:=bg (hb.1.take a.length)
  rw[av8]at hv
  have hz0:val (b.drop a.length)=0:=by
   rcases avo a.length b.length with h1|h1
   ·rw[avy (by omega)]at hb2
    rcases avt 0 (val (b.drop a.length))with h2|h2
    ·have hp:=ct a.length
     have:=au3 (show 1≤val (b.drop a.length) by omega) (avA hp)
     omega
    ·omega
   ·rw[avU h1];rfl
  rw[hz0,axa,axK]at hb2
  have hc0:c=0:=by
   have hp:=ct a.length
   rcases(show c=0∨c=1 by omega)with h|h
   ·exact h
   ·subst h;rw[axf]at hv;omega
  subst hc0
  rw[axa]at hv
  rw[auO (show bj r from⟨hr,by omega⟩),show val r=val a-val b by omega]
 |succ j ih=>
  intro i c r hi c0 c1 hr hl hz hv
  have hia:i<a.length:=by omega
  have hir:i<r.length:=by omega
  have xa:=ha.1.get hia
  have hr0:=hz i hir (auY _)
  have step:∀(y c':Int),0≤y→y<1000000000→0≤c'→c'≤1→val (b.take (i+1))=val (b.take i)+pw i*(a[i]+1000000000*c'-y-c)→zk.Runs 10 (jF a b ((i+1:Nat):Int) (r.set i y) c') [.d aya (ah (val a-val b).toNat)]:=by
   intro y c' y0 y1 k0 k1 hb'
   refine ih (i+1) c' (r.set i y) (by omega) k0 k1 (hr.set i ⟨y0,y1⟩) (by simpa using hl) (pc hz) ?_
   rw[fx hir,hr0,bJ hia,hb',cD]
   grind
  by_cases hib:i<b.length
  ·have xb:=hb.1.get hib
   have ht:=bJ hib
   by_cases hc:a[i]+1000000000-c-b[i]≥1000000000
   ·obtain⟨q,hq⟩:=step (a[i]+1000000000-c-b[i]-1000000000) 0 (by omega) (by omega) (by omega) (by omega) (by rw[ht];grind)
    refine lm _ _ _ _ _ ⟨q,?_⟩
    unfold iU
    rw[cd hia,aA,auP hia,cd hib,aA,auP hib,aA,aP,auP hir]
    dsimp only
    rw[dm (x:=a[i]+1000000000) (by omega) (by omega),dm (x:=a[i]+1000000000-c) (by omega) (by omega),dm (x:=a[i]+1000000000-c-b[i]) (by omega) (by omega),auO hc,dm (x:=a[i]+1000000000-c-b[i]-1000000000) (by omega) (by omega),cr (by omega)]
    exact hq
   ·obtain⟨q,hq⟩:=step (a[i]+1000000000-c-b[i]) 1 (by omega) (by omega) (by omega) (by omega) (by rw[ht];grind)
    refine lm _ _ _ _ _ ⟨q,?_⟩
    unfold iU
    rw[cd hia,aA,auP hia,cd hib,aA,auP hib,aA,aP,auP hir]
    dsimp only
    rw[dm (x:=a[i]+1000000000) (by omega) (by omega),dm (x:=a[i]+1000000000-c) (by omega) (by omega),dm (x:=a[i]+1000000000-c-b[i]) (by omega) (by omega),auQ hc,cr (by omega)]
    exact hq
  ·have ht:=kg (b:=b) (i:=i) (by omega)
   by_cases hc:a[i]+1000000000-c≥1000000000
   ·obtain⟨q,hq⟩:=step (a[i]+1000000000-c-1000000000) 0 (by omega) (by omega) (by omega) (by omega) (by rw[ht];grind)
    refine lm _ _ _ _ _ ⟨q,?_⟩
    unfold iU
    rw[cd hia,aA,auP hia,cz (show b.length≤i by omega),aA r i,aP,auP hir]
    dsimp only
    rw[dm (x:=a[i]+1000000000) (by omega) (by omega),dm (x:=a[i]+1000000000-c) (by omega) (by omega),auO hc,dm (x:=a[i]+1000000000-c-1000000000) (by omega) (by omega),cr (by omega)]
    exact hq
   ·obtain⟨q,hq⟩:=step (a[i]+1000000000-c) 1 (by omega) (by omega) (by omega) (by omega) (by rw[ht];grind)
    refine lm _ _ _ _ _ ⟨q,?_⟩
    unfold iU
    rw[cd hia,aA,auP hia,cz (show b.length≤i by omega),aA r i,aP,auP hir]
    dsimp only
    rw[dm (x:=a[i]+1000000000) (by omega) (by omega),dm (x:=a[i]+1000000000-c) (by omega) (by omega),auQ hc,cr (by omega)]
    exact hq
theorem U3(a b:List Int)(h:nP a b):Con Tryz.prog 214 [.d aya a,.d aya b] [.d aya (ah (val a-val b).toNat)]:=by
 refine aO rl (show zk.Res _ _ _ from ?_)
 obtain⟨ha,hb,hle⟩:=h
 have hsa:=ha.2
 obtain⟨q,hq⟩:=Qh a b ha hb hle a.length 0 0 (List.replicate a.length 0) (by omega) (by omega) (by omega) (Lim.rep _) (by simp) (fun k hk _=>by simp) (by simp[val,gI])
 refine ak9 _ _ ⟨q,?_⟩
 unfold Z8
 rw[tY (by omega),aP]
 exact hq
theorem IU(a b:List Int)(ha:hU a)(hb:hU b)(i:Nat)(hi:i<a.length)
  (hout:∀r,Lim r→r.length=a.length+b.length→(∀k (hk:k<r.length),i+1+b.length≤k→r[k]=0)→val r=val (a.take (i+1))*val b→sK.Runs 8 (tj a b ((i+1:Nat):Int) r) [.d aya (ah (val a*val b).toNat)]):
  ∀(j k:Nat) (c:Int) (r:List Int),k+j=b.length→0≤c→c<1000000000→Lim r→r.length=a.length+b.length→(∀q (hq:q<r.length),i+b.length≤q→r[q]=0)→val r+pw (i+k)*c=val (a.take i)*val b+pw i*a[i]*val (b.take k)→
  sK.Runs 23 (sQ a b (i:Int) c (k:Int) r) [.d aya (ah (val a*val b).toNat)]:=by
 have hsa:=ha.2
 have hsb:=hb.2
 have xa:=ha.1.get hi
 intro j
 induction j with
 |zero=>
  intro k c r hk c0 c1 hr hl hz hv
  obtain rfl:k=b.length:=by omega
  have hir:i+b.length<r.length:=by omega
  have hr0:=hz _ hir (auY _)
  obtain⟨q,hq⟩:=hout (r.set (i+b.length) c) (hr.set _ ⟨c0,c1⟩) (by simpa using hl) (by rw[show i+1+b.length=i+b.length+1 by omega];exact pc hz) (by
   rw[fx hir,hr0,bJ hi]
   rw[av8]at hv
   grind)
  refine Af _ _ _ _ _ _ ⟨q,?_⟩
  have hw:i64.wrap ((i:Int)+(b.length:Int))=((i+b.length:Nat):Int):=by rw[bz (by omega) (by omega)];simp
  unfold sf
  rw[cz (auY _),hw,aA r (i+b.length),aP,auP hir,dm (x:=c) (by omega) (by omega),cr (k:=i) (by omega)]
  exact hq
 |succ j ih=>
  intro k c r hk c0 c1 hr hl hz hv
  have hkb:k<b.length:=by omega
  have hir:i+k<r.length:=by omega
  have xb:=hb.1.get hkb
  have xr:=hr.get hir
  have hbd:=IL xr xa xb ⟨c0,c1⟩
  obtain⟨q,hq⟩:=ih (k+1) ((r[i+k]+a[i]*b[k]+c)/1000000000) (r.set (i+k) ((r[i+k]+a[i]*b[k]+c)%1000000000)) (by omega) hbd.2.2.1 hbd.2.2.2 (hr.set _ (by omega)) (by simpa using hl)
   (fun m hm hq=>by rw[awn (by omega)];exact hz m (by simpa using hm) hq) (by
    rw[fx hir,bJ hkb,show i+(k+1)=i+k+1 by omega,cD,fI]
    rw[fI]at hv
    have e:=Int.emod_add_mul_ediv (r[i+k]+a[i]*b[k]+c) 1000000000
    grind)
  refine Af _ _ _ _ _ _ ⟨q,?_⟩
  have hw:i64.wrap ((i:Int)+(k:Int))=((i+k:Nat):Int):=by rw[bz (by omega) (by omega)];simp
  unfold sf
  rw[cd hkb,hw,aA b k,auP hkb,aA a i,auP hi,aA r (i+k),aP,auP hir]
  dsimp only
  rw[b8 (x:=r[i+k]) (by omega) (by omega),b8 (x:=a[i]) (by omega) (by omega),b8 (x:=b[k]) (by omega) (by omega),b8 (x:=a[i]*b[k]) (by omega) (by omega),b8 (x:=c+r[i+k]) (by omega) (by omega),b8 (x:=c+r[i+k]+a[i]*b[k]) (by omega) (by omega),show c+r[i+k]+a[i]*b[k]=r[i+k]+a[i]*b[k]+c by omega,gu (a:=r[i+k]+a[i]*b[k]+c) (by omega),jA (a:=r[i+k]+a[i]*b[k]+c) (by omega),b8 (x:=(r[i+k]+a[i]*b[k]+c)/1000000000) (by omega) (by omega),dm (x:=(r[i+k]+a[i]*b[k]+c)%1000000000) (by omega) (by omega),cr (k:=k) (by omega)]
  exact hq
theorem JR(a b:List Int)(ha:hU a)(hb:hU b):∀(j i:Nat) (r:List Int),i+j=a.length→Lim r→r.length=a.length+b.length→(∀k (hk:k<r.length),i+b.length≤k→r[k]=0)→val r=val (a.take i)*val b→
  sK.Runs 8 (tj a b (i:Int) r) [.d aya (ah (val a*val b).toNat)]:=by
 have hsa:=ha.2
 have hsb:=hb.2
 intro j
 induction j with
 |zero=>
  intro i r hi hr hl hz hv
  obtain rfl:i=a.length:=by omega
  refine BU _ _ _ _ ⟨0,?_⟩
  unfold uW
  rw[av8]at hv
  rw[cz (auY _),auO (show bj r from⟨hr,by omega⟩),hv]
 |succ j ih=>
  intro i r hi hr hl hz hv
  have hia:i<a.length:=by omega
  obtain⟨q,hq⟩:=IU a b ha hb i hia (fun r' h1 h2 h3 h4=>ih (i+1) r' (by omega) h1 h2 h3 h4) b.length 0 0 r (by omega) (by omega) (by omega) hr hl hz (by simp[val,hv])
  refine BU _ _ _ _ ⟨q,?_⟩
  unfold uW
  rw[cd hia]
  exact hq
theorem Vt(a b:List Int)(h:hU a∧hU b):Con Tryz.prog 211 [.d aya a,.d aya b] [.d aya (ah (val a*val b).toNat)]:=by
 refine aO rl (show sK.Res _ _ _ from ?_)
 obtain⟨ha,hb⟩:=h
 have hsa:=ha.2
 have hsb:=hb.2
 obtain⟨q,hq⟩:=JR a b ha hb a.length 0 (List.replicate (a.length+b.length) 0) (by omega) (Lim.rep _) (by simp) (fun k hk _=>by simp) (by simp[val,gI])
 refine amG _ _ ⟨q,?_⟩
 have hw:i64.wrap ((a.length:Int)+(b.length:Int))=((a.length+b.length:Nat):Int):=by rw[bz (by omega) (by omega)];simp
 unfold QA
 rw[hw,tY (by omega),aP]
 exact hq
end Go.Proofs.YtgddhgcjmddjfaaGreat
end
