/- A function on [0, 1] that does not leap has a least value. -/
import Derived.Test.YtagbmoohboleaaaGreatK9
import Derived.Test.YtagbmoohboleaaaGreatK16
import Derived.Test.YtagbmoohboleaaaGreatK15
noncomputable section
namespace Go.Proofs.YtagbmoohboleaaaGreat
open Go.RowKit Go.IntKind
namespace RE
theorem Tk(n:Nat):eps n/2<=eps (n+1):=by
 have h:=o8 n;have e1:((n+1:Nat):Rat)=(n:Rat)+1:=by grind
 unfold eps;rw[e1];generalize (n:Rat)=x at*
 have p:0<x+1:=by grind
 have q:0<x+1+1:=by grind
 have i1:=apS.2 p;have i2:=apS.2 q;have m1:(x+1)*(x+1)⁻¹=1:=Rat.mul_inv_cancel _ (by grind);have m2:(x+1+1)*(x+1+1)⁻¹=1:=Rat.mul_inv_cancel _ (by grind);rw[apb,apb,apb,Rat.one_mul,Rat.one_mul];generalize (x+1)⁻¹=y at*
 generalize (x+1+1)⁻¹=z at*
 have k:=anw h (anw (show 0<=y by grind) (show 0<=z by grind));have:2*z-y=x*(y*z):=by grind
 grind
theorem KD{a b:Rat}(h:a<=b):a<=(a+b)/2/\(a+b)/2<=b/\(a+b)/2-a=(b-a)/2/\b-(a+b)/2=(b-a)/2:=by grind
theorem aeq{an am bm aN bN e:Rat}(h2:am<=bm)(h3:bm<=bN)(h4:aN<=an)(h5:bN-aN<e):am-an<e:=by grind
theorem XP{x e d y:Rat}(h:x<=e)(h1:e/2<=d)(h2:y=x/2):y<=d:=by grind
theorem Y4{x y e:Rat}(h:x<=y)(h':y<e):x<e:=by grind
theorem bis{P:Rat->Rat->Prop}(h0:P 0 1)(hs:∀a b,P a b->P a ((a+b)/2)\/P ((a+b)/2) b):∃t:RE,0<=t/\t<=1/\∀e:Rat,0<e->∃a b,P a b/\of a<=t/\t<=of b/\b-a<e:=by
 have st:∀i:{i:Rat×Rat // P i.1 i.2/\i.1<=i.2},∃j:{i:Rat×Rat // P i.1 i.2/\i.1<=i.2},i.1.1<=j.1.1/\j.1.2<=i.1.2/\j.1.2-j.1.1=(i.1.2-i.1.1)/2:=by
  intro ⟨⟨a,b⟩,h,hab⟩;obtain⟨k1,k2,k3,k4⟩:=KD hab;rcases hs a b h with g|g
  ·exact⟨⟨(a,(a+b)/2),g,k1⟩,aqm,k2,k3⟩
  ·exact⟨⟨((a+b)/2,b),g,k2⟩,k1,aqm,k4⟩
 let s:Nat->{i:Rat×Rat // P i.1 i.2/\i.1<=i.2}:=λn=>Nat.rec ⟨(0,1),h0,by decide⟩ (λ_ i=>Classical.choose (st i)) n
 have ss:∀n,(s n).1.1<=(s (n+1)).1.1/\(s (n+1)).1.2<=(s n).1.2/\(s (n+1)).1.2-(s (n+1)).1.1=((s n).1.2-(s n).1.1)/2:=λn=>aod (st (s n));have s0:(s 0).1=(0,1):=rfl;clear_value s
 have le:∀n,(s n).1.2-(s n).1.1<=eps n:=by
  intro n;induction n with
  |zero=>
   rw[s0];unfold eps;decide+kernel
  |succ n ih=>exact XP ih (Tk n) (ss n).2.2
 have mo:∀k m,(s m).1.1<=(s (m+k)).1.1/\(s (m+k)).1.2<=(s m).1.2:=by
  intro k m;induction k with
  |zero=>exact⟨aqm,aqm⟩
  |succ k ih=>exact⟨Rat.le_trans ih.1 (ss (m+k)).1,Rat.le_trans (ss (m+k)).2.1 ih.2⟩
 have mo:∀m n,m<=n->(s m).1.1<=(s n).1.1/\(s n).1.2<=(s m).1.2:=λm n h=>by
  have:=mo (n-m) m;rwa [show m+(n-m)=n by omega]at this
 have ca:∀e:Rat,0<e->∃N,∀m n,N<=m->N<=n->(s m).1.1-(s n).1.1<e:=λe he=>by
  obtain⟨N,hN⟩:=ru e he;exact⟨N,λm n hm hk=>aeq (s m).2.2 (mo N m hm).2 (mo N n hk).1 (Y4 (le N) (hN N (ani _)))⟩
 let t:RE:=Quotient.mk _ (⟨λn=>(s n).1.1,ca⟩:RL.CS)
 have lo:∀n,of (s n).1.1<=t:=λn=>by
  rintro ⟨e,he,N,h⟩
  have h1:=h (max N n) (by omega);have h2:=(mo n (max N n) (by omega)).1;simp only[RL.const]at h1;generalize (s (max N n)).1.1=u at*
  generalize (s n).1.1=w at*
  clear h mo le ss hs st;grind
 have hi:∀n,t<=of (s n).1.2:=λn=>by
  rintro ⟨e,he,N,h⟩
  have h1:=h (max N n) (by omega);have h2:=(mo n (max N n) (by omega)).2;have h3:=(s (max N n)).2.2;simp only[RL.const]at h1;generalize (s (max N n)).1.1=u at*
  generalize (s (max N n)).1.2=v at*
  generalize (s n).1.2=w at*
  clear h mo le ss hs st;grind
 have l0:=lo 0;have h0':=hi 0;rw[s0]at l0 h0';refine⟨t,l0,h0',λe he=>?_⟩;obtain⟨N,hN⟩:=ru e he;exact⟨_,_,(s N).2.1,lo N,hi N,Y4 (le N) (hN N (ani _))⟩
theorem aik{z:RE}(h:0<z):∃q:Rat,0<q/\of q<z:=by
 induction z using aoa
 obtain⟨e,he,N,hn⟩:=h;refine⟨e/2,by grind,e/2,by grind,N,λn hN=>?_⟩;have:=hn n hN;simp only[RL.const]at this ⊢;grind
theorem ahR(k:RE):∃B:Rat,0<B/\k<of B:=by
 induction k using aoa
 rename_i f;obtain⟨B,hB,N,h⟩:=f.bd;refine⟨B+1,by grind,1/2,by grind,N,λn hn=>?_⟩;have:=h n hn;simp only[RL.const];grind
theorem aj1{x y k:RE}(h:∀e:Rat,0<e->x<=y+k*of e):x<=y:=by
 rcases lt_or_ge y x with g|g
 ·exfalso;obtain⟨q,hq,hz⟩:=aik (show 0<x-y by grind);obtain⟨B,hB,hk⟩:=ahR k;have p:0<q/B:=anE hq (apS.2 hB);have h1:=h (q/B) p;have h2:of B*of (q/B)=of q:=by rw[<-aC,aoN,anx (by grind)]
  have h3:=B8 hk (fS p);rw[mul_comm,mul_comm (of (q/B))]at h3;have z:of 0=0:=rfl;grind
 ·exact g
theorem evt{f:RE->RE}{K:RE}(hK:0<=K)(hf:∀s t,0<=s->s<=t->t<=1->f s<=f t+K*(t-s)/\f t<=f s+K*(t-s)):∃t,0<=t/\t<=1/\∀s,0<=s->s<=1->f t<=f s:=by
 obtain⟨t,t0,t1,ht⟩:=bis (P:=λa b=>0<=a/\b<=1/\∀s,0<=s->s<=1->∃u,of a<=u/\u<=of b/\f u<=f s) ⟨by decide,by decide,λs h h'=>⟨s,h,h',le_refl _⟩⟩ (λa b ⟨ha,hb,h⟩=>by
  have hab:a<=b:=by
   obtain⟨u,h1,h2,_⟩:=h 0 (le_refl _) (le_of_lt zero_lt_one);exact gr.1 (le_trans h1 h2)
  obtain⟨k1,k2,_⟩:=KD hab;by_cases hl:∀s,0<=s->s<=1->∃u,of a<=u/\u<=of ((a+b)/2)/\f u<=f s
  ·exact .inl ⟨ha,Rat.le_trans k2 hb,hl⟩
  ·refine .inr ⟨Rat.le_trans ha k1,hb,λs s0 s1=>?_⟩;obtain⟨r,hr⟩:=Classical.not_forall.1 hl;obtain⟨r0,hr⟩:=Classical.not_imp.1 hr;obtain⟨r1,hr⟩:=Classical.not_imp.1 hr
   have far:∀u,of a<=u->f u<=f r->of ((a+b)/2)<=u:=λu g1 g2=>by
    rcases lt_or_ge u (of ((a+b)/2))with g|g
    ·exact absurd ⟨u,g1,le_of_lt g,g2⟩ hr
    ·exact g
   rcases lt_or_ge (f s) (f r)with g|g
   ·obtain⟨u,u1,u2,u3⟩:=h s s0 s1;exact⟨u,far u u1 (le_trans u3 (le_of_lt g)),u2,u3⟩
   ·obtain⟨u,u1,u2,u3⟩:=h r r0 r1;exact⟨u,far u u1 u3,u2,le_trans u3 g⟩)
 refine⟨t,t0,t1,λs s0 s1=>aj1 (k:=K) λe he=>?_⟩;obtain⟨a,b,⟨ha,hb,h⟩,l1,l2,l3⟩:=ht e he;obtain⟨u,u1,u2,u3⟩:=h s s0 s1;have l3:=fS l3;rw[of_sub]at l3;have a0:0<=of a:=gr.2 ha;have b1:of b<=1:=gr.2 hb;rcases lt_or_ge t u with g|g
 ·have m:=(hf t u t0 (le_of_lt g) (le_trans u2 b1)).1;have n:=aD hK (show 0<=of e-(u-t) by grind);grind
 ·have m:=(hf u t (le_trans a0 u1) g t1).2;have n:=aD hK (show 0<=of e-(t-u) by grind);grind
end RE
section
namespace RE
def jB(f h:PE):PE:=((h.1*h.1-h.2*h.2)*f.1-(h.1*h.2+h.1*h.2)*f.2,(h.1*h.1-h.2*h.2)*f.2+(h.1*h.2+h.1*h.2)*f.1)
def iW(f h:PE)(k:RE):PE:=((jB f h).1*k,(jB f h).2*k)
def hlf(f w:PE):PE:=(crs f w,dtE f f-dtE f w)
theorem Ua(f h g:PE):dtE (jB f h) (jB f g)=dtE f f*(dtE h h*dtE g g-2*(crs h g*crs h g)):=by
 unfold dtE jB crs;dsimp only;grind
theorem ae1(f h:PE):crs f (jB f h)=dtE f f*(h.1*h.2+h.1*h.2):=by
 unfold dtE jB crs;dsimp only;grind
theorem xC(f h g:PE):crs (jB f h) (jB f g)=dtE f f*(crs h g*dtE h g+crs h g*dtE h g):=by
 unfold dtE jB crs;dsimp only;grind
theorem lag(f w:PE):crs f w*crs f w+dtE f w*dtE f w=dtE f f*dtE w w:=by
 unfold dtE crs;grind
theorem amv(f w:PE):dtE f f*w.1=dtE f w*f.1-crs f w*f.2:=by
 unfold dtE crs;grind
theorem akX(f w:PE):dtE f f*w.2=dtE f w*f.2+crs f w*f.1:=by
 unfold dtE crs;grind
theorem sO{f w:PE}(h:dtE w w=dtE f f):dtE (hlf f w) (hlf f w)=dtE f f*(hlf f w).2+dtE f f*(hlf f w).2:=by
 have l:=lag f w;rw[h]at l;show crs f w*crs f w+(dtE f f-dtE f w)*(dtE f f-dtE f w)=dtE f f*(dtE f f-dtE f w)+dtE f f*(dtE f f-dtE f w)
 generalize crs f w=s at*
 generalize dtE f w=p at*
 generalize dtE f f=r at*
 grind
theorem ji{f w:PE}(h:dtE w w=dtE f f):jB f (hlf f w)=(w.1*dtE (hlf f w) (hlf f w),w.2*dtE (hlf f w) (hlf f w)):=by
 have l:=lag f w;rw[h]at l;rw[sO h];have e1:=amv f w;have e2:=akX f w;unfold jB hlf;dsimp only;generalize crs f w=s at*
 generalize dtE f w=p at*
 generalize dtE f f=r at*
 have a:s*s-(r-p)*(r-p)=(p+p)*(r-p):=by grind
 have b:s*(r-p)+s*(r-p)=(s+s)*(r-p):=by grind
 rw[a,b];exact anN (by dsimp only;grind) (by dsimp only;grind)
theorem fX{f w:PE}(h:dtE w w=dtE f f)(hn:f≠w)(_hr:0<dtE f f):0<(hlf f w).2:=by
 have e:dtE (f.1-w.1,f.2-w.2) (f.1-w.1,f.2-w.2)=(hlf f w).2+(hlf f w).2:=by
  unfold hlf dtE at*
  dsimp only;grind
 have p:0<=dtE (f.1-w.1,f.2-w.2) (f.1-w.1,f.2-w.2):=by
  have h1:=c9 (f.1-w.1);have h2:=c9 (f.2-w.2);unfold dtE;grind
 rcases cJ p with g|g
 ·grind
 ·exfalso;obtain⟨a,b⟩:=lc (x:=f.1-w.1) (y:=f.2-w.2) g;exact hn (anN (by grind) (by grind))
open Classical in
def ivE(x:RE):RE:=if h:0<x then Classical.choose (yW h)else 0
theorem iI{x:RE}(h:0<x):0<ivE x/\x*ivE x=1:=by
 unfold ivE;rw[dif_pos h];exact aod (yW h)
theorem kR{x y:RE}(hy:0<y)(h:0<=x*y):0<=x:=by
 rcases lt_or_ge x 0 with g|g
 ·have:=mul_pos (show 0< -x by grind) hy;grind
 ·exact g
theorem IY{x y:RE}(hy:0<y)(h:x*y<0):x<0:=by
 rcases lt_or_ge x 0 with g|g
 ·exact g
 ·have:=aD g (le_of_lt hy);grind
def hT(A B t:RE):PE:=(1-t+t*A,t*B)
section
variable {f w:PE} {R A B:RE}
theorem Zt(hB:0<B){t:RE}(h0:0<=t):0<dtE (hT A B t) (hT A B t):=by
 unfold dtE hT;dsimp only;rcases cJ h0 with g|g
 ·have h1:=c9 (1-t+t*A);have h2:=mul_pos (mul_pos g hB) (mul_pos g hB);grind
 ·subst g;have:=zero_lt_one;grind
theorem X1(t:RE):B*B<=dtE (hT A B t) (hT A B t)*((A-1)*(A-1)+B*B):=by
 have h:=c9 ((1-t+t*A)*(A-1)+t*B*B);unfold dtE hT;dsimp only;grind
theorem acu(s t:RE):crs (hT A B s) (hT A B t)=B*(t-s):=by
 unfold crs hT;dsimp only;grind
theorem CN{h:PE}{k:RE}(hk:dtE h h*k=1):dtE (iW f h k) (iW f h k)=dtE f f:=by
 have e:=Ua f h h;have c:crs h h=0:=by unfold crs;grind
 have:dtE (iW f h k) (iW f h k)=dtE (jB f h) (jB f h)*(k*k):=by
  unfold dtE iW;dsimp only;grind
 rw[this,e,c];generalize dtE h h=n at*
 grind
theorem YD(hw:dtE w w=dtE f f)(h:PE):crs (jB f h) w*dtE (hlf f w) (hlf f w)=dtE f f*(crs h (hlf f w)*dtE h (hlf f w)+crs h (hlf f w)*dtE h (hlf f w)):=by
 rw[<-xC,ji hw];unfold crs;dsimp only;grind
theorem Wo(hf:0<dtE f f)(hw:dtE w w=dtE f f)(hn:f≠w){t k:RE}(t0:0<=t)(t1:t<=1)(hk:0<k):fx f w (iW f (hT (hlf f w).1 (hlf f w).2 t) k)=true:=by
 have hB:=fX hw hn hf;have eA:crs f w=(hlf f w).1:=rfl;have nH:=sO hw;have r:=YD hw (hT (hlf f w).1 (hlf f w).2 t);have c:=ae1 f (hT (hlf f w).1 (hlf f w).2 t)
 have e1:crs f (iW f (hT (hlf f w).1 (hlf f w).2 t) k)=crs f (jB f (hT (hlf f w).1 (hlf f w).2 t))*k:=by
  unfold crs iW;dsimp only;grind
 have e2:crs (iW f (hT (hlf f w).1 (hlf f w).2 t) k) w=crs (jB f (hT (hlf f w).1 (hlf f w).2 t)) w*k:=by
  unfold crs iW;dsimp only;grind
 have e3:crs (hT (hlf f w).1 (hlf f w).2 t) (hlf f w)=(1-t)*(hlf f w).2:=by
  unfold crs hT;dsimp only;grind
 have e4:dtE (hT (hlf f w).1 (hlf f w).2 t) (hlf f w)=(1-t+t*(hlf f w).1)*(hlf f w).1+t*(hlf f w).2*(hlf f w).2:=rfl;have e5:(hT (hlf f w).1 (hlf f w).2 t).1*(hT (hlf f w).1 (hlf f w).2 t).2=(1-t+t*(hlf f w).1)*(t*(hlf f w).2):=rfl;rw[e3,e4]at r;rw[e5]at c;generalize (hlf f w).2=B at*
 generalize (hlf f w).1=A at*
 generalize jB f (hT A B t)=z at*
 have nP:0<dtE (hlf f w) (hlf f w):=by
  rw[nH];have:=mul_pos hf hB;grind
 have b0:=aD t0 (le_of_lt hB);have bb:=aD b0 (le_of_lt hB)
 have zw:0<=(1-t+t*A)*A+t*B*B->0<=crs (iW f (hT A B t) k) w:=λh=>by
  rw[e2];refine aD (kR nP ?_) (le_of_lt hk);rw[r];have h1:=aD (aD (show 0<=1-t by grind) (le_of_lt hB)) h;have h2:=aD (le_of_lt hf) (show 0<=(1-t)*B*((1-t+t*A)*A+t*B*B)+(1-t)*B*((1-t+t*A)*A+t*B*B) by grind);exact h2
 rcases lt_or_ge A 0 with g|g
 ·rw[Fp (by rw[eA];exact g)];rintro ⟨h1,h2⟩
  rw[e1]at h2;have h2:=IY hk h2;rw[c]at h2
  have h3:(1-t+t*A)*(t*B)<0:=by
   rcases lt_or_ge ((1-t+t*A)*(t*B)) 0 with q|q
   ·exact q
   ·have:=aD (le_of_lt hf) (show 0<=(1-t+t*A)*(t*B)+(1-t+t*A)*(t*B) by grind);grind
  have h4:1-t+t*A<=0:=by
   rcases lt_or_ge 0 (1-t+t*A)with q|q
   ·have:=aD (le_of_lt q) b0;grind
   ·exact q
  have h5:=aD (show 0<= -(1-t+t*A) by grind) (show 0<= -A by grind);have:=zw (by grind);grind
 ·rw[Ei (by rw[eA];exact g)]
  have a0:0<=1-t+t*A:=by
   have:=aD t0 g;grind
  refine⟨?_,zw ?_⟩
  ·rw[e1,c];have h1:=aD a0 b0;exact aD (aD (le_of_lt hf) (by grind)) (le_of_lt hk)
  ·have:=aD a0 g;grind
theorem QJ{h g:PE}{k l:RE}(hk:dtE h h*k=1)(hl:dtE g g*l=1):dsE (iW f h k) (iW f g l)=(dtE f f+dtE f f+dtE f f+dtE f f)*(crs h g*crs h g*(k*l)):=by
 have a:=CN (f:=f) hk;have b:=CN (f:=f) hl
 have c:dtE (iW f h k) (iW f g l)=dtE (jB f h) (jB f g)*(k*l):=by
  unfold dtE iW;dsimp only;grind
 rw[Ua]at c
 have:dsE (iW f h k) (iW f g l)=dtE (iW f h k) (iW f h k)+dtE (iW f g l) (iW f g l)-(dtE (iW f h k) (iW f g l)+dtE (iW f h k) (iW f g l)):=by
  unfold dsE dtE;grind
 rw[this,a,b,c];generalize dtE h h=n at*
 generalize dtE g g=m at*
 have:n*m*(k*l)=1:=by
  have:n*m*(k*l)=n*k*(m*l):=by grind
  rw[this,hk,hl,one_mul]
 grind
end
theorem xo{a b c:PE}:crs (hlf a b) (hlf a c)=dtE a a*(crs a b+crs b c+crs c a):=by
 unfold crs hlf dtE;unfold crs;dsimp only;grind
theorem fJ{f w z:PE}(hf:0<dtE f f)(hw:dtE w w=dtE f f)(hn:f≠w)(hz:dtE z z=dtE f f)(e:f≠z):fx f w z=true↔0<=crs (hlf f z) (hlf f w):=by
 have hB:=fX hw hn hf;have hb:=fX hz e hf;have rz:=ji hz;have nz:=sO hz;have nH:=sO hw;have r:=YD hw (hlf f z)
 have nP:0<dtE (hlf f w) (hlf f w):=by
  rw[nH];have:=mul_pos hf hB;grind
 have nQ:0<dtE (hlf f z) (hlf f z):=by
  rw[nz];have:=mul_pos hf hb;grind
 have ez:crs f z=(hlf f z).1:=rfl;have ew:crs f w=(hlf f w).1:=rfl
 have c1:crs (jB f (hlf f z)) w=crs z w*dtE (hlf f z) (hlf f z):=by
  rw[rz];unfold crs;dsimp only;grind
 have c2:dtE (hlf f z) (hlf f w)=(hlf f z).1*(hlf f w).1+(hlf f z).2*(hlf f w).2:=rfl;have c3:crs (hlf f z) (hlf f w)=(hlf f z).1*(hlf f w).2-(hlf f z).2*(hlf f w).1:=rfl;rw[c1]at r;have bB:=mul_pos hb hB
 have far:crs (hlf f z) (hlf f w)<0->0<dtE (hlf f z) (hlf f w)->crs z w<0:=λg h=>by
  have h1:=mul_pos hf (mul_pos (show 0< -crs (hlf f z) (hlf f w) by grind) h);refine IY nQ (IY nP ?_);rw[r];grind
 have cl:0<=crs (hlf f z) (hlf f w)->0<=dtE (hlf f z) (hlf f w)->0<=crs z w:=λg h=>by
  have h1:=aD (le_of_lt hf) (aD g h);refine kR nQ (kR nP ?_);rw[r];grind
 rcases lt_or_ge (hlf f w).1 0 with q|q
 ·rw[Fp (by rw[ew];exact q)];constructor
  ·intro hs;rcases lt_or_ge (crs (hlf f z) (hlf f w)) 0 with g|g
   ·exfalso
    have a0:(hlf f z).1<0:=by
     rcases lt_or_ge (hlf f z).1 0 with a|a
     ·exact a
     ·have h1:=aD a (le_of_lt hB);have h2:=mul_pos hb (show 0< -(hlf f w).1 by grind);rw[c3]at g;grind
    have h1:=mul_pos (show 0< -(hlf f z).1 by grind) (show 0< -(hlf f w).1 by grind);exact hs ⟨far g (by rw[c2];grind),by rw[ez];exact a0⟩
   ·exact g
  ·rintro g ⟨h1,h2⟩
   rw[ez]at h2;have h3:=mul_pos (show 0< -(hlf f z).1 by grind) (show 0< -(hlf f w).1 by grind);have:=cl g (by rw[c2];grind);grind
 ·rw[Ei (by rw[ew];exact q)];constructor
  ·rintro ⟨h1,h2⟩
   rcases lt_or_ge (crs (hlf f z) (hlf f w)) 0 with g|g
   ·exfalso;rw[ez]at h1;have h3:=aD h1 q;have:=far g (by rw[c2];grind);grind
   ·exact g
  ·intro g
   have a0:0<=(hlf f z).1:=by
    have h1:=aD (le_of_lt hb) q;refine kR hB ?_;rw[c3]at g;grind
   have h3:=aD a0 q;exact⟨by rw[ez];exact a0,cl g (by rw[c2];grind)⟩
section
variable {f w:PE}
theorem Xf(A B:RE):hT A B 0=(1,0):=anN (by unfold hT;grind) (by unfold hT;grind)
theorem Jy(f h:PE)(c:RE):jB f (h.1*c,h.2*c)=((jB f h).1*(c*c),(jB f h).2*(c*c)):=anN (by unfold jB;grind) (by unfold jB;grind)
theorem Ql(hf:0<dtE f f)(hw:dtE w w=dtE f f)(hn:f≠w){z:PE}(hz:dtE z z=dtE f f)(hs:fx f w z=true):∃t,0<=t/\t<=1/\iW f (hT (hlf f w).1 (hlf f w).2 t) (ivE (dtE (hT (hlf f w).1 (hlf f w).2 t) (hT (hlf f w).1 (hlf f w).2 t)))=z:=by
 have hB:=fX hw hn hf;by_cases e:f=z
 ·subst e;refine⟨0,le_refl _,le_of_lt zero_lt_one,?_⟩;rw[Xf];have i:=(iI (x:=1) zero_lt_one).2;rw[one_mul]at i;have n:dtE ((1:RE),(0:RE)) (1,0)=1:=by unfold dtE;grind
  rw[n,i];exact anN (by unfold iW jB;grind) (by unfold iW jB;grind)
 ·have hb:=fX hz e hf;have rz:=ji hz;have key:=(fJ hf hw hn hz e).1 hs;have c3:crs (hlf f z) (hlf f w)=(hlf f z).1*(hlf f w).2-(hlf f z).2*(hlf f w).1:=rfl;rw[c3]at key;have hD:0<(hlf f z).1*(hlf f w).2-(hlf f z).2*(hlf f w).1+(hlf f z).2:=by grind
  obtain⟨i0,i1⟩:=iI hD;generalize ivE ((hlf f z).1*(hlf f w).2-(hlf f z).2*(hlf f w).1+(hlf f z).2)=i at*
  refine⟨(hlf f z).2*i,aD (le_of_lt hb) (le_of_lt i0),?_,?_⟩
  ·have:=aD key (le_of_lt i0);grind
  ·have eh:hT (hlf f w).1 (hlf f w).2 ((hlf f z).2*i)=((hlf f z).1*((hlf f w).2*i),(hlf f z).2*((hlf f w).2*i)):=by
    refine anN ?_ ?_
    ·show 1-(hlf f z).2*i+(hlf f z).2*i*(hlf f w).1=_;rw[<-i1];grind
    ·show(hlf f z).2*i*(hlf f w).2=_;grind
   have ps:0<dtE (hT (hlf f w).1 (hlf f w).2 ((hlf f z).2*i)) (hT (hlf f w).1 (hlf f w).2 ((hlf f z).2*i)):=Zt hB (aD (le_of_lt hb) (le_of_lt i0));have j:=(iI ps).2;rw[eh]at j ⊢;generalize (hlf f w).2*i=c at*
   have en:dtE ((hlf f z).1*c,(hlf f z).2*c) ((hlf f z).1*c,(hlf f z).2*c)=dtE (hlf f z) (hlf f z)*(c*c):=by
    unfold dtE;dsimp only;grind
   rw[en]at j ⊢;unfold iW;rw[Jy,rz];generalize ivE (dtE (hlf f z) (hlf f z)*(c*c))=l at*
   generalize dtE (hlf f z) (hlf f z)=n at*
   have k:∀x:RE,x*n*(c*c)*l=x:=λx=>by
    have:x*n*(c*c)*l=x*(n*(c*c)*l):=by grind
    rw[this,j,mul_one]
   exact anN (k _) (k _)
theorem VK(hf:0<dtE f f)(hw:dtE w w=dtE f f)(hn:f≠w):∃(g:RE->PE) (K:RE),0<=K/\(∀t,0<=t->t<=1->dtE (g t) (g t)=dtE f f/\fx f w (g t)=true)/\(∀s t,0<=s->s<=t->t<=1->dsE (g s) (g t)<=K*(t-s)*(K*(t-s)))/\∀z,dtE z z=dtE f f->fx f w z=true->∃t,0<=t/\t<=1/\g t=z:=by
 have hB:=fX hw hn hf;have nn:∀{t},0<=t->0<dtE (hT (hlf f w).1 (hlf f w).2 t) (hT (hlf f w).1 (hlf f w).2 t):=λh=>Zt hB h;obtain⟨q0,q1⟩:=iI hB
 have L0:0<=((hlf f w).1-1)*((hlf f w).1-1)+(hlf f w).2*(hlf f w).2:=by
  have h1:=c9 ((hlf f w).1-1);have h2:=c9 (hlf f w).2;grind
 have r0:=eV (dtE f f);have r1:=jo (le_of_lt hf);refine⟨λt=>iW f (hT (hlf f w).1 (hlf f w).2 t) (ivE (dtE (hT (hlf f w).1 (hlf f w).2 t) (hT (hlf f w).1 (hlf f w).2 t))),(mb (dtE f f)+mb (dtE f f))*(((hlf f w).1-1)*((hlf f w).1-1)+(hlf f w).2*(hlf f w).2)*ivE (hlf f w).2,aD (aD (by grind) L0) (le_of_lt q0),λt t0 t1=>⟨CN (iI (nn t0)).2,Wo hf hw hn t0 t1 (iI (nn t0)).1⟩,λs t s0 st t1=>?_,λz hz hs=>Ql hf hw hn hz hs⟩;have t0:=le_trans s0 st;obtain⟨a0,a1⟩:=iI (nn s0);obtain⟨b0,b1⟩:=iI (nn t0);have la:=X1 (A:=(hlf f w).1) (B:=(hlf f w).2) s;have lb:=X1 (A:=(hlf f w).1) (B:=(hlf f w).2) t;dsimp only;rw[QJ a1 b1,acu];generalize ivE (dtE (hT (hlf f w).1 (hlf f w).2 s) (hT (hlf f w).1 (hlf f w).2 s))=k at*
 generalize ivE (dtE (hT (hlf f w).1 (hlf f w).2 t) (hT (hlf f w).1 (hlf f w).2 t))=l at*
 generalize dtE (hT (hlf f w).1 (hlf f w).2 s) (hT (hlf f w).1 (hlf f w).2 s)=n at*
 generalize dtE (hT (hlf f w).1 (hlf f w).2 t) (hT (hlf f w).1 (hlf f w).2 t)=m at*
 generalize ((hlf f w).1-1)*((hlf f w).1-1)+(hlf f w).2*(hlf f w).2=L at*
 generalize ivE (hlf f w).2=i at*
 generalize (hlf f w).2=B at*
 generalize mb (dtE f f)=r at*
 rw[<-r1]
 have xk:k*(B*B)<=L:=by
  have h:=aD (le_of_lt a0) (show 0<=n*L-B*B by grind);have:k*(n*L-B*B)=n*k*L-k*(B*B):=by grind
  rw[this,a1,one_mul]at h;grind
 have xl:l*(B*B)<=L:=by
  have h:=aD (le_of_lt b0) (show 0<=m*L-B*B by grind);have:l*(m*L-B*B)=m*l*L-l*(B*B):=by grind
  rw[this,b1,one_mul]at h;grind
 have x0:=aD (le_of_lt a0) (c9 B);have y0:=aD (le_of_lt b0) (c9 B)
 have xy:k*(B*B)*(l*(B*B))<=L*L:=by
  have h1:=aD x0 (show 0<=L-l*(B*B) by grind);have h2:=aD L0 (show 0<=L-k*(B*B) by grind);grind
 have h:=aD (aD (aD r0 r0) (c9 (t-s))) (aD (c9 i) (show 0<=L*L-k*(B*B)*(l*(B*B)) by grind))
 have e:(r*r+r*r+r*r+r*r)*(B*(t-s)*(B*(t-s))*(k*l))=(r*r+r*r+r*r+r*r)*((t-s)*(t-s))*(i*i)*(k*(B*B)*(l*(B*B))):=by
  have:(r*r+r*r+r*r+r*r)*((t-s)*(t-s))*(i*i)*(k*(B*B)*(l*(B*B)))=(r*r+r*r+r*r+r*r)*((t-s)*(t-s))*(B*B)*(k*l)*((B*i)*(B*i)):=by grind
  rw[this,q1,mul_one,mul_one];grind
 rw[e];grind
end
end RE
end
section
namespace RE
theorem MJ{l:Ln}(hn:0<nrE l){p q:PE}(hp:eI l p)(hq:eI l q)(h:tE l p=tE l q):p=q:=by
 have e:=As (v:=q) hp
 have x:exE l q=0:=by
  unfold exE;unfold eI at hq;grind
 rw[x,h]at e;have z:nrE l*dsE p q=0:=by rw[e];grind
 have d:=yR p q
 have:dsE p q=0:=by
  rcases cJ d with g|g
  ·have:=mul_pos hn g;grind
  ·exact g
 obtain⟨a,b⟩:=lc this;exact anN (by grind) (by grind)
theorem GK{x:RE}(h:x≠0):∃i,x*i=1:=by
 rcases lt_or_ge 0 x with g|g
 ·exact⟨_,(iI g).2⟩
 ·have g:0< -x:=by
   rcases cJ (show 0<= -x by grind)with k|k
   ·exact k
   ·exact absurd (by grind) h
  exact⟨-ivE (-x),by have:=(iI g).2;grind⟩
theorem VR{l:Ln}(hn:0<nrE l){F T:PE}(oF:eI l F)(oT:eI l T):∃(g:RE->PE) (K:RE),0<=K/\(∀t,0<=t->t<=1->RE.segE l F T (g t))/\(∀s t,0<=s->s<=t->t<=1->dsE (g s) (g t)<=K*(t-s)*(K*(t-s)))/\∀p,RE.segE l F T p->∃t,0<=t/\t<=1/\g t=p:=by
 have eT:∀t:RE,tE l (F.1+t*(T.1-F.1),F.2+t*(T.2-F.2))=tE l F+t*(tE l T-tE l F):=λt=>by
  unfold tE;dsimp only;grind
 have eL:∀t:RE,eI l (F.1+t*(T.1-F.1),F.2+t*(T.2-F.2)):=λt=>by
  unfold eI at*
  dsimp only;have h1:=congrArg (t* ·) oF;have h2:=congrArg (t* ·) oT;grind
 refine⟨λt=>(F.1+t*(T.1-F.1),F.2+t*(T.2-F.2)),mb (dsE F T),eV _,λt t0 t1=>⟨eL t,?_⟩,λs t _ _ _=>?_,λp hp=>?_⟩
 ·rw[eT];rcases lt_or_ge (tE l F) (tE l T)with g|g
  ·have h1:=aD t0 (show 0<=tE l T-tE l F by grind);have h2:=aD (show 0<=1-t by grind) (show 0<=tE l T-tE l F by grind);exact .inl ⟨by grind,by grind⟩
  ·have h1:=aD t0 (show 0<=tE l F-tE l T by grind);have h2:=aD (show 0<=1-t by grind) (show 0<=tE l F-tE l T by grind);exact .inr ⟨by grind,by grind⟩
 ·have r:=jo (yR F T)
  have:mb (dsE F T)*(t-s)*(mb (dsE F T)*(t-s))=dsE F T*((t-s)*(t-s)):=by
   rw[<-r];grind
  rw[this];refine ge ?_;unfold dsE;dsimp only;grind
 ·obtain⟨oP,hb⟩:=hp;by_cases e:tE l T-tE l F=0
  ·refine⟨0,le_refl _,le_of_lt zero_lt_one,MJ hn (eL 0) oP ?_⟩;rw[eT];rcases hb with⟨h1,h2⟩|⟨h1,h2⟩<;>grind
  ·obtain⟨i,hi⟩:=GK e;refine⟨(tE l p-tE l F)*i,?_,?_,MJ hn (eL _) oP ?_⟩
   ·rcases hb with⟨h1,h2⟩|⟨h1,h2⟩
    ·have d:0<tE l T-tE l F:=(cJ (show 0<=tE l T-tE l F by grind)).resolve_right e;have ip:0<=i:=kR d (by rw[mul_comm,hi];exact le_of_lt zero_lt_one);exact aD (by grind) ip
    ·have d:0< -(tE l T-tE l F):=(cJ (show 0<= -(tE l T-tE l F) by grind)).resolve_right (by grind);have ip:0<= -i:=kR d (by have:=zero_lt_one;grind);have:=aD (show 0<=tE l F-tE l p by grind) ip;grind
   ·rcases hb with⟨h1,h2⟩|⟨h1,h2⟩
    ·have d:0<tE l T-tE l F:=(cJ (show 0<=tE l T-tE l F by grind)).resolve_right e;have ip:0<=i:=kR d (by rw[mul_comm,hi];exact le_of_lt zero_lt_one);have:=aD (show 0<=tE l T-tE l p by grind) ip;grind
    ·have d:0< -(tE l T-tE l F):=(cJ (show 0<= -(tE l T-tE l F) by grind)).resolve_right (by grind);have ip:0<= -i:=kR d (by have:=zero_lt_one;grind);have:=aD (show 0<=tE l p-tE l T by grind) ip;grind
   ·rw[eT];have:(tE l p-tE l F)*i*(tE l T-tE l F)=(tE l p-tE l F)*((tE l T-tE l F)*i):=by grind
    rw[this,hi];grind
theorem Ue{c:Cv}(h:GdE c):∃(g:RE->PE) (K:RE),0<=K/\(∀t,0<=t->t<=1->onE c (g t))/\(∀s t,0<=s->s<=t->t<=1->dsE (g s) (g t)<=K*(t-s)*(K*(t-s)))/\∀p,onE c p->∃t,0<=t/\t<=1/\g t=p:=by
 have hf:=h.f;have ht:=h.t;cases ha:c.1
 ·obtain⟨hl,oF,oT⟩:=h.l ha;rw[jQ ha];exact VR (pV hl) oF oT
 ·have a:=vK h ha;have q0:=fS a.q;have hu:dtE (frm (ciC c) (pR (ccF c))) (frm (ciC c) (pR (ccF c)))=of (ciC c).2.2:=a.u;have hw:dtE (frm (ciC c) (pR (ccT c))) (frm (ciC c) (pR (ccT c)))=of (ciC c).2.2:=a.w;obtain⟨g,K,k0,k1,k2,k3⟩:=VK (f:=frm (ciC c) (pR (ccF c))) (w:=frm (ciC c) (pR (ccT c))) (by rw[hu];exact q0) (by rw[hw,hu]) a.ne;rw[ij ha];have ef:∀t,frm (ciC c) ((g t).1+of (ciC c).1,(g t).2+of (ciC c).2.1)=g t:=λt=>anN (by show _+_-_=_;grind) (by show _+_-_=_;grind);refine⟨λt=>((g t).1+of (ciC c).1,(g t).2+of (ciC c).2.1),K,k0,λt t0 t1=>?_,λs t s0 st t1=>?_,λp hp=>?_⟩
  ·obtain⟨n,s⟩:=k1 t t0 t1;refine⟨?_,by rw[ef];exact s⟩;show dtE (frm (ciC c) _) (frm (ciC c) _)=_;rw[ef,n,hu]
  ·have:=k2 s t s0 st t1;refine le_trans (ge ?_) this;unfold dsE;dsimp only;grind
  ·obtain⟨t,t0,t1,e⟩:=k3 (frm (ciC c) p) (by rw[hu];exact hp.1) hp.2;refine⟨t,t0,t1,CM (c:=ciC c) ?_⟩;rw[ef,e]
open Classical in
def mnD(c:Cv)(p:PE):RE:=if h:∃m,Mn (onE c) p m then Classical.choose h else 0
theorem vO{c:Cv}(h:GdE c)(p:PE):Mn (onE c) p (mnD c p):=by
 obtain⟨m,hm,_⟩:=IM h p;unfold mnD;rw[dif_pos ⟨m,hm⟩];exact aod (⟨m,hm⟩:∃m,Mn (onE c) p m)
theorem Jw{c:Cv}(h:GdE c){p q:PE}{e:RE}(he:0<=e)(hd:dsE p q<=e*e):mb (mnD c p)<=mb (mnD c q)+e:=by
 obtain⟨⟨x,hx,ex⟩,_⟩:=vO h q;have m1:=(vO h p).2 x hx;have n0:0<=mnD c q:=by rw[<-ex];exact yR _ _
 have n1:0<=mnD c p:=by
  obtain⟨⟨y,_,ey⟩,_⟩:=vO h p;rw[<-ey];exact yR _ _
 have a0:=eV (mnD c q);have b0:=eV (mnD c p);have a1:=jo n0;have b1:=jo n1;obtain⟨z,z0,ez⟩:=WT (q.1-p.1,q.2-p.2)
 have ze:z<=e:=uP _ _ z0 he (by
  rw[<-ez];refine le_trans (ge ?_) hd;unfold dsE dtE;dsimp only;grind)
 have t:=amd (u:=(x.1-q.1,x.2-q.2)) (w:=(q.1-p.1,q.2-p.2)) a0 z0 (by rw[a1,<-ex];rfl) ez;refine uP _ _ b0 (by grind) ?_;rw[b1];refine le_trans m1 (le_trans (b:=dtE (x.1-q.1+(q.1-p.1),x.2-q.2+(q.2-p.2)) (x.1-q.1+(q.1-p.1),x.2-q.2+(q.2-p.2))) (ge ?_) (le_trans t ?_))
 ·unfold dsE dtE;dsimp only;grind
 ·have:=aD (show 0<=e-z by grind) (show 0<=mb (mnD c q)+mb (mnD c q)+e+z by grind);grind
theorem R4{c d:Cv}(hc:GdE c)(hd:GdE d):∃p q,onE c p/\onE d q/\∀p' q',onE c p'->onE d q'->dsE p q<=dsE p' q':=by
 obtain⟨g,K,k0,k1,k2,k3⟩:=Ue hc
 obtain⟨t,t0,t1,h⟩:=evt (f:=λt=>mb (mnD d (g t))) k0 λs t s0 st t1=>by
  have e:=k2 s t s0 st t1;have e0:=aD k0 (show 0<=t-s by grind);refine⟨Jw hd e0 e,Jw hd e0 ?_⟩;refine le_trans (ge ?_) e;unfold dsE;grind
 obtain⟨⟨q,hq,eq⟩,_⟩:=vO hd (g t);refine⟨g t,q,k1 t t0 t1,hq,λp' q' hp' hq'=>?_⟩;obtain⟨s,s0,s1,rfl⟩:=k3 p' hp'
 have n0:∀p,0<=mnD d p:=λp=>by
  obtain⟨⟨y,_,ey⟩,_⟩:=vO hd p;rw[<-ey];exact yR _ _
 have l:=h s s0 s1;have a:=eV (mnD d (g t));have l2:=RE.sq_mono _ _ a l;rw[jo (n0 _),jo (n0 _)]at l2;have m:=(vO hd (g s)).2 q' hq';have c1:dsE (g t) q=dsE q (g t):=by unfold dsE;grind
 have c2:dsE (g s) q'=dsE q' (g s):=by unfold dsE;grind
 rw[c1,eq,c2];exact le_trans l2 m
end RE
end
section
open RE
theorem XI{c d:BCU}(hc:gdN c)(hd:gdN d){x:BP}(hx:x∈je c d):Spb (dC c) x/\Spb (dC d) x:=by
 obtain⟨_,_,s1,s2,_⟩:=zd hc hd hx;exact⟨s1,s2⟩
end
section
namespace RE
theorem alq(A B x y m:RE):B*(m*(B*x-A*y))=m*(B*B*x+A*(A*x)-A*(A*x+B*y)):=by grind
theorem amp(A B x y m:RE): -A*(m*(B*x-A*y))=m*(A*A*y+B*(B*y)-B*(A*x+B*y)):=by grind
theorem ak6(A B x y a b:RE):A*(x-a)+B*(y-b)=(A*x+B*y)-(A*a+B*b):=by grind
theorem ak0(A x m B:RE):m*(B*B*x+A*(A*x)-A*0)=m*(A*A+B*B)*x:=by grind
theorem al9(A y m B:RE):m*(A*A*y+B*(B*y)-B*0)=m*(A*A+B*B)*y:=by grind
theorem alP(f g u v s p q:RE):(f+u*s-p)*(f+u*s-p)+(g+v*s-q)*(g+v*s-q)=((f-p)*(f-p)+(g-q)*(g-q))+((f-p)*u+(g-q)*v)*s+((f-p)*u+(g-q)*v)*s+(u*u+v*v)*(s*s):=by grind
theorem amk(a b:RE):(a-b)*(a+b)=a*a-b*b:=by grind
theorem ajF(x f:RE):f+(x-f)=x:=by grind
theorem ams(s u f:RE):f+u* -s=f+ -u*s:=by grind
theorem ak3(x y p q a b m n:RE):((1+1)*(p-a))*x+((1+1)*(q-b))*y=(((x-a)*(x-a)+(y-b)*(y-b))-m)-(((x-p)*(x-p)+(y-q)*(y-q))-n)+((p*p+q*q-n)-(a*a+b*b-m)):=by grind
theorem aly(m n a b:RE):(m-m)-(n-n)+(b-a)=b-a:=by grind
theorem amu(d k:RE):d+k-d=k:=by grind
theorem Qg(a b:RE):a- -b=a+b:=by grind
theorem cU{x y:RE}(h:x*y=0):x=0\/y=0:=by
 rcases lt_lin.tri x 0 with a|a|a
 ·rcases lt_lin.tri y 0 with b|b|b
  ·have e:=dA x y;rw[h,du,iw a,iw b]at e;exact absurd e (by decide)
  ·exact .inr b
  ·have e:=dA x y;rw[h,du,iw a,dD b]at e;exact absurd e (by decide)
 ·exact .inl a
 ·rcases lt_lin.tri y 0 with b|b|b
  ·have e:=dA x y;rw[h,du,dD a,iw b]at e;exact absurd e (by decide)
  ·exact .inr b
  ·have e:=dA x y;rw[h,du,dD a,dD b]at e;exact absurd e (by decide)
section
variable {l c:Ln}
theorem CZ(hl:l.1≠0\/l.2.1≠0){v:PE}(h1:eI l v)(h2:gi c v):∃p∈mn l c,pR p=v:=by
 have hn:=pP hl;have t0:vlL l c.1 c.2.1/cr l*cr l=vlL l c.1 c.2.1:=anx hn
 have e1:l.1*ftX l c+l.2.1*ftY l c=l.2.2:=by
  unfold ftX ftY;generalize vlL l c.1 c.2.1/cr l=s at*
  unfold cr vlL at t0;grind
 have e3:(ftX l c-c.1)*l.2.1+(ftY l c-c.2.1)* -l.1=0:=by
  unfold ftX ftY;grind
 have k0:fa l c*cr l=c.2.2-zu l c:=anx hn
 have hz:of l.1*(v.1-of (ftX l c))+of l.2.1*(v.2-of (ftY l c))=0:=by
  unfold eI at h1;rw[ak6,h1,<-aC,<-aC,<-of_add,e1,sub_self]
 have hm:of (cr l)⁻¹*(of l.1*of l.1+of l.2.1*of l.2.1)=1:=by
  rw[<-aC,<-aC,<-of_add,<-aC,<-Ds];exact congrArg of (Rat.inv_mul_cancel _ hn)
 obtain⟨t,ht⟩:∃t,t=of (cr l)⁻¹*(of l.2.1*(v.1-of (ftX l c))-of l.1*(v.2-of (ftY l c))):=⟨_,rfl⟩
 have w1:of l.2.1*t=v.1-of (ftX l c):=by rw[ht,alq,hz,ak0,hm,one_mul]
 have w2: -of l.1*t=v.2-of (ftY l c):=by rw[ht,amp,hz,al9,hm,one_mul]
 have v1:v.1=of (ftX l c)+of l.2.1*t:=by rw[w1,ajF]
 have v2':v.2=of (ftY l c)+of (-l.1)*t:=by rw[of_neg,w2,ajF]
 have hq:of (cr l)*(t*t)=of (fa l c*cr l):=by
  have h2':=h2;unfold gi frm at h2';dsimp only at h2';rw[v1,v2',alP,<-of_sub,<-of_sub,<-aC,<-aC,<-aC,<-aC,<-aC,<-aC,<-of_add,<-of_add,<-of_add,e3,pI,zero_mul,add_zero,add_zero,show l.2.1*l.2.1+ -l.1* -l.1=cr l by unfold cr;grind]at h2';have e4:(ftX l c-c.1)*(ftX l c-c.1)+(ftY l c-c.2.1)*(ftY l c-c.2.1)=zu l c:=rfl;rw[e4]at h2';rw[k0,of_sub,<-h2'];rw[amu]
 have tt:t*t=of (fa l c):=wC hn (by rw[hq,<-aC,aoN])
 have kn:0<=fa l c:=by
  rcases(by grind:0<=fa l c\/fa l c<0)with h|h
  ·exact h
  ·have:=fS h;rw[<-tt]at this;exact absurd this (c9 t)
 have dd:(sE l=l.2.1/\sG l= -l.1)\/(sE l= -l.2.1/\sG l=l.1):=by
  unfold sE sG;cases Ic l
  ·exact .inl ⟨rfl,rfl⟩
  ·exact .inr ⟨rfl,apV _⟩
 have hv:t=rq (fa l c)\/t= -rq (fa l c):=by
  have hs:=dE kn;have:(t-rq (fa l c))*(t+rq (fa l c))=0:=by rw[amk,tt,hs,sub_self]
  rcases cU this with h|h
  ·exact .inl (gV _ _ h)
  ·refine .inr (gV _ _ ?_);rw[<-h,Qg]
 unfold mn;rw[dF (show ¬fa l c<0 by grind)];by_cases hk0:fa l c=0
 ·rw[dT hk0];refine⟨atP (ftL l c),by simp,?_⟩
  have t00:t=0:=by
   rw[hk0,pI]at tt;rcases cU tt with h|h<;>exact h
  rw[m7];refine anN ?_ ?_
  ·rw[v1,t00,mul_zero,add_zero];rfl
  ·rw[v2',t00,mul_zero,add_zero];rfl
 ·rw[dF hk0]
  have neg2:∀f u:Rat,v2 f (-u) (fa l c)=of f+of u* -rq (fa l c):=λf u=>by
   unfold v2;rw[of_neg,ams]
  rcases dd with⟨g1,g2⟩|⟨g1,g2⟩<;>rcases hv with ht'|ht'
  ·refine⟨lcN l c,by simp,?_⟩;unfold lcN;rw[qJ,g1,g2];exact anN (by rw[v1,ht'];rfl) (by rw[v2',ht'];rfl)
  ·refine⟨lcM l c,by simp,?_⟩;unfold lcM;rw[qJ,g1,g2,neg2,neg2];exact anN (by rw[v1,ht']) (by rw[v2',ht'])
  ·refine⟨lcM l c,by simp,?_⟩;unfold lcM;rw[qJ,g1,g2,apV];exact anN (by rw[v1,ht'];rfl) (by rw[v2',ht'];rfl)
  ·refine⟨lcN l c,by simp,?_⟩;unfold lcN;rw[qJ,g1,g2];refine anN ?_ ?_
   ·show v2 _ (-l.2.1) _=_;rw[neg2,v1,ht']
   ·show v2 _ l.1 _=_;rw[v2',ht',show l.1= -(-l.1) from(apV _).symm,neg2,apV]
end
theorem MQ{c d:Ln}{v:PE}(hc:gi c v)(hd:gi d v):eI (oH c d) v:=by
 have o2:of 2=1+1:=by
  rw[<-Ds,<-of_add];exact congrArg of (by decide+kernel)
 unfold gi frm at hc hd;unfold eI oH sD;dsimp only at*
 simp only[of_sub,aC,of_add,o2];rw[ak3 v.1 v.2 (of d.1) (of d.2.1) (of c.1) (of c.2.1) (of c.2.2) (of d.2.2),hc,hd,aly]
end RE
end
section
open RE
theorem IX(c d:Ln):iU d c=iU c d:=by
 unfold iU;have e1:decide (d.1=c.1)=decide (c.1=d.1):=aom.2 eq_comm;have e2:decide (d.2.1=c.2.1)=decide (c.2.1=d.2.1):=aom.2 eq_comm;rw[e1,e2]
theorem VO{l m:Ln}{p:Pt}(hp:p∈mC l m):p∈mC m l:=by
 unfold mC at*
 have ec:dK m l= -dK l m:=by unfold dK;grind
 by_cases h0:dK l m=0
 ·rw[dT h0]at hp;cases hp
 ·have h1:¬dK m l=0:=by rw[ec];grind
  rw[dF h0]at hp;rw[dF h1];have:p=atP (mH l m/dK l m,mE l m/dK l m):=by simpa using hp
  rw[this]
  have dv:∀a b:Rat,b≠0-> -a/ -b=a/b:=λa b hb=>by
   have h1: -a/ -b* -b= -a:=anx (by grind);have h2:a/b*b=a:=anx hb;generalize-a/ -b=x at*
   generalize a/b=y at*
   have:(x-y)*b=0:=by grind
   rcases apr.1 this with h|h
   ·grind
   ·exact absurd h hb
  have ex:mH m l= -mH l m:=by unfold mH;grind
  have ey:mE m l= -mE l m:=by unfold mE;grind
  rw[ec,ex,ey,dv _ _ h0,dv _ _ h0];simp
theorem Nw{c d:BCU}(hc:vo c)(hd:vo d){p:Pt}(hp:p∈im (dC c) (dC d)):∃q∈im (dC d) (dC c),pR q=pR p:=by
 obtain⟨c1,c2⟩:=kM hc;obtain⟨d1,d2⟩:=kM hd;have ec:(dC c).1=c.1:=rfl;have ed:(dC d).1=d.1:=rfl;unfold im at*
 rw[ec,ed]at hp ⊢;cases ha:c.1<;>cases hb:d.1<;>rw[ha,hb]at hp
 ·have hp:p∈mC (lnC (dC c)) (lnC (dC d)):=hp;exact⟨p,VO hp,rfl⟩
 ·exact⟨p,hp,rfl⟩
 ·exact⟨p,hp,rfl⟩
 ·have i1:=(c1 ha).1;have i2:=(d1 hb).1;have hp:p∈tc (ciC (dC c)) (ciC (dC d)):=hp;show ∃q∈tc (ciC (dC d)) (ciC (dC c)),_;unfold tc at*
  rw[IX];cases hq:iU (ciC (dC c)) (ciC (dC d))<;>rw[hq]at hp
  ·obtain⟨o1,o2⟩:=IR (vX hq) hp;have o3:=Qh o1 o2;exact CZ (vX (by rw[IX];exact hq)) (MQ o3 o2) o3
  ·cases hp
theorem E3{c d:BCU}(hc:gdN c)(hd:gdN d){x:BP}(hx:x∈mA c d)(o1:onR (dC c) (dec x)=true)(o2:onR (dC d) (dec x)=true):∃y∈je c d,aZ (dec y) (dec x)=0:=by
 obtain⟨_,p2⟩:=IS hc.crp hc.ne (Qy hc hd);have r:=((xJ hc hd).2 x hx).2.1.1;exact p2 x (aqi.2 ⟨hx,Jt hc hd r o1 o2⟩)
theorem M6{c d:BCU}(hc:gdN c)(hd:gdN d){a:BP}(ha:a∈je c d):∃b∈je d c,aZ (dec a) (dec b)=0:=by
 obtain⟨hm,_,s1,s2,o1,o2⟩:=zd hc hd ha;have ra:=s1.1
 have key:∃z∈mA d c,aZ (dec z) (dec a)=0:=by
  unfold mA at hm;unfold mA;cases hs:cH (dC c) (dC d)
  ·have hs':cH (dC d) (dC c)=false:=by
    cases h:cH (dC d) (dC c)with
    |false=>rfl
    |true=>rw[DF h]at hs;cases hs
   rw[hs]at hm;rw[hs'];obtain⟨p,hp,e⟩:=ao5.1 hm;obtain⟨q,hq,e2⟩:=Nw hc.1.2 hd.1.2 hp;obtain⟨_,rq,_⟩:=supM_on hd.1.2 hc.1.2 hq;refine⟨enc q,ao5.2 ⟨q,hq,rfl⟩,?_⟩;have:Rpd (dec (enc q):Pt):=by rw[aA];exact rq
   refine cmpP_0.2 ?_;rw[aA,e2,<-e,aA]
  ·rw[hs]at hm;rw[DF hs];refine⟨a,?_,aiI ra⟩;have:a=c.2.2.2.2.1\/a=c.2.2.2.2.2\/a=d.2.2.2.2.1\/a=d.2.2.2.2.2:=by simpa using hm
   rcases this with e|e|e|e<;>simp[e]
 obtain⟨z,hz,ez⟩:=key;have rz:=((xJ hd hc).2 z hz).2.1.1;obtain⟨y,hy,ey⟩:=E3 hd hc hz (by rw[JB hd.crp rz ra ez];exact o2) (by rw[JB hc.crp rz ra ez];exact o1);have ry:=(XI hd hc hy).1.1;exact⟨y,hy,Pi (aji ey ez)⟩
end
namespace RE
theorem Mn.zero{S:PE->Prop}{v:PE}{m:RE}(h:Mn S v m):m=0↔S v:=by
 obtain⟨⟨p,hp,e⟩,hl⟩:=h;constructor
 ·intro h0;rw[h0]at e;obtain⟨a,b⟩:=lc e;have:p=v:=anN (gV _ _ a) (gV _ _ b);rw[<-this];exact hp
 ·intro hv;have h1:=hl v hv
  have h2:dsE v v=0:=by
   unfold dsE;rw[sub_self,sub_self,mul_zero,add_zero]
  rw[h2]at h1;refine le_antisymm h1 ?_;rw[<-e];exact G6 _ _ (c9 _) (c9 _)
theorem AQ{x y:Rt}(hx:Rdd x)(hy:Rdd y)(h:vR x=vR y):(bi x y==0)=true:=by
 rw[cmpT_re hx.nn hy.nn,h,sub_self,du];rfl
end RE
section
open RE
theorem acT{l:List BP}{P:Prop}(h:∀a∈l,P)(n:¬P):l=[]:=by
 cases l with
 |nil=>rfl
 |cons a r=>exact absurd (h a List.mem_cons_self) n
theorem Ro{c d:BCU}(hc:gdN c)(hd:gdN d)(e:je c d=[]):je d c=[]:=
 acT (λ_ ha=>(M6 hd hc ha).imp λ_ h=>h.1) λ⟨b,hb⟩=>by rw[e]at hb;cases hb
theorem XO(c d:Cv)(r:Rat):uU d c r=uU c d r:=by unfold uU;omega
theorem Xe{d p q r:Rat}(hd:0<=d)(hp:0<=p)(hq:0<=q)(hr:0<=r):pG d q p r=pG d p q r:=by
 rw[yZ hd hq hp hr,yZ hd hp hq hr];exact congrArg sg (by grind)
theorem UX{x y z r:Rat}(hx:0<=x)(hy:0<=y)(hz:0<=z)(hr:0<=r):sS y x z r=sS x y z r:=by
 rw[HG hy hx hz hr,HG hx hy hz hr];exact congrArg sg (by grind)
theorem W6{c d:Cv}(hp:0<=(ciC c).2.2)(hq:0<=(ciC d).2.2){r:Rat}(hr:0<=r):tT d c r=tT c d r:=by
 have w:wyv d c=bkV (wyv c d):=anN (by unfold wyv bkV cV;grind) (by unfold wyv bkV cV;grind);have b:bkV (bkV (wyv c d))=wyv c d:=anN (apV _) (apV _)
 have n:nD d c=nD c d:=by
  unfold nD;rw[w];unfold a9 bkV;grind
 have n0:0<=nD c d:=jN _;unfold tT nT fT;rw[n,w,b,Xe n0 hp hq hr,UX hp hq n0 hr,Bool.and_comm (dM d (bkV (wyv c d))) (dM c (wyv c d)),Bool.and_comm (dM d (bkV (wyv c d))) (dM c (bkV (wyv c d))),Bool.and_comm (dM d (wyv c d)) (dM c (wyv c d))];cases decide (nD c d=0)
 ·simp only[cond_false];omega
 ·rfl
theorem gdN.cn{c:BCU}(h:gdN c)(e:c.1=true):0<=(ciC (dC c)).2.2:=by
 have:=h.crp.q e;grind
theorem Vh{c d:BCU}(hc:gdN c)(hd:gdN d){r:Rat}(hr:0<=r):jv (dC d) (dC c) r=jv (dC c) (dC d) r:=by
 unfold jv;have e1:(dC c).1=c.1:=rfl;have e2:(dC d).1=d.1:=rfl;rw[e1,e2,XO];cases hx:c.1<;>cases hy:d.1
 ·rfl
 ·rfl
 ·rfl
 ·show min _ (tT (dC d) (dC c) r)=min _ (tT (dC c) (dC d) r);rw[W6 (hc.cn hx) (hd.cn hy) hr]
def IsX(f:Rat->Int)(x:RE):Prop:=∀r:Rat,0<=r->f r=sg (x-of (r*r))
end
section
open RE
theorem N5{l m:Ln}(hs:pq l m=false){v:PE}(o1:eI l v)(o2:eI m v):∃q∈mC l m,pR q=v:=by
 unfold mC;unfold eI at o1 o2;by_cases h0:dK l m=0
 ·exfalso;have e1:l.1*m.2.1=l.2.1*m.1:=by unfold dK at h0;grind
  have k:of l.1*of m.2.1=of l.2.1*of m.1:=by rw[<-aC,e1,aC]
  have k1:=congrArg (·*v.1) k;have k2:=congrArg (·*v.2) k;have e2:l.1*m.2.2=l.2.2*m.1:=lL (by rw[aC,aC,<-o1,<-o2];grind);have e3:l.2.1*m.2.2=l.2.2*m.2.1:=lL (by rw[aC,aC,<-o1,<-o2];grind);unfold pq at hs;rw[dT e1,dT e2,dT e3]at hs;cases hs
 ·rw[dF h0];refine⟨_,aot.2 rfl,?_⟩;have nz:of (dK l m)≠0:=λe=>h0 (lL e)
  have f:∀{a:Rat} {y:RE},of (dK l m)*y=of a->of (a/dK l m)=y:=λ{a y} h=>by
   have q:of (a/dK l m)*of (dK l m)=of a:=by rw[<-aC,anx h0]
   rcases cU (show of (dK l m)*(of (a/dK l m)-y)=0 by grind)with g|g
   ·exact absurd g nz
   ·grind
  rw[m7];refine anN (f ?_) (f ?_)
  ·unfold dK mH;rw[of_sub,aC,aC,of_sub,aC,aC,<-o1,<-o2];grind
  ·unfold dK mE;rw[of_sub,aC,aC,of_sub,aC,aC,<-o1,<-o2];grind
theorem lm{c:BCU}{v:PE}(o:onE (dC c) v):(c.1=false->eI (lnC (dC c)) v)/\(c.1=true->gi (ciC (dC c)) v):=by
 have e:(dC c).1=c.1:=rfl;constructor<;>intro ha
 ·rw[jQ (e.trans ha)]at o;exact o.1
 ·rw[ij (e.trans ha)]at o;exact o.1
theorem WI{c d:BCU}(hc:vo c)(hd:vo d)(hs:cH (dC c) (dC d)=false){v:PE}(o1:onE (dC c) v)(o2:onE (dC d) v):∃q∈im (dC c) (dC d),pR q=v:=by
 obtain⟨_,c2⟩:=kM hc;obtain⟨_,d2⟩:=kM hd;obtain⟨a1,a2⟩:=lm o1;obtain⟨b1,b2⟩:=lm o2;have ec:(dC c).1=c.1:=rfl;have ed:(dC d).1=d.1:=rfl;unfold cH at hs;unfold im;rw[ec,ed]at hs ⊢;cases ha:c.1<;>cases hb:d.1<;>rw[ha,hb]at hs
 ·exact N5 hs (a1 ha) (b1 hb)
 ·exact CZ (c2 ha).2 (a1 ha) (b2 hb)
 ·exact CZ (d2 hb).2 (b1 hb) (a2 ha)
 ·have o1:=a2 ha;have o2:=b2 hb;show ∃q∈tc (ciC (dC c)) (ciC (dC d)),_;unfold tc;cases hq:iU (ciC (dC c)) (ciC (dC d))
  ·exact CZ (vX hq) (MQ o1 o2) o1
  ·exfalso;have hs:qV (ciC (dC c)) (ciC (dC d))=false:=hs;obtain⟨q1,q2⟩:=anm.1 hq;have q1:=anf q1;have q2:=anf q2;unfold gi frm at o1 o2;rw[q1,q2,o2]at o1;unfold qV at hs;rw[dT q1,dT q2,dT (lL o1).symm]at hs;cases hs
theorem XQ{c d:BCU}(hc:gdN c)(hd:gdN d)(hs:cH (dC c) (dC d)=false){v:PE}(o1:onE (dC c) v)(o2:onE (dC d) v):je c d≠[]:=by
 obtain⟨q,hq,e⟩:=WI hc.1.2 hd.1.2 hs o1 o2;subst e;have r:Rpd q:=(supM_on hc.1.2 hd.1.2 hq).2.1;have hx:(enc q:BP)∈mA c d:=by unfold mA;rw[hs];exact List.mem_map_of_mem hq
 obtain⟨y,hy,_⟩:=E3 hc hd hx (by rw[aA,<-gj hc.crp r];exact(fU hc.e).2 o1) (by rw[aA,<-gj hd.crp r];exact(fU hd.e).2 o2);intro n;rw[n]at hy;cases hy
theorem afD{c:BCU}(h:gdN c)(ha:c.1=true){u:Rat×Rat}(hz:zeV u=false)(t:dM (dC c) u=true):onE (dC c) (of (ciC (dC c)).1+of u.1*rq ((ciC (dC c)).2.2/a9 u u),of (ciC (dC c)).2.1+of u.2*rq ((ciC (dC c)).2.2/a9 u u)):=by
 have hC:Cir (ciC (dC c)):=⟨h.crp.q ha⟩
 unfold dM at t;rw[show(dC c).1=true from ha,hz]at t;have o:=(fU h.e (p:=qo (ciC (dC c)) u)).1 t;have f:=uT (ciC (dC c)) u;have f1:=congrArg Prod.fst f;have f2:=congrArg Prod.snd f;unfold frm at f1 f2;dsimp only at f1 f2;rw[show pR (qo (ciC (dC c)) u)=(of (ciC (dC c)).1+of u.1*rq ((ciC (dC c)).2.2/a9 u u),of (ciC (dC c)).2.1+of u.2*rq ((ciC (dC c)).2.2/a9 u u)) from anN (by grind) (by grind)]at o;exact o
end
section
open RE
namespace RE
theorem nh(p q:PE):dsE p q=dsE q p:=by
 unfold dsE;grind
theorem ae8(a b:RE):mnE a b=a\/mnE a b=b:=by
 unfold mnE;by_cases h:b<a
 ·exact .inr (anH h)
 ·exact .inl (anA h)
theorem P2{c:Cv}(h:GdE c)(ha:c.1=false){p q:PE}(hp:onE c p)(hm:∀x,onE c x->dsE p q<=dsE x q):(dsE (pR (frC c)) q<=dsE p q\/dsE (pR (toC c)) q<=dsE p q)\/tE (lnC c) p=tE (lnC c) q:=by
 obtain⟨hl,oF,oT⟩:=h.l ha;have oF:eI (lnC c) (pR (frC c)):=oF;have oT:eI (lnC c) (pR (toC c)):=oT;have hn:0<nrE (lnC c):=pV hl;rw[jQ ha]at hp hm;by_cases hb:btE (tE (lnC c) (pR (frC c))) (tE (lnC c) (pR (toC c))) (tE (lnC c) q)
 ·obtain⟨k,kp,ek⟩:=yW hn;obtain⟨⟨x,hx,e⟩,_⟩:=u5 hn hb kp ek;have h1:=hm x hx;rw[e]at h1;have h2:=As (v:=q) hp.1;have h3:=aD (le_of_lt hn) (show 0<=exE (lnC c) q*exE (lnC c) q*k-dsE p q by grind)
  have h4:nrE (lnC c)*(exE (lnC c) q*exE (lnC c) q*k)=exE (lnC c) q*exE (lnC c) q:=by
   have:nrE (lnC c)*(exE (lnC c) q*exE (lnC c) q*k)=exE (lnC c) q*exE (lnC c) q*(nrE (lnC c)*k):=by grind
   rw[this,ek,mul_one]
  have h5:=c9 (tE (lnC c) p-tE (lnC c) q)
  have h6:(tE (lnC c) p-tE (lnC c) q)*(tE (lnC c) p-tE (lnC c) q)=0:=by
   rcases cJ h5 with g|g
   ·exfalso;grind
   ·exact g
  have:=(cU h6).elim id id;exact .inr (by grind)
 ·obtain⟨⟨x,hx,e⟩,_⟩:=xF hn oF oT hb;have sF:RE.segE (lnC c) (pR (frC c)) (pR (toC c)) (pR (frC c)):=⟨oF,by unfold btE;grind⟩
  have sT:RE.segE (lnC c) (pR (frC c)) (pR (toC c)) (pR (toC c)):=⟨oT,by unfold btE;grind⟩
  have l:=(xF hn oF oT hb).2 p hp;rcases ae8 (dsE (pR (frC c)) q) (dsE (pR (toC c)) q)with g|g<;>rw[g]at l
  ·exact .inl (.inl l)
  ·exact .inl (.inr l)
theorem So{c:Cv}(h:GdE c)(ha:c.1=true){p q:PE}(hp:onE c p)(hm:∀x,onE c x->dsE p q<=dsE x q):(dsE (pR (frC c)) q<=dsE p q\/dsE (pR (toC c)) q<=dsE p q)\/∃k,0<k/\frm (ciC c) p=((frm (ciC c) q).1*k,(frm (ciC c) q).2*k):=by
 have g:=vK h ha;have hq:=g.q;have q0:=fS hq
 have ends:∀x y:PE,(x=pR (ccF c)/\y=pR (ccT c))->(dsE x q<=dsE p q\/dsE y q<=dsE p q)->(dsE (pR (frC c)) q<=dsE p q\/dsE (pR (toC c)) q<=dsE p q):=λx y ⟨e1,e2⟩ hh=>by
  rcases mf c with⟨g1,g2⟩|⟨g1,g2⟩<;>rw[e1,e2,g1,g2]at hh
  ·exact hh
  ·exact hh.symm
 rw[ij ha]at hp hm;by_cases hz:q=vE (ctr (ciC c))
 ·refine .inl (ends _ _ ⟨rfl,rfl⟩ (.inl (ge ?_)));rw[hz,<-Aj,<-Aj];exact g.u.trans hp.1.symm
 ·cases hw:fx (frm (ciC c) (pR (ccF c))) (frm (ciC c) (pR (ccT c))) (frm (ciC c) q)
  ·refine .inl (ends _ _ ⟨rfl,rfl⟩ ?_);exact(CB g.u g.w hp.1 g.ne hp.2 (by rw[hw];exact Bool.false_ne_true)).imp (vT hp.1 g.u) (vT hp.1 g.w)
  ·refine .inr ?_;obtain⟨u,k,x,up,kp,eu,ex,ox,dx⟩:=MU hq hz;have h1:=hm x ⟨ox,by rw[ex,ow _ _ _ kp];exact hw⟩;rw[oV hp.1,oV ox]at h1;have o1:dtE (frm (ciC c) p) (frm (ciC c) p)=of (ciC c).2.2:=hp.1;have o2:dtE (frm (ciC c) x) (frm (ciC c) x)=of (ciC c).2.2:=ox;refine⟨k,kp,?_⟩;rw[<-ex]
   have e1:dtE (frm (ciC c) p) (frm (ciC c) x)=dtE (frm (ciC c) p) (frm (ciC c) q)*k:=by
    rw[ex];unfold dtE;dsimp only;grind
   have e2:dtE (frm (ciC c) x) (frm (ciC c) x)=dtE (frm (ciC c) x) (frm (ciC c) q)*k:=by
    have:dtE (frm (ciC c) x) (frm (ciC c) x)=dtE (frm (ciC c) x) ((frm (ciC c) q).1*k,(frm (ciC c) q).2*k):=by rw[<-ex]
    rw[this];unfold dtE;dsimp only;grind
   have h2:=aD (show 0<=dtE (frm (ciC c) p) (frm (ciC c) q)-dtE (frm (ciC c) x) (frm (ciC c) q) by grind) (le_of_lt kp)
   have z:dtE ((frm (ciC c) p).1-(frm (ciC c) x).1,(frm (ciC c) p).2-(frm (ciC c) x).2) ((frm (ciC c) p).1-(frm (ciC c) x).1,(frm (ciC c) p).2-(frm (ciC c) x).2)=dtE (frm (ciC c) p) (frm (ciC c) p)+dtE (frm (ciC c) x) (frm (ciC c) x)-(dtE (frm (ciC c) p) (frm (ciC c) x)+dtE (frm (ciC c) p) (frm (ciC c) x)):=by
    unfold dtE;dsimp only;grind
   have s1:=c9 ((frm (ciC c) p).1-(frm (ciC c) x).1);have s2:=c9 ((frm (ciC c) p).2-(frm (ciC c) x).2)
   have zz:((frm (ciC c) p).1-(frm (ciC c) x).1)*((frm (ciC c) p).1-(frm (ciC c) x).1)+((frm (ciC c) p).2-(frm (ciC c) x).2)*((frm (ciC c) p).2-(frm (ciC c) x).2)=0:=by
    rw[o1,o2,e1]at z;rw[o2]at e2;have z:((frm (ciC c) p).1-(frm (ciC c) x).1)*((frm (ciC c) p).1-(frm (ciC c) x).1)+((frm (ciC c) p).2-(frm (ciC c) x).2)*((frm (ciC c) p).2-(frm (ciC c) x).2)=_:=z;rcases cJ (show 0<=((frm (ciC c) p).1-(frm (ciC c) x).1)*((frm (ciC c) p).1-(frm (ciC c) x).1)+((frm (ciC c) p).2-(frm (ciC c) x).2)*((frm (ciC c) p).2-(frm (ciC c) x).2) by grind)with g|g
    ·exfalso;grind
    ·exact g
   obtain⟨a,b⟩:=lc zz;exact anN (by grind) (by grind)
end RE
def Low(c d:BCU)(m:RE):Prop:=∀p q,onE (dC c) p->onE (dC d) q->m<=dsE p q
theorem Low.sym{c d:BCU}{m:RE}(h:Low c d m):Low d c m:=λp q hp hq=>by rw[nh];exact h q p hq hp
theorem xG{c d:BCU}{m:RE}(hd:gdN d)(h:Low c d m){p:PE}(hp:onE (dC c) p){r:Rat}(hr:0<=r):sg (m-of (r*r))<=poiE (dC d) p r:=by
 obtain⟨x,hx,e⟩:=IM hd.e p;rw[e r hr];obtain⟨⟨q,hq,eq⟩,_⟩:=hx;have:=h p q hp hq;rw[nh,eq]at this;exact fZ (gD _ _ _ this)
theorem xU{b:Bool}{x:Int}{y:RE}(h:b=true->sg y<=x):sg y<=v6 b x:=by
 cases b
 ·exact Hn _
 ·exact h rfl
theorem JW{s a:BCU}{m:RE}(hs:gdN s)(ha:gdN a)(es:s.1=false)(ea:a.1=true)(h:Low s a m){r:Rat}(hr:0<=r):sg (m-of (r*r))<=xg (dC s) (dC a) r:=by
 unfold xg;refine xU λo=>?_;have o:=(fU hs.e).1 o;rw[m7]at o;rw[TF ha (Is hs.1.2 ha.1.2 es ea) hr];obtain⟨⟨q,hq,e⟩,_⟩:=Sg ha.e (ftv (dC s) (dC a));rw[<-e];have:=h _ q o hq;rw[nh]at this;exact fZ (gD _ _ _ this)
end
section
open RE
theorem xZ{c:BCU}(h:gdN c)(ha:c.1=true){u:Rat×Rat}(hz:zeV u=false):dM (dC c) u=true↔onE (dC c) (of (ciC (dC c)).1+of u.1*rq ((ciC (dC c)).2.2/a9 u u),of (ciC (dC c)).2.1+of u.2*rq ((ciC (dC c)).2.2/a9 u u)):=by
 refine⟨afD h ha hz,λo=>?_⟩;have hC:Cir (ciC (dC c)):=⟨h.crp.q ha⟩
 unfold dM;rw[show(dC c).1=true from ha,hz];refine(fU h.e (p:=qo (ciC (dC c)) u)).2 ?_;have f:=uT (ciC (dC c)) u;have f1:=congrArg Prod.fst f;have f2:=congrArg Prod.snd f;unfold frm at f1 f2;dsimp only at f1 f2;rw[show pR (qo (ciC (dC c)) u)=(of (ciC (dC c)).1+of u.1*rq ((ciC (dC c)).2.2/a9 u u),of (ciC (dC c)).2.1+of u.2*rq ((ciC (dC c)).2.2/a9 u u)) from anN (by grind) (by grind)];exact o
theorem Lc{c d:BCU}(hc:gdN c)(hd:gdN d)(ha:c.1=true)(hb:d.1=true)(hn:nD (dC c) (dC d)≠0):∃(C W:PE) (P Q N:RE),(0<N/\0<P/\0<Q/\W.1*W.1+W.2*W.2=N*N)/\(N=rq (nD (dC c) (dC d))/\P*N=rq (ciC (dC c)).2.2/\Q*N=rq (ciC (dC d)).2.2)/\(C=vE (ctr (ciC (dC c)))/\(C.1+W.1,C.2+W.2)=vE (ctr (ciC (dC d))))/\
  (nT (dC c) (dC d)=true↔onE (dC c) (C.1+W.1*P,C.2+W.2*P))/\(fT (dC c) (dC d)=true↔onE (dC c) (C.1+W.1* -P,C.2+W.2* -P))/\
  (dM (dC d) (wyv (dC c) (dC d))=true↔onE (dC d) (C.1+W.1+W.1*Q,C.2+W.2+W.2*Q))/\(dM (dC d) (bkV (wyv (dC c) (dC d)))=true↔onE (dC d) (C.1+W.1+W.1* -Q,C.2+W.2+W.2* -Q)):=by
 have p0:=hc.cn ha;have q0:=hd.cn hb;have n0:0<=nD (dC c) (dC d):=jN _;have nn:0<nD (dC c) (dC d):=by grind
 have dw:a9 (wyv (dC c) (dC d)) (wyv (dC c) (dC d))=nD (dC c) (dC d):=rfl
 have db:a9 (bkV (wyv (dC c) (dC d))) (bkV (wyv (dC c) (dC d)))=nD (dC c) (dC d):=by
  rw[<-dw];unfold a9 bkV;grind
 have zw:zeV (wyv (dC c) (dC d))=false:=by
  cases z:zeV (wyv (dC c) (dC d))
  ·rfl
  ·obtain⟨z1,z2⟩:=anm.1 z;exact absurd (by rw[<-dw];unfold a9;rw[anf z1,anf z2];grind) hn
 have zb:zeV (bkV (wyv (dC c) (dC d)))=false:=by
  cases z:zeV (bkV (wyv (dC c) (dC d)))
  ·rfl
  ·obtain⟨z1,z2⟩:=anm.1 z;exact absurd (by rw[<-db];unfold a9;rw[anf z1,anf z2];grind) hn
 have rt:∀{x:Rat},0<=x->rq (x/nD (dC c) (dC d))*rq (nD (dC c) (dC d))=rq x:=λhx=>by rw[<-yX (Dk hx n0) n0,anx hn]
 have np:=Bv nn;have w1:of (ciC (dC d)).1=of (ciC (dC c)).1+of (wyv (dC c) (dC d)).1:=by rw[<-of_add];unfold wyv cV ctr;exact congrArg of (by grind)
 have w2:of (ciC (dC d)).2.1=of (ciC (dC c)).2.1+of (wyv (dC c) (dC d)).2:=by rw[<-of_add];unfold wyv cV ctr;exact congrArg of (by grind)
 have b1:of (bkV (wyv (dC c) (dC d))).1= -of (wyv (dC c) (dC d)).1:=of_neg _;have b2:of (bkV (wyv (dC c) (dC d))).2= -of (wyv (dC c) (dC d)).2:=of_neg _;have A:=xZ hc ha zw;have A':=xZ hc ha zb;have B:=xZ hd hb zw;have B':=xZ hd hb zb;rw[dw]at A B;rw[db,b1,b2]at A' B';rw[w1,w2]at B B';have sg1:∀x y z:RE,x+ -y*z=x+y* -z:=λx y z=>by grind
 rw[sg1,sg1]at A' B'
 have pos:∀{x:Rat},0<x->0<rq (x/nD (dC c) (dC d)):=λ{x} hx=>by
  have h:=rt (x:=x) (by grind);have:=Bv hx;rcases cJ (gS (x/nD (dC c) (dC d)))with g|g
  ·exact g
  ·rw[g]at h;grind
 refine⟨vE (ctr (ciC (dC c))),vE (wyv (dC c) (dC d)),rq ((ciC (dC c)).2.2/nD (dC c) (dC d)),rq ((ciC (dC d)).2.2/nD (dC c) (dC d)),rq (nD (dC c) (dC d)),⟨np,pos (hc.crp.q ha),pos (hd.crp.q hb),?_⟩,⟨rfl,rt p0,rt q0⟩,⟨rfl,?_⟩,A,A',B,B'⟩
 ·rw[dE n0,<-dw];show of _*of _+of _*of _=of _;unfold a9;rw[of_add,aC,aC]
 ·unfold vE;exact anN w1.symm w2.symm
theorem I8{c d:BCU}(hc:gdN c)(hd:gdN d)(ha:c.1=true)(hb:d.1=true)(hn:nD (dC c) (dC d)≠0){r:Rat}(hr:0<=r):tT (dC c) (dC d) r=min (min (v6 (nT (dC c) (dC d)&&dM (dC d) (bkV (wyv (dC c) (dC d)))) (tC (ciC (dC c)).2.2 (ciC (dC d)).2.2 (nD (dC c) (dC d)) r)) (v6 (nT (dC c) (dC d)&&dM (dC d) (wyv (dC c) (dC d))) (tC (nD (dC c) (dC d)) (ciC (dC d)).2.2 (ciC (dC c)).2.2 r))) (v6 (fT (dC c) (dC d)&&dM (dC d) (bkV (wyv (dC c) (dC d)))) (tC (nD (dC c) (dC d)) (ciC (dC c)).2.2 (ciC (dC d)).2.2 r)):=by
 have p0:=hc.cn ha;have q0:=hd.cn hb;have n0:0<=nD (dC c) (dC d):=jN _;unfold tT;rw[dF hn,cond_false,GR p0 q0 n0 hr,Int.max_comm (sS _ _ _ _),Int.max_comm (sS _ _ _ _),GR n0 q0 p0 hr,GR n0 p0 q0 hr]
theorem WA{c d:BCU}{m:RE}(hc:gdN c)(hd:gdN d)(ha:c.1=true)(hb:d.1=true)(h:Low c d m){r:Rat}(hr:0<=r):sg (m-of (r*r))<=tT (dC c) (dC d) r:=by
 by_cases hn:nD (dC c) (dC d)=0
 ·unfold tT;rw[dT hn];exact Hn _
 ·have p0:=hc.cn ha;have q0:=hd.cn hb;have n0:0<=nD (dC c) (dC d):=jN _;obtain⟨C,W,P,Q,N,⟨_,_,_,eW⟩,⟨eN,eP,eQ⟩,_,A,A',B,B'⟩:=Lc hc hd ha hb hn;rw[I8 hc hd ha hb hn hr]
  have t1:=xU (b:=nT (dC c) (dC d)&&dM (dC d) (bkV (wyv (dC c) (dC d)))) (x:=tC (ciC (dC c)).2.2 (ciC (dC d)).2.2 (nD (dC c) (dC d)) r) (y:=m-of (r*r)) λt=>by
   obtain⟨t1,t2⟩:=anm.1 t;have:=h _ _ (A.1 t1) (B'.1 t2);rw[tW p0 q0 n0 hr,<-aC,<-eP,<-eQ,<-eN];refine fZ (gD _ _ _ (le_trans this (ge ?_)));unfold dsE;dsimp only;grind
  have t2:=xU (b:=nT (dC c) (dC d)&&dM (dC d) (wyv (dC c) (dC d))) (x:=tC (nD (dC c) (dC d)) (ciC (dC d)).2.2 (ciC (dC c)).2.2 r) (y:=m-of (r*r)) λt=>by
   obtain⟨t1,t2⟩:=anm.1 t;have:=h _ _ (A.1 t1) (B.1 t2);rw[tW n0 q0 p0 hr,<-aC,<-eP,<-eQ,<-eN];refine fZ (gD _ _ _ (le_trans this (ge ?_)));unfold dsE;dsimp only;grind
  have t3:=xU (b:=fT (dC c) (dC d)&&dM (dC d) (bkV (wyv (dC c) (dC d)))) (x:=tC (nD (dC c) (dC d)) (ciC (dC c)).2.2 (ciC (dC d)).2.2 r) (y:=m-of (r*r)) λt=>by
   obtain⟨t1,t2⟩:=anm.1 t;have:=h _ _ (A'.1 t1) (B'.1 t2);rw[tW n0 p0 q0 hr,<-aC,<-eP,<-eQ,<-eN];refine fZ (gD _ _ _ (le_trans this (ge ?_)));unfold dsE;dsimp only;grind
  omega
theorem V3{c d:BCU}{m:RE}(hc:gdN c)(hd:gdN d)(h:Low c d m){r:Rat}(hr:0<=r):sg (m-of (r*r))<=jv (dC c) (dC d) r:=by
 have l1:=xG hd h (sd hc.e).1 hr;have l2:=xG hd h (sd hc.e).2 hr;have l3:=xG hc h.sym (sd hd.e).1 hr;have l4:=xG hc h.sym (sd hd.e).2 hr;have E:sg (m-of (r*r))<=uU (dC c) (dC d) r:=by unfold uU;omega
 have e1:(dC c).1=c.1:=rfl;have e2:(dC d).1=d.1:=rfl;unfold jv;rw[e1,e2];cases hx:c.1<;>cases hy:d.1<;>simp only[cond_true,cond_false]
 ·exact E
 ·exact Int.le_min.2 ⟨E,JW hc hd hx hy h hr⟩
 ·exact Int.le_min.2 ⟨E,JW hd hc hy hx h.sym hr⟩
 ·exact Int.le_min.2 ⟨E,WA hc hd hx hy h hr⟩
end
section
open RE
theorem UQ(c d:Cv)(r:Rat):jv c d r<=uU c d r:=by
 unfold jv;cases c.1<;>cases d.1<;>simp only[cond_true,cond_false]<;>omega
theorem ML{c d:BCU}(hd:gdN d){p q:PE}(hp:p=pR (frC (dC c))\/p=pR (toC (dC c)))(hq:onE (dC d) q){r:Rat}(hr:0<=r):jv (dC c) (dC d) r<=sg (dsE p q-of (r*r)):=by
 have h:=acm hd.e (p:=p) hq hr;rw[nh]at h;refine apW (UQ _ _ _) (apW ?_ h);unfold uU;rcases hp with rfl|rfl<;>omega
theorem aee{c:BCU}(h:gdN c){p q:PE}(hp:onE (dC c) p)(hm:∀x,onE (dC c) x->dsE p q<=dsE x q):(∃E,(E=pR (frC (dC c))\/E=pR (toC (dC c)))/\dsE E q<=dsE p q)\/(c.1=false/\tE (lnC (dC c)) p=tE (lnC (dC c)) q)\/(c.1=true/\∃k,0<k/\frm (ciC (dC c)) p=((frm (ciC (dC c)) q).1*k,(frm (ciC (dC c)) q).2*k)):=by
 have e:(dC c).1=c.1:=rfl;have en:(dsE (pR (frC (dC c))) q<=dsE p q\/dsE (pR (toC (dC c))) q<=dsE p q)->∃E,(E=pR (frC (dC c))\/E=pR (toC (dC c)))/\dsE E q<=dsE p q:=λg=>g.elim (λg=>⟨_,.inl rfl,g⟩) λg=>⟨_,.inr rfl,g⟩
 cases ha:c.1
 ·exact(P2 h.e (e.trans ha) hp hm).imp en λg=>.inl ⟨rfl,g⟩
 ·exact(So h.e (e.trans ha) hp hm).imp en λg=>.inr ⟨rfl,g⟩
theorem Hk{c d:BCU}(hc:gdN c)(hd:gdN d)(hs:cH (dC c) (dC d)=false)(hn:je c d=[]){p q:PE}(hp:onE (dC c) p)(hq:onE (dC d) q):p≠q:=λe=>XQ hc hd hs hp (e▸hq) hn
theorem QK{c d:BCU}(hc:gdN c)(hd:gdN d)(ec:c.1=false)(ed:d.1=true)(hn:je c d=[]){p q:PE}(hp:onE (dC c) p)(hq:onE (dC d) q)(ht:tE (lnC (dC c)) p=tE (lnC (dC c)) q){k:RE}(hk:frm (ciC (dC d)) q=((frm (ciC (dC d)) p).1*k,(frm (ciC (dC d)) p).2*k)){r:Rat}(hr:0<=r):xg (dC c) (dC d) r<=sg (dsE p q-of (r*r)):=by
 have sF:cH (dC c) (dC d)=false:=by
  unfold cH;rw[show(dC c).1=false from ec,show(dC d).1=true from ed];rfl
 have ne:=Hk hc hd sF hn hp hq;obtain⟨hl,_,_⟩:=hc.e.l (show(dC c).1=false from ec);have n0:0<nrE (lnC (dC c)):=pV hl;have f1:=congrArg of (Cf hl (ctr (ciC (dC d))));have f2:=congrArg of (Ia (lnC (dC c)) (ctr (ciC (dC d))));rw[of_add,aC,aC]at f1;rw[of_add,aC,aC,of_add,aC,aC,of_neg]at f2;have oL:eI (lnC (dC c)) (vE (ftv (dC c) (dC d))):=f1;have tL:tE (lnC (dC c)) (vE (ftv (dC c) (dC d)))=tE (lnC (dC c)) (vE (ctr (ciC (dC d)))):=f2;have oP:=(lm hp).1 ec;have e1:=congrArg Prod.fst hk;have e2:=congrArg Prod.snd hk;have a1:(frm (ciC (dC d)) p).1=p.1-(vE (ctr (ciC (dC d)))).1:=rfl;have a2:(frm (ciC (dC d)) p).2=p.2-(vE (ctr (ciC (dC d)))).2:=rfl;have b1:(frm (ciC (dC d)) q).1=q.1-(vE (ctr (ciC (dC d)))).1:=rfl;have b2:(frm (ciC (dC d)) q).2=q.2-(vE (ctr (ciC (dC d)))).2:=rfl;dsimp only at e1 e2;rw[a1,b1]at e1;rw[a2,b2]at e2;have k1:k-1≠0:=λz=>ne (anN (by grind) (by grind))
 have tp:tE (lnC (dC c)) p=tE (lnC (dC c)) (vE (ctr (ciC (dC d)))):=by
  have z:(k-1)*(tE (lnC (dC c)) p-tE (lnC (dC c)) (vE (ctr (ciC (dC d)))))=0:=by
   unfold tE at ht ⊢;grind
  have:=(cU z).resolve_left k1;grind
 have pe:p=vE (ftv (dC c) (dC d)):=MJ n0 oP oL (tp.trans tL.symm);have o:onP (dC c) (atP (ftv (dC c) (dC d)))=true:=(fU hc.e).2 (by rw[m7];rw[pe]at hp;exact hp);unfold xg;rw[o];show vF _ _ _<=_;rw[TF hd (Is hc.1.2 hd.1.2 ec ed) hr];have:=(Sg hd.e (ftv (dC c) (dC d))).2 q hq;rw[<-pe,nh]at this;exact fZ (gD _ _ _ this)
theorem aeb{c d:BCU}(hc:gdN c)(hd:gdN d)(ec:c.1=true)(ed:d.1=true)(hz:nD (dC c) (dC d)≠0){p q:PE}(ne:p≠q)(hp:onE (dC c) p)(hq:onE (dC d) q){k l:RE}(k0:0<k)(hk:frm (ciC (dC c)) p=((frm (ciC (dC c)) q).1*k,(frm (ciC (dC c)) q).2*k))(hl:frm (ciC (dC d)) q=((frm (ciC (dC d)) p).1*l,(frm (ciC (dC d)) p).2*l)){r:Rat}(hr:0<=r):tT (dC c) (dC d) r<=sg (dsE p q-of (r*r)):=by
 have p0:=hc.cn ec;have q0:=hd.cn ed;have n0:0<=nD (dC c) (dC d):=jN _;obtain⟨C,W,P,Q,N,⟨N0,P0,Q0,eW⟩,⟨eN,eP,eQ⟩,⟨eC,eD⟩,A,A',B,B'⟩:=Lc hc hd ec ed hz;have oc:(frm (ciC (dC c)) p).1*(frm (ciC (dC c)) p).1+(frm (ciC (dC c)) p).2*(frm (ciC (dC c)) p).2=of (ciC (dC c)).2.2:=(lm hp).2 ec;have od:(frm (ciC (dC d)) q).1*(frm (ciC (dC d)) q).1+(frm (ciC (dC d)) q).2*(frm (ciC (dC d)) q).2=of (ciC (dC d)).2.2:=(lm hq).2 ed;rw[<-dE p0,<-eP]at oc;rw[<-dE q0,<-eQ]at od;have f1:∀x:PE,frm (ciC (dC c)) x=(x.1-C.1,x.2-C.2):=λx=>by rw[eC];rfl
 have f2:∀x:PE,frm (ciC (dC d)) x=(x.1-(C.1+W.1),x.2-(C.2+W.2)):=λx=>by
  have g1:=congrArg Prod.fst eD;have g2:=congrArg Prod.snd eD;dsimp only at g1 g2;rw[g1,g2];rfl
 rw[f1]at oc;rw[f2]at od;rw[f1,f1]at hk;rw[f2,f2]at hl;have h1:=congrArg Prod.fst hk;have h2:=congrArg Prod.snd hk;have h3:=congrArg Prod.fst hl;have h4:=congrArg Prod.snd hl;dsimp only at h1 h2 h3 h4 oc od;obtain⟨u0,u1⟩:=iI k0;generalize ivE k=u at*
 have g1:q.1-C.1=(p.1-C.1)*u:=by
  have:(q.1-C.1)*k*u=(q.1-C.1)*(k*u):=by grind
  rw[h1,this,u1,mul_one]
 have g2:q.2-C.2=(p.2-C.2)*u:=by
  have:(q.2-C.2)*k*u=(q.2-C.2)*(k*u):=by grind
  rw[h2,this,u1,mul_one]
 clear h1 h2 hk hl f1 f2 eC eD;have l1:l-1≠0:=λz=>ne (anN (by grind) (by grind));have m1:(p.1-C.1)*(l-u)=W.1*(l-1):=by grind
 have m2:(p.2-C.2)*(l-u)=W.2*(l-1):=by grind
 have lu:l-u≠0:=λz=>by
  rw[z]at m1 m2;have w1:W.1=0:=(cU (show W.1*(l-1)=0 by grind)).resolve_right l1;have w2:W.2=0:=(cU (show W.2*(l-1)=0 by grind)).resolve_right l1;rw[w1,w2]at eW;have:=mul_pos N0 N0;grind
 obtain⟨i,hi⟩:=GK lu
 have a1:p.1-C.1=W.1*((l-1)*i):=by
  have:(p.1-C.1)*(l-u)*i=(p.1-C.1)*((l-u)*i):=by grind
  rw[m1,hi,mul_one]at this;grind
 have a2:p.2-C.2=W.2*((l-1)*i):=by
  have:(p.2-C.2)*(l-u)*i=(p.2-C.2)*((l-u)*i):=by grind
  rw[m2,hi,mul_one]at this;grind
 generalize (l-1)*i=α at*
 have b1:q.1=C.1+W.1+W.1*(α*u-1):=by rw[a1]at g1;grind
 have b2:q.2=C.2+W.2+W.2*(α*u-1):=by rw[a2]at g2;grind
 have p1:p.1=C.1+W.1*α:=by grind
 have p2:p.2=C.2+W.2*α:=by grind
 have NN:=mul_pos N0 N0
 have rt:∀{x y:RE},x*x*(N*N)=y*N*(y*N)->x=y\/x= -y:=λ{x y} h=>by
  have z:(x-y)*(x+y)*(N*N)=0:=by grind
  rcases cU ((cU z).resolve_right (by grind))with g|g
  ·exact .inl (by grind)
  ·exact .inr (by grind)
 have al:α=P\/α= -P:=rt (by rw[<-oc,a1,a2,<-eW];grind)
 have be:α*u-1=Q\/α*u-1= -Q:=rt (by
  rw[<-od,b1,b2,<-eW];grind)
 generalize hβ:α*u-1=β at*
 have ds:dsE p q=N*N*((α-1-β)*(α-1-β)):=by
  rw[<-eW];unfold dsE;rw[p1,p2,b1,b2];grind
 rw[I8 hc hd ec ed hz hr,ds];have pe:p=(C.1+W.1*α,C.2+W.2*α):=anN p1 p2;have qe:q=(C.1+W.1+W.1*β,C.2+W.2+W.2*β):=anN b1 b2;rw[pe]at hp;rw[qe]at hq;rcases al with rfl|rfl<;>rcases be with rfl|rfl
 ·have t:(nT (dC c) (dC d)&&dM (dC d) (wyv (dC c) (dC d)))=true:=anm.2 ⟨A.2 hp,B.2 hq⟩;rw[t]
  have x:v6 true (tC (nD (dC c) (dC d)) (ciC (dC d)).2.2 (ciC (dC c)).2.2 r)=sg (N*N*((α-1-β)*(α-1-β))-of (r*r)):=by
   show tC _ _ _ _=_;rw[tW n0 q0 p0 hr,<-aC,<-eP,<-eQ,<-eN];exact congrArg (λz=>sg (z-of (r*r))) (by grind)
  rw[x];omega
 ·have t:(nT (dC c) (dC d)&&dM (dC d) (bkV (wyv (dC c) (dC d))))=true:=anm.2 ⟨A.2 hp,B'.2 hq⟩;rw[t]
  have x:v6 true (tC (ciC (dC c)).2.2 (ciC (dC d)).2.2 (nD (dC c) (dC d)) r)=sg (N*N*((α-1- -Q)*(α-1- -Q))-of (r*r)):=by
   show tC _ _ _ _=_;rw[tW p0 q0 n0 hr,<-aC,<-eP,<-eQ,<-eN];exact congrArg (λz=>sg (z-of (r*r))) (by grind)
  rw[x];omega
 ·exfalso;have:=mul_pos P0 u0;grind
 ·have t:(fT (dC c) (dC d)&&dM (dC d) (bkV (wyv (dC c) (dC d))))=true:=anm.2 ⟨A'.2 hp,B'.2 hq⟩;rw[t]
  have x:v6 true (tC (nD (dC c) (dC d)) (ciC (dC c)).2.2 (ciC (dC d)).2.2 r)=sg (N*N*((-P-1- -Q)*(-P-1- -Q))-of (r*r)):=by
   show tC _ _ _ _=_;rw[tW n0 p0 q0 hr,<-aC,<-eP,<-eQ,<-eN];exact congrArg (λz=>sg (z-of (r*r))) (by grind)
  rw[x];omega
end
section
open RE
namespace RE
theorem zJ{a b c d e f:RE}(hb:0<b)(hd:0<d)(hf:0<f)(h1:0<=a*d-b*c)(h2:0<=c*f-d*e):0<=a*f-b*e:=by
 have g1:=aD h1 (le_of_lt hf);have g2:=aD h2 (le_of_lt hb);refine kR hd ?_;grind
theorem XA{f w g v z:PE}(hf:0<dtE f f)(hw:dtE w w=dtE f f)(hn:f≠w)(hg:dtE g g=dtE f f)(hv:dtE v v=dtE f f)(hm:g≠v)(hz:dtE z z=dtE f f)(s1:fx f w z=true)(s2:fx g v z=true):fx g v f=true\/fx f w g=true:=by
 by_cases e1:f=z
 ·exact .inl (e1▸s2)
 by_cases e2:g=z
 ·exact .inr (e2▸s1)
 by_cases e3:g=f
 ·exact .inl (e3▸(gP g v).1)
 have hg0:0<dtE g g:=by rw[hg];exact hf
 have t1:=(fJ hf hw hn hz e1).1 s1;have t2:=(fJ hg0 (hv.trans hg.symm) hm (hz.trans hg.symm) e2).1 s2;have b1:=fX (f:=g) (w:=f) hg.symm e3 hg0;have b2:=fX (f:=g) (w:=z) (hz.trans hg.symm) e2 hg0;have b3:=fX (f:=g) (w:=v) (hv.trans hg.symm) hm hg0;have d1:=fX (f:=f) (w:=g) hg (aoO e3) hf;have d2:=fX (f:=f) (w:=z) hz e1 hf;have d3:=fX (f:=f) (w:=w) hw hn hf;rcases lt_or_ge (crs (hlf g f) (hlf g z)) 0 with q|q
 ·refine .inr ((fJ hf hw hn hg (aoO e3)).2 ?_);rw[xo]at q
  have q2:0<=crs (hlf f g) (hlf f z):=by
   rw[xo]
   have a:crs f g+crs g z+crs z f= -(crs g f+crs f z+crs z g):=by
    unfold crs;grind
   rw[a];have:=IY (x:=crs g f+crs f z+crs z g) hg0 (by rw[mul_comm];exact q);exact aD (le_of_lt hf) (by grind)
  exact zJ d1 d2 d3 q2 t1
 ·exact .inl ((fJ hg0 (hv.trans hg.symm) hm hg.symm e3).2 (zJ b1 b2 b3 q t2))
end RE
end
section
open RE
namespace RE
theorem Tj{F T G q x:RE}(h1:btE F T G)(h2:btE F T q)(h:btE G q x):btE F T x:=by
 unfold btE at*
 grind
theorem AY{c:Cv}(_h:GdE c)(ha:c.1=false){p q E G:PE}(hq:onE c q)(hG:onE c G)(hp:of (lnC c).1*(E.1-p.1)+of (lnC c).2.1*(E.2-p.2)=0)(ht:tE (lnC c) p=tE (lnC c) q)(hb:btE (tE (lnC c) G) (tE (lnC c) q) (tE (lnC c) E)):∃Q,onE c Q/\dsE E Q=dsE p q:=by
 rw[jQ ha]at hq hG ⊢;refine⟨(q.1+(E.1-p.1),q.2+(E.2-p.2)),⟨?_,?_⟩,?_⟩
 ·have o:=hq.1;unfold eI at o ⊢;dsimp only;grind
 ·have e:tE (lnC c) (q.1+(E.1-p.1),q.2+(E.2-p.2))=tE (lnC c) E:=by
   unfold tE at ht ⊢;dsimp only;grind
  rw[e];exact Tj hG.2 hq.2 hb
 ·unfold dsE;dsimp only;grind
theorem JV(a b x:PE){r:RE}(hr:0<r):fx (a.1*r,a.2*r) (b.1*r,b.2*r) x=fx a b x:=by
 have e1:crs (a.1*r,a.2*r) (b.1*r,b.2*r)=r*(r*crs a b):=by unfold crs;dsimp only;grind
 have e2:crs (a.1*r,a.2*r) x=r*crs a x:=by unfold crs;dsimp only;grind
 have e3:crs x (b.1*r,b.2*r)=r*crs x b:=by unfold crs;dsimp only;grind
 unfold fx;rw[e1,e2,e3,gZ hr,gZ hr,gZ hr,gZ hr]
end RE
theorem xI{c d:BCU}(hc:gdN c)(hd:gdN d){p q:PE}{r:Rat}(hr:0<=r)(h:(∃E Q,(E=pR (frC (dC c))\/E=pR (toC (dC c)))/\onE (dC d) Q/\dsE E Q<=dsE p q)\/∃E Q,(E=pR (frC (dC d))\/E=pR (toC (dC d)))/\onE (dC c) Q/\dsE E Q<=dsE p q):jv (dC c) (dC d) r<=sg (dsE p q-of (r*r)):=by
 rcases h with⟨E,Q,hE,hQ,h⟩|⟨E,Q,hE,hQ,h⟩
 ·exact apW (ML hd hE hQ hr) (fZ (gD _ _ _ h))
 ·rw[<-Vh hc hd hr];exact apW (ML hc hE hQ hr) (fZ (gD _ _ _ h))
theorem afz{c d:BCU}(hc:gdN c)(hd:gdN d)(ec:c.1=false)(ed:d.1=false)(hn:je c d=[]){p q:PE}(hp:onE (dC c) p)(hq:onE (dC d) q)(h1:tE (lnC (dC c)) p=tE (lnC (dC c)) q)(h2:tE (lnC (dC d)) q=tE (lnC (dC d)) p){r:Rat}(hr:0<=r):jv (dC c) (dC d) r<=sg (dsE p q-of (r*r)):=by
 have ec':(dC c).1=false:=ec;have ed':(dC d).1=false:=ed;obtain⟨hl,_,_⟩:=hc.e.l ec';obtain⟨hm,_,_⟩:=hd.e.l ed';have nl:0<nrE (lnC (dC c)):=pV hl;have nm:0<nrE (lnC (dC d)):=pV hm;by_cases hX:of (lnC (dC c)).1*of (lnC (dC d)).2.1-of (lnC (dC c)).2.1*of (lnC (dC d)).1=0
 ·refine xI hc hd hr ?_;have oP:=(lm hp).1 ec;have oQ:=(lm hq).1 ed;obtain⟨eF,eT⟩:=sd hc.e;obtain⟨gF,gT⟩:=sd hd.e;have bp:=hp;have bq:=hq;rw[jQ ec']at bp;rw[jQ ed']at bq;have bp:=bp.2;have bq:=bq.2
  have fac:∀x:PE,nrE (lnC (dC c))*tE (lnC (dC d)) x=(of (lnC (dC c)).1*of (lnC (dC d)).1+of (lnC (dC c)).2.1*of (lnC (dC d)).2.1)*tE (lnC (dC c)) x:=λx=>by
   have:nrE (lnC (dC c))*tE (lnC (dC d)) x=(of (lnC (dC c)).1*of (lnC (dC d)).1+of (lnC (dC c)).2.1*of (lnC (dC d)).2.1)*tE (lnC (dC c)) x-(of (lnC (dC c)).1*of (lnC (dC d)).2.1-of (lnC (dC c)).2.1*of (lnC (dC d)).1)*(of (lnC (dC c)).1*x.1+of (lnC (dC c)).2.1*x.2):=by
    unfold nrE tE;grind
   rw[this,hX];grind
  have fac2:nrE (lnC (dC c))*nrE (lnC (dC d))=(of (lnC (dC c)).1*of (lnC (dC d)).1+of (lnC (dC c)).2.1*of (lnC (dC d)).2.1)*(of (lnC (dC c)).1*of (lnC (dC d)).1+of (lnC (dC c)).2.1*of (lnC (dC d)).2.1):=by
   have:nrE (lnC (dC c))*nrE (lnC (dC d))=(of (lnC (dC c)).1*of (lnC (dC d)).1+of (lnC (dC c)).2.1*of (lnC (dC d)).2.1)*(of (lnC (dC c)).1*of (lnC (dC d)).1+of (lnC (dC c)).2.1*of (lnC (dC d)).2.1)+(of (lnC (dC c)).1*of (lnC (dC d)).2.1-of (lnC (dC c)).2.1*of (lnC (dC d)).1)*(of (lnC (dC c)).1*of (lnC (dC d)).2.1-of (lnC (dC c)).2.1*of (lnC (dC d)).1):=by
    unfold nrE;grind
   rw[this,hX];grind
  have perp1:∀x y:PE,eI (lnC (dC c)) x->eI (lnC (dC c)) y->of (lnC (dC d)).1*(x.1-y.1)+of (lnC (dC d)).2.1*(x.2-y.2)=0:=λx y ox oy=>by
   have:nrE (lnC (dC c))*(of (lnC (dC d)).1*(x.1-y.1)+of (lnC (dC d)).2.1*(x.2-y.2))=(of (lnC (dC c)).1*of (lnC (dC d)).1+of (lnC (dC c)).2.1*of (lnC (dC d)).2.1)*(of (lnC (dC c)).1*(x.1-y.1)+of (lnC (dC c)).2.1*(x.2-y.2))+(of (lnC (dC c)).1*of (lnC (dC d)).2.1-of (lnC (dC c)).2.1*of (lnC (dC d)).1)*(of (lnC (dC c)).1*(x.2-y.2)-of (lnC (dC c)).2.1*(x.1-y.1)):=by
    unfold nrE;grind
   unfold eI at ox oy;rw[hX,show of (lnC (dC c)).1*(x.1-y.1)+of (lnC (dC c)).2.1*(x.2-y.2)=0 by grind]at this;exact(cU (show nrE (lnC (dC c))*_=0 by rw[this];grind)).resolve_left (by grind)
  have perp2:∀x y:PE,eI (lnC (dC d)) x->eI (lnC (dC d)) y->of (lnC (dC c)).1*(x.1-y.1)+of (lnC (dC c)).2.1*(x.2-y.2)=0:=λx y ox oy=>by
   have:nrE (lnC (dC d))*(of (lnC (dC c)).1*(x.1-y.1)+of (lnC (dC c)).2.1*(x.2-y.2))=(of (lnC (dC c)).1*of (lnC (dC d)).1+of (lnC (dC c)).2.1*of (lnC (dC d)).2.1)*(of (lnC (dC d)).1*(x.1-y.1)+of (lnC (dC d)).2.1*(x.2-y.2))-(of (lnC (dC c)).1*of (lnC (dC d)).2.1-of (lnC (dC c)).2.1*of (lnC (dC d)).1)*(of (lnC (dC d)).1*(x.2-y.2)-of (lnC (dC d)).2.1*(x.1-y.1)):=by
    unfold nrE;grind
   unfold eI at ox oy;rw[hX,show of (lnC (dC d)).1*(x.1-y.1)+of (lnC (dC d)).2.1*(x.2-y.2)=0 by grind]at this;exact(cU (show nrE (lnC (dC d))*_=0 by rw[this];grind)).resolve_left (by grind)
  generalize of (lnC (dC c)).1*of (lnC (dC d)).1+of (lnC (dC c)).2.1*of (lnC (dC d)).2.1=κ at*
  have κ0:κ≠0:=λz=>by
   have:=mul_pos nl nm;rw[fac2,z]at this;grind
  have le12:∀x y:PE,tE (lnC (dC c)) x<=tE (lnC (dC c)) y->(0<κ->tE (lnC (dC d)) x<=tE (lnC (dC d)) y)/\(κ<0->tE (lnC (dC d)) y<=tE (lnC (dC d)) x):=λx y h=>by
   have f1:=fac x;have f2:=fac y;constructor<;>intro k
   ·have:=aD (le_of_lt k) (show 0<=tE (lnC (dC c)) y-tE (lnC (dC c)) x by grind);have:=kR (x:=tE (lnC (dC d)) y-tE (lnC (dC d)) x) nl (by grind);grind
   ·have:=aD (show 0<= -κ by grind) (show 0<=tE (lnC (dC c)) y-tE (lnC (dC c)) x by grind);have:=kR (x:=tE (lnC (dC d)) x-tE (lnC (dC d)) y) nl (by grind);grind
  have le21:∀x y:PE,tE (lnC (dC d)) x<=tE (lnC (dC d)) y->(0<κ->tE (lnC (dC c)) x<=tE (lnC (dC c)) y)/\(κ<0->tE (lnC (dC c)) y<=tE (lnC (dC c)) x):=λx y h=>by
   have f1:=fac x;have f2:=fac y;have g:=aD (le_of_lt nl) (show 0<=tE (lnC (dC d)) y-tE (lnC (dC d)) x by grind);constructor<;>intro k
   ·have:=kR (x:=tE (lnC (dC c)) y-tE (lnC (dC c)) x) k (by grind);grind
   ·have:=kR (x:=tE (lnC (dC c)) x-tE (lnC (dC c)) y) (show 0< -κ by grind) (by grind);grind
  have sgn:0<κ\/κ<0:=by
   rcases lt_or_ge 0 κ with g|g
   ·exact .inl g
   ·exact .inr (by
     rcases cJ (show 0<= -κ by grind)with k|k
     ·grind
     ·exact absurd (by grind) κ0)
  obtain⟨E,hE,oE,lE⟩:∃E,(E=pR (frC (dC c))\/E=pR (toC (dC c)))/\onE (dC c) E/\tE (lnC (dC c)) E<=tE (lnC (dC c)) p:=by
   rcases bp with⟨b1,_⟩|⟨b1,_⟩
   ·exact⟨_,.inl rfl,eF,b1⟩
   ·exact⟨_,.inr rfl,eT,b1⟩
  obtain⟨G,hG,oG,lG⟩:∃G,(G=pR (frC (dC d))\/G=pR (toC (dC d)))/\onE (dC d) G/\tE (lnC (dC c)) G<=tE (lnC (dC c)) q:=by
   rcases bq with⟨b1,b2⟩|⟨b1,b2⟩<;>rcases sgn with k|k
   ·exact⟨_,.inl rfl,gF,(le21 _ _ b1).1 k⟩
   ·exact⟨_,.inr rfl,gT,(le21 _ _ b2).2 k⟩
   ·exact⟨_,.inr rfl,gT,(le21 _ _ b1).1 k⟩
   ·exact⟨_,.inl rfl,gF,(le21 _ _ b2).2 k⟩
  rcases lt_or_ge (tE (lnC (dC c)) G) (tE (lnC (dC c)) E)with k|k
  ·have lq:tE (lnC (dC c)) E<=tE (lnC (dC c)) q:=by rw[<-h1];exact lE
   obtain⟨Q,hQ,e⟩:=AY hd.e ed' (p:=p) (E:=E) hq oG (perp1 _ _ ((lm oE).1 ec) oP) h2.symm (by
    rcases sgn with s|s
    ·exact .inl ⟨(le12 _ _ (le_of_lt k)).1 s,(le12 _ _ lq).1 s⟩
    ·exact .inr ⟨(le12 _ _ lq).2 s,(le12 _ _ (le_of_lt k)).2 s⟩)
   exact .inl ⟨E,Q,hE,hQ,ge e⟩
  ·have lp:tE (lnC (dC c)) G<=tE (lnC (dC c)) p:=by rw[h1];exact lG
   obtain⟨Q,hQ,e⟩:=AY hc.e ec' (p:=q) (E:=G) hp oE (perp2 _ _ ((lm oG).1 ed) oQ) h1.symm (.inl ⟨k,lp⟩);exact .inr ⟨G,Q,hG,hQ,ge (by rw[e,nh])⟩
 ·exfalso
  have sF:cH (dC c) (dC d)=false:=by
   cases hs:cH (dC c) (dC d)
   ·rfl
   ·exfalso;unfold cH at hs;rw[ec',ed']at hs;have hs:pq (lnC (dC c)) (lnC (dC d))=true:=hs;have:=anf (anm.1 hs).1;exact hX (by rw[<-aC,this,aC];grind)
  refine Hk hc hd sF hn hp hq ?_;unfold tE at h1 h2;have z1:(of (lnC (dC c)).1*of (lnC (dC d)).2.1-of (lnC (dC c)).2.1*of (lnC (dC d)).1)*(p.1-q.1)=0:=by grind
  have z2:(of (lnC (dC c)).1*of (lnC (dC d)).2.1-of (lnC (dC c)).2.1*of (lnC (dC d)).1)*(p.2-q.2)=0:=by grind
  have y1:=(cU z1).resolve_left hX;have y2:=(cU z2).resolve_left hX;exact anN (by grind) (by grind)
end
section
open RE
theorem adc{c d:BCU}(hc:gdN c)(hd:gdN d)(ec:c.1=true)(ed:d.1=true)(hz:nD (dC c) (dC d)=0){p q:PE}(hp:onE (dC c) p)(hq:onE (dC d) q){k:RE}(k0:0<k)(hk:frm (ciC (dC c)) p=((frm (ciC (dC c)) q).1*k,(frm (ciC (dC c)) q).2*k)){r:Rat}(hr:0<=r):jv (dC c) (dC d) r<=sg (dsE p q-of (r*r)):=by
 have ec':(dC c).1=true:=ec;have ed':(dC d).1=true:=ed;have gc:=vK hc.e ec';have gd:=vK hd.e ed'
 have e0:(ciC (dC c)).1=(ciC (dC d)).1/\(ciC (dC c)).2.1=(ciC (dC d)).2.1:=by
  have h:((ciC (dC d)).1-(ciC (dC c)).1)*((ciC (dC d)).1-(ciC (dC c)).1)+((ciC (dC d)).2.1-(ciC (dC c)).2.1)*((ciC (dC d)).2.1-(ciC (dC c)).2.1)=0:=hz;have h:=congrArg of h;rw[of_add,aC,aC]at h;obtain⟨a,b⟩:=lc (x:=of ((ciC (dC d)).1-(ciC (dC c)).1)) (y:=of ((ciC (dC d)).2.1-(ciC (dC c)).2.1)) h;have a:=lL (b:=0) a;have b:=lL (b:=0) b;exact⟨by grind,by grind⟩
 have ef:∀x,frm (ciC (dC d)) x=frm (ciC (dC c)) x:=λx=>by unfold frm;rw[e0.1,e0.2]
 refine xI hc hd hr ?_;rw[ij ec']at hp;rw[ij ed']at hq;obtain⟨op,sp⟩:=hp;obtain⟨oq,sq⟩:=hq;have op:dtE (frm (ciC (dC c)) p) (frm (ciC (dC c)) p)=of (ciC (dC c)).2.2:=op;have oq:dtE (frm (ciC (dC d)) q) (frm (ciC (dC d)) q)=of (ciC (dC d)).2.2:=oq;have fu:dtE (frm (ciC (dC c)) (pR (ccF (dC c)))) (frm (ciC (dC c)) (pR (ccF (dC c))))=of (ciC (dC c)).2.2:=gc.u;have fw:dtE (frm (ciC (dC c)) (pR (ccT (dC c)))) (frm (ciC (dC c)) (pR (ccT (dC c))))=of (ciC (dC c)).2.2:=gc.w;have gu:dtE (frm (ciC (dC d)) (pR (ccF (dC d)))) (frm (ciC (dC d)) (pR (ccF (dC d))))=of (ciC (dC d)).2.2:=gd.u;have gw:dtE (frm (ciC (dC d)) (pR (ccT (dC d)))) (frm (ciC (dC d)) (pR (ccT (dC d))))=of (ciC (dC d)).2.2:=gd.w;have ne1:=gc.ne;have ne2:=gd.ne;have Rp:=fS gc.q;simp only[ef]at oq gu gw sq ne2;have R0:0<of (ciC (dC c)).2.2:=Rp;obtain⟨u0,u1⟩:=iI k0;have sc:∀(a:PE) (x:RE),dtE (a.1*x,a.2*x) (a.1*x,a.2*x)=dtE a a*(x*x):=λa x=>by unfold dtE;dsimp only;grind
 have RR:of (ciC (dC d)).2.2*(k*k)=of (ciC (dC c)).2.2:=by
  rw[<-oq,<-op,hk,sc]
 have qe:frm (ciC (dC c)) q=((frm (ciC (dC c)) p).1*ivE k,(frm (ciC (dC c)) p).2*ivE k):=by
  rw[hk];have e:∀x:RE,x*k*ivE k=x:=λx=>by rw[mul_assoc,u1,mul_one]
  exact anN (e _).symm (e _).symm
 have ne2':((frm (ciC (dC c)) (pR (ccF (dC d)))).1*k,(frm (ciC (dC c)) (pR (ccF (dC d)))).2*k)≠((frm (ciC (dC c)) (pR (ccT (dC d)))).1*k,(frm (ciC (dC c)) (pR (ccT (dC d)))).2*k):=λh=>by
  have h1:=congrArg Prod.fst h;have h2:=congrArg Prod.snd h;dsimp only at h1 h2
  have e:∀{x y:RE},x*k=y*k->x=y:=λ{x y} h=>by
   have:=(cU (show(x-y)*k=0 by grind)).resolve_right (by grind);grind
  exact ne2 (anN (e h1) (e h2))
 have s2:fx ((frm (ciC (dC c)) (pR (ccF (dC d)))).1*k,(frm (ciC (dC c)) (pR (ccF (dC d)))).2*k) ((frm (ciC (dC c)) (pR (ccT (dC d)))).1*k,(frm (ciC (dC c)) (pR (ccT (dC d)))).2*k) (frm (ciC (dC c)) p)=true:=by
  rw[JV _ _ _ k0,hk,ow _ _ _ k0];exact sq
 have ov:=XA (f:=frm (ciC (dC c)) (pR (ccF (dC c)))) (w:=frm (ciC (dC c)) (pR (ccT (dC c)))) (z:=frm (ciC (dC c)) p) (by rw[fu];exact R0) (by rw[fw,fu]) ne1 (by rw[sc,gu,fu];exact RR) (by rw[sc,gw,fu];exact RR) ne2' (by rw[op,fu]) sp s2;have ft:∀(z:PE),frm (ciC (dC c)) (z.1+of (ciC (dC c)).1,z.2+of (ciC (dC c)).2.1)=z:=λz=>anN (by show _+_-_=_;grind) (by show _+_-_=_;grind)
 have ds:∀x y:PE,dsE x y=dtE ((frm (ciC (dC c)) x).1-(frm (ciC (dC c)) y).1,(frm (ciC (dC c)) x).2-(frm (ciC (dC c)) y).2) ((frm (ciC (dC c)) x).1-(frm (ciC (dC c)) y).1,(frm (ciC (dC c)) x).2-(frm (ciC (dC c)) y).2):=λx y=>by
  unfold dsE dtE frm;dsimp only;grind
 have en:∀{a:BCU},pR (ccF (dC a))=pR (frC (dC a))\/pR (ccF (dC a))=pR (toC (dC a)):=λ{a}=>by
  rcases mf (dC a)with⟨g,_⟩|⟨g,_⟩<;>rw[g]
  ·exact .inl rfl
  ·exact .inr rfl
 rcases ov with o|o
 ·rw[JV _ _ _ k0]at o;refine .inl ⟨pR (ccF (dC c)),((frm (ciC (dC c)) (pR (ccF (dC c)))).1*ivE k+of (ciC (dC c)).1,(frm (ciC (dC c)) (pR (ccF (dC c)))).2*ivE k+of (ciC (dC c)).2.1),en,?_,ge ?_⟩
  ·rw[ij ed'];have e:=ft ((frm (ciC (dC c)) (pR (ccF (dC c)))).1*ivE k,(frm (ciC (dC c)) (pR (ccF (dC c)))).2*ivE k);dsimp only at e;refine⟨?_,?_⟩
   ·show dtE (frm (ciC (dC d)) _) (frm (ciC (dC d)) _)=_;rw[ef,e,sc,fu,<-RR];have:of (ciC (dC d)).2.2*(k*k)*(ivE k*ivE k)=of (ciC (dC d)).2.2*((k*ivE k)*(k*ivE k)):=by grind
    rw[this,u1,mul_one,mul_one]
   ·rw[ef,ef,ef,e,ow _ _ _ u0];exact o
  ·have e:=ft ((frm (ciC (dC c)) (pR (ccF (dC c)))).1*ivE k,(frm (ciC (dC c)) (pR (ccF (dC c)))).2*ivE k);dsimp only at e;rw[ds,ds,e,qe];have f:∀a:PE,dtE (a.1-a.1*ivE k,a.2-a.2*ivE k) (a.1-a.1*ivE k,a.2-a.2*ivE k)=dtE a a*((1-ivE k)*(1-ivE k)):=λa=>by unfold dtE;dsimp only;grind
   dsimp only;rw[f,f,fu,op]
 ·refine .inr ⟨pR (ccF (dC d)),((frm (ciC (dC c)) (pR (ccF (dC d)))).1*k+of (ciC (dC c)).1,(frm (ciC (dC c)) (pR (ccF (dC d)))).2*k+of (ciC (dC c)).2.1),en,?_,ge ?_⟩
  ·rw[ij ec'];have e:=ft ((frm (ciC (dC c)) (pR (ccF (dC d)))).1*k,(frm (ciC (dC c)) (pR (ccF (dC d)))).2*k);dsimp only at e;refine⟨?_,?_⟩
   ·show dtE (frm (ciC (dC c)) _) (frm (ciC (dC c)) _)=_;rw[e,sc,gu,RR]
   ·rw[e];exact o
  ·have e:=ft ((frm (ciC (dC c)) (pR (ccF (dC d)))).1*k,(frm (ciC (dC c)) (pR (ccF (dC d)))).2*k);dsimp only at e;rw[ds,ds,e,hk];have f:∀a:PE,dtE (a.1-a.1*k,a.2-a.2*k) (a.1-a.1*k,a.2-a.2*k)=dtE a a*((1-k)*(1-k)):=λa=>by unfold dtE;dsimp only;grind
   have f':∀a:PE,dtE (a.1*k-a.1,a.2*k-a.2) (a.1*k-a.1,a.2*k-a.2)=dtE a a*((1-k)*(1-k)):=λa=>by unfold dtE;dsimp only;grind
   dsimp only;rw[f,f',gu,oq]
theorem ad4{c d:BCU}(hc:gdN c)(hd:gdN d)(hn:je c d=[]){p q:PE}(hp:onE (dC c) p)(hq:onE (dC d) q)(hm:∀p' q',onE (dC c) p'->onE (dC d) q'->dsE p q<=dsE p' q'){r:Rat}(hr:0<=r):jv (dC c) (dC d) r<=sg (dsE p q-of (r*r)):=by
 have n1:=aee hc hp λx hx=>hm x q hx hq;have n2:=aee hd hq (q:=p) λx hx=>by rw[nh,nh x];exact hm p x hp hx
 rcases n1 with⟨E,hE,h⟩|n1
 ·exact xI hc hd hr (.inl ⟨E,q,hE,hq,h⟩)
 rcases n2 with⟨E,hE,h⟩|n2
 ·exact xI hc hd hr (.inr ⟨E,p,hE,hp,by rw[nh p q];exact h⟩)
 have o1:c.1=false->d.1=true->jv (dC c) (dC d) r<=xg (dC c) (dC d) r:=λa b=>by
  unfold jv;rw[show(dC c).1=false from a,show(dC d).1=true from b];simp only[cond_true,cond_false];omega
 have o2:c.1=true->d.1=false->jv (dC c) (dC d) r<=xg (dC d) (dC c) r:=λa b=>by
  unfold jv;rw[show(dC c).1=true from a,show(dC d).1=false from b];simp only[cond_true,cond_false];omega
 have o3:c.1=true->d.1=true->jv (dC c) (dC d) r<=tT (dC c) (dC d) r:=λa b=>by
  unfold jv;rw[show(dC c).1=true from a,show(dC d).1=true from b];simp only[cond_true];omega
 rcases n1 with⟨ec,h1⟩|⟨ec,k,k0,hk⟩<;>rcases n2 with⟨ed,h2⟩|⟨ed,l,l0,hl⟩
 ·exact afz hc hd ec ed hn hp hq h1 h2 hr
 ·exact apW (o1 ec ed) (QK hc hd ec ed hn hp hq h1 hl hr)
 ·have:=QK hd hc ed ec (Ro hc hd hn) hq hp h2 hk hr;rw[nh]at this;exact apW (o2 ec ed) this
 ·by_cases hz:nD (dC c) (dC d)=0
  ·exact adc hc hd ec ed hz hp hq k0 hk hr
  ·have sF:cH (dC c) (dC d)=false:=by
    cases hs:cH (dC c) (dC d)
    ·rfl
    ·exfalso;unfold cH at hs;rw[show(dC c).1=true from ec,show(dC d).1=true from ed]at hs;have hs:qV (ciC (dC c)) (ciC (dC d))=true:=hs;obtain⟨s1,s2⟩:=anm.1 hs;have s1:=anf s1;have s2:=anf (anm.1 s2).1;refine hz ?_;show a9 (wyv (dC c) (dC d)) (wyv (dC c) (dC d))=0;unfold a9 wyv cV ctr;dsimp only;rw[s1,s2,Rat.sub_self,Rat.sub_self];grind
   exact apW (o3 ec ed) (aeb hc hd ec ed hz (Hk hc hd sF hn hp hq) hp hq k0 hk hl hr)
theorem HP{c d:BCU}(hc:gdN c)(hd:gdN d):∃m,(∃p q,onE (dC c) p/\onE (dC d) q/\dsE p q=m)/\Low c d m/\IsX (iG c d) m:=by
 obtain⟨p,q,hp,hq,hm⟩:=R4 hc.e hd.e;refine⟨dsE p q,⟨p,q,hp,hq,rfl⟩,hm,λr hr=>?_⟩;by_cases hn:je c d=[]
 ·unfold iG Lv;rw[dF (show ¬r<0 by grind),U5 hc hd hn,hn];exact Int.le_antisymm (ad4 hc hd hn hp hq hm hr) (V3 hc hd hm hr)
 ·have z:dsE p q=0:=by
   have hx:∃x,onE (dC c) x/\onE (dC d) x:=by
    obtain⟨x,hx⟩:=List.exists_mem_of_ne_nil _ hn;obtain⟨_,hk,_,_,o1,o2⟩:=zd hc hd hx;have r:Rpd (dec x:Pt):=nM hk;rw[<-gj hc.crp r]at o1;rw[<-gj hd.crp r]at o2;exact⟨_,(fU hc.e).1 o1,(fU hd.e).1 o2⟩
   obtain⟨x,h1,h2⟩:=hx;have h:=hm x x h1 h2;have e:dsE x x=0:=by unfold dsE;grind
   rw[e]at h;exact le_antisymm h (yR _ _)
  have l:=anW.2 hn;have z0:of 0=0:=rfl;rw[z,<-z0,<-of_sub,sg_of];unfold iG Lv;rw[dF (show ¬r<0 by grind),dT (show((je c d).length:Int)>0 by omega),Bool.true_or];show-aF r 0=_;by_cases h:r=0
  ·subst h;decide+kernel
  ·have p:0<r:=by grind
   have:=anE p p;unfold aF;rw[dF (show ¬r<0 by grind),dT p,dT (show 0-r*r<0 by grind)];rfl
end
section
open RE
namespace RE
theorem ac6(u v w:PE):crs u v*dtE u v*dtE w w+crs v w*dtE v w*dtE u u-crs u w*dtE u w*dtE v v=2*(crs u v*crs v w*crs u w):=by
 unfold crs dtE;grind
theorem I3{a x p b:PE}(hx:dtE x x=dtE a a)(hp:dtE p p=dtE a a)(hb:dtE b b=dtE a a):(crs x p+crs p b+crs b x)*(dtE (hlf a x) (hlf a x)*dtE (hlf a p) (hlf a p)*dtE (hlf a b) (hlf a b))=dtE a a*(crs (hlf a x) (hlf a p)*crs (hlf a p) (hlf a b)*crs (hlf a x) (hlf a b)+crs (hlf a x) (hlf a p)*crs (hlf a p) (hlf a b)*crs (hlf a x) (hlf a b)+crs (hlf a x) (hlf a p)*crs (hlf a p) (hlf a b)*crs (hlf a x) (hlf a b)+crs (hlf a x) (hlf a p)*crs (hlf a p) (hlf a b)*crs (hlf a x) (hlf a b)):=by
 have r1:=xC a (hlf a x) (hlf a p);have r2:=xC a (hlf a p) (hlf a b);have r3:=xC a (hlf a x) (hlf a b);have sc:∀(u v:PE) (s t:RE),crs (u.1*s,u.2*s) (v.1*t,v.2*t)=crs u v*(s*t):=λu v s t=>by unfold crs;dsimp only;grind
 rw[ji hx,ji hp,sc]at r1;rw[ji hp,ji hb,sc]at r2;rw[ji hx,ji hb,sc]at r3;have t:=ac6 (hlf a x) (hlf a p) (hlf a b);have e:crs b x= -crs x b:=zY b x;rw[e];generalize crs x p=A at*
 generalize crs p b=B at*
 generalize crs x b=C at*
 generalize dtE (hlf a x) (hlf a x)=n1 at*
 generalize dtE (hlf a p) (hlf a p)=n2 at*
 generalize dtE (hlf a b) (hlf a b)=n3 at*
 generalize crs (hlf a x) (hlf a p)=c1 at*
 generalize crs (hlf a p) (hlf a b)=c2 at*
 generalize crs (hlf a x) (hlf a b)=c3 at*
 generalize dtE (hlf a x) (hlf a p)=d1 at*
 generalize dtE (hlf a p) (hlf a b)=d2 at*
 generalize dtE (hlf a x) (hlf a b)=d3 at*
 generalize dtE a a=R at*
 have e1:(A+B+ -C)*(n1*n2*n3)=A*(n1*n2)*n3+B*(n2*n3)*n1-C*(n1*n3)*n2:=by grind
 rw[e1,r1,r2,r3];grind
theorem BA{a b x p:PE}(ha:0<dtE a a)(hb:dtE b b=dtE a a)(hab:a≠b)(hx:dtE x x=dtE a a)(hxa:a≠x)(hxb:x≠b)(hp:dtE p p=dtE a a)(s1:fx a b x=true)(s2:fx a b p=true):fx a x p=true\/fx x b p=true:=by
 by_cases e1:a=p
 ·exact .inl (e1▸(gP a x).1)
 by_cases e2:x=p
 ·exact .inl (e2▸(gP a x).2)
 have t1:=(fJ ha hb hab hx hxa).1 s1;have t2:=(fJ ha hb hab hp e1).1 s2;have b1:=fX hx hxa ha;have b2:=fX hp e1 ha;have b3:=fX hb hab ha;rcases lt_or_ge (crs (hlf a p) (hlf a x)) 0 with g|g
 ·refine .inr ((fJ (f:=x) (by rw[hx];exact ha) (hb.trans hx.symm) hxb (hp.trans hx.symm) e2).2 ?_);rw[xo];refine aD (by rw[hx];exact le_of_lt ha) ?_
  have k:0<=crs (hlf a x) (hlf a p):=by
   rw[zY];grind
  have n1:0<dtE (hlf a x) (hlf a x):=by rw[sO hx];have:=mul_pos ha b1;grind
  have n2:0<dtE (hlf a p) (hlf a p):=by rw[sO hp];have:=mul_pos ha b2;grind
  have n3:0<dtE (hlf a b) (hlf a b):=by rw[sO hb];have:=mul_pos ha b3;grind
  refine kR (mul_pos (mul_pos n1 n2) n3) ?_;rw[I3 hx hp hb];have m:=aD (aD k t2) t1;exact aD (le_of_lt ha) (by grind)
 ·exact .inl ((fJ ha hx hxa hp e1).2 g)
end RE
end
section
open RE
theorem wP{c:BCU}(h:gdN c){x y:BP}(hx:okP 580 x/\Spb (dC c) x)(hy:okP 580 y/\Spb (dC c) y)(hr:co (dC c) (dec x) (dec y)<0):gdN (eG c x y):=by
 have o:=t8 (nL h.gd);refine⟨⟨⟨h.1.1.1,h.1.1.2.1,hx.1,hy.1⟩,h.1.2⟩,hx.2.2,hy.2.2,λg=>?_⟩;have:=o.irr hx.2 hy.2 g;omega
theorem LI{c:BCU}{x y z:BP}(h1:gdN (eG c x y))(h2:gdN (eG c x z))(h3:gdN (eG c z y)){p:PE}(hz:onE (dC (eG c x y)) (pR (dec z)))(hp:onE (dC (eG c x y)) p):onE (dC (eG c x z)) p\/onE (dC (eG c z y)) p:=by
 cases ha:c.1
 ·have a1:(dC (eG c x y)).1=false:=ha;have a2:(dC (eG c x z)).1=false:=ha;have a3:(dC (eG c z y)).1=false:=ha;rw[jQ a1]at hz hp;rw[jQ a2,jQ a3];obtain⟨o,b⟩:=hp;have b2:=hz.2
  have k:∀{X Y Z P:RE},btE X Y Z->btE X Y P->btE X Z P\/btE Z Y P:=λ{X Y Z P} g1 g2=>by
   unfold btE at*
   grind
  exact(k b2 b).imp (λg=>⟨o,g⟩) λg=>⟨o,g⟩
 ·have a1:(dC (eG c x y)).1=true:=ha;have a2:(dC (eG c x z)).1=true:=ha;have a3:(dC (eG c z y)).1=true:=ha;have g1:=vK h1.e a1;have g2:=vK h2.e a2;have g3:=vK h3.e a3;rw[ij a1]at hz hp;rw[ij a2,ij a3];have q0:0<of (ciC (dC (eG c x y))).2.2:=fS g1.q;obtain⟨oz,sz⟩:=hz;obtain⟨op,sp⟩:=hp;have oz':dtE (frm (ciC (dC (eG c x y))) (pR (dec z))) (frm (ciC (dC (eG c x y))) (pR (dec z)))=of (ciC (dC (eG c x y))).2.2:=oz;have op':dtE (frm (ciC (dC (eG c x y))) p) (frm (ciC (dC (eG c x y))) p)=of (ciC (dC (eG c x y))).2.2:=op;have u1:dtE (frm (ciC (dC (eG c x y))) (pR (ccF (dC (eG c x y))))) (frm (ciC (dC (eG c x y))) (pR (ccF (dC (eG c x y)))))=of (ciC (dC (eG c x y))).2.2:=g1.u;have w1:dtE (frm (ciC (dC (eG c x y))) (pR (ccT (dC (eG c x y))))) (frm (ciC (dC (eG c x y))) (pR (ccT (dC (eG c x y)))))=of (ciC (dC (eG c x y))).2.2:=g1.w;have n1:=g1.ne;have n2:=g2.ne;have n3:=g3.ne;obtain⟨car,cl,cc,ccw,cf,ct⟩:=c;cases ccw
  ·have s:=BA (a:=frm (dec cc) (pR (dec x))) (b:=frm (dec cc) (pR (dec y))) (x:=frm (dec cc) (pR (dec z))) (p:=frm (dec cc) p) (u1.symm▸q0) (w1.trans u1.symm) n1 (oz'.trans u1.symm) n2 n3 (op'.trans u1.symm) sz sp;exact s.imp (λg=>⟨op,g⟩) λg=>⟨op,g⟩
  ·have s:=BA (a:=frm (dec cc) (pR (dec y))) (b:=frm (dec cc) (pR (dec x))) (x:=frm (dec cc) (pR (dec z))) (p:=frm (dec cc) p) (u1.symm▸q0) (w1.trans u1.symm) n1 (oz'.trans u1.symm) n3 n2 (op'.trans u1.symm) sz sp;exact s.symm.imp (λg=>⟨op,g⟩) λg=>⟨op,g⟩
theorem Gd{c:BCU}(h:gdN c):∀(s:List BP) (x y:BP),(∀z∈x::y::s,okP 580 z/\Spb (dC c) z)->(x::y::s).Pairwise (λa b=>co (dC c) (dec a) (dec b)<0)->∀p,onE (dC (eG c x ((y::s).getLast (by simp)))) p->∃e∈uE c (x::y::s),onE (dC e) p
 |[],x,y,_,_,p,hp=>⟨_,by simp[uE],hp⟩
 |z::s,x,y,hs,hw,p,hp=>by
  obtain⟨w1,w2⟩:=anF.1 hw;obtain⟨w3,w4⟩:=anF.1 w2;have hl:(y::z::s).getLast (by simp)=(z::s).getLast (by simp):=List.getLast_cons (by simp);rw[hl]at hp;have ml:(z::s).getLast (by simp)∈z::s:=List.getLast_mem _;generalize hL:(z::s).getLast (by simp)=L at*
  have sx:=hs x (by simp);have sy:=hs y (by simp);have sL:=hs L (ann _ (ann _ ml));have oxy:=w1 y (by simp);have oxL:=w1 L (ann _ ml);have oyL:=w3 L ml;have k:=nL h.gd;have o:=t8 k;have g1:=wP h sx sL oxL;have g2:=wP h sx sy oxy;have g3:=wP h sy sL oyL;have ry:Rpd (dec y:Pt):=sy.2.1
  have on_:onE (dC (eG c x L)) (pR (dec y)):=by
   refine(fU g1.e).1 ?_;rw[gj g1.crp ry];refine(H7 k sx.2 sL.2 oxL ry).2 ⟨sy.2.2,?_,?_⟩
   ·have:=o.asy sx.2 sy.2 oxy;omega
   ·have:=o.asy sy.2 sL.2 oyL;omega
  rcases LI g1 g2 g3 on_ hp with q|q
  ·exact⟨_,by simp[uE],q⟩
  ·obtain⟨e,he,oe⟩:=Gd h s y z (λa ha=>hs a (ann _ ha)) w2 p (by rw[hL];exact q);exact⟨e,by simp only[uE];exact ann _ he,oe⟩
end
end Go.Proofs.YtagbmoohboleaaaGreat
end
