/- The distance of two curves, plain: the candidates of Fx sides have the same signs. -/
import Derived.Test.YtagbmoohboleaaaGreatJ16
import Derived.Test.YtagbmoohboleaaaGreatJ9
import Derived.Test.YtagbmoohboleaaaGreatJ15
noncomputable section
namespace Go.Proofs.YtagbmoohboleaaaGreat
open Go.RowKit Go.IntKind
theorem ap4:type_of% @List.any_cons:=@List.any_cons
def oA(d p q r:Rat):Int:=sgQ (d-p-q-r*r,-2*r,-2*r,-2,p,q)
def sO(x y z r:Rat):Int:=sgQ (x+y-z-r*r,2,-(2*r),0,x*y,z)
def VB(a b c d:Rat):Int:=sgQ (a+b-(c+d),2,-2,0,a*b,c*d)
def sS(a b c r:Rat):Int:=bif decide (oA c a b 0>0)then oA c a b r else VB a b c (r*r)
def mx2(a b:Int):Int:=if b>a then b else a
theorem Hn(a b:Int):mn2 a b=min a b:=by unfold mn2;omega
theorem aeq(a b:Int):mx2 a b=max a b:=by unfold mx2;omega
theorem Xa(a b c d:Int):K3 a b c d=min (min (min a b) c) d:=by unfold K3;simp only[Hn]
def u9(b:Bool)(x:Int):Int:=bif b then x else 1
def ftv(s a:Cv):Rat×Rat:=cQ (lnC s) (ctr (ciC a))
def wyv(c d:Cv):Rat×Rat:=cD (ctr (ciC c)) (ctr (ciC d))
def wC(s a:Cv)(r:Rat):Int:=u9 (onP s (atP (ftv s a))) (kS a (ftv s a) r)
def nT(c d:Cv):Bool:=df c (wyv c d)
def fT(c d:Cv):Bool:=df c (bkV (wyv c d))
def nD(c d:Cv):Rat:=aW (wyv c d) (wyv c d)
def te(c d:Cv)(r:Rat):Int:=bif decide (nD c d=0)then 1 else
 min (min (u9 (nT c d&&df d (bkV (wyv c d))) (max (oA (nD c d) (ciC c).2.2 (ciC d).2.2 r) (sO (ciC c).2.2 (ciC d).2.2 (nD c d) r)))
  (u9 (nT c d&&df d (wyv c d)) (max (sO (nD c d) (ciC d).2.2 (ciC c).2.2 r) (oA (ciC c).2.2 (nD c d) (ciC d).2.2 r))))
  (u9 (fT c d&&df d (bkV (wyv c d))) (max (sO (nD c d) (ciC c).2.2 (ciC d).2.2 r) (oA (ciC d).2.2 (nD c d) (ciC c).2.2 r)))
theorem Rs(q:Qd):sgQ q<=1:=(IT _ _ _ _ _ _).2
def uM(c d:Cv)(r:Rat):Int:=min (min (min (RE.poiE d (RE.pR (frC c)) r) (RE.poiE d (RE.pR (toC c)) r)) (RE.poiE c (RE.pR (frC d)) r)) (RE.poiE c (RE.pR (toC d)) r)
def jg(c d:Cv)(r:Rat):Int:=bif c.1 then(bif d.1 then min (uM c d r) (te c d r)else min (uM c d r) (wC d c r))else bif d.1 then min (uM c d r) (wC c d r)else uM c d r
def SJ(m:Bool)(o:Int)(r:Rat):Int:=bif decide (r<0)then 1 else bif m then-aE r 0 else o
def n3P(x y z:BR):Prop:=ok Rat 2000 x/\ok Rat 2000 y/\ok Rat 2000 z/\0<=ah x/\0<=ah y/\0<=ah z
instance (x y z:BR):Decidable (n3P x y z):=by unfold n3P;infer_instance
def n4P(x y z r:BR):Prop:=n3P x y z/\ok Rat 2000 r/\0<=ah r
instance (x y z r:BR):Decidable (n4P x y z r):=by unfold n4P;infer_instance
theorem aiR{x y z:BR}(h:n3P x y z):∃a b c:Rat,x=enc a/\y=enc b/\z=enc c/\Bd a 2000/\Bd b 2000/\Bd c 2000/\0<=a/\0<=b/\0<=c:=by
 obtain⟨h1,h2,h3,h4,h5,h6⟩:=h;obtain⟨a,rfl,ba⟩:=aD h1;obtain⟨b,rfl,bb⟩:=aD h2;obtain⟨c,rfl,bc⟩:=aD h3;rw[fd,ct]at h4 h5 h6;exact⟨a,b,c,rfl,rfl,rfl,ba,bb,bc,h4,h5,h6⟩
theorem XM{x y z r:BR}(h:n4P x y z r):∃a b c e:Rat,(x=enc a/\y=enc b/\z=enc c/\r=enc e)/\Bd a 2000/\Bd b 2000/\Bd c 2000/\Bd e 2000/\0<=a/\0<=b/\0<=c/\0<=e:=by
 obtain⟨h,h1,h2⟩:=h;obtain⟨a,b,c,e1,e2,e3,ba,bb,bc,na,nb,nc⟩:=aiR h;obtain⟨e,rfl,be⟩:=aD h1;rw[fd,ct]at h2;exact⟨a,b,c,e,⟨e1,e2,e3,rfl⟩,ba,bb,bc,be,na,nb,nc,h2⟩
theorem aiw{a b c:Rat}{i j k:Nat}[ba:Bd a i][bb:Bd b j][bc:Bd c k](hi:i<=2000)(hj:j<=2000)(hk:k<=2000)(na:0<=a)(nb:0<=b)(nc:0<=c):n3P (ao a) (ao b) (ao c):=
 ⟨amZ (okd hi (by decide)),amZ (okd hj (by decide)),amZ (okd hk (by decide)),by rwa [ct],by rwa [ct],by rwa [ct]⟩
theorem afB{a b c e:Rat}{i j k l:Nat}[ba:Bd a i][bb:Bd b j][bc:Bd c k][be:Bd e l](hi:i<=2000)(hj:j<=2000)(hk:k<=2000)(hl:l<=2000)(na:0<=a)(nb:0<=b)(nc:0<=c)(ne:0<=e):n4P (ao a) (ao b) (ao c) (ao e):=
 ⟨aiw hi hj hk na nb nc,amZ (okd hl (by decide)),by rwa [ct]⟩
theorem RM{a b c e:Rat}{i j k l:Nat}[ba:Bd a i][bb:Bd b j][bc:Bd c k][be:Bd e l](hi:i<=2000)(hj:j<=2000)(hk:k<=2000)(hl:l<=2000)(na:0<=a)(nb:0<=b)(nc:0<=c)(ne:0<=e):decide (n4P (ao a) (ao b) (ao c) (ao e))=true:=amW (afB hi hj hk hl na nb nc ne)
def FU(s a:BCU):Prop:=mG s/\mG a/\s.1=false/\a.1=true
instance (s a:BCU):Decidable (FU s a):=by unfold FU;infer_instance
def Tt(c d:BCU):Prop:=mG c/\mG d/\c.1=true/\d.1=true
instance (c d:BCU):Decidable (Tt c d):=by unfold Tt;infer_instance
def o0(c d:BCU)(r:Rat):Int:=SJ (decide (((iM c d).length:Int)>0)||sN c d) (jg (dC c) (dC d) r) r
namespace RE
theorem ti{a b:RE}(ha:0<=a)(hb:0<=b):sg (a*a-b*b)=sg (a-b):=by
 have e:a*a-b*b=(a+b)*(a-b):=by grind
 rcases cO (show 0<=a+b by grind)with h|h
 ·rw[e,gG h]
 ·rw[show a=0 by grind,show b=0 by grind,zero_mul]
theorem adx(x:RE){r:RE}(hr:0<=r):max (sg (x-r)) (sg (-x-r))=sg (x*x-r*r):=by
 rcases lt_or_ge x 0 with h|h
 ·have:=ti (show 0<= -x by grind) hr;rw[show x*x= -x* -x by grind,this,Int.max_eq_right (gM (by grind))]
 ·rw[ti h hr,Int.max_eq_left (gM (by grind))]
theorem Wt{x:RE}(h:x<=0){r:RE}(hr:0<=r):sg (-x-r)=sg (x*x-r*r):=by
 rw[<-ti (show 0<= -x by grind) hr,show-x* -x=x*x by grind]
theorem zl{d p q r:Rat}(hd:0<=d)(hp:0<=p)(hq:0<=q)(hr:0<=r):oA d p q r=sg (rq d-rq p-rq q-of r):=by
 have a:=dB hd;have b:=dB hp;have c:=dB hq;have t:=gf p;have u:=gf q;have w:=fQ.2 hr;unfold oA
 rw[zO hp hq,show rq d-rq p-rq q-of r=rq d-(rq p+rq q+of r) by grind,<-ti (gf d) (show 0<=rq p+rq q+of r by
  have:of 0=0:=rfl;grind)]
 refine congrArg sg ?_;unfold vq vQ;have two:of (-2)= -2:=rfl;simp only[of_sub,of_mul,two];grind
theorem Gm{x y z r:Rat}(hx:0<=x)(hy:0<=y)(hz:0<=z)(hr:0<=r):sO x y z r=sg (rq x+rq y-rq z-of r):=by
 have a:=dB hx;have b:=dB hy;have c:=dB hz;have t:=gf x;have u:=gf y;have v:=gf z;have w:0<=of r:=fQ.2 hr;unfold sO;rw[zO (anh hx hy) hz,show rq x+rq y-rq z-of r=rq x+rq y-(rq z+of r) by grind,<-ti (show 0<=rq x+rq y by grind) (show 0<=rq z+of r by grind)];refine congrArg sg ?_;unfold vq vQ;have two:of 2=2:=rfl;have zo:of 0=0:=rfl;simp only[of_sub,of_add,of_mul,of_neg,two,zo,xM hx hy];grind
theorem aby{a b c d:Rat}(ha:0<=a)(hb:0<=b)(hc:0<=c)(hd:0<=d):VB a b c d=sg (rq a+rq b-rq c-rq d):=by
 have e1:=dB ha;have e2:=dB hb;have e3:=dB hc;have e4:=dB hd;have t:=gf a;have u:=gf b;have v:=gf c;have w:=gf d;unfold VB;rw[zO (anh ha hb) (anh hc hd),show rq a+rq b-rq c-rq d=rq a+rq b-(rq c+rq d) by grind,<-ti (show 0<=rq a+rq b by grind) (show 0<=rq c+rq d by grind)];refine congrArg sg ?_;unfold vq vQ;have two:of 2=2:=rfl;have mtwo:of (-2)= -2:=rfl;have zo:of 0=0:=rfl;simp only[of_sub,of_add,two,mtwo,zo,xM ha hb,xM hc hd];grind
theorem Ur{r:Rat}(hr:0<=r):rq (r*r)=of r:=EW _ _ (gf _) (fQ.2 hr) (by rw[dB (anh hr hr),of_mul])
theorem tB{a b c r:Rat}(ha:0<=a)(hb:0<=b)(hc:0<=c)(hr:0<=r):sS a b c r=sg ((rq a+rq b-rq c)*(rq a+rq b-rq c)-of r*of r):=by
 have w:0<=of r:=fQ.2 hr;have zo:of 0=0:=rfl;unfold sS;rw[zl hc ha hb (by decide),zo];rcases bi (rq c-rq a-rq b-0)with⟨h,e⟩|⟨h,e⟩|⟨h,e⟩<;>rw[e]
 ·show oA c a b r=_;rw[zl hc ha hb hr,<-Wt (show rq a+rq b-rq c<=0 by grind) w];exact congrArg sg (by grind)
 all_goals
  show VB a b c (r*r)=_;rw[aby ha hb hc (anh hr hr),Ur hr,ti (show 0<=rq a+rq b-rq c by grind) w]
theorem GG{a b c r:Rat}(ha:0<=a)(hb:0<=b)(hc:0<=c)(hr:0<=r):max (oA c a b r) (sO a b c r)=sS a b c r:=by
 rw[zl hc ha hb hr,Gm ha hb hc hr,tB ha hb hc hr,<-adx _ (fQ.2 hr),Int.max_comm];exact congrArg (max _) (congrArg sg (by grind))
end RE
section
open RE
theorem GS{s a:BCU}(hs:uV s)(ha:uV a)(e:s.1=false)(e':a.1=true):Bd (ftv (dC s) (dC a)) 200:=by
 obtain⟨bl,_⟩:=(kA hs).2 e;obtain⟨bc,_⟩:=(kA ha).1 e';have x1:Bd (nV (lnC (dC s)) (ctr (ciC (dC a)))) _:=(inferInstance:Bd (((lnC (dC s)).1*(ciC (dC a)).1+(lnC (dC s)).2.1*(ciC (dC a)).2.1-(lnC (dC s)).2.2)/((lnC (dC s)).1*(lnC (dC s)).1+(lnC (dC s)).2.1*(lnC (dC s)).2.1)) _)
 exact(inferInstance:Bd (((ciC (dC a)).1-nV (lnC (dC s)) (ctr (ciC (dC a)))*(lnC (dC s)).1,(ciC (dC a)).2.1-nV (lnC (dC s)) (ctr (ciC (dC a)))*(lnC (dC s)).2.1):Rat×Rat) _).mono (by decide)
theorem Pi(x:RE):sg x<=1:=(Yd x).2
theorem afm{c:Cv}(h:GdE c){p q:PE}(hq:onE c q){r:Rat}(hr:0<=r):poiE c p r<=sg (dsE q p-of (r*r)):=by
 obtain⟨m,hm,e⟩:=Gl h p;rw[e r hr];exact gM (gz _ _ _ (hm.2 q hq))
theorem ro{c:Cv}(h:GdE c):onE c (pR (frC c))/\onE c (pR (toC c)):=by
 cases ha:c.1
 ·obtain⟨_,oF,oT⟩:=h.l ha;rw[qR ha];exact⟨⟨oF,by unfold btE;grind⟩,⟨oT,by unfold btE;grind⟩⟩
 ·have g:=KP h ha;rw[oK ha];have u:RE.arcE (ciC c) (pR (ccF c)) (pR (ccT c)) (pR (ccF c)):=⟨g.u,(kg _ _).1⟩
  have w:RE.arcE (ciC c) (pR (ccF c)) (pR (ccT c)) (pR (ccT c)):=⟨g.w,(kg _ _).2⟩
  rcases lK c with⟨g1,g2⟩|⟨g1,g2⟩<;>rw[g1,g2]at u w ⊢
  ·exact⟨u,w⟩
  ·exact⟨w,u⟩
theorem Hg{c:BCU}(h:gdN c){v:Rat×Rat}(hv:Bd v 200){r:Rat}(hr:0<=r):kS (dC c) v r=sg (vR (kN (dC c) v)-of (r*r)):=by
 unfold kS;rw[dF (show ¬r<0 by grind),cond_false,cmpTR_re (wT (bv:=hv) h.1.1).2.nn]
theorem ahU{u w:PE}{a b:RE}(ha:0<=a)(hb:0<=b)(hu:dtE u u=a*a)(hw:dtE w w=b*b):dtE (u.1+w.1,u.2+w.2) (u.1+w.1,u.2+w.2)<=(a+b)*(a+b):=by
 have h1:=Db u.1 u.2 w.1 w.2;have h2:=cZ (u.1*w.2-u.2*w.1);have h3:u.1*u.1+u.2*u.2=a*a:=hu;have h4:w.1*w.1+w.2*w.2=b*b:=hw
 have h5:u.1*w.1+u.2*w.2<=a*b:=by
  rw[h3,h4]at h1;rcases lt_or_ge 0 (u.1*w.1+u.2*w.2)with g|g
  ·exact sd _ _ (le_of_lt g) (aH ha hb) (by grind)
  ·have:=aH ha hb;grind
 show(_+_)*(_+_)+(_+_)*(_+_)<=_;grind
theorem Va(u:PE):∃a,0<=a/\dtE u u=a*a:=by
 have:0<=dtE u u:=by
  have h1:=cZ u.1;have h2:=cZ u.2;unfold dtE;grind
 exact⟨_,dK _,(gI this).symm⟩
theorem WQ{c d:BCU}(hc:gdN c)(hd:gdN d)(h:iM c d=[]):sN c d=false:=by
 cases hN:sN c d
 ·rfl
 ·exfalso;unfold sN at hN;obtain⟨hs,ho⟩:=am6.1 hN;rw[h]at ho;have ho:([Bx c c.2.2.2.2.1 c.2.2.2.2.2].any (E5 d))=true:=ho
  have h1:onP (dC d) (dec c.2.2.2.2.1)=true:=by
   simp only[ap4,List.any_nil,Bool.or_false]at ho;unfold E5 at ho;exact(am6.1 (am6.1 ho).1).1
  have r:Rpd (dec c.2.2.2.2.1:Pt):=hc.crp.f.1;have hx:c.2.2.2.2.1∈lX c d:=by unfold lX;rw[hs];simp
  have k:=JJ hc hd r (ael hc).1 (by rw[<-kX hd.crp r];exact h1);obtain⟨y,hy,_⟩:=(J9 hc.crp hc.ne (Td hc hd)).2 _ (ap3.2 ⟨hx,k⟩);have hy:y∈iM c d:=hy;rw[h]at hy;cases hy
end
namespace RE
theorem NO(n:Nat):eps n/2<=eps (n+1):=by
 have h:=pC n;have e1:((n+1:Nat):Rat)=(n:Rat)+1:=by grind
 unfold eps;rw[e1];generalize (n:Rat)=x at*
 have p:0<x+1:=by grind
 have q:0<x+1+1:=by grind
 have i1:=apB.2 p;have i2:=apB.2 q;have m1:(x+1)*(x+1)⁻¹=1:=Rat.mul_inv_cancel _ (by grind);have m2:(x+1+1)*(x+1+1)⁻¹=1:=Rat.mul_inv_cancel _ (by grind);rw[aoU,aoU,aoU,Rat.one_mul,Rat.one_mul];generalize (x+1)⁻¹=y at*
 generalize (x+1+1)⁻¹=z at*
 have k:=anh h (anh (show 0<=y by grind) (show 0<=z by grind));have:2*z-y=x*(y*z):=by grind
 grind
theorem Ks{a b:Rat}(h:a<=b):a<=(a+b)/2/\(a+b)/2<=b/\(a+b)/2-a=(b-a)/2/\b-(a+b)/2=(b-a)/2:=by grind
theorem adf{an am bm aN bN e:Rat}(h2:am<=bm)(h3:bm<=bN)(h4:aN<=an)(h5:bN-aN<e):am-an<e:=by grind
theorem Wa{x e d y:Rat}(h:x<=e)(h1:e/2<=d)(h2:y=x/2):y<=d:=by grind
theorem YU{x y e:Rat}(h:x<=y)(h':y<e):x<e:=by grind
theorem bis{P:Rat->Rat->Prop}(h0:P 0 1)(hs:∀a b,P a b->P a ((a+b)/2)\/P ((a+b)/2) b):∃t:RE,0<=t/\t<=1/\∀e:Rat,0<e->∃a b,P a b/\of a<=t/\t<=of b/\b-a<e:=by
 have st:∀i:{i:Rat×Rat // P i.1 i.2/\i.1<=i.2},∃j:{i:Rat×Rat // P i.1 i.2/\i.1<=i.2},i.1.1<=j.1.1/\j.1.2<=i.1.2/\j.1.2-j.1.1=(i.1.2-i.1.1)/2:=by
  intro ⟨⟨a,b⟩,h,hab⟩;obtain⟨k1,k2,k3,k4⟩:=Ks hab;rcases hs a b h with g|g
  ·exact⟨⟨(a,(a+b)/2),g,k1⟩,ap7,k2,k3⟩
  ·exact⟨⟨((a+b)/2,b),g,k2⟩,k1,ap7,k4⟩
 let s:Nat->{i:Rat×Rat // P i.1 i.2/\i.1<=i.2}:=λn=>Nat.rec ⟨(0,1),h0,by decide⟩ (λ_ i=>Classical.choose (st i)) n
 have ss:∀n,(s n).1.1<=(s (n+1)).1.1/\(s (n+1)).1.2<=(s n).1.2/\(s (n+1)).1.2-(s (n+1)).1.1=((s n).1.2-(s n).1.1)/2:=λn=>anY (st (s n));have s0:(s 0).1=(0,1):=rfl;clear_value s
 have le:∀n,(s n).1.2-(s n).1.1<=eps n:=by
  intro n;induction n with
  |zero=>
   rw[s0];unfold eps;decide+kernel
  |succ n ih=>exact Wa ih (NO n) (ss n).2.2
 have mo:∀k m,(s m).1.1<=(s (m+k)).1.1/\(s (m+k)).1.2<=(s m).1.2:=by
  intro k m;induction k with
  |zero=>exact⟨ap7,ap7⟩
  |succ k ih=>exact⟨Rat.le_trans ih.1 (ss (m+k)).1,Rat.le_trans (ss (m+k)).2.1 ih.2⟩
 have mo:∀m n,m<=n->(s m).1.1<=(s n).1.1/\(s n).1.2<=(s m).1.2:=λm n h=>by
  have:=mo (n-m) m;rwa [show m+(n-m)=n by omega]at this
 have ca:∀e:Rat,0<e->∃N,∀m n,N<=m->N<=n->(s m).1.1-(s n).1.1<e:=λe he=>by
  obtain⟨N,hN⟩:=ru e he;exact⟨N,λm n hm hk=>adf (s m).2.2 (mo N m hm).2 (mo N n hk).1 (YU (le N) (hN N (am2 _)))⟩
 let t:RE:=Quotient.mk _ (⟨λn=>(s n).1.1,ca⟩:RL.CS)
 have lo:∀n,of (s n).1.1<=t:=λn=>by
  rintro ⟨e,he,N,h⟩
  have h1:=h (max N n) (by omega);have h2:=(mo n (max N n) (by omega)).1;simp only[RL.const]at h1;generalize (s (max N n)).1.1=u at*
  generalize (s n).1.1=w at*
  clear h mo le ss hs st;grind
 have hi:∀n,t<=of (s n).1.2:=λn=>by
  rintro ⟨e,he,N,h⟩
  have h1:=h (max N n) (by omega);have h2:=(mo n (max N n) (by omega)).2;have h3:=(s (max N n)).2.2;simp only[RL.const]at h1;generalize (s (max N n)).1.1=u at*
  generalize (s (max N n)).1.2=v at*
  generalize (s n).1.2=w at*
  clear h mo le ss hs st;grind
 have l0:=lo 0;have h0':=hi 0;rw[s0]at l0 h0';refine⟨t,l0,h0',λe he=>?_⟩;obtain⟨N,hN⟩:=ru e he;exact⟨_,_,(s N).2.1,lo N,hi N,YU (le N) (hN N (am2 _))⟩
theorem aga{z:RE}(h:0<z):∃q:Rat,0<q/\of q<z:=by
 induction z using anU
 obtain⟨e,he,N,hn⟩:=h;refine⟨e/2,by grind,e/2,by grind,N,λn hN=>?_⟩;have:=hn n hN;simp only[RL.const]at this ⊢;grind
theorem aim(k:RE):∃B:Rat,0<B/\k<of B:=by
 induction k using anU
 rename_i f;obtain⟨B,hB,N,h⟩:=f.bd;refine⟨B+1,by grind,1/2,by grind,N,λn hn=>?_⟩;have:=h n hn;simp only[RL.const];grind
theorem afq{x y k:RE}(h:∀e:Rat,0<e->x<=y+k*of e):x<=y:=by
 rcases lt_or_ge y x with g|g
 ·exfalso;obtain⟨q,hq,hz⟩:=aga (show 0<x-y by grind);obtain⟨B,hB,hk⟩:=aim k;have p:0<q/B:=ano hq (apB.2 hB);have h1:=h (q/B) p;have h2:of B*of (q/B)=of q:=by rw[<-of_mul,aox,ani (by grind)]
  have h3:=BX hk (fX p);rw[mul_comm,mul_comm (of (q/B))]at h3;have z:of 0=0:=rfl;grind
 ·exact g
theorem evt{f:RE->RE}{K:RE}(hK:0<=K)(hf:∀s t,0<=s->s<=t->t<=1->f s<=f t+K*(t-s)/\f t<=f s+K*(t-s)):∃t,0<=t/\t<=1/\∀s,0<=s->s<=1->f t<=f s:=by
 obtain⟨t,t0,t1,ht⟩:=bis (P:=λa b=>0<=a/\b<=1/\∀s,0<=s->s<=1->∃u,of a<=u/\u<=of b/\f u<=f s) ⟨by decide,by decide,λs h h'=>⟨s,h,h',le_refl _⟩⟩ (λa b ⟨ha,hb,h⟩=>by
  have hab:a<=b:=by
   obtain⟨u,h1,h2,_⟩:=h 0 (le_refl _) (le_of_lt zero_lt_one);exact fQ.1 (le_trans h1 h2)
  obtain⟨k1,k2,_⟩:=Ks hab;by_cases hl:∀s,0<=s->s<=1->∃u,of a<=u/\u<=of ((a+b)/2)/\f u<=f s
  ·exact .inl ⟨ha,Rat.le_trans k2 hb,hl⟩
  ·refine .inr ⟨Rat.le_trans ha k1,hb,λs s0 s1=>?_⟩;obtain⟨r,hr⟩:=Classical.not_forall.1 hl;obtain⟨r0,hr⟩:=Classical.not_imp.1 hr;obtain⟨r1,hr⟩:=Classical.not_imp.1 hr
   have far:∀u,of a<=u->f u<=f r->of ((a+b)/2)<=u:=λu g1 g2=>by
    rcases lt_or_ge u (of ((a+b)/2))with g|g
    ·exact absurd ⟨u,g1,le_of_lt g,g2⟩ hr
    ·exact g
   rcases lt_or_ge (f s) (f r)with g|g
   ·obtain⟨u,u1,u2,u3⟩:=h s s0 s1;exact⟨u,far u u1 (le_trans u3 (le_of_lt g)),u2,u3⟩
   ·obtain⟨u,u1,u2,u3⟩:=h r r0 r1;exact⟨u,far u u1 u3,u2,le_trans u3 g⟩)
 refine⟨t,t0,t1,λs s0 s1=>afq (k:=K) λe he=>?_⟩;obtain⟨a,b,⟨ha,hb,h⟩,l1,l2,l3⟩:=ht e he;obtain⟨u,u1,u2,u3⟩:=h s s0 s1;have l3:=fX l3;rw[of_sub]at l3;have a0:0<=of a:=fQ.2 ha;have b1:of b<=1:=fQ.2 hb;rcases lt_or_ge t u with g|g
 ·have m:=(hf t u t0 (le_of_lt g) (le_trans u2 b1)).1;have n:=aH hK (show 0<=of e-(u-t) by grind);grind
 ·have m:=(hf u t (le_trans a0 u1) g t1).2;have n:=aH hK (show 0<=of e-(t-u) by grind);grind
end RE
section
namespace RE
def jk(f h:PE):PE:=((h.1*h.1-h.2*h.2)*f.1-(h.1*h.2+h.1*h.2)*f.2,(h.1*h.1-h.2*h.2)*f.2+(h.1*h.2+h.1*h.2)*f.1)
def iG(f h:PE)(k:RE):PE:=((jk f h).1*k,(jk f h).2*k)
def hlf(f w:PE):PE:=(crs f w,dtE f f-dtE f w)
theorem SY(f h g:PE):dtE (jk f h) (jk f g)=dtE f f*(dtE h h*dtE g g-2*(crs h g*crs h g)):=by
 unfold dtE jk crs;dsimp only;grind
theorem ady(f h:PE):crs f (jk f h)=dtE f f*(h.1*h.2+h.1*h.2):=by
 unfold dtE jk crs;dsimp only;grind
theorem T2(f h g:PE):crs (jk f h) (jk f g)=dtE f f*(crs h g*dtE h g+crs h g*dtE h g):=by
 unfold dtE jk crs;dsimp only;grind
theorem lag(f w:PE):crs f w*crs f w+dtE f w*dtE f w=dtE f f*dtE w w:=by
 unfold dtE crs;grind
theorem alo(f w:PE):dtE f f*w.1=dtE f w*f.1-crs f w*f.2:=by
 unfold dtE crs;grind
theorem alh(f w:PE):dtE f f*w.2=dtE f w*f.2+crs f w*f.1:=by
 unfold dtE crs;grind
theorem Kf{f w:PE}(h:dtE w w=dtE f f):dtE (hlf f w) (hlf f w)=dtE f f*(hlf f w).2+dtE f f*(hlf f w).2:=by
 have l:=lag f w;rw[h]at l;show crs f w*crs f w+(dtE f f-dtE f w)*(dtE f f-dtE f w)=dtE f f*(dtE f f-dtE f w)+dtE f f*(dtE f f-dtE f w)
 generalize crs f w=s at*
 generalize dtE f w=p at*
 generalize dtE f f=r at*
 grind
theorem Ct{f w:PE}(h:dtE w w=dtE f f):jk f (hlf f w)=(w.1*dtE (hlf f w) (hlf f w),w.2*dtE (hlf f w) (hlf f w)):=by
 have l:=lag f w;rw[h]at l;rw[Kf h];have e1:=alo f w;have e2:=alh f w;unfold jk hlf;dsimp only;generalize crs f w=s at*
 generalize dtE f w=p at*
 generalize dtE f f=r at*
 have a:s*s-(r-p)*(r-p)=(p+p)*(r-p):=by grind
 have b:s*(r-p)+s*(r-p)=(s+s)*(r-p):=by grind
 rw[a,b];exact anx (by dsimp only;grind) (by dsimp only;grind)
theorem ko{f w:PE}(h:dtE w w=dtE f f)(hn:f≠w)(_hr:0<dtE f f):0<(hlf f w).2:=by
 have e:dtE (f.1-w.1,f.2-w.2) (f.1-w.1,f.2-w.2)=(hlf f w).2+(hlf f w).2:=by
  unfold hlf dtE at*
  dsimp only;grind
 have p:0<=dtE (f.1-w.1,f.2-w.2) (f.1-w.1,f.2-w.2):=by
  have h1:=cZ (f.1-w.1);have h2:=cZ (f.2-w.2);unfold dtE;grind
 rcases cO p with g|g
 ·grind
 ·exfalso;obtain⟨a,b⟩:=kD (x:=f.1-w.1) (y:=f.2-w.2) g;exact hn (anx (by grind) (by grind))
open Classical in
def ivE(x:RE):RE:=if h:0<x then Classical.choose (yU h)else 0
theorem iq{x:RE}(h:0<x):0<ivE x/\x*ivE x=1:=by
 unfold ivE;rw[dif_pos h];exact anY (yU h)
theorem nY{x y:RE}(hy:0<y)(h:0<=x*y):0<=x:=by
 rcases lt_or_ge x 0 with g|g
 ·have:=mul_pos (show 0< -x by grind) hy;grind
 ·exact g
theorem IR{x y:RE}(hy:0<y)(h:x*y<0):x<0:=by
 rcases lt_or_ge x 0 with g|g
 ·exact g
 ·have:=aH g (le_of_lt hy);grind
def hT(A B t:RE):PE:=(1-t+t*A,t*B)
section
variable {f w:PE} {R A B:RE}
theorem Yq(hB:0<B){t:RE}(h0:0<=t):0<dtE (hT A B t) (hT A B t):=by
 unfold dtE hT;dsimp only;rcases cO h0 with g|g
 ·have h1:=cZ (1-t+t*A);have h2:=mul_pos (mul_pos g hB) (mul_pos g hB);grind
 ·subst g;have:=zero_lt_one;grind
theorem Y1(t:RE):B*B<=dtE (hT A B t) (hT A B t)*((A-1)*(A-1)+B*B):=by
 have h:=cZ ((1-t+t*A)*(A-1)+t*B*B);unfold dtE hT;dsimp only;grind
theorem ad3(s t:RE):crs (hT A B s) (hT A B t)=B*(t-s):=by
 unfold crs hT;dsimp only;grind
theorem BE{h:PE}{k:RE}(hk:dtE h h*k=1):dtE (iG f h k) (iG f h k)=dtE f f:=by
 have e:=SY f h h;have c:crs h h=0:=by unfold crs;grind
 have:dtE (iG f h k) (iG f h k)=dtE (jk f h) (jk f h)*(k*k):=by
  unfold dtE iG;dsimp only;grind
 rw[this,e,c];generalize dtE h h=n at*
 grind
theorem Yo(hw:dtE w w=dtE f f)(h:PE):crs (jk f h) w*dtE (hlf f w) (hlf f w)=dtE f f*(crs h (hlf f w)*dtE h (hlf f w)+crs h (hlf f w)*dtE h (hlf f w)):=by
 rw[<-T2,Ct hw];unfold crs;dsimp only;grind
theorem T7(hf:0<dtE f f)(hw:dtE w w=dtE f f)(hn:f≠w){t k:RE}(t0:0<=t)(t1:t<=1)(hk:0<k):gQ f w (iG f (hT (hlf f w).1 (hlf f w).2 t) k)=true:=by
 have hB:=ko hw hn hf;have eA:crs f w=(hlf f w).1:=rfl;have nH:=Kf hw;have r:=Yo hw (hT (hlf f w).1 (hlf f w).2 t);have c:=ady f (hT (hlf f w).1 (hlf f w).2 t)
 have e1:crs f (iG f (hT (hlf f w).1 (hlf f w).2 t) k)=crs f (jk f (hT (hlf f w).1 (hlf f w).2 t))*k:=by
  unfold crs iG;dsimp only;grind
 have e2:crs (iG f (hT (hlf f w).1 (hlf f w).2 t) k) w=crs (jk f (hT (hlf f w).1 (hlf f w).2 t)) w*k:=by
  unfold crs iG;dsimp only;grind
 have e3:crs (hT (hlf f w).1 (hlf f w).2 t) (hlf f w)=(1-t)*(hlf f w).2:=by
  unfold crs hT;dsimp only;grind
 have e4:dtE (hT (hlf f w).1 (hlf f w).2 t) (hlf f w)=(1-t+t*(hlf f w).1)*(hlf f w).1+t*(hlf f w).2*(hlf f w).2:=rfl;have e5:(hT (hlf f w).1 (hlf f w).2 t).1*(hT (hlf f w).1 (hlf f w).2 t).2=(1-t+t*(hlf f w).1)*(t*(hlf f w).2):=rfl;rw[e3,e4]at r;rw[e5]at c;generalize (hlf f w).2=B at*
 generalize (hlf f w).1=A at*
 generalize jk f (hT A B t)=z at*
 have nP:0<dtE (hlf f w) (hlf f w):=by
  rw[nH];have:=mul_pos hf hB;grind
 have b0:=aH t0 (le_of_lt hB);have bb:=aH b0 (le_of_lt hB)
 have zw:0<=(1-t+t*A)*A+t*B*B->0<=crs (iG f (hT A B t) k) w:=λh=>by
  rw[e2];refine aH (nY nP ?_) (le_of_lt hk);rw[r];have h1:=aH (aH (show 0<=1-t by grind) (le_of_lt hB)) h;have h2:=aH (le_of_lt hf) (show 0<=(1-t)*B*((1-t+t*A)*A+t*B*B)+(1-t)*B*((1-t+t*A)*A+t*B*B) by grind);exact h2
 rcases lt_or_ge A 0 with g|g
 ·rw[D1 (by rw[eA];exact g)];rintro ⟨h1,h2⟩
  rw[e1]at h2;have h2:=IR hk h2;rw[c]at h2
  have h3:(1-t+t*A)*(t*B)<0:=by
   rcases lt_or_ge ((1-t+t*A)*(t*B)) 0 with q|q
   ·exact q
   ·have:=aH (le_of_lt hf) (show 0<=(1-t+t*A)*(t*B)+(1-t+t*A)*(t*B) by grind);grind
  have h4:1-t+t*A<=0:=by
   rcases lt_or_ge 0 (1-t+t*A)with q|q
   ·have:=aH (le_of_lt q) b0;grind
   ·exact q
  have h5:=aH (show 0<= -(1-t+t*A) by grind) (show 0<= -A by grind);have:=zw (by grind);grind
 ·rw[EQ (by rw[eA];exact g)]
  have a0:0<=1-t+t*A:=by
   have:=aH t0 g;grind
  refine⟨?_,zw ?_⟩
  ·rw[e1,c];have h1:=aH a0 b0;exact aH (aH (le_of_lt hf) (by grind)) (le_of_lt hk)
  ·have:=aH a0 g;grind
theorem Mh{h g:PE}{k l:RE}(hk:dtE h h*k=1)(hl:dtE g g*l=1):dsE (iG f h k) (iG f g l)=(dtE f f+dtE f f+dtE f f+dtE f f)*(crs h g*crs h g*(k*l)):=by
 have a:=BE (f:=f) hk;have b:=BE (f:=f) hl
 have c:dtE (iG f h k) (iG f g l)=dtE (jk f h) (jk f g)*(k*l):=by
  unfold dtE iG;dsimp only;grind
 rw[SY]at c
 have:dsE (iG f h k) (iG f g l)=dtE (iG f h k) (iG f h k)+dtE (iG f g l) (iG f g l)-(dtE (iG f h k) (iG f g l)+dtE (iG f h k) (iG f g l)):=by
  unfold dsE dtE;grind
 rw[this,a,b,c];generalize dtE h h=n at*
 generalize dtE g g=m at*
 have:n*m*(k*l)=1:=by
  have:n*m*(k*l)=n*k*(m*l):=by grind
  rw[this,hk,hl,one_mul]
 grind
end
theorem JL{a b c:PE}:crs (hlf a b) (hlf a c)=dtE a a*(crs a b+crs b c+crs c a):=by
 unfold crs hlf dtE;unfold crs;dsimp only;grind
theorem ux{f w z:PE}(hf:0<dtE f f)(hw:dtE w w=dtE f f)(hn:f≠w)(hz:dtE z z=dtE f f)(e:f≠z):gQ f w z=true↔0<=crs (hlf f z) (hlf f w):=by
 have hB:=ko hw hn hf;have hb:=ko hz e hf;have rz:=Ct hz;have nz:=Kf hz;have nH:=Kf hw;have r:=Yo hw (hlf f z)
 have nP:0<dtE (hlf f w) (hlf f w):=by
  rw[nH];have:=mul_pos hf hB;grind
 have nQ:0<dtE (hlf f z) (hlf f z):=by
  rw[nz];have:=mul_pos hf hb;grind
 have ez:crs f z=(hlf f z).1:=rfl;have ew:crs f w=(hlf f w).1:=rfl
 have c1:crs (jk f (hlf f z)) w=crs z w*dtE (hlf f z) (hlf f z):=by
  rw[rz];unfold crs;dsimp only;grind
 have c2:dtE (hlf f z) (hlf f w)=(hlf f z).1*(hlf f w).1+(hlf f z).2*(hlf f w).2:=rfl;have c3:crs (hlf f z) (hlf f w)=(hlf f z).1*(hlf f w).2-(hlf f z).2*(hlf f w).1:=rfl;rw[c1]at r;have bB:=mul_pos hb hB
 have far:crs (hlf f z) (hlf f w)<0->0<dtE (hlf f z) (hlf f w)->crs z w<0:=λg h=>by
  have h1:=mul_pos hf (mul_pos (show 0< -crs (hlf f z) (hlf f w) by grind) h);refine IR nQ (IR nP ?_);rw[r];grind
 have cl:0<=crs (hlf f z) (hlf f w)->0<=dtE (hlf f z) (hlf f w)->0<=crs z w:=λg h=>by
  have h1:=aH (le_of_lt hf) (aH g h);refine nY nQ (nY nP ?_);rw[r];grind
 rcases lt_or_ge (hlf f w).1 0 with q|q
 ·rw[D1 (by rw[ew];exact q)];constructor
  ·intro hs;rcases lt_or_ge (crs (hlf f z) (hlf f w)) 0 with g|g
   ·exfalso
    have a0:(hlf f z).1<0:=by
     rcases lt_or_ge (hlf f z).1 0 with a|a
     ·exact a
     ·have h1:=aH a (le_of_lt hB);have h2:=mul_pos hb (show 0< -(hlf f w).1 by grind);rw[c3]at g;grind
    have h1:=mul_pos (show 0< -(hlf f z).1 by grind) (show 0< -(hlf f w).1 by grind);exact hs ⟨far g (by rw[c2];grind),by rw[ez];exact a0⟩
   ·exact g
  ·rintro g ⟨h1,h2⟩
   rw[ez]at h2;have h3:=mul_pos (show 0< -(hlf f z).1 by grind) (show 0< -(hlf f w).1 by grind);have:=cl g (by rw[c2];grind);grind
 ·rw[EQ (by rw[ew];exact q)];constructor
  ·rintro ⟨h1,h2⟩
   rcases lt_or_ge (crs (hlf f z) (hlf f w)) 0 with g|g
   ·exfalso;rw[ez]at h1;have h3:=aH h1 q;have:=far g (by rw[c2];grind);grind
   ·exact g
  ·intro g
   have a0:0<=(hlf f z).1:=by
    have h1:=aH (le_of_lt hb) q;refine nY hB ?_;rw[c3]at g;grind
   have h3:=aH a0 q;exact⟨by rw[ez];exact a0,cl g (by rw[c2];grind)⟩
section
variable {f w:PE}
theorem U3(A B:RE):hT A B 0=(1,0):=anx (by unfold hT;grind) (by unfold hT;grind)
theorem Vh(f h:PE)(c:RE):jk f (h.1*c,h.2*c)=((jk f h).1*(c*c),(jk f h).2*(c*c)):=anx (by unfold jk;grind) (by unfold jk;grind)
theorem LX(hf:0<dtE f f)(hw:dtE w w=dtE f f)(hn:f≠w){z:PE}(hz:dtE z z=dtE f f)(hs:gQ f w z=true):∃t,0<=t/\t<=1/\iG f (hT (hlf f w).1 (hlf f w).2 t) (ivE (dtE (hT (hlf f w).1 (hlf f w).2 t) (hT (hlf f w).1 (hlf f w).2 t)))=z:=by
 have hB:=ko hw hn hf;by_cases e:f=z
 ·subst e;refine⟨0,le_refl _,le_of_lt zero_lt_one,?_⟩;rw[U3];have i:=(iq (x:=1) zero_lt_one).2;rw[one_mul]at i;have n:dtE ((1:RE),(0:RE)) (1,0)=1:=by unfold dtE;grind
  rw[n,i];exact anx (by unfold iG jk;grind) (by unfold iG jk;grind)
 ·have hb:=ko hz e hf;have rz:=Ct hz;have key:=(ux hf hw hn hz e).1 hs;have c3:crs (hlf f z) (hlf f w)=(hlf f z).1*(hlf f w).2-(hlf f z).2*(hlf f w).1:=rfl;rw[c3]at key;have hD:0<(hlf f z).1*(hlf f w).2-(hlf f z).2*(hlf f w).1+(hlf f z).2:=by grind
  obtain⟨i0,i1⟩:=iq hD;generalize ivE ((hlf f z).1*(hlf f w).2-(hlf f z).2*(hlf f w).1+(hlf f z).2)=i at*
  refine⟨(hlf f z).2*i,aH (le_of_lt hb) (le_of_lt i0),?_,?_⟩
  ·have:=aH key (le_of_lt i0);grind
  ·have eh:hT (hlf f w).1 (hlf f w).2 ((hlf f z).2*i)=((hlf f z).1*((hlf f w).2*i),(hlf f z).2*((hlf f w).2*i)):=by
    refine anx ?_ ?_
    ·show 1-(hlf f z).2*i+(hlf f z).2*i*(hlf f w).1=_;rw[<-i1];grind
    ·show(hlf f z).2*i*(hlf f w).2=_;grind
   have ps:0<dtE (hT (hlf f w).1 (hlf f w).2 ((hlf f z).2*i)) (hT (hlf f w).1 (hlf f w).2 ((hlf f z).2*i)):=Yq hB (aH (le_of_lt hb) (le_of_lt i0));have j:=(iq ps).2;rw[eh]at j ⊢;generalize (hlf f w).2*i=c at*
   have en:dtE ((hlf f z).1*c,(hlf f z).2*c) ((hlf f z).1*c,(hlf f z).2*c)=dtE (hlf f z) (hlf f z)*(c*c):=by
    unfold dtE;dsimp only;grind
   rw[en]at j ⊢;unfold iG;rw[Vh,rz];generalize ivE (dtE (hlf f z) (hlf f z)*(c*c))=l at*
   generalize dtE (hlf f z) (hlf f z)=n at*
   have k:∀x:RE,x*n*(c*c)*l=x:=λx=>by
    have:x*n*(c*c)*l=x*(n*(c*c)*l):=by grind
    rw[this,j,mul_one]
   exact anx (k _) (k _)
theorem Vj(hf:0<dtE f f)(hw:dtE w w=dtE f f)(hn:f≠w):∃(g:RE->PE) (K:RE),0<=K/\(∀t,0<=t->t<=1->dtE (g t) (g t)=dtE f f/\gQ f w (g t)=true)/\(∀s t,0<=s->s<=t->t<=1->dsE (g s) (g t)<=K*(t-s)*(K*(t-s)))/\∀z,dtE z z=dtE f f->gQ f w z=true->∃t,0<=t/\t<=1/\g t=z:=by
 have hB:=ko hw hn hf;have nn:∀{t},0<=t->0<dtE (hT (hlf f w).1 (hlf f w).2 t) (hT (hlf f w).1 (hlf f w).2 t):=λh=>Yq hB h;obtain⟨q0,q1⟩:=iq hB
 have L0:0<=((hlf f w).1-1)*((hlf f w).1-1)+(hlf f w).2*(hlf f w).2:=by
  have h1:=cZ ((hlf f w).1-1);have h2:=cZ (hlf f w).2;grind
 have r0:=dK (dtE f f);have r1:=gI (le_of_lt hf);refine⟨λt=>iG f (hT (hlf f w).1 (hlf f w).2 t) (ivE (dtE (hT (hlf f w).1 (hlf f w).2 t) (hT (hlf f w).1 (hlf f w).2 t))),(kH (dtE f f)+kH (dtE f f))*(((hlf f w).1-1)*((hlf f w).1-1)+(hlf f w).2*(hlf f w).2)*ivE (hlf f w).2,aH (aH (by grind) L0) (le_of_lt q0),λt t0 t1=>⟨BE (iq (nn t0)).2,T7 hf hw hn t0 t1 (iq (nn t0)).1⟩,λs t s0 st t1=>?_,λz hz hs=>LX hf hw hn hz hs⟩;have t0:=le_trans s0 st;obtain⟨a0,a1⟩:=iq (nn s0);obtain⟨b0,b1⟩:=iq (nn t0);have la:=Y1 (A:=(hlf f w).1) (B:=(hlf f w).2) s;have lb:=Y1 (A:=(hlf f w).1) (B:=(hlf f w).2) t;dsimp only;rw[Mh a1 b1,ad3];generalize ivE (dtE (hT (hlf f w).1 (hlf f w).2 s) (hT (hlf f w).1 (hlf f w).2 s))=k at*
 generalize ivE (dtE (hT (hlf f w).1 (hlf f w).2 t) (hT (hlf f w).1 (hlf f w).2 t))=l at*
 generalize dtE (hT (hlf f w).1 (hlf f w).2 s) (hT (hlf f w).1 (hlf f w).2 s)=n at*
 generalize dtE (hT (hlf f w).1 (hlf f w).2 t) (hT (hlf f w).1 (hlf f w).2 t)=m at*
 generalize ((hlf f w).1-1)*((hlf f w).1-1)+(hlf f w).2*(hlf f w).2=L at*
 generalize ivE (hlf f w).2=i at*
 generalize (hlf f w).2=B at*
 generalize kH (dtE f f)=r at*
 rw[<-r1]
 have xk:k*(B*B)<=L:=by
  have h:=aH (le_of_lt a0) (show 0<=n*L-B*B by grind);have:k*(n*L-B*B)=n*k*L-k*(B*B):=by grind
  rw[this,a1,one_mul]at h;grind
 have xl:l*(B*B)<=L:=by
  have h:=aH (le_of_lt b0) (show 0<=m*L-B*B by grind);have:l*(m*L-B*B)=m*l*L-l*(B*B):=by grind
  rw[this,b1,one_mul]at h;grind
 have x0:=aH (le_of_lt a0) (cZ B);have y0:=aH (le_of_lt b0) (cZ B)
 have xy:k*(B*B)*(l*(B*B))<=L*L:=by
  have h1:=aH x0 (show 0<=L-l*(B*B) by grind);have h2:=aH L0 (show 0<=L-k*(B*B) by grind);grind
 have h:=aH (aH (aH r0 r0) (cZ (t-s))) (aH (cZ i) (show 0<=L*L-k*(B*B)*(l*(B*B)) by grind))
 have e:(r*r+r*r+r*r+r*r)*(B*(t-s)*(B*(t-s))*(k*l))=(r*r+r*r+r*r+r*r)*((t-s)*(t-s))*(i*i)*(k*(B*B)*(l*(B*B))):=by
  have:(r*r+r*r+r*r+r*r)*((t-s)*(t-s))*(i*i)*(k*(B*B)*(l*(B*B)))=(r*r+r*r+r*r+r*r)*((t-s)*(t-s))*(B*B)*(k*l)*((B*i)*(B*i)):=by grind
  rw[this,q1,mul_one,mul_one];grind
 rw[e];grind
end
end RE
end
section
namespace RE
theorem Qg{l:Ln}(hn:0<nrE l){p q:PE}(hp:eG l p)(hq:eG l q)(h:tE l p=tE l q):p=q:=by
 have e:=yw (v:=q) hp
 have x:exE l q=0:=by
  unfold exE;unfold eG at hq;grind
 rw[x,h]at e;have z:nrE l*dsE p q=0:=by rw[e];grind
 have d:=wu p q
 have:dsE p q=0:=by
  rcases cO d with g|g
  ·have:=mul_pos hn g;grind
  ·exact g
 obtain⟨a,b⟩:=kD this;exact anx (by grind) (by grind)
theorem P6{x:RE}(h:x≠0):∃i,x*i=1:=by
 rcases lt_or_ge 0 x with g|g
 ·exact⟨_,(iq g).2⟩
 ·have g:0< -x:=by
   rcases cO (show 0<= -x by grind)with k|k
   ·exact k
   ·exact absurd (by grind) h
  exact⟨-ivE (-x),by have:=(iq g).2;grind⟩
theorem Vl{l:Ln}(hn:0<nrE l){F T:PE}(oF:eG l F)(oT:eG l T):∃(g:RE->PE) (K:RE),0<=K/\(∀t,0<=t->t<=1->RE.segE l F T (g t))/\(∀s t,0<=s->s<=t->t<=1->dsE (g s) (g t)<=K*(t-s)*(K*(t-s)))/\∀p,RE.segE l F T p->∃t,0<=t/\t<=1/\g t=p:=by
 have eT:∀t:RE,tE l (F.1+t*(T.1-F.1),F.2+t*(T.2-F.2))=tE l F+t*(tE l T-tE l F):=λt=>by
  unfold tE;dsimp only;grind
 have eL:∀t:RE,eG l (F.1+t*(T.1-F.1),F.2+t*(T.2-F.2)):=λt=>by
  unfold eG at*
  dsimp only;have h1:=congrArg (t* ·) oF;have h2:=congrArg (t* ·) oT;grind
 refine⟨λt=>(F.1+t*(T.1-F.1),F.2+t*(T.2-F.2)),kH (dsE F T),dK _,λt t0 t1=>⟨eL t,?_⟩,λs t _ _ _=>?_,λp hp=>?_⟩
 ·rw[eT];rcases lt_or_ge (tE l F) (tE l T)with g|g
  ·have h1:=aH t0 (show 0<=tE l T-tE l F by grind);have h2:=aH (show 0<=1-t by grind) (show 0<=tE l T-tE l F by grind);exact .inl ⟨by grind,by grind⟩
  ·have h1:=aH t0 (show 0<=tE l F-tE l T by grind);have h2:=aH (show 0<=1-t by grind) (show 0<=tE l F-tE l T by grind);exact .inr ⟨by grind,by grind⟩
 ·have r:=gI (wu F T)
  have:kH (dsE F T)*(t-s)*(kH (dsE F T)*(t-s))=dsE F T*((t-s)*(t-s)):=by
   rw[<-r];grind
  rw[this];refine fP ?_;unfold dsE;dsimp only;grind
 ·obtain⟨oP,hb⟩:=hp;by_cases e:tE l T-tE l F=0
  ·refine⟨0,le_refl _,le_of_lt zero_lt_one,Qg hn (eL 0) oP ?_⟩;rw[eT];rcases hb with⟨h1,h2⟩|⟨h1,h2⟩<;>grind
  ·obtain⟨i,hi⟩:=P6 e;refine⟨(tE l p-tE l F)*i,?_,?_,Qg hn (eL _) oP ?_⟩
   ·rcases hb with⟨h1,h2⟩|⟨h1,h2⟩
    ·have d:0<tE l T-tE l F:=(cO (show 0<=tE l T-tE l F by grind)).resolve_right e;have ip:0<=i:=nY d (by rw[mul_comm,hi];exact le_of_lt zero_lt_one);exact aH (by grind) ip
    ·have d:0< -(tE l T-tE l F):=(cO (show 0<= -(tE l T-tE l F) by grind)).resolve_right (by grind);have ip:0<= -i:=nY d (by have:=zero_lt_one;grind);have:=aH (show 0<=tE l F-tE l p by grind) ip;grind
   ·rcases hb with⟨h1,h2⟩|⟨h1,h2⟩
    ·have d:0<tE l T-tE l F:=(cO (show 0<=tE l T-tE l F by grind)).resolve_right e;have ip:0<=i:=nY d (by rw[mul_comm,hi];exact le_of_lt zero_lt_one);have:=aH (show 0<=tE l T-tE l p by grind) ip;grind
    ·have d:0< -(tE l T-tE l F):=(cO (show 0<= -(tE l T-tE l F) by grind)).resolve_right (by grind);have ip:0<= -i:=nY d (by have:=zero_lt_one;grind);have:=aH (show 0<=tE l p-tE l T by grind) ip;grind
   ·rw[eT];have:(tE l p-tE l F)*i*(tE l T-tE l F)=(tE l p-tE l F)*((tE l T-tE l F)*i):=by grind
    rw[this,hi];grind
theorem Vi{c:Cv}(h:GdE c):∃(g:RE->PE) (K:RE),0<=K/\(∀t,0<=t->t<=1->onE c (g t))/\(∀s t,0<=s->s<=t->t<=1->dsE (g s) (g t)<=K*(t-s)*(K*(t-s)))/\∀p,onE c p->∃t,0<=t/\t<=1/\g t=p:=by
 have hf:=h.f;have ht:=h.t;cases ha:c.1
 ·obtain⟨hl,oF,oT⟩:=h.l ha;rw[qR ha];exact Vl (pE hl) oF oT
 ·have a:=KP h ha;have q0:=fX a.q;have hu:dtE (frm (ciC c) (pR (ccF c))) (frm (ciC c) (pR (ccF c)))=of (ciC c).2.2:=a.u;have hw:dtE (frm (ciC c) (pR (ccT c))) (frm (ciC c) (pR (ccT c)))=of (ciC c).2.2:=a.w;obtain⟨g,K,k0,k1,k2,k3⟩:=Vj (f:=frm (ciC c) (pR (ccF c))) (w:=frm (ciC c) (pR (ccT c))) (by rw[hu];exact q0) (by rw[hw,hu]) a.ne;rw[oK ha];have ef:∀t,frm (ciC c) ((g t).1+of (ciC c).1,(g t).2+of (ciC c).2.1)=g t:=λt=>anx (by show _+_-_=_;grind) (by show _+_-_=_;grind);refine⟨λt=>((g t).1+of (ciC c).1,(g t).2+of (ciC c).2.1),K,k0,λt t0 t1=>?_,λs t s0 st t1=>?_,λp hp=>?_⟩
  ·obtain⟨n,s⟩:=k1 t t0 t1;refine⟨?_,by rw[ef];exact s⟩;show dtE (frm (ciC c) _) (frm (ciC c) _)=_;rw[ef,n,hu]
  ·have:=k2 s t s0 st t1;refine le_trans (fP ?_) this;unfold dsE;dsimp only;grind
  ·obtain⟨t,t0,t1,e⟩:=k3 (frm (ciC c) p) (by rw[hu];exact hp.1) hp.2;refine⟨t,t0,t1,TZ (c:=ciC c) ?_⟩;rw[ef,e]
open Classical in
def mnD(c:Cv)(p:PE):RE:=if h:∃m,Mn (onE c) p m then Classical.choose h else 0
theorem vj{c:Cv}(h:GdE c)(p:PE):Mn (onE c) p (mnD c p):=by
 obtain⟨m,hm,_⟩:=Gl h p;unfold mnD;rw[dif_pos ⟨m,hm⟩];exact anY (⟨m,hm⟩:∃m,Mn (onE c) p m)
theorem IB{c:Cv}(h:GdE c){p q:PE}{e:RE}(he:0<=e)(hd:dsE p q<=e*e):kH (mnD c p)<=kH (mnD c q)+e:=by
 obtain⟨⟨x,hx,ex⟩,_⟩:=vj h q;have m1:=(vj h p).2 x hx;have n0:0<=mnD c q:=by rw[<-ex];exact wu _ _
 have n1:0<=mnD c p:=by
  obtain⟨⟨y,_,ey⟩,_⟩:=vj h p;rw[<-ey];exact wu _ _
 have a0:=dK (mnD c q);have b0:=dK (mnD c p);have a1:=gI n0;have b1:=gI n1;obtain⟨z,z0,ez⟩:=Va (q.1-p.1,q.2-p.2)
 have ze:z<=e:=sd _ _ z0 he (by
  rw[<-ez];refine le_trans (fP ?_) hd;unfold dsE dtE;dsimp only;grind)
 have t:=ahU (u:=(x.1-q.1,x.2-q.2)) (w:=(q.1-p.1,q.2-p.2)) a0 z0 (by rw[a1,<-ex];rfl) ez;refine sd _ _ b0 (by grind) ?_;rw[b1];refine le_trans m1 (le_trans (b:=dtE (x.1-q.1+(q.1-p.1),x.2-q.2+(q.2-p.2)) (x.1-q.1+(q.1-p.1),x.2-q.2+(q.2-p.2))) (fP ?_) (le_trans t ?_))
 ·unfold dsE dtE;dsimp only;grind
 ·have:=aH (show 0<=e-z by grind) (show 0<=kH (mnD c q)+kH (mnD c q)+e+z by grind);grind
theorem Q9{c d:Cv}(hc:GdE c)(hd:GdE d):∃p q,onE c p/\onE d q/\∀p' q',onE c p'->onE d q'->dsE p q<=dsE p' q':=by
 obtain⟨g,K,k0,k1,k2,k3⟩:=Vi hc
 obtain⟨t,t0,t1,h⟩:=evt (f:=λt=>kH (mnD d (g t))) k0 λs t s0 st t1=>by
  have e:=k2 s t s0 st t1;have e0:=aH k0 (show 0<=t-s by grind);refine⟨IB hd e0 e,IB hd e0 ?_⟩;refine le_trans (fP ?_) e;unfold dsE;grind
 obtain⟨⟨q,hq,eq⟩,_⟩:=vj hd (g t);refine⟨g t,q,k1 t t0 t1,hq,λp' q' hp' hq'=>?_⟩;obtain⟨s,s0,s1,rfl⟩:=k3 p' hp'
 have n0:∀p,0<=mnD d p:=λp=>by
  obtain⟨⟨y,_,ey⟩,_⟩:=vj hd p;rw[<-ey];exact wu _ _
 have l:=h s s0 s1;have a:=dK (mnD d (g t));have l2:=RE.sq_mono _ _ a l;rw[gI (n0 _),gI (n0 _)]at l2;have m:=(vj hd (g s)).2 q' hq';have c1:dsE (g t) q=dsE q (g t):=by unfold dsE;grind
 have c2:dsE (g s) q'=dsE q' (g s):=by unfold dsE;grind
 rw[c1,eq,c2];exact le_trans l2 m
end RE
end
section
open RE
theorem Wc{c d:BCU}(hc:gdN c)(hd:gdN d){x:BP}(hx:x∈iM c d):Spb (dC c) x/\Spb (dC d) x:=by
 obtain⟨_,_,s1,s2,_⟩:=xN hc hd hx;exact⟨s1,s2⟩
end
section
namespace RE
theorem alY(A B x y m:RE):B*(m*(B*x-A*y))=m*(B*B*x+A*(A*x)-A*(A*x+B*y)):=by grind
theorem amd(A B x y m:RE): -A*(m*(B*x-A*y))=m*(A*A*y+B*(B*y)-B*(A*x+B*y)):=by grind
theorem alm(A B x y a b:RE):A*(x-a)+B*(y-b)=(A*x+B*y)-(A*a+B*b):=by grind
theorem amo(A x m B:RE):m*(B*B*x+A*(A*x)-A*0)=m*(A*A+B*B)*x:=by grind
theorem alV(A y m B:RE):m*(A*A*y+B*(B*y)-B*0)=m*(A*A+B*B)*y:=by grind
theorem akI(f g u v s p q:RE):(f+u*s-p)*(f+u*s-p)+(g+v*s-q)*(g+v*s-q)=((f-p)*(f-p)+(g-q)*(g-q))+((f-p)*u+(g-q)*v)*s+((f-p)*u+(g-q)*v)*s+(u*u+v*v)*(s*s):=by grind
theorem akM(a b:RE):(a-b)*(a+b)=a*a-b*b:=by grind
theorem ag7(x f:RE):f+(x-f)=x:=by grind
theorem akS(s u f:RE):f+u* -s=f+ -u*s:=by grind
theorem alP(x y p q a b m n:RE):((1+1)*(p-a))*x+((1+1)*(q-b))*y=(((x-a)*(x-a)+(y-b)*(y-b))-m)-(((x-p)*(x-p)+(y-q)*(y-q))-n)+((p*p+q*q-n)-(a*a+b*b-m)):=by grind
theorem al6(m n a b:RE):(m-m)-(n-n)+(b-a)=b-a:=by grind
theorem al2(d k:RE):d+k-d=k:=by grind
theorem Tg(a b:RE):a- -b=a+b:=by grind
theorem cY{x y:RE}(h:x*y=0):x=0\/y=0:=by
 rcases lt_lin.tri x 0 with a|a|a
 ·rcases lt_lin.tri y 0 with b|b|b
  ·have e:=dp x y;rw[h,dm,ii a,ii b]at e;exact absurd e (by decide)
  ·exact .inr b
  ·have e:=dp x y;rw[h,dm,ii a,dA b]at e;exact absurd e (by decide)
 ·exact .inl a
 ·rcases lt_lin.tri y 0 with b|b|b
  ·have e:=dp x y;rw[h,dm,dA a,ii b]at e;exact absurd e (by decide)
  ·exact .inr b
  ·have e:=dp x y;rw[h,dm,dA a,dA b]at e;exact absurd e (by decide)
section
variable {l c:Ln}
theorem Bt(hl:l.1≠0\/l.2.1≠0){v:PE}(h1:eG l v)(h2:fV c v):∃p∈lR l c,pR p=v:=by
 have hn:=pI hl;have t0:vlL l c.1 c.2.1/ck l*ck l=vlL l c.1 c.2.1:=ani hn
 have e1:l.1*ftX l c+l.2.1*ftY l c=l.2.2:=by
  unfold ftX ftY;generalize vlL l c.1 c.2.1/ck l=s at*
  unfold ck vlL at t0;grind
 have e3:(ftX l c-c.1)*l.2.1+(ftY l c-c.2.1)* -l.1=0:=by
  unfold ftX ftY;grind
 have k0:eO l c*ck l=c.2.2-yQ l c:=ani hn
 have hz:of l.1*(v.1-of (ftX l c))+of l.2.1*(v.2-of (ftY l c))=0:=by
  unfold eG at h1;rw[alm,h1,<-of_mul,<-of_mul,<-of_add,e1,sub_self]
 have hm:of (ck l)⁻¹*(of l.1*of l.1+of l.2.1*of l.2.1)=1:=by
  rw[<-of_mul,<-of_mul,<-of_add,<-of_mul,<-CA];exact congrArg of (Rat.inv_mul_cancel _ hn)
 obtain⟨t,ht⟩:∃t,t=of (ck l)⁻¹*(of l.2.1*(v.1-of (ftX l c))-of l.1*(v.2-of (ftY l c))):=⟨_,rfl⟩
 have w1:of l.2.1*t=v.1-of (ftX l c):=by rw[ht,alY,hz,amo,hm,one_mul]
 have w2: -of l.1*t=v.2-of (ftY l c):=by rw[ht,amd,hz,alV,hm,one_mul]
 have v1:v.1=of (ftX l c)+of l.2.1*t:=by rw[w1,ag7]
 have v2':v.2=of (ftY l c)+of (-l.1)*t:=by rw[of_neg,w2,ag7]
 have hq:of (ck l)*(t*t)=of (eO l c*ck l):=by
  have h2':=h2;unfold fV frm at h2';dsimp only at h2';rw[v1,v2',akI,<-of_sub,<-of_sub,<-of_mul,<-of_mul,<-of_mul,<-of_mul,<-of_mul,<-of_mul,<-of_add,<-of_add,<-of_add,e3,pg,zero_mul,add_zero,add_zero,show l.2.1*l.2.1+ -l.1* -l.1=ck l by unfold ck;grind]at h2';have e4:(ftX l c-c.1)*(ftX l c-c.1)+(ftY l c-c.2.1)*(ftY l c-c.2.1)=yQ l c:=rfl;rw[e4]at h2';rw[k0,of_sub,<-h2'];rw[al2]
 have tt:t*t=of (eO l c):=v6 hn (by rw[hq,<-of_mul,aox])
 have kn:0<=eO l c:=by
  rcases(by grind:0<=eO l c\/eO l c<0)with h|h
  ·exact h
  ·have:=fX h;rw[<-tt]at this;exact absurd this (cZ t)
 have dd:(rU l=l.2.1/\rS l= -l.1)\/(rU l= -l.2.1/\rS l=l.1):=by
  unfold rU rS;cases H3 l
  ·exact .inl ⟨rfl,rfl⟩
  ·exact .inr ⟨rfl,apE _⟩
 have hv:t=rq (eO l c)\/t= -rq (eO l c):=by
  have hs:=dB kn;have:(t-rq (eO l c))*(t+rq (eO l c))=0:=by rw[akM,tt,hs,sub_self]
  rcases cY this with h|h
  ·exact .inl (gJ _ _ h)
  ·refine .inr (gJ _ _ ?_);rw[<-h,Tg]
 unfold lR;rw[dF (show ¬eO l c<0 by grind)];by_cases hk0:eO l c=0
 ·rw[dT hk0];refine⟨atP (ftL l c),by simp,?_⟩
  have t00:t=0:=by
   rw[hk0,pg]at tt;rcases cY tt with h|h<;>exact h
  rw[mn];refine anx ?_ ?_
  ·rw[v1,t00,mul_zero,add_zero];rfl
  ·rw[v2',t00,mul_zero,add_zero];rfl
 ·rw[dF hk0]
  have neg2:∀f u:Rat,v2 f (-u) (eO l c)=of f+of u* -rq (eO l c):=λf u=>by
   unfold v2;rw[of_neg,akS]
  rcases dd with⟨g1,g2⟩|⟨g1,g2⟩<;>rcases hv with ht'|ht'
  ·refine⟨lcN l c,by simp,?_⟩;unfold lcN;rw[qj,g1,g2];exact anx (by rw[v1,ht'];rfl) (by rw[v2',ht'];rfl)
  ·refine⟨lcM l c,by simp,?_⟩;unfold lcM;rw[qj,g1,g2,neg2,neg2];exact anx (by rw[v1,ht']) (by rw[v2',ht'])
  ·refine⟨lcM l c,by simp,?_⟩;unfold lcM;rw[qj,g1,g2,apE];exact anx (by rw[v1,ht'];rfl) (by rw[v2',ht'];rfl)
  ·refine⟨lcN l c,by simp,?_⟩;unfold lcN;rw[qj,g1,g2];refine anx ?_ ?_
   ·show v2 _ (-l.2.1) _=_;rw[neg2,v1,ht']
   ·show v2 _ l.1 _=_;rw[v2',ht',show l.1= -(-l.1) from(apE _).symm,neg2,apE]
end
theorem ND{c d:Ln}{v:PE}(hc:fV c v)(hd:fV d v):eG (nI c d) v:=by
 have o2:of 2=1+1:=by
  rw[<-CA,<-of_add];exact congrArg of (by decide+kernel)
 unfold fV frm at hc hd;unfold eG nI rT;dsimp only at*
 simp only[of_sub,of_mul,of_add,o2];rw[alP v.1 v.2 (of d.1) (of d.2.1) (of c.1) (of c.2.1) (of c.2.2) (of d.2.2),hc,hd,al6]
end RE
end
section
open RE
theorem Kq(c d:Ln):iz d c=iz c d:=by
 unfold iz;have e1:decide (d.1=c.1)=decide (c.1=d.1):=an7.2 eq_comm;have e2:decide (d.2.1=c.2.1)=decide (c.2.1=d.2.1):=an7.2 eq_comm;rw[e1,e2]
theorem WH{l m:Ln}{p:Pt}(hp:p∈mb l m):p∈mb m l:=by
 unfold mb at*
 have ec:dE m l= -dE l m:=by unfold dE;grind
 by_cases h0:dE l m=0
 ·rw[dT h0]at hp;cases hp
 ·have h1:¬dE m l=0:=by rw[ec];grind
  rw[dF h0]at hp;rw[dF h1];have:p=atP (mf l m/dE l m,mh l m/dE l m):=by simpa using hp
  rw[this]
  have dv:∀a b:Rat,b≠0-> -a/ -b=a/b:=λa b hb=>by
   have h1: -a/ -b* -b= -a:=ani (by grind);have h2:a/b*b=a:=ani hb;generalize-a/ -b=x at*
   generalize a/b=y at*
   have:(x-y)*b=0:=by grind
   rcases apa.1 this with h|h
   ·grind
   ·exact absurd h hb
  have ex:mf m l= -mf l m:=by unfold mf;grind
  have ey:mh m l= -mh l m:=by unfold mh;grind
  rw[ec,ex,ey,dv _ _ h0,dv _ _ h0];simp
theorem To{c d:BCU}(hc:uV c)(hd:uV d){p:Pt}(hp:p∈gY (dC c) (dC d)):∃q∈gY (dC d) (dC c),pR q=pR p:=by
 obtain⟨c1,c2⟩:=kA hc;obtain⟨d1,d2⟩:=kA hd;have ec:(dC c).1=c.1:=rfl;have ed:(dC d).1=d.1:=rfl;unfold gY at*
 rw[ec,ed]at hp ⊢;cases ha:c.1<;>cases hb:d.1<;>rw[ha,hb]at hp
 ·have hp:p∈mb (lnC (dC c)) (lnC (dC d)):=hp;exact⟨p,WH hp,rfl⟩
 ·exact⟨p,hp,rfl⟩
 ·exact⟨p,hp,rfl⟩
 ·have i1:=(c1 ha).1;have i2:=(d1 hb).1;have hp:p∈ta (ciC (dC c)) (ciC (dC d)):=hp;show ∃q∈ta (ciC (dC d)) (ciC (dC c)),_;unfold ta at*
  rw[Kq];cases hq:iz (ciC (dC c)) (ciC (dC d))<;>rw[hq]at hp
  ·obtain⟨o1,o2⟩:=Ke (vL hq) hp;have o3:=Ru o1 o2;exact Bt (vL (by rw[Kq];exact hq)) (ND o3 o2) o3
  ·cases hp
theorem EN{c d:BCU}(hc:gdN c)(hd:gdN d){x:BP}(hx:x∈lX c d)(o1:onR (dC c) (dec x)=true)(o2:onR (dC d) (dec x)=true):∃y∈iM c d,a8 (dec y) (dec x)=0:=by
 obtain⟨_,p2⟩:=J9 hc.crp hc.ne (Td hc hd);have r:=((xp hc hd).2 x hx).2.1.1;exact p2 x (ap3.2 ⟨hx,JJ hc hd r o1 o2⟩)
theorem MT{c d:BCU}(hc:gdN c)(hd:gdN d){a:BP}(ha:a∈iM c d):∃b∈iM d c,a8 (dec a) (dec b)=0:=by
 obtain⟨hm,_,s1,s2,o1,o2⟩:=xN hc hd ha;have ra:=s1.1
 have key:∃z∈lX d c,a8 (dec z) (dec a)=0:=by
  unfold lX at hm;unfold lX;cases hs:cC (dC c) (dC d)
  ·have hs':cC (dC d) (dC c)=false:=by
    cases h:cC (dC d) (dC c)with
    |false=>rfl
    |true=>rw[BS h]at hs;cases hs
   rw[hs]at hm;rw[hs'];obtain⟨p,hp,e⟩:=aoP.1 hm;obtain⟨q,hq,e2⟩:=To hc.1.2 hd.1.2 hp;obtain⟨_,rq,_⟩:=supM_on hd.1.2 hc.1.2 hq;refine⟨enc q,aoP.2 ⟨q,hq,rfl⟩,?_⟩;have:Rpd (dec (enc q):Pt):=by rw[aA];exact rq
   refine cmpP_0.2 ?_;rw[aA,e2,<-e,aA]
  ·rw[hs]at hm;rw[BS hs];refine⟨a,?_,ai7 ra⟩;have:a=c.2.2.2.2.1\/a=c.2.2.2.2.2\/a=d.2.2.2.2.1\/a=d.2.2.2.2.2:=by simpa using hm
   rcases this with e|e|e|e<;>simp[e]
 obtain⟨z,hz,ez⟩:=key;have rz:=((xp hd hc).2 z hz).2.1.1;obtain⟨y,hy,ey⟩:=EN hd hc hz (by rw[JV hd.crp rz ra ez];exact o2) (by rw[JV hc.crp rz ra ez];exact o1);have ry:=(Wc hd hc hy).1.1;exact⟨y,hy,ME (ai6 ey ez)⟩
end
namespace RE
theorem Mn.zero{S:PE->Prop}{v:PE}{m:RE}(h:Mn S v m):m=0↔S v:=by
 obtain⟨⟨p,hp,e⟩,hl⟩:=h;constructor
 ·intro h0;rw[h0]at e;obtain⟨a,b⟩:=kD e;have:p=v:=anx (gJ _ _ a) (gJ _ _ b);rw[<-this];exact hp
 ·intro hv;have h1:=hl v hv
  have h2:dsE v v=0:=by
   unfold dsE;rw[sub_self,sub_self,mul_zero,add_zero]
  rw[h2]at h1;refine le_antisymm h1 ?_;rw[<-e];exact F7 _ _ (cZ _) (cZ _)
theorem Bg{x y:Rt}(hx:Rdd x)(hy:Rdd y)(h:vR x=vR y):(bh x y==0)=true:=by
 rw[cmpT_re hx.nn hy.nn,h,sub_self,dm];rfl
end RE
section
open RE
theorem aeI{l:List BP}{P:Prop}(h:∀a∈l,P)(n:¬P):l=[]:=by
 cases l with
 |nil=>rfl
 |cons a r=>exact absurd (h a List.mem_cons_self) n
theorem R6{c d:BCU}(hc:gdN c)(hd:gdN d)(e:iM c d=[]):iM d c=[]:=
 aeI (λ_ ha=>(MT hd hc ha).imp λ_ h=>h.1) λ⟨b,hb⟩=>by rw[e]at hb;cases hb
theorem VM(c d:Cv)(r:Rat):uM d c r=uM c d r:=by unfold uM;omega
theorem W1{d p q r:Rat}(hd:0<=d)(hp:0<=p)(hq:0<=q)(hr:0<=r):oA d q p r=oA d p q r:=by
 rw[zl hd hq hp hr,zl hd hp hq hr];exact congrArg sg (by grind)
theorem Wz{x y z r:Rat}(hx:0<=x)(hy:0<=y)(hz:0<=z)(hr:0<=r):sO y x z r=sO x y z r:=by
 rw[Gm hy hx hz hr,Gm hx hy hz hr];exact congrArg sg (by grind)
theorem Uu{c d:Cv}(hp:0<=(ciC c).2.2)(hq:0<=(ciC d).2.2){r:Rat}(hr:0<=r):te d c r=te c d r:=by
 have w:wyv d c=bkV (wyv c d):=anx (by unfold wyv bkV cD;grind) (by unfold wyv bkV cD;grind);have b:bkV (bkV (wyv c d))=wyv c d:=anx (apE _) (apE _)
 have n:nD d c=nD c d:=by
  unfold nD;rw[w];unfold aW bkV;grind
 have n0:0<=nD c d:=ju _;unfold te nT fT;rw[n,w,b,W1 n0 hp hq hr,Wz hp hq n0 hr,Bool.and_comm (df d (bkV (wyv c d))) (df c (wyv c d)),Bool.and_comm (df d (bkV (wyv c d))) (df c (bkV (wyv c d))),Bool.and_comm (df d (wyv c d)) (df c (wyv c d))];cases decide (nD c d=0)
 ·simp only[cond_false];omega
 ·rfl
theorem gdN.cn{c:BCU}(h:gdN c)(e:c.1=true):0<=(ciC (dC c)).2.2:=by
 have:=h.crp.q e;grind
theorem U8{c d:BCU}(hc:gdN c)(hd:gdN d){r:Rat}(hr:0<=r):jg (dC d) (dC c) r=jg (dC c) (dC d) r:=by
 unfold jg;have e1:(dC c).1=c.1:=rfl;have e2:(dC d).1=d.1:=rfl;rw[e1,e2,VM];cases hx:c.1<;>cases hy:d.1
 ·rfl
 ·rfl
 ·rfl
 ·show min _ (te (dC d) (dC c) r)=min _ (te (dC c) (dC d) r);rw[Uu (hc.cn hx) (hd.cn hy) hr]
def IsX(f:Rat->Int)(x:RE):Prop:=∀r:Rat,0<=r->f r=sg (x-of (r*r))
end
section
open RE
theorem NP{l m:Ln}(hs:ph l m=false){v:PE}(o1:eG l v)(o2:eG m v):∃q∈mb l m,pR q=v:=by
 unfold mb;unfold eG at o1 o2;by_cases h0:dE l m=0
 ·exfalso;have e1:l.1*m.2.1=l.2.1*m.1:=by unfold dE at h0;grind
  have k:of l.1*of m.2.1=of l.2.1*of m.1:=by rw[<-of_mul,e1,of_mul]
  have k1:=congrArg (·*v.1) k;have k2:=congrArg (·*v.2) k;have e2:l.1*m.2.2=l.2.2*m.1:=l8 (by rw[of_mul,of_mul,<-o1,<-o2];grind);have e3:l.2.1*m.2.2=l.2.2*m.2.1:=l8 (by rw[of_mul,of_mul,<-o1,<-o2];grind);unfold ph at hs;rw[dT e1,dT e2,dT e3]at hs;cases hs
 ·rw[dF h0];refine⟨_,apo.2 rfl,?_⟩;have nz:of (dE l m)≠0:=λe=>h0 (l8 e)
  have f:∀{a:Rat} {y:RE},of (dE l m)*y=of a->of (a/dE l m)=y:=λ{a y} h=>by
   have q:of (a/dE l m)*of (dE l m)=of a:=by rw[<-of_mul,ani h0]
   rcases cY (show of (dE l m)*(of (a/dE l m)-y)=0 by grind)with g|g
   ·exact absurd g nz
   ·grind
  rw[mn];refine anx (f ?_) (f ?_)
  ·unfold dE mf;rw[of_sub,of_mul,of_mul,of_sub,of_mul,of_mul,<-o1,<-o2];grind
  ·unfold dE mh;rw[of_sub,of_mul,of_mul,of_sub,of_mul,of_mul,<-o1,<-o2];grind
theorem kL{c:BCU}{v:PE}(o:onE (dC c) v):(c.1=false->eG (lnC (dC c)) v)/\(c.1=true->fV (ciC (dC c)) v):=by
 have e:(dC c).1=c.1:=rfl;constructor<;>intro ha
 ·rw[qR (e.trans ha)]at o;exact o.1
 ·rw[oK (e.trans ha)]at o;exact o.1
theorem Un{c d:BCU}(hc:uV c)(hd:uV d)(hs:cC (dC c) (dC d)=false){v:PE}(o1:onE (dC c) v)(o2:onE (dC d) v):∃q∈gY (dC c) (dC d),pR q=v:=by
 obtain⟨_,c2⟩:=kA hc;obtain⟨_,d2⟩:=kA hd;obtain⟨a1,a2⟩:=kL o1;obtain⟨b1,b2⟩:=kL o2;have ec:(dC c).1=c.1:=rfl;have ed:(dC d).1=d.1:=rfl;unfold cC at hs;unfold gY;rw[ec,ed]at hs ⊢;cases ha:c.1<;>cases hb:d.1<;>rw[ha,hb]at hs
 ·exact NP hs (a1 ha) (b1 hb)
 ·exact Bt (c2 ha).2 (a1 ha) (b2 hb)
 ·exact Bt (d2 hb).2 (b1 hb) (a2 ha)
 ·have o1:=a2 ha;have o2:=b2 hb;show ∃q∈ta (ciC (dC c)) (ciC (dC d)),_;unfold ta;cases hq:iz (ciC (dC c)) (ciC (dC d))
  ·exact Bt (vL hq) (ND o1 o2) o1
  ·exfalso;have hs:qa (ciC (dC c)) (ciC (dC d))=false:=hs;obtain⟨q1,q2⟩:=am6.1 hq;have q1:=amZ q1;have q2:=amZ q2;unfold fV frm at o1 o2;rw[q1,q2,o2]at o1;unfold qa at hs;rw[dT q1,dT q2,dT (l8 o1).symm]at hs;cases hs
theorem WT{c d:BCU}(hc:gdN c)(hd:gdN d)(hs:cC (dC c) (dC d)=false){v:PE}(o1:onE (dC c) v)(o2:onE (dC d) v):iM c d≠[]:=by
 obtain⟨q,hq,e⟩:=Un hc.1.2 hd.1.2 hs o1 o2;subst e;have r:Rpd q:=(supM_on hc.1.2 hd.1.2 hq).2.1;have hx:(enc q:BP)∈lX c d:=by unfold lX;rw[hs];exact List.mem_map_of_mem hq
 obtain⟨y,hy,_⟩:=EN hc hd hx (by rw[aA,<-kX hc.crp r];exact(jS hc.e).2 o1) (by rw[aA,<-kX hd.crp r];exact(jS hd.e).2 o2);intro n;rw[n]at hy;cases hy
theorem adD{c:BCU}(h:gdN c)(ha:c.1=true){u:Rat×Rat}(hz:zeV u=false)(t:df (dC c) u=true):onE (dC c) (of (ciC (dC c)).1+of u.1*rq ((ciC (dC c)).2.2/aW u u),of (ciC (dC c)).2.1+of u.2*rq ((ciC (dC c)).2.2/aW u u)):=by
 have hC:Cir (ciC (dC c)):=⟨h.crp.q ha⟩
 unfold df at t;rw[show(dC c).1=true from ha,hz]at t;have o:=(jS h.e (p:=iV (ciC (dC c)) u)).1 t;have f:=ul (ciC (dC c)) u;have f1:=congrArg Prod.fst f;have f2:=congrArg Prod.snd f;unfold frm at f1 f2;dsimp only at f1 f2;rw[show pR (iV (ciC (dC c)) u)=(of (ciC (dC c)).1+of u.1*rq ((ciC (dC c)).2.2/aW u u),of (ciC (dC c)).2.1+of u.2*rq ((ciC (dC c)).2.2/aW u u)) from anx (by grind) (by grind)]at o;exact o
end
section
open RE
namespace RE
theorem lI(p q:PE):dsE p q=dsE q p:=by
 unfold dsE;grind
theorem ac0(a b:RE):mnE a b=a\/mnE a b=b:=by
 unfold mnE;by_cases h:b<a
 ·exact .inr (anp h)
 ·exact .inl (ank h)
theorem Pu{c:Cv}(h:GdE c)(ha:c.1=false){p q:PE}(hp:onE c p)(hm:∀x,onE c x->dsE p q<=dsE x q):(dsE (pR (frC c)) q<=dsE p q\/dsE (pR (toC c)) q<=dsE p q)\/tE (lnC c) p=tE (lnC c) q:=by
 obtain⟨hl,oF,oT⟩:=h.l ha;have oF:eG (lnC c) (pR (frC c)):=oF;have oT:eG (lnC c) (pR (toC c)):=oT;have hn:0<nrE (lnC c):=pE hl;rw[qR ha]at hp hm;by_cases hb:btE (tE (lnC c) (pR (frC c))) (tE (lnC c) (pR (toC c))) (tE (lnC c) q)
 ·obtain⟨k,kp,ek⟩:=yU hn;obtain⟨⟨x,hx,e⟩,_⟩:=tW hn hb kp ek;have h1:=hm x hx;rw[e]at h1;have h2:=yw (v:=q) hp.1;have h3:=aH (le_of_lt hn) (show 0<=exE (lnC c) q*exE (lnC c) q*k-dsE p q by grind)
  have h4:nrE (lnC c)*(exE (lnC c) q*exE (lnC c) q*k)=exE (lnC c) q*exE (lnC c) q:=by
   have:nrE (lnC c)*(exE (lnC c) q*exE (lnC c) q*k)=exE (lnC c) q*exE (lnC c) q*(nrE (lnC c)*k):=by grind
   rw[this,ek,mul_one]
  have h5:=cZ (tE (lnC c) p-tE (lnC c) q)
  have h6:(tE (lnC c) p-tE (lnC c) q)*(tE (lnC c) p-tE (lnC c) q)=0:=by
   rcases cO h5 with g|g
   ·exfalso;grind
   ·exact g
  have:=(cY h6).elim id id;exact .inr (by grind)
 ·obtain⟨⟨x,hx,e⟩,_⟩:=xB hn oF oT hb;have sF:RE.segE (lnC c) (pR (frC c)) (pR (toC c)) (pR (frC c)):=⟨oF,by unfold btE;grind⟩
  have sT:RE.segE (lnC c) (pR (frC c)) (pR (toC c)) (pR (toC c)):=⟨oT,by unfold btE;grind⟩
  have l:=(xB hn oF oT hb).2 p hp;rcases ac0 (dsE (pR (frC c)) q) (dsE (pR (toC c)) q)with g|g<;>rw[g]at l
  ·exact .inl (.inl l)
  ·exact .inl (.inr l)
theorem NL{c:Cv}(h:GdE c)(ha:c.1=true){p q:PE}(hp:onE c p)(hm:∀x,onE c x->dsE p q<=dsE x q):(dsE (pR (frC c)) q<=dsE p q\/dsE (pR (toC c)) q<=dsE p q)\/∃k,0<k/\frm (ciC c) p=((frm (ciC c) q).1*k,(frm (ciC c) q).2*k):=by
 have g:=KP h ha;have hq:=g.q;have q0:=fX hq
 have ends:∀x y:PE,(x=pR (ccF c)/\y=pR (ccT c))->(dsE x q<=dsE p q\/dsE y q<=dsE p q)->(dsE (pR (frC c)) q<=dsE p q\/dsE (pR (toC c)) q<=dsE p q):=λx y ⟨e1,e2⟩ hh=>by
  rcases lK c with⟨g1,g2⟩|⟨g1,g2⟩<;>rw[e1,e2,g1,g2]at hh
  ·exact hh
  ·exact hh.symm
 rw[oK ha]at hp hm;by_cases hz:q=vE (ctr (ciC c))
 ·refine .inl (ends _ _ ⟨rfl,rfl⟩ (.inl (fP ?_)));rw[hz,<-xU,<-xU];exact g.u.trans hp.1.symm
 ·cases hw:gQ (frm (ciC c) (pR (ccF c))) (frm (ciC c) (pR (ccT c))) (frm (ciC c) q)
  ·refine .inl (ends _ _ ⟨rfl,rfl⟩ ?_);exact(Bp g.u g.w hp.1 g.ne hp.2 (by rw[hw];exact Bool.false_ne_true)).imp (vT hp.1 g.u) (vT hp.1 g.w)
  ·refine .inr ?_;obtain⟨u,k,x,up,kp,eu,ex,ox,dx⟩:=QE hq hz;have h1:=hm x ⟨ox,by rw[ex,nF _ _ _ kp];exact hw⟩;rw[po hp.1,po ox]at h1;have o1:dtE (frm (ciC c) p) (frm (ciC c) p)=of (ciC c).2.2:=hp.1;have o2:dtE (frm (ciC c) x) (frm (ciC c) x)=of (ciC c).2.2:=ox;refine⟨k,kp,?_⟩;rw[<-ex]
   have e1:dtE (frm (ciC c) p) (frm (ciC c) x)=dtE (frm (ciC c) p) (frm (ciC c) q)*k:=by
    rw[ex];unfold dtE;dsimp only;grind
   have e2:dtE (frm (ciC c) x) (frm (ciC c) x)=dtE (frm (ciC c) x) (frm (ciC c) q)*k:=by
    have:dtE (frm (ciC c) x) (frm (ciC c) x)=dtE (frm (ciC c) x) ((frm (ciC c) q).1*k,(frm (ciC c) q).2*k):=by rw[<-ex]
    rw[this];unfold dtE;dsimp only;grind
   have h2:=aH (show 0<=dtE (frm (ciC c) p) (frm (ciC c) q)-dtE (frm (ciC c) x) (frm (ciC c) q) by grind) (le_of_lt kp)
   have z:dtE ((frm (ciC c) p).1-(frm (ciC c) x).1,(frm (ciC c) p).2-(frm (ciC c) x).2) ((frm (ciC c) p).1-(frm (ciC c) x).1,(frm (ciC c) p).2-(frm (ciC c) x).2)=dtE (frm (ciC c) p) (frm (ciC c) p)+dtE (frm (ciC c) x) (frm (ciC c) x)-(dtE (frm (ciC c) p) (frm (ciC c) x)+dtE (frm (ciC c) p) (frm (ciC c) x)):=by
    unfold dtE;dsimp only;grind
   have s1:=cZ ((frm (ciC c) p).1-(frm (ciC c) x).1);have s2:=cZ ((frm (ciC c) p).2-(frm (ciC c) x).2)
   have zz:((frm (ciC c) p).1-(frm (ciC c) x).1)*((frm (ciC c) p).1-(frm (ciC c) x).1)+((frm (ciC c) p).2-(frm (ciC c) x).2)*((frm (ciC c) p).2-(frm (ciC c) x).2)=0:=by
    rw[o1,o2,e1]at z;rw[o2]at e2;have z:((frm (ciC c) p).1-(frm (ciC c) x).1)*((frm (ciC c) p).1-(frm (ciC c) x).1)+((frm (ciC c) p).2-(frm (ciC c) x).2)*((frm (ciC c) p).2-(frm (ciC c) x).2)=_:=z;rcases cO (show 0<=((frm (ciC c) p).1-(frm (ciC c) x).1)*((frm (ciC c) p).1-(frm (ciC c) x).1)+((frm (ciC c) p).2-(frm (ciC c) x).2)*((frm (ciC c) p).2-(frm (ciC c) x).2) by grind)with g|g
    ·exfalso;grind
    ·exact g
   obtain⟨a,b⟩:=kD zz;exact anx (by grind) (by grind)
end RE
def Low(c d:BCU)(m:RE):Prop:=∀p q,onE (dC c) p->onE (dC d) q->m<=dsE p q
theorem Low.sym{c d:BCU}{m:RE}(h:Low c d m):Low d c m:=λp q hp hq=>by rw[lI];exact h q p hq hp
theorem xE{c d:BCU}{m:RE}(hd:gdN d)(h:Low c d m){p:PE}(hp:onE (dC c) p){r:Rat}(hr:0<=r):sg (m-of (r*r))<=poiE (dC d) p r:=by
 obtain⟨x,hx,e⟩:=Gl hd.e p;rw[e r hr];obtain⟨⟨q,hq,eq⟩,_⟩:=hx;have:=h p q hp hq;rw[lI,eq]at this;exact gM (gz _ _ _ this)
theorem xi{b:Bool}{x:Int}{y:RE}(h:b=true->sg y<=x):sg y<=u9 b x:=by
 cases b
 ·exact Pi _
 ·exact h rfl
theorem JF{s a:BCU}{m:RE}(hs:gdN s)(ha:gdN a)(es:s.1=false)(ea:a.1=true)(h:Low s a m){r:Rat}(hr:0<=r):sg (m-of (r*r))<=wC (dC s) (dC a) r:=by
 unfold wC;refine xi λo=>?_;have o:=(jS hs.e).1 o;rw[mn]at o;rw[Hg ha (GS hs.1.2 ha.1.2 es ea) hr];obtain⟨⟨q,hq,e⟩,_⟩:=Gq ha.e (ftv (dC s) (dC a));rw[<-e];have:=h _ q o hq;rw[lI]at this;exact gM (gz _ _ _ this)
end
section
open RE
theorem xg{c:BCU}(h:gdN c)(ha:c.1=true){u:Rat×Rat}(hz:zeV u=false):df (dC c) u=true↔onE (dC c) (of (ciC (dC c)).1+of u.1*rq ((ciC (dC c)).2.2/aW u u),of (ciC (dC c)).2.1+of u.2*rq ((ciC (dC c)).2.2/aW u u)):=by
 refine⟨adD h ha hz,λo=>?_⟩;have hC:Cir (ciC (dC c)):=⟨h.crp.q ha⟩
 unfold df;rw[show(dC c).1=true from ha,hz];refine(jS h.e (p:=iV (ciC (dC c)) u)).2 ?_;have f:=ul (ciC (dC c)) u;have f1:=congrArg Prod.fst f;have f2:=congrArg Prod.snd f;unfold frm at f1 f2;dsimp only at f1 f2;rw[show pR (iV (ciC (dC c)) u)=(of (ciC (dC c)).1+of u.1*rq ((ciC (dC c)).2.2/aW u u),of (ciC (dC c)).2.1+of u.2*rq ((ciC (dC c)).2.2/aW u u)) from anx (by grind) (by grind)];exact o
theorem J8{c d:BCU}(hc:gdN c)(hd:gdN d)(ha:c.1=true)(hb:d.1=true)(hn:nD (dC c) (dC d)≠0):∃(C W:PE) (P Q N:RE),(0<N/\0<P/\0<Q/\W.1*W.1+W.2*W.2=N*N)/\(N=rq (nD (dC c) (dC d))/\P*N=rq (ciC (dC c)).2.2/\Q*N=rq (ciC (dC d)).2.2)/\(C=vE (ctr (ciC (dC c)))/\(C.1+W.1,C.2+W.2)=vE (ctr (ciC (dC d))))/\
  (nT (dC c) (dC d)=true↔onE (dC c) (C.1+W.1*P,C.2+W.2*P))/\(fT (dC c) (dC d)=true↔onE (dC c) (C.1+W.1* -P,C.2+W.2* -P))/\
  (df (dC d) (wyv (dC c) (dC d))=true↔onE (dC d) (C.1+W.1+W.1*Q,C.2+W.2+W.2*Q))/\(df (dC d) (bkV (wyv (dC c) (dC d)))=true↔onE (dC d) (C.1+W.1+W.1* -Q,C.2+W.2+W.2* -Q)):=by
 have p0:=hc.cn ha;have q0:=hd.cn hb;have n0:0<=nD (dC c) (dC d):=ju _;have nn:0<nD (dC c) (dC d):=by grind
 have dw:aW (wyv (dC c) (dC d)) (wyv (dC c) (dC d))=nD (dC c) (dC d):=rfl
 have db:aW (bkV (wyv (dC c) (dC d))) (bkV (wyv (dC c) (dC d)))=nD (dC c) (dC d):=by
  rw[<-dw];unfold aW bkV;grind
 have zw:zeV (wyv (dC c) (dC d))=false:=by
  cases z:zeV (wyv (dC c) (dC d))
  ·rfl
  ·obtain⟨z1,z2⟩:=am6.1 z;exact absurd (by rw[<-dw];unfold aW;rw[amZ z1,amZ z2];grind) hn
 have zb:zeV (bkV (wyv (dC c) (dC d)))=false:=by
  cases z:zeV (bkV (wyv (dC c) (dC d)))
  ·rfl
  ·obtain⟨z1,z2⟩:=am6.1 z;exact absurd (by rw[<-db];unfold aW;rw[amZ z1,amZ z2];grind) hn
 have rt:∀{x:Rat},0<=x->rq (x/nD (dC c) (dC d))*rq (nD (dC c) (dC d))=rq x:=λhx=>by rw[<-xM (CI hx n0) n0,ani hn]
 have np:=Bf nn;have w1:of (ciC (dC d)).1=of (ciC (dC c)).1+of (wyv (dC c) (dC d)).1:=by rw[<-of_add];unfold wyv cD ctr;exact congrArg of (by grind)
 have w2:of (ciC (dC d)).2.1=of (ciC (dC c)).2.1+of (wyv (dC c) (dC d)).2:=by rw[<-of_add];unfold wyv cD ctr;exact congrArg of (by grind)
 have b1:of (bkV (wyv (dC c) (dC d))).1= -of (wyv (dC c) (dC d)).1:=of_neg _;have b2:of (bkV (wyv (dC c) (dC d))).2= -of (wyv (dC c) (dC d)).2:=of_neg _;have A:=xg hc ha zw;have A':=xg hc ha zb;have B:=xg hd hb zw;have B':=xg hd hb zb;rw[dw]at A B;rw[db,b1,b2]at A' B';rw[w1,w2]at B B';have sg1:∀x y z:RE,x+ -y*z=x+y* -z:=λx y z=>by grind
 rw[sg1,sg1]at A' B'
 have pos:∀{x:Rat},0<x->0<rq (x/nD (dC c) (dC d)):=λ{x} hx=>by
  have h:=rt (x:=x) (by grind);have:=Bf hx;rcases cO (gf (x/nD (dC c) (dC d)))with g|g
  ·exact g
  ·rw[g]at h;grind
 refine⟨vE (ctr (ciC (dC c))),vE (wyv (dC c) (dC d)),rq ((ciC (dC c)).2.2/nD (dC c) (dC d)),rq ((ciC (dC d)).2.2/nD (dC c) (dC d)),rq (nD (dC c) (dC d)),⟨np,pos (hc.crp.q ha),pos (hd.crp.q hb),?_⟩,⟨rfl,rt p0,rt q0⟩,⟨rfl,?_⟩,A,A',B,B'⟩
 ·rw[dB n0,<-dw];show of _*of _+of _*of _=of _;unfold aW;rw[of_add,of_mul,of_mul]
 ·unfold vE;exact anx w1.symm w2.symm
theorem II{c d:BCU}(hc:gdN c)(hd:gdN d)(ha:c.1=true)(hb:d.1=true)(hn:nD (dC c) (dC d)≠0){r:Rat}(hr:0<=r):te (dC c) (dC d) r=min (min (u9 (nT (dC c) (dC d)&&df (dC d) (bkV (wyv (dC c) (dC d)))) (sS (ciC (dC c)).2.2 (ciC (dC d)).2.2 (nD (dC c) (dC d)) r)) (u9 (nT (dC c) (dC d)&&df (dC d) (wyv (dC c) (dC d))) (sS (nD (dC c) (dC d)) (ciC (dC d)).2.2 (ciC (dC c)).2.2 r))) (u9 (fT (dC c) (dC d)&&df (dC d) (bkV (wyv (dC c) (dC d)))) (sS (nD (dC c) (dC d)) (ciC (dC c)).2.2 (ciC (dC d)).2.2 r)):=by
 have p0:=hc.cn ha;have q0:=hd.cn hb;have n0:0<=nD (dC c) (dC d):=ju _;unfold te;rw[dF hn,cond_false,GG p0 q0 n0 hr,Int.max_comm (sO _ _ _ _),Int.max_comm (sO _ _ _ _),GG n0 q0 p0 hr,GG n0 p0 q0 hr]
theorem VF{c d:BCU}{m:RE}(hc:gdN c)(hd:gdN d)(ha:c.1=true)(hb:d.1=true)(h:Low c d m){r:Rat}(hr:0<=r):sg (m-of (r*r))<=te (dC c) (dC d) r:=by
 by_cases hn:nD (dC c) (dC d)=0
 ·unfold te;rw[dT hn];exact Pi _
 ·have p0:=hc.cn ha;have q0:=hd.cn hb;have n0:0<=nD (dC c) (dC d):=ju _;obtain⟨C,W,P,Q,N,⟨_,_,_,eW⟩,⟨eN,eP,eQ⟩,_,A,A',B,B'⟩:=J8 hc hd ha hb hn;rw[II hc hd ha hb hn hr]
  have t1:=xi (b:=nT (dC c) (dC d)&&df (dC d) (bkV (wyv (dC c) (dC d)))) (x:=sS (ciC (dC c)).2.2 (ciC (dC d)).2.2 (nD (dC c) (dC d)) r) (y:=m-of (r*r)) λt=>by
   obtain⟨t1,t2⟩:=am6.1 t;have:=h _ _ (A.1 t1) (B'.1 t2);rw[tB p0 q0 n0 hr,<-of_mul,<-eP,<-eQ,<-eN];refine gM (gz _ _ _ (le_trans this (fP ?_)));unfold dsE;dsimp only;grind
  have t2:=xi (b:=nT (dC c) (dC d)&&df (dC d) (wyv (dC c) (dC d))) (x:=sS (nD (dC c) (dC d)) (ciC (dC d)).2.2 (ciC (dC c)).2.2 r) (y:=m-of (r*r)) λt=>by
   obtain⟨t1,t2⟩:=am6.1 t;have:=h _ _ (A.1 t1) (B.1 t2);rw[tB n0 q0 p0 hr,<-of_mul,<-eP,<-eQ,<-eN];refine gM (gz _ _ _ (le_trans this (fP ?_)));unfold dsE;dsimp only;grind
  have t3:=xi (b:=fT (dC c) (dC d)&&df (dC d) (bkV (wyv (dC c) (dC d)))) (x:=sS (nD (dC c) (dC d)) (ciC (dC c)).2.2 (ciC (dC d)).2.2 r) (y:=m-of (r*r)) λt=>by
   obtain⟨t1,t2⟩:=am6.1 t;have:=h _ _ (A'.1 t1) (B'.1 t2);rw[tB n0 p0 q0 hr,<-of_mul,<-eP,<-eQ,<-eN];refine gM (gz _ _ _ (le_trans this (fP ?_)));unfold dsE;dsimp only;grind
  omega
theorem WY{c d:BCU}{m:RE}(hc:gdN c)(hd:gdN d)(h:Low c d m){r:Rat}(hr:0<=r):sg (m-of (r*r))<=jg (dC c) (dC d) r:=by
 have l1:=xE hd h (ro hc.e).1 hr;have l2:=xE hd h (ro hc.e).2 hr;have l3:=xE hc h.sym (ro hd.e).1 hr;have l4:=xE hc h.sym (ro hd.e).2 hr;have E:sg (m-of (r*r))<=uM (dC c) (dC d) r:=by unfold uM;omega
 have e1:(dC c).1=c.1:=rfl;have e2:(dC d).1=d.1:=rfl;unfold jg;rw[e1,e2];cases hx:c.1<;>cases hy:d.1<;>simp only[cond_true,cond_false]
 ·exact E
 ·exact Int.le_min.2 ⟨E,JF hc hd hx hy h hr⟩
 ·exact Int.le_min.2 ⟨E,JF hd hc hy hx h.sym hr⟩
 ·exact Int.le_min.2 ⟨E,VF hc hd hx hy h hr⟩
end
section
open RE
theorem V3(c d:Cv)(r:Rat):jg c d r<=uM c d r:=by
 unfold jg;cases c.1<;>cases d.1<;>simp only[cond_true,cond_false]<;>omega
theorem MK{c d:BCU}(hd:gdN d){p q:PE}(hp:p=pR (frC (dC c))\/p=pR (toC (dC c)))(hq:onE (dC d) q){r:Rat}(hr:0<=r):jg (dC c) (dC d) r<=sg (dsE p q-of (r*r)):=by
 have h:=afm hd.e (p:=p) hq hr;rw[lI]at h;refine apG (V3 _ _ _) (apG ?_ h);unfold uM;rcases hp with rfl|rfl<;>omega
theorem acV{c:BCU}(h:gdN c){p q:PE}(hp:onE (dC c) p)(hm:∀x,onE (dC c) x->dsE p q<=dsE x q):(∃E,(E=pR (frC (dC c))\/E=pR (toC (dC c)))/\dsE E q<=dsE p q)\/(c.1=false/\tE (lnC (dC c)) p=tE (lnC (dC c)) q)\/(c.1=true/\∃k,0<k/\frm (ciC (dC c)) p=((frm (ciC (dC c)) q).1*k,(frm (ciC (dC c)) q).2*k)):=by
 have e:(dC c).1=c.1:=rfl;have en:(dsE (pR (frC (dC c))) q<=dsE p q\/dsE (pR (toC (dC c))) q<=dsE p q)->∃E,(E=pR (frC (dC c))\/E=pR (toC (dC c)))/\dsE E q<=dsE p q:=λg=>g.elim (λg=>⟨_,.inl rfl,g⟩) λg=>⟨_,.inr rfl,g⟩
 cases ha:c.1
 ·exact(Pu h.e (e.trans ha) hp hm).imp en λg=>.inl ⟨rfl,g⟩
 ·exact(NL h.e (e.trans ha) hp hm).imp en λg=>.inr ⟨rfl,g⟩
theorem HK{c d:BCU}(hc:gdN c)(hd:gdN d)(hs:cC (dC c) (dC d)=false)(hn:iM c d=[]){p q:PE}(hp:onE (dC c) p)(hq:onE (dC d) q):p≠q:=λe=>WT hc hd hs hp (e▸hq) hn
theorem MJ{c d:BCU}(hc:gdN c)(hd:gdN d)(ec:c.1=false)(ed:d.1=true)(hn:iM c d=[]){p q:PE}(hp:onE (dC c) p)(hq:onE (dC d) q)(ht:tE (lnC (dC c)) p=tE (lnC (dC c)) q){k:RE}(hk:frm (ciC (dC d)) q=((frm (ciC (dC d)) p).1*k,(frm (ciC (dC d)) p).2*k)){r:Rat}(hr:0<=r):wC (dC c) (dC d) r<=sg (dsE p q-of (r*r)):=by
 have sF:cC (dC c) (dC d)=false:=by
  unfold cC;rw[show(dC c).1=false from ec,show(dC d).1=true from ed];rfl
 have ne:=HK hc hd sF hn hp hq;obtain⟨hl,_,_⟩:=hc.e.l (show(dC c).1=false from ec);have n0:0<nrE (lnC (dC c)):=pE hl;have f1:=congrArg of (wP hl (ctr (ciC (dC d))));have f2:=congrArg of (zJ (lnC (dC c)) (ctr (ciC (dC d))));rw[of_add,of_mul,of_mul]at f1;rw[of_add,of_mul,of_mul,of_add,of_mul,of_mul,of_neg]at f2;have oL:eG (lnC (dC c)) (vE (ftv (dC c) (dC d))):=f1;have tL:tE (lnC (dC c)) (vE (ftv (dC c) (dC d)))=tE (lnC (dC c)) (vE (ctr (ciC (dC d)))):=f2;have oP:=(kL hp).1 ec;have e1:=congrArg Prod.fst hk;have e2:=congrArg Prod.snd hk;have a1:(frm (ciC (dC d)) p).1=p.1-(vE (ctr (ciC (dC d)))).1:=rfl;have a2:(frm (ciC (dC d)) p).2=p.2-(vE (ctr (ciC (dC d)))).2:=rfl;have b1:(frm (ciC (dC d)) q).1=q.1-(vE (ctr (ciC (dC d)))).1:=rfl;have b2:(frm (ciC (dC d)) q).2=q.2-(vE (ctr (ciC (dC d)))).2:=rfl;dsimp only at e1 e2;rw[a1,b1]at e1;rw[a2,b2]at e2;have k1:k-1≠0:=λz=>ne (anx (by grind) (by grind))
 have tp:tE (lnC (dC c)) p=tE (lnC (dC c)) (vE (ctr (ciC (dC d)))):=by
  have z:(k-1)*(tE (lnC (dC c)) p-tE (lnC (dC c)) (vE (ctr (ciC (dC d)))))=0:=by
   unfold tE at ht ⊢;grind
  have:=(cY z).resolve_left k1;grind
 have pe:p=vE (ftv (dC c) (dC d)):=Qg n0 oP oL (tp.trans tL.symm);have o:onP (dC c) (atP (ftv (dC c) (dC d)))=true:=(jS hc.e).2 (by rw[mn];rw[pe]at hp;exact hp);unfold wC;rw[o];show kS _ _ _<=_;rw[Hg hd (GS hc.1.2 hd.1.2 ec ed) hr];have:=(Gq hd.e (ftv (dC c) (dC d))).2 q hq;rw[<-pe,lI]at this;exact gM (gz _ _ _ this)
theorem adK{c d:BCU}(hc:gdN c)(hd:gdN d)(ec:c.1=true)(ed:d.1=true)(hz:nD (dC c) (dC d)≠0){p q:PE}(ne:p≠q)(hp:onE (dC c) p)(hq:onE (dC d) q){k l:RE}(k0:0<k)(hk:frm (ciC (dC c)) p=((frm (ciC (dC c)) q).1*k,(frm (ciC (dC c)) q).2*k))(hl:frm (ciC (dC d)) q=((frm (ciC (dC d)) p).1*l,(frm (ciC (dC d)) p).2*l)){r:Rat}(hr:0<=r):te (dC c) (dC d) r<=sg (dsE p q-of (r*r)):=by
 have p0:=hc.cn ec;have q0:=hd.cn ed;have n0:0<=nD (dC c) (dC d):=ju _;obtain⟨C,W,P,Q,N,⟨N0,P0,Q0,eW⟩,⟨eN,eP,eQ⟩,⟨eC,eD⟩,A,A',B,B'⟩:=J8 hc hd ec ed hz;have oc:(frm (ciC (dC c)) p).1*(frm (ciC (dC c)) p).1+(frm (ciC (dC c)) p).2*(frm (ciC (dC c)) p).2=of (ciC (dC c)).2.2:=(kL hp).2 ec;have od:(frm (ciC (dC d)) q).1*(frm (ciC (dC d)) q).1+(frm (ciC (dC d)) q).2*(frm (ciC (dC d)) q).2=of (ciC (dC d)).2.2:=(kL hq).2 ed;rw[<-dB p0,<-eP]at oc;rw[<-dB q0,<-eQ]at od;have f1:∀x:PE,frm (ciC (dC c)) x=(x.1-C.1,x.2-C.2):=λx=>by rw[eC];rfl
 have f2:∀x:PE,frm (ciC (dC d)) x=(x.1-(C.1+W.1),x.2-(C.2+W.2)):=λx=>by
  have g1:=congrArg Prod.fst eD;have g2:=congrArg Prod.snd eD;dsimp only at g1 g2;rw[g1,g2];rfl
 rw[f1]at oc;rw[f2]at od;rw[f1,f1]at hk;rw[f2,f2]at hl;have h1:=congrArg Prod.fst hk;have h2:=congrArg Prod.snd hk;have h3:=congrArg Prod.fst hl;have h4:=congrArg Prod.snd hl;dsimp only at h1 h2 h3 h4 oc od;obtain⟨u0,u1⟩:=iq k0;generalize ivE k=u at*
 have g1:q.1-C.1=(p.1-C.1)*u:=by
  have:(q.1-C.1)*k*u=(q.1-C.1)*(k*u):=by grind
  rw[h1,this,u1,mul_one]
 have g2:q.2-C.2=(p.2-C.2)*u:=by
  have:(q.2-C.2)*k*u=(q.2-C.2)*(k*u):=by grind
  rw[h2,this,u1,mul_one]
 clear h1 h2 hk hl f1 f2 eC eD;have l1:l-1≠0:=λz=>ne (anx (by grind) (by grind));have m1:(p.1-C.1)*(l-u)=W.1*(l-1):=by grind
 have m2:(p.2-C.2)*(l-u)=W.2*(l-1):=by grind
 have lu:l-u≠0:=λz=>by
  rw[z]at m1 m2;have w1:W.1=0:=(cY (show W.1*(l-1)=0 by grind)).resolve_right l1;have w2:W.2=0:=(cY (show W.2*(l-1)=0 by grind)).resolve_right l1;rw[w1,w2]at eW;have:=mul_pos N0 N0;grind
 obtain⟨i,hi⟩:=P6 lu
 have a1:p.1-C.1=W.1*((l-1)*i):=by
  have:(p.1-C.1)*(l-u)*i=(p.1-C.1)*((l-u)*i):=by grind
  rw[m1,hi,mul_one]at this;grind
 have a2:p.2-C.2=W.2*((l-1)*i):=by
  have:(p.2-C.2)*(l-u)*i=(p.2-C.2)*((l-u)*i):=by grind
  rw[m2,hi,mul_one]at this;grind
 generalize (l-1)*i=α at*
 have b1:q.1=C.1+W.1+W.1*(α*u-1):=by rw[a1]at g1;grind
 have b2:q.2=C.2+W.2+W.2*(α*u-1):=by rw[a2]at g2;grind
 have p1:p.1=C.1+W.1*α:=by grind
 have p2:p.2=C.2+W.2*α:=by grind
 have NN:=mul_pos N0 N0
 have rt:∀{x y:RE},x*x*(N*N)=y*N*(y*N)->x=y\/x= -y:=λ{x y} h=>by
  have z:(x-y)*(x+y)*(N*N)=0:=by grind
  rcases cY ((cY z).resolve_right (by grind))with g|g
  ·exact .inl (by grind)
  ·exact .inr (by grind)
 have al:α=P\/α= -P:=rt (by rw[<-oc,a1,a2,<-eW];grind)
 have be:α*u-1=Q\/α*u-1= -Q:=rt (by
  rw[<-od,b1,b2,<-eW];grind)
 generalize hβ:α*u-1=β at*
 have ds:dsE p q=N*N*((α-1-β)*(α-1-β)):=by
  rw[<-eW];unfold dsE;rw[p1,p2,b1,b2];grind
 rw[II hc hd ec ed hz hr,ds];have pe:p=(C.1+W.1*α,C.2+W.2*α):=anx p1 p2;have qe:q=(C.1+W.1+W.1*β,C.2+W.2+W.2*β):=anx b1 b2;rw[pe]at hp;rw[qe]at hq;rcases al with rfl|rfl<;>rcases be with rfl|rfl
 ·have t:(nT (dC c) (dC d)&&df (dC d) (wyv (dC c) (dC d)))=true:=am6.2 ⟨A.2 hp,B.2 hq⟩;rw[t]
  have x:u9 true (sS (nD (dC c) (dC d)) (ciC (dC d)).2.2 (ciC (dC c)).2.2 r)=sg (N*N*((α-1-β)*(α-1-β))-of (r*r)):=by
   show sS _ _ _ _=_;rw[tB n0 q0 p0 hr,<-of_mul,<-eP,<-eQ,<-eN];exact congrArg (λz=>sg (z-of (r*r))) (by grind)
  rw[x];omega
 ·have t:(nT (dC c) (dC d)&&df (dC d) (bkV (wyv (dC c) (dC d))))=true:=am6.2 ⟨A.2 hp,B'.2 hq⟩;rw[t]
  have x:u9 true (sS (ciC (dC c)).2.2 (ciC (dC d)).2.2 (nD (dC c) (dC d)) r)=sg (N*N*((α-1- -Q)*(α-1- -Q))-of (r*r)):=by
   show sS _ _ _ _=_;rw[tB p0 q0 n0 hr,<-of_mul,<-eP,<-eQ,<-eN];exact congrArg (λz=>sg (z-of (r*r))) (by grind)
  rw[x];omega
 ·exfalso;have:=mul_pos P0 u0;grind
 ·have t:(fT (dC c) (dC d)&&df (dC d) (bkV (wyv (dC c) (dC d))))=true:=am6.2 ⟨A'.2 hp,B'.2 hq⟩;rw[t]
  have x:u9 true (sS (nD (dC c) (dC d)) (ciC (dC c)).2.2 (ciC (dC d)).2.2 r)=sg (N*N*((-P-1- -Q)*(-P-1- -Q))-of (r*r)):=by
   show sS _ _ _ _=_;rw[tB n0 p0 q0 hr,<-of_mul,<-eP,<-eQ,<-eN];exact congrArg (λz=>sg (z-of (r*r))) (by grind)
  rw[x];omega
end
section
open RE
namespace RE
theorem Z7{a b c d e f:RE}(hb:0<b)(hd:0<d)(hf:0<f)(h1:0<=a*d-b*c)(h2:0<=c*f-d*e):0<=a*f-b*e:=by
 have g1:=aH h1 (le_of_lt hf);have g2:=aH h2 (le_of_lt hb);refine nY hd ?_;grind
theorem WZ{f w g v z:PE}(hf:0<dtE f f)(hw:dtE w w=dtE f f)(hn:f≠w)(hg:dtE g g=dtE f f)(hv:dtE v v=dtE f f)(hm:g≠v)(hz:dtE z z=dtE f f)(s1:gQ f w z=true)(s2:gQ g v z=true):gQ g v f=true\/gQ f w g=true:=by
 by_cases e1:f=z
 ·exact .inl (e1▸s2)
 by_cases e2:g=z
 ·exact .inr (e2▸s1)
 by_cases e3:g=f
 ·exact .inl (e3▸(kg g v).1)
 have hg0:0<dtE g g:=by rw[hg];exact hf
 have t1:=(ux hf hw hn hz e1).1 s1;have t2:=(ux hg0 (hv.trans hg.symm) hm (hz.trans hg.symm) e2).1 s2;have b1:=ko (f:=g) (w:=f) hg.symm e3 hg0;have b2:=ko (f:=g) (w:=z) (hz.trans hg.symm) e2 hg0;have b3:=ko (f:=g) (w:=v) (hv.trans hg.symm) hm hg0;have d1:=ko (f:=f) (w:=g) hg (aoy e3) hf;have d2:=ko (f:=f) (w:=z) hz e1 hf;have d3:=ko (f:=f) (w:=w) hw hn hf;rcases lt_or_ge (crs (hlf g f) (hlf g z)) 0 with q|q
 ·refine .inr ((ux hf hw hn hg (aoy e3)).2 ?_);rw[JL]at q
  have q2:0<=crs (hlf f g) (hlf f z):=by
   rw[JL]
   have a:crs f g+crs g z+crs z f= -(crs g f+crs f z+crs z g):=by
    unfold crs;grind
   rw[a];have:=IR (x:=crs g f+crs f z+crs z g) hg0 (by rw[mul_comm];exact q);exact aH (le_of_lt hf) (by grind)
  exact Z7 d1 d2 d3 q2 t1
 ·exact .inl ((ux hg0 (hv.trans hg.symm) hm hg.symm e3).2 (Z7 b1 b2 b3 q t2))
end RE
end
section
open RE
namespace RE
theorem ac3{F T G q x:RE}(h1:btE F T G)(h2:btE F T q)(h:btE G q x):btE F T x:=by
 unfold btE at*
 grind
theorem A9{c:Cv}(_h:GdE c)(ha:c.1=false){p q E G:PE}(hq:onE c q)(hG:onE c G)(hp:of (lnC c).1*(E.1-p.1)+of (lnC c).2.1*(E.2-p.2)=0)(ht:tE (lnC c) p=tE (lnC c) q)(hb:btE (tE (lnC c) G) (tE (lnC c) q) (tE (lnC c) E)):∃Q,onE c Q/\dsE E Q=dsE p q:=by
 rw[qR ha]at hq hG ⊢;refine⟨(q.1+(E.1-p.1),q.2+(E.2-p.2)),⟨?_,?_⟩,?_⟩
 ·have o:=hq.1;unfold eG at o ⊢;dsimp only;grind
 ·have e:tE (lnC c) (q.1+(E.1-p.1),q.2+(E.2-p.2))=tE (lnC c) E:=by
   unfold tE at ht ⊢;dsimp only;grind
  rw[e];exact ac3 hG.2 hq.2 hb
 ·unfold dsE;dsimp only;grind
theorem IP(a b x:PE){r:RE}(hr:0<r):gQ (a.1*r,a.2*r) (b.1*r,b.2*r) x=gQ a b x:=by
 have e1:crs (a.1*r,a.2*r) (b.1*r,b.2*r)=r*(r*crs a b):=by unfold crs;dsimp only;grind
 have e2:crs (a.1*r,a.2*r) x=r*crs a x:=by unfold crs;dsimp only;grind
 have e3:crs x (b.1*r,b.2*r)=r*crs x b:=by unfold crs;dsimp only;grind
 unfold gQ;rw[e1,e2,e3,gG hr,gG hr,gG hr,gG hr]
end RE
theorem xA{c d:BCU}(hc:gdN c)(hd:gdN d){p q:PE}{r:Rat}(hr:0<=r)(h:(∃E Q,(E=pR (frC (dC c))\/E=pR (toC (dC c)))/\onE (dC d) Q/\dsE E Q<=dsE p q)\/∃E Q,(E=pR (frC (dC d))\/E=pR (toC (dC d)))/\onE (dC c) Q/\dsE E Q<=dsE p q):jg (dC c) (dC d) r<=sg (dsE p q-of (r*r)):=by
 rcases h with⟨E,Q,hE,hQ,h⟩|⟨E,Q,hE,hQ,h⟩
 ·exact apG (MK hd hE hQ hr) (gM (gz _ _ _ h))
 ·rw[<-U8 hc hd hr];exact apG (MK hc hE hQ hr) (gM (gz _ _ _ h))
theorem abv{c d:BCU}(hc:gdN c)(hd:gdN d)(ec:c.1=false)(ed:d.1=false)(hn:iM c d=[]){p q:PE}(hp:onE (dC c) p)(hq:onE (dC d) q)(h1:tE (lnC (dC c)) p=tE (lnC (dC c)) q)(h2:tE (lnC (dC d)) q=tE (lnC (dC d)) p){r:Rat}(hr:0<=r):jg (dC c) (dC d) r<=sg (dsE p q-of (r*r)):=by
 have ec':(dC c).1=false:=ec;have ed':(dC d).1=false:=ed;obtain⟨hl,_,_⟩:=hc.e.l ec';obtain⟨hm,_,_⟩:=hd.e.l ed';have nl:0<nrE (lnC (dC c)):=pE hl;have nm:0<nrE (lnC (dC d)):=pE hm;by_cases hX:of (lnC (dC c)).1*of (lnC (dC d)).2.1-of (lnC (dC c)).2.1*of (lnC (dC d)).1=0
 ·refine xA hc hd hr ?_;have oP:=(kL hp).1 ec;have oQ:=(kL hq).1 ed;obtain⟨eF,eT⟩:=ro hc.e;obtain⟨gF,gT⟩:=ro hd.e;have bp:=hp;have bq:=hq;rw[qR ec']at bp;rw[qR ed']at bq;have bp:=bp.2;have bq:=bq.2
  have fac:∀x:PE,nrE (lnC (dC c))*tE (lnC (dC d)) x=(of (lnC (dC c)).1*of (lnC (dC d)).1+of (lnC (dC c)).2.1*of (lnC (dC d)).2.1)*tE (lnC (dC c)) x:=λx=>by
   have:nrE (lnC (dC c))*tE (lnC (dC d)) x=(of (lnC (dC c)).1*of (lnC (dC d)).1+of (lnC (dC c)).2.1*of (lnC (dC d)).2.1)*tE (lnC (dC c)) x-(of (lnC (dC c)).1*of (lnC (dC d)).2.1-of (lnC (dC c)).2.1*of (lnC (dC d)).1)*(of (lnC (dC c)).1*x.1+of (lnC (dC c)).2.1*x.2):=by
    unfold nrE tE;grind
   rw[this,hX];grind
  have fac2:nrE (lnC (dC c))*nrE (lnC (dC d))=(of (lnC (dC c)).1*of (lnC (dC d)).1+of (lnC (dC c)).2.1*of (lnC (dC d)).2.1)*(of (lnC (dC c)).1*of (lnC (dC d)).1+of (lnC (dC c)).2.1*of (lnC (dC d)).2.1):=by
   have:nrE (lnC (dC c))*nrE (lnC (dC d))=(of (lnC (dC c)).1*of (lnC (dC d)).1+of (lnC (dC c)).2.1*of (lnC (dC d)).2.1)*(of (lnC (dC c)).1*of (lnC (dC d)).1+of (lnC (dC c)).2.1*of (lnC (dC d)).2.1)+(of (lnC (dC c)).1*of (lnC (dC d)).2.1-of (lnC (dC c)).2.1*of (lnC (dC d)).1)*(of (lnC (dC c)).1*of (lnC (dC d)).2.1-of (lnC (dC c)).2.1*of (lnC (dC d)).1):=by
    unfold nrE;grind
   rw[this,hX];grind
  have perp1:∀x y:PE,eG (lnC (dC c)) x->eG (lnC (dC c)) y->of (lnC (dC d)).1*(x.1-y.1)+of (lnC (dC d)).2.1*(x.2-y.2)=0:=λx y ox oy=>by
   have:nrE (lnC (dC c))*(of (lnC (dC d)).1*(x.1-y.1)+of (lnC (dC d)).2.1*(x.2-y.2))=(of (lnC (dC c)).1*of (lnC (dC d)).1+of (lnC (dC c)).2.1*of (lnC (dC d)).2.1)*(of (lnC (dC c)).1*(x.1-y.1)+of (lnC (dC c)).2.1*(x.2-y.2))+(of (lnC (dC c)).1*of (lnC (dC d)).2.1-of (lnC (dC c)).2.1*of (lnC (dC d)).1)*(of (lnC (dC c)).1*(x.2-y.2)-of (lnC (dC c)).2.1*(x.1-y.1)):=by
    unfold nrE;grind
   unfold eG at ox oy;rw[hX,show of (lnC (dC c)).1*(x.1-y.1)+of (lnC (dC c)).2.1*(x.2-y.2)=0 by grind]at this;exact(cY (show nrE (lnC (dC c))*_=0 by rw[this];grind)).resolve_left (by grind)
  have perp2:∀x y:PE,eG (lnC (dC d)) x->eG (lnC (dC d)) y->of (lnC (dC c)).1*(x.1-y.1)+of (lnC (dC c)).2.1*(x.2-y.2)=0:=λx y ox oy=>by
   have:nrE (lnC (dC d))*(of (lnC (dC c)).1*(x.1-y.1)+of (lnC (dC c)).2.1*(x.2-y.2))=(of (lnC (dC c)).1*of (lnC (dC d)).1+of (lnC (dC c)).2.1*of (lnC (dC d)).2.1)*(of (lnC (dC d)).1*(x.1-y.1)+of (lnC (dC d)).2.1*(x.2-y.2))-(of (lnC (dC c)).1*of (lnC (dC d)).2.1-of (lnC (dC c)).2.1*of (lnC (dC d)).1)*(of (lnC (dC d)).1*(x.2-y.2)-of (lnC (dC d)).2.1*(x.1-y.1)):=by
    unfold nrE;grind
   unfold eG at ox oy;rw[hX,show of (lnC (dC d)).1*(x.1-y.1)+of (lnC (dC d)).2.1*(x.2-y.2)=0 by grind]at this;exact(cY (show nrE (lnC (dC d))*_=0 by rw[this];grind)).resolve_left (by grind)
  generalize of (lnC (dC c)).1*of (lnC (dC d)).1+of (lnC (dC c)).2.1*of (lnC (dC d)).2.1=κ at*
  have κ0:κ≠0:=λz=>by
   have:=mul_pos nl nm;rw[fac2,z]at this;grind
  have le12:∀x y:PE,tE (lnC (dC c)) x<=tE (lnC (dC c)) y->(0<κ->tE (lnC (dC d)) x<=tE (lnC (dC d)) y)/\(κ<0->tE (lnC (dC d)) y<=tE (lnC (dC d)) x):=λx y h=>by
   have f1:=fac x;have f2:=fac y;constructor<;>intro k
   ·have:=aH (le_of_lt k) (show 0<=tE (lnC (dC c)) y-tE (lnC (dC c)) x by grind);have:=nY (x:=tE (lnC (dC d)) y-tE (lnC (dC d)) x) nl (by grind);grind
   ·have:=aH (show 0<= -κ by grind) (show 0<=tE (lnC (dC c)) y-tE (lnC (dC c)) x by grind);have:=nY (x:=tE (lnC (dC d)) x-tE (lnC (dC d)) y) nl (by grind);grind
  have le21:∀x y:PE,tE (lnC (dC d)) x<=tE (lnC (dC d)) y->(0<κ->tE (lnC (dC c)) x<=tE (lnC (dC c)) y)/\(κ<0->tE (lnC (dC c)) y<=tE (lnC (dC c)) x):=λx y h=>by
   have f1:=fac x;have f2:=fac y;have g:=aH (le_of_lt nl) (show 0<=tE (lnC (dC d)) y-tE (lnC (dC d)) x by grind);constructor<;>intro k
   ·have:=nY (x:=tE (lnC (dC c)) y-tE (lnC (dC c)) x) k (by grind);grind
   ·have:=nY (x:=tE (lnC (dC c)) x-tE (lnC (dC c)) y) (show 0< -κ by grind) (by grind);grind
  have sgn:0<κ\/κ<0:=by
   rcases lt_or_ge 0 κ with g|g
   ·exact .inl g
   ·exact .inr (by
     rcases cO (show 0<= -κ by grind)with k|k
     ·grind
     ·exact absurd (by grind) κ0)
  obtain⟨E,hE,oE,lE⟩:∃E,(E=pR (frC (dC c))\/E=pR (toC (dC c)))/\onE (dC c) E/\tE (lnC (dC c)) E<=tE (lnC (dC c)) p:=by
   rcases bp with⟨b1,_⟩|⟨b1,_⟩
   ·exact⟨_,.inl rfl,eF,b1⟩
   ·exact⟨_,.inr rfl,eT,b1⟩
  obtain⟨G,hG,oG,lG⟩:∃G,(G=pR (frC (dC d))\/G=pR (toC (dC d)))/\onE (dC d) G/\tE (lnC (dC c)) G<=tE (lnC (dC c)) q:=by
   rcases bq with⟨b1,b2⟩|⟨b1,b2⟩<;>rcases sgn with k|k
   ·exact⟨_,.inl rfl,gF,(le21 _ _ b1).1 k⟩
   ·exact⟨_,.inr rfl,gT,(le21 _ _ b2).2 k⟩
   ·exact⟨_,.inr rfl,gT,(le21 _ _ b1).1 k⟩
   ·exact⟨_,.inl rfl,gF,(le21 _ _ b2).2 k⟩
  rcases lt_or_ge (tE (lnC (dC c)) G) (tE (lnC (dC c)) E)with k|k
  ·have lq:tE (lnC (dC c)) E<=tE (lnC (dC c)) q:=by rw[<-h1];exact lE
   obtain⟨Q,hQ,e⟩:=A9 hd.e ed' (p:=p) (E:=E) hq oG (perp1 _ _ ((kL oE).1 ec) oP) h2.symm (by
    rcases sgn with s|s
    ·exact .inl ⟨(le12 _ _ (le_of_lt k)).1 s,(le12 _ _ lq).1 s⟩
    ·exact .inr ⟨(le12 _ _ lq).2 s,(le12 _ _ (le_of_lt k)).2 s⟩)
   exact .inl ⟨E,Q,hE,hQ,fP e⟩
  ·have lp:tE (lnC (dC c)) G<=tE (lnC (dC c)) p:=by rw[h1];exact lG
   obtain⟨Q,hQ,e⟩:=A9 hc.e ec' (p:=q) (E:=G) hp oE (perp2 _ _ ((kL oG).1 ed) oQ) h1.symm (.inl ⟨k,lp⟩);exact .inr ⟨G,Q,hG,hQ,fP (by rw[e,lI])⟩
 ·exfalso
  have sF:cC (dC c) (dC d)=false:=by
   cases hs:cC (dC c) (dC d)
   ·rfl
   ·exfalso;unfold cC at hs;rw[ec',ed']at hs;have hs:ph (lnC (dC c)) (lnC (dC d))=true:=hs;have:=amZ (am6.1 hs).1;exact hX (by rw[<-of_mul,this,of_mul];grind)
  refine HK hc hd sF hn hp hq ?_;unfold tE at h1 h2;have z1:(of (lnC (dC c)).1*of (lnC (dC d)).2.1-of (lnC (dC c)).2.1*of (lnC (dC d)).1)*(p.1-q.1)=0:=by grind
  have z2:(of (lnC (dC c)).1*of (lnC (dC d)).2.1-of (lnC (dC c)).2.1*of (lnC (dC d)).1)*(p.2-q.2)=0:=by grind
  have y1:=(cY z1).resolve_left hX;have y2:=(cY z2).resolve_left hX;exact anx (by grind) (by grind)
end
end Go.Proofs.YtagbmoohboleaaaGreat
end
