/- Orders on circles and segments, in plain terms: ranks, finite checks. -/
import Derived.Test.YtoimchcjhdcdmaaGreatP12
import Derived.Test.YtoimchcjhdcdmaaGreatP13
noncomputable section
namespace Go.Proofs.YtoimchcjhdcdmaaGreat
open Go.RowKit Go.IntKind
open Bool renaming true->T',false->F'
open Option renaming some->S'
open Decidable renaming decide->D'
theorem apk:type_of% @not_false_eq_true:=@not_false_eq_true
theorem aqV:type_of% @Rat.mul_eq_zero:=@Rat.mul_eq_zero
section
section
variable {α:Type}
open Classical in
def rk(lt:α->α->Prop):List α->α->Nat
 |[],_=>0
 |e::r,x=>(if lt e x then 1 else 0)+rk lt r x
structure m6 (lt:α->α->Prop):Prop where
 irr:∀x,¬lt x x
 tr:∀x y z,lt x y->lt y z->lt x z
 tri:∀x y,lt x y\/x=y\/lt y x
variable {lt:α->α->Prop}
theorem aav(h:m6 lt){x y:α}(hxy:lt x y):∀L,rk lt L x<=rk lt L y
 |[]=>anT _
 |e::r=>by
  have:=aav h hxy r;unfold rk;by_cases h1:lt e x
  ·rw[aoz h1,aoz (h.tr _ _ _ h1 hxy)];omega
  ·rw[aog h1];omega
theorem yz(h:m6 lt){x y:α}(hxy:lt x y):∀{L},x∈L->rk lt L x<rk lt L y
 |e::r,hm=>by
  have h0:=aav h hxy r;unfold rk;rcases an6.1 hm with rfl|hm
  ·rw[aog (h.irr _),aoz hxy];omega
  ·have:=yz h hxy hm;by_cases h1:lt e x
   ·rw[aoz h1,aoz (h.tr _ _ _ h1 hxy)];omega
   ·rw[aog h1];omega
theorem acQ(L:List α)(x:α):rk lt L x<=L.length:=by
 induction L with
 |nil=>exact anT _
 |cons e r ih=>
  unfold rk;rw[an8];split<;>omega
theorem pe(h:m6 lt){x:α}:∀{L},x∈L->rk lt L x<L.length
 |e::r,hm=>by
  unfold rk;rw[an8];rcases an6.1 hm with rfl|hm
  ·rw[aog (h.irr _)];have:=acQ (lt:=lt) r x;omega
  ·have:=pe h hm;split<;>omega
def v6(lt:α->α->Prop)(c:α->α->Int):Prop:=∀x y,(lt x y->c x y= -1)/\(x=y->c x y=0)/\(lt y x->c x y=1)
def cI(i j:Nat):Int:=if i<j then-1 else if i=j then 0 else 1
theorem xZ(h:m6 lt){c:α->α->Int}(hc:v6 lt c){L:List α}{x y:α}(hx:x∈L)(hy:y∈L):c x y=cI (rk lt L x) (rk lt L y):=by
 unfold cI;rcases h.tri x y with e|e|e
 ·rw[(hc x y).1 e,aoz (yz h e hx)]
 ·subst e;rw[(hc x x).2.1 rfl,aog (Nat.lt_irrefl _),aoz rfl]
 ·have:=yz h e hy;rw[(hc x y).2.2 e,aog (by omega),aog (by omega)]
end
section
variable {α:Type} (cmp:α->α->Int)
def r8(p q:Bool×α):Int:=bif p.1==q.1 then(bif p.1 then-cmp p.2 q.2 else cmp p.2 q.2)else(bif p.1 then-1 else 1)
def oV(f p:Bool×α):Int:=bif r8 cmp p f==0 then 0 else bif D' (r8 cmp p f>0)then 1 else 2
def Ar(n:Int):Int:=if n<0 then-1 else if n=0 then 0 else 1
def mr(f p q:Bool×α):Int:=bif oV cmp f p==oV cmp f q then Ar (r8 cmp p q)else Ar (oV cmp f p-oV cmp f q)
def jT(p q:Bool×α):Int:=bif p.1==q.1 then(bif p.1 then-cmp p.2 q.2 else cmp p.2 q.2)else(bif q.1 then-1 else 1)
def lJ(f p q:Bool×α):Int:=bif D' (jT cmp p f<0)==D' (jT cmp q f<0)then jT cmp p q else(bif D' (jT cmp q f<0)then-1 else 1)
variable {cmp} {β:Type} {cmq:β->β->Int}
theorem rS{u v:Bool}{a b:α}{c d:β}(h:cmp a b=cmq c d):r8 cmp (u,a) (v,b)=r8 cmq (u,c) (v,d):=by unfold r8;rw[h]
theorem rW{u v:Bool}{a b:α}{c d:β}(h:cmp a b=cmq c d):jT cmp (u,a) (v,b)=jT cmq (u,c) (v,d):=by unfold jT;rw[h]
theorem zi{u v w:Bool}{f p q:α}{f' p' q':β}(h1:cmp p f=cmq p' f')(h2:cmp q f=cmq q' f')(h3:cmp p q=cmq p' q'):mr cmp (u,f) (v,p) (w,q)=mr cmq (u,f') (v,p') (w,q'):=by
 unfold mr oV;rw[rS h1,rS h2,rS h3]
theorem fD{u v w:Bool}{f p q:α}{f' p' q':β}(h1:cmp p f=cmq p' f')(h2:cmp q f=cmq q' f')(h3:cmp p q=cmq p' q'):lJ cmp (u,f) (v,p) (w,q)=lJ cmq (u,f') (v,p') (w,q'):=by
 unfold lJ;rw[rW h1,rW h2,rW h3]
end
def Ap(k i l j:Nat):Bool:=(k !=0||(bif l==0 then i==j else D' (j<i)))&&(k !=2||(bif l==2 then i==j else D' (i<j)))
def upA(k:Nat):Bool:=k==0||k==1
def ufA(k:Nat):Bool:=k==1||k==2
def dI(i j:Nat):Int:=cI j i
def Et(k i l j m n:Nat):Bool:=Ap k i l j&&Ap l j k i&&Ap k i m n&&Ap m n k i&&Ap l j m n&&Ap m n l j
theorem Wi:∀kF kP kT:Fin 4,∀iF iP iT:Fin 3,Et kF.1 iF.1 kP.1 iP.1 kT.1 iT.1=T'->
  D' (mr cI (upA kF.1,iF.1) (upA kP.1,iP.1) (upA kT.1,iT.1)<=0)=(D' (lJ cI (upA kF.1,iF.1) (upA kF.1,iF.1) (upA kP.1,iP.1)<=0)&&D' (lJ cI (upA kF.1,iF.1) (upA kP.1,iP.1) (upA kT.1,iT.1)<=0)):=by decide+kernel
theorem agd:∀kF kP kT:Fin 4,∀iF iP iT:Fin 3,Et kF.1 iF.1 kP.1 iP.1 kT.1 iT.1=T'->
  D' (mr cI (upA kT.1,iT.1) (upA kP.1,iP.1) (upA kF.1,iF.1)<=0)=(D' (lJ dI (ufA kF.1,iF.1) (ufA kF.1,iF.1) (ufA kP.1,iP.1)<=0)&&D' (lJ dI (ufA kF.1,iF.1) (ufA kP.1,iP.1) (ufA kT.1,iT.1)<=0)):=by decide+kernel
def RD(a b:Int):Bool:=a==0||b==0||a==b
def ag4(d a b:Int):Bool:=D' ((bif D' (d>0)then-a else a)<=0)&&D' ((bif D' (d>0)then-b else b)<=0)
theorem V9:∀f p t:Fin 3,RD (cI f.1 p.1) (cI p.1 t.1)=ag4 (cI f.1 t.1) (cI f.1 p.1) (cI p.1 t.1):=by decide+kernel
namespace RE
theorem lt_lin:m6 (λx y:RE=>x<y):=⟨lt_irrefl,λ_ _ _=>eh,lR⟩
theorem D4(x y:RE)(h1:x<y):x-y<0:=by grind
theorem DM(x y:RE)(h1:y<x):0<x-y:=by grind
theorem sg_cmpO:v6 (λx y:RE=>x<y) (λx y=>sg (x-y)):=λx y=>⟨λh=>oQ (D4 _ _ h),λh=>by subst h;show sg (x-x)=0;rw[sub_self,fw],λh=>jI (DM _ _ h)⟩
def ad3(p q:RE×RE):Prop:=p.1<q.1\/(p.1=q.1/\p.2<q.2)
theorem gz:m6 ad3:=by
 refine⟨λx h=>?_,λx y z h1 h2=>?_,λx y=>?_⟩
 ·rcases h with h|h
  ·exact lt_irrefl _ h
  ·exact lt_irrefl _ h.2
 ·rcases h1 with h1|⟨h1,h1'⟩
  ·rcases h2 with h2|⟨h2,h2'⟩
   ·exact .inl (eh h1 h2)
   ·exact .inl (h2▸h1)
  ·rcases h2 with h2|⟨h2,h2'⟩
   ·exact .inl (h1▸h2)
   ·exact .inr ⟨h1.trans h2,eh h1' h2'⟩
 ·rcases lR x.1 y.1 with h|h|h
  ·exact .inl (.inl h)
  ·rcases lR x.2 y.2 with h'|h'|h'
   ·exact .inl (.inr ⟨h,h'⟩)
   ·exact .inr (.inl (arb h h'))
   ·exact .inr (.inr (.inr ⟨h.symm,h'⟩))
  ·exact .inr (.inr (.inl h))
def lxc(p q:RE×RE):Int:=bif sg (p.1-q.1)==0 then sg (p.2-q.2)else sg (p.1-q.1)
theorem fq:v6 ad3 lxc:=λp q=>by
 unfold lxc;refine⟨λh=>?_,λh=>?_,λh=>?_⟩
 ·rcases h with h|⟨h,h'⟩
  ·rw[oQ (D4 _ _ h)];rfl
  ·rw[h,sub_self,fw,oQ (D4 _ _ h')];rfl
 ·subst h;rw[sub_self,sub_self,fw];rfl
 ·rcases h with h|⟨h,h'⟩
  ·rw[jI (DM _ _ h)];rfl
  ·rw[<-h,sub_self,fw,jI (DM _ _ h')];rfl
def cls(u v:RE):Nat:=bif sg v==1 then 1 else bif sg v== -1 then 3 else bif sg u==1 then 0 else 2
theorem DF(u v:RE):cls u v<4:=by
 unfold cls;cases sg v==1<;>cases sg v== -1<;>cases sg u==1<;>simp
theorem adO(u v:RE):(D' (sg v>0)||(sg v==0&&D' (sg u>0)))=upA (cls u v):=by
 unfold cls;rcases cd v with⟨_,h⟩|⟨_,h⟩|⟨_,h⟩<;>rcases cd u with⟨_,h'⟩|⟨_,h'⟩|⟨_,h'⟩<;>rw[h,h']<;>rfl
theorem ab1{u v Q:RE}(hQ:0<Q)(h:u*u+v*v=Q):(D' (sg v>0)||(sg v==0&&D' (-sg u>0)))=ufA (cls u v):=by
 unfold cls;rcases cd v with⟨_,h1⟩|⟨h0,h1⟩|⟨_,h1⟩<;>rcases cd u with⟨_,h'⟩|⟨h2,h'⟩|⟨_,h'⟩<;>rw[h1,h']<;>try rfl
 rw[h0,h2,mul_zero,add_zero]at h;rw[<-h]at hQ;exact absurd hQ (lt_irrefl _)
theorem S5(u v w z Q:RE):2*((u-(0))*(w-(u)))+((w-(u))*(w-(u)))+((u*u+v*v-(Q)))+((Q-(w*w+z*z)))+((z*z-(0)))+((0-(v))*(v-(0)))=0:=by grind
theorem aei(u v w z Q:RE)(h1:u*u+v*v=Q)(h2:w*w+z*z=Q)(h3:v=0)(h4:0<u)(h5:0<=z*z):w<=u:=λhg=>far (aW (aW (aW (aW (aW (Kc (by decide+kernel:(0:Rat)<2) (mul_pos (bE h4) (bE hg))) (le_of_lt (mul_pos (bE hg) (bE hg)))) (aK (uo h1))) (aK (tZ h2))) (aK h5)) (cr (aK (tZ h3)) (aK (uo h3)))) (S5 u v w z Q)
theorem Rw(u v w z Q:RE):2*((0-(u))*(u-(w)))+((u-(w))*(u-(w)))+((u*u+v*v-(Q)))+((Q-(w*w+z*z)))+((z*z-(0)))+((0-(v))*(v-(0)))=0:=by grind
theorem acn(u v w z Q:RE)(h1:u*u+v*v=Q)(h2:w*w+z*z=Q)(h3:v=0)(h4:u<0)(h5:0<=z*z):u<=w:=λhg=>far (aW (aW (aW (aW (aW (Kc (by decide+kernel:(0:Rat)<2) (mul_pos (bE h4) (bE hg))) (le_of_lt (mul_pos (bE hg) (bE hg)))) (aK (uo h1))) (aK (tZ h2))) (aK h5)) (cr (aK (tZ h3)) (aK (uo h3)))) (Rw u v w z Q)
theorem PG(u w z Q:RE)(h1:u*u=Q)(h2:w*w+z*z=Q)(h3:w*w=u*u):z*z<=0:=by grind
theorem Jf{z:RE}(h:z*z<=0):z=0:=by
 rcases lR z 0 with e|e|e
 ·have:=mul_pos (uT e) (uT e);rw[neg_mul,mul_neg,neg_neg]at this
  exact absurd this (λh'=>lt_irrefl _ (eh h' (by
   rcases pV (Hy z)with h2|h2
   ·exact absurd h2 ((sw _ _).1 h)
   ·rw[h2]at h';exact absurd h' (lt_irrefl _))))
 ·exact e
 ·exact absurd (mul_pos e e) ((sw _ _).1 h)
theorem Jl{u v:RE}:cls u v=0↔v=0/\0<u:=by
 unfold cls;rcases cd v with⟨a,h1⟩|⟨a,h1⟩|⟨a,h1⟩<;>rcases cd u with⟨b,h'⟩|⟨b,h'⟩|⟨b,h'⟩<;>rw[h1,h']<;>simp[a,b]<;>first|exact lt_irrefl _|exact λh=>absurd (eh h b) (lt_irrefl _)|(intro h;rw[h]at a;exact absurd a (lt_irrefl _))|skip
end RE
end
section
def xP(p:Pt):Rt:=coR p.1 p.2.1 p.2.2.2.2
def yP(p:Pt):Rt:=coR p.2.2.1 p.2.2.2.1 p.2.2.2.2
def atP(v:Rat×Rat):Pt:=(v.1,0,v.2,0,0)
def rdP(p:Pt):Pt:=(p.1,p.2.1,p.2.2.1,p.2.2.2.1,bif D' (p.2.1=0)&&D' (p.2.2.2.1=0)then 0 else p.2.2.2.2)
def mkP(x y:Rt):Pt:=rdP (x.1,x.2.1,y.1,y.2.1,bif D' (x.2.1=0)then y.2.2 else x.2.2)
def yE(x y:Rt):Prop:=x.2.1=0\/y.2.1=0\/x.2.2=y.2.2
instance (x y:Rt):Decidable (yE x y):=by unfold yE;infer_instance
def aB(p q:Pt):Int:=bif aU (xP p) (xP q)==0 then aU (yP p) (yP q)else aU (xP p) (xP q)
def trP(p:Pt)(v:Rat×Rat):Pt:=(p.1+v.1,p.2.1,p.2.2.1+v.2,p.2.2.2.1,p.2.2.2.2)
def bkV(v:Rat×Rat):Rat×Rat:=(-v.1,-v.2)
def sqA(p:Pt)(v:Rat×Rat):Rat:=(p.1-v.1)*(p.1-v.1)+(p.2.2.1-v.2)*(p.2.2.1-v.2)+(p.2.1*p.2.1+p.2.2.2.1*p.2.2.2.1)*p.2.2.2.2
def sqB(p:Pt)(v:Rat×Rat):Rat:=(p.1-v.1)*p.2.1+(p.2.2.1-v.2)*p.2.2.2.1+((p.1-v.1)*p.2.1+(p.2.2.1-v.2)*p.2.2.2.1)
def sqP(p:Pt)(v:Rat×Rat):Rt:=coR (sqA p v) (sqB p v) p.2.2.2.2
def I5(p:Pt):Prop:=(p.2.1=0/\p.2.2.2.1=0/\p.2.2.2.2=0)\/(¬(p.2.1=0/\p.2.2.2.1=0)/\0<p.2.2.2.2/\eH p.2.2.2.2=F')
instance (p:Pt):Decidable (I5 p):=by unfold I5;infer_instance
class Rpd (p:Pt):Prop where
 rd:I5 p
def okP(k:Nat)(x:BP):Prop:=ok Pt k x/\I5 (dec x)
instance (k:Nat) (x:BP):Decidable (okP k x):=by unfold okP;infer_instance
theorem bQ{k:Nat}{x:BP}(h:okP k x):∃v:Pt,x=enc v/\Bd v k/\Rpd v:=by
 obtain⟨h1,h2⟩:=h;obtain⟨v,rfl,bv⟩:=aL h1;rw[aq]at h2;exact⟨v,rfl,bv,⟨h2⟩⟩
theorem aN{x:Pt}{j k:Nat}[h:Bd x j][r:Rpd x](hj:j<=k)(hk:k<=480000):D' (okP k (enc x))=true:=anO ⟨anP (okd hj hk),by rw[aq];exact r.rd⟩
theorem Rpd.ns{p:Pt}(h:Rpd p):Ns p.2.2.2.2:=⟨by rcases h.rd with h|h;exact .inl h.2.2;exact .inr h.2⟩
instance anD {p:Pt} [h:Rpd p]:Ns p.2.2.2.2:=h.ns
theorem Rpd.nn{p:Pt}(h:Rpd p):0<=p.2.2.2.2:=h.ns.nn
theorem NG{a b c:Rat}(h:Ns c)(hb:b=0\/c≠0):Rdd (coR a b c):=by
 refine⟨?_⟩;unfold coR;by_cases e:b=0
 ·rw[anO e];exact .inl ⟨rfl,rfl⟩
 ·rw[anQ e];rcases h.ns with h|h
  ·rcases hb with hb|hb
   ·exact absurd hb e
   ·exact absurd h hb
  ·exact .inr ⟨e,h⟩
theorem Rpd.b0{p:Pt}(h:Rpd p):(p.2.1=0/\p.2.2.2.1=0)\/p.2.2.2.2≠0:=by
 rcases h.rd with h|h
 ·exact .inl ⟨h.1,h.2.1⟩
 ·exact .inr (by have:=h.2.1;grind)
instance amS {p:Pt} [h:Rpd p]:Rdd (xP p):=NG h.ns (by rcases h.b0 with h|h;exact .inl h.1;exact .inr h)
instance anp {p:Pt} [h:Rpd p]:Rdd (yP p):=NG h.ns (by rcases h.b0 with h|h;exact .inl h.2;exact .inr h)
instance anA {p:Pt} {v:Rat×Rat} [h:Rpd p]:Rdd (sqP p v):=NG h.ns (by
 rcases h.b0 with h|h
 ·refine .inl ?_;unfold sqB;rw[h.1,h.2];grind
 ·exact .inr h)
instance anE {v:Rat×Rat}:Rpd (atP v):=⟨.inl ⟨rfl,rfl,rfl⟩⟩
instance anx {p:Pt} {v:Rat×Rat} [h:Rpd p]:Rpd (trP p v):=⟨h.rd⟩
theorem ZV{x y:Rt}(hx:Rdd x)(hy:Rdd y)(_h:yE x y):Rpd (mkP x y):=by
 refine⟨?_⟩;unfold mkP rdP I5;dsimp only;rcases hx.rd with⟨a1,a2⟩|⟨a1,a2,a3⟩<;>rcases hy.rd with⟨b1,b2⟩|⟨b1,b2,b3⟩
 ·simp[a1,b1]
 ·simp[a1,b1,b2,b3]
 ·simp[a1,b1,a2,a3]
 ·simp[a1,b1,a2,a3]
section
variable {p:Pt} {j:Nat}
instance ans [h:Bd p j]:Bd (xP p) (mx j (mx j j)):=inferInstanceAs (Bd (coR p.1 p.2.1 p.2.2.2.2) _)
instance anB [h:Bd p j]:Bd (yP p) (mx j (mx j j)):=inferInstanceAs (Bd (coR p.2.2.1 p.2.2.2.1 p.2.2.2.2) _)
instance am3 {v:Rat×Rat} [h:Bd v j]:Bd (atP v) (mx j (mx 1 (mx j (mx 1 1)))):=inferInstanceAs (Bd ((v.1,0,v.2,0,0):Pt) _)
instance amy {v:Rat×Rat} {k:Nat} [h:Bd p j] [h':Bd v k]:Bd (trP p v) (mx (j+k+1) (mx j (mx (j+k+1) (mx j j)))):=inferInstanceAs (Bd ((p.1+v.1,p.2.1,p.2.2.1+v.2,p.2.2.2.1,p.2.2.2.2):Pt) _)
instance anF {v:Rat×Rat} [h:Bd v j]:Bd (bkV v) (mx j j):=inferInstanceAs (Bd ((-v.1,-v.2):Rat×Rat) _)
end
instance amY {p:Pt} {j:Nat} [h:Bd p j]:Bd (rdP p) (mx j (mx j (mx j (mx j (mx 1 j))))):=inferInstanceAs (Bd ((p.1,p.2.1,p.2.2.1,p.2.2.2.1,bif D' (p.2.1=0)&&D' (p.2.2.2.1=0)then 0 else p.2.2.2.2):Pt) _)
instance adz {x y:Rt} {j k:Nat} [h:Bd x j] [h':Bd y k]:Bd (mkP x y) (mx (mx j (mx j (mx k (mx k (mx k j))))) (mx (mx j (mx j (mx k (mx k (mx k j))))) (mx (mx j (mx j (mx k (mx k (mx k j))))) (mx (mx j (mx j (mx k (mx k (mx k j))))) (mx 1 (mx j (mx j (mx k (mx k (mx k j)))))))))):=inferInstanceAs (Bd (rdP (x.1,x.2.1,y.1,y.2.1,bif D' (x.2.1=0)then y.2.2 else x.2.2)) _)
theorem jJ{j k n:Nat}(h1:j<=n)(h2:k<=n):mx j k<=n:=by
 unfold mx;cases D' (j<=k)
 ·exact h1
 ·exact h2
section
variable {p:Pt} {v:Rat×Rat} {j k:Nat}
instance amT [h:Bd p j] [h':Bd v k]:Bd (sqA p v) (10*(j+k+1)):=by
 have a1:Bd (p.1-v.1) _:=inferInstance;have a2:Bd (p.2.2.1-v.2) _:=inferInstance;have a3:Bd (p.2.1*p.2.1+p.2.2.2.1*p.2.2.2.1) _:=inferInstance;have i:Bd ((p.1-v.1)*(p.1-v.1)+(p.2.2.1-v.2)*(p.2.2.1-v.2)+(p.2.1*p.2.1+p.2.2.2.1*p.2.2.2.1)*p.2.2.2.2) _:=inferInstance;exact i.mono (by omega)
instance amZ [h:Bd p j] [h':Bd v k]:Bd (sqB p v) (10*(j+k+1)):=by
 have a1:Bd (p.1-v.1) _:=inferInstance;have a2:Bd (p.2.2.1-v.2) _:=inferInstance;have i:Bd ((p.1-v.1)*p.2.1+(p.2.2.1-v.2)*p.2.2.2.1+((p.1-v.1)*p.2.1+(p.2.2.1-v.2)*p.2.2.2.1)) _:=inferInstance;exact i.mono (by omega)
instance anq [h:Bd p j] [h':Bd v k]:Bd (sqP p v) (10*(j+k+1)):=by
 have i:Bd (coR (sqA p v) (sqB p v) p.2.2.2.2) _:=inferInstance;exact i.mono (jJ (by omega) (jJ (by omega) (by omega)))
end
namespace RE
def pX(p:Pt):RE:=v2 p.1 p.2.1 p.2.2.2.2
def pY(p:Pt):RE:=v2 p.2.2.1 p.2.2.2.1 p.2.2.2.2
def pR(p:Pt):RE×RE:=(pX p,pY p)
theorem qU(p:Pt):vR (xP p)=pX p:=vR_co _ _ _
theorem H3(p:Pt):vR (yP p)=pY p:=vR_co _ _ _
theorem lX{p:Pt}[h:Rpd p]:0<=(xP p).2.2:=(amS (p:=p)).nn
theorem zs{p:Pt}[h:Rpd p]:0<=(yP p).2.2:=(anp (p:=p)).nn
theorem iw{p q:Pt}[Rpd p][Rpd q]:aB p q=lxc (pR p) (pR q):=by
 unfold aB lxc;rw[cmpT_re lX lX,cmpT_re zs zs,qU,qU,H3,H3];rfl
theorem aeD(x y s t c u w:RE):(x+s*c-u)*(x+s*c-u)+(y+t*c-w)*(y+t*c-w)=(x-u)*(x-u)+(y-w)*(y-w)+(s*s+t*t)*(c*c)+((x-u)*s+(y-w)*t+((x-u)*s+(y-w)*t))*c:=by grind
theorem afD{p:Pt}{v:Rat×Rat}[h:Rpd p]:vR (sqP p v)=(pX p-of v.1)*(pX p-of v.1)+(pY p-of v.2)*(pY p-of v.2):=by
 unfold sqP pX pY;rw[vR_co];unfold v2;rw[aeD,rn h.nn];unfold sqA sqB;simp only[of_add,of_sub,bR]
theorem aje(v:Rat×Rat):pX (atP v)=of v.1:=eu _ _
theorem aj7(v:Rat×Rat):pY (atP v)=of v.2:=eu _ _
end RE
end
theorem wD(a b:Rat):(aD a b !=0)=!D' (a=b):=by
 unfold bne;rw[am]
def YJ:List En:=[⟨194,i7,ff⟩,⟨123,jO,fL⟩,⟨122,oB,jv⟩,⟨165,mn,im⟩,⟨94,fp,dJ⟩,⟨46,jL,fN⟩,enT ro]
def YE(_k:KT):OLR:=og (D' (bH (0:Int))) (S' [RV.d tR (hid (av ((0:Int):Rat)))])
def ak5:Cn 152 []:=cn<|lf True [.d tR (av 0)] λ_=>by
 refine aA YJ (YE) ⟨0,?_⟩;unfold YE;rw[dT (show bH 0 by decide)];simp only[aR];rfl
def JY:List En:=enL ak5::YJ
def aaE(v:BV)(_k:KT):OLR:=S' [RV.d tP (v.1,(hid (av 0),(v.2,(hid (av 0),hid (av 0)))))]
def BX:Cn 79 [tV]:=cn λ(v:BV)=>lf (ok (Rat×Rat) 100000 v) [.d tP (enc (atP (dec v)))] λh=>by
 refine aA JY (aaE v) ⟨0,?_⟩;have hv:=h;obtain⟨v,rfl,bv⟩:=aL hv;unfold aaE;simp only[aX];try rfl
def Yg(p:BP)(_k:KT):OLR:=og (o1 p.2.1) (match(aD (ag p.2.1) 0)==0 with|T'=>(og (o1 p.2.2.2.1) (match(aD (ag p.2.2.2.1) 0)==0 with|T'=>S' [RV.d tP (p.1,(p.2.1,(p.2.2.1,(p.2.2.2.1,hid (av 0)))))]|F'=>S' [RV.d tP p]))|F'=>S' [RV.d tP p])
def aio:Cn 320 [tP]:=cn λ(p:BP)=>lf (ok Pt 21000 p) [.d tP (enc (rdP (dec p)))] λh=>by
 refine aA JY (Yg p) ⟨0,?_⟩;have hp:=h;obtain⟨p,rfl,bp⟩:=aL hp;unfold Yg;simp only[aX,Nat.reduceLeDiff,am];unfold rdP;by_cases h1:p.2.1=0
 ·by_cases h2:p.2.2.2.1=0
  ·rw[anO h1,anO h2];rfl
  ·rw[anO h1,anQ h2];rfl
 ·rw[anQ h1];rfl
def YP(a b c:BR)(_k:KT):OLR:=og (o1 b) (match(aD (ag b) 0)==0 with|T'=>S' [RV.d tO (a,(b,hid (av 0)))]|F'=>S' [RV.d tO (a,(b,c))])
def ai8:Cn 88 [tR,tR,tR]:=cn λ(a b c:BR)=>lf (okR a/\okR b/\okR c) [.d tO (enc (coR (ag a) (ag b) (ag c)))] λh=>by
 refine aA JY (YP a b c) ⟨0,?_⟩;obtain⟨ha,hb,hc⟩:=h;obtain⟨a,rfl,ba⟩:=eO ha;obtain⟨b,rfl,bb⟩:=eO hb;obtain⟨c,rfl,bc⟩:=eO hc;unfold YP;simp only[aX,Nat.reduceLeDiff,am];unfold coR;by_cases e:b=0
 ·subst e;rw[anO rfl];rfl
 ·rw[anQ e];rfl
def JO:List En:=enL BX::enL aio::enL ai8::JY
def XL(x y:BO3)(_k:KT):OLR:=og (o1 x.2.1) (match(aD (ag x.2.1) 0)==0 with|T'=>(og (D' (ok Pt 21000 (x.1,(x.2.1,y)))) (S' [RV.d tP (hid (enc (rdP (dec (x.1,(x.2.1,y)))))),RV.d arf 0]))|F'=>(og (o1 y.2.1) (match(aD (ag y.2.1) 0) !=0 with|T'=>(og (o2 x.2.2 y.2.2) (match(aD (ag x.2.2) (ag y.2.2)) !=0 with|T'=>S' [RV.d tP (((F',[]),(F',[])),(((F',[]),(F',[])),(((F',[]),(F',[])),(((F',[]),(F',[])),((F',[]),(F',[])))))),RV.d arf 1]|F'=>(og (D' (ok Pt 21000 (x.1,(x.2.1,(y.1,(y.2.1,x.2.2)))))) (S' [RV.d tP (hid (enc (rdP (dec (x.1,(x.2.1,(y.1,(y.2.1,x.2.2)))))))),RV.d arf 0]))))|F'=>(og (D' (ok Pt 21000 (x.1,(x.2.1,(y.1,(y.2.1,x.2.2)))))) (S' [RV.d tP (hid (enc (rdP (dec (x.1,(x.2.1,(y.1,(y.2.1,x.2.2)))))))),RV.d arf 0])))))
def agA:Cn 272 [tO,tO]:=cn λ(x y:BO3)=>lf (okT 15000 x/\okT 15000 y/\yE (dec x) (dec y)) [.d tP (enc (mkP (dec x) (dec y))),.d arf 0] λh=>by
 refine aA JO (XL x y) ⟨0,?_⟩;obtain⟨hx,hy,hy_2⟩:=h;obtain⟨x,rfl,bx,rx⟩:=gD hx;obtain⟨y,rfl,b_y,ry⟩:=gD hy;have i1:D' (ok Pt 21000 (enc ((x.1,x.2.1,y):Pt)))=true:=okd (by decide) (by decide);have i2:D' (ok Pt 21000 (enc ((x.1,x.2.1,y.1,y.2.1,x.2.2):Pt)))=true:=okd (by decide) (by decide);have j1:(dec ((av x.1,av x.2.1,enc y):BP):Pt)=(x.1,x.2.1,y):=aq ((x.1,x.2.1,y):Pt);have j2:(dec ((av x.1,av x.2.1,av y.1,av y.2.1,av x.2.2):BP):Pt)=(x.1,x.2.1,y.1,y.2.1,x.2.2):=aq ((x.1,x.2.1,y.1,y.2.1,x.2.2):Pt);have i1:D' (ok Pt 21000 ((av x.1,av x.2.1,enc y):BP))=true:=i1;have i2:D' (ok Pt 21000 ((av x.1,av x.2.1,av y.1,av y.2.1,av x.2.2):BP))=true:=i2;have hm:=hy_2;rw[aq,aq]at hm;unfold XL;simp only[aX,Nat.reduceLeDiff,am,wD,i1,i2,j1,j2];unfold mkP;by_cases e1:x.2.1=0
 ·rw[anO e1];rfl
 ·rw[anQ e1];by_cases e2:y.2.1=0
  ·rw[anO e2];rfl
  ·rw[anQ e2,anO ((hm.resolve_left e1).resolve_left e2)];rfl
def amb(p:BP)(_k:KT):OLR:=og (D' (okR p.1/\okR p.2.1/\okR p.2.2.2.2)) (S' [RV.d tO (hid (enc (coR (ag p.1) (ag p.2.1) (ag p.2.2.2.2))))])
def ww:Cn 38 [tP]:=cn λ(p:BP)=>lf (okP 4000 p) [.d tO (enc (xP (dec p)))] λh=>by
 refine aA JO (amb p) ⟨0,?_⟩;have hp:=h;obtain⟨p,rfl,bp,rp⟩:=bQ hp;unfold amb;simp only[aX,Nat.reduceLeDiff];try rfl
def ak3(p:BP)(_k:KT):OLR:=og (D' (okR p.2.2.1/\okR p.2.2.2.1/\okR p.2.2.2.2)) (S' [RV.d tO (hid (enc (coR (ag p.2.2.1) (ag p.2.2.2.1) (ag p.2.2.2.2))))])
def DQ:Cn 92 [tP]:=cn λ(p:BP)=>lf (okP 4000 p) [.d tO (enc (yP (dec p)))] λh=>by
 refine aA JO (ak3 p) ⟨0,?_⟩;have hp:=h;obtain⟨p,rfl,bp,rp⟩:=bQ hp;unfold ak3;simp only[aX,Nat.reduceLeDiff];try rfl
def ahP:List En:=enL ww::enL DQ::JO
def XV(p q:BP)(_k:KT):OLR:=og (D' (okP 4000 p)) (og (D' (okP 4000 q)) (og (D' (okT 15000 (hid (enc (xP (dec p))))/\okT 15000 (hid (enc (xP (dec q)))))) (match(aU (dec (hid (enc (xP (dec p))))) (dec (hid (enc (xP (dec q)))))) !=0 with|T'=>S' [RV.d arf (aU (dec (hid (enc (xP (dec p))))) (dec (hid (enc (xP (dec q))))))]|F'=>(og (D' (okP 4000 p)) (og (D' (okP 4000 q)) (og (D' (okT 15000 (hid (enc (yP (dec p))))/\okT 15000 (hid (enc (yP (dec q)))))) (S' [RV.d arf (aU (dec (hid (enc (yP (dec p))))) (dec (hid (enc (yP (dec q))))))])))))))
def oN:Cn 207 [tP,tP]:=cn λ(p q:BP)=>lf (okP 4000 p/\okP 4000 q) [.d arf (aB (dec p) (dec q))] λh=>by
 refine aA ahP (XV p q) ⟨0,?_⟩;obtain⟨hp,hq⟩:=h;obtain⟨p,rfl,bp,rp⟩:=bQ hp;obtain⟨q,rfl,bq,rq⟩:=bQ hq;unfold XV;simp only[aX,Nat.reduceLeDiff,aI,aN];unfold aB bne;cases aU (xP p) (xP q)==0<;>rfl
section
def ML(l:Ln)(p:Pt):Rat:=l.1*p.1+l.2.1*p.2.2.1-l.2.2
def MS(l:Ln)(p:Pt):Rat:=l.1*p.2.1+l.2.1*p.2.2.2.1
def oD(l:Ln)(p:Pt):Int:=gb (ML l p) (MS l p) p.2.2.2.2
def ctr(c:Ln):Rat×Rat:=(c.1,c.2.1)
def fY(c:Ln)(p:Pt):Int:= -gb (sqA p (ctr c)-c.2.2) (sqB p (ctr c)) p.2.2.2.2
def aka(l:Ln)(v:Rat×Rat):Rat:=(l.1*v.1+l.2.1*v.2-l.2.2)/(l.1*l.1+l.2.1*l.2.1)
def QW(l:Ln)(v:Rat×Rat):Rat×Rat:=(v.1-aka l v*l.1,v.2-aka l v*l.2.1)
section
variable {l:Ln} {p:Pt} {v:Rat×Rat} {i j k:Nat}
instance amG [h:Bd l i]:Bd (ctr l) (mx i i):=inferInstanceAs (Bd ((l.1,l.2.1):Rat×Rat) _)
instance amq [h:Bd l i] [h':Bd p j]:Bd (ML l p) ((i+j)+(i+j)+1+i+1):=inferInstanceAs (Bd (l.1*p.1+l.2.1*p.2.2.1-l.2.2) _)
instance amp [h:Bd l i] [h':Bd p j]:Bd (MS l p) ((i+j)+(i+j)+1):=inferInstanceAs (Bd (l.1*p.2.1+l.2.1*p.2.2.2.1) _)
end
theorem JZ{a b:Rat}(h:a≠0\/b≠0):a*a+b*b≠0:=by
 have ha:0<=a*a:=by
  rcases(by grind:0<=a\/0<= -a)with h|h
  ·exact aoE h h
  ·have:=aoE h h;grind
 have hb:0<=b*b:=by
  rcases(by grind:0<=b\/0<= -b)with h|h
  ·exact aoE h h
  ·have:=aoE h h;grind
 intro e;have e1:a*a=0:=by grind
 have e2:b*b=0:=by grind
 rcases h with h|h
 ·exact h (by rcases aqV.1 e1 with h|h<;>exact h)
 ·exact h (by rcases aqV.1 e2 with h|h<;>exact h)
namespace RE
theorem afI(a b x s y t c r:RE):a*(x+s*r)+b*(y+t*r)+ -c=a*x+b*y-c+(a*s+b*t)*r:=by grind
theorem akk(a b q r:RE):a+b*r+ -q=a-q+b*r:=by grind
theorem Tu(a b:RE):a+ -b=a-b:=rfl
theorem Ed(l:Ln){p:Pt}[h:Rpd p]:oD l p=sg (of l.1*pX p+of l.2.1*pY p+ -of l.2.2):=by
 unfold oD pX pY;rw[sgn2_re h.nn];unfold v2;rw[afI];unfold ML MS;simp only[of_add,of_sub,bR]
theorem CI(c:Ln){p:Pt}[h:Rpd p]:fY c p= -sg ((pX p-of c.1)*(pX p-of c.1)+(pY p-of c.2.1)*(pY p-of c.2.1)+ -of c.2.2):=by
 unfold fY;have e:=afD (p:=p) (v:=ctr c);unfold sqP at e;rw[vR_co]at e;rw[sgn2_re h.nn];unfold v2 at e ⊢;rw[of_sub,<-akk,e];rfl
theorem sidL_ok(l:Ln){p:Pt}[Rpd p](h:(xC l p).2=T'):(xC l p).1=oD l p:=by
 rw[VQ h,Ed];try rfl
theorem insC_ok(c:Ln){p:Pt}[Rpd p](h:(uH c p).2=T'): -(uH c p).1=fY c p:=by
 rw[Xk h,CI];simp only[Tu];try rfl
end RE
end
def uU:cE:=spN F' T' [tR,tR] (λx=>D' (jX x.1 x.2.1)) (λx=>[RV.d tR (hDi x.1 x.2.1),RV.d arf 0])
theorem qj:SpK 164 uU:=spX λx h=>by simp only[aR];exact Ka x.1 x.2.1 (anP h)
def B3:List En:=[⟨194,i7,ff⟩,⟨123,jO,fL⟩,⟨122,oB,jv⟩,⟨165,mn,im⟩,⟨196,mE,ij⟩,⟨94,fp,dJ⟩,⟨46,jL,fN⟩,⟨164,uU,qj⟩,enT Gm,enL Ua,enL NO,enL PA,enL xm,enL we,enL Pk,enL YG]
def Z4(l:BO3)(p:BP)(_k:KT):OLR:=let y1:=aZ (dec (p.1,(p.2.1,p.2.2.2.2)));let y2:=hid ((aZ (dec p.2.2)).1);let y3:=jV (ag l.1) (hid (y1.1)) (y1.2);let y4:=jV (ag l.2.1) y2 ((aZ (dec p.2.2)).2);let y5:=dG (hid (y3.1)) (hid (y4.1));let y6:=hid ((frF (ag l.2.2)).1);let y7:=dG (hid (y5.1)) (hid (nt y6));og (D' (ok Rt 100000 (p.1,(p.2.1,p.2.2.2.2)))) (og (D' (ok Rat 100000 l.1/\prI (hid (y1.1)))) (og (D' (ok Rt 100000 p.2.2)) (og (D' (ok Rat 100000 l.2.1/\prI y2)) (og (D' (ok Rat 200000 l.2.2)) (match !(y3.2)with|T'=>S' [RV.d arf 0,RV.d .bool F']|F'=>(match !(y4.2)with|T'=>S' [RV.d arf 0,RV.d .bool F']|F'=>(match !((frF (ag l.2.2)).2)with|T'=>S' [RV.d arf 0,RV.d .bool F']|F'=>(og (D' (prI (hid (y3.1))/\prI (hid (y4.1)))) (match !(y5.2)with|T'=>S' [RV.d arf 0,RV.d .bool F']|F'=>(og (D' (prI y6)) (og (D' (prI (hid (y5.1))/\prI (hid (nt y6)))) (match !(y7.2)with|T'=>S' [RV.d arf 0,RV.d .bool F']|F'=>S' [RV.d arf ((sgF (hid (y7.1))).1),RV.d .bool ((sgF (hid (y7.1))).2)]))))))))))))
def ajv:Cn 173 [tO,tP]:=cn λ(l:BO3) (p:BP)=>lf (ok Ln 300 l/\ok Pt 4000 p) [.d arf ((xC (dec l) (dec p)).1),.d .bool ((xC (dec l) (dec p)).2)] λh=>by
 refine aA B3 (Z4 l p) ⟨0,?_⟩;obtain⟨hl,hp⟩:=h;obtain⟨l,rfl,bl⟩:=aL hl;obtain⟨p,rfl,bp⟩:=aL hp;have dx:(dec ((av p.1,av p.2.1,av p.2.2.2.2):BO3):Rt)=pxR p:=aq (pxR p);have dy:(dec ((av p.2.2.1,av p.2.2.2.1,av p.2.2.2.2):BO3):Rt)=pyR p:=aq (pyR p);have dy':(dec (enc p.2.2:BO3):Rt)=pyR p:=aq (pyR p);have px:Bd (pxR p) 4000:=(inferInstance:Bd ((p.1,p.2.1,p.2.2.2.2):Rt) _).mono (by decide);have py:Bd (pyR p) 4000:=(inferInstance:Bd ((p.2.2.1,p.2.2.2.1,p.2.2.2.2):Rt) _).mono (by decide);have ox:D' (ok Rt 100000 ((av p.1,av p.2.1,av p.2.2.2.2):BO3))=true:=okd (x:=pxR p) (by decide) (by decide);have oy:D' (ok Rt 100000 (enc p.2.2:BO3))=true:=okd (x:=pyR p) (by decide) (by decide);have pr:∀r,prI (aZ r).1:=zK;have pt:∀n a k,prI (jV n a k).1:=WY;have pf:∀q,prI (frF q).1:=RE.frF_pr;unfold Z4;simp only[aX,Nat.reduceLeDiff,dx,dy',ox,oy,dT (pr _),dT (pt _ _ _),dT (pf _),dT (RE.addF_pr (pt _ _ _) (pt _ _ _)),dT (RE.negF_pr (pf _))];unfold xC;generalize aZ (pxR p)=X;generalize aZ (pyR p)=Y;generalize jV l.1 X.1 X.2=U;generalize jV l.2.1 Y.1 Y.2=V;generalize frF l.2.2=W;generalize dG U.1 V.1=S;generalize dG S.1 (nt W.1)=D;generalize sgF D.1=Z;obtain⟨_,u⟩:=U;obtain⟨_,v⟩:=V;obtain⟨_,w⟩:=W;obtain⟨_,s⟩:=S;obtain⟨_,d⟩:=D;cases u<;>cases v<;>cases w<;>try rfl
 cases s<;>cases d<;>rfl
def Pp:Cn 176 [tR,tR]:=cn λ(a b:BR)=>lf (okR a/\okR b) [.d tR (av (ag a+ag b))] λh=>qT [RV.d tR (hAd a b)] (eT B3) h
def OE:Cn 175 [tR,tR]:=cn λ(a b:BR)=>lf (okR a/\okR b) [.d tR (av (ag a-ag b))] λh=>qT [RV.d tR (hSu a b)] (eT B3) h
def UD:Cn 177 [tR,tR]:=cn λ(a b:BR)=>lf (okR a/\okR b) [.d tR (av (ag a*ag b))] λh=>qT [RV.d tR (hMu a b)] (eT B3) h
def aa0(a b:BR)(_k:KT):OLR:=og (D' (jX a b)) (match 0 !=0 with|T'=>(og (D' (bH (0:Int))) (S' [RV.d tR (hid (av ((0:Int):Rat)))]))|F'=>S' [RV.d tR (hDi a b)])
def aau:Cn 382 [tR,tR]:=cn λ(a b:BR)=>lf (jX a b) [.d tR (av (ag a/ag b))] λh=>by
 refine aA B3 (aa0 a b) ⟨0,?_⟩;unfold aa0;rw[dT h];simp only[aR];rfl
def QC:List En:=enT ajv::enL Pp::enL OE::enL UD::enL aau::B3
def Yr(a b c:BR)(_k:KT):OLR:=og (o1 a) (og (o1 b) (og (o1 c) (match(i64.wrap ((aD (ag b) 0)*(aD (ag c) 0)))==0 with|T'=>S' [RV.d arf (aD (ag a) 0)]|F'=>(match(aD (ag a) 0)==(i64.wrap ((aD (ag b) 0)*(aD (ag c) 0)))with|T'=>S' [RV.d arf (aD (ag a) 0)]|F'=>(match(aD (ag a) 0)==0 with|T'=>S' [RV.d arf (i64.wrap ((aD (ag b) 0)*(aD (ag c) 0)))]|F'=>(og (o2 a a) (og (o2 b b) (og (o2 (hMu b b) c) (og (o2 (hMu a a) (hMu (hMu b b) c)) (S' [RV.d arf (i64.wrap ((aD (ag a) 0)*(aD (ag (hMu a a)) (ag (hMu (hMu b b) c)))))]))))))))))
def ahK:Cn 174 [tR,tR,tR]:=cn λ(a b c:BR)=>lf (ok Rat 240000 a/\ok Rat 170000 b/\ok Rat 30000 c) [.d arf (gb (ag a) (ag b) (ag c))] λh=>by
 refine aA QC (Yr a b c) ⟨0,?_⟩;obtain⟨ha,hb,hc⟩:=h;obtain⟨a,rfl,ba⟩:=aL ha;obtain⟨b,rfl,bb⟩:=aL hb;obtain⟨c,rfl,bc⟩:=aL hc;unfold Yr;simp only[aX,Nat.reduceAdd,Nat.reduceLeDiff,qu];exact C9 _ _ _
def Yv(a b c f:BR)(_k:KT):OLR:=og (D' (ok Rt 100000 (a,(b,c)))) (og (D' (ok Rat 200000 f)) (match !((aZ (dec (a,(b,c)))).2)with|T'=>S' [RV.d tG (0,0),RV.d .bool F']|F'=>(match !((frF (ag f)).2)with|T'=>S' [RV.d tG (0,0),RV.d .bool F']|F'=>(og (D' (prI (hid ((frF (ag f)).1)))) (og (D' (prI (hid ((aZ (dec (a,(b,c)))).1))/\prI (hid (nt (hid ((frF (ag f)).1)))))) (S' [RV.d tG (hid ((dG (hid ((aZ (dec (a,(b,c)))).1)) (hid (nt (hid ((frF (ag f)).1))))).1)),RV.d .bool ((dG (hid ((aZ (dec (a,(b,c)))).1)) (hid (nt (hid ((frF (ag f)).1))))).2)]))))))
def akg:Cn 255 [tR,tR,tR,tR]:=cn λ(a b c f:BR)=>lf (ok Rat 100000 a/\ok Rat 100000 b/\ok Rat 100000 c/\ok Rat 100000 f) [.d tG ((fb (ag a,ag b,ag c) (ag f)).1),.d .bool ((fb (ag a,ag b,ag c) (ag f)).2)] λh=>by
 refine aA QC (Yv a b c f) ⟨0,?_⟩;obtain⟨ha,hb,hc,hf⟩:=h;obtain⟨a,rfl,ba⟩:=aL ha;obtain⟨b,rfl,bb⟩:=aL hb;obtain⟨c,rfl,bc⟩:=aL hc;obtain⟨f,rfl,bf⟩:=aL hf;have dr:(dec ((av a,av b,av c):BO3):Rt)=(a,b,c):=aq ((a,b,c):Rt);have orr:D' (ok Rt 100000 ((av a,av b,av c):BO3))=true:=okd (x:=((a,b,c):Rt)) (by decide) (by decide);unfold Yv;simp only[aX,Nat.reduceLeDiff,dr,orr,dT (RE.frF_pr _),dT (RE.negF_pr (RE.frF_pr _)),dT (zK _)];unfold fb;generalize aZ (a,b,c)=X;generalize frF f=Y;obtain⟨_,x⟩:=X;obtain⟨_,y⟩:=Y;cases x<;>cases y<;>rfl
def Su:List En:=enT ahK::enL akg::QC
def aab(c:BO3)(p:BP)(_k:KT):OLR:=let y1:=fb (ag p.1,ag p.2.1,ag p.2.2.2.2) (ag c.1);let y2:=fb (ag p.2.2.1,ag p.2.2.2.1,ag p.2.2.2.2) (ag c.2.1);let y3:=cD (hid (y1.1)) (hid (y1.1));let y4:=cD (hid (y2.1)) (hid (y2.1));let y5:=dG (hid (y3.1)) (hid (y4.1));let y6:=hid ((frF (ag c.2.2)).1);let y7:=dG (hid (y5.1)) (hid (nt y6));og (D' (ok Rat 100000 p.1/\ok Rat 100000 p.2.1/\ok Rat 100000 p.2.2.2.2/\ok Rat 100000 c.1)) (og (D' (ok Rat 100000 p.2.2.1/\ok Rat 100000 p.2.2.2.1/\ok Rat 100000 p.2.2.2.2/\ok Rat 100000 c.2.1)) (og (D' (ok Rat 200000 c.2.2)) (match !(y1.2)with|T'=>S' [RV.d arf 0,RV.d .bool F']|F'=>(match !(y2.2)with|T'=>S' [RV.d arf 0,RV.d .bool F']|F'=>(match !((frF (ag c.2.2)).2)with|T'=>S' [RV.d arf 0,RV.d .bool F']|F'=>(og (D' (prI (hid (y1.1))/\prI (hid (y1.1)))) (og (D' (prI (hid (y2.1))/\prI (hid (y2.1)))) (match !(y3.2)with|T'=>S' [RV.d arf 0,RV.d .bool F']|F'=>(match !(y4.2)with|T'=>S' [RV.d arf 0,RV.d .bool F']|F'=>(og (D' (prI (hid (y3.1))/\prI (hid (y4.1)))) (match !(y5.2)with|T'=>S' [RV.d arf 0,RV.d .bool F']|F'=>(og (D' (prI y6)) (og (D' (prI (hid (y5.1))/\prI (hid (nt y6)))) (match !(y7.2)with|T'=>S' [RV.d arf 0,RV.d .bool F']|F'=>S' [RV.d arf ((sgF (hid (y7.1))).1),RV.d .bool ((sgF (hid (y7.1))).2)]))))))))))))))
def ala:Cn 180 [tO,tP]:=cn λ(c:BO3) (p:BP)=>lf (ok Ln 300 c/\ok Pt 4000 p) [.d arf ((uH (dec c) (dec p)).1),.d .bool ((uH (dec c) (dec p)).2)] λh=>by
 refine aA Su (aab c p) ⟨0,?_⟩;obtain⟨hc,hp⟩:=h;obtain⟨c,rfl,bc⟩:=aL hc;obtain⟨p,rfl,bp⟩:=aL hp;have pd:∀r q,prI (fb r q).1:=WR;have pf:∀q,prI (frF q).1:=RE.frF_pr;have pm:∀a b,prI (cD a b).1:=td;have dx:fb (p.1,p.2.1,p.2.2.2.2) c.1=fb (pxR p) c.1:=rfl;have dy:fb (p.2.2.1,p.2.2.2.1,p.2.2.2.2) c.2.1=fb (pyR p) c.2.1:=rfl;unfold aab;simp only[aX,Nat.reduceLeDiff,dx,dy,dT (pd _ _),dT (pm _ _),dT (pf _),dT (RE.negF_pr (pf _)),dT (RE.addF_pr (pm _ _) (pm _ _))];unfold uH;generalize fb (pxR p) c.1=X;generalize fb (pyR p) c.2.1=Y;generalize frF c.2.2=W;generalize cD X.1 X.1=U;generalize cD Y.1 Y.1=V;generalize dG U.1 V.1=S;generalize dG S.1 (nt W.1)=D;generalize sgF D.1=Z;obtain⟨_,x⟩:=X;obtain⟨_,y⟩:=Y;obtain⟨_,w⟩:=W;obtain⟨_,u⟩:=U;obtain⟨_,v⟩:=V;obtain⟨_,s⟩:=S;obtain⟨_,d⟩:=D;cases x<;>cases y<;>cases w<;>try rfl
 cases u<;>cases v<;>try rfl
 cases s<;>cases d<;>rfl
def Y2(l:BO3)(p:BP)(_k:KT):OLR:=og (D' (ok Ln 300 l/\ok Pt 4000 p)) (match(xC (dec l) (dec p)).2 with|T'=>S' [RV.d arf ((xC (dec l) (dec p)).1)]|F'=>(og (o2 l.1 p.1) (og (o2 l.2.1 p.2.2.1) (og (o2 (hMu l.1 p.1) (hMu l.2.1 p.2.2.1)) (og (o2 (hAd (hMu l.1 p.1) (hMu l.2.1 p.2.2.1)) l.2.2) (og (o2 l.1 p.2.1) (og (o2 l.2.1 p.2.2.2.1) (og (o2 (hMu l.1 p.2.1) (hMu l.2.1 p.2.2.2.1)) (og (D' (ok Rat 240000 (hSu (hAd (hMu l.1 p.1) (hMu l.2.1 p.2.2.1)) l.2.2)/\ok Rat 170000 (hAd (hMu l.1 p.2.1) (hMu l.2.1 p.2.2.2.1))/\ok Rat 30000 p.2.2.2.2)) (S' [RV.d arf (gb (ag (hSu (hAd (hMu l.1 p.1) (hMu l.2.1 p.2.2.1)) l.2.2)) (ag (hAd (hMu l.1 p.2.1) (hMu l.2.1 p.2.2.2.1))) (ag p.2.2.2.2))]))))))))))
def FI:Cn 93 [tO,tP]:=cn λ(l:BO3) (p:BP)=>lf (ok Ln 300 l/\okP 4000 p) [.d arf (oD (dec l) (dec p))] λh=>by
 refine aA Su (Y2 l p) ⟨0,?_⟩;obtain⟨hl,hp⟩:=h;obtain⟨l,rfl,bl⟩:=aL hl;obtain⟨p,rfl,bp,rp⟩:=bQ hp;unfold Y2;simp only[aX,Nat.reduceAdd,Nat.reduceLeDiff];cases hq:(xC l p).2
 ·rfl
 ·rw[RE.sidL_ok l hq]
def aaI:List En:=enT ala::Su
def Ym(c:BO3)(p:BP)(_k:KT):OLR:=og (D' (ok Ln 300 c/\ok Pt 4000 p)) (match(uH (dec c) (dec p)).2 with|T'=>S' [RV.d arf (i64.wrap (0-((uH (dec c) (dec p)).1)))]|F'=>(og (o2 p.1 c.1) (og (o2 p.2.2.1 c.2.1) (og (o2 (hSu p.1 c.1) (hSu p.1 c.1)) (og (o2 (hSu p.2.2.1 c.2.1) (hSu p.2.2.1 c.2.1)) (og (o2 (hMu (hSu p.1 c.1) (hSu p.1 c.1)) (hMu (hSu p.2.2.1 c.2.1) (hSu p.2.2.1 c.2.1))) (og (o2 p.2.1 p.2.1) (og (o2 p.2.2.2.1 p.2.2.2.1) (og (o2 (hMu p.2.1 p.2.1) (hMu p.2.2.2.1 p.2.2.2.1)) (og (o2 p.2.2.2.2 (hAd (hMu p.2.1 p.2.1) (hMu p.2.2.2.1 p.2.2.2.1))) (og (o2 (hAd (hMu (hSu p.1 c.1) (hSu p.1 c.1)) (hMu (hSu p.2.2.1 c.2.1) (hSu p.2.2.1 c.2.1))) (hMu p.2.2.2.2 (hAd (hMu p.2.1 p.2.1) (hMu p.2.2.2.1 p.2.2.2.1)))) (og (o2 (hSu p.1 c.1) p.2.1) (og (o2 (hSu p.2.2.1 c.2.1) p.2.2.2.1) (og (o2 (hMu (hSu p.1 c.1) p.2.1) (hMu (hSu p.2.2.1 c.2.1) p.2.2.2.1)) (og (o2 (hAd (hAd (hMu (hSu p.1 c.1) (hSu p.1 c.1)) (hMu (hSu p.2.2.1 c.2.1) (hSu p.2.2.1 c.2.1))) (hMu p.2.2.2.2 (hAd (hMu p.2.1 p.2.1) (hMu p.2.2.2.1 p.2.2.2.1)))) c.2.2) (og (o2 (hAd (hMu (hSu p.1 c.1) p.2.1) (hMu (hSu p.2.2.1 c.2.1) p.2.2.2.1)) (hAd (hMu (hSu p.1 c.1) p.2.1) (hMu (hSu p.2.2.1 c.2.1) p.2.2.2.1))) (og (D' (ok Rat 240000 (hSu (hAd (hAd (hMu (hSu p.1 c.1) (hSu p.1 c.1)) (hMu (hSu p.2.2.1 c.2.1) (hSu p.2.2.1 c.2.1))) (hMu p.2.2.2.2 (hAd (hMu p.2.1 p.2.1) (hMu p.2.2.2.1 p.2.2.2.1)))) c.2.2)/\ok Rat 170000 (hAd (hAd (hMu (hSu p.1 c.1) p.2.1) (hMu (hSu p.2.2.1 c.2.1) p.2.2.2.1)) (hAd (hMu (hSu p.1 c.1) p.2.1) (hMu (hSu p.2.2.1 c.2.1) p.2.2.2.1)))/\ok Rat 30000 p.2.2.2.2)) (S' [RV.d arf (i64.wrap (0-(gb (ag (hSu (hAd (hAd (hMu (hSu p.1 c.1) (hSu p.1 c.1)) (hMu (hSu p.2.2.1 c.2.1) (hSu p.2.2.1 c.2.1))) (hMu p.2.2.2.2 (hAd (hMu p.2.1 p.2.1) (hMu p.2.2.2.1 p.2.2.2.1)))) c.2.2)) (ag (hAd (hAd (hMu (hSu p.1 c.1) p.2.1) (hMu (hSu p.2.2.1 c.2.1) p.2.2.2.1)) (hAd (hMu (hSu p.1 c.1) p.2.1) (hMu (hSu p.2.2.1 c.2.1) p.2.2.2.1)))) (ag p.2.2.2.2))))]))))))))))))))))))
def EX:Cn 96 [tO,tP]:=cn λ(c:BO3) (p:BP)=>lf (ok Ln 300 c/\okP 4000 p) [.d arf (fY (dec c) (dec p))] λh=>by
 refine aA aaI (Ym c p) ⟨0,?_⟩;obtain⟨hc,hp⟩:=h;obtain⟨c,rfl,bc⟩:=aL hc;obtain⟨p,rfl,bp,rp⟩:=bQ hp;have sb:=gn (sqA p (ctr c)-c.2.2) (sqB p (ctr c)) p.2.2.2.2;unfold Ym;simp only[aX,Nat.reduceAdd,Nat.reduceLeDiff];cases hq:(uH c p).2
 ·unfold fY sqA sqB ctr at*
  dsimp only at sb ⊢;rw[show(p.2.2.2.2*(p.2.1*p.2.1+p.2.2.2.1*p.2.2.2.1))=(p.2.1*p.2.1+p.2.2.2.1*p.2.2.2.1)*p.2.2.2.2 by grind];rw[aM (by omega) (by omega),aps]
 ·have hb: -1<=(uH c p).1/\(uH c p).1<=1:=by
   have:=RE.insC_ok c hq;unfold fY at this;omega
  dsimp only;rw[aM (by omega) (by omega),aps,RE.insC_ok c hq]
def Yp(l:BO3)(v:BV)(_k:KT):OLR:=og (o2 l.1 v.1) (og (o2 l.2.1 v.2) (og (o2 (hMu l.1 v.1) (hMu l.2.1 v.2)) (og (o2 (hAd (hMu l.1 v.1) (hMu l.2.1 v.2)) l.2.2) (og (o2 l.1 l.1) (og (o2 l.2.1 l.2.1) (og (o2 (hMu l.1 l.1) (hMu l.2.1 l.2.1)) (og (D' (jX (hSu (hAd (hMu l.1 v.1) (hMu l.2.1 v.2)) l.2.2) (hAd (hMu l.1 l.1) (hMu l.2.1 l.2.1)))) (og (o2 (hDi (hSu (hAd (hMu l.1 v.1) (hMu l.2.1 v.2)) l.2.2) (hAd (hMu l.1 l.1) (hMu l.2.1 l.2.1))) l.1) (og (o2 v.1 (hMu (hDi (hSu (hAd (hMu l.1 v.1) (hMu l.2.1 v.2)) l.2.2) (hAd (hMu l.1 l.1) (hMu l.2.1 l.2.1))) l.1)) (og (o2 (hDi (hSu (hAd (hMu l.1 v.1) (hMu l.2.1 v.2)) l.2.2) (hAd (hMu l.1 l.1) (hMu l.2.1 l.2.1))) l.2.1) (og (o2 v.2 (hMu (hDi (hSu (hAd (hMu l.1 v.1) (hMu l.2.1 v.2)) l.2.2) (hAd (hMu l.1 l.1) (hMu l.2.1 l.2.1))) l.2.1)) (S' [RV.d tV (hSu v.1 (hMu (hDi (hSu (hAd (hMu l.1 v.1) (hMu l.2.1 v.2)) l.2.2) (hAd (hMu l.1 l.1) (hMu l.2.1 l.2.1))) l.1),hSu v.2 (hMu (hDi (hSu (hAd (hMu l.1 v.1) (hMu l.2.1 v.2)) l.2.2) (hAd (hMu l.1 l.1) (hMu l.2.1 l.2.1))) l.2.1))]))))))))))))
def ag8:Cn 356 [tO,tV]:=cn λ(l:BO3) (v:BV)=>lf (ok Ln 300 l/\ok (Rat×Rat) 200 v/\((dec l:Ln).1≠0\/(dec l:Ln).2.1≠0)) [.d tV (enc (QW (dec l) (dec v)))] λh=>by
 refine aA aaI (Yp l v) ⟨0,?_⟩;obtain⟨hl,hv,h0⟩:=h;obtain⟨l,rfl,bl⟩:=aL hl;obtain⟨v,rfl,bv⟩:=aL hv;have hn:l.1*l.1+l.2.1*l.2.1≠0:=JZ (by rw[aq]at h0;exact h0);unfold Yp;simp only[aX,Nat.reduceAdd,Nat.reduceLeDiff,hn,ne_eq,apk];rfl
abbrev tCU:Ty:=.st (.pair .bool (.pair tO (.pair tO (.pair .bool (.pair tP tP)))))
abbrev BCU:=Bool×BO3×BO3×Bool×BP×BP
abbrev Cv:=Bool×Ln×Ln×Bool×Pt×Pt
def dC(c:BCU):Cv:=(c.1,dec c.2.1,dec c.2.2.1,c.2.2.2.1,dec c.2.2.2.2.1,dec c.2.2.2.2.2)
def tn(x:BO3):Prop:=ok Ln 300 x/\(0:Rat)<(dec x:Ln).2.2
instance (x:BO3):Decidable (tn x):=by unfold tn;infer_instance
def HI(x:BO3):Prop:=ok Ln 300 x/\((dec x:Ln).1≠0\/(dec x:Ln).2.1≠0)
instance (x:BO3):Decidable (HI x):=by unfold HI;infer_instance
def okC(k:Nat)(c:BCU):Prop:=(c.1=T'->tn c.2.2.1)/\(c.1=F'->HI c.2.1)/\okP k c.2.2.2.2.1/\okP k c.2.2.2.2.2
instance (k:Nat) (c:BCU):Decidable (okC k c):=by unfold okC;infer_instance
def frC(c:Cv):Pt:=c.2.2.2.2.1
def toC(c:Cv):Pt:=c.2.2.2.2.2
def lnC(c:Cv):Ln:=c.2.1
def ciC(c:Cv):Ln:=c.2.2.1
def cwC(c:Cv):Bool:=c.2.2.2.1
def df(c:Cv)(p:Pt):Bool:=bif c.1 then fY (ciC c) p==0 else oD (lnC c) p==0
def upR(c:Ln)(p:Pt):Bool:=D' (dO (yP p) c.2.1>0)||(dO (yP p) c.2.1==0&&D' (dO (xP p) c.1>0))
def ptd(c:Ln)(p:Pt):Bool×Rt:=(upR c p,xP p)
def EE(c:Ln)(p:Pt):Int:=bif upR c p then 0 else 1
def ccF(c:Cv):Pt:=bif cwC c then toC c else frC c
def ccT(c:Cv):Pt:=bif cwC c then frC c else toC c
def kQ(c:Cv)(p:Pt):Bool:=bif c.1 then D' (mr aU (ptd (ciC c) (ccF c)) (ptd (ciC c) p) (ptd (ciC c) (ccT c))<=0)else RD (aB (frC c) p) (aB p (toC c))
def onP(c:Cv)(p:Pt):Bool:=df c p&&kQ c p
def gT(c:BCU):BCU:=(c.1,c.2.1,c.2.2.1,c.1&&!c.2.2.2.1,c.2.2.2.2.2,c.2.2.2.2.1)
def dR(c:BCU):BCU:=bif c.2.2.2.1 then gT c else c
def flP(p:Pt):Pt:=(-p.1,-p.2.1,p.2.2.1,p.2.2.2.1,p.2.2.2.2)
def flC(c:Ln):Ln:=(-c.1,c.2.1,c.2.2)
def co(c:Cv)(p q:Pt):Int:=bif c.1 then(bif cwC c then lJ aU (ptd (flC (ciC c)) (flP (frC c))) (ptd (flC (ciC c)) (flP p)) (ptd (flC (ciC c)) (flP q))else lJ aU (ptd (ciC c) (frC c)) (ptd (ciC c) p) (ptd (ciC c) q))
 else(bif D' (aB (frC c) (toC c)>0)then-aB p q else aB p q)
def onR(c:Cv)(p:Pt):Bool:=df c p&&(D' (co c (frC c) p<=0)&&D' (co c p (toC c)<=0))
theorem Eg(k:Nat){c:BCU}(h:okC k c):okC k (gT c):=⟨h.1,h.2.1,h.2.2.2,h.2.2.1⟩
theorem C7(p q:Pt): -1<=aB p q/\aB p q<=1:=by
 unfold aB;cases aU (xP p) (xP q)==0
 ·exact xl _ _
 ·exact xl _ _
theorem Le{p q:Bool×Rt}:0<=oV aU p q/\oV aU p q<=2:=by
 unfold oV;cases r8 aU q p==0<;>cases D' (r8 aU q p>0)<;>simp only[cond_true,cond_false]<;>omega
theorem Vl(n:Int):(if(if n>(-1)then n else(-1))<1 then(if n>(-1)then n else(-1))else 1)=Ar n:=by
 unfold Ar;split<;>split<;>(try split)<;>(try split)<;>omega
def xx:List En:=[enT ro,enT FQ,enL ww,enL DQ,enT oN,enT FI,enT EX]
def ZM(c:BCU)(p:BP)(_k:KT):OLR:=match c.1 with|T'=>(og (D' (ok Ln 300 c.2.2.1/\okP 4000 p)) (S' [RV.d .bool ((fY (dec c.2.2.1) (dec p))==0)]))|F'=>(og (D' (ok Ln 300 c.2.1/\okP 4000 p)) (S' [RV.d .bool ((oD (dec c.2.1) (dec p))==0)]))
def FS:Cn 144 [tCU,tP]:=cn λ(c:BCU) (p:BP)=>lf (okC 4000 c/\okP 4000 p) [.d .bool (df (dC c) (dec p))] λh=>by
 refine aA xx (ZM c p) ⟨0,?_⟩;obtain⟨hc,hp⟩:=h;have op:D' (okP 4000 p)=true:=anO hp;obtain⟨ar,li,ci,cw,fr,to⟩:=c;obtain⟨c1,c2,_⟩:=hc;unfold ZM;cases ar
 ·have e:=(c2 rfl).1;simp only[apS,dT e,op,aoW];rfl
 ·have e:=(c1 rfl).1;simp only[apS,dT e,op,aoW];rfl
def abf(c:BO3)(p:BP)(_k:KT):OLR:=og (D' (okP 4000 p)) (og (D' (okT 15000 (hid (enc (yP (dec p))))/\ok Rat 15000 c.2.1)) (match D' ((dO (dec (hid (enc (yP (dec p))))) (ag c.2.1))>0)with|T'=>S' [RV.d arf 0]|F'=>(match(dO (dec (hid (enc (yP (dec p))))) (ag c.2.1))==0 with|T'=>(og (D' (okP 4000 p)) (og (D' (okT 15000 (hid (enc (xP (dec p))))/\ok Rat 15000 c.1)) (match D' ((dO (dec (hid (enc (xP (dec p))))) (ag c.1))>0)with|T'=>S' [RV.d arf 0]|F'=>S' [RV.d arf 1])))|F'=>S' [RV.d arf 1])))
def ain:Cn 357 [tO,tP]:=cn λ(c:BO3) (p:BP)=>lf (ok Ln 300 c/\okP 4000 p) [.d arf (EE (dec c) (dec p))] λh=>by
 refine aA xx (abf c p) ⟨0,?_⟩;obtain⟨hc,hp⟩:=h;obtain⟨c,rfl,bc⟩:=aL hc;obtain⟨p,rfl,bp,rp⟩:=bQ hp;unfold abf EE upR;simp only[aX,Nat.reduceLeDiff,aI,aN];cases D' (dO (yP p) c.2.1>0)<;>cases dO (yP p) c.2.1==0<;>cases D' (dO (xP p) c.1>0)<;>rfl
def alc:Ctx:=CX (ens xx) []
def abV(n:Int)(_k:KT):OLR:=S' [RV.d arf (if(if n>(-1)then n else(-1))<1 then(if n>(-1)then n else(-1))else 1)]
theorem ahk(n:Int):RS alc 302 [SI n] (abV n):=rsX
def akm:Cn 302 [arf]:=cn λ(n:Int)=>lf True [.d arf (Ar n)] λ_=>by
 refine bj xx (ahk _ ⟨0,?_⟩);unfold abV;rw[Vl]
def akA:Ctx:=CX (ens xx) []
def ajf(c:BCU)(_k:KT):OLR:=match c.1 with|T'=>S' [RV.d tCU (c.1,(c.2.1,(c.2.2.1,(!c.2.2.2.1,(c.2.2.2.2.2,c.2.2.2.2.1)))))]|F'=>S' [RV.d tCU (c.1,(c.2.1,(c.2.2.1,(F',(c.2.2.2.2.2,c.2.2.2.2.1)))))]
theorem aiM(c:BCU):RS akA 222 [.d tCU c] (ajf c):=rsX
def B0:Cn 222 [tCU]:=cn λ(c:BCU)=>lf True [.d tCU (gT c)] λ_=>by
 refine bj xx (aiM _ ⟨0,?_⟩);obtain⟨ar,li,ci,cw,fr,to⟩:=c;cases ar<;>rfl
def KM:List En:=enT FS::enT ain::enT akm::enL B0::xx
def ZO(c:BO3)(p q:BP)(_k:KT):OLR:=og (D' (ok Ln 300 c/\okP 4000 p)) (og (D' (ok Ln 300 c/\okP 4000 q)) (match(EE (dec c) (dec p)) !=(EE (dec c) (dec q))with|T'=>S' [RV.d arf (i64.wrap ((EE (dec c) (dec p))-(EE (dec c) (dec q))))]|F'=>(og (D' (okP 4000 p)) (og (D' (okP 4000 q)) (og (D' (okT 15000 (hid (enc (xP (dec p))))/\okT 15000 (hid (enc (xP (dec q)))))) (match(EE (dec c) (dec p))==0 with|T'=>S' [RV.d arf (i64.wrap (0-(aU (dec (hid (enc (xP (dec p))))) (dec (hid (enc (xP (dec q))))))))]|F'=>S' [RV.d arf (aU (dec (hid (enc (xP (dec p))))) (dec (hid (enc (xP (dec q))))))]))))))
def ai3:Cn 303 [tO,tP,tP]:=cn λ(c:BO3) (p q:BP)=>lf (ok Ln 300 c/\okP 4000 p/\okP 4000 q) [.d arf (r8 aU (ptd (dec c) (dec p)) (ptd (dec c) (dec q)))] λh=>by
 refine aA KM (ZO c p q) ⟨0,?_⟩;obtain⟨hc,hp,hq⟩:=h;obtain⟨c,rfl,bc⟩:=aL hc;obtain⟨p,rfl,bp,rp⟩:=bQ hp;obtain⟨q,rfl,bq,rq⟩:=bQ hq;have xb:=xl (xP p) (xP q);unfold ZO;simp only[aX,Nat.reduceLeDiff,aI,aN,aM (x:= -aU (xP p) (xP q)) (by omega) (by omega),aps];unfold r8 EE ptd;cases upR c p<;>cases upR c q<;>rfl
def akq:Ctx:=CX (ens KM) []
def aaY(c:BCU)(_k:KT):OLR:=match c.2.2.2.1 with|T'=>S' [RV.d tCU (hid (gT c))]|F'=>S' [RV.d tCU c]
theorem ajE(c:BCU):RS akq 234 [.d tCU c] (aaY c):=rsX
def X8:Cn 234 [tCU]:=cn λ(c:BCU)=>lf True [.d tCU (dR c)] λ_=>by
 refine bj KM (ajE _ ⟨0,?_⟩);obtain⟨ar,li,ci,cw,fr,to⟩:=c;unfold aaY dR;cases cw
 ·rfl
 ·simp only[aR];rfl
def abd:List En:=enT ai3::enL X8::KM
def Yh(c:BO3)(f p:BP)(_k:KT):OLR:=og (D' (ok Ln 300 c/\okP 4000 p/\okP 4000 f)) (match(r8 aU (ptd (dec c) (dec p)) (ptd (dec c) (dec f)))==0 with|T'=>S' [RV.d arf 0]|F'=>(match D' ((r8 aU (ptd (dec c) (dec p)) (ptd (dec c) (dec f)))>0)with|T'=>S' [RV.d arf 1]|F'=>S' [RV.d arf 2]))
def aj6:Cn 301 [tO,tP,tP]:=cn λ(c:BO3) (f p:BP)=>lf (ok Ln 300 c/\okP 4000 f/\okP 4000 p) [.d arf (oV aU (ptd (dec c) (dec f)) (ptd (dec c) (dec p)))] λh=>by
 refine aA abd (Yh c f p) ⟨0,?_⟩;obtain⟨hc,hf,hp⟩:=h;unfold Yh oV;rw[dT ⟨hc,hp,hf⟩];cases r8 aU (ptd (dec c) (dec p)) (ptd (dec c) (dec f))==0<;>cases D' (r8 aU (ptd (dec c) (dec p)) (ptd (dec c) (dec f))>0)<;>rfl
def abR:List En:=enT aj6::abd
def ZN(c:BO3)(f p q:BP)(_k:KT):OLR:=og (D' (ok Ln 300 c/\okP 4000 f/\okP 4000 p)) (og (D' (ok Ln 300 c/\okP 4000 f/\okP 4000 q)) (match(oV aU (ptd (dec c) (dec f)) (ptd (dec c) (dec p))) !=(oV aU (ptd (dec c) (dec f)) (ptd (dec c) (dec q)))with|T'=>S' [RV.d arf (Ar (i64.wrap ((oV aU (ptd (dec c) (dec f)) (ptd (dec c) (dec p)))-(oV aU (ptd (dec c) (dec f)) (ptd (dec c) (dec q))))))]|F'=>(og (D' (ok Ln 300 c/\okP 4000 p/\okP 4000 q)) (S' [RV.d arf (Ar (r8 aU (ptd (dec c) (dec p)) (ptd (dec c) (dec q))))]))))
def NR:Cn 235 [tO,tP,tP,tP]:=cn λ(c:BO3) (f p q:BP)=>lf (ok Ln 300 c/\okP 4000 f/\okP 4000 p/\okP 4000 q) [.d arf (mr aU (ptd (dec c) (dec f)) (ptd (dec c) (dec p)) (ptd (dec c) (dec q)))] λh=>by
 refine aA abR (ZN c f p q) ⟨0,?_⟩;obtain⟨hc,hf,hp,hq⟩:=h;unfold ZN mr bne;have b1:=Le (p:=ptd (dec c) (dec f)) (q:=ptd (dec c) (dec p));have b2:=Le (p:=ptd (dec c) (dec f)) (q:=ptd (dec c) (dec q));rw[dT ⟨hc,hf,hp⟩,dT ⟨hc,hf,hq⟩,dT ⟨hc,hp,hq⟩,aM (by omega) (by omega)];cases oV aU (ptd (dec c) (dec f)) (ptd (dec c) (dec p))==oV aU (ptd (dec c) (dec f)) (ptd (dec c) (dec q))<;>rfl
def Y4:List En:=enT NR::abR
def aam(c:BCU)(p:BP)(_k:KT):OLR:=match !c.1 with|T'=>(og (D' (okP 4000 c.2.2.2.2.1/\okP 4000 p)) (og (D' (okP 4000 p/\okP 4000 c.2.2.2.2.2)) (match(aB (dec c.2.2.2.2.1) (dec p))==0 with|T'=>S' [RV.d .bool T']|F'=>(match(aB (dec p) (dec c.2.2.2.2.2))==0 with|T'=>S' [RV.d .bool T']|F'=>S' [RV.d .bool ((aB (dec c.2.2.2.2.1) (dec p))==(aB (dec p) (dec c.2.2.2.2.2)))]))))|F'=>(og (D' (ok Ln 300 ((((hid (dR c)).2).2).1)/\okP 4000 ((((((hid (dR c)).2).2).2).2).1)/\okP 4000 p/\okP 4000 ((((((hid (dR c)).2).2).2).2).2))) (S' [RV.d .bool (D' ((mr aU (ptd (dec ((((hid (dR c)).2).2).1)) (dec ((((((hid (dR c)).2).2).2).2).1))) (ptd (dec ((((hid (dR c)).2).2).1)) (dec p)) (ptd (dec ((((hid (dR c)).2).2).1)) (dec ((((((hid (dR c)).2).2).2).2).2))))<=0))]))
def OP:Cn 157 [tCU,tP]:=cn λ(c:BCU) (p:BP)=>lf (okC 4000 c/\okP 4000 p) [.d .bool (kQ (dC c) (dec p))] λh=>by
 refine aA Y4 (aam c p) ⟨0,?_⟩;obtain⟨hc,hp⟩:=h;obtain⟨ar,li,ci,cw,fr,to⟩:=c;obtain⟨c1,c2,c3,c4⟩:=hc;unfold aam kQ;simp only[aR];cases ar
 ·try dsimp only[Bool.not_false]
  rw[dT ⟨c3,hp⟩,dT ⟨hp,c4⟩];show _=S' [RV.d .bool (RD (aB (dec fr) (dec p)) (aB (dec p) (dec to)))];unfold RD;cases aB (dec fr) (dec p)==0<;>cases aB (dec p) (dec to)==0<;>rfl
 ·have e:=(c1 rfl).1;cases cw
  ·rw[dT (show ok Ln 300 (dR (T',li,ci,F',fr,to)).2.2.1/\okP 4000 (dR (T',li,ci,F',fr,to)).2.2.2.2.1/\okP 4000 p/\okP 4000 (dR (T',li,ci,F',fr,to)).2.2.2.2.2 from⟨e,c3,hp,c4⟩)];rfl
  ·rw[dT (show ok Ln 300 (dR (T',li,ci,T',fr,to)).2.2.1/\okP 4000 (dR (T',li,ci,T',fr,to)).2.2.2.2.1/\okP 4000 p/\okP 4000 (dR (T',li,ci,T',fr,to)).2.2.2.2.2 from⟨e,c4,hp,c3⟩)];rfl
def akK:List En:=enT OP::Y4
def X9(c:BCU)(p:BP)(_k:KT):OLR:=og (D' (okC 4000 c/\okP 4000 p)) (match df (dC c) (dec p)with|T'=>(og (D' (okC 4000 c/\okP 4000 p)) (S' [RV.d .bool (kQ (dC c) (dec p))]))|F'=>S' [RV.d .bool F'])
def Jp:Cn 162 [tCU,tP]:=cn λ(c:BCU) (p:BP)=>lf (okC 4000 c/\okP 4000 p) [.d .bool (onP (dC c) (dec p))] λh=>by
 refine aA akK (X9 c p) ⟨0,?_⟩;unfold X9 onP;rw[dT h];cases df (dC c) (dec p)<;>rfl
def gF(r s:Rt):Rat:=bif D' (r.2.1=0)then s.2.2 else r.2.2
def oY(r s:Rt):Bool:=D' (r.2.1=0)||(D' (s.2.1=0)||D' (r.2.2=s.2.2))
def lz(r s:Rt):Rt:=iN (r.1*s.1+r.2.1*s.2.1*gF r s) (r.1*s.2.1+r.2.1*s.1) (gF r s)
def Ao(r s:Rt):Rt:=iN (r.1+s.1) (r.2.1+s.2.1) (gF r s)
def arT(r:Rt)(a:Rat):Rt:=(r.1+a,r.2.1,r.2.2)
theorem bg(a b:Rat):(aD a b !=0)=!D' (a=b):=by
 unfold bne;rw[am]
instance amC {r s:Rt} {i j:Nat} [h:Bd r i] [h':Bd s j]:Bd (gF r s) (mx j i):=inferInstanceAs (Bd (bif D' (r.2.1=0)then s.2.2 else r.2.2) _)
instance amt {a b c:Rat} {i j k:Nat} [ha:Bd a i] [hb:Bd b j] [hc:Bd c k]:Bd (iN a b c) (mx i (mx j k)):=by
 have h1:=Mq i (mx j k);have h2:=MV i (mx j k);have h3:=Mq j k;have h4:=MV j k;have h5:=rG ha.le;have z:bdR (mx i (mx j k)) 0:=ce ue.le (by omega);refine⟨?_⟩;unfold iN;cases D' (b=0)
 ·cases D' (c=0)
  ·exact⟨ce ha.le (by omega),ce hb.le (by omega),ce hc.le (by omega)⟩
  ·exact⟨ce ha.le (by omega),z,z⟩
 ·exact⟨ce ha.le (by omega),z,z⟩
theorem LU(r:Rt):oY r r=true:=by
 unfold oY;rw[anO (rfl:r.2.2=r.2.2)];simp
theorem Kx{p:Pt}{v:Rat×Rat}(h:Rpd p):oY (lz (xP (trP p (bkV v))) (xP (trP p (bkV v)))) (lz (yP (trP p (bkV v))) (yP (trP p (bkV v))))=T'/\Ao (lz (xP (trP p (bkV v))) (xP (trP p (bkV v)))) (lz (yP (trP p (bkV v))) (yP (trP p (bkV v))))=sqP p v:=by
 obtain⟨ax,bx,ay,b_,c⟩:=p;have hr:=h.rd;unfold I5 at hr;simp only at hr;unfold sqP sqA sqB xP yP trP bkV;simp only;rw[show ax+ -v.1=ax-v.1 by grind,show ay+ -v.2=ay-v.2 by grind];generalize ax-v.1=x;generalize ay-v.2=y;rcases hr with⟨rfl,rfl,rfl⟩|⟨h1,h2,h3⟩
 ·have e0:∀a:Rat,coR a 0 0=(a,0,0):=λa=>rfl
  have e1:∀a:Rat,lz (a,0,0) (a,0,0)=(a*a,0,0):=λa=>by
   unfold lz gF iN;simp;grind
  rw[e0,e0,e1,e1];refine⟨rfl,?_⟩;rw[show x*0+y*0+(x*0+y*0)=(0:Rat) by grind];unfold Ao gF iN coR;simp;grind
 ·have hc:c≠0:=by grind
  have dc:D' (c=0)=false:=anQ hc
  have sq0:∀a:Rat,lz (coR a 0 c) (coR a 0 c)=(a*a,0,0):=λa=>by
   unfold coR;rw[anO rfl];unfold lz gF iN;simp;grind
  have sq1:∀a b:Rat,b≠0->lz (coR a b c) (coR a b c)=coR (a*a+b*b*c) (a*b+b*a) c:=λa b hb=>by
   have e:coR a b c=(a,b,c):=by unfold coR;rw[anQ hb];rfl
   rw[e];unfold lz gF iN coR;simp only[anQ hb,cond_false,dc]
  have cR:∀a b:Rat,iN a b c=coR a b c:=λa b=>by unfold iN coR;rw[dc];rfl
  have ad:∀a b d e:Rat,oY (coR a b c) (coR d e c)=T'/\(b≠0\/e≠0->Ao (coR a b c) (coR d e c)=coR (a+d) (b+e) c)/\(b=0->e=0->Ao (coR a b c) (coR d e c)=(a+d,0,0)):=λa b d e=>by
   by_cases hb:b=0
   ·subst hb;by_cases he:e=0
    ·subst he;refine⟨rfl,λh=>by simp at h,λ_ _=>?_⟩;unfold coR Ao gF iN;simp
    ·refine⟨rfl,λ_=>?_,λ_ h=>absurd h he⟩;have e1:coR a 0 c=(a,0,0):=rfl;have e2:coR d e c=(d,e,c):=by unfold coR;rw[anQ he];rfl
     rw[e1,e2];show iN (a+d) (0+e) c=_;rw[cR]
   ·have e1:coR a b c=(a,b,c):=by unfold coR;rw[anQ hb];rfl
    by_cases he:e=0
    ·subst he;have e2:coR d 0 c=(d,0,0):=rfl;refine⟨by rw[e1,e2];simp[oY],λ_=>?_,λh=>absurd h hb⟩;rw[e1,e2];unfold Ao gF;simp only[anQ hb,cond_false];rw[cR]
    ·have e2:coR d e c=(d,e,c):=by unfold coR;rw[anQ he];rfl
     refine⟨by rw[e1,e2];simp[oY],λ_=>?_,λh=>absurd h hb⟩;rw[e1,e2];unfold Ao gF;simp only[anQ hb,cond_false];rw[cR]
  have c0:∀a:Rat,((a,0,0):Rt)=coR a 0 c:=λa=>rfl;by_cases hx:bx=0
  ·subst hx;have hy:b_≠0:=λe=>h1 ⟨rfl,e⟩;rw[sq0,sq1 _ _ hy,c0];obtain⟨g1,g2,g3⟩:=ad (x*x) 0 (y*y+b_*b_*c) (y*b_+b_*y);refine⟨g1,?_⟩;by_cases he:y*b_+b_*y=0
   ·rw[g3 rfl he,show x*0+y*b_+(x*0+y*b_)=0 by grind];show _=coR _ 0 c;rw[<-c0];congr 1;grind
   ·rw[g2 (.inr he)];congr 1<;>grind
  ·by_cases hy:b_=0
   ·subst hy;rw[sq0,sq1 _ _ hx,c0];obtain⟨g1,g2,g3⟩:=ad (x*x+bx*bx*c) (x*bx+bx*x) (y*y) 0;refine⟨g1,?_⟩;by_cases he:x*bx+bx*x=0
    ·rw[g3 he rfl,show x*bx+y*0+(x*bx+y*0)=0 by grind];show _=coR _ 0 c;rw[<-c0];congr 1;grind
    ·rw[g2 (.inl he)];congr 1<;>grind
   ·rw[sq1 _ _ hx,sq1 _ _ hy];obtain⟨g1,g2,g3⟩:=ad (x*x+bx*bx*c) (x*bx+bx*x) (y*y+b_*b_*c) (y*b_+b_*y);refine⟨g1,?_⟩;by_cases h0:x*bx+bx*x=0/\y*b_+b_*y=0
    ·rw[g3 h0.1 h0.2,show x*bx+y*b_+(x*bx+y*b_)=0 by grind];show _=coR _ 0 c;rw[<-c0];congr 1;grind
    ·rw[g2 (by by_cases e:x*bx+bx*x=0;exact .inr (λe'=>h0 ⟨e,e'⟩);exact .inl e)];congr 1<;>grind
theorem Rpd.com{p:Pt}{v:Rat×Rat}(h:Rpd p):oY (lz (xP (trP p (bkV v))) (xP (trP p (bkV v)))) (lz (yP (trP p (bkV v))) (yP (trP p (bkV v))))=true:=(Kx h).1
instance amv {r s:Rt} {i j:Nat} [h:Bd r i] [h':Bd s j]:Bd (lz r s) (2*(i+j)+(mx j i)+1):=by
 have m:Bd (gF r s) (mx j i):=inferInstance;have a1:Bd (r.1*s.1+r.2.1*s.2.1*gF r s) _:=inferInstance;have a2:Bd (r.1*s.2.1+r.2.1*s.1) _:=inferInstance;have i1:Bd (iN (r.1*s.1+r.2.1*s.2.1*gF r s) (r.1*s.2.1+r.2.1*s.1) (gF r s)) _:=inferInstance;exact i1.mono (jJ (by omega) (jJ (by omega) (by omega)))
instance amo {r s:Rt} {i j:Nat} [h:Bd r i] [h':Bd s j]:Bd (Ao r s) (i+j+1):=by
 have i1:Bd (iN (r.1+s.1) (r.2.1+s.2.1) (gF r s)) _:=inferInstance;exact i1.mono (jJ (by omega) (jJ (by omega) (jJ (by omega) (by omega))))
instance amD {r:Rt} {a:Rat} {i j:Nat} [h:Bd r i] [h':Bd a j]:Bd (arT r a) (i+j+1):=by
 have i1:Bd ((r.1+a,r.2.1,r.2.2):Rt) _:=inferInstance;exact i1.mono (jJ (by omega) (jJ (by omega) (by omega)))
def BW:List En:=[enT mf,enL lj,enL vi,enL rV,enT vH,enL mw,enL SG,enL H5,enL HP,enT v9,enT R4]
def Te(r s:BO3)(_k:KT):OLR:=og (o1 r.2.1) (match(aD (ag r.2.1) 0)==0 with|T'=>S' [RV.d tR s.2.2,RV.d .bool T']|F'=>(og (o1 s.2.1) (match(aD (ag s.2.1) 0)==0 with|T'=>S' [RV.d tR r.2.2,RV.d .bool T']|F'=>(og (o2 r.2.2 s.2.2) (S' [RV.d tR r.2.2,RV.d .bool ((aD (ag r.2.2) (ag s.2.2))==0)])))))
def aeg:Cn 367 [tO,tO]:=cn λ(r s:BO3)=>lf (ok Rt 100000 r/\ok Rt 100000 s) [.d tR (av (gF (dec r) (dec s))),.d .bool (oY (dec r) (dec s))] λh=>by
 refine aA BW (Te r s) ⟨0,?_⟩;obtain⟨hr,hs⟩:=h;obtain⟨r,rfl,br⟩:=aL hr;obtain⟨s,rfl,bs⟩:=aL hs;unfold Te;simp only[aX,Nat.reduceLeDiff,am];unfold gF oY;cases D' (r.2.1=0)<;>cases D' (s.2.1=0)<;>rfl
def P2(r:BO3)(a:BR)(_k:KT):OLR:=og (o2 r.1 a) (S' [RV.d tO (hAd r.1 a,r.2)])
def D6:Cn 185 [tO,tR]:=cn λ(r:BO3) (a:BR)=>lf (ok Rt 100000 r/\ok Rat 100000 a) [.d tO (enc (arT (dec r) (ag a)))] λh=>by
 refine aA BW (P2 r a) ⟨0,?_⟩;obtain⟨hr,ha⟩:=h;obtain⟨r,rfl,br⟩:=aL hr;obtain⟨a,rfl,ba⟩:=aL ha;unfold P2;simp only[aX,Nat.reduceLeDiff];rfl
def NV(_k:KT):OLR:=og (D' (bH (0:Int))) (S' [RV.d tR (hid (av ((0:Int):Rat)))])
def aeO:Cn 53 []:=cn<|lf True [.d tR (av 0)] λ_=>by
 refine aA BW (NV) ⟨0,?_⟩;unfold NV;rw[dT (show bH 0 by decide)];simp only[aR];rfl
def UK(p:BP)(v:BV)(_k:KT):OLR:=og (o2 p.1 v.1) (og (o2 p.2.2.1 v.2) (S' [RV.d tP (hAd p.1 v.1,(p.2.1,(hAd p.2.2.1 v.2,p.2.2.2)))]))
def aeL:Cn 24 [tP,tV]:=cn λ(p:BP) (v:BV)=>lf (ok Pt 21000 p/\ok (Rat×Rat) 1000 v) [.d tP (enc (trP (dec p) (dec v)))] λh=>by
 refine aA BW (UK p v) ⟨0,?_⟩;obtain⟨hp,hv⟩:=h;obtain⟨p,rfl,bp⟩:=aL hp;obtain⟨v,rfl,bv⟩:=aL hv;unfold UK;simp only[aX,Nat.reduceLeDiff];rfl
def Qv(v:BV)(_k:KT):OLR:=og (o1 v.1) (og (o1 v.2) (S' [RV.d tV (hNe v.1,hNe v.2)]))
def ad6:Cn 26 [tV]:=cn λ(v:BV)=>lf (ok (Rat×Rat) 21000 v) [.d tV (enc (bkV (dec v)))] λh=>by
 refine aA BW (Qv v) ⟨0,?_⟩;have hv:=h;obtain⟨v,rfl,bv⟩:=aL hv;unfold Qv;simp only[aX,Nat.reduceLeDiff];rfl
def RX:List En:=enL aeg::enL D6::enL aeO::enL aeL::enL ad6::BW
def SO(r s:BO3)(_k:KT):OLR:=og (D' (ok Rt 100000 r/\ok Rt 100000 s)) (match !(oY (dec r) (dec s))with|T'=>S' [RV.d tO (((F',[]),(F',[])),(((F',[]),(F',[])),((F',[]),(F',[])))),RV.d arf 1]|F'=>(og (o2 r.1 s.1) (og (o2 r.2.1 s.2.1) (og (o2 (hMu r.2.1 s.2.1) (hid (av (gF (dec r) (dec s))))) (og (o2 (hMu r.1 s.1) (hMu (hMu r.2.1 s.2.1) (hid (av (gF (dec r) (dec s)))))) (og (o2 r.1 s.2.1) (og (o2 r.2.1 s.1) (og (o2 (hMu r.1 s.2.1) (hMu r.2.1 s.1)) (og (D' (okR (hAd (hMu r.1 s.1) (hMu (hMu r.2.1 s.2.1) (hid (av (gF (dec r) (dec s))))))/\okR (hAd (hMu r.1 s.2.1) (hMu r.2.1 s.1))/\okR (hid (av (gF (dec r) (dec s)))))) (S' [RV.d tO (hid (enc (iN (ag (hAd (hMu r.1 s.1) (hMu (hMu r.2.1 s.2.1) (hid (av (gF (dec r) (dec s))))))) (ag (hAd (hMu r.1 s.2.1) (hMu r.2.1 s.1))) (ag (hid (av (gF (dec r) (dec s)))))))),RV.d arf 0]))))))))))
def Qy:Cn 326 [tO,tO]:=cn λ(r s:BO3)=>lf (ok Rt 50000 r/\ok Rt 50000 s/\oY (dec r) (dec s)=T') [.d tO (enc (lz (dec r) (dec s))),.d arf 0] λh=>by
 refine aA RX (SO r s) ⟨0,?_⟩;obtain⟨hr,hs,htrue⟩:=h;obtain⟨r,rfl,br⟩:=aL hr;obtain⟨s,rfl,bs⟩:=aL hs;have hm:=htrue;rw[aq,aq]at hm;unfold SO;simp only[aX,Nat.reduceAdd,Nat.reduceLeDiff,hm,Bool.not_true];rfl
def UQ(r s:BO3)(_k:KT):OLR:=og (D' (ok Rt 100000 r/\ok Rt 100000 s)) (match !(oY (dec r) (dec s))with|T'=>S' [RV.d tO (((F',[]),(F',[])),(((F',[]),(F',[])),((F',[]),(F',[])))),RV.d arf 1]|F'=>(og (o2 r.1 s.1) (og (o2 r.2.1 s.2.1) (og (D' (okR (hAd r.1 s.1)/\okR (hAd r.2.1 s.2.1)/\okR (hid (av (gF (dec r) (dec s)))))) (S' [RV.d tO (hid (enc (iN (ag (hAd r.1 s.1)) (ag (hAd r.2.1 s.2.1)) (ag (hid (av (gF (dec r) (dec s)))))))),RV.d arf 0])))))
def aeW:Cn 314 [tO,tO]:=cn λ(r s:BO3)=>lf (ok Rt 100000 r/\ok Rt 100000 s/\oY (dec r) (dec s)=T') [.d tO (enc (Ao (dec r) (dec s))),.d arf 0] λh=>by
 refine aA RX (UQ r s) ⟨0,?_⟩;obtain⟨hr,hs,htrue⟩:=h;obtain⟨r,rfl,br⟩:=aL hr;obtain⟨s,rfl,bs⟩:=aL hs;have hm:=htrue;rw[aq,aq]at hm;unfold UQ;simp only[aX,Nat.reduceAdd,Nat.reduceLeDiff,hm,Bool.not_true];rfl
def E4:List En:=enL Qy::enL aeW::RX
def Oa(r:BO3)(_k:KT):OLR:=og (D' (ok Rt 50000 r/\ok Rt 50000 r/\oY (dec r) (dec r)=T')) (S' [RV.d tO (hid (enc (lz (dec r) (dec r))))])
def afw:Cn 315 [tO]:=cn λ(r:BO3)=>lf (ok Rt 50000 r) [.d tO (enc (lz (dec r) (dec r)))] λh=>by
 refine aA E4 (Oa r) ⟨0,?_⟩;have hr:=h;obtain⟨r,rfl,br⟩:=aL hr;unfold Oa;simp only[aX,Nat.reduceLeDiff,LU]
def OU(v:BV)(_k:KT):OLR:=S' [RV.d tP (v.1,(hid (av 0),(v.2,(hid (av 0),hid (av 0)))))]
def rO:Cn 16 [tV]:=cn λ(v:BV)=>lf (ok (Rat×Rat) 100000 v) [.d tP (enc (atP (dec v)))] λh=>by
 refine aA E4 (OU v) ⟨0,?_⟩;have hv:=h;obtain⟨v,rfl,bv⟩:=aL hv;unfold OU;simp only[aX];try rfl
def T0(a b c d e:BR)(_k:KT):OLR:=og (o1 b) (match(aD (ag b) 0)==0 with|T'=>(og (o1 d) (match(aD (ag d) 0)==0 with|T'=>S' [RV.d tP (a,(b,(c,(d,hid (av 0)))))]|F'=>S' [RV.d tP (a,(b,(c,(d,e))))]))|F'=>S' [RV.d tP (a,(b,(c,(d,e))))])
def aeV:Cn 87 [tR,tR,tR,tR,tR]:=cn λ(a b c d e:BR)=>lf (okR a/\okR b/\okR c/\okR d/\okR e) [.d tP (enc (rdP (ag a,ag b,ag c,ag d,ag e)))] λh=>by
 refine aA E4 (T0 a b c d e) ⟨0,?_⟩;obtain⟨ha,hb,hc,hd,he⟩:=h;obtain⟨a,rfl,ba⟩:=eO ha;obtain⟨b,rfl,bb⟩:=eO hb;obtain⟨c,rfl,bc⟩:=eO hc;obtain⟨d,rfl,bd⟩:=eO hd;obtain⟨e,rfl,be⟩:=eO he;unfold T0;simp only[aX,Nat.reduceLeDiff,am];unfold rdP;by_cases h1:b=0
 ·by_cases h2:d=0
  ·rw[anO h1,anO h2];rfl
  ·rw[anO h1,anQ h2];rfl
 ·rw[anQ h1];rfl
def O9(a b c:BR)(_k:KT):OLR:=og (o1 b) (match(aD (ag b) 0)==0 with|T'=>(og (o1 a) (S' [RV.d tO (hid (enc ((ag a,0,0):Rt)))]))|F'=>S' [RV.d tO (a,(b,c))])
def aeX:Cn 98 [tR,tR,tR]:=cn λ(a b c:BR)=>lf (okR a/\okR b/\okR c) [.d tO (enc (coR (ag a) (ag b) (ag c)))] λh=>by
 refine aA E4 (O9 a b c) ⟨0,?_⟩;obtain⟨ha,hb,hc⟩:=h;obtain⟨a,rfl,ba⟩:=eO ha;obtain⟨b,rfl,bb⟩:=eO hb;obtain⟨c,rfl,bc⟩:=eO hc;unfold O9;simp only[aX,aC,Nat.reduceLeDiff,am];unfold coR;by_cases e:b=0
 ·subst e;rw[anO rfl];rfl
 ·rw[anQ e];rfl
def Kv:List En:=enL afw::enL rO::enL aeV::enL aeX::E4
def Ss(x y:BO3)(_k:KT):OLR:=let y1:=aD (ag x.2.1) 0;let y2:OLR:=match D' (okR x.2.1)with|T'=>(match y1==0 with|T'=>(og (D' (okR x.1/\okR x.2.1/\okR y.1/\okR y.2.1/\okR y.2.2)) (S' [RV.d tP (hid (enc (rdP (ag x.1,ag x.2.1,ag y.1,ag y.2.1,ag y.2.2)))),RV.d arf 0]))|F'=>(og (D' (okR x.1/\okR x.2.1/\okR y.1/\okR y.2.1/\okR x.2.2)) (S' [RV.d tP (hid (enc (rdP (ag x.1,ag x.2.1,ag y.1,ag y.2.1,ag x.2.2)))),RV.d arf 0])))|F'=>none;og (o1 x.2.1) (match y1 !=0 with|T'=>(og (o1 y.2.1) (match(aD (ag y.2.1) 0) !=0 with|T'=>(og (o2 x.2.2 y.2.2) (match(aD (ag x.2.2) (ag y.2.2)) !=0 with|T'=>S' [RV.d tP (((F',[]),(F',[])),(((F',[]),(F',[])),(((F',[]),(F',[])),(((F',[]),(F',[])),((F',[]),(F',[])))))),RV.d arf 1]|F'=>y2))|F'=>y2))|F'=>y2)
def QR:Cn 37 [tO,tO]:=cn λ(x y:BO3)=>lf (okT 15000 x/\okT 15000 y/\yE (dec x) (dec y)) [.d tP (enc (mkP (dec x) (dec y))),.d arf 0] λh=>by
 refine aA Kv (Ss x y) ⟨0,?_⟩;obtain⟨hx,hy,hy_2⟩:=h;obtain⟨x,rfl,bx,rx⟩:=gD hx;obtain⟨y,rfl,b_y,ry⟩:=gD hy;have hm:=hy_2;rw[aq,aq]at hm;unfold Ss;simp only[aX,Nat.reduceLeDiff,am,bg];unfold mkP;by_cases e1:x.2.1=0
 ·rw[anO e1];rfl
 ·rw[anQ e1];by_cases e2:y.2.1=0
  ·rw[anO e2];rfl
  ·rw[anQ e2,anO ((hm.resolve_left e1).resolve_left e2)];rfl
def ZD(p:BP)(_k:KT):OLR:=og (D' (okR p.1/\okR p.2.1/\okR p.2.2.2.2)) (S' [RV.d tO (hid (enc (coR (ag p.1) (ag p.2.1) (ag p.2.2.2.2))))])
def Bq:Cn 42 [tP]:=cn λ(p:BP)=>lf (okP 4000 p) [.d tO (enc (xP (dec p)))] λh=>by
 refine aA Kv (ZD p) ⟨0,?_⟩;have hp:=h;obtain⟨p,rfl,bp,rp⟩:=bQ hp;unfold ZD;simp only[aX,Nat.reduceLeDiff];try rfl
def abT(p:BP)(_k:KT):OLR:=og (D' (okR p.2.2.1/\okR p.2.2.2.1/\okR p.2.2.2.2)) (S' [RV.d tO (hid (enc (coR (ag p.2.2.1) (ag p.2.2.2.1) (ag p.2.2.2.2))))])
def GN:Cn 103 [tP]:=cn λ(p:BP)=>lf (okP 4000 p) [.d tO (enc (yP (dec p)))] λh=>by
 refine aA Kv (abT p) ⟨0,?_⟩;have hp:=h;obtain⟨p,rfl,bp,rp⟩:=bQ hp;unfold abT;simp only[aX,Nat.reduceLeDiff];try rfl
def abL:List En:=enL Bq::enL GN::Kv
def M3(p q:BP)(_k:KT):OLR:=og (D' (okP 4000 p)) (og (D' (okP 4000 q)) (og (D' (okT 15000 (hid (enc (xP (dec p))))/\okT 15000 (hid (enc (xP (dec q)))))) (match(aU (dec (hid (enc (xP (dec p))))) (dec (hid (enc (xP (dec q)))))) !=0 with|T'=>S' [RV.d arf (aU (dec (hid (enc (xP (dec p))))) (dec (hid (enc (xP (dec q))))))]|F'=>(og (D' (okP 4000 p)) (og (D' (okP 4000 q)) (og (D' (okT 15000 (hid (enc (yP (dec p))))/\okT 15000 (hid (enc (yP (dec q)))))) (S' [RV.d arf (aU (dec (hid (enc (yP (dec p))))) (dec (hid (enc (yP (dec q))))))])))))))
def sA:Cn 204 [tP,tP]:=cn λ(p q:BP)=>lf (okP 4000 p/\okP 4000 q) [.d arf (aB (dec p) (dec q))] λh=>by
 refine aA abL (M3 p q) ⟨0,?_⟩;obtain⟨hp,hq⟩:=h;obtain⟨p,rfl,bp,rp⟩:=bQ hp;obtain⟨q,rfl,bq,rq⟩:=bQ hq;unfold M3;simp only[aX,Nat.reduceLeDiff,aI,aN];unfold aB bne;cases aU (xP p) (xP q)==0<;>rfl
def ZX:List En:=enL QR::enT sA::abL
def SP(p q:BP)(_k:KT):OLR:=og (D' (okP 4000 p/\okP 4000 q)) (S' [RV.d .bool ((aB (dec p) (dec q))==0)])
def o8:Cn 129 [tP,tP]:=cn λ(p q:BP)=>lf (okP 4000 p/\okP 4000 q) [.d .bool (aB (dec p) (dec q)==0)] λh=>by
 refine aA ZX (SP p q) ⟨0,?_⟩;unfold SP;rw[dT h]
def SC(p:BP)(v:BV)(_k:KT):OLR:=let y1:=hid (enc (bkV (dec v)));let y2:=hid (enc (trP (dec p) (dec y1)));let y3:=hid (enc (xP (dec y2)));let y4:=hid (enc (yP (dec y2)));let y5:=hid (enc (lz (dec y3) (dec y3)));let y6:=hid (enc (lz (dec y4) (dec y4)));og (D' (ok (Rat×Rat) 21000 v)) (og (D' (ok Pt 21000 p/\ok (Rat×Rat) 1000 y1)) (og (D' (okP 4000 y2)) (og (D' (ok Rt 50000 y3)) (og (D' (okP 4000 y2)) (og (D' (ok Rt 50000 y4)) (og (D' (ok Rt 100000 y5/\ok Rt 100000 y6/\oY (dec y5) (dec y6)=T')) (S' [RV.d tO (hid (enc (Ao (dec y5) (dec y6))))])))))))
def adX:Cn 264 [tP,tV]:=cn λ(p:BP) (v:BV)=>lf (okP 3500 p/\ok (Rat×Rat) 300 v) [.d tO (enc (sqP (dec p) (dec v)))] λh=>by
 refine aA ZX (SC p v) ⟨0,?_⟩;obtain⟨hp,hv⟩:=h;obtain⟨p,rfl,bp,rp⟩:=bQ hp;obtain⟨v,rfl,bv⟩:=aL hv;obtain⟨e1,e2⟩:=Kx (v:=v) rp;unfold SC;simp only[aX,Nat.reduceAdd,Nat.reduceMul,Nat.reduceLeDiff,aN,e1];rw[e2]
def H6(l:Ln)(p:Pt):Rt:=mkR (ML l p) (MS l p) p.2.2.2.2
def wB(c:Ln)(p:Pt):Rt:=arT (sqP p (ctr c)) (-c.2.2)
instance amP {r:Rt} {a:Rat} [h:Rdd r]:Rdd (arT r a):=⟨h.rd⟩
instance WD {l:Ln} {p:Pt} [h:Rpd p]:Rdd (H6 l p):=by
 have:Nn p.2.2.2.2:=inferInstance;exact Fr
instance amr {l:Ln} {p:Pt} {i j:Nat} [h:Bd l i] [h':Bd p j]:Bd (H6 l p) (5*i+5*j+5):=by
 have a1:Bd (ML l p) _:=inferInstance;have a2:Bd (MS l p) _:=inferInstance;have a3:Bd (mkR (ML l p) (MS l p) p.2.2.2.2) _:=inferInstance;exact a3.mono (by omega)
theorem WT{l:Ln}{p:Pt}[h:Rpd p]:sgR (H6 l p)=oD l p:=by
 unfold oD;rw[RY (WD (l:=l) (p:=p)).nn,RE.sgn2_re h.nn];unfold H6;rw[RE.vR_mk]
namespace RE
theorem XJ(a b q:RE):a+ -q+b=a+b-q:=by grind
theorem WC(a b q:RE):a-q+b=a+b-q:=by grind
theorem shift_l(a b d q:RE)(h:a+b=a+d):a+ -q+b=a-q+d:=by
 rw[XJ,WC,h]
end RE
theorem Vt{c:Ln}{p:Pt}[h:Rpd p]: -sgR (wB c p)=fY c p:=by
 unfold fY;have hr:Rdd (wB c p):=inferInstanceAs (Rdd (arT (sqP p (ctr c)) (-c.2.2)));rw[RY hr.nn,RE.sgn2_re h.nn]
 have e:RE.vR (wB c p)=RE.v2 (sqA p (ctr c)-c.2.2) (sqB p (ctr c)) p.2.2.2.2:=by
  have e1:=RE.vR_co (sqA p (ctr c)) (sqB p (ctr c)) p.2.2.2.2;unfold RE.vR RE.v2 at e1;unfold wB arT sqP RE.vR RE.v2;simp only;rw[RE.of_add,RE.of_neg,RE.of_sub]
  have e2:RE.of (coR (sqA p (ctr c)) (sqB p (ctr c)) p.2.2.2.2).1=RE.of (sqA p (ctr c)):=by
   unfold coR;cases D' (sqB p (ctr c)=0)<;>rfl
  rw[e2]at e1 ⊢;exact RE.shift_l _ _ _ _ e1
 rw[e]
theorem yY{q:Rat}(h:q≠0):aD q 0=if 0<q then 1 else-1:=by
 rcases(by grind:q<0\/0<q)with h'|h'
 ·rw[ez h',aog (by grind)]
 ·rw[dM h',aoz h']
def sN:List En:=[enT mf,enL lj,enL vi,enL xy,enL rV,enT vH,enL mw,enL xF,enL TJ,enL D6,enL adX]
def Qi(a:BR)(_k:KT):OLR:=match D' (okR a/\okR a)with|T'=>S' [RV.d tR (hMu a a)]|F'=>none
def ad0:Cn 313 [tR]:=cn λ(a:BR)=>lf (okR a) [.d tR (av (ag a*ag a))] λh=>by
 refine aA sN (Qi a) ⟨0,?_⟩;unfold Qi;rw[dT ⟨h,h⟩];simp only[aR]
def OH:Cn 262 [tR,tR]:=cn λ(a b:BR)=>lf (okR a/\okR b) [.d tR (av (ag a+ag b))] λh=>qT [RV.d tR (hAd a b)] (eT sN) h
def Nh:Cn 261 [tR,tR]:=cn λ(a b:BR)=>lf (okR a/\okR b) [.d tR (av (ag a-ag b))] λh=>qT [RV.d tR (hSu a b)] (eT sN) h
def H8:Cn 263 [tR,tR]:=cn λ(a b:BR)=>lf (okR a/\okR b) [.d tR (av (ag a*ag b))] λh=>qT [RV.d tR (hMu a b)] (eT sN) h
def wW:List En:=enL ad0::enL OH::enL Nh::enL H8::sN
def Rv(r:BO3)(_k:KT):OLR:=og (o1 r.1) (og (o1 r.2.1) (og (o2 (hid (av (ag r.2.1*ag r.2.1))) r.2.2) (og (o2 (hid (av (ag r.1*ag r.1))) (hMu (hid (av (ag r.2.1*ag r.2.1))) r.2.2)) (S' [RV.d tR (hSu (hid (av (ag r.1*ag r.1))) (hMu (hid (av (ag r.2.1*ag r.2.1))) r.2.2))]))))
def T2:Cn 260 [tO]:=cn λ(r:BO3)=>lf (ok Rt 90000 r) [.d tR (av (noR (dec r)))] λh=>by
 refine aA wW (Rv r) ⟨0,?_⟩;have hr:=h;obtain⟨r,rfl,br⟩:=aL hr;unfold Rv;simp only[aX,Nat.reduceAdd,Nat.reduceLeDiff];rfl
def Uc(l:BO3)(p:BP)(_k:KT):OLR:=og (o2 l.1 p.1) (og (o2 l.2.1 p.2.2.1) (og (o2 (hMu l.1 p.1) (hMu l.2.1 p.2.2.1)) (og (o2 (hAd (hMu l.1 p.1) (hMu l.2.1 p.2.2.1)) l.2.2) (og (o2 l.1 p.2.1) (og (o2 l.2.1 p.2.2.2.1) (og (o2 (hMu l.1 p.2.1) (hMu l.2.1 p.2.2.2.1)) (og (D' (ok Rat 100000 (hSu (hAd (hMu l.1 p.1) (hMu l.2.1 p.2.2.1)) l.2.2)/\ok Rat 100000 (hAd (hMu l.1 p.2.1) (hMu l.2.1 p.2.2.2.1))/\ok Rat 100000 p.2.2.2.2/\0<=ag p.2.2.2.2)) (S' [RV.d tO (hid (enc (mkR (ag (hSu (hAd (hMu l.1 p.1) (hMu l.2.1 p.2.2.1)) l.2.2)) (ag (hAd (hMu l.1 p.2.1) (hMu l.2.1 p.2.2.2.1))) (ag p.2.2.2.2))))]))))))))
def acj:Cn 184 [tO,tP]:=cn λ(l:BO3) (p:BP)=>lf (ok Ln 300 l/\okP 4000 p) [.d tO (enc (H6 (dec l) (dec p)))] λh=>by
 refine aA wW (Uc l p) ⟨0,?_⟩;obtain⟨hl,hp⟩:=h;obtain⟨l,rfl,bl⟩:=aL hl;obtain⟨p,rfl,bp,rp⟩:=bQ hp;have hn:0<=p.2.2.2.2:=rp.nn;unfold Uc;simp only[aX,Nat.reduceAdd,Nat.reduceLeDiff,dT hn];rfl
def QV(c:BO3)(p:BP)(_k:KT):OLR:=og (D' (okP 3500 p/\ok (Rat×Rat) 300 (c.1,c.2.1))) (og (o1 c.2.2) (og (D' (ok Rt 100000 (hid (enc (sqP (dec p) (dec (c.1,c.2.1)))))/\ok Rat 100000 (hNe c.2.2))) (S' [RV.d tO (hid (enc (arT (dec (hid (enc (sqP (dec p) (dec (c.1,c.2.1)))))) (ag (hNe c.2.2)))))])))
def ady:Cn 186 [tO,tP]:=cn λ(c:BO3) (p:BP)=>lf (ok Ln 300 c/\okP 3500 p) [.d tO (enc (wB (dec c) (dec p)))] λh=>by
 refine aA wW (QV c p) ⟨0,?_⟩;obtain⟨hc,hp⟩:=h;obtain⟨c,rfl,bc⟩:=aL hc;obtain⟨p,rfl,bp,rp⟩:=bQ hp;have e0:(dec ((av c.1,av c.2.1):BV):Rat×Rat)=ctr c:=aq (ctr c);have e1:D' (ok (Rat×Rat) 300 ((av c.1,av c.2.1):BV))=true:=okd (x:=ctr c) (by decide) (by decide);unfold QV;simp only[aX,Nat.reduceAdd,Nat.reduceMul,Nat.reduceLeDiff,aN,e0,e1];rfl
def K8:List En:=enL T2::enL acj::enL ady::wW
def UA(r:BO3)(_k:KT):OLR:=og (o1 r.1) (og (o1 r.2.1) (match(aD (ag r.1) 0)==(aD (ag r.2.1) 0)with|T'=>S' [RV.d arf (aD (ag r.1) 0)]|F'=>(match(aD (ag r.2.1) 0)==0 with|T'=>S' [RV.d arf (aD (ag r.1) 0)]|F'=>(match(aD (ag r.1) 0)==0 with|T'=>S' [RV.d arf (aD (ag r.2.1) 0)]|F'=>(og (D' (ok Rt 90000 r)) (og (o1 (hid (av (noR (dec r))))) (match D' ((aD (ag (hid (av (noR (dec r))))) 0)>0)with|T'=>S' [RV.d arf (aD (ag r.1) 0)]|F'=>S' [RV.d arf (aD (ag r.2.1) 0)])))))))
def CF:Cn 183 [tO]:=cn λ(r:BO3)=>lf (okT 90000 r) [.d arf (sgR (dec r))] λh=>by
 refine aA K8 (UA r) ⟨0,?_⟩;have hr:=h;obtain⟨r,rfl,br,rr⟩:=gD hr;unfold UA;simp only[aX,Nat.reduceAdd,Nat.reduceMul,Nat.reduceLeDiff,am,au];rw[XZ rr];by_cases hb:r.2.1=0
 ·rw[anO hb,hb,eF];by_cases ha:aD r.1 0=0
  ·rw[ha];rfl
  ·rw[show(aD r.1 0==0)=F' by simp[ha]];rfl
 ·have hn:=acX rr hb;have e2:=yY hn;have hb2:=yY hb;rw[anQ hb,show(aD r.2.1 0==0)=F' by rw[am,anQ hb]];by_cases ha:r.1=0
  ·rw[anO ha,ha,eF,show((0:Int)==aD r.2.1 0)=F' by rw[hb2];split<;>rfl];rfl
  ·have ha2:=yY ha;rw[anQ ha,show(aD r.1 0==0)=F' by rw[am,anQ ha]];cases hq:(aD r.1 0==aD r.2.1 0)
   ·have hne:aD r.1 0≠aD r.2.1 0:=by simpa using hq
    rw[e2];by_cases hp:0<noR r
    ·rw[anO hp,aoz hp,aqv];rfl
    ·rw[anQ hp,aog hp];show S' [RV.d arf (aD r.2.1 0)]=S' [RV.d arf (aD r.1 0* -1)]
     rw[show aD r.2.1 0=aD r.1 0* -1 by
      rw[ha2,hb2]at hne ⊢;split at hne<;>split at hne<;>simp_all]
   ·rfl
def J9:List En:=enT CF::K8
def Uu(l:BO3)(p:BP)(_k:KT):OLR:=og (D' (ok Ln 300 l/\okP 4000 p)) (og (D' (okT 90000 (hid (enc (H6 (dec l) (dec p)))))) (S' [RV.d arf (sgR (dec (hid (enc (H6 (dec l) (dec p))))))]))
def TC:Cn 104 [tO,tP]:=cn λ(l:BO3) (p:BP)=>lf (ok Ln 300 l/\okP 4000 p) [.d arf (oD (dec l) (dec p))] λh=>by
 refine aA J9 (Uu l p) ⟨0,?_⟩;obtain⟨hl,hp⟩:=h;obtain⟨l,rfl,bl⟩:=aL hl;obtain⟨p,rfl,bp,rp⟩:=bQ hp;unfold Uu;simp only[aX,Nat.reduceAdd,Nat.reduceMul,Nat.reduceLeDiff,aI,aN];rw[WT]
def Qm(c:BO3)(p:BP)(_k:KT):OLR:=og (D' (ok Ln 300 c/\okP 3500 p)) (og (D' (okT 90000 (hid (enc (wB (dec c) (dec p)))))) (S' [RV.d arf (i64.wrap (0-(sgR (dec (hid (enc (wB (dec c) (dec p))))))))]))
def Px:Cn 106 [tO,tP]:=cn λ(c:BO3) (p:BP)=>lf (ok Ln 300 c/\okP 3500 p) [.d arf (fY (dec c) (dec p))] λh=>by
 refine aA J9 (Qm c p) ⟨0,?_⟩;obtain⟨hc,hp⟩:=h;obtain⟨c,rfl,bc⟩:=aL hc;obtain⟨p,rfl,bp,rp⟩:=bQ hp;have hr:Rdd (wB c p):=inferInstanceAs (Rdd (arT (sqP p (ctr c)) (-c.2.2)));have br:Bd (wB c p) 90000:=(inferInstance:Bd (arT (sqP p (ctr c)) (-c.2.2)) _).mono (by decide);have hb: -1<=sgR (wB c p)/\sgR (wB c p)<=1:=gn _ _ _;unfold Qm;simp only[aX,Nat.reduceLeDiff,aI,aN,aps,aM (x:= -sgR (wB c p)) (by omega) (by omega)];rw[Vt]
def xD(c:BCU):BCU:=(c.1,c.2.1,(av (-ag c.2.2.1.1),c.2.2.1.2),!c.2.2.2.1,enc (flP (dec c.2.2.2.2.1)),enc (flP (dec c.2.2.2.2.2)))
instance anw {p:Pt} [h:Rpd p]:Rpd (flP p):=by
 refine⟨?_⟩;have:=h.rd;unfold I5 flP at*
 simp only;have e:(-p.2.1=0)↔p.2.1=0:=by constructor<;>intro h<;>grind
 rw[e];exact this
instance anu {p:Pt} {j:Nat} [h:Bd p j]:Bd (flP p) j:=by
 have i1:Bd ((-p.1,-p.2.1,p.2.2.1,p.2.2.2.1,p.2.2.2.2):Pt) _:=inferInstance;exact i1.mono (jJ (by omega) (jJ (by omega) (jJ (by omega) (jJ (by omega) (by omega)))))
theorem qH{j k:Nat}{x:BP}(h:okP j x)(hj:j<=k)(hk:k<=480000):okP k x:=by
 obtain⟨p,rfl,bp,rp⟩:=bQ h;exact anP (aN hj hk)
theorem LX{j k:Nat}{c:BCU}(h:okC j c)(hj:j<=k)(hk:k<=480000):okC k c:=⟨h.1,h.2.1,qH h.2.2.1 hj hk,qH h.2.2.2 hj hk⟩
theorem Hl{x:BP}(h:okP 4000 x):okP 4000 (enc (flP (dec x))):=by
 obtain⟨p,rfl,bp,rp⟩:=bQ h;rw[aq];exact anP (aN (x:=flP p) (by decide) (by decide))
theorem afW{x:BO3}(h:ok Ln 300 x):ok Ln 300 ((av (-ag x.1),x.2):BO3)/\(dec ((av (-ag x.1),x.2):BO3):Ln)=flC (dec x):=by
 obtain⟨l,rfl,bl⟩:=aL h
 have e:((av (-ag (enc l:BO3).1),(enc l:BO3).2):BO3)=enc (flC l):=by
  rw[uc,lZ,eP];rfl
 rw[e,aq,aq];refine⟨?_,rfl⟩;have i1:Bd (flC l) 300:=(inferInstance:Bd ((-l.1,l.2.1,l.2.2):Ln) _).mono (by decide);exact anP (okd (x:=flC l) (anT _) (by decide))
def BG:List En:=[enL mw,enT v9,enT R4,enL Bq,enL GN,enT sA,enT TC,enT Px]
def aaK(c:BCU)(p:BP)(_k:KT):OLR:=match c.1 with|T'=>(og (D' (ok Ln 300 c.2.2.1/\okP 3500 p)) (S' [RV.d .bool ((fY (dec c.2.2.1) (dec p))==0)]))|F'=>(og (D' (ok Ln 300 c.2.1/\okP 4000 p)) (S' [RV.d .bool ((oD (dec c.2.1) (dec p))==0)]))
def aaD:Cn 128 [tCU,tP]:=cn λ(c:BCU) (p:BP)=>lf (okC 3500 c/\okP 3500 p) [.d .bool (df (dC c) (dec p))] λh=>by
 refine aA BG (aaK c p) ⟨0,?_⟩;obtain⟨hc,hp⟩:=h;have op:D' (okP 3500 p)=true:=anO hp;have op4:D' (okP 4000 p)=true:=anO (qH hp (by decide) (by decide));obtain⟨ar,li,ci,cw,fr,to⟩:=c;obtain⟨c1,c2,_⟩:=hc;unfold aaK;cases ar
 ·have e:=(c2 rfl).1;simp only[apS,dT e,op4,aoW];rfl
 ·have e:=(c1 rfl).1;simp only[apS,dT e,op,aoW];rfl
def Zm(c:BO3)(p:BP)(_k:KT):OLR:=og (D' (okP 4000 p)) (og (D' (okT 15000 (hid (enc (yP (dec p))))/\ok Rat 15000 c.2.1)) (match D' ((dO (dec (hid (enc (yP (dec p))))) (ag c.2.1))>0)with|T'=>S' [RV.d .bool T']|F'=>(match(dO (dec (hid (enc (yP (dec p))))) (ag c.2.1))==0 with|T'=>(og (D' (okP 4000 p)) (og (D' (okT 15000 (hid (enc (xP (dec p))))/\ok Rat 15000 c.1)) (S' [RV.d .bool (D' ((dO (dec (hid (enc (xP (dec p))))) (ag c.1))>0))])))|F'=>S' [RV.d .bool F'])))
def alV:Cn 366 [tO,tP]:=cn λ(c:BO3) (p:BP)=>lf (ok Ln 300 c/\okP 4000 p) [.d .bool (upR (dec c) (dec p))] λh=>by
 refine aA BG (Zm c p) ⟨0,?_⟩;obtain⟨hc,hp⟩:=h;obtain⟨c,rfl,bc⟩:=aL hc;obtain⟨p,rfl,bp,rp⟩:=bQ hp;unfold Zm upR;simp only[aX,Nat.reduceLeDiff,aI,aN];cases D' (dO (yP p) c.2.1>0)<;>cases dO (yP p) c.2.1==0<;>rfl
def YS(p:BP)(_k:KT):OLR:=og (o1 p.1) (og (o1 p.2.1) (S' [RV.d tP (hNe p.1,(hNe p.2.1,p.2.2))]))
def aig:Cn 259 [tP]:=cn λ(p:BP)=>lf (okP 4000 p) [.d tP (enc (flP (dec p)))] λh=>by
 refine aA BG (YS p) ⟨0,?_⟩;have hp:=h;obtain⟨p,rfl,bp,rp⟩:=bQ hp;unfold YS;simp only[aX,Nat.reduceLeDiff];rfl
def aki:Ctx:=CX (ens BG) []
def aiW(c:BCU)(_k:KT):OLR:=match c.1 with|T'=>S' [RV.d tCU (c.1,(c.2.1,(c.2.2.1,(!c.2.2.2.1,(c.2.2.2.2.2,c.2.2.2.2.1)))))]|F'=>S' [RV.d tCU (c.1,(c.2.1,(c.2.2.1,(F',(c.2.2.2.2.2,c.2.2.2.2.1)))))]
theorem agQ(c:BCU):RS aki 213 [.d tCU c] (aiW c):=rsX
def JE:Cn 213 [tCU]:=cn λ(c:BCU)=>lf True [.d tCU (gT c)] λ_=>by
 refine bj BG (agQ _ ⟨0,?_⟩);obtain⟨ar,li,ci,cw,fr,to⟩:=c;cases ar<;>rfl
def SX:List En:=enT aaD::enT alV::enL aig::enL JE::BG
def Yn(c:BO3)(p q:BP)(_k:KT):OLR:=og (D' (ok Ln 300 c/\okP 4000 p)) (og (D' (ok Ln 300 c/\okP 4000 q)) (match !((upR (dec c) (dec p))==(upR (dec c) (dec q)))with|T'=>(match upR (dec c) (dec q)with|T'=>S' [RV.d arf (-1)]|F'=>S' [RV.d arf 1])|F'=>(og (D' (okP 4000 p)) (og (D' (okP 4000 q)) (og (D' (okT 15000 (hid (enc (xP (dec p))))/\okT 15000 (hid (enc (xP (dec q)))))) (match upR (dec c) (dec p)with|T'=>S' [RV.d arf (i64.wrap (0-(aU (dec (hid (enc (xP (dec p))))) (dec (hid (enc (xP (dec q))))))))]|F'=>S' [RV.d arf (aU (dec (hid (enc (xP (dec p))))) (dec (hid (enc (xP (dec q))))))]))))))
def alm:Cn 312 [tO,tP,tP]:=cn λ(c:BO3) (p q:BP)=>lf (ok Ln 300 c/\okP 4000 p/\okP 4000 q) [.d arf (jT aU (ptd (dec c) (dec p)) (ptd (dec c) (dec q)))] λh=>by
 refine aA SX (Yn c p q) ⟨0,?_⟩;obtain⟨hc,hp,hq⟩:=h;obtain⟨c,rfl,bc⟩:=aL hc;obtain⟨p,rfl,bp,rp⟩:=bQ hp;obtain⟨q,rfl,bq,rq⟩:=bQ hq;have xb:=xl (xP p) (xP q);unfold Yn;simp only[aX,Nat.reduceLeDiff,aI,aN,aM (x:= -aU (xP p) (xP q)) (by omega) (by omega),aps];unfold jT ptd;cases upR c p<;>cases upR c q<;>rfl
def Zr(c:BCU)(_k:KT):OLR:=match D' (okR c.2.2.1.1)with|T'=>(match D' (okP 4000 c.2.2.2.2.1)with|T'=>(match D' (okP 4000 c.2.2.2.2.2)with|T'=>S' [RV.d tCU (c.1,(c.2.1,((hNe c.2.2.1.1,c.2.2.1.2),(!c.2.2.2.1,(hid (enc (flP (dec c.2.2.2.2.1))),hid (enc (flP (dec c.2.2.2.2.2))))))))]|F'=>none)|F'=>none)|F'=>none
def ah9:Cn 258 [tCU]:=cn λ(c:BCU)=>lf (tn c.2.2.1/\okP 4000 c.2.2.2.2.1/\okP 4000 c.2.2.2.2.2) [.d tCU (xD c)] λh=>by
 refine aA SX (Zr c) ⟨0,?_⟩;obtain⟨hc,hf,ht⟩:=h
 have e:okR c.2.2.1.1:=by
  obtain⟨l,hl,bl⟩:=aL hc.1;rw[hl,uc,lZ];exact anP (zG (q:=l.1) (by decide))
 unfold Zr;rw[dT e,dT hf,dT ht];simp only[aR];rfl
def Z0:List En:=enT alm::enL ah9::SX
def Zt(c:BO3)(f p q:BP)(_k:KT):OLR:=og (D' (ok Ln 300 c/\okP 4000 p/\okP 4000 f)) (og (D' (ok Ln 300 c/\okP 4000 q/\okP 4000 f)) (match !((D' ((jT aU (ptd (dec c) (dec p)) (ptd (dec c) (dec f)))<0))==(D' ((jT aU (ptd (dec c) (dec q)) (ptd (dec c) (dec f)))<0)))with|T'=>(match D' ((jT aU (ptd (dec c) (dec q)) (ptd (dec c) (dec f)))<0)with|T'=>S' [RV.d arf (-1)]|F'=>S' [RV.d arf 1])|F'=>(og (D' (ok Ln 300 c/\okP 4000 p/\okP 4000 q)) (S' [RV.d arf (jT aU (ptd (dec c) (dec p)) (ptd (dec c) (dec q)))]))))
def ahb:Cn 257 [tO,tP,tP,tP]:=cn λ(c:BO3) (f p q:BP)=>lf (ok Ln 300 c/\okP 4000 f/\okP 4000 p/\okP 4000 q) [.d arf (lJ aU (ptd (dec c) (dec f)) (ptd (dec c) (dec p)) (ptd (dec c) (dec q)))] λh=>by
 refine aA Z0 (Zt c f p q) ⟨0,?_⟩;obtain⟨hc,hf,hp,hq⟩:=h;unfold Zt lJ;rw[dT (show ok Ln 300 c/\okP 4000 p/\okP 4000 f from⟨hc,hp,hf⟩),dT (show ok Ln 300 c/\okP 4000 q/\okP 4000 f from⟨hc,hq,hf⟩),dT (show ok Ln 300 c/\okP 4000 p/\okP 4000 q from⟨hc,hp,hq⟩)];cases D' (jT aU (ptd (dec c) (dec p)) (ptd (dec c) (dec f))<0)<;>cases D' (jT aU (ptd (dec c) (dec q)) (ptd (dec c) (dec f))<0)<;>rfl
def ZC:List En:=enT ahb::Z0
def YL(c:BCU)(p q:BP)(_k:KT):OLR:=match !c.1 with|T'=>(og (D' (okP 4000 p/\okP 4000 q)) (og (D' (okP 4000 c.2.2.2.2.1/\okP 4000 c.2.2.2.2.2)) (match D' ((aB (dec c.2.2.2.2.1) (dec c.2.2.2.2.2))>0)with|T'=>S' [RV.d arf (i64.wrap (0-(aB (dec p) (dec q))))]|F'=>S' [RV.d arf (aB (dec p) (dec q))])))|F'=>(match !c.2.2.2.1 with|T'=>(og (D' (ok Ln 300 c.2.2.1/\okP 4000 c.2.2.2.2.1/\okP 4000 p/\okP 4000 q)) (S' [RV.d arf (lJ aU (ptd (dec c.2.2.1) (dec c.2.2.2.2.1)) (ptd (dec c.2.2.1) (dec p)) (ptd (dec c.2.2.1) (dec q)))]))|F'=>(og (D' (tn c.2.2.1/\okP 4000 c.2.2.2.2.1/\okP 4000 c.2.2.2.2.2)) (og (D' (okP 4000 p)) (og (D' (okP 4000 q)) (og (D' (ok Ln 300 ((((hid (xD c)).2).2).1)/\okP 4000 ((((((hid (xD c)).2).2).2).2).1)/\okP 4000 (hid (enc (flP (dec p))))/\okP 4000 (hid (enc (flP (dec q)))))) (S' [RV.d arf (lJ aU (ptd (dec ((((hid (xD c)).2).2).1)) (dec ((((((hid (xD c)).2).2).2).2).1))) (ptd (dec ((((hid (xD c)).2).2).1)) (dec (hid (enc (flP (dec p)))))) (ptd (dec ((((hid (xD c)).2).2).1)) (dec (hid (enc (flP (dec q)))))))]))))))
def Je:Cn 181 [tCU,tP,tP]:=cn λ(c:BCU) (p q:BP)=>lf (okC 4000 c/\okP 4000 p/\okP 4000 q) [.d arf (co (dC c) (dec p) (dec q))] λh=>by
 refine aA ZC (YL c p q) ⟨0,?_⟩;obtain⟨hc,hp,hq⟩:=h;have xb:=C7 (dec p) (dec q);obtain⟨ar,li,ci,cw,fr,to⟩:=c;obtain⟨c1,c2,c3,c4⟩:=hc;simp only at c1 c2 c3 c4;unfold YL co;cases ar
 ·simp only[aps,aM (x:= -aB (dec p) (dec q)) (by omega) (by omega),dT (show okP 4000 p/\okP 4000 q from⟨hp,hq⟩),dT (show okP 4000 fr/\okP 4000 to from⟨c3,c4⟩),Bool.not_false];simp only[dC,frC,toC,cond_false];by_cases hd:aB (dec fr) (dec to)>0
  ·simp[hd]
  ·simp[hd]
 ·have e:=(c1 rfl).1;have hci:=c1 rfl;obtain⟨f1,f2⟩:=afW e;cases cw
  ·simp only[dT (show ok Ln 300 ci/\okP 4000 fr/\okP 4000 p/\okP 4000 q from⟨e,c3,hp,hq⟩),Bool.not_true,Bool.not_false];rfl
  ·have hm:ok Ln 300 (xD (T',li,ci,T',fr,to)).2.2.1/\okP 4000 (xD (T',li,ci,T',fr,to)).2.2.2.2.1/\okP 4000 (enc (flP (dec p)))/\okP 4000 (enc (flP (dec q))):=⟨f1,Hl c3,Hl hp,Hl hq⟩
   have m1:(dec (xD (T',li,ci,T',fr,to)).2.2.1:Ln)=flC (dec ci):=f2;have m2:(dec (xD (T',li,ci,T',fr,to)).2.2.2.2.1:Pt)=flP (dec fr):=aq _;simp only[aR,dT (show tn ci/\okP 4000 fr/\okP 4000 to from⟨hci,c3,c4⟩),dT hp,dT hq,dT hm,Bool.not_true,m1,m2,aq];rfl
def ahV:List En:=enT Je::ZC
def Ye(c:BCU)(p:BP)(_k:KT):OLR:=og (D' (okC 3500 c/\okP 3500 p)) (match df (dC c) (dec p)with|T'=>(og (D' (okC 4000 c/\okP 4000 c.2.2.2.2.1/\okP 4000 p)) (match D' ((co (dC c) (dec c.2.2.2.2.1) (dec p))<=0)with|T'=>(og (D' (okC 4000 c/\okP 4000 p/\okP 4000 c.2.2.2.2.2)) (S' [RV.d .bool (D' ((co (dC c) (dec p) (dec c.2.2.2.2.2))<=0))]))|F'=>S' [RV.d .bool F']))|F'=>S' [RV.d .bool F'])
def ES:Cn 97 [tCU,tP]:=cn λ(c:BCU) (p:BP)=>lf (okC 3500 c/\okP 3500 p) [.d .bool (onR (dC c) (dec p))] λh=>by
 refine aA ahV (Ye c p) ⟨0,?_⟩;obtain⟨hc,hp⟩:=h;have hc4:=LX (k:=4000) hc (by decide) (by decide);have hp4:=qH (k:=4000) hp (by decide) (by decide);unfold Ye onR;rw[dT (show okC 3500 c/\okP 3500 p from⟨hc,hp⟩),dT (show okC 4000 c/\okP 4000 c.2.2.2.2.1/\okP 4000 p from⟨hc4,hc4.2.2.1,hp4⟩),dT (show okC 4000 c/\okP 4000 p/\okP 4000 c.2.2.2.2.2 from⟨hc4,hp4,hc4.2.2.2⟩)];cases df (dC c) (dec p)
 ·rfl
 ·show(match decide (co (dC c) (frC (dC c)) (dec p)<=0)with|true=>some [RV.d .bool (decide (co (dC c) (dec p) (toC (dC c))<=0))]|false=>some [RV.d .bool false])=_;cases decide (co (dC c) (frC (dC c)) (dec p)<=0)<;>rfl
end Go.Proofs.YtoimchcjhdcdmaaGreat
end
