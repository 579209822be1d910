/- Orders on circles and segments, in plain terms: ranks, finite checks. -/
import Derived.Test.YtoimchcjhdcdmaaGreatQ12
import Derived.Test.YtoimchcjhdcdmaaGreatQ13
noncomputable section
namespace Go.Proofs.YtoimchcjhdcdmaaGreat
open Go.RowKit Go.IntKind
open Bool renaming true->T',false->F'
open Option renaming some->S'
open Decidable renaming decide->D'
theorem aqq:type_of% @not_false_eq_true:=@not_false_eq_true
theorem ar2:type_of% @Rat.mul_eq_zero:=@Rat.mul_eq_zero
section
section
variable {α:Type}
open Classical in
def rk(lt:α->α->Prop):List α->α->Nat
 |[],_=>0
 |e::r,x=>(if lt e x then 1 else 0)+rk lt r x
structure np (lt:α->α->Prop):Prop where
 irr:∀x,¬lt x x
 tr:∀x y z,lt x y->lt y z->lt x z
 tri:∀x y,lt x y\/x=y\/lt y x
variable {lt:α->α->Prop}
theorem Z8(h:np lt){x y:α}(hxy:lt x y):∀L,rk lt L x<=rk lt L y
 |[]=>aoU _
 |e::r=>by
  have:=Z8 h hxy r;unfold rk;by_cases h1:lt e x
  ·rw[apB h1,apB (h.tr _ _ _ h1 hxy)];omega
  ·rw[aph h1];omega
theorem xC(h:np lt){x y:α}(hxy:lt x y):∀{L},x∈L->rk lt L x<rk lt L y
 |e::r,hm=>by
  have h0:=Z8 h hxy r;unfold rk;rcases ao7.1 hm with rfl|hm
  ·rw[aph (h.irr _),apB hxy];omega
  ·have:=xC h hxy hm;by_cases h1:lt e x
   ·rw[apB h1,apB (h.tr _ _ _ h1 hxy)];omega
   ·rw[aph h1];omega
theorem agW(L:List α)(x:α):rk lt L x<=L.length:=by
 induction L with
 |nil=>exact aoU _
 |cons e r ih=>
  unfold rk;rw[ao8];split<;>omega
theorem qR(h:np lt){x:α}:∀{L},x∈L->rk lt L x<L.length
 |e::r,hm=>by
  unfold rk;rw[ao8];rcases ao7.1 hm with rfl|hm
  ·rw[aph (h.irr _)];have:=agW (lt:=lt) r x;omega
  ·have:=qR h hm;split<;>omega
def uu(lt:α->α->Prop)(c:α->α->Int):Prop:=∀x y,(lt x y->c x y= -1)/\(x=y->c x y=0)/\(lt y x->c x y=1)
def cI(i j:Nat):Int:=if i<j then-1 else if i=j then 0 else 1
theorem xl(h:np lt){c:α->α->Int}(hc:uu lt c){L:List α}{x y:α}(hx:x∈L)(hy:y∈L):c x y=cI (rk lt L x) (rk lt L y):=by
 unfold cI;rcases h.tri x y with e|e|e
 ·rw[(hc x y).1 e,apB (xC h e hx)]
 ·subst e;rw[(hc x x).2.1 rfl,aph (Nat.lt_irrefl _),apB rfl]
 ·have:=xC h e hy;rw[(hc x y).2.2 e,aph (by omega),aph (by omega)]
end
section
variable {α:Type} (cmp:α->α->Int)
def sC(p q:Bool×α):Int:=bif p.1==q.1 then(bif p.1 then-cmp p.2 q.2 else cmp p.2 q.2)else(bif p.1 then-1 else 1)
def oJ(f p:Bool×α):Int:=bif sC cmp p f==0 then 0 else bif D' (sC cmp p f>0)then 1 else 2
def Ao(n:Int):Int:=if n<0 then-1 else if n=0 then 0 else 1
def me(f p q:Bool×α):Int:=bif oJ cmp f p==oJ cmp f q then Ao (sC cmp p q)else Ao (oJ cmp f p-oJ cmp f q)
def jI(p q:Bool×α):Int:=bif p.1==q.1 then(bif p.1 then-cmp p.2 q.2 else cmp p.2 q.2)else(bif q.1 then-1 else 1)
def lA(f p q:Bool×α):Int:=bif D' (jI cmp p f<0)==D' (jI cmp q f<0)then jI cmp p q else(bif D' (jI cmp q f<0)then-1 else 1)
variable {cmp} {β:Type} {cmq:β->β->Int}
theorem rH{u v:Bool}{a b:α}{c d:β}(h:cmp a b=cmq c d):sC cmp (u,a) (v,b)=sC cmq (u,c) (v,d):=by unfold sC;rw[h]
theorem rU{u v:Bool}{a b:α}{c d:β}(h:cmp a b=cmq c d):jI cmp (u,a) (v,b)=jI cmq (u,c) (v,d):=by unfold jI;rw[h]
theorem yu{u v w:Bool}{f p q:α}{f' p' q':β}(h1:cmp p f=cmq p' f')(h2:cmp q f=cmq q' f')(h3:cmp p q=cmq p' q'):me cmp (u,f) (v,p) (w,q)=me cmq (u,f') (v,p') (w,q'):=by
 unfold me oJ;rw[rH h1,rH h2,rH h3]
theorem fD{u v w:Bool}{f p q:α}{f' p' q':β}(h1:cmp p f=cmq p' f')(h2:cmp q f=cmq q' f')(h3:cmp p q=cmq p' q'):lA cmp (u,f) (v,p) (w,q)=lA cmq (u,f') (v,p') (w,q'):=by
 unfold lA;rw[rU h1,rU h2,rU h3]
end
def An(k i l j:Nat):Bool:=(k !=0||(bif l==0 then i==j else D' (j<i)))&&(k !=2||(bif l==2 then i==j else D' (i<j)))
def upA(k:Nat):Bool:=k==0||k==1
def ufA(k:Nat):Bool:=k==1||k==2
def dI(i j:Nat):Int:=cI j i
def Ge(k i l j m n:Nat):Bool:=An k i l j&&An l j k i&&An k i m n&&An m n k i&&An l j m n&&An m n l j
theorem VZ:∀kF kP kT:Fin 4,∀iF iP iT:Fin 3,Ge kF.1 iF.1 kP.1 iP.1 kT.1 iT.1=T'->
  D' (me cI (upA kF.1,iF.1) (upA kP.1,iP.1) (upA kT.1,iT.1)<=0)=(D' (lA cI (upA kF.1,iF.1) (upA kF.1,iF.1) (upA kP.1,iP.1)<=0)&&D' (lA cI (upA kF.1,iF.1) (upA kP.1,iP.1) (upA kT.1,iT.1)<=0)):=by decide+kernel
theorem ae9:∀kF kP kT:Fin 4,∀iF iP iT:Fin 3,Ge kF.1 iF.1 kP.1 iP.1 kT.1 iT.1=T'->
  D' (me cI (upA kT.1,iT.1) (upA kP.1,iP.1) (upA kF.1,iF.1)<=0)=(D' (lA dI (ufA kF.1,iF.1) (ufA kF.1,iF.1) (ufA kP.1,iP.1)<=0)&&D' (lA dI (ufA kF.1,iF.1) (ufA kP.1,iP.1) (ufA kT.1,iT.1)<=0)):=by decide+kernel
def UY(a b:Int):Bool:=a==0||b==0||a==b
def akO(d a b:Int):Bool:=D' ((bif D' (d>0)then-a else a)<=0)&&D' ((bif D' (d>0)then-b else b)<=0)
theorem XP:∀f p t:Fin 3,UY (cI f.1 p.1) (cI p.1 t.1)=akO (cI f.1 t.1) (cI f.1 p.1) (cI p.1 t.1):=by decide+kernel
namespace RE
theorem lt_lin:np (λx y:RE=>x<y):=⟨lt_irrefl,λ_ _ _=>eI,oB⟩
theorem D4(x y:RE)(h1:x<y):x-y<0:=by grind
theorem Cb(x y:RE)(h1:y<x):0<x-y:=by grind
theorem sg_cmpO:uu (λx y:RE=>x<y) (λx y=>sg (x-y)):=λx y=>⟨λh=>oE (D4 _ _ h),λh=>by subst h;show sg (x-x)=0;rw[sub_self,fq],λh=>jg (Cb _ _ h)⟩
def agI(p q:RE×RE):Prop:=p.1<q.1\/(p.1=q.1/\p.2<q.2)
theorem gu:np agI:=by
 refine⟨λx h=>?_,λx y z h1 h2=>?_,λx y=>?_⟩
 ·rcases h with h|h
  ·exact lt_irrefl _ h
  ·exact lt_irrefl _ h.2
 ·rcases h1 with h1|⟨h1,h1'⟩
  ·rcases h2 with h2|⟨h2,h2'⟩
   ·exact .inl (eI h1 h2)
   ·exact .inl (h2▸h1)
  ·rcases h2 with h2|⟨h2,h2'⟩
   ·exact .inl (h1▸h2)
   ·exact .inr ⟨h1.trans h2,eI h1' h2'⟩
 ·rcases oB x.1 y.1 with h|h|h
  ·exact .inl (.inl h)
  ·rcases oB x.2 y.2 with h'|h'|h'
   ·exact .inl (.inr ⟨h,h'⟩)
   ·exact .inr (.inl (ar1 h h'))
   ·exact .inr (.inr (.inr ⟨h.symm,h'⟩))
  ·exact .inr (.inr (.inl h))
def lxc(p q:RE×RE):Int:=bif sg (p.1-q.1)==0 then sg (p.2-q.2)else sg (p.1-q.1)
theorem fp:uu agI lxc:=λp q=>by
 unfold lxc;refine⟨λh=>?_,λh=>?_,λh=>?_⟩
 ·rcases h with h|⟨h,h'⟩
  ·rw[oE (D4 _ _ h)];rfl
  ·rw[h,sub_self,fq,oE (D4 _ _ h')];rfl
 ·subst h;rw[sub_self,sub_self,fq];rfl
 ·rcases h with h|⟨h,h'⟩
  ·rw[jg (Cb _ _ h)];rfl
  ·rw[<-h,sub_self,fq,jg (Cb _ _ h')];rfl
def cls(u v:RE):Nat:=bif sg v==1 then 1 else bif sg v== -1 then 3 else bif sg u==1 then 0 else 2
theorem CQ(u v:RE):cls u v<4:=by
 unfold cls;cases sg v==1<;>cases sg v== -1<;>cases sg u==1<;>simp
theorem aeC(u v:RE):(D' (sg v>0)||(sg v==0&&D' (sg u>0)))=upA (cls u v):=by
 unfold cls;rcases c8 v with⟨_,h⟩|⟨_,h⟩|⟨_,h⟩<;>rcases c8 u with⟨_,h'⟩|⟨_,h'⟩|⟨_,h'⟩<;>rw[h,h']<;>rfl
theorem aeD{u v Q:RE}(hQ:0<Q)(h:u*u+v*v=Q):(D' (sg v>0)||(sg v==0&&D' (-sg u>0)))=ufA (cls u v):=by
 unfold cls;rcases c8 v with⟨_,h1⟩|⟨h0,h1⟩|⟨_,h1⟩<;>rcases c8 u with⟨_,h'⟩|⟨h2,h'⟩|⟨_,h'⟩<;>rw[h1,h']<;>try rfl
 rw[h0,h2,mul_zero,add_zero]at h;rw[<-h]at hQ;exact absurd hQ (lt_irrefl _)
theorem NG(u v w z Q:RE):2*((u-(0))*(w-(u)))+((w-(u))*(w-(u)))+((u*u+v*v-(Q)))+((Q-(w*w+z*z)))+((z*z-(0)))+((0-(v))*(v-(0)))=0:=by grind
theorem afX(u v w z Q:RE)(h1:u*u+v*v=Q)(h2:w*w+z*z=Q)(h3:v=0)(h4:0<u)(h5:0<=z*z):w<=u:=λhg=>far (aW (aW (aW (aW (aW (LD (by decide+kernel:(0:Rat)<2) (mul_pos (bE h4) (bE hg))) (le_of_lt (mul_pos (bE hg) (bE hg)))) (aN (sY h1))) (aN (t7 h2))) (aN h5)) (cq (aN (t7 h3)) (aN (sY h3)))) (NG u v w z Q)
theorem PR(u v w z Q:RE):2*((0-(u))*(u-(w)))+((u-(w))*(u-(w)))+((u*u+v*v-(Q)))+((Q-(w*w+z*z)))+((z*z-(0)))+((0-(v))*(v-(0)))=0:=by grind
theorem ae8(u v w z Q:RE)(h1:u*u+v*v=Q)(h2:w*w+z*z=Q)(h3:v=0)(h4:u<0)(h5:0<=z*z):u<=w:=λhg=>far (aW (aW (aW (aW (aW (LD (by decide+kernel:(0:Rat)<2) (mul_pos (bE h4) (bE hg))) (le_of_lt (mul_pos (bE hg) (bE hg)))) (aN (sY h1))) (aN (t7 h2))) (aN h5)) (cq (aN (t7 h3)) (aN (sY h3)))) (PR u v w z Q)
theorem Qb(u w z Q:RE)(h1:u*u=Q)(h2:w*w+z*z=Q)(h3:w*w=u*u):z*z<=0:=by grind
theorem Kv{z:RE}(h:z*z<=0):z=0:=by
 rcases oB z 0 with e|e|e
 ·have:=mul_pos (vL e) (vL e);rw[neg_mul,mul_neg,neg_neg]at this
  exact absurd this (λh'=>lt_irrefl _ (eI h' (by
   rcases oT (Il z)with h2|h2
   ·exact absurd h2 ((Eh _ _).1 h)
   ·rw[h2]at h';exact absurd h' (lt_irrefl _))))
 ·exact e
 ·exact absurd (mul_pos e e) ((Eh _ _).1 h)
theorem Ly{u v:RE}:cls u v=0↔v=0/\0<u:=by
 unfold cls;rcases c8 v with⟨a,h1⟩|⟨a,h1⟩|⟨a,h1⟩<;>rcases c8 u with⟨b,h'⟩|⟨b,h'⟩|⟨b,h'⟩<;>rw[h1,h']<;>simp[a,b]<;>first|exact lt_irrefl _|exact λh=>absurd (eI h b) (lt_irrefl _)|(intro h;rw[h]at a;exact absurd a (lt_irrefl _))|skip
end RE
end
section
def xP(p:Pt):Rt:=coR p.1 p.2.1 p.2.2.2.2
def yP(p:Pt):Rt:=coR p.2.2.1 p.2.2.2.1 p.2.2.2.2
def atP(v:Rat×Rat):Pt:=(v.1,0,v.2,0,0)
def rdP(p:Pt):Pt:=(p.1,p.2.1,p.2.2.1,p.2.2.2.1,bif D' (p.2.1=0)&&D' (p.2.2.2.1=0)then 0 else p.2.2.2.2)
def mkP(x y:Rt):Pt:=rdP (x.1,x.2.1,y.1,y.2.1,bif D' (x.2.1=0)then y.2.2 else x.2.2)
def zv(x y:Rt):Prop:=x.2.1=0\/y.2.1=0\/x.2.2=y.2.2
instance (x y:Rt):Decidable (zv x y):=by unfold zv;infer_instance
def aB(p q:Pt):Int:=bif bj (xP p) (xP q)==0 then bj (yP p) (yP q)else bj (xP p) (xP q)
def trP(p:Pt)(v:Rat×Rat):Pt:=(p.1+v.1,p.2.1,p.2.2.1+v.2,p.2.2.2.1,p.2.2.2.2)
def bkV(v:Rat×Rat):Rat×Rat:=(-v.1,-v.2)
def sqA(p:Pt)(v:Rat×Rat):Rat:=(p.1-v.1)*(p.1-v.1)+(p.2.2.1-v.2)*(p.2.2.1-v.2)+(p.2.1*p.2.1+p.2.2.2.1*p.2.2.2.1)*p.2.2.2.2
def sqB(p:Pt)(v:Rat×Rat):Rat:=(p.1-v.1)*p.2.1+(p.2.2.1-v.2)*p.2.2.2.1+((p.1-v.1)*p.2.1+(p.2.2.1-v.2)*p.2.2.2.1)
def sqP(p:Pt)(v:Rat×Rat):Rt:=coR (sqA p v) (sqB p v) p.2.2.2.2
def IZ(p:Pt):Prop:=(p.2.1=0/\p.2.2.2.1=0/\p.2.2.2.2=0)\/(¬(p.2.1=0/\p.2.2.2.1=0)/\0<p.2.2.2.2/\eA p.2.2.2.2=F')
instance (p:Pt):Decidable (IZ p):=by unfold IZ;infer_instance
class Rpd (p:Pt):Prop where
 rd:IZ p
def okP(k:Nat)(x:BP):Prop:=ok Pt k x/\IZ (dec x)
instance (k:Nat) (x:BP):Decidable (okP k x):=by unfold okP;infer_instance
theorem bL{k:Nat}{x:BP}(h:okP k x):∃v:Pt,x=enc v/\Bd v k/\Rpd v:=by
 obtain⟨h1,h2⟩:=h;obtain⟨v,rfl,bv⟩:=aJ h1;rw[ao]at h2;exact⟨v,rfl,bv,⟨h2⟩⟩
theorem aL{x:Pt}{j k:Nat}[h:Bd x j][r:Rpd x](hj:j<=k)(hk:k<=480000):D' (okP k (enc x))=true:=aoP ⟨aoQ (okd hj hk),by rw[ao];exact r.rd⟩
theorem Rpd.ns{p:Pt}(h:Rpd p):Ns p.2.2.2.2:=⟨by rcases h.rd with h|h;exact .inl h.2.2;exact .inr h.2⟩
instance aoC {p:Pt} [h:Rpd p]:Ns p.2.2.2.2:=h.ns
theorem Rpd.nn{p:Pt}(h:Rpd p):0<=p.2.2.2.2:=h.ns.nn
theorem SF{a b c:Rat}(h:Ns c)(hb:b=0\/c≠0):Rdd (coR a b c):=by
 refine⟨?_⟩;unfold coR;by_cases e:b=0
 ·rw[aoP e];exact .inl ⟨rfl,rfl⟩
 ·rw[aoR e];rcases h.ns with h|h
  ·rcases hb with hb|hb
   ·exact absurd hb e
   ·exact absurd h hb
  ·exact .inr ⟨e,h⟩
theorem Rpd.b0{p:Pt}(h:Rpd p):(p.2.1=0/\p.2.2.2.1=0)\/p.2.2.2.2≠0:=by
 rcases h.rd with h|h
 ·exact .inl ⟨h.1,h.2.1⟩
 ·exact .inr (by have:=h.2.1;grind)
instance an0 {p:Pt} [h:Rpd p]:Rdd (xP p):=SF h.ns (by rcases h.b0 with h|h;exact .inl h.1;exact .inr h)
instance anP {p:Pt} [h:Rpd p]:Rdd (yP p):=SF h.ns (by rcases h.b0 with h|h;exact .inl h.2;exact .inr h)
instance aov {p:Pt} {v:Rat×Rat} [h:Rpd p]:Rdd (sqP p v):=SF h.ns (by
 rcases h.b0 with h|h
 ·refine .inl ?_;unfold sqB;rw[h.1,h.2];grind
 ·exact .inr h)
instance aoG {v:Rat×Rat}:Rpd (atP v):=⟨.inl ⟨rfl,rfl,rfl⟩⟩
instance aoD {p:Pt} {v:Rat×Rat} [h:Rpd p]:Rpd (trP p v):=⟨h.rd⟩
theorem Zi{x y:Rt}(hx:Rdd x)(hy:Rdd y)(_h:zv x y):Rpd (mkP x y):=by
 refine⟨?_⟩;unfold mkP rdP IZ;dsimp only;rcases hx.rd with⟨a1,a2⟩|⟨a1,a2,a3⟩<;>rcases hy.rd with⟨b1,b2⟩|⟨b1,b2,b3⟩
 ·simp[a1,b1]
 ·simp[a1,b1,b2,b3]
 ·simp[a1,b1,a2,a3]
 ·simp[a1,b1,a2,a3]
section
variable {p:Pt} {j:Nat}
instance aoB [h:Bd p j]:Bd (xP p) (mx j (mx j j)):=inferInstanceAs (Bd (coR p.1 p.2.1 p.2.2.2.2) _)
instance aoA [h:Bd p j]:Bd (yP p) (mx j (mx j j)):=inferInstanceAs (Bd (coR p.2.2.1 p.2.2.2.1 p.2.2.2.2) _)
instance an1 {v:Rat×Rat} [h:Bd v j]:Bd (atP v) (mx j (mx 1 (mx j (mx 1 1)))):=inferInstanceAs (Bd ((v.1,0,v.2,0,0):Pt) _)
instance aor {v:Rat×Rat} {k:Nat} [h:Bd p j] [h':Bd v k]:Bd (trP p v) (mx (j+k+1) (mx j (mx (j+k+1) (mx j j)))):=inferInstanceAs (Bd ((p.1+v.1,p.2.1,p.2.2.1+v.2,p.2.2.2.1,p.2.2.2.2):Pt) _)
instance aoF {v:Rat×Rat} [h:Bd v j]:Bd (bkV v) (mx j j):=inferInstanceAs (Bd ((-v.1,-v.2):Rat×Rat) _)
end
instance anB {p:Pt} {j:Nat} [h:Bd p j]:Bd (rdP p) (mx j (mx j (mx j (mx j (mx 1 j))))):=inferInstanceAs (Bd ((p.1,p.2.1,p.2.2.1,p.2.2.2.1,bif D' (p.2.1=0)&&D' (p.2.2.2.1=0)then 0 else p.2.2.2.2):Pt) _)
instance ael {x y:Rt} {j k:Nat} [h:Bd x j] [h':Bd y k]:Bd (mkP x y) (mx (mx j (mx j (mx k (mx k (mx k j))))) (mx (mx j (mx j (mx k (mx k (mx k j))))) (mx (mx j (mx j (mx k (mx k (mx k j))))) (mx (mx j (mx j (mx k (mx k (mx k j))))) (mx 1 (mx j (mx j (mx k (mx k (mx k j)))))))))):=inferInstanceAs (Bd (rdP (x.1,x.2.1,y.1,y.2.1,bif D' (x.2.1=0)then y.2.2 else x.2.2)) _)
theorem jh{j k n:Nat}(h1:j<=n)(h2:k<=n):mx j k<=n:=by
 unfold mx;cases D' (j<=k)
 ·exact h1
 ·exact h2
section
variable {p:Pt} {v:Rat×Rat} {j k:Nat}
instance anE [h:Bd p j] [h':Bd v k]:Bd (sqA p v) (10*(j+k+1)):=by
 have a1:Bd (p.1-v.1) _:=inferInstance;have a2:Bd (p.2.2.1-v.2) _:=inferInstance;have a3:Bd (p.2.1*p.2.1+p.2.2.2.1*p.2.2.2.1) _:=inferInstance;have i:Bd ((p.1-v.1)*(p.1-v.1)+(p.2.2.1-v.2)*(p.2.2.1-v.2)+(p.2.1*p.2.1+p.2.2.2.1*p.2.2.2.1)*p.2.2.2.2) _:=inferInstance;exact i.mono (by omega)
instance anL [h:Bd p j] [h':Bd v k]:Bd (sqB p v) (10*(j+k+1)):=by
 have a1:Bd (p.1-v.1) _:=inferInstance;have a2:Bd (p.2.2.1-v.2) _:=inferInstance;have i:Bd ((p.1-v.1)*p.2.1+(p.2.2.1-v.2)*p.2.2.2.1+((p.1-v.1)*p.2.1+(p.2.2.1-v.2)*p.2.2.2.1)) _:=inferInstance;exact i.mono (by omega)
instance aoq [h:Bd p j] [h':Bd v k]:Bd (sqP p v) (10*(j+k+1)):=by
 have i:Bd (coR (sqA p v) (sqB p v) p.2.2.2.2) _:=inferInstance;exact i.mono (jh (by omega) (jh (by omega) (by omega)))
end
namespace RE
def pX(p:Pt):RE:=v2 p.1 p.2.1 p.2.2.2.2
def pY(p:Pt):RE:=v2 p.2.2.1 p.2.2.2.1 p.2.2.2.2
def pR(p:Pt):RE×RE:=(pX p,pY p)
theorem qK(p:Pt):vR (xP p)=pX p:=vR_co _ _ _
theorem E5(p:Pt):vR (yP p)=pY p:=vR_co _ _ _
theorem lQ{p:Pt}[h:Rpd p]:0<=(xP p).2.2:=(an0 (p:=p)).nn
theorem wg{p:Pt}[h:Rpd p]:0<=(yP p).2.2:=(anP (p:=p)).nn
theorem gQ{p q:Pt}[Rpd p][Rpd q]:aB p q=lxc (pR p) (pR q):=by
 unfold aB lxc;rw[cmpT_re lQ lQ,cmpT_re wg wg,qK,qK,E5,E5];rfl
theorem ac4(x y s t c u w:RE):(x+s*c-u)*(x+s*c-u)+(y+t*c-w)*(y+t*c-w)=(x-u)*(x-u)+(y-w)*(y-w)+(s*s+t*t)*(c*c)+((x-u)*s+(y-w)*t+((x-u)*s+(y-w)*t))*c:=by grind
theorem adW{p:Pt}{v:Rat×Rat}[h:Rpd p]:vR (sqP p v)=(pX p-of v.1)*(pX p-of v.1)+(pY p-of v.2)*(pY p-of v.2):=by
 unfold sqP pX pY;rw[vR_co];unfold v2;rw[ac4,qV h.nn];unfold sqA sqB;simp only[of_add,of_sub,bR]
theorem ajH(v:Rat×Rat):pX (atP v)=of v.1:=eg _ _
theorem ajr(v:Rat×Rat):pY (atP v)=of v.2:=eg _ _
end RE
end
theorem wk(a b:Rat):(aD a b !=0)=!D' (a=b):=by
 unfold bne;rw[am]
def ab6:List En:=[⟨194,iM,fd⟩,⟨123,iQ,fi⟩,⟨122,kM,fY⟩,⟨165,lZ,ik⟩,⟨94,fo,dG⟩,⟨46,jN,fx⟩,enT qZ]
def Z7(_k:KT):OLR:=og (D' (bI (0:Int))) (S' [RV.d tR (hid (av ((0:Int):Rat)))])
def aiv:Cn 152 []:=cn<|lf True [.d tR (av 0)] λ_=>by
 refine aA ab6 (Z7) ⟨0,?_⟩;unfold Z7;rw[dT (show bI 0 by decide)];simp only[aQ];rfl
def KF:List En:=enL aiv::ab6
def acd(v:BV)(_k:KT):OLR:=S' [RV.d tP (v.1,(hid (av 0),(v.2,(hid (av 0),hid (av 0)))))]
def A6:Cn 79 [tV]:=cn λ(v:BV)=>lf (ok (Rat×Rat) 100000 v) [.d tP (enc (atP (dec v)))] λh=>by
 refine aA KF (acd v) ⟨0,?_⟩;have hv:=h;obtain⟨v,rfl,bv⟩:=aJ hv;unfold acd;simp only[aV];try rfl
def Zw(p:BP)(_k:KT):OLR:=og (o1 p.2.1) (match(aD (ag p.2.1) 0)==0 with|T'=>(og (o1 p.2.2.2.1) (match(aD (ag p.2.2.2.1) 0)==0 with|T'=>S' [RV.d tP (p.1,(p.2.1,(p.2.2.1,(p.2.2.2.1,hid (av 0)))))]|F'=>S' [RV.d tP p]))|F'=>S' [RV.d tP p])
def aiV:Cn 320 [tP]:=cn λ(p:BP)=>lf (ok Pt 21000 p) [.d tP (enc (rdP (dec p)))] λh=>by
 refine aA KF (Zw p) ⟨0,?_⟩;have hp:=h;obtain⟨p,rfl,bp⟩:=aJ hp;unfold Zw;simp only[aV,Nat.reduceLeDiff,am];unfold rdP;by_cases h1:p.2.1=0
 ·by_cases h2:p.2.2.2.1=0
  ·rw[aoP h1,aoP h2];rfl
  ·rw[aoP h1,aoR h2];rfl
 ·rw[aoR h1];rfl
def ab5(a b c:BR)(_k:KT):OLR:=og (o1 b) (match(aD (ag b) 0)==0 with|T'=>S' [RV.d tO (a,(b,hid (av 0)))]|F'=>S' [RV.d tO (a,(b,c))])
def ank:Cn 88 [tR,tR,tR]:=cn λ(a b c:BR)=>lf (okR a/\okR b/\okR c) [.d tO (enc (coR (ag a) (ag b) (ag c)))] λh=>by
 refine aA KF (ab5 a b c) ⟨0,?_⟩;obtain⟨ha,hb,hc⟩:=h;obtain⟨a,rfl,ba⟩:=eN ha;obtain⟨b,rfl,bb⟩:=eN hb;obtain⟨c,rfl,bc⟩:=eN hc;unfold ab5;simp only[aV,Nat.reduceLeDiff,am];unfold coR;by_cases e:b=0
 ·subst e;rw[aoP rfl];rfl
 ·rw[aoR e];rfl
def Kw:List En:=enL A6::enL aiV::enL ank::KF
def Z4(x y:BO3)(_k:KT):OLR:=og (o1 x.2.1) (match(aD (ag x.2.1) 0)==0 with|T'=>(og (D' (ok Pt 21000 (x.1,(x.2.1,y)))) (S' [RV.d tP (hid (enc (rdP (dec (x.1,(x.2.1,y)))))),RV.d ask 0]))|F'=>(og (o1 y.2.1) (match(aD (ag y.2.1) 0) !=0 with|T'=>(og (o2 x.2.2 y.2.2) (match(aD (ag x.2.2) (ag y.2.2)) !=0 with|T'=>S' [RV.d tP (((F',[]),(F',[])),(((F',[]),(F',[])),(((F',[]),(F',[])),(((F',[]),(F',[])),((F',[]),(F',[])))))),RV.d ask 1]|F'=>(og (D' (ok Pt 21000 (x.1,(x.2.1,(y.1,(y.2.1,x.2.2)))))) (S' [RV.d tP (hid (enc (rdP (dec (x.1,(x.2.1,(y.1,(y.2.1,x.2.2)))))))),RV.d ask 0]))))|F'=>(og (D' (ok Pt 21000 (x.1,(x.2.1,(y.1,(y.2.1,x.2.2)))))) (S' [RV.d tP (hid (enc (rdP (dec (x.1,(x.2.1,(y.1,(y.2.1,x.2.2)))))))),RV.d ask 0])))))
def ahF:Cn 272 [tO,tO]:=cn λ(x y:BO3)=>lf (okT 15000 x/\okT 15000 y/\zv (dec x) (dec y)) [.d tP (enc (mkP (dec x) (dec y))),.d ask 0] λh=>by
 refine aA Kw (Z4 x y) ⟨0,?_⟩;obtain⟨hx,hy,hy_2⟩:=h;obtain⟨x,rfl,bx,rx⟩:=gn hx;obtain⟨y,rfl,b_y,ry⟩:=gn hy;have i1:D' (ok Pt 21000 (enc ((x.1,x.2.1,y):Pt)))=true:=okd (by decide) (by decide);have i2:D' (ok Pt 21000 (enc ((x.1,x.2.1,y.1,y.2.1,x.2.2):Pt)))=true:=okd (by decide) (by decide);have j1:(dec ((av x.1,av x.2.1,enc y):BP):Pt)=(x.1,x.2.1,y):=ao ((x.1,x.2.1,y):Pt);have j2:(dec ((av x.1,av x.2.1,av y.1,av y.2.1,av x.2.2):BP):Pt)=(x.1,x.2.1,y.1,y.2.1,x.2.2):=ao ((x.1,x.2.1,y.1,y.2.1,x.2.2):Pt);have i1:D' (ok Pt 21000 ((av x.1,av x.2.1,enc y):BP))=true:=i1;have i2:D' (ok Pt 21000 ((av x.1,av x.2.1,av y.1,av y.2.1,av x.2.2):BP))=true:=i2;have hm:=hy_2;rw[ao,ao]at hm;unfold Z4;simp only[aV,Nat.reduceLeDiff,am,wk,i1,i2,j1,j2];unfold mkP;by_cases e1:x.2.1=0
 ·rw[aoP e1];rfl
 ·rw[aoR e1];by_cases e2:y.2.1=0
  ·rw[aoP e2];rfl
  ·rw[aoR e2,aoP ((hm.resolve_left e1).resolve_left e2)];rfl
def amC(p:BP)(_k:KT):OLR:=og (D' (okR p.1/\okR p.2.1/\okR p.2.2.2.2)) (S' [RV.d tO (hid (enc (coR (ag p.1) (ag p.2.1) (ag p.2.2.2.2))))])
def wi:Cn 38 [tP]:=cn λ(p:BP)=>lf (okP 4000 p) [.d tO (enc (xP (dec p)))] λh=>by
 refine aA Kw (amC p) ⟨0,?_⟩;have hp:=h;obtain⟨p,rfl,bp,rp⟩:=bL hp;unfold amC;simp only[aV,Nat.reduceLeDiff];try rfl
def ajM(p:BP)(_k:KT):OLR:=og (D' (okR p.2.2.1/\okR p.2.2.2.1/\okR p.2.2.2.2)) (S' [RV.d tO (hid (enc (coR (ag p.2.2.1) (ag p.2.2.2.1) (ag p.2.2.2.2))))])
def De:Cn 92 [tP]:=cn λ(p:BP)=>lf (okP 4000 p) [.d tO (enc (yP (dec p)))] λh=>by
 refine aA Kw (ajM p) ⟨0,?_⟩;have hp:=h;obtain⟨p,rfl,bp,rp⟩:=bL hp;unfold ajM;simp only[aV,Nat.reduceLeDiff];try rfl
def ahR:List En:=enL wi::enL De::Kw
def abI(p q:BP)(_k:KT):OLR:=og (D' (okP 4000 p)) (og (D' (okP 4000 q)) (og (D' (okT 15000 (hid (enc (xP (dec p))))/\okT 15000 (hid (enc (xP (dec q)))))) (match(bj (dec (hid (enc (xP (dec p))))) (dec (hid (enc (xP (dec q)))))) !=0 with|T'=>S' [RV.d ask (bj (dec (hid (enc (xP (dec p))))) (dec (hid (enc (xP (dec q))))))]|F'=>(og (D' (okP 4000 p)) (og (D' (okP 4000 q)) (og (D' (okT 15000 (hid (enc (yP (dec p))))/\okT 15000 (hid (enc (yP (dec q)))))) (S' [RV.d ask (bj (dec (hid (enc (yP (dec p))))) (dec (hid (enc (yP (dec q))))))])))))))
def oF:Cn 207 [tP,tP]:=cn λ(p q:BP)=>lf (okP 4000 p/\okP 4000 q) [.d ask (aB (dec p) (dec q))] λh=>by
 refine aA ahR (abI p q) ⟨0,?_⟩;obtain⟨hp,hq⟩:=h;obtain⟨p,rfl,bp,rp⟩:=bL hp;obtain⟨q,rfl,bq,rq⟩:=bL hq;unfold abI;simp only[aV,Nat.reduceLeDiff,aI,aL];unfold aB bne;cases bj (xP p) (xP q)==0<;>rfl
section
def M4(l:Ln)(p:Pt):Rat:=l.1*p.1+l.2.1*p.2.2.1-l.2.2
def LQ(l:Ln)(p:Pt):Rat:=l.1*p.2.1+l.2.1*p.2.2.2.1
def oM(l:Ln)(p:Pt):Int:=gb (M4 l p) (LQ l p) p.2.2.2.2
def ctr(c:Ln):Rat×Rat:=(c.1,c.2.1)
def iq(c:Ln)(p:Pt):Int:= -gb (sqA p (ctr c)-c.2.2) (sqB p (ctr c)) p.2.2.2.2
def ahv(l:Ln)(v:Rat×Rat):Rat:=(l.1*v.1+l.2.1*v.2-l.2.2)/(l.1*l.1+l.2.1*l.2.1)
def Vb(l:Ln)(v:Rat×Rat):Rat×Rat:=(v.1-ahv l v*l.1,v.2-ahv l v*l.2.1)
section
variable {l:Ln} {p:Pt} {v:Rat×Rat} {i j k:Nat}
instance aoj [h:Bd l i]:Bd (ctr l) (mx i i):=inferInstanceAs (Bd ((l.1,l.2.1):Rat×Rat) _)
instance anz [h:Bd l i] [h':Bd p j]:Bd (M4 l p) ((i+j)+(i+j)+1+i+1):=inferInstanceAs (Bd (l.1*p.1+l.2.1*p.2.2.1-l.2.2) _)
instance anr [h:Bd l i] [h':Bd p j]:Bd (LQ l p) ((i+j)+(i+j)+1):=inferInstanceAs (Bd (l.1*p.2.1+l.2.1*p.2.2.2.1) _)
end
theorem Lb{a b:Rat}(h:a≠0\/b≠0):a*a+b*b≠0:=by
 have ha:0<=a*a:=by
  rcases(by grind:0<=a\/0<= -a)with h|h
  ·exact apH h h
  ·have:=apH h h;grind
 have hb:0<=b*b:=by
  rcases(by grind:0<=b\/0<= -b)with h|h
  ·exact apH h h
  ·have:=apH h h;grind
 intro e;have e1:a*a=0:=by grind
 have e2:b*b=0:=by grind
 rcases h with h|h
 ·exact h (by rcases ar2.1 e1 with h|h<;>exact h)
 ·exact h (by rcases ar2.1 e2 with h|h<;>exact h)
namespace RE
theorem aeL(a b x s y t c r:RE):a*(x+s*r)+b*(y+t*r)+ -c=a*x+b*y-c+(a*s+b*t)*r:=by grind
theorem amZ(a b q r:RE):a+b*r+ -q=a-q+b*r:=by grind
theorem Ri(a b:RE):a+ -b=a-b:=rfl
theorem uc(l:Ln){p:Pt}[h:Rpd p]:oM l p=sg (of l.1*pX p+of l.2.1*pY p+ -of l.2.2):=by
 unfold oM pX pY;rw[sgn2_re h.nn];unfold v2;rw[aeL];unfold M4 LQ;simp only[of_add,of_sub,bR]
theorem tF(c:Ln){p:Pt}[h:Rpd p]:iq c p= -sg ((pX p-of c.1)*(pX p-of c.1)+(pY p-of c.2.1)*(pY p-of c.2.1)+ -of c.2.2):=by
 unfold iq;have e:=adW (p:=p) (v:=ctr c);unfold sqP at e;rw[vR_co]at e;rw[sgn2_re h.nn];unfold v2 at e ⊢;rw[of_sub,<-amZ,e];rfl
theorem sidL_ok(l:Ln){p:Pt}[Rpd p](h:(zm l p).2=T'):(zm l p).1=oM l p:=by
 rw[X8 h,uc];try rfl
theorem insC_ok(c:Ln){p:Pt}[Rpd p](h:(vf c p).2=T'): -(vf c p).1=iq c p:=by
 rw[Vz h,tF];simp only[Ri];try rfl
end RE
end
def vT:cE:=spN F' T' [tR,tR] (λx=>D' (jK x.1 x.2.1)) (λx=>[RV.d tR (hDi x.1 x.2.1),RV.d ask 0])
theorem pV:SpK 164 vT:=spX λx h=>by simp only[aQ];exact Kp x.1 x.2.1 (aoQ h)
def Br:List En:=[⟨194,iM,fd⟩,⟨123,iQ,fi⟩,⟨122,kM,fY⟩,⟨165,lZ,ik⟩,⟨196,l6,hU⟩,⟨94,fo,dG⟩,⟨46,jN,fx⟩,⟨164,vT,pV⟩,enT Gu,enL Sk,enL Rn,enL Ua,enL ym,enL v5,enL Rk,enL abZ]
def acK(l:BO3)(p:BP)(_k:KT):OLR:=let y1:=a9 (dec (p.1,(p.2.1,p.2.2.2.2)));let y2:=hid ((a9 (dec p.2.2)).1);let y3:=jE (ag l.1) (hid (y1.1)) (y1.2);let y4:=jE (ag l.2.1) y2 ((a9 (dec p.2.2)).2);let y5:=dH (hid (y3.1)) (hid (y4.1));let y6:=hid ((frF (ag l.2.2)).1);let y7:=dH (hid (y5.1)) (hid (nf y6));og (D' (ok Rt 100000 (p.1,(p.2.1,p.2.2.2.2)))) (og (D' (ok Rat 100000 l.1/\prI (hid (y1.1)))) (og (D' (ok Rt 100000 p.2.2)) (og (D' (ok Rat 100000 l.2.1/\prI y2)) (og (D' (ok Rat 200000 l.2.2)) (match !(y3.2)with|T'=>S' [RV.d ask 0,RV.d .bool F']|F'=>(match !(y4.2)with|T'=>S' [RV.d ask 0,RV.d .bool F']|F'=>(match !((frF (ag l.2.2)).2)with|T'=>S' [RV.d ask 0,RV.d .bool F']|F'=>(og (D' (prI (hid (y3.1))/\prI (hid (y4.1)))) (match !(y5.2)with|T'=>S' [RV.d ask 0,RV.d .bool F']|F'=>(og (D' (prI y6)) (og (D' (prI (hid (y5.1))/\prI (hid (nf y6)))) (match !(y7.2)with|T'=>S' [RV.d ask 0,RV.d .bool F']|F'=>S' [RV.d ask ((sgF (hid (y7.1))).1),RV.d .bool ((sgF (hid (y7.1))).2)]))))))))))))
def ahs:Cn 173 [tO,tP]:=cn λ(l:BO3) (p:BP)=>lf (ok Ln 300 l/\ok Pt 4000 p) [.d ask ((zm (dec l) (dec p)).1),.d .bool ((zm (dec l) (dec p)).2)] λh=>by
 refine aA Br (acK l p) ⟨0,?_⟩;obtain⟨hl,hp⟩:=h;obtain⟨l,rfl,bl⟩:=aJ hl;obtain⟨p,rfl,bp⟩:=aJ hp;have dx:(dec ((av p.1,av p.2.1,av p.2.2.2.2):BO3):Rt)=pxR p:=ao (pxR p);have dy:(dec ((av p.2.2.1,av p.2.2.2.1,av p.2.2.2.2):BO3):Rt)=pyR p:=ao (pyR p);have dy':(dec (enc p.2.2:BO3):Rt)=pyR p:=ao (pyR p);have px:Bd (pxR p) 4000:=(inferInstance:Bd ((p.1,p.2.1,p.2.2.2.2):Rt) _).mono (by decide);have py:Bd (pyR p) 4000:=(inferInstance:Bd ((p.2.2.1,p.2.2.2.1,p.2.2.2.2):Rt) _).mono (by decide);have ox:D' (ok Rt 100000 ((av p.1,av p.2.1,av p.2.2.2.2):BO3))=true:=okd (x:=pxR p) (by decide) (by decide);have oy:D' (ok Rt 100000 (enc p.2.2:BO3))=true:=okd (x:=pyR p) (by decide) (by decide);have pr:∀r,prI (a9 r).1:=ye;have pt:∀n a k,prI (jE n a k).1:=X2;have pf:∀q,prI (frF q).1:=RE.frF_pr;unfold acK;simp only[aV,Nat.reduceLeDiff,dx,dy',ox,oy,dT (pr _),dT (pt _ _ _),dT (pf _),dT (RE.addF_pr (pt _ _ _) (pt _ _ _)),dT (RE.negF_pr (pf _))];unfold zm;generalize a9 (pxR p)=X;generalize a9 (pyR p)=Y;generalize jE l.1 X.1 X.2=U;generalize jE l.2.1 Y.1 Y.2=V;generalize frF l.2.2=W;generalize dH U.1 V.1=S;generalize dH S.1 (nf W.1)=D;generalize sgF D.1=Z;obtain⟨_,u⟩:=U;obtain⟨_,v⟩:=V;obtain⟨_,w⟩:=W;obtain⟨_,s⟩:=S;obtain⟨_,d⟩:=D;cases u<;>cases v<;>cases w<;>try rfl
 cases s<;>cases d<;>rfl
def Qn:Cn 176 [tR,tR]:=cn λ(a b:BR)=>lf (okR a/\okR b) [.d tR (av (ag a+ag b))] λh=>qN [RV.d tR (hAd a b)] (eL Br) h
def NQ:Cn 175 [tR,tR]:=cn λ(a b:BR)=>lf (okR a/\okR b) [.d tR (av (ag a-ag b))] λh=>qN [RV.d tR (hSu a b)] (eL Br) h
def Vk:Cn 177 [tR,tR]:=cn λ(a b:BR)=>lf (okR a/\okR b) [.d tR (av (ag a*ag b))] λh=>qN [RV.d tR (hMu a b)] (eL Br) h
def Y9(a b:BR)(_k:KT):OLR:=og (D' (jK a b)) (match 0 !=0 with|T'=>(og (D' (bI (0:Int))) (S' [RV.d tR (hid (av ((0:Int):Rat)))]))|F'=>S' [RV.d tR (hDi a b)])
def aaO:Cn 382 [tR,tR]:=cn λ(a b:BR)=>lf (jK a b) [.d tR (av (ag a/ag b))] λh=>by
 refine aA Br (Y9 a b) ⟨0,?_⟩;unfold Y9;rw[dT h];simp only[aQ];rfl
def O4:List En:=enT ahs::enL Qn::enL NQ::enL Vk::enL aaO::Br
def ZI(a b c:BR)(_k:KT):OLR:=og (o1 a) (og (o1 b) (og (o1 c) (match(i64.wrap ((aD (ag b) 0)*(aD (ag c) 0)))==0 with|T'=>S' [RV.d ask (aD (ag a) 0)]|F'=>(match(aD (ag a) 0)==(i64.wrap ((aD (ag b) 0)*(aD (ag c) 0)))with|T'=>S' [RV.d ask (aD (ag a) 0)]|F'=>(match(aD (ag a) 0)==0 with|T'=>S' [RV.d ask (i64.wrap ((aD (ag b) 0)*(aD (ag c) 0)))]|F'=>(og (o2 a a) (og (o2 b b) (og (o2 (hMu b b) c) (og (o2 (hMu a a) (hMu (hMu b b) c)) (S' [RV.d ask (i64.wrap ((aD (ag a) 0)*(aD (ag (hMu a a)) (ag (hMu (hMu b b) c)))))]))))))))))
def aid:Cn 174 [tR,tR,tR]:=cn λ(a b c:BR)=>lf (ok Rat 240000 a/\ok Rat 170000 b/\ok Rat 30000 c) [.d ask (gb (ag a) (ag b) (ag c))] λh=>by
 refine aA O4 (ZI a b c) ⟨0,?_⟩;obtain⟨ha,hb,hc⟩:=h;obtain⟨a,rfl,ba⟩:=aJ ha;obtain⟨b,rfl,bb⟩:=aJ hb;obtain⟨c,rfl,bc⟩:=aJ hc;unfold ZI;simp only[aV,Nat.reduceAdd,Nat.reduceLeDiff,qd];exact Dn _ _ _
def Zb(a b c f:BR)(_k:KT):OLR:=og (D' (ok Rt 100000 (a,(b,c)))) (og (D' (ok Rat 200000 f)) (match !((a9 (dec (a,(b,c)))).2)with|T'=>S' [RV.d tG (0,0),RV.d .bool F']|F'=>(match !((frF (ag f)).2)with|T'=>S' [RV.d tG (0,0),RV.d .bool F']|F'=>(og (D' (prI (hid ((frF (ag f)).1)))) (og (D' (prI (hid ((a9 (dec (a,(b,c)))).1))/\prI (hid (nf (hid ((frF (ag f)).1)))))) (S' [RV.d tG (hid ((dH (hid ((a9 (dec (a,(b,c)))).1)) (hid (nf (hid ((frF (ag f)).1))))).1)),RV.d .bool ((dH (hid ((a9 (dec (a,(b,c)))).1)) (hid (nf (hid ((frF (ag f)).1))))).2)]))))))
def amQ:Cn 255 [tR,tR,tR,tR]:=cn λ(a b c f:BR)=>lf (ok Rat 100000 a/\ok Rat 100000 b/\ok Rat 100000 c/\ok Rat 100000 f) [.d tG ((eZ (ag a,ag b,ag c) (ag f)).1),.d .bool ((eZ (ag a,ag b,ag c) (ag f)).2)] λh=>by
 refine aA O4 (Zb a b c f) ⟨0,?_⟩;obtain⟨ha,hb,hc,hf⟩:=h;obtain⟨a,rfl,ba⟩:=aJ ha;obtain⟨b,rfl,bb⟩:=aJ hb;obtain⟨c,rfl,bc⟩:=aJ hc;obtain⟨f,rfl,bf⟩:=aJ hf;have dr:(dec ((av a,av b,av c):BO3):Rt)=(a,b,c):=ao ((a,b,c):Rt);have orr:D' (ok Rt 100000 ((av a,av b,av c):BO3))=true:=okd (x:=((a,b,c):Rt)) (by decide) (by decide);unfold Zb;simp only[aV,Nat.reduceLeDiff,dr,orr,dT (RE.frF_pr _),dT (RE.negF_pr (RE.frF_pr _)),dT (ye _)];unfold eZ;generalize a9 (a,b,c)=X;generalize frF f=Y;obtain⟨_,x⟩:=X;obtain⟨_,y⟩:=Y;cases x<;>cases y<;>rfl
def SE:List En:=enT aid::enL amQ::O4
def Za(c:BO3)(p:BP)(_k:KT):OLR:=let y1:=eZ (ag p.1,ag p.2.1,ag p.2.2.2.2) (ag c.1);let y2:=eZ (ag p.2.2.1,ag p.2.2.2.1,ag p.2.2.2.2) (ag c.2.1);let y3:=cC (hid (y1.1)) (hid (y1.1));let y4:=cC (hid (y2.1)) (hid (y2.1));let y5:=dH (hid (y3.1)) (hid (y4.1));let y6:=hid ((frF (ag c.2.2)).1);let y7:=dH (hid (y5.1)) (hid (nf y6));og (D' (ok Rat 100000 p.1/\ok Rat 100000 p.2.1/\ok Rat 100000 p.2.2.2.2/\ok Rat 100000 c.1)) (og (D' (ok Rat 100000 p.2.2.1/\ok Rat 100000 p.2.2.2.1/\ok Rat 100000 p.2.2.2.2/\ok Rat 100000 c.2.1)) (og (D' (ok Rat 200000 c.2.2)) (match !(y1.2)with|T'=>S' [RV.d ask 0,RV.d .bool F']|F'=>(match !(y2.2)with|T'=>S' [RV.d ask 0,RV.d .bool F']|F'=>(match !((frF (ag c.2.2)).2)with|T'=>S' [RV.d ask 0,RV.d .bool F']|F'=>(og (D' (prI (hid (y1.1))/\prI (hid (y1.1)))) (og (D' (prI (hid (y2.1))/\prI (hid (y2.1)))) (match !(y3.2)with|T'=>S' [RV.d ask 0,RV.d .bool F']|F'=>(match !(y4.2)with|T'=>S' [RV.d ask 0,RV.d .bool F']|F'=>(og (D' (prI (hid (y3.1))/\prI (hid (y4.1)))) (match !(y5.2)with|T'=>S' [RV.d ask 0,RV.d .bool F']|F'=>(og (D' (prI y6)) (og (D' (prI (hid (y5.1))/\prI (hid (nf y6)))) (match !(y7.2)with|T'=>S' [RV.d ask 0,RV.d .bool F']|F'=>S' [RV.d ask ((sgF (hid (y7.1))).1),RV.d .bool ((sgF (hid (y7.1))).2)]))))))))))))))
def akU:Cn 180 [tO,tP]:=cn λ(c:BO3) (p:BP)=>lf (ok Ln 300 c/\ok Pt 4000 p) [.d ask ((vf (dec c) (dec p)).1),.d .bool ((vf (dec c) (dec p)).2)] λh=>by
 refine aA SE (Za c p) ⟨0,?_⟩;obtain⟨hc,hp⟩:=h;obtain⟨c,rfl,bc⟩:=aJ hc;obtain⟨p,rfl,bp⟩:=aJ hp;have pd:∀r q,prI (eZ r q).1:=X3;have pf:∀q,prI (frF q).1:=RE.frF_pr;have pm:∀a b,prI (cC a b).1:=tC;have dx:eZ (p.1,p.2.1,p.2.2.2.2) c.1=eZ (pxR p) c.1:=rfl;have dy:eZ (p.2.2.1,p.2.2.2.1,p.2.2.2.2) c.2.1=eZ (pyR p) c.2.1:=rfl;unfold Za;simp only[aV,Nat.reduceLeDiff,dx,dy,dT (pd _ _),dT (pm _ _),dT (pf _),dT (RE.negF_pr (pf _)),dT (RE.addF_pr (pm _ _) (pm _ _))];unfold vf;generalize eZ (pxR p) c.1=X;generalize eZ (pyR p) c.2.1=Y;generalize frF c.2.2=W;generalize cC X.1 X.1=U;generalize cC Y.1 Y.1=V;generalize dH U.1 V.1=S;generalize dH S.1 (nf W.1)=D;generalize sgF D.1=Z;obtain⟨_,x⟩:=X;obtain⟨_,y⟩:=Y;obtain⟨_,w⟩:=W;obtain⟨_,u⟩:=U;obtain⟨_,v⟩:=V;obtain⟨_,s⟩:=S;obtain⟨_,d⟩:=D;cases x<;>cases y<;>cases w<;>try rfl
 cases u<;>cases v<;>try rfl
 cases s<;>cases d<;>rfl
def acv(l:BO3)(p:BP)(_k:KT):OLR:=og (D' (ok Ln 300 l/\ok Pt 4000 p)) (match(zm (dec l) (dec p)).2 with|T'=>S' [RV.d ask ((zm (dec l) (dec p)).1)]|F'=>(og (o2 l.1 p.1) (og (o2 l.2.1 p.2.2.1) (og (o2 (hMu l.1 p.1) (hMu l.2.1 p.2.2.1)) (og (o2 (hAd (hMu l.1 p.1) (hMu l.2.1 p.2.2.1)) l.2.2) (og (o2 l.1 p.2.1) (og (o2 l.2.1 p.2.2.2.1) (og (o2 (hMu l.1 p.2.1) (hMu l.2.1 p.2.2.2.1)) (og (D' (ok Rat 240000 (hSu (hAd (hMu l.1 p.1) (hMu l.2.1 p.2.2.1)) l.2.2)/\ok Rat 170000 (hAd (hMu l.1 p.2.1) (hMu l.2.1 p.2.2.2.1))/\ok Rat 30000 p.2.2.2.2)) (S' [RV.d ask (gb (ag (hSu (hAd (hMu l.1 p.1) (hMu l.2.1 p.2.2.1)) l.2.2)) (ag (hAd (hMu l.1 p.2.1) (hMu l.2.1 p.2.2.2.1))) (ag p.2.2.2.2))]))))))))))
def E6:Cn 93 [tO,tP]:=cn λ(l:BO3) (p:BP)=>lf (ok Ln 300 l/\okP 4000 p) [.d ask (oM (dec l) (dec p))] λh=>by
 refine aA SE (acv l p) ⟨0,?_⟩;obtain⟨hl,hp⟩:=h;obtain⟨l,rfl,bl⟩:=aJ hl;obtain⟨p,rfl,bp,rp⟩:=bL hp;unfold acv;simp only[aV,Nat.reduceAdd,Nat.reduceLeDiff];cases hq:(zm l p).2
 ·rfl
 ·rw[RE.sidL_ok l hq]
def aab:List En:=enT akU::SE
def abj(c:BO3)(p:BP)(_k:KT):OLR:=og (D' (ok Ln 300 c/\ok Pt 4000 p)) (match(vf (dec c) (dec p)).2 with|T'=>S' [RV.d ask (i64.wrap (0-((vf (dec c) (dec p)).1)))]|F'=>(og (o2 p.1 c.1) (og (o2 p.2.2.1 c.2.1) (og (o2 (hSu p.1 c.1) (hSu p.1 c.1)) (og (o2 (hSu p.2.2.1 c.2.1) (hSu p.2.2.1 c.2.1)) (og (o2 (hMu (hSu p.1 c.1) (hSu p.1 c.1)) (hMu (hSu p.2.2.1 c.2.1) (hSu p.2.2.1 c.2.1))) (og (o2 p.2.1 p.2.1) (og (o2 p.2.2.2.1 p.2.2.2.1) (og (o2 (hMu p.2.1 p.2.1) (hMu p.2.2.2.1 p.2.2.2.1)) (og (o2 p.2.2.2.2 (hAd (hMu p.2.1 p.2.1) (hMu p.2.2.2.1 p.2.2.2.1))) (og (o2 (hAd (hMu (hSu p.1 c.1) (hSu p.1 c.1)) (hMu (hSu p.2.2.1 c.2.1) (hSu p.2.2.1 c.2.1))) (hMu p.2.2.2.2 (hAd (hMu p.2.1 p.2.1) (hMu p.2.2.2.1 p.2.2.2.1)))) (og (o2 (hSu p.1 c.1) p.2.1) (og (o2 (hSu p.2.2.1 c.2.1) p.2.2.2.1) (og (o2 (hMu (hSu p.1 c.1) p.2.1) (hMu (hSu p.2.2.1 c.2.1) p.2.2.2.1)) (og (o2 (hAd (hAd (hMu (hSu p.1 c.1) (hSu p.1 c.1)) (hMu (hSu p.2.2.1 c.2.1) (hSu p.2.2.1 c.2.1))) (hMu p.2.2.2.2 (hAd (hMu p.2.1 p.2.1) (hMu p.2.2.2.1 p.2.2.2.1)))) c.2.2) (og (o2 (hAd (hMu (hSu p.1 c.1) p.2.1) (hMu (hSu p.2.2.1 c.2.1) p.2.2.2.1)) (hAd (hMu (hSu p.1 c.1) p.2.1) (hMu (hSu p.2.2.1 c.2.1) p.2.2.2.1))) (og (D' (ok Rat 240000 (hSu (hAd (hAd (hMu (hSu p.1 c.1) (hSu p.1 c.1)) (hMu (hSu p.2.2.1 c.2.1) (hSu p.2.2.1 c.2.1))) (hMu p.2.2.2.2 (hAd (hMu p.2.1 p.2.1) (hMu p.2.2.2.1 p.2.2.2.1)))) c.2.2)/\ok Rat 170000 (hAd (hAd (hMu (hSu p.1 c.1) p.2.1) (hMu (hSu p.2.2.1 c.2.1) p.2.2.2.1)) (hAd (hMu (hSu p.1 c.1) p.2.1) (hMu (hSu p.2.2.1 c.2.1) p.2.2.2.1)))/\ok Rat 30000 p.2.2.2.2)) (S' [RV.d ask (i64.wrap (0-(gb (ag (hSu (hAd (hAd (hMu (hSu p.1 c.1) (hSu p.1 c.1)) (hMu (hSu p.2.2.1 c.2.1) (hSu p.2.2.1 c.2.1))) (hMu p.2.2.2.2 (hAd (hMu p.2.1 p.2.1) (hMu p.2.2.2.1 p.2.2.2.1)))) c.2.2)) (ag (hAd (hAd (hMu (hSu p.1 c.1) p.2.1) (hMu (hSu p.2.2.1 c.2.1) p.2.2.2.1)) (hAd (hMu (hSu p.1 c.1) p.2.1) (hMu (hSu p.2.2.1 c.2.1) p.2.2.2.1)))) (ag p.2.2.2.2))))]))))))))))))))))))
def Fo:Cn 96 [tO,tP]:=cn λ(c:BO3) (p:BP)=>lf (ok Ln 300 c/\okP 4000 p) [.d ask (iq (dec c) (dec p))] λh=>by
 refine aA aab (abj c p) ⟨0,?_⟩;obtain⟨hc,hp⟩:=h;obtain⟨c,rfl,bc⟩:=aJ hc;obtain⟨p,rfl,bp,rp⟩:=bL hp;have sb:=jb (sqA p (ctr c)-c.2.2) (sqB p (ctr c)) p.2.2.2.2;unfold abj;simp only[aV,Nat.reduceAdd,Nat.reduceLeDiff];cases hq:(vf c p).2
 ·unfold iq sqA sqB ctr at*
  dsimp only at sb ⊢;rw[show(p.2.2.2.2*(p.2.1*p.2.1+p.2.2.2.1*p.2.2.2.1))=(p.2.1*p.2.1+p.2.2.2.1*p.2.2.2.1)*p.2.2.2.2 by grind];rw[aM (by omega) (by omega),aqH]
 ·have hb: -1<=(vf c p).1/\(vf c p).1<=1:=by
   have:=RE.insC_ok c hq;unfold iq at this;omega
  dsimp only;rw[aM (by omega) (by omega),aqH,RE.insC_ok c hq]
def YD(l:BO3)(v:BV)(_k:KT):OLR:=og (o2 l.1 v.1) (og (o2 l.2.1 v.2) (og (o2 (hMu l.1 v.1) (hMu l.2.1 v.2)) (og (o2 (hAd (hMu l.1 v.1) (hMu l.2.1 v.2)) l.2.2) (og (o2 l.1 l.1) (og (o2 l.2.1 l.2.1) (og (o2 (hMu l.1 l.1) (hMu l.2.1 l.2.1)) (og (D' (jK (hSu (hAd (hMu l.1 v.1) (hMu l.2.1 v.2)) l.2.2) (hAd (hMu l.1 l.1) (hMu l.2.1 l.2.1)))) (og (o2 (hDi (hSu (hAd (hMu l.1 v.1) (hMu l.2.1 v.2)) l.2.2) (hAd (hMu l.1 l.1) (hMu l.2.1 l.2.1))) l.1) (og (o2 v.1 (hMu (hDi (hSu (hAd (hMu l.1 v.1) (hMu l.2.1 v.2)) l.2.2) (hAd (hMu l.1 l.1) (hMu l.2.1 l.2.1))) l.1)) (og (o2 (hDi (hSu (hAd (hMu l.1 v.1) (hMu l.2.1 v.2)) l.2.2) (hAd (hMu l.1 l.1) (hMu l.2.1 l.2.1))) l.2.1) (og (o2 v.2 (hMu (hDi (hSu (hAd (hMu l.1 v.1) (hMu l.2.1 v.2)) l.2.2) (hAd (hMu l.1 l.1) (hMu l.2.1 l.2.1))) l.2.1)) (S' [RV.d tV (hSu v.1 (hMu (hDi (hSu (hAd (hMu l.1 v.1) (hMu l.2.1 v.2)) l.2.2) (hAd (hMu l.1 l.1) (hMu l.2.1 l.2.1))) l.1),hSu v.2 (hMu (hDi (hSu (hAd (hMu l.1 v.1) (hMu l.2.1 v.2)) l.2.2) (hAd (hMu l.1 l.1) (hMu l.2.1 l.2.1))) l.2.1))]))))))))))))
def aiS:Cn 356 [tO,tV]:=cn λ(l:BO3) (v:BV)=>lf (ok Ln 300 l/\ok (Rat×Rat) 200 v/\((dec l:Ln).1≠0\/(dec l:Ln).2.1≠0)) [.d tV (enc (Vb (dec l) (dec v)))] λh=>by
 refine aA aab (YD l v) ⟨0,?_⟩;obtain⟨hl,hv,h0⟩:=h;obtain⟨l,rfl,bl⟩:=aJ hl;obtain⟨v,rfl,bv⟩:=aJ hv;have hn:l.1*l.1+l.2.1*l.2.1≠0:=Lb (by rw[ao]at h0;exact h0);unfold YD;simp only[aV,Nat.reduceAdd,Nat.reduceLeDiff,hn,ne_eq,aqq];rfl
abbrev tCU:Ty:=.st (.pair .bool (.pair tO (.pair tO (.pair .bool (.pair tP tP)))))
abbrev BCU:=Bool×BO3×BO3×Bool×BP×BP
abbrev Cv:=Bool×Ln×Ln×Bool×Pt×Pt
def dC(c:BCU):Cv:=(c.1,dec c.2.1,dec c.2.2.1,c.2.2.2.1,dec c.2.2.2.2.1,dec c.2.2.2.2.2)
def rD(x:BO3):Prop:=ok Ln 300 x/\(0:Rat)<(dec x:Ln).2.2
instance (x:BO3):Decidable (rD x):=by unfold rD;infer_instance
def Fa(x:BO3):Prop:=ok Ln 300 x/\((dec x:Ln).1≠0\/(dec x:Ln).2.1≠0)
instance (x:BO3):Decidable (Fa x):=by unfold Fa;infer_instance
def okC(k:Nat)(c:BCU):Prop:=(c.1=T'->rD c.2.2.1)/\(c.1=F'->Fa c.2.1)/\okP k c.2.2.2.2.1/\okP k c.2.2.2.2.2
instance (k:Nat) (c:BCU):Decidable (okC k c):=by unfold okC;infer_instance
def frC(c:Cv):Pt:=c.2.2.2.2.1
def toC(c:Cv):Pt:=c.2.2.2.2.2
def lnC(c:Cv):Ln:=c.2.1
def ciC(c:Cv):Ln:=c.2.2.1
def cwC(c:Cv):Bool:=c.2.2.2.1
def dv(c:Cv)(p:Pt):Bool:=bif c.1 then iq (ciC c) p==0 else oM (lnC c) p==0
def upR(c:Ln)(p:Pt):Bool:=D' (eG (yP p) c.2.1>0)||(eG (yP p) c.2.1==0&&D' (eG (xP p) c.1>0))
def ptd(c:Ln)(p:Pt):Bool×Rt:=(upR c p,xP p)
def Ft(c:Ln)(p:Pt):Int:=bif upR c p then 0 else 1
def ccF(c:Cv):Pt:=bif cwC c then toC c else frC c
def ccT(c:Cv):Pt:=bif cwC c then frC c else toC c
def ll(c:Cv)(p:Pt):Bool:=bif c.1 then D' (me bj (ptd (ciC c) (ccF c)) (ptd (ciC c) p) (ptd (ciC c) (ccT c))<=0)else UY (aB (frC c) p) (aB p (toC c))
def onP(c:Cv)(p:Pt):Bool:=dv c p&&ll c p
def gJ(c:BCU):BCU:=(c.1,c.2.1,c.2.2.1,c.1&&!c.2.2.2.1,c.2.2.2.2.2,c.2.2.2.2.1)
def dS(c:BCU):BCU:=bif c.2.2.2.1 then gJ c else c
def flP(p:Pt):Pt:=(-p.1,-p.2.1,p.2.2.1,p.2.2.2.1,p.2.2.2.2)
def flC(c:Ln):Ln:=(-c.1,c.2.1,c.2.2)
def ck(c:Cv)(p q:Pt):Int:=bif c.1 then(bif cwC c then lA bj (ptd (flC (ciC c)) (flP (frC c))) (ptd (flC (ciC c)) (flP p)) (ptd (flC (ciC c)) (flP q))else lA bj (ptd (ciC c) (frC c)) (ptd (ciC c) p) (ptd (ciC c) q))
 else(bif D' (aB (frC c) (toC c)>0)then-aB p q else aB p q)
def onR(c:Cv)(p:Pt):Bool:=dv c p&&(D' (ck c (frC c) p<=0)&&D' (ck c p (toC c)<=0))
theorem Es(k:Nat){c:BCU}(h:okC k c):okC k (gJ c):=⟨h.1,h.2.1,h.2.2.2,h.2.2.1⟩
theorem Et(p q:Pt): -1<=aB p q/\aB p q<=1:=by
 unfold aB;cases bj (xP p) (xP q)==0
 ·exact wR _ _
 ·exact wR _ _
theorem J0{p q:Bool×Rt}:0<=oJ bj p q/\oJ bj p q<=2:=by
 unfold oJ;cases sC bj q p==0<;>cases D' (sC bj q p>0)<;>simp only[cond_true,cond_false]<;>omega
theorem Yl(n:Int):(if(if n>(-1)then n else(-1))<1 then(if n>(-1)then n else(-1))else 1)=Ao n:=by
 unfold Ao;split<;>split<;>(try split)<;>(try split)<;>omega
def xL:List En:=[enT qZ,enT Fq,enL wi,enL De,enT oF,enT E6,enT Fo]
def aa7(c:BCU)(p:BP)(_k:KT):OLR:=match c.1 with|T'=>(og (D' (ok Ln 300 c.2.2.1/\okP 4000 p)) (S' [RV.d .bool ((iq (dec c.2.2.1) (dec p))==0)]))|F'=>(og (D' (ok Ln 300 c.2.1/\okP 4000 p)) (S' [RV.d .bool ((oM (dec c.2.1) (dec p))==0)]))
def Gw:Cn 144 [tCU,tP]:=cn λ(c:BCU) (p:BP)=>lf (okC 4000 c/\okP 4000 p) [.d .bool (dv (dC c) (dec p))] λh=>by
 refine aA xL (aa7 c p) ⟨0,?_⟩;obtain⟨hc,hp⟩:=h;have op:D' (okP 4000 p)=true:=aoP hp;obtain⟨ar,li,ci,cw,fr,to⟩:=c;obtain⟨c1,c2,_⟩:=hc;unfold aa7;cases ar
 ·have e:=(c2 rfl).1;simp only[aqW,dT e,op,apV];rfl
 ·have e:=(c1 rfl).1;simp only[aqW,dT e,op,apV];rfl
def acs(c:BO3)(p:BP)(_k:KT):OLR:=og (D' (okP 4000 p)) (og (D' (okT 15000 (hid (enc (yP (dec p))))/\ok Rat 15000 c.2.1)) (match D' ((eG (dec (hid (enc (yP (dec p))))) (ag c.2.1))>0)with|T'=>S' [RV.d ask 0]|F'=>(match(eG (dec (hid (enc (yP (dec p))))) (ag c.2.1))==0 with|T'=>(og (D' (okP 4000 p)) (og (D' (okT 15000 (hid (enc (xP (dec p))))/\ok Rat 15000 c.1)) (match D' ((eG (dec (hid (enc (xP (dec p))))) (ag c.1))>0)with|T'=>S' [RV.d ask 0]|F'=>S' [RV.d ask 1])))|F'=>S' [RV.d ask 1])))
def akn:Cn 357 [tO,tP]:=cn λ(c:BO3) (p:BP)=>lf (ok Ln 300 c/\okP 4000 p) [.d ask (Ft (dec c) (dec p))] λh=>by
 refine aA xL (acs c p) ⟨0,?_⟩;obtain⟨hc,hp⟩:=h;obtain⟨c,rfl,bc⟩:=aJ hc;obtain⟨p,rfl,bp,rp⟩:=bL hp;unfold acs Ft upR;simp only[aV,Nat.reduceLeDiff,aI,aL];cases D' (eG (yP p) c.2.1>0)<;>cases eG (yP p) c.2.1==0<;>cases D' (eG (xP p) c.1>0)<;>rfl
def ah7:Ctx:=CX (ens xL) []
def Z9(n:Int)(_k:KT):OLR:=S' [RV.d ask (if(if n>(-1)then n else(-1))<1 then(if n>(-1)then n else(-1))else 1)]
theorem alK(n:Int):RS ah7 302 [SI n] (Z9 n):=rsX
def akQ:Cn 302 [ask]:=cn λ(n:Int)=>lf True [.d ask (Ao n)] λ_=>by
 refine aX xL (alK _ ⟨0,?_⟩);unfold Z9;rw[Yl]
def aju:Ctx:=CX (ens xL) []
def aja(c:BCU)(_k:KT):OLR:=match c.1 with|T'=>S' [RV.d tCU (c.1,(c.2.1,(c.2.2.1,(!c.2.2.2.1,(c.2.2.2.2.2,c.2.2.2.2.1)))))]|F'=>S' [RV.d tCU (c.1,(c.2.1,(c.2.2.1,(F',(c.2.2.2.2.2,c.2.2.2.2.1)))))]
theorem am5(c:BCU):RS aju 222 [.d tCU c] (aja c):=rsX
def Ay:Cn 222 [tCU]:=cn λ(c:BCU)=>lf True [.d tCU (gJ c)] λ_=>by
 refine aX xL (am5 _ ⟨0,?_⟩);obtain⟨ar,li,ci,cw,fr,to⟩:=c;cases ar<;>rfl
def Lp:List En:=enT Gw::enT akn::enT akQ::enL Ay::xL
def aaJ(c:BO3)(p q:BP)(_k:KT):OLR:=og (D' (ok Ln 300 c/\okP 4000 p)) (og (D' (ok Ln 300 c/\okP 4000 q)) (match(Ft (dec c) (dec p)) !=(Ft (dec c) (dec q))with|T'=>S' [RV.d ask (i64.wrap ((Ft (dec c) (dec p))-(Ft (dec c) (dec q))))]|F'=>(og (D' (okP 4000 p)) (og (D' (okP 4000 q)) (og (D' (okT 15000 (hid (enc (xP (dec p))))/\okT 15000 (hid (enc (xP (dec q)))))) (match(Ft (dec c) (dec p))==0 with|T'=>S' [RV.d ask (i64.wrap (0-(bj (dec (hid (enc (xP (dec p))))) (dec (hid (enc (xP (dec q))))))))]|F'=>S' [RV.d ask (bj (dec (hid (enc (xP (dec p))))) (dec (hid (enc (xP (dec q))))))]))))))
def aiq:Cn 303 [tO,tP,tP]:=cn λ(c:BO3) (p q:BP)=>lf (ok Ln 300 c/\okP 4000 p/\okP 4000 q) [.d ask (sC bj (ptd (dec c) (dec p)) (ptd (dec c) (dec q)))] λh=>by
 refine aA Lp (aaJ c p q) ⟨0,?_⟩;obtain⟨hc,hp,hq⟩:=h;obtain⟨c,rfl,bc⟩:=aJ hc;obtain⟨p,rfl,bp,rp⟩:=bL hp;obtain⟨q,rfl,bq,rq⟩:=bL hq;have xb:=wR (xP p) (xP q);unfold aaJ;simp only[aV,Nat.reduceLeDiff,aI,aL,aM (x:= -bj (xP p) (xP q)) (by omega) (by omega),aqH];unfold sC Ft ptd;cases upR c p<;>cases upR c q<;>rfl
def aiU:Ctx:=CX (ens Lp) []
def ZX(c:BCU)(_k:KT):OLR:=match c.2.2.2.1 with|T'=>S' [RV.d tCU (hid (gJ c))]|F'=>S' [RV.d tCU c]
theorem ai9(c:BCU):RS aiU 234 [.d tCU c] (ZX c):=rsX
def abN:Cn 234 [tCU]:=cn λ(c:BCU)=>lf True [.d tCU (dS c)] λ_=>by
 refine aX Lp (ai9 _ ⟨0,?_⟩);obtain⟨ar,li,ci,cw,fr,to⟩:=c;unfold ZX dS;cases cw
 ·rfl
 ·simp only[aQ];rfl
def Z6:List En:=enT aiq::enL abN::Lp
def aaG(c:BO3)(f p:BP)(_k:KT):OLR:=og (D' (ok Ln 300 c/\okP 4000 p/\okP 4000 f)) (match(sC bj (ptd (dec c) (dec p)) (ptd (dec c) (dec f)))==0 with|T'=>S' [RV.d ask 0]|F'=>(match D' ((sC bj (ptd (dec c) (dec p)) (ptd (dec c) (dec f)))>0)with|T'=>S' [RV.d ask 1]|F'=>S' [RV.d ask 2]))
def ak9:Cn 301 [tO,tP,tP]:=cn λ(c:BO3) (f p:BP)=>lf (ok Ln 300 c/\okP 4000 f/\okP 4000 p) [.d ask (oJ bj (ptd (dec c) (dec f)) (ptd (dec c) (dec p)))] λh=>by
 refine aA Z6 (aaG c f p) ⟨0,?_⟩;obtain⟨hc,hf,hp⟩:=h;unfold aaG oJ;rw[dT ⟨hc,hp,hf⟩];cases sC bj (ptd (dec c) (dec p)) (ptd (dec c) (dec f))==0<;>cases D' (sC bj (ptd (dec c) (dec p)) (ptd (dec c) (dec f))>0)<;>rfl
def Z3:List En:=enT ak9::Z6
def YV(c:BO3)(f p q:BP)(_k:KT):OLR:=og (D' (ok Ln 300 c/\okP 4000 f/\okP 4000 p)) (og (D' (ok Ln 300 c/\okP 4000 f/\okP 4000 q)) (match(oJ bj (ptd (dec c) (dec f)) (ptd (dec c) (dec p))) !=(oJ bj (ptd (dec c) (dec f)) (ptd (dec c) (dec q)))with|T'=>S' [RV.d ask (Ao (i64.wrap ((oJ bj (ptd (dec c) (dec f)) (ptd (dec c) (dec p)))-(oJ bj (ptd (dec c) (dec f)) (ptd (dec c) (dec q))))))]|F'=>(og (D' (ok Ln 300 c/\okP 4000 p/\okP 4000 q)) (S' [RV.d ask (Ao (sC bj (ptd (dec c) (dec p)) (ptd (dec c) (dec q))))]))))
def Rw:Cn 235 [tO,tP,tP,tP]:=cn λ(c:BO3) (f p q:BP)=>lf (ok Ln 300 c/\okP 4000 f/\okP 4000 p/\okP 4000 q) [.d ask (me bj (ptd (dec c) (dec f)) (ptd (dec c) (dec p)) (ptd (dec c) (dec q)))] λh=>by
 refine aA Z3 (YV c f p q) ⟨0,?_⟩;obtain⟨hc,hf,hp,hq⟩:=h;unfold YV me bne;have b1:=J0 (p:=ptd (dec c) (dec f)) (q:=ptd (dec c) (dec p));have b2:=J0 (p:=ptd (dec c) (dec f)) (q:=ptd (dec c) (dec q));rw[dT ⟨hc,hf,hp⟩,dT ⟨hc,hf,hq⟩,dT ⟨hc,hp,hq⟩,aM (by omega) (by omega)];cases oJ bj (ptd (dec c) (dec f)) (ptd (dec c) (dec p))==oJ bj (ptd (dec c) (dec f)) (ptd (dec c) (dec q))<;>rfl
def ZG:List En:=enT Rw::Z3
def abc(c:BCU)(p:BP)(_k:KT):OLR:=match !c.1 with|T'=>(og (D' (okP 4000 c.2.2.2.2.1/\okP 4000 p)) (og (D' (okP 4000 p/\okP 4000 c.2.2.2.2.2)) (match(aB (dec c.2.2.2.2.1) (dec p))==0 with|T'=>S' [RV.d .bool T']|F'=>(match(aB (dec p) (dec c.2.2.2.2.2))==0 with|T'=>S' [RV.d .bool T']|F'=>S' [RV.d .bool ((aB (dec c.2.2.2.2.1) (dec p))==(aB (dec p) (dec c.2.2.2.2.2)))]))))|F'=>(og (D' (ok Ln 300 ((((hid (dS c)).2).2).1)/\okP 4000 ((((((hid (dS c)).2).2).2).2).1)/\okP 4000 p/\okP 4000 ((((((hid (dS c)).2).2).2).2).2))) (S' [RV.d .bool (D' ((me bj (ptd (dec ((((hid (dS c)).2).2).1)) (dec ((((((hid (dS c)).2).2).2).2).1))) (ptd (dec ((((hid (dS c)).2).2).1)) (dec p)) (ptd (dec ((((hid (dS c)).2).2).1)) (dec ((((((hid (dS c)).2).2).2).2).2))))<=0))]))
def PP:Cn 157 [tCU,tP]:=cn λ(c:BCU) (p:BP)=>lf (okC 4000 c/\okP 4000 p) [.d .bool (ll (dC c) (dec p))] λh=>by
 refine aA ZG (abc c p) ⟨0,?_⟩;obtain⟨hc,hp⟩:=h;obtain⟨ar,li,ci,cw,fr,to⟩:=c;obtain⟨c1,c2,c3,c4⟩:=hc;unfold abc ll;simp only[aQ];cases ar
 ·try dsimp only[Bool.not_false]
  rw[dT ⟨c3,hp⟩,dT ⟨hp,c4⟩];show _=S' [RV.d .bool (UY (aB (dec fr) (dec p)) (aB (dec p) (dec to)))];unfold UY;cases aB (dec fr) (dec p)==0<;>cases aB (dec p) (dec to)==0<;>rfl
 ·have e:=(c1 rfl).1;cases cw
  ·rw[dT (show ok Ln 300 (dS (T',li,ci,F',fr,to)).2.2.1/\okP 4000 (dS (T',li,ci,F',fr,to)).2.2.2.2.1/\okP 4000 p/\okP 4000 (dS (T',li,ci,F',fr,to)).2.2.2.2.2 from⟨e,c3,hp,c4⟩)];rfl
  ·rw[dT (show ok Ln 300 (dS (T',li,ci,T',fr,to)).2.2.1/\okP 4000 (dS (T',li,ci,T',fr,to)).2.2.2.2.1/\okP 4000 p/\okP 4000 (dS (T',li,ci,T',fr,to)).2.2.2.2.2 from⟨e,c4,hp,c3⟩)];rfl
def ajh:List En:=enT PP::ZG
def YA(c:BCU)(p:BP)(_k:KT):OLR:=og (D' (okC 4000 c/\okP 4000 p)) (match dv (dC c) (dec p)with|T'=>(og (D' (okC 4000 c/\okP 4000 p)) (S' [RV.d .bool (ll (dC c) (dec p))]))|F'=>S' [RV.d .bool F'])
def KC:Cn 162 [tCU,tP]:=cn λ(c:BCU) (p:BP)=>lf (okC 4000 c/\okP 4000 p) [.d .bool (onP (dC c) (dec p))] λh=>by
 refine aA ajh (YA c p) ⟨0,?_⟩;unfold YA onP;rw[dT h];cases dv (dC c) (dec p)<;>rfl
def gr(r s:Rt):Rat:=bif D' (r.2.1=0)then s.2.2 else r.2.2
def oN(r s:Rt):Bool:=D' (r.2.1=0)||(D' (s.2.1=0)||D' (r.2.2=s.2.2))
def kH(r s:Rt):Rt:=iJ (r.1*s.1+r.2.1*s.2.1*gr r s) (r.1*s.2.1+r.2.1*s.1) (gr r s)
def Ak(r s:Rt):Rt:=iJ (r.1+s.1) (r.2.1+s.2.1) (gr r s)
def arT(r:Rt)(a:Rat):Rt:=(r.1+a,r.2.1,r.2.2)
theorem aZ(a b:Rat):(aD a b !=0)=!D' (a=b):=by
 unfold bne;rw[am]
instance aod {r s:Rt} {i j:Nat} [h:Bd r i] [h':Bd s j]:Bd (gr r s) (mx j i):=inferInstanceAs (Bd (bif D' (r.2.1=0)then s.2.2 else r.2.2) _)
instance anu {a b c:Rat} {i j k:Nat} [ha:Bd a i] [hb:Bd b j] [hc:Bd c k]:Bd (iJ a b c) (mx i (mx j k)):=by
 have h1:=MI i (mx j k);have h2:=Mv i (mx j k);have h3:=MI j k;have h4:=Mv j k;have h5:=sw ha.le;have z:bdR (mx i (mx j k)) 0:=cd tm.le (by omega);refine⟨?_⟩;unfold iJ;cases D' (b=0)
 ·cases D' (c=0)
  ·exact⟨cd ha.le (by omega),cd hb.le (by omega),cd hc.le (by omega)⟩
  ·exact⟨cd ha.le (by omega),z,z⟩
 ·exact⟨cd ha.le (by omega),z,z⟩
theorem Nd(r:Rt):oN r r=true:=by
 unfold oN;rw[aoP (rfl:r.2.2=r.2.2)];simp
theorem JH{p:Pt}{v:Rat×Rat}(h:Rpd p):oN (kH (xP (trP p (bkV v))) (xP (trP p (bkV v)))) (kH (yP (trP p (bkV v))) (yP (trP p (bkV v))))=T'/\Ak (kH (xP (trP p (bkV v))) (xP (trP p (bkV v)))) (kH (yP (trP p (bkV v))) (yP (trP p (bkV v))))=sqP p v:=by
 obtain⟨ax,bx,ay,b_,c⟩:=p;have hr:=h.rd;unfold IZ at hr;simp only at hr;unfold sqP sqA sqB xP yP trP bkV;simp only;rw[show ax+ -v.1=ax-v.1 by grind,show ay+ -v.2=ay-v.2 by grind];generalize ax-v.1=x;generalize ay-v.2=y;rcases hr with⟨rfl,rfl,rfl⟩|⟨h1,h2,h3⟩
 ·have e0:∀a:Rat,coR a 0 0=(a,0,0):=λa=>rfl
  have e1:∀a:Rat,kH (a,0,0) (a,0,0)=(a*a,0,0):=λa=>by
   unfold kH gr iJ;simp;grind
  rw[e0,e0,e1,e1];refine⟨rfl,?_⟩;rw[show x*0+y*0+(x*0+y*0)=(0:Rat) by grind];unfold Ak gr iJ coR;simp;grind
 ·have hc:c≠0:=by grind
  have dc:D' (c=0)=false:=aoR hc
  have sq0:∀a:Rat,kH (coR a 0 c) (coR a 0 c)=(a*a,0,0):=λa=>by
   unfold coR;rw[aoP rfl];unfold kH gr iJ;simp;grind
  have sq1:∀a b:Rat,b≠0->kH (coR a b c) (coR a b c)=coR (a*a+b*b*c) (a*b+b*a) c:=λa b hb=>by
   have e:coR a b c=(a,b,c):=by unfold coR;rw[aoR hb];rfl
   rw[e];unfold kH gr iJ coR;simp only[aoR hb,cond_false,dc]
  have cR:∀a b:Rat,iJ a b c=coR a b c:=λa b=>by unfold iJ coR;rw[dc];rfl
  have ad:∀a b d e:Rat,oN (coR a b c) (coR d e c)=T'/\(b≠0\/e≠0->Ak (coR a b c) (coR d e c)=coR (a+d) (b+e) c)/\(b=0->e=0->Ak (coR a b c) (coR d e c)=(a+d,0,0)):=λa b d e=>by
   by_cases hb:b=0
   ·subst hb;by_cases he:e=0
    ·subst he;refine⟨rfl,λh=>by simp at h,λ_ _=>?_⟩;unfold coR Ak gr iJ;simp
    ·refine⟨rfl,λ_=>?_,λ_ h=>absurd h he⟩;have e1:coR a 0 c=(a,0,0):=rfl;have e2:coR d e c=(d,e,c):=by unfold coR;rw[aoR he];rfl
     rw[e1,e2];show iJ (a+d) (0+e) c=_;rw[cR]
   ·have e1:coR a b c=(a,b,c):=by unfold coR;rw[aoR hb];rfl
    by_cases he:e=0
    ·subst he;have e2:coR d 0 c=(d,0,0):=rfl;refine⟨by rw[e1,e2];simp[oN],λ_=>?_,λh=>absurd h hb⟩;rw[e1,e2];unfold Ak gr;simp only[aoR hb,cond_false];rw[cR]
    ·have e2:coR d e c=(d,e,c):=by unfold coR;rw[aoR he];rfl
     refine⟨by rw[e1,e2];simp[oN],λ_=>?_,λh=>absurd h hb⟩;rw[e1,e2];unfold Ak gr;simp only[aoR hb,cond_false];rw[cR]
  have c0:∀a:Rat,((a,0,0):Rt)=coR a 0 c:=λa=>rfl;by_cases hx:bx=0
  ·subst hx;have hy:b_≠0:=λe=>h1 ⟨rfl,e⟩;rw[sq0,sq1 _ _ hy,c0];obtain⟨g1,g2,g3⟩:=ad (x*x) 0 (y*y+b_*b_*c) (y*b_+b_*y);refine⟨g1,?_⟩;by_cases he:y*b_+b_*y=0
   ·rw[g3 rfl he,show x*0+y*b_+(x*0+y*b_)=0 by grind];show _=coR _ 0 c;rw[<-c0];congr 1;grind
   ·rw[g2 (.inr he)];congr 1<;>grind
  ·by_cases hy:b_=0
   ·subst hy;rw[sq0,sq1 _ _ hx,c0];obtain⟨g1,g2,g3⟩:=ad (x*x+bx*bx*c) (x*bx+bx*x) (y*y) 0;refine⟨g1,?_⟩;by_cases he:x*bx+bx*x=0
    ·rw[g3 he rfl,show x*bx+y*0+(x*bx+y*0)=0 by grind];show _=coR _ 0 c;rw[<-c0];congr 1;grind
    ·rw[g2 (.inl he)];congr 1<;>grind
   ·rw[sq1 _ _ hx,sq1 _ _ hy];obtain⟨g1,g2,g3⟩:=ad (x*x+bx*bx*c) (x*bx+bx*x) (y*y+b_*b_*c) (y*b_+b_*y);refine⟨g1,?_⟩;by_cases h0:x*bx+bx*x=0/\y*b_+b_*y=0
    ·rw[g3 h0.1 h0.2,show x*bx+y*b_+(x*bx+y*b_)=0 by grind];show _=coR _ 0 c;rw[<-c0];congr 1;grind
    ·rw[g2 (by by_cases e:x*bx+bx*x=0;exact .inr (λe'=>h0 ⟨e,e'⟩);exact .inl e)];congr 1<;>grind
theorem Rpd.com{p:Pt}{v:Rat×Rat}(h:Rpd p):oN (kH (xP (trP p (bkV v))) (xP (trP p (bkV v)))) (kH (yP (trP p (bkV v))) (yP (trP p (bkV v))))=true:=(JH h).1
instance anw {r s:Rt} {i j:Nat} [h:Bd r i] [h':Bd s j]:Bd (kH r s) (2*(i+j)+(mx j i)+1):=by
 have m:Bd (gr r s) (mx j i):=inferInstance;have a1:Bd (r.1*s.1+r.2.1*s.2.1*gr r s) _:=inferInstance;have a2:Bd (r.1*s.2.1+r.2.1*s.1) _:=inferInstance;have i1:Bd (iJ (r.1*s.1+r.2.1*s.2.1*gr r s) (r.1*s.2.1+r.2.1*s.1) (gr r s)) _:=inferInstance;exact i1.mono (jh (by omega) (jh (by omega) (by omega)))
instance anx {r s:Rt} {i j:Nat} [h:Bd r i] [h':Bd s j]:Bd (Ak r s) (i+j+1):=by
 have i1:Bd (iJ (r.1+s.1) (r.2.1+s.2.1) (gr r s)) _:=inferInstance;exact i1.mono (jh (by omega) (jh (by omega) (jh (by omega) (by omega))))
instance anX {r:Rt} {a:Rat} {i j:Nat} [h:Bd r i] [h':Bd a j]:Bd (arT r a) (i+j+1):=by
 have i1:Bd ((r.1+a,r.2.1,r.2.2):Rt) _:=inferInstance;exact i1.mono (jh (by omega) (jh (by omega) (by omega)))
def BC:List En:=[enT nV,enL lg,enL ru,enL n7,enT oW,enL ou,enL Po,enL Hp,enL I0,enT DV,enT Ta]
def RZ(r s:BO3)(_k:KT):OLR:=og (o1 r.2.1) (match(aD (ag r.2.1) 0)==0 with|T'=>S' [RV.d tR s.2.2,RV.d .bool T']|F'=>(og (o1 s.2.1) (match(aD (ag s.2.1) 0)==0 with|T'=>S' [RV.d tR r.2.2,RV.d .bool T']|F'=>(og (o2 r.2.2 s.2.2) (S' [RV.d tR r.2.2,RV.d .bool ((aD (ag r.2.2) (ag s.2.2))==0)])))))
def aek:Cn 367 [tO,tO]:=cn λ(r s:BO3)=>lf (ok Rt 100000 r/\ok Rt 100000 s) [.d tR (av (gr (dec r) (dec s))),.d .bool (oN (dec r) (dec s))] λh=>by
 refine aA BC (RZ r s) ⟨0,?_⟩;obtain⟨hr,hs⟩:=h;obtain⟨r,rfl,br⟩:=aJ hr;obtain⟨s,rfl,bs⟩:=aJ hs;unfold RZ;simp only[aV,Nat.reduceLeDiff,am];unfold gr oN;cases D' (r.2.1=0)<;>cases D' (s.2.1=0)<;>rfl
def PT(r:BO3)(a:BR)(_k:KT):OLR:=og (o2 r.1 a) (S' [RV.d tO (hAd r.1 a,r.2)])
def IC:Cn 185 [tO,tR]:=cn λ(r:BO3) (a:BR)=>lf (ok Rt 100000 r/\ok Rat 100000 a) [.d tO (enc (arT (dec r) (ag a)))] λh=>by
 refine aA BC (PT r a) ⟨0,?_⟩;obtain⟨hr,ha⟩:=h;obtain⟨r,rfl,br⟩:=aJ hr;obtain⟨a,rfl,ba⟩:=aJ ha;unfold PT;simp only[aV,Nat.reduceLeDiff];rfl
def Og(_k:KT):OLR:=og (D' (bI (0:Int))) (S' [RV.d tR (hid (av ((0:Int):Rat)))])
def aev:Cn 53 []:=cn<|lf True [.d tR (av 0)] λ_=>by
 refine aA BC (Og) ⟨0,?_⟩;unfold Og;rw[dT (show bI 0 by decide)];simp only[aQ];rfl
def T8(p:BP)(v:BV)(_k:KT):OLR:=og (o2 p.1 v.1) (og (o2 p.2.2.1 v.2) (S' [RV.d tP (hAd p.1 v.1,(p.2.1,(hAd p.2.2.1 v.2,p.2.2.2)))]))
def Hy:Cn 24 [tP,tV]:=cn λ(p:BP) (v:BV)=>lf (ok Pt 21000 p/\ok (Rat×Rat) 1000 v) [.d tP (enc (trP (dec p) (dec v)))] λh=>by
 refine aA BC (T8 p v) ⟨0,?_⟩;obtain⟨hp,hv⟩:=h;obtain⟨p,rfl,bp⟩:=aJ hp;obtain⟨v,rfl,bv⟩:=aJ hv;unfold T8;simp only[aV,Nat.reduceLeDiff];rfl
def Rp(v:BV)(_k:KT):OLR:=og (o1 v.1) (og (o1 v.2) (S' [RV.d tV (hNe v.1,hNe v.2)]))
def RM:Cn 26 [tV]:=cn λ(v:BV)=>lf (ok (Rat×Rat) 21000 v) [.d tV (enc (bkV (dec v)))] λh=>by
 refine aA BC (Rp v) ⟨0,?_⟩;have hv:=h;obtain⟨v,rfl,bv⟩:=aJ hv;unfold Rp;simp only[aV,Nat.reduceLeDiff];rfl
def QV:List En:=enL aek::enL IC::enL aev::enL Hy::enL RM::BC
def PG(r s:BO3)(_k:KT):OLR:=og (D' (ok Rt 100000 r/\ok Rt 100000 s)) (match !(oN (dec r) (dec s))with|T'=>S' [RV.d tO (((F',[]),(F',[])),(((F',[]),(F',[])),((F',[]),(F',[])))),RV.d ask 1]|F'=>(og (o2 r.1 s.1) (og (o2 r.2.1 s.2.1) (og (o2 (hMu r.2.1 s.2.1) (hid (av (gr (dec r) (dec s))))) (og (o2 (hMu r.1 s.1) (hMu (hMu r.2.1 s.2.1) (hid (av (gr (dec r) (dec s)))))) (og (o2 r.1 s.2.1) (og (o2 r.2.1 s.1) (og (o2 (hMu r.1 s.2.1) (hMu r.2.1 s.1)) (og (D' (okR (hAd (hMu r.1 s.1) (hMu (hMu r.2.1 s.2.1) (hid (av (gr (dec r) (dec s))))))/\okR (hAd (hMu r.1 s.2.1) (hMu r.2.1 s.1))/\okR (hid (av (gr (dec r) (dec s)))))) (S' [RV.d tO (hid (enc (iJ (ag (hAd (hMu r.1 s.1) (hMu (hMu r.2.1 s.2.1) (hid (av (gr (dec r) (dec s))))))) (ag (hAd (hMu r.1 s.2.1) (hMu r.2.1 s.1))) (ag (hid (av (gr (dec r) (dec s)))))))),RV.d ask 0]))))))))))
def Up:Cn 326 [tO,tO]:=cn λ(r s:BO3)=>lf (ok Rt 50000 r/\ok Rt 50000 s/\oN (dec r) (dec s)=T') [.d tO (enc (kH (dec r) (dec s))),.d ask 0] λh=>by
 refine aA QV (PG r s) ⟨0,?_⟩;obtain⟨hr,hs,htrue⟩:=h;obtain⟨r,rfl,br⟩:=aJ hr;obtain⟨s,rfl,bs⟩:=aJ hs;have hm:=htrue;rw[ao,ao]at hm;unfold PG;simp only[aV,Nat.reduceAdd,Nat.reduceLeDiff,hm,Bool.not_true];rfl
def Uh(r s:BO3)(_k:KT):OLR:=og (D' (ok Rt 100000 r/\ok Rt 100000 s)) (match !(oN (dec r) (dec s))with|T'=>S' [RV.d tO (((F',[]),(F',[])),(((F',[]),(F',[])),((F',[]),(F',[])))),RV.d ask 1]|F'=>(og (o2 r.1 s.1) (og (o2 r.2.1 s.2.1) (og (D' (okR (hAd r.1 s.1)/\okR (hAd r.2.1 s.2.1)/\okR (hid (av (gr (dec r) (dec s)))))) (S' [RV.d tO (hid (enc (iJ (ag (hAd r.1 s.1)) (ag (hAd r.2.1 s.2.1)) (ag (hid (av (gr (dec r) (dec s)))))))),RV.d ask 0])))))
def agX:Cn 314 [tO,tO]:=cn λ(r s:BO3)=>lf (ok Rt 100000 r/\ok Rt 100000 s/\oN (dec r) (dec s)=T') [.d tO (enc (Ak (dec r) (dec s))),.d ask 0] λh=>by
 refine aA QV (Uh r s) ⟨0,?_⟩;obtain⟨hr,hs,htrue⟩:=h;obtain⟨r,rfl,br⟩:=aJ hr;obtain⟨s,rfl,bs⟩:=aJ hs;have hm:=htrue;rw[ao,ao]at hm;unfold Uh;simp only[aV,Nat.reduceAdd,Nat.reduceLeDiff,hm,Bool.not_true];rfl
def GA:List En:=enL Up::enL agX::QV
def QG(r:BO3)(_k:KT):OLR:=og (D' (ok Rt 50000 r/\ok Rt 50000 r/\oN (dec r) (dec r)=T')) (S' [RV.d tO (hid (enc (kH (dec r) (dec r))))])
def af8:Cn 315 [tO]:=cn λ(r:BO3)=>lf (ok Rt 50000 r) [.d tO (enc (kH (dec r) (dec r)))] λh=>by
 refine aA GA (QG r) ⟨0,?_⟩;have hr:=h;obtain⟨r,rfl,br⟩:=aJ hr;unfold QG;simp only[aV,Nat.reduceLeDiff,Nd]
def Ox(v:BV)(_k:KT):OLR:=S' [RV.d tP (v.1,(hid (av 0),(v.2,(hid (av 0),hid (av 0)))))]
def rS:Cn 16 [tV]:=cn λ(v:BV)=>lf (ok (Rat×Rat) 100000 v) [.d tP (enc (atP (dec v)))] λh=>by
 refine aA GA (Ox v) ⟨0,?_⟩;have hv:=h;obtain⟨v,rfl,bv⟩:=aJ hv;unfold Ox;simp only[aV];try rfl
def R7(a b c d e:BR)(_k:KT):OLR:=og (o1 b) (match(aD (ag b) 0)==0 with|T'=>(og (o1 d) (match(aD (ag d) 0)==0 with|T'=>S' [RV.d tP (a,(b,(c,(d,hid (av 0)))))]|F'=>S' [RV.d tP (a,(b,(c,(d,e))))]))|F'=>S' [RV.d tP (a,(b,(c,(d,e))))])
def agF:Cn 87 [tR,tR,tR,tR,tR]:=cn λ(a b c d e:BR)=>lf (okR a/\okR b/\okR c/\okR d/\okR e) [.d tP (enc (rdP (ag a,ag b,ag c,ag d,ag e)))] λh=>by
 refine aA GA (R7 a b c d e) ⟨0,?_⟩;obtain⟨ha,hb,hc,hd,he⟩:=h;obtain⟨a,rfl,ba⟩:=eN ha;obtain⟨b,rfl,bb⟩:=eN hb;obtain⟨c,rfl,bc⟩:=eN hc;obtain⟨d,rfl,bd⟩:=eN hd;obtain⟨e,rfl,be⟩:=eN he;unfold R7;simp only[aV,Nat.reduceLeDiff,am];unfold rdP;by_cases h1:b=0
 ·by_cases h2:d=0
  ·rw[aoP h1,aoP h2];rfl
  ·rw[aoP h1,aoR h2];rfl
 ·rw[aoR h1];rfl
def UQ(a b c:BR)(_k:KT):OLR:=og (o1 b) (match(aD (ag b) 0)==0 with|T'=>(og (o1 a) (S' [RV.d tO (hid (enc ((ag a,0,0):Rt)))]))|F'=>S' [RV.d tO (a,(b,c))])
def ac3:Cn 98 [tR,tR,tR]:=cn λ(a b c:BR)=>lf (okR a/\okR b/\okR c) [.d tO (enc (coR (ag a) (ag b) (ag c)))] λh=>by
 refine aA GA (UQ a b c) ⟨0,?_⟩;obtain⟨ha,hb,hc⟩:=h;obtain⟨a,rfl,ba⟩:=eN ha;obtain⟨b,rfl,bb⟩:=eN hb;obtain⟨c,rfl,bc⟩:=eN hc;unfold UQ;simp only[aV,aC,Nat.reduceLeDiff,am];unfold coR;by_cases e:b=0
 ·subst e;rw[aoP rfl];rfl
 ·rw[aoR e];rfl
def KO:List En:=enL af8::enL rS::enL agF::enL ac3::GA
def NC(x y:BO3)(_k:KT):OLR:=let y1:=aD (ag x.2.1) 0;let y2:OLR:=match D' (okR x.2.1)with|T'=>(match y1==0 with|T'=>(og (D' (okR x.1/\okR x.2.1/\okR y.1/\okR y.2.1/\okR y.2.2)) (S' [RV.d tP (hid (enc (rdP (ag x.1,ag x.2.1,ag y.1,ag y.2.1,ag y.2.2)))),RV.d ask 0]))|F'=>(og (D' (okR x.1/\okR x.2.1/\okR y.1/\okR y.2.1/\okR x.2.2)) (S' [RV.d tP (hid (enc (rdP (ag x.1,ag x.2.1,ag y.1,ag y.2.1,ag x.2.2)))),RV.d ask 0])))|F'=>none;og (o1 x.2.1) (match y1 !=0 with|T'=>(og (o1 y.2.1) (match(aD (ag y.2.1) 0) !=0 with|T'=>(og (o2 x.2.2 y.2.2) (match(aD (ag x.2.2) (ag y.2.2)) !=0 with|T'=>S' [RV.d tP (((F',[]),(F',[])),(((F',[]),(F',[])),(((F',[]),(F',[])),(((F',[]),(F',[])),((F',[]),(F',[])))))),RV.d ask 1]|F'=>y2))|F'=>y2))|F'=>y2)
def RW:Cn 37 [tO,tO]:=cn λ(x y:BO3)=>lf (okT 15000 x/\okT 15000 y/\zv (dec x) (dec y)) [.d tP (enc (mkP (dec x) (dec y))),.d ask 0] λh=>by
 refine aA KO (NC x y) ⟨0,?_⟩;obtain⟨hx,hy,hy_2⟩:=h;obtain⟨x,rfl,bx,rx⟩:=gn hx;obtain⟨y,rfl,b_y,ry⟩:=gn hy;have hm:=hy_2;rw[ao,ao]at hm;unfold NC;simp only[aV,Nat.reduceLeDiff,am,aZ];unfold mkP;by_cases e1:x.2.1=0
 ·rw[aoP e1];rfl
 ·rw[aoR e1];by_cases e2:y.2.1=0
  ·rw[aoP e2];rfl
  ·rw[aoR e2,aoP ((hm.resolve_left e1).resolve_left e2)];rfl
def abx(p:BP)(_k:KT):OLR:=og (D' (okR p.1/\okR p.2.1/\okR p.2.2.2.2)) (S' [RV.d tO (hid (enc (coR (ag p.1) (ag p.2.1) (ag p.2.2.2.2))))])
def KW:Cn 42 [tP]:=cn λ(p:BP)=>lf (okP 4000 p) [.d tO (enc (xP (dec p)))] λh=>by
 refine aA KO (abx p) ⟨0,?_⟩;have hp:=h;obtain⟨p,rfl,bp,rp⟩:=bL hp;unfold abx;simp only[aV,Nat.reduceLeDiff];try rfl
def Y0(p:BP)(_k:KT):OLR:=og (D' (okR p.2.2.1/\okR p.2.2.2.1/\okR p.2.2.2.2)) (S' [RV.d tO (hid (enc (coR (ag p.2.2.1) (ag p.2.2.2.1) (ag p.2.2.2.2))))])
def Kk:Cn 103 [tP]:=cn λ(p:BP)=>lf (okP 4000 p) [.d tO (enc (yP (dec p)))] λh=>by
 refine aA KO (Y0 p) ⟨0,?_⟩;have hp:=h;obtain⟨p,rfl,bp,rp⟩:=bL hp;unfold Y0;simp only[aV,Nat.reduceLeDiff];try rfl
def ZE:List En:=enL KW::enL Kk::KO
def Pe(p q:BP)(_k:KT):OLR:=og (D' (okP 4000 p)) (og (D' (okP 4000 q)) (og (D' (okT 15000 (hid (enc (xP (dec p))))/\okT 15000 (hid (enc (xP (dec q)))))) (match(bj (dec (hid (enc (xP (dec p))))) (dec (hid (enc (xP (dec q)))))) !=0 with|T'=>S' [RV.d ask (bj (dec (hid (enc (xP (dec p))))) (dec (hid (enc (xP (dec q))))))]|F'=>(og (D' (okP 4000 p)) (og (D' (okP 4000 q)) (og (D' (okT 15000 (hid (enc (yP (dec p))))/\okT 15000 (hid (enc (yP (dec q)))))) (S' [RV.d ask (bj (dec (hid (enc (yP (dec p))))) (dec (hid (enc (yP (dec q))))))])))))))
def r9:Cn 204 [tP,tP]:=cn λ(p q:BP)=>lf (okP 4000 p/\okP 4000 q) [.d ask (aB (dec p) (dec q))] λh=>by
 refine aA ZE (Pe p q) ⟨0,?_⟩;obtain⟨hp,hq⟩:=h;obtain⟨p,rfl,bp,rp⟩:=bL hp;obtain⟨q,rfl,bq,rq⟩:=bL hq;unfold Pe;simp only[aV,Nat.reduceLeDiff,aI,aL];unfold aB bne;cases bj (xP p) (xP q)==0<;>rfl
def ab7:List En:=enL RW::enT r9::ZE
def Ry(p q:BP)(_k:KT):OLR:=og (D' (okP 4000 p/\okP 4000 q)) (S' [RV.d .bool ((aB (dec p) (dec q))==0)])
def nM:Cn 129 [tP,tP]:=cn λ(p q:BP)=>lf (okP 4000 p/\okP 4000 q) [.d .bool (aB (dec p) (dec q)==0)] λh=>by
 refine aA ab7 (Ry p q) ⟨0,?_⟩;unfold Ry;rw[dT h]
def Te(p:BP)(v:BV)(_k:KT):OLR:=let y1:=hid (enc (bkV (dec v)));let y2:=hid (enc (trP (dec p) (dec y1)));let y3:=hid (enc (xP (dec y2)));let y4:=hid (enc (yP (dec y2)));let y5:=hid (enc (kH (dec y3) (dec y3)));let y6:=hid (enc (kH (dec y4) (dec y4)));og (D' (ok (Rat×Rat) 21000 v)) (og (D' (ok Pt 21000 p/\ok (Rat×Rat) 1000 y1)) (og (D' (okP 4000 y2)) (og (D' (ok Rt 50000 y3)) (og (D' (okP 4000 y2)) (og (D' (ok Rt 50000 y4)) (og (D' (ok Rt 100000 y5/\ok Rt 100000 y6/\oN (dec y5) (dec y6)=T')) (S' [RV.d tO (hid (enc (Ak (dec y5) (dec y6))))])))))))
def aeN:Cn 264 [tP,tV]:=cn λ(p:BP) (v:BV)=>lf (okP 3500 p/\ok (Rat×Rat) 300 v) [.d tO (enc (sqP (dec p) (dec v)))] λh=>by
 refine aA ab7 (Te p v) ⟨0,?_⟩;obtain⟨hp,hv⟩:=h;obtain⟨p,rfl,bp,rp⟩:=bL hp;obtain⟨v,rfl,bv⟩:=aJ hv;obtain⟨e1,e2⟩:=JH (v:=v) rp;unfold Te;simp only[aV,Nat.reduceAdd,Nat.reduceMul,Nat.reduceLeDiff,aL,e1];rw[e2]
def HX(l:Ln)(p:Pt):Rt:=mkR (M4 l p) (LQ l p) p.2.2.2.2
def wr(c:Ln)(p:Pt):Rt:=arT (sqP p (ctr c)) (-c.2.2)
instance aok {r:Rt} {a:Rat} [h:Rdd r]:Rdd (arT r a):=⟨h.rd⟩
instance VT {l:Ln} {p:Pt} [h:Rpd p]:Rdd (HX l p):=by
 have:Nn p.2.2.2.2:=inferInstance;exact FV
instance ant {l:Ln} {p:Pt} {i j:Nat} [h:Bd l i] [h':Bd p j]:Bd (HX l p) (5*i+5*j+5):=by
 have a1:Bd (M4 l p) _:=inferInstance;have a2:Bd (LQ l p) _:=inferInstance;have a3:Bd (mkR (M4 l p) (LQ l p) p.2.2.2.2) _:=inferInstance;exact a3.mono (by omega)
theorem VW{l:Ln}{p:Pt}[h:Rpd p]:sgR (HX l p)=oM l p:=by
 unfold oM;rw[QN (VT (l:=l) (p:=p)).nn,RE.sgn2_re h.nn];unfold HX;rw[RE.vR_mk]
namespace RE
theorem Vt(a b q:RE):a+ -q+b=a+b-q:=by grind
theorem Ya(a b q:RE):a-q+b=a+b-q:=by grind
theorem shift_l(a b d q:RE)(h:a+b=a+d):a+ -q+b=a-q+d:=by
 rw[Vt,Ya,h]
end RE
theorem Ym{c:Ln}{p:Pt}[h:Rpd p]: -sgR (wr c p)=iq c p:=by
 unfold iq;have hr:Rdd (wr c p):=inferInstanceAs (Rdd (arT (sqP p (ctr c)) (-c.2.2)));rw[QN hr.nn,RE.sgn2_re h.nn]
 have e:RE.vR (wr c p)=RE.v2 (sqA p (ctr c)-c.2.2) (sqB p (ctr c)) p.2.2.2.2:=by
  have e1:=RE.vR_co (sqA p (ctr c)) (sqB p (ctr c)) p.2.2.2.2;unfold RE.vR RE.v2 at e1;unfold wr arT sqP RE.vR RE.v2;simp only;rw[RE.of_add,RE.of_neg,RE.of_sub]
  have e2:RE.of (coR (sqA p (ctr c)) (sqB p (ctr c)) p.2.2.2.2).1=RE.of (sqA p (ctr c)):=by
   unfold coR;cases D' (sqB p (ctr c)=0)<;>rfl
  rw[e2]at e1 ⊢;exact RE.shift_l _ _ _ _ e1
 rw[e]
theorem zX{q:Rat}(h:q≠0):aD q 0=if 0<q then 1 else-1:=by
 rcases(by grind:q<0\/0<q)with h'|h'
 ·rw[ef h',aph (by grind)]
 ·rw[dM h',apB h']
def uq:List En:=[enT nV,enL lg,enL ru,enL xY,enL n7,enT oW,enL ou,enL xU,enL S8,enL IC,enL aeN]
def Ul(a:BR)(_k:KT):OLR:=match D' (okR a/\okR a)with|T'=>S' [RV.d tR (hMu a a)]|F'=>none
def ad5:Cn 313 [tR]:=cn λ(a:BR)=>lf (okR a) [.d tR (av (ag a*ag a))] λh=>by
 refine aA uq (Ul a) ⟨0,?_⟩;unfold Ul;rw[dT ⟨h,h⟩];simp only[aQ]
def Nv:Cn 262 [tR,tR]:=cn λ(a b:BR)=>lf (okR a/\okR b) [.d tR (av (ag a+ag b))] λh=>qN [RV.d tR (hAd a b)] (eL uq) h
def Qq:Cn 261 [tR,tR]:=cn λ(a b:BR)=>lf (okR a/\okR b) [.d tR (av (ag a-ag b))] λh=>qN [RV.d tR (hSu a b)] (eL uq) h
def Cl:Cn 263 [tR,tR]:=cn λ(a b:BR)=>lf (okR a/\okR b) [.d tR (av (ag a*ag b))] λh=>qN [RV.d tR (hMu a b)] (eL uq) h
def wC:List En:=enL ad5::enL Nv::enL Qq::enL Cl::uq
def OK(r:BO3)(_k:KT):OLR:=og (o1 r.1) (og (o1 r.2.1) (og (o2 (hid (av (ag r.2.1*ag r.2.1))) r.2.2) (og (o2 (hid (av (ag r.1*ag r.1))) (hMu (hid (av (ag r.2.1*ag r.2.1))) r.2.2)) (S' [RV.d tR (hSu (hid (av (ag r.1*ag r.1))) (hMu (hid (av (ag r.2.1*ag r.2.1))) r.2.2))]))))
def Qe:Cn 260 [tO]:=cn λ(r:BO3)=>lf (ok Rt 90000 r) [.d tR (av (noR (dec r)))] λh=>by
 refine aA wC (OK r) ⟨0,?_⟩;have hr:=h;obtain⟨r,rfl,br⟩:=aJ hr;unfold OK;simp only[aV,Nat.reduceAdd,Nat.reduceLeDiff];rfl
def Sj(l:BO3)(p:BP)(_k:KT):OLR:=og (o2 l.1 p.1) (og (o2 l.2.1 p.2.2.1) (og (o2 (hMu l.1 p.1) (hMu l.2.1 p.2.2.1)) (og (o2 (hAd (hMu l.1 p.1) (hMu l.2.1 p.2.2.1)) l.2.2) (og (o2 l.1 p.2.1) (og (o2 l.2.1 p.2.2.2.1) (og (o2 (hMu l.1 p.2.1) (hMu l.2.1 p.2.2.2.1)) (og (D' (ok Rat 100000 (hSu (hAd (hMu l.1 p.1) (hMu l.2.1 p.2.2.1)) l.2.2)/\ok Rat 100000 (hAd (hMu l.1 p.2.1) (hMu l.2.1 p.2.2.2.1))/\ok Rat 100000 p.2.2.2.2/\0<=ag p.2.2.2.2)) (S' [RV.d tO (hid (enc (mkR (ag (hSu (hAd (hMu l.1 p.1) (hMu l.2.1 p.2.2.1)) l.2.2)) (ag (hAd (hMu l.1 p.2.1) (hMu l.2.1 p.2.2.2.1))) (ag p.2.2.2.2))))]))))))))
def agq:Cn 184 [tO,tP]:=cn λ(l:BO3) (p:BP)=>lf (ok Ln 300 l/\okP 4000 p) [.d tO (enc (HX (dec l) (dec p)))] λh=>by
 refine aA wC (Sj l p) ⟨0,?_⟩;obtain⟨hl,hp⟩:=h;obtain⟨l,rfl,bl⟩:=aJ hl;obtain⟨p,rfl,bp,rp⟩:=bL hp;have hn:0<=p.2.2.2.2:=rp.nn;unfold Sj;simp only[aV,Nat.reduceAdd,Nat.reduceLeDiff,dT hn];rfl
def UI(c:BO3)(p:BP)(_k:KT):OLR:=og (D' (okP 3500 p/\ok (Rat×Rat) 300 (c.1,c.2.1))) (og (o1 c.2.2) (og (D' (ok Rt 100000 (hid (enc (sqP (dec p) (dec (c.1,c.2.1)))))/\ok Rat 100000 (hNe c.2.2))) (S' [RV.d tO (hid (enc (arT (dec (hid (enc (sqP (dec p) (dec (c.1,c.2.1)))))) (ag (hNe c.2.2)))))])))
def agB:Cn 186 [tO,tP]:=cn λ(c:BO3) (p:BP)=>lf (ok Ln 300 c/\okP 3500 p) [.d tO (enc (wr (dec c) (dec p)))] λh=>by
 refine aA wC (UI c p) ⟨0,?_⟩;obtain⟨hc,hp⟩:=h;obtain⟨c,rfl,bc⟩:=aJ hc;obtain⟨p,rfl,bp,rp⟩:=bL hp;have e0:(dec ((av c.1,av c.2.1):BV):Rat×Rat)=ctr c:=ao (ctr c);have e1:D' (ok (Rat×Rat) 300 ((av c.1,av c.2.1):BV))=true:=okd (x:=ctr c) (by decide) (by decide);unfold UI;simp only[aV,Nat.reduceAdd,Nat.reduceMul,Nat.reduceLeDiff,aL,e0,e1];rfl
def Ky:List En:=enL Qe::enL agq::enL agB::wC
def UU(r:BO3)(_k:KT):OLR:=og (o1 r.1) (og (o1 r.2.1) (match(aD (ag r.1) 0)==(aD (ag r.2.1) 0)with|T'=>S' [RV.d ask (aD (ag r.1) 0)]|F'=>(match(aD (ag r.2.1) 0)==0 with|T'=>S' [RV.d ask (aD (ag r.1) 0)]|F'=>(match(aD (ag r.1) 0)==0 with|T'=>S' [RV.d ask (aD (ag r.2.1) 0)]|F'=>(og (D' (ok Rt 90000 r)) (og (o1 (hid (av (noR (dec r))))) (match D' ((aD (ag (hid (av (noR (dec r))))) 0)>0)with|T'=>S' [RV.d ask (aD (ag r.1) 0)]|F'=>S' [RV.d ask (aD (ag r.2.1) 0)])))))))
def IY:Cn 183 [tO]:=cn λ(r:BO3)=>lf (okT 90000 r) [.d ask (sgR (dec r))] λh=>by
 refine aA Ky (UU r) ⟨0,?_⟩;have hr:=h;obtain⟨r,rfl,br,rr⟩:=gn hr;unfold UU;simp only[aV,Nat.reduceAdd,Nat.reduceMul,Nat.reduceLeDiff,am,au];rw[ab4 rr];by_cases hb:r.2.1=0
 ·rw[aoP hb,hb,eo];by_cases ha:aD r.1 0=0
  ·rw[ha];rfl
  ·rw[show(aD r.1 0==0)=F' by simp[ha]];rfl
 ·have hn:=ahm rr hb;have e2:=zX hn;have hb2:=zX hb;rw[aoR hb,show(aD r.2.1 0==0)=F' by rw[am,aoR hb]];by_cases ha:r.1=0
  ·rw[aoP ha,ha,eo,show((0:Int)==aD r.2.1 0)=F' by rw[hb2];split<;>rfl];rfl
  ·have ha2:=zX ha;rw[aoR ha,show(aD r.1 0==0)=F' by rw[am,aoR ha]];cases hq:(aD r.1 0==aD r.2.1 0)
   ·have hne:aD r.1 0≠aD r.2.1 0:=by simpa using hq
    rw[e2];by_cases hp:0<noR r
    ·rw[aoP hp,apB hp,arx];rfl
    ·rw[aoR hp,aph hp];show S' [RV.d ask (aD r.2.1 0)]=S' [RV.d ask (aD r.1 0* -1)]
     rw[show aD r.2.1 0=aD r.1 0* -1 by
      rw[ha2,hb2]at hne ⊢;split at hne<;>split at hne<;>simp_all]
   ·rfl
def Ke:List En:=enT IY::Ky
def Qk(l:BO3)(p:BP)(_k:KT):OLR:=og (D' (ok Ln 300 l/\okP 4000 p)) (og (D' (okT 90000 (hid (enc (HX (dec l) (dec p)))))) (S' [RV.d ask (sgR (dec (hid (enc (HX (dec l) (dec p))))))]))
def ag6:Cn 104 [tO,tP]:=cn λ(l:BO3) (p:BP)=>lf (ok Ln 300 l/\okP 4000 p) [.d ask (oM (dec l) (dec p))] λh=>by
 refine aA Ke (Qk l p) ⟨0,?_⟩;obtain⟨hl,hp⟩:=h;obtain⟨l,rfl,bl⟩:=aJ hl;obtain⟨p,rfl,bp,rp⟩:=bL hp;unfold Qk;simp only[aV,Nat.reduceAdd,Nat.reduceMul,Nat.reduceLeDiff,aI,aL];rw[VW]
def Qj(c:BO3)(p:BP)(_k:KT):OLR:=og (D' (ok Ln 300 c/\okP 3500 p)) (og (D' (okT 90000 (hid (enc (wr (dec c) (dec p)))))) (S' [RV.d ask (i64.wrap (0-(sgR (dec (hid (enc (wr (dec c) (dec p))))))))]))
def aeA:Cn 106 [tO,tP]:=cn λ(c:BO3) (p:BP)=>lf (ok Ln 300 c/\okP 3500 p) [.d ask (iq (dec c) (dec p))] λh=>by
 refine aA Ke (Qj c p) ⟨0,?_⟩;obtain⟨hc,hp⟩:=h;obtain⟨c,rfl,bc⟩:=aJ hc;obtain⟨p,rfl,bp,rp⟩:=bL hp;have hr:Rdd (wr c p):=inferInstanceAs (Rdd (arT (sqP p (ctr c)) (-c.2.2)));have br:Bd (wr c p) 90000:=(inferInstance:Bd (arT (sqP p (ctr c)) (-c.2.2)) _).mono (by decide);have hb: -1<=sgR (wr c p)/\sgR (wr c p)<=1:=jb _ _ _;unfold Qj;simp only[aV,Nat.reduceLeDiff,aI,aL,aqH,aM (x:= -sgR (wr c p)) (by omega) (by omega)];rw[Ym]
def zy(c:BCU):BCU:=(c.1,c.2.1,(av (-ag c.2.2.1.1),c.2.2.1.2),!c.2.2.2.1,enc (flP (dec c.2.2.2.2.1)),enc (flP (dec c.2.2.2.2.2)))
instance aoH {p:Pt} [h:Rpd p]:Rpd (flP p):=by
 refine⟨?_⟩;have:=h.rd;unfold IZ flP at*
 simp only;have e:(-p.2.1=0)↔p.2.1=0:=by constructor<;>intro h<;>grind
 rw[e];exact this
instance aox {p:Pt} {j:Nat} [h:Bd p j]:Bd (flP p) j:=by
 have i1:Bd ((-p.1,-p.2.1,p.2.2.1,p.2.2.2.1,p.2.2.2.2):Pt) _:=inferInstance;exact i1.mono (jh (by omega) (jh (by omega) (jh (by omega) (jh (by omega) (by omega)))))
theorem qC{j k:Nat}{x:BP}(h:okP j x)(hj:j<=k)(hk:k<=480000):okP k x:=by
 obtain⟨p,rfl,bp,rp⟩:=bL h;exact aoQ (aL hj hk)
theorem M8{j k:Nat}{c:BCU}(h:okC j c)(hj:j<=k)(hk:k<=480000):okC k c:=⟨h.1,h.2.1,qC h.2.2.1 hj hk,qC h.2.2.2 hj hk⟩
theorem HZ{x:BP}(h:okP 4000 x):okP 4000 (enc (flP (dec x))):=by
 obtain⟨p,rfl,bp,rp⟩:=bL h;rw[ao];exact aoQ (aL (x:=flP p) (by decide) (by decide))
theorem ad8{x:BO3}(h:ok Ln 300 x):ok Ln 300 ((av (-ag x.1),x.2):BO3)/\(dec ((av (-ag x.1),x.2):BO3):Ln)=flC (dec x):=by
 obtain⟨l,rfl,bl⟩:=aJ h
 have e:((av (-ag (enc l:BO3).1),(enc l:BO3).2):BO3)=enc (flC l):=by
  rw[sS,lN,eP];rfl
 rw[e,ao,ao];refine⟨?_,rfl⟩;have i1:Bd (flC l) 300:=(inferInstance:Bd ((-l.1,l.2.1,l.2.2):Ln) _).mono (by decide);exact aoQ (okd (x:=flC l) (aoU _) (by decide))
def BK:List En:=[enL ou,enT DV,enT Ta,enL KW,enL Kk,enT r9,enT ag6,enT aeA]
def aac(c:BCU)(p:BP)(_k:KT):OLR:=match c.1 with|T'=>(og (D' (ok Ln 300 c.2.2.1/\okP 3500 p)) (S' [RV.d .bool ((iq (dec c.2.2.1) (dec p))==0)]))|F'=>(og (D' (ok Ln 300 c.2.1/\okP 4000 p)) (S' [RV.d .bool ((oM (dec c.2.1) (dec p))==0)]))
def act:Cn 128 [tCU,tP]:=cn λ(c:BCU) (p:BP)=>lf (okC 3500 c/\okP 3500 p) [.d .bool (dv (dC c) (dec p))] λh=>by
 refine aA BK (aac c p) ⟨0,?_⟩;obtain⟨hc,hp⟩:=h;have op:D' (okP 3500 p)=true:=aoP hp;have op4:D' (okP 4000 p)=true:=aoP (qC hp (by decide) (by decide));obtain⟨ar,li,ci,cw,fr,to⟩:=c;obtain⟨c1,c2,_⟩:=hc;unfold aac;cases ar
 ·have e:=(c2 rfl).1;simp only[aqW,dT e,op4,apV];rfl
 ·have e:=(c1 rfl).1;simp only[aqW,dT e,op,apV];rfl
def Z1(c:BO3)(p:BP)(_k:KT):OLR:=og (D' (okP 4000 p)) (og (D' (okT 15000 (hid (enc (yP (dec p))))/\ok Rat 15000 c.2.1)) (match D' ((eG (dec (hid (enc (yP (dec p))))) (ag c.2.1))>0)with|T'=>S' [RV.d .bool T']|F'=>(match(eG (dec (hid (enc (yP (dec p))))) (ag c.2.1))==0 with|T'=>(og (D' (okP 4000 p)) (og (D' (okT 15000 (hid (enc (xP (dec p))))/\ok Rat 15000 c.1)) (S' [RV.d .bool (D' ((eG (dec (hid (enc (xP (dec p))))) (ag c.1))>0))])))|F'=>S' [RV.d .bool F'])))
def aiD:Cn 366 [tO,tP]:=cn λ(c:BO3) (p:BP)=>lf (ok Ln 300 c/\okP 4000 p) [.d .bool (upR (dec c) (dec p))] λh=>by
 refine aA BK (Z1 c p) ⟨0,?_⟩;obtain⟨hc,hp⟩:=h;obtain⟨c,rfl,bc⟩:=aJ hc;obtain⟨p,rfl,bp,rp⟩:=bL hp;unfold Z1 upR;simp only[aV,Nat.reduceLeDiff,aI,aL];cases D' (eG (yP p) c.2.1>0)<;>cases eG (yP p) c.2.1==0<;>rfl
def Ze(p:BP)(_k:KT):OLR:=og (o1 p.1) (og (o1 p.2.1) (S' [RV.d tP (hNe p.1,(hNe p.2.1,p.2.2))]))
def aic:Cn 259 [tP]:=cn λ(p:BP)=>lf (okP 4000 p) [.d tP (enc (flP (dec p)))] λh=>by
 refine aA BK (Ze p) ⟨0,?_⟩;have hp:=h;obtain⟨p,rfl,bp,rp⟩:=bL hp;unfold Ze;simp only[aV,Nat.reduceLeDiff];rfl
def ai7:Ctx:=CX (ens BK) []
def aiO(c:BCU)(_k:KT):OLR:=match c.1 with|T'=>S' [RV.d tCU (c.1,(c.2.1,(c.2.2.1,(!c.2.2.2.1,(c.2.2.2.2.2,c.2.2.2.2.1)))))]|F'=>S' [RV.d tCU (c.1,(c.2.1,(c.2.2.1,(F',(c.2.2.2.2.2,c.2.2.2.2.1)))))]
theorem ali(c:BCU):RS ai7 213 [.d tCU c] (aiO c):=rsX
def Je:Cn 213 [tCU]:=cn λ(c:BCU)=>lf True [.d tCU (gJ c)] λ_=>by
 refine aX BK (ali _ ⟨0,?_⟩);obtain⟨ar,li,ci,cw,fr,to⟩:=c;cases ar<;>rfl
def QL:List En:=enT act::enT aiD::enL aic::enL Je::BK
def aaq(c:BO3)(p q:BP)(_k:KT):OLR:=og (D' (ok Ln 300 c/\okP 4000 p)) (og (D' (ok Ln 300 c/\okP 4000 q)) (match !((upR (dec c) (dec p))==(upR (dec c) (dec q)))with|T'=>(match upR (dec c) (dec q)with|T'=>S' [RV.d ask (-1)]|F'=>S' [RV.d ask 1])|F'=>(og (D' (okP 4000 p)) (og (D' (okP 4000 q)) (og (D' (okT 15000 (hid (enc (xP (dec p))))/\okT 15000 (hid (enc (xP (dec q)))))) (match upR (dec c) (dec p)with|T'=>S' [RV.d ask (i64.wrap (0-(bj (dec (hid (enc (xP (dec p))))) (dec (hid (enc (xP (dec q))))))))]|F'=>S' [RV.d ask (bj (dec (hid (enc (xP (dec p))))) (dec (hid (enc (xP (dec q))))))]))))))
def ajn:Cn 312 [tO,tP,tP]:=cn λ(c:BO3) (p q:BP)=>lf (ok Ln 300 c/\okP 4000 p/\okP 4000 q) [.d ask (jI bj (ptd (dec c) (dec p)) (ptd (dec c) (dec q)))] λh=>by
 refine aA QL (aaq c p q) ⟨0,?_⟩;obtain⟨hc,hp,hq⟩:=h;obtain⟨c,rfl,bc⟩:=aJ hc;obtain⟨p,rfl,bp,rp⟩:=bL hp;obtain⟨q,rfl,bq,rq⟩:=bL hq;have xb:=wR (xP p) (xP q);unfold aaq;simp only[aV,Nat.reduceLeDiff,aI,aL,aM (x:= -bj (xP p) (xP q)) (by omega) (by omega),aqH];unfold jI ptd;cases upR c p<;>cases upR c q<;>rfl
def abg(c:BCU)(_k:KT):OLR:=match D' (okR c.2.2.1.1)with|T'=>(match D' (okP 4000 c.2.2.2.2.1)with|T'=>(match D' (okP 4000 c.2.2.2.2.2)with|T'=>S' [RV.d tCU (c.1,(c.2.1,((hNe c.2.2.1.1,c.2.2.1.2),(!c.2.2.2.1,(hid (enc (flP (dec c.2.2.2.2.1))),hid (enc (flP (dec c.2.2.2.2.2))))))))]|F'=>none)|F'=>none)|F'=>none
def amM:Cn 258 [tCU]:=cn λ(c:BCU)=>lf (rD c.2.2.1/\okP 4000 c.2.2.2.2.1/\okP 4000 c.2.2.2.2.2) [.d tCU (zy c)] λh=>by
 refine aA QL (abg c) ⟨0,?_⟩;obtain⟨hc,hf,ht⟩:=h
 have e:okR c.2.2.1.1:=by
  obtain⟨l,hl,bl⟩:=aJ hc.1;rw[hl,sS,lN];exact aoQ (Aa (q:=l.1) (by decide))
 unfold abg;rw[dT e,dT hf,dT ht];simp only[aQ];rfl
def aas:List En:=enT ajn::enL amM::QL
def acI(c:BO3)(f p q:BP)(_k:KT):OLR:=og (D' (ok Ln 300 c/\okP 4000 p/\okP 4000 f)) (og (D' (ok Ln 300 c/\okP 4000 q/\okP 4000 f)) (match !((D' ((jI bj (ptd (dec c) (dec p)) (ptd (dec c) (dec f)))<0))==(D' ((jI bj (ptd (dec c) (dec q)) (ptd (dec c) (dec f)))<0)))with|T'=>(match D' ((jI bj (ptd (dec c) (dec q)) (ptd (dec c) (dec f)))<0)with|T'=>S' [RV.d ask (-1)]|F'=>S' [RV.d ask 1])|F'=>(og (D' (ok Ln 300 c/\okP 4000 p/\okP 4000 q)) (S' [RV.d ask (jI bj (ptd (dec c) (dec p)) (ptd (dec c) (dec q)))]))))
def ajJ:Cn 257 [tO,tP,tP,tP]:=cn λ(c:BO3) (f p q:BP)=>lf (ok Ln 300 c/\okP 4000 f/\okP 4000 p/\okP 4000 q) [.d ask (lA bj (ptd (dec c) (dec f)) (ptd (dec c) (dec p)) (ptd (dec c) (dec q)))] λh=>by
 refine aA aas (acI c f p q) ⟨0,?_⟩;obtain⟨hc,hf,hp,hq⟩:=h;unfold acI lA;rw[dT (show ok Ln 300 c/\okP 4000 p/\okP 4000 f from⟨hc,hp,hf⟩),dT (show ok Ln 300 c/\okP 4000 q/\okP 4000 f from⟨hc,hq,hf⟩),dT (show ok Ln 300 c/\okP 4000 p/\okP 4000 q from⟨hc,hp,hq⟩)];cases D' (jI bj (ptd (dec c) (dec p)) (ptd (dec c) (dec f))<0)<;>cases D' (jI bj (ptd (dec c) (dec q)) (ptd (dec c) (dec f))<0)<;>rfl
def YN:List En:=enT ajJ::aas
def YF(c:BCU)(p q:BP)(_k:KT):OLR:=match !c.1 with|T'=>(og (D' (okP 4000 p/\okP 4000 q)) (og (D' (okP 4000 c.2.2.2.2.1/\okP 4000 c.2.2.2.2.2)) (match D' ((aB (dec c.2.2.2.2.1) (dec c.2.2.2.2.2))>0)with|T'=>S' [RV.d ask (i64.wrap (0-(aB (dec p) (dec q))))]|F'=>S' [RV.d ask (aB (dec p) (dec q))])))|F'=>(match !c.2.2.2.1 with|T'=>(og (D' (ok Ln 300 c.2.2.1/\okP 4000 c.2.2.2.2.1/\okP 4000 p/\okP 4000 q)) (S' [RV.d ask (lA bj (ptd (dec c.2.2.1) (dec c.2.2.2.2.1)) (ptd (dec c.2.2.1) (dec p)) (ptd (dec c.2.2.1) (dec q)))]))|F'=>(og (D' (rD c.2.2.1/\okP 4000 c.2.2.2.2.1/\okP 4000 c.2.2.2.2.2)) (og (D' (okP 4000 p)) (og (D' (okP 4000 q)) (og (D' (ok Ln 300 ((((hid (zy c)).2).2).1)/\okP 4000 ((((((hid (zy c)).2).2).2).2).1)/\okP 4000 (hid (enc (flP (dec p))))/\okP 4000 (hid (enc (flP (dec q)))))) (S' [RV.d ask (lA bj (ptd (dec ((((hid (zy c)).2).2).1)) (dec ((((((hid (zy c)).2).2).2).2).1))) (ptd (dec ((((hid (zy c)).2).2).1)) (dec (hid (enc (flP (dec p)))))) (ptd (dec ((((hid (zy c)).2).2).1)) (dec (hid (enc (flP (dec q)))))))]))))))
def LJ:Cn 181 [tCU,tP,tP]:=cn λ(c:BCU) (p q:BP)=>lf (okC 4000 c/\okP 4000 p/\okP 4000 q) [.d ask (ck (dC c) (dec p) (dec q))] λh=>by
 refine aA YN (YF c p q) ⟨0,?_⟩;obtain⟨hc,hp,hq⟩:=h;have xb:=Et (dec p) (dec q);obtain⟨ar,li,ci,cw,fr,to⟩:=c;obtain⟨c1,c2,c3,c4⟩:=hc;simp only at c1 c2 c3 c4;unfold YF ck;cases ar
 ·simp only[aqH,aM (x:= -aB (dec p) (dec q)) (by omega) (by omega),dT (show okP 4000 p/\okP 4000 q from⟨hp,hq⟩),dT (show okP 4000 fr/\okP 4000 to from⟨c3,c4⟩),Bool.not_false];simp only[dC,frC,toC,cond_false];by_cases hd:aB (dec fr) (dec to)>0
  ·simp[hd]
  ·simp[hd]
 ·have e:=(c1 rfl).1;have hci:=c1 rfl;obtain⟨f1,f2⟩:=ad8 e;cases cw
  ·simp only[dT (show ok Ln 300 ci/\okP 4000 fr/\okP 4000 p/\okP 4000 q from⟨e,c3,hp,hq⟩),Bool.not_true,Bool.not_false];rfl
  ·have hm:ok Ln 300 (zy (T',li,ci,T',fr,to)).2.2.1/\okP 4000 (zy (T',li,ci,T',fr,to)).2.2.2.2.1/\okP 4000 (enc (flP (dec p)))/\okP 4000 (enc (flP (dec q))):=⟨f1,HZ c3,HZ hp,HZ hq⟩
   have m1:(dec (zy (T',li,ci,T',fr,to)).2.2.1:Ln)=flC (dec ci):=f2;have m2:(dec (zy (T',li,ci,T',fr,to)).2.2.2.2.1:Pt)=flP (dec fr):=ao _;simp only[aQ,dT (show rD ci/\okP 4000 fr/\okP 4000 to from⟨hci,c3,c4⟩),dT hp,dT hq,dT hm,Bool.not_true,m1,m2,ao];rfl
def aiZ:List En:=enT LJ::YN
def YB(c:BCU)(p:BP)(_k:KT):OLR:=og (D' (okC 3500 c/\okP 3500 p)) (match dv (dC c) (dec p)with|T'=>(og (D' (okC 4000 c/\okP 4000 c.2.2.2.2.1/\okP 4000 p)) (match D' ((ck (dC c) (dec c.2.2.2.2.1) (dec p))<=0)with|T'=>(og (D' (okC 4000 c/\okP 4000 p/\okP 4000 c.2.2.2.2.2)) (S' [RV.d .bool (D' ((ck (dC c) (dec p) (dec c.2.2.2.2.2))<=0))]))|F'=>S' [RV.d .bool F']))|F'=>S' [RV.d .bool F'])
def LL:Cn 97 [tCU,tP]:=cn λ(c:BCU) (p:BP)=>lf (okC 3500 c/\okP 3500 p) [.d .bool (onR (dC c) (dec p))] λh=>by
 refine aA aiZ (YB c p) ⟨0,?_⟩;obtain⟨hc,hp⟩:=h;have hc4:=M8 (k:=4000) hc (by decide) (by decide);have hp4:=qC (k:=4000) hp (by decide) (by decide);unfold YB onR;rw[dT (show okC 3500 c/\okP 3500 p from⟨hc,hp⟩),dT (show okC 4000 c/\okP 4000 c.2.2.2.2.1/\okP 4000 p from⟨hc4,hc4.2.2.1,hp4⟩),dT (show okC 4000 c/\okP 4000 p/\okP 4000 c.2.2.2.2.2 from⟨hc4,hp4,hc4.2.2.2⟩)];cases dv (dC c) (dec p)
 ·rfl
 ·show(match decide (ck (dC c) (frC (dC c)) (dec p)<=0)with|true=>some [RV.d .bool (decide (ck (dC c) (dec p) (toC (dC c))<=0))]|false=>some [RV.d .bool false])=_;cases decide (ck (dC c) (frC (dC c)) (dec p)<=0)<;>rfl
end Go.Proofs.YtoimchcjhdcdmaaGreat
end
