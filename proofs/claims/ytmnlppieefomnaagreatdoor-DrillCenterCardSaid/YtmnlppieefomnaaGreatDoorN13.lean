/- Orders on circles and segments, in plain terms: ranks, finite checks. -/
import Derived.Test.YtmnlppieefomnaaGreatDoorN11
import Derived.Test.YtmnlppieefomnaaGreatDoorN12
noncomputable section
namespace Go.Proofs.YtmnlppieefomnaaGreatDoor
open Go.RowKit Go.IntKind
theorem an2:type_of% @not_false_eq_true:=@not_false_eq_true
theorem apm:type_of% @Rat.mul_eq_zero:=@Rat.mul_eq_zero
section
section
variable {α:Type}
open Classical in
def rk(lt:α->α->Prop):List α->α->Nat
 |[],_=>0
 |e::r,x=>(if lt e x then 1 else 0)+rk lt r x
structure mW (lt:α->α->Prop):Prop where
 irr:∀x,¬lt x x
 tr:∀x y z,lt x y->lt y z->lt x z
 tri:∀x y,lt x y\/x=y\/lt y x
variable {lt:α->α->Prop}
theorem Xg(h:mW lt){x y:α}(hxy:lt x y):∀L,rk lt L x<=rk lt L y
 |[]=>amm _
 |e::r=>by
  have:=Xg h hxy r;unfold rk;by_cases h1:lt e x
  ·rw[am2 h1,am2 (h.tr _ _ _ h1 hxy)];omega
  ·rw[amJ h1];omega
theorem xl(h:mW lt){x y:α}(hxy:lt x y):∀{L},x∈L->rk lt L x<rk lt L y
 |e::r,hm=>by
  have h0:=Xg h hxy r;unfold rk;rcases amy.1 hm with rfl|hm
  ·rw[amJ (h.irr _),am2 hxy];omega
  ·have:=xl h hxy hm;by_cases h1:lt e x
   ·rw[am2 h1,am2 (h.tr _ _ _ h1 hxy)];omega
   ·rw[amJ h1];omega
theorem ac0(L:List α)(x:α):rk lt L x<=L.length:=by
 induction L with
 |nil=>exact amm _
 |cons e r ih=>
  unfold rk;rw[amD];split<;>omega
theorem qE(h:mW lt){x:α}:∀{L},x∈L->rk lt L x<L.length
 |e::r,hm=>by
  unfold rk;rw[amD];rcases amy.1 hm with rfl|hm
  ·rw[amJ (h.irr _)];have:=ac0 (lt:=lt) r x;omega
  ·have:=qE h hm;split<;>omega
def uN(lt:α->α->Prop)(c:α->α->Int):Prop:=∀x y,(lt x y->c x y= -1)/\(x=y->c x y=0)/\(lt y x->c x y=1)
def cI(i j:Nat):Int:=if i<j then-1 else if i=j then 0 else 1
theorem yH(h:mW lt){c:α->α->Int}(hc:uN lt c){L:List α}{x y:α}(hx:x∈L)(hy:y∈L):c x y=cI (rk lt L x) (rk lt L y):=by
 unfold cI;rcases h.tri x y with e|e|e
 ·rw[(hc x y).1 e,am2 (xl h e hx)]
 ·subst e;rw[(hc x x).2.1 rfl,amJ (Nat.lt_irrefl _),am2 rfl]
 ·have:=xl h e hy;rw[(hc x y).2.2 e,amJ (by omega),amJ (by omega)]
end
section
variable {α:Type} (cmp:α->α->Int)
def qX(p q:Bool×α):Int:=bif p.1==q.1 then(bif p.1 then-cmp p.2 q.2 else cmp p.2 q.2)else(bif p.1 then-1 else 1)
def oB(f p:Bool×α):Int:=bif qX cmp p f==0 then 0 else bif decide (qX cmp p f>0)then 1 else 2
def zs(n:Int):Int:=if n<0 then-1 else if n=0 then 0 else 1
def ml(f p q:Bool×α):Int:=bif oB cmp f p==oB cmp f q then zs (qX cmp p q)else zs (oB cmp f p-oB cmp f q)
def jD(p q:Bool×α):Int:=bif p.1==q.1 then(bif p.1 then-cmp p.2 q.2 else cmp p.2 q.2)else(bif q.1 then-1 else 1)
def lz(f p q:Bool×α):Int:=bif decide (jD cmp p f<0)==decide (jD cmp q f<0)then jD cmp p q else(bif decide (jD cmp q f<0)then-1 else 1)
variable {cmp} {β:Type} {cmq:β->β->Int}
theorem rQ{u v:Bool}{a b:α}{c d:β}(h:cmp a b=cmq c d):qX cmp (u,a) (v,b)=qX cmq (u,c) (v,d):=by unfold qX;rw[h]
theorem rP{u v:Bool}{a b:α}{c d:β}(h:cmp a b=cmq c d):jD cmp (u,a) (v,b)=jD cmq (u,c) (v,d):=by unfold jD;rw[h]
theorem xm{u v w:Bool}{f p q:α}{f' p' q':β}(h1:cmp p f=cmq p' f')(h2:cmp q f=cmq q' f')(h3:cmp p q=cmq p' q'):ml cmp (u,f) (v,p) (w,q)=ml cmq (u,f') (v,p') (w,q'):=by
 unfold ml oB;rw[rQ h1,rQ h2,rQ h3]
theorem fB{u v w:Bool}{f p q:α}{f' p' q':β}(h1:cmp p f=cmq p' f')(h2:cmp q f=cmq q' f')(h3:cmp p q=cmq p' q'):lz cmp (u,f) (v,p) (w,q)=lz cmq (u,f') (v,p') (w,q'):=by
 unfold lz;rw[rP h1,rP h2,rP h3]
end
def zk(k i l j:Nat):Bool:=(k !=0||(bif l==0 then i==j else decide (j<i)))&&(k !=2||(bif l==2 then i==j else decide (i<j)))
def upA(k:Nat):Bool:=k==0||k==1
def ufA(k:Nat):Bool:=k==1||k==2
def dI(i j:Nat):Int:=cI j i
def DE(k i l j m n:Nat):Bool:=zk k i l j&&zk l j k i&&zk k i m n&&zk m n k i&&zk l j m n&&zk m n l j
theorem TE:∀kF kP kT:Fin 4,∀iF iP iT:Fin 3,DE kF.1 iF.1 kP.1 iP.1 kT.1 iT.1=true->
  decide (ml cI (upA kF.1,iF.1) (upA kP.1,iP.1) (upA kT.1,iT.1)<=0)=(decide (lz cI (upA kF.1,iF.1) (upA kF.1,iF.1) (upA kP.1,iP.1)<=0)&&decide (lz cI (upA kF.1,iF.1) (upA kP.1,iP.1) (upA kT.1,iT.1)<=0)):=by decide+kernel
theorem aby:∀kF kP kT:Fin 4,∀iF iP iT:Fin 3,DE kF.1 iF.1 kP.1 iP.1 kT.1 iT.1=true->
  decide (ml cI (upA kT.1,iT.1) (upA kP.1,iP.1) (upA kF.1,iF.1)<=0)=(decide (lz dI (ufA kF.1,iF.1) (ufA kF.1,iF.1) (ufA kP.1,iP.1)<=0)&&decide (lz dI (ufA kF.1,iF.1) (ufA kP.1,iP.1) (ufA kT.1,iT.1)<=0)):=by decide+kernel
def Ro(a b:Int):Bool:=a==0||b==0||a==b
def ajn(d a b:Int):Bool:=decide ((bif decide (d>0)then-a else a)<=0)&&decide ((bif decide (d>0)then-b else b)<=0)
theorem Ut:∀f p t:Fin 3,Ro (cI f.1 p.1) (cI p.1 t.1)=ajn (cI f.1 t.1) (cI f.1 p.1) (cI p.1 t.1):=by decide+kernel
namespace RE
theorem lt_lin:mW (λx y:RE=>x<y):=⟨lt_irrefl,λ_ _ _=>eK,ov⟩
theorem A8(x y:RE)(h1:x<y):x-y<0:=by grind
theorem Cx(x y:RE)(h1:y<x):0<x-y:=by grind
theorem sg_cmpO:uN (λx y:RE=>x<y) (λx y=>sg (x-y)):=λx y=>⟨λh=>oA (A8 _ _ h),λh=>by subst h;show sg (x-x)=0;rw[sub_self,fe],λh=>jc (Cx _ _ h)⟩
def adn(p q:RE×RE):Prop:=p.1<q.1\/(p.1=q.1/\p.2<q.2)
theorem gv:mW adn:=by
 refine⟨λx h=>?_,λx y z h1 h2=>?_,λx y=>?_⟩
 ·rcases h with h|h
  ·exact lt_irrefl _ h
  ·exact lt_irrefl _ h.2
 ·rcases h1 with h1|⟨h1,h1'⟩
  ·rcases h2 with h2|⟨h2,h2'⟩
   ·exact .inl (eK h1 h2)
   ·exact .inl (h2▸h1)
  ·rcases h2 with h2|⟨h2,h2'⟩
   ·exact .inl (h1▸h2)
   ·exact .inr ⟨h1.trans h2,eK h1' h2'⟩
 ·rcases ov x.1 y.1 with h|h|h
  ·exact .inl (.inl h)
  ·rcases ov x.2 y.2 with h'|h'|h'
   ·exact .inl (.inr ⟨h,h'⟩)
   ·exact .inr (.inl (apB h h'))
   ·exact .inr (.inr (.inr ⟨h.symm,h'⟩))
  ·exact .inr (.inr (.inl h))
def lxc(p q:RE×RE):Int:=bif sg (p.1-q.1)==0 then sg (p.2-q.2)else sg (p.1-q.1)
theorem fh:uN adn lxc:=λp q=>by
 unfold lxc;refine⟨λh=>?_,λh=>?_,λh=>?_⟩
 ·rcases h with h|⟨h,h'⟩
  ·rw[oA (A8 _ _ h)];rfl
  ·rw[h,sub_self,fe,oA (A8 _ _ h')];rfl
 ·subst h;rw[sub_self,sub_self,fe];rfl
 ·rcases h with h|⟨h,h'⟩
  ·rw[jc (Cx _ _ h)];rfl
  ·rw[<-h,sub_self,fe,jc (Cx _ _ h')];rfl
def cls(u v:RE):Nat:=bif sg v==1 then 1 else bif sg v== -1 then 3 else bif sg u==1 then 0 else 2
theorem Ba(u v:RE):cls u v<4:=by
 unfold cls;cases sg v==1<;>cases sg v== -1<;>cases sg u==1<;>simp
theorem abI(u v:RE):(decide (sg v>0)||(sg v==0&&decide (sg u>0)))=upA (cls u v):=by
 unfold cls;rcases c8 v with⟨_,h⟩|⟨_,h⟩|⟨_,h⟩<;>rcases c8 u with⟨_,h'⟩|⟨_,h'⟩|⟨_,h'⟩<;>rw[h,h']<;>rfl
theorem aeq{u v Q:RE}(hQ:0<Q)(h:u*u+v*v=Q):(decide (sg v>0)||(sg v==0&&decide (-sg u>0)))=ufA (cls u v):=by
 unfold cls;rcases c8 v with⟨_,h1⟩|⟨h0,h1⟩|⟨_,h1⟩<;>rcases c8 u with⟨_,h'⟩|⟨h2,h'⟩|⟨_,h'⟩<;>rw[h1,h']<;>try rfl
 rw[h0,h2,mul_zero,add_zero]at h;rw[<-h]at hQ;exact absurd hQ (lt_irrefl _)
theorem LX(u v w z Q:RE):2*((u-(0))*(w-(u)))+((w-(u))*(w-(u)))+((u*u+v*v-(Q)))+((Q-(w*w+z*z)))+((z*z-(0)))+((0-(v))*(v-(0)))=0:=by grind
theorem aa9(u v w z Q:RE)(h1:u*u+v*v=Q)(h2:w*w+z*z=Q)(h3:v=0)(h4:0<u)(h5:0<=z*z):w<=u:=λhg=>far (aW (aW (aW (aW (aW (H8 (by decide+kernel:(0:Rat)<2) (mul_pos (bz h4) (bz hg))) (le_of_lt (mul_pos (bz hg) (bz hg)))) (aJ (sM h1))) (aJ (t7 h2))) (aJ h5)) (ct (aJ (t7 h3)) (aJ (sM h3)))) (LX u v w z Q)
theorem M3(u v w z Q:RE):2*((0-(u))*(u-(w)))+((u-(w))*(u-(w)))+((u*u+v*v-(Q)))+((Q-(w*w+z*z)))+((z*z-(0)))+((0-(v))*(v-(0)))=0:=by grind
theorem adI(u v w z Q:RE)(h1:u*u+v*v=Q)(h2:w*w+z*z=Q)(h3:v=0)(h4:u<0)(h5:0<=z*z):u<=w:=λhg=>far (aW (aW (aW (aW (aW (H8 (by decide+kernel:(0:Rat)<2) (mul_pos (bz h4) (bz hg))) (le_of_lt (mul_pos (bz hg) (bz hg)))) (aJ (sM h1))) (aJ (t7 h2))) (aJ h5)) (ct (aJ (t7 h3)) (aJ (sM h3)))) (M3 u v w z Q)
theorem RH(u w z Q:RE)(h1:u*u=Q)(h2:w*w+z*z=Q)(h3:w*w=u*u):z*z<=0:=by grind
theorem I3{z:RE}(h:z*z<=0):z=0:=by
 rcases ov z 0 with e|e|e
 ·have:=mul_pos (ve e) (ve e);rw[neg_mul,mul_neg,neg_neg]at this
  exact absurd this (λh'=>lt_irrefl _ (eK h' (by
   rcases ph (FG z)with h2|h2
   ·exact absurd h2 ((B4 _ _).1 h)
   ·rw[h2]at h';exact absurd h' (lt_irrefl _))))
 ·exact e
 ·exact absurd (mul_pos e e) ((B4 _ _).1 h)
theorem HU{u v:RE}:cls u v=0↔v=0/\0<u:=by
 unfold cls;rcases c8 v with⟨a,h1⟩|⟨a,h1⟩|⟨a,h1⟩<;>rcases c8 u with⟨b,h'⟩|⟨b,h'⟩|⟨b,h'⟩<;>rw[h1,h']<;>simp[a,b]<;>first|exact lt_irrefl _|exact λh=>absurd (eK h b) (lt_irrefl _)|(intro h;rw[h]at a;exact absurd a (lt_irrefl _))|skip
end RE
end
section
def xP(p:Pt):Rt:=coR p.1 p.2.1 p.2.2.2.2
def yP(p:Pt):Rt:=coR p.2.2.1 p.2.2.2.1 p.2.2.2.2
def atP(v:Rat×Rat):Pt:=(v.1,0,v.2,0,0)
def rdP(p:Pt):Pt:=(p.1,p.2.1,p.2.2.1,p.2.2.2.1,bif decide (p.2.1=0)&&decide (p.2.2.2.1=0)then 0 else p.2.2.2.2)
def mkP(x y:Rt):Pt:=rdP (x.1,x.2.1,y.1,y.2.1,bif decide (x.2.1=0)then y.2.2 else x.2.2)
def C7(x y:Rt):Prop:=x.2.1=0\/y.2.1=0\/x.2.2=y.2.2
instance (x y:Rt):Decidable (C7 x y):=by unfold C7;infer_instance
def aB(p q:Pt):Int:=bif bQ (xP p) (xP q)==0 then bQ (yP p) (yP q)else bQ (xP p) (xP q)
def trP(p:Pt)(v:Rat×Rat):Pt:=(p.1+v.1,p.2.1,p.2.2.1+v.2,p.2.2.2.1,p.2.2.2.2)
def bkV(v:Rat×Rat):Rat×Rat:=(-v.1,-v.2)
def sqA(p:Pt)(v:Rat×Rat):Rat:=(p.1-v.1)*(p.1-v.1)+(p.2.2.1-v.2)*(p.2.2.1-v.2)+(p.2.1*p.2.1+p.2.2.2.1*p.2.2.2.1)*p.2.2.2.2
def sqB(p:Pt)(v:Rat×Rat):Rat:=(p.1-v.1)*p.2.1+(p.2.2.1-v.2)*p.2.2.2.1+((p.1-v.1)*p.2.1+(p.2.2.1-v.2)*p.2.2.2.1)
def sqP(p:Pt)(v:Rat×Rat):Rt:=coR (sqA p v) (sqB p v) p.2.2.2.2
def G6(p:Pt):Prop:=(p.2.1=0/\p.2.2.2.1=0/\p.2.2.2.2=0)\/(¬(p.2.1=0/\p.2.2.2.1=0)/\0<p.2.2.2.2/\dP p.2.2.2.2=false)
instance (p:Pt):Decidable (G6 p):=by unfold G6;infer_instance
class Rpd (p:Pt):Prop where
 rd:G6 p
def okP(k:Nat)(x:BP):Prop:=ok Pt k x/\G6 (dec x)
instance (k:Nat) (x:BP):Decidable (okP k x):=by unfold okP;infer_instance
theorem cM{k:Nat}{x:BP}(h:okP k x):∃v:Pt,x=enc v/\Bd v k/\Rpd v:=by
 obtain⟨h1,h2⟩:=h;obtain⟨v,rfl,bv⟩:=aM h1;rw[au]at h2;exact⟨v,rfl,bv,⟨h2⟩⟩
theorem aU{x:Pt}{j k:Nat}[h:Bd x j][r:Rpd x](hj:j<=k)(hk:k<=480000):decide (okP k (enc x))=true:=amh ⟨amj (okd hj hk),by rw[au];exact r.rd⟩
theorem Rpd.ns{p:Pt}(h:Rpd p):Ns p.2.2.2.2:=⟨by rcases h.rd with h|h;exact .inl h.2.2;exact .inr h.2⟩
instance al8 {p:Pt} [h:Rpd p]:Ns p.2.2.2.2:=h.ns
theorem Rpd.nn{p:Pt}(h:Rpd p):0<=p.2.2.2.2:=h.ns.nn
theorem Sk{a b c:Rat}(h:Ns c)(hb:b=0\/c≠0):Rdd (coR a b c):=by
 refine⟨?_⟩;unfold coR;by_cases e:b=0
 ·rw[amh e];exact .inl ⟨rfl,rfl⟩
 ·rw[ami e];rcases h.ns with h|h
  ·rcases hb with hb|hb
   ·exact absurd hb e
   ·exact absurd h hb
  ·exact .inr ⟨e,h⟩
theorem Rpd.b0{p:Pt}(h:Rpd p):(p.2.1=0/\p.2.2.2.1=0)\/p.2.2.2.2≠0:=by
 rcases h.rd with h|h
 ·exact .inl ⟨h.1,h.2.1⟩
 ·exact .inr (by have:=h.2.1;grind)
instance alK {p:Pt} [h:Rpd p]:Rdd (xP p):=Sk h.ns (by rcases h.b0 with h|h;exact .inl h.1;exact .inr h)
instance alF {p:Pt} [h:Rpd p]:Rdd (yP p):=Sk h.ns (by rcases h.b0 with h|h;exact .inl h.2;exact .inr h)
instance al6 {p:Pt} {v:Rat×Rat} [h:Rpd p]:Rdd (sqP p v):=Sk h.ns (by
 rcases h.b0 with h|h
 ·refine .inl ?_;unfold sqB;rw[h.1,h.2];grind
 ·exact .inr h)
instance alZ {v:Rat×Rat}:Rpd (atP v):=⟨.inl ⟨rfl,rfl,rfl⟩⟩
instance al7 {p:Pt} {v:Rat×Rat} [h:Rpd p]:Rpd (trP p v):=⟨h.rd⟩
theorem aff{x y:Rt}(hx:Rdd x)(hy:Rdd y)(_h:C7 x y):Rpd (mkP x y):=by
 refine⟨?_⟩;unfold mkP rdP G6;dsimp only;rcases hx.rd with⟨a1,a2⟩|⟨a1,a2,a3⟩<;>rcases hy.rd with⟨b1,b2⟩|⟨b1,b2,b3⟩
 ·simp[a1,b1]
 ·simp[a1,b1,b2,b3]
 ·simp[a1,b1,a2,a3]
 ·simp[a1,b1,a2,a3]
section
variable {p:Pt} {j:Nat}
instance al3 [h:Bd p j]:Bd (xP p) (mx j (mx j j)):=inferInstanceAs (Bd (coR p.1 p.2.1 p.2.2.2.2) _)
instance al0 [h:Bd p j]:Bd (yP p) (mx j (mx j j)):=inferInstanceAs (Bd (coR p.2.2.1 p.2.2.2.1 p.2.2.2.2) _)
instance alp {v:Rat×Rat} [h:Bd v j]:Bd (atP v) (mx j (mx 1 (mx j (mx 1 1)))):=inferInstanceAs (Bd ((v.1,0,v.2,0,0):Pt) _)
instance alT {v:Rat×Rat} {k:Nat} [h:Bd p j] [h':Bd v k]:Bd (trP p v) (mx (j+k+1) (mx j (mx (j+k+1) (mx j j)))):=inferInstanceAs (Bd ((p.1+v.1,p.2.1,p.2.2.1+v.2,p.2.2.2.1,p.2.2.2.2):Pt) _)
instance alW {v:Rat×Rat} [h:Bd v j]:Bd (bkV v) (mx j j):=inferInstanceAs (Bd ((-v.1,-v.2):Rat×Rat) _)
end
theorem jz{j k n:Nat}(h1:j<=n)(h2:k<=n):mx j k<=n:=by
 unfold mx;cases decide (j<=k)
 ·exact h1
 ·exact h2
section
variable {p:Pt} {v:Rat×Rat} {j k:Nat}
instance alQ [h:Bd p j] [h':Bd v k]:Bd (sqA p v) (10*(j+k+1)):=by
 have a1:Bd (p.1-v.1) _:=inferInstance;have a2:Bd (p.2.2.1-v.2) _:=inferInstance;have a3:Bd (p.2.1*p.2.1+p.2.2.2.1*p.2.2.2.1) _:=inferInstance;have i:Bd ((p.1-v.1)*(p.1-v.1)+(p.2.2.1-v.2)*(p.2.2.1-v.2)+(p.2.1*p.2.1+p.2.2.2.1*p.2.2.2.1)*p.2.2.2.2) _:=inferInstance;exact i.mono (by omega)
instance alk [h:Bd p j] [h':Bd v k]:Bd (sqB p v) (10*(j+k+1)):=by
 have a1:Bd (p.1-v.1) _:=inferInstance;have a2:Bd (p.2.2.1-v.2) _:=inferInstance;have i:Bd ((p.1-v.1)*p.2.1+(p.2.2.1-v.2)*p.2.2.2.1+((p.1-v.1)*p.2.1+(p.2.2.1-v.2)*p.2.2.2.1)) _:=inferInstance;exact i.mono (by omega)
instance alz [h:Bd p j] [h':Bd v k]:Bd (sqP p v) (10*(j+k+1)):=by
 have i:Bd (coR (sqA p v) (sqB p v) p.2.2.2.2) _:=inferInstance;exact i.mono (jz (by omega) (jz (by omega) (by omega)))
end
namespace RE
def pX(p:Pt):RE:=v2 p.1 p.2.1 p.2.2.2.2
def pY(p:Pt):RE:=v2 p.2.2.1 p.2.2.2.1 p.2.2.2.2
def pR(p:Pt):RE×RE:=(pX p,pY p)
theorem tK(p:Pt):vR (xP p)=pX p:=vR_co _ _ _
theorem Wj(p:Pt):vR (yP p)=pY p:=vR_co _ _ _
theorem ou{p:Pt}[h:Rpd p]:0<=(xP p).2.2:=(alK (p:=p)).nn
theorem Im{p:Pt}[h:Rpd p]:0<=(yP p).2.2:=(alF (p:=p)).nn
theorem gT{p q:Pt}[Rpd p][Rpd q]:aB p q=lxc (pR p) (pR q):=by
 unfold aB lxc;rw[cmpT_re ou ou,cmpT_re Im Im,tK,tK,Wj,Wj];rfl
theorem abS(x y s t c u w:RE):(x+s*c-u)*(x+s*c-u)+(y+t*c-w)*(y+t*c-w)=(x-u)*(x-u)+(y-w)*(y-w)+(s*s+t*t)*(c*c)+((x-u)*s+(y-w)*t+((x-u)*s+(y-w)*t))*c:=by grind
theorem aaG{p:Pt}{v:Rat×Rat}[h:Rpd p]:vR (sqP p v)=(pX p-of v.1)*(pX p-of v.1)+(pY p-of v.2)*(pY p-of v.2):=by
 unfold sqP pX pY;rw[vR_co];unfold v2;rw[abS,qD h.nn];unfold sqA sqB;simp only[of_add,of_sub,bO]
theorem agl(v:Rat×Rat):pX (atP v)=of v.1:=ef _ _
theorem agm(v:Rat×Rat):pY (atP v)=of v.2:=ef _ _
end RE
end
theorem vX(a b:Rat):(aD a b !=0)=!decide (a=b):=by
 unfold bne;rw[ao]
def ZL:List En:=[⟨47,io,eL⟩,⟨261,jC,fC⟩,⟨260,nN,jn⟩,⟨266,lW,gQ⟩,⟨85,fS,dX⟩,⟨46,jJ,fq⟩,enT I4]
def aat(_k:KT):OLR:=og (decide (aR (0:Int))) (some [RV.d tR (hid (am ((0:Int):Rat)))])
def agk:Cn 321 []:=cn<|lf True [.d tR (am 0)] λ_=>by
 refine aA ZL (aat) ⟨0,?_⟩;unfold aat
 rw[dT (show aR 0 by decide)];simp only[aQ];rfl
def JI:List En:=enL agk::ZL
def WL(v:BV)(_k:KT):OLR:=some [RV.d tP (v.1,(hid (am 0),(v.2,(hid (am 0),hid (am 0)))))]
def OT:Cn 345 [tV]:=cn λ(v:BV)=>lf (ok (Rat×Rat) 100000 v) [.d tP (enc (atP (dec v)))] λh=>by
 refine aA JI (WL v) ⟨0,?_⟩;have hv:=h;obtain⟨v,rfl,bv⟩:=aM hv;unfold WL;simp only[bE];try rfl
def Zf(p:BP)(_k:KT):OLR:=og (o1 p.2.1) (match(aD (ag p.2.1) 0)==0 with|true=>(og (o1 p.2.2.2.1) (match(aD (ag p.2.2.2.1) 0)==0 with|true=>some [RV.d tP (p.1,(p.2.1,(p.2.2.1,(p.2.2.2.1,hid (am 0)))))]|false=>some [RV.d tP p]))|false=>some [RV.d tP p])
def ajX:Cn 263 [tP]:=cn λ(p:BP)=>lf (ok Pt 21000 p) [.d tP (enc (rdP (dec p)))] λh=>by
 refine aA JI (Zf p) ⟨0,?_⟩;have hp:=h;obtain⟨p,rfl,bp⟩:=aM hp;unfold Zf;simp only[bE,Nat.reduceLeDiff,ao];unfold rdP;by_cases h1:p.2.1=0
 ·by_cases h2:p.2.2.2.1=0
  ·rw[amh h1,amh h2];rfl
  ·rw[amh h1,ami h2];rfl
 ·rw[ami h1];rfl
def aag(a b c:BR)(_k:KT):OLR:=og (o1 b) (match(aD (ag b) 0)==0 with|true=>some [RV.d tO (a,(b,hid (am 0)))]|false=>some [RV.d tO (a,(b,c))])
def afJ:Cn 269 [tR,tR,tR]:=cn λ(a b c:BR)=>lf (okR a/\okR b/\okR c) [.d tO (enc (coR (ag a) (ag b) (ag c)))] λh=>by
 refine aA JI (aag a b c) ⟨0,?_⟩;obtain⟨ha,hb,hc⟩:=h;obtain⟨a,rfl,ba⟩:=fT ha;obtain⟨b,rfl,bb⟩:=fT hb;obtain⟨c,rfl,bc⟩:=fT hc;unfold aag;simp only[bE,Nat.reduceLeDiff,ao];unfold coR;by_cases e:b=0
 ·subst e;rw[amh rfl];rfl
 ·rw[ami e];rfl
def Jb:List En:=enL OT::enL ajX::enL afJ::JI
def Yr(x y:BO3)(_k:KT):OLR:=og (o1 x.2.1) (match(aD (ag x.2.1) 0)==0 with|true=>(og (decide (ok Pt 21000 (x.1,(x.2.1,y)))) (some [RV.d tP (hid (enc (rdP (dec (x.1,(x.2.1,y)))))),RV.d apE 0]))|false=>(og (o1 y.2.1) (match(aD (ag y.2.1) 0) !=0 with|true=>(og (o2 x.2.2 y.2.2) (match(aD (ag x.2.2) (ag y.2.2)) !=0 with|true=>some [RV.d tP (((false,[]),(false,[])),(((false,[]),(false,[])),(((false,[]),(false,[])),(((false,[]),(false,[])),((false,[]),(false,[])))))),RV.d apE 1]|false=>(og (decide (ok Pt 21000 (x.1,(x.2.1,(y.1,(y.2.1,x.2.2)))))) (some [RV.d tP (hid (enc (rdP (dec (x.1,(x.2.1,(y.1,(y.2.1,x.2.2)))))))),RV.d apE 0]))))|false=>(og (decide (ok Pt 21000 (x.1,(x.2.1,(y.1,(y.2.1,x.2.2)))))) (some [RV.d tP (hid (enc (rdP (dec (x.1,(x.2.1,(y.1,(y.2.1,x.2.2)))))))),RV.d apE 0])))))
def ahW:Cn 194 [tO,tO]:=cn λ(x y:BO3)=>lf (okT 15000 x/\okT 15000 y/\C7 (dec x) (dec y)) [.d tP (enc (mkP (dec x) (dec y))),.d apE 0] λh=>by
 refine aA Jb (Yr x y) ⟨0,?_⟩;obtain⟨hx,hy,hy_2⟩:=h;obtain⟨x,rfl,bx,rx⟩:=iE hx;obtain⟨y,rfl,b_y,ry⟩:=iE hy;have i1:decide (ok Pt 21000 (enc ((x.1,x.2.1,y):Pt)))=true:=okd (by decide) (by decide);have i2:decide (ok Pt 21000 (enc ((x.1,x.2.1,y.1,y.2.1,x.2.2):Pt)))=true:=okd (by decide) (by decide);have j1:(dec ((am x.1,am x.2.1,enc y):BP):Pt)=(x.1,x.2.1,y):=au ((x.1,x.2.1,y):Pt);have j2:(dec ((am x.1,am x.2.1,am y.1,am y.2.1,am x.2.2):BP):Pt)=(x.1,x.2.1,y.1,y.2.1,x.2.2):=au ((x.1,x.2.1,y.1,y.2.1,x.2.2):Pt);have i1:decide (ok Pt 21000 ((am x.1,am x.2.1,enc y):BP))=true:=i1;have i2:decide (ok Pt 21000 ((am x.1,am x.2.1,am y.1,am y.2.1,am x.2.2):BP))=true:=i2;have hm:=hy_2;rw[au,au]at hm;unfold Yr;simp only[bE,Nat.reduceLeDiff,ao,vX,i1,i2,j1,j2];unfold mkP;by_cases e1:x.2.1=0
 ·rw[amh e1];rfl
 ·rw[ami e1];by_cases e2:y.2.1=0
  ·rw[amh e2];rfl
  ·rw[ami e2,amh ((hm.resolve_left e1).resolve_left e2)];rfl
def ajQ(p:BP)(_k:KT):OLR:=og (decide (okR p.1/\okR p.2.1/\okR p.2.2.2.2)) (some [RV.d tO (hid (enc (coR (ag p.1) (ag p.2.1) (ag p.2.2.2.2))))])
def Vw:Cn 199 [tP]:=cn λ(p:BP)=>lf (okP 4000 p) [.d tO (enc (xP (dec p)))] λh=>by
 refine aA Jb (ajQ p) ⟨0,?_⟩;have hp:=h;obtain⟨p,rfl,bp,rp⟩:=cM hp;unfold ajQ;simp only[bE,Nat.reduceLeDiff];try rfl
def afc(p:BP)(_k:KT):OLR:=og (decide (okR p.2.2.1/\okR p.2.2.2.1/\okR p.2.2.2.2)) (some [RV.d tO (hid (enc (coR (ag p.2.2.1) (ag p.2.2.2.1) (ag p.2.2.2.2))))])
def V8:Cn 200 [tP]:=cn λ(p:BP)=>lf (okP 4000 p) [.d tO (enc (yP (dec p)))] λh=>by
 refine aA Jb (afc p) ⟨0,?_⟩;have hp:=h;obtain⟨p,rfl,bp,rp⟩:=cM hp;unfold afc;simp only[bE,Nat.reduceLeDiff];try rfl
def afq:List En:=enL Vw::enL V8::Jb
def aaf(p q:BP)(_k:KT):OLR:=og (decide (okP 4000 p)) (og (decide (okP 4000 q)) (og (decide (okT 15000 (hid (enc (xP (dec p))))/\okT 15000 (hid (enc (xP (dec q)))))) (match(bQ (dec (hid (enc (xP (dec p))))) (dec (hid (enc (xP (dec q)))))) !=0 with|true=>some [RV.d apE (bQ (dec (hid (enc (xP (dec p))))) (dec (hid (enc (xP (dec q))))))]|false=>(og (decide (okP 4000 p)) (og (decide (okP 4000 q)) (og (decide (okT 15000 (hid (enc (yP (dec p))))/\okT 15000 (hid (enc (yP (dec q)))))) (some [RV.d apE (bQ (dec (hid (enc (yP (dec p))))) (dec (hid (enc (yP (dec q))))))])))))))
def zP:Cn 144 [tP,tP]:=cn λ(p q:BP)=>lf (okP 4000 p/\okP 4000 q) [.d apE (aB (dec p) (dec q))] λh=>by
 refine aA afq (aaf p q) ⟨0,?_⟩;obtain⟨hp,hq⟩:=h;obtain⟨p,rfl,bp,rp⟩:=cM hp;obtain⟨q,rfl,bq,rq⟩:=cM hq;unfold aaf;simp only[bE,Nat.reduceLeDiff,aP,aU];unfold aB bne;cases bQ (xP p) (xP q)==0<;>rfl
section
def J9(l:Ln)(p:Pt):Rat:=l.1*p.1+l.2.1*p.2.2.1-l.2.2
def Kr(l:Ln)(p:Pt):Rat:=l.1*p.2.1+l.2.1*p.2.2.2.1
def uZ(l:Ln)(p:Pt):Int:=gf (J9 l p) (Kr l p) p.2.2.2.2
def ctr(c:Ln):Rat×Rat:=(c.1,c.2.1)
def qt(c:Ln)(p:Pt):Int:= -gf (sqA p (ctr c)-c.2.2) (sqB p (ctr c)) p.2.2.2.2
def aiN(l:Ln)(v:Rat×Rat):Rat:=(l.1*v.1+l.2.1*v.2-l.2.2)/(l.1*l.1+l.2.1*l.2.1)
def Tj(l:Ln)(v:Rat×Rat):Rat×Rat:=(v.1-aiN l v*l.1,v.2-aiN l v*l.2.1)
section
variable {l:Ln} {p:Pt} {v:Rat×Rat} {i j k:Nat}
instance alq [h:Bd l i]:Bd (ctr l) (mx i i):=inferInstanceAs (Bd ((l.1,l.2.1):Rat×Rat) _)
instance ak2 [h:Bd l i] [h':Bd p j]:Bd (J9 l p) ((i+j)+(i+j)+1+i+1):=inferInstanceAs (Bd (l.1*p.1+l.2.1*p.2.2.1-l.2.2) _)
instance akZ [h:Bd l i] [h':Bd p j]:Bd (Kr l p) ((i+j)+(i+j)+1):=inferInstanceAs (Bd (l.1*p.2.1+l.2.1*p.2.2.2.1) _)
end
theorem Jt{a b:Rat}(h:a≠0\/b≠0):a*a+b*b≠0:=by
 have ha:0<=a*a:=by
  rcases(by grind:0<=a\/0<= -a)with h|h
  ·exact am6 h h
  ·have:=am6 h h;grind
 have hb:0<=b*b:=by
  rcases(by grind:0<=b\/0<= -b)with h|h
  ·exact am6 h h
  ·have:=am6 h h;grind
 intro e;have e1:a*a=0:=by grind
 have e2:b*b=0:=by grind
 rcases h with h|h
 ·exact h (by rcases apm.1 e1 with h|h<;>exact h)
 ·exact h (by rcases apm.1 e2 with h|h<;>exact h)
namespace RE
theorem adk(a b x s y t c r:RE):a*(x+s*r)+b*(y+t*r)+ -c=a*x+b*y-c+(a*s+b*t)*r:=by grind
theorem aji(a b q r:RE):a+b*r+ -q=a-q+b*r:=by grind
theorem Nx(a b:RE):a+ -b=a-b:=rfl
theorem Bv(l:Ln){p:Pt}[h:Rpd p]:uZ l p=sg (of l.1*pX p+of l.2.1*pY p+ -of l.2.2):=by
 unfold uZ pX pY;rw[sgn2_re h.nn];unfold v2;rw[adk];unfold J9 Kr;simp only[of_add,of_sub,bO]
theorem CW(c:Ln){p:Pt}[h:Rpd p]:qt c p= -sg ((pX p-of c.1)*(pX p-of c.1)+(pY p-of c.2.1)*(pY p-of c.2.1)+ -of c.2.2):=by
 unfold qt;have e:=aaG (p:=p) (v:=ctr c);unfold sqP at e;rw[vR_co]at e;rw[sgn2_re h.nn];unfold v2 at e ⊢;rw[of_sub,<-aji,e];rfl
theorem sidL_ok(l:Ln){p:Pt}[Rpd p](h:(xw l p).2=true):(xw l p).1=uZ l p:=by
 rw[Vn h,Bv];try rfl
theorem insC_ok(c:Ln){p:Pt}[Rpd p](h:(vt c p).2=true): -(vt c p).1=qt c p:=by
 rw[Wl h,CW];simp only[Nx];try rfl
end RE
end
def ya:dJ:=spN false true [tR,tR] (λx=>decide (kV x.1 x.2.1)) (λx=>[RV.d tR (hDi x.1 x.2.1),RV.d apE 0])
theorem tw:SpK 332 ya:=spX λx h=>by simp only[aQ];exact Ts x.1 x.2.1 (amj h)
def zS:List En:=[⟨47,io,eL⟩,⟨261,jC,fC⟩,⟨260,nN,jn⟩,⟨266,lW,gQ⟩,⟨141,nE,jB⟩,⟨85,fS,dX⟩,⟨46,jJ,fq⟩,⟨332,ya,tw⟩,enT D1,enL Ru,enL RA,enL MF,enL IP,enL Dw,enL OV,enL ZR]
def ZD(l:BO3)(p:BP)(_k:KT):OLR:=let y1:=aZ (dec (p.1,(p.2.1,p.2.2.2.2)));let y2:=hid ((aZ (dec p.2.2)).1);let y3:=jF (ag l.1) (hid (y1.1)) (y1.2);let y4:=jF (ag l.2.1) y2 ((aZ (dec p.2.2)).2);let y5:=dH (hid (y3.1)) (hid (y4.1));let y6:=hid ((frF (ag l.2.2)).1);let y7:=dH (hid (y5.1)) (hid (mC y6));og (decide (ok Rt 100000 (p.1,(p.2.1,p.2.2.2.2)))) (og (decide (ok Rat 100000 l.1/\prI (hid (y1.1)))) (og (decide (ok Rt 100000 p.2.2)) (og (decide (ok Rat 100000 l.2.1/\prI y2)) (og (decide (ok Rat 200000 l.2.2)) (match !(y3.2)with|true=>some [RV.d apE 0,RV.d .bool false]|false=>(match !(y4.2)with|true=>some [RV.d apE 0,RV.d .bool false]|false=>(match !((frF (ag l.2.2)).2)with|true=>some [RV.d apE 0,RV.d .bool false]|false=>(og (decide (prI (hid (y3.1))/\prI (hid (y4.1)))) (match !(y5.2)with|true=>some [RV.d apE 0,RV.d .bool false]|false=>(og (decide (prI y6)) (og (decide (prI (hid (y5.1))/\prI (hid (mC y6)))) (match !(y7.2)with|true=>some [RV.d apE 0,RV.d .bool false]|false=>some [RV.d apE ((sgF (hid (y7.1))).1),RV.d .bool ((sgF (hid (y7.1))).2)]))))))))))))
def ai0:Cn 239 [tO,tP]:=cn λ(l:BO3) (p:BP)=>lf (ok Ln 300 l/\ok Pt 4000 p) [.d apE ((xw (dec l) (dec p)).1),.d .bool ((xw (dec l) (dec p)).2)] λh=>by
 refine aA zS (ZD l p) ⟨0,?_⟩;obtain⟨hl,hp⟩:=h;obtain⟨l,rfl,bl⟩:=aM hl;obtain⟨p,rfl,bp⟩:=aM hp;have dx:(dec ((am p.1,am p.2.1,am p.2.2.2.2):BO3):Rt)=pxR p:=au (pxR p);have dy:(dec ((am p.2.2.1,am p.2.2.2.1,am p.2.2.2.2):BO3):Rt)=pyR p:=au (pyR p);have dy':(dec (enc p.2.2:BO3):Rt)=pyR p:=au (pyR p);have px:Bd (pxR p) 4000:=(inferInstance:Bd ((p.1,p.2.1,p.2.2.2.2):Rt) _).mono (by decide);have py:Bd (pyR p) 4000:=(inferInstance:Bd ((p.2.2.1,p.2.2.2.1,p.2.2.2.2):Rt) _).mono (by decide);have ox:decide (ok Rt 100000 ((am p.1,am p.2.1,am p.2.2.2.2):BO3))=true:=okd (x:=pxR p) (by decide) (by decide);have oy:decide (ok Rt 100000 (enc p.2.2:BO3))=true:=okd (x:=pyR p) (by decide) (by decide);have pr:∀r,prI (aZ r).1:=wI;have pt:∀n a k,prI (jF n a k).1:=U8;have pf:∀q,prI (frF q).1:=RE.frF_pr;unfold ZD;simp only[bE,Nat.reduceLeDiff,dx,dy',ox,oy,dT (pr _),dT (pt _ _ _),dT (pf _),dT (RE.addF_pr (pt _ _ _) (pt _ _ _)),dT (RE.negF_pr (pf _))];unfold xw;generalize aZ (pxR p)=X;generalize aZ (pyR p)=Y;generalize jF l.1 X.1 X.2=U;generalize jF l.2.1 Y.1 Y.2=V;generalize frF l.2.2=W;generalize dH U.1 V.1=S;generalize dH S.1 (mC W.1)=D;generalize sgF D.1=Z;obtain⟨_,u⟩:=U;obtain⟨_,v⟩:=V;obtain⟨_,w⟩:=W;obtain⟨_,s⟩:=S;obtain⟨_,d⟩:=D;cases u<;>cases v<;>cases w<;>try rfl
 cases s<;>cases d<;>rfl
def X0:Cn 237 [tR,tR]:=cn λ(a b:BR)=>lf (okR a/\okR b) [.d tR (am (ag a+ag b))] λh=>qw [RV.d tR (hAd a b)] (eU zS) h
def WS:Cn 236 [tR,tR]:=cn λ(a b:BR)=>lf (okR a/\okR b) [.d tR (am (ag a-ag b))] λh=>qw [RV.d tR (hSu a b)] (eU zS) h
def Yp:Cn 197 [tR,tR]:=cn λ(a b:BR)=>lf (okR a/\okR b) [.d tR (am (ag a*ag b))] λh=>qw [RV.d tR (hMu a b)] (eU zS) h
def W7(a b:BR)(_k:KT):OLR:=og (decide (kV a b)) (match 0 !=0 with|true=>(og (decide (aR (0:Int))) (some [RV.d tR (hid (am ((0:Int):Rat)))]))|false=>some [RV.d tR (hDi a b)])
def akP:Cn 371 [tR,tR]:=cn λ(a b:BR)=>lf (kV a b) [.d tR (am (ag a/ag b))] λh=>by
 refine aA zS (W7 a b) ⟨0,?_⟩;unfold W7;rw[dT h];simp only[aQ];rfl
def S9:List En:=enT ai0::enL X0::enL WS::enL Yp::enL akP::zS
def aan(a b c:BR)(_k:KT):OLR:=og (o1 a) (og (o1 b) (og (o1 c) (match(i64.wrap ((aD (ag b) 0)*(aD (ag c) 0)))==0 with|true=>some [RV.d apE (aD (ag a) 0)]|false=>(match(aD (ag a) 0)==(i64.wrap ((aD (ag b) 0)*(aD (ag c) 0)))with|true=>some [RV.d apE (aD (ag a) 0)]|false=>(match(aD (ag a) 0)==0 with|true=>some [RV.d apE (i64.wrap ((aD (ag b) 0)*(aD (ag c) 0)))]|false=>(og (o2 a a) (og (o2 b b) (og (o2 (hMu b b) c) (og (o2 (hMu a a) (hMu (hMu b b) c)) (some [RV.d apE (i64.wrap ((aD (ag a) 0)*(aD (ag (hMu a a)) (ag (hMu (hMu b b) c)))))]))))))))))
def af8:Cn 238 [tR,tR,tR]:=cn λ(a b c:BR)=>lf (ok Rat 240000 a/\ok Rat 170000 b/\ok Rat 30000 c) [.d apE (gf (ag a) (ag b) (ag c))] λh=>by
 refine aA S9 (aan a b c) ⟨0,?_⟩;obtain⟨ha,hb,hc⟩:=h;obtain⟨a,rfl,ba⟩:=aM ha;obtain⟨b,rfl,bb⟩:=aM hb;obtain⟨c,rfl,bc⟩:=aM hc;unfold aan;simp only[bE,Nat.reduceAdd,Nat.reduceLeDiff,pQ];exact Bl _ _ _
def Zi(a b c f:BR)(_k:KT):OLR:=og (decide (ok Rt 100000 (a,(b,c)))) (og (decide (ok Rat 200000 f)) (match !((aZ (dec (a,(b,c)))).2)with|true=>some [RV.d tG (0,0),RV.d .bool false]|false=>(match !((frF (ag f)).2)with|true=>some [RV.d tG (0,0),RV.d .bool false]|false=>(og (decide (prI (hid ((frF (ag f)).1)))) (og (decide (prI (hid ((aZ (dec (a,(b,c)))).1))/\prI (hid (mC (hid ((frF (ag f)).1)))))) (some [RV.d tG (hid ((dH (hid ((aZ (dec (a,(b,c)))).1)) (hid (mC (hid ((frF (ag f)).1))))).1)),RV.d .bool ((dH (hid ((aZ (dec (a,(b,c)))).1)) (hid (mC (hid ((frF (ag f)).1))))).2)]))))))
def aj5:Cn 284 [tR,tR,tR,tR]:=cn λ(a b c f:BR)=>lf (ok Rat 100000 a/\ok Rat 100000 b/\ok Rat 100000 c/\ok Rat 100000 f) [.d tG ((eO (ag a,ag b,ag c) (ag f)).1),.d .bool ((eO (ag a,ag b,ag c) (ag f)).2)] λh=>by
 refine aA S9 (Zi a b c f) ⟨0,?_⟩;obtain⟨ha,hb,hc,hf⟩:=h;obtain⟨a,rfl,ba⟩:=aM ha;obtain⟨b,rfl,bb⟩:=aM hb;obtain⟨c,rfl,bc⟩:=aM hc;obtain⟨f,rfl,bf⟩:=aM hf;have dr:(dec ((am a,am b,am c):BO3):Rt)=(a,b,c):=au ((a,b,c):Rt);have orr:decide (ok Rt 100000 ((am a,am b,am c):BO3))=true:=okd (x:=((a,b,c):Rt)) (by decide) (by decide);unfold Zi;simp only[bE,Nat.reduceLeDiff,dr,orr,dT (RE.frF_pr _),dT (RE.negF_pr (RE.frF_pr _)),dT (wI _)];unfold eO;generalize aZ (a,b,c)=X;generalize frF f=Y;obtain⟨_,x⟩:=X;obtain⟨_,y⟩:=Y;cases x<;>cases y<;>rfl
def OK:List En:=enT af8::enL aj5::S9
def Z5(c:BO3)(p:BP)(_k:KT):OLR:=let y1:=eO (ag p.1,ag p.2.1,ag p.2.2.2.2) (ag c.1);let y2:=eO (ag p.2.2.1,ag p.2.2.2.1,ag p.2.2.2.2) (ag c.2.1);let y3:=cE (hid (y1.1)) (hid (y1.1));let y4:=cE (hid (y2.1)) (hid (y2.1));let y5:=dH (hid (y3.1)) (hid (y4.1));let y6:=hid ((frF (ag c.2.2)).1);let y7:=dH (hid (y5.1)) (hid (mC y6));og (decide (ok Rat 100000 p.1/\ok Rat 100000 p.2.1/\ok Rat 100000 p.2.2.2.2/\ok Rat 100000 c.1)) (og (decide (ok Rat 100000 p.2.2.1/\ok Rat 100000 p.2.2.2.1/\ok Rat 100000 p.2.2.2.2/\ok Rat 100000 c.2.1)) (og (decide (ok Rat 200000 c.2.2)) (match !(y1.2)with|true=>some [RV.d apE 0,RV.d .bool false]|false=>(match !(y2.2)with|true=>some [RV.d apE 0,RV.d .bool false]|false=>(match !((frF (ag c.2.2)).2)with|true=>some [RV.d apE 0,RV.d .bool false]|false=>(og (decide (prI (hid (y1.1))/\prI (hid (y1.1)))) (og (decide (prI (hid (y2.1))/\prI (hid (y2.1)))) (match !(y3.2)with|true=>some [RV.d apE 0,RV.d .bool false]|false=>(match !(y4.2)with|true=>some [RV.d apE 0,RV.d .bool false]|false=>(og (decide (prI (hid (y3.1))/\prI (hid (y4.1)))) (match !(y5.2)with|true=>some [RV.d apE 0,RV.d .bool false]|false=>(og (decide (prI y6)) (og (decide (prI (hid (y5.1))/\prI (hid (mC y6)))) (match !(y7.2)with|true=>some [RV.d apE 0,RV.d .bool false]|false=>some [RV.d apE ((sgF (hid (y7.1))).1),RV.d .bool ((sgF (hid (y7.1))).2)]))))))))))))))
def aki:Cn 235 [tO,tP]:=cn λ(c:BO3) (p:BP)=>lf (ok Ln 300 c/\ok Pt 4000 p) [.d apE ((vt (dec c) (dec p)).1),.d .bool ((vt (dec c) (dec p)).2)] λh=>by
 refine aA OK (Z5 c p) ⟨0,?_⟩;obtain⟨hc,hp⟩:=h;obtain⟨c,rfl,bc⟩:=aM hc;obtain⟨p,rfl,bp⟩:=aM hp;have pd:∀r q,prI (eO r q).1:=VN;have pf:∀q,prI (frF q).1:=RE.frF_pr;have pm:∀a b,prI (cE a b).1:=sI;have dx:eO (p.1,p.2.1,p.2.2.2.2) c.1=eO (pxR p) c.1:=rfl;have dy:eO (p.2.2.1,p.2.2.2.1,p.2.2.2.2) c.2.1=eO (pyR p) c.2.1:=rfl;unfold Z5;simp only[bE,Nat.reduceLeDiff,dx,dy,dT (pd _ _),dT (pm _ _),dT (pf _),dT (RE.negF_pr (pf _)),dT (RE.addF_pr (pm _ _) (pm _ _))];unfold vt;generalize eO (pxR p) c.1=X;generalize eO (pyR p) c.2.1=Y;generalize frF c.2.2=W;generalize cE X.1 X.1=U;generalize cE Y.1 Y.1=V;generalize dH U.1 V.1=S;generalize dH S.1 (mC W.1)=D;generalize sgF D.1=Z;obtain⟨_,x⟩:=X;obtain⟨_,y⟩:=Y;obtain⟨_,w⟩:=W;obtain⟨_,u⟩:=U;obtain⟨_,v⟩:=V;obtain⟨_,s⟩:=S;obtain⟨_,d⟩:=D;cases x<;>cases y<;>cases w<;>try rfl
 cases u<;>cases v<;>try rfl
 cases s<;>cases d<;>rfl
def Z3(l:BO3)(p:BP)(_k:KT):OLR:=og (decide (ok Ln 300 l/\ok Pt 4000 p)) (match(xw (dec l) (dec p)).2 with|true=>some [RV.d apE ((xw (dec l) (dec p)).1)]|false=>(og (o2 l.1 p.1) (og (o2 l.2.1 p.2.2.1) (og (o2 (hMu l.1 p.1) (hMu l.2.1 p.2.2.1)) (og (o2 (hAd (hMu l.1 p.1) (hMu l.2.1 p.2.2.1)) l.2.2) (og (o2 l.1 p.2.1) (og (o2 l.2.1 p.2.2.2.1) (og (o2 (hMu l.1 p.2.1) (hMu l.2.1 p.2.2.2.1)) (og (decide (ok Rat 240000 (hSu (hAd (hMu l.1 p.1) (hMu l.2.1 p.2.2.1)) l.2.2)/\ok Rat 170000 (hAd (hMu l.1 p.2.1) (hMu l.2.1 p.2.2.2.1))/\ok Rat 30000 p.2.2.2.2)) (some [RV.d apE (gf (ag (hSu (hAd (hMu l.1 p.1) (hMu l.2.1 p.2.2.1)) l.2.2)) (ag (hAd (hMu l.1 p.2.1) (hMu l.2.1 p.2.2.2.1))) (ag p.2.2.2.2))]))))))))))
def akI:Cn 178 [tO,tP]:=cn λ(l:BO3) (p:BP)=>lf (ok Ln 300 l/\okP 4000 p) [.d apE (uZ (dec l) (dec p))] λh=>by
 refine aA OK (Z3 l p) ⟨0,?_⟩;obtain⟨hl,hp⟩:=h;obtain⟨l,rfl,bl⟩:=aM hl;obtain⟨p,rfl,bp,rp⟩:=cM hp;unfold Z3;simp only[bE,Nat.reduceAdd,Nat.reduceLeDiff];cases hq:(xw l p).2
 ·rfl
 ·rw[RE.sidL_ok l hq]
def Wu:List En:=enT aki::OK
def Z9(c:BO3)(p:BP)(_k:KT):OLR:=og (decide (ok Ln 300 c/\ok Pt 4000 p)) (match(vt (dec c) (dec p)).2 with|true=>some [RV.d apE (i64.wrap (0-((vt (dec c) (dec p)).1)))]|false=>(og (o2 p.1 c.1) (og (o2 p.2.2.1 c.2.1) (og (o2 (hSu p.1 c.1) (hSu p.1 c.1)) (og (o2 (hSu p.2.2.1 c.2.1) (hSu p.2.2.1 c.2.1)) (og (o2 (hMu (hSu p.1 c.1) (hSu p.1 c.1)) (hMu (hSu p.2.2.1 c.2.1) (hSu p.2.2.1 c.2.1))) (og (o2 p.2.1 p.2.1) (og (o2 p.2.2.2.1 p.2.2.2.1) (og (o2 (hMu p.2.1 p.2.1) (hMu p.2.2.2.1 p.2.2.2.1)) (og (o2 p.2.2.2.2 (hAd (hMu p.2.1 p.2.1) (hMu p.2.2.2.1 p.2.2.2.1))) (og (o2 (hAd (hMu (hSu p.1 c.1) (hSu p.1 c.1)) (hMu (hSu p.2.2.1 c.2.1) (hSu p.2.2.1 c.2.1))) (hMu p.2.2.2.2 (hAd (hMu p.2.1 p.2.1) (hMu p.2.2.2.1 p.2.2.2.1)))) (og (o2 (hSu p.1 c.1) p.2.1) (og (o2 (hSu p.2.2.1 c.2.1) p.2.2.2.1) (og (o2 (hMu (hSu p.1 c.1) p.2.1) (hMu (hSu p.2.2.1 c.2.1) p.2.2.2.1)) (og (o2 (hAd (hAd (hMu (hSu p.1 c.1) (hSu p.1 c.1)) (hMu (hSu p.2.2.1 c.2.1) (hSu p.2.2.1 c.2.1))) (hMu p.2.2.2.2 (hAd (hMu p.2.1 p.2.1) (hMu p.2.2.2.1 p.2.2.2.1)))) c.2.2) (og (o2 (hAd (hMu (hSu p.1 c.1) p.2.1) (hMu (hSu p.2.2.1 c.2.1) p.2.2.2.1)) (hAd (hMu (hSu p.1 c.1) p.2.1) (hMu (hSu p.2.2.1 c.2.1) p.2.2.2.1))) (og (decide (ok Rat 240000 (hSu (hAd (hAd (hMu (hSu p.1 c.1) (hSu p.1 c.1)) (hMu (hSu p.2.2.1 c.2.1) (hSu p.2.2.1 c.2.1))) (hMu p.2.2.2.2 (hAd (hMu p.2.1 p.2.1) (hMu p.2.2.2.1 p.2.2.2.1)))) c.2.2)/\ok Rat 170000 (hAd (hAd (hMu (hSu p.1 c.1) p.2.1) (hMu (hSu p.2.2.1 c.2.1) p.2.2.2.1)) (hAd (hMu (hSu p.1 c.1) p.2.1) (hMu (hSu p.2.2.1 c.2.1) p.2.2.2.1)))/\ok Rat 30000 p.2.2.2.2)) (some [RV.d apE (i64.wrap (0-(gf (ag (hSu (hAd (hAd (hMu (hSu p.1 c.1) (hSu p.1 c.1)) (hMu (hSu p.2.2.1 c.2.1) (hSu p.2.2.1 c.2.1))) (hMu p.2.2.2.2 (hAd (hMu p.2.1 p.2.1) (hMu p.2.2.2.1 p.2.2.2.1)))) c.2.2)) (ag (hAd (hAd (hMu (hSu p.1 c.1) p.2.1) (hMu (hSu p.2.2.1 c.2.1) p.2.2.2.1)) (hAd (hMu (hSu p.1 c.1) p.2.1) (hMu (hSu p.2.2.1 c.2.1) p.2.2.2.1)))) (ag p.2.2.2.2))))]))))))))))))))))))
def afz:Cn 177 [tO,tP]:=cn λ(c:BO3) (p:BP)=>lf (ok Ln 300 c/\okP 4000 p) [.d apE (qt (dec c) (dec p))] λh=>by
 refine aA Wu (Z9 c p) ⟨0,?_⟩;obtain⟨hc,hp⟩:=h;obtain⟨c,rfl,bc⟩:=aM hc;obtain⟨p,rfl,bp,rp⟩:=cM hp;have sb:=lD (sqA p (ctr c)-c.2.2) (sqB p (ctr c)) p.2.2.2.2;unfold Z9;simp only[bE,Nat.reduceAdd,Nat.reduceLeDiff];cases hq:(vt c p).2
 ·unfold qt sqA sqB ctr at*
  dsimp only at sb ⊢;rw[show(p.2.2.2.2*(p.2.1*p.2.1+p.2.2.2.1*p.2.2.2.1))=(p.2.1*p.2.1+p.2.2.2.1*p.2.2.2.1)*p.2.2.2.2 by grind];rw[aO (by omega) (by omega),aoj]
 ·have hb: -1<=(vt c p).1/\(vt c p).1<=1:=by
   have:=RE.insC_ok c hq;unfold qt at this;omega
  dsimp only;rw[aO (by omega) (by omega),aoj,RE.insC_ok c hq]
def WO(l:BO3)(v:BV)(_k:KT):OLR:=og (o2 l.1 v.1) (og (o2 l.2.1 v.2) (og (o2 (hMu l.1 v.1) (hMu l.2.1 v.2)) (og (o2 (hAd (hMu l.1 v.1) (hMu l.2.1 v.2)) l.2.2) (og (o2 l.1 l.1) (og (o2 l.2.1 l.2.1) (og (o2 (hMu l.1 l.1) (hMu l.2.1 l.2.1)) (og (decide (kV (hSu (hAd (hMu l.1 v.1) (hMu l.2.1 v.2)) l.2.2) (hAd (hMu l.1 l.1) (hMu l.2.1 l.2.1)))) (og (o2 (hDi (hSu (hAd (hMu l.1 v.1) (hMu l.2.1 v.2)) l.2.2) (hAd (hMu l.1 l.1) (hMu l.2.1 l.2.1))) l.1) (og (o2 v.1 (hMu (hDi (hSu (hAd (hMu l.1 v.1) (hMu l.2.1 v.2)) l.2.2) (hAd (hMu l.1 l.1) (hMu l.2.1 l.2.1))) l.1)) (og (o2 (hDi (hSu (hAd (hMu l.1 v.1) (hMu l.2.1 v.2)) l.2.2) (hAd (hMu l.1 l.1) (hMu l.2.1 l.2.1))) l.2.1) (og (o2 v.2 (hMu (hDi (hSu (hAd (hMu l.1 v.1) (hMu l.2.1 v.2)) l.2.2) (hAd (hMu l.1 l.1) (hMu l.2.1 l.2.1))) l.2.1)) (some [RV.d tV (hSu v.1 (hMu (hDi (hSu (hAd (hMu l.1 v.1) (hMu l.2.1 v.2)) l.2.2) (hAd (hMu l.1 l.1) (hMu l.2.1 l.2.1))) l.1),hSu v.2 (hMu (hDi (hSu (hAd (hMu l.1 v.1) (hMu l.2.1 v.2)) l.2.2) (hAd (hMu l.1 l.1) (hMu l.2.1 l.2.1))) l.2.1))]))))))))))))
def afl:Cn 368 [tO,tV]:=cn λ(l:BO3) (v:BV)=>lf (ok Ln 300 l/\ok (Rat×Rat) 200 v/\((dec l:Ln).1≠0\/(dec l:Ln).2.1≠0)) [.d tV (enc (Tj (dec l) (dec v)))] λh=>by
 refine aA Wu (WO l v) ⟨0,?_⟩;obtain⟨hl,hv,h0⟩:=h;obtain⟨l,rfl,bl⟩:=aM hl;obtain⟨v,rfl,bv⟩:=aM hv;have hn:l.1*l.1+l.2.1*l.2.1≠0:=Jt (by rw[au]at h0;exact h0);unfold WO;simp only[bE,Nat.reduceAdd,Nat.reduceLeDiff,hn,ne_eq,an2];rfl
abbrev tCU:Ty:=.st (.pair .bool (.pair tO (.pair tO (.pair .bool (.pair tP tP)))))
abbrev BCU:=Bool×BO3×BO3×Bool×BP×BP
abbrev Cv:=Bool×Ln×Ln×Bool×Pt×Pt
def dC(c:BCU):Cv:=(c.1,dec c.2.1,dec c.2.2.1,c.2.2.2.1,dec c.2.2.2.2.1,dec c.2.2.2.2.2)
def t6(x:BO3):Prop:=ok Ln 300 x/\(0:Rat)<(dec x:Ln).2.2
instance (x:BO3):Decidable (t6 x):=by unfold t6;infer_instance
def F8(x:BO3):Prop:=ok Ln 300 x/\((dec x:Ln).1≠0\/(dec x:Ln).2.1≠0)
instance (x:BO3):Decidable (F8 x):=by unfold F8;infer_instance
def okC(k:Nat)(c:BCU):Prop:=(c.1=true->t6 c.2.2.1)/\(c.1=false->F8 c.2.1)/\okP k c.2.2.2.2.1/\okP k c.2.2.2.2.2
instance (k:Nat) (c:BCU):Decidable (okC k c):=by unfold okC;infer_instance
def frC(c:Cv):Pt:=c.2.2.2.2.1
def toC(c:Cv):Pt:=c.2.2.2.2.2
def lnC(c:Cv):Ln:=c.2.1
def ciC(c:Cv):Ln:=c.2.2.1
def cwC(c:Cv):Bool:=c.2.2.2.1
def du(c:Cv)(p:Pt):Bool:=bif c.1 then qt (ciC c) p==0 else uZ (lnC c) p==0
def upR(c:Ln)(p:Pt):Bool:=decide (hU (yP p) c.2.1>0)||(hU (yP p) c.2.1==0&&decide (hU (xP p) c.1>0))
def ptd(c:Ln)(p:Pt):Bool×Rt:=(upR c p,xP p)
def EM(c:Ln)(p:Pt):Int:=bif upR c p then 0 else 1
def ccF(c:Cv):Pt:=bif cwC c then toC c else frC c
def ccT(c:Cv):Pt:=bif cwC c then frC c else toC c
def lw(c:Cv)(p:Pt):Bool:=bif c.1 then decide (ml bQ (ptd (ciC c) (ccF c)) (ptd (ciC c) p) (ptd (ciC c) (ccT c))<=0)else Ro (aB (frC c) p) (aB p (toC c))
def onP(c:Cv)(p:Pt):Bool:=du c p&&lw c p
def iM(c:BCU):BCU:=(c.1,c.2.1,c.2.2.1,c.1&&!c.2.2.2.1,c.2.2.2.2.2,c.2.2.2.2.1)
def dO(c:BCU):BCU:=bif c.2.2.2.1 then iM c else c
def flP(p:Pt):Pt:=(-p.1,-p.2.1,p.2.2.1,p.2.2.2.1,p.2.2.2.2)
def flC(c:Ln):Ln:=(-c.1,c.2.1,c.2.2)
def bY(c:Cv)(p q:Pt):Int:=bif c.1 then(bif cwC c then lz bQ (ptd (flC (ciC c)) (flP (frC c))) (ptd (flC (ciC c)) (flP p)) (ptd (flC (ciC c)) (flP q))else lz bQ (ptd (ciC c) (frC c)) (ptd (ciC c) p) (ptd (ciC c) q))
 else(bif decide (aB (frC c) (toC c)>0)then-aB p q else aB p q)
def onR(c:Cv)(p:Pt):Bool:=du c p&&(decide (bY c (frC c) p<=0)&&decide (bY c p (toC c)<=0))
theorem By(k:Nat){c:BCU}(h:okC k c):okC k (iM c):=⟨h.1,h.2.1,h.2.2.2,h.2.2.1⟩
theorem BS(p q:Pt): -1<=aB p q/\aB p q<=1:=by
 unfold aB;cases bQ (xP p) (xP q)==0
 ·exact ww _ _
 ·exact ww _ _
theorem JA{p q:Bool×Rt}:0<=oB bQ p q/\oB bQ p q<=2:=by
 unfold oB;cases qX bQ q p==0<;>cases decide (qX bQ q p>0)<;>simp only[cond_true,cond_false]<;>omega
theorem TQ(n:Int):(if(if n>(-1)then n else(-1))<1 then(if n>(-1)then n else(-1))else 1)=zs n:=by
 unfold zs;split<;>split<;>(try split)<;>(try split)<;>omega
def yl:List En:=[enT I4,enT ag6,enL Vw,enL V8,enT zP,enT akI,enT afz]
def Xy(c:BCU)(p:BP)(_k:KT):OLR:=match c.1 with|true=>(og (decide (ok Ln 300 c.2.2.1/\okP 4000 p)) (some [RV.d .bool ((qt (dec c.2.2.1) (dec p))==0)]))|false=>(og (decide (ok Ln 300 c.2.1/\okP 4000 p)) (some [RV.d .bool ((uZ (dec c.2.1) (dec p))==0)]))
def YB:Cn 134 [tCU,tP]:=cn λ(c:BCU) (p:BP)=>lf (okC 4000 c/\okP 4000 p) [.d .bool (du (dC c) (dec p))] λh=>by
 refine aA yl (Xy c p) ⟨0,?_⟩;obtain⟨hc,hp⟩:=h;have op:decide (okP 4000 p)=true:=amh hp;obtain⟨ar,li,ci,cw,fr,to⟩:=c;obtain⟨c1,c2,_⟩:=hc;unfold Xy;cases ar
 ·have e:=(c2 rfl).1;simp only[aol,dT e,op,anD];rfl
 ·have e:=(c1 rfl).1;simp only[aol,dT e,op,anD];rfl
def Z2(c:BO3)(p:BP)(_k:KT):OLR:=og (decide (okP 4000 p)) (og (decide (okT 15000 (hid (enc (yP (dec p))))/\ok Rat 15000 c.2.1)) (match decide ((hU (dec (hid (enc (yP (dec p))))) (ag c.2.1))>0)with|true=>some [RV.d apE 0]|false=>(match(hU (dec (hid (enc (yP (dec p))))) (ag c.2.1))==0 with|true=>(og (decide (okP 4000 p)) (og (decide (okT 15000 (hid (enc (xP (dec p))))/\ok Rat 15000 c.1)) (match decide ((hU (dec (hid (enc (xP (dec p))))) (ag c.1))>0)with|true=>some [RV.d apE 0]|false=>some [RV.d apE 1])))|false=>some [RV.d apE 1])))
def akD:Cn 369 [tO,tP]:=cn λ(c:BO3) (p:BP)=>lf (ok Ln 300 c/\okP 4000 p) [.d apE (EM (dec c) (dec p))] λh=>by
 refine aA yl (Z2 c p) ⟨0,?_⟩;obtain⟨hc,hp⟩:=h;obtain⟨c,rfl,bc⟩:=aM hc;obtain⟨p,rfl,bp,rp⟩:=cM hp;unfold Z2 EM upR;simp only[bE,Nat.reduceLeDiff,aP,aU];cases decide (hU (yP p) c.2.1>0)<;>cases hU (yP p) c.2.1==0<;>cases decide (hU (xP p) c.1>0)<;>rfl
def afu:Ctx:=CX (ens yl) []
def Xj(n:Int)(_k:KT):OLR:=some [RV.d apE (if(if n>(-1)then n else(-1))<1 then(if n>(-1)then n else(-1))else 1)]
theorem ajl(n:Int):RS afu 350 [SI n] (Xj n):=rsX
def ais:Cn 350 [apE]:=cn λ(n:Int)=>lf True [.d apE (zs n)] λ_=>by
 refine a8 yl (ajl _ ⟨0,?_⟩);unfold Xj;rw[TQ]
def akw:Ctx:=CX (ens yl) []
def aho(c:BCU)(_k:KT):OLR:=match c.1 with|true=>some [RV.d tCU (c.1,(c.2.1,(c.2.2.1,(!c.2.2.2.1,(c.2.2.2.2.2,c.2.2.2.2.1)))))]|false=>some [RV.d tCU (c.1,(c.2.1,(c.2.2.1,(false,(c.2.2.2.2.2,c.2.2.2.2.1)))))]
theorem ahM(c:BCU):RS akw 185 [.d tCU c] (aho c):=rsX
def Xb:Cn 185 [tCU]:=cn λ(c:BCU)=>lf True [.d tCU (iM c)] λ_=>by
 refine a8 yl (ahM _ ⟨0,?_⟩);obtain⟨ar,li,ci,cw,fr,to⟩:=c;cases ar<;>rfl
def Iu:List En:=enT YB::enT akD::enT ais::enL Xb::yl
def aah(c:BO3)(p q:BP)(_k:KT):OLR:=og (decide (ok Ln 300 c/\okP 4000 p)) (og (decide (ok Ln 300 c/\okP 4000 q)) (match(EM (dec c) (dec p)) !=(EM (dec c) (dec q))with|true=>some [RV.d apE (i64.wrap ((EM (dec c) (dec p))-(EM (dec c) (dec q))))]|false=>(og (decide (okP 4000 p)) (og (decide (okP 4000 q)) (og (decide (okT 15000 (hid (enc (xP (dec p))))/\okT 15000 (hid (enc (xP (dec q)))))) (match(EM (dec c) (dec p))==0 with|true=>some [RV.d apE (i64.wrap (0-(bQ (dec (hid (enc (xP (dec p))))) (dec (hid (enc (xP (dec q))))))))]|false=>some [RV.d apE (bQ (dec (hid (enc (xP (dec p))))) (dec (hid (enc (xP (dec q))))))]))))))
def aie:Cn 351 [tO,tP,tP]:=cn λ(c:BO3) (p q:BP)=>lf (ok Ln 300 c/\okP 4000 p/\okP 4000 q) [.d apE (qX bQ (ptd (dec c) (dec p)) (ptd (dec c) (dec q)))] λh=>by
 refine aA Iu (aah c p q) ⟨0,?_⟩;obtain⟨hc,hp,hq⟩:=h;obtain⟨c,rfl,bc⟩:=aM hc;obtain⟨p,rfl,bp,rp⟩:=cM hp;obtain⟨q,rfl,bq,rq⟩:=cM hq;have xb:=ww (xP p) (xP q);unfold aah;simp only[bE,Nat.reduceLeDiff,aP,aU,aO (x:= -bQ (xP p) (xP q)) (by omega) (by omega),aoj];unfold qX EM ptd;cases upR c p<;>cases upR c q<;>rfl
def ajv:Ctx:=CX (ens Iu) []
def Zt(c:BCU)(_k:KT):OLR:=match c.2.2.2.1 with|true=>some [RV.d tCU (hid (iM c))]|false=>some [RV.d tCU c]
theorem ahk(c:BCU):RS ajv 315 [.d tCU c] (Zt c):=rsX
def WG:Cn 315 [tCU]:=cn λ(c:BCU)=>lf True [.d tCU (dO c)] λ_=>by
 refine a8 Iu (ahk _ ⟨0,?_⟩);obtain⟨ar,li,ci,cw,fr,to⟩:=c;unfold Zt dO;cases cw
 ·rfl
 ·simp only[aQ];rfl
def WR:List En:=enT aie::enL WG::Iu
def XT(c:BO3)(f p:BP)(_k:KT):OLR:=og (decide (ok Ln 300 c/\okP 4000 p/\okP 4000 f)) (match(qX bQ (ptd (dec c) (dec p)) (ptd (dec c) (dec f)))==0 with|true=>some [RV.d apE 0]|false=>(match decide ((qX bQ (ptd (dec c) (dec p)) (ptd (dec c) (dec f)))>0)with|true=>some [RV.d apE 1]|false=>some [RV.d apE 2]))
def ajq:Cn 349 [tO,tP,tP]:=cn λ(c:BO3) (f p:BP)=>lf (ok Ln 300 c/\okP 4000 f/\okP 4000 p) [.d apE (oB bQ (ptd (dec c) (dec f)) (ptd (dec c) (dec p)))] λh=>by
 refine aA WR (XT c f p) ⟨0,?_⟩;obtain⟨hc,hf,hp⟩:=h;unfold XT oB;rw[dT ⟨hc,hp,hf⟩];cases qX bQ (ptd (dec c) (dec p)) (ptd (dec c) (dec f))==0<;>cases decide (qX bQ (ptd (dec c) (dec p)) (ptd (dec c) (dec f))>0)<;>rfl
def YY:List En:=enT ajq::WR
def aai(c:BO3)(f p q:BP)(_k:KT):OLR:=og (decide (ok Ln 300 c/\okP 4000 f/\okP 4000 p)) (og (decide (ok Ln 300 c/\okP 4000 f/\okP 4000 q)) (match(oB bQ (ptd (dec c) (dec f)) (ptd (dec c) (dec p))) !=(oB bQ (ptd (dec c) (dec f)) (ptd (dec c) (dec q)))with|true=>some [RV.d apE (zs (i64.wrap ((oB bQ (ptd (dec c) (dec f)) (ptd (dec c) (dec p)))-(oB bQ (ptd (dec c) (dec f)) (ptd (dec c) (dec q))))))]|false=>(og (decide (ok Ln 300 c/\okP 4000 p/\okP 4000 q)) (some [RV.d apE (zs (qX bQ (ptd (dec c) (dec p)) (ptd (dec c) (dec q))))]))))
def M2:Cn 316 [tO,tP,tP,tP]:=cn λ(c:BO3) (f p q:BP)=>lf (ok Ln 300 c/\okP 4000 f/\okP 4000 p/\okP 4000 q) [.d apE (ml bQ (ptd (dec c) (dec f)) (ptd (dec c) (dec p)) (ptd (dec c) (dec q)))] λh=>by
 refine aA YY (aai c f p q) ⟨0,?_⟩;obtain⟨hc,hf,hp,hq⟩:=h;unfold aai ml bne;have b1:=JA (p:=ptd (dec c) (dec f)) (q:=ptd (dec c) (dec p));have b2:=JA (p:=ptd (dec c) (dec f)) (q:=ptd (dec c) (dec q));rw[dT ⟨hc,hf,hp⟩,dT ⟨hc,hf,hq⟩,dT ⟨hc,hp,hq⟩,aO (by omega) (by omega)];cases oB bQ (ptd (dec c) (dec f)) (ptd (dec c) (dec p))==oB bQ (ptd (dec c) (dec f)) (ptd (dec c) (dec q))<;>rfl
def Zx:List En:=enT M2::YY
def ZI(c:BCU)(p:BP)(_k:KT):OLR:=match !c.1 with|true=>(og (decide (okP 4000 c.2.2.2.2.1/\okP 4000 p)) (og (decide (okP 4000 p/\okP 4000 c.2.2.2.2.2)) (match(aB (dec c.2.2.2.2.1) (dec p))==0 with|true=>some [RV.d .bool true]|false=>(match(aB (dec p) (dec c.2.2.2.2.2))==0 with|true=>some [RV.d .bool true]|false=>some [RV.d .bool ((aB (dec c.2.2.2.2.1) (dec p))==(aB (dec p) (dec c.2.2.2.2.2)))]))))|false=>(og (decide (ok Ln 300 ((((hid (dO c)).2).2).1)/\okP 4000 ((((((hid (dO c)).2).2).2).2).1)/\okP 4000 p/\okP 4000 ((((((hid (dO c)).2).2).2).2).2))) (some [RV.d .bool (decide ((ml bQ (ptd (dec ((((hid (dO c)).2).2).1)) (dec ((((((hid (dO c)).2).2).2).2).1))) (ptd (dec ((((hid (dO c)).2).2).1)) (dec p)) (ptd (dec ((((hid (dO c)).2).2).1)) (dec ((((((hid (dO c)).2).2).2).2).2))))<=0))]))
def PT:Cn 257 [tCU,tP]:=cn λ(c:BCU) (p:BP)=>lf (okC 4000 c/\okP 4000 p) [.d .bool (lw (dC c) (dec p))] λh=>by
 refine aA Zx (ZI c p) ⟨0,?_⟩;obtain⟨hc,hp⟩:=h;obtain⟨ar,li,ci,cw,fr,to⟩:=c;obtain⟨c1,c2,c3,c4⟩:=hc;unfold ZI lw;simp only[aQ];cases ar
 ·try dsimp only[Bool.not_false]
  rw[dT ⟨c3,hp⟩,dT ⟨hp,c4⟩];show _=some [RV.d .bool (Ro (aB (dec fr) (dec p)) (aB (dec p) (dec to)))];unfold Ro;cases aB (dec fr) (dec p)==0<;>cases aB (dec p) (dec to)==0<;>rfl
 ·have e:=(c1 rfl).1;cases cw
  ·rw[dT (show ok Ln 300 (dO (true,li,ci,false,fr,to)).2.2.1/\okP 4000 (dO (true,li,ci,false,fr,to)).2.2.2.2.1/\okP 4000 p/\okP 4000 (dO (true,li,ci,false,fr,to)).2.2.2.2.2 from⟨e,c3,hp,c4⟩)];rfl
  ·rw[dT (show ok Ln 300 (dO (true,li,ci,true,fr,to)).2.2.1/\okP 4000 (dO (true,li,ci,true,fr,to)).2.2.2.2.1/\okP 4000 p/\okP 4000 (dO (true,li,ci,true,fr,to)).2.2.2.2.2 from⟨e,c4,hp,c3⟩)];rfl
def af2:List En:=enT PT::Zx
def WE(c:BCU)(p:BP)(_k:KT):OLR:=og (decide (okC 4000 c/\okP 4000 p)) (match du (dC c) (dec p)with|true=>(og (decide (okC 4000 c/\okP 4000 p)) (some [RV.d .bool (lw (dC c) (dec p))]))|false=>some [RV.d .bool false])
def IV:Cn 242 [tCU,tP]:=cn λ(c:BCU) (p:BP)=>lf (okC 4000 c/\okP 4000 p) [.d .bool (onP (dC c) (dec p))] λh=>by
 refine aA af2 (WE c p) ⟨0,?_⟩;unfold WE onP;rw[dT h];cases du (dC c) (dec p)<;>rfl
def gJ(r s:Rt):Rat:=bif decide (r.2.1=0)then s.2.2 else r.2.2
def oC(r s:Rt):Bool:=decide (r.2.1=0)||(decide (s.2.1=0)||decide (r.2.2=s.2.2))
def ls(r s:Rt):Rt:=iJ (r.1*s.1+r.2.1*s.2.1*gJ r s) (r.1*s.2.1+r.2.1*s.1) (gJ r s)
def zn(r s:Rt):Rt:=iJ (r.1+s.1) (r.2.1+s.2.1) (gJ r s)
def arT(r:Rt)(a:Rat):Rt:=(r.1+a,r.2.1,r.2.2)
theorem bJ(a b:Rat):(aD a b !=0)=!decide (a=b):=by
 unfold bne;rw[ao]
instance alh {r s:Rt} {i j:Nat} [h:Bd r i] [h':Bd s j]:Bd (gJ r s) (mx j i):=inferInstanceAs (Bd (bif decide (r.2.1=0)then s.2.2 else r.2.2) _)
instance ak0 {a b c:Rat} {i j k:Nat} [ha:Bd a i] [hb:Bd b j] [hc:Bd c k]:Bd (iJ a b c) (mx i (mx j k)):=by
 have h1:=KZ i (mx j k);have h2:=K7 i (mx j k);have h3:=KZ j k;have h4:=K7 j k;have h5:=rE ha.le;have z:bdR (mx i (mx j k)) 0:=b9 sQ.le (by omega);refine⟨?_⟩;unfold iJ;cases decide (b=0)
 ·cases decide (c=0)
  ·exact⟨b9 ha.le (by omega),b9 hb.le (by omega),b9 hc.le (by omega)⟩
  ·exact⟨b9 ha.le (by omega),z,z⟩
 ·exact⟨b9 ha.le (by omega),z,z⟩
theorem KY(r:Rt):oC r r=true:=by
 unfold oC;rw[amh (rfl:r.2.2=r.2.2)];simp
theorem H4{p:Pt}{v:Rat×Rat}(h:Rpd p):oC (ls (xP (trP p (bkV v))) (xP (trP p (bkV v)))) (ls (yP (trP p (bkV v))) (yP (trP p (bkV v))))=true/\zn (ls (xP (trP p (bkV v))) (xP (trP p (bkV v)))) (ls (yP (trP p (bkV v))) (yP (trP p (bkV v))))=sqP p v:=by
 obtain⟨ax,bx,ay,b_,c⟩:=p;have hr:=h.rd;unfold G6 at hr;simp only at hr;unfold sqP sqA sqB xP yP trP bkV;simp only;rw[show ax+ -v.1=ax-v.1 by grind,show ay+ -v.2=ay-v.2 by grind];generalize ax-v.1=x;generalize ay-v.2=y;rcases hr with⟨rfl,rfl,rfl⟩|⟨h1,h2,h3⟩
 ·have e0:∀a:Rat,coR a 0 0=(a,0,0):=λa=>rfl
  have e1:∀a:Rat,ls (a,0,0) (a,0,0)=(a*a,0,0):=λa=>by
   unfold ls gJ iJ;simp;grind
  rw[e0,e0,e1,e1];refine⟨rfl,?_⟩;rw[show x*0+y*0+(x*0+y*0)=(0:Rat) by grind];unfold zn gJ iJ coR;simp;grind
 ·have hc:c≠0:=by grind
  have dc:decide (c=0)=false:=ami hc
  have sq0:∀a:Rat,ls (coR a 0 c) (coR a 0 c)=(a*a,0,0):=λa=>by
   unfold coR;rw[amh rfl];unfold ls gJ iJ;simp;grind
  have sq1:∀a b:Rat,b≠0->ls (coR a b c) (coR a b c)=coR (a*a+b*b*c) (a*b+b*a) c:=λa b hb=>by
   have e:coR a b c=(a,b,c):=by unfold coR;rw[ami hb];rfl
   rw[e];unfold ls gJ iJ coR;simp only[ami hb,cond_false,dc]
  have cR:∀a b:Rat,iJ a b c=coR a b c:=λa b=>by unfold iJ coR;rw[dc];rfl
  have ad:∀a b d e:Rat,oC (coR a b c) (coR d e c)=true/\(b≠0\/e≠0->zn (coR a b c) (coR d e c)=coR (a+d) (b+e) c)/\(b=0->e=0->zn (coR a b c) (coR d e c)=(a+d,0,0)):=λa b d e=>by
   by_cases hb:b=0
   ·subst hb;by_cases he:e=0
    ·subst he;refine⟨rfl,λh=>by simp at h,λ_ _=>?_⟩;unfold coR zn gJ iJ;simp
    ·refine⟨rfl,λ_=>?_,λ_ h=>absurd h he⟩;have e1:coR a 0 c=(a,0,0):=rfl;have e2:coR d e c=(d,e,c):=by unfold coR;rw[ami he];rfl
     rw[e1,e2];show iJ (a+d) (0+e) c=_;rw[cR]
   ·have e1:coR a b c=(a,b,c):=by unfold coR;rw[ami hb];rfl
    by_cases he:e=0
    ·subst he;have e2:coR d 0 c=(d,0,0):=rfl;refine⟨by rw[e1,e2];simp[oC],λ_=>?_,λh=>absurd h hb⟩;rw[e1,e2];unfold zn gJ;simp only[ami hb,cond_false];rw[cR]
    ·have e2:coR d e c=(d,e,c):=by unfold coR;rw[ami he];rfl
     refine⟨by rw[e1,e2];simp[oC],λ_=>?_,λh=>absurd h hb⟩;rw[e1,e2];unfold zn gJ;simp only[ami hb,cond_false];rw[cR]
  have c0:∀a:Rat,((a,0,0):Rt)=coR a 0 c:=λa=>rfl;by_cases hx:bx=0
  ·subst hx;have hy:b_≠0:=λe=>h1 ⟨rfl,e⟩;rw[sq0,sq1 _ _ hy,c0];obtain⟨g1,g2,g3⟩:=ad (x*x) 0 (y*y+b_*b_*c) (y*b_+b_*y);refine⟨g1,?_⟩;by_cases he:y*b_+b_*y=0
   ·rw[g3 rfl he,show x*0+y*b_+(x*0+y*b_)=0 by grind];show _=coR _ 0 c;rw[<-c0];congr 1;grind
   ·rw[g2 (.inr he)];congr 1<;>grind
  ·by_cases hy:b_=0
   ·subst hy;rw[sq0,sq1 _ _ hx,c0];obtain⟨g1,g2,g3⟩:=ad (x*x+bx*bx*c) (x*bx+bx*x) (y*y) 0;refine⟨g1,?_⟩;by_cases he:x*bx+bx*x=0
    ·rw[g3 he rfl,show x*bx+y*0+(x*bx+y*0)=0 by grind];show _=coR _ 0 c;rw[<-c0];congr 1;grind
    ·rw[g2 (.inl he)];congr 1<;>grind
   ·rw[sq1 _ _ hx,sq1 _ _ hy];obtain⟨g1,g2,g3⟩:=ad (x*x+bx*bx*c) (x*bx+bx*x) (y*y+b_*b_*c) (y*b_+b_*y);refine⟨g1,?_⟩;by_cases h0:x*bx+bx*x=0/\y*b_+b_*y=0
    ·rw[g3 h0.1 h0.2,show x*bx+y*b_+(x*bx+y*b_)=0 by grind];show _=coR _ 0 c;rw[<-c0];congr 1;grind
    ·rw[g2 (by by_cases e:x*bx+bx*x=0;exact .inr (λe'=>h0 ⟨e,e'⟩);exact .inl e)];congr 1<;>grind
theorem Rpd.com{p:Pt}{v:Rat×Rat}(h:Rpd p):oC (ls (xP (trP p (bkV v))) (xP (trP p (bkV v)))) (ls (yP (trP p (bkV v))) (yP (trP p (bkV v))))=true:=(H4 h).1
instance akV {r s:Rt} {i j:Nat} [h:Bd r i] [h':Bd s j]:Bd (ls r s) (2*(i+j)+(mx j i)+1):=by
 have m:Bd (gJ r s) (mx j i):=inferInstance;have a1:Bd (r.1*s.1+r.2.1*s.2.1*gJ r s) _:=inferInstance;have a2:Bd (r.1*s.2.1+r.2.1*s.1) _:=inferInstance;have i1:Bd (iJ (r.1*s.1+r.2.1*s.2.1*gJ r s) (r.1*s.2.1+r.2.1*s.1) (gJ r s)) _:=inferInstance;exact i1.mono (jz (by omega) (jz (by omega) (by omega)))
instance akX {r s:Rt} {i j:Nat} [h:Bd r i] [h':Bd s j]:Bd (zn r s) (i+j+1):=by
 have i1:Bd (iJ (r.1+s.1) (r.2.1+s.2.1) (gJ r s)) _:=inferInstance;exact i1.mono (jz (by omega) (jz (by omega) (jz (by omega) (by omega))))
instance alN {r:Rt} {a:Rat} {i j:Nat} [h:Bd r i] [h':Bd a j]:Bd (arT r a) (i+j+1):=by
 have i1:Bd ((r.1+a,r.2.1,r.2.2):Rt) _:=inferInstance;exact i1.mono (jz (by omega) (jz (by omega) (by omega)))
def z5:List En:=[enT l9,enL ru,enL vp,enL rK,enT uq,enL nB,enL OC,enL GD,enL Hg,enT BE,enT ST]
def RO(r s:BO3)(_k:KT):OLR:=og (o1 r.2.1) (match(aD (ag r.2.1) 0)==0 with|true=>some [RV.d tR s.2.2,RV.d .bool true]|false=>(og (o1 s.2.1) (match(aD (ag s.2.1) 0)==0 with|true=>some [RV.d tR r.2.2,RV.d .bool true]|false=>(og (o2 r.2.2 s.2.2) (some [RV.d tR r.2.2,RV.d .bool ((aD (ag r.2.2) (ag s.2.2))==0)])))))
def ad7:Cn 282 [tO,tO]:=cn λ(r s:BO3)=>lf (ok Rt 100000 r/\ok Rt 100000 s) [.d tR (am (gJ (dec r) (dec s))),.d .bool (oC (dec r) (dec s))] λh=>by
 refine aA z5 (RO r s) ⟨0,?_⟩;obtain⟨hr,hs⟩:=h;obtain⟨r,rfl,br⟩:=aM hr;obtain⟨s,rfl,bs⟩:=aM hs;unfold RO;simp only[bE,Nat.reduceLeDiff,ao];unfold gJ oC;cases decide (r.2.1=0)<;>cases decide (s.2.1=0)<;>rfl
def NU(r:BO3)(a:BR)(_k:KT):OLR:=og (o2 r.1 a) (some [RV.d tO (hAd r.1 a,r.2)])
def Hv:Cn 208 [tO,tR]:=cn λ(r:BO3) (a:BR)=>lf (ok Rt 100000 r/\ok Rat 100000 a) [.d tO (enc (arT (dec r) (ag a)))] λh=>by
 refine aA z5 (NU r a) ⟨0,?_⟩;obtain⟨hr,ha⟩:=h;obtain⟨r,rfl,br⟩:=aM hr;obtain⟨a,rfl,ba⟩:=aM ha;unfold NU;simp only[bE,Nat.reduceLeDiff];rfl
def Pk(_k:KT):OLR:=og (decide (aR (0:Int))) (some [RV.d tR (hid (am ((0:Int):Rat)))])
def ab4:Cn 206 []:=cn<|lf True [.d tR (am 0)] λ_=>by
 refine aA z5 (Pk) ⟨0,?_⟩;unfold Pk;rw[dT (show aR 0 by decide)];simp only[aQ];rfl
def OA(p:BP)(v:BV)(_k:KT):OLR:=og (o2 p.1 v.1) (og (o2 p.2.2.1 v.2) (some [RV.d tP (hAd p.1 v.1,(p.2.1,(hAd p.2.2.1 v.2,p.2.2.2)))]))
def ads:Cn 272 [tP,tV]:=cn λ(p:BP) (v:BV)=>lf (ok Pt 21000 p/\ok (Rat×Rat) 1000 v) [.d tP (enc (trP (dec p) (dec v)))] λh=>by
 refine aA z5 (OA p v) ⟨0,?_⟩;obtain⟨hp,hv⟩:=h;obtain⟨p,rfl,bp⟩:=aM hp;obtain⟨v,rfl,bv⟩:=aM hv;unfold OA;simp only[bE,Nat.reduceLeDiff];rfl
def QE(v:BV)(_k:KT):OLR:=og (o1 v.1) (og (o1 v.2) (some [RV.d tV (hNe v.1,hNe v.2)]))
def ac8:Cn 273 [tV]:=cn λ(v:BV)=>lf (ok (Rat×Rat) 21000 v) [.d tV (enc (bkV (dec v)))] λh=>by
 refine aA z5 (QE v) ⟨0,?_⟩;have hv:=h;obtain⟨v,rfl,bv⟩:=aM hv;unfold QE;simp only[bE,Nat.reduceLeDiff];rfl
def Oz:List En:=enL ad7::enL Hv::enL ab4::enL ads::enL ac8::z5
def NV(r s:BO3)(_k:KT):OLR:=og (decide (ok Rt 100000 r/\ok Rt 100000 s)) (match !(oC (dec r) (dec s))with|true=>some [RV.d tO (((false,[]),(false,[])),(((false,[]),(false,[])),((false,[]),(false,[])))),RV.d apE 1]|false=>(og (o2 r.1 s.1) (og (o2 r.2.1 s.2.1) (og (o2 (hMu r.2.1 s.2.1) (hid (am (gJ (dec r) (dec s))))) (og (o2 (hMu r.1 s.1) (hMu (hMu r.2.1 s.2.1) (hid (am (gJ (dec r) (dec s)))))) (og (o2 r.1 s.2.1) (og (o2 r.2.1 s.1) (og (o2 (hMu r.1 s.2.1) (hMu r.2.1 s.1)) (og (decide (okR (hAd (hMu r.1 s.1) (hMu (hMu r.2.1 s.2.1) (hid (am (gJ (dec r) (dec s))))))/\okR (hAd (hMu r.1 s.2.1) (hMu r.2.1 s.1))/\okR (hid (am (gJ (dec r) (dec s)))))) (some [RV.d tO (hid (enc (iJ (ag (hAd (hMu r.1 s.1) (hMu (hMu r.2.1 s.2.1) (hid (am (gJ (dec r) (dec s))))))) (ag (hAd (hMu r.1 s.2.1) (hMu r.2.1 s.1))) (ag (hid (am (gJ (dec r) (dec s)))))))),RV.d apE 0]))))))))))
def Pr:Cn 218 [tO,tO]:=cn λ(r s:BO3)=>lf (ok Rt 50000 r/\ok Rt 50000 s/\oC (dec r) (dec s)=true) [.d tO (enc (ls (dec r) (dec s))),.d apE 0] λh=>by
 refine aA Oz (NV r s) ⟨0,?_⟩;obtain⟨hr,hs,htrue⟩:=h;obtain⟨r,rfl,br⟩:=aM hr;obtain⟨s,rfl,bs⟩:=aM hs;have hm:=htrue;rw[au,au]at hm;unfold NV;simp only[bE,Nat.reduceAdd,Nat.reduceLeDiff,hm,Bool.not_true];rfl
def Sx(r s:BO3)(_k:KT):OLR:=og (decide (ok Rt 100000 r/\ok Rt 100000 s)) (match !(oC (dec r) (dec s))with|true=>some [RV.d tO (((false,[]),(false,[])),(((false,[]),(false,[])),((false,[]),(false,[])))),RV.d apE 1]|false=>(og (o2 r.1 s.1) (og (o2 r.2.1 s.2.1) (og (decide (okR (hAd r.1 s.1)/\okR (hAd r.2.1 s.2.1)/\okR (hid (am (gJ (dec r) (dec s)))))) (some [RV.d tO (hid (enc (iJ (ag (hAd r.1 s.1)) (ag (hAd r.2.1 s.2.1)) (ag (hid (am (gJ (dec r) (dec s)))))))),RV.d apE 0])))))
def adD:Cn 274 [tO,tO]:=cn λ(r s:BO3)=>lf (ok Rt 100000 r/\ok Rt 100000 s/\oC (dec r) (dec s)=true) [.d tO (enc (zn (dec r) (dec s))),.d apE 0] λh=>by
 refine aA Oz (Sx r s) ⟨0,?_⟩;obtain⟨hr,hs,htrue⟩:=h;obtain⟨r,rfl,br⟩:=aM hr;obtain⟨s,rfl,bs⟩:=aM hs;have hm:=htrue;rw[au,au]at hm;unfold Sx;simp only[bE,Nat.reduceAdd,Nat.reduceLeDiff,hm,Bool.not_true];rfl
def Ih:List En:=enL Pr::enL adD::Oz
def Mo(r:BO3)(_k:KT):OLR:=og (decide (ok Rt 50000 r/\ok Rt 50000 r/\oC (dec r) (dec r)=true)) (some [RV.d tO (hid (enc (ls (dec r) (dec r))))])
def ad4:Cn 275 [tO]:=cn λ(r:BO3)=>lf (ok Rt 50000 r) [.d tO (enc (ls (dec r) (dec r)))] λh=>by
 refine aA Ih (Mo r) ⟨0,?_⟩;have hr:=h;obtain⟨r,rfl,br⟩:=aM hr;unfold Mo;simp only[bE,Nat.reduceLeDiff,KY]
def N6(v:BV)(_k:KT):OLR:=some [RV.d tP (v.1,(hid (am 0),(v.2,(hid (am 0),hid (am 0)))))]
def GR:Cn 150 [tV]:=cn λ(v:BV)=>lf (ok (Rat×Rat) 100000 v) [.d tP (enc (atP (dec v)))] λh=>by
 refine aA Ih (N6 v) ⟨0,?_⟩;have hv:=h;obtain⟨v,rfl,bv⟩:=aM hv;unfold N6;simp only[bE];try rfl
def Po(a b c:BR)(_k:KT):OLR:=og (o1 b) (match(aD (ag b) 0)==0 with|true=>(og (o1 a) (some [RV.d tO (hid (enc ((ag a,0,0):Rt)))]))|false=>some [RV.d tO (a,(b,c))])
def abc:Cn 213 [tR,tR,tR]:=cn λ(a b c:BR)=>lf (okR a/\okR b/\okR c) [.d tO (enc (coR (ag a) (ag b) (ag c)))] λh=>by
 refine aA Ih (Po a b c) ⟨0,?_⟩;obtain⟨ha,hb,hc⟩:=h;obtain⟨a,rfl,ba⟩:=fT ha;obtain⟨b,rfl,bb⟩:=fT hb;obtain⟨c,rfl,bc⟩:=fT hc;unfold Po;simp only[bE,aG,Nat.reduceLeDiff,ao];unfold coR;by_cases e:b=0
 ·subst e;rw[amh rfl];rfl
 ·rw[ami e];rfl
def Rx:List En:=enL ad4::enL GR::enL abc::Ih
def X4(p:BP)(_k:KT):OLR:=og (decide (okR p.1/\okR p.2.1/\okR p.2.2.2.2)) (some [RV.d tO (hid (enc (coR (ag p.1) (ag p.2.1) (ag p.2.2.2.2))))])
def IE:Cn 155 [tP]:=cn λ(p:BP)=>lf (okP 4000 p) [.d tO (enc (xP (dec p)))] λh=>by
 refine aA Rx (X4 p) ⟨0,?_⟩;have hp:=h;obtain⟨p,rfl,bp,rp⟩:=cM hp;unfold X4;simp only[bE,Nat.reduceLeDiff];try rfl
def XM(p:BP)(_k:KT):OLR:=og (decide (okR p.2.2.1/\okR p.2.2.2.1/\okR p.2.2.2.2)) (some [RV.d tO (hid (enc (coR (ag p.2.2.1) (ag p.2.2.2.1) (ag p.2.2.2.2))))])
def I5:Cn 156 [tP]:=cn λ(p:BP)=>lf (okP 4000 p) [.d tO (enc (yP (dec p)))] λh=>by
 refine aA Rx (XM p) ⟨0,?_⟩;have hp:=h;obtain⟨p,rfl,bp,rp⟩:=cM hp;unfold XM;simp only[bE,Nat.reduceLeDiff];try rfl
def W8:List En:=enL IE::enL I5::Rx
def MW(p q:BP)(_k:KT):OLR:=og (decide (okP 4000 p)) (og (decide (okP 4000 q)) (og (decide (okT 15000 (hid (enc (xP (dec p))))/\okT 15000 (hid (enc (xP (dec q)))))) (match(bQ (dec (hid (enc (xP (dec p))))) (dec (hid (enc (xP (dec q)))))) !=0 with|true=>some [RV.d apE (bQ (dec (hid (enc (xP (dec p))))) (dec (hid (enc (xP (dec q))))))]|false=>(og (decide (okP 4000 p)) (og (decide (okP 4000 q)) (og (decide (okT 15000 (hid (enc (yP (dec p))))/\okT 15000 (hid (enc (yP (dec q)))))) (some [RV.d apE (bQ (dec (hid (enc (yP (dec p))))) (dec (hid (enc (yP (dec q))))))])))))))
def r8:Cn 108 [tP,tP]:=cn λ(p q:BP)=>lf (okP 4000 p/\okP 4000 q) [.d apE (aB (dec p) (dec q))] λh=>by
 refine aA W8 (MW p q) ⟨0,?_⟩;obtain⟨hp,hq⟩:=h;obtain⟨p,rfl,bp,rp⟩:=cM hp;obtain⟨q,rfl,bq,rq⟩:=cM hq;unfold MW;simp only[bE,Nat.reduceLeDiff,aP,aU];unfold aB bne;cases bQ (xP p) (xP q)==0<;>rfl
def YQ:List En:=enT r8::W8
def Mv(p q:BP)(_k:KT):OLR:=og (decide (okP 4000 p/\okP 4000 q)) (some [RV.d .bool ((aB (dec p) (dec q))==0)])
def oI:Cn 75 [tP,tP]:=cn λ(p q:BP)=>lf (okP 4000 p/\okP 4000 q) [.d .bool (aB (dec p) (dec q)==0)] λh=>by
 refine aA YQ (Mv p q) ⟨0,?_⟩;unfold Mv;rw[dT h]
def MV(p:BP)(v:BV)(_k:KT):OLR:=let y1:=hid (enc (bkV (dec v)));let y2:=hid (enc (trP (dec p) (dec y1)));let y3:=hid (enc (xP (dec y2)));let y4:=hid (enc (yP (dec y2)));let y5:=hid (enc (ls (dec y3) (dec y3)));let y6:=hid (enc (ls (dec y4) (dec y4)));og (decide (ok (Rat×Rat) 21000 v)) (og (decide (ok Pt 21000 p/\ok (Rat×Rat) 1000 y1)) (og (decide (okP 4000 y2)) (og (decide (ok Rt 50000 y3)) (og (decide (okP 4000 y2)) (og (decide (ok Rt 50000 y4)) (og (decide (ok Rt 100000 y5/\ok Rt 100000 y6/\oC (dec y5) (dec y6)=true)) (some [RV.d tO (hid (enc (zn (dec y5) (dec y6))))])))))))
def aa3:Cn 209 [tP,tV]:=cn λ(p:BP) (v:BV)=>lf (okP 3500 p/\ok (Rat×Rat) 300 v) [.d tO (enc (sqP (dec p) (dec v)))] λh=>by
 refine aA YQ (MV p v) ⟨0,?_⟩;obtain⟨hp,hv⟩:=h;obtain⟨p,rfl,bp,rp⟩:=cM hp;obtain⟨v,rfl,bv⟩:=aM hv;obtain⟨e1,e2⟩:=H4 (v:=v) rp;unfold MV;simp only[bE,Nat.reduceAdd,Nat.reduceMul,Nat.reduceLeDiff,aU,e1];rw[e2]
def Hj(l:Ln)(p:Pt):Rt:=mkR (J9 l p) (Kr l p) p.2.2.2.2
def vL(c:Ln)(p:Pt):Rt:=arT (sqP p (ctr c)) (-c.2.2)
instance alP {r:Rt} {a:Rat} [h:Rdd r]:Rdd (arT r a):=⟨h.rd⟩
instance UP {l:Ln} {p:Pt} [h:Rpd p]:Rdd (Hj l p):=by
 have:Nn p.2.2.2.2:=inferInstance;exact Ms
instance akT {l:Ln} {p:Pt} {i j:Nat} [h:Bd l i] [h':Bd p j]:Bd (Hj l p) (5*i+5*j+5):=by
 have a1:Bd (J9 l p) _:=inferInstance;have a2:Bd (Kr l p) _:=inferInstance;have a3:Bd (mkR (J9 l p) (Kr l p) p.2.2.2.2) _:=inferInstance;exact a3.mono (by omega)
theorem TO{l:Ln}{p:Pt}[h:Rpd p]:sgR (Hj l p)=uZ l p:=by
 unfold uZ;rw[PF (UP (l:=l) (p:=p)).nn,RE.sgn2_re h.nn];unfold Hj;rw[RE.vR_mk]
namespace RE
theorem U0(a b q:RE):a+ -q+b=a+b-q:=by grind
theorem Uy(a b q:RE):a-q+b=a+b-q:=by grind
theorem shift_l(a b d q:RE)(h:a+b=a+d):a+ -q+b=a-q+d:=by
 rw[U0,Uy,h]
end RE
theorem UR{c:Ln}{p:Pt}[h:Rpd p]: -sgR (vL c p)=qt c p:=by
 unfold qt;have hr:Rdd (vL c p):=inferInstanceAs (Rdd (arT (sqP p (ctr c)) (-c.2.2)));rw[PF hr.nn,RE.sgn2_re h.nn]
 have e:RE.vR (vL c p)=RE.v2 (sqA p (ctr c)-c.2.2) (sqB p (ctr c)) p.2.2.2.2:=by
  have e1:=RE.vR_co (sqA p (ctr c)) (sqB p (ctr c)) p.2.2.2.2;unfold RE.vR RE.v2 at e1;unfold vL arT sqP RE.vR RE.v2;simp only;rw[RE.of_add,RE.of_neg,RE.of_sub]
  have e2:RE.of (coR (sqA p (ctr c)) (sqB p (ctr c)) p.2.2.2.2).1=RE.of (sqA p (ctr c)):=by
   unfold coR;cases decide (sqB p (ctr c)=0)<;>rfl
  rw[e2]at e1 ⊢;exact RE.shift_l _ _ _ _ e1
 rw[e]
theorem xQ{q:Rat}(h:q≠0):aD q 0=if 0<q then 1 else-1:=by
 rcases(by grind:q<0\/0<q)with h'|h'
 ·rw[d9 h',amJ (by grind)]
 ·rw[dL h',am2 h']
def t9:List En:=[enT l9,enL ru,enL vp,enL yc,enL rK,enT uq,enL nB,enL wK,enL acR,enL Hv,enL aa3]
def QD(a:BR)(_k:KT):OLR:=match decide (okR a/\okR a)with|true=>some [RV.d tR (hMu a a)]|false=>none
def adH:Cn 271 [tR]:=cn λ(a:BR)=>lf (okR a) [.d tR (am (ag a*ag a))] λh=>by
 refine aA t9 (QD a) ⟨0,?_⟩;unfold QD;rw[dT ⟨h,h⟩];simp only[aQ]
def PM:Cn 205 [tR,tR]:=cn λ(a b:BR)=>lf (okR a/\okR b) [.d tR (am (ag a+ag b))] λh=>qw [RV.d tR (hAd a b)] (eU t9) h
def SY:Cn 204 [tR,tR]:=cn λ(a b:BR)=>lf (okR a/\okR b) [.d tR (am (ag a-ag b))] λh=>qw [RV.d tR (hSu a b)] (eU t9) h
def Ge:Cn 160 [tR,tR]:=cn λ(a b:BR)=>lf (okR a/\okR b) [.d tR (am (ag a*ag b))] λh=>qw [RV.d tR (hMu a b)] (eU t9) h
def wg:List En:=enL adH::enL PM::enL SY::enL Ge::t9
def LS(r:BO3)(_k:KT):OLR:=og (o1 r.1) (og (o1 r.2.1) (og (o2 (hid (am (ag r.2.1*ag r.2.1))) r.2.2) (og (o2 (hid (am (ag r.1*ag r.1))) (hMu (hid (am (ag r.2.1*ag r.2.1))) r.2.2)) (some [RV.d tR (hSu (hid (am (ag r.1*ag r.1))) (hMu (hid (am (ag r.2.1*ag r.2.1))) r.2.2))]))))
def QI:Cn 207 [tO]:=cn λ(r:BO3)=>lf (ok Rt 90000 r) [.d tR (am (noR (dec r)))] λh=>by
 refine aA wg (LS r) ⟨0,?_⟩;have hr:=h;obtain⟨r,rfl,br⟩:=aM hr;unfold LS;simp only[bE,Nat.reduceAdd,Nat.reduceLeDiff];rfl
def Qn(l:BO3)(p:BP)(_k:KT):OLR:=og (o2 l.1 p.1) (og (o2 l.2.1 p.2.2.1) (og (o2 (hMu l.1 p.1) (hMu l.2.1 p.2.2.1)) (og (o2 (hAd (hMu l.1 p.1) (hMu l.2.1 p.2.2.1)) l.2.2) (og (o2 l.1 p.2.1) (og (o2 l.2.1 p.2.2.2.1) (og (o2 (hMu l.1 p.2.1) (hMu l.2.1 p.2.2.2.1)) (og (decide (ok Rat 100000 (hSu (hAd (hMu l.1 p.1) (hMu l.2.1 p.2.2.1)) l.2.2)/\ok Rat 100000 (hAd (hMu l.1 p.2.1) (hMu l.2.1 p.2.2.2.1))/\ok Rat 100000 p.2.2.2.2/\0<=ag p.2.2.2.2)) (some [RV.d tO (hid (enc (mkR (ag (hSu (hAd (hMu l.1 p.1) (hMu l.2.1 p.2.2.1)) l.2.2)) (ag (hAd (hMu l.1 p.2.1) (hMu l.2.1 p.2.2.2.1))) (ag p.2.2.2.2))))]))))))))
def aaE:Cn 153 [tO,tP]:=cn λ(l:BO3) (p:BP)=>lf (ok Ln 300 l/\okP 4000 p) [.d tO (enc (Hj (dec l) (dec p)))] λh=>by
 refine aA wg (Qn l p) ⟨0,?_⟩;obtain⟨hl,hp⟩:=h;obtain⟨l,rfl,bl⟩:=aM hl;obtain⟨p,rfl,bp,rp⟩:=cM hp;have hn:0<=p.2.2.2.2:=rp.nn;unfold Qn;simp only[bE,Nat.reduceAdd,Nat.reduceLeDiff,dT hn];rfl
def Oi(c:BO3)(p:BP)(_k:KT):OLR:=og (decide (okP 3500 p/\ok (Rat×Rat) 300 (c.1,c.2.1))) (og (o1 c.2.2) (og (decide (ok Rt 100000 (hid (enc (sqP (dec p) (dec (c.1,c.2.1)))))/\ok Rat 100000 (hNe c.2.2))) (some [RV.d tO (hid (enc (arT (dec (hid (enc (sqP (dec p) (dec (c.1,c.2.1)))))) (ag (hNe c.2.2)))))])))
def aaI:Cn 152 [tO,tP]:=cn λ(c:BO3) (p:BP)=>lf (ok Ln 300 c/\okP 3500 p) [.d tO (enc (vL (dec c) (dec p)))] λh=>by
 refine aA wg (Oi c p) ⟨0,?_⟩;obtain⟨hc,hp⟩:=h;obtain⟨c,rfl,bc⟩:=aM hc;obtain⟨p,rfl,bp,rp⟩:=cM hp;have e0:(dec ((am c.1,am c.2.1):BV):Rat×Rat)=ctr c:=au (ctr c);have e1:decide (ok (Rat×Rat) 300 ((am c.1,am c.2.1):BV))=true:=okd (x:=ctr c) (by decide) (by decide);unfold Oi;simp only[bE,Nat.reduceAdd,Nat.reduceMul,Nat.reduceLeDiff,aU,e0,e1];rfl
def Je:List En:=enL QI::enL aaE::enL aaI::wg
def MT(r:BO3)(_k:KT):OLR:=og (o1 r.1) (og (o1 r.2.1) (match(aD (ag r.1) 0)==(aD (ag r.2.1) 0)with|true=>some [RV.d apE (aD (ag r.1) 0)]|false=>(match(aD (ag r.2.1) 0)==0 with|true=>some [RV.d apE (aD (ag r.1) 0)]|false=>(match(aD (ag r.1) 0)==0 with|true=>some [RV.d apE (aD (ag r.2.1) 0)]|false=>(og (decide (ok Rt 90000 r)) (og (o1 (hid (am (noR (dec r))))) (match decide ((aD (ag (hid (am (noR (dec r))))) 0)>0)with|true=>some [RV.d apE (aD (ag r.1) 0)]|false=>some [RV.d apE (aD (ag r.2.1) 0)])))))))
def Fo:Cn 151 [tO]:=cn λ(r:BO3)=>lf (okT 90000 r) [.d apE (sgR (dec r))] λh=>by
 refine aA Je (MT r) ⟨0,?_⟩;have hr:=h;obtain⟨r,rfl,br,rr⟩:=iE hr;unfold MT;simp only[bE,Nat.reduceAdd,Nat.reduceMul,Nat.reduceLeDiff,ao,av];rw[WI rr];by_cases hb:r.2.1=0
 ·rw[amh hb,hb,eD];by_cases ha:aD r.1 0=0
  ·rw[ha];rfl
  ·rw[show(aD r.1 0==0)=false by simp[ha]];rfl
 ·have hn:=abb rr hb;have e2:=xQ hn;have hb2:=xQ hb;rw[ami hb,show(aD r.2.1 0==0)=false by rw[ao,ami hb]];by_cases ha:r.1=0
  ·rw[amh ha,ha,eD,show((0:Int)==aD r.2.1 0)=false by rw[hb2];split<;>rfl];rfl
  ·have ha2:=xQ ha;rw[ami ha,show(aD r.1 0==0)=false by rw[ao,ami ha]];cases hq:(aD r.1 0==aD r.2.1 0)
   ·have hne:aD r.1 0≠aD r.2.1 0:=by simpa using hq
    rw[e2];by_cases hp:0<noR r
    ·rw[amh hp,am2 hp,aoW];rfl
    ·rw[ami hp,amJ hp];show some [RV.d apE (aD r.2.1 0)]=some [RV.d apE (aD r.1 0* -1)]
     rw[show aD r.2.1 0=aD r.1 0* -1 by
      rw[ha2,hb2]at hne ⊢;split at hne<;>split at hne<;>simp_all]
   ·rfl
def Jo:List En:=enT Fo::Je
def P1(l:BO3)(p:BP)(_k:KT):OLR:=og (decide (ok Ln 300 l/\okP 4000 p)) (og (decide (okT 90000 (hid (enc (Hj (dec l) (dec p)))))) (some [RV.d apE (sgR (dec (hid (enc (Hj (dec l) (dec p))))))]))
def abA:Cn 107 [tO,tP]:=cn λ(l:BO3) (p:BP)=>lf (ok Ln 300 l/\okP 4000 p) [.d apE (uZ (dec l) (dec p))] λh=>by
 refine aA Jo (P1 l p) ⟨0,?_⟩;obtain⟨hl,hp⟩:=h;obtain⟨l,rfl,bl⟩:=aM hl;obtain⟨p,rfl,bp,rp⟩:=cM hp;unfold P1;simp only[bE,Nat.reduceAdd,Nat.reduceMul,Nat.reduceLeDiff,aP,aU];rw[TO]
def PU(c:BO3)(p:BP)(_k:KT):OLR:=og (decide (ok Ln 300 c/\okP 3500 p)) (og (decide (okT 90000 (hid (enc (vL (dec c) (dec p)))))) (some [RV.d apE (i64.wrap (0-(sgR (dec (hid (enc (vL (dec c) (dec p))))))))]))
def abz:Cn 106 [tO,tP]:=cn λ(c:BO3) (p:BP)=>lf (ok Ln 300 c/\okP 3500 p) [.d apE (qt (dec c) (dec p))] λh=>by
 refine aA Jo (PU c p) ⟨0,?_⟩;obtain⟨hc,hp⟩:=h;obtain⟨c,rfl,bc⟩:=aM hc;obtain⟨p,rfl,bp,rp⟩:=cM hp;have hr:Rdd (vL c p):=inferInstanceAs (Rdd (arT (sqP p (ctr c)) (-c.2.2)));have br:Bd (vL c p) 90000:=(inferInstance:Bd (arT (sqP p (ctr c)) (-c.2.2)) _).mono (by decide);have hb: -1<=sgR (vL c p)/\sgR (vL c p)<=1:=lD _ _ _;unfold PU;simp only[bE,Nat.reduceLeDiff,aP,aU,aoj,aO (x:= -sgR (vL c p)) (by omega) (by omega)];rw[UR]
def yW(c:BCU):BCU:=(c.1,c.2.1,(am (-ag c.2.2.1.1),c.2.2.1.2),!c.2.2.2.1,enc (flP (dec c.2.2.2.2.1)),enc (flP (dec c.2.2.2.2.2)))
instance alY {p:Pt} [h:Rpd p]:Rpd (flP p):=by
 refine⟨?_⟩;have:=h.rd;unfold G6 flP at*
 simp only;have e:(-p.2.1=0)↔p.2.1=0:=by constructor<;>intro h<;>grind
 rw[e];exact this
instance al9 {p:Pt} {j:Nat} [h:Bd p j]:Bd (flP p) j:=by
 have i1:Bd ((-p.1,-p.2.1,p.2.2.1,p.2.2.2.1,p.2.2.2.2):Pt) _:=inferInstance;exact i1.mono (jz (by omega) (jz (by omega) (jz (by omega) (jz (by omega) (by omega)))))
theorem qm{j k:Nat}{x:BP}(h:okP j x)(hj:j<=k)(hk:k<=480000):okP k x:=by
 obtain⟨p,rfl,bp,rp⟩:=cM h;exact amj (aU hj hk)
theorem Ll{j k:Nat}{c:BCU}(h:okC j c)(hj:j<=k)(hk:k<=480000):okC k c:=⟨h.1,h.2.1,qm h.2.2.1 hj hk,qm h.2.2.2 hj hk⟩
theorem Fr{x:BP}(h:okP 4000 x):okP 4000 (enc (flP (dec x))):=by
 obtain⟨p,rfl,bp,rp⟩:=cM h;rw[au];exact amj (aU (x:=flP p) (by decide) (by decide))
theorem acQ{x:BO3}(h:ok Ln 300 x):ok Ln 300 ((am (-ag x.1),x.2):BO3)/\(dec ((am (-ag x.1),x.2):BO3):Ln)=flC (dec x):=by
 obtain⟨l,rfl,bl⟩:=aM h
 have e:((am (-ag (enc l:BO3).1),(enc l:BO3).2):BO3)=enc (flC l):=by
  rw[sB,lO,eA];rfl
 rw[e,au,au];refine⟨?_,rfl⟩;have i1:Bd (flC l) 300:=(inferInstance:Bd ((-l.1,l.2.1,l.2.2):Ln) _).mono (by decide);exact amj (okd (x:=flC l) (amm _) (by decide))
def zX:List En:=[enL nB,enT BE,enT ST,enL IE,enL I5,enT r8,enT abA,enT abz]
def aal(c:BCU)(p:BP)(_k:KT):OLR:=match c.1 with|true=>(og (decide (ok Ln 300 c.2.2.1/\okP 3500 p)) (some [RV.d .bool ((qt (dec c.2.2.1) (dec p))==0)]))|false=>(og (decide (ok Ln 300 c.2.1/\okP 4000 p)) (some [RV.d .bool ((uZ (dec c.2.1) (dec p))==0)]))
def YR:Cn 74 [tCU,tP]:=cn λ(c:BCU) (p:BP)=>lf (okC 3500 c/\okP 3500 p) [.d .bool (du (dC c) (dec p))] λh=>by
 refine aA zX (aal c p) ⟨0,?_⟩;obtain⟨hc,hp⟩:=h;have op:decide (okP 3500 p)=true:=amh hp;have op4:decide (okP 4000 p)=true:=amh (qm hp (by decide) (by decide));obtain⟨ar,li,ci,cw,fr,to⟩:=c;obtain⟨c1,c2,_⟩:=hc;unfold aal;cases ar
 ·have e:=(c2 rfl).1;simp only[aol,dT e,op4,anD];rfl
 ·have e:=(c1 rfl).1;simp only[aol,dT e,op,anD];rfl
def aad(c:BO3)(p:BP)(_k:KT):OLR:=og (decide (okP 4000 p)) (og (decide (okT 15000 (hid (enc (yP (dec p))))/\ok Rat 15000 c.2.1)) (match decide ((hU (dec (hid (enc (yP (dec p))))) (ag c.2.1))>0)with|true=>some [RV.d .bool true]|false=>(match(hU (dec (hid (enc (yP (dec p))))) (ag c.2.1))==0 with|true=>(og (decide (okP 4000 p)) (og (decide (okT 15000 (hid (enc (xP (dec p))))/\ok Rat 15000 c.1)) (some [RV.d .bool (decide ((hU (dec (hid (enc (xP (dec p))))) (ag c.1))>0))])))|false=>some [RV.d .bool false])))
def agT:Cn 283 [tO,tP]:=cn λ(c:BO3) (p:BP)=>lf (ok Ln 300 c/\okP 4000 p) [.d .bool (upR (dec c) (dec p))] λh=>by
 refine aA zX (aad c p) ⟨0,?_⟩;obtain⟨hc,hp⟩:=h;obtain⟨c,rfl,bc⟩:=aM hc;obtain⟨p,rfl,bp,rp⟩:=cM hp;unfold aad upR;simp only[bE,Nat.reduceLeDiff,aP,aU];cases decide (hU (yP p) c.2.1>0)<;>cases hU (yP p) c.2.1==0<;>rfl
def Zq(p:BP)(_k:KT):OLR:=og (o1 p.1) (og (o1 p.2.1) (some [RV.d tP (hNe p.1,(hNe p.2.1,p.2.2))]))
def aiq:Cn 166 [tP]:=cn λ(p:BP)=>lf (okP 4000 p) [.d tP (enc (flP (dec p)))] λh=>by
 refine aA zX (Zq p) ⟨0,?_⟩;have hp:=h;obtain⟨p,rfl,bp,rp⟩:=cM hp;unfold Zq;simp only[bE,Nat.reduceLeDiff];rfl
def ahx:Ctx:=CX (ens zX) []
def ajV(c:BCU)(_k:KT):OLR:=match c.1 with|true=>some [RV.d tCU (c.1,(c.2.1,(c.2.2.1,(!c.2.2.2.1,(c.2.2.2.2.2,c.2.2.2.2.1)))))]|false=>some [RV.d tCU (c.1,(c.2.1,(c.2.2.1,(false,(c.2.2.2.2.2,c.2.2.2.2.1)))))]
theorem afA(c:BCU):RS ahx 113 [.d tCU c] (ajV c):=rsX
def Jr:Cn 113 [tCU]:=cn λ(c:BCU)=>lf True [.d tCU (iM c)] λ_=>by
 refine a8 zX (afA _ ⟨0,?_⟩);obtain⟨ar,li,ci,cw,fr,to⟩:=c;cases ar<;>rfl
def Nr:List En:=enT YR::enT agT::enL aiq::enL Jr::zX
def XN(c:BO3)(p q:BP)(_k:KT):OLR:=og (decide (ok Ln 300 c/\okP 4000 p)) (og (decide (ok Ln 300 c/\okP 4000 q)) (match !((upR (dec c) (dec p))==(upR (dec c) (dec q)))with|true=>(match upR (dec c) (dec q)with|true=>some [RV.d apE (-1)]|false=>some [RV.d apE 1])|false=>(og (decide (okP 4000 p)) (og (decide (okP 4000 q)) (og (decide (okT 15000 (hid (enc (xP (dec p))))/\okT 15000 (hid (enc (xP (dec q)))))) (match upR (dec c) (dec p)with|true=>some [RV.d apE (i64.wrap (0-(bQ (dec (hid (enc (xP (dec p))))) (dec (hid (enc (xP (dec q))))))))]|false=>some [RV.d apE (bQ (dec (hid (enc (xP (dec p))))) (dec (hid (enc (xP (dec q))))))]))))))
def agF:Cn 230 [tO,tP,tP]:=cn λ(c:BO3) (p q:BP)=>lf (ok Ln 300 c/\okP 4000 p/\okP 4000 q) [.d apE (jD bQ (ptd (dec c) (dec p)) (ptd (dec c) (dec q)))] λh=>by
 refine aA Nr (XN c p q) ⟨0,?_⟩;obtain⟨hc,hp,hq⟩:=h;obtain⟨c,rfl,bc⟩:=aM hc;obtain⟨p,rfl,bp,rp⟩:=cM hp;obtain⟨q,rfl,bq,rq⟩:=cM hq;have xb:=ww (xP p) (xP q);unfold XN;simp only[bE,Nat.reduceLeDiff,aP,aU,aO (x:= -bQ (xP p) (xP q)) (by omega) (by omega),aoj];unfold jD ptd;cases upR c p<;>cases upR c q<;>rfl
def aak(c:BCU)(_k:KT):OLR:=match decide (okR c.2.2.1.1)with|true=>(match decide (okP 4000 c.2.2.2.2.1)with|true=>(match decide (okP 4000 c.2.2.2.2.2)with|true=>some [RV.d tCU (c.1,(c.2.1,((hNe c.2.2.1.1,c.2.2.1.2),(!c.2.2.2.1,(hid (enc (flP (dec c.2.2.2.2.1))),hid (enc (flP (dec c.2.2.2.2.2))))))))]|false=>none)|false=>none)|false=>none
def afD:Cn 165 [tCU]:=cn λ(c:BCU)=>lf (t6 c.2.2.1/\okP 4000 c.2.2.2.2.1/\okP 4000 c.2.2.2.2.2) [.d tCU (yW c)] λh=>by
 refine aA Nr (aak c) ⟨0,?_⟩;obtain⟨hc,hf,ht⟩:=h
 have e:okR c.2.2.1.1:=by
  obtain⟨l,hl,bl⟩:=aM hc.1;rw[hl,sB,lO];exact amj (qA (q:=l.1) (by decide))
 unfold aak;rw[dT e,dT hf,dT ht];simp only[aQ];rfl
def aaa:List En:=enT agF::enL afD::Nr
def XI(c:BO3)(f p q:BP)(_k:KT):OLR:=og (decide (ok Ln 300 c/\okP 4000 p/\okP 4000 f)) (og (decide (ok Ln 300 c/\okP 4000 q/\okP 4000 f)) (match !((decide ((jD bQ (ptd (dec c) (dec p)) (ptd (dec c) (dec f)))<0))==(decide ((jD bQ (ptd (dec c) (dec q)) (ptd (dec c) (dec f)))<0)))with|true=>(match decide ((jD bQ (ptd (dec c) (dec q)) (ptd (dec c) (dec f)))<0)with|true=>some [RV.d apE (-1)]|false=>some [RV.d apE 1])|false=>(og (decide (ok Ln 300 c/\okP 4000 p/\okP 4000 q)) (some [RV.d apE (jD bQ (ptd (dec c) (dec p)) (ptd (dec c) (dec q)))]))))
def ai4:Cn 164 [tO,tP,tP,tP]:=cn λ(c:BO3) (f p q:BP)=>lf (ok Ln 300 c/\okP 4000 f/\okP 4000 p/\okP 4000 q) [.d apE (lz bQ (ptd (dec c) (dec f)) (ptd (dec c) (dec p)) (ptd (dec c) (dec q)))] λh=>by
 refine aA aaa (XI c f p q) ⟨0,?_⟩;obtain⟨hc,hf,hp,hq⟩:=h;unfold XI lz;rw[dT (show ok Ln 300 c/\okP 4000 p/\okP 4000 f from⟨hc,hp,hf⟩),dT (show ok Ln 300 c/\okP 4000 q/\okP 4000 f from⟨hc,hq,hf⟩),dT (show ok Ln 300 c/\okP 4000 p/\okP 4000 q from⟨hc,hp,hq⟩)];cases decide (jD bQ (ptd (dec c) (dec p)) (ptd (dec c) (dec f))<0)<;>cases decide (jD bQ (ptd (dec c) (dec q)) (ptd (dec c) (dec f))<0)<;>rfl
def YW:List En:=enT ai4::aaa
def ZM(c:BCU)(p q:BP)(_k:KT):OLR:=match !c.1 with|true=>(og (decide (okP 4000 p/\okP 4000 q)) (og (decide (okP 4000 c.2.2.2.2.1/\okP 4000 c.2.2.2.2.2)) (match decide ((aB (dec c.2.2.2.2.1) (dec c.2.2.2.2.2))>0)with|true=>some [RV.d apE (i64.wrap (0-(aB (dec p) (dec q))))]|false=>some [RV.d apE (aB (dec p) (dec q))])))|false=>(match !c.2.2.2.1 with|true=>(og (decide (ok Ln 300 c.2.2.1/\okP 4000 c.2.2.2.2.1/\okP 4000 p/\okP 4000 q)) (some [RV.d apE (lz bQ (ptd (dec c.2.2.1) (dec c.2.2.2.2.1)) (ptd (dec c.2.2.1) (dec p)) (ptd (dec c.2.2.1) (dec q)))]))|false=>(og (decide (t6 c.2.2.1/\okP 4000 c.2.2.2.2.1/\okP 4000 c.2.2.2.2.2)) (og (decide (okP 4000 p)) (og (decide (okP 4000 q)) (og (decide (ok Ln 300 ((((hid (yW c)).2).2).1)/\okP 4000 ((((((hid (yW c)).2).2).2).2).1)/\okP 4000 (hid (enc (flP (dec p))))/\okP 4000 (hid (enc (flP (dec q)))))) (some [RV.d apE (lz bQ (ptd (dec ((((hid (yW c)).2).2).1)) (dec ((((((hid (yW c)).2).2).2).2).1))) (ptd (dec ((((hid (yW c)).2).2).1)) (dec (hid (enc (flP (dec p)))))) (ptd (dec ((((hid (yW c)).2).2).1)) (dec (hid (enc (flP (dec q)))))))]))))))
def Jd:Cn 117 [tCU,tP,tP]:=cn λ(c:BCU) (p q:BP)=>lf (okC 4000 c/\okP 4000 p/\okP 4000 q) [.d apE (bY (dC c) (dec p) (dec q))] λh=>by
 refine aA YW (ZM c p q) ⟨0,?_⟩;obtain⟨hc,hp,hq⟩:=h;have xb:=BS (dec p) (dec q);obtain⟨ar,li,ci,cw,fr,to⟩:=c;obtain⟨c1,c2,c3,c4⟩:=hc;simp only at c1 c2 c3 c4;unfold ZM bY;cases ar
 ·simp only[aoj,aO (x:= -aB (dec p) (dec q)) (by omega) (by omega),dT (show okP 4000 p/\okP 4000 q from⟨hp,hq⟩),dT (show okP 4000 fr/\okP 4000 to from⟨c3,c4⟩),Bool.not_false];simp only[dC,frC,toC,cond_false];by_cases hd:aB (dec fr) (dec to)>0
  ·simp[hd]
  ·simp[hd]
 ·have e:=(c1 rfl).1;have hci:=c1 rfl;obtain⟨f1,f2⟩:=acQ e;cases cw
  ·simp only[dT (show ok Ln 300 ci/\okP 4000 fr/\okP 4000 p/\okP 4000 q from⟨e,c3,hp,hq⟩),Bool.not_true,Bool.not_false];rfl
  ·have hm:ok Ln 300 (yW (true,li,ci,true,fr,to)).2.2.1/\okP 4000 (yW (true,li,ci,true,fr,to)).2.2.2.2.1/\okP 4000 (enc (flP (dec p)))/\okP 4000 (enc (flP (dec q))):=⟨f1,Fr c3,Fr hp,Fr hq⟩
   have m1:(dec (yW (true,li,ci,true,fr,to)).2.2.1:Ln)=flC (dec ci):=f2;have m2:(dec (yW (true,li,ci,true,fr,to)).2.2.2.2.1:Pt)=flP (dec fr):=au _;simp only[aQ,dT (show t6 ci/\okP 4000 fr/\okP 4000 to from⟨hci,c3,c4⟩),dT hp,dT hq,dT hm,Bool.not_true,m1,m2,au];rfl
def akp:List En:=enT Jd::YW
def ZV(c:BCU)(p:BP)(_k:KT):OLR:=og (decide (okC 3500 c/\okP 3500 p)) (match du (dC c) (dec p)with|true=>(og (decide (okC 4000 c/\okP 4000 c.2.2.2.2.1/\okP 4000 p)) (match decide ((bY (dC c) (dec c.2.2.2.2.1) (dec p))<=0)with|true=>(og (decide (okC 4000 c/\okP 4000 p/\okP 4000 c.2.2.2.2.2)) (some [RV.d .bool (decide ((bY (dC c) (dec p) (dec c.2.2.2.2.2))<=0))]))|false=>some [RV.d .bool false]))|false=>some [RV.d .bool false])
def JC:Cn 115 [tCU,tP]:=cn λ(c:BCU) (p:BP)=>lf (okC 3500 c/\okP 3500 p) [.d .bool (onR (dC c) (dec p))] λh=>by
 refine aA akp (ZV c p) ⟨0,?_⟩;obtain⟨hc,hp⟩:=h;have hc4:=Ll (k:=4000) hc (by decide) (by decide);have hp4:=qm (k:=4000) hp (by decide) (by decide);unfold ZV onR;rw[dT (show okC 3500 c/\okP 3500 p from⟨hc,hp⟩),dT (show okC 4000 c/\okP 4000 c.2.2.2.2.1/\okP 4000 p from⟨hc4,hc4.2.2.1,hp4⟩),dT (show okC 4000 c/\okP 4000 p/\okP 4000 c.2.2.2.2.2 from⟨hc4,hp4,hc4.2.2.2⟩)];cases du (dC c) (dec p)
 ·rfl
 ·show(match decide (bY (dC c) (frC (dC c)) (dec p)<=0)with|true=>some [RV.d .bool (decide (bY (dC c) (dec p) (toC (dC c))<=0))]|false=>some [RV.d .bool false])=_;cases decide (bY (dC c) (frC (dC c)) (dec p)<=0)<;>rfl
end Go.Proofs.YtmnlppieefomnaaGreatDoor
end
