/- Points of a curve: the program's and the reference's On agree. -/
import Derived.Test.YtoimchcjhdcdmaaGreatQ14
import Derived.Test.YtoimchcjhdcdmaaGreatQ12
import Derived.Test.YtoimchcjhdcdmaaGreatQ13
noncomputable section
namespace Go.Proofs.YtoimchcjhdcdmaaGreat
open Go.RowKit Go.IntKind
open Bool renaming true->T',false->F'
open Option renaming some->S',none->N'
open Decidable renaming decide->D'
theorem ao4:type_of% @List.mem_cons_of_mem:=@List.mem_cons_of_mem
theorem aqt:type_of% @Rat.div_mul_cancel:=@Rat.div_mul_cancel
theorem aqw:type_of% @List.not_mem_nil:=@List.not_mem_nil
theorem arN:type_of% @or_false:=@or_false
theorem arV:type_of% @Rat.zero_mul:=@Rat.zero_mul
section
namespace RE
theorem Jh{u v:RE}:cls u v=2↔v=0/\¬0<u:=by
 unfold cls;rcases c8 v with⟨a,h1⟩|⟨a,h1⟩|⟨a,h1⟩<;>rcases c8 u with⟨b,h2⟩|⟨b,h2⟩|⟨b,h2⟩<;>rw[h1,h2]
 all_goals first
  |exact⟨λ_=>⟨a,λh=>by rw[b]at h;exact lt_irrefl _ h⟩,λ_=>rfl⟩
  |exact⟨λ_=>⟨a,λh=>lt_irrefl _ (eI h b)⟩,λ_=>rfl⟩
  |(refine⟨λh=>absurd h (by decide),λh=>?_⟩;first|(rw[h.1]at a;exact absurd a (lt_irrefl _))|exact absurd b h.2)
theorem AA{u v Q:RE}(hQ:0<Q)(h:u*u+v*v=Q)(hv:v=0)(hu:¬0<u):u<0:=by
 rcases oB u 0 with e|e|e
 ·exact e
 ·rw[e,hv,mul_zero,add_zero]at h;rw[<-h]at hQ;exact absurd hQ (lt_irrefl _)
 ·exact absurd e hu
theorem MX(u w Q:RE):((u-(0))*(u-(w)))+((w-(0))*(u-(w)))+((Q-(u*u)))+((w*w-(Q)))=0:=by grind
theorem Ka(u w Q:RE)(h1:u*u=Q)(h2:w*w=Q)(h3:0<u)(h4:0<w):u<=w:=λhg=>far (aW (aW (aW (mul_pos (bE h3) (bE hg)) (le_of_lt (mul_pos (bE h4) (bE hg)))) (aN (t7 h1))) (aN (sY h2))) (MX u w Q)
theorem LU(u w Q:RE):((0-(u))*(u-(w)))+((0-(w))*(u-(w)))+((u*u-(Q)))+((Q-(w*w)))=0:=by grind
theorem Lk(u w Q:RE)(h1:u*u=Q)(h2:w*w=Q)(h3:u<0)(h4:w<0):u<=w:=λhg=>far (aW (aW (aW (mul_pos (bE h3) (bE hg)) (le_of_lt (mul_pos (bE h4) (bE hg)))) (aN (sY h1))) (aN (t7 h2))) (LU u w Q)
theorem F0(x y c:RE)(h1:x-c<y-c):x<y:=by grind
theorem Mw(x y c:RE)(h1:x-c=y-c):x<=y:=by grind
theorem ML(x y c:RE)(h1:x-c=y-c):y<=x:=by grind
theorem sD(x y c:RE)(h1:x-c=y-c):x=y:=le_antisymm (Mw x y c h1) (ML x y c h1)
theorem EP(x c:RE): -x- -c= -(x-c):=by grind
theorem Wr(x y:RE): -x- -y=y-x:=by grind
theorem afS(a b r:RE): -a+ -b*r= -(a+b*r):=by grind
theorem U5(x q:RE)(h1:x+ -q=0):x<=q:=by grind
theorem UP(x q:RE)(h1:x+ -q=0):q<=x:=by grind
theorem Js(x q:RE)(h1:x+ -q=0):x=q:=le_antisymm (U5 x q h1) (UP x q h1)
section
variable {x y x' y' cx cy Q:RE}
theorem lP(hQ:0<Q)(h:(x-cx)*(x-cx)+(y-cy)*(y-cy)=Q)(h':(x'-cx)*(x'-cx)+(y'-cy)*(y'-cy)=Q){L:List RE}(hx:x∈L)(hx':x'∈L):
  An (cls (x-cx) (y-cy)) (rk (λa b:RE=>a<b) L x) (cls (x'-cx) (y'-cy)) (rk (λa b:RE=>a<b) L x')=true:=by
 unfold An;rw[aoT];have vv:∀{u v:RE},u*u+v*v=Q->v=0->u*u=Q:=λh e=>by rw[e,mul_zero,add_zero]at h;exact h
 refine⟨?_,?_⟩
 ·by_cases e:cls (x-cx) (y-cy)=0
  ·obtain⟨e1,e2⟩:=Ly.1 e;rw[e];by_cases e':cls (x'-cx) (y'-cy)=0
   ·obtain⟨f1,f2⟩:=Ly.1 e';rw[e'];have:=sD _ _ cx (le_antisymm (Ka _ _ _ (vv h e1) (vv h' f1) e2 f2) (Ka _ _ _ (vv h' f1) (vv h e1) f2 e2));rw[this];simp
   ·have hle:=afX _ _ _ _ _ h h' e1 e2 (Il (y'-cy))
    have hlt:x'-cx<x-cx:=by
     rcases oB (x'-cx) (x-cx)with g|g|g
     ·exact g
     ·exfalso;have z:=Qb (x-cx) (x'-cx) (y'-cy) Q (vv h e1) h' (by rw[g]);exact e' (Ly.2 ⟨Kv z,by rw[g];exact e2⟩)
     ·exact absurd g ((Eh _ _).1 hle)
    have:=xC lt_lin (F0 _ _ _ hlt) hx';rw[show(cls (x'-cx) (y'-cy)==0)=F' by simp[e']];simp[this]
  ·simp[e]
 ·by_cases e:cls (x-cx) (y-cy)=2
  ·obtain⟨e1,e2⟩:=Jh.1 e;have e3:=AA hQ h e1 e2;rw[e];by_cases e':cls (x'-cx) (y'-cy)=2
   ·obtain⟨f1,f2⟩:=Jh.1 e';have f3:=AA hQ h' f1 f2;rw[e'];have:=sD _ _ cx (le_antisymm (Lk _ _ _ (vv h e1) (vv h' f1) e3 f3) (Lk _ _ _ (vv h' f1) (vv h e1) f3 e3));rw[this];simp
   ·have hle:=ae8 _ _ _ _ _ h h' e1 e3 (Il (y'-cy))
    have hlt:x-cx<x'-cx:=by
     rcases oB (x-cx) (x'-cx)with g|g|g
     ·exact g
     ·exfalso;have z:=Qb (x-cx) (x'-cx) (y'-cy) Q (vv h e1) h' (by rw[g]);exact e' (Jh.2 ⟨Kv z,by rw[<-g];exact e2⟩)
     ·exact absurd g ((Eh _ _).1 hle)
    have:=xC lt_lin (F0 _ _ _ hlt) hx;rw[show(cls (x'-cx) (y'-cy)==2)=F' by simp[e']];simp[this]
  ·simp[e]
end
def onCi(c:Ln)(p:Pt):Prop:=(pX p-of c.1)*(pX p-of c.1)+(pY p-of c.2.1)*(pY p-of c.2.1)=of c.2.2
theorem ins_on{c:Ln}{p:Pt}[Rpd p](h:iq c p=0):onCi c p:=by
 rw[tF]at h;exact Js _ _ (Q1.1 (Int.neg_eq_zero.1 h))
theorem mX{c:Ln}{p:Pt}[Rpd p]:upR c p=upA (cls (pX p-of c.1) (pY p-of c.2.1)):=by
 unfold upR;rw[cmpTR_re wg,cmpTR_re lQ,qK,E5,aeC]
theorem Ff(p:Pt):pX (flP p)= -pX p:=by
 unfold pX flP v2;rw[of_neg,of_neg];exact afS _ _ _
theorem amY(p:Pt):pY (flP p)=pY p:=rfl
theorem v7{c:Ln}{p:Pt}[h:Rpd p](hQ:0<c.2.2)(hp:onCi c p):upR (flC c) (flP p)=ufA (cls (pX p-of c.1) (pY p-of c.2.1)):=by
 unfold upR;rw[cmpTR_re wg,cmpTR_re lQ,qK,E5,Ff,amY];show(D' (sg (pY p-of c.2.1)>0)||(sg (pY p-of c.2.1)==0&&D' (sg (-pX p-of (-c.1))>0)))=_;rw[of_neg,EP,adq];exact aeD (kE hQ) hp
theorem lk{L:List RE}{p q:Pt}[Rpd p][Rpd q](hp:pX p∈L)(hq:pX q∈L):bj (xP p) (xP q)=cI (rk (λa b:RE=>a<b) L (pX p)) (rk (λa b:RE=>a<b) L (pX q)):=by
 rw[cmpT_re lQ lQ,qK,qK];exact xl lt_lin sg_cmpO hp hq
theorem nF{L:List RE}{p q:Pt}[Rpd p][Rpd q](hp:pX p∈L)(hq:pX q∈L):bj (xP (flP p)) (xP (flP q))=dI (rk (λa b:RE=>a<b) L (pX p)) (rk (λa b:RE=>a<b) L (pX q)):=by
 rw[cmpT_re lQ lQ,qK,qK,Ff,Ff,Wr];exact xl lt_lin sg_cmpO hq hp
theorem arc_eq{ci:Ln}{F P T:Pt}[Rpd F][Rpd P][Rpd T](hQ:0<ci.2.2)(hF:onCi ci F)(hP:onCi ci P)(hT:onCi ci T):
  D' (me bj (ptd ci F) (ptd ci P) (ptd ci T)<=0)=(D' (lA bj (ptd ci F) (ptd ci F) (ptd ci P)<=0)&&D' (lA bj (ptd ci F) (ptd ci P) (ptd ci T)<=0))/\
  D' (me bj (ptd ci T) (ptd ci P) (ptd ci F)<=0)=(D' (lA bj (ptd (flC ci) (flP F)) (ptd (flC ci) (flP F)) (ptd (flC ci) (flP P))<=0)&&D' (lA bj (ptd (flC ci) (flP F)) (ptd (flC ci) (flP P)) (ptd (flC ci) (flP T))<=0)):=by
 have mF:pX F∈[pX F,pX P,pX T]:=by simp
 have mP:pX P∈[pX F,pX P,pX T]:=by simp
 have mT:pX T∈[pX F,pX P,pX T]:=by simp
 have hq:0<of ci.2.2:=kE hQ;have bF:=qR lt_lin mF;have bP:=qR lt_lin mP;have bT:=qR lt_lin mT;have cF:=CQ (pX F-of ci.1) (pY F-of ci.2.1);have cP:=CQ (pX P-of ci.1) (pY P-of ci.2.1);have cT:=CQ (pX T-of ci.1) (pY T-of ci.2.1)
 have hcon:Ge (cls (pX F-of ci.1) (pY F-of ci.2.1)) (rk (λa b:RE=>a<b) [pX F,pX P,pX T] (pX F)) (cls (pX P-of ci.1) (pY P-of ci.2.1)) (rk (λa b:RE=>a<b) [pX F,pX P,pX T] (pX P)) (cls (pX T-of ci.1) (pY T-of ci.2.1)) (rk (λa b:RE=>a<b) [pX F,pX P,pX T] (pX T))=true:=by
  unfold Ge;rw[lP hq hF hP mF mP,lP hq hP hF mP mF,lP hq hF hT mF mT,lP hq hT hF mT mF,lP hq hP hT mP mT,lP hq hT hP mT mP];rfl
 have a1:=VZ ⟨_,cF⟩ ⟨_,cP⟩ ⟨_,cT⟩ ⟨_,bF⟩ ⟨_,bP⟩ ⟨_,bT⟩ hcon;have a2:=ae9 ⟨_,cF⟩ ⟨_,cP⟩ ⟨_,cT⟩ ⟨_,bF⟩ ⟨_,bP⟩ ⟨_,bT⟩ hcon;simp only at a1 a2;refine⟨?_,?_⟩
 ·unfold ptd;rw[mX,mX,mX,yu (lk mP mF) (lk mT mF) (lk mP mT),fD (lk mF mF) (lk mP mF) (lk mF mP),fD (lk mP mF) (lk mT mF) (lk mP mT)];exact a1
 ·unfold ptd;rw[mX,mX,mX,v7 hQ hF,v7 hQ hP,v7 hQ hT,yu (lk mP mT) (lk mF mT) (lk mP mF),fD (nF mF mF) (nF mP mF) (nF mF mP),fD (nF mP mF) (nF mT mF) (nF mP mT)];exact a2
theorem seg_eq{F P T:Pt}[Rpd F][Rpd P][Rpd T]:UY (aB F P) (aB P T)=akO (aB F T) (aB F P) (aB P T):=by
 have mF:pR F∈[pR F,pR P,pR T]:=by simp
 have mP:pR P∈[pR F,pR P,pR T]:=by simp
 have mT:pR T∈[pR F,pR P,pR T]:=by simp
 rw[gQ,gQ,gQ,xl gu fp mF mP,xl gu fp mP mT,xl gu fp mF mT];exact XP ⟨_,qR gu mF⟩ ⟨_,qR gu mP⟩ ⟨_,qR gu mT⟩
end RE
structure Crv (c:Cv):Prop where
 f:Rpd (frC c)
 t:Rpd (toC c)
 q:c.1=T'->0<(ciC c).2.2/\RE.onCi (ciC c) (frC c)/\RE.onCi (ciC c) (toC c)
theorem abd{c:Cv}(h:Crv c){p:Pt}(hp:Rpd p):onP c p=onR c p:=by
 have hf:=h.f;have ht:=h.t;unfold onP onR;cases hs:dv c p
 ·rfl
 ·simp only[aqf];unfold ll ck;obtain⟨ar,li,ci,cw,fr,to⟩:=c;have hf:Rpd fr:=hf;have ht:Rpd to:=ht;cases ar
  ·exact RE.seg_eq (F:=fr) (P:=p) (T:=to)
  ·obtain⟨q1,q2,q3⟩:=h.q rfl
   have hi:iq ci p=0:=by
    have:(iq ci p==0)=true:=hs;exact apw.1 this
   obtain⟨e1,e2⟩:=RE.arc_eq (ci:=ci) (F:=fr) (P:=p) (T:=to) q1 q2 (RE.ins_on hi) q3;cases cw
   ·exact e1
   ·exact e2
end
theorem ag4(d:Rat×Rat):0<=ale d d:=by
 unfold ale
 have h:∀a:Rat,0<=a*a:=λa=>by
  rcases(by grind:0<=a\/0<= -a)with h|h
  ·exact apH h h
  ·have:=apH h h;grind
 have:=h d.1;have:=h d.2;grind
theorem sZ(a b d e s:Rat):zv (mkR a d s) (mkR b e s):=by
 unfold zv mkR;cases eA s
 ·simp only[cond_false];by_cases hd:d=0
  ·rw[aoP hd];exact .inl rfl
  ·by_cases he:e=0
   ·rw[aoP he];exact .inr (.inl rfl)
   ·rw[aoR hd,aoR he];exact .inr (.inr rfl)
 ·exact .inl rfl
namespace RE
def aeo(l:Ln)(p:Pt):Prop:=of l.1*pX p+of l.2.1*pY p=of l.2.2
theorem I4{l:Ln}{p:Pt}[Rpd p](h:oM l p=0):aeo l p:=by
 rw[uc]at h;exact Js _ _ (Q1.1 h)
end RE
def gdC(c:BCU):Prop:=okC 580 c/\dv (dC c) (frC (dC c))=T'/\dv (dC c) (toC (dC c))=T'
theorem cY{k:Nat}{x:BP}(h:okP k x):Rpd (dec x):=by
 obtain⟨p,rfl,bp,rp⟩:=bL h;rw[ao];exact rp
theorem U6{c:BCU}(h:gdC c):Crv (dC c):=by
 obtain⟨h1,h2,h3⟩:=h;obtain⟨ar,li,ci,cw,fr,to⟩:=c;have hf:Rpd (frC (dC (ar,li,ci,cw,fr,to))):=cY h1.2.2.1;have ht:Rpd (toC (dC (ar,li,ci,cw,fr,to))):=cY h1.2.2.2;refine⟨hf,ht,λe=>?_⟩;have e:ar=true:=e;subst e;exact⟨(h1.1 rfl).2,RE.ins_on (apw.1 h2),RE.ins_on (apw.1 h3)⟩
section
namespace RE
abbrev PE:=RE×RE
theorem sub_zero(x:RE):x-0=x:=by grind
theorem zero_sub(x:RE):0-x= -x:=by grind
section
variable {u w:PE} {Q:RE} {L:List RE}
end
def frm(c:Ln)(p:PE):PE:=(p.1-of c.1,p.2-of c.2.1)
def Ai(c:Ln)(p:PE):Prop:=(frm c p).1*(frm c p).1+(frm c p).2*(frm c p).2=of c.2.2
def t9(l:Ln)(p:PE):Prop:=of l.1*p.1+of l.2.1*p.2=of l.2.2
def tE(l:Ln)(p:PE):RE:= -of l.2.1*p.1+of l.1*p.2
def btE(a b x:RE):Prop:=(a<=x/\x<=b)\/(b<=x/\x<=a)
def wu(l:Ln)(F T p:PE):Prop:=t9 l p/\btE (tE l F) (tE l T) (tE l p)
structure GdE (c:Cv):Prop where
 f:Rpd (frC c)
 t:Rpd (toC c)
 ne:pR (frC c)≠pR (toC c)
 q:c.1=T'->0<(ciC c).2.2/\onCi (ciC c) (frC c)/\onCi (ciC c) (toC c)
 l:c.1=F'->((lnC c).1≠0\/(lnC c).2.1≠0)/\aeo (lnC c) (frC c)/\aeo (lnC c) (toC c)
theorem Cg{c:Ln}{p:Pt}[Rpd p]:(iq c p==0)=T'↔Ai c (pR p):=by
 rw[apw];refine⟨λh=>ins_on h,λh=>?_⟩;rw[tF];have:(pX p-of c.1)*(pX p-of c.1)+(pY p-of c.2.1)*(pY p-of c.2.1)=of c.2.2:=h;rw[this,lS,fq];rfl
theorem Lw{l:Ln}{p:Pt}[Rpd p]:(oM l p==0)=T'↔t9 l (pR p):=by
 rw[apw];refine⟨λh=>I4 h,λh=>?_⟩;rw[uc];have:of l.1*pX p+of l.2.1*pY p=of l.2.2:=h;rw[this,lS,fq]
end RE
end
theorem aU{j k:Nat}{x:BP}(h:okP j x)(hj:j<=k)(hk:k<=480000):okP k x:=by
 obtain⟨p,rfl,bp,rp⟩:=bL h;exact aoQ (aL hj hk)
theorem aY{j k:Nat}{c:BCU}(h:okC j c)(hj:j<=k)(hk:k<=480000):okC k c:=⟨h.1,h.2.1,aU h.2.2.1 hj hk,aU h.2.2.2 hj hk⟩
abbrev r00:BR:=((F',[]),(F',[]))
abbrev o00:BO3:=(r00,r00,r00)
abbrev p00:BP:=(r00,r00,r00,r00,r00)
abbrev c00:BCU:=(F',o00,o00,F',p00,p00)
def sL(a b:Rat×Rat):Ln:=(a.2-b.2,b.1-a.1,(a.2-b.2)*a.1+(b.1-a.1)*a.2)
def wA(a b:Rat×Rat):Bool:=D' (a.2-b.2=0)&&D' (b.1-a.1=0)
def GT(a b:Rat×Rat):BO3:=bif wA a b then o00 else enc (sL a b)
def GF(a b:Rat×Rat):Int:=bif wA a b then 6 else 0
def yJ(a b:Rat×Rat):BCU:=bif wA a b then c00 else(F',enc (sL a b),o00,F',enc (atP a),enc (atP b))
def wu(a b:Rat×Rat):Int:=bif wA a b then 6 else 0
instance anI {a b:Rat×Rat} {i j:Nat} [h:Bd a i] [h':Bd b j]:Bd (sL a b) (4*i+2*j+3):=by
 have i1:Bd ((a.2-b.2,b.1-a.1,(a.2-b.2)*a.1+(b.1-a.1)*a.2):Ln) _:=inferInstance;exact i1.mono (jh (by omega) (jh (by omega) (by omega)))
def aa4:List En:=[enT nV,enT oW,enL xY,enL n7,enL rS,enL Nv,enL Qq,enL Cl]
def PM(a b:BV)(_k:KT):OLR:=og (o2 a.2 b.2) (og (o2 b.1 a.1) (og (o1 (hSu a.2 b.2)) (match(aD (ag (hSu a.2 b.2)) 0)==0 with|T'=>(og (o1 (hSu b.1 a.1)) (match(aD (ag (hSu b.1 a.1)) 0)==0 with|T'=>S' [RV.d tO (((F',[]),(F',[])),(((F',[]),(F',[])),((F',[]),(F',[])))),RV.d ask 6]|F'=>(og (o2 (hSu a.2 b.2) a.1) (og (o2 (hSu b.1 a.1) a.2) (og (o2 (hMu (hSu a.2 b.2) a.1) (hMu (hSu b.1 a.1) a.2)) (S' [RV.d tO (hSu a.2 b.2,(hSu b.1 a.1,hAd (hMu (hSu a.2 b.2) a.1) (hMu (hSu b.1 a.1) a.2))),RV.d ask 0]))))))|F'=>(og (o2 (hSu a.2 b.2) a.1) (og (o2 (hSu b.1 a.1) a.2) (og (o2 (hMu (hSu a.2 b.2) a.1) (hMu (hSu b.1 a.1) a.2)) (S' [RV.d tO (hSu a.2 b.2,(hSu b.1 a.1,hAd (hMu (hSu a.2 b.2) a.1) (hMu (hSu b.1 a.1) a.2))),RV.d ask 0])))))))
def aeR:Cn 229 [tV,tV]:=cn λ(a b:BV)=>lf (ok (Rat×Rat) 100 a/\ok (Rat×Rat) 100 b) [.d tO (GT (dec a) (dec b)),.d ask (GF (dec a) (dec b))] λh=>by
 refine aA aa4 (PM a b) ⟨0,?_⟩;obtain⟨ha,hb⟩:=h;obtain⟨a,rfl,ba⟩:=aJ ha;obtain⟨b,rfl,bb⟩:=aJ hb;unfold PM GT GF wA;simp only[aV,Nat.reduceAdd,Nat.reduceLeDiff,am];cases D' (a.2-b.2=0)<;>cases D' (b.1-a.1=0)<;>rfl
def aip:List En:=enL aeR::aa4
def Ss(a b:BV)(_k:KT):OLR:=og (D' (ok (Rat×Rat) 100 a/\ok (Rat×Rat) 100 b)) (match(GF (dec a) (dec b)) !=0 with|T'=>S' [RV.d tCU (F',((((F',[]),(F',[])),(((F',[]),(F',[])),((F',[]),(F',[])))),((((F',[]),(F',[])),(((F',[]),(F',[])),((F',[]),(F',[])))),(F',((((F',[]),(F',[])),(((F',[]),(F',[])),(((F',[]),(F',[])),(((F',[]),(F',[])),((F',[]),(F',[])))))),(((F',[]),(F',[])),(((F',[]),(F',[])),(((F',[]),(F',[])),(((F',[]),(F',[])),((F',[]),(F',[]))))))))))),RV.d ask 6]|F'=>(og (D' (ok (Rat×Rat) 100000 a)) (og (D' (ok (Rat×Rat) 100000 b)) (S' [RV.d tCU (F',(hid (GT (dec a) (dec b)),((((F',[]),(F',[])),(((F',[]),(F',[])),((F',[]),(F',[])))),(F',(hid (enc (atP (dec a))),hid (enc (atP (dec b)))))))),RV.d ask 0]))))
def vp:Cn 150 [tV,tV]:=cn λ(a b:BV)=>lf (ok (Rat×Rat) 100 a/\ok (Rat×Rat) 100 b) [.d tCU (yJ (dec a) (dec b)),.d ask (wu (dec a) (dec b))] λh=>by
 refine aA aip (Ss a b) ⟨0,?_⟩;obtain⟨ha,hb⟩:=h;obtain⟨a,rfl,ba⟩:=aJ ha;obtain⟨b,rfl,bb⟩:=aJ hb;unfold Ss yJ wu GF GT;simp only[aV,Nat.reduceLeDiff];cases wA a b<;>rfl
def fZ(c:Cv):List BP->BP->List BP
 |[],x=>[x]
 |y::r,x=>bif decide (ck c (dec y) (dec x)<0)then y::fZ c r x else bif aB (dec y) (dec x)==0 then y::r else x::y::r
def gU(c:Cv)(l:List BP):List BP:=l.foldl (fZ c) []
def yg(c:BCU)(l:List BP):Prop:=okC 4000 c/\l.length<=1000000/\∀x∈l,okP 4000 x
instance (c:BCU) (l:List BP):Decidable (yg c l):=by unfold yg;infer_instance
theorem pG{c:Cv}{x y:BP}:∀{r:List BP},y∈fZ c r x->y∈r\/y=x
 |[],h=>by simp only[fZ,apz]at h;exact .inr h
 |z::r,h=>by
  simp only[fZ]at h;cases h1:D' (ck c (dec z) (dec x)<0)<;>rw[h1]at h
  ·cases h2:aB (dec z) (dec x)==0<;>rw[h2]at h
   ·rcases ao7.1 h with h|h
    ·exact .inr h
    ·exact .inl h
   ·exact .inl h
  ·rcases ao7.1 h with h|h
   ·exact .inl (by simp[h])
   ·rcases pG h with h|h
    ·exact .inl (ao4 _ h)
    ·exact .inr h
theorem yV(c:Cv)(x:BP):∀r:List BP,(fZ c r x).length<=r.length+1
 |[]=>by simp[fZ]
 |z::r=>by
  have:=yV c x r;simp only[fZ];cases D' (ck c (dec z) (dec x)<0)
  ·cases aB (dec z) (dec x)==0<;>simp
  ·simp only[cond_true,ao8];omega
theorem Eo{c:Cv}:∀{l out:List BP} {y:BP},y∈l.foldl (fZ c) out->y∈out\/y∈l
 |[],_,_,h=>.inl h
 |x::l,out,y,h=>by
  rcases Eo (l:=l) (out:=fZ c out x) h with h|h
  ·rcases pG h with h|h
   ·exact .inl h
   ·exact .inr (by simp[h])
  ·exact .inr (ao4 _ h)
theorem wF(c:Cv):∀(l out:List BP),(l.foldl (fZ c) out).length<=out.length+l.length
 |[],_=>aoU _
 |x::l,out=>by
  have h1:=wF c l (fZ c out x);have h2:=yV c x out;simp only[aq9,ao8];omega
theorem L9{α:Type}{l:List α}{k:Nat}(h:k<l.length):l.take (k+1)=l.take k++[l[k]]:=by rw[ap0 h]
def Zj:List En:=[enT LJ,enT LL,enT nM]
def adK:NT:=[((215,8),{keep:=[1,2,5,6],pure_:=[(5,tP)],hl:=1}),((215,21),{keep:=[1,2,5,6,7],pure_:=[(5,tP)],hl:=1})]
def v6:Ctx:=CX (ens Zj) adK
def lc(c:BCU)(l:List BP)(s6:Int)(s5:List BP):Cfg:=⟨215,[.blk 0,.seq 38],[(1,.d (.sl tP) l),(2,.box 0 0),(5,.d (.sl tP) s5),(6,SI s6)],[.box 48 [SB c.1,SB c.2.1.1.1.1,.d asj c.2.1.1.1.2,SB c.2.1.1.2.1,.d asj c.2.1.1.2.2,SB c.2.1.2.1.1.1,.d asj c.2.1.2.1.1.2,SB c.2.1.2.1.2.1,.d asj c.2.1.2.1.2.2,SB c.2.1.2.2.1.1,.d asj c.2.1.2.2.1.2,SB c.2.1.2.2.2.1,.d asj c.2.1.2.2.2.2,SB c.2.2.1.1.1.1,.d asj c.2.2.1.1.1.2,SB c.2.2.1.1.2.1,.d asj c.2.2.1.1.2.2,SB c.2.2.1.2.1.1.1,.d asj c.2.2.1.2.1.1.2,SB c.2.2.1.2.1.2.1,.d asj c.2.2.1.2.1.2.2,SB c.2.2.1.2.2.1.1,.d asj c.2.2.1.2.2.1.2,SB c.2.2.1.2.2.2.1,.d asj c.2.2.1.2.2.2.2,SB c.2.2.2.1,SB c.2.2.2.2.1.1.1.1,.d asj c.2.2.2.2.1.1.1.2,SB c.2.2.2.2.1.1.2.1,.d asj c.2.2.2.2.1.1.2.2,SB c.2.2.2.2.1.2.1.1.1,.d asj c.2.2.2.2.1.2.1.1.2,SB c.2.2.2.2.1.2.1.2.1,.d asj c.2.2.2.2.1.2.1.2.2,SB c.2.2.2.2.1.2.2.1.1.1,.d asj c.2.2.2.2.1.2.2.1.1.2,SB c.2.2.2.2.1.2.2.1.2.1,.d asj c.2.2.2.2.1.2.2.1.2.2,SB c.2.2.2.2.1.2.2.2.1.1.1,.d asj c.2.2.2.2.1.2.2.2.1.1.2,SB c.2.2.2.2.1.2.2.2.1.2.1,.d asj c.2.2.2.2.1.2.2.2.1.2.2,SB c.2.2.2.2.1.2.2.2.2.1.1,.d asj c.2.2.2.2.1.2.2.2.2.1.2,SB c.2.2.2.2.1.2.2.2.2.2.1,.d asj c.2.2.2.2.1.2.2.2.2.2.2,SB c.2.2.2.2.2.1.1.1,.d asj c.2.2.2.2.2.1.1.2,SB c.2.2.2.2.2.1.2.1,.d asj c.2.2.2.2.2.1.2.2,SB c.2.2.2.2.2.2.1.1.1,.d asj c.2.2.2.2.2.2.1.1.2,SB c.2.2.2.2.2.2.1.2.1,.d asj c.2.2.2.2.2.2.1.2.2,SB c.2.2.2.2.2.2.2.1.1.1,.d asj c.2.2.2.2.2.2.2.1.1.2,SB c.2.2.2.2.2.2.2.1.2.1,.d asj c.2.2.2.2.2.2.2.1.2.2,SB c.2.2.2.2.2.2.2.2.1.1.1,.d asj c.2.2.2.2.2.2.2.2.1.1.2,SB c.2.2.2.2.2.2.2.2.1.2.1,.d asj c.2.2.2.2.2.2.2.2.1.2.2,SB c.2.2.2.2.2.2.2.2.2.1.1,.d asj c.2.2.2.2.2.2.2.2.2.1.2,SB c.2.2.2.2.2.2.2.2.2.2.1,.d asj c.2.2.2.2.2.2.2.2.2.2.2]],0,[]⟩
def xf(c:BCU)(l s5:List BP)(s6 s7:Int):Cfg:=⟨215,[.blk 2,.seq 30,.blk 1,.seq 37,.lp 8,.blk 0,.seq 38],[(1,.d (.sl tP) l),(2,.box 0 0),(5,.d (.sl tP) s5),(6,SI s6),(7,SI s7)],[.box 48 [SB c.1,SB c.2.1.1.1.1,.d asj c.2.1.1.1.2,SB c.2.1.1.2.1,.d asj c.2.1.1.2.2,SB c.2.1.2.1.1.1,.d asj c.2.1.2.1.1.2,SB c.2.1.2.1.2.1,.d asj c.2.1.2.1.2.2,SB c.2.1.2.2.1.1,.d asj c.2.1.2.2.1.2,SB c.2.1.2.2.2.1,.d asj c.2.1.2.2.2.2,SB c.2.2.1.1.1.1,.d asj c.2.2.1.1.1.2,SB c.2.2.1.1.2.1,.d asj c.2.2.1.1.2.2,SB c.2.2.1.2.1.1.1,.d asj c.2.2.1.2.1.1.2,SB c.2.2.1.2.1.2.1,.d asj c.2.2.1.2.1.2.2,SB c.2.2.1.2.2.1.1,.d asj c.2.2.1.2.2.1.2,SB c.2.2.1.2.2.2.1,.d asj c.2.2.1.2.2.2.2,SB c.2.2.2.1,SB c.2.2.2.2.1.1.1.1,.d asj c.2.2.2.2.1.1.1.2,SB c.2.2.2.2.1.1.2.1,.d asj c.2.2.2.2.1.1.2.2,SB c.2.2.2.2.1.2.1.1.1,.d asj c.2.2.2.2.1.2.1.1.2,SB c.2.2.2.2.1.2.1.2.1,.d asj c.2.2.2.2.1.2.1.2.2,SB c.2.2.2.2.1.2.2.1.1.1,.d asj c.2.2.2.2.1.2.2.1.1.2,SB c.2.2.2.2.1.2.2.1.2.1,.d asj c.2.2.2.2.1.2.2.1.2.2,SB c.2.2.2.2.1.2.2.2.1.1.1,.d asj c.2.2.2.2.1.2.2.2.1.1.2,SB c.2.2.2.2.1.2.2.2.1.2.1,.d asj c.2.2.2.2.1.2.2.2.1.2.2,SB c.2.2.2.2.1.2.2.2.2.1.1,.d asj c.2.2.2.2.1.2.2.2.2.1.2,SB c.2.2.2.2.1.2.2.2.2.2.1,.d asj c.2.2.2.2.1.2.2.2.2.2.2,SB c.2.2.2.2.2.1.1.1,.d asj c.2.2.2.2.2.1.1.2,SB c.2.2.2.2.2.1.2.1,.d asj c.2.2.2.2.2.1.2.2,SB c.2.2.2.2.2.2.1.1.1,.d asj c.2.2.2.2.2.2.1.1.2,SB c.2.2.2.2.2.2.1.2.1,.d asj c.2.2.2.2.2.2.1.2.2,SB c.2.2.2.2.2.2.2.1.1.1,.d asj c.2.2.2.2.2.2.2.1.1.2,SB c.2.2.2.2.2.2.2.1.2.1,.d asj c.2.2.2.2.2.2.2.1.2.2,SB c.2.2.2.2.2.2.2.2.1.1.1,.d asj c.2.2.2.2.2.2.2.2.1.1.2,SB c.2.2.2.2.2.2.2.2.1.2.1,.d asj c.2.2.2.2.2.2.2.2.1.2.2,SB c.2.2.2.2.2.2.2.2.2.1.1,.d asj c.2.2.2.2.2.2.2.2.2.1.2,SB c.2.2.2.2.2.2.2.2.2.2.1,.d asj c.2.2.2.2.2.2.2.2.2.2.2]],0,[]⟩
def am2(c:BCU)(l:List BP)(k:KT):OLR:=k 8 (lc c l 0 ([]))
theorem al1(c:BCU)(l:List BP):RS v6 215 [.d tCU c,.d (.sl tP) l] (am2 c l):=rsX
def Ab(c:BCU)(l:List BP)(s6:Int)(s5:List BP)(k:KT):OLR:=match D' (s6<(l.length:Int))with|T'=>k 21 (xf c l s5 s6 0)|F'=>S' [RV.d (.sl tP) s5]
theorem EM(c:BCU)(l:List BP)(s6:Int)(s5:List BP):RN v6 8 (lc c l s6 s5) (Ab c l s6 s5):=rnX
def vW(c:BCU)(l s5:List BP)(s6 s7:Int)(k:KT):OLR:=match D' (s7<(s5.length:Int))with|T'=>(match aH s5 s7 with|S' x1=>(match aH l s6 with|S' x2=>(og (D' (okC 4000 c/\okP 4000 x1/\okP 4000 x2)) (match D' ((ck (dC c) (dec x1) (dec x2))<0)with|T'=>k 21 (xf c l s5 s6 (i64.wrap (s7+1)))|F'=>(match D' (s7<(s5.length:Int))with|T'=>(match aH s5 s7 with|S' x3=>(match aH l s6 with|S' x4=>(og (D' (okP 4000 x3/\okP 4000 x4)) (match aB (dec x3) (dec x4)==0 with|T'=>k 8 (lc c l (i64.wrap (s6+1)) s5)|F'=>(og (D' ((0:Int)<=0/\0<=s7/\s7<=(s5.length:Int))) (match aH l s6 with|S' x5=>(og (D' ((0:Int)<=s7/\s7<=(s5.length:Int)/\(s5.length:Int)<=(s5.length:Int))) (dup (.b (.b .l .l) .l) (og (D' ((([]:List BP).length+((s5.take (s7).toNat).drop (0:Int).toNat).length)*320<=140737488355328/\([]:List BP).length+((s5.take (s7).toNat).drop (0:Int).toNat).length<=140737488355328)) (og (D' (((([]:List BP)++((s5.take (s7).toNat).drop (0:Int).toNat)).length+([x5]).length)*320<=140737488355328/\(([]:List BP)++((s5.take (s7).toNat).drop (0:Int).toNat)).length+([x5]).length<=140737488355328)) (og (D' ((((([]:List BP)++((s5.take (s7).toNat).drop (0:Int).toNat))++([x5])).length+((s5.take ((s5.length:Int)).toNat).drop (s7:Int).toNat).length)*320<=140737488355328/\((([]:List BP)++((s5.take (s7).toNat).drop (0:Int).toNat))++([x5])).length+((s5.take ((s5.length:Int)).toNat).drop (s7:Int).toNat).length<=140737488355328)) (k 8 (lc c l (i64.wrap (s6+1)) (((([]:List BP)++((s5.take (s7).toNat).drop (0:Int).toNat))++([x5]))++((s5.take ((s5.length:Int)).toNat).drop (s7:Int).toNat)))))))))|N'=>N'))))|N'=>N')|N'=>N')|F'=>(og (D' ((0:Int)<=0/\0<=s7/\s7<=(s5.length:Int))) (match aH l s6 with|S' x3=>(og (D' ((0:Int)<=s7/\s7<=(s5.length:Int)/\(s5.length:Int)<=(s5.length:Int))) (dup (.b (.b .l .l) .l) (og (D' ((([]:List BP).length+((s5.take (s7).toNat).drop (0:Int).toNat).length)*320<=140737488355328/\([]:List BP).length+((s5.take (s7).toNat).drop (0:Int).toNat).length<=140737488355328)) (og (D' (((([]:List BP)++((s5.take (s7).toNat).drop (0:Int).toNat)).length+([x3]).length)*320<=140737488355328/\(([]:List BP)++((s5.take (s7).toNat).drop (0:Int).toNat)).length+([x3]).length<=140737488355328)) (og (D' ((((([]:List BP)++((s5.take (s7).toNat).drop (0:Int).toNat))++([x3])).length+((s5.take ((s5.length:Int)).toNat).drop (s7:Int).toNat).length)*320<=140737488355328/\((([]:List BP)++((s5.take (s7).toNat).drop (0:Int).toNat))++([x3])).length+((s5.take ((s5.length:Int)).toNat).drop (s7:Int).toNat).length<=140737488355328)) (k 8 (lc c l (i64.wrap (s6+1)) (((([]:List BP)++((s5.take (s7).toNat).drop (0:Int).toNat))++([x3]))++((s5.take ((s5.length:Int)).toNat).drop (s7:Int).toNat)))))))))|N'=>N')))))|N'=>N')|N'=>N')|F'=>(match D' (s7<(s5.length:Int))with|T'=>(match aH s5 s7 with|S' x1=>(match aH l s6 with|S' x2=>(og (D' (okP 4000 x1/\okP 4000 x2)) (match aB (dec x1) (dec x2)==0 with|T'=>k 8 (lc c l (i64.wrap (s6+1)) s5)|F'=>(og (D' ((0:Int)<=0/\0<=s7/\s7<=(s5.length:Int))) (match aH l s6 with|S' x3=>(og (D' ((0:Int)<=s7/\s7<=(s5.length:Int)/\(s5.length:Int)<=(s5.length:Int))) (dup (.b (.b .l .l) .l) (og (D' ((([]:List BP).length+((s5.take (s7).toNat).drop (0:Int).toNat).length)*320<=140737488355328/\([]:List BP).length+((s5.take (s7).toNat).drop (0:Int).toNat).length<=140737488355328)) (og (D' (((([]:List BP)++((s5.take (s7).toNat).drop (0:Int).toNat)).length+([x3]).length)*320<=140737488355328/\(([]:List BP)++((s5.take (s7).toNat).drop (0:Int).toNat)).length+([x3]).length<=140737488355328)) (og (D' ((((([]:List BP)++((s5.take (s7).toNat).drop (0:Int).toNat))++([x3])).length+((s5.take ((s5.length:Int)).toNat).drop (s7:Int).toNat).length)*320<=140737488355328/\((([]:List BP)++((s5.take (s7).toNat).drop (0:Int).toNat))++([x3])).length+((s5.take ((s5.length:Int)).toNat).drop (s7:Int).toNat).length<=140737488355328)) (k 8 (lc c l (i64.wrap (s6+1)) (((([]:List BP)++((s5.take (s7).toNat).drop (0:Int).toNat))++([x3]))++((s5.take ((s5.length:Int)).toNat).drop (s7:Int).toNat)))))))))|N'=>N'))))|N'=>N')|N'=>N')|F'=>(og (D' ((0:Int)<=0/\0<=s7/\s7<=(s5.length:Int))) (match aH l s6 with|S' x1=>(og (D' ((0:Int)<=s7/\s7<=(s5.length:Int)/\(s5.length:Int)<=(s5.length:Int))) (dup (.b (.b .l .l) .l) (og (D' ((([]:List BP).length+((s5.take (s7).toNat).drop (0:Int).toNat).length)*320<=140737488355328/\([]:List BP).length+((s5.take (s7).toNat).drop (0:Int).toNat).length<=140737488355328)) (og (D' (((([]:List BP)++((s5.take (s7).toNat).drop (0:Int).toNat)).length+([x1]).length)*320<=140737488355328/\(([]:List BP)++((s5.take (s7).toNat).drop (0:Int).toNat)).length+([x1]).length<=140737488355328)) (og (D' ((((([]:List BP)++((s5.take (s7).toNat).drop (0:Int).toNat))++([x1])).length+((s5.take ((s5.length:Int)).toNat).drop (s7:Int).toNat).length)*320<=140737488355328/\((([]:List BP)++((s5.take (s7).toNat).drop (0:Int).toNat))++([x1])).length+((s5.take ((s5.length:Int)).toNat).drop (s7:Int).toNat).length<=140737488355328)) (k 8 (lc c l (i64.wrap (s6+1)) (((([]:List BP)++((s5.take (s7).toNat).drop (0:Int).toNat))++([x1]))++((s5.take ((s5.length:Int)).toNat).drop (s7:Int).toNat)))))))))|N'=>N')))
theorem A5(c:BCU)(l s5:List BP)(s6 s7:Int):RN v6 21 (xf c l s5 s6 s7) (vW c l s5 s6 s7):=rnX
theorem adr(c:BCU)(l:List BP)(hc:okC 4000 c)(hl:∀x∈l,okP 4000 x)(out:List BP)(ho:∀x∈out,okP 4000 x)(hlen:out.length<=1000000)(i:Nat)(hi:i<l.length)(hi2:i<=1000000)(r:List RV)(h:v6.Runs 8 (lc c l ((i+1:Nat):Int) (fZ (dC c) out l[i])) r):
  ∀(j k:Nat),k+j=out.length->fZ (dC c) out l[i]=out.take k++fZ (dC c) (out.drop k) l[i]->v6.Runs 21 (xf c l out (i:Int) (k:Int)) r:=by
 have e0:i64.wrap ((i:Int)+1)=((i+1:Nat):Int):=aS (by omega);have gl:aH l (i:Int)=S' l[i]:=by rw[ak,aoO hi]
 have hx:=hl _ (aoY hi);have tl:out.take ((out.length:Int)).toNat=out:=by simp
 have put:∀k:Nat,k<=out.length->fZ (dC c) out l[i]=out.take k++[l[i]]++out.drop k->∃n,(match D' ((0:Int)<=0/\0<=(k:Int)/\(k:Int)<=(out.length:Int))with
   |true=>(match aH l (i:Int)with
    |some x5=>(match decide ((0:Int)<=(k:Int)/\(k:Int)<=(out.length:Int)/\(out.length:Int)<=(out.length:Int))with
     |true=>(match decide ((([]:List BP).length+((out.take ((k:Int)).toNat).drop (0:Int).toNat).length)*320<=140737488355328/\([]:List BP).length+((out.take ((k:Int)).toNat).drop (0:Int).toNat).length<=140737488355328)with
      |true=>(match decide (((([]:List BP)++((out.take ((k:Int)).toNat).drop (0:Int).toNat)).length+([x5]).length)*320<=140737488355328/\(([]:List BP)++((out.take ((k:Int)).toNat).drop (0:Int).toNat)).length+([x5]).length<=140737488355328)with
       |true=>(match decide ((((([]:List BP)++((out.take ((k:Int)).toNat).drop (0:Int).toNat))++([x5])).length+((out.take ((out.length:Int)).toNat).drop ((k:Int)).toNat).length)*320<=140737488355328/\((([]:List BP)++((out.take ((k:Int)).toNat).drop (0:Int).toNat))++([x5])).length+((out.take ((out.length:Int)).toNat).drop ((k:Int)).toNat).length<=140737488355328)with
        |true=>v6.k n 8 (lc c l (i64.wrap ((i:Int)+1)) (((([]:List BP)++((out.take ((k:Int)).toNat).drop (0:Int).toNat))++([x5]))++((out.take ((out.length:Int)).toNat).drop ((k:Int)).toNat)))
        |false=>none)
       |false=>none)
      |false=>none)
     |false=>none)
    |none=>none)
   |false=>none)=some r:=by
  intro k hk he;have e1:((out.take ((k:Int)).toNat).drop (0:Int).toNat)=out.take k:=by simp
  have e2:((out.take ((out.length:Int)).toNat).drop ((k:Int)).toNat)=out.drop k:=by simp
  have l1:(out.take k).length=k:=by simp;omega
  have l2:(out.drop k).length=out.length-k:=by simp
  obtain⟨n,hn⟩:=h;refine⟨n,?_⟩;rw[gl,dT (show(0:Int)<=0/\0<=(k:Int)/\(k:Int)<=(out.length:Int) by omega)];dsimp only;rw[dT (show(0:Int)<=(k:Int)/\(k:Int)<=(out.length:Int)/\(out.length:Int)<=(out.length:Int) by omega)];simp only[e1,e2,aqS,List.length_nil,apr,ao8,l1,l2,ao3];rw[dT (by omega),dT (by omega),dT (by omega),e0,<-he];exact hn
 intro j;induction j with
 |zero=>
  intro k hk he;have hk:k=out.length:=by omega
  subst hk;refine A5 _ _ _ _ _ ?_;unfold vW;rw[bg (by omega)];simp only[dp];refine put _ (aoU _) ?_;rw[he];simp[fZ]
 |succ j ih=>
  intro k hk he;have hkl:k<out.length:=by omega
  have go:aH out (k:Int)=S' out[k]:=by rw[ak,aoO hkl]
  have ho1:=ho _ (aoY hkl);have ek:i64.wrap ((k:Int)+1)=((k+1:Nat):Int):=aS (by omega);have hd:out.drop k=out[k]::out.drop (k+1):=ao5 hkl;refine A5 _ _ _ _ _ ?_;unfold vW;simp only[dp,aO hkl,go,gl,dT (show okC 4000 c/\okP 4000 out[k]/\okP 4000 l[i] from⟨hc,ho1,hx⟩),dT (show okP 4000 out[k]/\okP 4000 l[i] from⟨ho1,hx⟩)];rw[hd]at he;simp only[fZ]at he;cases h1:D' (ck (dC c) (dec out[k]) (dec l[i])<0)<;>rw[h1]at he
  ·simp only[cond_false]at he;cases h2:aB (dec out[k]) (dec l[i])==0<;>rw[h2]at he
   ·simp only[cond_false]at he;have:=put k (by omega) (by rw[he,hd];simp);simp only[gl]at this;exact this
   ·simp only[cond_true]at he;rw[<-hd,aqi]at he;obtain⟨n,hn⟩:=h;refine⟨n,?_⟩;rw[e0];rw[he]at hn;exact hn
  ·simp only[cond_true]at he;obtain⟨n,hn⟩:=ih (k+1) (by omega) (by rw[he,L9 hkl,apg];rfl);refine⟨n,?_⟩;rw[ek];exact hn
theorem XT(c:BCU)(l:List BP)(hc:okC 4000 c)(hl:∀x∈l,okP 4000 x)(hle:l.length<=1000000):∀(j i:Nat),i+j=l.length->∀out:List BP,(∀x∈out,okP 4000 x)->out.length<=i->v6.Runs 8 (lc c l (i:Int) out) [.d (.sl tP) ((l.drop i).foldl (fZ (dC c)) out)]:=by
 intro j;induction j with
 |zero=>
  intro i hi out ho hlen;refine EM _ _ _ _ ⟨0,?_⟩;unfold Ab;rw[bg (by omega),yy (by omega)];rfl
 |succ j ih=>
  intro i hi out ho hlen;have hil:i<l.length:=by omega
  have h2:=ih (i+1) (by omega) (fZ (dC c) out l[i]) (λx hx=>by
   rcases pG hx with h|h
   ·exact ho x h
   ·rw[h];exact hl _ (aoY hil)) (ao1 (yV _ _ _) (by omega))
  obtain⟨n,hn⟩:=adr c l hc hl out ho (by omega) i hil (by omega) _ h2 out.length 0 (by omega) (by simp);refine EM _ _ _ _ ⟨n,?_⟩;unfold Ab;rw[aO hil,jw hil,aq9];exact hn
def aaj:Cn 215 [tCU,(.sl tP)]:=cn λ(c:BCU) (l:List BP)=>lf (yg c l) [.d (.sl tP) (gU (dC c) l)] λh=>by
 obtain⟨hc,hle,hl⟩:=h;refine aX Zj (show v6.Res _ _ _ from ?_);obtain⟨n,hn⟩:=XT c l hc hl hle l.length 0 (by omega) [] (λx hx=>by cases hx) (aoU _);exact al1 _ _ ⟨n,hn⟩
def Ap(c:BCU)(x y:BP):BCU:=(c.1,c.2.1,c.2.2.1,c.2.2.2.1,x,y)
def wv(c:BCU):List BP->List BCU
 |[]=>[]
 |x::r=>match r with
  |[]=>[]
  |y::_=>Ap c x y::wv c r
def uE(c:BCU)(l:List BP):List BP:=gU (dC c) ([c.2.2.2.2.1,c.2.2.2.2.2]++l)
def mu(c:BCU)(l:List BP):List BCU:=wv c (uE c l)
def vI(c:BCU)(l:List BP):Prop:=okC 3500 c/\l.length<=900000/\∀x∈l,okP 3500 x/\onR (dC c) (dec x)=T'
instance (c:BCU) (l:List BP):Decidable (vI c l):=by unfold vI;infer_instance
theorem VA{c:BCU}{l:List BP}(h:vI c l):yg c ([c.2.2.2.2.1,c.2.2.2.2.2]++l):=by
 obtain⟨h1,h2,h3⟩:=h;have h4:=aY (k:=4000) h1 (by decide) (by decide);refine⟨h4,by simp;omega,λx hx=>?_⟩;rcases ape.1 hx with hx|hx
 ·simp only[ao7,aqw,arN]at hx;rcases hx with rfl|rfl
  ·exact h4.2.2.1
  ·exact h4.2.2.2
 ·exact aU (h3 x hx).1 (by decide) (by decide)
theorem Jz(c:BCU)(l:List BP):(uE c l).length<=l.length+2:=by
 have:=wF (dC c) ([c.2.2.2.2.1,c.2.2.2.2.2]++l) [];unfold uE gU;simp at this ⊢;omega
theorem Do{c:BCU}{l:List BP}{x:BP}(h:x∈uE c l):x=c.2.2.2.2.1\/x=c.2.2.2.2.2\/x∈l:=by
 rcases Eo (out:=[]) h with h|h
 ·cases h
 ·rcases ape.1 h with h|h
  ·simp only[ao7,aqw,arN]at h;rcases h with h|h
   ·exact .inl h
   ·exact .inr (.inl h)
  ·exact .inr (.inr h)
theorem Kh{c p:BCU}:∀{s:List BP},p∈wv c s->∃x y,x∈s/\y∈s/\p=Ap c x y
 |[],h=>by cases h
 |[_],h=>by cases h
 |x::y::r,h=>by
  simp only[wv]at h;rcases ao7.1 h with h|h
  ·exact⟨x,y,by simp,by simp,h⟩
  ·obtain⟨a,b,h1,h2,h3⟩:=Kh (s:=y::r) h;exact⟨a,b,ao4 _ h1,ao4 _ h2,h3⟩
def Yy:List En:=[enT LJ,enT LL,enT nM,enL Je,enT r9,enK aaj]
def adS:NT:=[((139,6),{keep:=[1,2,6],hl:=1}),((139,31),{keep:=[2,7,8,9],own:=[(8,48,tCU)],hl:=3})]
def AG:Ctx:=CX (ens Yy) adS
def DL(c:BCU)(l:List BP)(s6:Int):Cfg:=⟨139,[.blk 0,.seq 23],[(1,.d (.sl tP) l),(2,.box 0 0),(6,SI s6)],[.box 48 [SB c.1,SB c.2.1.1.1.1,.d asj c.2.1.1.1.2,SB c.2.1.1.2.1,.d asj c.2.1.1.2.2,SB c.2.1.2.1.1.1,.d asj c.2.1.2.1.1.2,SB c.2.1.2.1.2.1,.d asj c.2.1.2.1.2.2,SB c.2.1.2.2.1.1,.d asj c.2.1.2.2.1.2,SB c.2.1.2.2.2.1,.d asj c.2.1.2.2.2.2,SB c.2.2.1.1.1.1,.d asj c.2.2.1.1.1.2,SB c.2.2.1.1.2.1,.d asj c.2.2.1.1.2.2,SB c.2.2.1.2.1.1.1,.d asj c.2.2.1.2.1.1.2,SB c.2.2.1.2.1.2.1,.d asj c.2.2.1.2.1.2.2,SB c.2.2.1.2.2.1.1,.d asj c.2.2.1.2.2.1.2,SB c.2.2.1.2.2.2.1,.d asj c.2.2.1.2.2.2.2,SB c.2.2.2.1,SB c.2.2.2.2.1.1.1.1,.d asj c.2.2.2.2.1.1.1.2,SB c.2.2.2.2.1.1.2.1,.d asj c.2.2.2.2.1.1.2.2,SB c.2.2.2.2.1.2.1.1.1,.d asj c.2.2.2.2.1.2.1.1.2,SB c.2.2.2.2.1.2.1.2.1,.d asj c.2.2.2.2.1.2.1.2.2,SB c.2.2.2.2.1.2.2.1.1.1,.d asj c.2.2.2.2.1.2.2.1.1.2,SB c.2.2.2.2.1.2.2.1.2.1,.d asj c.2.2.2.2.1.2.2.1.2.2,SB c.2.2.2.2.1.2.2.2.1.1.1,.d asj c.2.2.2.2.1.2.2.2.1.1.2,SB c.2.2.2.2.1.2.2.2.1.2.1,.d asj c.2.2.2.2.1.2.2.2.1.2.2,SB c.2.2.2.2.1.2.2.2.2.1.1,.d asj c.2.2.2.2.1.2.2.2.2.1.2,SB c.2.2.2.2.1.2.2.2.2.2.1,.d asj c.2.2.2.2.1.2.2.2.2.2.2,SB c.2.2.2.2.2.1.1.1,.d asj c.2.2.2.2.2.1.1.2,SB c.2.2.2.2.2.1.2.1,.d asj c.2.2.2.2.2.1.2.2,SB c.2.2.2.2.2.2.1.1.1,.d asj c.2.2.2.2.2.2.1.1.2,SB c.2.2.2.2.2.2.1.2.1,.d asj c.2.2.2.2.2.2.1.2.2,SB c.2.2.2.2.2.2.2.1.1.1,.d asj c.2.2.2.2.2.2.2.1.1.2,SB c.2.2.2.2.2.2.2.1.2.1,.d asj c.2.2.2.2.2.2.2.1.2.2,SB c.2.2.2.2.2.2.2.2.1.1.1,.d asj c.2.2.2.2.2.2.2.2.1.1.2,SB c.2.2.2.2.2.2.2.2.1.2.1,.d asj c.2.2.2.2.2.2.2.2.1.2.2,SB c.2.2.2.2.2.2.2.2.2.1.1,.d asj c.2.2.2.2.2.2.2.2.2.1.2,SB c.2.2.2.2.2.2.2.2.2.2.1,.d asj c.2.2.2.2.2.2.2.2.2.2.2]],0,[]⟩
def wG(c:BCU)(l:List BP)(s9:Int)(r2:List BCU):Cfg:=⟨139,[.blk 2,.seq 46],[(2,.box 0 0),(7,.d (.sl tP) (gU (dC c) (([c.2.2.2.2.1,c.2.2.2.2.2])++l))),(8,.own 2),(9,SI s9)],[.box 48 [SB c.1,SB c.2.1.1.1.1,.d asj c.2.1.1.1.2,SB c.2.1.1.2.1,.d asj c.2.1.1.2.2,SB c.2.1.2.1.1.1,.d asj c.2.1.2.1.1.2,SB c.2.1.2.1.2.1,.d asj c.2.1.2.1.2.2,SB c.2.1.2.2.1.1,.d asj c.2.1.2.2.1.2,SB c.2.1.2.2.2.1,.d asj c.2.1.2.2.2.2,SB c.2.2.1.1.1.1,.d asj c.2.2.1.1.1.2,SB c.2.2.1.1.2.1,.d asj c.2.2.1.1.2.2,SB c.2.2.1.2.1.1.1,.d asj c.2.2.1.2.1.1.2,SB c.2.2.1.2.1.2.1,.d asj c.2.2.1.2.1.2.2,SB c.2.2.1.2.2.1.1,.d asj c.2.2.1.2.2.1.2,SB c.2.2.1.2.2.2.1,.d asj c.2.2.1.2.2.2.2,SB c.2.2.2.1,SB c.2.2.2.2.1.1.1.1,.d asj c.2.2.2.2.1.1.1.2,SB c.2.2.2.2.1.1.2.1,.d asj c.2.2.2.2.1.1.2.2,SB c.2.2.2.2.1.2.1.1.1,.d asj c.2.2.2.2.1.2.1.1.2,SB c.2.2.2.2.1.2.1.2.1,.d asj c.2.2.2.2.1.2.1.2.2,SB c.2.2.2.2.1.2.2.1.1.1,.d asj c.2.2.2.2.1.2.2.1.1.2,SB c.2.2.2.2.1.2.2.1.2.1,.d asj c.2.2.2.2.1.2.2.1.2.2,SB c.2.2.2.2.1.2.2.2.1.1.1,.d asj c.2.2.2.2.1.2.2.2.1.1.2,SB c.2.2.2.2.1.2.2.2.1.2.1,.d asj c.2.2.2.2.1.2.2.2.1.2.2,SB c.2.2.2.2.1.2.2.2.2.1.1,.d asj c.2.2.2.2.1.2.2.2.2.1.2,SB c.2.2.2.2.1.2.2.2.2.2.1,.d asj c.2.2.2.2.1.2.2.2.2.2.2,SB c.2.2.2.2.2.1.1.1,.d asj c.2.2.2.2.2.1.1.2,SB c.2.2.2.2.2.1.2.1,.d asj c.2.2.2.2.2.1.2.2,SB c.2.2.2.2.2.2.1.1.1,.d asj c.2.2.2.2.2.2.1.1.2,SB c.2.2.2.2.2.2.1.2.1,.d asj c.2.2.2.2.2.2.1.2.2,SB c.2.2.2.2.2.2.2.1.1.1,.d asj c.2.2.2.2.2.2.2.1.1.2,SB c.2.2.2.2.2.2.2.1.2.1,.d asj c.2.2.2.2.2.2.2.1.2.2,SB c.2.2.2.2.2.2.2.2.1.1.1,.d asj c.2.2.2.2.2.2.2.2.1.1.2,SB c.2.2.2.2.2.2.2.2.1.2.1,.d asj c.2.2.2.2.2.2.2.2.1.2.2,SB c.2.2.2.2.2.2.2.2.2.1.1,.d asj c.2.2.2.2.2.2.2.2.2.1.2,SB c.2.2.2.2.2.2.2.2.2.2.1,.d asj c.2.2.2.2.2.2.2.2.2.2.2],.gone,.row 48 tCU r2],0,[]⟩
def aih(c:BCU)(l:List BP)(k:KT):OLR:=k 6 (DL c l 0)
theorem ajw(c:BCU)(l:List BP):RS AG 139 [.d tCU c,.d (.sl tP) l] (aih c l):=rsX
def zO(c:BCU)(l:List BP)(s6:Int)(k:KT):OLR:=match D' (s6<(l.length:Int))with|T'=>(match aH l s6 with|S' x1=>(og (D' (okC 3500 c/\okP 3500 x1)) (match !(onR (dC c) (dec x1))with|T'=>S' [RV.d (.sl tCU) ([]),RV.d ask 1]|F'=>k 6 (DL c l (i64.wrap (s6+1)))))|N'=>N')|F'=>(og (D' ((([c.2.2.2.2.1,c.2.2.2.2.2]).length+l.length)*320<=140737488355328/\([c.2.2.2.2.1,c.2.2.2.2.2]).length+l.length<=140737488355328)) (og (D' (yg c (([c.2.2.2.2.1,c.2.2.2.2.2])++l))) (k 31 (wG c l 1 ([])))))
theorem GP(c:BCU)(l:List BP)(s6:Int):RN AG 6 (DL c l s6) (zO c l s6):=rnX
def uK(c:BCU)(l:List BP)(s9:Int)(r2:List BCU)(k:KT):OLR:=match D' (s9<((gU (dC c) (([c.2.2.2.2.1,c.2.2.2.2.2])++l)).length:Int))with|T'=>(match aH (gU (dC c) (([c.2.2.2.2.1,c.2.2.2.2.2])++l)) (i64.wrap (s9-1))with|S' x1=>(match aH (gU (dC c) (([c.2.2.2.2.1,c.2.2.2.2.2])++l)) s9 with|S' x2=>dup (.b .l .l) (og (D' ((r2.length+([(c.1,(c.2.1,(c.2.2.1,(c.2.2.2.1,(x1,x2)))))]).length)*1040<=140737488355328/\r2.length+([(c.1,(c.2.1,(c.2.2.1,(c.2.2.2.1,(x1,x2)))))]).length<=140737488355328)) (k 31 (wG c l (i64.wrap (s9+1)) (r2++([(c.1,(c.2.1,(c.2.2.1,(c.2.2.2.1,(x1,x2)))))])))))|N'=>N')|N'=>N')|F'=>S' [RV.d (.sl tCU) r2,RV.d ask 0]
theorem Bt(c:BCU)(l:List BP)(s9:Int)(r2:List BCU):RN AG 31 (wG c l s9 r2) (uK c l s9 r2):=rnX
theorem ahd(c:BCU)(l:List BP)(hle:l.length<=900000)(S:List BP)(hS:S=uE c l):∀(j i:Nat),1<=i->i+j=max S.length 1->∀out:List BCU,out.length<=i->AG.Runs 31 (wG c l (i:Int) out) [.d (.sl tCU) (out++wv c (S.drop (i-1))),.d ask (0:Int)]:=by
 have hSl:=Jz c l;rw[<-hS]at hSl;have eS:gU (dC c) ([c.2.2.2.2.1,c.2.2.2.2.2]++l)=S:=hS.symm;intro j;induction j with
 |zero=>
  intro i h1 hi out hlen;refine Bt _ _ _ _ ⟨0,?_⟩;unfold uK;rw[eS,bg (by omega)]
  have:wv c (S.drop (i-1))=[]:=by
   have hl:(S.drop (i-1)).length<=1:=by rw[ark];omega
   match S.drop (i-1),hl with
   |[],_=>rfl
   |[_],_=>rfl
   |_::_::_,h=>simp at h
  rw[this,apj]
 |succ j ih=>
  intro i h1 hi out hlen;have hil:i<S.length:=by omega
  have e1:i64.wrap ((i:Int)-1)=((i-1:Nat):Int):=by rw[aM (by omega) (by omega)];omega
  have e2:i64.wrap ((i:Int)+1)=((i+1:Nat):Int):=aS (by omega);have g1:aH S ((i-1:Nat):Int)=S' S[i-1]:=by rw[ak,aoO (by omega)]
  have g2:aH S (i:Int)=S' S[i]:=by rw[ak,aoO hil]
  obtain⟨n,hn⟩:=ih (i+1) (by omega) (by omega) (out++[Ap c S[i-1] S[i]]) (by simp;omega);refine Bt _ _ _ _ ⟨n,?_⟩;unfold uK;rw[eS];simp only[dp,aO hil,e1,e2,g1,g2];rw[dT (by simp;omega)]
  have hd:S.drop (i-1)=S[i-1]::S.drop i:=by
   have:=ao5 (l:=S) (i:=i-1) (by omega);rw[this,show i-1+1=i by omega]
  have hd2:S.drop i=S[i]::S.drop (i+1):=ao5 hil;rw[hd,hd2];rw[show i+1-1=i by omega,hd2,apg]at hn;exact hn
theorem agY(c:BCU)(l:List BP)(h:vI c l):∀(j i:Nat),i+j=l.length->AG.Runs 6 (DL c l (i:Int)) [.d (.sl tCU) (mu c l),.d ask (0:Int)]:=by
 have hs:=VA h;obtain⟨hc,hle,hl⟩:=h;intro j;induction j with
 |zero=>
  intro i hi;obtain⟨n,hn⟩:=ahd c l hle (uE c l) rfl (max (uE c l).length 1-1) 1 (aoU _) (by omega) [] (by simp);refine GP _ _ _ ⟨n,?_⟩;unfold zO;rw[bg (by omega),dT (by simp;omega),dT hs];exact hn
 |succ j ih=>
  intro i hi;have hil:i<l.length:=by omega
  obtain⟨n,hn⟩:=ih (i+1) (by omega);have h1:=hl _ (aoY hil);refine GP _ _ _ ⟨n,?_⟩;unfold zO;rw[aO hil,ak,aoO hil,aS (by omega)];dsimp only;rw[dT (show okC 3500 c/\okP 3500 l[i] from⟨hc,h1.1⟩),h1.2];exact hn
def aaA:Cn 139 [tCU,(.sl tP)]:=cn λ(c:BCU) (l:List BP)=>lf (vI c l) [.d (.sl tCU) (mu c l),.d ask 0] λh=>by
 refine aX Yy (show AG.Res _ _ _ from ?_);obtain⟨n,hn⟩:=agY c l h l.length 0 (by omega);exact ajw _ _ ⟨n,hn⟩
def mV(n d:Int):Prop:=bI n/\bI d/\0<d
instance (n d:Int):Decidable (mV n d):=by unfold mV;infer_instance
def ow(s:Int×Int×Int):Rat×Rat:=(Rat.divInt s.1 (s.2.2+1),Rat.divInt s.2.1 (s.2.2+1))
def Bj(s:Int×Int×Int):Prop:= -32768<=s.1/\s.1<=32767/\ -32768<=s.2.1/\s.2.1<=32767/\0<=s.2.2/\s.2.2<=255
instance (s:Int×Int×Int):Decidable (Bj s):=by unfold Bj;infer_instance
def Oh:List En:=[enL B5,enL abV]
def OH(n d:Int)(_k:KT):OLR:=match d==0 with|T'=>(og (D' (bI (0:Int))) (og (D' (bI (1:Int))) (og (D' (jk (hid (ah (0:Int))) (hid (ah (1:Int))))) (S' [RV.d tR (hid (eT (hid (ah (0:Int))) (hid (ah (1:Int)))))]))))|F'=>(og (D' (bI n)) (og (D' (bI d)) (og (D' (jk (hid (ah n)) (hid (ah d)))) (S' [RV.d tR (hid (eT (hid (ah n)) (hid (ah d))))]))))
def ov:Cn 36 [ask,ask]:=cn λ(n d:Int)=>lf (mV n d) [.d tR (av (Rat.divInt n d))] λh=>by
 refine aA Oh (OH n d) ⟨0,?_⟩;obtain⟨hn,hd,h0⟩:=h;have hne:(d==0)=false:=by simp;omega
 unfold OH;rw[hne,dT hn,dT hd];simp only[aQ];rw[dT (show jk (ah n) (ah d) from⟨aT (by have:=jV hn;omega),aT (by have:=jV hd;omega),by rw[dec_enc];omega⟩)];unfold eT;rw[dec_enc,dec_enc]
def acS:List En:=enL ov::Oh
def TG(s:Int×Int×Int)(_k:KT):OLR:=og (D' (mV (i64.wrap s.1) (i64.wrap ((i64.wrap s.2.2)+1)))) (og (D' (mV (i64.wrap s.2.1) (i64.wrap ((i64.wrap s.2.2)+1)))) (S' [RV.d tV (hid (av (Rat.divInt (i64.wrap s.1) (i64.wrap ((i64.wrap s.2.2)+1)))),hid (av (Rat.divInt (i64.wrap s.2.1) (i64.wrap ((i64.wrap s.2.2)+1)))))]))
def afH:Cn 11 [y4Y]:=cn λ(s:Int×Int×Int)=>lf (Bj s) [.d tV (enc (ow s))] λh=>by
 refine aA acS (TG s) ⟨0,?_⟩;obtain⟨h1,h2,h3,h4,h5,h6⟩:=h;have e1:i64.wrap s.1=s.1:=aM (by omega) (by omega);have e2:i64.wrap s.2.1=s.2.1:=aM (by omega) (by omega);have e3:i64.wrap s.2.2=s.2.2:=aM (by omega) (by omega);have e4:i64.wrap (s.2.2+1)=s.2.2+1:=aM (by omega) (by omega);unfold TG;rw[e1,e2,e3,e4,dT (show mV s.1 (s.2.2+1) from⟨⟨by omega,by omega⟩,⟨by omega,by omega⟩,by omega⟩),dT (show mV s.2.1 (s.2.2+1) from⟨⟨by omega,by omega⟩,⟨by omega,by omega⟩,by omega⟩)];simp only[aQ];rfl
theorem wO{n d:Int}(h1:bI n)(h2:bI d)(h0:0<d):Bd (Rat.divInt n d) 3:=by
 obtain⟨k,rfl⟩:=ap7 (show 0<=d by omega);exact⟨vV (by omega) (jV h1) (jV h2)⟩
section
theorem Con.new_d{P:Program}{f:Nat}{args:List SV}{et:TypeId}{e:Ty}{xs:List e.D}(h:Con P f args [.new et e xs]):Con P f args [.d (.sl e) xs]:=by
 intro A w vs hI ha;refine(h A w vs hI ha).mono ?_;rintro en w' ⟨v,rfl,hb,css,ho,ha2,hn⟩
 refine⟨v,rfl,hb,?_⟩;obtain⟨hlen,p,c,hv,h1,h2,h3⟩:=Rd.of_own hn ho;subst hv;refine⟨[.slice p xs.length c],⟨p,xs.length,c,css,rfl,rfl,h1,h2,a8 (λ_ _ h=>Ty.rd_keep ⟨aoU _,λb _ hb=>hb.1,λ_ _ _=>rfl⟩ h) ha2,λh0=>?_⟩,rfl⟩;obtain⟨b,off,rfl,h5,h6⟩:=h3 h0;refine⟨b,off,rfl,.inr ?_,h5,h6⟩;rcases ho.2 with⟨h7,_⟩|⟨g,cap,cur,h7,h8,_⟩
 ·cases h7
 ·injection h7 with h7;injection h7 with h7;injection h7 with h7;subst h7;exact h8
class Bb (q:Rat) (n d:outParam Nat):Prop where
 nu:q.num.natAbs<=2^n
 de:q.den<=2^d
theorem ai8{n:Int}{d a b:Nat}(hd:d≠0)(h1:n.natAbs<=2^a)(h2:d<=2^b):(mkRat n d).num.natAbs<=2^a/\(mkRat n d).den<=2^b:=by
 rw[arY,arZ,aph hd,aph hd];constructor
 ·refine ao1 ?_ h1;refine(KV n (d.gcd n.natAbs)).resolve_right (λh=>h ?_);exact Int.ofNat_dvd_left.2 (Nat.gcd_dvd_right d n.natAbs)
 ·exact ao1 (Nat.div_le_self _ _) h2
section
variable {a b:Rat} {m n d e:Nat}
theorem Yv:∀k:Nat,((2^(29*k):Nat):Int)<=pw k
 |0=>by decide
 |k+1=>by
  have ih:=Yv k
  have e:2^(29*(k+1))=2^(29*k)*536870912:=by
   rw[Nat.mul_add,Nat.pow_add]
  rw[e,bW,aqd];have:(0:Int)<=pw k:=Int.le_trans (Int.natCast_nonneg _) ih;omega
theorem abL{z:Int}{n:Nat}(h:z.natAbs<=2^n):szI z<=n/29+1:=by
 have h1:=Yv (n/29+1);have h2:2^n<2^(29*(n/29+1)):=Nat.pow_lt_pow_right (by decide) (by omega);exact eW (by omega) (by omega)
theorem abC [h:Bb a m d]{k:Nat}(hm:m/29+1<=k)(hd:d/29+1<=k):Bd a k:=⟨⟨ao1 (abL h.nu) hm,ao1 (abL (z:=(a.den:Int)) h.de) hd⟩⟩
end
theorem Wf{n d:Int}{a b:Nat}(h0:0<d)(h1:n.natAbs<=2^a)(h2:d.natAbs<=2^b):Bb (Rat.divInt n d) a b:=by
 obtain⟨k,rfl⟩:=ap7 (show 0<=d by omega);rw[Rat.divInt_ofNat];have:=ai8 (n:=n) (d:=k) (by omega) h1 h2;exact⟨this.1,this.2⟩
def cJ(x:BO3):Prop:=ok Rat 12 x.1/\ok Rat 12 x.2.1/\ok Rat 63 x.2.2/\((dec x:Ln).1≠0\/(dec x:Ln).2.1≠0)
instance (x:BO3):Decidable (cJ x):=by unfold cJ;infer_instance
def bK(x:BO3):Prop:=ok Rat 4 x.1/\ok Rat 4 x.2.1/\ok Rat 13 x.2.2/\(0:Rat)<(dec x:Ln).2.2
instance (x:BO3):Decidable (bK x):=by unfold bK;infer_instance
class BdL (l:Ln):Prop where
 a:Bd l.1 12
 b:Bd l.2.1 12
 c:Bd l.2.2 63
class BdC (c:Ln):Prop where
 x:Bd c.1 4
 y:Bd c.2.1 4
 q:Bd c.2.2 13
theorem dL{x:BO3}(h:cJ x):∃l:Ln,x=enc l/\BdL l/\(l.1≠0\/l.2.1≠0):=by
 obtain⟨h1,h2,h3,h4⟩:=h;obtain⟨x1,x2,x3⟩:=x;obtain⟨a,rfl,ba⟩:=aJ h1;obtain⟨b,rfl,bb⟩:=aJ h2;obtain⟨c,rfl,bc⟩:=aJ h3;have e:((enc a,enc b,enc c):BO3)=enc ((a,b,c):Ln):=rfl;rw[e,ao]at h4;exact⟨(a,b,c),rfl,⟨ba,bb,bc⟩,h4⟩
theorem b8{x:BO3}(h:bK x):∃c:Ln,x=enc c/\BdC c/\0<c.2.2:=by
 obtain⟨h1,h2,h3,h4⟩:=h;obtain⟨x1,x2,x3⟩:=x;obtain⟨a,rfl,ba⟩:=aJ h1;obtain⟨b,rfl,bb⟩:=aJ h2;obtain⟨c,rfl,bc⟩:=aJ h3;have e:((enc a,enc b,enc c):BO3)=enc ((a,b,c):Ln):=rfl;rw[e,ao]at h4;exact⟨(a,b,c),rfl,⟨ba,bb,bc⟩,h4⟩
theorem lX{l:Ln}[h:BdL l](h0:l.1≠0\/l.2.1≠0):cJ (enc l):=by
 have a:=h.a;have b:=h.b;have c:=h.c;exact⟨aoQ (okd (aoU _) (by decide)),aoQ (okd (aoU _) (by decide)),aoQ (okd (aoU _) (by decide)),by rw[ao];exact h0⟩
theorem jR{c:Ln}[h:BdC c](h0:0<c.2.2):bK (enc c):=by
 have a:=h.x;have b:=h.y;have c:=h.q;exact⟨aoQ (okd (aoU _) (by decide)),aoQ (okd (aoU _) (by decide)),aoQ (okd (aoU _) (by decide)),by rw[ao];exact h0⟩
section
variable {l c:Ln}
instance aoL [h:BdL l]:Bd l.1 12:=h.a
instance aoK [h:BdL l]:Bd l.2.1 12:=h.b
instance aoI [h:BdL l]:Bd l.2.2 63:=h.c
instance aoJ [h:BdC c]:Bd c.1 4:=h.x
instance aoM [h:BdC c]:Bd c.2.1 4:=h.y
instance aoN [h:BdC c]:Bd c.2.2 13:=h.q
theorem afJ [h:BdL l]:Bd l 63:=⟨⟨Cod.mono _ _ _ (by decide) h.a.le,Cod.mono _ _ _ (by decide) h.b.le,h.c.le⟩⟩
theorem ahl [h:BdC c]:Bd c 13:=⟨⟨Cod.mono _ _ _ (by decide) h.x.le,Cod.mono _ _ _ (by decide) h.y.le,h.q.le⟩⟩
end
def eK(l m:Ln):Rat:=l.1*m.2.1-m.1*l.2.1
def pJ(l m:Ln):Rat:=l.2.2*m.2.1-m.2.2*l.2.1
def oY(l m:Ln):Rat:=l.1*m.2.2-m.1*l.2.2
def qJ(l m:Ln):List Pt:=bif !D' (eK l m=0)then [atP (pJ l m/eK l m,oY l m/eK l m)]else []
def Vi(l m:Ln):Int:=bif !D' (eK l m=0)then 0 else bif D' (pJ l m=0)&&D' (oY l m=0)then 10 else 0
def cD(l:Ln):Rat:=l.1*l.1+l.2.1*l.2.1
def vlL(l:Ln)(x y:Rat):Rat:=l.1*x+l.2.1*y-l.2.2
def jA(l c:Ln):Rat:=cD l*c.2.2-vlL l c.1 c.2.1*vlL l c.1 c.2.1
def lY(ax bx ay b_ c:Rat):Pt:=bif eA c then atP (ax+bx*rtQ c,ay+b_*rtQ c)else(ax,bx,ay,b_,c)
def ftX(l c:Ln):Rat:=c.1-vlL l c.1 c.2.1/cD l*l.1
def ftY(l c:Ln):Rat:=c.2.1-vlL l c.1 c.2.1/cD l*l.2.1
def tk(l c:Ln):Pt:=lY (ftX l c) (-(l.2.1/cD l)) (ftY l c) (-(-l.1/cD l)) (jA l c)
def uo(l c:Ln):Pt:=lY (ftX l c) (l.2.1/cD l) (ftY l c) (-l.1/cD l) (jA l c)
def sA(l c:Ln):List Pt:=bif D' (jA l c<0)then []else bif D' (jA l c=0)then [atP (ftX l c,ftY l c)]
 else bif D' (aB (tk l c) (uo l c)>0)then [uo l c,tk l c]else [tk l c,uo l c]
def jF(c d:Ln):Bool:=D' (c.1=d.1)&&D' (c.2.1=d.2.1)
def rC(c:Ln):Rat:=c.1*c.1+c.2.1*c.2.1-c.2.2
def pP(c d:Ln):Ln:=(2*(d.1-c.1),2*(d.2.1-c.2.1),rC d-rC c)
def EA(c d:Ln):List Pt:=bif jF c d then []else sA (pP c d) c
def X1(c d:Ln):Int:=bif jF c d then(bif D' (c.2.2=d.2.2)then 10 else 0)else 0
def wh(c d:Ln):BO3:=bif jF c d then o00 else enc (pP c d)
def Xt(c d:Ln):Int:=bif jF c d then 6 else 0
def oO(l m:Ln):Bool:=D' (l.1*m.2.1=l.2.1*m.1)&&(D' (l.1*m.2.2=l.2.2*m.1)&&D' (l.2.1*m.2.2=l.2.2*m.2.1))
def pE(c d:Ln):Bool:=D' (c.1=d.1)&&(D' (c.2.1=d.2.1)&&D' (c.2.2=d.2.2))
def cG(a b:Cv):Bool:=bif a.1==b.1 then(bif a.1 then pE (ciC a) (ciC b)else oO (lnC a) (lnC b))else F'
def DH(a:BCU):Prop:=(a.1=T'->bK a.2.2.1)/\(a.1=F'->cJ a.2.1)
instance (a:BCU):Decidable (DH a):=by unfold DH;infer_instance
def fh(a b:BCU):Prop:=DH a/\DH b
instance (a b:BCU):Decidable (fh a b):=by unfold fh;infer_instance
def wB(a b:Cv):List Pt:=bif a.1&&b.1 then EA (ciC a) (ciC b)else bif a.1 then sA (lnC b) (ciC a)else bif b.1 then sA (lnC a) (ciC b)else qJ (lnC a) (lnC b)
def aav(a b:Cv):Int:=bif a.1&&b.1 then X1 (ciC a) (ciC b)else bif a.1 then 0 else bif b.1 then 0 else Vi (lnC a) (lnC b)
def db(c:Ln):Pt:=lY c.1 (-1) c.2.1 0 c.2.2
def df(c:Ln):Pt:=lY c.1 1 c.2.1 0 c.2.2
theorem l7{ax bx ay b_ c:Rat}(h0:¬(bx=0/\b_=0))(hc:0<=c):Rpd (lY ax bx ay b_ c):=by
 refine⟨?_⟩;unfold lY;cases hq:eA c
 ·exact .inr ⟨h0,Jx hc hq,hq⟩
 ·exact .inl ⟨rfl,rfl,rfl⟩
theorem DN{ax bx ay b_ c:Rat}{j k m:Nat}(h1:Bd ax j)(h2:Bd bx k)(h3:Bd ay j)(h4:Bd b_ k)(h5:Bd c m){n:Nat}(hn:j+(k+m)+1<=n):Bd (lY ax bx ay b_ c) n:=by
 have z:bdR n 0:=cd tm.le (by omega);have i1:Bd (ax+bx*rtQ c) _:=inferInstance;have i2:Bd (ay+b_*rtQ c) _:=inferInstance;refine⟨?_⟩;unfold lY;cases eA c
 ·exact⟨cd h1.le (by omega),cd h2.le (by omega),cd h3.le (by omega),cd h4.le (by omega),cd h5.le (by omega)⟩
 ·exact⟨cd i1.le (by omega),z,cd i2.le (by omega),z,z⟩
section
variable {l m c d:Ln}
theorem pk(h:l.1≠0\/l.2.1≠0):cD l≠0:=Lb h
instance anJ [BdL l] [h:BdC c]:Bd (jA l c) 257:=by
 have hx:=h.x;have hy:=h.y;have hq:=h.q;have i1:Bd (cD l) 49:=inferInstanceAs (Bd (l.1*l.1+l.2.1*l.2.1) _);have i2:Bd (vlL l c.1 c.2.1) 97:=inferInstanceAs (Bd (l.1*c.1+l.2.1*c.2.1-l.2.2) _);exact(inferInstance:Bd (cD l*c.2.2-vlL l c.1 c.2.1*vlL l c.1 c.2.1) _).mono (by decide)
theorem vF [BdL l][h:BdC c]:Bd (ftX l c) 163/\Bd (ftY l c) 163/\Bd (l.2.1/cD l) 61/\Bd (l.1/cD l) 61:=by
 have hx:=h.x;have hy:=h.y;have i1:Bd (cD l) 49:=inferInstanceAs (Bd (l.1*l.1+l.2.1*l.2.1) _);have i2:Bd (vlL l c.1 c.2.1) 97:=inferInstanceAs (Bd (l.1*c.1+l.2.1*c.2.1-l.2.2) _);have i3:Bd (c.1-vlL l c.1 c.2.1/cD l*l.1) _:=inferInstance;have i4:Bd (c.2.1-vlL l c.1 c.2.1/cD l*l.2.1) _:=inferInstance;have i5:Bd (l.2.1/cD l) _:=inferInstance;have i6:Bd (l.1/cD l) _:=inferInstance;exact⟨i3.mono (by decide),i4.mono (by decide),i5.mono (by decide),i6.mono (by decide)⟩
end
end
section
theorem MY(a b:Rat):((av a,av b):BV)=enc ((a,b):Rat×Rat):=nr rfl
theorem PX{q:Rat}(h:¬q<0)(h':¬q=0):0<q:=by grind
theorem rdl{l:Ln}(h:cD l≠0)(hl:l.1≠0\/l.2.1≠0):¬(l.2.1/cD l=0/\ -l.1/cD l=0):=by
 intro ⟨h1,h2⟩
 have m:∀a:Rat,a/cD l=0->a=0:=λa e=>by
  have:a/cD l*cD l=a:=aqt h;rw[e,arV]at this;exact this.symm
 have:=m _ h1;have:=m _ h2;rcases hl with h|h<;>grind
section
variable {l c:Ln}
theorem OG(hl:l.1≠0\/l.2.1≠0)(h0:0<=jA l c):Rpd (tk l c)/\Rpd (uo l c):=by
 have hn:=pk hl;refine⟨l7 (λh=>rdl hn hl ⟨by grind,by grind⟩) h0,l7 (rdl hn hl) h0⟩
theorem Uc [BdL l][BdC c]:Bd (tk l c) 490/\Bd (uo l c) 490:=by
 obtain⟨h1,h2,h3,h4⟩:=vF (l:=l) (c:=c);have h5:Bd (jA l c) 257:=inferInstance;have n1:Bd (-(l.2.1/cD l)) 61:=inferInstance;have i1:Bd (cD l) 49:=inferInstanceAs (Bd (l.1*l.1+l.2.1*l.2.1) _);have n2:Bd (-l.1/cD l) 61:=(inferInstance:Bd (-l.1/cD l) _)
 have n3:Bd (-(-l.1/cD l)) 61:=inferInstance;exact⟨DN h1 n1 h2 n3 h5 (by decide),DN h1 h3 h2 n2 h5 (by decide)⟩
end
theorem B3{c d:Ln}[BdC c][BdC d]:BdL (pP c d):=by
 have b2:Bd (2:Rat) 3:=dQ (n:=2) (by decide);have f1:Bd (rC c) 31:=(inferInstance:Bd (c.1*c.1+c.2.1*c.2.1-c.2.2) _).mono (by decide);have f2:Bd (rC d) 31:=(inferInstance:Bd (d.1*d.1+d.2.1*d.2.1-d.2.2) _).mono (by decide);have g1:Bd (2*(d.1-c.1)) _:=inferInstance;have g2:Bd (2*(d.2.1-c.2.1)) _:=inferInstance;have g3:Bd (rC d-rC c) _:=inferInstance;exact⟨g1.mono (by decide),g2.mono (by decide),g3.mono (by decide)⟩
theorem HL{c d:Ln}(h:jF c d=F'):(pP c d).1≠0\/(pP c d).2.1≠0:=by
 unfold jF at h;unfold pP;dsimp only;by_cases h1:c.1=d.1
 ·rw[aoP h1,aqf]at h;have:=apI h;right;grind
 ·left;grind
theorem O6{c d:Ln}[BdC c][BdC d](h:jF c d=F'):cJ (enc (pP c d)):=lX (h:=B3) (HL h)
def wa:List En:=[enT nV,enL lg,enL ru,enL xY,enL n7,enT oW,enL ou,enL xU,enL Hz,enL rS,enT r9,enL Cl]
def ajd:Cn 322 [tR,tR]:=cn λ(a b:BR)=>lf (okR a/\okR b) [.d tR (av (ag a+ag b))] λh=>qN [RV.d tR (hAd a b)] (eL wa) h
def ak2:Cn 335 [tR,tR]:=cn λ(a b:BR)=>lf (okR a/\okR b) [.d tR (av (ag a-ag b))] λh=>qN [RV.d tR (hSu a b)] (eL wa) h
def amh:Cn 323 [tR,tR]:=cn λ(a b:BR)=>lf (okR a/\okR b) [.d tR (av (ag a*ag b))] λh=>qN [RV.d tR (hMu a b)] (eL wa) h
def ahO:Cn 281 [tR]:=cn λ(a:BR)=>lf (okR a) [.d tR (av (-ag a))] λh=>qN [RV.d tR (hNe a)] (eL wa) h
def aio:Cn 333 [tR,tR]:=cn λ(a b:BR)=>lf (jK a b) [.d tR (av (ag a/ag b))] λh=>qN [RV.d tR (hDi a b)] (eL wa) h
def U7(l m:BO3)(_k:KT):OLR:=og (o2 l.1 m.2.1) (og (o2 l.2.1 m.1) (og (o2 (hMu l.1 m.2.1) (hMu l.2.1 m.1)) (match(aD (ag (hMu l.1 m.2.1)) (ag (hMu l.2.1 m.1)))==0 with|T'=>(og (o2 l.1 m.2.2) (og (o2 l.2.2 m.1) (og (o2 (hMu l.1 m.2.2) (hMu l.2.2 m.1)) (match(aD (ag (hMu l.1 m.2.2)) (ag (hMu l.2.2 m.1)))==0 with|T'=>(og (o2 l.2.1 m.2.2) (og (o2 l.2.2 m.2.1) (og (o2 (hMu l.2.1 m.2.2) (hMu l.2.2 m.2.1)) (S' [RV.d .bool ((aD (ag (hMu l.2.1 m.2.2)) (ag (hMu l.2.2 m.2.1)))==0)]))))|F'=>S' [RV.d .bool F']))))|F'=>S' [RV.d .bool F'])))
def afA:Cn 211 [tO,tO]:=cn λ(l m:BO3)=>lf (cJ l/\cJ m) [.d .bool (oO (dec l) (dec m))] λh=>by
 refine aA wa (U7 l m) ⟨0,?_⟩;obtain⟨hl,hm⟩:=h;obtain⟨l,rfl,bl,nl⟩:=dL hl;obtain⟨m,rfl,bm,nm⟩:=dL hm;unfold U7 oO;simp only[aV,Nat.reduceAdd,Nat.reduceLeDiff,am];cases D' (l.1*m.2.1=l.2.1*m.1)<;>cases D' (l.1*m.2.2=l.2.2*m.1)<;>rfl
def Om(c d:BO3)(_k:KT):OLR:=og (o2 c.1 d.1) (match(aD (ag c.1) (ag d.1))==0 with|T'=>(og (o2 c.2.1 d.2.1) (match(aD (ag c.2.1) (ag d.2.1))==0 with|T'=>(og (o2 c.2.2 d.2.2) (S' [RV.d .bool ((aD (ag c.2.2) (ag d.2.2))==0)]))|F'=>S' [RV.d .bool F']))|F'=>S' [RV.d .bool F'])
def acU:Cn 210 [tO,tO]:=cn λ(c d:BO3)=>lf (bK c/\bK d) [.d .bool (pE (dec c) (dec d))] λh=>by
 refine aA wa (Om c d) ⟨0,?_⟩;obtain⟨hc,hd⟩:=h;obtain⟨c,rfl,bc,nc⟩:=b8 hc;obtain⟨d,rfl,bd,nd⟩:=b8 hd;unfold Om pE;simp only[aV,Nat.reduceLeDiff,am];cases D' (c.1=d.1)<;>cases D' (c.2.1=d.2.1)<;>rfl
def Be:List En:=enL ajd::enL ak2::enL amh::enL ahO::enL aio::wa
def YM(l m:BO3)(_k:KT):OLR:=og (o2 l.1 m.2.1) (og (o2 m.1 l.2.1) (og (o2 (hMu l.1 m.2.1) (hMu m.1 l.2.1)) (S' [RV.d tR (hSu (hMu l.1 m.2.1) (hMu m.1 l.2.1))])))
def akJ:Cn 336 [tO,tO]:=cn λ(l m:BO3)=>lf (cJ l/\cJ m) [.d tR (av (eK (dec l) (dec m)))] λh=>by
 refine aA Be (YM l m) ⟨0,?_⟩;obtain⟨hl,hm⟩:=h;obtain⟨l,rfl,bl,nl⟩:=dL hl;obtain⟨m,rfl,bm,nm⟩:=dL hm;unfold YM eK;simp only[aV,Nat.reduceAdd,Nat.reduceLeDiff]
def YE(l:BO3)(_k:KT):OLR:=og (o2 l.1 l.1) (og (o2 l.2.1 l.2.1) (og (o2 (hMu l.1 l.1) (hMu l.2.1 l.2.1)) (S' [RV.d tR (hAd (hMu l.1 l.1) (hMu l.2.1 l.2.1))])))
def ahX:Cn 332 [tO]:=cn λ(l:BO3)=>lf (cJ l) [.d tR (av (cD (dec l)))] λh=>by
 refine aA Be (YE l) ⟨0,?_⟩;have hl:=h;obtain⟨l,rfl,bl,nl⟩:=dL hl;unfold YE cD;simp only[aV,Nat.reduceAdd,Nat.reduceLeDiff]
def Zu(l:BO3)(x y:BR)(_k:KT):OLR:=og (o2 l.1 x) (og (o2 l.2.1 y) (og (o2 (hMu l.1 x) (hMu l.2.1 y)) (og (o2 (hAd (hMu l.1 x) (hMu l.2.1 y)) l.2.2) (S' [RV.d tR (hSu (hAd (hMu l.1 x) (hMu l.2.1 y)) l.2.2)]))))
def ajI:Cn 334 [tO,tR,tR]:=cn λ(l:BO3) (x y:BR)=>lf (cJ l/\ok Rat 4 x/\ok Rat 4 y) [.d tR (av (vlL (dec l) (ag x) (ag y)))] λh=>by
 refine aA Be (Zu l x y) ⟨0,?_⟩;obtain⟨hl,hx,hy⟩:=h;obtain⟨l,rfl,bl,nl⟩:=dL hl;obtain⟨x,rfl,bx⟩:=aJ hx;obtain⟨y,rfl,b_y⟩:=aJ hy;unfold Zu vlL;simp only[aV,Nat.reduceAdd,Nat.reduceLeDiff]
def Zl(c d:BO3)(_k:KT):OLR:=og (o2 c.1 d.1) (match(aD (ag c.1) (ag d.1))==0 with|T'=>(og (o2 c.2.1 d.2.1) (S' [RV.d .bool ((aD (ag c.2.1) (ag d.2.1))==0)]))|F'=>S' [RV.d .bool F'])
def ajN:Cn 329 [tO,tO]:=cn λ(c d:BO3)=>lf (bK c/\bK d) [.d .bool (jF (dec c) (dec d))] λh=>by
 refine aA Be (Zl c d) ⟨0,?_⟩;obtain⟨hc,hd⟩:=h;obtain⟨c,rfl,bc,nc⟩:=b8 hc;obtain⟨d,rfl,bd,nd⟩:=b8 hd;unfold Zl jF;simp only[aV,Nat.reduceLeDiff,am];cases D' (c.1=d.1)<;>rfl
def aaD(a b c d e:BR)(_k:KT):OLR:=og (o1 e) (match eA (ag e)with|T'=>(og (o2 b (hid (rtB (ag e)))) (og (o2 a (hMu b (hid (rtB (ag e))))) (og (o2 d (hid (rtB (ag e)))) (og (o2 c (hMu d (hid (rtB (ag e))))) (og (D' (ok (Rat×Rat) 100000 (hAd a (hMu b (hid (rtB (ag e)))),hAd c (hMu d (hid (rtB (ag e))))))) (S' [RV.d tP (hid (enc (atP (dec (hAd a (hMu b (hid (rtB (ag e)))),hAd c (hMu d (hid (rtB (ag e)))))))))]))))))|F'=>S' [RV.d tP (a,(b,(c,(d,e))))])
def amK:Cn 280 [tR,tR,tR,tR,tR]:=cn λ(a b c d e:BR)=>lf (ok Rat 1000 a/\ok Rat 1000 b/\ok Rat 1000 c/\ok Rat 1000 d/\ok Rat 1000 e) [.d tP (enc (lY (ag a) (ag b) (ag c) (ag d) (ag e)))] λh=>by
 refine aA Be (aaD a b c d e) ⟨0,?_⟩;obtain⟨ha,hb,hc,hd,he⟩:=h;obtain⟨a,rfl,ba⟩:=aJ ha;obtain⟨b,rfl,bb⟩:=aJ hb;obtain⟨c,rfl,bc⟩:=aJ hc;obtain⟨d,rfl,bd⟩:=aJ hd;obtain⟨e,rfl,be⟩:=aJ he;unfold aaD lY;simp only[aV,Nat.reduceLeDiff];cases hq:eA e
 ·rfl
 ·rw[P3 hq];simp only[aV,Nat.reduceAdd,Nat.reduceLeDiff,MY];try rfl
def EC:List En:=enL akJ::enL ahX::enL ajI::enT ajN::enL amK::Be
def abs(l m:BO3)(_k:KT):OLR:=og (D' (cJ l/\cJ m)) (og (o2 l.2.2 m.2.1) (og (o2 m.2.2 l.2.1) (og (o2 (hMu l.2.2 m.2.1) (hMu m.2.2 l.2.1)) (og (o2 l.1 m.2.2) (og (o2 m.1 l.2.2) (og (o2 (hMu l.1 m.2.2) (hMu m.1 l.2.2)) (og (o1 (hid (av (eK (dec l) (dec m))))) (match(aD (ag (hid (av (eK (dec l) (dec m))))) 0) !=0 with|T'=>(og (D' (jK (hSu (hMu l.2.2 m.2.1) (hMu m.2.2 l.2.1)) (hid (av (eK (dec l) (dec m)))))) (og (D' (jK (hSu (hMu l.1 m.2.2) (hMu m.1 l.2.2)) (hid (av (eK (dec l) (dec m)))))) (og (D' (ok (Rat×Rat) 100000 (hDi (hSu (hMu l.2.2 m.2.1) (hMu m.2.2 l.2.1)) (hid (av (eK (dec l) (dec m)))),hDi (hSu (hMu l.1 m.2.2) (hMu m.1 l.2.2)) (hid (av (eK (dec l) (dec m))))))) (S' [RV.d (.sl tP) ([hid (enc (atP (dec (hDi (hSu (hMu l.2.2 m.2.1) (hMu m.2.2 l.2.1)) (hid (av (eK (dec l) (dec m)))),hDi (hSu (hMu l.1 m.2.2) (hMu m.1 l.2.2)) (hid (av (eK (dec l) (dec m))))))))]),RV.d ask 0]))))|F'=>(og (o1 (hSu (hMu l.2.2 m.2.1) (hMu m.2.2 l.2.1))) (match(aD (ag (hSu (hMu l.2.2 m.2.1) (hMu m.2.2 l.2.1))) 0)==0 with|T'=>(og (o1 (hSu (hMu l.1 m.2.2) (hMu m.1 l.2.2))) (match(aD (ag (hSu (hMu l.1 m.2.2) (hMu m.1 l.2.2))) 0)==0 with|T'=>S' [RV.d (.sl tP) ([]),RV.d ask 10]|F'=>S' [RV.d (.sl tP) ([]),RV.d ask 0]))|F'=>S' [RV.d (.sl tP) ([]),RV.d ask 0]))))))))))
def Zh:Cn 286 [tO,tO]:=cn λ(l m:BO3)=>lf (cJ l/\cJ m) [.d (.sl tP) ((qJ (dec l) (dec m)).map enc),.d ask (Vi (dec l) (dec m))] λh=>by
 refine aA EC (abs l m) ⟨0,?_⟩;obtain⟨hl,hm⟩:=h;obtain⟨l,rfl,bl,nl⟩:=dL hl;obtain⟨m,rfl,bm,nm⟩:=dL hm;have ol:=aoP (lX (l:=l) nl);have om:=aoP (lX (l:=m) nm);have bc:Bd (eK l m) 49:=inferInstanceAs (Bd (l.1*m.2.1-m.1*l.2.1) _);have e1:l.2.2*m.2.1-m.2.2*l.2.1=pJ l m:=rfl;have e2:l.1*m.2.2-m.1*l.2.2=oY l m:=rfl;unfold abs qJ Vi;simp only[aV,Nat.reduceAdd,Nat.reduceLeDiff,am,aZ,ol,om];by_cases h0:eK l m=0
 ·simp only[aoP h0,e1,e2,Bool.not_true];cases D' (pJ l m=0)<;>cases D' (oY l m=0)<;>rfl
 ·simp only[aV,Nat.reduceAdd,Nat.reduceLeDiff,h0,ne_eq,aqq,Bool.not_false,MY];rfl
def acp(l c:BO3)(_k:KT):OLR:=og (D' (cJ l/\ok Rat 4 c.1/\ok Rat 4 c.2.1)) (og (D' (cJ l)) (og (o2 (hid (av (cD (dec l)))) c.2.2) (og (o2 (hid (av (vlL (dec l) (ag c.1) (ag c.2.1)))) (hid (av (vlL (dec l) (ag c.1) (ag c.2.1))))) (og (o2 (hMu (hid (av (cD (dec l)))) c.2.2) (hMu (hid (av (vlL (dec l) (ag c.1) (ag c.2.1)))) (hid (av (vlL (dec l) (ag c.1) (ag c.2.1)))))) (S' [RV.d tR (hSu (hMu (hid (av (cD (dec l)))) c.2.2) (hMu (hid (av (vlL (dec l) (ag c.1) (ag c.2.1)))) (hid (av (vlL (dec l) (ag c.1) (ag c.2.1))))))])))))
def ajT:Cn 331 [tO,tO]:=cn λ(l c:BO3)=>lf (cJ l/\bK c) [.d tR (av (jA (dec l) (dec c)))] λh=>by
 refine aA EC (acp l c) ⟨0,?_⟩;obtain⟨hl,hc⟩:=h;obtain⟨l,rfl,bl,nl⟩:=dL hl;obtain⟨c,rfl,bc,nc⟩:=b8 hc;have ol:=aoP (lX (l:=l) nl);have bv:Bd (vlL l c.1 c.2.1) 97:=inferInstanceAs (Bd (l.1*c.1+l.2.1*c.2.1-l.2.2) _);have bn:Bd (cD l) 49:=inferInstanceAs (Bd (l.1*l.1+l.2.1*l.2.1) _);unfold acp jA;simp only[aV,Nat.reduceAdd,Nat.reduceLeDiff,ol]
def aau(c d:BO3)(_k:KT):OLR:=og (D' (bK c/\bK d)) (match jF (dec c) (dec d)with|T'=>S' [RV.d tO (((F',[]),(F',[])),(((F',[]),(F',[])),((F',[]),(F',[])))),RV.d ask 6]|F'=>(og (D' (bI (2:Int))) (og (o2 c.1 c.1) (og (o2 c.2.1 c.2.1) (og (o2 (hMu c.1 c.1) (hMu c.2.1 c.2.1)) (og (o2 (hAd (hMu c.1 c.1) (hMu c.2.1 c.2.1)) c.2.2) (og (o2 d.1 d.1) (og (o2 d.2.1 d.2.1) (og (o2 (hMu d.1 d.1) (hMu d.2.1 d.2.1)) (og (o2 (hAd (hMu d.1 d.1) (hMu d.2.1 d.2.1)) d.2.2) (og (o2 d.1 c.1) (og (o2 (hid (av ((2:Int):Rat))) (hSu d.1 c.1)) (og (o2 d.2.1 c.2.1) (og (o2 (hid (av ((2:Int):Rat))) (hSu d.2.1 c.2.1)) (og (o2 (hSu (hAd (hMu d.1 d.1) (hMu d.2.1 d.2.1)) d.2.2) (hSu (hAd (hMu c.1 c.1) (hMu c.2.1 c.2.1)) c.2.2)) (S' [RV.d tO (hMu (hid (av ((2:Int):Rat))) (hSu d.1 c.1),(hMu (hid (av ((2:Int):Rat))) (hSu d.2.1 c.2.1),hSu (hSu (hAd (hMu d.1 d.1) (hMu d.2.1 d.2.1)) d.2.2) (hSu (hAd (hMu c.1 c.1) (hMu c.2.1 c.2.1)) c.2.2))),RV.d ask 0]))))))))))))))))
def am3:Cn 330 [tO,tO]:=cn λ(c d:BO3)=>lf (bK c/\bK d) [.d tO (wh (dec c) (dec d)),.d ask (Xt (dec c) (dec d))] λh=>by
 refine aA EC (aau c d) ⟨0,?_⟩;obtain⟨hc,hd⟩:=h;obtain⟨c,rfl,bc,nc⟩:=b8 hc;obtain⟨d,rfl,bd,nd⟩:=b8 hd;have oc:=aoP (jR (c:=c) nc);have od:=aoP (jR (c:=d) nd);have i2:D' (bI 2)=true:=by decide
 have b2:Bd ((2:Int):Rat) 3:=dQ (by decide);unfold aau wh Xt;simp only[aV,Nat.reduceAdd,Nat.reduceLeDiff,oc,od,i2];cases jF c d
 ·rfl
 ·rfl
def abP(c:BO3)(_k:KT):OLR:=og (D' (bI (1:Int))) (og (D' (bI (0:Int))) (og (o1 (hid (av ((1:Int):Rat)))) (og (D' (ok Rat 1000 c.1/\ok Rat 1000 (hNe (hid (av ((1:Int):Rat))))/\ok Rat 1000 c.2.1/\ok Rat 1000 (hid (av ((0:Int):Rat)))/\ok Rat 1000 c.2.2)) (og (D' (ok Rat 1000 c.1/\ok Rat 1000 (hid (av ((1:Int):Rat)))/\ok Rat 1000 c.2.1/\ok Rat 1000 (hid (av ((0:Int):Rat)))/\ok Rat 1000 c.2.2)) (S' [RV.d tP (hid (enc (lY (ag c.1) (ag (hNe (hid (av ((1:Int):Rat))))) (ag c.2.1) (ag (hid (av ((0:Int):Rat)))) (ag c.2.2)))),RV.d tP (hid (enc (lY (ag c.1) (ag (hid (av ((1:Int):Rat)))) (ag c.2.1) (ag (hid (av ((0:Int):Rat)))) (ag c.2.2))))])))))
def PS:Cn 208 [tO]:=cn λ(c:BO3)=>lf (bK c) [.d tP (enc (db (dec c))),.d tP (enc (df (dec c)))] λh=>by
 refine aA EC (abP c) ⟨0,?_⟩;have hc:=h;obtain⟨c,rfl,bc,nc⟩:=b8 hc;have b0:Bd ((0:Int):Rat) 3:=dQ (by decide);have b1:Bd ((1:Int):Rat) 3:=dQ (by decide);have i0:D' (bI 0)=true:=by decide
 have i1:D' (bI 1)=true:=by decide
 unfold abP db df;simp only[aV,Nat.reduceLeDiff,i0,i1];rfl
def QP:List En:=enL Zh::enL ajT::enL am3::enL PS::EC
def am0:Ctx:=CX (ens QP) []
def acr(l c:BO3)(_k:KT):OLR:=let y1:=hid (av (jA (dec l) (dec c)));let y2:=hid (av (vlL (dec l) (ag c.1) (ag c.2.1)));let y3:=hid (av (cD (dec l)));let y4:=hMu (hDi y2 y3) l.1;let y5:=hMu (hDi y2 y3) l.2.1;let y6:=hDi (hNe l.1) y3;let y7:=hNe (hDi l.2.1 y3);let y8:=ag (hSu c.2.1 y5);let y9:=enc (lY (ag (hSu c.1 y4)) (ag y7) y8 (ag (hNe y6)) (ag y1));let y10:=enc (lY (ag (hSu c.1 y4)) (ag (hDi l.2.1 y3)) y8 (ag y6) (ag y1));og (D' (cJ l/\bK c)) (og (D' (cJ l)) (og (o1 y1) (match D' ((aD (ag y1) 0)<0)with|T'=>S' [RV.new 40 tP []]|F'=>(og (D' (cJ l/\ok Rat 4 c.1/\ok Rat 4 c.2.1)) (og (D' (jK y2 y3)) (og (o2 (hDi y2 y3) l.1) (og (o2 c.1 y4) (og (o2 (hDi y2 y3) l.2.1) (og (o2 c.2.1 y5) (og (o1 y1) (match(aD (ag y1) 0)==0 with|T'=>(og (D' (ok (Rat×Rat) 100000 (hSu c.1 y4,hSu c.2.1 y5))) (S' [RV.new 40 tP ([hid (enc (atP (dec (hSu c.1 y4,hSu c.2.1 y5))))])]))|F'=>(og (D' (jK l.2.1 y3)) (og (o1 l.1) (og (D' (jK (hNe l.1) y3)) (og (o1 (hDi l.2.1 y3)) (og (o1 y6) (og (D' (ok Rat 1000 (hSu c.1 y4)/\ok Rat 1000 y7/\ok Rat 1000 (hSu c.2.1 y5)/\ok Rat 1000 (hNe y6)/\ok Rat 1000 y1)) (og (D' (ok Rat 1000 (hSu c.1 y4)/\ok Rat 1000 (hDi l.2.1 y3)/\ok Rat 1000 (hSu c.2.1 y5)/\ok Rat 1000 y6/\ok Rat 1000 y1)) (og (D' (okP 4000 (hid y9)/\okP 4000 (hid y10))) (match D' ((aB (dec (hid y9)) (dec (hid y10)))>0)with|T'=>S' [RV.new 40 tP ([hid y10,hid y9])]|F'=>S' [RV.new 40 tP ([hid y9,hid y10])]))))))))))))))))))))
theorem ajq(l c:BO3):RS am0 285 [.d tO l,.d tO c] (acr l c):=rsX
def aa6:Cn 285 [tO,tO]:=cn λ(l c:BO3)=>lf (cJ l/\bK c) [.d (.sl tP) ((sA (dec l) (dec c)).map enc)] λh=>by
 refine Con.new_d (et:=40) (aX QP (ajq _ _ ⟨0,?_⟩));obtain⟨hl,hc⟩:=h;obtain⟨l,rfl,bl,nl⟩:=dL hl;obtain⟨c,rfl,bc,nc⟩:=b8 hc;have ol:=aoP (lX (l:=l) nl);have oc:=aoP (jR (c:=c) nc);have hn:=pk nl;have bv:Bd (vlL l c.1 c.2.1) 97:=inferInstanceAs (Bd (l.1*c.1+l.2.1*c.2.1-l.2.2) _);have bn:Bd (cD l) 49:=inferInstanceAs (Bd (l.1*l.1+l.2.1*l.2.1) _);have e1:c.1-vlL l c.1 c.2.1/cD l*l.1=ftX l c:=rfl;have e2:c.2.1-vlL l c.1 c.2.1/cD l*l.2.1=ftY l c:=rfl;obtain⟨f1,f2,_,_⟩:=vF (l:=l) (c:=c);unfold acr sA;simp only[aV,Nat.reduceAdd,Nat.reduceLeDiff,am,aq,ol,oc,hn,ne_eq,aqq,e1,e2,MY];by_cases h0:jA l c<0
 ·simp only[aoP h0];rfl
 ·simp only[aoR h0];by_cases h1:jA l c=0
  ·simp only[aoP h1];rfl
  ·have hp:=PX h0 h1;obtain⟨p1,p2⟩:=OG (c:=c) nl (show 0<=jA l c by grind);obtain⟨q1,q2⟩:=Uc (l:=l) (c:=c);have g1:lY (ftX l c) (-(l.2.1/cD l)) (ftY l c) (-(-l.1/cD l)) (jA l c)=tk l c:=rfl;have g2:lY (ftX l c) (l.2.1/cD l) (ftY l c) (-l.1/cD l) (jA l c)=uo l c:=rfl;simp only[aoR h1,aV,Nat.reduceLeDiff,aL,g1,g2];cases D' (aB (tk l c) (uo l c)>0)<;>rfl
def alM:List En:=enL aa6::QP
def aag(c d:BO3)(_k:KT):OLR:=og (D' (bK c/\bK d)) (match jF (dec c) (dec d)with|T'=>(og (o2 c.2.2 d.2.2) (match(aD (ag c.2.2) (ag d.2.2))==0 with|T'=>S' [RV.d (.sl tP) ([]),RV.d ask 10]|F'=>S' [RV.d (.sl tP) ([]),RV.d ask 0]))|F'=>(og (D' (bK c/\bK d)) (og (D' (cJ (hid (wh (dec c) (dec d)))/\bK c)) (S' [RV.d (.sl tP) ((sA (dec (hid (wh (dec c) (dec d)))) (dec c)).map enc),RV.d ask 0]))))
def alb:Cn 284 [tO,tO]:=cn λ(c d:BO3)=>lf (bK c/\bK d) [.d (.sl tP) ((EA (dec c) (dec d)).map enc),.d ask (X1 (dec c) (dec d))] λh=>by
 refine aA alM (aag c d) ⟨0,?_⟩;obtain⟨hc,hd⟩:=h;obtain⟨c,rfl,bc,nc⟩:=b8 hc;obtain⟨d,rfl,bd,nd⟩:=b8 hd;have oc:=aoP (jR (c:=c) nc);have od:=aoP (jR (c:=d) nd);unfold aag EA X1;simp only[aV,Nat.reduceLeDiff,am,oc,od];cases hc:jF c d
 ·have ol:cJ (enc (pP c d)):=O6 hc;have er:wh c d=enc (pP c d):=by unfold wh;rw[hc];rfl
  simp only[er,dT ol,aV];try rfl
 ·cases D' (c.2.2=d.2.2)<;>rfl
end
def mG(c:BCU):Prop:=okC 580 c/\DH c
instance (c:BCU):Decidable (mG c):=by unfold mG;infer_instance
def jy(c d:BCU):Prop:=mG c/\mG d
instance (c d:BCU):Decidable (jy c d):=by unfold jy;infer_instance
def EU(c d:BCU):List BP:=bif !cG (dC c) (dC d)then(wB (dC c) (dC d)).map enc else [c.2.2.2.2.1,c.2.2.2.2.2,d.2.2.2.2.1,d.2.2.2.2.2]
def adj(c d:BCU):List BP:=(EU c d).filter λp=>onR (dC c) (dec p)&&onR (dC d) (dec p)
def yA(c d:BCU):List BP:=gU (dC c) (adj c d)
def Wc(c d:BCU):Bool:=bif c.1&&(d.1&&(c.2.2.2.1 !=d.2.2.2.1))then T' else !c.1&&(aB (dec c.2.2.2.2.1) (dec c.2.2.2.2.2) !=aB (dec d.2.2.2.2.1) (dec d.2.2.2.2.2))
def Ar(c d:BCU):BCU:=bif Wc c d then gJ d else d
def DZ(c:Cv):List BP->Bool
 |[]=>false
 |x::r=>match r with
  |[]=>false
  |y::_=>decide (ck c (dec x) (dec y)<0)||DZ c r
def ahZ(c d:BCU):Bool:=cG (dC c) (dC d)&&DZ (dC (Ar c d)) (yA c d)
def OI:List En:=[enL alb,enL aa6,enL Zh,enT afA,enT acU,enT LJ,enT LL,enK aaj,enL Je,enT r9]
def Uj(a b:BCU)(_k:KT):OLR:=match a.1 with|T'=>(match b.1 with|T'=>(og (D' (bK a.2.2.1/\bK b.2.2.1)) (S' [RV.d (.sl tP) ((EA (dec a.2.2.1) (dec b.2.2.1)).map enc),RV.d ask (X1 (dec a.2.2.1) (dec b.2.2.1))]))|F'=>(match a.1 with|T'=>(og (D' (cJ b.2.1/\bK a.2.2.1)) (S' [RV.d (.sl tP) ((sA (dec b.2.1) (dec a.2.2.1)).map enc),RV.d ask 0]))|F'=>(match b.1 with|T'=>(og (D' (cJ a.2.1/\bK b.2.2.1)) (S' [RV.d (.sl tP) ((sA (dec a.2.1) (dec b.2.2.1)).map enc),RV.d ask 0]))|F'=>(og (D' (cJ a.2.1/\cJ b.2.1)) (S' [RV.d (.sl tP) ((qJ (dec a.2.1) (dec b.2.1)).map enc),RV.d ask (Vi (dec a.2.1) (dec b.2.1))])))))|F'=>(match a.1 with|T'=>(og (D' (cJ b.2.1/\bK a.2.2.1)) (S' [RV.d (.sl tP) ((sA (dec b.2.1) (dec a.2.2.1)).map enc),RV.d ask 0]))|F'=>(match b.1 with|T'=>(og (D' (cJ a.2.1/\bK b.2.2.1)) (S' [RV.d (.sl tP) ((sA (dec a.2.1) (dec b.2.2.1)).map enc),RV.d ask 0]))|F'=>(og (D' (cJ a.2.1/\cJ b.2.1)) (S' [RV.d (.sl tP) ((qJ (dec a.2.1) (dec b.2.1)).map enc),RV.d ask (Vi (dec a.2.1) (dec b.2.1))]))))
def agQ:Cn 214 [tCU,tCU]:=cn λ(a b:BCU)=>lf (fh a b) [.d (.sl tP) ((wB (dC a) (dC b)).map enc),.d ask (aav (dC a) (dC b))] λh=>by
 refine aA OI (Uj a b) ⟨0,?_⟩;obtain⟨⟨a1,a2⟩,b1,b2⟩:=h;unfold Uj wB aav EA;obtain⟨aa,al,ac,aw,af,at_⟩:=a;obtain⟨ba,bl,bc,bw,bf,bt⟩:=b;cases aa<;>cases ba
 ·have h1:=a2 rfl;have h2:=b2 rfl;simp only[dT (show cJ al/\cJ bl from⟨h1,h2⟩)];rfl
 ·have h1:=a2 rfl;have h2:=b1 rfl;simp only[dT (show cJ al/\bK bc from⟨h1,h2⟩)];rfl
 ·have h1:=a1 rfl;have h2:=b2 rfl;simp only[dT (show cJ bl/\bK ac from⟨h2,h1⟩)];rfl
 ·have h1:=a1 rfl;have h2:=b1 rfl;simp only[dT (show bK ac/\bK bc from⟨h1,h2⟩)];rfl
def aaR(a b:BCU)(_k:KT):OLR:=match !(a.1==b.1)with|T'=>S' [RV.d .bool F']|F'=>(match a.1 with|T'=>(og (D' (bK a.2.2.1/\bK b.2.2.1)) (S' [RV.d .bool (pE (dec a.2.2.1) (dec b.2.2.1))]))|F'=>(og (D' (cJ a.2.1/\cJ b.2.1)) (S' [RV.d .bool (oO (dec a.2.1) (dec b.2.1))])))
def OM:Cn 136 [tCU,tCU]:=cn λ(a b:BCU)=>lf (fh a b) [.d .bool (cG (dC a) (dC b))] λh=>by
 refine aA OI (aaR a b) ⟨0,?_⟩;obtain⟨⟨a1,a2⟩,b1,b2⟩:=h;unfold aaR cG;obtain⟨aa,al,ac,aw,af,at_⟩:=a;obtain⟨ba,bl,bc,bw,bf,bt⟩:=b;cases aa<;>cases ba
 ·have h1:=a2 rfl;have h2:=b2 rfl;simp only[dT (show cJ al/\cJ bl from⟨h1,h2⟩)];rfl
 ·rfl
 ·rfl
 ·have h1:=a1 rfl;have h2:=b1 rfl;simp only[dT (show bK ac/\bK bc from⟨h1,h2⟩)];rfl
def YO:List En:=enL agQ::enT OM::OI
def ahh:NT:=[((138,18),{keep:=[2,3,6,7,8,9],own:=[(8,40,tP)],hl:=4}),((138,47),{keep:=[3,6,8,10,11],hl:=2})]
def th:Ctx:=CX (ens YO) ahh
def qy(c d:BCU)(s9:Int)(r3:List BP):Cfg:=⟨138,[.blk 0,.seq 33],[(2,.box 0 0),(3,.box 1 0),(6,SB (cG (dC c) (dC d))),(7,.d (.sl tP) ((wB (dC c) (dC d)).map enc)),(8,.own 3),(9,SI s9)],[.box 48 (Ty.split tCU c),.box 48 (Ty.split tCU d),.row 40 tP ([c.2.2.2.2.1,c.2.2.2.2.2,d.2.2.2.2.1,d.2.2.2.2.2]),.row 40 tP r3],0,[]⟩
def ki(c d:BCU)(s9:Int)(r3:List BP):Cfg:=⟨138,[.blk 0,.seq 33],[(2,.box 0 0),(3,.box 1 0),(6,SB (cG (dC c) (dC d))),(7,.own 2),(8,.own 3),(9,SI s9)],[.box 48 (Ty.split tCU c),.box 48 (Ty.split tCU d),.row 40 tP ([c.2.2.2.2.1,c.2.2.2.2.2,d.2.2.2.2.1,d.2.2.2.2.2]),.row 40 tP r3],0,[]⟩
def cS(c d:BCU)(r3:List BP)(B1:BCU)(s10:Bool)(s11:Int):Cfg:=⟨138,[.blk 2,.seq 58],[(3,.box 1 0),(6,SB (cG (dC c) (dC d))),(8,.d (.sl tP) (gU (dC c) r3)),(10,SB s10),(11,SI s11)],[.box 48 (Ty.split tCU c),.box 48 (Ty.split tCU B1)],0,[]⟩
def U1(c d:BCU)(k:KT):OLR:=og (D' (fh c d)) (match !(cG (dC c) (dC d))with|T'=>(og (D' (fh c d)) (k 18 (qy c d 0 ([]))))|F'=>k 18 (ki c d 0 ([])))
theorem Z0(c d:BCU):RS th 138 [.d tCU c,.d tCU d] (U1 c d):=rsX
def qt(c d:BCU)(s9:Int)(r3:List BP)(k:KT):OLR:=match D' (s9<(((wB (dC c) (dC d)).map enc).length:Int))with|T'=>(match aH ((wB (dC c) (dC d)).map enc) s9 with|S' x1=>(og (D' (okC 3500 c/\okP 3500 x1)) (match onR (dC c) (dec x1)with|T'=>(match aH ((wB (dC c) (dC d)).map enc) s9 with|S' x2=>(og (D' (okC 3500 d/\okP 3500 x2)) (match onR (dC d) (dec x2)with|T'=>(match aH ((wB (dC c) (dC d)).map enc) s9 with|S' x3=>(og (D' ((r3.length+([x3]).length)*320<=140737488355328/\r3.length+([x3]).length<=140737488355328)) (k 18 (qy c d (i64.wrap (s9+1)) (r3++([x3])))))|N'=>N')|F'=>k 18 (qy c d (i64.wrap (s9+1)) r3)))|N'=>N')|F'=>k 18 (qy c d (i64.wrap (s9+1)) r3)))|N'=>N')|F'=>(og (D' (yg c r3)) (match c.1 with|T'=>(match d.1 with|T'=>(match !(c.2.2.2.1==d.2.2.2.1)with|T'=>k 47 (cS c d r3 (hid (gJ d)) F' 1)|F'=>(match !c.1 with|T'=>(og (D' (okP 4000 c.2.2.2.2.1/\okP 4000 c.2.2.2.2.2)) (og (D' (okP 4000 d.2.2.2.2.1/\okP 4000 d.2.2.2.2.2)) (match(aB (dec c.2.2.2.2.1) (dec c.2.2.2.2.2)) !=(aB (dec d.2.2.2.2.1) (dec d.2.2.2.2.2))with|T'=>k 47 (cS c d r3 (hid (gJ d)) F' 1)|F'=>k 47 (cS c d r3 d F' 1))))|F'=>k 47 (cS c d r3 d F' 1)))|F'=>(match !c.1 with|T'=>(og (D' (okP 4000 c.2.2.2.2.1/\okP 4000 c.2.2.2.2.2)) (og (D' (okP 4000 d.2.2.2.2.1/\okP 4000 d.2.2.2.2.2)) (match(aB (dec c.2.2.2.2.1) (dec c.2.2.2.2.2)) !=(aB (dec d.2.2.2.2.1) (dec d.2.2.2.2.2))with|T'=>k 47 (cS c d r3 (hid (gJ d)) F' 1)|F'=>k 47 (cS c d r3 d F' 1))))|F'=>k 47 (cS c d r3 d F' 1)))|F'=>(match !c.1 with|T'=>(og (D' (okP 4000 c.2.2.2.2.1/\okP 4000 c.2.2.2.2.2)) (og (D' (okP 4000 d.2.2.2.2.1/\okP 4000 d.2.2.2.2.2)) (match(aB (dec c.2.2.2.2.1) (dec c.2.2.2.2.2)) !=(aB (dec d.2.2.2.2.1) (dec d.2.2.2.2.2))with|T'=>k 47 (cS c d r3 (hid (gJ d)) F' 1)|F'=>k 47 (cS c d r3 d F' 1))))|F'=>k 47 (cS c d r3 d F' 1))))
theorem uT(c d:BCU)(s9:Int)(r3:List BP):RN th 18 (qy c d s9 r3) (qt c d s9 r3):=rnX
def lF(c d:BCU)(s9:Int)(r3:List BP)(k:KT):OLR:=match D' (s9<(([c.2.2.2.2.1,c.2.2.2.2.2,d.2.2.2.2.1,d.2.2.2.2.2]).length:Int))with|T'=>(match aH ([c.2.2.2.2.1,c.2.2.2.2.2,d.2.2.2.2.1,d.2.2.2.2.2]) s9 with|S' _=>(match T',([c.2.2.2.2.1,c.2.2.2.2.2,d.2.2.2.2.1,d.2.2.2.2.2])[(s9).toNat]? with|T',S' x1=>(og (D' (okC 3500 c/\okP 3500 x1)) (match onR (dC c) (dec x1)with|T'=>(match aH ([c.2.2.2.2.1,c.2.2.2.2.2,d.2.2.2.2.1,d.2.2.2.2.2]) s9 with|S' _=>(match T',([c.2.2.2.2.1,c.2.2.2.2.2,d.2.2.2.2.1,d.2.2.2.2.2])[(s9).toNat]? with|T',S' x2=>(og (D' (okC 3500 d/\okP 3500 x2)) (match onR (dC d) (dec x2)with|T'=>(match aH ([c.2.2.2.2.1,c.2.2.2.2.2,d.2.2.2.2.1,d.2.2.2.2.2]) s9 with|S' _=>(match T',([c.2.2.2.2.1,c.2.2.2.2.2,d.2.2.2.2.1,d.2.2.2.2.2])[(s9).toNat]? with|T',S' x3=>(og (D' ((r3.length+([x3]).length)*320<=140737488355328/\r3.length+([x3]).length<=140737488355328)) (k 18 (ki c d (i64.wrap (s9+1)) (r3++([x3])))))|_,_=>N')|N'=>N')|F'=>k 18 (ki c d (i64.wrap (s9+1)) r3)))|_,_=>N')|N'=>N')|F'=>k 18 (ki c d (i64.wrap (s9+1)) r3)))|_,_=>N')|N'=>N')|F'=>(og (D' (yg c r3)) (match c.1 with|T'=>(match d.1 with|T'=>(match !(c.2.2.2.1==d.2.2.2.1)with|T'=>k 47 (cS c d r3 (hid (gJ d)) F' 1)|F'=>(match !c.1 with|T'=>(og (D' (okP 4000 c.2.2.2.2.1/\okP 4000 c.2.2.2.2.2)) (og (D' (okP 4000 d.2.2.2.2.1/\okP 4000 d.2.2.2.2.2)) (match(aB (dec c.2.2.2.2.1) (dec c.2.2.2.2.2)) !=(aB (dec d.2.2.2.2.1) (dec d.2.2.2.2.2))with|T'=>k 47 (cS c d r3 (hid (gJ d)) F' 1)|F'=>k 47 (cS c d r3 d F' 1))))|F'=>k 47 (cS c d r3 d F' 1)))|F'=>(match !c.1 with|T'=>(og (D' (okP 4000 c.2.2.2.2.1/\okP 4000 c.2.2.2.2.2)) (og (D' (okP 4000 d.2.2.2.2.1/\okP 4000 d.2.2.2.2.2)) (match(aB (dec c.2.2.2.2.1) (dec c.2.2.2.2.2)) !=(aB (dec d.2.2.2.2.1) (dec d.2.2.2.2.2))with|T'=>k 47 (cS c d r3 (hid (gJ d)) F' 1)|F'=>k 47 (cS c d r3 d F' 1))))|F'=>k 47 (cS c d r3 d F' 1)))|F'=>(match !c.1 with|T'=>(og (D' (okP 4000 c.2.2.2.2.1/\okP 4000 c.2.2.2.2.2)) (og (D' (okP 4000 d.2.2.2.2.1/\okP 4000 d.2.2.2.2.2)) (match(aB (dec c.2.2.2.2.1) (dec c.2.2.2.2.2)) !=(aB (dec d.2.2.2.2.1) (dec d.2.2.2.2.2))with|T'=>k 47 (cS c d r3 (hid (gJ d)) F' 1)|F'=>k 47 (cS c d r3 d F' 1))))|F'=>k 47 (cS c d r3 d F' 1))))
theorem pB(c d:BCU)(s9:Int)(r3:List BP):RN th 18 (ki c d s9 r3) (lF c d s9 r3):=rnX
def qm(c d:BCU)(r3:List BP)(B1:BCU)(s10:Bool)(s11:Int)(k:KT):OLR:=match cG (dC c) (dC d)with|T'=>(match D' (s11<((gU (dC c) r3).length:Int))with|T'=>(match s10 with|T'=>k 47 (cS c d r3 B1 T' (i64.wrap (s11+1)))|F'=>(match aH (gU (dC c) r3) (i64.wrap (s11-1))with|S' x1=>(match aH (gU (dC c) r3) s11 with|S' x2=>(og (D' (okC 4000 B1/\okP 4000 x1/\okP 4000 x2)) (k 47 (cS c d r3 B1 (D' ((ck (dC B1) (dec x1) (dec x2))<0)) (i64.wrap (s11+1)))))|N'=>N')|N'=>N'))|F'=>S' [RV.d (.sl tP) (gU (dC c) r3),RV.d .bool s10])|F'=>S' [RV.d (.sl tP) (gU (dC c) r3),RV.d .bool s10]
theorem vJ(c d:BCU)(r3:List BP)(B1:BCU)(s10:Bool)(s11:Int):RN th 47 (cS c d r3 B1 s10 s11) (qm c d r3 B1 s10 s11):=rnX
theorem TQ{c:Cv}{S:List BP}{i:Nat}(h1:1<=i)(hi:i<S.length):DZ c (S.drop (i-1))=(D' (ck c (dec S[i-1]) (dec S[i])<0)||DZ c (S.drop i)):=by
 have hd:S.drop (i-1)=S[i-1]::S.drop i:=by
  have:=ao5 (l:=S) (i:=i-1) (by omega);rw[this,show i-1+1=i by omega]
 have hd2:S.drop i=S[i]::S.drop (i+1):=ao5 hi;rw[hd,hd2];rfl
theorem VN{c:Cv}{S:List BP}(h:S.length<=1):DZ c S=false:=by
 match S,h with
 |[],_=>rfl
 |[_],_=>rfl
theorem ahb(c d:BCU)(r3 S:List BP)(hS:gU (dC c) r3=S)(hl:S.length<=1000000)(ho:∀x∈S,okP 4000 x)(B:BCU)(hB:okC 4000 B):∀(j i:Nat),1<=i->i+j=max S.length 1->∀s:Bool,
  th.Runs 47 (cS c d r3 B s (i:Int)) [.d (.sl tP) S,.d .bool (bif cG (dC c) (dC d)then s||DZ (dC B) (S.drop (i-1))else s)]:=by
 intro j;induction j with
 |zero=>
  intro i h1 hi s;refine vJ _ _ _ _ _ _ ⟨0,?_⟩;unfold qm;rw[hS,bg (by omega),VN (by rw[ark];omega),Bool.or_false];cases cG (dC c) (dC d)<;>rfl
 |succ j ih=>
  intro i h1 hi s;have hil:i<S.length:=by omega
  have e1:i64.wrap ((i:Int)-1)=((i-1:Nat):Int):=by rw[aM (by omega) (by omega)];omega
  have e2:i64.wrap ((i:Int)+1)=((i+1:Nat):Int):=aS (by omega);have g1:aH S ((i-1:Nat):Int)=S' S[i-1]:=by rw[ak,aoO (by omega)]
  have g2:aH S (i:Int)=S' S[i]:=by rw[ak,aoO hil]
  cases hs:cG (dC c) (dC d)
  ·refine vJ _ _ _ _ _ _ ⟨0,?_⟩;unfold qm;rw[hS,hs];rfl
  ·obtain⟨n,hn⟩:=ih (i+1) (by omega) (by omega) (s||decide (ck (dC B) (dec S[i-1]) (dec S[i])<0));refine vJ _ _ _ _ _ _ ⟨n,?_⟩;unfold qm;rw[hS,hs,aO hil,e1,e2,g1,g2];dsimp only;rw[dT (show okC 4000 B/\okP 4000 S[i-1]/\okP 4000 S[i] from⟨hB,ho _ (aoY _),ho _ (aoY _)⟩)];rw[hs,Nat.add_sub_cancel,Bool.or_assoc,<-TQ h1 hil]at hn;cases s
   ·exact hn
   ·simp only[Bool.true_or,cond_true]at hn ⊢;exact hn
theorem KD{c:Cv}{l:List BP}{p:BP->Prop}(h:∀x∈l,p x):∀x∈gU c l,p x:=λx hx=>by
 rcases Eo hx with h'|h'
 ·cases h'
 ·exact h x h'
theorem Km(c d:BCU)(h:jy c d)(r3:List BP)(hl:r3.length<=100)(ho:∀x∈r3,okP 580 x):∃n,(match D' (yg c r3)with
  |true=>th.k n 47 (cS c d r3 (Ar c d) false 1)
  |false=>none)=some [.d (.sl tP) (gU (dC c) r3),.d .bool (cG (dC c) (dC d)&&DZ (dC (Ar c d)) (gU (dC c) r3))]:=by
 have hs:yg c r3:=⟨aY h.1.1 (by decide) (by decide),by omega,λx hx=>aU (ho x hx) (by decide) (by decide)⟩
 have hR:okC 4000 (Ar c d):=by
  unfold Ar;have:=aY (k:=4000) h.2.1 (by decide) (by decide);cases Wc c d
  ·exact this
  ·exact Es 4000 this
 have hlen:=wF (dC c) r3 [];obtain⟨n,hn⟩:=ahb c d r3 _ rfl (by simp at hlen;unfold gU;omega) (KD (λx hx=>aU (ho x hx) (by decide) (by decide))) (Ar c d) hR (max (gU (dC c) r3).length 1-1) 1 (aoU _) (by omega) F';refine⟨n,?_⟩;rw[dT hs];refine hn.trans ?_;cases cG (dC c) (dC d)<;>rfl
theorem D7{l c:Ln}[BdL l][BdC c](hl:l.1≠0\/l.2.1≠0):(sA l c).length<=2/\∀p∈sA l c,Bd p 490/\Rpd p:=by
 unfold sA;by_cases h0:jA l c<0
 ·rw[aoP h0];exact⟨by simp,λp hp=>by cases hp⟩
 ·rw[aoR h0];by_cases h1:jA l c=0
  ·rw[aoP h1];obtain⟨f1,f2,_,_⟩:=vF (l:=l) (c:=c);refine⟨by simp,λp hp=>?_⟩;have:p=atP (ftX l c,ftY l c):=by simpa using hp
   rw[this];exact⟨(inferInstance:Bd (atP (ftX l c,ftY l c)) _).mono (by decide),inferInstance⟩
  ·rw[aoR h1];obtain⟨p1,p2⟩:=OG (c:=c) hl (show 0<=jA l c by grind);obtain⟨q1,q2⟩:=Uc (l:=l) (c:=c);cases D' (aB (tk l c) (uo l c)>0)
   ·refine⟨by simp,λp hp=>?_⟩;have:p=tk l c\/p=uo l c:=by simpa using hp
    rcases this with e|e<;>rw[e]
    ·exact⟨q1,p1⟩
    ·exact⟨q2,p2⟩
   ·refine⟨by simp,λp hp=>?_⟩;have:p=uo l c\/p=tk l c:=by simpa using hp
    rcases this with e|e<;>rw[e]
    ·exact⟨q2,p2⟩
    ·exact⟨q1,p1⟩
theorem Ct{l m:Ln}[BdL l][BdL m]:(qJ l m).length<=2/\∀p∈qJ l m,Bd p 490/\Rpd p:=by
 unfold qJ;cases D' (eK l m=0)
 ·have bc:Bd (eK l m) 49:=inferInstanceAs (Bd (l.1*m.2.1-m.1*l.2.1) _);have bx:Bd (pJ l m) 151:=inferInstanceAs (Bd (l.2.2*m.2.1-m.2.2*l.2.1) _);have b_:Bd (oY l m) 151:=inferInstanceAs (Bd (l.1*m.2.2-m.1*l.2.2) _);refine⟨by simp,λp hp=>?_⟩;have:p=atP (pJ l m/eK l m,oY l m/eK l m):=by simpa using hp
  rw[this];exact⟨(inferInstance:Bd (atP (pJ l m/eK l m,oY l m/eK l m)) _).mono (by decide),inferInstance⟩
 ·exact⟨by simp,λp hp=>by cases hp⟩
theorem Yb{c d:BCU}(h:fh c d):(wB (dC c) (dC d)).length<=2/\∀p∈wB (dC c) (dC d),Bd p 490/\Rpd p:=by
 obtain⟨⟨a1,a2⟩,b1,b2⟩:=h;obtain⟨aa,al,ac,aw,af,at_⟩:=c;obtain⟨ba,bl,bc,bw,bf,bt⟩:=d
 have ex1:∀x:BO3,cJ x->BdL (dec x)/\((dec x:Ln).1≠0\/(dec x:Ln).2.1≠0):=λx h=>by
  obtain⟨l,rfl,bl,nl⟩:=dL h;rw[ao];exact⟨bl,nl⟩
 have ex2:∀x:BO3,bK x->BdC (dec x):=λx h=>by
  obtain⟨l,rfl,bl,nl⟩:=b8 h;rw[ao];exact bl
 unfold wB;cases aa<;>cases ba
 ·obtain⟨i1,_⟩:=ex1 _ (a2 rfl);obtain⟨i2,_⟩:=ex1 _ (b2 rfl);exact Ct (l:=dec al) (m:=dec bl)
 ·obtain⟨i1,n1⟩:=ex1 _ (a2 rfl);have i2:=ex2 _ (b1 rfl);exact D7 (l:=dec al) (c:=dec bc) n1
 ·have i1:=ex2 _ (a1 rfl);obtain⟨i2,n2⟩:=ex1 _ (b2 rfl);exact D7 (l:=dec bl) (c:=dec ac) n2
 ·have i1:=ex2 _ (a1 rfl);have i2:=ex2 _ (b1 rfl);show(EA (dec ac) (dec bc)).length<=2/\∀p∈EA (dec ac) (dec bc),Bd p 490/\Rpd p;unfold EA;cases hc:jF (dec ac) (dec bc)
  ·have i3:BdL (pP (dec ac) (dec bc)):=B3;exact D7 (HL hc)
  ·exact⟨by simp,λp hp=>by cases hp⟩
theorem KK{c d:BCU}(h:jy c d):(EU c d).length<=4/\∀x∈EU c d,okP 580 x:=by
 obtain⟨⟨h1,h2⟩,h3,h4⟩:=h;unfold EU;cases cG (dC c) (dC d)
 ·obtain⟨g1,g2⟩:=Yb (show fh c d from⟨h2,h4⟩);refine⟨by simp only[Bool.not_false,cond_true,apW];omega,λx hx=>?_⟩;obtain⟨p,hp,rfl⟩:=aq1.1 hx;obtain⟨b,r⟩:=g2 p hp;exact aoQ (aL (j:=490) (by decide) (by decide))
 ·refine⟨by simp,λx hx=>?_⟩;have:x=c.2.2.2.2.1\/x=c.2.2.2.2.2\/x=d.2.2.2.2.1\/x=d.2.2.2.2.2:=by simpa using hx
  rcases this with e|e|e|e<;>rw[e]
  ·exact h1.2.2.1
  ·exact h1.2.2.2
  ·exact h3.2.2.1
  ·exact h3.2.2.2
end Go.Proofs.YtoimchcjhdcdmaaGreat
end
