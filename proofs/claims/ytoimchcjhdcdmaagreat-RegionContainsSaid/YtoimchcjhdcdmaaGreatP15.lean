/- Points of a curve: the program's and the reference's On agree. -/
import Derived.Test.YtoimchcjhdcdmaaGreatP14
import Derived.Test.YtoimchcjhdcdmaaGreatP12
import Derived.Test.YtoimchcjhdcdmaaGreatP13
noncomputable section
namespace Go.Proofs.YtoimchcjhdcdmaaGreat
open Go.RowKit Go.IntKind
open Bool renaming true->T',false->F'
open Option renaming some->S',none->N'
open Decidable renaming decide->D'
theorem an4:type_of% @List.mem_cons_of_mem:=@List.mem_cons_of_mem
theorem app:type_of% @Rat.div_mul_cancel:=@Rat.div_mul_cancel
theorem apt:type_of% @List.not_mem_nil:=@List.not_mem_nil
theorem aqK:type_of% @or_false:=@or_false
theorem aqP:type_of% @Rat.zero_mul:=@Rat.zero_mul
section
namespace RE
theorem KY{u v:RE}:cls u v=2↔v=0/\¬0<u:=by
 unfold cls;rcases cd v with⟨a,h1⟩|⟨a,h1⟩|⟨a,h1⟩<;>rcases cd u with⟨b,h2⟩|⟨b,h2⟩|⟨b,h2⟩<;>rw[h1,h2]
 all_goals first
  |exact⟨λ_=>⟨a,λh=>by rw[b]at h;exact lt_irrefl _ h⟩,λ_=>rfl⟩
  |exact⟨λ_=>⟨a,λh=>lt_irrefl _ (eh h b)⟩,λ_=>rfl⟩
  |(refine⟨λh=>absurd h (by decide),λh=>?_⟩;first|(rw[h.1]at a;exact absurd a (lt_irrefl _))|exact absurd b h.2)
theorem BE{u v Q:RE}(hQ:0<Q)(h:u*u+v*v=Q)(hv:v=0)(hu:¬0<u):u<0:=by
 rcases lR u 0 with e|e|e
 ·exact e
 ·rw[e,hv,mul_zero,add_zero]at h;rw[<-h]at hQ;exact absurd hQ (lt_irrefl _)
 ·exact absurd e hu
theorem MW(u w Q:RE):((u-(0))*(u-(w)))+((w-(0))*(u-(w)))+((Q-(u*u)))+((w*w-(Q)))=0:=by grind
theorem KF(u w Q:RE)(h1:u*u=Q)(h2:w*w=Q)(h3:0<u)(h4:0<w):u<=w:=λhg=>far (aW (aW (aW (mul_pos (bE h3) (bE hg)) (le_of_lt (mul_pos (bE h4) (bE hg)))) (aK (tZ h1))) (aK (uo h2))) (MW u w Q)
theorem Mt(u w Q:RE):((0-(u))*(u-(w)))+((0-(w))*(u-(w)))+((u*u-(Q)))+((Q-(w*w)))=0:=by grind
theorem Kp(u w Q:RE)(h1:u*u=Q)(h2:w*w=Q)(h3:u<0)(h4:w<0):u<=w:=λhg=>far (aW (aW (aW (mul_pos (bE h3) (bE hg)) (le_of_lt (mul_pos (bE h4) (bE hg)))) (aK (uo h1))) (aK (tZ h2))) (Mt u w Q)
theorem GY(x y c:RE)(h1:x-c<y-c):x<y:=by grind
theorem MA(x y c:RE)(h1:x-c=y-c):x<=y:=by grind
theorem Mo(x y c:RE)(h1:x-c=y-c):y<=x:=by grind
theorem tu(x y c:RE)(h1:x-c=y-c):x=y:=le_antisymm (MA x y c h1) (Mo x y c h1)
theorem GE(x c:RE): -x- -c= -(x-c):=by grind
theorem WG(x y:RE): -x- -y=y-x:=by grind
theorem adY(a b r:RE): -a+ -b*r= -(a+b*r):=by grind
theorem Uh(x q:RE)(h1:x+ -q=0):x<=q:=by grind
theorem Sc(x q:RE)(h1:x+ -q=0):q<=x:=by grind
theorem JL(x q:RE)(h1:x+ -q=0):x=q:=le_antisymm (Uh x q h1) (Sc x q h1)
section
variable {x y x' y' cx cy Q:RE}
theorem lS(hQ:0<Q)(h:(x-cx)*(x-cx)+(y-cy)*(y-cy)=Q)(h':(x'-cx)*(x'-cx)+(y'-cy)*(y'-cy)=Q){L:List RE}(hx:x∈L)(hx':x'∈L):
  Ap (cls (x-cx) (y-cy)) (rk (λa b:RE=>a<b) L x) (cls (x'-cx) (y'-cy)) (rk (λa b:RE=>a<b) L x')=true:=by
 unfold Ap;rw[anS];have vv:∀{u v:RE},u*u+v*v=Q->v=0->u*u=Q:=λh e=>by rw[e,mul_zero,add_zero]at h;exact h
 refine⟨?_,?_⟩
 ·by_cases e:cls (x-cx) (y-cy)=0
  ·obtain⟨e1,e2⟩:=Jl.1 e;rw[e];by_cases e':cls (x'-cx) (y'-cy)=0
   ·obtain⟨f1,f2⟩:=Jl.1 e';rw[e'];have:=tu _ _ cx (le_antisymm (KF _ _ _ (vv h e1) (vv h' f1) e2 f2) (KF _ _ _ (vv h' f1) (vv h e1) f2 e2));rw[this];simp
   ·have hle:=aei _ _ _ _ _ h h' e1 e2 (Hy (y'-cy))
    have hlt:x'-cx<x-cx:=by
     rcases lR (x'-cx) (x-cx)with g|g|g
     ·exact g
     ·exfalso;have z:=PG (x-cx) (x'-cx) (y'-cy) Q (vv h e1) h' (by rw[g]);exact e' (Jl.2 ⟨Jf z,by rw[g];exact e2⟩)
     ·exact absurd g ((sw _ _).1 hle)
    have:=yz lt_lin (GY _ _ _ hlt) hx';rw[show(cls (x'-cx) (y'-cy)==0)=F' by simp[e']];simp[this]
  ·simp[e]
 ·by_cases e:cls (x-cx) (y-cy)=2
  ·obtain⟨e1,e2⟩:=KY.1 e;have e3:=BE hQ h e1 e2;rw[e];by_cases e':cls (x'-cx) (y'-cy)=2
   ·obtain⟨f1,f2⟩:=KY.1 e';have f3:=BE hQ h' f1 f2;rw[e'];have:=tu _ _ cx (le_antisymm (Kp _ _ _ (vv h e1) (vv h' f1) e3 f3) (Kp _ _ _ (vv h' f1) (vv h e1) f3 e3));rw[this];simp
   ·have hle:=acn _ _ _ _ _ h h' e1 e3 (Hy (y'-cy))
    have hlt:x-cx<x'-cx:=by
     rcases lR (x-cx) (x'-cx)with g|g|g
     ·exact g
     ·exfalso;have z:=PG (x-cx) (x'-cx) (y'-cy) Q (vv h e1) h' (by rw[g]);exact e' (KY.2 ⟨Jf z,by rw[<-g];exact e2⟩)
     ·exact absurd g ((sw _ _).1 hle)
    have:=yz lt_lin (GY _ _ _ hlt) hx;rw[show(cls (x'-cx) (y'-cy)==2)=F' by simp[e']];simp[this]
  ·simp[e]
end
def onCi(c:Ln)(p:Pt):Prop:=(pX p-of c.1)*(pX p-of c.1)+(pY p-of c.2.1)*(pY p-of c.2.1)=of c.2.2
theorem ins_on{c:Ln}{p:Pt}[Rpd p](h:fY c p=0):onCi c p:=by
 rw[CI]at h;exact JL _ _ (CP.1 (Int.neg_eq_zero.1 h))
theorem nz{c:Ln}{p:Pt}[Rpd p]:upR c p=upA (cls (pX p-of c.1) (pY p-of c.2.1)):=by
 unfold upR;rw[cmpTR_re zs,cmpTR_re lX,qU,H3,adO]
theorem FG(p:Pt):pX (flP p)= -pX p:=by
 unfold pX flP v2;rw[of_neg,of_neg];exact adY _ _ _
theorem ahY(p:Pt):pY (flP p)=pY p:=rfl
theorem wi{c:Ln}{p:Pt}[h:Rpd p](hQ:0<c.2.2)(hp:onCi c p):upR (flC c) (flP p)=ufA (cls (pX p-of c.1) (pY p-of c.2.1)):=by
 unfold upR;rw[cmpTR_re zs,cmpTR_re lX,qU,H3,FG,ahY];show(D' (sg (pY p-of c.2.1)>0)||(sg (pY p-of c.2.1)==0&&D' (sg (-pX p-of (-c.1))>0)))=_;rw[of_neg,GE,IJ];exact ab1 (ll hQ) hp
theorem ls{L:List RE}{p q:Pt}[Rpd p][Rpd q](hp:pX p∈L)(hq:pX q∈L):aU (xP p) (xP q)=cI (rk (λa b:RE=>a<b) L (pX p)) (rk (λa b:RE=>a<b) L (pX q)):=by
 rw[cmpT_re lX lX,qU,qU];exact xZ lt_lin sg_cmpO hp hq
theorem oz{L:List RE}{p q:Pt}[Rpd p][Rpd q](hp:pX p∈L)(hq:pX q∈L):aU (xP (flP p)) (xP (flP q))=dI (rk (λa b:RE=>a<b) L (pX p)) (rk (λa b:RE=>a<b) L (pX q)):=by
 rw[cmpT_re lX lX,qU,qU,FG,FG,WG];exact xZ lt_lin sg_cmpO hq hp
theorem arc_eq{ci:Ln}{F P T:Pt}[Rpd F][Rpd P][Rpd T](hQ:0<ci.2.2)(hF:onCi ci F)(hP:onCi ci P)(hT:onCi ci T):
  D' (mr aU (ptd ci F) (ptd ci P) (ptd ci T)<=0)=(D' (lJ aU (ptd ci F) (ptd ci F) (ptd ci P)<=0)&&D' (lJ aU (ptd ci F) (ptd ci P) (ptd ci T)<=0))/\
  D' (mr aU (ptd ci T) (ptd ci P) (ptd ci F)<=0)=(D' (lJ aU (ptd (flC ci) (flP F)) (ptd (flC ci) (flP F)) (ptd (flC ci) (flP P))<=0)&&D' (lJ aU (ptd (flC ci) (flP F)) (ptd (flC ci) (flP P)) (ptd (flC ci) (flP T))<=0)):=by
 have mF:pX F∈[pX F,pX P,pX T]:=by simp
 have mP:pX P∈[pX F,pX P,pX T]:=by simp
 have mT:pX T∈[pX F,pX P,pX T]:=by simp
 have hq:0<of ci.2.2:=ll hQ;have bF:=pe lt_lin mF;have bP:=pe lt_lin mP;have bT:=pe lt_lin mT;have cF:=DF (pX F-of ci.1) (pY F-of ci.2.1);have cP:=DF (pX P-of ci.1) (pY P-of ci.2.1);have cT:=DF (pX T-of ci.1) (pY T-of ci.2.1)
 have hcon:Et (cls (pX F-of ci.1) (pY F-of ci.2.1)) (rk (λa b:RE=>a<b) [pX F,pX P,pX T] (pX F)) (cls (pX P-of ci.1) (pY P-of ci.2.1)) (rk (λa b:RE=>a<b) [pX F,pX P,pX T] (pX P)) (cls (pX T-of ci.1) (pY T-of ci.2.1)) (rk (λa b:RE=>a<b) [pX F,pX P,pX T] (pX T))=true:=by
  unfold Et;rw[lS hq hF hP mF mP,lS hq hP hF mP mF,lS hq hF hT mF mT,lS hq hT hF mT mF,lS hq hP hT mP mT,lS hq hT hP mT mP];rfl
 have a1:=Wi ⟨_,cF⟩ ⟨_,cP⟩ ⟨_,cT⟩ ⟨_,bF⟩ ⟨_,bP⟩ ⟨_,bT⟩ hcon;have a2:=agd ⟨_,cF⟩ ⟨_,cP⟩ ⟨_,cT⟩ ⟨_,bF⟩ ⟨_,bP⟩ ⟨_,bT⟩ hcon;simp only at a1 a2;refine⟨?_,?_⟩
 ·unfold ptd;rw[nz,nz,nz,zi (ls mP mF) (ls mT mF) (ls mP mT),fD (ls mF mF) (ls mP mF) (ls mF mP),fD (ls mP mF) (ls mT mF) (ls mP mT)];exact a1
 ·unfold ptd;rw[nz,nz,nz,wi hQ hF,wi hQ hP,wi hQ hT,zi (ls mP mT) (ls mF mT) (ls mP mF),fD (oz mF mF) (oz mP mF) (oz mF mP),fD (oz mP mF) (oz mT mF) (oz mP mT)];exact a2
theorem seg_eq{F P T:Pt}[Rpd F][Rpd P][Rpd T]:RD (aB F P) (aB P T)=ag4 (aB F T) (aB F P) (aB P T):=by
 have mF:pR F∈[pR F,pR P,pR T]:=by simp
 have mP:pR P∈[pR F,pR P,pR T]:=by simp
 have mT:pR T∈[pR F,pR P,pR T]:=by simp
 rw[iw,iw,iw,xZ gz fq mF mP,xZ gz fq mP mT,xZ gz fq mF mT];exact V9 ⟨_,pe gz mF⟩ ⟨_,pe gz mP⟩ ⟨_,pe gz mT⟩
end RE
structure Crv (c:Cv):Prop where
 f:Rpd (frC c)
 t:Rpd (toC c)
 q:c.1=T'->0<(ciC c).2.2/\RE.onCi (ciC c) (frC c)/\RE.onCi (ciC c) (toC c)
theorem ZS{c:Cv}(h:Crv c){p:Pt}(hp:Rpd p):onP c p=onR c p:=by
 have hf:=h.f;have ht:=h.t;unfold onP onR;cases hs:df c p
 ·rfl
 ·simp only[apo];unfold kQ co;obtain⟨ar,li,ci,cw,fr,to⟩:=c;have hf:Rpd fr:=hf;have ht:Rpd to:=ht;cases ar
  ·exact RE.seg_eq (F:=fr) (P:=p) (T:=to)
  ·obtain⟨q1,q2,q3⟩:=h.q rfl
   have hi:fY ci p=0:=by
    have:(fY ci p==0)=true:=hs;exact aos.1 this
   obtain⟨e1,e2⟩:=RE.arc_eq (ci:=ci) (F:=fr) (P:=p) (T:=to) q1 q2 (RE.ins_on hi) q3;cases cw
   ·exact e1
   ·exact e2
end
theorem afU(d:Rat×Rat):0<=ag0 d d:=by
 unfold ag0
 have h:∀a:Rat,0<=a*a:=λa=>by
  rcases(by grind:0<=a\/0<= -a)with h|h
  ·exact aoE h h
  ·have:=aoE h h;grind
 have:=h d.1;have:=h d.2;grind
theorem tM(a b d e s:Rat):yE (mkR a d s) (mkR b e s):=by
 unfold yE mkR;cases eH s
 ·simp only[cond_false];by_cases hd:d=0
  ·rw[anO hd];exact .inl rfl
  ·by_cases he:e=0
   ·rw[anO he];exact .inr (.inl rfl)
   ·rw[anQ hd,anQ he];exact .inr (.inr rfl)
 ·exact .inl rfl
namespace RE
def afV(l:Ln)(p:Pt):Prop:=of l.1*pX p+of l.2.1*pY p=of l.2.2
theorem Iy{l:Ln}{p:Pt}[Rpd p](h:oD l p=0):afV l p:=by
 rw[Ed]at h;exact JL _ _ (CP.1 h)
end RE
def gdC(c:BCU):Prop:=okC 580 c/\df (dC c) (frC (dC c))=T'/\df (dC c) (toC (dC c))=T'
theorem db{k:Nat}{x:BP}(h:okP k x):Rpd (dec x):=by
 obtain⟨p,rfl,bp,rp⟩:=bQ h;rw[aq];exact rp
theorem M4{c:BCU}(h:gdC c):Crv (dC c):=by
 obtain⟨h1,h2,h3⟩:=h;obtain⟨ar,li,ci,cw,fr,to⟩:=c;have hf:Rpd (frC (dC (ar,li,ci,cw,fr,to))):=db h1.2.2.1;have ht:Rpd (toC (dC (ar,li,ci,cw,fr,to))):=db h1.2.2.2;refine⟨hf,ht,λe=>?_⟩;have e:ar=true:=e;subst e;exact⟨(h1.1 rfl).2,RE.ins_on (aos.1 h2),RE.ins_on (aos.1 h3)⟩
section
namespace RE
abbrev PE:=RE×RE
theorem sub_zero(x:RE):x-0=x:=by grind
theorem zero_sub(x:RE):0-x= -x:=by grind
section
variable {u w:PE} {Q:RE} {L:List RE}
end
def frm(c:Ln)(p:PE):PE:=(p.1-of c.1,p.2-of c.2.1)
def Am(c:Ln)(p:PE):Prop:=(frm c p).1*(frm c p).1+(frm c p).2*(frm c p).2=of c.2.2
def nF(l:Ln)(p:PE):Prop:=of l.1*p.1+of l.2.1*p.2=of l.2.2
def tE(l:Ln)(p:PE):RE:= -of l.2.1*p.1+of l.1*p.2
def btE(a b x:RE):Prop:=(a<=x/\x<=b)\/(b<=x/\x<=a)
def wy(l:Ln)(F T p:PE):Prop:=nF l p/\btE (tE l F) (tE l T) (tE l p)
structure GdE (c:Cv):Prop where
 f:Rpd (frC c)
 t:Rpd (toC c)
 ne:pR (frC c)≠pR (toC c)
 q:c.1=T'->0<(ciC c).2.2/\onCi (ciC c) (frC c)/\onCi (ciC c) (toC c)
 l:c.1=F'->((lnC c).1≠0\/(lnC c).2.1≠0)/\afV (lnC c) (frC c)/\afV (lnC c) (toC c)
theorem Ce{c:Ln}{p:Pt}[Rpd p]:(fY c p==0)=T'↔Am c (pR p):=by
 rw[aos];refine⟨λh=>ins_on h,λh=>?_⟩;rw[CI];have:(pX p-of c.1)*(pX p-of c.1)+(pY p-of c.2.1)*(pY p-of c.2.1)=of c.2.2:=h;rw[this,lL,fw];rfl
theorem B7{l:Ln}{p:Pt}[Rpd p]:(oD l p==0)=T'↔nF l (pR p):=by
 rw[aos];refine⟨λh=>Iy h,λh=>?_⟩;rw[Ed];have:of l.1*pX p+of l.2.1*pY p=of l.2.2:=h;rw[this,lL,fw]
end RE
end
theorem aV{j k:Nat}{x:BP}(h:okP j x)(hj:j<=k)(hk:k<=480000):okP k x:=by
 obtain⟨p,rfl,bp,rp⟩:=bQ h;exact anP (aN hj hk)
theorem bi{j k:Nat}{c:BCU}(h:okC j c)(hj:j<=k)(hk:k<=480000):okC k c:=⟨h.1,h.2.1,aV h.2.2.1 hj hk,aV h.2.2.2 hj hk⟩
abbrev r00:BR:=((F',[]),(F',[]))
abbrev o00:BO3:=(r00,r00,r00)
abbrev p00:BP:=(r00,r00,r00,r00,r00)
abbrev c00:BCU:=(F',o00,o00,F',p00,p00)
def ur(a b:Rat×Rat):Ln:=(a.2-b.2,b.1-a.1,(a.2-b.2)*a.1+(b.1-a.1)*a.2)
def wr(a b:Rat×Rat):Bool:=D' (a.2-b.2=0)&&D' (b.1-a.1=0)
def GW(a b:Rat×Rat):BO3:=bif wr a b then o00 else enc (ur a b)
def EM(a b:Rat×Rat):Int:=bif wr a b then 6 else 0
def yx(a b:Rat×Rat):BCU:=bif wr a b then c00 else(F',enc (ur a b),o00,F',enc (atP a),enc (atP b))
def wy(a b:Rat×Rat):Int:=bif wr a b then 6 else 0
instance amV {a b:Rat×Rat} {i j:Nat} [h:Bd a i] [h':Bd b j]:Bd (ur a b) (4*i+2*j+3):=by
 have i1:Bd ((a.2-b.2,b.1-a.1,(a.2-b.2)*a.1+(b.1-a.1)*a.2):Ln) _:=inferInstance;exact i1.mono (jJ (by omega) (jJ (by omega) (by omega)))
def X1:List En:=[enT mf,enT vH,enL xy,enL rV,enL rO,enL OH,enL Nh,enL H8]
def Nb(a b:BV)(_k:KT):OLR:=og (o2 a.2 b.2) (og (o2 b.1 a.1) (og (o1 (hSu a.2 b.2)) (match(aD (ag (hSu a.2 b.2)) 0)==0 with|T'=>(og (o1 (hSu b.1 a.1)) (match(aD (ag (hSu b.1 a.1)) 0)==0 with|T'=>S' [RV.d tO (((F',[]),(F',[])),(((F',[]),(F',[])),((F',[]),(F',[])))),RV.d arf 6]|F'=>(og (o2 (hSu a.2 b.2) a.1) (og (o2 (hSu b.1 a.1) a.2) (og (o2 (hMu (hSu a.2 b.2) a.1) (hMu (hSu b.1 a.1) a.2)) (S' [RV.d tO (hSu a.2 b.2,(hSu b.1 a.1,hAd (hMu (hSu a.2 b.2) a.1) (hMu (hSu b.1 a.1) a.2))),RV.d arf 0]))))))|F'=>(og (o2 (hSu a.2 b.2) a.1) (og (o2 (hSu b.1 a.1) a.2) (og (o2 (hMu (hSu a.2 b.2) a.1) (hMu (hSu b.1 a.1) a.2)) (S' [RV.d tO (hSu a.2 b.2,(hSu b.1 a.1,hAd (hMu (hSu a.2 b.2) a.1) (hMu (hSu b.1 a.1) a.2))),RV.d arf 0])))))))
def aeI:Cn 229 [tV,tV]:=cn λ(a b:BV)=>lf (ok (Rat×Rat) 100 a/\ok (Rat×Rat) 100 b) [.d tO (GW (dec a) (dec b)),.d arf (EM (dec a) (dec b))] λh=>by
 refine aA X1 (Nb a b) ⟨0,?_⟩;obtain⟨ha,hb⟩:=h;obtain⟨a,rfl,ba⟩:=aL ha;obtain⟨b,rfl,bb⟩:=aL hb;unfold Nb GW EM wr;simp only[aX,Nat.reduceAdd,Nat.reduceLeDiff,am];cases D' (a.2-b.2=0)<;>cases D' (b.1-a.1=0)<;>rfl
def aik:List En:=enL aeI::X1
def Nj(a b:BV)(_k:KT):OLR:=og (D' (ok (Rat×Rat) 100 a/\ok (Rat×Rat) 100 b)) (match(EM (dec a) (dec b)) !=0 with|T'=>S' [RV.d tCU (F',((((F',[]),(F',[])),(((F',[]),(F',[])),((F',[]),(F',[])))),((((F',[]),(F',[])),(((F',[]),(F',[])),((F',[]),(F',[])))),(F',((((F',[]),(F',[])),(((F',[]),(F',[])),(((F',[]),(F',[])),(((F',[]),(F',[])),((F',[]),(F',[])))))),(((F',[]),(F',[])),(((F',[]),(F',[])),(((F',[]),(F',[])),(((F',[]),(F',[])),((F',[]),(F',[]))))))))))),RV.d arf 6]|F'=>(og (D' (ok (Rat×Rat) 100000 a)) (og (D' (ok (Rat×Rat) 100000 b)) (S' [RV.d tCU (F',(hid (GW (dec a) (dec b)),((((F',[]),(F',[])),(((F',[]),(F',[])),((F',[]),(F',[])))),(F',(hid (enc (atP (dec a))),hid (enc (atP (dec b)))))))),RV.d arf 0]))))
def uz:Cn 150 [tV,tV]:=cn λ(a b:BV)=>lf (ok (Rat×Rat) 100 a/\ok (Rat×Rat) 100 b) [.d tCU (yx (dec a) (dec b)),.d arf (wy (dec a) (dec b))] λh=>by
 refine aA aik (Nj a b) ⟨0,?_⟩;obtain⟨ha,hb⟩:=h;obtain⟨a,rfl,ba⟩:=aL ha;obtain⟨b,rfl,bb⟩:=aL hb;unfold Nj yx wy EM GW;simp only[aX,Nat.reduceLeDiff];cases wr a b<;>rfl
def gf(c:Cv):List BP->BP->List BP
 |[],x=>[x]
 |y::r,x=>bif decide (co c (dec y) (dec x)<0)then y::gf c r x else bif aB (dec y) (dec x)==0 then y::r else x::y::r
def iD(c:Cv)(l:List BP):List BP:=l.foldl (gf c) []
def yW(c:BCU)(l:List BP):Prop:=okC 4000 c/\l.length<=1000000/\∀x∈l,okP 4000 x
instance (c:BCU) (l:List BP):Decidable (yW c l):=by unfold yW;infer_instance
theorem pJ{c:Cv}{x y:BP}:∀{r:List BP},y∈gf c r x->y∈r\/y=x
 |[],h=>by simp only[gf,aox]at h;exact .inr h
 |z::r,h=>by
  simp only[gf]at h;cases h1:D' (co c (dec z) (dec x)<0)<;>rw[h1]at h
  ·cases h2:aB (dec z) (dec x)==0<;>rw[h2]at h
   ·rcases an6.1 h with h|h
    ·exact .inr h
    ·exact .inl h
   ·exact .inl h
  ·rcases an6.1 h with h|h
   ·exact .inl (by simp[h])
   ·rcases pJ h with h|h
    ·exact .inl (an4 _ h)
    ·exact .inr h
theorem Aa(c:Cv)(x:BP):∀r:List BP,(gf c r x).length<=r.length+1
 |[]=>by simp[gf]
 |z::r=>by
  have:=Aa c x r;simp only[gf];cases D' (co c (dec z) (dec x)<0)
  ·cases aB (dec z) (dec x)==0<;>simp
  ·simp only[cond_true,an8];omega
theorem DW{c:Cv}:∀{l out:List BP} {y:BP},y∈l.foldl (gf c) out->y∈out\/y∈l
 |[],_,_,h=>.inl h
 |x::l,out,y,h=>by
  rcases DW (l:=l) (out:=gf c out x) h with h|h
  ·rcases pJ h with h|h
   ·exact .inl h
   ·exact .inr (by simp[h])
  ·exact .inr (an4 _ h)
theorem wT(c:Cv):∀(l out:List BP),(l.foldl (gf c) out).length<=out.length+l.length
 |[],_=>anT _
 |x::l,out=>by
  have h1:=wT c l (gf c out x);have h2:=Aa c x out;simp only[ap6,an8];omega
theorem Mp{α:Type}{l:List α}{k:Nat}(h:k<l.length):l.take (k+1)=l.take k++[l[k]]:=by rw[List.take_succ_eq_append_getElem h]
def Z1:List En:=[enT Je,enT ES,enT o8]
def aeY:NT:=[((215,8),{keep:=[1,2,5,6],pure_:=[(5,tP)],hl:=1}),((215,21),{keep:=[1,2,5,6,7],pure_:=[(5,tP)],hl:=1})]
def wc:Ctx:=CX (ens Z1) aeY
def kZ(c:BCU)(l:List BP)(s6:Int)(s5:List BP):Cfg:=⟨215,[.blk 0,.seq 38],[(1,.d (.sl tP) l),(2,.box 0 0),(5,.d (.sl tP) s5),(6,SI s6)],[.box 48 [SB c.1,SB c.2.1.1.1.1,.d ard c.2.1.1.1.2,SB c.2.1.1.2.1,.d ard c.2.1.1.2.2,SB c.2.1.2.1.1.1,.d ard c.2.1.2.1.1.2,SB c.2.1.2.1.2.1,.d ard c.2.1.2.1.2.2,SB c.2.1.2.2.1.1,.d ard c.2.1.2.2.1.2,SB c.2.1.2.2.2.1,.d ard c.2.1.2.2.2.2,SB c.2.2.1.1.1.1,.d ard c.2.2.1.1.1.2,SB c.2.2.1.1.2.1,.d ard c.2.2.1.1.2.2,SB c.2.2.1.2.1.1.1,.d ard c.2.2.1.2.1.1.2,SB c.2.2.1.2.1.2.1,.d ard c.2.2.1.2.1.2.2,SB c.2.2.1.2.2.1.1,.d ard c.2.2.1.2.2.1.2,SB c.2.2.1.2.2.2.1,.d ard c.2.2.1.2.2.2.2,SB c.2.2.2.1,SB c.2.2.2.2.1.1.1.1,.d ard c.2.2.2.2.1.1.1.2,SB c.2.2.2.2.1.1.2.1,.d ard c.2.2.2.2.1.1.2.2,SB c.2.2.2.2.1.2.1.1.1,.d ard c.2.2.2.2.1.2.1.1.2,SB c.2.2.2.2.1.2.1.2.1,.d ard c.2.2.2.2.1.2.1.2.2,SB c.2.2.2.2.1.2.2.1.1.1,.d ard c.2.2.2.2.1.2.2.1.1.2,SB c.2.2.2.2.1.2.2.1.2.1,.d ard c.2.2.2.2.1.2.2.1.2.2,SB c.2.2.2.2.1.2.2.2.1.1.1,.d ard c.2.2.2.2.1.2.2.2.1.1.2,SB c.2.2.2.2.1.2.2.2.1.2.1,.d ard c.2.2.2.2.1.2.2.2.1.2.2,SB c.2.2.2.2.1.2.2.2.2.1.1,.d ard c.2.2.2.2.1.2.2.2.2.1.2,SB c.2.2.2.2.1.2.2.2.2.2.1,.d ard c.2.2.2.2.1.2.2.2.2.2.2,SB c.2.2.2.2.2.1.1.1,.d ard c.2.2.2.2.2.1.1.2,SB c.2.2.2.2.2.1.2.1,.d ard c.2.2.2.2.2.1.2.2,SB c.2.2.2.2.2.2.1.1.1,.d ard c.2.2.2.2.2.2.1.1.2,SB c.2.2.2.2.2.2.1.2.1,.d ard c.2.2.2.2.2.2.1.2.2,SB c.2.2.2.2.2.2.2.1.1.1,.d ard c.2.2.2.2.2.2.2.1.1.2,SB c.2.2.2.2.2.2.2.1.2.1,.d ard c.2.2.2.2.2.2.2.1.2.2,SB c.2.2.2.2.2.2.2.2.1.1.1,.d ard c.2.2.2.2.2.2.2.2.1.1.2,SB c.2.2.2.2.2.2.2.2.1.2.1,.d ard c.2.2.2.2.2.2.2.2.1.2.2,SB c.2.2.2.2.2.2.2.2.2.1.1,.d ard c.2.2.2.2.2.2.2.2.2.1.2,SB c.2.2.2.2.2.2.2.2.2.2.1,.d ard c.2.2.2.2.2.2.2.2.2.2.2]],0,[]⟩
def wO(c:BCU)(l s5:List BP)(s6 s7:Int):Cfg:=⟨215,[.blk 2,.seq 30,.blk 1,.seq 37,.lp 8,.blk 0,.seq 38],[(1,.d (.sl tP) l),(2,.box 0 0),(5,.d (.sl tP) s5),(6,SI s6),(7,SI s7)],[.box 48 [SB c.1,SB c.2.1.1.1.1,.d ard c.2.1.1.1.2,SB c.2.1.1.2.1,.d ard c.2.1.1.2.2,SB c.2.1.2.1.1.1,.d ard c.2.1.2.1.1.2,SB c.2.1.2.1.2.1,.d ard c.2.1.2.1.2.2,SB c.2.1.2.2.1.1,.d ard c.2.1.2.2.1.2,SB c.2.1.2.2.2.1,.d ard c.2.1.2.2.2.2,SB c.2.2.1.1.1.1,.d ard c.2.2.1.1.1.2,SB c.2.2.1.1.2.1,.d ard c.2.2.1.1.2.2,SB c.2.2.1.2.1.1.1,.d ard c.2.2.1.2.1.1.2,SB c.2.2.1.2.1.2.1,.d ard c.2.2.1.2.1.2.2,SB c.2.2.1.2.2.1.1,.d ard c.2.2.1.2.2.1.2,SB c.2.2.1.2.2.2.1,.d ard c.2.2.1.2.2.2.2,SB c.2.2.2.1,SB c.2.2.2.2.1.1.1.1,.d ard c.2.2.2.2.1.1.1.2,SB c.2.2.2.2.1.1.2.1,.d ard c.2.2.2.2.1.1.2.2,SB c.2.2.2.2.1.2.1.1.1,.d ard c.2.2.2.2.1.2.1.1.2,SB c.2.2.2.2.1.2.1.2.1,.d ard c.2.2.2.2.1.2.1.2.2,SB c.2.2.2.2.1.2.2.1.1.1,.d ard c.2.2.2.2.1.2.2.1.1.2,SB c.2.2.2.2.1.2.2.1.2.1,.d ard c.2.2.2.2.1.2.2.1.2.2,SB c.2.2.2.2.1.2.2.2.1.1.1,.d ard c.2.2.2.2.1.2.2.2.1.1.2,SB c.2.2.2.2.1.2.2.2.1.2.1,.d ard c.2.2.2.2.1.2.2.2.1.2.2,SB c.2.2.2.2.1.2.2.2.2.1.1,.d ard c.2.2.2.2.1.2.2.2.2.1.2,SB c.2.2.2.2.1.2.2.2.2.2.1,.d ard c.2.2.2.2.1.2.2.2.2.2.2,SB c.2.2.2.2.2.1.1.1,.d ard c.2.2.2.2.2.1.1.2,SB c.2.2.2.2.2.1.2.1,.d ard c.2.2.2.2.2.1.2.2,SB c.2.2.2.2.2.2.1.1.1,.d ard c.2.2.2.2.2.2.1.1.2,SB c.2.2.2.2.2.2.1.2.1,.d ard c.2.2.2.2.2.2.1.2.2,SB c.2.2.2.2.2.2.2.1.1.1,.d ard c.2.2.2.2.2.2.2.1.1.2,SB c.2.2.2.2.2.2.2.1.2.1,.d ard c.2.2.2.2.2.2.2.1.2.2,SB c.2.2.2.2.2.2.2.2.1.1.1,.d ard c.2.2.2.2.2.2.2.2.1.1.2,SB c.2.2.2.2.2.2.2.2.1.2.1,.d ard c.2.2.2.2.2.2.2.2.1.2.2,SB c.2.2.2.2.2.2.2.2.2.1.1,.d ard c.2.2.2.2.2.2.2.2.2.1.2,SB c.2.2.2.2.2.2.2.2.2.2.1,.d ard c.2.2.2.2.2.2.2.2.2.2.2]],0,[]⟩
def agM(c:BCU)(l:List BP)(k:KT):OLR:=k 8 (kZ c l 0 ([]))
theorem aj5(c:BCU)(l:List BP):RS wc 215 [.d tCU c,.d (.sl tP) l] (agM c l):=rsX
def zg(c:BCU)(l:List BP)(s6:Int)(s5:List BP)(k:KT):OLR:=match D' (s6<(l.length:Int))with|T'=>k 21 (wO c l s5 s6 0)|F'=>S' [RV.d (.sl tP) s5]
theorem E9(c:BCU)(l:List BP)(s6:Int)(s5:List BP):RN wc 8 (kZ c l s6 s5) (zg c l s6 s5):=rnX
def vN(c:BCU)(l s5:List BP)(s6 s7:Int)(k:KT):OLR:=match D' (s7<(s5.length:Int))with|T'=>(match aH s5 s7 with|S' x1=>(match aH l s6 with|S' x2=>(og (D' (okC 4000 c/\okP 4000 x1/\okP 4000 x2)) (match D' ((co (dC c) (dec x1) (dec x2))<0)with|T'=>k 21 (wO c l s5 s6 (i64.wrap (s7+1)))|F'=>(match D' (s7<(s5.length:Int))with|T'=>(match aH s5 s7 with|S' x3=>(match aH l s6 with|S' x4=>(og (D' (okP 4000 x3/\okP 4000 x4)) (match aB (dec x3) (dec x4)==0 with|T'=>k 8 (kZ c l (i64.wrap (s6+1)) s5)|F'=>(og (D' ((0:Int)<=0/\0<=s7/\s7<=(s5.length:Int))) (match aH l s6 with|S' x5=>(og (D' ((0:Int)<=s7/\s7<=(s5.length:Int)/\(s5.length:Int)<=(s5.length:Int))) (dup (.b (.b .l .l) .l) (og (D' ((([]:List BP).length+((s5.take (s7).toNat).drop (0:Int).toNat).length)*320<=140737488355328/\([]:List BP).length+((s5.take (s7).toNat).drop (0:Int).toNat).length<=140737488355328)) (og (D' (((([]:List BP)++((s5.take (s7).toNat).drop (0:Int).toNat)).length+([x5]).length)*320<=140737488355328/\(([]:List BP)++((s5.take (s7).toNat).drop (0:Int).toNat)).length+([x5]).length<=140737488355328)) (og (D' ((((([]:List BP)++((s5.take (s7).toNat).drop (0:Int).toNat))++([x5])).length+((s5.take ((s5.length:Int)).toNat).drop (s7:Int).toNat).length)*320<=140737488355328/\((([]:List BP)++((s5.take (s7).toNat).drop (0:Int).toNat))++([x5])).length+((s5.take ((s5.length:Int)).toNat).drop (s7:Int).toNat).length<=140737488355328)) (k 8 (kZ c l (i64.wrap (s6+1)) (((([]:List BP)++((s5.take (s7).toNat).drop (0:Int).toNat))++([x5]))++((s5.take ((s5.length:Int)).toNat).drop (s7:Int).toNat)))))))))|N'=>N'))))|N'=>N')|N'=>N')|F'=>(og (D' ((0:Int)<=0/\0<=s7/\s7<=(s5.length:Int))) (match aH l s6 with|S' x3=>(og (D' ((0:Int)<=s7/\s7<=(s5.length:Int)/\(s5.length:Int)<=(s5.length:Int))) (dup (.b (.b .l .l) .l) (og (D' ((([]:List BP).length+((s5.take (s7).toNat).drop (0:Int).toNat).length)*320<=140737488355328/\([]:List BP).length+((s5.take (s7).toNat).drop (0:Int).toNat).length<=140737488355328)) (og (D' (((([]:List BP)++((s5.take (s7).toNat).drop (0:Int).toNat)).length+([x3]).length)*320<=140737488355328/\(([]:List BP)++((s5.take (s7).toNat).drop (0:Int).toNat)).length+([x3]).length<=140737488355328)) (og (D' ((((([]:List BP)++((s5.take (s7).toNat).drop (0:Int).toNat))++([x3])).length+((s5.take ((s5.length:Int)).toNat).drop (s7:Int).toNat).length)*320<=140737488355328/\((([]:List BP)++((s5.take (s7).toNat).drop (0:Int).toNat))++([x3])).length+((s5.take ((s5.length:Int)).toNat).drop (s7:Int).toNat).length<=140737488355328)) (k 8 (kZ c l (i64.wrap (s6+1)) (((([]:List BP)++((s5.take (s7).toNat).drop (0:Int).toNat))++([x3]))++((s5.take ((s5.length:Int)).toNat).drop (s7:Int).toNat)))))))))|N'=>N')))))|N'=>N')|N'=>N')|F'=>(match D' (s7<(s5.length:Int))with|T'=>(match aH s5 s7 with|S' x1=>(match aH l s6 with|S' x2=>(og (D' (okP 4000 x1/\okP 4000 x2)) (match aB (dec x1) (dec x2)==0 with|T'=>k 8 (kZ c l (i64.wrap (s6+1)) s5)|F'=>(og (D' ((0:Int)<=0/\0<=s7/\s7<=(s5.length:Int))) (match aH l s6 with|S' x3=>(og (D' ((0:Int)<=s7/\s7<=(s5.length:Int)/\(s5.length:Int)<=(s5.length:Int))) (dup (.b (.b .l .l) .l) (og (D' ((([]:List BP).length+((s5.take (s7).toNat).drop (0:Int).toNat).length)*320<=140737488355328/\([]:List BP).length+((s5.take (s7).toNat).drop (0:Int).toNat).length<=140737488355328)) (og (D' (((([]:List BP)++((s5.take (s7).toNat).drop (0:Int).toNat)).length+([x3]).length)*320<=140737488355328/\(([]:List BP)++((s5.take (s7).toNat).drop (0:Int).toNat)).length+([x3]).length<=140737488355328)) (og (D' ((((([]:List BP)++((s5.take (s7).toNat).drop (0:Int).toNat))++([x3])).length+((s5.take ((s5.length:Int)).toNat).drop (s7:Int).toNat).length)*320<=140737488355328/\((([]:List BP)++((s5.take (s7).toNat).drop (0:Int).toNat))++([x3])).length+((s5.take ((s5.length:Int)).toNat).drop (s7:Int).toNat).length<=140737488355328)) (k 8 (kZ c l (i64.wrap (s6+1)) (((([]:List BP)++((s5.take (s7).toNat).drop (0:Int).toNat))++([x3]))++((s5.take ((s5.length:Int)).toNat).drop (s7:Int).toNat)))))))))|N'=>N'))))|N'=>N')|N'=>N')|F'=>(og (D' ((0:Int)<=0/\0<=s7/\s7<=(s5.length:Int))) (match aH l s6 with|S' x1=>(og (D' ((0:Int)<=s7/\s7<=(s5.length:Int)/\(s5.length:Int)<=(s5.length:Int))) (dup (.b (.b .l .l) .l) (og (D' ((([]:List BP).length+((s5.take (s7).toNat).drop (0:Int).toNat).length)*320<=140737488355328/\([]:List BP).length+((s5.take (s7).toNat).drop (0:Int).toNat).length<=140737488355328)) (og (D' (((([]:List BP)++((s5.take (s7).toNat).drop (0:Int).toNat)).length+([x1]).length)*320<=140737488355328/\(([]:List BP)++((s5.take (s7).toNat).drop (0:Int).toNat)).length+([x1]).length<=140737488355328)) (og (D' ((((([]:List BP)++((s5.take (s7).toNat).drop (0:Int).toNat))++([x1])).length+((s5.take ((s5.length:Int)).toNat).drop (s7:Int).toNat).length)*320<=140737488355328/\((([]:List BP)++((s5.take (s7).toNat).drop (0:Int).toNat))++([x1])).length+((s5.take ((s5.length:Int)).toNat).drop (s7:Int).toNat).length<=140737488355328)) (k 8 (kZ c l (i64.wrap (s6+1)) (((([]:List BP)++((s5.take (s7).toNat).drop (0:Int).toNat))++([x1]))++((s5.take ((s5.length:Int)).toNat).drop (s7:Int).toNat)))))))))|N'=>N')))
theorem A5(c:BCU)(l s5:List BP)(s6 s7:Int):RN wc 21 (wO c l s5 s6 s7) (vN c l s5 s6 s7):=rnX
theorem ae6(c:BCU)(l:List BP)(hc:okC 4000 c)(hl:∀x∈l,okP 4000 x)(out:List BP)(ho:∀x∈out,okP 4000 x)(hlen:out.length<=1000000)(i:Nat)(hi:i<l.length)(hi2:i<=1000000)(r:List RV)(h:wc.Runs 8 (kZ c l ((i+1:Nat):Int) (gf (dC c) out l[i])) r):
  ∀(j k:Nat),k+j=out.length->gf (dC c) out l[i]=out.take k++gf (dC c) (out.drop k) l[i]->wc.Runs 21 (wO c l out (i:Int) (k:Int)) r:=by
 have e0:i64.wrap ((i:Int)+1)=((i+1:Nat):Int):=aT (by omega);have gl:aH l (i:Int)=S' l[i]:=by rw[ak,anN hi]
 have hx:=hl _ (anY hi);have tl:out.take ((out.length:Int)).toNat=out:=by simp
 have put:∀k:Nat,k<=out.length->gf (dC c) out l[i]=out.take k++[l[i]]++out.drop k->∃n,(match D' ((0:Int)<=0/\0<=(k:Int)/\(k:Int)<=(out.length:Int))with
   |true=>(match aH l (i:Int)with
    |some x5=>(match decide ((0:Int)<=(k:Int)/\(k:Int)<=(out.length:Int)/\(out.length:Int)<=(out.length:Int))with
     |true=>(match decide ((([]:List BP).length+((out.take ((k:Int)).toNat).drop (0:Int).toNat).length)*320<=140737488355328/\([]:List BP).length+((out.take ((k:Int)).toNat).drop (0:Int).toNat).length<=140737488355328)with
      |true=>(match decide (((([]:List BP)++((out.take ((k:Int)).toNat).drop (0:Int).toNat)).length+([x5]).length)*320<=140737488355328/\(([]:List BP)++((out.take ((k:Int)).toNat).drop (0:Int).toNat)).length+([x5]).length<=140737488355328)with
       |true=>(match decide ((((([]:List BP)++((out.take ((k:Int)).toNat).drop (0:Int).toNat))++([x5])).length+((out.take ((out.length:Int)).toNat).drop ((k:Int)).toNat).length)*320<=140737488355328/\((([]:List BP)++((out.take ((k:Int)).toNat).drop (0:Int).toNat))++([x5])).length+((out.take ((out.length:Int)).toNat).drop ((k:Int)).toNat).length<=140737488355328)with
        |true=>wc.k n 8 (kZ c l (i64.wrap ((i:Int)+1)) (((([]:List BP)++((out.take ((k:Int)).toNat).drop (0:Int).toNat))++([x5]))++((out.take ((out.length:Int)).toNat).drop ((k:Int)).toNat)))
        |false=>none)
       |false=>none)
      |false=>none)
     |false=>none)
    |none=>none)
   |false=>none)=some r:=by
  intro k hk he;have e1:((out.take ((k:Int)).toNat).drop (0:Int).toNat)=out.take k:=by simp
  have e2:((out.take ((out.length:Int)).toNat).drop ((k:Int)).toNat)=out.drop k:=by simp
  have l1:(out.take k).length=k:=by simp;omega
  have l2:(out.drop k).length=out.length-k:=by simp
  obtain⟨n,hn⟩:=h;refine⟨n,?_⟩;rw[gl,dT (show(0:Int)<=0/\0<=(k:Int)/\(k:Int)<=(out.length:Int) by omega)];dsimp only;rw[dT (show(0:Int)<=(k:Int)/\(k:Int)<=(out.length:Int)/\(out.length:Int)<=(out.length:Int) by omega)];simp only[e1,e2,apO,List.length_nil,aoq,an8,l1,l2,an2];rw[dT (by omega),dT (by omega),dT (by omega),e0,<-he];exact hn
 intro j;induction j with
 |zero=>
  intro k hk he;have hk:k=out.length:=by omega
  subst hk;refine A5 _ _ _ _ _ ?_;unfold vN;rw[a8 (by omega)];simp only[dg];refine put _ (anT _) ?_;rw[he];simp[gf]
 |succ j ih=>
  intro k hk he;have hkl:k<out.length:=by omega
  have go:aH out (k:Int)=S' out[k]:=by rw[ak,anN hkl]
  have ho1:=ho _ (anY hkl);have ek:i64.wrap ((k:Int)+1)=((k+1:Nat):Int):=aT (by omega);have hd:out.drop k=out[k]::out.drop (k+1):=an5 hkl;refine A5 _ _ _ _ _ ?_;unfold vN;simp only[dg,aO hkl,go,gl,dT (show okC 4000 c/\okP 4000 out[k]/\okP 4000 l[i] from⟨hc,ho1,hx⟩),dT (show okP 4000 out[k]/\okP 4000 l[i] from⟨ho1,hx⟩)];rw[hd]at he;simp only[gf]at he;cases h1:D' (co (dC c) (dec out[k]) (dec l[i])<0)<;>rw[h1]at he
  ·simp only[cond_false]at he;cases h2:aB (dec out[k]) (dec l[i])==0<;>rw[h2]at he
   ·simp only[cond_false]at he;have:=put k (by omega) (by rw[he,hd];simp);simp only[gl]at this;exact this
   ·simp only[cond_true]at he;rw[<-hd,apc]at he;obtain⟨n,hn⟩:=h;refine⟨n,?_⟩;rw[e0];rw[he]at hn;exact hn
  ·simp only[cond_true]at he;obtain⟨n,hn⟩:=ih (k+1) (by omega) (by rw[he,Mp hkl,aof];rfl);refine⟨n,?_⟩;rw[ek];exact hn
theorem Xo(c:BCU)(l:List BP)(hc:okC 4000 c)(hl:∀x∈l,okP 4000 x)(hle:l.length<=1000000):∀(j i:Nat),i+j=l.length->∀out:List BP,(∀x∈out,okP 4000 x)->out.length<=i->wc.Runs 8 (kZ c l (i:Int) out) [.d (.sl tP) ((l.drop i).foldl (gf (dC c)) out)]:=by
 intro j;induction j with
 |zero=>
  intro i hi out ho hlen;refine E9 _ _ _ _ ⟨0,?_⟩;unfold zg;rw[a8 (by omega),z7 (by omega)];rfl
 |succ j ih=>
  intro i hi out ho hlen;have hil:i<l.length:=by omega
  have h2:=ih (i+1) (by omega) (gf (dC c) out l[i]) (λx hx=>by
   rcases pJ hx with h|h
   ·exact ho x h
   ·rw[h];exact hl _ (anY hil)) (an0 (Aa _ _ _) (by omega))
  obtain⟨n,hn⟩:=ae6 c l hc hl out ho (by omega) i hil (by omega) _ h2 out.length 0 (by omega) (by simp);refine E9 _ _ _ _ ⟨n,?_⟩;unfold zg;rw[aO hil,jx hil,ap6];exact hn
def ZI:Cn 215 [tCU,(.sl tP)]:=cn λ(c:BCU) (l:List BP)=>lf (yW c l) [.d (.sl tP) (iD (dC c) l)] λh=>by
 obtain⟨hc,hle,hl⟩:=h;refine bj Z1 (show wc.Res _ _ _ from ?_);obtain⟨n,hn⟩:=Xo c l hc hl hle l.length 0 (by omega) [] (λx hx=>by cases hx) (anT _);exact aj5 _ _ ⟨n,hn⟩
def Ah(c:BCU)(x y:BP):BCU:=(c.1,c.2.1,c.2.2.1,c.2.2.2.1,x,y)
def wE(c:BCU):List BP->List BCU
 |[]=>[]
 |x::r=>match r with
  |[]=>[]
  |y::_=>Ah c x y::wE c r
def vD(c:BCU)(l:List BP):List BP:=iD (dC c) ([c.2.2.2.2.1,c.2.2.2.2.2]++l)
def nC(c:BCU)(l:List BP):List BCU:=wE c (vD c l)
def vW(c:BCU)(l:List BP):Prop:=okC 3500 c/\l.length<=900000/\∀x∈l,okP 3500 x/\onR (dC c) (dec x)=T'
instance (c:BCU) (l:List BP):Decidable (vW c l):=by unfold vW;infer_instance
theorem U2{c:BCU}{l:List BP}(h:vW c l):yW c ([c.2.2.2.2.1,c.2.2.2.2.2]++l):=by
 obtain⟨h1,h2,h3⟩:=h;have h4:=bi (k:=4000) h1 (by decide) (by decide);refine⟨h4,by simp;omega,λx hx=>?_⟩;rcases aod.1 hx with hx|hx
 ·simp only[an6,apt,aqK]at hx;rcases hx with rfl|rfl
  ·exact h4.2.2.1
  ·exact h4.2.2.2
 ·exact aV (h3 x hx).1 (by decide) (by decide)
theorem J1(c:BCU)(l:List BP):(vD c l).length<=l.length+2:=by
 have:=wT (dC c) ([c.2.2.2.2.1,c.2.2.2.2.2]++l) [];unfold vD iD;simp at this ⊢;omega
theorem DK{c:BCU}{l:List BP}{x:BP}(h:x∈vD c l):x=c.2.2.2.2.1\/x=c.2.2.2.2.2\/x∈l:=by
 rcases DW (out:=[]) h with h|h
 ·cases h
 ·rcases aod.1 h with h|h
  ·simp only[an6,apt,aqK]at h;rcases h with h|h
   ·exact .inl h
   ·exact .inr (.inl h)
  ·exact .inr (.inr h)
theorem Js{c p:BCU}:∀{s:List BP},p∈wE c s->∃x y,x∈s/\y∈s/\p=Ah c x y
 |[],h=>by cases h
 |[_],h=>by cases h
 |x::y::r,h=>by
  simp only[wE]at h;rcases an6.1 h with h|h
  ·exact⟨x,y,by simp,by simp,h⟩
  ·obtain⟨a,b,h1,h2,h3⟩:=Js (s:=y::r) h;exact⟨a,b,an4 _ h1,an4 _ h2,h3⟩
def abk:List En:=[enT Je,enT ES,enT o8,enL JE,enT sA,enK ZI]
def ab4:NT:=[((139,6),{keep:=[1,2,6],hl:=1}),((139,31),{keep:=[2,7,8,9],own:=[(8,48,tCU)],hl:=3})]
def AO:Ctx:=CX (ens abk) ab4
def CH(c:BCU)(l:List BP)(s6:Int):Cfg:=⟨139,[.blk 0,.seq 23],[(1,.d (.sl tP) l),(2,.box 0 0),(6,SI s6)],[.box 48 [SB c.1,SB c.2.1.1.1.1,.d ard c.2.1.1.1.2,SB c.2.1.1.2.1,.d ard c.2.1.1.2.2,SB c.2.1.2.1.1.1,.d ard c.2.1.2.1.1.2,SB c.2.1.2.1.2.1,.d ard c.2.1.2.1.2.2,SB c.2.1.2.2.1.1,.d ard c.2.1.2.2.1.2,SB c.2.1.2.2.2.1,.d ard c.2.1.2.2.2.2,SB c.2.2.1.1.1.1,.d ard c.2.2.1.1.1.2,SB c.2.2.1.1.2.1,.d ard c.2.2.1.1.2.2,SB c.2.2.1.2.1.1.1,.d ard c.2.2.1.2.1.1.2,SB c.2.2.1.2.1.2.1,.d ard c.2.2.1.2.1.2.2,SB c.2.2.1.2.2.1.1,.d ard c.2.2.1.2.2.1.2,SB c.2.2.1.2.2.2.1,.d ard c.2.2.1.2.2.2.2,SB c.2.2.2.1,SB c.2.2.2.2.1.1.1.1,.d ard c.2.2.2.2.1.1.1.2,SB c.2.2.2.2.1.1.2.1,.d ard c.2.2.2.2.1.1.2.2,SB c.2.2.2.2.1.2.1.1.1,.d ard c.2.2.2.2.1.2.1.1.2,SB c.2.2.2.2.1.2.1.2.1,.d ard c.2.2.2.2.1.2.1.2.2,SB c.2.2.2.2.1.2.2.1.1.1,.d ard c.2.2.2.2.1.2.2.1.1.2,SB c.2.2.2.2.1.2.2.1.2.1,.d ard c.2.2.2.2.1.2.2.1.2.2,SB c.2.2.2.2.1.2.2.2.1.1.1,.d ard c.2.2.2.2.1.2.2.2.1.1.2,SB c.2.2.2.2.1.2.2.2.1.2.1,.d ard c.2.2.2.2.1.2.2.2.1.2.2,SB c.2.2.2.2.1.2.2.2.2.1.1,.d ard c.2.2.2.2.1.2.2.2.2.1.2,SB c.2.2.2.2.1.2.2.2.2.2.1,.d ard c.2.2.2.2.1.2.2.2.2.2.2,SB c.2.2.2.2.2.1.1.1,.d ard c.2.2.2.2.2.1.1.2,SB c.2.2.2.2.2.1.2.1,.d ard c.2.2.2.2.2.1.2.2,SB c.2.2.2.2.2.2.1.1.1,.d ard c.2.2.2.2.2.2.1.1.2,SB c.2.2.2.2.2.2.1.2.1,.d ard c.2.2.2.2.2.2.1.2.2,SB c.2.2.2.2.2.2.2.1.1.1,.d ard c.2.2.2.2.2.2.2.1.1.2,SB c.2.2.2.2.2.2.2.1.2.1,.d ard c.2.2.2.2.2.2.2.1.2.2,SB c.2.2.2.2.2.2.2.2.1.1.1,.d ard c.2.2.2.2.2.2.2.2.1.1.2,SB c.2.2.2.2.2.2.2.2.1.2.1,.d ard c.2.2.2.2.2.2.2.2.1.2.2,SB c.2.2.2.2.2.2.2.2.2.1.1,.d ard c.2.2.2.2.2.2.2.2.2.1.2,SB c.2.2.2.2.2.2.2.2.2.2.1,.d ard c.2.2.2.2.2.2.2.2.2.2.2]],0,[]⟩
def xh(c:BCU)(l:List BP)(s9:Int)(r2:List BCU):Cfg:=⟨139,[.blk 2,.seq 46],[(2,.box 0 0),(7,.d (.sl tP) (iD (dC c) (([c.2.2.2.2.1,c.2.2.2.2.2])++l))),(8,.own 2),(9,SI s9)],[.box 48 [SB c.1,SB c.2.1.1.1.1,.d ard c.2.1.1.1.2,SB c.2.1.1.2.1,.d ard c.2.1.1.2.2,SB c.2.1.2.1.1.1,.d ard c.2.1.2.1.1.2,SB c.2.1.2.1.2.1,.d ard c.2.1.2.1.2.2,SB c.2.1.2.2.1.1,.d ard c.2.1.2.2.1.2,SB c.2.1.2.2.2.1,.d ard c.2.1.2.2.2.2,SB c.2.2.1.1.1.1,.d ard c.2.2.1.1.1.2,SB c.2.2.1.1.2.1,.d ard c.2.2.1.1.2.2,SB c.2.2.1.2.1.1.1,.d ard c.2.2.1.2.1.1.2,SB c.2.2.1.2.1.2.1,.d ard c.2.2.1.2.1.2.2,SB c.2.2.1.2.2.1.1,.d ard c.2.2.1.2.2.1.2,SB c.2.2.1.2.2.2.1,.d ard c.2.2.1.2.2.2.2,SB c.2.2.2.1,SB c.2.2.2.2.1.1.1.1,.d ard c.2.2.2.2.1.1.1.2,SB c.2.2.2.2.1.1.2.1,.d ard c.2.2.2.2.1.1.2.2,SB c.2.2.2.2.1.2.1.1.1,.d ard c.2.2.2.2.1.2.1.1.2,SB c.2.2.2.2.1.2.1.2.1,.d ard c.2.2.2.2.1.2.1.2.2,SB c.2.2.2.2.1.2.2.1.1.1,.d ard c.2.2.2.2.1.2.2.1.1.2,SB c.2.2.2.2.1.2.2.1.2.1,.d ard c.2.2.2.2.1.2.2.1.2.2,SB c.2.2.2.2.1.2.2.2.1.1.1,.d ard c.2.2.2.2.1.2.2.2.1.1.2,SB c.2.2.2.2.1.2.2.2.1.2.1,.d ard c.2.2.2.2.1.2.2.2.1.2.2,SB c.2.2.2.2.1.2.2.2.2.1.1,.d ard c.2.2.2.2.1.2.2.2.2.1.2,SB c.2.2.2.2.1.2.2.2.2.2.1,.d ard c.2.2.2.2.1.2.2.2.2.2.2,SB c.2.2.2.2.2.1.1.1,.d ard c.2.2.2.2.2.1.1.2,SB c.2.2.2.2.2.1.2.1,.d ard c.2.2.2.2.2.1.2.2,SB c.2.2.2.2.2.2.1.1.1,.d ard c.2.2.2.2.2.2.1.1.2,SB c.2.2.2.2.2.2.1.2.1,.d ard c.2.2.2.2.2.2.1.2.2,SB c.2.2.2.2.2.2.2.1.1.1,.d ard c.2.2.2.2.2.2.2.1.1.2,SB c.2.2.2.2.2.2.2.1.2.1,.d ard c.2.2.2.2.2.2.2.1.2.2,SB c.2.2.2.2.2.2.2.2.1.1.1,.d ard c.2.2.2.2.2.2.2.2.1.1.2,SB c.2.2.2.2.2.2.2.2.1.2.1,.d ard c.2.2.2.2.2.2.2.2.1.2.2,SB c.2.2.2.2.2.2.2.2.2.1.1,.d ard c.2.2.2.2.2.2.2.2.2.1.2,SB c.2.2.2.2.2.2.2.2.2.2.1,.d ard c.2.2.2.2.2.2.2.2.2.2.2],.gone,.row 48 tCU r2],0,[]⟩
def ajK(c:BCU)(l:List BP)(k:KT):OLR:=k 6 (CH c l 0)
theorem ajV(c:BCU)(l:List BP):RS AO 139 [.d tCU c,.d (.sl tP) l] (ajK c l):=rsX
def zQ(c:BCU)(l:List BP)(s6:Int)(k:KT):OLR:=match D' (s6<(l.length:Int))with|T'=>(match aH l s6 with|S' x1=>(og (D' (okC 3500 c/\okP 3500 x1)) (match !(onR (dC c) (dec x1))with|T'=>S' [RV.d (.sl tCU) ([]),RV.d arf 1]|F'=>k 6 (CH c l (i64.wrap (s6+1)))))|N'=>N')|F'=>(og (D' ((([c.2.2.2.2.1,c.2.2.2.2.2]).length+l.length)*320<=140737488355328/\([c.2.2.2.2.1,c.2.2.2.2.2]).length+l.length<=140737488355328)) (og (D' (yW c (([c.2.2.2.2.1,c.2.2.2.2.2])++l))) (k 31 (xh c l 1 ([])))))
theorem F3(c:BCU)(l:List BP)(s6:Int):RN AO 6 (CH c l s6) (zQ c l s6):=rnX
def vS(c:BCU)(l:List BP)(s9:Int)(r2:List BCU)(k:KT):OLR:=match D' (s9<((iD (dC c) (([c.2.2.2.2.1,c.2.2.2.2.2])++l)).length:Int))with|T'=>(match aH (iD (dC c) (([c.2.2.2.2.1,c.2.2.2.2.2])++l)) (i64.wrap (s9-1))with|S' x1=>(match aH (iD (dC c) (([c.2.2.2.2.1,c.2.2.2.2.2])++l)) s9 with|S' x2=>dup (.b .l .l) (og (D' ((r2.length+([(c.1,(c.2.1,(c.2.2.1,(c.2.2.2.1,(x1,x2)))))]).length)*1040<=140737488355328/\r2.length+([(c.1,(c.2.1,(c.2.2.1,(c.2.2.2.1,(x1,x2)))))]).length<=140737488355328)) (k 31 (xh c l (i64.wrap (s9+1)) (r2++([(c.1,(c.2.1,(c.2.2.1,(c.2.2.2.1,(x1,x2)))))])))))|N'=>N')|N'=>N')|F'=>S' [RV.d (.sl tCU) r2,RV.d arf 0]
theorem AX(c:BCU)(l:List BP)(s9:Int)(r2:List BCU):RN AO 31 (xh c l s9 r2) (vS c l s9 r2):=rnX
theorem af1(c:BCU)(l:List BP)(hle:l.length<=900000)(S:List BP)(hS:S=vD c l):∀(j i:Nat),1<=i->i+j=max S.length 1->∀out:List BCU,out.length<=i->AO.Runs 31 (xh c l (i:Int) out) [.d (.sl tCU) (out++wE c (S.drop (i-1))),.d arf (0:Int)]:=by
 have hSl:=J1 c l;rw[<-hS]at hSl;have eS:iD (dC c) ([c.2.2.2.2.1,c.2.2.2.2.2]++l)=S:=hS.symm;intro j;induction j with
 |zero=>
  intro i h1 hi out hlen;refine AX _ _ _ _ ⟨0,?_⟩;unfold vS;rw[eS,a8 (by omega)]
  have:wE c (S.drop (i-1))=[]:=by
   have hl:(S.drop (i-1)).length<=1:=by rw[aqf];omega
   match S.drop (i-1),hl with
   |[],_=>rfl
   |[_],_=>rfl
   |_::_::_,h=>simp at h
  rw[this,aoi]
 |succ j ih=>
  intro i h1 hi out hlen;have hil:i<S.length:=by omega
  have e1:i64.wrap ((i:Int)-1)=((i-1:Nat):Int):=by rw[aM (by omega) (by omega)];omega
  have e2:i64.wrap ((i:Int)+1)=((i+1:Nat):Int):=aT (by omega);have g1:aH S ((i-1:Nat):Int)=S' S[i-1]:=by rw[ak,anN (by omega)]
  have g2:aH S (i:Int)=S' S[i]:=by rw[ak,anN hil]
  obtain⟨n,hn⟩:=ih (i+1) (by omega) (by omega) (out++[Ah c S[i-1] S[i]]) (by simp;omega);refine AX _ _ _ _ ⟨n,?_⟩;unfold vS;rw[eS];simp only[dg,aO hil,e1,e2,g1,g2];rw[dT (by simp;omega)]
  have hd:S.drop (i-1)=S[i-1]::S.drop i:=by
   have:=an5 (l:=S) (i:=i-1) (by omega);rw[this,show i-1+1=i by omega]
  have hd2:S.drop i=S[i]::S.drop (i+1):=an5 hil;rw[hd,hd2];rw[show i+1-1=i by omega,hd2,aof]at hn;exact hn
theorem aej(c:BCU)(l:List BP)(h:vW c l):∀(j i:Nat),i+j=l.length->AO.Runs 6 (CH c l (i:Int)) [.d (.sl tCU) (nC c l),.d arf (0:Int)]:=by
 have hs:=U2 h;obtain⟨hc,hle,hl⟩:=h;intro j;induction j with
 |zero=>
  intro i hi;obtain⟨n,hn⟩:=af1 c l hle (vD c l) rfl (max (vD c l).length 1-1) 1 (anT _) (by omega) [] (by simp);refine F3 _ _ _ ⟨n,?_⟩;unfold zQ;rw[a8 (by omega),dT (by simp;omega),dT hs];exact hn
 |succ j ih=>
  intro i hi;have hil:i<l.length:=by omega
  obtain⟨n,hn⟩:=ih (i+1) (by omega);have h1:=hl _ (anY hil);refine F3 _ _ _ ⟨n,?_⟩;unfold zQ;rw[aO hil,ak,anN hil,aT (by omega)];dsimp only;rw[dT (show okC 3500 c/\okP 3500 l[i] from⟨hc,h1.1⟩),h1.2];exact hn
def YB:Cn 139 [tCU,(.sl tP)]:=cn λ(c:BCU) (l:List BP)=>lf (vW c l) [.d (.sl tCU) (nC c l),.d arf 0] λh=>by
 refine bj abk (show AO.Res _ _ _ from ?_);obtain⟨n,hn⟩:=aej c l h l.length 0 (by omega);exact ajV _ _ ⟨n,hn⟩
def qZ(n d:Int):Prop:=bH n/\bH d/\0<d
instance (n d:Int):Decidable (qZ n d):=by unfold qZ;infer_instance
def aez:List En:=[enL Cy,enL aas]
def T5(n d:Int)(_k:KT):OLR:=match d==0 with|T'=>(og (D' (bH (0:Int))) (og (D' (bH (1:Int))) (og (D' (jH (hid (ah (0:Int))) (hid (ah (1:Int))))) (S' [RV.d tR (hid (eZ (hid (ah (0:Int))) (hid (ah (1:Int)))))]))))|F'=>(og (D' (bH n)) (og (D' (bH d)) (og (D' (jH (hid (ah n)) (hid (ah d)))) (S' [RV.d tR (hid (eZ (hid (ah n)) (hid (ah d))))]))))
def qf:Cn 36 [arf,arf]:=cn λ(n d:Int)=>lf (qZ n d) [.d tR (av (Rat.divInt n d))] λh=>by
 refine aA aez (T5 n d) ⟨0,?_⟩;obtain⟨hn,hd,h0⟩:=h;have hne:(d==0)=false:=by simp;omega
 unfold T5;rw[hne,dT hn,dT hd];simp only[aR];rw[dT (show jH (ah n) (ah d) from⟨aS (by have:=kj hn;omega),aS (by have:=kj hd;omega),by rw[dec_enc];omega⟩)];unfold eZ;rw[dec_enc,dec_enc]
theorem JC{n d:Int}(h1:bH n)(h2:bH d)(h0:0<d):Bd (Rat.divInt n d) 3:=by
 obtain⟨k,rfl⟩:=ao2 (show 0<=d by omega);exact⟨vg (by omega) (kj h1) (kj h2)⟩
section
theorem Con.new_d{P:Program}{f:Nat}{args:List SV}{et:TypeId}{e:Ty}{xs:List e.D}(h:Con P f args [.new et e xs]):Con P f args [.d (.sl e) xs]:=by
 intro A w vs hI ha;refine(h A w vs hI ha).mono ?_;rintro en w' ⟨v,rfl,hb,css,ho,ha2,hn⟩
 refine⟨v,rfl,hb,?_⟩;obtain⟨hlen,p,c,hv,h1,h2,h3⟩:=Rd.of_own hn ho;subst hv;refine⟨[.slice p xs.length c],⟨p,xs.length,c,css,rfl,rfl,h1,h2,aY (λ_ _ h=>Ty.rd_keep ⟨anT _,λb _ hb=>hb.1,λ_ _ _=>rfl⟩ h) ha2,λh0=>?_⟩,rfl⟩;obtain⟨b,off,rfl,h5,h6⟩:=h3 h0;refine⟨b,off,rfl,.inr ?_,h5,h6⟩;rcases ho.2 with⟨h7,_⟩|⟨g,cap,cur,h7,h8,_⟩
 ·cases h7
 ·injection h7 with h7;injection h7 with h7;injection h7 with h7;subst h7;exact h8
class Bb (q:Rat) (n d:outParam Nat):Prop where
 nu:q.num.natAbs<=2^n
 de:q.den<=2^d
theorem akn{n:Int}{d a b:Nat}(hd:d≠0)(h1:n.natAbs<=2^a)(h2:d<=2^b):(mkRat n d).num.natAbs<=2^a/\(mkRat n d).den<=2^b:=by
 rw[aqS,aqT,aog hd,aog hd];constructor
 ·refine an0 ?_ h1;refine(JW n (d.gcd n.natAbs)).resolve_right (λh=>h ?_);exact Int.ofNat_dvd_left.2 (Nat.gcd_dvd_right d n.natAbs)
 ·exact an0 (Nat.div_le_self _ _) h2
section
variable {a b:Rat} {m n d e:Nat}
theorem abN:∀k:Nat,((2^(29*k):Nat):Int)<=pw k
 |0=>by decide
 |k+1=>by
  have ih:=abN k
  have e:2^(29*(k+1))=2^(29*k)*536870912:=by
   rw[Nat.mul_add,Nat.pow_add]
  rw[e,bW,ao8];have:(0:Int)<=pw k:=Int.le_trans (Int.natCast_nonneg _) ih;omega
theorem aaq{z:Int}{n:Nat}(h:z.natAbs<=2^n):szI z<=n/29+1:=by
 have h1:=abN (n/29+1);have h2:2^n<2^(29*(n/29+1)):=Nat.pow_lt_pow_right (by decide) (by omega);exact fc (by omega) (by omega)
theorem aaW [h:Bb a m d]{k:Nat}(hm:m/29+1<=k)(hd:d/29+1<=k):Bd a k:=⟨⟨an0 (aaq h.nu) hm,an0 (aaq (z:=(a.den:Int)) h.de) hd⟩⟩
end
theorem Xt{n d:Int}{a b:Nat}(h0:0<d)(h1:n.natAbs<=2^a)(h2:d.natAbs<=2^b):Bb (Rat.divInt n d) a b:=by
 obtain⟨k,rfl⟩:=ao2 (show 0<=d by omega);rw[Rat.divInt_ofNat];have:=akn (n:=n) (d:=k) (by omega) h1 h2;exact⟨this.1,this.2⟩
def cJ(x:BO3):Prop:=ok Rat 12 x.1/\ok Rat 12 x.2.1/\ok Rat 63 x.2.2/\((dec x:Ln).1≠0\/(dec x:Ln).2.1≠0)
instance (x:BO3):Decidable (cJ x):=by unfold cJ;infer_instance
def bK(x:BO3):Prop:=ok Rat 4 x.1/\ok Rat 4 x.2.1/\ok Rat 13 x.2.2/\(0:Rat)<(dec x:Ln).2.2
instance (x:BO3):Decidable (bK x):=by unfold bK;infer_instance
class BdL (l:Ln):Prop where
 a:Bd l.1 12
 b:Bd l.2.1 12
 c:Bd l.2.2 63
class BdC (c:Ln):Prop where
 x:Bd c.1 4
 y:Bd c.2.1 4
 q:Bd c.2.2 13
theorem dU{x:BO3}(h:cJ x):∃l:Ln,x=enc l/\BdL l/\(l.1≠0\/l.2.1≠0):=by
 obtain⟨h1,h2,h3,h4⟩:=h;obtain⟨x1,x2,x3⟩:=x;obtain⟨a,rfl,ba⟩:=aL h1;obtain⟨b,rfl,bb⟩:=aL h2;obtain⟨c,rfl,bc⟩:=aL h3;have e:((enc a,enc b,enc c):BO3)=enc ((a,b,c):Ln):=rfl;rw[e,aq]at h4;exact⟨(a,b,c),rfl,⟨ba,bb,bc⟩,h4⟩
theorem b9{x:BO3}(h:bK x):∃c:Ln,x=enc c/\BdC c/\0<c.2.2:=by
 obtain⟨h1,h2,h3,h4⟩:=h;obtain⟨x1,x2,x3⟩:=x;obtain⟨a,rfl,ba⟩:=aL h1;obtain⟨b,rfl,bb⟩:=aL h2;obtain⟨c,rfl,bc⟩:=aL h3;have e:((enc a,enc b,enc c):BO3)=enc ((a,b,c):Ln):=rfl;rw[e,aq]at h4;exact⟨(a,b,c),rfl,⟨ba,bb,bc⟩,h4⟩
theorem ms{l:Ln}[h:BdL l](h0:l.1≠0\/l.2.1≠0):cJ (enc l):=by
 have a:=h.a;have b:=h.b;have c:=h.c;exact⟨anP (okd (anT _) (by decide)),anP (okd (anT _) (by decide)),anP (okd (anT _) (by decide)),by rw[aq];exact h0⟩
theorem jM{c:Ln}[h:BdC c](h0:0<c.2.2):bK (enc c):=by
 have a:=h.x;have b:=h.y;have c:=h.q;exact⟨anP (okd (anT _) (by decide)),anP (okd (anT _) (by decide)),anP (okd (anT _) (by decide)),by rw[aq];exact h0⟩
section
variable {l c:Ln}
instance anM [h:BdL l]:Bd l.1 12:=h.a
instance anJ [h:BdL l]:Bd l.2.1 12:=h.b
instance anH [h:BdL l]:Bd l.2.2 63:=h.c
instance anK [h:BdC c]:Bd c.1 4:=h.x
instance anL [h:BdC c]:Bd c.2.1 4:=h.y
instance anI [h:BdC c]:Bd c.2.2 13:=h.q
theorem aeU [h:BdL l]:Bd l 63:=⟨⟨Cod.mono _ _ _ (by decide) h.a.le,Cod.mono _ _ _ (by decide) h.b.le,h.c.le⟩⟩
theorem afy [h:BdC c]:Bd c 13:=⟨⟨Cod.mono _ _ _ (by decide) h.x.le,Cod.mono _ _ _ (by decide) h.y.le,h.q.le⟩⟩
end
def eU(l m:Ln):Rat:=l.1*m.2.1-m.1*l.2.1
def pC(l m:Ln):Rat:=l.2.2*m.2.1-m.2.2*l.2.1
def pS(l m:Ln):Rat:=l.1*m.2.2-m.1*l.2.2
def re(l m:Ln):List Pt:=bif !D' (eU l m=0)then [atP (pC l m/eU l m,pS l m/eU l m)]else []
def Tj(l m:Ln):Int:=bif !D' (eU l m=0)then 0 else bif D' (pC l m=0)&&D' (pS l m=0)then 10 else 0
def cG(l:Ln):Rat:=l.1*l.1+l.2.1*l.2.1
def vlL(l:Ln)(x y:Rat):Rat:=l.1*x+l.2.1*y-l.2.2
def jC(l c:Ln):Rat:=cG l*c.2.2-vlL l c.1 c.2.1*vlL l c.1 c.2.1
def mh(ax bx ay b_ c:Rat):Pt:=bif eH c then atP (ax+bx*rtQ c,ay+b_*rtQ c)else(ax,bx,ay,b_,c)
def ftX(l c:Ln):Rat:=c.1-vlL l c.1 c.2.1/cG l*l.1
def ftY(l c:Ln):Rat:=c.2.1-vlL l c.1 c.2.1/cG l*l.2.1
def sY(l c:Ln):Pt:=mh (ftX l c) (-(l.2.1/cG l)) (ftY l c) (-(-l.1/cG l)) (jC l c)
def uj(l c:Ln):Pt:=mh (ftX l c) (l.2.1/cG l) (ftY l c) (-l.1/cG l) (jC l c)
def rK(l c:Ln):List Pt:=bif D' (jC l c<0)then []else bif D' (jC l c=0)then [atP (ftX l c,ftY l c)]
 else bif D' (aB (sY l c) (uj l c)>0)then [uj l c,sY l c]else [sY l c,uj l c]
def jQ(c d:Ln):Bool:=D' (c.1=d.1)&&D' (c.2.1=d.2.1)
def rH(c:Ln):Rat:=c.1*c.1+c.2.1*c.2.1-c.2.2
def pL(c d:Ln):Ln:=(2*(d.1-c.1),2*(d.2.1-c.2.1),rH d-rH c)
def E7(c d:Ln):List Pt:=bif jQ c d then []else rK (pL c d) c
def VE(c d:Ln):Int:=bif jQ c d then(bif D' (c.2.2=d.2.2)then 10 else 0)else 0
def wC(c d:Ln):BO3:=bif jQ c d then o00 else enc (pL c d)
def Vm(c d:Ln):Int:=bif jQ c d then 6 else 0
def pZ(l m:Ln):Bool:=D' (l.1*m.2.1=l.2.1*m.1)&&(D' (l.1*m.2.2=l.2.2*m.1)&&D' (l.2.1*m.2.2=l.2.2*m.2.1))
def qY(c d:Ln):Bool:=D' (c.1=d.1)&&(D' (c.2.1=d.2.1)&&D' (c.2.2=d.2.2))
def cO(a b:Cv):Bool:=bif a.1==b.1 then(bif a.1 then qY (ciC a) (ciC b)else pZ (lnC a) (lnC b))else F'
def GC(a:BCU):Prop:=(a.1=T'->bK a.2.2.1)/\(a.1=F'->cJ a.2.1)
instance (a:BCU):Decidable (GC a):=by unfold GC;infer_instance
def fx(a b:BCU):Prop:=GC a/\GC b
instance (a b:BCU):Decidable (fx a b):=by unfold fx;infer_instance
def wA(a b:Cv):List Pt:=bif a.1&&b.1 then E7 (ciC a) (ciC b)else bif a.1 then rK (lnC b) (ciC a)else bif b.1 then rK (lnC a) (ciC b)else re (lnC a) (lnC b)
def abH(a b:Cv):Int:=bif a.1&&b.1 then VE (ciC a) (ciC b)else bif a.1 then 0 else bif b.1 then 0 else Tj (lnC a) (lnC b)
def da(c:Ln):Pt:=mh c.1 (-1) c.2.1 0 c.2.2
def dp(c:Ln):Pt:=mh c.1 1 c.2.1 0 c.2.2
theorem mo{ax bx ay b_ c:Rat}(h0:¬(bx=0/\b_=0))(hc:0<=c):Rpd (mh ax bx ay b_ c):=by
 refine⟨?_⟩;unfold mh;cases hq:eH c
 ·exact .inr ⟨h0,JV hc hq,hq⟩
 ·exact .inl ⟨rfl,rfl,rfl⟩
theorem Da{ax bx ay b_ c:Rat}{j k m:Nat}(h1:Bd ax j)(h2:Bd bx k)(h3:Bd ay j)(h4:Bd b_ k)(h5:Bd c m){n:Nat}(hn:j+(k+m)+1<=n):Bd (mh ax bx ay b_ c) n:=by
 have z:bdR n 0:=ce ue.le (by omega);have i1:Bd (ax+bx*rtQ c) _:=inferInstance;have i2:Bd (ay+b_*rtQ c) _:=inferInstance;refine⟨?_⟩;unfold mh;cases eH c
 ·exact⟨ce h1.le (by omega),ce h2.le (by omega),ce h3.le (by omega),ce h4.le (by omega),ce h5.le (by omega)⟩
 ·exact⟨ce i1.le (by omega),z,ce i2.le (by omega),z,z⟩
section
variable {l m c d:Ln}
theorem o0(h:l.1≠0\/l.2.1≠0):cG l≠0:=JZ h
instance anc [BdL l] [h:BdC c]:Bd (jC l c) 257:=by
 have hx:=h.x;have hy:=h.y;have hq:=h.q;have i1:Bd (cG l) 49:=inferInstanceAs (Bd (l.1*l.1+l.2.1*l.2.1) _);have i2:Bd (vlL l c.1 c.2.1) 97:=inferInstanceAs (Bd (l.1*c.1+l.2.1*c.2.1-l.2.2) _);exact(inferInstance:Bd (cG l*c.2.2-vlL l c.1 c.2.1*vlL l c.1 c.2.1) _).mono (by decide)
theorem u9 [BdL l][h:BdC c]:Bd (ftX l c) 163/\Bd (ftY l c) 163/\Bd (l.2.1/cG l) 61/\Bd (l.1/cG l) 61:=by
 have hx:=h.x;have hy:=h.y;have i1:Bd (cG l) 49:=inferInstanceAs (Bd (l.1*l.1+l.2.1*l.2.1) _);have i2:Bd (vlL l c.1 c.2.1) 97:=inferInstanceAs (Bd (l.1*c.1+l.2.1*c.2.1-l.2.2) _);have i3:Bd (c.1-vlL l c.1 c.2.1/cG l*l.1) _:=inferInstance;have i4:Bd (c.2.1-vlL l c.1 c.2.1/cG l*l.2.1) _:=inferInstance;have i5:Bd (l.2.1/cG l) _:=inferInstance;have i6:Bd (l.1/cG l) _:=inferInstance;exact⟨i3.mono (by decide),i4.mono (by decide),i5.mono (by decide),i6.mono (by decide)⟩
end
end
section
theorem Mk(a b:Rat):((av a,av b):BV)=enc ((a,b):Rat×Rat):=nr rfl
theorem Qw{q:Rat}(h:¬q<0)(h':¬q=0):0<q:=by grind
theorem rdl{l:Ln}(h:cG l≠0)(hl:l.1≠0\/l.2.1≠0):¬(l.2.1/cG l=0/\ -l.1/cG l=0):=by
 intro ⟨h1,h2⟩
 have m:∀a:Rat,a/cG l=0->a=0:=λa e=>by
  have:a/cG l*cG l=a:=app h;rw[e,aqP]at this;exact this.symm
 have:=m _ h1;have:=m _ h2;rcases hl with h|h<;>grind
section
variable {l c:Ln}
theorem Nl(hl:l.1≠0\/l.2.1≠0)(h0:0<=jC l c):Rpd (sY l c)/\Rpd (uj l c):=by
 have hn:=o0 hl;refine⟨mo (λh=>rdl hn hl ⟨by grind,by grind⟩) h0,mo (rdl hn hl) h0⟩
theorem Pu [BdL l][BdC c]:Bd (sY l c) 490/\Bd (uj l c) 490:=by
 obtain⟨h1,h2,h3,h4⟩:=u9 (l:=l) (c:=c);have h5:Bd (jC l c) 257:=inferInstance;have n1:Bd (-(l.2.1/cG l)) 61:=inferInstance;have i1:Bd (cG l) 49:=inferInstanceAs (Bd (l.1*l.1+l.2.1*l.2.1) _);have n2:Bd (-l.1/cG l) 61:=(inferInstance:Bd (-l.1/cG l) _)
 have n3:Bd (-(-l.1/cG l)) 61:=inferInstance;exact⟨Da h1 n1 h2 n3 h5 (by decide),Da h1 h3 h2 n2 h5 (by decide)⟩
end
theorem Eb{c d:Ln}[BdC c][BdC d]:BdL (pL c d):=by
 have b2:Bd (2:Rat) 3:=dQ (n:=2) (by decide);have f1:Bd (rH c) 31:=(inferInstance:Bd (c.1*c.1+c.2.1*c.2.1-c.2.2) _).mono (by decide);have f2:Bd (rH d) 31:=(inferInstance:Bd (d.1*d.1+d.2.1*d.2.1-d.2.2) _).mono (by decide);have g1:Bd (2*(d.1-c.1)) _:=inferInstance;have g2:Bd (2*(d.2.1-c.2.1)) _:=inferInstance;have g3:Bd (rH d-rH c) _:=inferInstance;exact⟨g1.mono (by decide),g2.mono (by decide),g3.mono (by decide)⟩
theorem Io{c d:Ln}(h:jQ c d=F'):(pL c d).1≠0\/(pL c d).2.1≠0:=by
 unfold jQ at h;unfold pL;dsimp only;by_cases h1:c.1=d.1
 ·rw[anO h1,apo]at h;have:=aoF h;right;grind
 ·left;grind
theorem OQ{c d:Ln}[BdC c][BdC d](h:jQ c d=F'):cJ (enc (pL c d)):=ms (h:=Eb) (Io h)
def wd:List En:=[enT mf,enL lj,enL vi,enL xy,enL rV,enT vH,enL mw,enL xF,enL G8,enL rO,enT sA,enL H8]
def ahe:Cn 322 [tR,tR]:=cn λ(a b:BR)=>lf (okR a/\okR b) [.d tR (av (ag a+ag b))] λh=>qT [RV.d tR (hAd a b)] (eT wd) h
def aiV:Cn 335 [tR,tR]:=cn λ(a b:BR)=>lf (okR a/\okR b) [.d tR (av (ag a-ag b))] λh=>qT [RV.d tR (hSu a b)] (eT wd) h
def alI:Cn 323 [tR,tR]:=cn λ(a b:BR)=>lf (okR a/\okR b) [.d tR (av (ag a*ag b))] λh=>qT [RV.d tR (hMu a b)] (eT wd) h
def ali:Cn 281 [tR]:=cn λ(a:BR)=>lf (okR a) [.d tR (av (-ag a))] λh=>qT [RV.d tR (hNe a)] (eT wd) h
def ak6:Cn 333 [tR,tR]:=cn λ(a b:BR)=>lf (jX a b) [.d tR (av (ag a/ag b))] λh=>qT [RV.d tR (hDi a b)] (eT wd) h
def NM(l m:BO3)(_k:KT):OLR:=og (o2 l.1 m.2.1) (og (o2 l.2.1 m.1) (og (o2 (hMu l.1 m.2.1) (hMu l.2.1 m.1)) (match(aD (ag (hMu l.1 m.2.1)) (ag (hMu l.2.1 m.1)))==0 with|T'=>(og (o2 l.1 m.2.2) (og (o2 l.2.2 m.1) (og (o2 (hMu l.1 m.2.2) (hMu l.2.2 m.1)) (match(aD (ag (hMu l.1 m.2.2)) (ag (hMu l.2.2 m.1)))==0 with|T'=>(og (o2 l.2.1 m.2.2) (og (o2 l.2.2 m.2.1) (og (o2 (hMu l.2.1 m.2.2) (hMu l.2.2 m.2.1)) (S' [RV.d .bool ((aD (ag (hMu l.2.1 m.2.2)) (ag (hMu l.2.2 m.2.1)))==0)]))))|F'=>S' [RV.d .bool F']))))|F'=>S' [RV.d .bool F'])))
def afF:Cn 211 [tO,tO]:=cn λ(l m:BO3)=>lf (cJ l/\cJ m) [.d .bool (pZ (dec l) (dec m))] λh=>by
 refine aA wd (NM l m) ⟨0,?_⟩;obtain⟨hl,hm⟩:=h;obtain⟨l,rfl,bl,nl⟩:=dU hl;obtain⟨m,rfl,bm,nm⟩:=dU hm;unfold NM pZ;simp only[aX,Nat.reduceAdd,Nat.reduceLeDiff,am];cases D' (l.1*m.2.1=l.2.1*m.1)<;>cases D' (l.1*m.2.2=l.2.2*m.1)<;>rfl
def Rz(c d:BO3)(_k:KT):OLR:=og (o2 c.1 d.1) (match(aD (ag c.1) (ag d.1))==0 with|T'=>(og (o2 c.2.1 d.2.1) (match(aD (ag c.2.1) (ag d.2.1))==0 with|T'=>(og (o2 c.2.2 d.2.2) (S' [RV.d .bool ((aD (ag c.2.2) (ag d.2.2))==0)]))|F'=>S' [RV.d .bool F']))|F'=>S' [RV.d .bool F'])
def acH:Cn 210 [tO,tO]:=cn λ(c d:BO3)=>lf (bK c/\bK d) [.d .bool (qY (dec c) (dec d))] λh=>by
 refine aA wd (Rz c d) ⟨0,?_⟩;obtain⟨hc,hd⟩:=h;obtain⟨c,rfl,bc,nc⟩:=b9 hc;obtain⟨d,rfl,bd,nd⟩:=b9 hd;unfold Rz qY;simp only[aX,Nat.reduceLeDiff,am];cases D' (c.1=d.1)<;>cases D' (c.2.1=d.2.1)<;>rfl
def Ax:List En:=enL ahe::enL aiV::enL alI::enL ali::enL ak6::wd
def Yy(l m:BO3)(_k:KT):OLR:=og (o2 l.1 m.2.1) (og (o2 m.1 l.2.1) (og (o2 (hMu l.1 m.2.1) (hMu m.1 l.2.1)) (S' [RV.d tR (hSu (hMu l.1 m.2.1) (hMu m.1 l.2.1))])))
def aiN:Cn 336 [tO,tO]:=cn λ(l m:BO3)=>lf (cJ l/\cJ m) [.d tR (av (eU (dec l) (dec m)))] λh=>by
 refine aA Ax (Yy l m) ⟨0,?_⟩;obtain⟨hl,hm⟩:=h;obtain⟨l,rfl,bl,nl⟩:=dU hl;obtain⟨m,rfl,bm,nm⟩:=dU hm;unfold Yy eU;simp only[aX,Nat.reduceAdd,Nat.reduceLeDiff]
def Yo(l:BO3)(_k:KT):OLR:=og (o2 l.1 l.1) (og (o2 l.2.1 l.2.1) (og (o2 (hMu l.1 l.1) (hMu l.2.1 l.2.1)) (S' [RV.d tR (hAd (hMu l.1 l.1) (hMu l.2.1 l.2.1))])))
def amj:Cn 332 [tO]:=cn λ(l:BO3)=>lf (cJ l) [.d tR (av (cG (dec l)))] λh=>by
 refine aA Ax (Yo l) ⟨0,?_⟩;have hl:=h;obtain⟨l,rfl,bl,nl⟩:=dU hl;unfold Yo cG;simp only[aX,Nat.reduceAdd,Nat.reduceLeDiff]
def aaU(l:BO3)(x y:BR)(_k:KT):OLR:=og (o2 l.1 x) (og (o2 l.2.1 y) (og (o2 (hMu l.1 x) (hMu l.2.1 y)) (og (o2 (hAd (hMu l.1 x) (hMu l.2.1 y)) l.2.2) (S' [RV.d tR (hSu (hAd (hMu l.1 x) (hMu l.2.1 y)) l.2.2)]))))
def ai5:Cn 334 [tO,tR,tR]:=cn λ(l:BO3) (x y:BR)=>lf (cJ l/\ok Rat 4 x/\ok Rat 4 y) [.d tR (av (vlL (dec l) (ag x) (ag y)))] λh=>by
 refine aA Ax (aaU l x y) ⟨0,?_⟩;obtain⟨hl,hx,hy⟩:=h;obtain⟨l,rfl,bl,nl⟩:=dU hl;obtain⟨x,rfl,bx⟩:=aL hx;obtain⟨y,rfl,b_y⟩:=aL hy;unfold aaU vlL;simp only[aX,Nat.reduceAdd,Nat.reduceLeDiff]
def Yf(c d:BO3)(_k:KT):OLR:=og (o2 c.1 d.1) (match(aD (ag c.1) (ag d.1))==0 with|T'=>(og (o2 c.2.1 d.2.1) (S' [RV.d .bool ((aD (ag c.2.1) (ag d.2.1))==0)]))|F'=>S' [RV.d .bool F'])
def alx:Cn 329 [tO,tO]:=cn λ(c d:BO3)=>lf (bK c/\bK d) [.d .bool (jQ (dec c) (dec d))] λh=>by
 refine aA Ax (Yf c d) ⟨0,?_⟩;obtain⟨hc,hd⟩:=h;obtain⟨c,rfl,bc,nc⟩:=b9 hc;obtain⟨d,rfl,bd,nd⟩:=b9 hd;unfold Yf jQ;simp only[aX,Nat.reduceLeDiff,am];cases D' (c.1=d.1)<;>rfl
def Zf(a b c d e:BR)(_k:KT):OLR:=og (o1 e) (match eH (ag e)with|T'=>(og (o2 b (hid (rtB (ag e)))) (og (o2 a (hMu b (hid (rtB (ag e))))) (og (o2 d (hid (rtB (ag e)))) (og (o2 c (hMu d (hid (rtB (ag e))))) (og (D' (ok (Rat×Rat) 100000 (hAd a (hMu b (hid (rtB (ag e)))),hAd c (hMu d (hid (rtB (ag e))))))) (S' [RV.d tP (hid (enc (atP (dec (hAd a (hMu b (hid (rtB (ag e)))),hAd c (hMu d (hid (rtB (ag e)))))))))]))))))|F'=>S' [RV.d tP (a,(b,(c,(d,e))))])
def aln:Cn 280 [tR,tR,tR,tR,tR]:=cn λ(a b c d e:BR)=>lf (ok Rat 1000 a/\ok Rat 1000 b/\ok Rat 1000 c/\ok Rat 1000 d/\ok Rat 1000 e) [.d tP (enc (mh (ag a) (ag b) (ag c) (ag d) (ag e)))] λh=>by
 refine aA Ax (Zf a b c d e) ⟨0,?_⟩;obtain⟨ha,hb,hc,hd,he⟩:=h;obtain⟨a,rfl,ba⟩:=aL ha;obtain⟨b,rfl,bb⟩:=aL hb;obtain⟨c,rfl,bc⟩:=aL hc;obtain⟨d,rfl,bd⟩:=aL hd;obtain⟨e,rfl,be⟩:=aL he;unfold Zf mh;simp only[aX,Nat.reduceLeDiff];cases hq:eH e
 ·rfl
 ·rw[PV hq];simp only[aX,Nat.reduceAdd,Nat.reduceLeDiff,Mk];try rfl
def GD:List En:=enL aiN::enL amj::enL ai5::enT alx::enL aln::Ax
def aa1(l m:BO3)(_k:KT):OLR:=og (D' (cJ l/\cJ m)) (og (o2 l.2.2 m.2.1) (og (o2 m.2.2 l.2.1) (og (o2 (hMu l.2.2 m.2.1) (hMu m.2.2 l.2.1)) (og (o2 l.1 m.2.2) (og (o2 m.1 l.2.2) (og (o2 (hMu l.1 m.2.2) (hMu m.1 l.2.2)) (og (o1 (hid (av (eU (dec l) (dec m))))) (match(aD (ag (hid (av (eU (dec l) (dec m))))) 0) !=0 with|T'=>(og (D' (jX (hSu (hMu l.2.2 m.2.1) (hMu m.2.2 l.2.1)) (hid (av (eU (dec l) (dec m)))))) (og (D' (jX (hSu (hMu l.1 m.2.2) (hMu m.1 l.2.2)) (hid (av (eU (dec l) (dec m)))))) (og (D' (ok (Rat×Rat) 100000 (hDi (hSu (hMu l.2.2 m.2.1) (hMu m.2.2 l.2.1)) (hid (av (eU (dec l) (dec m)))),hDi (hSu (hMu l.1 m.2.2) (hMu m.1 l.2.2)) (hid (av (eU (dec l) (dec m))))))) (S' [RV.d (.sl tP) ([hid (enc (atP (dec (hDi (hSu (hMu l.2.2 m.2.1) (hMu m.2.2 l.2.1)) (hid (av (eU (dec l) (dec m)))),hDi (hSu (hMu l.1 m.2.2) (hMu m.1 l.2.2)) (hid (av (eU (dec l) (dec m))))))))]),RV.d arf 0]))))|F'=>(og (o1 (hSu (hMu l.2.2 m.2.1) (hMu m.2.2 l.2.1))) (match(aD (ag (hSu (hMu l.2.2 m.2.1) (hMu m.2.2 l.2.1))) 0)==0 with|T'=>(og (o1 (hSu (hMu l.1 m.2.2) (hMu m.1 l.2.2))) (match(aD (ag (hSu (hMu l.1 m.2.2) (hMu m.1 l.2.2))) 0)==0 with|T'=>S' [RV.d (.sl tP) ([]),RV.d arf 10]|F'=>S' [RV.d (.sl tP) ([]),RV.d arf 0]))|F'=>S' [RV.d (.sl tP) ([]),RV.d arf 0]))))))))))
def abt:Cn 286 [tO,tO]:=cn λ(l m:BO3)=>lf (cJ l/\cJ m) [.d (.sl tP) ((re (dec l) (dec m)).map enc),.d arf (Tj (dec l) (dec m))] λh=>by
 refine aA GD (aa1 l m) ⟨0,?_⟩;obtain⟨hl,hm⟩:=h;obtain⟨l,rfl,bl,nl⟩:=dU hl;obtain⟨m,rfl,bm,nm⟩:=dU hm;have ol:=anO (ms (l:=l) nl);have om:=anO (ms (l:=m) nm);have bc:Bd (eU l m) 49:=inferInstanceAs (Bd (l.1*m.2.1-m.1*l.2.1) _);have e1:l.2.2*m.2.1-m.2.2*l.2.1=pC l m:=rfl;have e2:l.1*m.2.2-m.1*l.2.2=pS l m:=rfl;unfold aa1 re Tj;simp only[aX,Nat.reduceAdd,Nat.reduceLeDiff,am,bg,ol,om];by_cases h0:eU l m=0
 ·simp only[anO h0,e1,e2,Bool.not_true];cases D' (pC l m=0)<;>cases D' (pS l m=0)<;>rfl
 ·simp only[aX,Nat.reduceAdd,Nat.reduceLeDiff,h0,ne_eq,apk,Bool.not_false,Mk];rfl
def XP(l c:BO3)(_k:KT):OLR:=og (D' (cJ l/\ok Rat 4 c.1/\ok Rat 4 c.2.1)) (og (D' (cJ l)) (og (o2 (hid (av (cG (dec l)))) c.2.2) (og (o2 (hid (av (vlL (dec l) (ag c.1) (ag c.2.1)))) (hid (av (vlL (dec l) (ag c.1) (ag c.2.1))))) (og (o2 (hMu (hid (av (cG (dec l)))) c.2.2) (hMu (hid (av (vlL (dec l) (ag c.1) (ag c.2.1)))) (hid (av (vlL (dec l) (ag c.1) (ag c.2.1)))))) (S' [RV.d tR (hSu (hMu (hid (av (cG (dec l)))) c.2.2) (hMu (hid (av (vlL (dec l) (ag c.1) (ag c.2.1)))) (hid (av (vlL (dec l) (ag c.1) (ag c.2.1))))))])))))
def ajt:Cn 331 [tO,tO]:=cn λ(l c:BO3)=>lf (cJ l/\bK c) [.d tR (av (jC (dec l) (dec c)))] λh=>by
 refine aA GD (XP l c) ⟨0,?_⟩;obtain⟨hl,hc⟩:=h;obtain⟨l,rfl,bl,nl⟩:=dU hl;obtain⟨c,rfl,bc,nc⟩:=b9 hc;have ol:=anO (ms (l:=l) nl);have bv:Bd (vlL l c.1 c.2.1) 97:=inferInstanceAs (Bd (l.1*c.1+l.2.1*c.2.1-l.2.2) _);have bn:Bd (cG l) 49:=inferInstanceAs (Bd (l.1*l.1+l.2.1*l.2.1) _);unfold XP jC;simp only[aX,Nat.reduceAdd,Nat.reduceLeDiff,ol]
def X6(c d:BO3)(_k:KT):OLR:=og (D' (bK c/\bK d)) (match jQ (dec c) (dec d)with|T'=>S' [RV.d tO (((F',[]),(F',[])),(((F',[]),(F',[])),((F',[]),(F',[])))),RV.d arf 6]|F'=>(og (D' (bH (2:Int))) (og (o2 c.1 c.1) (og (o2 c.2.1 c.2.1) (og (o2 (hMu c.1 c.1) (hMu c.2.1 c.2.1)) (og (o2 (hAd (hMu c.1 c.1) (hMu c.2.1 c.2.1)) c.2.2) (og (o2 d.1 d.1) (og (o2 d.2.1 d.2.1) (og (o2 (hMu d.1 d.1) (hMu d.2.1 d.2.1)) (og (o2 (hAd (hMu d.1 d.1) (hMu d.2.1 d.2.1)) d.2.2) (og (o2 d.1 c.1) (og (o2 (hid (av ((2:Int):Rat))) (hSu d.1 c.1)) (og (o2 d.2.1 c.2.1) (og (o2 (hid (av ((2:Int):Rat))) (hSu d.2.1 c.2.1)) (og (o2 (hSu (hAd (hMu d.1 d.1) (hMu d.2.1 d.2.1)) d.2.2) (hSu (hAd (hMu c.1 c.1) (hMu c.2.1 c.2.1)) c.2.2)) (S' [RV.d tO (hMu (hid (av ((2:Int):Rat))) (hSu d.1 c.1),(hMu (hid (av ((2:Int):Rat))) (hSu d.2.1 c.2.1),hSu (hSu (hAd (hMu d.1 d.1) (hMu d.2.1 d.2.1)) d.2.2) (hSu (hAd (hMu c.1 c.1) (hMu c.2.1 c.2.1)) c.2.2))),RV.d arf 0]))))))))))))))))
def akG:Cn 330 [tO,tO]:=cn λ(c d:BO3)=>lf (bK c/\bK d) [.d tO (wC (dec c) (dec d)),.d arf (Vm (dec c) (dec d))] λh=>by
 refine aA GD (X6 c d) ⟨0,?_⟩;obtain⟨hc,hd⟩:=h;obtain⟨c,rfl,bc,nc⟩:=b9 hc;obtain⟨d,rfl,bd,nd⟩:=b9 hd;have oc:=anO (jM (c:=c) nc);have od:=anO (jM (c:=d) nd);have i2:D' (bH 2)=true:=by decide
 have b2:Bd ((2:Int):Rat) 3:=dQ (by decide);unfold X6 wC Vm;simp only[aX,Nat.reduceAdd,Nat.reduceLeDiff,oc,od,i2];cases jQ c d
 ·rfl
 ·rfl
def X3(c:BO3)(_k:KT):OLR:=og (D' (bH (1:Int))) (og (D' (bH (0:Int))) (og (o1 (hid (av ((1:Int):Rat)))) (og (D' (ok Rat 1000 c.1/\ok Rat 1000 (hNe (hid (av ((1:Int):Rat))))/\ok Rat 1000 c.2.1/\ok Rat 1000 (hid (av ((0:Int):Rat)))/\ok Rat 1000 c.2.2)) (og (D' (ok Rat 1000 c.1/\ok Rat 1000 (hid (av ((1:Int):Rat)))/\ok Rat 1000 c.2.1/\ok Rat 1000 (hid (av ((0:Int):Rat)))/\ok Rat 1000 c.2.2)) (S' [RV.d tP (hid (enc (mh (ag c.1) (ag (hNe (hid (av ((1:Int):Rat))))) (ag c.2.1) (ag (hid (av ((0:Int):Rat)))) (ag c.2.2)))),RV.d tP (hid (enc (mh (ag c.1) (ag (hid (av ((1:Int):Rat)))) (ag c.2.1) (ag (hid (av ((0:Int):Rat)))) (ag c.2.2))))])))))
def QL:Cn 208 [tO]:=cn λ(c:BO3)=>lf (bK c) [.d tP (enc (da (dec c))),.d tP (enc (dp (dec c)))] λh=>by
 refine aA GD (X3 c) ⟨0,?_⟩;have hc:=h;obtain⟨c,rfl,bc,nc⟩:=b9 hc;have b0:Bd ((0:Int):Rat) 3:=dQ (by decide);have b1:Bd ((1:Int):Rat) 3:=dQ (by decide);have i0:D' (bH 0)=true:=by decide
 have i1:D' (bH 1)=true:=by decide
 unfold X3 da dp;simp only[aX,Nat.reduceLeDiff,i0,i1];rfl
def RZ:List En:=enL abt::enL ajt::enL akG::enL QL::GD
def akd:Ctx:=CX (ens RZ) []
def ZR(l c:BO3)(_k:KT):OLR:=let y1:=hid (av (jC (dec l) (dec c)));let y2:=hid (av (vlL (dec l) (ag c.1) (ag c.2.1)));let y3:=hid (av (cG (dec l)));let y4:=hMu (hDi y2 y3) l.1;let y5:=hMu (hDi y2 y3) l.2.1;let y6:=hDi (hNe l.1) y3;let y7:=hNe (hDi l.2.1 y3);let y8:=ag (hSu c.2.1 y5);let y9:=enc (mh (ag (hSu c.1 y4)) (ag y7) y8 (ag (hNe y6)) (ag y1));let y10:=enc (mh (ag (hSu c.1 y4)) (ag (hDi l.2.1 y3)) y8 (ag y6) (ag y1));og (D' (cJ l/\bK c)) (og (D' (cJ l)) (og (o1 y1) (match D' ((aD (ag y1) 0)<0)with|T'=>S' [RV.new 40 tP []]|F'=>(og (D' (cJ l/\ok Rat 4 c.1/\ok Rat 4 c.2.1)) (og (D' (jX y2 y3)) (og (o2 (hDi y2 y3) l.1) (og (o2 c.1 y4) (og (o2 (hDi y2 y3) l.2.1) (og (o2 c.2.1 y5) (og (o1 y1) (match(aD (ag y1) 0)==0 with|T'=>(og (D' (ok (Rat×Rat) 100000 (hSu c.1 y4,hSu c.2.1 y5))) (S' [RV.new 40 tP ([hid (enc (atP (dec (hSu c.1 y4,hSu c.2.1 y5))))])]))|F'=>(og (D' (jX l.2.1 y3)) (og (o1 l.1) (og (D' (jX (hNe l.1) y3)) (og (o1 (hDi l.2.1 y3)) (og (o1 y6) (og (D' (ok Rat 1000 (hSu c.1 y4)/\ok Rat 1000 y7/\ok Rat 1000 (hSu c.2.1 y5)/\ok Rat 1000 (hNe y6)/\ok Rat 1000 y1)) (og (D' (ok Rat 1000 (hSu c.1 y4)/\ok Rat 1000 (hDi l.2.1 y3)/\ok Rat 1000 (hSu c.2.1 y5)/\ok Rat 1000 y6/\ok Rat 1000 y1)) (og (D' (okP 4000 (hid y9)/\okP 4000 (hid y10))) (match D' ((aB (dec (hid y9)) (dec (hid y10)))>0)with|T'=>S' [RV.new 40 tP ([hid y10,hid y9])]|F'=>S' [RV.new 40 tP ([hid y9,hid y10])]))))))))))))))))))))
theorem aj0(l c:BO3):RS akd 285 [.d tO l,.d tO c] (ZR l c):=rsX
def abO:Cn 285 [tO,tO]:=cn λ(l c:BO3)=>lf (cJ l/\bK c) [.d (.sl tP) ((rK (dec l) (dec c)).map enc)] λh=>by
 refine Con.new_d (et:=40) (bj RZ (aj0 _ _ ⟨0,?_⟩));obtain⟨hl,hc⟩:=h;obtain⟨l,rfl,bl,nl⟩:=dU hl;obtain⟨c,rfl,bc,nc⟩:=b9 hc;have ol:=anO (ms (l:=l) nl);have oc:=anO (jM (c:=c) nc);have hn:=o0 nl;have bv:Bd (vlL l c.1 c.2.1) 97:=inferInstanceAs (Bd (l.1*c.1+l.2.1*c.2.1-l.2.2) _);have bn:Bd (cG l) 49:=inferInstanceAs (Bd (l.1*l.1+l.2.1*l.2.1) _);have e1:c.1-vlL l c.1 c.2.1/cG l*l.1=ftX l c:=rfl;have e2:c.2.1-vlL l c.1 c.2.1/cG l*l.2.1=ftY l c:=rfl;obtain⟨f1,f2,_,_⟩:=u9 (l:=l) (c:=c);unfold ZR rK;simp only[aX,Nat.reduceAdd,Nat.reduceLeDiff,am,ao,ol,oc,hn,ne_eq,apk,e1,e2,Mk];by_cases h0:jC l c<0
 ·simp only[anO h0];rfl
 ·simp only[anQ h0];by_cases h1:jC l c=0
  ·simp only[anO h1];rfl
  ·have hp:=Qw h0 h1;obtain⟨p1,p2⟩:=Nl (c:=c) nl (show 0<=jC l c by grind);obtain⟨q1,q2⟩:=Pu (l:=l) (c:=c);have g1:mh (ftX l c) (-(l.2.1/cG l)) (ftY l c) (-(-l.1/cG l)) (jC l c)=sY l c:=rfl;have g2:mh (ftX l c) (l.2.1/cG l) (ftY l c) (-l.1/cG l) (jC l c)=uj l c:=rfl;simp only[anQ h1,aX,Nat.reduceLeDiff,aN,g1,g2];cases D' (aB (sY l c) (uj l c)>0)<;>rfl
def akr:List En:=enL abO::RZ
def YH(c d:BO3)(_k:KT):OLR:=og (D' (bK c/\bK d)) (match jQ (dec c) (dec d)with|T'=>(og (o2 c.2.2 d.2.2) (match(aD (ag c.2.2) (ag d.2.2))==0 with|T'=>S' [RV.d (.sl tP) ([]),RV.d arf 10]|F'=>S' [RV.d (.sl tP) ([]),RV.d arf 0]))|F'=>(og (D' (bK c/\bK d)) (og (D' (cJ (hid (wC (dec c) (dec d)))/\bK c)) (S' [RV.d (.sl tP) ((rK (dec (hid (wC (dec c) (dec d)))) (dec c)).map enc),RV.d arf 0]))))
def ahg:Cn 284 [tO,tO]:=cn λ(c d:BO3)=>lf (bK c/\bK d) [.d (.sl tP) ((E7 (dec c) (dec d)).map enc),.d arf (VE (dec c) (dec d))] λh=>by
 refine aA akr (YH c d) ⟨0,?_⟩;obtain⟨hc,hd⟩:=h;obtain⟨c,rfl,bc,nc⟩:=b9 hc;obtain⟨d,rfl,bd,nd⟩:=b9 hd;have oc:=anO (jM (c:=c) nc);have od:=anO (jM (c:=d) nd);unfold YH E7 VE;simp only[aX,Nat.reduceLeDiff,am,oc,od];cases hc:jQ c d
 ·have ol:cJ (enc (pL c d)):=OQ hc;have er:wC c d=enc (pL c d):=by unfold wC;rw[hc];rfl
  simp only[er,dT ol,aX];try rfl
 ·cases D' (c.2.2=d.2.2)<;>rfl
end
def mG(c:BCU):Prop:=okC 580 c/\GC c
instance (c:BCU):Decidable (mG c):=by unfold mG;infer_instance
def lw(c d:BCU):Prop:=mG c/\mG d
instance (c d:BCU):Decidable (lw c d):=by unfold lw;infer_instance
def Ez(c d:BCU):List BP:=bif !cO (dC c) (dC d)then(wA (dC c) (dC d)).map enc else [c.2.2.2.2.1,c.2.2.2.2.2,d.2.2.2.2.1,d.2.2.2.2.2]
def afs(c d:BCU):List BP:=(Ez c d).filter λp=>onR (dC c) (dec p)&&onR (dC d) (dec p)
def zv(c d:BCU):List BP:=iD (dC c) (afs c d)
def Vg(c d:BCU):Bool:=bif c.1&&(d.1&&(c.2.2.2.1 !=d.2.2.2.1))then T' else !c.1&&(aB (dec c.2.2.2.2.1) (dec c.2.2.2.2.2) !=aB (dec d.2.2.2.2.1) (dec d.2.2.2.2.2))
def Aj(c d:BCU):BCU:=bif Vg c d then gT d else d
def C5(c:Cv):List BP->Bool
 |[]=>false
 |x::r=>match r with
  |[]=>false
  |y::_=>decide (co c (dec x) (dec y)<0)||C5 c r
def agL(c d:BCU):Bool:=cO (dC c) (dC d)&&C5 (dC (Aj c d)) (zv c d)
def Ro:List En:=[enL ahg,enL abO,enL abt,enT afF,enT acH,enT Je,enT ES,enK ZI,enL JE,enT sA]
def Ox(a b:BCU)(_k:KT):OLR:=match a.1 with|T'=>(match b.1 with|T'=>(og (D' (bK a.2.2.1/\bK b.2.2.1)) (S' [RV.d (.sl tP) ((E7 (dec a.2.2.1) (dec b.2.2.1)).map enc),RV.d arf (VE (dec a.2.2.1) (dec b.2.2.1))]))|F'=>(match a.1 with|T'=>(og (D' (cJ b.2.1/\bK a.2.2.1)) (S' [RV.d (.sl tP) ((rK (dec b.2.1) (dec a.2.2.1)).map enc),RV.d arf 0]))|F'=>(match b.1 with|T'=>(og (D' (cJ a.2.1/\bK b.2.2.1)) (S' [RV.d (.sl tP) ((rK (dec a.2.1) (dec b.2.2.1)).map enc),RV.d arf 0]))|F'=>(og (D' (cJ a.2.1/\cJ b.2.1)) (S' [RV.d (.sl tP) ((re (dec a.2.1) (dec b.2.1)).map enc),RV.d arf (Tj (dec a.2.1) (dec b.2.1))])))))|F'=>(match a.1 with|T'=>(og (D' (cJ b.2.1/\bK a.2.2.1)) (S' [RV.d (.sl tP) ((rK (dec b.2.1) (dec a.2.2.1)).map enc),RV.d arf 0]))|F'=>(match b.1 with|T'=>(og (D' (cJ a.2.1/\bK b.2.2.1)) (S' [RV.d (.sl tP) ((rK (dec a.2.1) (dec b.2.2.1)).map enc),RV.d arf 0]))|F'=>(og (D' (cJ a.2.1/\cJ b.2.1)) (S' [RV.d (.sl tP) ((re (dec a.2.1) (dec b.2.1)).map enc),RV.d arf (Tj (dec a.2.1) (dec b.2.1))]))))
def agp:Cn 214 [tCU,tCU]:=cn λ(a b:BCU)=>lf (fx a b) [.d (.sl tP) ((wA (dC a) (dC b)).map enc),.d arf (abH (dC a) (dC b))] λh=>by
 refine aA Ro (Ox a b) ⟨0,?_⟩;obtain⟨⟨a1,a2⟩,b1,b2⟩:=h;unfold Ox wA abH E7;obtain⟨aa,al,ac,aw,af,at_⟩:=a;obtain⟨ba,bl,bc,bw,bf,bt⟩:=b;cases aa<;>cases ba
 ·have h1:=a2 rfl;have h2:=b2 rfl;simp only[dT (show cJ al/\cJ bl from⟨h1,h2⟩)];rfl
 ·have h1:=a2 rfl;have h2:=b1 rfl;simp only[dT (show cJ al/\bK bc from⟨h1,h2⟩)];rfl
 ·have h1:=a1 rfl;have h2:=b2 rfl;simp only[dT (show cJ bl/\bK ac from⟨h2,h1⟩)];rfl
 ·have h1:=a1 rfl;have h2:=b1 rfl;simp only[dT (show bK ac/\bK bc from⟨h1,h2⟩)];rfl
def YZ(a b:BCU)(_k:KT):OLR:=match !(a.1==b.1)with|T'=>S' [RV.d .bool F']|F'=>(match a.1 with|T'=>(og (D' (bK a.2.2.1/\bK b.2.2.1)) (S' [RV.d .bool (qY (dec a.2.2.1) (dec b.2.2.1))]))|F'=>(og (D' (cJ a.2.1/\cJ b.2.1)) (S' [RV.d .bool (pZ (dec a.2.1) (dec b.2.1))])))
def RR:Cn 136 [tCU,tCU]:=cn λ(a b:BCU)=>lf (fx a b) [.d .bool (cO (dC a) (dC b))] λh=>by
 refine aA Ro (YZ a b) ⟨0,?_⟩;obtain⟨⟨a1,a2⟩,b1,b2⟩:=h;unfold YZ cO;obtain⟨aa,al,ac,aw,af,at_⟩:=a;obtain⟨ba,bl,bc,bw,bf,bt⟩:=b;cases aa<;>cases ba
 ·have h1:=a2 rfl;have h2:=b2 rfl;simp only[dT (show cJ al/\cJ bl from⟨h1,h2⟩)];rfl
 ·rfl
 ·rfl
 ·have h1:=a1 rfl;have h2:=b1 rfl;simp only[dT (show bK ac/\bK bc from⟨h1,h2⟩)];rfl
def aae:List En:=enL agp::enT RR::Ro
def acg:NT:=[((138,18),{keep:=[2,3,6,7,8,9],own:=[(8,40,tP)],hl:=4}),((138,47),{keep:=[3,6,8,10,11],hl:=2})]
def tX:Ctx:=CX (ens aae) acg
def qG(c d:BCU)(s9:Int)(r3:List BP):Cfg:=⟨138,[.blk 0,.seq 33],[(2,.box 0 0),(3,.box 1 0),(6,SB (cO (dC c) (dC d))),(7,.d (.sl tP) ((wA (dC c) (dC d)).map enc)),(8,.own 3),(9,SI s9)],[.box 48 (Ty.split tCU c),.box 48 (Ty.split tCU d),.row 40 tP ([c.2.2.2.2.1,c.2.2.2.2.2,d.2.2.2.2.1,d.2.2.2.2.2]),.row 40 tP r3],0,[]⟩
def kG(c d:BCU)(s9:Int)(r3:List BP):Cfg:=⟨138,[.blk 0,.seq 33],[(2,.box 0 0),(3,.box 1 0),(6,SB (cO (dC c) (dC d))),(7,.own 2),(8,.own 3),(9,SI s9)],[.box 48 (Ty.split tCU c),.box 48 (Ty.split tCU d),.row 40 tP ([c.2.2.2.2.1,c.2.2.2.2.2,d.2.2.2.2.1,d.2.2.2.2.2]),.row 40 tP r3],0,[]⟩
def cV(c d:BCU)(r3:List BP)(B1:BCU)(s10:Bool)(s11:Int):Cfg:=⟨138,[.blk 2,.seq 58],[(3,.box 1 0),(6,SB (cO (dC c) (dC d))),(8,.d (.sl tP) (iD (dC c) r3)),(10,SB s10),(11,SI s11)],[.box 48 (Ty.split tCU c),.box 48 (Ty.split tCU B1)],0,[]⟩
def Tx(c d:BCU)(k:KT):OLR:=og (D' (fx c d)) (match !(cO (dC c) (dC d))with|T'=>(og (D' (fx c d)) (k 18 (qG c d 0 ([]))))|F'=>k 18 (kG c d 0 ([])))
theorem aa2(c d:BCU):RS tX 138 [.d tCU c,.d tCU d] (Tx c d):=rsX
def qp(c d:BCU)(s9:Int)(r3:List BP)(k:KT):OLR:=match D' (s9<(((wA (dC c) (dC d)).map enc).length:Int))with|T'=>(match aH ((wA (dC c) (dC d)).map enc) s9 with|S' x1=>(og (D' (okC 3500 c/\okP 3500 x1)) (match onR (dC c) (dec x1)with|T'=>(match aH ((wA (dC c) (dC d)).map enc) s9 with|S' x2=>(og (D' (okC 3500 d/\okP 3500 x2)) (match onR (dC d) (dec x2)with|T'=>(match aH ((wA (dC c) (dC d)).map enc) s9 with|S' x3=>(og (D' ((r3.length+([x3]).length)*320<=140737488355328/\r3.length+([x3]).length<=140737488355328)) (k 18 (qG c d (i64.wrap (s9+1)) (r3++([x3])))))|N'=>N')|F'=>k 18 (qG c d (i64.wrap (s9+1)) r3)))|N'=>N')|F'=>k 18 (qG c d (i64.wrap (s9+1)) r3)))|N'=>N')|F'=>(og (D' (yW c r3)) (match c.1 with|T'=>(match d.1 with|T'=>(match !(c.2.2.2.1==d.2.2.2.1)with|T'=>k 47 (cV c d r3 (hid (gT d)) F' 1)|F'=>(match !c.1 with|T'=>(og (D' (okP 4000 c.2.2.2.2.1/\okP 4000 c.2.2.2.2.2)) (og (D' (okP 4000 d.2.2.2.2.1/\okP 4000 d.2.2.2.2.2)) (match(aB (dec c.2.2.2.2.1) (dec c.2.2.2.2.2)) !=(aB (dec d.2.2.2.2.1) (dec d.2.2.2.2.2))with|T'=>k 47 (cV c d r3 (hid (gT d)) F' 1)|F'=>k 47 (cV c d r3 d F' 1))))|F'=>k 47 (cV c d r3 d F' 1)))|F'=>(match !c.1 with|T'=>(og (D' (okP 4000 c.2.2.2.2.1/\okP 4000 c.2.2.2.2.2)) (og (D' (okP 4000 d.2.2.2.2.1/\okP 4000 d.2.2.2.2.2)) (match(aB (dec c.2.2.2.2.1) (dec c.2.2.2.2.2)) !=(aB (dec d.2.2.2.2.1) (dec d.2.2.2.2.2))with|T'=>k 47 (cV c d r3 (hid (gT d)) F' 1)|F'=>k 47 (cV c d r3 d F' 1))))|F'=>k 47 (cV c d r3 d F' 1)))|F'=>(match !c.1 with|T'=>(og (D' (okP 4000 c.2.2.2.2.1/\okP 4000 c.2.2.2.2.2)) (og (D' (okP 4000 d.2.2.2.2.1/\okP 4000 d.2.2.2.2.2)) (match(aB (dec c.2.2.2.2.1) (dec c.2.2.2.2.2)) !=(aB (dec d.2.2.2.2.1) (dec d.2.2.2.2.2))with|T'=>k 47 (cV c d r3 (hid (gT d)) F' 1)|F'=>k 47 (cV c d r3 d F' 1))))|F'=>k 47 (cV c d r3 d F' 1))))
theorem uE(c d:BCU)(s9:Int)(r3:List BP):RN tX 18 (qG c d s9 r3) (qp c d s9 r3):=rnX
def lK(c d:BCU)(s9:Int)(r3:List BP)(k:KT):OLR:=match D' (s9<(([c.2.2.2.2.1,c.2.2.2.2.2,d.2.2.2.2.1,d.2.2.2.2.2]).length:Int))with|T'=>(match aH ([c.2.2.2.2.1,c.2.2.2.2.2,d.2.2.2.2.1,d.2.2.2.2.2]) s9 with|S' _=>(match T',([c.2.2.2.2.1,c.2.2.2.2.2,d.2.2.2.2.1,d.2.2.2.2.2])[(s9).toNat]? with|T',S' x1=>(og (D' (okC 3500 c/\okP 3500 x1)) (match onR (dC c) (dec x1)with|T'=>(match aH ([c.2.2.2.2.1,c.2.2.2.2.2,d.2.2.2.2.1,d.2.2.2.2.2]) s9 with|S' _=>(match T',([c.2.2.2.2.1,c.2.2.2.2.2,d.2.2.2.2.1,d.2.2.2.2.2])[(s9).toNat]? with|T',S' x2=>(og (D' (okC 3500 d/\okP 3500 x2)) (match onR (dC d) (dec x2)with|T'=>(match aH ([c.2.2.2.2.1,c.2.2.2.2.2,d.2.2.2.2.1,d.2.2.2.2.2]) s9 with|S' _=>(match T',([c.2.2.2.2.1,c.2.2.2.2.2,d.2.2.2.2.1,d.2.2.2.2.2])[(s9).toNat]? with|T',S' x3=>(og (D' ((r3.length+([x3]).length)*320<=140737488355328/\r3.length+([x3]).length<=140737488355328)) (k 18 (kG c d (i64.wrap (s9+1)) (r3++([x3])))))|_,_=>N')|N'=>N')|F'=>k 18 (kG c d (i64.wrap (s9+1)) r3)))|_,_=>N')|N'=>N')|F'=>k 18 (kG c d (i64.wrap (s9+1)) r3)))|_,_=>N')|N'=>N')|F'=>(og (D' (yW c r3)) (match c.1 with|T'=>(match d.1 with|T'=>(match !(c.2.2.2.1==d.2.2.2.1)with|T'=>k 47 (cV c d r3 (hid (gT d)) F' 1)|F'=>(match !c.1 with|T'=>(og (D' (okP 4000 c.2.2.2.2.1/\okP 4000 c.2.2.2.2.2)) (og (D' (okP 4000 d.2.2.2.2.1/\okP 4000 d.2.2.2.2.2)) (match(aB (dec c.2.2.2.2.1) (dec c.2.2.2.2.2)) !=(aB (dec d.2.2.2.2.1) (dec d.2.2.2.2.2))with|T'=>k 47 (cV c d r3 (hid (gT d)) F' 1)|F'=>k 47 (cV c d r3 d F' 1))))|F'=>k 47 (cV c d r3 d F' 1)))|F'=>(match !c.1 with|T'=>(og (D' (okP 4000 c.2.2.2.2.1/\okP 4000 c.2.2.2.2.2)) (og (D' (okP 4000 d.2.2.2.2.1/\okP 4000 d.2.2.2.2.2)) (match(aB (dec c.2.2.2.2.1) (dec c.2.2.2.2.2)) !=(aB (dec d.2.2.2.2.1) (dec d.2.2.2.2.2))with|T'=>k 47 (cV c d r3 (hid (gT d)) F' 1)|F'=>k 47 (cV c d r3 d F' 1))))|F'=>k 47 (cV c d r3 d F' 1)))|F'=>(match !c.1 with|T'=>(og (D' (okP 4000 c.2.2.2.2.1/\okP 4000 c.2.2.2.2.2)) (og (D' (okP 4000 d.2.2.2.2.1/\okP 4000 d.2.2.2.2.2)) (match(aB (dec c.2.2.2.2.1) (dec c.2.2.2.2.2)) !=(aB (dec d.2.2.2.2.1) (dec d.2.2.2.2.2))with|T'=>k 47 (cV c d r3 (hid (gT d)) F' 1)|F'=>k 47 (cV c d r3 d F' 1))))|F'=>k 47 (cV c d r3 d F' 1))))
theorem qe(c d:BCU)(s9:Int)(r3:List BP):RN tX 18 (kG c d s9 r3) (lK c d s9 r3):=rnX
def qm(c d:BCU)(r3:List BP)(B1:BCU)(s10:Bool)(s11:Int)(k:KT):OLR:=match cO (dC c) (dC d)with|T'=>(match D' (s11<((iD (dC c) r3).length:Int))with|T'=>(match s10 with|T'=>k 47 (cV c d r3 B1 T' (i64.wrap (s11+1)))|F'=>(match aH (iD (dC c) r3) (i64.wrap (s11-1))with|S' x1=>(match aH (iD (dC c) r3) s11 with|S' x2=>(og (D' (okC 4000 B1/\okP 4000 x1/\okP 4000 x2)) (k 47 (cV c d r3 B1 (D' ((co (dC B1) (dec x1) (dec x2))<0)) (i64.wrap (s11+1)))))|N'=>N')|N'=>N'))|F'=>S' [RV.d (.sl tP) (iD (dC c) r3),RV.d .bool s10])|F'=>S' [RV.d (.sl tP) (iD (dC c) r3),RV.d .bool s10]
theorem uV(c d:BCU)(r3:List BP)(B1:BCU)(s10:Bool)(s11:Int):RN tX 47 (cV c d r3 B1 s10 s11) (qm c d r3 B1 s10 s11):=rnX
theorem Se{c:Cv}{S:List BP}{i:Nat}(h1:1<=i)(hi:i<S.length):C5 c (S.drop (i-1))=(D' (co c (dec S[i-1]) (dec S[i])<0)||C5 c (S.drop i)):=by
 have hd:S.drop (i-1)=S[i-1]::S.drop i:=by
  have:=an5 (l:=S) (i:=i-1) (by omega);rw[this,show i-1+1=i by omega]
 have hd2:S.drop i=S[i]::S.drop (i+1):=an5 hi;rw[hd,hd2];rfl
theorem Xi{c:Cv}{S:List BP}(h:S.length<=1):C5 c S=false:=by
 match S,h with
 |[],_=>rfl
 |[_],_=>rfl
theorem afB(c d:BCU)(r3 S:List BP)(hS:iD (dC c) r3=S)(hl:S.length<=1000000)(ho:∀x∈S,okP 4000 x)(B:BCU)(hB:okC 4000 B):∀(j i:Nat),1<=i->i+j=max S.length 1->∀s:Bool,
  tX.Runs 47 (cV c d r3 B s (i:Int)) [.d (.sl tP) S,.d .bool (bif cO (dC c) (dC d)then s||C5 (dC B) (S.drop (i-1))else s)]:=by
 intro j;induction j with
 |zero=>
  intro i h1 hi s;refine uV _ _ _ _ _ _ ⟨0,?_⟩;unfold qm;rw[hS,a8 (by omega),Xi (by rw[aqf];omega),Bool.or_false];cases cO (dC c) (dC d)<;>rfl
 |succ j ih=>
  intro i h1 hi s;have hil:i<S.length:=by omega
  have e1:i64.wrap ((i:Int)-1)=((i-1:Nat):Int):=by rw[aM (by omega) (by omega)];omega
  have e2:i64.wrap ((i:Int)+1)=((i+1:Nat):Int):=aT (by omega);have g1:aH S ((i-1:Nat):Int)=S' S[i-1]:=by rw[ak,anN (by omega)]
  have g2:aH S (i:Int)=S' S[i]:=by rw[ak,anN hil]
  cases hs:cO (dC c) (dC d)
  ·refine uV _ _ _ _ _ _ ⟨0,?_⟩;unfold qm;rw[hS,hs];rfl
  ·obtain⟨n,hn⟩:=ih (i+1) (by omega) (by omega) (s||decide (co (dC B) (dec S[i-1]) (dec S[i])<0));refine uV _ _ _ _ _ _ ⟨n,?_⟩;unfold qm;rw[hS,hs,aO hil,e1,e2,g1,g2];dsimp only;rw[dT (show okC 4000 B/\okP 4000 S[i-1]/\okP 4000 S[i] from⟨hB,ho _ (anY _),ho _ (anY _)⟩)];rw[hs,Nat.add_sub_cancel,Bool.or_assoc,<-Se h1 hil]at hn;cases s
   ·exact hn
   ·simp only[Bool.true_or,cond_true]at hn ⊢;exact hn
theorem Lq{c:Cv}{l:List BP}{p:BP->Prop}(h:∀x∈l,p x):∀x∈iD c l,p x:=λx hx=>by
 rcases DW hx with h'|h'
 ·cases h'
 ·exact h x h'
theorem Ks(c d:BCU)(h:lw c d)(r3:List BP)(hl:r3.length<=100)(ho:∀x∈r3,okP 580 x):∃n,(match D' (yW c r3)with
  |true=>tX.k n 47 (cV c d r3 (Aj c d) false 1)
  |false=>none)=some [.d (.sl tP) (iD (dC c) r3),.d .bool (cO (dC c) (dC d)&&C5 (dC (Aj c d)) (iD (dC c) r3))]:=by
 have hs:yW c r3:=⟨bi h.1.1 (by decide) (by decide),by omega,λx hx=>aV (ho x hx) (by decide) (by decide)⟩
 have hR:okC 4000 (Aj c d):=by
  unfold Aj;have:=bi (k:=4000) h.2.1 (by decide) (by decide);cases Vg c d
  ·exact this
  ·exact Eg 4000 this
 have hlen:=wT (dC c) r3 [];obtain⟨n,hn⟩:=afB c d r3 _ rfl (by simp at hlen;unfold iD;omega) (Lq (λx hx=>aV (ho x hx) (by decide) (by decide))) (Aj c d) hR (max (iD (dC c) r3).length 1-1) 1 (anT _) (by omega) F';refine⟨n,?_⟩;rw[dT hs];refine hn.trans ?_;cases cO (dC c) (dC d)<;>rfl
theorem C8{l c:Ln}[BdL l][BdC c](hl:l.1≠0\/l.2.1≠0):(rK l c).length<=2/\∀p∈rK l c,Bd p 490/\Rpd p:=by
 unfold rK;by_cases h0:jC l c<0
 ·rw[anO h0];exact⟨by simp,λp hp=>by cases hp⟩
 ·rw[anQ h0];by_cases h1:jC l c=0
  ·rw[anO h1];obtain⟨f1,f2,_,_⟩:=u9 (l:=l) (c:=c);refine⟨by simp,λp hp=>?_⟩;have:p=atP (ftX l c,ftY l c):=by simpa using hp
   rw[this];exact⟨(inferInstance:Bd (atP (ftX l c,ftY l c)) _).mono (by decide),inferInstance⟩
  ·rw[anQ h1];obtain⟨p1,p2⟩:=Nl (c:=c) hl (show 0<=jC l c by grind);obtain⟨q1,q2⟩:=Pu (l:=l) (c:=c);cases D' (aB (sY l c) (uj l c)>0)
   ·refine⟨by simp,λp hp=>?_⟩;have:p=sY l c\/p=uj l c:=by simpa using hp
    rcases this with e|e<;>rw[e]
    ·exact⟨q1,p1⟩
    ·exact⟨q2,p2⟩
   ·refine⟨by simp,λp hp=>?_⟩;have:p=uj l c\/p=sY l c:=by simpa using hp
    rcases this with e|e<;>rw[e]
    ·exact⟨q2,p2⟩
    ·exact⟨q1,p1⟩
theorem Cf{l m:Ln}[BdL l][BdL m]:(re l m).length<=2/\∀p∈re l m,Bd p 490/\Rpd p:=by
 unfold re;cases D' (eU l m=0)
 ·have bc:Bd (eU l m) 49:=inferInstanceAs (Bd (l.1*m.2.1-m.1*l.2.1) _);have bx:Bd (pC l m) 151:=inferInstanceAs (Bd (l.2.2*m.2.1-m.2.2*l.2.1) _);have b_:Bd (pS l m) 151:=inferInstanceAs (Bd (l.1*m.2.2-m.1*l.2.2) _);refine⟨by simp,λp hp=>?_⟩;have:p=atP (pC l m/eU l m,pS l m/eU l m):=by simpa using hp
  rw[this];exact⟨(inferInstance:Bd (atP (pC l m/eU l m,pS l m/eU l m)) _).mono (by decide),inferInstance⟩
 ·exact⟨by simp,λp hp=>by cases hp⟩
theorem Wo{c d:BCU}(h:fx c d):(wA (dC c) (dC d)).length<=2/\∀p∈wA (dC c) (dC d),Bd p 490/\Rpd p:=by
 obtain⟨⟨a1,a2⟩,b1,b2⟩:=h;obtain⟨aa,al,ac,aw,af,at_⟩:=c;obtain⟨ba,bl,bc,bw,bf,bt⟩:=d
 have ex1:∀x:BO3,cJ x->BdL (dec x)/\((dec x:Ln).1≠0\/(dec x:Ln).2.1≠0):=λx h=>by
  obtain⟨l,rfl,bl,nl⟩:=dU h;rw[aq];exact⟨bl,nl⟩
 have ex2:∀x:BO3,bK x->BdC (dec x):=λx h=>by
  obtain⟨l,rfl,bl,nl⟩:=b9 h;rw[aq];exact bl
 unfold wA;cases aa<;>cases ba
 ·obtain⟨i1,_⟩:=ex1 _ (a2 rfl);obtain⟨i2,_⟩:=ex1 _ (b2 rfl);exact Cf (l:=dec al) (m:=dec bl)
 ·obtain⟨i1,n1⟩:=ex1 _ (a2 rfl);have i2:=ex2 _ (b1 rfl);exact C8 (l:=dec al) (c:=dec bc) n1
 ·have i1:=ex2 _ (a1 rfl);obtain⟨i2,n2⟩:=ex1 _ (b2 rfl);exact C8 (l:=dec bl) (c:=dec ac) n2
 ·have i1:=ex2 _ (a1 rfl);have i2:=ex2 _ (b1 rfl);show(E7 (dec ac) (dec bc)).length<=2/\∀p∈E7 (dec ac) (dec bc),Bd p 490/\Rpd p;unfold E7;cases hc:jQ (dec ac) (dec bc)
  ·have i3:BdL (pL (dec ac) (dec bc)):=Eb;exact C8 (Io hc)
  ·exact⟨by simp,λp hp=>by cases hp⟩
theorem Kk{c d:BCU}(h:lw c d):(Ez c d).length<=4/\∀x∈Ez c d,okP 580 x:=by
 obtain⟨⟨h1,h2⟩,h3,h4⟩:=h;unfold Ez;cases cO (dC c) (dC d)
 ·obtain⟨g1,g2⟩:=Wo (show fx c d from⟨h2,h4⟩);refine⟨by simp only[Bool.not_false,cond_true,apn];omega,λx hx=>?_⟩;obtain⟨p,hp,rfl⟩:=aqt.1 hx;obtain⟨b,r⟩:=g2 p hp;exact anP (aN (j:=490) (by decide) (by decide))
 ·refine⟨by simp,λx hx=>?_⟩;have:x=c.2.2.2.2.1\/x=c.2.2.2.2.2\/x=d.2.2.2.2.1\/x=d.2.2.2.2.2:=by simpa using hx
  rcases this with e|e|e|e<;>rw[e]
  ·exact h1.2.2.1
  ·exact h1.2.2.2
  ·exact h3.2.2.1
  ·exact h3.2.2.2
end Go.Proofs.YtoimchcjhdcdmaaGreat
end
