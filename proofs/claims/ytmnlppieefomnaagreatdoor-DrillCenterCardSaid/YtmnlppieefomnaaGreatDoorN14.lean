/- Points of a curve: the program's and the reference's On agree. -/
import Derived.Test.YtmnlppieefomnaaGreatDoorN13
import Derived.Test.YtmnlppieefomnaaGreatDoorN11
import Derived.Test.YtmnlppieefomnaaGreatDoorN12
noncomputable section
namespace Go.Proofs.YtmnlppieefomnaaGreatDoor
open Go.RowKit Go.IntKind
theorem amv:type_of% @List.mem_cons_of_mem:=@List.mem_cons_of_mem
theorem anR:type_of% @Rat.div_mul_cancel:=@Rat.div_mul_cancel
theorem anW:type_of% @List.not_mem_nil:=@List.not_mem_nil
theorem apb:type_of% @or_false:=@or_false
theorem apg:type_of% @Rat.zero_mul:=@Rat.zero_mul
section
namespace RE
theorem Ii{u v:RE}:cls u v=2↔v=0/\¬0<u:=by
 unfold cls;rcases c8 v with⟨a,h1⟩|⟨a,h1⟩|⟨a,h1⟩<;>rcases c8 u with⟨b,h2⟩|⟨b,h2⟩|⟨b,h2⟩<;>rw[h1,h2]
 all_goals first
  |exact⟨λ_=>⟨a,λh=>by rw[b]at h;exact lt_irrefl _ h⟩,λ_=>rfl⟩
  |exact⟨λ_=>⟨a,λh=>lt_irrefl _ (eK h b)⟩,λ_=>rfl⟩
  |(refine⟨λh=>absurd h (by decide),λh=>?_⟩;first|(rw[h.1]at a;exact absurd a (lt_irrefl _))|exact absurd b h.2)
theorem zD{u v Q:RE}(hQ:0<Q)(h:u*u+v*v=Q)(hv:v=0)(hu:¬0<u):u<0:=by
 rcases ov u 0 with e|e|e
 ·exact e
 ·rw[e,hv,mul_zero,add_zero]at h;rw[<-h]at hQ;exact absurd hQ (lt_irrefl _)
 ·exact absurd e hu
theorem Kw(u w Q:RE):((u-(0))*(u-(w)))+((w-(0))*(u-(w)))+((Q-(u*u)))+((w*w-(Q)))=0:=by grind
theorem I7(u w Q:RE)(h1:u*u=Q)(h2:w*w=Q)(h3:0<u)(h4:0<w):u<=w:=λhg=>far (aW (aW (aW (mul_pos (bz h3) (bz hg)) (le_of_lt (mul_pos (bz h4) (bz hg)))) (aJ (t7 h1))) (aJ (sM h2))) (Kw u w Q)
theorem Ld(u w Q:RE):((0-(u))*(u-(w)))+((0-(w))*(u-(w)))+((u*u-(Q)))+((Q-(w*w)))=0:=by grind
theorem JF(u w Q:RE)(h1:u*u=Q)(h2:w*w=Q)(h3:u<0)(h4:w<0):u<=w:=λhg=>far (aW (aW (aW (mul_pos (bz h3) (bz hg)) (le_of_lt (mul_pos (bz h4) (bz hg)))) (aJ (sM h1))) (aJ (t7 h2))) (Ld u w Q)
theorem DP(x y c:RE)(h1:x-c<y-c):x<y:=by grind
theorem KD(x y c:RE)(h1:x-c=y-c):x<=y:=by grind
theorem KE(x y c:RE)(h1:x-c=y-c):y<=x:=by grind
theorem sZ(x y c:RE)(h1:x-c=y-c):x=y:=le_antisymm (KD x y c h1) (KE x y c h1)
theorem Df(x c:RE): -x- -c= -(x-c):=by grind
theorem T9(x y:RE): -x- -y=y-x:=by grind
theorem aej(a b r:RE): -a+ -b*r= -(a+b*r):=by grind
theorem Oh(x q:RE)(h1:x+ -q=0):x<=q:=by grind
theorem MS(x q:RE)(h1:x+ -q=0):q<=x:=by grind
theorem Jq(x q:RE)(h1:x+ -q=0):x=q:=le_antisymm (Oh x q h1) (MS x q h1)
section
variable {x y x' y' cx cy Q:RE}
theorem lQ(hQ:0<Q)(h:(x-cx)*(x-cx)+(y-cy)*(y-cy)=Q)(h':(x'-cx)*(x'-cx)+(y'-cy)*(y'-cy)=Q){L:List RE}(hx:x∈L)(hx':x'∈L):
  zk (cls (x-cx) (y-cy)) (rk (λa b:RE=>a<b) L x) (cls (x'-cx) (y'-cy)) (rk (λa b:RE=>a<b) L x')=true:=by
 unfold zk;rw[aml];have vv:∀{u v:RE},u*u+v*v=Q->v=0->u*u=Q:=λh e=>by rw[e,mul_zero,add_zero]at h;exact h
 refine⟨?_,?_⟩
 ·by_cases e:cls (x-cx) (y-cy)=0
  ·obtain⟨e1,e2⟩:=HU.1 e;rw[e];by_cases e':cls (x'-cx) (y'-cy)=0
   ·obtain⟨f1,f2⟩:=HU.1 e';rw[e'];have:=sZ _ _ cx (le_antisymm (I7 _ _ _ (vv h e1) (vv h' f1) e2 f2) (I7 _ _ _ (vv h' f1) (vv h e1) f2 e2));rw[this];simp
   ·have hle:=aa9 _ _ _ _ _ h h' e1 e2 (FG (y'-cy))
    have hlt:x'-cx<x-cx:=by
     rcases ov (x'-cx) (x-cx)with g|g|g
     ·exact g
     ·exfalso;have z:=RH (x-cx) (x'-cx) (y'-cy) Q (vv h e1) h' (by rw[g]);exact e' (HU.2 ⟨I3 z,by rw[g];exact e2⟩)
     ·exact absurd g ((B4 _ _).1 hle)
    have:=xl lt_lin (DP _ _ _ hlt) hx';rw[show(cls (x'-cx) (y'-cy)==0)=false by simp[e']];simp[this]
  ·simp[e]
 ·by_cases e:cls (x-cx) (y-cy)=2
  ·obtain⟨e1,e2⟩:=Ii.1 e;have e3:=zD hQ h e1 e2;rw[e];by_cases e':cls (x'-cx) (y'-cy)=2
   ·obtain⟨f1,f2⟩:=Ii.1 e';have f3:=zD hQ h' f1 f2;rw[e'];have:=sZ _ _ cx (le_antisymm (JF _ _ _ (vv h e1) (vv h' f1) e3 f3) (JF _ _ _ (vv h' f1) (vv h e1) f3 e3));rw[this];simp
   ·have hle:=adI _ _ _ _ _ h h' e1 e3 (FG (y'-cy))
    have hlt:x-cx<x'-cx:=by
     rcases ov (x-cx) (x'-cx)with g|g|g
     ·exact g
     ·exfalso;have z:=RH (x-cx) (x'-cx) (y'-cy) Q (vv h e1) h' (by rw[g]);exact e' (Ii.2 ⟨I3 z,by rw[<-g];exact e2⟩)
     ·exact absurd g ((B4 _ _).1 hle)
    have:=xl lt_lin (DP _ _ _ hlt) hx;rw[show(cls (x'-cx) (y'-cy)==2)=false by simp[e']];simp[this]
  ·simp[e]
end
def onCi(c:Ln)(p:Pt):Prop:=(pX p-of c.1)*(pX p-of c.1)+(pY p-of c.2.1)*(pY p-of c.2.1)=of c.2.2
theorem ins_on{c:Ln}{p:Pt}[Rpd p](h:qt c p=0):onCi c p:=by
 rw[CW]at h;exact Jq _ _ (R9.1 (Int.neg_eq_zero.1 h))
theorem ng{c:Ln}{p:Pt}[Rpd p]:upR c p=upA (cls (pX p-of c.1) (pY p-of c.2.1)):=by
 unfold upR;rw[cmpTR_re Im,cmpTR_re ou,tK,Wj,abI]
theorem Dz(p:Pt):pX (flP p)= -pX p:=by
 unfold pX flP v2;rw[of_neg,of_neg];exact aej _ _ _
theorem agB(p:Pt):pY (flP p)=pY p:=rfl
theorem vI{c:Ln}{p:Pt}[h:Rpd p](hQ:0<c.2.2)(hp:onCi c p):upR (flC c) (flP p)=ufA (cls (pX p-of c.1) (pY p-of c.2.1)):=by
 unfold upR;rw[cmpTR_re Im,cmpTR_re ou,tK,Wj,Dz,agB];show(decide (sg (pY p-of c.2.1)>0)||(sg (pY p-of c.2.1)==0&&decide (sg (-pX p-of (-c.1))>0)))=_;rw[of_neg,Df,acp];exact aeq (kS hQ) hp
theorem kW{L:List RE}{p q:Pt}[Rpd p][Rpd q](hp:pX p∈L)(hq:pX q∈L):bQ (xP p) (xP q)=cI (rk (λa b:RE=>a<b) L (pX p)) (rk (λa b:RE=>a<b) L (pX q)):=by
 rw[cmpT_re ou ou,tK,tK];exact yH lt_lin sg_cmpO hp hq
theorem nZ{L:List RE}{p q:Pt}[Rpd p][Rpd q](hp:pX p∈L)(hq:pX q∈L):bQ (xP (flP p)) (xP (flP q))=dI (rk (λa b:RE=>a<b) L (pX p)) (rk (λa b:RE=>a<b) L (pX q)):=by
 rw[cmpT_re ou ou,tK,tK,Dz,Dz,T9];exact yH lt_lin sg_cmpO hq hp
theorem arc_eq{ci:Ln}{F P T:Pt}[Rpd F][Rpd P][Rpd T](hQ:0<ci.2.2)(hF:onCi ci F)(hP:onCi ci P)(hT:onCi ci T):
  decide (ml bQ (ptd ci F) (ptd ci P) (ptd ci T)<=0)=(decide (lz bQ (ptd ci F) (ptd ci F) (ptd ci P)<=0)&&decide (lz bQ (ptd ci F) (ptd ci P) (ptd ci T)<=0))/\
  decide (ml bQ (ptd ci T) (ptd ci P) (ptd ci F)<=0)=(decide (lz bQ (ptd (flC ci) (flP F)) (ptd (flC ci) (flP F)) (ptd (flC ci) (flP P))<=0)&&decide (lz bQ (ptd (flC ci) (flP F)) (ptd (flC ci) (flP P)) (ptd (flC ci) (flP T))<=0)):=by
 have mF:pX F∈[pX F,pX P,pX T]:=by simp
 have mP:pX P∈[pX F,pX P,pX T]:=by simp
 have mT:pX T∈[pX F,pX P,pX T]:=by simp
 have hq:0<of ci.2.2:=kS hQ;have bF:=qE lt_lin mF;have bP:=qE lt_lin mP;have bT:=qE lt_lin mT;have cF:=Ba (pX F-of ci.1) (pY F-of ci.2.1);have cP:=Ba (pX P-of ci.1) (pY P-of ci.2.1);have cT:=Ba (pX T-of ci.1) (pY T-of ci.2.1)
 have hcon:DE (cls (pX F-of ci.1) (pY F-of ci.2.1)) (rk (λa b:RE=>a<b) [pX F,pX P,pX T] (pX F)) (cls (pX P-of ci.1) (pY P-of ci.2.1)) (rk (λa b:RE=>a<b) [pX F,pX P,pX T] (pX P)) (cls (pX T-of ci.1) (pY T-of ci.2.1)) (rk (λa b:RE=>a<b) [pX F,pX P,pX T] (pX T))=true:=by
  unfold DE;rw[lQ hq hF hP mF mP,lQ hq hP hF mP mF,lQ hq hF hT mF mT,lQ hq hT hF mT mF,lQ hq hP hT mP mT,lQ hq hT hP mT mP];rfl
 have a1:=TE ⟨_,cF⟩ ⟨_,cP⟩ ⟨_,cT⟩ ⟨_,bF⟩ ⟨_,bP⟩ ⟨_,bT⟩ hcon;have a2:=aby ⟨_,cF⟩ ⟨_,cP⟩ ⟨_,cT⟩ ⟨_,bF⟩ ⟨_,bP⟩ ⟨_,bT⟩ hcon;simp only at a1 a2;refine⟨?_,?_⟩
 ·unfold ptd;rw[ng,ng,ng,xm (kW mP mF) (kW mT mF) (kW mP mT),fB (kW mF mF) (kW mP mF) (kW mF mP),fB (kW mP mF) (kW mT mF) (kW mP mT)];exact a1
 ·unfold ptd;rw[ng,ng,ng,vI hQ hF,vI hQ hP,vI hQ hT,xm (kW mP mT) (kW mF mT) (kW mP mF),fB (nZ mF mF) (nZ mP mF) (nZ mF mP),fB (nZ mP mF) (nZ mT mF) (nZ mP mT)];exact a2
theorem seg_eq{F P T:Pt}[Rpd F][Rpd P][Rpd T]:Ro (aB F P) (aB P T)=ajn (aB F T) (aB F P) (aB P T):=by
 have mF:pR F∈[pR F,pR P,pR T]:=by simp
 have mP:pR P∈[pR F,pR P,pR T]:=by simp
 have mT:pR T∈[pR F,pR P,pR T]:=by simp
 rw[gT,gT,gT,yH gv fh mF mP,yH gv fh mP mT,yH gv fh mF mT];exact Ut ⟨_,qE gv mF⟩ ⟨_,qE gv mP⟩ ⟨_,qE gv mT⟩
end RE
structure Crv (c:Cv):Prop where
 f:Rpd (frC c)
 t:Rpd (toC c)
 q:c.1=true->0<(ciC c).2.2/\RE.onCi (ciC c) (frC c)/\RE.onCi (ciC c) (toC c)
theorem WQ{c:Cv}(h:Crv c){p:Pt}(hp:Rpd p):onP c p=onR c p:=by
 have hf:=h.f;have ht:=h.t;unfold onP onR;cases hs:du c p
 ·rfl
 ·simp only[anP];unfold lw bY;obtain⟨ar,li,ci,cw,fr,to⟩:=c;have hf:Rpd fr:=hf;have ht:Rpd to:=ht;cases ar
  ·exact RE.seg_eq (F:=fr) (P:=p) (T:=to)
  ·obtain⟨q1,q2,q3⟩:=h.q rfl
   have hi:qt ci p=0:=by
    have:(qt ci p==0)=true:=hs;exact amW.1 this
   obtain⟨e1,e2⟩:=RE.arc_eq (ci:=ci) (F:=fr) (P:=p) (T:=to) q1 q2 (RE.ins_on hi) q3;cases cw
   ·exact e1
   ·exact e2
end
theorem acG(d:Rat×Rat):0<=ajY d d:=by
 unfold ajY
 have h:∀a:Rat,0<=a*a:=λa=>by
  rcases(by grind:0<=a\/0<= -a)with h|h
  ·exact am6 h h
  ·have:=am6 h h;grind
 have:=h d.1;have:=h d.2;grind
theorem Bu(a b d e s:Rat):C7 (mkR a d s) (mkR b e s):=by
 unfold C7 mkR;cases dP s
 ·simp only[cond_false];by_cases hd:d=0
  ·rw[amh hd];exact .inl rfl
  ·by_cases he:e=0
   ·rw[amh he];exact .inr (.inl rfl)
   ·rw[ami hd,ami he];exact .inr (.inr rfl)
 ·exact .inl rfl
namespace RE
def aaH(l:Ln)(p:Pt):Prop:=of l.1*pX p+of l.2.1*pY p=of l.2.2
theorem Gu{l:Ln}{p:Pt}[Rpd p](h:uZ l p=0):aaH l p:=by
 rw[Bv]at h;exact Jq _ _ (R9.1 h)
end RE
def gdC(c:BCU):Prop:=okC 580 c/\du (dC c) (frC (dC c))=true/\du (dC c) (toC (dC c))=true
theorem co{k:Nat}{x:BP}(h:okP k x):Rpd (dec x):=by
 obtain⟨p,rfl,bp,rp⟩:=cM h;rw[au];exact rp
theorem Tg{c:BCU}(h:gdC c):Crv (dC c):=by
 obtain⟨h1,h2,h3⟩:=h;obtain⟨ar,li,ci,cw,fr,to⟩:=c;have hf:Rpd (frC (dC (ar,li,ci,cw,fr,to))):=co h1.2.2.1;have ht:Rpd (toC (dC (ar,li,ci,cw,fr,to))):=co h1.2.2.2;refine⟨hf,ht,λe=>?_⟩;have e:ar=true:=e;subst e;exact⟨(h1.1 rfl).2,RE.ins_on (amW.1 h2),RE.ins_on (amW.1 h3)⟩
section
namespace RE
abbrev PE:=RE×RE
theorem sub_zero(x:RE):x-0=x:=by grind
theorem zero_sub(x:RE):0-x= -x:=by grind
section
variable {u w:PE} {Q:RE} {L:List RE}
end
def frm(c:Ln)(p:PE):PE:=(p.1-of c.1,p.2-of c.2.1)
def zp(c:Ln)(p:PE):Prop:=(frm c p).1*(frm c p).1+(frm c p).2*(frm c p).2=of c.2.2
def tg(l:Ln)(p:PE):Prop:=of l.1*p.1+of l.2.1*p.2=of l.2.2
def tE(l:Ln)(p:PE):RE:= -of l.2.1*p.1+of l.1*p.2
def btE(a b x:RE):Prop:=(a<=x/\x<=b)\/(b<=x/\x<=a)
def zw(l:Ln)(F T p:PE):Prop:=tg l p/\btE (tE l F) (tE l T) (tE l p)
structure GdE (c:Cv):Prop where
 f:Rpd (frC c)
 t:Rpd (toC c)
 ne:pR (frC c)≠pR (toC c)
 q:c.1=true->0<(ciC c).2.2/\onCi (ciC c) (frC c)/\onCi (ciC c) (toC c)
 l:c.1=false->((lnC c).1≠0\/(lnC c).2.1≠0)/\aaH (lnC c) (frC c)/\aaH (lnC c) (toC c)
theorem Bh{c:Ln}{p:Pt}[Rpd p]:(qt c p==0)=true↔zp c (pR p):=by
 rw[amW];refine⟨λh=>ins_on h,λh=>?_⟩;rw[CW];have:(pX p-of c.1)*(pX p-of c.1)+(pY p-of c.2.1)*(pY p-of c.2.1)=of c.2.2:=h;rw[this,lJ,fe];rfl
theorem JR{l:Ln}{p:Pt}[Rpd p]:(uZ l p==0)=true↔tg l (pR p):=by
 rw[amW];refine⟨λh=>Gu h,λh=>?_⟩;rw[Bv];have:of l.1*pX p+of l.2.1*pY p=of l.2.2:=h;rw[this,lJ,fe]
end RE
end
theorem aV{j k:Nat}{x:BP}(h:okP j x)(hj:j<=k)(hk:k<=480000):okP k x:=by
 obtain⟨p,rfl,bp,rp⟩:=cM h;exact amj (aU hj hk)
theorem bh{j k:Nat}{c:BCU}(h:okC j c)(hj:j<=k)(hk:k<=480000):okC k c:=⟨h.1,h.2.1,aV h.2.2.1 hj hk,aV h.2.2.2 hj hk⟩
abbrev r00:BR:=((false,[]),(false,[]))
abbrev o00:BO3:=(r00,r00,r00)
abbrev p00:BP:=(r00,r00,r00,r00,r00)
abbrev c00:BCU:=(false,o00,o00,false,p00,p00)
def vj(a b:Rat×Rat):Ln:=(a.2-b.2,b.1-a.1,(a.2-b.2)*a.1+(b.1-a.1)*a.2)
def Bs(a b:Rat×Rat):Bool:=decide (a.2-b.2=0)&&decide (b.1-a.1=0)
def VH(a b:Rat×Rat):BO3:=bif Bs a b then o00 else enc (vj a b)
def TA(a b:Rat×Rat):Int:=bif Bs a b then 6 else 0
def zm(a b:Rat×Rat):BCU:=bif Bs a b then c00 else(false,enc (vj a b),o00,false,enc (atP a),enc (atP b))
def zw(a b:Rat×Rat):Int:=bif Bs a b then 6 else 0
instance alw {a b:Rat×Rat} {i j:Nat} [h:Bd a i] [h':Bd b j]:Bd (vj a b) (4*i+2*j+3):=by
 have i1:Bd ((a.2-b.2,b.1-a.1,(a.2-b.2)*a.1+(b.1-a.1)*a.2):Ln) _:=inferInstance;exact i1.mono (jz (by omega) (jz (by omega) (by omega)))
def Zc:List En:=[enT l9,enT uq,enL yc,enL rK,enL GR,enL PM,enL SY,enL Ge]
def MR(a b:BV)(_k:KT):OLR:=og (o2 a.2 b.2) (og (o2 b.1 a.1) (og (o1 (hSu a.2 b.2)) (match(aD (ag (hSu a.2 b.2)) 0)==0 with|true=>(og (o1 (hSu b.1 a.1)) (match(aD (ag (hSu b.1 a.1)) 0)==0 with|true=>some [RV.d tO (((false,[]),(false,[])),(((false,[]),(false,[])),((false,[]),(false,[])))),RV.d apE 6]|false=>(og (o2 (hSu a.2 b.2) a.1) (og (o2 (hSu b.1 a.1) a.2) (og (o2 (hMu (hSu a.2 b.2) a.1) (hMu (hSu b.1 a.1) a.2)) (some [RV.d tO (hSu a.2 b.2,(hSu b.1 a.1,hAd (hMu (hSu a.2 b.2) a.1) (hMu (hSu b.1 a.1) a.2))),RV.d apE 0]))))))|false=>(og (o2 (hSu a.2 b.2) a.1) (og (o2 (hSu b.1 a.1) a.2) (og (o2 (hMu (hSu a.2 b.2) a.1) (hMu (hSu b.1 a.1) a.2)) (some [RV.d tO (hSu a.2 b.2,(hSu b.1 a.1,hAd (hMu (hSu a.2 b.2) a.1) (hMu (hSu b.1 a.1) a.2))),RV.d apE 0])))))))
def ady:Cn 149 [tV,tV]:=cn λ(a b:BV)=>lf (ok (Rat×Rat) 100 a/\ok (Rat×Rat) 100 b) [.d tO (VH (dec a) (dec b)),.d apE (TA (dec a) (dec b))] λh=>by
 refine aA Zc (MR a b) ⟨0,?_⟩;obtain⟨ha,hb⟩:=h;obtain⟨a,rfl,ba⟩:=aM ha;obtain⟨b,rfl,bb⟩:=aM hb;unfold MR VH TA Bs;simp only[bE,Nat.reduceAdd,Nat.reduceLeDiff,ao];cases decide (a.2-b.2=0)<;>cases decide (b.1-a.1=0)<;>rfl
def ajy:List En:=enL ady::Zc
def NO(a b:BV)(_k:KT):OLR:=og (decide (ok (Rat×Rat) 100 a/\ok (Rat×Rat) 100 b)) (match(TA (dec a) (dec b)) !=0 with|true=>some [RV.d tCU (false,((((false,[]),(false,[])),(((false,[]),(false,[])),((false,[]),(false,[])))),((((false,[]),(false,[])),(((false,[]),(false,[])),((false,[]),(false,[])))),(false,((((false,[]),(false,[])),(((false,[]),(false,[])),(((false,[]),(false,[])),(((false,[]),(false,[])),((false,[]),(false,[])))))),(((false,[]),(false,[])),(((false,[]),(false,[])),(((false,[]),(false,[])),(((false,[]),(false,[])),((false,[]),(false,[]))))))))))),RV.d apE 6]|false=>(og (decide (ok (Rat×Rat) 100000 a)) (og (decide (ok (Rat×Rat) 100000 b)) (some [RV.d tCU (false,(hid (VH (dec a) (dec b)),((((false,[]),(false,[])),(((false,[]),(false,[])),((false,[]),(false,[])))),(false,(hid (enc (atP (dec a))),hid (enc (atP (dec b)))))))),RV.d apE 0]))))
def PN:Cn 105 [tV,tV]:=cn λ(a b:BV)=>lf (ok (Rat×Rat) 100 a/\ok (Rat×Rat) 100 b) [.d tCU (zm (dec a) (dec b)),.d apE (zw (dec a) (dec b))] λh=>by
 refine aA ajy (NO a b) ⟨0,?_⟩;obtain⟨ha,hb⟩:=h;obtain⟨a,rfl,ba⟩:=aM ha;obtain⟨b,rfl,bb⟩:=aM hb;unfold NO zm zw TA VH;simp only[bE,Nat.reduceLeDiff];cases Bs a b<;>rfl
def fb(c:Cv):List BP->BP->List BP
 |[],x=>[x]
 |y::r,x=>bif decide (bY c (dec y) (dec x)<0)then y::fb c r x else bif aB (dec y) (dec x)==0 then y::r else x::y::r
def gu(c:Cv)(l:List BP):List BP:=l.foldl (fb c) []
def zh(c:BCU)(l:List BP):Prop:=okC 4000 c/\l.length<=1000000/\∀x∈l,okP 4000 x
instance (c:BCU) (l:List BP):Decidable (zh c l):=by unfold zh;infer_instance
theorem oM{c:Cv}{x y:BP}:∀{r:List BP},y∈fb c r x->y∈r\/y=x
 |[],h=>by simp only[fb,amQ]at h;exact .inr h
 |z::r,h=>by
  simp only[fb]at h;cases h1:decide (bY c (dec z) (dec x)<0)<;>rw[h1]at h
  ·cases h2:aB (dec z) (dec x)==0<;>rw[h2]at h
   ·rcases amy.1 h with h|h
    ·exact .inr h
    ·exact .inl h
   ·exact .inl h
  ·rcases amy.1 h with h|h
   ·exact .inl (by simp[h])
   ·rcases oM h with h|h
    ·exact .inl (amv _ h)
    ·exact .inr h
theorem wZ(c:Cv)(x:BP):∀r:List BP,(fb c r x).length<=r.length+1
 |[]=>by simp[fb]
 |z::r=>by
  have:=wZ c x r;simp only[fb];cases decide (bY c (dec z) (dec x)<0)
  ·cases aB (dec z) (dec x)==0<;>simp
  ·simp only[cond_true,amD];omega
theorem wx{c:Cv}:∀{l out:List BP} {y:BP},y∈l.foldl (fb c) out->y∈out\/y∈l
 |[],_,_,h=>.inl h
 |x::l,out,y,h=>by
  rcases wx (l:=l) (out:=fb c out x) h with h|h
  ·rcases oM h with h|h
   ·exact .inl h
   ·exact .inr (by simp[h])
  ·exact .inr (amv _ h)
theorem v5(c:Cv):∀(l out:List BP),(l.foldl (fb c) out).length<=out.length+l.length
 |[],_=>amm _
 |x::l,out=>by
  have h1:=v5 c l (fb c out x);have h2:=wZ c x out;simp only[an6,amD];omega
theorem Km{α:Type}{l:List α}{k:Nat}(h:k<l.length):l.take (k+1)=l.take k++[l[k]]:=by rw[List.take_succ_eq_append_getElem h]
def Y6:List En:=[enT Jd,enT JC,enT oI]
def aer:NT:=[((116,8),{keep:=[1,2,5,6],pure_:=[(5,tP)],hl:=1}),((116,21),{keep:=[1,2,5,6,7],pure_:=[(5,tP)],hl:=1})]
def vA:Ctx:=CX (ens Y6) aer
def kH(c:BCU)(l:List BP)(s6:Int)(s5:List BP):Cfg:=⟨116,[.blk 0,.seq 38],[(1,.d (.sl tP) l),(2,.box 0 0),(5,.d (.sl tP) s5),(6,SI s6)],[.box 75 [SB c.1,SB c.2.1.1.1.1,.d apD c.2.1.1.1.2,SB c.2.1.1.2.1,.d apD c.2.1.1.2.2,SB c.2.1.2.1.1.1,.d apD c.2.1.2.1.1.2,SB c.2.1.2.1.2.1,.d apD c.2.1.2.1.2.2,SB c.2.1.2.2.1.1,.d apD c.2.1.2.2.1.2,SB c.2.1.2.2.2.1,.d apD c.2.1.2.2.2.2,SB c.2.2.1.1.1.1,.d apD c.2.2.1.1.1.2,SB c.2.2.1.1.2.1,.d apD c.2.2.1.1.2.2,SB c.2.2.1.2.1.1.1,.d apD c.2.2.1.2.1.1.2,SB c.2.2.1.2.1.2.1,.d apD c.2.2.1.2.1.2.2,SB c.2.2.1.2.2.1.1,.d apD c.2.2.1.2.2.1.2,SB c.2.2.1.2.2.2.1,.d apD c.2.2.1.2.2.2.2,SB c.2.2.2.1,SB c.2.2.2.2.1.1.1.1,.d apD c.2.2.2.2.1.1.1.2,SB c.2.2.2.2.1.1.2.1,.d apD c.2.2.2.2.1.1.2.2,SB c.2.2.2.2.1.2.1.1.1,.d apD c.2.2.2.2.1.2.1.1.2,SB c.2.2.2.2.1.2.1.2.1,.d apD c.2.2.2.2.1.2.1.2.2,SB c.2.2.2.2.1.2.2.1.1.1,.d apD c.2.2.2.2.1.2.2.1.1.2,SB c.2.2.2.2.1.2.2.1.2.1,.d apD c.2.2.2.2.1.2.2.1.2.2,SB c.2.2.2.2.1.2.2.2.1.1.1,.d apD c.2.2.2.2.1.2.2.2.1.1.2,SB c.2.2.2.2.1.2.2.2.1.2.1,.d apD c.2.2.2.2.1.2.2.2.1.2.2,SB c.2.2.2.2.1.2.2.2.2.1.1,.d apD c.2.2.2.2.1.2.2.2.2.1.2,SB c.2.2.2.2.1.2.2.2.2.2.1,.d apD c.2.2.2.2.1.2.2.2.2.2.2,SB c.2.2.2.2.2.1.1.1,.d apD c.2.2.2.2.2.1.1.2,SB c.2.2.2.2.2.1.2.1,.d apD c.2.2.2.2.2.1.2.2,SB c.2.2.2.2.2.2.1.1.1,.d apD c.2.2.2.2.2.2.1.1.2,SB c.2.2.2.2.2.2.1.2.1,.d apD c.2.2.2.2.2.2.1.2.2,SB c.2.2.2.2.2.2.2.1.1.1,.d apD c.2.2.2.2.2.2.2.1.1.2,SB c.2.2.2.2.2.2.2.1.2.1,.d apD c.2.2.2.2.2.2.2.1.2.2,SB c.2.2.2.2.2.2.2.2.1.1.1,.d apD c.2.2.2.2.2.2.2.2.1.1.2,SB c.2.2.2.2.2.2.2.2.1.2.1,.d apD c.2.2.2.2.2.2.2.2.1.2.2,SB c.2.2.2.2.2.2.2.2.2.1.1,.d apD c.2.2.2.2.2.2.2.2.2.1.2,SB c.2.2.2.2.2.2.2.2.2.2.1,.d apD c.2.2.2.2.2.2.2.2.2.2.2]],0,[]⟩
def we(c:BCU)(l s5:List BP)(s6 s7:Int):Cfg:=⟨116,[.blk 2,.seq 30,.blk 1,.seq 37,.lp 8,.blk 0,.seq 38],[(1,.d (.sl tP) l),(2,.box 0 0),(5,.d (.sl tP) s5),(6,SI s6),(7,SI s7)],[.box 75 [SB c.1,SB c.2.1.1.1.1,.d apD c.2.1.1.1.2,SB c.2.1.1.2.1,.d apD c.2.1.1.2.2,SB c.2.1.2.1.1.1,.d apD c.2.1.2.1.1.2,SB c.2.1.2.1.2.1,.d apD c.2.1.2.1.2.2,SB c.2.1.2.2.1.1,.d apD c.2.1.2.2.1.2,SB c.2.1.2.2.2.1,.d apD c.2.1.2.2.2.2,SB c.2.2.1.1.1.1,.d apD c.2.2.1.1.1.2,SB c.2.2.1.1.2.1,.d apD c.2.2.1.1.2.2,SB c.2.2.1.2.1.1.1,.d apD c.2.2.1.2.1.1.2,SB c.2.2.1.2.1.2.1,.d apD c.2.2.1.2.1.2.2,SB c.2.2.1.2.2.1.1,.d apD c.2.2.1.2.2.1.2,SB c.2.2.1.2.2.2.1,.d apD c.2.2.1.2.2.2.2,SB c.2.2.2.1,SB c.2.2.2.2.1.1.1.1,.d apD c.2.2.2.2.1.1.1.2,SB c.2.2.2.2.1.1.2.1,.d apD c.2.2.2.2.1.1.2.2,SB c.2.2.2.2.1.2.1.1.1,.d apD c.2.2.2.2.1.2.1.1.2,SB c.2.2.2.2.1.2.1.2.1,.d apD c.2.2.2.2.1.2.1.2.2,SB c.2.2.2.2.1.2.2.1.1.1,.d apD c.2.2.2.2.1.2.2.1.1.2,SB c.2.2.2.2.1.2.2.1.2.1,.d apD c.2.2.2.2.1.2.2.1.2.2,SB c.2.2.2.2.1.2.2.2.1.1.1,.d apD c.2.2.2.2.1.2.2.2.1.1.2,SB c.2.2.2.2.1.2.2.2.1.2.1,.d apD c.2.2.2.2.1.2.2.2.1.2.2,SB c.2.2.2.2.1.2.2.2.2.1.1,.d apD c.2.2.2.2.1.2.2.2.2.1.2,SB c.2.2.2.2.1.2.2.2.2.2.1,.d apD c.2.2.2.2.1.2.2.2.2.2.2,SB c.2.2.2.2.2.1.1.1,.d apD c.2.2.2.2.2.1.1.2,SB c.2.2.2.2.2.1.2.1,.d apD c.2.2.2.2.2.1.2.2,SB c.2.2.2.2.2.2.1.1.1,.d apD c.2.2.2.2.2.2.1.1.2,SB c.2.2.2.2.2.2.1.2.1,.d apD c.2.2.2.2.2.2.1.2.2,SB c.2.2.2.2.2.2.2.1.1.1,.d apD c.2.2.2.2.2.2.2.1.1.2,SB c.2.2.2.2.2.2.2.1.2.1,.d apD c.2.2.2.2.2.2.2.1.2.2,SB c.2.2.2.2.2.2.2.2.1.1.1,.d apD c.2.2.2.2.2.2.2.2.1.1.2,SB c.2.2.2.2.2.2.2.2.1.2.1,.d apD c.2.2.2.2.2.2.2.2.1.2.2,SB c.2.2.2.2.2.2.2.2.2.1.1,.d apD c.2.2.2.2.2.2.2.2.2.1.2,SB c.2.2.2.2.2.2.2.2.2.2.1,.d apD c.2.2.2.2.2.2.2.2.2.2.2]],0,[]⟩
def afm(c:BCU)(l:List BP)(k:KT):OLR:=k 8 (kH c l 0 ([]))
theorem agJ(c:BCU)(l:List BP):RS vA 116 [.d tCU c,.d (.sl tP) l] (afm c l):=rsX
def xR(c:BCU)(l:List BP)(s6:Int)(s5:List BP)(k:KT):OLR:=match decide (s6<(l.length:Int))with|true=>k 21 (we c l s5 s6 0)|false=>some [RV.d (.sl tP) s5]
theorem Ef(c:BCU)(l:List BP)(s6:Int)(s5:List BP):RN vA 8 (kH c l s6 s5) (xR c l s6 s5):=rnX
def uv(c:BCU)(l s5:List BP)(s6 s7:Int)(k:KT):OLR:=match decide (s7<(s5.length:Int))with|true=>(match aH s5 s7 with|some x1=>(match aH l s6 with|some x2=>(og (decide (okC 4000 c/\okP 4000 x1/\okP 4000 x2)) (match decide ((bY (dC c) (dec x1) (dec x2))<0)with|true=>k 21 (we c l s5 s6 (i64.wrap (s7+1)))|false=>(match decide (s7<(s5.length:Int))with|true=>(match aH s5 s7 with|some x3=>(match aH l s6 with|some x4=>(og (decide (okP 4000 x3/\okP 4000 x4)) (match aB (dec x3) (dec x4)==0 with|true=>k 8 (kH c l (i64.wrap (s6+1)) s5)|false=>(og (decide ((0:Int)<=0/\0<=s7/\s7<=(s5.length:Int))) (match aH l s6 with|some x5=>(og (decide ((0:Int)<=s7/\s7<=(s5.length:Int)/\(s5.length:Int)<=(s5.length:Int))) (dup (.b (.b .l .l) .l) (og (decide ((([]:List BP).length+((s5.take (s7).toNat).drop (0:Int).toNat).length)*320<=140737488355328/\([]:List BP).length+((s5.take (s7).toNat).drop (0:Int).toNat).length<=140737488355328)) (og (decide (((([]:List BP)++((s5.take (s7).toNat).drop (0:Int).toNat)).length+([x5]).length)*320<=140737488355328/\(([]:List BP)++((s5.take (s7).toNat).drop (0:Int).toNat)).length+([x5]).length<=140737488355328)) (og (decide ((((([]:List BP)++((s5.take (s7).toNat).drop (0:Int).toNat))++([x5])).length+((s5.take ((s5.length:Int)).toNat).drop (s7:Int).toNat).length)*320<=140737488355328/\((([]:List BP)++((s5.take (s7).toNat).drop (0:Int).toNat))++([x5])).length+((s5.take ((s5.length:Int)).toNat).drop (s7:Int).toNat).length<=140737488355328)) (k 8 (kH c l (i64.wrap (s6+1)) (((([]:List BP)++((s5.take (s7).toNat).drop (0:Int).toNat))++([x5]))++((s5.take ((s5.length:Int)).toNat).drop (s7:Int).toNat)))))))))|none=>none))))|none=>none)|none=>none)|false=>(og (decide ((0:Int)<=0/\0<=s7/\s7<=(s5.length:Int))) (match aH l s6 with|some x3=>(og (decide ((0:Int)<=s7/\s7<=(s5.length:Int)/\(s5.length:Int)<=(s5.length:Int))) (dup (.b (.b .l .l) .l) (og (decide ((([]:List BP).length+((s5.take (s7).toNat).drop (0:Int).toNat).length)*320<=140737488355328/\([]:List BP).length+((s5.take (s7).toNat).drop (0:Int).toNat).length<=140737488355328)) (og (decide (((([]:List BP)++((s5.take (s7).toNat).drop (0:Int).toNat)).length+([x3]).length)*320<=140737488355328/\(([]:List BP)++((s5.take (s7).toNat).drop (0:Int).toNat)).length+([x3]).length<=140737488355328)) (og (decide ((((([]:List BP)++((s5.take (s7).toNat).drop (0:Int).toNat))++([x3])).length+((s5.take ((s5.length:Int)).toNat).drop (s7:Int).toNat).length)*320<=140737488355328/\((([]:List BP)++((s5.take (s7).toNat).drop (0:Int).toNat))++([x3])).length+((s5.take ((s5.length:Int)).toNat).drop (s7:Int).toNat).length<=140737488355328)) (k 8 (kH c l (i64.wrap (s6+1)) (((([]:List BP)++((s5.take (s7).toNat).drop (0:Int).toNat))++([x3]))++((s5.take ((s5.length:Int)).toNat).drop (s7:Int).toNat)))))))))|none=>none)))))|none=>none)|none=>none)|false=>(match decide (s7<(s5.length:Int))with|true=>(match aH s5 s7 with|some x1=>(match aH l s6 with|some x2=>(og (decide (okP 4000 x1/\okP 4000 x2)) (match aB (dec x1) (dec x2)==0 with|true=>k 8 (kH c l (i64.wrap (s6+1)) s5)|false=>(og (decide ((0:Int)<=0/\0<=s7/\s7<=(s5.length:Int))) (match aH l s6 with|some x3=>(og (decide ((0:Int)<=s7/\s7<=(s5.length:Int)/\(s5.length:Int)<=(s5.length:Int))) (dup (.b (.b .l .l) .l) (og (decide ((([]:List BP).length+((s5.take (s7).toNat).drop (0:Int).toNat).length)*320<=140737488355328/\([]:List BP).length+((s5.take (s7).toNat).drop (0:Int).toNat).length<=140737488355328)) (og (decide (((([]:List BP)++((s5.take (s7).toNat).drop (0:Int).toNat)).length+([x3]).length)*320<=140737488355328/\(([]:List BP)++((s5.take (s7).toNat).drop (0:Int).toNat)).length+([x3]).length<=140737488355328)) (og (decide ((((([]:List BP)++((s5.take (s7).toNat).drop (0:Int).toNat))++([x3])).length+((s5.take ((s5.length:Int)).toNat).drop (s7:Int).toNat).length)*320<=140737488355328/\((([]:List BP)++((s5.take (s7).toNat).drop (0:Int).toNat))++([x3])).length+((s5.take ((s5.length:Int)).toNat).drop (s7:Int).toNat).length<=140737488355328)) (k 8 (kH c l (i64.wrap (s6+1)) (((([]:List BP)++((s5.take (s7).toNat).drop (0:Int).toNat))++([x3]))++((s5.take ((s5.length:Int)).toNat).drop (s7:Int).toNat)))))))))|none=>none))))|none=>none)|none=>none)|false=>(og (decide ((0:Int)<=0/\0<=s7/\s7<=(s5.length:Int))) (match aH l s6 with|some x1=>(og (decide ((0:Int)<=s7/\s7<=(s5.length:Int)/\(s5.length:Int)<=(s5.length:Int))) (dup (.b (.b .l .l) .l) (og (decide ((([]:List BP).length+((s5.take (s7).toNat).drop (0:Int).toNat).length)*320<=140737488355328/\([]:List BP).length+((s5.take (s7).toNat).drop (0:Int).toNat).length<=140737488355328)) (og (decide (((([]:List BP)++((s5.take (s7).toNat).drop (0:Int).toNat)).length+([x1]).length)*320<=140737488355328/\(([]:List BP)++((s5.take (s7).toNat).drop (0:Int).toNat)).length+([x1]).length<=140737488355328)) (og (decide ((((([]:List BP)++((s5.take (s7).toNat).drop (0:Int).toNat))++([x1])).length+((s5.take ((s5.length:Int)).toNat).drop (s7:Int).toNat).length)*320<=140737488355328/\((([]:List BP)++((s5.take (s7).toNat).drop (0:Int).toNat))++([x1])).length+((s5.take ((s5.length:Int)).toNat).drop (s7:Int).toNat).length<=140737488355328)) (k 8 (kH c l (i64.wrap (s6+1)) (((([]:List BP)++((s5.take (s7).toNat).drop (0:Int).toNat))++([x1]))++((s5.take ((s5.length:Int)).toNat).drop (s7:Int).toNat)))))))))|none=>none)))
theorem Au(c:BCU)(l s5:List BP)(s6 s7:Int):RN vA 21 (we c l s5 s6 s7) (uv c l s5 s6 s7):=rnX
theorem aeI(c:BCU)(l:List BP)(hc:okC 4000 c)(hl:∀x∈l,okP 4000 x)(out:List BP)(ho:∀x∈out,okP 4000 x)(hlen:out.length<=1000000)(i:Nat)(hi:i<l.length)(hi2:i<=1000000)(r:List RV)(h:vA.Runs 8 (kH c l ((i+1:Nat):Int) (fb (dC c) out l[i])) r):
  ∀(j k:Nat),k+j=out.length->fb (dC c) out l[i]=out.take k++fb (dC c) (out.drop k) l[i]->vA.Runs 21 (we c l out (i:Int) (k:Int)) r:=by
 have e0:i64.wrap ((i:Int)+1)=((i+1:Nat):Int):=aT (by omega);have gl:aH l (i:Int)=some l[i]:=by rw[ai,amg hi]
 have hx:=hl _ (ams hi);have tl:out.take ((out.length:Int)).toNat=out:=by simp
 have put:∀k:Nat,k<=out.length->fb (dC c) out l[i]=out.take k++[l[i]]++out.drop k->∃n,(match decide ((0:Int)<=0/\0<=(k:Int)/\(k:Int)<=(out.length:Int))with
   |true=>(match aH l (i:Int)with
    |some x5=>(match decide ((0:Int)<=(k:Int)/\(k:Int)<=(out.length:Int)/\(out.length:Int)<=(out.length:Int))with
     |true=>(match decide ((([]:List BP).length+((out.take ((k:Int)).toNat).drop (0:Int).toNat).length)*320<=140737488355328/\([]:List BP).length+((out.take ((k:Int)).toNat).drop (0:Int).toNat).length<=140737488355328)with
      |true=>(match decide (((([]:List BP)++((out.take ((k:Int)).toNat).drop (0:Int).toNat)).length+([x5]).length)*320<=140737488355328/\(([]:List BP)++((out.take ((k:Int)).toNat).drop (0:Int).toNat)).length+([x5]).length<=140737488355328)with
       |true=>(match decide ((((([]:List BP)++((out.take ((k:Int)).toNat).drop (0:Int).toNat))++([x5])).length+((out.take ((out.length:Int)).toNat).drop ((k:Int)).toNat).length)*320<=140737488355328/\((([]:List BP)++((out.take ((k:Int)).toNat).drop (0:Int).toNat))++([x5])).length+((out.take ((out.length:Int)).toNat).drop ((k:Int)).toNat).length<=140737488355328)with
        |true=>vA.k n 8 (kH c l (i64.wrap ((i:Int)+1)) (((([]:List BP)++((out.take ((k:Int)).toNat).drop (0:Int).toNat))++([x5]))++((out.take ((out.length:Int)).toNat).drop ((k:Int)).toNat)))
        |false=>none)
       |false=>none)
      |false=>none)
     |false=>none)
    |none=>none)
   |false=>none)=some r:=by
  intro k hk he;have e1:((out.take ((k:Int)).toNat).drop (0:Int).toNat)=out.take k:=by simp
  have e2:((out.take ((out.length:Int)).toNat).drop ((k:Int)).toNat)=out.drop k:=by simp
  have l1:(out.take k).length=k:=by simp;omega
  have l2:(out.drop k).length=out.length-k:=by simp
  obtain⟨n,hn⟩:=h;refine⟨n,?_⟩;rw[gl,dT (show(0:Int)<=0/\0<=(k:Int)/\(k:Int)<=(out.length:Int) by omega)];dsimp only;rw[dT (show(0:Int)<=(k:Int)/\(k:Int)<=(out.length:Int)/\(out.length:Int)<=(out.length:Int) by omega)];simp only[e1,e2,an4,List.length_nil,amU,amD,l1,l2,amx];rw[dT (by omega),dT (by omega),dT (by omega),e0,<-he];exact hn
 intro j;induction j with
 |zero=>
  intro k hk he;have hk:k=out.length:=by omega
  subst hk;refine Au _ _ _ _ _ ?_;unfold uv;rw[aX (by omega)];simp only[da];refine put _ (amm _) ?_;rw[he];simp[fb]
 |succ j ih=>
  intro k hk he;have hkl:k<out.length:=by omega
  have go:aH out (k:Int)=some out[k]:=by rw[ai,amg hkl]
  have ho1:=ho _ (ams hkl);have ek:i64.wrap ((k:Int)+1)=((k+1:Nat):Int):=aT (by omega);have hd:out.drop k=out[k]::out.drop (k+1):=amz hkl;refine Au _ _ _ _ _ ?_;unfold uv;simp only[da,aK hkl,go,gl,dT (show okC 4000 c/\okP 4000 out[k]/\okP 4000 l[i] from⟨hc,ho1,hx⟩),dT (show okP 4000 out[k]/\okP 4000 l[i] from⟨ho1,hx⟩)];rw[hd]at he;simp only[fb]at he;cases h1:decide (bY (dC c) (dec out[k]) (dec l[i])<0)<;>rw[h1]at he
  ·simp only[cond_false]at he;cases h2:aB (dec out[k]) (dec l[i])==0<;>rw[h2]at he
   ·simp only[cond_false]at he;have:=put k (by omega) (by rw[he,hd];simp);simp only[gl]at this;exact this
   ·simp only[cond_true]at he;rw[<-hd,anG]at he;obtain⟨n,hn⟩:=h;refine⟨n,?_⟩;rw[e0];rw[he]at hn;exact hn
  ·simp only[cond_true]at he;obtain⟨n,hn⟩:=ih (k+1) (by omega) (by rw[he,Km hkl,amH];rfl);refine⟨n,?_⟩;rw[ek];exact hn
theorem VU(c:BCU)(l:List BP)(hc:okC 4000 c)(hl:∀x∈l,okP 4000 x)(hle:l.length<=1000000):∀(j i:Nat),i+j=l.length->∀out:List BP,(∀x∈out,okP 4000 x)->out.length<=i->vA.Runs 8 (kH c l (i:Int) out) [.d (.sl tP) ((l.drop i).foldl (fb (dC c)) out)]:=by
 intro j;induction j with
 |zero=>
  intro i hi out ho hlen;refine Ef _ _ _ _ ⟨0,?_⟩;unfold xR;rw[aX (by omega),wH (by omega)];rfl
 |succ j ih=>
  intro i hi out ho hlen;have hil:i<l.length:=by omega
  have h2:=ih (i+1) (by omega) (fb (dC c) out l[i]) (λx hx=>by
   rcases oM hx with h|h
   ·exact ho x h
   ·rw[h];exact hl _ (ams hil)) (amt (wZ _ _ _) (by omega))
  obtain⟨n,hn⟩:=aeI c l hc hl out ho (by omega) i hil (by omega) _ h2 out.length 0 (by omega) (by simp);refine Ef _ _ _ _ ⟨n,?_⟩;unfold xR;rw[aK hil,jm hil,an6];exact hn
def Y8:Cn 116 [tCU,(.sl tP)]:=cn λ(c:BCU) (l:List BP)=>lf (zh c l) [.d (.sl tP) (gu (dC c) l)] λh=>by
 obtain⟨hc,hle,hl⟩:=h;refine a8 Y6 (show vA.Res _ _ _ from ?_);obtain⟨n,hn⟩:=VU c l hc hl hle l.length 0 (by omega) [] (λx hx=>by cases hx) (amm _);exact agJ _ _ ⟨n,hn⟩
def zv(c:BCU)(x y:BP):BCU:=(c.1,c.2.1,c.2.2.1,c.2.2.2.1,x,y)
def vK(c:BCU):List BP->List BCU
 |[]=>[]
 |x::r=>match r with
  |[]=>[]
  |y::_=>zv c x y::vK c r
def pJ(c:BCU)(l:List BP):List BP:=gu (dC c) ([c.2.2.2.2.1,c.2.2.2.2.2]++l)
def j7(c:BCU)(l:List BP):List BCU:=vK c (pJ c l)
def sF(c:BCU)(l:List BP):Prop:=okC 3500 c/\l.length<=900000/\∀x∈l,okP 3500 x/\onR (dC c) (dec x)=true
instance (c:BCU) (l:List BP):Decidable (sF c l):=by unfold sF;infer_instance
theorem Uk{c:BCU}{l:List BP}(h:sF c l):zh c ([c.2.2.2.2.1,c.2.2.2.2.2]++l):=by
 obtain⟨h1,h2,h3⟩:=h;have h4:=bh (k:=4000) h1 (by decide) (by decide);refine⟨h4,by simp;omega,λx hx=>?_⟩;rcases amG.1 hx with hx|hx
 ·simp only[amy,anW,apb]at hx;rcases hx with rfl|rfl
  ·exact h4.2.2.1
  ·exact h4.2.2.2
 ·exact aV (h3 x hx).1 (by decide) (by decide)
theorem IT(c:BCU)(l:List BP):(pJ c l).length<=l.length+2:=by
 have:=v5 (dC c) ([c.2.2.2.2.1,c.2.2.2.2.2]++l) [];unfold pJ gu;simp at this ⊢;omega
theorem C6{c:BCU}{l:List BP}{x:BP}(h:x∈pJ c l):x=c.2.2.2.2.1\/x=c.2.2.2.2.2\/x∈l:=by
 rcases wx (out:=[]) h with h|h
 ·cases h
 ·rcases amG.1 h with h|h
  ·simp only[amy,anW,apb]at h;rcases h with h|h
   ·exact .inl h
   ·exact .inr (.inl h)
  ·exact .inr (.inr h)
theorem J1{c p:BCU}:∀{s:List BP},p∈vK c s->∃x y,x∈s/\y∈s/\p=zv c x y
 |[],h=>by cases h
 |[_],h=>by cases h
 |x::y::r,h=>by
  simp only[vK]at h;rcases amy.1 h with h|h
  ·exact⟨x,y,by simp,by simp,h⟩
  ·obtain⟨a,b,h1,h2,h3⟩:=J1 (s:=y::r) h;exact⟨a,b,amv _ h1,amv _ h2,h3⟩
def Xq:List En:=[enT Jd,enT JC,enT oI,enL Jr,enT r8,enK Y8]
def acA:NT:=[((80,6),{keep:=[1,2,6],hl:=1}),((80,31),{keep:=[2,7,8,9],own:=[(8,75,tCU)],hl:=3})]
def zW:Ctx:=CX (ens Xq) acA
def Cd(c:BCU)(l:List BP)(s6:Int):Cfg:=⟨80,[.blk 0,.seq 23],[(1,.d (.sl tP) l),(2,.box 0 0),(6,SI s6)],[.box 75 [SB c.1,SB c.2.1.1.1.1,.d apD c.2.1.1.1.2,SB c.2.1.1.2.1,.d apD c.2.1.1.2.2,SB c.2.1.2.1.1.1,.d apD c.2.1.2.1.1.2,SB c.2.1.2.1.2.1,.d apD c.2.1.2.1.2.2,SB c.2.1.2.2.1.1,.d apD c.2.1.2.2.1.2,SB c.2.1.2.2.2.1,.d apD c.2.1.2.2.2.2,SB c.2.2.1.1.1.1,.d apD c.2.2.1.1.1.2,SB c.2.2.1.1.2.1,.d apD c.2.2.1.1.2.2,SB c.2.2.1.2.1.1.1,.d apD c.2.2.1.2.1.1.2,SB c.2.2.1.2.1.2.1,.d apD c.2.2.1.2.1.2.2,SB c.2.2.1.2.2.1.1,.d apD c.2.2.1.2.2.1.2,SB c.2.2.1.2.2.2.1,.d apD c.2.2.1.2.2.2.2,SB c.2.2.2.1,SB c.2.2.2.2.1.1.1.1,.d apD c.2.2.2.2.1.1.1.2,SB c.2.2.2.2.1.1.2.1,.d apD c.2.2.2.2.1.1.2.2,SB c.2.2.2.2.1.2.1.1.1,.d apD c.2.2.2.2.1.2.1.1.2,SB c.2.2.2.2.1.2.1.2.1,.d apD c.2.2.2.2.1.2.1.2.2,SB c.2.2.2.2.1.2.2.1.1.1,.d apD c.2.2.2.2.1.2.2.1.1.2,SB c.2.2.2.2.1.2.2.1.2.1,.d apD c.2.2.2.2.1.2.2.1.2.2,SB c.2.2.2.2.1.2.2.2.1.1.1,.d apD c.2.2.2.2.1.2.2.2.1.1.2,SB c.2.2.2.2.1.2.2.2.1.2.1,.d apD c.2.2.2.2.1.2.2.2.1.2.2,SB c.2.2.2.2.1.2.2.2.2.1.1,.d apD c.2.2.2.2.1.2.2.2.2.1.2,SB c.2.2.2.2.1.2.2.2.2.2.1,.d apD c.2.2.2.2.1.2.2.2.2.2.2,SB c.2.2.2.2.2.1.1.1,.d apD c.2.2.2.2.2.1.1.2,SB c.2.2.2.2.2.1.2.1,.d apD c.2.2.2.2.2.1.2.2,SB c.2.2.2.2.2.2.1.1.1,.d apD c.2.2.2.2.2.2.1.1.2,SB c.2.2.2.2.2.2.1.2.1,.d apD c.2.2.2.2.2.2.1.2.2,SB c.2.2.2.2.2.2.2.1.1.1,.d apD c.2.2.2.2.2.2.2.1.1.2,SB c.2.2.2.2.2.2.2.1.2.1,.d apD c.2.2.2.2.2.2.2.1.2.2,SB c.2.2.2.2.2.2.2.2.1.1.1,.d apD c.2.2.2.2.2.2.2.2.1.1.2,SB c.2.2.2.2.2.2.2.2.1.2.1,.d apD c.2.2.2.2.2.2.2.2.1.2.2,SB c.2.2.2.2.2.2.2.2.2.1.1,.d apD c.2.2.2.2.2.2.2.2.2.1.2,SB c.2.2.2.2.2.2.2.2.2.2.1,.d apD c.2.2.2.2.2.2.2.2.2.2.2]],0,[]⟩
def wi(c:BCU)(l:List BP)(s9:Int)(r2:List BCU):Cfg:=⟨80,[.blk 2,.seq 46],[(2,.box 0 0),(7,.d (.sl tP) (gu (dC c) (([c.2.2.2.2.1,c.2.2.2.2.2])++l))),(8,.own 2),(9,SI s9)],[.box 75 [SB c.1,SB c.2.1.1.1.1,.d apD c.2.1.1.1.2,SB c.2.1.1.2.1,.d apD c.2.1.1.2.2,SB c.2.1.2.1.1.1,.d apD c.2.1.2.1.1.2,SB c.2.1.2.1.2.1,.d apD c.2.1.2.1.2.2,SB c.2.1.2.2.1.1,.d apD c.2.1.2.2.1.2,SB c.2.1.2.2.2.1,.d apD c.2.1.2.2.2.2,SB c.2.2.1.1.1.1,.d apD c.2.2.1.1.1.2,SB c.2.2.1.1.2.1,.d apD c.2.2.1.1.2.2,SB c.2.2.1.2.1.1.1,.d apD c.2.2.1.2.1.1.2,SB c.2.2.1.2.1.2.1,.d apD c.2.2.1.2.1.2.2,SB c.2.2.1.2.2.1.1,.d apD c.2.2.1.2.2.1.2,SB c.2.2.1.2.2.2.1,.d apD c.2.2.1.2.2.2.2,SB c.2.2.2.1,SB c.2.2.2.2.1.1.1.1,.d apD c.2.2.2.2.1.1.1.2,SB c.2.2.2.2.1.1.2.1,.d apD c.2.2.2.2.1.1.2.2,SB c.2.2.2.2.1.2.1.1.1,.d apD c.2.2.2.2.1.2.1.1.2,SB c.2.2.2.2.1.2.1.2.1,.d apD c.2.2.2.2.1.2.1.2.2,SB c.2.2.2.2.1.2.2.1.1.1,.d apD c.2.2.2.2.1.2.2.1.1.2,SB c.2.2.2.2.1.2.2.1.2.1,.d apD c.2.2.2.2.1.2.2.1.2.2,SB c.2.2.2.2.1.2.2.2.1.1.1,.d apD c.2.2.2.2.1.2.2.2.1.1.2,SB c.2.2.2.2.1.2.2.2.1.2.1,.d apD c.2.2.2.2.1.2.2.2.1.2.2,SB c.2.2.2.2.1.2.2.2.2.1.1,.d apD c.2.2.2.2.1.2.2.2.2.1.2,SB c.2.2.2.2.1.2.2.2.2.2.1,.d apD c.2.2.2.2.1.2.2.2.2.2.2,SB c.2.2.2.2.2.1.1.1,.d apD c.2.2.2.2.2.1.1.2,SB c.2.2.2.2.2.1.2.1,.d apD c.2.2.2.2.2.1.2.2,SB c.2.2.2.2.2.2.1.1.1,.d apD c.2.2.2.2.2.2.1.1.2,SB c.2.2.2.2.2.2.1.2.1,.d apD c.2.2.2.2.2.2.1.2.2,SB c.2.2.2.2.2.2.2.1.1.1,.d apD c.2.2.2.2.2.2.2.1.1.2,SB c.2.2.2.2.2.2.2.1.2.1,.d apD c.2.2.2.2.2.2.2.1.2.2,SB c.2.2.2.2.2.2.2.2.1.1.1,.d apD c.2.2.2.2.2.2.2.2.1.1.2,SB c.2.2.2.2.2.2.2.2.1.2.1,.d apD c.2.2.2.2.2.2.2.2.1.2.2,SB c.2.2.2.2.2.2.2.2.2.1.1,.d apD c.2.2.2.2.2.2.2.2.2.1.2,SB c.2.2.2.2.2.2.2.2.2.2.1,.d apD c.2.2.2.2.2.2.2.2.2.2.2],.gone,.row 75 tCU r2],0,[]⟩
def ajs(c:BCU)(l:List BP)(k:KT):OLR:=k 6 (Cd c l 0)
theorem ahp(c:BCU)(l:List BP):RS zW 80 [.d tCU c,.d (.sl tP) l] (ajs c l):=rsX
def yh(c:BCU)(l:List BP)(s6:Int)(k:KT):OLR:=match decide (s6<(l.length:Int))with|true=>(match aH l s6 with|some x1=>(og (decide (okC 3500 c/\okP 3500 x1)) (match !(onR (dC c) (dec x1))with|true=>some [RV.d (.sl tCU) ([]),RV.d apE 1]|false=>k 6 (Cd c l (i64.wrap (s6+1)))))|none=>none)|false=>(og (decide ((([c.2.2.2.2.1,c.2.2.2.2.2]).length+l.length)*320<=140737488355328/\([c.2.2.2.2.1,c.2.2.2.2.2]).length+l.length<=140737488355328)) (og (decide (zh c (([c.2.2.2.2.1,c.2.2.2.2.2])++l))) (k 31 (wi c l 1 ([])))))
theorem Dc(c:BCU)(l:List BP)(s6:Int):RN zW 6 (Cd c l s6) (yh c l s6):=rnX
def u7(c:BCU)(l:List BP)(s9:Int)(r2:List BCU)(k:KT):OLR:=match decide (s9<((gu (dC c) (([c.2.2.2.2.1,c.2.2.2.2.2])++l)).length:Int))with|true=>(match aH (gu (dC c) (([c.2.2.2.2.1,c.2.2.2.2.2])++l)) (i64.wrap (s9-1))with|some x1=>(match aH (gu (dC c) (([c.2.2.2.2.1,c.2.2.2.2.2])++l)) s9 with|some x2=>dup (.b .l .l) (og (decide ((r2.length+([(c.1,(c.2.1,(c.2.2.1,(c.2.2.2.1,(x1,x2)))))]).length)*1040<=140737488355328/\r2.length+([(c.1,(c.2.1,(c.2.2.1,(c.2.2.2.1,(x1,x2)))))]).length<=140737488355328)) (k 31 (wi c l (i64.wrap (s9+1)) (r2++([(c.1,(c.2.1,(c.2.2.1,(c.2.2.2.1,(x1,x2)))))])))))|none=>none)|none=>none)|false=>some [RV.d (.sl tCU) r2,RV.d apE 0]
theorem z6(c:BCU)(l:List BP)(s9:Int)(r2:List BCU):RN zW 31 (wi c l s9 r2) (u7 c l s9 r2):=rnX
theorem ac9(c:BCU)(l:List BP)(hle:l.length<=900000)(S:List BP)(hS:S=pJ c l):∀(j i:Nat),1<=i->i+j=max S.length 1->∀out:List BCU,out.length<=i->zW.Runs 31 (wi c l (i:Int) out) [.d (.sl tCU) (out++vK c (S.drop (i-1))),.d apE (0:Int)]:=by
 have hSl:=IT c l;rw[<-hS]at hSl;have eS:gu (dC c) ([c.2.2.2.2.1,c.2.2.2.2.2]++l)=S:=hS.symm;intro j;induction j with
 |zero=>
  intro i h1 hi out hlen;refine z6 _ _ _ _ ⟨0,?_⟩;unfold u7;rw[eS,aX (by omega)]
  have:vK c (S.drop (i-1))=[]:=by
   have hl:(S.drop (i-1)).length<=1:=by rw[aoH];omega
   match S.drop (i-1),hl with
   |[],_=>rfl
   |[_],_=>rfl
   |_::_::_,h=>simp at h
  rw[this,amO]
 |succ j ih=>
  intro i h1 hi out hlen;have hil:i<S.length:=by omega
  have e1:i64.wrap ((i:Int)-1)=((i-1:Nat):Int):=by rw[aO (by omega) (by omega)];omega
  have e2:i64.wrap ((i:Int)+1)=((i+1:Nat):Int):=aT (by omega);have g1:aH S ((i-1:Nat):Int)=some S[i-1]:=by rw[ai,amg (by omega)]
  have g2:aH S (i:Int)=some S[i]:=by rw[ai,amg hil]
  obtain⟨n,hn⟩:=ih (i+1) (by omega) (by omega) (out++[zv c S[i-1] S[i]]) (by simp;omega);refine z6 _ _ _ _ ⟨n,?_⟩;unfold u7;rw[eS];simp only[da,aK hil,e1,e2,g1,g2];rw[dT (by simp;omega)]
  have hd:S.drop (i-1)=S[i-1]::S.drop i:=by
   have:=amz (l:=S) (i:=i-1) (by omega);rw[this,show i-1+1=i by omega]
  have hd2:S.drop i=S[i]::S.drop (i+1):=amz hil;rw[hd,hd2];rw[show i+1-1=i by omega,hd2,amH]at hn;exact hn
theorem adh(c:BCU)(l:List BP)(h:sF c l):∀(j i:Nat),i+j=l.length->zW.Runs 6 (Cd c l (i:Int)) [.d (.sl tCU) (j7 c l),.d apE (0:Int)]:=by
 have hs:=Uk h;obtain⟨hc,hle,hl⟩:=h;intro j;induction j with
 |zero=>
  intro i hi;obtain⟨n,hn⟩:=ac9 c l hle (pJ c l) rfl (max (pJ c l).length 1-1) 1 (amm _) (by omega) [] (by simp);refine Dc _ _ _ ⟨n,?_⟩;unfold yh;rw[aX (by omega),dT (by simp;omega),dT hs];exact hn
 |succ j ih=>
  intro i hi;have hil:i<l.length:=by omega
  obtain⟨n,hn⟩:=ih (i+1) (by omega);have h1:=hl _ (ams hil);refine Dc _ _ _ ⟨n,?_⟩;unfold yh;rw[aK hil,ai,amg hil,aT (by omega)];dsimp only;rw[dT (show okC 3500 c/\okP 3500 l[i] from⟨hc,h1.1⟩),h1.2];exact hn
def Q3:Cn 80 [tCU,(.sl tP)]:=cn λ(c:BCU) (l:List BP)=>lf (sF c l) [.d (.sl tCU) (j7 c l),.d apE 0] λh=>by
 refine a8 Xq (show zW.Res _ _ _ from ?_);obtain⟨n,hn⟩:=adh c l h l.length 0 (by omega);exact ahp _ _ ⟨n,hn⟩
def FQ(n d:Int):Prop:=aR n/\aR d/\0<d
instance (n d:Int):Decidable (FQ n d):=by unfold FQ;infer_instance
def aaO:List En:=[enL xM,enL X8]
def MX(n d:Int)(_k:KT):OLR:=match d==0 with|true=>(og (decide (aR (0:Int))) (og (decide (aR (1:Int))) (og (decide (jQ (hid (ah (0:Int))) (hid (ah (1:Int))))) (some [RV.d tR (hid (eT (hid (ah (0:Int))) (hid (ah (1:Int)))))]))))|false=>(og (decide (aR n)) (og (decide (aR d)) (og (decide (jQ (hid (ah n)) (hid (ah d)))) (some [RV.d tR (hid (eT (hid (ah n)) (hid (ah d))))]))))
def Qk:Cn 104 [apE,apE]:=cn λ(n d:Int)=>lf (FQ n d) [.d tR (am (Rat.divInt n d))] λh=>by
 refine aA aaO (MX n d) ⟨0,?_⟩;obtain⟨hn,hd,h0⟩:=h;have hne:(d==0)=false:=by simp;omega
 unfold MX;rw[hne,dT hn,dT hd];simp only[aQ];rw[dT (show jQ (ah n) (ah d) from⟨aS (by have:=n5 hn;omega),aS (by have:=n5 hd;omega),by rw[dec_enc];omega⟩)];unfold eT;rw[dec_enc,dec_enc]
section
theorem Con.new_d{P:Program}{f:Nat}{args:List SV}{et:TypeId}{e:Ty}{xs:List e.D}(h:Con P f args [.new et e xs]):Con P f args [.d (.sl e) xs]:=by
 intro A w vs hI ha;refine(h A w vs hI ha).mono ?_;rintro en w' ⟨v,rfl,hb,css,ho,ha2,hn⟩
 refine⟨v,rfl,hb,?_⟩;obtain⟨hlen,p,c,hv,h1,h2,h3⟩:=Rd.of_own hn ho;subst hv;refine⟨[.slice p xs.length c],⟨p,xs.length,c,css,rfl,rfl,h1,h2,aY (λ_ _ h=>Ty.rd_keep ⟨amm _,λb _ hb=>hb.1,λ_ _ _=>rfl⟩ h) ha2,λh0=>?_⟩,rfl⟩;obtain⟨b,off,rfl,h5,h6⟩:=h3 h0;refine⟨b,off,rfl,.inr ?_,h5,h6⟩;rcases ho.2 with⟨h7,_⟩|⟨g,cap,cur,h7,h8,_⟩
 ·cases h7
 ·injection h7 with h7;injection h7 with h7;injection h7 with h7;subst h7;exact h8
class Bb (q:Rat) (n d:outParam Nat):Prop where
 nu:q.num.natAbs<=2^n
 de:q.den<=2^d
theorem aih{n:Int}{d a b:Nat}(hd:d≠0)(h1:n.natAbs<=2^a)(h2:d<=2^b):(mkRat n d).num.natAbs<=2^a/\(mkRat n d).den<=2^b:=by
 rw[apj,apk,amJ hd,amJ hd];constructor
 ·refine amt ?_ h1;refine(HZ n (d.gcd n.natAbs)).resolve_right (λh=>h ?_);exact Int.ofNat_dvd_left.2 (Nat.gcd_dvd_right d n.natAbs)
 ·exact amt (Nat.div_le_self _ _) h2
section
variable {a b:Rat} {m n d e:Nat}
theorem ZH:∀k:Nat,((2^(29*k):Nat):Int)<=pw k
 |0=>by decide
 |k+1=>by
  have ih:=ZH k
  have e:2^(29*(k+1))=2^(29*k)*536870912:=by
   rw[Nat.mul_add,Nat.pow_add]
  rw[e,bW,anB];have:(0:Int)<=pw k:=Int.le_trans (Int.natCast_nonneg _) ih;omega
theorem Za{z:Int}{n:Nat}(h:z.natAbs<=2^n):szI z<=n/29+1:=by
 have h1:=ZH (n/29+1);have h2:2^n<2^(29*(n/29+1)):=Nat.pow_lt_pow_right (by decide) (by omega);exact eP (by omega) (by omega)
theorem XC [h:Bb a m d]{k:Nat}(hm:m/29+1<=k)(hd:d/29+1<=k):Bd a k:=⟨⟨amt (Za h.nu) hm,amt (Za (z:=(a.den:Int)) h.de) hd⟩⟩
end
theorem Vo{n d:Int}{a b:Nat}(h0:0<d)(h1:n.natAbs<=2^a)(h2:d.natAbs<=2^b):Bb (Rat.divInt n d) a b:=by
 obtain⟨k,rfl⟩:=anQ (show 0<=d by omega);rw[Rat.divInt_ofNat];have:=aih (n:=n) (d:=k) (by omega) h1 h2;exact⟨this.1,this.2⟩
def cK(x:BO3):Prop:=ok Rat 12 x.1/\ok Rat 12 x.2.1/\ok Rat 63 x.2.2/\((dec x:Ln).1≠0\/(dec x:Ln).2.1≠0)
instance (x:BO3):Decidable (cK x):=by unfold cK;infer_instance
def bi(x:BO3):Prop:=ok Rat 4 x.1/\ok Rat 4 x.2.1/\ok Rat 13 x.2.2/\(0:Rat)<(dec x:Ln).2.2
instance (x:BO3):Decidable (bi x):=by unfold bi;infer_instance
class BdL (l:Ln):Prop where
 a:Bd l.1 12
 b:Bd l.2.1 12
 c:Bd l.2.2 63
class BdC (c:Ln):Prop where
 x:Bd c.1 4
 y:Bd c.2.1 4
 q:Bd c.2.2 13
theorem dU{x:BO3}(h:cK x):∃l:Ln,x=enc l/\BdL l/\(l.1≠0\/l.2.1≠0):=by
 obtain⟨h1,h2,h3,h4⟩:=h;obtain⟨x1,x2,x3⟩:=x;obtain⟨a,rfl,ba⟩:=aM h1;obtain⟨b,rfl,bb⟩:=aM h2;obtain⟨c,rfl,bc⟩:=aM h3;have e:((enc a,enc b,enc c):BO3)=enc ((a,b,c):Ln):=rfl;rw[e,au]at h4;exact⟨(a,b,c),rfl,⟨ba,bb,bc⟩,h4⟩
theorem b8{x:BO3}(h:bi x):∃c:Ln,x=enc c/\BdC c/\0<c.2.2:=by
 obtain⟨h1,h2,h3,h4⟩:=h;obtain⟨x1,x2,x3⟩:=x;obtain⟨a,rfl,ba⟩:=aM h1;obtain⟨b,rfl,bb⟩:=aM h2;obtain⟨c,rfl,bc⟩:=aM h3;have e:((enc a,enc b,enc c):BO3)=enc ((a,b,c):Ln):=rfl;rw[e,au]at h4;exact⟨(a,b,c),rfl,⟨ba,bb,bc⟩,h4⟩
theorem lV{l:Ln}[h:BdL l](h0:l.1≠0\/l.2.1≠0):cK (enc l):=by
 have a:=h.a;have b:=h.b;have c:=h.c;exact⟨amj (okd (amm _) (by decide)),amj (okd (amm _) (by decide)),amj (okd (amm _) (by decide)),by rw[au];exact h0⟩
theorem jM{c:Ln}[h:BdC c](h0:0<c.2.2):bi (enc c):=by
 have a:=h.x;have b:=h.y;have c:=h.q;exact⟨amj (okd (amm _) (by decide)),amj (okd (amm _) (by decide)),amj (okd (amm _) (by decide)),by rw[au];exact h0⟩
section
variable {l c:Ln}
instance amf [h:BdL l]:Bd l.1 12:=h.a
instance amb [h:BdL l]:Bd l.2.1 12:=h.b
instance ama [h:BdL l]:Bd l.2.2 63:=h.c
instance amc [h:BdC c]:Bd c.1 4:=h.x
instance amd [h:BdC c]:Bd c.2.1 4:=h.y
instance ame [h:BdC c]:Bd c.2.2 13:=h.q
theorem ado [h:BdL l]:Bd l 63:=⟨⟨Cod.mono _ _ _ (by decide) h.a.le,Cod.mono _ _ _ (by decide) h.b.le,h.c.le⟩⟩
theorem ab7 [h:BdC c]:Bd c 13:=⟨⟨Cod.mono _ _ _ (by decide) h.x.le,Cod.mono _ _ _ (by decide) h.y.le,h.q.le⟩⟩
end
def eI(l m:Ln):Rat:=l.1*m.2.1-m.1*l.2.1
def pu(l m:Ln):Rat:=l.2.2*m.2.1-m.2.2*l.2.1
def pi(l m:Ln):Rat:=l.1*m.2.2-m.1*l.2.2
def qu(l m:Ln):List Pt:=bif !decide (eI l m=0)then [atP (pu l m/eI l m,pi l m/eI l m)]else []
def Nc(l m:Ln):Int:=bif !decide (eI l m=0)then 0 else bif decide (pu l m=0)&&decide (pi l m=0)then 10 else 0
def cG(l:Ln):Rat:=l.1*l.1+l.2.1*l.2.1
def vlL(l:Ln)(x y:Rat):Rat:=l.1*x+l.2.1*y-l.2.2
def jd(l c:Ln):Rat:=cG l*c.2.2-vlL l c.1 c.2.1*vlL l c.1 c.2.1
def l7(ax bx ay b_ c:Rat):Pt:=bif dP c then atP (ax+bx*rtQ c,ay+b_*rtQ c)else(ax,bx,ay,b_,c)
def ftX(l c:Ln):Rat:=c.1-vlL l c.1 c.2.1/cG l*l.1
def ftY(l c:Ln):Rat:=c.2.1-vlL l c.1 c.2.1/cG l*l.2.1
def sE(l c:Ln):Pt:=l7 (ftX l c) (-(l.2.1/cG l)) (ftY l c) (-(-l.1/cG l)) (jd l c)
def ta(l c:Ln):Pt:=l7 (ftX l c) (l.2.1/cG l) (ftY l c) (-l.1/cG l) (jd l c)
def qZ(l c:Ln):List Pt:=bif decide (jd l c<0)then []else bif decide (jd l c=0)then [atP (ftX l c,ftY l c)]
 else bif decide (aB (sE l c) (ta l c)>0)then [ta l c,sE l c]else [sE l c,ta l c]
def jL(c d:Ln):Bool:=decide (c.1=d.1)&&decide (c.2.1=d.2.1)
def rG(c:Ln):Rat:=c.1*c.1+c.2.1*c.2.1-c.2.2
def o0(c d:Ln):Ln:=(2*(d.1-c.1),2*(d.2.1-c.2.1),rG d-rG c)
def DW(c d:Ln):List Pt:=bif jL c d then []else qZ (o0 c d) c
def VD(c d:Ln):Int:=bif jL c d then(bif decide (c.2.2=d.2.2)then 10 else 0)else 0
def vV(c d:Ln):BO3:=bif jL c d then o00 else enc (o0 c d)
def Vs(c d:Ln):Int:=bif jL c d then 6 else 0
def pD(l m:Ln):Bool:=decide (l.1*m.2.1=l.2.1*m.1)&&(decide (l.1*m.2.2=l.2.2*m.1)&&decide (l.2.1*m.2.2=l.2.2*m.2.1))
def pE(c d:Ln):Bool:=decide (c.1=d.1)&&(decide (c.2.1=d.2.1)&&decide (c.2.2=d.2.2))
def cf(a b:Cv):Bool:=bif a.1==b.1 then(bif a.1 then pE (ciC a) (ciC b)else pD (lnC a) (lnC b))else false
def EI(a:BCU):Prop:=(a.1=true->bi a.2.2.1)/\(a.1=false->cK a.2.1)
instance (a:BCU):Decidable (EI a):=by unfold EI;infer_instance
def fa(a b:BCU):Prop:=EI a/\EI b
instance (a b:BCU):Decidable (fa a b):=by unfold fa;infer_instance
def vP(a b:Cv):List Pt:=bif a.1&&b.1 then DW (ciC a) (ciC b)else bif a.1 then qZ (lnC b) (ciC a)else bif b.1 then qZ (lnC a) (ciC b)else qu (lnC a) (lnC b)
def Yh(a b:Cv):Int:=bif a.1&&b.1 then VD (ciC a) (ciC b)else bif a.1 then 0 else bif b.1 then 0 else Nc (lnC a) (lnC b)
def cd(c:Ln):Pt:=l7 c.1 (-1) c.2.1 0 c.2.2
def bZ(c:Ln):Pt:=l7 c.1 1 c.2.1 0 c.2.2
theorem mo{ax bx ay b_ c:Rat}(h0:¬(bx=0/\b_=0))(hc:0<=c):Rpd (l7 ax bx ay b_ c):=by
 refine⟨?_⟩;unfold l7;cases hq:dP c
 ·exact .inr ⟨h0,HQ hc hq,hq⟩
 ·exact .inl ⟨rfl,rfl,rfl⟩
theorem Cs{ax bx ay b_ c:Rat}{j k m:Nat}(h1:Bd ax j)(h2:Bd bx k)(h3:Bd ay j)(h4:Bd b_ k)(h5:Bd c m){n:Nat}(hn:j+(k+m)+1<=n):Bd (l7 ax bx ay b_ c) n:=by
 have z:bdR n 0:=b9 sQ.le (by omega);have i1:Bd (ax+bx*rtQ c) _:=inferInstance;have i2:Bd (ay+b_*rtQ c) _:=inferInstance;refine⟨?_⟩;unfold l7;cases dP c
 ·exact⟨b9 h1.le (by omega),b9 h2.le (by omega),b9 h3.le (by omega),b9 h4.le (by omega),b9 h5.le (by omega)⟩
 ·exact⟨b9 i1.le (by omega),z,b9 i2.le (by omega),z,z⟩
section
variable {l m c d:Ln}
theorem oT(h:l.1≠0\/l.2.1≠0):cG l≠0:=Jt h
instance alO [BdL l] [h:BdC c]:Bd (jd l c) 257:=by
 have hx:=h.x;have hy:=h.y;have hq:=h.q;have i1:Bd (cG l) 49:=inferInstanceAs (Bd (l.1*l.1+l.2.1*l.2.1) _);have i2:Bd (vlL l c.1 c.2.1) 97:=inferInstanceAs (Bd (l.1*c.1+l.2.1*c.2.1-l.2.2) _);exact(inferInstance:Bd (cG l*c.2.2-vlL l c.1 c.2.1*vlL l c.1 c.2.1) _).mono (by decide)
theorem vw [BdL l][h:BdC c]:Bd (ftX l c) 163/\Bd (ftY l c) 163/\Bd (l.2.1/cG l) 61/\Bd (l.1/cG l) 61:=by
 have hx:=h.x;have hy:=h.y;have i1:Bd (cG l) 49:=inferInstanceAs (Bd (l.1*l.1+l.2.1*l.2.1) _);have i2:Bd (vlL l c.1 c.2.1) 97:=inferInstanceAs (Bd (l.1*c.1+l.2.1*c.2.1-l.2.2) _);have i3:Bd (c.1-vlL l c.1 c.2.1/cG l*l.1) _:=inferInstance;have i4:Bd (c.2.1-vlL l c.1 c.2.1/cG l*l.2.1) _:=inferInstance;have i5:Bd (l.2.1/cG l) _:=inferInstance;have i6:Bd (l.1/cG l) _:=inferInstance;exact⟨i3.mono (by decide),i4.mono (by decide),i5.mono (by decide),i6.mono (by decide)⟩
end
end
section
theorem Lx(a b:Rat):((am a,am b):BV)=enc ((a,b):Rat×Rat):=nr rfl
theorem Mp{q:Rat}(h:¬q<0)(h':¬q=0):0<q:=by grind
theorem rdl{l:Ln}(h:cG l≠0)(hl:l.1≠0\/l.2.1≠0):¬(l.2.1/cG l=0/\ -l.1/cG l=0):=by
 intro ⟨h1,h2⟩
 have m:∀a:Rat,a/cG l=0->a=0:=λa e=>by
  have:a/cG l*cG l=a:=anR h;rw[e,apg]at this;exact this.symm
 have:=m _ h1;have:=m _ h2;rcases hl with h|h<;>grind
section
variable {l c:Ln}
theorem Pb(hl:l.1≠0\/l.2.1≠0)(h0:0<=jd l c):Rpd (sE l c)/\Rpd (ta l c):=by
 have hn:=oT hl;refine⟨mo (λh=>rdl hn hl ⟨by grind,by grind⟩) h0,mo (rdl hn hl) h0⟩
theorem QM [BdL l][BdC c]:Bd (sE l c) 490/\Bd (ta l c) 490:=by
 obtain⟨h1,h2,h3,h4⟩:=vw (l:=l) (c:=c);have h5:Bd (jd l c) 257:=inferInstance;have n1:Bd (-(l.2.1/cG l)) 61:=inferInstance;have i1:Bd (cG l) 49:=inferInstanceAs (Bd (l.1*l.1+l.2.1*l.2.1) _);have n2:Bd (-l.1/cG l) 61:=(inferInstance:Bd (-l.1/cG l) _)
 have n3:Bd (-(-l.1/cG l)) 61:=inferInstance;exact⟨Cs h1 n1 h2 n3 h5 (by decide),Cs h1 h3 h2 n2 h5 (by decide)⟩
end
theorem C8{c d:Ln}[BdC c][BdC d]:BdL (o0 c d):=by
 have b2:Bd (2:Rat) 3:=dZ (n:=2) (by decide);have f1:Bd (rG c) 31:=(inferInstance:Bd (c.1*c.1+c.2.1*c.2.1-c.2.2) _).mono (by decide);have f2:Bd (rG d) 31:=(inferInstance:Bd (d.1*d.1+d.2.1*d.2.1-d.2.2) _).mono (by decide);have g1:Bd (2*(d.1-c.1)) _:=inferInstance;have g2:Bd (2*(d.2.1-c.2.1)) _:=inferInstance;have g3:Bd (rG d-rG c) _:=inferInstance;exact⟨g1.mono (by decide),g2.mono (by decide),g3.mono (by decide)⟩
theorem Fk{c d:Ln}(h:jL c d=false):(o0 c d).1≠0\/(o0 c d).2.1≠0:=by
 unfold jL at h;unfold o0;dsimp only;by_cases h1:c.1=d.1
 ·rw[amh h1,anP]at h;have:=am7 h;right;grind
 ·left;grind
theorem LK{c d:Ln}[BdC c][BdC d](h:jL c d=false):cK (enc (o0 c d)):=lV (h:=C8) (Fk h)
def vJ:List En:=[enT l9,enL ru,enL vp,enL yc,enL rK,enT uq,enL nB,enL wK,enL BH,enL GR,enT r8,enL Ge]
def ah1:Cn 167 [tR,tR]:=cn λ(a b:BR)=>lf (okR a/\okR b) [.d tR (am (ag a+ag b))] λh=>qw [RV.d tR (hAd a b)] (eU vJ) h
def afW:Cn 228 [tR,tR]:=cn λ(a b:BR)=>lf (okR a/\okR b) [.d tR (am (ag a-ag b))] λh=>qw [RV.d tR (hSu a b)] (eU vJ) h
def ah9:Cn 168 [tR,tR]:=cn λ(a b:BR)=>lf (okR a/\okR b) [.d tR (am (ag a*ag b))] λh=>qw [RV.d tR (hMu a b)] (eU vJ) h
def agC:Cn 119 [tR]:=cn λ(a:BR)=>lf (okR a) [.d tR (am (-ag a))] λh=>qw [RV.d tR (hNe a)] (eU vJ) h
def ah3:Cn 226 [tR,tR]:=cn λ(a b:BR)=>lf (kV a b) [.d tR (am (ag a/ag b))] λh=>qw [RV.d tR (hDi a b)] (eU vJ) h
def Sn(l m:BO3)(_k:KT):OLR:=og (o2 l.1 m.2.1) (og (o2 l.2.1 m.1) (og (o2 (hMu l.1 m.2.1) (hMu l.2.1 m.1)) (match(aD (ag (hMu l.1 m.2.1)) (ag (hMu l.2.1 m.1)))==0 with|true=>(og (o2 l.1 m.2.2) (og (o2 l.2.2 m.1) (og (o2 (hMu l.1 m.2.2) (hMu l.2.2 m.1)) (match(aD (ag (hMu l.1 m.2.2)) (ag (hMu l.2.2 m.1)))==0 with|true=>(og (o2 l.2.1 m.2.2) (og (o2 l.2.2 m.2.1) (og (o2 (hMu l.2.1 m.2.2) (hMu l.2.2 m.2.1)) (some [RV.d .bool ((aD (ag (hMu l.2.1 m.2.2)) (ag (hMu l.2.2 m.2.1)))==0)]))))|false=>some [RV.d .bool false]))))|false=>some [RV.d .bool false])))
def aaV:Cn 111 [tO,tO]:=cn λ(l m:BO3)=>lf (cK l/\cK m) [.d .bool (pD (dec l) (dec m))] λh=>by
 refine aA vJ (Sn l m) ⟨0,?_⟩;obtain⟨hl,hm⟩:=h;obtain⟨l,rfl,bl,nl⟩:=dU hl;obtain⟨m,rfl,bm,nm⟩:=dU hm;unfold Sn pD;simp only[bE,Nat.reduceAdd,Nat.reduceLeDiff,ao];cases decide (l.1*m.2.1=l.2.1*m.1)<;>cases decide (l.1*m.2.2=l.2.2*m.1)<;>rfl
def Q1(c d:BO3)(_k:KT):OLR:=og (o2 c.1 d.1) (match(aD (ag c.1) (ag d.1))==0 with|true=>(og (o2 c.2.1 d.2.1) (match(aD (ag c.2.1) (ag d.2.1))==0 with|true=>(og (o2 c.2.2 d.2.2) (some [RV.d .bool ((aD (ag c.2.2) (ag d.2.2))==0)]))|false=>some [RV.d .bool false]))|false=>some [RV.d .bool false])
def acu:Cn 110 [tO,tO]:=cn λ(c d:BO3)=>lf (bi c/\bi d) [.d .bool (pE (dec c) (dec d))] λh=>by
 refine aA vJ (Q1 c d) ⟨0,?_⟩;obtain⟨hc,hd⟩:=h;obtain⟨c,rfl,bc,nc⟩:=b8 hc;obtain⟨d,rfl,bd,nd⟩:=b8 hd;unfold Q1 pE;simp only[bE,Nat.reduceLeDiff,ao];cases decide (c.1=d.1)<;>cases decide (c.2.1=d.2.1)<;>rfl
def zG:List En:=enL ah1::enL afW::enL ah9::enL agC::enL ah3::vJ
def aab(l m:BO3)(_k:KT):OLR:=og (o2 l.1 m.2.1) (og (o2 m.1 l.2.1) (og (o2 (hMu l.1 m.2.1) (hMu m.1 l.2.1)) (some [RV.d tR (hSu (hMu l.1 m.2.1) (hMu m.1 l.2.1))])))
def af4:Cn 229 [tO,tO]:=cn λ(l m:BO3)=>lf (cK l/\cK m) [.d tR (am (eI (dec l) (dec m)))] λh=>by
 refine aA zG (aab l m) ⟨0,?_⟩;obtain⟨hl,hm⟩:=h;obtain⟨l,rfl,bl,nl⟩:=dU hl;obtain⟨m,rfl,bm,nm⟩:=dU hm;unfold aab eI;simp only[bE,Nat.reduceAdd,Nat.reduceLeDiff]
def XK(l:BO3)(_k:KT):OLR:=og (o2 l.1 l.1) (og (o2 l.2.1 l.2.1) (og (o2 (hMu l.1 l.1) (hMu l.2.1 l.2.1)) (some [RV.d tR (hAd (hMu l.1 l.1) (hMu l.2.1 l.2.1))])))
def akk:Cn 225 [tO]:=cn λ(l:BO3)=>lf (cK l) [.d tR (am (cG (dec l)))] λh=>by
 refine aA zG (XK l) ⟨0,?_⟩;have hl:=h;obtain⟨l,rfl,bl,nl⟩:=dU hl;unfold XK cG;simp only[bE,Nat.reduceAdd,Nat.reduceLeDiff]
def aar(l:BO3)(x y:BR)(_k:KT):OLR:=og (o2 l.1 x) (og (o2 l.2.1 y) (og (o2 (hMu l.1 x) (hMu l.2.1 y)) (og (o2 (hAd (hMu l.1 x) (hMu l.2.1 y)) l.2.2) (some [RV.d tR (hSu (hAd (hMu l.1 x) (hMu l.2.1 y)) l.2.2)]))))
def afV:Cn 227 [tO,tR,tR]:=cn λ(l:BO3) (x y:BR)=>lf (cK l/\ok Rat 4 x/\ok Rat 4 y) [.d tR (am (vlL (dec l) (ag x) (ag y)))] λh=>by
 refine aA zG (aar l x y) ⟨0,?_⟩;obtain⟨hl,hx,hy⟩:=h;obtain⟨l,rfl,bl,nl⟩:=dU hl;obtain⟨x,rfl,bx⟩:=aM hx;obtain⟨y,rfl,b_y⟩:=aM hy;unfold aar vlL;simp only[bE,Nat.reduceAdd,Nat.reduceLeDiff]
def Zr(c d:BO3)(_k:KT):OLR:=og (o2 c.1 d.1) (match(aD (ag c.1) (ag d.1))==0 with|true=>(og (o2 c.2.1 d.2.1) (some [RV.d .bool ((aD (ag c.2.1) (ag d.2.1))==0)]))|false=>some [RV.d .bool false])
def ahE:Cn 222 [tO,tO]:=cn λ(c d:BO3)=>lf (bi c/\bi d) [.d .bool (jL (dec c) (dec d))] λh=>by
 refine aA zG (Zr c d) ⟨0,?_⟩;obtain⟨hc,hd⟩:=h;obtain⟨c,rfl,bc,nc⟩:=b8 hc;obtain⟨d,rfl,bd,nd⟩:=b8 hd;unfold Zr jL;simp only[bE,Nat.reduceLeDiff,ao];cases decide (c.1=d.1)<;>rfl
def YN(a b c d e:BR)(_k:KT):OLR:=og (o1 e) (match dP (ag e)with|true=>(og (o2 b (hid (rtB (ag e)))) (og (o2 a (hMu b (hid (rtB (ag e))))) (og (o2 d (hid (rtB (ag e)))) (og (o2 c (hMu d (hid (rtB (ag e))))) (og (decide (ok (Rat×Rat) 100000 (hAd a (hMu b (hid (rtB (ag e)))),hAd c (hMu d (hid (rtB (ag e))))))) (some [RV.d tP (hid (enc (atP (dec (hAd a (hMu b (hid (rtB (ag e)))),hAd c (hMu d (hid (rtB (ag e)))))))))]))))))|false=>some [RV.d tP (a,(b,(c,(d,e))))])
def ae1:Cn 118 [tR,tR,tR,tR,tR]:=cn λ(a b c d e:BR)=>lf (ok Rat 1000 a/\ok Rat 1000 b/\ok Rat 1000 c/\ok Rat 1000 d/\ok Rat 1000 e) [.d tP (enc (l7 (ag a) (ag b) (ag c) (ag d) (ag e)))] λh=>by
 refine aA zG (YN a b c d e) ⟨0,?_⟩;obtain⟨ha,hb,hc,hd,he⟩:=h;obtain⟨a,rfl,ba⟩:=aM ha;obtain⟨b,rfl,bb⟩:=aM hb;obtain⟨c,rfl,bc⟩:=aM hc;obtain⟨d,rfl,bd⟩:=aM hd;obtain⟨e,rfl,be⟩:=aM he;unfold YN l7;simp only[bE,Nat.reduceLeDiff];cases hq:dP e
 ·rfl
 ·rw[DG hq];simp only[bE,Nat.reduceAdd,Nat.reduceLeDiff,Lx];try rfl
def D0:List En:=enL af4::enL akk::enL afV::enT ahE::enL ae1::zG
def Yy(l m:BO3)(_k:KT):OLR:=og (decide (cK l/\cK m)) (og (o2 l.2.2 m.2.1) (og (o2 m.2.2 l.2.1) (og (o2 (hMu l.2.2 m.2.1) (hMu m.2.2 l.2.1)) (og (o2 l.1 m.2.2) (og (o2 m.1 l.2.2) (og (o2 (hMu l.1 m.2.2) (hMu m.1 l.2.2)) (og (o1 (hid (am (eI (dec l) (dec m))))) (match(aD (ag (hid (am (eI (dec l) (dec m))))) 0) !=0 with|true=>(og (decide (kV (hSu (hMu l.2.2 m.2.1) (hMu m.2.2 l.2.1)) (hid (am (eI (dec l) (dec m)))))) (og (decide (kV (hSu (hMu l.1 m.2.2) (hMu m.1 l.2.2)) (hid (am (eI (dec l) (dec m)))))) (og (decide (ok (Rat×Rat) 100000 (hDi (hSu (hMu l.2.2 m.2.1) (hMu m.2.2 l.2.1)) (hid (am (eI (dec l) (dec m)))),hDi (hSu (hMu l.1 m.2.2) (hMu m.1 l.2.2)) (hid (am (eI (dec l) (dec m))))))) (some [RV.d (.sl tP) ([hid (enc (atP (dec (hDi (hSu (hMu l.2.2 m.2.1) (hMu m.2.2 l.2.1)) (hid (am (eI (dec l) (dec m)))),hDi (hSu (hMu l.1 m.2.2) (hMu m.1 l.2.2)) (hid (am (eI (dec l) (dec m))))))))]),RV.d apE 0]))))|false=>(og (o1 (hSu (hMu l.2.2 m.2.1) (hMu m.2.2 l.2.1))) (match(aD (ag (hSu (hMu l.2.2 m.2.1) (hMu m.2.2 l.2.1))) 0)==0 with|true=>(og (o1 (hSu (hMu l.1 m.2.2) (hMu m.1 l.2.2))) (match(aD (ag (hSu (hMu l.1 m.2.2) (hMu m.1 l.2.2))) 0)==0 with|true=>some [RV.d (.sl tP) ([]),RV.d apE 10]|false=>some [RV.d (.sl tP) ([]),RV.d apE 0]))|false=>some [RV.d (.sl tP) ([]),RV.d apE 0]))))))))))
def X3:Cn 163 [tO,tO]:=cn λ(l m:BO3)=>lf (cK l/\cK m) [.d (.sl tP) ((qu (dec l) (dec m)).map enc),.d apE (Nc (dec l) (dec m))] λh=>by
 refine aA D0 (Yy l m) ⟨0,?_⟩;obtain⟨hl,hm⟩:=h;obtain⟨l,rfl,bl,nl⟩:=dU hl;obtain⟨m,rfl,bm,nm⟩:=dU hm;have ol:=amh (lV (l:=l) nl);have om:=amh (lV (l:=m) nm);have bc:Bd (eI l m) 49:=inferInstanceAs (Bd (l.1*m.2.1-m.1*l.2.1) _);have e1:l.2.2*m.2.1-m.2.2*l.2.1=pu l m:=rfl;have e2:l.1*m.2.2-m.1*l.2.2=pi l m:=rfl;unfold Yy qu Nc;simp only[bE,Nat.reduceAdd,Nat.reduceLeDiff,ao,bJ,ol,om];by_cases h0:eI l m=0
 ·simp only[amh h0,e1,e2,Bool.not_true];cases decide (pu l m=0)<;>cases decide (pi l m=0)<;>rfl
 ·simp only[bE,Nat.reduceAdd,Nat.reduceLeDiff,h0,ne_eq,an2,Bool.not_false,Lx];rfl
def X6(l c:BO3)(_k:KT):OLR:=og (decide (cK l/\ok Rat 4 c.1/\ok Rat 4 c.2.1)) (og (decide (cK l)) (og (o2 (hid (am (cG (dec l)))) c.2.2) (og (o2 (hid (am (vlL (dec l) (ag c.1) (ag c.2.1)))) (hid (am (vlL (dec l) (ag c.1) (ag c.2.1))))) (og (o2 (hMu (hid (am (cG (dec l)))) c.2.2) (hMu (hid (am (vlL (dec l) (ag c.1) (ag c.2.1)))) (hid (am (vlL (dec l) (ag c.1) (ag c.2.1)))))) (some [RV.d tR (hSu (hMu (hid (am (cG (dec l)))) c.2.2) (hMu (hid (am (vlL (dec l) (ag c.1) (ag c.2.1)))) (hid (am (vlL (dec l) (ag c.1) (ag c.2.1))))))])))))
def ae5:Cn 224 [tO,tO]:=cn λ(l c:BO3)=>lf (cK l/\bi c) [.d tR (am (jd (dec l) (dec c)))] λh=>by
 refine aA D0 (X6 l c) ⟨0,?_⟩;obtain⟨hl,hc⟩:=h;obtain⟨l,rfl,bl,nl⟩:=dU hl;obtain⟨c,rfl,bc,nc⟩:=b8 hc;have ol:=amh (lV (l:=l) nl);have bv:Bd (vlL l c.1 c.2.1) 97:=inferInstanceAs (Bd (l.1*c.1+l.2.1*c.2.1-l.2.2) _);have bn:Bd (cG l) 49:=inferInstanceAs (Bd (l.1*l.1+l.2.1*l.2.1) _);unfold X6 jd;simp only[bE,Nat.reduceAdd,Nat.reduceLeDiff,ol]
def aax(c d:BO3)(_k:KT):OLR:=og (decide (bi c/\bi d)) (match jL (dec c) (dec d)with|true=>some [RV.d tO (((false,[]),(false,[])),(((false,[]),(false,[])),((false,[]),(false,[])))),RV.d apE 6]|false=>(og (decide (aR (2:Int))) (og (o2 c.1 c.1) (og (o2 c.2.1 c.2.1) (og (o2 (hMu c.1 c.1) (hMu c.2.1 c.2.1)) (og (o2 (hAd (hMu c.1 c.1) (hMu c.2.1 c.2.1)) c.2.2) (og (o2 d.1 d.1) (og (o2 d.2.1 d.2.1) (og (o2 (hMu d.1 d.1) (hMu d.2.1 d.2.1)) (og (o2 (hAd (hMu d.1 d.1) (hMu d.2.1 d.2.1)) d.2.2) (og (o2 d.1 c.1) (og (o2 (hid (am ((2:Int):Rat))) (hSu d.1 c.1)) (og (o2 d.2.1 c.2.1) (og (o2 (hid (am ((2:Int):Rat))) (hSu d.2.1 c.2.1)) (og (o2 (hSu (hAd (hMu d.1 d.1) (hMu d.2.1 d.2.1)) d.2.2) (hSu (hAd (hMu c.1 c.1) (hMu c.2.1 c.2.1)) c.2.2)) (some [RV.d tO (hMu (hid (am ((2:Int):Rat))) (hSu d.1 c.1),(hMu (hid (am ((2:Int):Rat))) (hSu d.2.1 c.2.1),hSu (hSu (hAd (hMu d.1 d.1) (hMu d.2.1 d.2.1)) d.2.2) (hSu (hAd (hMu c.1 c.1) (hMu c.2.1 c.2.1)) c.2.2))),RV.d apE 0]))))))))))))))))
def ajH:Cn 223 [tO,tO]:=cn λ(c d:BO3)=>lf (bi c/\bi d) [.d tO (vV (dec c) (dec d)),.d apE (Vs (dec c) (dec d))] λh=>by
 refine aA D0 (aax c d) ⟨0,?_⟩;obtain⟨hc,hd⟩:=h;obtain⟨c,rfl,bc,nc⟩:=b8 hc;obtain⟨d,rfl,bd,nd⟩:=b8 hd;have oc:=amh (jM (c:=c) nc);have od:=amh (jM (c:=d) nd);have i2:decide (aR 2)=true:=by decide
 have b2:Bd ((2:Int):Rat) 3:=dZ (by decide);unfold aax vV Vs;simp only[bE,Nat.reduceAdd,Nat.reduceLeDiff,oc,od,i2];cases jL c d
 ·rfl
 ·rfl
def WM(c:BO3)(_k:KT):OLR:=og (decide (aR (1:Int))) (og (decide (aR (0:Int))) (og (o1 (hid (am ((1:Int):Rat)))) (og (decide (ok Rat 1000 c.1/\ok Rat 1000 (hNe (hid (am ((1:Int):Rat))))/\ok Rat 1000 c.2.1/\ok Rat 1000 (hid (am ((0:Int):Rat)))/\ok Rat 1000 c.2.2)) (og (decide (ok Rat 1000 c.1/\ok Rat 1000 (hid (am ((1:Int):Rat)))/\ok Rat 1000 c.2.1/\ok Rat 1000 (hid (am ((0:Int):Rat)))/\ok Rat 1000 c.2.2)) (some [RV.d tP (hid (enc (l7 (ag c.1) (ag (hNe (hid (am ((1:Int):Rat))))) (ag c.2.1) (ag (hid (am ((0:Int):Rat)))) (ag c.2.2)))),RV.d tP (hid (enc (l7 (ag c.1) (ag (hid (am ((1:Int):Rat)))) (ag c.2.1) (ag (hid (am ((0:Int):Rat)))) (ag c.2.2))))])))))
def Qb:Cn 81 [tO]:=cn λ(c:BO3)=>lf (bi c) [.d tP (enc (cd (dec c))),.d tP (enc (bZ (dec c)))] λh=>by
 refine aA D0 (WM c) ⟨0,?_⟩;have hc:=h;obtain⟨c,rfl,bc,nc⟩:=b8 hc;have b0:Bd ((0:Int):Rat) 3:=dZ (by decide);have b1:Bd ((1:Int):Rat) 3:=dZ (by decide);have i0:decide (aR 0)=true:=by decide
 have i1:decide (aR 1)=true:=by decide
 unfold WM cd bZ;simp only[bE,Nat.reduceLeDiff,i0,i1];rfl
def Su:List En:=enL X3::enL ae5::enL ajH::enL Qb::D0
def akF:Ctx:=CX (ens Su) []
def XV(l c:BO3)(_k:KT):OLR:=let y1:=hid (am (jd (dec l) (dec c)));let y2:=hid (am (vlL (dec l) (ag c.1) (ag c.2.1)));let y3:=hid (am (cG (dec l)));let y4:=hMu (hDi y2 y3) l.1;let y5:=hMu (hDi y2 y3) l.2.1;let y6:=hDi (hNe l.1) y3;let y7:=hNe (hDi l.2.1 y3);let y8:=ag (hSu c.2.1 y5);let y9:=enc (l7 (ag (hSu c.1 y4)) (ag y7) y8 (ag (hNe y6)) (ag y1));let y10:=enc (l7 (ag (hSu c.1 y4)) (ag (hDi l.2.1 y3)) y8 (ag y6) (ag y1));og (decide (cK l/\bi c)) (og (decide (cK l)) (og (o1 y1) (match decide ((aD (ag y1) 0)<0)with|true=>some [RV.new 73 tP []]|false=>(og (decide (cK l/\ok Rat 4 c.1/\ok Rat 4 c.2.1)) (og (decide (kV y2 y3)) (og (o2 (hDi y2 y3) l.1) (og (o2 c.1 y4) (og (o2 (hDi y2 y3) l.2.1) (og (o2 c.2.1 y5) (og (o1 y1) (match(aD (ag y1) 0)==0 with|true=>(og (decide (ok (Rat×Rat) 100000 (hSu c.1 y4,hSu c.2.1 y5))) (some [RV.new 73 tP ([hid (enc (atP (dec (hSu c.1 y4,hSu c.2.1 y5))))])]))|false=>(og (decide (kV l.2.1 y3)) (og (o1 l.1) (og (decide (kV (hNe l.1) y3)) (og (o1 (hDi l.2.1 y3)) (og (o1 y6) (og (decide (ok Rat 1000 (hSu c.1 y4)/\ok Rat 1000 y7/\ok Rat 1000 (hSu c.2.1 y5)/\ok Rat 1000 (hNe y6)/\ok Rat 1000 y1)) (og (decide (ok Rat 1000 (hSu c.1 y4)/\ok Rat 1000 (hDi l.2.1 y3)/\ok Rat 1000 (hSu c.2.1 y5)/\ok Rat 1000 y6/\ok Rat 1000 y1)) (og (decide (okP 4000 (hid y9)/\okP 4000 (hid y10))) (match decide ((aB (dec (hid y9)) (dec (hid y10)))>0)with|true=>some [RV.new 73 tP ([hid y10,hid y9])]|false=>some [RV.new 73 tP ([hid y9,hid y10])]))))))))))))))))))))
theorem af6(l c:BO3):RS akF 162 [.d tO l,.d tO c] (XV l c):=rsX
def YT:Cn 162 [tO,tO]:=cn λ(l c:BO3)=>lf (cK l/\bi c) [.d (.sl tP) ((qZ (dec l) (dec c)).map enc)] λh=>by
 refine Con.new_d (et:=73) (a8 Su (af6 _ _ ⟨0,?_⟩));obtain⟨hl,hc⟩:=h;obtain⟨l,rfl,bl,nl⟩:=dU hl;obtain⟨c,rfl,bc,nc⟩:=b8 hc;have ol:=amh (lV (l:=l) nl);have oc:=amh (jM (c:=c) nc);have hn:=oT nl;have bv:Bd (vlL l c.1 c.2.1) 97:=inferInstanceAs (Bd (l.1*c.1+l.2.1*c.2.1-l.2.2) _);have bn:Bd (cG l) 49:=inferInstanceAs (Bd (l.1*l.1+l.2.1*l.2.1) _);have e1:c.1-vlL l c.1 c.2.1/cG l*l.1=ftX l c:=rfl;have e2:c.2.1-vlL l c.1 c.2.1/cG l*l.2.1=ftY l c:=rfl;obtain⟨f1,f2,_,_⟩:=vw (l:=l) (c:=c);unfold XV qZ;simp only[bE,Nat.reduceAdd,Nat.reduceLeDiff,ao,aq,ol,oc,hn,ne_eq,an2,e1,e2,Lx];by_cases h0:jd l c<0
 ·simp only[amh h0];rfl
 ·simp only[ami h0];by_cases h1:jd l c=0
  ·simp only[amh h1];rfl
  ·have hp:=Mp h0 h1;obtain⟨p1,p2⟩:=Pb (c:=c) nl (show 0<=jd l c by grind);obtain⟨q1,q2⟩:=QM (l:=l) (c:=c);have g1:l7 (ftX l c) (-(l.2.1/cG l)) (ftY l c) (-(-l.1/cG l)) (jd l c)=sE l c:=rfl;have g2:l7 (ftX l c) (l.2.1/cG l) (ftY l c) (-l.1/cG l) (jd l c)=ta l c:=rfl;simp only[ami h1,bE,Nat.reduceLeDiff,aU,g1,g2];cases decide (aB (sE l c) (ta l c)>0)<;>rfl
def aj0:List En:=enL YT::Su
def Xz(c d:BO3)(_k:KT):OLR:=og (decide (bi c/\bi d)) (match jL (dec c) (dec d)with|true=>(og (o2 c.2.2 d.2.2) (match(aD (ag c.2.2) (ag d.2.2))==0 with|true=>some [RV.d (.sl tP) ([]),RV.d apE 10]|false=>some [RV.d (.sl tP) ([]),RV.d apE 0]))|false=>(og (decide (bi c/\bi d)) (og (decide (cK (hid (vV (dec c) (dec d)))/\bi c)) (some [RV.d (.sl tP) ((qZ (dec (hid (vV (dec c) (dec d)))) (dec c)).map enc),RV.d apE 0]))))
def afQ:Cn 161 [tO,tO]:=cn λ(c d:BO3)=>lf (bi c/\bi d) [.d (.sl tP) ((DW (dec c) (dec d)).map enc),.d apE (VD (dec c) (dec d))] λh=>by
 refine aA aj0 (Xz c d) ⟨0,?_⟩;obtain⟨hc,hd⟩:=h;obtain⟨c,rfl,bc,nc⟩:=b8 hc;obtain⟨d,rfl,bd,nd⟩:=b8 hd;have oc:=amh (jM (c:=c) nc);have od:=amh (jM (c:=d) nd);unfold Xz DW VD;simp only[bE,Nat.reduceLeDiff,ao,oc,od];cases hc:jL c d
 ·have ol:cK (enc (o0 c d)):=LK hc;have er:vV c d=enc (o0 c d):=by unfold vV;rw[hc];rfl
  simp only[er,dT ol,bE];try rfl
 ·cases decide (c.2.2=d.2.2)<;>rfl
end
def mG(c:BCU):Prop:=okC 580 c/\EI c
instance (c:BCU):Decidable (mG c):=by unfold mG;infer_instance
def fU(c d:BCU):Prop:=mG c/\mG d
instance (c d:BCU):Decidable (fU c d):=by unfold fU;infer_instance
def BA(c d:BCU):List BP:=bif !cf (dC c) (dC d)then(vP (dC c) (dC d)).map enc else [c.2.2.2.2.1,c.2.2.2.2.2,d.2.2.2.2.1,d.2.2.2.2.2]
def UW(c d:BCU):List BP:=(BA c d).filter λp=>onR (dC c) (dec p)&&onR (dC d) (dec p)
def mp(c d:BCU):List BP:=gu (dC c) (UW c d)
def V3(c d:BCU):Bool:=bif c.1&&(d.1&&(c.2.2.2.1 !=d.2.2.2.1))then true else !c.1&&(aB (dec c.2.2.2.2.1) (dec c.2.2.2.2.2) !=aB (dec d.2.2.2.2.1) (dec d.2.2.2.2.2))
def zy(c d:BCU):BCU:=bif V3 c d then iM d else d
def C3(c:Cv):List BP->Bool
 |[]=>false
 |x::r=>match r with
  |[]=>false
  |y::_=>decide (bY c (dec x) (dec y)<0)||C3 c r
def agN(c d:BCU):Bool:=cf (dC c) (dC d)&&C3 (dC (zy c d)) (mp c d)
def RC:List En:=[enL afQ,enL YT,enL X3,enT aaV,enT acu,enT Jd,enT JC,enK Y8,enL Jr,enT r8]
def QU(a b:BCU)(_k:KT):OLR:=match a.1 with|true=>(match b.1 with|true=>(og (decide (bi a.2.2.1/\bi b.2.2.1)) (some [RV.d (.sl tP) ((DW (dec a.2.2.1) (dec b.2.2.1)).map enc),RV.d apE (VD (dec a.2.2.1) (dec b.2.2.1))]))|false=>(match a.1 with|true=>(og (decide (cK b.2.1/\bi a.2.2.1)) (some [RV.d (.sl tP) ((qZ (dec b.2.1) (dec a.2.2.1)).map enc),RV.d apE 0]))|false=>(match b.1 with|true=>(og (decide (cK a.2.1/\bi b.2.2.1)) (some [RV.d (.sl tP) ((qZ (dec a.2.1) (dec b.2.2.1)).map enc),RV.d apE 0]))|false=>(og (decide (cK a.2.1/\cK b.2.1)) (some [RV.d (.sl tP) ((qu (dec a.2.1) (dec b.2.1)).map enc),RV.d apE (Nc (dec a.2.1) (dec b.2.1))])))))|false=>(match a.1 with|true=>(og (decide (cK b.2.1/\bi a.2.2.1)) (some [RV.d (.sl tP) ((qZ (dec b.2.1) (dec a.2.2.1)).map enc),RV.d apE 0]))|false=>(match b.1 with|true=>(og (decide (cK a.2.1/\bi b.2.2.1)) (some [RV.d (.sl tP) ((qZ (dec a.2.1) (dec b.2.2.1)).map enc),RV.d apE 0]))|false=>(og (decide (cK a.2.1/\cK b.2.1)) (some [RV.d (.sl tP) ((qu (dec a.2.1) (dec b.2.1)).map enc),RV.d apE (Nc (dec a.2.1) (dec b.2.1))]))))
def abD:Cn 114 [tCU,tCU]:=cn λ(a b:BCU)=>lf (fa a b) [.d (.sl tP) ((vP (dC a) (dC b)).map enc),.d apE (Yh (dC a) (dC b))] λh=>by
 refine aA RC (QU a b) ⟨0,?_⟩;obtain⟨⟨a1,a2⟩,b1,b2⟩:=h;unfold QU vP Yh DW;obtain⟨aa,al,ac,aw,af,at_⟩:=a;obtain⟨ba,bl,bc,bw,bf,bt⟩:=b;cases aa<;>cases ba
 ·have h1:=a2 rfl;have h2:=b2 rfl;simp only[dT (show cK al/\cK bl from⟨h1,h2⟩)];rfl
 ·have h1:=a2 rfl;have h2:=b1 rfl;simp only[dT (show cK al/\bi bc from⟨h1,h2⟩)];rfl
 ·have h1:=a1 rfl;have h2:=b2 rfl;simp only[dT (show cK bl/\bi ac from⟨h2,h1⟩)];rfl
 ·have h1:=a1 rfl;have h2:=b1 rfl;simp only[dT (show bi ac/\bi bc from⟨h1,h2⟩)];rfl
def XB(a b:BCU)(_k:KT):OLR:=match !(a.1==b.1)with|true=>some [RV.d .bool false]|false=>(match a.1 with|true=>(og (decide (bi a.2.2.1/\bi b.2.2.1)) (some [RV.d .bool (pE (dec a.2.2.1) (dec b.2.2.1))]))|false=>(og (decide (cK a.2.1/\cK b.2.1)) (some [RV.d .bool (pD (dec a.2.1) (dec b.2.1))])))
def Ol:Cn 77 [tCU,tCU]:=cn λ(a b:BCU)=>lf (fa a b) [.d .bool (cf (dC a) (dC b))] λh=>by
 refine aA RC (XB a b) ⟨0,?_⟩;obtain⟨⟨a1,a2⟩,b1,b2⟩:=h;unfold XB cf;obtain⟨aa,al,ac,aw,af,at_⟩:=a;obtain⟨ba,bl,bc,bw,bf,bt⟩:=b;cases aa<;>cases ba
 ·have h1:=a2 rfl;have h2:=b2 rfl;simp only[dT (show cK al/\cK bl from⟨h1,h2⟩)];rfl
 ·rfl
 ·rfl
 ·have h1:=a1 rfl;have h2:=b1 rfl;simp only[dT (show bi ac/\bi bc from⟨h1,h2⟩)];rfl
def W3:List En:=enL abD::enT Ol::RC
def abM:NT:=[((79,18),{keep:=[2,3,6,7,8,9],own:=[(8,73,tP)],hl:=4}),((79,47),{keep:=[3,6,8,10,11],hl:=2})]
def tb:Ctx:=CX (ens W3) abM
def qj(c d:BCU)(s9:Int)(r3:List BP):Cfg:=⟨79,[.blk 0,.seq 33],[(2,.box 0 0),(3,.box 1 0),(6,SB (cf (dC c) (dC d))),(7,.d (.sl tP) ((vP (dC c) (dC d)).map enc)),(8,.own 3),(9,SI s9)],[.box 75 (Ty.split tCU c),.box 75 (Ty.split tCU d),.row 73 tP ([c.2.2.2.2.1,c.2.2.2.2.2,d.2.2.2.2.1,d.2.2.2.2.2]),.row 73 tP r3],0,[]⟩
def ke(c d:BCU)(s9:Int)(r3:List BP):Cfg:=⟨79,[.blk 0,.seq 33],[(2,.box 0 0),(3,.box 1 0),(6,SB (cf (dC c) (dC d))),(7,.own 2),(8,.own 3),(9,SI s9)],[.box 75 (Ty.split tCU c),.box 75 (Ty.split tCU d),.row 73 tP ([c.2.2.2.2.1,c.2.2.2.2.2,d.2.2.2.2.1,d.2.2.2.2.2]),.row 73 tP r3],0,[]⟩
def cS(c d:BCU)(r3:List BP)(B1:BCU)(s10:Bool)(s11:Int):Cfg:=⟨79,[.blk 2,.seq 58],[(3,.box 1 0),(6,SB (cf (dC c) (dC d))),(8,.d (.sl tP) (gu (dC c) r3)),(10,SB s10),(11,SI s11)],[.box 75 (Ty.split tCU c),.box 75 (Ty.split tCU B1)],0,[]⟩
def Mw(c d:BCU)(k:KT):OLR:=og (decide (fa c d)) (match !(cf (dC c) (dC d))with|true=>(og (decide (fa c d)) (k 18 (qj c d 0 ([]))))|false=>k 18 (ke c d 0 ([])))
theorem Zb(c d:BCU):RS tb 79 [.d tCU c,.d tCU d] (Mw c d):=rsX
def p7(c d:BCU)(s9:Int)(r3:List BP)(k:KT):OLR:=match decide (s9<(((vP (dC c) (dC d)).map enc).length:Int))with|true=>(match aH ((vP (dC c) (dC d)).map enc) s9 with|some x1=>(og (decide (okC 3500 c/\okP 3500 x1)) (match onR (dC c) (dec x1)with|true=>(match aH ((vP (dC c) (dC d)).map enc) s9 with|some x2=>(og (decide (okC 3500 d/\okP 3500 x2)) (match onR (dC d) (dec x2)with|true=>(match aH ((vP (dC c) (dC d)).map enc) s9 with|some x3=>(og (decide ((r3.length+([x3]).length)*320<=140737488355328/\r3.length+([x3]).length<=140737488355328)) (k 18 (qj c d (i64.wrap (s9+1)) (r3++([x3])))))|none=>none)|false=>k 18 (qj c d (i64.wrap (s9+1)) r3)))|none=>none)|false=>k 18 (qj c d (i64.wrap (s9+1)) r3)))|none=>none)|false=>(og (decide (zh c r3)) (match c.1 with|true=>(match d.1 with|true=>(match !(c.2.2.2.1==d.2.2.2.1)with|true=>k 47 (cS c d r3 (hid (iM d)) false 1)|false=>(match !c.1 with|true=>(og (decide (okP 4000 c.2.2.2.2.1/\okP 4000 c.2.2.2.2.2)) (og (decide (okP 4000 d.2.2.2.2.1/\okP 4000 d.2.2.2.2.2)) (match(aB (dec c.2.2.2.2.1) (dec c.2.2.2.2.2)) !=(aB (dec d.2.2.2.2.1) (dec d.2.2.2.2.2))with|true=>k 47 (cS c d r3 (hid (iM d)) false 1)|false=>k 47 (cS c d r3 d false 1))))|false=>k 47 (cS c d r3 d false 1)))|false=>(match !c.1 with|true=>(og (decide (okP 4000 c.2.2.2.2.1/\okP 4000 c.2.2.2.2.2)) (og (decide (okP 4000 d.2.2.2.2.1/\okP 4000 d.2.2.2.2.2)) (match(aB (dec c.2.2.2.2.1) (dec c.2.2.2.2.2)) !=(aB (dec d.2.2.2.2.1) (dec d.2.2.2.2.2))with|true=>k 47 (cS c d r3 (hid (iM d)) false 1)|false=>k 47 (cS c d r3 d false 1))))|false=>k 47 (cS c d r3 d false 1)))|false=>(match !c.1 with|true=>(og (decide (okP 4000 c.2.2.2.2.1/\okP 4000 c.2.2.2.2.2)) (og (decide (okP 4000 d.2.2.2.2.1/\okP 4000 d.2.2.2.2.2)) (match(aB (dec c.2.2.2.2.1) (dec c.2.2.2.2.2)) !=(aB (dec d.2.2.2.2.1) (dec d.2.2.2.2.2))with|true=>k 47 (cS c d r3 (hid (iM d)) false 1)|false=>k 47 (cS c d r3 d false 1))))|false=>k 47 (cS c d r3 d false 1))))
theorem vo(c d:BCU)(s9:Int)(r3:List BP):RN tb 18 (qj c d s9 r3) (p7 c d s9 r3):=rnX
def lF(c d:BCU)(s9:Int)(r3:List BP)(k:KT):OLR:=match decide (s9<(([c.2.2.2.2.1,c.2.2.2.2.2,d.2.2.2.2.1,d.2.2.2.2.2]).length:Int))with|true=>(match aH ([c.2.2.2.2.1,c.2.2.2.2.2,d.2.2.2.2.1,d.2.2.2.2.2]) s9 with|some _=>(match true,([c.2.2.2.2.1,c.2.2.2.2.2,d.2.2.2.2.1,d.2.2.2.2.2])[(s9).toNat]? with|true,some x1=>(og (decide (okC 3500 c/\okP 3500 x1)) (match onR (dC c) (dec x1)with|true=>(match aH ([c.2.2.2.2.1,c.2.2.2.2.2,d.2.2.2.2.1,d.2.2.2.2.2]) s9 with|some _=>(match true,([c.2.2.2.2.1,c.2.2.2.2.2,d.2.2.2.2.1,d.2.2.2.2.2])[(s9).toNat]? with|true,some x2=>(og (decide (okC 3500 d/\okP 3500 x2)) (match onR (dC d) (dec x2)with|true=>(match aH ([c.2.2.2.2.1,c.2.2.2.2.2,d.2.2.2.2.1,d.2.2.2.2.2]) s9 with|some _=>(match true,([c.2.2.2.2.1,c.2.2.2.2.2,d.2.2.2.2.1,d.2.2.2.2.2])[(s9).toNat]? with|true,some x3=>(og (decide ((r3.length+([x3]).length)*320<=140737488355328/\r3.length+([x3]).length<=140737488355328)) (k 18 (ke c d (i64.wrap (s9+1)) (r3++([x3])))))|_,_=>none)|none=>none)|false=>k 18 (ke c d (i64.wrap (s9+1)) r3)))|_,_=>none)|none=>none)|false=>k 18 (ke c d (i64.wrap (s9+1)) r3)))|_,_=>none)|none=>none)|false=>(og (decide (zh c r3)) (match c.1 with|true=>(match d.1 with|true=>(match !(c.2.2.2.1==d.2.2.2.1)with|true=>k 47 (cS c d r3 (hid (iM d)) false 1)|false=>(match !c.1 with|true=>(og (decide (okP 4000 c.2.2.2.2.1/\okP 4000 c.2.2.2.2.2)) (og (decide (okP 4000 d.2.2.2.2.1/\okP 4000 d.2.2.2.2.2)) (match(aB (dec c.2.2.2.2.1) (dec c.2.2.2.2.2)) !=(aB (dec d.2.2.2.2.1) (dec d.2.2.2.2.2))with|true=>k 47 (cS c d r3 (hid (iM d)) false 1)|false=>k 47 (cS c d r3 d false 1))))|false=>k 47 (cS c d r3 d false 1)))|false=>(match !c.1 with|true=>(og (decide (okP 4000 c.2.2.2.2.1/\okP 4000 c.2.2.2.2.2)) (og (decide (okP 4000 d.2.2.2.2.1/\okP 4000 d.2.2.2.2.2)) (match(aB (dec c.2.2.2.2.1) (dec c.2.2.2.2.2)) !=(aB (dec d.2.2.2.2.1) (dec d.2.2.2.2.2))with|true=>k 47 (cS c d r3 (hid (iM d)) false 1)|false=>k 47 (cS c d r3 d false 1))))|false=>k 47 (cS c d r3 d false 1)))|false=>(match !c.1 with|true=>(og (decide (okP 4000 c.2.2.2.2.1/\okP 4000 c.2.2.2.2.2)) (og (decide (okP 4000 d.2.2.2.2.1/\okP 4000 d.2.2.2.2.2)) (match(aB (dec c.2.2.2.2.1) (dec c.2.2.2.2.2)) !=(aB (dec d.2.2.2.2.1) (dec d.2.2.2.2.2))with|true=>k 47 (cS c d r3 (hid (iM d)) false 1)|false=>k 47 (cS c d r3 d false 1))))|false=>k 47 (cS c d r3 d false 1))))
theorem oY(c d:BCU)(s9:Int)(r3:List BP):RN tb 18 (ke c d s9 r3) (lF c d s9 r3):=rnX
def pV(c d:BCU)(r3:List BP)(B1:BCU)(s10:Bool)(s11:Int)(k:KT):OLR:=match cf (dC c) (dC d)with|true=>(match decide (s11<((gu (dC c) r3).length:Int))with|true=>(match s10 with|true=>k 47 (cS c d r3 B1 true (i64.wrap (s11+1)))|false=>(match aH (gu (dC c) r3) (i64.wrap (s11-1))with|some x1=>(match aH (gu (dC c) r3) s11 with|some x2=>(og (decide (okC 4000 B1/\okP 4000 x1/\okP 4000 x2)) (k 47 (cS c d r3 B1 (decide ((bY (dC B1) (dec x1) (dec x2))<0)) (i64.wrap (s11+1)))))|none=>none)|none=>none))|false=>some [RV.d (.sl tP) (gu (dC c) r3),RV.d .bool s10])|false=>some [RV.d (.sl tP) (gu (dC c) r3),RV.d .bool s10]
theorem uy(c d:BCU)(r3:List BP)(B1:BCU)(s10:Bool)(s11:Int):RN tb 47 (cS c d r3 B1 s10 s11) (pV c d r3 B1 s10 s11):=rnX
theorem NH{c:Cv}{S:List BP}{i:Nat}(h1:1<=i)(hi:i<S.length):C3 c (S.drop (i-1))=(decide (bY c (dec S[i-1]) (dec S[i])<0)||C3 c (S.drop i)):=by
 have hd:S.drop (i-1)=S[i-1]::S.drop i:=by
  have:=amz (l:=S) (i:=i-1) (by omega);rw[this,show i-1+1=i by omega]
 have hd2:S.drop i=S[i]::S.drop (i+1):=amz hi;rw[hd,hd2];rfl
theorem TM{c:Cv}{S:List BP}(h:S.length<=1):C3 c S=false:=by
 match S,h with
 |[],_=>rfl
 |[_],_=>rfl
theorem aek(c d:BCU)(r3 S:List BP)(hS:gu (dC c) r3=S)(hl:S.length<=1000000)(ho:∀x∈S,okP 4000 x)(B:BCU)(hB:okC 4000 B):∀(j i:Nat),1<=i->i+j=max S.length 1->∀s:Bool,
  tb.Runs 47 (cS c d r3 B s (i:Int)) [.d (.sl tP) S,.d .bool (bif cf (dC c) (dC d)then s||C3 (dC B) (S.drop (i-1))else s)]:=by
 intro j;induction j with
 |zero=>
  intro i h1 hi s;refine uy _ _ _ _ _ _ ⟨0,?_⟩;unfold pV;rw[hS,aX (by omega),TM (by rw[aoH];omega),Bool.or_false];cases cf (dC c) (dC d)<;>rfl
 |succ j ih=>
  intro i h1 hi s;have hil:i<S.length:=by omega
  have e1:i64.wrap ((i:Int)-1)=((i-1:Nat):Int):=by rw[aO (by omega) (by omega)];omega
  have e2:i64.wrap ((i:Int)+1)=((i+1:Nat):Int):=aT (by omega);have g1:aH S ((i-1:Nat):Int)=some S[i-1]:=by rw[ai,amg (by omega)]
  have g2:aH S (i:Int)=some S[i]:=by rw[ai,amg hil]
  cases hs:cf (dC c) (dC d)
  ·refine uy _ _ _ _ _ _ ⟨0,?_⟩;unfold pV;rw[hS,hs];rfl
  ·obtain⟨n,hn⟩:=ih (i+1) (by omega) (by omega) (s||decide (bY (dC B) (dec S[i-1]) (dec S[i])<0));refine uy _ _ _ _ _ _ ⟨n,?_⟩;unfold pV;rw[hS,hs,aK hil,e1,e2,g1,g2];dsimp only;rw[dT (show okC 4000 B/\okP 4000 S[i-1]/\okP 4000 S[i] from⟨hB,ho _ (ams _),ho _ (ams _)⟩)];rw[hs,Nat.add_sub_cancel,Bool.or_assoc,<-NH h1 hil]at hn;cases s
   ·exact hn
   ·simp only[Bool.true_or,cond_true]at hn ⊢;exact hn
theorem J4{c:Cv}{l:List BP}{p:BP->Prop}(h:∀x∈l,p x):∀x∈gu c l,p x:=λx hx=>by
 rcases wx hx with h'|h'
 ·cases h'
 ·exact h x h'
theorem IB(c d:BCU)(h:fU c d)(r3:List BP)(hl:r3.length<=100)(ho:∀x∈r3,okP 580 x):∃n,(match decide (zh c r3)with
  |true=>tb.k n 47 (cS c d r3 (zy c d) false 1)
  |false=>none)=some [.d (.sl tP) (gu (dC c) r3),.d .bool (cf (dC c) (dC d)&&C3 (dC (zy c d)) (gu (dC c) r3))]:=by
 have hs:zh c r3:=⟨bh h.1.1 (by decide) (by decide),by omega,λx hx=>aV (ho x hx) (by decide) (by decide)⟩
 have hR:okC 4000 (zy c d):=by
  unfold zy;have:=bh (k:=4000) h.2.1 (by decide) (by decide);cases V3 c d
  ·exact this
  ·exact By 4000 this
 have hlen:=v5 (dC c) r3 [];obtain⟨n,hn⟩:=aek c d r3 _ rfl (by simp at hlen;unfold gu;omega) (J4 (λx hx=>aV (ho x hx) (by decide) (by decide))) (zy c d) hR (max (gu (dC c) r3).length 1-1) 1 (amm _) (by omega) false;refine⟨n,?_⟩;rw[dT hs];refine hn.trans ?_;cases cf (dC c) (dC d)<;>rfl
theorem B7{l c:Ln}[BdL l][BdC c](hl:l.1≠0\/l.2.1≠0):(qZ l c).length<=2/\∀p∈qZ l c,Bd p 490/\Rpd p:=by
 unfold qZ;by_cases h0:jd l c<0
 ·rw[amh h0];exact⟨by simp,λp hp=>by cases hp⟩
 ·rw[ami h0];by_cases h1:jd l c=0
  ·rw[amh h1];obtain⟨f1,f2,_,_⟩:=vw (l:=l) (c:=c);refine⟨by simp,λp hp=>?_⟩;have:p=atP (ftX l c,ftY l c):=by simpa using hp
   rw[this];exact⟨(inferInstance:Bd (atP (ftX l c,ftY l c)) _).mono (by decide),inferInstance⟩
  ·rw[ami h1];obtain⟨p1,p2⟩:=Pb (c:=c) hl (show 0<=jd l c by grind);obtain⟨q1,q2⟩:=QM (l:=l) (c:=c);cases decide (aB (sE l c) (ta l c)>0)
   ·refine⟨by simp,λp hp=>?_⟩;have:p=sE l c\/p=ta l c:=by simpa using hp
    rcases this with e|e<;>rw[e]
    ·exact⟨q1,p1⟩
    ·exact⟨q2,p2⟩
   ·refine⟨by simp,λp hp=>?_⟩;have:p=ta l c\/p=sE l c:=by simpa using hp
    rcases this with e|e<;>rw[e]
    ·exact⟨q2,p2⟩
    ·exact⟨q1,p1⟩
theorem BC{l m:Ln}[BdL l][BdL m]:(qu l m).length<=2/\∀p∈qu l m,Bd p 490/\Rpd p:=by
 unfold qu;cases decide (eI l m=0)
 ·have bc:Bd (eI l m) 49:=inferInstanceAs (Bd (l.1*m.2.1-m.1*l.2.1) _);have bx:Bd (pu l m) 151:=inferInstanceAs (Bd (l.2.2*m.2.1-m.2.2*l.2.1) _);have b_:Bd (pi l m) 151:=inferInstanceAs (Bd (l.1*m.2.2-m.1*l.2.2) _);refine⟨by simp,λp hp=>?_⟩;have:p=atP (pu l m/eI l m,pi l m/eI l m):=by simpa using hp
  rw[this];exact⟨(inferInstance:Bd (atP (pu l m/eI l m,pi l m/eI l m)) _).mono (by decide),inferInstance⟩
 ·exact⟨by simp,λp hp=>by cases hp⟩
theorem Tx{c d:BCU}(h:fa c d):(vP (dC c) (dC d)).length<=2/\∀p∈vP (dC c) (dC d),Bd p 490/\Rpd p:=by
 obtain⟨⟨a1,a2⟩,b1,b2⟩:=h;obtain⟨aa,al,ac,aw,af,at_⟩:=c;obtain⟨ba,bl,bc,bw,bf,bt⟩:=d
 have ex1:∀x:BO3,cK x->BdL (dec x)/\((dec x:Ln).1≠0\/(dec x:Ln).2.1≠0):=λx h=>by
  obtain⟨l,rfl,bl,nl⟩:=dU h;rw[au];exact⟨bl,nl⟩
 have ex2:∀x:BO3,bi x->BdC (dec x):=λx h=>by
  obtain⟨l,rfl,bl,nl⟩:=b8 h;rw[au];exact bl
 unfold vP;cases aa<;>cases ba
 ·obtain⟨i1,_⟩:=ex1 _ (a2 rfl);obtain⟨i2,_⟩:=ex1 _ (b2 rfl);exact BC (l:=dec al) (m:=dec bl)
 ·obtain⟨i1,n1⟩:=ex1 _ (a2 rfl);have i2:=ex2 _ (b1 rfl);exact B7 (l:=dec al) (c:=dec bc) n1
 ·have i1:=ex2 _ (a1 rfl);obtain⟨i2,n2⟩:=ex1 _ (b2 rfl);exact B7 (l:=dec bl) (c:=dec ac) n2
 ·have i1:=ex2 _ (a1 rfl);have i2:=ex2 _ (b1 rfl);show(DW (dec ac) (dec bc)).length<=2/\∀p∈DW (dec ac) (dec bc),Bd p 490/\Rpd p;unfold DW;cases hc:jL (dec ac) (dec bc)
  ·have i3:BdL (o0 (dec ac) (dec bc)):=C8;exact B7 (Fk hc)
  ·exact⟨by simp,λp hp=>by cases hp⟩
theorem IC{c d:BCU}(h:fU c d):(BA c d).length<=4/\∀x∈BA c d,okP 580 x:=by
 obtain⟨⟨h1,h2⟩,h3,h4⟩:=h;unfold BA;cases cf (dC c) (dC d)
 ·obtain⟨g1,g2⟩:=Tx (show fa c d from⟨h2,h4⟩);refine⟨by simp only[Bool.not_false,cond_true,anA];omega,λx hx=>?_⟩;obtain⟨p,hp,rfl⟩:=aoU.1 hx;obtain⟨b,r⟩:=g2 p hp;exact amj (aU (j:=490) (by decide) (by decide))
 ·refine⟨by simp,λx hx=>?_⟩;have:x=c.2.2.2.2.1\/x=c.2.2.2.2.2\/x=d.2.2.2.2.1\/x=d.2.2.2.2.2:=by simpa using hx
  rcases this with e|e|e|e<;>rw[e]
  ·exact h1.2.2.1
  ·exact h1.2.2.2
  ·exact h3.2.2.1
  ·exact h3.2.2.2
end Go.Proofs.YtmnlppieefomnaaGreatDoor
end
