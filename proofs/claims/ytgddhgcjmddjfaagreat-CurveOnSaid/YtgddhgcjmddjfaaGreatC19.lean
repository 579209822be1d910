/- The common points of two curves: the program's are the reference's. -/
import Derived.Test.YtgddhgcjmddjfaaGreatC18
import Derived.Test.YtgddhgcjmddjfaaGreatC16
noncomputable section
namespace Go.Proofs.YtgddhgcjmddjfaaGreat
open Go.RowKit Go.IntKind
section
def jq(c d:BCU):List BP:=bif c7 (dC c) (dC d)then [c.2.2.2.2.1,c.2.2.2.2.2,d.2.2.2.2.1,d.2.2.2.2.2]else(gW (dC c) (dC d)).map enc
def fR(c d:BCU)(p:BP):Bool:=gI (dC c) (dec p)&&gI (dC d) (dec p)
def db(c d:BCU):List BP:=cU (dC c) ((jq c d).filter (fR c d))
theorem oI{c:BCU}(h:Ay c):(c.1=true→BdC (ciC (dC c))∧0<(ciC (dC c)).2.2)∧(c.1=false→BdL (lnC (dC c))∧((lnC (dC c)).1≠0∨(lnC (dC c)).2.1≠0)):=by
 refine⟨fun e=>?_,fun e=>?_⟩
 ·obtain⟨l,e1,bl,nl⟩:=dk (h.1 e)
  show BdC (dec c.2.2.1)∧_
  rw[show ciC (dC c)=dec c.2.2.1 from rfl,e1,aq]
  exact⟨bl,nl⟩
 ·obtain⟨l,e1,bl,nl⟩:=eE (h.2 e)
  show BdL (dec c.2.1)∧_
  rw[show lnC (dC c)=dec c.2.1 from rfl,e1,aq]
  exact⟨bl,nl⟩
namespace RE
theorem Mx{c d:BCU}(hc:Ay c)(hd:Ay d)(v:PE):(∃p∈gW (dC c) (dC d),pR p=v)↔∃p∈mI (dC c) (dC d),pR p=v:=by
 obtain⟨c1,c2⟩:=oI hc
 obtain⟨d1,d2⟩:=oI hd
 have ec:(dC c).1=c.1:=rfl
 have ed:(dC d).1=d.1:=rfl
 unfold gW mI
 rw[ec,ed]
 cases ha:c.1<;>cases hb:d.1
 ·exact Iff.rfl
 ·exact Ja (c2 ha).2 v
 ·exact Ja (d2 hb).2 v
 ·show(∃p∈u7 _ _,pR p=v)↔∃p∈yi _ _,pR p=v
  unfold u7 yi
  cases hq:gZ (ciC (dC c)) (ciC (dC d))
  ·exact Ja (Em hq) v
  ·exact Iff.rfl
theorem supM_on{c d:BCU}(hc:Ay c)(hd:Ay d){p:Pt}(hp:p∈gW (dC c) (dC d)):Bd p 1200∧Rpd p∧fE (dC c) p=true∧fE (dC d) p=true:=by
 obtain⟨c1,c2⟩:=oI hc
 obtain⟨d1,d2⟩:=oI hd
 have ec:(dC c).1=c.1:=rfl
 have ed:(dC d).1=d.1:=rfl
 unfold gW at hp
 rw[ec,ed]at hp
 cases ha:c.1<;>cases hb:d.1<;>rw[ha,hb]at hp
 ·have i1:=(c2 ha).1
  have i2:=(d2 hb).1
  have hp:p∈n8 (lnC (dC c)) (lnC (dC d)):=hp
  obtain⟨b,r⟩:=wJ.2 p hp
  obtain⟨o1,o2⟩:=aie hp
  refine⟨b.mono (by decide),r,?_,?_⟩
  ·rw[gg,ec,ha];exact o1
  ·rw[gg,ed,hb];exact o2
 ·have i1:=(c2 ha).1
  have i2:=(d1 hb).1
  have hp:p∈kX (lnC (dC c)) (ciC (dC d)):=hp
  obtain⟨b,r⟩:=t8.2 p hp
  obtain⟨o1,o2⟩:=QV (c2 ha).2 hp
  refine⟨b,r,?_,?_⟩
  ·rw[gg,ec,ha];exact o1
  ·rw[gg,ed,hb];exact o2
 ·have i1:=(c1 ha).1
  have i2:=(d2 hb).1
  have hp:p∈kX (lnC (dC d)) (ciC (dC c)):=hp
  obtain⟨b,r⟩:=t8.2 p hp
  obtain⟨o1,o2⟩:=QV (d2 hb).2 hp
  refine⟨b,r,?_,?_⟩
  ·rw[gg,ec,ha];exact o2
  ·rw[gg,ed,hb];exact o1
 ·have i1:=(c1 ha).1
  have i2:=(d1 hb).1
  have hp:p∈u7 (ciC (dC c)) (ciC (dC d)):=hp
  unfold u7 at hp
  cases hq:gZ (ciC (dC c)) (ciC (dC d))<;>rw[hq]at hp
  ·have i3:BdL (n6 (ciC (dC c)) (ciC (dC d))):=yY
   obtain⟨b,r⟩:=t8.2 p hp
   obtain⟨o1,o2⟩:=QV (Em hq) hp
   refine⟨b,r,?_,?_⟩
   ·rw[gg,ec,ha];exact o2
   ·rw[gg,ed,hb];exact ajn o1 o2
  ·cases hp
end RE
open RE
theorem gdN.crp{c:BCU}(h:gdN c):Crp (dC c):=uA h.gd
theorem gdN.ne{c:BCU}(h:gdN c):aW (frC (dC c)) (toC (dC c))≠0:=h.2.2.2
theorem gdN.fr{c:BCU}(h:gdN c):okP 500 c.2.2.2.2.1:=h.1.1.2.2.1
theorem gdN.to{c:BCU}(h:gdN c):okP 500 c.2.2.2.2.2:=h.1.1.2.2.2
theorem wA{c d:BCU}(hc:gdN c)(hd:gdN d):(jq c d).length≤4∧∀x∈jq c d,okP 1200 x∧Spb (dC c) x∧Spb (dC d) x:=by
 have kc:=hc.crp
 have kd:=hd.crp
 unfold jq
 cases hs:c7 (dC c) (dC d)
 ·refine⟨?_,fun x hx=>?_⟩
  ·simp only[cond_false,avh]
   have:∀l c,[BdL l]→[BdC c]→(kX l c).length≤4:=fun l c _ _=>auh t8.1 (by decide)
   obtain⟨c1,c2⟩:=oI hc.1.2
   obtain⟨d1,d2⟩:=oI hd.1.2
   have ec:(dC c).1=c.1:=rfl
   have ed:(dC d).1=d.1:=rfl
   unfold gW
   rw[ec,ed]
   cases ha:c.1<;>cases hb:d.1
   ·have i1:=(c2 ha).1
    have i2:=(d2 hb).1
    exact auh wJ.1 (by decide)
   ·have i1:=(c2 ha).1
    have i2:=(d1 hb).1
    exact this _ _
   ·have i1:=(c1 ha).1
    have i2:=(d2 hb).1
    exact this _ _
   ·have i1:=(c1 ha).1
    have i2:=(d1 hb).1
    show(u7 _ _).length≤4
    unfold u7
    cases hq:gZ (ciC (dC c)) (ciC (dC d))
    ·have i3:BdL (n6 (ciC (dC c)) (ciC (dC d))):=yY
     exact this _ _
    ·exact awg _
  ·obtain⟨p,hp,rfl⟩:=au7.1 hx
   obtain⟨b,r,o1,o2⟩:=supM_on hc.1.2 hd.1.2 hp
   refine⟨atS (bG (by decide) (by decide)),?_,?_⟩
   ·unfold Spb;rw[aq];exact⟨r,o1⟩
   ·unfold Spb;rw[aq];exact⟨r,o2⟩
 ·have hs':=wI hs
  refine⟨by simp,fun x hx=>?_⟩
  have:x=c.2.2.2.2.1∨x=c.2.2.2.2.2∨x=d.2.2.2.2.1∨x=d.2.2.2.2.2:=by simpa using hx
  have up:∀{x},okP 500 x→okP 1200 x:=fun h=>cE h (by decide) (by decide)
  rcases this with e|e|e|e<;>rw[e]
  ·have i:Rpd (dec c.2.2.2.2.1:Pt):=kc.f.1
   exact⟨up hc.fr,kc.f,kc.f.1,nz kc hs kc.f.2⟩
  ·have i:Rpd (dec c.2.2.2.2.2:Pt):=kc.t.1
   exact⟨up hc.to,kc.t,kc.t.1,nz kc hs kc.t.2⟩
  ·have i:Rpd (dec d.2.2.2.2.1:Pt):=kd.f.1
   exact⟨up hd.fr,⟨kd.f.1,nz kd hs' kd.f.2⟩,kd.f⟩
  ·have i:Rpd (dec d.2.2.2.2.2:Pt):=kd.t.1
   exact⟨up hd.to,⟨kd.t.1,nz kd hs' kd.t.2⟩,kd.t⟩
theorem gn{c d:BCU}(hc:gdN c)(hd:gdN d){x:BP}(hx:x∈db c d):x∈jq c d∧okP 1200 x∧Spb (dC c) x∧Spb (dC d) x∧onR (dC c) (dec x)=true∧onR (dC d) (dec x)=true:=by
 obtain⟨hm,hk⟩:=ava.1 (eL hx)
 obtain⟨h0,h1,h2⟩:=(wA hc hd).2 x hm
 obtain⟨k1,k2⟩:=auc.1 hk
 refine⟨hm,h0,h1,h2,?_,?_⟩
 ·rw[←dR hc.crp h1.1]
  exact auc.2 ⟨h1.2,k1⟩
 ·rw[←dR hd.crp h2.1]
  exact auc.2 ⟨h2.2,k2⟩
theorem tj{c d:BCU}{x:BP}(hx:x∈dm c d):x∈rP c d∧onR (dC c) (dec x)=true∧onR (dC d) (dec x)=true:=by
 obtain⟨hm,hk⟩:=ava.1 (GZ (show x∈gf (dC c) (PI c d) from hx))
 exact⟨hm,auc.1 hk⟩
theorem M3{c d:BCU}{x:BP}(hc:gdN c)(hd:gdN d)(hr:Rpd (dec x:Pt))(h1:onR (dC c) (dec x)=true)(h2:onR (dC d) (dec x)=true):fR c d x=true:=by
 rw[←dR hc.crp hr]at h1
 rw[←dR hd.crp hr]at h2
 exact auc.2 ⟨(auc.1 h1).2,(auc.1 h2).2⟩
theorem Yc{c d:BCU}(hc:gdN c)(hd:gdN d):∀x∈(jq c d).filter (fR c d),Rpd (dec x:Pt)∧onP (dC c) (dec x)=true:=fun x hx=>by
 obtain⟨hm,hk⟩:=ava.1 hx
 obtain⟨h0,h1,h2⟩:=(wA hc hd).2 x hm
 exact⟨h1.1,auc.2 ⟨h1.2,(auc.1 hk).1⟩⟩
theorem rZ{c d:BCU}(h:eH c d){x:BP}(hx:x∈rP c d):Rpd (dec x:Pt):=gc ((C2 h).2 x hx)
theorem Ld{c d:BCU}(hc:gdN c)(hd:gdN d):eqL (db c d) (dm c d):=by
 have kc:=hc.crp
 have kd:=hd.crp
 obtain⟨p1,p2⟩:=DZ kc hc.ne (Yc hc hd)
 have hmp:eH c d:=⟨hc.1,hd.1⟩
 have rdL:∀x∈dm c d,Rpd (dec x:Pt):=fun x hx=>rZ hmp (tj hx).1
 have spL:∀x∈PI c d,Spb (dC c) x:=fun x hx=>by
  obtain⟨hm,hk⟩:=ava.1 hx
  have r:=rZ hmp hm
  exact⟨r,((il kc r).1 (auc.1 hk).1).1⟩
 refine W2 kc (fun x hx=>(gn hc hd hx).2.2.1) (fun x hx=>spL x (GZ hx)) p1 (Nd (oR kc) spL) (fun a ha=>?_) (fun b hb=>?_)
 ·obtain⟨hm,_,s1,s2,o1,o2⟩:=gn hc hd ha
  have ra:=s1.1
  have key:∃z∈rP c d,aW (dec z) (dec a)=0∧Rpd (dec z:Pt):=by
   unfold jq at hm
   cases hs:c7 (dC c) (dC d)<;>rw[hs]at hm
   ·obtain⟨p,hp,e⟩:=au7.1 hm
    obtain⟨q,hq,e2⟩:=(Mx hc.1.2 hd.1.2 (pR p)).1 ⟨p,hp,rfl⟩
    have hz:enc q∈rP c d:=by
     unfold rP
     rw[hs]
     exact au7.2 ⟨q,hq,rfl⟩
    have rz:=rZ hmp hz
    refine⟨enc q,hz,?_,rz⟩
    refine cmpP_0.2 ?_
    rw[aq,e2,←e,aq]
   ·refine⟨a,?_,cmpP_0.2 rfl,ra⟩
    unfold rP
    rw[hs]
    exact hm
  obtain⟨z,hz,ez,rz⟩:=key
  have hb:z∈PI c d:=by
   refine ava.2 ⟨hz,?_⟩
   rw[qo kc rz ra ez,qo kd rz ra ez,o1,o2]
   rfl
  obtain⟨y,hy,ey⟩:=Ra (c:=dC c) rz hb
  have ry:=rdL y hy
  exact⟨y,hy,oY (MU ey ez)⟩
 ·obtain⟨hm,o1,o2⟩:=tj hb
  have rb:=rZ hmp hm
  have key:∃z∈jq c d,aW (dec z) (dec b)=0:=by
   unfold rP at hm
   cases hs:c7 (dC c) (dC d)<;>rw[hs]at hm
   ·obtain⟨p,hp,e⟩:=au7.1 hm
    obtain⟨q,hq,e2⟩:=(Mx hc.1.2 hd.1.2 (pR p)).2 ⟨p,hp,rfl⟩
    have hz:enc q∈jq c d:=by
     unfold jq
     rw[hs]
     exact au7.2 ⟨q,hq,rfl⟩
    have rz:=((wA hc hd).2 _ hz).2.1.1
    refine⟨enc q,hz,cmpP_0.2 ?_⟩
    rw[aq,e2,←e,aq]
   ·refine⟨b,?_,cmpP_0.2 rfl⟩
    unfold jq
    rw[hs]
    exact hm
  obtain⟨z,hz,ez⟩:=key
  have rz:=((wA hc hd).2 z hz).2.1.1
  have hk:z∈(jq c d).filter (fR c d):=by
   refine ava.2 ⟨hz,M3 hc hd rz ?_ ?_⟩
   ·rw[qo kc rz rb ez,o1]
   ·rw[qo kd rz rb ez,o2]
  obtain⟨y,hy,ey⟩:=p2 z hk
  have ry:=(gn hc hd hy).2.2.1.1
  exact⟨y,hy,MU ey ez⟩
end
section
open RE
def wo(c:BCU):BP→List BP→List BCU
 |f,[]=>[pS c f c.2.2.2.2.2]
 |f,p::r=>bif fa p c.2.2.2.2.1||fa p c.2.2.2.2.2 then wo c f r else pS c f p::wo c p r
def abP(c:BCU)(l:List BP):List BCU:=wo c c.2.2.2.2.1 (cU (dC c) l)
def Qv(c:BCU)(l:List BP):Bool:=l.any fun p=>!onP (dC c) (dec p)
def oU(c:BCU)(l:List BP):List BCU:=bif Qv c l then []else abP c l
def aoJ(c:BCU)(l:List BP):Int:=bif Qv c l then 1 else 0
def wu(c:BCU)(l:List BP):List BP:=l.filter fun p=>!(fa p c.2.2.2.2.1||fa p c.2.2.2.2.2)
def iz(c:BCU)(l:List BP):List BP:=c.2.2.2.2.1::(wu c (cU (dC c) l)++[c.2.2.2.2.2])
theorem yI(c:BCU):∀(L:List BP) (f:BP),wo c f L=jP c (f::(wu c L++[c.2.2.2.2.2]))
 |[],f=>rfl
 |p::r,f=>by
  unfold wo wu
  rw[avI]
  cases h:fa p c.2.2.2.2.1||fa p c.2.2.2.2.2
  ·have:=yI c r p
   simp only[cond_false,Bool.not_false,if_true]
   rw[this]
   rfl
  ·have:=yI c r f
   simp only[cond_true,Bool.not_true,av3,if_false]
   exact this
theorem Qn(c:BCU)(l:List BP):abP c l=jP c (iz c l):=yI c _ _
section
variable {c:BCU} (h:gdN c) {l:List BP} (ho:∀x∈l,Rpd (dec x:Pt)∧onR (dC c) (dec x)=true)
include h ho
theorem amh:Qv c l=false:=by
 unfold Qv
 rw[List.any_eq_false]
 intro x hx
 obtain⟨r,o⟩:=ho x hx
 rw[dR h.crp r,o]
 simp
theorem ZE:oL (dC c) (cU (dC c) l)∧∀x∈l,∃y∈cU (dC c) l,aW (dec y) (dec x)=0:=DZ h.crp h.ne fun x hx=>⟨(ho x hx).1,by rw[dR h.crp (ho x hx).1];exact(ho x hx).2⟩
omit h ho in
theorem Gz{x:BP}(hx:x∈iz c l):x=c.2.2.2.2.1∨x=c.2.2.2.2.2∨(x∈cU (dC c) l∧aW (dec x) (dec c.2.2.2.2.1)≠0∧aW (dec x) (dec c.2.2.2.2.2)≠0):=by
 unfold iz at hx
 rcases aud.1 hx with e|e
 ·exact .inl e
 ·rcases auo.1 e with e|e
  ·obtain⟨m1,m2⟩:=ava.1 e
   refine .inr (.inr ⟨m1,?_,?_⟩)
   ·intro g
    have:fa x c.2.2.2.2.1=true:=avb.2 g
    rw[this]at m2
    simp at m2
   ·intro g
    have:fa x c.2.2.2.2.2=true:=avb.2 g
    rw[this]at m2
    simp at m2
  ·exact .inr (.inl (au6.1 e))
theorem Mi:∀x∈iz c l,Spb (dC c) x∧onR (dC c) (dec x)=true:=fun x hx=>by
 rcases Gz hx with e|e|⟨e,_⟩
 ·rw[e];exact⟨h.crp.f,(Cq h).1⟩
 ·rw[e];exact⟨h.crp.t,(Cq h).2⟩
 ·obtain⟨r,o⟩:=ho x (eL e)
  exact⟨⟨r,((il h.crp r).1 o).1⟩,o⟩
theorem MW:oL (dC c) (iz c l):=by
 have k:=h.crp
 have o:=lA k
 have sp:=Mi h ho
 have hmid:∀x∈wu c (cU (dC c) l),cd (dC c) (frC (dC c)) (dec x)<0∧cd (dC c) (dec x) (toC (dC c))<0:=fun x hx=>by
  have hx':x∈iz c l:=by
   unfold iz
   exact aub _ (avk _ hx)
  obtain⟨m1,m2⟩:=ava.1 hx
  obtain⟨s1,o1⟩:=sp x hx'
  have hr:=s1.1
  obtain⟨_,g1,g2⟩:=(il k hr).1 o1
  have n1:aW (dec x) (frC (dC c))≠0:=fun g=>by
   have:fa x c.2.2.2.2.1=true:=avb.2 g
   rw[this]at m2
   simp at m2
  have n2:aW (dec x) (toC (dC c))≠0:=fun g=>by
   have:fa x c.2.2.2.2.2=true:=avb.2 g
   rw[this]at m2
   simp at m2
  constructor
  ·rcases o.tri s1 k.f with e|e|e
   ·exact absurd e g1
   ·exact absurd e n1
   ·exact e
  ·rcases o.tri s1 k.t with e|e|e
   ·exact e
   ·exact absurd e n2
   ·exact absurd e g2
 unfold iz
 refine aup.2 ⟨fun x hx=>?_,?_⟩
 ·rcases auo.1 hx with e|e
  ·exact(hmid x e).1
  ·rw[au6.1 e];exact ahx h
 ·refine List.pairwise_append.2 ⟨List.Pairwise.filter _ (ZE h ho).1,by simp,fun x hx y hy=>?_⟩
  rw[au6.1 hy]
  exact(hmid x hx).2
end
end
section
open RE
def frB(c:BCU):BP:=c.2.2.2.2.1
def toB(c:BCU):BP:=c.2.2.2.2.2
def uN(d p:BCU):Bool:=(onP (dC d) (dec (frB p))&&onP (dC d) (dec (toB p)))&&(bif d.1 then !fa (frB (dP p)) (toB (dP d))&&decide (eU bR (ptd (dec (dP d).2.2.1) (dec (frB (dP p)))) (ptd (dec (dP d).2.2.1) (dec (toB (dP p)))) (ptd (dec (dP d).2.2.1) (dec (toB (dP d))))≤0)else true)
def sL(c d:BCU)(l:List BP):Bool:=(oU c l).any (uN d)
def kW(c d:BCU):Bool:=c7 (dC c) (dC d)&&sL c d (db c d)
theorem Z5{p q r:Pt}[Rpd p][Rpd q][Rpd r]:Az (aW r p) (aW p q)=Az (aW q p) (aW p r):=by
 rw[jX (p:=r) (q:=p),jX (p:=q) (q:=p)]
 have h1:=lj p r
 have h2:=lj p q
 unfold Az
 rw[Bool.eq_iff_iff]
 simp only[avD,avb]
 omega
theorem amp{d:BCU}(hf:Rpd (frC (dC d)))(ht:Rpd (toC (dC d))){p:Pt}(hp:Rpd p):onP (dC (da d)) p=onP (dC d) p:=by
 obtain⟨ar,li,ci,cw,fr,to⟩:=d
 unfold onP
 have e1:fE (dC (da (ar,li,ci,cw,fr,to))) p=fE (dC (ar,li,ci,cw,fr,to)) p:=rfl
 rw[e1]
 congr 1
 cases ar
 ·show Az (aW (dec to) p) (aW p (dec fr))=Az (aW (dec fr) p) (aW p (dec to))
  have i1:Rpd (dec fr):=hf
  have i2:Rpd (dec to):=ht
  exact Z5
 ·cases cw<;>rfl
theorem gdN.rev{d:BCU}(h:gdN d):gdN (da d):=by
 obtain⟨⟨h1,h2,h3⟩,h4,h5,h6⟩:=h
 have r1:=gc h1.2.2.1
 have r2:=gc h1.2.2.2
 refine⟨⟨IM _ h1,h2,h3⟩,h5,h4,fun e=>h6 ?_⟩
 have i1:Rpd (frC (dC d)):=r1
 have i2:Rpd (toC (dC d)):=r2
 exact oY (p:=toC (dC d)) (q:=frC (dC d)) e
theorem xg{d:BCU}(h:gdN d){p:Pt}(hp:Rpd p):onR (dC (da d)) p=onR (dC d) p:=by
 rw[←dR h.rev.crp hp,←dR h.crp hp,amp h.crp.f.1 h.crp.t.1 hp]
theorem xn{e:Cv}(k:Crp e)(ha:e.1=true)(hw:cwC e=false){x y:Pt}(sx:Sp e x)(sy:Sp e y):eU bR (ptd (ciC e) (frC e)) (ptd (ciC e) x) (ptd (ciC e) y)=cd e x y:=by
 have i1:=sx.1
 have i2:=sy.1
 have i3:=k.f.1
 rw[Jz (k.q ha) (fD ha k.f) (fD ha sx) (fD ha sy)]
 unfold cd
 rw[ha,hw]
 rfl
theorem J6{d:BCU}(h:gdN d){p q:Pt}(hp:Rpd p)(hq:Rpd q)(op:onR (dC d) p=true)(oq:onR (dC d) q=true):cd (dC (da d)) p q<0↔cd (dC d) q p<0:=by
 have op':=op
 have oq':=oq
 rw[←xg h hp]at op'
 rw[←xg h hq]at oq'
 rw[←dR h.crp hp]at op
 rw[←dR h.crp hq]at oq
 rw[←dR h.rev.crp hp]at op'
 rw[←dR h.rev.crp hq]at oq'
 rw[←ord_eq h.rev.crp h.rev.ne hp hq op' oq',←ord_eq h.crp h.ne hq hp oq op]
 have hf:=h.crp.f
 have ht:=h.crp.t
 have hq0:=h.crp.q
 obtain⟨ar,li,ci,cw,fr,to⟩:=d
 unfold rh
 cases ar
 ·show aW p q*aW (dec fr) (dec to)<0↔aW q p*aW (dec to) (dec fr)<0
  have i1:Rpd (dec fr):=hf.1
  have i2:Rpd (dec to):=ht.1
  rw[jX (p:=q),jX (p:=dec to),Int.neg_mul_neg]
 ·have sp:=(auc.1 op).1
  have sq:=(auc.1 oq).1
  cases cw
  ·have k:=h.crp
   have o:=lA k
   have e1:=xn k rfl rfl ⟨hp,sp⟩ ⟨hq,sq⟩
   have e2:=xn k rfl rfl ⟨hq,sq⟩ ⟨hp,sp⟩
   have le:=o.le ⟨hp,sp⟩ ⟨hq,sq⟩
   show-eU bR (ptd (dec ci) (dec fr)) (ptd (dec ci) p) (ptd (dec ci) q)<0↔eU bR (ptd (dec ci) (dec fr)) (ptd (dec ci) q) (ptd (dec ci) p)<0
   have e1:eU bR (ptd (dec ci) (dec fr)) (ptd (dec ci) p) (ptd (dec ci) q)=_:=e1
   have e2:eU bR (ptd (dec ci) (dec fr)) (ptd (dec ci) q) (ptd (dec ci) p)=_:=e2
   rw[e1,e2]
   by_cases g:cd (dC (true,li,ci,false,fr,to)) q p<0
   ·have:¬cd (dC (true,li,ci,false,fr,to)) p q≤0:=fun g'=>le.1 g' g
    exact⟨fun _=>g,fun _=>by omega⟩
   ·have:cd (dC (true,li,ci,false,fr,to)) p q≤0:=le.2 g
    exact⟨fun _=>by omega,fun g'=>absurd g' g⟩
  ·have k:=h.rev.crp
   have o:=lA k
   have e1:=xn k rfl rfl ⟨hp,sp⟩ ⟨hq,sq⟩
   have e2:=xn k rfl rfl ⟨hq,sq⟩ ⟨hp,sp⟩
   have le:=o.le (p:=q) (q:=p) ⟨hq,sq⟩ ⟨hp,sp⟩
   show eU bR (ptd (dec ci) (dec to)) (ptd (dec ci) p) (ptd (dec ci) q)<0↔ -eU bR (ptd (dec ci) (dec to)) (ptd (dec ci) q) (ptd (dec ci) p)<0
   have e1:eU bR (ptd (dec ci) (dec to)) (ptd (dec ci) p) (ptd (dec ci) q)=_:=e1
   have e2:eU bR (ptd (dec ci) (dec to)) (ptd (dec ci) q) (ptd (dec ci) p)=_:=e2
   rw[e1,e2]
   by_cases g:cd (dC (da (true,li,ci,true,fr,to))) p q<0
   ·have:¬cd (dC (da (true,li,ci,true,fr,to))) q p≤0:=fun g'=>le.1 g' g
    exact⟨fun _=>by omega,fun _=>g⟩
   ·have:cd (dC (da (true,li,ci,true,fr,to))) q p≤0:=le.2 g
    exact⟨fun g'=>absurd g' g,fun _=>by omega⟩
theorem acJ{α:Type}{lt:α→α→Prop}(h:lV lt){o t u w:α}(_hot:o≠t)(huw:u≠w)(hu:¬cLt lt o t u)(hw:¬cLt lt o t w):(u≠t∧¬cLt lt u t w)↔cLt lt o u w:=by
 have m1:o∈[o,t,u,w]:=by simp
 have m2:t∈[o,t,u,w]:=by simp
 have m3:u∈[o,t,u,w]:=by simp
 have m4:w∈[o,t,u,w]:=by simp
 have ne:∀{a b:α},a∈[o,t,u,w]→b∈[o,t,u,w]→(a≠b↔rk lt [o,t,u,w] a≠rk lt [o,t,u,w] b):=fun{a b} ha hb=>by
  constructor
  ·intro e
   rcases h.tri a b with g|g|g
   ·have:=tF h g ha;omega
   ·exact absurd g e
   ·have:=tF h g hb;omega
  ·intro e g
   rw[g]at e
   exact e rfl
 rw[ne m1 m2]at _hot
 rw[ne m3 m4]at huw
 rw[ne m3 m2]
 unfold cLt at*
 rw[nV h m2 m1,nV h m3 m1,nV h m2 m3]at hu
 rw[nV h m2 m1,nV h m4 m1,nV h m2 m4]at hw
 rw[nV h m2 m3,nV h m4 m3,nV h m2 m4,nV h m3 m1,nV h m4 m1,nV h m3 m4]
 omega
theorem MN{e:Cv}(k:Crp e)(hne:aW (frC e) (toC e)≠0)(ha:e.1=true)(hw:cwC e=false){x y:Pt}(sx:Sp e x)(sy:Sp e y)(ox:onR e x=true)(oy:onR e y=true)(hxy:aW x y≠0):
  ((aW x (toC e)==0)=false∧eU bR (ptd (ciC e) x) (ptd (ciC e) y) (ptd (ciC e) (toC e))≤0)↔cd e x y<0:=by
 obtain⟨κ,h1,h2⟩:=Ct k ha
 have hl:=Ke RE.lt_lin
 have hc:=fun u=>xO RE.lt_lin RE.sg_cmpO u
 have i1:=sx.1
 have i2:=sy.1
 have i3:=k.t.1
 have ex:=h1 (pcC e x (toC e)) ha rfl rfl sx y (toC e) sy k.t
 have et:eU bR (ptd (ciC e) x) (ptd (ciC e) y) (ptd (ciC e) (toC e))=cd (pcC e x (toC e)) y (toC e):=by
  rw[Jz (k.q ha) (fD ha sx) (fD ha sy) (fD ha k.t)]
  unfold cd
  rw[show(pcC e x (toC e)).1=true from ha,show cwC (pcC e x (toC e))=false from hw]
  rfl
 have ec:=h1 e ha rfl rfl k.f
 obtain⟨_,x1,x2⟩:=(il k sx.1).1 ox
 obtain⟨_,y1,y2⟩:=(il k sy.1).1 oy
 rw[ec _ _ k.t sx,hU (A6 hl _) (hc _)]at x2
 rw[ec _ _ k.t sy,hU (A6 hl _) (hc _)]at y2
 have n1:κ (frC e)≠κ (toC e):=fun g=>hne ((h2 _ _ k.f k.t).1 g)
 have n2:κ x≠κ y:=fun g=>hxy ((h2 _ _ sx sy).1 g)
 have e3:(aW x (toC e)==0)=false↔κ x≠κ (toC e):=by
  rw[av0,ne_eq,ne_eq,h2 _ _ sx k.t]
 rw[e3,et,ex,KZ (A6 hl _) (hc _),ec x y sx sy,hU (A6 hl _) (hc _)]
 exact acJ hl n1 n2 x2 y2
theorem Kv{c d:BCU}(hc:gdN c)(hd:gdN d)(hs:c7 (dC c) (dC d)=true){x y:BP}(sx:Spb (dC d) x)(sy:Spb (dC d) y)(hxy:cd (dC c) (dec x) (dec y)<0):
  uN d (pS c x y)=(onR (dC d) (dec x)&&onR (dC d) (dec y)&&decide (cd (dC (jC c d)) (dec x) (dec y)<0)):=by
 have e:=yC hs
 have kd:=hd.crp
 have kc:=hc.crp
 have rx:=sx.1
 have ry:=sy.1
 have cx:Spb (dC c) x:=⟨rx,nz kd (wI hs) sx.2⟩
 have cy:Spb (dC c) y:=⟨ry,nz kd (wI hs) sy.2⟩
 have hne:aW (dec x) (dec y)≠0:=fun g=>by
  rw[(oR kc).irr cx cy g]at hxy
  omega
 unfold uN
 rw[show dec (frB (pS c x y))=(dec x:Pt) from rfl,show dec (toB (pS c x y))=(dec y:Pt) from rfl,dR kd rx,dR kd ry]
 cases ox:onR (dC d) (dec x)
 ·rfl
 ·cases oy:onR (dC d) (dec y)
  ·rfl
  ·rw[atX,atX,atX]
   rw[Bool.eq_iff_iff,avE]
   cases ha:d.1
   ·have hca:c.1=false:=by rw[←ha];exact e
    refine⟨fun _=>?_,fun _=>rfl⟩
    have key:cd (dC (jC c d)) (dec x) (dec y)=cd (dC c) (dec x) (dec y):=by
     have i1:Rpd (dec d.2.2.2.2.1:Pt):=kd.f.1
     have i2:Rpd (dec d.2.2.2.2.2:Pt):=kd.t.1
     have b1:=lj (dec c.2.2.2.2.1) (dec c.2.2.2.2.2)
     have b2:=lj (dec d.2.2.2.2.1) (dec d.2.2.2.2.2)
     have n1:aW (dec c.2.2.2.2.1) (dec c.2.2.2.2.2)≠0:=hc.ne
     have n2:aW (dec d.2.2.2.2.1) (dec d.2.2.2.2.2)≠0:=hd.ne
     have an:=jX (p:=(dec d.2.2.2.2.2:Pt)) (q:=dec d.2.2.2.2.1)
     have lin:∀b:BCU,b.1=false→cd (dC b) (dec x) (dec y)=bif decide (aW (dec b.2.2.2.2.1) (dec b.2.2.2.2.2)>0)then-aW (dec x) (dec y)else aW (dec x) (dec y):=fun b hb=>by
      unfold cd
      rw[show(dC b).1=false from hb]
      rfl
     unfold jC Fd
     rw[hca]
     simp only[Bool.false_and,atX,Bool.not_false,cond_false]
     cases hq:aW (dec c.2.2.2.2.1) (dec c.2.2.2.2.2) !=aW (dec d.2.2.2.2.1) (dec d.2.2.2.2.2)
     ·have hq:aW (dec c.2.2.2.2.1) (dec c.2.2.2.2.2)=aW (dec d.2.2.2.2.1) (dec d.2.2.2.2.2):=by simpa using hq
      rw[cond_false,lin d ha,lin c hca,hq]
     ·have hq:aW (dec c.2.2.2.2.1) (dec c.2.2.2.2.2)≠aW (dec d.2.2.2.2.1) (dec d.2.2.2.2.2):=by simpa using hq
      rw[cond_true,lin (da d) ha,lin c hca,show aW (dec (da d).2.2.2.2.1) (dec (da d).2.2.2.2.2)=aW (dec c.2.2.2.2.1) (dec c.2.2.2.2.2) by
       show aW (dec d.2.2.2.2.2) (dec d.2.2.2.2.1)=_
       rw[an];omega]
    rw[key]
    exact hxy
   ·have hca:c.1=true:=by rw[←ha];exact e
    rw[cond_true,auc,avE]
    have hci:ciC (dC c)=ciC (dC d):=IU hs hca
    have kk:∀b:BCU,gdN b→b.1=true→b.2.2.2.1=false→Spb (dC b) x→Spb (dC b) y→onR (dC b) (dec x)=true→onR (dC b) (dec y)=true→
      ((!fa x (toB b))=true∧eU bR (ptd (dec b.2.2.1) (dec x)) (ptd (dec b.2.2.1) (dec y)) (ptd (dec b.2.2.1) (dec (toB b)))≤0↔cd (dC b) (dec x) (dec y)<0)∧
      ((!fa y (toB b))=true∧eU bR (ptd (dec b.2.2.1) (dec y)) (ptd (dec b.2.2.1) (dec x)) (ptd (dec b.2.2.1) (dec (toB b)))≤0↔cd (dC b) (dec y) (dec x)<0):=fun b hb h1 h2 s1 s2 o1 o2=>by
     refine⟨?_,?_⟩
     ·rw[←MN hb.crp hb.ne h1 h2 s1 s2 o1 o2 hne,auV]
      rfl
     ·rw[←MN hb.crp hb.ne h1 h2 s2 s1 o2 o1 (fun g=>hne (oY g)),auV]
      rfl
    have hdr:=hd.rev
    have ox':=ox
    have oy':=oy
    rw[←xg hd rx]at ox'
    rw[←xg hd ry]at oy'
    have sx':Spb (dC (da d)) x:=⟨rx,sx.2⟩
    have sy':Spb (dC (da d)) y:=⟨ry,sy.2⟩
    have rD:jC c d=bif c.2.2.2.1 !=d.2.2.2.1 then da d else d:=by
     unfold jC Fd
     rw[hca,ha]
     simp only[atX]
     cases c.2.2.2.1 !=d.2.2.2.1<;>rfl
    have ccB:∀b:BCU,dP b=bif b.2.2.2.1 then da b else b:=fun b=>rfl
    rw[rD]
    have rcw:(da d).2.2.2.1=!d.2.2.2.1:=by
     show(d.1&&!d.2.2.2.1)=_
     rw[ha,atX]
    have pcw:(pS c x y).2.2.2.1=c.2.2.2.1:=rfl
    rw[ccB,ccB,pcw]
    cases hcw:c.2.2.2.1<;>cases hdw:d.2.2.2.1
    ·exact(kk d hd ha hdw sx sy ox oy).1
    ·exact(kk (da d) hdr ha (by rw[rcw,hdw];rfl) sx' sy' ox' oy').1
    ·refine(kk d hd ha hdw sx sy ox oy).2.trans ?_
     exact(J6 hd rx ry ox oy).symm
    ·refine(kk (da d) hdr ha (by rw[rcw,hdw];rfl) sx' sy' ox' oy').2.trans ?_
     exact J6 hd ry rx oy ox
end
section
def wy(c d:BCU)(l:List BP):Prop:=jQ c l∧okC 4000 d
instance (c d:BCU) (l:List BP):Decidable (wy c d l):=by unfold wy;infer_instance
theorem alp(d:BCU):(dP d).1=d.1:=by
 unfold dP
 cases d.2.2.2.1<;>rfl
theorem KB{k:Nat}{d:BCU}(h:okC k d):okC k (dP d):=by
 unfold dP
 cases d.2.2.2.1
 ·exact h
 ·exact IM k h
theorem Ej{c:BCU}(hc:okC 4000 c):∀{L:List BP} {f:BP},okP 4000 f→(∀x∈L,okP 4000 x)→∀p∈wo c f L,okC 4000 p
 |[],f,hf,_,p,hp=>by
  rw[au6.1 hp]
  exact⟨hc.1,hc.2.1,hf,hc.2.2.2⟩
 |x::r,f,hf,hL,p,hp=>by
  have hx:=hL x (by simp)
  have hr:∀y∈r,okP 4000 y:=fun y hy=>hL y (aub _ hy)
  unfold wo at hp
  cases h:fa x c.2.2.2.2.1||fa x c.2.2.2.2.2<;>rw[h]at hp
  ·rcases aud.1 hp with e|e
   ·rw[e];exact⟨hc.1,hc.2.1,hf,hx⟩
   ·exact Ej hc hx hr p e
  ·exact Ej hc hf hr p hp
theorem abI{c:BCU}{l:List BP}(h:jQ c l):(oU c l).length≤20∧∀p∈oU c l,okC 4000 p:=by
 obtain⟨hc,hl,ho⟩:=h
 have hs:∀x∈cU (dC c) l,okP 4000 x:=fun x hx=>ho x (eL hx)
 have hn:(cU (dC c) l).length≤l.length:=mz
 have len:∀(L:List BP) (f:BP),(wo c f L).length≤L.length+1:=by
  intro L
  induction L with
  |nil=>intro f;simp[wo]
  |cons x r ih=>
   intro f
   unfold wo
   cases fa x c.2.2.2.2.1||fa x c.2.2.2.2.2
   ·have:=ih x;simp only[cond_false,aui];omega
   ·have:=ih f;simp only[cond_true,aui];omega
 unfold oU
 cases Qv c l
 ·refine⟨?_,Ej hc hc.2.2.1 hs⟩
  have:=len (cU (dC c) l) c.2.2.2.2.1
  simp only[cond_false]
  unfold abP
  omega
 ·exact⟨by simp,fun p hp=>by cases hp⟩
def Vt:Env:=[(14,vX),(55,Db),(54,CI)]
theorem O9:EnvAll Tryz.prog Vt:=⟨oV,yd,yT,trivial⟩
def akZ:NT:=[((116,6),{keep:=[0,1,7,8],hl:=1}),((17,18),{keep:=[2,6,7,17,18,19],own:=[(6,43,tCU)],hl:=3}),((17,4),{keep:=[1,2,13],hl:=0}),((52,3),{keep:=[7],hl:=0}),((116,18),{keep:=[0,1,5,7,8,16],hl:=0})]
def HG:Ctx:=CX Vt akZ
def nj(c:BCU)(l:List BP)(s116_8:Int):Cfg:=⟨116,[.blk 0,.seq 25],[(0,.d (.sl tP) l),(1,.clo 53 [0]),(7,SI (l.length:Int)),(8,SI s116_8)],[.box 43 (Ty.split tCU c)],1,[⟨52,[.seq 4],3,2,[],1,none⟩,⟨17,[.seq 5,.seq 10],4,2,[(1,.d (.sl tP) l),(2,.box 0 0)],0,none⟩]⟩
def qa(c:BCU)(l:List BP)(s19:Int)(B1:BCU)(r2:List BCU):Cfg:=⟨17,[.blk 0,.seq 41],[(2,.box 0 0),(6,.own 2),(7,.box 1 0),(17,.d (.sl tP) (cU (dC c) l)),(18,SI ((cU (dC c) l).length:Int)),(19,SI s19)],[.box 43 (Ty.split tCU c),.box 43 (Ty.split tCU B1),.row 43 tCU r2],0,[]⟩
def arq(c:BCU)(l:List BP)(k:KT):Option (List RV):=k 6 (nj c l 0)
theorem anl(c:BCU)(l:List BP):RS HG 17 [.d tCU c,.d (.sl tP) l] (arq c l):=rsX
def nF(c:BCU)(l:List BP)(s116_8:Int)(k:KT):Option (List RV):=match decide (s116_8<(l.length:Int))with|true=>(match bi l s116_8 with|some x1=>(match decide (okC 4000 c∧okP 4000 x1)with|true=>(match !(onP (dC c) (dec x1))with|true=>(match decide (s116_8≥0)with|true=>some [RV.d (.sl tCU) ([]),RV.d axf 1]|false=>(match decide (jQ c l)with|true=>none|false=>none))|false=>k 6 (nj c l (i64.wrap (s116_8+1))))|false=>none)|none=>none)|false=>(match decide ((-1)≥0)with|true=>some [RV.d (.sl tCU) ([]),RV.d axf 1]|false=>(match decide (jQ c l)with|true=>k 18 (qa c l 0 c ([]))|false=>none))
theorem uk(c:BCU)(l:List BP)(s116_8:Int):RN HG 6 (nj c l s116_8) (nF c l s116_8):=rnX
def vG(c:BCU)(l:List BP)(s19:Int)(B1:BCU)(r2:List BCU)(k:KT):Option (List RV):=match decide (s19<((cU (dC c) l).length:Int))with|true=>(match bi (cU (dC c) l) s19 with|some x1=>(match decide (okP 4000 x1∧okP 4000 c.2.2.2.2.1)with|true=>(match aW (dec x1) (dec c.2.2.2.2.1)==0 with|true=>k 18 (qa c l (i64.wrap (s19+1)) B1 r2)|false=>(match decide (okP 4000 x1∧okP 4000 c.2.2.2.2.2)with|true=>(match aW (dec x1) (dec c.2.2.2.2.2)==0 with|true=>k 18 (qa c l (i64.wrap (s19+1)) B1 r2)|false=>dup (.b .l .l) (match decide ((r2.length+([(B1.1,(B1.2.1,(B1.2.2.1,(B1.2.2.2.1,(B1.2.2.2.2.1,x1)))))]).length)*1040≤140737488355328∧r2.length+([(B1.1,(B1.2.1,(B1.2.2.1,(B1.2.2.2.1,(B1.2.2.2.2.1,x1)))))]).length≤140737488355328)with|true=>k 18 (qa c l (i64.wrap (s19+1)) (B1.1,(B1.2.1,(B1.2.2.1,(B1.2.2.2.1,(x1,B1.2.2.2.2.2))))) (r2++([(B1.1,(B1.2.1,(B1.2.2.1,(B1.2.2.2.1,(B1.2.2.2.2.1,x1)))))])))|false=>none))|false=>none))|false=>none)|none=>none)|false=>(match decide ((r2.length+([B1]).length)*1040≤140737488355328∧r2.length+([B1]).length≤140737488355328)with|true=>some [RV.d (.sl tCU) (r2++([B1])),RV.d axf 0]|false=>none)
theorem A9(c:BCU)(l:List BP)(s19:Int)(B1:BCU)(r2:List BCU):RN HG 18 (qa c l s19 B1 r2) (vG c l s19 B1 r2):=rnX
section
variable (c:BCU) (l:List BP) (h:jQ c l)
include h
theorem LN:∀(L:List BP) (i:Nat),(cU (dC c) l).drop i=L→i≤(cU (dC c) l).length→∀(f:BP) (r2:List BCU),r2.length≤i→HG.Runs 18 (qa c l (i:Int) (pS c f c.2.2.2.2.2) r2) [.d (.sl tCU) (r2++wo c f L),.d axf (0:Int)]
 |[],i,hd,hi,f,r2,hr=>by
  have hn:(cU (dC c) l).length≤l.length:=mz
  have hl:=h.2.1
  have hlen:=congrArg List.length hd
  rw[avT,avR]at hlen
  refine A9 _ _ _ _ _ ⟨0,?_⟩
  unfold vG
  rw[cz (by omega),aur,th (by omega) (by omega)]
  rfl
 |x::r,i,hd,hi,f,r2,hr=>by
  have hn:(cU (dC c) l).length≤l.length:=mz
  have hl:=h.2.1
  have hlen:=congrArg List.length hd
  rw[avT,aui]at hlen
  have hil:i<(cU (dC c) l).length:=by omega
  have hd2:=auk hil
  rw[hd2]at hd
  injection hd with e1 e2
  have hx:okP 4000 x:=by rw[←e1];exact h.2.2 _ (eL (auB hil))
  have g1:bi (cU (dC c) l) (i:Int)=some x:=by rw[aA,atU hil,e1]
  have ih:=LN r (i+1) e2 (by omega)
  refine A9 _ _ _ _ _ ?_
  unfold vG wo
  rw[bS hil,g1,co (by omega)]
  dsimp only
  rw[dT (show okP 4000 x∧okP 4000 c.2.2.2.2.1 from⟨hx,h.1.2.2.1⟩),dT (show okP 4000 x∧okP 4000 c.2.2.2.2.2 from⟨hx,h.1.2.2.2⟩)]
  dsimp only
  unfold fa
  cases q1:aW (dec x) (dec c.2.2.2.2.1)==0
  ·cases q2:aW (dec x) (dec c.2.2.2.2.2)==0
   ·obtain⟨n,hn⟩:=ih x (r2++[pS c f x]) (by simp;omega)
    refine⟨n,?_⟩
    rw[aut]at hn
    simp only[aO]
    rw[aur,th (by omega) (by omega)]
    exact hn
   ·exact ih f r2 (by omega)
  ·exact ih f r2 (by omega)
theorem ak6:∀(j i:Nat),i+j=l.length→HG.Runs 6 (nj c l (i:Int)) [.d (.sl tCU) (bif (l.drop i).any (fun p=>!onP (dC c) (dec p))then []else abP c l),.d axf (bif (l.drop i).any (fun p=>!onP (dC c) (dec p))then(1:Int)else 0)]:=by
 intro j
 have hl:=h.2.1
 induction j with
 |zero=>
  intro i hi
  obtain⟨n,hn⟩:=LN c l h (cU (dC c) l) 0 rfl (awg _) c.2.2.2.2.1 [] (at5 _)
  refine uk _ _ _ ⟨n,?_⟩
  unfold nF
  rw[cz (by omega),uc (by omega)]
  dsimp only
  rw[dF (show ¬(-1:Int)≥0 by decide),dT h]
  exact hn
 |succ j ih=>
  intro i hi
  have hil:i<l.length:=by omega
  obtain⟨n,hn⟩:=ih (i+1) (by omega)
  refine uk _ _ _ ⟨n,?_⟩
  unfold nF
  rw[bS hil,aA,atU hil,jw hil,List.any_cons,co (by omega)]
  dsimp only
  rw[dT (show okC 4000 c∧okP 4000 l[i] from⟨h.1,h.2.2 _ (auB _)⟩)]
  cases onP (dC c) (dec l[i])
  ·dsimp only[Bool.not_false]
   rw[dT (show(i:Int)≥0 by omega)]
   rfl
  ·exact hn
end
theorem abD(c:BCU)(l:List BP)(h:jQ c l):Con Tryz.prog 17 [.d tCU c,.d (.sl tP) l] [.d (.sl tCU) (oU c l),.d axf (aoJ c l)]:=by
 have q:=ak6 c l h l.length 0 (auC _)
 exact aP O9 (anl _ _ q)
def Rg:Env:=[(14,vX),(55,Db),(109,II),(110,C3)]
theorem O6:EnvAll Tryz.prog Rg:=⟨oV,yd,EL,z8,trivial⟩
def amD:Ctx:=CX Rg []
def ahJ(d p:BCU)(_k:KT):Option (List RV):=match decide (okC 4000 d∧okP 4000 p.2.2.2.2.1)with|true=>(match !(onP (dC d) (dec p.2.2.2.2.1))with|true=>some [RV.d .bool false]|false=>(match decide (okC 4000 d∧okP 4000 p.2.2.2.2.2)with|true=>(match !(onP (dC d) (dec p.2.2.2.2.2))with|true=>some [RV.d .bool false]|false=>(match !d.1 with|true=>some [RV.d .bool true]|false=>(match decide (okP 4000 ((((((hid (dP p)).2).2).2).2).1)∧okP 4000 ((((((hid (dP d)).2).2).2).2).2))with|true=>(match aW (dec ((((((hid (dP p)).2).2).2).2).1)) (dec ((((((hid (dP d)).2).2).2).2).2))==0 with|true=>some [RV.d .bool false]|false=>(match decide (ok Ln 300 ((((hid (dP d)).2).2).1)∧okP 4000 ((((((hid (dP p)).2).2).2).2).1)∧okP 4000 ((((((hid (dP p)).2).2).2).2).2)∧okP 4000 ((((((hid (dP d)).2).2).2).2).2))with|true=>some [RV.d .bool (decide ((eU bR (ptd (dec ((((hid (dP d)).2).2).1)) (dec ((((((hid (dP p)).2).2).2).2).1))) (ptd (dec ((((hid (dP d)).2).2).1)) (dec ((((((hid (dP p)).2).2).2).2).2))) (ptd (dec ((((hid (dP d)).2).2).1)) (dec ((((((hid (dP d)).2).2).2).2).2))))≤0))]|false=>none))|false=>none)))|false=>none))|false=>none
theorem aqQ(d p:BCU):RS amD 129 [.d tCU d,.d tCU p] (ahJ d p):=rsX
theorem aaV(d p:BCU)(h:okC 4000 d∧okC 4000 p):Con Tryz.prog 129 [.d tCU d,.d tCU p] [.d .bool (uN d p)]:=by
 refine aP O6 (aqQ _ _ ⟨0,?_⟩)
 obtain⟨hd,hp⟩:=h
 have hd':=KB hd
 have hp':=KB hp
 unfold ahJ uN frB toB fa
 simp only[ak]
 rw[dT (show okC 4000 d∧okP 4000 p.2.2.2.2.1 from⟨hd,hp.2.2.1⟩),dT (show okC 4000 d∧okP 4000 p.2.2.2.2.2 from⟨hd,hp.2.2.2⟩)]
 cases onP (dC d) (dec p.2.2.2.2.1)
 ·rfl
 ·cases onP (dC d) (dec p.2.2.2.2.2)
  ·rfl
  ·cases ha:d.1
   ·rfl
   ·rw[dT (show okP 4000 (dP p).2.2.2.2.1∧okP 4000 (dP d).2.2.2.2.2 from⟨hp'.2.2.1,hd'.2.2.2⟩),dT (show ok Ln 300 (dP d).2.2.1∧okP 4000 (dP p).2.2.2.2.1∧okP 4000 (dP p).2.2.2.2.2∧okP 4000 (dP d).2.2.2.2.2 from⟨(hd'.1 ((alp d).trans ha)).1,hp'.2.2.1,hp'.2.2.2,hd'.2.2.2⟩)]
    cases aW (dec (dP p).2.2.2.2.1) (dec (dP d).2.2.2.2.2)==0<;>rfl
def UI:aN:=spN false false [tCU,(.sl tP)] (fun x=>decide (jQ x.1 x.2.1)) (fun x=>[RV.d (.sl tCU) (oU x.1 x.2.1),RV.d axf (aoJ x.1 x.2.1)])
theorem Vg:SpK 17 UI:=spX fun x h=>abD x.1 x.2.1 (atS h)
def VE:aN:=spN true true [tCU,tCU] (fun x=>decide (okC 4000 x.1∧okC 4000 x.2.1)) (fun x=>[RV.d .bool (uN x.1 x.2.1)])
theorem QK:SpK 129 VE:=spX fun x h=>aaV x.1 x.2.1 (atS h)
def QW:Env:=[(17,UI),(129,VE)]
theorem Py:EnvAll Tryz.prog QW:=⟨Vg,QK,trivial⟩
def aiZ:NT:=[((189,6),{keep:=[0,1,7,8],hl:=2}),((63,5),{keep:=[17],hl:=0}),((127,3),{keep:=[7],hl:=0}),((189,18),{keep:=[0,1,5,7,8,16],hl:=0})]
def Tf:Ctx:=CX QW aiZ
def nD(c d:BCU)(l:List BP)(s189_8:Int):Cfg:=⟨189,[.blk 0,.seq 25],[(0,.d (.sl tCU) (oU c l)),(1,.clo 128 [1]),(7,SI ((oU c l).length:Int)),(8,SI s189_8)],[.box 43 (Ty.split tCU c),.box 43 (Ty.split tCU d)],2,[⟨127,[.seq 4],3,2,[],2,none⟩,⟨63,[.seq 6],5,2,[],0,none⟩]⟩
def afe(c d:BCU)(l:List BP)(k:KT):Option (List RV):=match decide (jQ c l)with|true=>k 6 (nD c d l 0)|false=>none
theorem aoE(c d:BCU)(l:List BP):RS Tf 63 [.d tCU c,.d tCU d,.d (.sl tP) l] (afe c d l):=rsX
def nM(c d:BCU)(l:List BP)(s189_8:Int)(k:KT):Option (List RV):=match decide (s189_8<((oU c l).length:Int))with|true=>(match bi (oU c l) s189_8 with|some x1=>(match decide (okC 4000 d∧okC 4000 x1)with|true=>(match uN d x1 with|true=>some [RV.d .bool (decide (s189_8≥0))]|false=>k 6 (nD c d l (i64.wrap (s189_8+1))))|false=>none)|none=>none)|false=>some [RV.d .bool (decide ((-1)≥0))]
theorem tH(c d:BCU)(l:List BP)(s189_8:Int):RN Tf 6 (nD c d l s189_8) (nM c d l s189_8):=rnX
theorem ah5(c d:BCU)(l:List BP)(h:wy c d l):∀(j i:Nat),i+j=(oU c l).length→Tf.Runs 6 (nD c d l (i:Int)) [.d .bool (((oU c l).drop i).any (uN d))]:=by
 obtain⟨hn,ho⟩:=abI h.1
 intro j
 induction j with
 |zero=>
  intro i hi
  refine tH _ _ _ _ ⟨0,?_⟩
  unfold nM
  rw[cz (by omega),uc (by omega)]
  rfl
 |succ j ih=>
  intro i hi
  have hil:i<(oU c l).length:=by omega
  obtain⟨n,hn⟩:=ih (i+1) (by omega)
  refine tH _ _ _ _ ⟨n,?_⟩
  unfold nM
  rw[bS hil,aA,atU hil,jw hil,List.any_cons,co (by omega)]
  dsimp only
  rw[dT (show okC 4000 d∧okC 4000 (oU c l)[i] from⟨h.2,ho _ (auB _)⟩)]
  cases uN d (oU c l)[i]
  ·exact hn
  ·dsimp only
   rw[dT (show(i:Int)≥0 by omega)]
   rfl
theorem aeu(c d:BCU)(l:List BP)(h:wy c d l):Con Tryz.prog 63 [.d tCU c,.d tCU d,.d (.sl tP) l] [.d .bool (sL c d l)]:=by
 obtain⟨n,hn⟩:=ah5 c d l h (oU c l).length 0 (auC _)
 refine aP Py (aoE _ _ _ ⟨n,?_⟩)
 unfold afe
 rw[dT h.1]
 exact hn
end
section
theorem uh{c d:BCU}(h:eH c d):(jq c d).length≤4∧∀x∈jq c d,okP 4000 x:=by
 obtain⟨⟨h1,h2⟩,h3,h4⟩:=h
 have up:∀{k x},okP k x→k≤4000→okP 4000 x:=fun h hk=>cE h hk (by decide)
 unfold jq
 cases hs:c7 (dC c) (dC d)
 ·refine⟨?_,fun x hx=>?_⟩
  ·simp only[cond_false,avh]
   have:∀l c,[BdL l]→[BdC c]→(kX l c).length≤4:=fun l c _ _=>auh t8.1 (by decide)
   obtain⟨c1,c2⟩:=oI h2
   obtain⟨d1,d2⟩:=oI h4
   have ec:(dC c).1=c.1:=rfl
   have ed:(dC d).1=d.1:=rfl
   unfold gW
   rw[ec,ed]
   cases ha:c.1<;>cases hb:d.1
   ·have i1:=(c2 ha).1
    have i2:=(d2 hb).1
    exact auh wJ.1 (by decide)
   ·have i1:=(c2 ha).1
    have i2:=(d1 hb).1
    exact this _ _
   ·have i1:=(c1 ha).1
    have i2:=(d2 hb).1
    exact this _ _
   ·have i1:=(c1 ha).1
    have i2:=(d1 hb).1
    show(u7 _ _).length≤4
    unfold u7
    cases hq:gZ (ciC (dC c)) (ciC (dC d))
    ·have i3:BdL (n6 (ciC (dC c)) (ciC (dC d))):=yY
     exact this _ _
    ·exact awg _
  ·obtain⟨p,hp,rfl⟩:=au7.1 hx
   obtain⟨b,r,_,_⟩:=RE.supM_on h2 h4 hp
   exact atS (bG (j:=1200) (by decide) (by decide))
 ·refine⟨by simp,fun x hx=>?_⟩
  have:x=c.2.2.2.2.1∨x=c.2.2.2.2.2∨x=d.2.2.2.2.1∨x=d.2.2.2.2.2:=by simpa using hx
  rcases this with e|e|e|e<;>rw[e]
  ·exact up h1.2.2.1 (by decide)
  ·exact up h1.2.2.2 (by decide)
  ·exact up h3.2.2.1 (by decide)
  ·exact up h3.2.2.2 (by decide)
theorem Km{α:Type}(z:α)(L T:List α):((jm z ((L.length:Int).toNat) ((((L++T).length:Int)).toNat-(L.length:Int).toNat) (L++T)).drop ((0:Int).toNat)).take ((L.length:Int).toNat-(0:Int).toNat)=L∧
  L.length≤(jm z ((L.length:Int).toNat) ((((L++T).length:Int)).toNat-(L.length:Int).toNat) (L++T)).length:=by
 have hcl:(jm z ((L.length:Int).toNat) ((((L++T).length:Int)).toNat-(L.length:Int).toNat) (L++T)).take L.length=L:=by
  unfold jm
  rw[show((L.length:Int)).toNat=L.length by omega,aut,avU (by simp),aw7,Nat.min_self,List.take_left' rfl]
 refine⟨?_,?_⟩
 ·rw[show((0:Int)).toNat=0 from rfl,avz,show((L.length:Int)).toNat-0=L.length by omega,hcl]
 ·have:=congrArg List.length hcl
  rw[auG]at this
  omega
def I8:aN:=spN true false [tCU,tCU,(.sl tP)] (fun x=>decide (wy x.1 x.2.1 x.2.2.1)) (fun x=>[RV.d .bool (sL x.1 x.2.1 x.2.2.1)])
theorem FI:SpK 63 I8:=spX fun x h=>aeu x.1 x.2.1 x.2.2.1 (atS h)
theorem YF(a b:BCU)(h:fj a b∧c7 (dC a) (dC b)=true):Con Tryz.prog 58 [.d tCU a,.d tCU b] [.d .bool true]:=by
 have:=Mn a b h.1
 rw[h.2]at this
 exact this
def LC:aN:=spN true true [tCU,tCU] (fun x=>decide (fj x.1 x.2.1∧c7 (dC x.1) (dC x.2.1)=true)) (fun _=>[RV.d .bool true])
theorem Oe:SpK 58 LC:=spX fun x h=>YF x.1 x.2.1 (atS h)
def Wv:Env:=[(58,LC),(48,Ds),(59,Ih),(54,CI),(63,I8),(61,xk)]
theorem Pi:EnvAll Tryz.prog Wv:=⟨Oe,ye,Gi,yT,FI,uF,trivial⟩
def abk:NT:=[((116,6),{keep:=[0,1,7,8],hl:=4}),((60,16),{keep:=[0,1,5,6],hl:=4}),((22,11),{keep:=[2,3,26,28],hl:=0}),((60,3),{keep:=[0,1,10],hl:=0}),((116,18),{keep:=[0,1,5,7,8,16],hl:=0}),((60,28),{keep:=[0,1,5,6,7,28],hl:=0})]
def ko:Ctx:=CX Wv abk
def je(c d:BCU)(s116_8:Int):Cfg:=⟨116,[.blk 0,.seq 25],[(0,.own 3),(1,.clo 62 [0,1]),(7,SI (([c.2.2.2.2.1,c.2.2.2.2.2,d.2.2.2.2.1,d.2.2.2.2.2]).length:Int)),(8,SI s116_8)],[.box 43 (Ty.split tCU c),.box 43 (Ty.split tCU d),.gone,.row 41 tP ([c.2.2.2.2.1,c.2.2.2.2.2,d.2.2.2.2.1,d.2.2.2.2.2])],4,[⟨60,[.seq 4],3,2,[(0,.own 3),(1,.clo 62 [0,1])],4,none⟩,⟨22,[.seq 12],11,3,[(2,.box 0 0),(3,.box 1 0),(26,.own 3)],0,none⟩]⟩
def dN(c d:BCU)(s60_5 s60_6:Int)(r60_3:List BP):Cfg:=⟨60,[.blk 0,.seq 35],[(0,.own 3),(1,.clo 62 [0,1]),(5,SI s60_5),(6,SI s60_6)],[.box 43 (Ty.split tCU c),.box 43 (Ty.split tCU d),.gone,.row 41 tP r60_3],4,[⟨22,[.seq 12],11,3,[(2,.box 0 0),(3,.box 1 0),(26,.own 3)],0,none⟩]⟩
def Td(c d:BCU)(k:KT):Option (List RV):=match decide (fj c d∧c7 (dC c) (dC d)=true)with|true=>(match decide (([c.2.2.2.2.1,c.2.2.2.2.2,d.2.2.2.2.1,d.2.2.2.2.2]).length≤100000)with|true=>k 6 (je c d 0)|false=>none)|false=>none
theorem aiV(c d:BCU):RS ko 22 [.d tCU c,.d tCU d] (Td c d):=rsX
def iU(c d:BCU)(s116_8:Int)(k:KT):Option (List RV):=match decide (s116_8<(([c.2.2.2.2.1,c.2.2.2.2.2,d.2.2.2.2.1,d.2.2.2.2.2]).length:Int))with|true=>(match bi ([c.2.2.2.2.1,c.2.2.2.2.2,d.2.2.2.2.1,d.2.2.2.2.2]) s116_8 with|some _=>(match true,([c.2.2.2.2.1,c.2.2.2.2.2,d.2.2.2.2.1,d.2.2.2.2.2])[(s116_8).toNat]? with|true,some x1=>(match decide (okC 4000 c∧okP 4000 x1)with|true=>(match !(gI (dC c) (dec x1))with|true=>(match s116_8==(-1)with|true=>(match decide (jQ c ([c.2.2.2.2.1,c.2.2.2.2.2,d.2.2.2.2.1,d.2.2.2.2.2]))with|true=>(match decide (fj c d∧c7 (dC c) (dC d)=true)with|true=>(match decide (wy c d (cU (dC c) ([c.2.2.2.2.1,c.2.2.2.2.2,d.2.2.2.2.1,d.2.2.2.2.2])))with|true=>some [RV.d (.sl tP) (cU (dC c) ([c.2.2.2.2.1,c.2.2.2.2.2,d.2.2.2.2.1,d.2.2.2.2.2])),RV.d .bool (sL c d (cU (dC c) ([c.2.2.2.2.1,c.2.2.2.2.2,d.2.2.2.2.1,d.2.2.2.2.2])))]|false=>none)|false=>none)|false=>none)|false=>k 16 (dN c d s116_8 (i64.wrap (s116_8+1)) ([c.2.2.2.2.1,c.2.2.2.2.2,d.2.2.2.2.1,d.2.2.2.2.2])))|false=>(match decide (okC 4000 d∧okP 4000 x1)with|true=>(match !(gI (dC d) (dec x1))with|true=>(match s116_8==(-1)with|true=>(match decide (jQ c ([c.2.2.2.2.1,c.2.2.2.2.2,d.2.2.2.2.1,d.2.2.2.2.2]))with|true=>(match decide (fj c d∧c7 (dC c) (dC d)=true)with|true=>(match decide (wy c d (cU (dC c) ([c.2.2.2.2.1,c.2.2.2.2.2,d.2.2.2.2.1,d.2.2.2.2.2])))with|true=>some [RV.d (.sl tP) (cU (dC c) ([c.2.2.2.2.1,c.2.2.2.2.2,d.2.2.2.2.1,d.2.2.2.2.2])),RV.d .bool (sL c d (cU (dC c) ([c.2.2.2.2.1,c.2.2.2.2.2,d.2.2.2.2.1,d.2.2.2.2.2])))]|false=>none)|false=>none)|false=>none)|false=>k 16 (dN c d s116_8 (i64.wrap (s116_8+1)) ([c.2.2.2.2.1,c.2.2.2.2.2,d.2.2.2.2.1,d.2.2.2.2.2])))|false=>k 6 (je c d (i64.wrap (s116_8+1))))|false=>none))|false=>none)|_,_=>none)|none=>none)|false=>(match(-1)==(-1)with|true=>(match decide (jQ c ([c.2.2.2.2.1,c.2.2.2.2.2,d.2.2.2.2.1,d.2.2.2.2.2]))with|true=>(match decide (fj c d∧c7 (dC c) (dC d)=true)with|true=>(match decide (wy c d (cU (dC c) ([c.2.2.2.2.1,c.2.2.2.2.2,d.2.2.2.2.1,d.2.2.2.2.2])))with|true=>some [RV.d (.sl tP) (cU (dC c) ([c.2.2.2.2.1,c.2.2.2.2.2,d.2.2.2.2.1,d.2.2.2.2.2])),RV.d .bool (sL c d (cU (dC c) ([c.2.2.2.2.1,c.2.2.2.2.2,d.2.2.2.2.1,d.2.2.2.2.2])))]|false=>none)|false=>none)|false=>none)|false=>k 16 (dN c d (-1) (i64.wrap ((-1)+1)) ([c.2.2.2.2.1,c.2.2.2.2.2,d.2.2.2.2.1,d.2.2.2.2.2])))
theorem lR(c d:BCU)(s116_8:Int):RN ko 6 (je c d s116_8) (iU c d s116_8):=rnX
def iX(c d:BCU)(s60_5 s60_6:Int)(r60_3:List BP)(k:KT):Option (List RV):=match decide (s60_6<(r60_3.length:Int))with|true=>(match bi r60_3 s60_6 with|some _=>(match true,r60_3[(s60_6).toNat]? with|true,some x1=>(match decide (okC 4000 c∧okP 4000 x1)with|true=>(match !(gI (dC c) (dec x1))with|true=>k 16 (dN c d s60_5 (i64.wrap (s60_6+1)) r60_3)|false=>(match decide (okC 4000 d∧okP 4000 x1)with|true=>(match !(!(gI (dC d) (dec x1)))with|true=>(match bi r60_3 s60_5 with|some _=>(match true,r60_3[(s60_5).toNat]? with|true,some _=>k 16 (dN c d (i64.wrap (s60_5+1)) (i64.wrap (s60_6+1)) (r60_3.set ((s60_5).toNat) x1))|_,_=>none)|none=>none)|false=>k 16 (dN c d s60_5 (i64.wrap (s60_6+1)) r60_3))|false=>none))|false=>none)|_,_=>none)|none=>none)|false=>(match decide ((0:Int)≤s60_5∧s60_5≤(r60_3.length:Int)∧(r60_3.length:Int)≤(r60_3.length:Int))with|true=>(match decide ((0:Int)≤0∧0≤s60_5∧s60_5≤((jm (Ty.zero tP) ((s60_5:Int).toNat) (((r60_3.length:Int):Int).toNat-(s60_5:Int).toNat) r60_3).length:Int))with|true=>(match decide (jQ c (((jm (Ty.zero tP) ((s60_5:Int).toNat) (((r60_3.length:Int):Int).toNat-(s60_5:Int).toNat) r60_3).drop ((0:Int).toNat)).take ((s60_5:Int).toNat-(0:Int).toNat)))with|true=>(match decide (fj c d∧c7 (dC c) (dC d)=true)with|true=>(match decide (wy c d (cU (dC c) (((jm (Ty.zero tP) ((s60_5:Int).toNat) (((r60_3.length:Int):Int).toNat-(s60_5:Int).toNat) r60_3).drop ((0:Int).toNat)).take ((s60_5:Int).toNat-(0:Int).toNat))))with|true=>some [RV.d (.sl tP) (cU (dC c) (((jm (Ty.zero tP) ((s60_5:Int).toNat) (((r60_3.length:Int):Int).toNat-(s60_5:Int).toNat) r60_3).drop ((0:Int).toNat)).take ((s60_5:Int).toNat-(0:Int).toNat))),RV.d .bool (sL c d (cU (dC c) (((jm (Ty.zero tP) ((s60_5:Int).toNat) (((r60_3.length:Int):Int).toNat-(s60_5:Int).toNat) r60_3).drop ((0:Int).toNat)).take ((s60_5:Int).toNat-(0:Int).toNat))))]|false=>none)|false=>none)|false=>none)|false=>none)|false=>none)
theorem lJ(c d:BCU)(s60_5 s60_6:Int)(r60_3:List BP):RN ko 16 (dN c d s60_5 s60_6 r60_3) (iX c d s60_5 s60_6 r60_3):=rnX
section
variable (c d:BCU) (h:eH c d) (hs:c7 (dC c) (dC d)=true)
include h hs
theorem GS(L:List BP)(hl:L.length≤4)(ho:∀x∈L,okP 4000 x):(match decide (jQ c L)with
  |true=>(match decide (fj c d∧c7 (dC c) (dC d)=true)with
   |true=>(match decide (wy c d (cU (dC c) L))with|true=>some [RV.d (.sl tP) (cU (dC c) L),RV.d .bool (sL c d (cU (dC c) L))]|false=>none)
   |false=>none)
  |false=>none)=some [RV.d (.sl tP) (cU (dC c) L),RV.d .bool (sL c d (cU (dC c) L))]:=by
 have hc:okC 4000 c:=cq h.1.1 (by decide) (by decide)
 have hd:okC 4000 d:=cq h.2.1 (by decide) (by decide)
 have q:jQ c L:=⟨hc,by omega,ho⟩
 have hn:(cU (dC c) L).length≤L.length:=mz
 have _q2:wy c d (cU (dC c) L):=⟨⟨hc,by omega,fun x hx=>ho x (eL hx)⟩,hd⟩
 rw[dT q,dT (show fj c d∧c7 (dC c) (dC d)=true from⟨⟨h.1.2,h.2.2⟩,hs⟩)]
 dsimp only
 rw[dT _q2]
theorem z6:∀(S:List BP) (L J:List BP),J≠[]→(∀x∈L++(J++S),okP 4000 x)→(L++(J++S)).length≤4→
  ko.Runs 16 (dN c d (L.length:Int) ((L.length+J.length:Nat):Int) (L++(J++S))) [RV.d (.sl tP) (cU (dC c) (L++S.filter (fR c d))),RV.d .bool (sL c d (cU (dC c) (L++S.filter (fR c d))))]
 |[],L,J,hJ,hok,h4=>by
  have h4':L.length+J.length≤4:=by simpa using h4
  obtain⟨c1,c2⟩:=Km (Ty.zero tP) L J
  refine lJ _ _ _ _ _ ⟨0,?_⟩
  unfold iX
  rw[auz,cz (by simp)]
  dsimp only
  rw[dT (show(0:Int)≤(L.length:Int)∧(L.length:Int)≤((L++J).length:Int)∧((L++J).length:Int)≤((L++J).length:Int) by simp only[aus];omega)]
  dsimp only
  rw[dT (show(0:Int)≤0∧0≤(L.length:Int)∧(L.length:Int)≤((jm (Ty.zero tP) ((L.length:Int).toNat) ((((L++J).length:Int)).toNat-(L.length:Int).toNat) (L++J)).length:Int) by omega)]
  dsimp only
  rw[c1,awF,auz]
  exact GS c d h hs L (by omega) fun x hx=>hok x (avk _ hx)
 |q::S,L,J,hJ,hok,h4=>by
  have h4':L.length+(J.length+(S.length+1))≤4:=by simpa using h4
  have hc:okC 4000 c:=cq h.1.1 (by decide) (by decide)
  have hd:okC 4000 d:=cq h.2.1 (by decide) (by decide)
  have hq:okP 4000 q:=hok q (by simp)
  have g1:(L++(J++q::S))[L.length+J.length]?=some q:=by
   have:=nv (L++J) q S
   rw[aus,aut]at this
   exact this
  obtain⟨y,T,rfl⟩:=List.exists_cons_of_ne_nil hJ
  have g2:(L++(y::T++q::S))[L.length]?=some y:=nv L y (T++q::S)
  have hset:(L++(y::T++q::S)).set L.length q=(L++[q])++((T++[q])++S):=by
   have:=Do y q (T++q::S) L
   rw[show y::T++q::S=y::(T++q::S) from rfl,this]
   simp
  have e2:L++(y::T++q::S)=L++((y::T++[q])++S):=by simp
  have key:∀r n,(match fR c d q with
    |true=>ko.k n 16 (dN c d ((L.length+1:Nat):Int) ((L.length+(y::T).length+1:Nat):Int) ((L++[q])++((T++[q])++S)))
    |false=>ko.k n 16 (dN c d (L.length:Int) ((L.length+(y::T).length+1:Nat):Int) (L++(y::T++q::S))))=some r→
    iX c d (L.length:Int) ((L.length+(y::T).length:Nat):Int) (L++(y::T++q::S)) (ko.k n)=some r:=fun r n hk=>by
   unfold iX
   rw[bS (by simp only[aus,aui];omega),aA,g1,show((L.length+(y::T).length:Nat):Int).toNat=L.length+(y::T).length by omega,g1]
   dsimp only
   rw[dT (show okC 4000 c∧okP 4000 q from⟨hc,hq⟩),dT (show okC 4000 d∧okP 4000 q from⟨hd,hq⟩),co (k:=L.length+(y::T).length) (by simp only[aui]at*;omega),co (k:=L.length) (by omega),aA,g2,show((L.length:Nat):Int).toNat=L.length by omega,g2,hset]
   unfold fR at hk
   cases r1:gI (dC c) (dec q)<;>cases r2:gI (dC d) (dec q)<;>rw[r1,r2]at hk<;>exact hk
  rw[avI]
  cases hk:fR c d q
  ·obtain⟨n,hn⟩:=z6 S L (y::T++[q]) (by simp) (e2▸hok) (e2▸h4)
   refine lJ _ _ _ _ _ ⟨n,key _ n ?_⟩
   rw[hk,e2]
   rw[aus,aur,←avC]at hn
   exact hn
  ·obtain⟨n,hn⟩:=z6 S (L++[q]) (T++[q]) (by simp) (fun x hx=>by
    simp only[auo,aud,avH,awM]at hx
    rcases hx with(hx|hx)|(hx|hx)|hx
    ·exact hok x (by simp[hx])
    ·rw[hx];exact hq
    ·exact hok x (by simp[hx])
    ·rw[hx];exact hq
    ·exact hok x (by simp[hx])) (by simp at h4 ⊢;omega)
   refine lJ _ _ _ _ _ ⟨n,key _ n ?_⟩
   rw[hk]
   have n1:(L++[q]).length=L.length+1:=by simp
   have n2:L.length+1+(T++[q]).length=L.length+(y::T).length+1:=by simp;omega
   rw[n1,n2,aut L [q] (S.filter (fR c d))]at hn
   exact hn
theorem Ky(X:List BP)(hX:[c.2.2.2.2.1,c.2.2.2.2.2,d.2.2.2.2.1,d.2.2.2.2.2]=X)(h4:X.length≤4)(hok:∀x∈X,okP 4000 x):∀(S A:List BP),A++S=X→A.filter (fR c d)=A→
  ko.Runs 6 (je c d (A.length:Int)) [RV.d (.sl tP) (cU (dC c) (A++S.filter (fR c d))),RV.d .bool (sL c d (cU (dC c) (A++S.filter (fR c d))))]
 |[],A,hA,hf=>by
  rw[auz]at hA
  refine lR _ _ _ ⟨0,?_⟩
  unfold iU
  rw[hX,←hA,cz (by omega),awF,auz]
  exact GS c d h hs A (hA▸h4) (hA▸hok)
 |q::S,A,hA,hf=>by
  have hc:okC 4000 c:=cq h.1.1 (by decide) (by decide)
  have hd:okC 4000 d:=cq h.2.1 (by decide) (by decide)
  have hq:okP 4000 q:=hok q (by rw[←hA];simp)
  have g1:X[A.length]?=some q:=by rw[←hA];exact nv A q S
  have hlen:A.length<X.length:=by rw[←hA];simp
  have key:∀r n,(match fR c d q with
    |true=>ko.k n 6 (je c d ((A.length+1:Nat):Int))
    |false=>ko.k n 16 (dN c d (A.length:Int) ((A.length+1:Nat):Int) X))=some r→
    iU c d (A.length:Int) (ko.k n)=some r:=fun r n hk=>by
   unfold iU
   rw[hX,bS hlen,aA,g1,show((A.length:Nat):Int).toNat=A.length by omega,g1]
   dsimp only
   rw[dT (show okC 4000 c∧okP 4000 q from⟨hc,hq⟩),dT (show okC 4000 d∧okP 4000 q from⟨hd,hq⟩),co (k:=A.length) (by omega),show((A.length:Int)== -1)=false by rw[av0];omega]
   unfold fR at hk
   cases r1:gI (dC c) (dec q)<;>cases r2:gI (dC d) (dec q)<;>rw[r1,r2]at hk<;>exact hk
  rw[avI]
  cases hk:fR c d q
  ·obtain⟨n,hn⟩:=z6 c d h hs S A [q] (by simp) (by rw[avw,hA];exact hok) (by rw[avw,hA];exact h4)
   refine lR _ _ _ ⟨n,key _ n ?_⟩
   rw[hk]
   rw[avw,hA]at hn
   exact hn
  ·obtain⟨n,hn⟩:=Ky X hX h4 hok S (A++[q]) (by rw[aut];exact hA) (by rw[List.filter_append,hf,avI,hk];rfl)
   refine lR _ _ _ ⟨n,key _ n ?_⟩
   rw[hk]
   have n1:(A++[q]).length=A.length+1:=by simp
   rw[n1,aut A [q] (S.filter (fR c d))]at hn
   exact hn
end
theorem Rr(c d:BCU)(h:eH c d)(hs:c7 (dC c) (dC d)=true):Con Tryz.prog 22 [.d tCU c,.d tCU d] [.d (.sl tP) (db c d),.d .bool (kW c d)]:=by
 obtain⟨h4,ho⟩:=uh h
 have e:jq c d=[c.2.2.2.2.1,c.2.2.2.2.2,d.2.2.2.2.1,d.2.2.2.2.2]:=by unfold jq;rw[hs];rfl
 rw[e]at h4 ho
 obtain⟨n,hn⟩:=Ky c d h hs _ rfl h4 ho _ [] rfl rfl
 have e2:db c d=cU (dC c) (List.filter (fR c d) [c.2.2.2.2.1,c.2.2.2.2.2,d.2.2.2.2.1,d.2.2.2.2.2]):=by unfold db;rw[e]
 have e3:kW c d=sL c d (cU (dC c) (List.filter (fR c d) [c.2.2.2.2.1,c.2.2.2.2.2,d.2.2.2.2.1,d.2.2.2.2.2])):=by unfold kW;rw[hs,e2];rfl
 rw[e2,e3]
 refine aP Pi (aiV _ _ ⟨n,?_⟩)
 unfold Td
 rw[dT (show fj c d∧c7 (dC c) (dC d)=true from⟨⟨h.1.2,h.2.2⟩,hs⟩)]
 dsimp only
 rw[dT (auh h4 (by decide))]
 exact hn
theorem Wt(a b:BCU)(h:fj a b∧c7 (dC a) (dC b)=false):Con Tryz.prog 58 [.d tCU a,.d tCU b] [.d .bool false]:=by
 have:=Mn a b h.1
 rw[h.2]at this
 exact this
def Mv:aN:=spN true true [tCU,tCU] (fun x=>decide (fj x.1 x.2.1∧c7 (dC x.1) (dC x.2.1)=false)) (fun _=>[RV.d .bool false])
theorem Nr:SpK 58 Mv:=spX fun x h=>Wt x.1 x.2.1 (atS h)
def V3:Env:=[(58,Mv),(48,Ds),(59,Ih),(54,CI),(63,I8),(61,xk)]
theorem OS:EnvAll Tryz.prog V3:=⟨Nr,ye,Gi,yT,FI,uF,trivial⟩
def ad4:NT:=[((116,6),{keep:=[0,1,7,8],hl:=3}),((60,16),{keep:=[0,1,5,6],hl:=3}),((22,11),{keep:=[2,3,26,28],hl:=0}),((60,3),{keep:=[0,1,10],hl:=0}),((116,18),{keep:=[0,1,5,7,8,16],hl:=0}),((60,28),{keep:=[0,1,5,6,7,28],hl:=0})]
def kK:Ctx:=CX V3 ad4
def jn(c d:BCU)(s116_8:Int):Cfg:=⟨116,[.blk 0,.seq 25],[(0,.own 2),(1,.clo 62 [0,1]),(7,SI (((gW (dC c) (dC d)).map enc).length:Int)),(8,SI s116_8)],[.box 43 (Ty.split tCU c),.box 43 (Ty.split tCU d),.row 41 tP ((gW (dC c) (dC d)).map enc)],3,[⟨60,[.seq 4],3,2,[(0,.own 2),(1,.clo 62 [0,1])],3,none⟩,⟨22,[.seq 12],11,3,[(2,.box 0 0),(3,.box 1 0),(26,.own 2)],0,none⟩]⟩
def dO(c d:BCU)(s60_5 s60_6:Int)(r60_2:List BP):Cfg:=⟨60,[.blk 0,.seq 35],[(0,.own 2),(1,.clo 62 [0,1]),(5,SI s60_5),(6,SI s60_6)],[.box 43 (Ty.split tCU c),.box 43 (Ty.split tCU d),.row 41 tP r60_2],3,[⟨22,[.seq 12],11,3,[(2,.box 0 0),(3,.box 1 0),(26,.own 2)],0,none⟩]⟩
def VM(c d:BCU)(k:KT):Option (List RV):=match decide (fj c d∧c7 (dC c) (dC d)=false)with|true=>(match decide (fj c d)with|true=>(match decide (((gW (dC c) (dC d)).map enc).length≤100000)with|true=>k 6 (jn c d 0)|false=>none)|false=>none)|false=>none
theorem ai3(c d:BCU):RS kK 22 [.d tCU c,.d tCU d] (VM c d):=rsX
def iO(c d:BCU)(s116_8:Int)(k:KT):Option (List RV):=match decide (s116_8<(((gW (dC c) (dC d)).map enc).length:Int))with|true=>(match bi ((gW (dC c) (dC d)).map enc) s116_8 with|some _=>(match true,((gW (dC c) (dC d)).map enc)[(s116_8).toNat]? with|true,some x1=>(match decide (okC 4000 c∧okP 4000 x1)with|true=>(match !(gI (dC c) (dec x1))with|true=>(match s116_8==(-1)with|true=>(match decide (jQ c ((gW (dC c) (dC d)).map enc))with|true=>(match decide (fj c d∧c7 (dC c) (dC d)=false)with|true=>some [RV.d (.sl tP) (cU (dC c) ((gW (dC c) (dC d)).map enc)),RV.d .bool false]|false=>none)|false=>none)|false=>k 16 (dO c d s116_8 (i64.wrap (s116_8+1)) ((gW (dC c) (dC d)).map enc)))|false=>(match decide (okC 4000 d∧okP 4000 x1)with|true=>(match !(gI (dC d) (dec x1))with|true=>(match s116_8==(-1)with|true=>(match decide (jQ c ((gW (dC c) (dC d)).map enc))with|true=>(match decide (fj c d∧c7 (dC c) (dC d)=false)with|true=>some [RV.d (.sl tP) (cU (dC c) ((gW (dC c) (dC d)).map enc)),RV.d .bool false]|false=>none)|false=>none)|false=>k 16 (dO c d s116_8 (i64.wrap (s116_8+1)) ((gW (dC c) (dC d)).map enc)))|false=>k 6 (jn c d (i64.wrap (s116_8+1))))|false=>none))|false=>none)|_,_=>none)|none=>none)|false=>(match(-1)==(-1)with|true=>(match decide (jQ c ((gW (dC c) (dC d)).map enc))with|true=>(match decide (fj c d∧c7 (dC c) (dC d)=false)with|true=>some [RV.d (.sl tP) (cU (dC c) ((gW (dC c) (dC d)).map enc)),RV.d .bool false]|false=>none)|false=>none)|false=>k 16 (dO c d (-1) (i64.wrap ((-1)+1)) ((gW (dC c) (dC d)).map enc)))
theorem lM(c d:BCU)(s116_8:Int):RN kK 6 (jn c d s116_8) (iO c d s116_8):=rnX
def iS(c d:BCU)(s60_5 s60_6:Int)(r60_2:List BP)(k:KT):Option (List RV):=match decide (s60_6<(r60_2.length:Int))with|true=>(match bi r60_2 s60_6 with|some _=>(match true,r60_2[(s60_6).toNat]? with|true,some x1=>(match decide (okC 4000 c∧okP 4000 x1)with|true=>(match !(gI (dC c) (dec x1))with|true=>k 16 (dO c d s60_5 (i64.wrap (s60_6+1)) r60_2)|false=>(match decide (okC 4000 d∧okP 4000 x1)with|true=>(match !(!(gI (dC d) (dec x1)))with|true=>(match bi r60_2 s60_5 with|some _=>(match true,r60_2[(s60_5).toNat]? with|true,some _=>k 16 (dO c d (i64.wrap (s60_5+1)) (i64.wrap (s60_6+1)) (r60_2.set ((s60_5).toNat) x1))|_,_=>none)|none=>none)|false=>k 16 (dO c d s60_5 (i64.wrap (s60_6+1)) r60_2))|false=>none))|false=>none)|_,_=>none)|none=>none)|false=>(match decide ((0:Int)≤s60_5∧s60_5≤(r60_2.length:Int)∧(r60_2.length:Int)≤(r60_2.length:Int))with|true=>(match decide ((0:Int)≤0∧0≤s60_5∧s60_5≤((jm (Ty.zero tP) ((s60_5:Int).toNat) (((r60_2.length:Int):Int).toNat-(s60_5:Int).toNat) r60_2).length:Int))with|true=>(match decide (jQ c (((jm (Ty.zero tP) ((s60_5:Int).toNat) (((r60_2.length:Int):Int).toNat-(s60_5:Int).toNat) r60_2).drop ((0:Int).toNat)).take ((s60_5:Int).toNat-(0:Int).toNat)))with|true=>(match decide (fj c d∧c7 (dC c) (dC d)=false)with|true=>some [RV.d (.sl tP) (cU (dC c) (((jm (Ty.zero tP) ((s60_5:Int).toNat) (((r60_2.length:Int):Int).toNat-(s60_5:Int).toNat) r60_2).drop ((0:Int).toNat)).take ((s60_5:Int).toNat-(0:Int).toNat))),RV.d .bool false]|false=>none)|false=>none)|false=>none)|false=>none)
theorem lI(c d:BCU)(s60_5 s60_6:Int)(r60_2:List BP):RN kK 16 (dO c d s60_5 s60_6 r60_2) (iS c d s60_5 s60_6 r60_2):=rnX
section
variable (c d:BCU) (h:eH c d) (hs:c7 (dC c) (dC d)=false)
include h hs
theorem HE(L:List BP)(hl:L.length≤4)(ho:∀x∈L,okP 4000 x):(match decide (jQ c L)with
  |true=>(match decide (fj c d∧c7 (dC c) (dC d)=false)with
   |true=>some [RV.d (.sl tP) (cU (dC c) L),RV.d .bool false]
   |false=>none)
  |false=>none)=some [RV.d (.sl tP) (cU (dC c) L),RV.d .bool (false)]:=by
 have hc:okC 4000 c:=cq h.1.1 (by decide) (by decide)
 have hd:okC 4000 d:=cq h.2.1 (by decide) (by decide)
 have q:jQ c L:=⟨hc,by omega,ho⟩
 have hn:(cU (dC c) L).length≤L.length:=mz
 have _q2:wy c d (cU (dC c) L):=⟨⟨hc,by omega,fun x hx=>ho x (eL hx)⟩,hd⟩
 rw[dT q,dT (show fj c d∧c7 (dC c) (dC d)=false from⟨⟨h.1.2,h.2.2⟩,hs⟩)]
theorem yq:∀(S:List BP) (L J:List BP),J≠[]→(∀x∈L++(J++S),okP 4000 x)→(L++(J++S)).length≤4→
  kK.Runs 16 (dO c d (L.length:Int) ((L.length+J.length:Nat):Int) (L++(J++S))) [RV.d (.sl tP) (cU (dC c) (L++S.filter (fR c d))),RV.d .bool (false)]
 |[],L,J,hJ,hok,h4=>by
  have h4':L.length+J.length≤4:=by simpa using h4
  obtain⟨c1,c2⟩:=Km (Ty.zero tP) L J
  refine lI _ _ _ _ _ ⟨0,?_⟩
  unfold iS
  rw[auz,cz (by simp)]
  dsimp only
  rw[dT (show(0:Int)≤(L.length:Int)∧(L.length:Int)≤((L++J).length:Int)∧((L++J).length:Int)≤((L++J).length:Int) by simp only[aus];omega)]
  dsimp only
  rw[dT (show(0:Int)≤0∧0≤(L.length:Int)∧(L.length:Int)≤((jm (Ty.zero tP) ((L.length:Int).toNat) ((((L++J).length:Int)).toNat-(L.length:Int).toNat) (L++J)).length:Int) by omega)]
  dsimp only
  rw[c1,awF,auz]
  exact HE c d h hs L (by omega) fun x hx=>hok x (avk _ hx)
 |q::S,L,J,hJ,hok,h4=>by
  have h4':L.length+(J.length+(S.length+1))≤4:=by simpa using h4
  have hc:okC 4000 c:=cq h.1.1 (by decide) (by decide)
  have hd:okC 4000 d:=cq h.2.1 (by decide) (by decide)
  have hq:okP 4000 q:=hok q (by simp)
  have g1:(L++(J++q::S))[L.length+J.length]?=some q:=by
   have:=nv (L++J) q S
   rw[aus,aut]at this
   exact this
  obtain⟨y,T,rfl⟩:=List.exists_cons_of_ne_nil hJ
  have g2:(L++(y::T++q::S))[L.length]?=some y:=nv L y (T++q::S)
  have hset:(L++(y::T++q::S)).set L.length q=(L++[q])++((T++[q])++S):=by
   have:=Do y q (T++q::S) L
   rw[show y::T++q::S=y::(T++q::S) from rfl,this]
   simp
  have e2:L++(y::T++q::S)=L++((y::T++[q])++S):=by simp
  have key:∀r n,(match fR c d q with
    |true=>kK.k n 16 (dO c d ((L.length+1:Nat):Int) ((L.length+(y::T).length+1:Nat):Int) ((L++[q])++((T++[q])++S)))
    |false=>kK.k n 16 (dO c d (L.length:Int) ((L.length+(y::T).length+1:Nat):Int) (L++(y::T++q::S))))=some r→
    iS c d (L.length:Int) ((L.length+(y::T).length:Nat):Int) (L++(y::T++q::S)) (kK.k n)=some r:=fun r n hk=>by
   unfold iS
   rw[bS (by simp only[aus,aui];omega),aA,g1,show((L.length+(y::T).length:Nat):Int).toNat=L.length+(y::T).length by omega,g1]
   dsimp only
   rw[dT (show okC 4000 c∧okP 4000 q from⟨hc,hq⟩),dT (show okC 4000 d∧okP 4000 q from⟨hd,hq⟩),co (k:=L.length+(y::T).length) (by simp only[aui]at*;omega),co (k:=L.length) (by omega),aA,g2,show((L.length:Nat):Int).toNat=L.length by omega,g2,hset]
   unfold fR at hk
   cases r1:gI (dC c) (dec q)<;>cases r2:gI (dC d) (dec q)<;>rw[r1,r2]at hk<;>exact hk
  rw[avI]
  cases hk:fR c d q
  ·obtain⟨n,hn⟩:=yq S L (y::T++[q]) (by simp) (e2▸hok) (e2▸h4)
   refine lI _ _ _ _ _ ⟨n,key _ n ?_⟩
   rw[hk,e2]
   rw[aus,aur,←avC]at hn
   exact hn
  ·obtain⟨n,hn⟩:=yq S (L++[q]) (T++[q]) (by simp) (fun x hx=>by
    simp only[auo,aud,avH,awM]at hx
    rcases hx with(hx|hx)|(hx|hx)|hx
    ·exact hok x (by simp[hx])
    ·rw[hx];exact hq
    ·exact hok x (by simp[hx])
    ·rw[hx];exact hq
    ·exact hok x (by simp[hx])) (by simp at h4 ⊢;omega)
   refine lI _ _ _ _ _ ⟨n,key _ n ?_⟩
   rw[hk]
   have n1:(L++[q]).length=L.length+1:=by simp
   have n2:L.length+1+(T++[q]).length=L.length+(y::T).length+1:=by simp;omega
   rw[n1,n2,aut L [q] (S.filter (fR c d))]at hn
   exact hn
theorem K3(X:List BP)(hX:((gW (dC c) (dC d)).map enc)=X)(h4:X.length≤4)(hok:∀x∈X,okP 4000 x):∀(S A:List BP),A++S=X→A.filter (fR c d)=A→
  kK.Runs 6 (jn c d (A.length:Int)) [RV.d (.sl tP) (cU (dC c) (A++S.filter (fR c d))),RV.d .bool (false)]
 |[],A,hA,hf=>by
  rw[auz]at hA
  refine lM _ _ _ ⟨0,?_⟩
  unfold iO
  rw[hX,←hA,cz (by omega),awF,auz]
  exact HE c d h hs A (hA▸h4) (hA▸hok)
 |q::S,A,hA,hf=>by
  have hc:okC 4000 c:=cq h.1.1 (by decide) (by decide)
  have hd:okC 4000 d:=cq h.2.1 (by decide) (by decide)
  have hq:okP 4000 q:=hok q (by rw[←hA];simp)
  have g1:X[A.length]?=some q:=by rw[←hA];exact nv A q S
  have hlen:A.length<X.length:=by rw[←hA];simp
  have key:∀r n,(match fR c d q with
    |true=>kK.k n 6 (jn c d ((A.length+1:Nat):Int))
    |false=>kK.k n 16 (dO c d (A.length:Int) ((A.length+1:Nat):Int) X))=some r→
    iO c d (A.length:Int) (kK.k n)=some r:=fun r n hk=>by
   unfold iO
   rw[hX,bS hlen,aA,g1,show((A.length:Nat):Int).toNat=A.length by omega,g1]
   dsimp only
   rw[dT (show okC 4000 c∧okP 4000 q from⟨hc,hq⟩),dT (show okC 4000 d∧okP 4000 q from⟨hd,hq⟩),co (k:=A.length) (by omega),show((A.length:Int)== -1)=false by rw[av0];omega]
   unfold fR at hk
   cases r1:gI (dC c) (dec q)<;>cases r2:gI (dC d) (dec q)<;>rw[r1,r2]at hk<;>exact hk
  rw[avI]
  cases hk:fR c d q
  ·obtain⟨n,hn⟩:=yq c d h hs S A [q] (by simp) (by rw[avw,hA];exact hok) (by rw[avw,hA];exact h4)
   refine lM _ _ _ ⟨n,key _ n ?_⟩
   rw[hk]
   rw[avw,hA]at hn
   exact hn
  ·obtain⟨n,hn⟩:=K3 X hX h4 hok S (A++[q]) (by rw[aut];exact hA) (by rw[List.filter_append,hf,avI,hk];rfl)
   refine lM _ _ _ ⟨n,key _ n ?_⟩
   rw[hk]
   have n1:(A++[q]).length=A.length+1:=by simp
   rw[n1,aut A [q] (S.filter (fR c d))]at hn
   exact hn
end
theorem YR(c d:BCU)(h:eH c d)(hs:c7 (dC c) (dC d)=false):Con Tryz.prog 22 [.d tCU c,.d tCU d] [.d (.sl tP) (db c d),.d .bool (kW c d)]:=by
 obtain⟨h4,ho⟩:=uh h
 have e:jq c d=((gW (dC c) (dC d)).map enc):=by unfold jq;rw[hs];rfl
 rw[e]at h4 ho
 obtain⟨n,hn⟩:=K3 c d h hs _ rfl h4 ho _ [] rfl rfl
 have e2:db c d=cU (dC c) (List.filter (fR c d) ((gW (dC c) (dC d)).map enc)):=by unfold db;rw[e]
 have e3:kW c d=false:=by unfold kW;rw[hs,e2];rfl
 rw[e2,e3]
 refine aP OS (ai3 _ _ ⟨n,?_⟩)
 unfold VM
 rw[dT (show fj c d∧c7 (dC c) (dC d)=false from⟨⟨h.1.2,h.2.2⟩,hs⟩)]
 dsimp only
 rw[dT (show fj c d from⟨h.1.2,h.2.2⟩)]
 dsimp only
 rw[dT (auh h4 (by decide))]
 exact hn
theorem aat(c d:BCU)(h:eH c d):Con Tryz.prog 22 [.d tCU c,.d tCU d] [.d (.sl tP) (db c d),.d .bool (kW c d)]:=by
 cases hs:c7 (dC c) (dC d)
 ·exact YR c d h hs
 ·exact Rr c d h hs
end
section
open RE
theorem EH{α:Type}{R:α→α→Prop}:∀{l:List α},l.Pairwise R→∀{a b},a∈l→b∈l→a=b∨R a b∨R b a
 |[],_,_,_,ha,_=>by cases ha
 |x::r,h,a,b,ha,hb=>by
  obtain⟨h1,h2⟩:=aup.1 h
  rcases aud.1 ha with e|e<;>rcases aud.1 hb with g|g
  ·exact .inl (by rw[e,g])
  ·rw[e];exact .inr (.inl (h1 b g))
  ·rw[g];exact .inr (.inr (h1 a e))
  ·exact EH h2 e g
theorem ML{c:Cv}(o:aaS c):∀{L:List BP},(∀x∈L,Spb c x)→oK c L=false→L.Pairwise fun a b=>¬cd c (dec a) (dec b)<0
 |[],_,_=>by simp
 |[_],_,_=>by simp
 |x::y::r,hs,h=>by
  have h:(decide (cd c (dec x) (dec y)<0)||oK c (y::r))=false:=h
  obtain⟨h1,h2⟩:=awb.1 h
  have h1:=au4 h1
  have hy:=hs y (by simp)
  have hx:=hs x (by simp)
  have ih:=ML o (fun z hz=>hs z (aub _ hz)) h2
  refine aup.2 ⟨fun z hz=>?_,ih⟩
  rcases aud.1 hz with e|e
  ·rw[e];exact h1
  ·exact o.lt (hs z (by simp[e])) hy hx ((aup.1 ih).1 z e) h1
theorem Ll{c e:Cv}:∀{L:List BP},oL e L→oK c L=true→∃a b,a∈L∧b∈L∧cd e (dec a) (dec b)<0∧cd c (dec a) (dec b)<0
 |[],_,h=>by cases h
 |[_],_,h=>by cases h
 |x::y::r,hp,h=>by
  have h:(decide (cd c (dec x) (dec y)<0)||oK c (y::r))=true:=h
  obtain⟨h1,h2⟩:=aup.1 hp
  rcases Bool.or_eq_true_iff.1 h with g|g
  ·exact⟨x,y,by simp,by simp,h1 y (by simp),atS g⟩
  ·obtain⟨a,b,q1,q2,q3,q4⟩:=Ll h2 g
   exact⟨a,b,aub _ q1,aub _ q2,q3,q4⟩
theorem Gf{c e:Cv}(o:aaS c)(oe:aaS e){L:List BP}(hs:∀x∈L,Spb c x)(hse:∀x∈L,Spb e x)(hp:oL e L):
  oK c L=true↔∃a b,a∈L∧b∈L∧cd e (dec a) (dec b)<0∧cd c (dec a) (dec b)<0:=by
 refine⟨Ll hp,fun⟨a,b,ha,hb,h1,h2⟩=>?_⟩
 cases h:oK c L with
 |true=>rfl
 |false=>
  have pw:=ML o hs h
  rcases EH (List.Pairwise.and hp pw) ha hb with g|g|g
  ·rw[g]at h1
   have:=oe.asy (hse b hb) (hse b hb) h1
   omega
  ·exact absurd h2 g.2
  ·have:=oe.asy (hse a ha) (hse b hb) h1
   omega
theorem aiX{A B:List BP}(h:eqL A B):(∀a∈A,∃b∈B,aW (dec a) (dec b)=0)∧∀b∈B,∃a∈A,aW (dec a) (dec b)=0:=by
 obtain⟨h1,h2⟩:=h
 constructor
 ·intro a ha
  obtain⟨i,hi⟩:=List.getElem?_of_mem ha
  have hlt:=(at9.1 hi).1
  have hb:B[i]?=some B[i]:=atU (by omega)
  exact⟨_,auE hb,h2 i a _ hi hb⟩
 ·intro b hb
  obtain⟨i,hi⟩:=List.getElem?_of_mem hb
  have hlt:=(at9.1 hi).1
  have ha:A[i]?=some A[i]:=atU (by omega)
  exact⟨_,auE ha,h2 i _ b ha hi⟩
theorem yO{c p:BCU}{t:BP}:∀{N:List BP},p∈jP c N→p∈jP c (N++[t])
 |[],h=>by cases h
 |[_],h=>by cases h
 |x::y::r,h=>by
  have h:p∈pS c x y::jP c (y::r):=h
  show p∈pS c x y::jP c (y::r++[t])
  rcases aud.1 h with e|e
  ·rw[e];simp
  ·exact aub _ (yO e)
theorem yn{c p:BCU}{f:BP}:∀{N:List BP},p∈jP c N→p∈jP c (f::N)
 |[],h=>by cases h
 |[_],h=>by cases h
 |x::y::r,h=>by
  show p∈pS c f x::jP c (x::y::r)
  exact aub _ h
def adb(c d:BCU)(S:List BP):Prop:=∃a b,a∈S∧b∈S∧cd (dC c) (dec a) (dec b)<0∧cd (dC (jC c d)) (dec a) (dec b)<0
theorem um{c d:BCU}(hd:gdN d):gdN (jC c d):=by
 unfold jC
 cases Fd c d
 ·exact hd
 ·exact hd.rev
theorem dS{c d:BCU}{x:BP}(h:Spb (dC d) x):Spb (dC (jC c d)) x:=by
 unfold jC
 cases Fd c d
 ·exact h
 ·exact⟨h.1,h.2⟩
theorem Q6{c d:BCU}(hc:gdN c)(hd:gdN d):yx c d=true↔c7 (dC c) (dC d)=true∧adb c d (dm c d):=by
 have kc:=hc.crp
 have kd:=hd.crp
 have hmp:eH c d:=⟨hc.1,hd.1⟩
 have sp:∀x∈dm c d,Spb (dC c) x∧Spb (dC d) x:=fun x hx=>by
  obtain⟨hm,o1,o2⟩:=tj hx
  have r:=rZ hmp hm
  exact⟨⟨r,((il kc r).1 o1).1⟩,r,((il kd r).1 o2).1⟩
 have pw:oL (dC c) (dm c d):=Nd (oR kc) fun x hx=>by
  obtain⟨hm,hk⟩:=ava.1 hx
  have r:=rZ hmp hm
  exact⟨r,((il kc r).1 (auc.1 hk).1).1⟩
 unfold yx
 rw[auc,Gf (lA (um hd).crp) (lA kc) (fun x hx=>dS (sp x hx).2) (fun x hx=>(sp x hx).1) pw]
 rfl
theorem FJ{c d:BCU}(hc:gdN c)(hd:gdN d):kW c d=true↔c7 (dC c) (dC d)=true∧adb c d (db c d):=by
 have kc:=hc.crp
 have kd:=hd.crp
 unfold kW
 rw[auc]
 refine and_congr_right fun hs=>?_
 have hs':=wI hs
 have ho:∀x∈db c d,Rpd (dec x:Pt)∧onR (dC c) (dec x)=true:=fun x hx=>by
  obtain⟨_,_,s1,_,o1,_⟩:=gn hc hd hx
  exact⟨s1.1,o1⟩
 have oD:=lA (um (c:=c) hd).crp
 have oc:=lA kc
 have spM:=Mi hc ho
 have spD:∀x∈iz c (db c d),Spb (dC d) x:=fun x hx=>by
  have:=(spM x hx).1.1
  exact⟨this,nz kc hs (spM x hx).1.2⟩
 have rep:∀x,Spb (dC c) x→Spb (dC d) x→onR (dC d) (dec x)=true→x∈iz c (db c d)→∃y∈db c d,aW (dec y) (dec x)=0:=fun x s1 s2 o2 hx=>by
  have r:=s1.1
  obtain⟨_,p2⟩:=DZ kc hc.ne (Yc hc hd)
  have cas:x∈jq c d∨x∈db c d:=by
   unfold jq
   rw[hs]
   rcases Gz hx with e|e|⟨e,_⟩
   ·left;rw[e];simp
   ·left;rw[e];simp
   ·right;exact eL e
  rcases cas with g|g
  ·exact p2 x (ava.2 ⟨g,M3 hc hd r (spM x hx).2 o2⟩)
  ·exact⟨x,g,apt r⟩
 have e0:sL c d (db c d)=(jP c (iz c (db c d))).any (uN d):=by
  unfold sL oU
  rw[amh hc ho,cond_false,Qn]
 rw[e0]
 constructor
 ·intro h
  obtain⟨p,hp,hcv⟩:=List.any_eq_true.1 h
  obtain⟨x,y,hx,hy,hxy,rfl⟩:=JD (MW hc ho) hp
  rw[Kv hc hd hs (spD x hx) (spD y hy) hxy]at hcv
  obtain⟨h12,h3⟩:=auc.1 hcv
  obtain⟨h1,h2⟩:=auc.1 h12
  have h3:=atS h3
  obtain⟨a,ha,ea⟩:=rep x (spM x hx).1 (spD x hx) h1 hx
  obtain⟨b,hb,eb⟩:=rep y (spM y hy).1 (spD y hy) h2 hy
  obtain⟨_,_,sa,sa',_,_⟩:=gn hc hd ha
  obtain⟨_,_,sb,sb',_,_⟩:=gn hc hd hb
  refine⟨a,b,ha,hb,?_,?_⟩
  ·rw[(eP kc sa (spM x hx).1 sb ea).1,(eP kc sb (spM y hy).1 (spM x hx).1 eb).2]
   exact hxy
  ·have kD:=(um (c:=c) hd).crp
   rw[(eP kD (dS sa') (dS (spD x hx)) (dS sb') ea).1,(eP kD (dS sb') (dS (spD y hy)) (dS (spD x hx)) eb).2]
   exact h3
 ·rintro ⟨a,b,ha,hb,h1,h2⟩
  cases hany:(jP c (iz c (db c d))).any (uN d)with
  |true=>rfl
  |false=>
   have nocov:=List.any_eq_false.1 hany
   have pw:=MW hc ho
   have part:∀N:List BP,(∀x∈N,x∈iz c (db c d)∧onR (dC d) (dec x)=true)→oL (dC c) N→(∀p∈jP c N,¬uN d p=true)→oK (dC (jC c d)) N=false:=by
    intro N
    induction N with
    |nil=>intro _ _ _;rfl
    |cons x r ih=>
     intro hN hpw hnc
     cases r with
     |nil=>rfl
     |cons y r=>
      obtain⟨q1,q2⟩:=aup.1 hpw
      have hx:=hN x (by simp)
      have hy:=hN y (by simp)
      have h0:=hnc (pS c x y) (by show _∈pS c x y::jP c (y::r);simp)
      rw[Kv hc hd hs (spD x hx.1) (spD y hy.1) (q1 y (by simp)),hx.2,hy.2,atX,atX]at h0
      show(decide _||oK (dC (jC c d)) (y::r))=false
      rw[Bool.eq_false_iff.2 h0,Bool.false_or]
      exact ih (fun z hz=>hN z (aub _ hz)) q2 fun p hp=>hnc p (yn hp)
   have onmid:∀x∈wu c (cU (dC c) (db c d)),onR (dC d) (dec x)=true:=fun x hx=>(gn hc hd (eL (ava.1 hx).1)).2.2.2.2.2
   have hpwD:∀x y,x∈iz c (db c d)→y∈iz c (db c d)→onR (dC d) (dec x)=true→onR (dC d) (dec y)=true→cd (dC c) (dec x) (dec y)<0→¬cd (dC (jC c d)) (dec x) (dec y)<0:=by
    have fin:∀N:List BP,(∀x∈N,x∈iz c (db c d)∧onR (dC d) (dec x)=true)→oL (dC c) N→(∀p∈jP c N,¬uN d p=true)→∀x y,x∈N→y∈N→cd (dC c) (dec x) (dec y)<0→¬cd (dC (jC c d)) (dec x) (dec y)<0:=fun N hN hpw hnc x y hx hy hxy h=>by
     have:=part N hN hpw hnc
     rw[(Gf oD oc (fun z hz=>dS (spD z (hN z hz).1)) (fun z hz=>(spM z (hN z hz).1).1) hpw).2 ⟨x,y,hx,hy,hxy,h⟩]at this
     cases this
    intro x y hx hy ox oy
    have ex:iz c (db c d)=c.2.2.2.2.1::(wu c (cU (dC c) (db c d))++[c.2.2.2.2.2]):=rfl
    have sub1:(wu c (cU (dC c) (db c d))++[c.2.2.2.2.2]).Sublist (iz c (db c d)):=List.sublist_cons_self _ _
    have sub2:(c.2.2.2.2.1::wu c (cU (dC c) (db c d))).Sublist (iz c (db c d)):=(List.sublist_append_left _ _).cons_cons _
    have sub3:(wu c (cU (dC c) (db c d))).Sublist (iz c (db c d)):=(List.sublist_append_left _ _).trans sub1
    cases of_:onR (dC d) (dec c.2.2.2.2.1)<;>cases ot:onR (dC d) (dec c.2.2.2.2.2)
    ·have inm:∀z,z∈iz c (db c d)→onR (dC d) (dec z)=true→z∈wu c (cU (dC c) (db c d)):=fun z hz oz=>by
      rw[ex]at hz
      rcases aud.1 hz with e|e
      ·rw[e,of_]at oz;cases oz
      ·rcases auo.1 e with e|e
       ·exact e
       ·rw[au6.1 e,ot]at oz;cases oz
     exact fin _ (fun z hz=>⟨sub3.subset hz,onmid z hz⟩) (pw.sublist sub3) (fun p hp=>nocov p (by rw[ex];exact yn (yO hp))) x y (inm x hx ox) (inm y hy oy)
    ·have inm:∀z,z∈iz c (db c d)→onR (dC d) (dec z)=true→z∈wu c (cU (dC c) (db c d))++[c.2.2.2.2.2]:=fun z hz oz=>by
      rw[ex]at hz
      rcases aud.1 hz with e|e
      ·rw[e,of_]at oz;cases oz
      ·exact e
     exact fin _ (fun z hz=>⟨sub1.subset hz,by
      rcases auo.1 hz with e|e
      ·exact onmid z e
      ·rw[au6.1 e];exact ot⟩) (pw.sublist sub1) (fun p hp=>nocov p (by rw[ex];exact yn hp)) x y (inm x hx ox) (inm y hy oy)
    ·have inm:∀z,z∈iz c (db c d)→onR (dC d) (dec z)=true→z∈c.2.2.2.2.1::wu c (cU (dC c) (db c d)):=fun z hz oz=>by
      rw[ex]at hz
      rcases aud.1 hz with e|e
      ·rw[e];simp
      ·rcases auo.1 e with e|e
       ·exact aub _ e
       ·rw[au6.1 e,ot]at oz;cases oz
     exact fin _ (fun z hz=>⟨sub2.subset hz,by
      rcases aud.1 hz with e|e
      ·rw[e];exact of_
      ·exact onmid z e⟩) (pw.sublist sub2) (fun p hp=>nocov p (by rw[ex,←List.cons_append];exact yO hp)) x y (inm x hx ox) (inm y hy oy)
    ·exact fin _ (fun z hz=>⟨hz,by
      rw[ex]at hz
      rcases aud.1 hz with e|e
      ·rw[e];exact of_
      ·rcases auo.1 e with e|e
       ·exact onmid z e
       ·rw[au6.1 e];exact ot⟩) pw nocov x y hx hy
   have inc:∀z,z∈db c d→∃y∈iz c (db c d),aW (dec z) (dec y)=0:=fun z hz=>by
    have rz:=(ho z hz).1
    obtain⟨y,hy,ey⟩:=(ZE hc ho).2 z hz
    have ry:=(ho y (eL hy)).1
    cases h1:fa y c.2.2.2.2.1
    ·cases h2:fa y c.2.2.2.2.2
     ·refine⟨y,?_,oY ey⟩
      unfold iz
      refine aub _ (avk _ (ava.2 ⟨hy,?_⟩))
      rw[h1,h2]
      rfl
     ·have g:=avb.1 h2
      have rt:=hc.crp.t.1
      exact⟨c.2.2.2.2.2,by unfold iz;simp,MU (r:=toC (dC c)) (oY ey) g⟩
    ·have g:=avb.1 h1
     have rf:=hc.crp.f.1
     exact⟨c.2.2.2.2.1,by unfold iz;simp,MU (r:=frC (dC c)) (oY ey) g⟩
   obtain⟨x,hx,ex⟩:=inc a ha
   obtain⟨y,hy,ey⟩:=inc b hb
   obtain⟨_,_,sa,sa',_,oa⟩:=gn hc hd ha
   obtain⟨_,_,sb,sb',_,ob⟩:=gn hc hd hb
   have kD:=(um (c:=c) hd).crp
   have f1:onR (dC d) (dec x)=true:=by rw[←qo kd sa.1 (spM x hx).1.1 ex];exact oa
   have f2:onR (dC d) (dec y)=true:=by rw[←qo kd sb.1 (spM y hy).1.1 ey];exact ob
   rw[(eP kc sa (spM x hx).1 sb ex).1,(eP kc sb (spM y hy).1 (spM x hx).1 ey).2]at h1
   rw[(eP kD (dS sa') (dS (spD x hx)) (dS sb') ex).1,(eP kD (dS sb') (dS (spD y hy)) (dS (spD x hx)) ey).2]at h2
   exact absurd h2 (hpwD x y hx hy f1 f2 h1)
theorem Lg{c d:BCU}(hc:gdN c)(hd:gdN d){A B:List BP}(hA:∀x∈A,Spb (dC c) x∧Spb (dC d) x)(hB:∀x∈B,Spb (dC c) x∧Spb (dC d) x)(e:∀a∈A,∃b∈B,aW (dec a) (dec b)=0)(h:adb c d A):adb c d B:=by
 have kc:=hc.crp
 have kD:=(um (c:=c) hd).crp
 obtain⟨a,b,ha,hb,h1,h2⟩:=h
 obtain⟨x,hx,ex⟩:=e a ha
 obtain⟨y,hy,ey⟩:=e b hb
 rw[(eP kc (hA a ha).1 (hB x hx).1 (hA b hb).1 ex).1,(eP kc (hA b hb).1 (hB y hy).1 (hB x hx).1 ey).2]at h1
 rw[(eP kD (dS (hA a ha).2) (dS (hB x hx).2) (dS (hA b hb).2) ex).1,(eP kD (dS (hA b hb).2) (dS (hB y hy).2) (dS (hB x hx).2) ey).2]at h2
 exact⟨x,y,hx,hy,h1,h2⟩
theorem DL{c d:BCU}(hc:gdN c)(hd:gdN d){x:BP}(hx:x∈dm c d):Spb (dC c) x∧Spb (dC d) x:=by
 obtain⟨hm,o1,o2⟩:=tj hx
 have r:=rZ ⟨hc.1,hd.1⟩ hm
 exact⟨⟨r,((il hc.crp r).1 o1).1⟩,r,((il hd.crp r).1 o2).1⟩
theorem CH{c d:BCU}(hc:gdN c)(hd:gdN d){x:BP}(hx:x∈db c d):Spb (dC c) x∧Spb (dC d) x:=by
 obtain⟨_,_,s1,s2,_⟩:=gn hc hd hx
 exact⟨s1,s2⟩
theorem RX{c d:BCU}(hc:gdN c)(hd:gdN d):kW c d=yx c d:=by
 rw[Bool.eq_iff_iff,FJ hc hd,Q6 hc hd]
 refine and_congr_right fun _=>?_
 obtain⟨e1,e2⟩:=aiX (Ld hc hd)
 refine⟨Lg hc hd (fun x hx=>CH hc hd hx) (fun x hx=>DL hc hd hx) e1,Lg hc hd (fun x hx=>DL hc hd hx) (fun x hx=>CH hc hd hx) fun b hb=>?_⟩
 obtain⟨a,ha,e⟩:=e2 b hb
 have r1:=(CH hc hd ha).1.1
 have r2:=(DL hc hd hb).1.1
 exact⟨a,ha,oY e⟩
end
def zx(a b:List BP):Bool:=decide (a.length=b.length)&&(a.zip b).all fun x=>aW (dec x.1) (dec x.2)==0
def yN(a b:List BP):Prop:=a.length≤1000000∧(∀x∈a,okP 4000 x)∧∀x∈b,okP 4000 x
instance (a b:List BP):Decidable (yN a b):=by unfold yN;infer_instance
theorem abu{a b:List BP}(h:eqL a b):zx a b=true:=by
 obtain⟨h1,h2⟩:=h
 unfold zx
 rw[dT h1,atX,aun]
 intro x hx
 obtain⟨i,hi⟩:=List.getElem?_of_mem hx
 rw[List.getElem?_zip_eq_some]at hi
 exact avb.2 (h2 i _ _ hi.1 hi.2)
def ZN:Env:=[(130,C6),(69,jI),(83,xl)]
theorem NR:EnvAll Tryz.prog ZN:=⟨AM,gN,vP,trivial⟩
def aj5:Ctx:=CX ZN []
def UT(p:BP)(_k:KT):Option (List RV):=match decide (okR p.1)with|true=>(match decide (okR p.2.2.1)with|true=>(match decide (okR p.2.1)with|true=>(match decide (okR p.2.2.2.1)with|true=>(match decide (okR p.2.2.2.2)with|true=>(match decide (okR p.2.1)with|true=>(match(aS (ae p.2.1) 0)==0 with|true=>(match decide (okR p.2.2.2.1)with|true=>(match(aS (ae p.2.2.2.1) 0)==0 with|true=>(match decide (okR p.2.2.2.2)with|true=>some [RV.d .bool ((aS (ae p.2.2.2.2) 0)==0)]|false=>none)|false=>(match decide (okR p.2.2.2.2)with|true=>(match decide (okR p.2.2.2.2)with|true=>(match decide ((aS (ae p.2.2.2.2) 0)>0)with|true=>some [RV.d .bool (!(fy (ae p.2.2.2.2)))]|false=>some [RV.d .bool false])|false=>none)|false=>none))|false=>none)|false=>(match decide (okR p.2.2.2.2)with|true=>(match decide (okR p.2.2.2.2)with|true=>(match decide ((aS (ae p.2.2.2.2) 0)>0)with|true=>some [RV.d .bool (!(fy (ae p.2.2.2.2)))]|false=>some [RV.d .bool false])|false=>none)|false=>none))|false=>none)|false=>none)|false=>none)|false=>none)|false=>none)|false=>none
theorem ajL(p:BP):RS aj5 64 [.d tP p] (UT p):=rsX
theorem Xl(p:BP)(h:okP 4000 p):Con Tryz.prog 64 [.d tP p] [.d .bool true]:=by
 refine aP NR (ajL _ ⟨0,?_⟩)
 have hp:=h
 obtain⟨p,rfl,bp,rp⟩:=dz hp
 unfold UT
 simp only[aI,aL,aF,az,aX,Nat.reduceLeDiff,aE,aM]
 rcases rp.rd with⟨h1,h2,h3⟩|⟨h1,h2,h3⟩
 ·rw[dT h1,dT h2,dT h3]
 ·rw[dT h2,h3]
  cases hb:decide (p.2.1=0)
  ·rfl
  ·cases hb2:decide (p.2.2.2.1=0)
   ·rfl
   ·exact absurd ⟨atS hb,atS hb2⟩ h1
def KG:aN:=spN true true [tP] (fun x=>decide (okP 4000 x.1)) (fun _=>[RV.d .bool true])
theorem Pp:SpK 64 KG:=spX fun x h=>Xl x.1 (atS h)
def YI:Env:=[(64,KG),(20,wQ)]
theorem OM:EnvAll Tryz.prog YI:=⟨Pp,v9,trivial⟩
def adH:NT:=[((23,14),{keep:=[0,1,12,13],hl:=0})]
def DW:Ctx:=CX YI adH
def tc(a b:List BP)(s13:Int):Cfg:=⟨23,[.blk 0,.seq 33],[(0,.d (.sl tP) a),(1,.d (.sl tP) b),(12,SI (a.length:Int)),(13,SI s13)],[],0,[]⟩
def H8(a b:List BP)(k:KT):Option (List RV):=match(a.length:Int) !=(b.length:Int)with|true=>some [RV.d .bool false]|false=>k 14 (tc a b 0)
theorem Tq(a b:List BP):RS DW 23 [.d (.sl tP) a,.d (.sl tP) b] (H8 a b):=rsX
def r7(a b:List BP)(s13:Int)(k:KT):Option (List RV):=match decide (s13<(a.length:Int))with|true=>(match bi a s13 with|some x1=>(match decide (okP 4000 x1)with|true=>(match bi a s13 with|some x2=>(match bi b s13 with|some x3=>(match decide (okP 4000 x2∧okP 4000 x3)with|true=>(match !(aW (dec x2) (dec x3)==0)with|true=>some [RV.d .bool false]|false=>k 14 (tc a b (i64.wrap (s13+1))))|false=>none)|none=>none)|none=>none)|false=>none)|none=>none)|false=>some [RV.d .bool true]
theorem zX(a b:List BP)(s13:Int):RN DW 14 (tc a b s13) (r7 a b s13):=rnX
theorem acR(a b:List BP)(h:yN a b)(hab:a.length=b.length):∀(j i:Nat),i+j=a.length→DW.Runs 14 (tc a b (i:Int)) [.d .bool (((a.drop i).zip (b.drop i)).all fun x=>aW (dec x.1) (dec x.2)==0)]:=by
 obtain⟨h1,h2,h3⟩:=h
 intro j
 induction j with
 |zero=>
  intro i hi
  refine zX _ _ _ ⟨0,?_⟩
  unfold r7
  rw[cz (by omega),uc (by omega)]
  rfl
 |succ j ih=>
  intro i hi
  have hil:i<a.length:=by omega
  have hib:i<b.length:=by omega
  obtain⟨n,hn⟩:=ih (i+1) (by omega)
  refine zX _ _ _ ⟨n,?_⟩
  have ha:=h2 _ (auB hil)
  have hb:=h3 _ (auB hib)
  unfold r7
  rw[bS hil,aA,atU hil,aA,atU hib,auk hil,auk hib,co (by omega),List.zip_cons_cons,awj]
  dsimp only
  rw[dT ha,dT (show okP 4000 a[i]∧okP 4000 b[i] from⟨ha,hb⟩)]
  cases aW (dec a[i]) (dec b[i])==0
  ·rfl
  ·exact hn
theorem WT(a b:List BP)(h:yN a b):Con Tryz.prog 23 [.d (.sl tP) a,.d (.sl tP) b] [.d .bool (zx a b)]:=by
 refine aP OM (show DW.Res _ _ _ from ?_)
 by_cases hab:a.length=b.length
 ·obtain⟨n,hn⟩:=acR a b h hab a.length 0 (auC _)
  refine Tq _ _ ⟨n,?_⟩
  unfold H8 zx
  rw[show((a.length:Int) !=(b.length:Int))=false by rw[hab];simp,dT hab]
  exact hn
 ·refine Tq _ _ ⟨0,?_⟩
  unfold H8 zx
  rw[show((a.length:Int) !=(b.length:Int))=true by simp;omega,dF hab]
  rfl
end Go.Proofs.YtgddhgcjmddjfaaGreat
end
