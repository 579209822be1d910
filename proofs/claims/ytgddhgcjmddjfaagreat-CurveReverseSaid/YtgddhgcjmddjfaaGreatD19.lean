/- Pieces of a curve: the program's are the reference's. -/
import Derived.Test.YtgddhgcjmddjfaaGreatD18
import Derived.Test.YtgddhgcjmddjfaaGreatD16
noncomputable section
namespace Go.Proofs.YtgddhgcjmddjfaaGreat
open Go.RowKit Go.IntKind
theorem axU:type_of% @Bool.eq_iff_iff:=@Bool.eq_iff_iff
section
open RE
def wE(c:BCU):BP→List BP→List BCU
 |f,[]=>[pg c f c.2.2.2.2.2]
 |f,p::r=>bif fc p c.2.2.2.2.1||fc p c.2.2.2.2.2 then wE c f r else pg c f p::wE c p r
def ack(c:BCU)(l:List BP):List BCU:=wE c c.2.2.2.2.1 (c7 (dC c) l)
def TP(c:BCU)(l:List BP):Bool:=l.any fun p=>!onP (dC c) (dec p)
def pk(c:BCU)(l:List BP):List BCU:=bif TP c l then []else ack c l
def am8(c:BCU)(l:List BP):Int:=bif TP c l then 1 else 0
def wz(c:BCU)(l:List BP):List BP:=l.filter fun p=>!(fc p c.2.2.2.2.1||fc p c.2.2.2.2.2)
def iC(c:BCU)(l:List BP):List BP:=c.2.2.2.2.1::(wz c (c7 (dC c) l)++[c.2.2.2.2.2])
theorem zV(c:BCU):∀(L:List BP) (f:BP),wE c f L=jG c (f::(wz c L++[c.2.2.2.2.2]))
 |[],f=>rfl
 |p::r,f=>by
  unfold wE wz
  rw[awD]
  cases h:fc p c.2.2.2.2.1||fc p c.2.2.2.2.2
  ·have:=zV c r p
   simp only[cond_false,Bool.not_false,if_true]
   rw[this]
   rfl
  ·have:=zV c r f
   simp only[cond_true,Bool.not_true,awX,if_false]
   exact this
theorem SZ(c:BCU)(l:List BP):ack c l=jG c (iC c l):=zV c _ _
section
variable {c:BCU} (h:gdN c) {l:List BP} (ho:∀x∈l,Rpd (dec x:Pt)∧onR (dC c) (dec x)=true)
include h ho
theorem aj8:TP c l=false:=by
 unfold TP
 rw[List.any_eq_false]
 intro x hx
 obtain⟨r,o⟩:=ho x hx
 rw[ff h.crp r,o]
 simp
theorem VP:oL (dC c) (c7 (dC c) l)∧∀x∈l,∃y∈c7 (dC c) l,aV (dec y) (dec x)=0:=wI h.crp h.ne fun x hx=>⟨(ho x hx).1,by rw[ff h.crp (ho x hx).1];exact(ho x hx).2⟩
omit h ho in
theorem E0{x:BP}(hx:x∈iC c l):x=c.2.2.2.2.1∨x=c.2.2.2.2.2∨(x∈c7 (dC c) l∧aV (dec x) (dec c.2.2.2.2.1)≠0∧aV (dec x) (dec c.2.2.2.2.2)≠0):=by
 unfold iC at hx
 rcases au5.1 hx with e|e
 ·exact .inl e
 ·rcases avj.1 e with e|e
  ·obtain⟨m1,m2⟩:=awk.1 e
   refine .inr (.inr ⟨m1,?_,?_⟩)
   ·intro g
    have:fc x c.2.2.2.2.1=true:=avQ.2 g
    rw[this]at m2
    simp at m2
   ·intro g
    have:fc x c.2.2.2.2.2=true:=avQ.2 g
    rw[this]at m2
    simp at m2
  ·exact .inr (.inl (avR.1 e))
theorem K4:∀x∈iC c l,Spb (dC c) x∧onR (dC c) (dec x)=true:=fun x hx=>by
 rcases E0 hx with e|e|⟨e,_⟩
 ·rw[e];exact⟨h.crp.f,(vE h).1⟩
 ·rw[e];exact⟨h.crp.t,(vE h).2⟩
 ·obtain⟨r,o⟩:=ho x (eL e)
  exact⟨⟨r,((qd h.crp r).1 o).1⟩,o⟩
theorem K9:oL (dC c) (iC c l):=by
 have k:=h.crp
 have o:=qy k
 have sp:=K4 h ho
 have hmid:∀x∈wz c (c7 (dC c) l),cj (dC c) (frC (dC c)) (dec x)<0∧cj (dC c) (dec x) (toC (dC c))<0:=fun x hx=>by
  have hx':x∈iC c l:=by
   unfold iC
   exact au4 _ (awb _ hx)
  obtain⟨m1,m2⟩:=awk.1 hx
  obtain⟨s1,o1⟩:=sp x hx'
  have hr:=s1.1
  obtain⟨_,g1,g2⟩:=(qd k hr).1 o1
  have n1:aV (dec x) (frC (dC c))≠0:=fun g=>by
   have:fc x c.2.2.2.2.1=true:=avQ.2 g
   rw[this]at m2
   simp at m2
  have n2:aV (dec x) (toC (dC c))≠0:=fun g=>by
   have:fc x c.2.2.2.2.2=true:=avQ.2 g
   rw[this]at m2
   simp at m2
  constructor
  ·rcases o.tri s1 k.f with e|e|e
   ·exact absurd e g1
   ·exact absurd e n1
   ·exact e
  ·rcases o.tri s1 k.t with e|e|e
   ·exact e
   ·exact absurd e n2
   ·exact absurd e g2
 unfold iC
 refine avh.2 ⟨fun x hx=>?_,?_⟩
 ·rcases avj.1 hx with e|e
  ·exact(hmid x e).1
  ·rw[avR.1 e];exact HP h
 ·refine List.pairwise_append.2 ⟨List.Pairwise.filter _ (VP h ho).1,by simp,fun x hx y hy=>?_⟩
  rw[avR.1 hy]
  exact(hmid x hx).2
end
end
section
open RE
def frB(c:BCU):BP:=c.2.2.2.2.1
def toB(c:BCU):BP:=c.2.2.2.2.2
def wi(d p:BCU):Bool:=(onP (dC d) (dec (frB p))&&onP (dC d) (dec (toB p)))&&(bif d.1 then !fc (frB (dR p)) (toB (dR d))&&decide (eZ bS (ptd (dec (dR d).2.2.1) (dec (frB (dR p)))) (ptd (dec (dR d).2.2.1) (dec (toB (dR p)))) (ptd (dec (dR d).2.2.1) (dec (toB (dR d))))≤0)else true)
def tX(c d:BCU)(l:List BP):Bool:=(pk c l).any (wi d)
def gZ(c d:BCU):Bool:=cL (dC c) (dC d)&&tX c d (bL c d)
theorem acD{p q r:Pt}[Rpd p][Rpd q][Rpd r]:AF (aV r p) (aV p q)=AF (aV q p) (aV p r):=by
 rw[iM (p:=r) (q:=p),iM (p:=q) (q:=p)]
 have h1:=i9 p r
 have h2:=i9 p q
 unfold AF
 rw[axU]
 simp only[awz,avQ]
 omega
theorem ajO{d:BCU}(hf:Rpd (frC (dC d)))(ht:Rpd (toC (dC d))){p:Pt}(hp:Rpd p):onP (dC (cH d)) p=onP (dC d) p:=by
 obtain⟨ar,li,ci,cw,fr,to⟩:=d
 unfold onP
 have e1:em (dC (cH (ar,li,ci,cw,fr,to))) p=em (dC (ar,li,ci,cw,fr,to)) p:=rfl
 rw[e1]
 congr 1
 cases ar
 ·show AF (aV (dec to) p) (aV p (dec fr))=AF (aV (dec fr) p) (aV p (dec to))
  have i1:Rpd (dec fr):=hf
  have i2:Rpd (dec to):=ht
  exact acD
 ·cases cw<;>rfl
theorem gdN.rev{d:BCU}(h:gdN d):gdN (cH d):=by
 obtain⟨⟨h1,h2,h3⟩,h4,h5,h6⟩:=h
 have r1:=kM h1.2.2.1
 have r2:=kM h1.2.2.2
 refine⟨⟨Jz _ h1,h2,h3⟩,h5,h4,fun e=>h6 ?_⟩
 have i1:Rpd (frC (dC d)):=r1
 have i2:Rpd (toC (dC d)):=r2
 exact iJ (p:=toC (dC d)) (q:=frC (dC d)) e
theorem qM{d:BCU}(h:gdN d){p:Pt}(hp:Rpd p):onR (dC (cH d)) p=onR (dC d) p:=by
 rw[←ff h.rev.crp hp,←ff h.crp hp,ajO h.crp.f.1 h.crp.t.1 hp]
theorem wL{e:Cv}(k:Crp e)(ha:e.1=true)(hw:cwC e=false){x y:Pt}(sx:Sp e x)(sy:Sp e y):eZ bS (ptd (ciC e) (frC e)) (ptd (ciC e) x) (ptd (ciC e) y)=cj e x y:=by
 have i1:=sx.1
 have i2:=sy.1
 have i3:=k.f.1
 rw[JW (k.q ha) (fH ha k.f) (fH ha sx) (fH ha sy)]
 unfold cj
 rw[ha,hw]
 rfl
theorem jV{d:BCU}(h:gdN d){p q:Pt}(hp:Rpd p)(hq:Rpd q)(op:onR (dC d) p=true)(oq:onR (dC d) q=true):cj (dC (cH d)) p q<0↔cj (dC d) q p<0:=by
 have op':=op
 have oq':=oq
 rw[←qM h hp]at op'
 rw[←qM h hq]at oq'
 rw[←ff h.crp hp]at op
 rw[←ff h.crp hq]at oq
 rw[←ff h.rev.crp hp]at op'
 rw[←ff h.rev.crp hq]at oq'
 rw[←ord_eq h.rev.crp h.rev.ne hp hq op' oq',←ord_eq h.crp h.ne hq hp oq op]
 have hf:=h.crp.f
 have ht:=h.crp.t
 have hq0:=h.crp.q
 obtain⟨ar,li,ci,cw,fr,to⟩:=d
 unfold yD
 cases ar
 ·show aV p q*aV (dec fr) (dec to)<0↔aV q p*aV (dec to) (dec fr)<0
  have i1:Rpd (dec fr):=hf.1
  have i2:Rpd (dec to):=ht.1
  rw[iM (p:=q),iM (p:=dec to),Int.neg_mul_neg]
 ·have sp:=(au6.1 op).1
  have sq:=(au6.1 oq).1
  cases cw
  ·have k:=h.crp
   have o:=qy k
   have e1:=wL k rfl rfl ⟨hp,sp⟩ ⟨hq,sq⟩
   have e2:=wL k rfl rfl ⟨hq,sq⟩ ⟨hp,sp⟩
   have le:=o.le ⟨hp,sp⟩ ⟨hq,sq⟩
   show-eZ bS (ptd (dec ci) (dec fr)) (ptd (dec ci) p) (ptd (dec ci) q)<0↔eZ bS (ptd (dec ci) (dec fr)) (ptd (dec ci) q) (ptd (dec ci) p)<0
   have e1:eZ bS (ptd (dec ci) (dec fr)) (ptd (dec ci) p) (ptd (dec ci) q)=_:=e1
   have e2:eZ bS (ptd (dec ci) (dec fr)) (ptd (dec ci) q) (ptd (dec ci) p)=_:=e2
   rw[e1,e2]
   by_cases g:cj (dC (true,li,ci,false,fr,to)) q p<0
   ·have:¬cj (dC (true,li,ci,false,fr,to)) p q≤0:=fun g'=>le.1 g' g
    exact⟨fun _=>g,fun _=>by omega⟩
   ·have:cj (dC (true,li,ci,false,fr,to)) p q≤0:=le.2 g
    exact⟨fun _=>by omega,fun g'=>absurd g' g⟩
  ·have k:=h.rev.crp
   have o:=qy k
   have e1:=wL k rfl rfl ⟨hp,sp⟩ ⟨hq,sq⟩
   have e2:=wL k rfl rfl ⟨hq,sq⟩ ⟨hp,sp⟩
   have le:=o.le (p:=q) (q:=p) ⟨hq,sq⟩ ⟨hp,sp⟩
   show eZ bS (ptd (dec ci) (dec to)) (ptd (dec ci) p) (ptd (dec ci) q)<0↔ -eZ bS (ptd (dec ci) (dec to)) (ptd (dec ci) q) (ptd (dec ci) p)<0
   have e1:eZ bS (ptd (dec ci) (dec to)) (ptd (dec ci) p) (ptd (dec ci) q)=_:=e1
   have e2:eZ bS (ptd (dec ci) (dec to)) (ptd (dec ci) q) (ptd (dec ci) p)=_:=e2
   rw[e1,e2]
   by_cases g:cj (dC (cH (true,li,ci,true,fr,to))) p q<0
   ·have:¬cj (dC (cH (true,li,ci,true,fr,to))) q p≤0:=fun g'=>le.1 g' g
    exact⟨fun _=>by omega,fun _=>g⟩
   ·have:cj (dC (cH (true,li,ci,true,fr,to))) q p≤0:=le.2 g
    exact⟨fun g'=>absurd g' g,fun _=>by omega⟩
theorem acn{α:Type}{lt:α→α→Prop}(h:l6 lt){o t u w:α}(_hot:o≠t)(huw:u≠w)(hu:¬cLt lt o t u)(hw:¬cLt lt o t w):(u≠t∧¬cLt lt u t w)↔cLt lt o u w:=by
 have m1:o∈[o,t,u,w]:=by simp
 have m2:t∈[o,t,u,w]:=by simp
 have m3:u∈[o,t,u,w]:=by simp
 have m4:w∈[o,t,u,w]:=by simp
 have ne:∀{a b:α},a∈[o,t,u,w]→b∈[o,t,u,w]→(a≠b↔rk lt [o,t,u,w] a≠rk lt [o,t,u,w] b):=fun{a b} ha hb=>by
  constructor
  ·intro e
   rcases h.tri a b with g|g|g
   ·have:=tM h g ha;omega
   ·exact absurd g e
   ·have:=tM h g hb;omega
  ·intro e g
   rw[g]at e
   exact e rfl
 rw[ne m3 m4]at huw
 rw[ne m3 m2]
 unfold cLt at*
 rw[oC h m2 m1,oC h m3 m1,oC h m2 m3]at hu
 rw[oC h m2 m1,oC h m4 m1,oC h m2 m4]at hw
 rw[oC h m2 m3,oC h m4 m3,oC h m2 m4,oC h m3 m1,oC h m4 m1,oC h m3 m4]
 omega
theorem LV{e:Cv}(k:Crp e)(hne:aV (frC e) (toC e)≠0)(ha:e.1=true)(hw:cwC e=false){x y:Pt}(sx:Sp e x)(sy:Sp e y)(ox:onR e x=true)(oy:onR e y=true)(hxy:aV x y≠0):
  ((aV x (toC e)==0)=false∧eZ bS (ptd (ciC e) x) (ptd (ciC e) y) (ptd (ciC e) (toC e))≤0)↔cj e x y<0:=by
 obtain⟨κ,h1,h2⟩:=EC k ha
 have hl:=KE RE.lt_lin
 have hc:=fun u=>xW RE.lt_lin RE.sg_cmpO u
 have i1:=sx.1
 have i2:=sy.1
 have i3:=k.t.1
 have ex:=h1 (pcC e x (toC e)) ha rfl rfl sx y (toC e) sy k.t
 have et:eZ bS (ptd (ciC e) x) (ptd (ciC e) y) (ptd (ciC e) (toC e))=cj (pcC e x (toC e)) y (toC e):=by
  rw[JW (k.q ha) (fH ha sx) (fH ha sy) (fH ha k.t)]
  unfold cj
  rw[show(pcC e x (toC e)).1=true from ha,show cwC (pcC e x (toC e))=false from hw]
  rfl
 have ec:=h1 e ha rfl rfl k.f
 obtain⟨_,x1,x2⟩:=(qd k sx.1).1 ox
 obtain⟨_,y1,y2⟩:=(qd k sy.1).1 oy
 rw[ec _ _ k.t sx,ib (Cw hl _) (hc _)]at x2
 rw[ec _ _ k.t sy,ib (Cw hl _) (hc _)]at y2
 have n1:κ (frC e)≠κ (toC e):=fun g=>hne ((h2 _ _ k.f k.t).1 g)
 have n2:κ x≠κ y:=fun g=>hxy ((h2 _ _ sx sy).1 g)
 have e3:(aV x (toC e)==0)=false↔κ x≠κ (toC e):=by
  rw[awo,ne_eq,ne_eq,h2 _ _ sx k.t]
 rw[e3,et,ex,LA (Cw hl _) (hc _),ec x y sx sy,ib (Cw hl _) (hc _)]
 exact acn hl n1 n2 x2 y2
theorem KM{c d:BCU}(hc:gdN c)(hd:gdN d)(hs:cL (dC c) (dC d)=true){x y:BP}(sx:Spb (dC d) x)(sy:Spb (dC d) y)(hxy:cj (dC c) (dec x) (dec y)<0):
  wi d (pg c x y)=(onR (dC d) (dec x)&&onR (dC d) (dec y)&&decide (cj (dC (ip c d)) (dec x) (dec y)<0)):=by
 have e:=rU hs
 have kd:=hd.crp
 have kc:=hc.crp
 have rx:=sx.1
 have ry:=sy.1
 have cx:Spb (dC c) x:=⟨rx,nZ kd (nQ hs) sx.2⟩
 have cy:Spb (dC c) y:=⟨ry,nZ kd (nQ hs) sy.2⟩
 have hne:aV (dec x) (dec y)≠0:=fun g=>by
  rw[(pE kc).irr cx cy g]at hxy
  omega
 unfold wi
 rw[show dec (frB (pg c x y))=(dec x:Pt) from rfl,show dec (toB (pg c x y))=(dec y:Pt) from rfl,ff kd rx,ff kd ry]
 cases ox:onR (dC d) (dec x)
 ·rfl
 ·cases oy:onR (dC d) (dec y)
  ·rfl
  ·rw[auS,auS,auS]
   rw[axU,awA]
   cases ha:d.1
   ·have hca:c.1=false:=by rw[←ha];exact e
    refine⟨fun _=>?_,fun _=>rfl⟩
    have key:cj (dC (ip c d)) (dec x) (dec y)=cj (dC c) (dec x) (dec y):=by
     have i1:Rpd (dec d.2.2.2.2.1:Pt):=kd.f.1
     have i2:Rpd (dec d.2.2.2.2.2:Pt):=kd.t.1
     have b1:=i9 (dec c.2.2.2.2.1) (dec c.2.2.2.2.2)
     have b2:=i9 (dec d.2.2.2.2.1) (dec d.2.2.2.2.2)
     have n1:aV (dec c.2.2.2.2.1) (dec c.2.2.2.2.2)≠0:=hc.ne
     have n2:aV (dec d.2.2.2.2.1) (dec d.2.2.2.2.2)≠0:=hd.ne
     have an:=iM (p:=(dec d.2.2.2.2.2:Pt)) (q:=dec d.2.2.2.2.1)
     have lin:∀b:BCU,b.1=false→cj (dC b) (dec x) (dec y)=bif decide (aV (dec b.2.2.2.2.1) (dec b.2.2.2.2.2)>0)then-aV (dec x) (dec y)else aV (dec x) (dec y):=fun b hb=>by
      unfold cj
      rw[show(dC b).1=false from hb]
      rfl
     unfold ip qh
     rw[hca]
     simp only[ax4,auS,Bool.not_false,cond_false]
     cases hq:aV (dec c.2.2.2.2.1) (dec c.2.2.2.2.2) !=aV (dec d.2.2.2.2.1) (dec d.2.2.2.2.2)
     ·have hq:aV (dec c.2.2.2.2.1) (dec c.2.2.2.2.2)=aV (dec d.2.2.2.2.1) (dec d.2.2.2.2.2):=by simpa using hq
      rw[cond_false,lin d ha,lin c hca,hq]
     ·have hq:aV (dec c.2.2.2.2.1) (dec c.2.2.2.2.2)≠aV (dec d.2.2.2.2.1) (dec d.2.2.2.2.2):=by simpa using hq
      rw[cond_true,lin (cH d) ha,lin c hca,show aV (dec (cH d).2.2.2.2.1) (dec (cH d).2.2.2.2.2)=aV (dec c.2.2.2.2.1) (dec c.2.2.2.2.2) by
       show aV (dec d.2.2.2.2.2) (dec d.2.2.2.2.1)=_
       rw[an];omega]
    rw[key]
    exact hxy
   ·have hca:c.1=true:=by rw[←ha];exact e
    rw[cond_true,au6,awA]
    have hci:ciC (dC c)=ciC (dC d):=IB hs hca
    have kk:∀b:BCU,gdN b→b.1=true→b.2.2.2.1=false→Spb (dC b) x→Spb (dC b) y→onR (dC b) (dec x)=true→onR (dC b) (dec y)=true→
      ((!fc x (toB b))=true∧eZ bS (ptd (dec b.2.2.1) (dec x)) (ptd (dec b.2.2.1) (dec y)) (ptd (dec b.2.2.1) (dec (toB b)))≤0↔cj (dC b) (dec x) (dec y)<0)∧
      ((!fc y (toB b))=true∧eZ bS (ptd (dec b.2.2.1) (dec y)) (ptd (dec b.2.2.1) (dec x)) (ptd (dec b.2.2.1) (dec (toB b)))≤0↔cj (dC b) (dec y) (dec x)<0):=fun b hb h1 h2 s1 s2 o1 o2=>by
     refine⟨?_,?_⟩
     ·rw[←LV hb.crp hb.ne h1 h2 s1 s2 o1 o2 hne,avL]
      rfl
     ·rw[←LV hb.crp hb.ne h1 h2 s2 s1 o2 o1 (fun g=>hne (iJ g)),avL]
      rfl
    have hdr:=hd.rev
    have ox':=ox
    have oy':=oy
    rw[←qM hd rx]at ox'
    rw[←qM hd ry]at oy'
    have sx':Spb (dC (cH d)) x:=⟨rx,sx.2⟩
    have sy':Spb (dC (cH d)) y:=⟨ry,sy.2⟩
    have rD:ip c d=bif c.2.2.2.1 !=d.2.2.2.1 then cH d else d:=by
     unfold ip qh
     rw[hca,ha]
     simp only[auS]
     cases c.2.2.2.1 !=d.2.2.2.1<;>rfl
    have ccB:∀b:BCU,dR b=bif b.2.2.2.1 then cH b else b:=fun b=>rfl
    rw[rD]
    have rcw:(cH d).2.2.2.1=!d.2.2.2.1:=by
     show(d.1&&!d.2.2.2.1)=_
     rw[ha,auS]
    have pcw:(pg c x y).2.2.2.1=c.2.2.2.1:=rfl
    rw[ccB,ccB,pcw]
    cases hcw:c.2.2.2.1<;>cases hdw:d.2.2.2.1
    ·exact(kk d hd ha hdw sx sy ox oy).1
    ·exact(kk (cH d) hdr ha (by rw[rcw,hdw];rfl) sx' sy' ox' oy').1
    ·refine(kk d hd ha hdw sx sy ox oy).2.trans ?_
     exact(jV hd rx ry ox oy).symm
    ·refine(kk (cH d) hdr ha (by rw[rcw,hdw];rfl) sx' sy' ox' oy').2.trans ?_
     exact jV hd ry rx oy ox
end
section
def wy(c d:BCU)(l:List BP):Prop:=jU c l∧okC 4000 d
instance (c d:BCU) (l:List BP):Decidable (wy c d l):=by unfold wy;infer_instance
theorem akI(d:BCU):(dR d).1=d.1:=by
 unfold dR
 cases d.2.2.2.1<;>rfl
theorem Lf{k:Nat}{d:BCU}(h:okC k d):okC k (dR d):=by
 unfold dR
 cases d.2.2.2.1
 ·exact h
 ·exact Jz k h
theorem DS{c:BCU}(hc:okC 4000 c):∀{L:List BP} {f:BP},okP 4000 f→(∀x∈L,okP 4000 x)→∀p∈wE c f L,okC 4000 p
 |[],f,hf,_,p,hp=>by
  rw[avR.1 hp]
  exact⟨hc.1,hc.2.1,hf,hc.2.2.2⟩
 |x::r,f,hf,hL,p,hp=>by
  have hx:=hL x (by simp)
  have hr:∀y∈r,okP 4000 y:=fun y hy=>hL y (au4 _ hy)
  unfold wE at hp
  cases h:fc x c.2.2.2.2.1||fc x c.2.2.2.2.2<;>rw[h]at hp
  ·rcases au5.1 hp with e|e
   ·rw[e];exact⟨hc.1,hc.2.1,hf,hx⟩
   ·exact DS hc hx hr p e
  ·exact DS hc hf hr p hp
theorem adl{c:BCU}{l:List BP}(h:jU c l):(pk c l).length≤20∧∀p∈pk c l,okC 4000 p:=by
 obtain⟨hc,hl,ho⟩:=h
 have hs:∀x∈c7 (dC c) l,okP 4000 x:=fun x hx=>ho x (eL hx)
 have hn:(c7 (dC c) l).length≤l.length:=mB
 have len:∀(L:List BP) (f:BP),(wE c f L).length≤L.length+1:=by
  intro L
  induction L with
  |nil=>intro f;simp[wE]
  |cons x r ih=>
   intro f
   unfold wE
   cases fc x c.2.2.2.2.1||fc x c.2.2.2.2.2
   ·have:=ih x;simp only[cond_false,avc];omega
   ·have:=ih f;simp only[cond_true,avc];omega
 unfold pk
 cases TP c l
 ·refine⟨?_,DS hc hc.2.2.1 hs⟩
  have:=len (c7 (dC c) l) c.2.2.2.2.1
  simp only[cond_false]
  unfold ack
  omega
 ·exact⟨by simp,fun p hp=>by cases hp⟩
def Uo:Env:=[(14,xL),(55,yO),(54,DA)]
theorem PY:EnvAll Tryz.prog Uo:=⟨sT,uH,zl,trivial⟩
def amb:NT:=[((116,6),{keep:=[0,1,7,8],hl:=1}),((17,18),{keep:=[2,6,7,17,18,19],own:=[(6,43,tCU)],hl:=3}),((17,4),{keep:=[1,2,13],hl:=0}),((52,3),{keep:=[7],hl:=0}),((116,18),{keep:=[0,1,5,7,8,16],hl:=0})]
def Hm:Ctx:=CX Uo amb
def oh(c:BCU)(l:List BP)(s116_8:Int):Cfg:=⟨116,[.blk 0,.seq 25],[(0,.d (.sl tP) l),(1,.clo 53 [0]),(7,SI (l.length:Int)),(8,SI s116_8)],[.box 43 (Ty.split tCU c)],1,[⟨52,[.seq 4],3,2,[],1,none⟩,⟨17,[.seq 5,.seq 10],4,2,[(1,.d (.sl tP) l),(2,.box 0 0)],0,none⟩]⟩
def qk(c:BCU)(l:List BP)(s19:Int)(B1:BCU)(r2:List BCU):Cfg:=⟨17,[.blk 0,.seq 41],[(2,.box 0 0),(6,.own 2),(7,.box 1 0),(17,.d (.sl tP) (c7 (dC c) l)),(18,SI ((c7 (dC c) l).length:Int)),(19,SI s19)],[.box 43 (Ty.split tCU c),.box 43 (Ty.split tCU B1),.row 43 tCU r2],0,[]⟩
def aoA(c:BCU)(l:List BP)(k:KT):OLR:=k 6 (oh c l 0)
theorem asH(c:BCU)(l:List BP):RS Hm 17 [.d tCU c,.d (.sl tP) l] (aoA c l):=rsX
def nY(c:BCU)(l:List BP)(s116_8:Int)(k:KT):OLR:=match decide (s116_8<(l.length:Int))with|true=>(match bi l s116_8 with|some x1=>(match decide (okC 4000 c∧okP 4000 x1)with|true=>(match !(onP (dC c) (dec x1))with|true=>(match decide (s116_8≥0)with|true=>some [RV.d (.sl tCU) ([]),RV.d ayb 1]|false=>(match decide (jU c l)with|true=>none|false=>none))|false=>k 6 (oh c l (i64.wrap (s116_8+1))))|false=>none)|none=>none)|false=>(match decide ((-1)≥0)with|true=>some [RV.d (.sl tCU) ([]),RV.d ayb 1]|false=>(match decide (jU c l)with|true=>k 18 (qk c l 0 c ([]))|false=>none))
theorem ta(c:BCU)(l:List BP)(s116_8:Int):RN Hm 6 (oh c l s116_8) (nY c l s116_8):=rnX
def vX(c:BCU)(l:List BP)(s19:Int)(B1:BCU)(r2:List BCU)(k:KT):OLR:=match decide (s19<((c7 (dC c) l).length:Int))with|true=>(match bi (c7 (dC c) l) s19 with|some x1=>(match decide (okP 4000 x1∧okP 4000 c.2.2.2.2.1)with|true=>(match aV (dec x1) (dec c.2.2.2.2.1)==0 with|true=>k 18 (qk c l (i64.wrap (s19+1)) B1 r2)|false=>(match decide (okP 4000 x1∧okP 4000 c.2.2.2.2.2)with|true=>(match aV (dec x1) (dec c.2.2.2.2.2)==0 with|true=>k 18 (qk c l (i64.wrap (s19+1)) B1 r2)|false=>dup (.b .l .l) (match decide ((r2.length+([(B1.1,(B1.2.1,(B1.2.2.1,(B1.2.2.2.1,(B1.2.2.2.2.1,x1)))))]).length)*1040≤140737488355328∧r2.length+([(B1.1,(B1.2.1,(B1.2.2.1,(B1.2.2.2.1,(B1.2.2.2.2.1,x1)))))]).length≤140737488355328)with|true=>k 18 (qk c l (i64.wrap (s19+1)) (B1.1,(B1.2.1,(B1.2.2.1,(B1.2.2.2.1,(x1,B1.2.2.2.2.2))))) (r2++([(B1.1,(B1.2.1,(B1.2.2.1,(B1.2.2.2.1,(B1.2.2.2.2.1,x1)))))])))|false=>none))|false=>none))|false=>none)|none=>none)|false=>(match decide ((r2.length+([B1]).length)*1040≤140737488355328∧r2.length+([B1]).length≤140737488355328)with|true=>some [RV.d (.sl tCU) (r2++([B1])),RV.d ayb 0]|false=>none)
theorem BX(c:BCU)(l:List BP)(s19:Int)(B1:BCU)(r2:List BCU):RN Hm 18 (qk c l s19 B1 r2) (vX c l s19 B1 r2):=rnX
section
variable (c:BCU) (l:List BP) (h:jU c l)
include h
theorem Nk:∀(L:List BP) (i:Nat),(c7 (dC c) l).drop i=L→i≤(c7 (dC c) l).length→∀(f:BP) (r2:List BCU),r2.length≤i→Hm.Runs 18 (qk c l (i:Int) (pg c f c.2.2.2.2.2) r2) [.d (.sl tCU) (r2++wE c f L),.d ayb (0:Int)]
 |[],i,hd,hi,f,r2,hr=>by
  have hn:(c7 (dC c) l).length≤l.length:=mB
  have hl:=h.2.1
  have hlen:=congrArg List.length hd
  rw[awO,axQ]at hlen
  refine BX _ _ _ _ _ ⟨0,?_⟩
  unfold vX
  rw[cz (by omega),avk,CH (by omega) (by omega)]
  rfl
 |x::r,i,hd,hi,f,r2,hr=>by
  have hn:(c7 (dC c) l).length≤l.length:=mB
  have hl:=h.2.1
  have hlen:=congrArg List.length hd
  rw[awO,avc]at hlen
  have hil:i<(c7 (dC c) l).length:=by omega
  have hd2:=avd hil
  rw[hd2]at hd
  injection hd with e1 e2
  have hx:okP 4000 x:=by rw[←e1];exact h.2.2 _ (eL (avu hil))
  have g1:bi (c7 (dC c) l) (i:Int)=some x:=by rw[aA,auP hil,e1]
  have ih:=Nk r (i+1) e2 (by omega)
  refine BX _ _ _ _ _ ?_
  unfold vX wE
  rw[cd hil,g1,cr (by omega)]
  dsimp only
  rw[dT (show okP 4000 x∧okP 4000 c.2.2.2.2.1 from⟨hx,h.1.2.2.1⟩),dT (show okP 4000 x∧okP 4000 c.2.2.2.2.2 from⟨hx,h.1.2.2.2⟩)]
  dsimp only
  unfold fc
  cases q1:aV (dec x) (dec c.2.2.2.2.1)==0
  ·cases q2:aV (dec x) (dec c.2.2.2.2.2)==0
   ·obtain⟨n,hn⟩:=ih x (r2++[pg c f x]) (by simp;omega)
    refine⟨n,?_⟩
    rw[avl]at hn
    simp only[aN]
    rw[avk,CH (by omega) (by omega)]
    exact hn
   ·exact ih f r2 (by omega)
  ·exact ih f r2 (by omega)
theorem ama:∀(j i:Nat),i+j=l.length→Hm.Runs 6 (oh c l (i:Int)) [.d (.sl tCU) (bif (l.drop i).any (fun p=>!onP (dC c) (dec p))then []else ack c l),.d ayb (bif (l.drop i).any (fun p=>!onP (dC c) (dec p))then(1:Int)else 0)]:=by
 intro j
 have hl:=h.2.1
 induction j with
 |zero=>
  intro i hi
  obtain⟨n,hn⟩:=Nk c l h (c7 (dC c) l) 0 rfl (axb _) c.2.2.2.2.1 [] (auY _)
  refine ta _ _ _ ⟨n,?_⟩
  unfold nY
  rw[cz (by omega),tw (by omega)]
  dsimp only
  rw[dF (show ¬(-1:Int)≥0 by decide),dT h]
  exact hn
 |succ j ih=>
  intro i hi
  have hil:i<l.length:=by omega
  obtain⟨n,hn⟩:=ih (i+1) (by omega)
  refine ta _ _ _ ⟨n,?_⟩
  unfold nY
  rw[cd hil,aA,auP hil,ju hil,List.any_cons,cr (by omega)]
  dsimp only
  rw[dT (show okC 4000 c∧okP 4000 l[i] from⟨h.1,h.2.2 _ (avu _)⟩)]
  cases onP (dC c) (dec l[i])
  ·dsimp only[Bool.not_false]
   rw[dT (show(i:Int)≥0 by omega)]
   rfl
  ·exact hn
end
theorem aaQ(c:BCU)(l:List BP)(h:jU c l):Con Tryz.prog 17 [.d tCU c,.d (.sl tP) l] [.d (.sl tCU) (pk c l),.d ayb (am8 c l)]:=by
 have q:=ama c l h l.length 0 (avw _)
 exact aO PY (asH _ _ q)
def Yy:Env:=[(14,xL),(55,yO),(109,Iz),(110,CC)]
theorem Pj:EnvAll Tryz.prog Yy:=⟨sT,uH,GW,yR,trivial⟩
def arL:Ctx:=CX Yy []
def aff(d p:BCU)(_k:KT):OLR:=match decide (okC 4000 d∧okP 4000 p.2.2.2.2.1)with|true=>(match !(onP (dC d) (dec p.2.2.2.2.1))with|true=>some [RV.d .bool false]|false=>(match decide (okC 4000 d∧okP 4000 p.2.2.2.2.2)with|true=>(match !(onP (dC d) (dec p.2.2.2.2.2))with|true=>some [RV.d .bool false]|false=>(match !d.1 with|true=>some [RV.d .bool true]|false=>(match decide (okP 4000 ((((((hid (dR p)).2).2).2).2).1)∧okP 4000 ((((((hid (dR d)).2).2).2).2).2))with|true=>(match aV (dec ((((((hid (dR p)).2).2).2).2).1)) (dec ((((((hid (dR d)).2).2).2).2).2))==0 with|true=>some [RV.d .bool false]|false=>(match decide (ok Ln 300 ((((hid (dR d)).2).2).1)∧okP 4000 ((((((hid (dR p)).2).2).2).2).1)∧okP 4000 ((((((hid (dR p)).2).2).2).2).2)∧okP 4000 ((((((hid (dR d)).2).2).2).2).2))with|true=>some [RV.d .bool (decide ((eZ bS (ptd (dec ((((hid (dR d)).2).2).1)) (dec ((((((hid (dR p)).2).2).2).2).1))) (ptd (dec ((((hid (dR d)).2).2).1)) (dec ((((((hid (dR p)).2).2).2).2).2))) (ptd (dec ((((hid (dR d)).2).2).1)) (dec ((((((hid (dR d)).2).2).2).2).2))))≤0))]|false=>none))|false=>none)))|false=>none))|false=>none
theorem aoN(d p:BCU):RS arL 129 [.d tCU d,.d tCU p] (aff d p):=rsX
theorem aes(d p:BCU)(h:okC 4000 d∧okC 4000 p):Con Tryz.prog 129 [.d tCU d,.d tCU p] [.d .bool (wi d p)]:=by
 refine aO Pj (aoN _ _ ⟨0,?_⟩)
 obtain⟨hd,hp⟩:=h
 have hd':=Lf hd
 have hp':=Lf hp
 unfold aff wi frB toB fc
 simp only[am]
 rw[dT (show okC 4000 d∧okP 4000 p.2.2.2.2.1 from⟨hd,hp.2.2.1⟩),dT (show okC 4000 d∧okP 4000 p.2.2.2.2.2 from⟨hd,hp.2.2.2⟩)]
 cases onP (dC d) (dec p.2.2.2.2.1)
 ·rfl
 ·cases onP (dC d) (dec p.2.2.2.2.2)
  ·rfl
  ·cases ha:d.1
   ·rfl
   ·rw[dT (show okP 4000 (dR p).2.2.2.2.1∧okP 4000 (dR d).2.2.2.2.2 from⟨hp'.2.2.1,hd'.2.2.2⟩),dT (show ok Ln 300 (dR d).2.2.1∧okP 4000 (dR p).2.2.2.2.1∧okP 4000 (dR p).2.2.2.2.2∧okP 4000 (dR d).2.2.2.2.2 from⟨(hd'.1 ((akI d).trans ha)).1,hp'.2.2.1,hp'.2.2.2,hd'.2.2.2⟩)]
    cases aV (dec (dR p).2.2.2.2.1) (dec (dR d).2.2.2.2.2)==0<;>rfl
def YT:aM:=spN false false [tCU,(.sl tP)] (fun x=>decide (jU x.1 x.2.1)) (fun x=>[RV.d (.sl tCU) (pk x.1 x.2.1),RV.d ayb (am8 x.1 x.2.1)])
theorem UM:SpK 17 YT:=spX fun x h=>aaQ x.1 x.2.1 (auN h)
def QS:aM:=spN true true [tCU,tCU] (fun x=>decide (okC 4000 x.1∧okC 4000 x.2.1)) (fun x=>[RV.d .bool (wi x.1 x.2.1)])
theorem VJ:SpK 129 QS:=spX fun x h=>aes x.1 x.2.1 (auN h)
def UG:Env:=[(17,YT),(129,QS)]
theorem O4:EnvAll Tryz.prog UG:=⟨UM,VJ,trivial⟩
def akm:NT:=[((189,6),{keep:=[0,1,7,8],hl:=2}),((63,5),{keep:=[17],hl:=0}),((127,3),{keep:=[7],hl:=0}),((189,18),{keep:=[0,1,5,7,8,16],hl:=0})]
def Xg:Ctx:=CX UG akm
def n9(c d:BCU)(l:List BP)(s189_8:Int):Cfg:=⟨189,[.blk 0,.seq 25],[(0,.d (.sl tCU) (pk c l)),(1,.clo 128 [1]),(7,SI ((pk c l).length:Int)),(8,SI s189_8)],[.box 43 (Ty.split tCU c),.box 43 (Ty.split tCU d)],2,[⟨127,[.seq 4],3,2,[],2,none⟩,⟨63,[.seq 6],5,2,[],0,none⟩]⟩
def afc(c d:BCU)(l:List BP)(k:KT):OLR:=match decide (jU c l)with|true=>k 6 (n9 c d l 0)|false=>none
theorem ao3(c d:BCU)(l:List BP):RS Xg 63 [.d tCU c,.d tCU d,.d (.sl tP) l] (afc c d l):=rsX
def nF(c d:BCU)(l:List BP)(s189_8:Int)(k:KT):OLR:=match decide (s189_8<((pk c l).length:Int))with|true=>(match bi (pk c l) s189_8 with|some x1=>(match decide (okC 4000 d∧okC 4000 x1)with|true=>(match wi d x1 with|true=>some [RV.d .bool (decide (s189_8≥0))]|false=>k 6 (n9 c d l (i64.wrap (s189_8+1))))|false=>none)|none=>none)|false=>some [RV.d .bool (decide ((-1)≥0))]
theorem uk(c d:BCU)(l:List BP)(s189_8:Int):RN Xg 6 (n9 c d l s189_8) (nF c d l s189_8):=rnX
theorem alJ(c d:BCU)(l:List BP)(h:wy c d l):∀(j i:Nat),i+j=(pk c l).length→Xg.Runs 6 (n9 c d l (i:Int)) [.d .bool (((pk c l).drop i).any (wi d))]:=by
 obtain⟨hn,ho⟩:=adl h.1
 intro j
 induction j with
 |zero=>
  intro i hi
  refine uk _ _ _ _ ⟨0,?_⟩
  unfold nF
  rw[cz (by omega),tw (by omega)]
  rfl
 |succ j ih=>
  intro i hi
  have hil:i<(pk c l).length:=by omega
  obtain⟨n,hn⟩:=ih (i+1) (by omega)
  refine uk _ _ _ _ ⟨n,?_⟩
  unfold nF
  rw[cd hil,aA,auP hil,ju hil,List.any_cons,cr (by omega)]
  dsimp only
  rw[dT (show okC 4000 d∧okC 4000 (pk c l)[i] from⟨h.2,ho _ (avu _)⟩)]
  cases wi d (pk c l)[i]
  ·exact hn
  ·dsimp only
   rw[dT (show(i:Int)≥0 by omega)]
   rfl
theorem acb(c d:BCU)(l:List BP)(h:wy c d l):Con Tryz.prog 63 [.d tCU c,.d tCU d,.d (.sl tP) l] [.d .bool (tX c d l)]:=by
 obtain⟨n,hn⟩:=alJ c d l h (pk c l).length 0 (avw _)
 refine aO O4 (ao3 _ _ _ ⟨n,?_⟩)
 unfold afc
 rw[dT h.1]
 exact hn
end
section
theorem tz{c d:BCU}(h:dQ c d):(iq c d).length≤4∧∀x∈iq c d,okP 4000 x:=by
 obtain⟨⟨h1,h2⟩,h3,h4⟩:=h
 have up:∀{k x},okP k x→k≤4000→okP 4000 x:=fun h hk=>db h hk (by decide)
 unfold iq
 cases hs:cL (dC c) (dC d)
 ·refine⟨?_,fun x hx=>?_⟩
  ·simp only[cond_false,awj]
   have:∀l c,[BdL l]→[BdC c]→(jY l c).length≤4:=fun l c _ _=>ava t4.1 (by decide)
   obtain⟨c1,c2⟩:=pG h2
   obtain⟨d1,d2⟩:=pG h4
   have ec:(dC c).1=c.1:=rfl
   have ed:(dC d).1=d.1:=rfl
   unfold gg
   rw[ec,ed]
   cases ha:c.1<;>cases hb:d.1
   ·have i1:=(c2 ha).1
    have i2:=(d2 hb).1
    exact ava xz.1 (by decide)
   ·have i1:=(c2 ha).1
    have i2:=(d1 hb).1
    exact this _ _
   ·have i1:=(c1 ha).1
    have i2:=(d2 hb).1
    exact this _ _
   ·have i1:=(c1 ha).1
    have i2:=(d1 hb).1
    show(sV _ _).length≤4
    unfold sV
    cases hq:gi (ciC (dC c)) (ciC (dC d))
    ·have i3:BdL (ms (ciC (dC c)) (ciC (dC d))):=xV
     exact this _ _
    ·exact axb _
  ·obtain⟨p,hp,rfl⟩:=awc.1 hx
   obtain⟨b,r,_,_⟩:=RE.supM_on h2 h4 hp
   exact auN (bG (j:=1200) (by decide) (by decide))
 ·refine⟨by simp,fun x hx=>?_⟩
  have:x=c.2.2.2.2.1∨x=c.2.2.2.2.2∨x=d.2.2.2.2.1∨x=d.2.2.2.2.2:=by simpa using hx
  rcases this with e|e|e|e<;>rw[e]
  ·exact up h1.2.2.1 (by decide)
  ·exact up h1.2.2.2 (by decide)
  ·exact up h3.2.2.1 (by decide)
  ·exact up h3.2.2.2 (by decide)
theorem LZ{α:Type}(z:α)(L T:List α):((jq z ((L.length:Int).toNat) ((((L++T).length:Int)).toNat-(L.length:Int).toNat) (L++T)).drop ((0:Int).toNat)).take ((L.length:Int).toNat-(0:Int).toNat)=L∧
  L.length≤(jq z ((L.length:Int).toNat) ((((L++T).length:Int)).toNat-(L.length:Int).toNat) (L++T)).length:=by
 have hcl:(jq z ((L.length:Int).toNat) ((((L++T).length:Int)).toNat-(L.length:Int).toNat) (L++T)).take L.length=L:=by
  unfold jq
  rw[show((L.length:Int)).toNat=L.length by omega,avl,awP (by simp),ax3,Nat.min_self,List.take_left' rfl]
 refine⟨?_,?_⟩
 ·rw[show((0:Int)).toNat=0 from rfl,awv,show((L.length:Int)).toNat-0=L.length by omega,hcl]
 ·have:=congrArg List.length hcl
  rw[avz]at this
  omega
def J9:aM:=spN true false [tCU,tCU,(.sl tP)] (fun x=>decide (wy x.1 x.2.1 x.2.2.1)) (fun x=>[RV.d .bool (tX x.1 x.2.1 x.2.2.1)])
theorem He:SpK 63 J9:=spX fun x h=>acb x.1 x.2.1 x.2.2.1 (auN h)
theorem XA(a b:BCU)(h:fi a b∧cL (dC a) (dC b)=true):Con Tryz.prog 58 [.d tCU a,.d tCU b] [.d .bool true]:=by
 have:=Dt a b h.1
 rw[h.2]at this
 exact this
def Mr:aM:=spN true true [tCU,tCU] (fun x=>decide (fi x.1 x.2.1∧cL (dC x.1) (dC x.2.1)=true)) (fun _=>[RV.d .bool true])
theorem PA:SpK 58 Mr:=spX fun x h=>XA x.1 x.2.1 (auN h)
def WW:Env:=[(58,Mr),(48,Ef),(59,Jn),(54,DA),(63,J9),(61,xw)]
theorem NO:EnvAll Tryz.prog WW:=⟨PA,ze,Fw,zl,He,vm,trivial⟩
def acQ:NT:=[((116,6),{keep:=[0,1,7,8],hl:=4}),((60,16),{keep:=[0,1,5,6],hl:=4}),((22,11),{keep:=[2,3,26,28],hl:=0}),((60,3),{keep:=[0,1,10],hl:=0}),((116,18),{keep:=[0,1,5,7,8,16],hl:=0}),((60,28),{keep:=[0,1,5,6,7,28],hl:=0})]
def ky:Ctx:=CX WW acQ
def jB(c d:BCU)(s116_8:Int):Cfg:=⟨116,[.blk 0,.seq 25],[(0,.own 3),(1,.clo 62 [0,1]),(7,SI (([c.2.2.2.2.1,c.2.2.2.2.2,d.2.2.2.2.1,d.2.2.2.2.2]).length:Int)),(8,SI s116_8)],[.box 43 (Ty.split tCU c),.box 43 (Ty.split tCU d),.gone,.row 41 tP ([c.2.2.2.2.1,c.2.2.2.2.2,d.2.2.2.2.1,d.2.2.2.2.2])],4,[⟨60,[.seq 4],3,2,[(0,.own 3),(1,.clo 62 [0,1])],4,none⟩,⟨22,[.seq 12],11,3,[(2,.box 0 0),(3,.box 1 0),(26,.own 3)],0,none⟩]⟩
def dP(c d:BCU)(s60_5 s60_6:Int)(r60_3:List BP):Cfg:=⟨60,[.blk 0,.seq 35],[(0,.own 3),(1,.clo 62 [0,1]),(5,SI s60_5),(6,SI s60_6)],[.box 43 (Ty.split tCU c),.box 43 (Ty.split tCU d),.gone,.row 41 tP r60_3],4,[⟨22,[.seq 12],11,3,[(2,.box 0 0),(3,.box 1 0),(26,.own 3)],0,none⟩]⟩
def Qv(c d:BCU)(k:KT):OLR:=match decide (fi c d∧cL (dC c) (dC d)=true)with|true=>(match decide (([c.2.2.2.2.1,c.2.2.2.2.2,d.2.2.2.2.1,d.2.2.2.2.2]).length≤100000)with|true=>k 6 (jB c d 0)|false=>none)|false=>none
theorem ajL(c d:BCU):RS ky 22 [.d tCU c,.d tCU d] (Qv c d):=rsX
def iY(c d:BCU)(s116_8:Int)(k:KT):OLR:=match decide (s116_8<(([c.2.2.2.2.1,c.2.2.2.2.2,d.2.2.2.2.1,d.2.2.2.2.2]).length:Int))with|true=>(match bi ([c.2.2.2.2.1,c.2.2.2.2.2,d.2.2.2.2.1,d.2.2.2.2.2]) s116_8 with|some _=>(match true,([c.2.2.2.2.1,c.2.2.2.2.2,d.2.2.2.2.1,d.2.2.2.2.2])[(s116_8).toNat]? with|true,some x1=>(match decide (okC 4000 c∧okP 4000 x1)with|true=>(match !(gO (dC c) (dec x1))with|true=>(match s116_8==(-1)with|true=>(match decide (jU c ([c.2.2.2.2.1,c.2.2.2.2.2,d.2.2.2.2.1,d.2.2.2.2.2]))with|true=>(match decide (fi c d∧cL (dC c) (dC d)=true)with|true=>(match decide (wy c d (c7 (dC c) ([c.2.2.2.2.1,c.2.2.2.2.2,d.2.2.2.2.1,d.2.2.2.2.2])))with|true=>some [RV.d (.sl tP) (c7 (dC c) ([c.2.2.2.2.1,c.2.2.2.2.2,d.2.2.2.2.1,d.2.2.2.2.2])),RV.d .bool (tX c d (c7 (dC c) ([c.2.2.2.2.1,c.2.2.2.2.2,d.2.2.2.2.1,d.2.2.2.2.2])))]|false=>none)|false=>none)|false=>none)|false=>k 16 (dP c d s116_8 (i64.wrap (s116_8+1)) ([c.2.2.2.2.1,c.2.2.2.2.2,d.2.2.2.2.1,d.2.2.2.2.2])))|false=>(match decide (okC 4000 d∧okP 4000 x1)with|true=>(match !(gO (dC d) (dec x1))with|true=>(match s116_8==(-1)with|true=>(match decide (jU c ([c.2.2.2.2.1,c.2.2.2.2.2,d.2.2.2.2.1,d.2.2.2.2.2]))with|true=>(match decide (fi c d∧cL (dC c) (dC d)=true)with|true=>(match decide (wy c d (c7 (dC c) ([c.2.2.2.2.1,c.2.2.2.2.2,d.2.2.2.2.1,d.2.2.2.2.2])))with|true=>some [RV.d (.sl tP) (c7 (dC c) ([c.2.2.2.2.1,c.2.2.2.2.2,d.2.2.2.2.1,d.2.2.2.2.2])),RV.d .bool (tX c d (c7 (dC c) ([c.2.2.2.2.1,c.2.2.2.2.2,d.2.2.2.2.1,d.2.2.2.2.2])))]|false=>none)|false=>none)|false=>none)|false=>k 16 (dP c d s116_8 (i64.wrap (s116_8+1)) ([c.2.2.2.2.1,c.2.2.2.2.2,d.2.2.2.2.1,d.2.2.2.2.2])))|false=>k 6 (jB c d (i64.wrap (s116_8+1))))|false=>none))|false=>none)|_,_=>none)|none=>none)|false=>(match(-1)==(-1)with|true=>(match decide (jU c ([c.2.2.2.2.1,c.2.2.2.2.2,d.2.2.2.2.1,d.2.2.2.2.2]))with|true=>(match decide (fi c d∧cL (dC c) (dC d)=true)with|true=>(match decide (wy c d (c7 (dC c) ([c.2.2.2.2.1,c.2.2.2.2.2,d.2.2.2.2.1,d.2.2.2.2.2])))with|true=>some [RV.d (.sl tP) (c7 (dC c) ([c.2.2.2.2.1,c.2.2.2.2.2,d.2.2.2.2.1,d.2.2.2.2.2])),RV.d .bool (tX c d (c7 (dC c) ([c.2.2.2.2.1,c.2.2.2.2.2,d.2.2.2.2.1,d.2.2.2.2.2])))]|false=>none)|false=>none)|false=>none)|false=>k 16 (dP c d (-1) (i64.wrap ((-1)+1)) ([c.2.2.2.2.1,c.2.2.2.2.2,d.2.2.2.2.1,d.2.2.2.2.2])))
theorem lS(c d:BCU)(s116_8:Int):RN ky 6 (jB c d s116_8) (iY c d s116_8):=rnX
def jd(c d:BCU)(s60_5 s60_6:Int)(r60_3:List BP)(k:KT):OLR:=match decide (s60_6<(r60_3.length:Int))with|true=>(match bi r60_3 s60_6 with|some _=>(match true,r60_3[(s60_6).toNat]? with|true,some x1=>(match decide (okC 4000 c∧okP 4000 x1)with|true=>(match !(gO (dC c) (dec x1))with|true=>k 16 (dP c d s60_5 (i64.wrap (s60_6+1)) r60_3)|false=>(match decide (okC 4000 d∧okP 4000 x1)with|true=>(match !(!(gO (dC d) (dec x1)))with|true=>(match bi r60_3 s60_5 with|some _=>(match true,r60_3[(s60_5).toNat]? with|true,some _=>k 16 (dP c d (i64.wrap (s60_5+1)) (i64.wrap (s60_6+1)) (r60_3.set ((s60_5).toNat) x1))|_,_=>none)|none=>none)|false=>k 16 (dP c d s60_5 (i64.wrap (s60_6+1)) r60_3))|false=>none))|false=>none)|_,_=>none)|none=>none)|false=>(match decide ((0:Int)≤s60_5∧s60_5≤(r60_3.length:Int)∧(r60_3.length:Int)≤(r60_3.length:Int))with|true=>(match decide ((0:Int)≤0∧0≤s60_5∧s60_5≤((jq (Ty.zero tP) ((s60_5:Int).toNat) (((r60_3.length:Int):Int).toNat-(s60_5:Int).toNat) r60_3).length:Int))with|true=>(match decide (jU c (((jq (Ty.zero tP) ((s60_5:Int).toNat) (((r60_3.length:Int):Int).toNat-(s60_5:Int).toNat) r60_3).drop ((0:Int).toNat)).take ((s60_5:Int).toNat-(0:Int).toNat)))with|true=>(match decide (fi c d∧cL (dC c) (dC d)=true)with|true=>(match decide (wy c d (c7 (dC c) (((jq (Ty.zero tP) ((s60_5:Int).toNat) (((r60_3.length:Int):Int).toNat-(s60_5:Int).toNat) r60_3).drop ((0:Int).toNat)).take ((s60_5:Int).toNat-(0:Int).toNat))))with|true=>some [RV.d (.sl tP) (c7 (dC c) (((jq (Ty.zero tP) ((s60_5:Int).toNat) (((r60_3.length:Int):Int).toNat-(s60_5:Int).toNat) r60_3).drop ((0:Int).toNat)).take ((s60_5:Int).toNat-(0:Int).toNat))),RV.d .bool (tX c d (c7 (dC c) (((jq (Ty.zero tP) ((s60_5:Int).toNat) (((r60_3.length:Int):Int).toNat-(s60_5:Int).toNat) r60_3).drop ((0:Int).toNat)).take ((s60_5:Int).toNat-(0:Int).toNat))))]|false=>none)|false=>none)|false=>none)|false=>none)|false=>none)
theorem lZ(c d:BCU)(s60_5 s60_6:Int)(r60_3:List BP):RN ky 16 (dP c d s60_5 s60_6 r60_3) (jd c d s60_5 s60_6 r60_3):=rnX
section
variable (c d:BCU) (h:dQ c d) (hs:cL (dC c) (dC d)=true)
include h hs
theorem GB(L:List BP)(hl:L.length≤4)(ho:∀x∈L,okP 4000 x):(match decide (jU c L)with
  |true=>(match decide (fi c d∧cL (dC c) (dC d)=true)with
   |true=>(match decide (wy c d (c7 (dC c) L))with|true=>some [RV.d (.sl tP) (c7 (dC c) L),RV.d .bool (tX c d (c7 (dC c) L))]|false=>none)
   |false=>none)
  |false=>none)=some [RV.d (.sl tP) (c7 (dC c) L),RV.d .bool (tX c d (c7 (dC c) L))]:=by
 have hc:okC 4000 c:=ck h.1.1 (by decide) (by decide)
 have hd:okC 4000 d:=ck h.2.1 (by decide) (by decide)
 have q:jU c L:=⟨hc,by omega,ho⟩
 have hn:(c7 (dC c) L).length≤L.length:=mB
 have _q2:wy c d (c7 (dC c) L):=⟨⟨hc,by omega,fun x hx=>ho x (eL hx)⟩,hd⟩
 rw[dT q,dT (show fi c d∧cL (dC c) (dC d)=true from⟨⟨h.1.2,h.2.2⟩,hs⟩)]
 dsimp only
 rw[dT _q2]
theorem yA:∀(S:List BP) (L J:List BP),J≠[]→(∀x∈L++(J++S),okP 4000 x)→(L++(J++S)).length≤4→
  ky.Runs 16 (dP c d (L.length:Int) ((L.length+J.length:Nat):Int) (L++(J++S))) [RV.d (.sl tP) (c7 (dC c) (L++S.filter (gc c d))),RV.d .bool (tX c d (c7 (dC c) (L++S.filter (gc c d))))]
 |[],L,J,hJ,hok,h4=>by
  have h4':L.length+J.length≤4:=by simpa using h4
  obtain⟨c1,c2⟩:=LZ (Ty.zero tP) L J
  refine lZ _ _ _ _ _ ⟨0,?_⟩
  unfold jd
  rw[avs,cz (by simp)]
  dsimp only
  rw[dT (show(0:Int)≤(L.length:Int)∧(L.length:Int)≤((L++J).length:Int)∧((L++J).length:Int)≤((L++J).length:Int) by simp only[avv];omega)]
  dsimp only
  rw[dT (show(0:Int)≤0∧0≤(L.length:Int)∧(L.length:Int)≤((jq (Ty.zero tP) ((L.length:Int).toNat) ((((L++J).length:Int)).toNat-(L.length:Int).toNat) (L++J)).length:Int) by omega)]
  dsimp only
  rw[c1,axy,avs]
  exact GB c d h hs L (by omega) fun x hx=>hok x (awb _ hx)
 |q::S,L,J,hJ,hok,h4=>by
  have h4':L.length+(J.length+(S.length+1))≤4:=by simpa using h4
  have hc:okC 4000 c:=ck h.1.1 (by decide) (by decide)
  have hd:okC 4000 d:=ck h.2.1 (by decide) (by decide)
  have hq:okP 4000 q:=hok q (by simp)
  have g1:(L++(J++q::S))[L.length+J.length]?=some q:=by
   have:=nU (L++J) q S
   rw[avv,avl]at this
   exact this
  obtain⟨y,T,rfl⟩:=List.exists_cons_of_ne_nil hJ
  have g2:(L++(y::T++q::S))[L.length]?=some y:=nU L y (T++q::S)
  have hset:(L++(y::T++q::S)).set L.length q=(L++[q])++((T++[q])++S):=by
   have:=C1 y q (T++q::S) L
   rw[show y::T++q::S=y::(T++q::S) from rfl,this]
   simp
  have e2:L++(y::T++q::S)=L++((y::T++[q])++S):=by simp
  have key:∀r n,(match gc c d q with
    |true=>ky.k n 16 (dP c d ((L.length+1:Nat):Int) ((L.length+(y::T).length+1:Nat):Int) ((L++[q])++((T++[q])++S)))
    |false=>ky.k n 16 (dP c d (L.length:Int) ((L.length+(y::T).length+1:Nat):Int) (L++(y::T++q::S))))=some r→
    jd c d (L.length:Int) ((L.length+(y::T).length:Nat):Int) (L++(y::T++q::S)) (ky.k n)=some r:=fun r n hk=>by
   unfold jd
   rw[cd (by simp only[avv,avc];omega),aA,g1,show((L.length+(y::T).length:Nat):Int).toNat=L.length+(y::T).length by omega,g1]
   dsimp only
   rw[dT (show okC 4000 c∧okP 4000 q from⟨hc,hq⟩),dT (show okC 4000 d∧okP 4000 q from⟨hd,hq⟩),cr (k:=L.length+(y::T).length) (by simp only[avc]at*;omega),cr (k:=L.length) (by omega),aA,g2,show((L.length:Nat):Int).toNat=L.length by omega,g2,hset]
   unfold gc at hk
   cases r1:gO (dC c) (dec q)<;>cases r2:gO (dC d) (dec q)<;>rw[r1,r2]at hk<;>exact hk
  rw[awD]
  cases hk:gc c d q
  ·obtain⟨n,hn⟩:=yA S L (y::T++[q]) (by simp) (e2▸hok) (e2▸h4)
   refine lZ _ _ _ _ _ ⟨n,key _ n ?_⟩
   rw[hk,e2]
   rw[avv,avk,←awy]at hn
   exact hn
  ·obtain⟨n,hn⟩:=yA S (L++[q]) (T++[q]) (by simp) (fun x hx=>by
    simp only[avj,au5,awi,axz]at hx
    rcases hx with(hx|hx)|(hx|hx)|hx
    ·exact hok x (by simp[hx])
    ·rw[hx];exact hq
    ·exact hok x (by simp[hx])
    ·rw[hx];exact hq
    ·exact hok x (by simp[hx])) (by simp at h4 ⊢;omega)
   refine lZ _ _ _ _ _ ⟨n,key _ n ?_⟩
   rw[hk]
   have n1:(L++[q]).length=L.length+1:=by simp
   have n2:L.length+1+(T++[q]).length=L.length+(y::T).length+1:=by simp;omega
   rw[n1,n2,avl L [q] (S.filter (gc c d))]at hn
   exact hn
theorem Nd(X:List BP)(hX:[c.2.2.2.2.1,c.2.2.2.2.2,d.2.2.2.2.1,d.2.2.2.2.2]=X)(h4:X.length≤4)(hok:∀x∈X,okP 4000 x):∀(S A:List BP),A++S=X→A.filter (gc c d)=A→
  ky.Runs 6 (jB c d (A.length:Int)) [RV.d (.sl tP) (c7 (dC c) (A++S.filter (gc c d))),RV.d .bool (tX c d (c7 (dC c) (A++S.filter (gc c d))))]
 |[],A,hA,hf=>by
  rw[avs]at hA
  refine lS _ _ _ ⟨0,?_⟩
  unfold iY
  rw[hX,←hA,cz (by omega),axy,avs]
  exact GB c d h hs A (hA▸h4) (hA▸hok)
 |q::S,A,hA,hf=>by
  have hc:okC 4000 c:=ck h.1.1 (by decide) (by decide)
  have hd:okC 4000 d:=ck h.2.1 (by decide) (by decide)
  have hq:okP 4000 q:=hok q (by rw[←hA];simp)
  have g1:X[A.length]?=some q:=by rw[←hA];exact nU A q S
  have hlen:A.length<X.length:=by rw[←hA];simp
  have key:∀r n,(match gc c d q with
    |true=>ky.k n 6 (jB c d ((A.length+1:Nat):Int))
    |false=>ky.k n 16 (dP c d (A.length:Int) ((A.length+1:Nat):Int) X))=some r→
    iY c d (A.length:Int) (ky.k n)=some r:=fun r n hk=>by
   unfold iY
   rw[hX,cd hlen,aA,g1,show((A.length:Nat):Int).toNat=A.length by omega,g1]
   dsimp only
   rw[dT (show okC 4000 c∧okP 4000 q from⟨hc,hq⟩),dT (show okC 4000 d∧okP 4000 q from⟨hd,hq⟩),cr (k:=A.length) (by omega),show((A.length:Int)== -1)=false by rw[awo];omega]
   unfold gc at hk
   cases r1:gO (dC c) (dec q)<;>cases r2:gO (dC d) (dec q)<;>rw[r1,r2]at hk<;>exact hk
  rw[awD]
  cases hk:gc c d q
  ·obtain⟨n,hn⟩:=yA c d h hs S A [q] (by simp) (by rw[aws,hA];exact hok) (by rw[aws,hA];exact h4)
   refine lS _ _ _ ⟨n,key _ n ?_⟩
   rw[hk]
   rw[aws,hA]at hn
   exact hn
  ·obtain⟨n,hn⟩:=Nd X hX h4 hok S (A++[q]) (by rw[avl];exact hA) (by rw[List.filter_append,hf,awD,hk];rfl)
   refine lS _ _ _ ⟨n,key _ n ?_⟩
   rw[hk]
   have n1:(A++[q]).length=A.length+1:=by simp
   rw[n1,avl A [q] (S.filter (gc c d))]at hn
   exact hn
end
theorem Wh(c d:BCU)(h:dQ c d)(hs:cL (dC c) (dC d)=true):Con Tryz.prog 22 [.d tCU c,.d tCU d] [.d (.sl tP) (bL c d),.d .bool (gZ c d)]:=by
 obtain⟨h4,ho⟩:=tz h
 have e:iq c d=[c.2.2.2.2.1,c.2.2.2.2.2,d.2.2.2.2.1,d.2.2.2.2.2]:=by unfold iq;rw[hs];rfl
 rw[e]at h4 ho
 obtain⟨n,hn⟩:=Nd c d h hs _ rfl h4 ho _ [] rfl rfl
 have e2:bL c d=c7 (dC c) (List.filter (gc c d) [c.2.2.2.2.1,c.2.2.2.2.2,d.2.2.2.2.1,d.2.2.2.2.2]):=by unfold bL;rw[e]
 have e3:gZ c d=tX c d (c7 (dC c) (List.filter (gc c d) [c.2.2.2.2.1,c.2.2.2.2.2,d.2.2.2.2.1,d.2.2.2.2.2])):=by unfold gZ;rw[hs,e2];rfl
 rw[e2,e3]
 refine aO NO (ajL _ _ ⟨n,?_⟩)
 unfold Qv
 rw[dT (show fi c d∧cL (dC c) (dC d)=true from⟨⟨h.1.2,h.2.2⟩,hs⟩)]
 dsimp only
 rw[dT (ava h4 (by decide))]
 exact hn
theorem SK(a b:BCU)(h:fi a b∧cL (dC a) (dC b)=false):Con Tryz.prog 58 [.d tCU a,.d tCU b] [.d .bool false]:=by
 have:=Dt a b h.1
 rw[h.2]at this
 exact this
def M1:aM:=spN true true [tCU,tCU] (fun x=>decide (fi x.1 x.2.1∧cL (dC x.1) (dC x.2.1)=false)) (fun _=>[RV.d .bool false])
theorem NN:SpK 58 M1:=spX fun x h=>SK x.1 x.2.1 (auN h)
def WA:Env:=[(58,M1),(48,Ef),(59,Jn),(54,DA),(63,J9),(61,xw)]
theorem Ox:EnvAll Tryz.prog WA:=⟨NN,ze,Fw,zl,He,vm,trivial⟩
def ad7:NT:=[((116,6),{keep:=[0,1,7,8],hl:=3}),((60,16),{keep:=[0,1,5,6],hl:=3}),((22,11),{keep:=[2,3,26,28],hl:=0}),((60,3),{keep:=[0,1,10],hl:=0}),((116,18),{keep:=[0,1,5,7,8,16],hl:=0}),((60,28),{keep:=[0,1,5,6,7,28],hl:=0})]
def lh:Ctx:=CX WA ad7
def jl(c d:BCU)(s116_8:Int):Cfg:=⟨116,[.blk 0,.seq 25],[(0,.own 2),(1,.clo 62 [0,1]),(7,SI (((gg (dC c) (dC d)).map enc).length:Int)),(8,SI s116_8)],[.box 43 (Ty.split tCU c),.box 43 (Ty.split tCU d),.row 41 tP ((gg (dC c) (dC d)).map enc)],3,[⟨60,[.seq 4],3,2,[(0,.own 2),(1,.clo 62 [0,1])],3,none⟩,⟨22,[.seq 12],11,3,[(2,.box 0 0),(3,.box 1 0),(26,.own 2)],0,none⟩]⟩
def dO(c d:BCU)(s60_5 s60_6:Int)(r60_2:List BP):Cfg:=⟨60,[.blk 0,.seq 35],[(0,.own 2),(1,.clo 62 [0,1]),(5,SI s60_5),(6,SI s60_6)],[.box 43 (Ty.split tCU c),.box 43 (Ty.split tCU d),.row 41 tP r60_2],3,[⟨22,[.seq 12],11,3,[(2,.box 0 0),(3,.box 1 0),(26,.own 2)],0,none⟩]⟩
def YI(c d:BCU)(k:KT):OLR:=match decide (fi c d∧cL (dC c) (dC d)=false)with|true=>(match decide (fi c d)with|true=>(match decide (((gg (dC c) (dC d)).map enc).length≤100000)with|true=>k 6 (jl c d 0)|false=>none)|false=>none)|false=>none
theorem ai7(c d:BCU):RS lh 22 [.d tCU c,.d tCU d] (YI c d):=rsX
def i7(c d:BCU)(s116_8:Int)(k:KT):OLR:=match decide (s116_8<(((gg (dC c) (dC d)).map enc).length:Int))with|true=>(match bi ((gg (dC c) (dC d)).map enc) s116_8 with|some _=>(match true,((gg (dC c) (dC d)).map enc)[(s116_8).toNat]? with|true,some x1=>(match decide (okC 4000 c∧okP 4000 x1)with|true=>(match !(gO (dC c) (dec x1))with|true=>(match s116_8==(-1)with|true=>(match decide (jU c ((gg (dC c) (dC d)).map enc))with|true=>(match decide (fi c d∧cL (dC c) (dC d)=false)with|true=>some [RV.d (.sl tP) (c7 (dC c) ((gg (dC c) (dC d)).map enc)),RV.d .bool false]|false=>none)|false=>none)|false=>k 16 (dO c d s116_8 (i64.wrap (s116_8+1)) ((gg (dC c) (dC d)).map enc)))|false=>(match decide (okC 4000 d∧okP 4000 x1)with|true=>(match !(gO (dC d) (dec x1))with|true=>(match s116_8==(-1)with|true=>(match decide (jU c ((gg (dC c) (dC d)).map enc))with|true=>(match decide (fi c d∧cL (dC c) (dC d)=false)with|true=>some [RV.d (.sl tP) (c7 (dC c) ((gg (dC c) (dC d)).map enc)),RV.d .bool false]|false=>none)|false=>none)|false=>k 16 (dO c d s116_8 (i64.wrap (s116_8+1)) ((gg (dC c) (dC d)).map enc)))|false=>k 6 (jl c d (i64.wrap (s116_8+1))))|false=>none))|false=>none)|_,_=>none)|none=>none)|false=>(match(-1)==(-1)with|true=>(match decide (jU c ((gg (dC c) (dC d)).map enc))with|true=>(match decide (fi c d∧cL (dC c) (dC d)=false)with|true=>some [RV.d (.sl tP) (c7 (dC c) ((gg (dC c) (dC d)).map enc)),RV.d .bool false]|false=>none)|false=>none)|false=>k 16 (dO c d (-1) (i64.wrap ((-1)+1)) ((gg (dC c) (dC d)).map enc)))
theorem lR(c d:BCU)(s116_8:Int):RN lh 6 (jl c d s116_8) (i7 c d s116_8):=rnX
def jh(c d:BCU)(s60_5 s60_6:Int)(r60_2:List BP)(k:KT):OLR:=match decide (s60_6<(r60_2.length:Int))with|true=>(match bi r60_2 s60_6 with|some _=>(match true,r60_2[(s60_6).toNat]? with|true,some x1=>(match decide (okC 4000 c∧okP 4000 x1)with|true=>(match !(gO (dC c) (dec x1))with|true=>k 16 (dO c d s60_5 (i64.wrap (s60_6+1)) r60_2)|false=>(match decide (okC 4000 d∧okP 4000 x1)with|true=>(match !(!(gO (dC d) (dec x1)))with|true=>(match bi r60_2 s60_5 with|some _=>(match true,r60_2[(s60_5).toNat]? with|true,some _=>k 16 (dO c d (i64.wrap (s60_5+1)) (i64.wrap (s60_6+1)) (r60_2.set ((s60_5).toNat) x1))|_,_=>none)|none=>none)|false=>k 16 (dO c d s60_5 (i64.wrap (s60_6+1)) r60_2))|false=>none))|false=>none)|_,_=>none)|none=>none)|false=>(match decide ((0:Int)≤s60_5∧s60_5≤(r60_2.length:Int)∧(r60_2.length:Int)≤(r60_2.length:Int))with|true=>(match decide ((0:Int)≤0∧0≤s60_5∧s60_5≤((jq (Ty.zero tP) ((s60_5:Int).toNat) (((r60_2.length:Int):Int).toNat-(s60_5:Int).toNat) r60_2).length:Int))with|true=>(match decide (jU c (((jq (Ty.zero tP) ((s60_5:Int).toNat) (((r60_2.length:Int):Int).toNat-(s60_5:Int).toNat) r60_2).drop ((0:Int).toNat)).take ((s60_5:Int).toNat-(0:Int).toNat)))with|true=>(match decide (fi c d∧cL (dC c) (dC d)=false)with|true=>some [RV.d (.sl tP) (c7 (dC c) (((jq (Ty.zero tP) ((s60_5:Int).toNat) (((r60_2.length:Int):Int).toNat-(s60_5:Int).toNat) r60_2).drop ((0:Int).toNat)).take ((s60_5:Int).toNat-(0:Int).toNat))),RV.d .bool false]|false=>none)|false=>none)|false=>none)|false=>none)
theorem l8(c d:BCU)(s60_5 s60_6:Int)(r60_2:List BP):RN lh 16 (dO c d s60_5 s60_6 r60_2) (jh c d s60_5 s60_6 r60_2):=rnX
section
variable (c d:BCU) (h:dQ c d) (hs:cL (dC c) (dC d)=false)
include h hs
theorem Hh(L:List BP)(hl:L.length≤4)(ho:∀x∈L,okP 4000 x):(match decide (jU c L)with
  |true=>(match decide (fi c d∧cL (dC c) (dC d)=false)with
   |true=>some [RV.d (.sl tP) (c7 (dC c) L),RV.d .bool false]
   |false=>none)
  |false=>none)=some [RV.d (.sl tP) (c7 (dC c) L),RV.d .bool (false)]:=by
 have hc:okC 4000 c:=ck h.1.1 (by decide) (by decide)
 have hd:okC 4000 d:=ck h.2.1 (by decide) (by decide)
 have q:jU c L:=⟨hc,by omega,ho⟩
 have hn:(c7 (dC c) L).length≤L.length:=mB
 have _q2:wy c d (c7 (dC c) L):=⟨⟨hc,by omega,fun x hx=>ho x (eL hx)⟩,hd⟩
 rw[dT q,dT (show fi c d∧cL (dC c) (dC d)=false from⟨⟨h.1.2,h.2.2⟩,hs⟩)]
theorem xO:∀(S:List BP) (L J:List BP),J≠[]→(∀x∈L++(J++S),okP 4000 x)→(L++(J++S)).length≤4→
  lh.Runs 16 (dO c d (L.length:Int) ((L.length+J.length:Nat):Int) (L++(J++S))) [RV.d (.sl tP) (c7 (dC c) (L++S.filter (gc c d))),RV.d .bool (false)]
 |[],L,J,hJ,hok,h4=>by
  have h4':L.length+J.length≤4:=by simpa using h4
  obtain⟨c1,c2⟩:=LZ (Ty.zero tP) L J
  refine l8 _ _ _ _ _ ⟨0,?_⟩
  unfold jh
  rw[avs,cz (by simp)]
  dsimp only
  rw[dT (show(0:Int)≤(L.length:Int)∧(L.length:Int)≤((L++J).length:Int)∧((L++J).length:Int)≤((L++J).length:Int) by simp only[avv];omega)]
  dsimp only
  rw[dT (show(0:Int)≤0∧0≤(L.length:Int)∧(L.length:Int)≤((jq (Ty.zero tP) ((L.length:Int).toNat) ((((L++J).length:Int)).toNat-(L.length:Int).toNat) (L++J)).length:Int) by omega)]
  dsimp only
  rw[c1,axy,avs]
  exact Hh c d h hs L (by omega) fun x hx=>hok x (awb _ hx)
 |q::S,L,J,hJ,hok,h4=>by
  have h4':L.length+(J.length+(S.length+1))≤4:=by simpa using h4
  have hc:okC 4000 c:=ck h.1.1 (by decide) (by decide)
  have hd:okC 4000 d:=ck h.2.1 (by decide) (by decide)
  have hq:okP 4000 q:=hok q (by simp)
  have g1:(L++(J++q::S))[L.length+J.length]?=some q:=by
   have:=nU (L++J) q S
   rw[avv,avl]at this
   exact this
  obtain⟨y,T,rfl⟩:=List.exists_cons_of_ne_nil hJ
  have g2:(L++(y::T++q::S))[L.length]?=some y:=nU L y (T++q::S)
  have hset:(L++(y::T++q::S)).set L.length q=(L++[q])++((T++[q])++S):=by
   have:=C1 y q (T++q::S) L
   rw[show y::T++q::S=y::(T++q::S) from rfl,this]
   simp
  have e2:L++(y::T++q::S)=L++((y::T++[q])++S):=by simp
  have key:∀r n,(match gc c d q with
    |true=>lh.k n 16 (dO c d ((L.length+1:Nat):Int) ((L.length+(y::T).length+1:Nat):Int) ((L++[q])++((T++[q])++S)))
    |false=>lh.k n 16 (dO c d (L.length:Int) ((L.length+(y::T).length+1:Nat):Int) (L++(y::T++q::S))))=some r→
    jh c d (L.length:Int) ((L.length+(y::T).length:Nat):Int) (L++(y::T++q::S)) (lh.k n)=some r:=fun r n hk=>by
   unfold jh
   rw[cd (by simp only[avv,avc];omega),aA,g1,show((L.length+(y::T).length:Nat):Int).toNat=L.length+(y::T).length by omega,g1]
   dsimp only
   rw[dT (show okC 4000 c∧okP 4000 q from⟨hc,hq⟩),dT (show okC 4000 d∧okP 4000 q from⟨hd,hq⟩),cr (k:=L.length+(y::T).length) (by simp only[avc]at*;omega),cr (k:=L.length) (by omega),aA,g2,show((L.length:Nat):Int).toNat=L.length by omega,g2,hset]
   unfold gc at hk
   cases r1:gO (dC c) (dec q)<;>cases r2:gO (dC d) (dec q)<;>rw[r1,r2]at hk<;>exact hk
  rw[awD]
  cases hk:gc c d q
  ·obtain⟨n,hn⟩:=xO S L (y::T++[q]) (by simp) (e2▸hok) (e2▸h4)
   refine l8 _ _ _ _ _ ⟨n,key _ n ?_⟩
   rw[hk,e2]
   rw[avv,avk,←awy]at hn
   exact hn
  ·obtain⟨n,hn⟩:=xO S (L++[q]) (T++[q]) (by simp) (fun x hx=>by
    simp only[avj,au5,awi,axz]at hx
    rcases hx with(hx|hx)|(hx|hx)|hx
    ·exact hok x (by simp[hx])
    ·rw[hx];exact hq
    ·exact hok x (by simp[hx])
    ·rw[hx];exact hq
    ·exact hok x (by simp[hx])) (by simp at h4 ⊢;omega)
   refine l8 _ _ _ _ _ ⟨n,key _ n ?_⟩
   rw[hk]
   have n1:(L++[q]).length=L.length+1:=by simp
   have n2:L.length+1+(T++[q]).length=L.length+(y::T).length+1:=by simp;omega
   rw[n1,n2,avl L [q] (S.filter (gc c d))]at hn
   exact hn
theorem Lk(X:List BP)(hX:((gg (dC c) (dC d)).map enc)=X)(h4:X.length≤4)(hok:∀x∈X,okP 4000 x):∀(S A:List BP),A++S=X→A.filter (gc c d)=A→
  lh.Runs 6 (jl c d (A.length:Int)) [RV.d (.sl tP) (c7 (dC c) (A++S.filter (gc c d))),RV.d .bool (false)]
 |[],A,hA,hf=>by
  rw[avs]at hA
  refine lR _ _ _ ⟨0,?_⟩
  unfold i7
  rw[hX,←hA,cz (by omega),axy,avs]
  exact Hh c d h hs A (hA▸h4) (hA▸hok)
 |q::S,A,hA,hf=>by
  have hc:okC 4000 c:=ck h.1.1 (by decide) (by decide)
  have hd:okC 4000 d:=ck h.2.1 (by decide) (by decide)
  have hq:okP 4000 q:=hok q (by rw[←hA];simp)
  have g1:X[A.length]?=some q:=by rw[←hA];exact nU A q S
  have hlen:A.length<X.length:=by rw[←hA];simp
  have key:∀r n,(match gc c d q with
    |true=>lh.k n 6 (jl c d ((A.length+1:Nat):Int))
    |false=>lh.k n 16 (dO c d (A.length:Int) ((A.length+1:Nat):Int) X))=some r→
    i7 c d (A.length:Int) (lh.k n)=some r:=fun r n hk=>by
   unfold i7
   rw[hX,cd hlen,aA,g1,show((A.length:Nat):Int).toNat=A.length by omega,g1]
   dsimp only
   rw[dT (show okC 4000 c∧okP 4000 q from⟨hc,hq⟩),dT (show okC 4000 d∧okP 4000 q from⟨hd,hq⟩),cr (k:=A.length) (by omega),show((A.length:Int)== -1)=false by rw[awo];omega]
   unfold gc at hk
   cases r1:gO (dC c) (dec q)<;>cases r2:gO (dC d) (dec q)<;>rw[r1,r2]at hk<;>exact hk
  rw[awD]
  cases hk:gc c d q
  ·obtain⟨n,hn⟩:=xO c d h hs S A [q] (by simp) (by rw[aws,hA];exact hok) (by rw[aws,hA];exact h4)
   refine lR _ _ _ ⟨n,key _ n ?_⟩
   rw[hk]
   rw[aws,hA]at hn
   exact hn
  ·obtain⟨n,hn⟩:=Lk X hX h4 hok S (A++[q]) (by rw[avl];exact hA) (by rw[List.filter_append,hf,awD,hk];rfl)
   refine lR _ _ _ ⟨n,key _ n ?_⟩
   rw[hk]
   have n1:(A++[q]).length=A.length+1:=by simp
   rw[n1,avl A [q] (S.filter (gc c d))]at hn
   exact hn
end
theorem Yo(c d:BCU)(h:dQ c d)(hs:cL (dC c) (dC d)=false):Con Tryz.prog 22 [.d tCU c,.d tCU d] [.d (.sl tP) (bL c d),.d .bool (gZ c d)]:=by
 obtain⟨h4,ho⟩:=tz h
 have e:iq c d=((gg (dC c) (dC d)).map enc):=by unfold iq;rw[hs];rfl
 rw[e]at h4 ho
 obtain⟨n,hn⟩:=Lk c d h hs _ rfl h4 ho _ [] rfl rfl
 have e2:bL c d=c7 (dC c) (List.filter (gc c d) ((gg (dC c) (dC d)).map enc)):=by unfold bL;rw[e]
 have e3:gZ c d=false:=by unfold gZ;rw[hs,e2];rfl
 rw[e2,e3]
 refine aO Ox (ai7 _ _ ⟨n,?_⟩)
 unfold YI
 rw[dT (show fi c d∧cL (dC c) (dC d)=false from⟨⟨h.1.2,h.2.2⟩,hs⟩)]
 dsimp only
 rw[dT (show fi c d from⟨h.1.2,h.2.2⟩)]
 dsimp only
 rw[dT (ava h4 (by decide))]
 exact hn
theorem acK(c d:BCU)(h:dQ c d):Con Tryz.prog 22 [.d tCU c,.d tCU d] [.d (.sl tP) (bL c d),.d .bool (gZ c d)]:=by
 cases hs:cL (dC c) (dC d)
 ·exact Yo c d h hs
 ·exact Wh c d h hs
end
section
open RE
theorem Fa{α:Type}{R:α→α→Prop}:∀{l:List α},l.Pairwise R→∀{a b},a∈l→b∈l→a=b∨R a b∨R b a
 |[],_,_,_,ha,_=>by cases ha
 |x::r,h,a,b,ha,hb=>by
  obtain⟨h1,h2⟩:=avh.1 h
  rcases au5.1 ha with e|e<;>rcases au5.1 hb with g|g
  ·exact .inl (by rw[e,g])
  ·rw[e];exact .inr (.inl (h1 b g))
  ·rw[g];exact .inr (.inr (h1 a e))
  ·exact Fa h2 e g
theorem MS{c:Cv}(o:aeb c):∀{L:List BP},(∀x∈L,Spb c x)→p7 c L=false→L.Pairwise fun a b=>¬cj c (dec a) (dec b)<0
 |[],_,_=>by simp
 |[_],_,_=>by simp
 |x::y::r,hs,h=>by
  have h:(decide (cj c (dec x) (dec y)<0)||p7 c (y::r))=false:=h
  obtain⟨h1,h2⟩:=aw5.1 h
  have h1:=av0 h1
  have hy:=hs y (by simp)
  have hx:=hs x (by simp)
  have ih:=MS o (fun z hz=>hs z (au4 _ hz)) h2
  refine avh.2 ⟨fun z hz=>?_,ih⟩
  rcases au5.1 hz with e|e
  ·rw[e];exact h1
  ·exact o.lt (hs z (by simp[e])) hy hx ((avh.1 ih).1 z e) h1
theorem Mx{c e:Cv}:∀{L:List BP},oL e L→p7 c L=true→∃a b,a∈L∧b∈L∧cj e (dec a) (dec b)<0∧cj c (dec a) (dec b)<0
 |[],_,h=>by cases h
 |[_],_,h=>by cases h
 |x::y::r,hp,h=>by
  have h:(decide (cj c (dec x) (dec y)<0)||p7 c (y::r))=true:=h
  obtain⟨h1,h2⟩:=avh.1 hp
  rcases Bool.or_eq_true_iff.1 h with g|g
  ·exact⟨x,y,by simp,by simp,h1 y (by simp),auN g⟩
  ·obtain⟨a,b,q1,q2,q3,q4⟩:=Mx h2 g
   exact⟨a,b,au4 _ q1,au4 _ q2,q3,q4⟩
theorem Xb{c e:Cv}(o:aeb c)(oe:aeb e){L:List BP}(hs:∀x∈L,Spb c x)(hse:∀x∈L,Spb e x)(hp:oL e L):
  p7 c L=true↔∃a b,a∈L∧b∈L∧cj e (dec a) (dec b)<0∧cj c (dec a) (dec b)<0:=by
 refine⟨Mx hp,fun⟨a,b,ha,hb,h1,h2⟩=>?_⟩
 cases h:p7 c L with
 |true=>rfl
 |false=>
  have pw:=MS o hs h
  rcases Fa (List.Pairwise.and hp pw) ha hb with g|g|g
  ·rw[g]at h1
   have:=oe.asy (hse b hb) (hse b hb) h1
   omega
  ·exact absurd h2 g.2
  ·have:=oe.asy (hse a ha) (hse b hb) h1
   omega
theorem amo{A B:List BP}(h:eqL A B):(∀a∈A,∃b∈B,aV (dec a) (dec b)=0)∧∀b∈B,∃a∈A,aV (dec a) (dec b)=0:=by
 obtain⟨h1,h2⟩:=h
 constructor
 ·intro a ha
  obtain⟨i,hi⟩:=List.getElem?_of_mem ha
  have hlt:=(au1.1 hi).1
  have hb:B[i]?=some B[i]:=auP (by omega)
  exact⟨_,avq hb,h2 i a _ hi hb⟩
 ·intro b hb
  obtain⟨i,hi⟩:=List.getElem?_of_mem hb
  have hlt:=(au1.1 hi).1
  have ha:A[i]?=some A[i]:=auP (by omega)
  exact⟨_,avq ha,h2 i _ b ha hi⟩
theorem yl{c p:BCU}{t:BP}:∀{N:List BP},p∈jG c N→p∈jG c (N++[t])
 |[],h=>by cases h
 |[_],h=>by cases h
 |x::y::r,h=>by
  have h:p∈pg c x y::jG c (y::r):=h
  show p∈pg c x y::jG c (y::r++[t])
  rcases au5.1 h with e|e
  ·rw[e];simp
  ·exact au4 _ (yl e)
theorem xM{c p:BCU}{f:BP}:∀{N:List BP},p∈jG c N→p∈jG c (f::N)
 |[],h=>by cases h
 |[_],h=>by cases h
 |x::y::r,h=>by
  show p∈pg c f x::jG c (x::y::r)
  exact au4 _ h
def D6(c d:BCU)(S:List BP):Prop:=∃a b,a∈S∧b∈S∧cj (dC c) (dec a) (dec b)<0∧cj (dC (ip c d)) (dec a) (dec b)<0
theorem w8{c d:BCU}(hd:gdN d):gdN (ip c d):=by
 unfold ip
 cases qh c d
 ·exact hd
 ·exact hd.rev
theorem d9{c d:BCU}{x:BP}(h:Spb (dC d) x):Spb (dC (ip c d)) x:=by
 unfold ip
 cases qh c d
 ·exact h
 ·exact⟨h.1,h.2⟩
theorem mS{c d:BCU}(hc:gdN c)(hd:gdN d):gZ c d=true↔cL (dC c) (dC d)=true∧D6 c d (bL c d):=by
 have kc:=hc.crp
 have kd:=hd.crp
 unfold gZ
 rw[au6]
 refine and_congr_right fun hs=>?_
 have hs':=nQ hs
 have ho:∀x∈bL c d,Rpd (dec x:Pt)∧onR (dC c) (dec x)=true:=fun x hx=>by
  obtain⟨_,_,s1,_,o1,_⟩:=fE hc hd hx
  exact⟨s1.1,o1⟩
 have oD:=qy (w8 (c:=c) hd).crp
 have oc:=qy kc
 have spM:=K4 hc ho
 have spD:∀x∈iC c (bL c d),Spb (dC d) x:=fun x hx=>by
  have:=(spM x hx).1.1
  exact⟨this,nZ kc hs (spM x hx).1.2⟩
 have rep:∀x,Spb (dC c) x→Spb (dC d) x→onR (dC d) (dec x)=true→x∈iC c (bL c d)→∃y∈bL c d,aV (dec y) (dec x)=0:=fun x s1 s2 o2 hx=>by
  have r:=s1.1
  obtain⟨_,p2⟩:=wI kc hc.ne (Ir hc hd)
  have cas:x∈iq c d∨x∈bL c d:=by
   unfold iq
   rw[hs]
   rcases E0 hx with e|e|⟨e,_⟩
   ·left;rw[e];simp
   ·left;rw[e];simp
   ·right;exact eL e
  rcases cas with g|g
  ·exact p2 x (awk.2 ⟨g,Mh hc hd r (spM x hx).2 o2⟩)
  ·exact⟨x,g,AP r⟩
 have e0:tX c d (bL c d)=(jG c (iC c (bL c d))).any (wi d):=by
  unfold tX pk
  rw[aj8 hc ho,cond_false,SZ]
 rw[e0]
 constructor
 ·intro h
  obtain⟨p,hp,hcv⟩:=List.any_eq_true.1 h
  obtain⟨x,y,hx,hy,hxy,rfl⟩:=JY (K9 hc ho) hp
  rw[KM hc hd hs (spD x hx) (spD y hy) hxy]at hcv
  obtain⟨h12,h3⟩:=au6.1 hcv
  obtain⟨h1,h2⟩:=au6.1 h12
  have h3:=auN h3
  obtain⟨a,ha,ea⟩:=rep x (spM x hx).1 (spD x hx) h1 hx
  obtain⟨b,hb,eb⟩:=rep y (spM y hy).1 (spD y hy) h2 hy
  obtain⟨_,_,sa,sa',_,_⟩:=fE hc hd ha
  obtain⟨_,_,sb,sb',_,_⟩:=fE hc hd hb
  refine⟨a,b,ha,hb,?_,?_⟩
  ·rw[(eM kc sa (spM x hx).1 sb ea).1,(eM kc sb (spM y hy).1 (spM x hx).1 eb).2]
   exact hxy
  ·have kD:=(w8 (c:=c) hd).crp
   rw[(eM kD (d9 sa') (d9 (spD x hx)) (d9 sb') ea).1,(eM kD (d9 sb') (d9 (spD y hy)) (d9 (spD x hx)) eb).2]
   exact h3
 ·rintro ⟨a,b,ha,hb,h1,h2⟩
  cases hany:(jG c (iC c (bL c d))).any (wi d)with
  |true=>rfl
  |false=>
   have nocov:=List.any_eq_false.1 hany
   have pw:=K9 hc ho
   have part:∀N:List BP,(∀x∈N,x∈iC c (bL c d)∧onR (dC d) (dec x)=true)→oL (dC c) N→(∀p∈jG c N,¬wi d p=true)→p7 (dC (ip c d)) N=false:=by
    intro N
    induction N with
    |nil=>intro _ _ _;rfl
    |cons x r ih=>
     intro hN hpw hnc
     cases r with
     |nil=>rfl
     |cons y r=>
      obtain⟨q1,q2⟩:=avh.1 hpw
      have hx:=hN x (by simp)
      have hy:=hN y (by simp)
      have h0:=hnc (pg c x y) (by show _∈pg c x y::jG c (y::r);simp)
      rw[KM hc hd hs (spD x hx.1) (spD y hy.1) (q1 y (by simp)),hx.2,hy.2,auS,auS]at h0
      show(decide _||p7 (dC (ip c d)) (y::r))=false
      rw[Bool.eq_false_iff.2 h0,Bool.false_or]
      exact ih (fun z hz=>hN z (au4 _ hz)) q2 fun p hp=>hnc p (xM hp)
   have onmid:∀x∈wz c (c7 (dC c) (bL c d)),onR (dC d) (dec x)=true:=fun x hx=>(fE hc hd (eL (awk.1 hx).1)).2.2.2.2.2
   have hpwD:∀x y,x∈iC c (bL c d)→y∈iC c (bL c d)→onR (dC d) (dec x)=true→onR (dC d) (dec y)=true→cj (dC c) (dec x) (dec y)<0→¬cj (dC (ip c d)) (dec x) (dec y)<0:=by
    have fin:∀N:List BP,(∀x∈N,x∈iC c (bL c d)∧onR (dC d) (dec x)=true)→oL (dC c) N→(∀p∈jG c N,¬wi d p=true)→∀x y,x∈N→y∈N→cj (dC c) (dec x) (dec y)<0→¬cj (dC (ip c d)) (dec x) (dec y)<0:=fun N hN hpw hnc x y hx hy hxy h=>by
     have:=part N hN hpw hnc
     rw[(Xb oD oc (fun z hz=>d9 (spD z (hN z hz).1)) (fun z hz=>(spM z (hN z hz).1).1) hpw).2 ⟨x,y,hx,hy,hxy,h⟩]at this
     cases this
    intro x y hx hy ox oy
    have ex:iC c (bL c d)=c.2.2.2.2.1::(wz c (c7 (dC c) (bL c d))++[c.2.2.2.2.2]):=rfl
    have sub1:(wz c (c7 (dC c) (bL c d))++[c.2.2.2.2.2]).Sublist (iC c (bL c d)):=List.sublist_cons_self _ _
    have sub2:(c.2.2.2.2.1::wz c (c7 (dC c) (bL c d))).Sublist (iC c (bL c d)):=(List.sublist_append_left _ _).cons_cons _
    have sub3:(wz c (c7 (dC c) (bL c d))).Sublist (iC c (bL c d)):=(List.sublist_append_left _ _).trans sub1
    cases of_:onR (dC d) (dec c.2.2.2.2.1)<;>cases ot:onR (dC d) (dec c.2.2.2.2.2)
    ·have inm:∀z,z∈iC c (bL c d)→onR (dC d) (dec z)=true→z∈wz c (c7 (dC c) (bL c d)):=fun z hz oz=>by
      rw[ex]at hz
      rcases au5.1 hz with e|e
      ·rw[e,of_]at oz;cases oz
      ·rcases avj.1 e with e|e
       ·exact e
       ·rw[avR.1 e,ot]at oz;cases oz
     exact fin _ (fun z hz=>⟨sub3.subset hz,onmid z hz⟩) (pw.sublist sub3) (fun p hp=>nocov p (by rw[ex];exact xM (yl hp))) x y (inm x hx ox) (inm y hy oy)
    ·have inm:∀z,z∈iC c (bL c d)→onR (dC d) (dec z)=true→z∈wz c (c7 (dC c) (bL c d))++[c.2.2.2.2.2]:=fun z hz oz=>by
      rw[ex]at hz
      rcases au5.1 hz with e|e
      ·rw[e,of_]at oz;cases oz
      ·exact e
     exact fin _ (fun z hz=>⟨sub1.subset hz,by
      rcases avj.1 hz with e|e
      ·exact onmid z e
      ·rw[avR.1 e];exact ot⟩) (pw.sublist sub1) (fun p hp=>nocov p (by rw[ex];exact xM hp)) x y (inm x hx ox) (inm y hy oy)
    ·have inm:∀z,z∈iC c (bL c d)→onR (dC d) (dec z)=true→z∈c.2.2.2.2.1::wz c (c7 (dC c) (bL c d)):=fun z hz oz=>by
      rw[ex]at hz
      rcases au5.1 hz with e|e
      ·rw[e];simp
      ·rcases avj.1 e with e|e
       ·exact au4 _ e
       ·rw[avR.1 e,ot]at oz;cases oz
     exact fin _ (fun z hz=>⟨sub2.subset hz,by
      rcases au5.1 hz with e|e
      ·rw[e];exact of_
      ·exact onmid z e⟩) (pw.sublist sub2) (fun p hp=>nocov p (by rw[ex,←List.cons_append];exact yl hp)) x y (inm x hx ox) (inm y hy oy)
    ·exact fin _ (fun z hz=>⟨hz,by
      rw[ex]at hz
      rcases au5.1 hz with e|e
      ·rw[e];exact of_
      ·rcases avj.1 e with e|e
       ·exact onmid z e
       ·rw[avR.1 e];exact ot⟩) pw nocov x y hx hy
   have inc:∀z,z∈bL c d→∃y∈iC c (bL c d),aV (dec z) (dec y)=0:=fun z hz=>by
    have rz:=(ho z hz).1
    obtain⟨y,hy,ey⟩:=(VP hc ho).2 z hz
    have ry:=(ho y (eL hy)).1
    cases h1:fc y c.2.2.2.2.1
    ·cases h2:fc y c.2.2.2.2.2
     ·refine⟨y,?_,iJ ey⟩
      unfold iC
      refine au4 _ (awb _ (awk.2 ⟨hy,?_⟩))
      rw[h1,h2]
      rfl
     ·have g:=avQ.1 h2
      have rt:=hc.crp.t.1
      exact⟨c.2.2.2.2.2,by unfold iC;simp,FY (r:=toC (dC c)) (iJ ey) g⟩
    ·have g:=avQ.1 h1
     have rf:=hc.crp.f.1
     exact⟨c.2.2.2.2.1,by unfold iC;simp,FY (r:=frC (dC c)) (iJ ey) g⟩
   obtain⟨x,hx,ex⟩:=inc a ha
   obtain⟨y,hy,ey⟩:=inc b hb
   obtain⟨_,_,sa,sa',_,oa⟩:=fE hc hd ha
   obtain⟨_,_,sb,sb',_,ob⟩:=fE hc hd hb
   have kD:=(w8 (c:=c) hd).crp
   have f1:onR (dC d) (dec x)=true:=by rw[←xq kd sa.1 (spM x hx).1.1 ex];exact oa
   have f2:onR (dC d) (dec y)=true:=by rw[←xq kd sb.1 (spM y hy).1.1 ey];exact ob
   rw[(eM kc sa (spM x hx).1 sb ex).1,(eM kc sb (spM y hy).1 (spM x hx).1 ey).2]at h1
   rw[(eM kD (d9 sa') (d9 (spD x hx)) (d9 sb') ex).1,(eM kD (d9 sb') (d9 (spD y hy)) (d9 (spD x hx)) ey).2]at h2
   exact absurd h2 (hpwD x y hx hy f1 f2 h1)
theorem Em{c d:BCU}(hc:gdN c)(hd:gdN d){A B:List BP}(hA:∀x∈A,Spb (dC c) x∧Spb (dC d) x)(hB:∀x∈B,Spb (dC c) x∧Spb (dC d) x)(e:∀a∈A,∃b∈B,aV (dec a) (dec b)=0)(h:D6 c d A):D6 c d B:=by
 have kc:=hc.crp
 have kD:=(w8 (c:=c) hd).crp
 obtain⟨a,b,ha,hb,h1,h2⟩:=h
 obtain⟨x,hx,ex⟩:=e a ha
 obtain⟨y,hy,ey⟩:=e b hb
 rw[(eM kc (hA a ha).1 (hB x hx).1 (hA b hb).1 ex).1,(eM kc (hA b hb).1 (hB y hy).1 (hB x hx).1 ey).2]at h1
 rw[(eM kD (d9 (hA a ha).2) (d9 (hB x hx).2) (d9 (hA b hb).2) ex).1,(eM kD (d9 (hA b hb).2) (d9 (hB y hy).2) (d9 (hB x hx).2) ey).2]at h2
 exact⟨x,y,hx,hy,h1,h2⟩
theorem dB{c d:BCU}(hc:gdN c)(hd:gdN d){x:BP}(hx:x∈bL c d):Spb (dC c) x∧Spb (dC d) x:=by
 obtain⟨_,_,s1,s2,_⟩:=fE hc hd hx
 exact⟨s1,s2⟩
end
def Ay(c:Cv):Bool:=(c.1||!cwC c)&&(em c (frC c)&&(em c (toC c)&&!(aV (frC c) (toC c)==0)))
def rv(c d:Cv):Bool:=cL c d&&(cwC c==cwC d&&(aV (frC c) (frC d)==0&&aV (toC c) (toC d)==0))
def GK(a b:List BP):Bool:=decide (a.length=b.length)&&(a.zip b).all fun x=>aV (dec x.1) (dec x.2)==0
def yW(a b:List BP):Prop:=a.length≤1000000∧(∀x∈a,okP 4000 x)∧∀x∈b,okP 4000 x
instance (a b:List BP):Decidable (yW a b):=by unfold yW;infer_instance
theorem MT{a b:List BP}(h:eqL a b):GK a b=true:=by
 obtain⟨h1,h2⟩:=h
 unfold GK
 rw[dT h1,auS,avg]
 intro x hx
 obtain⟨i,hi⟩:=List.getElem?_of_mem hx
 rw[List.getElem?_zip_eq_some]at hi
 exact avQ.2 (h2 i _ _ hi.1 hi.2)
def D1:Env:=[(130,Er),(69,jS),(83,wO)]
theorem vW:EnvAll Tryz.prog D1:=⟨BA,gU,wg,trivial⟩
def ajt:Ctx:=CX D1 []
def XH(p:BP)(_k:KT):OLR:=match decide (okR p.1)with|true=>(match decide (okR p.2.2.1)with|true=>(match decide (okR p.2.1)with|true=>(match decide (okR p.2.2.2.1)with|true=>(match decide (okR p.2.2.2.2)with|true=>(match decide (okR p.2.1)with|true=>(match(aR (ae p.2.1) 0)==0 with|true=>(match decide (okR p.2.2.2.1)with|true=>(match(aR (ae p.2.2.2.1) 0)==0 with|true=>(match decide (okR p.2.2.2.2)with|true=>some [RV.d .bool ((aR (ae p.2.2.2.2) 0)==0)]|false=>none)|false=>(match decide (okR p.2.2.2.2)with|true=>(match decide (okR p.2.2.2.2)with|true=>(match decide ((aR (ae p.2.2.2.2) 0)>0)with|true=>some [RV.d .bool (!(fF (ae p.2.2.2.2)))]|false=>some [RV.d .bool false])|false=>none)|false=>none))|false=>none)|false=>(match decide (okR p.2.2.2.2)with|true=>(match decide (okR p.2.2.2.2)with|true=>(match decide ((aR (ae p.2.2.2.2) 0)>0)with|true=>some [RV.d .bool (!(fF (ae p.2.2.2.2)))]|false=>some [RV.d .bool false])|false=>none)|false=>none))|false=>none)|false=>none)|false=>none)|false=>none)|false=>none)|false=>none
theorem alv(p:BP):RS ajt 64 [.d tP p] (XH p):=rsX
theorem Ts(p:BP)(h:okP 4000 p):Con Tryz.prog 64 [.d tP p] [.d .bool true]:=by
 refine aO vW (alv _ ⟨0,?_⟩)
 have hp:=h
 obtain⟨p,rfl,bp,rp⟩:=dz hp
 unfold XH
 simp only[aH,aI,aF,az,aZ,Nat.reduceLeDiff,aE,aL]
 rcases rp.rd with⟨h1,h2,h3⟩|⟨h1,h2,h3⟩
 ·rw[dT h1,dT h2,dT h3]
 ·rw[dT h2,h3]
  cases hb:decide (p.2.1=0)
  ·rfl
  ·cases hb2:decide (p.2.2.2.1=0)
   ·rfl
   ·exact absurd ⟨auN hb,auN hb2⟩ h1
def al6:Ctx:=CX D1 []
def Xr(c:BO3)(_k:KT):OLR:=match decide (okR c.1)with|true=>(match decide (okR c.2.1)with|true=>(match decide (okR c.2.2)with|true=>(match decide (okR c.2.2)with|true=>some [RV.d .bool (decide ((aR (ae c.2.2) 0)>0))]|false=>none)|false=>none)|false=>none)|false=>none
theorem alw(c:BO3):RS al6 120 [.d tO c] (Xr c):=rsX
theorem We(c:BO3)(h:uo c):Con Tryz.prog 120 [.d tO c] [.d .bool true]:=by
 refine aO vW (alw _ ⟨0,?_⟩)
 obtain⟨hk,h0⟩:=h
 obtain⟨c,rfl,bc⟩:=aY hk
 rw[aq]at h0
 unfold Xr
 simp only[aH,aI,aF,az,aZ,Nat.reduceLeDiff,aL,dT h0]
def akg:Ctx:=CX D1 []
def Ru(l:BO3)(_k:KT):OLR:=match decide (okR l.1)with|true=>(match decide (okR l.2.1)with|true=>(match decide (okR l.2.2)with|true=>(match decide (okR l.1)with|true=>(match(aR (ae l.1) 0) !=0 with|true=>some [RV.d .bool true]|false=>(match decide (okR l.2.1)with|true=>some [RV.d .bool ((aR (ae l.2.1) 0) !=0)]|false=>none))|false=>none)|false=>none)|false=>none)|false=>none
theorem ajN(l:BO3):RS akg 121 [.d tO l] (Ru l):=rsX
theorem Ul(l:BO3)(h:Hr l):Con Tryz.prog 121 [.d tO l] [.d .bool true]:=by
 refine aO vW (ajN _ ⟨0,?_⟩)
 obtain⟨hk,h0⟩:=h
 obtain⟨l,rfl,bl⟩:=aY hk
 rw[aq]at h0
 unfold Ru
 simp only[aH,aI,aF,az,aZ,Nat.reduceLeDiff,cf]
 by_cases h1:l.1=0
 ·rw[dT h1,dF (h0.resolve_left (fun h=>h h1))]
  rfl
 ·rw[dF h1]
  rfl
def Ex:aM:=spN true true [tP] (fun x=>decide (okP 4000 x.1)) (fun _=>[RV.d .bool true])
theorem Ci:SpK 64 Ex:=spX fun x h=>Ts x.1 (auN h)
def MF:aM:=spN true true [tO] (fun x=>decide (uo x.1)) (fun _=>[RV.d .bool true])
theorem Po:SpK 120 MF:=spX fun x h=>We x.1 (auN h)
def ML:aM:=spN true true [tO] (fun x=>decide (Hr x.1)) (fun _=>[RV.d .bool true])
theorem OA:SpK 121 ML:=spX fun x h=>Ul x.1 (auN h)
def S9:Env:=[(64,Ex),(120,MF),(121,ML),(49,Im),(20,n5)]
theorem PZ:EnvAll Tryz.prog S9:=⟨Ci,Po,OA,Ib,ko,trivial⟩
def aoC:Ctx:=CX S9 []
def ahp(c:BCU)(_k:KT):OLR:=let y1:OLR:=match decide (okC 3500 c∧okP 3500 c.2.2.2.2.1)with|true=>(match em (dC c) (dec c.2.2.2.2.1)with|true=>(match decide (okC 3500 c∧okP 3500 c.2.2.2.2.2)with|true=>(match em (dC c) (dec c.2.2.2.2.2)with|true=>(match decide (okP 4000 c.2.2.2.2.1∧okP 4000 c.2.2.2.2.2)with|true=>some [RV.d .bool (!(aV (dec c.2.2.2.2.1) (dec c.2.2.2.2.2)==0))]|false=>none)|false=>some [RV.d .bool false])|false=>none)|false=>some [RV.d .bool false])|false=>none;let y2:OLR:=match !c.1 with|true=>(match c.2.2.2.1 with|true=>some [RV.d .bool false]|false=>(match decide (Hr c.2.1)with|true=>y1|false=>none))|false=>y1;match decide (okP 4000 c.2.2.2.2.1)with|true=>(match decide (okP 4000 c.2.2.2.2.2)with|true=>(match c.1 with|true=>(match decide (uo c.2.2.1)with|true=>y2|false=>none)|false=>y2)|false=>none)|false=>none
theorem anZ(c:BCU):RS aoC 56 [.d tCU c] (ahp c):=rsX
theorem aa5(c:BCU)(h:okC 3500 c):Con Tryz.prog 56 [.d tCU c] [.d .bool (Ay (dC c))]:=by
 refine aO PZ (anZ _ ⟨0,?_⟩)
 have h4:=ck (k:=4000) h (by decide) (by decide)
 unfold ahp Ay
 rw[dT (show okC 3500 c∧okP 3500 c.2.2.2.2.1 from⟨h,h.2.2.1⟩),dT (show okC 3500 c∧okP 3500 c.2.2.2.2.2 from⟨h,h.2.2.2⟩),dT (show okP 4000 c.2.2.2.2.1∧okP 4000 c.2.2.2.2.2 from⟨h4.2.2.1,h4.2.2.2⟩),dT h4.2.2.1,dT h4.2.2.2]
 have e1:(dC c).1=c.1:=rfl
 have e2:cwC (dC c)=c.2.2.2.1:=rfl
 have e3:frC (dC c)=dec c.2.2.2.2.1:=rfl
 have e4:toC (dC c)=dec c.2.2.2.2.2:=rfl
 rw[e1,e2,e3,e4]
 cases ha:c.1
 ·have h2:=dT (p:=Hr c.2.1) (i:=inferInstance) (h.2.1 ha)
  rw[h2]
  cases c.2.2.2.1<;>cases em (dC c) (dec c.2.2.2.2.1)<;>cases em (dC c) (dec c.2.2.2.2.2)<;>rfl
 ·have h2:=dT (p:=uo c.2.2.1) (i:=inferInstance) (h.1 ha)
  rw[h2]
  cases em (dC c) (dec c.2.2.2.2.1)<;>cases em (dC c) (dec c.2.2.2.2.2)<;>rfl
def WK:Env:=[(12,Ji),(20,n5)]
theorem PX:EnvAll Tryz.prog WK:=⟨Gu,ko,trivial⟩
def ar7:Ctx:=CX WK []
def ah1(a b:BCU)(_k:KT):OLR:=match decide (fi a b)with|true=>(match cL (dC a) (dC b)with|true=>(match a.2.2.2.1==b.2.2.2.1 with|true=>(match decide (okP 4000 a.2.2.2.2.1∧okP 4000 b.2.2.2.2.1)with|true=>(match aV (dec a.2.2.2.2.1) (dec b.2.2.2.2.1)==0 with|true=>(match decide (okP 4000 a.2.2.2.2.2∧okP 4000 b.2.2.2.2.2)with|true=>some [RV.d .bool (aV (dec a.2.2.2.2.2) (dec b.2.2.2.2.2)==0)]|false=>none)|false=>some [RV.d .bool false])|false=>none)|false=>some [RV.d .bool false])|false=>some [RV.d .bool false])|false=>none
theorem ara(a b:BCU):RS ar7 57 [.d tCU a,.d tCU b] (ah1 a b):=rsX
theorem aa1(a b:BCU)(h:dQ a b):Con Tryz.prog 57 [.d tCU a,.d tCU b] [.d .bool (rv (dC a) (dC b))]:=by
 refine aO PX (ara _ _ ⟨0,?_⟩)
 obtain⟨⟨a1,a2⟩,b1,b2⟩:=h
 have a4:=ck (k:=4000) a1 (by decide) (by decide)
 have b4:=ck (k:=4000) b1 (by decide) (by decide)
 unfold ah1 rv
 rw[dT (show fi a b from⟨a2,b2⟩),dT (show okP 4000 a.2.2.2.2.1∧okP 4000 b.2.2.2.2.1 from⟨a4.2.2.1,b4.2.2.1⟩),dT (show okP 4000 a.2.2.2.2.2∧okP 4000 b.2.2.2.2.2 from⟨a4.2.2.2,b4.2.2.2⟩)]
 have e2:∀c,cwC (dC c)=c.2.2.2.1:=fun _=>rfl
 have e3:∀c,frC (dC c)=dec c.2.2.2.2.1:=fun _=>rfl
 have e4:∀c,toC (dC c)=dec c.2.2.2.2.2:=fun _=>rfl
 rw[e2,e2,e3,e3,e4,e4]
 cases cL (dC a) (dC b)<;>cases(a.2.2.2.1==b.2.2.2.1)<;>cases(aV (dec a.2.2.2.2.1) (dec b.2.2.2.2.1)==0)<;>rfl
def Wn:aM:=spN true true [tCU] (fun x=>decide (okC 3500 x.1)) (fun x=>[RV.d .bool (Ay (dC x.1))])
theorem QP:SpK 56 Wn:=spX fun x h=>aa5 x.1 (auN h)
def TF:aM:=spN true true [tCU,tCU] (fun x=>decide (dQ x.1 x.2.1)) (fun x=>[RV.d .bool (rv (dC x.1) (dC x.2.1))])
theorem YL:SpK 57 TF:=spX fun x h=>aa1 x.1 x.2.1 (auN h)
def Zk:Env:=[(56,Wn),(57,TF)]
theorem N9:EnvAll Tryz.prog Zk:=⟨QP,YL,trivial⟩
def aiv:Ctx:=CX Zk []
def R6(c d:BCU)(_k:KT):OLR:=match decide (okC 3500 c)with|true=>(match Ay (dC c)with|true=>(match decide (dQ c d)with|true=>some [RV.d .bool (rv (dC c) (dC d))]|false=>none)|false=>some [RV.d .bool false])|false=>none
theorem ak7(c d:BCU):RS aiv 19 [.d tCU c,.d tCU d] (R6 c d):=rsX
theorem XW(c d:BCU)(h:dQ c d):Con Tryz.prog 19 [.d tCU c,.d tCU d] [.d .bool (Ay (dC c)&&rv (dC c) (dC d))]:=by
 refine aO N9 (ak7 _ _ ⟨0,?_⟩)
 unfold R6
 rw[dT (ck (k:=3500) h.1.1 (by decide) (by decide)),dT h]
 cases Ay (dC c)<;>rfl
def Y7:Env:=[(64,Ex),(20,n5)]
theorem OS:EnvAll Tryz.prog Y7:=⟨Ci,ko,trivial⟩
def aci:NT:=[((23,14),{keep:=[0,1,12,13],hl:=0})]
def Dg:Ctx:=CX Y7 aci
def tv(a b:List BP)(s13:Int):Cfg:=⟨23,[.blk 0,.seq 33],[(0,.d (.sl tP) a),(1,.d (.sl tP) b),(12,SI (a.length:Int)),(13,SI s13)],[],0,[]⟩
def IK(a b:List BP)(k:KT):OLR:=match(a.length:Int) !=(b.length:Int)with|true=>some [RV.d .bool false]|false=>k 14 (tv a b 0)
theorem Ux(a b:List BP):RS Dg 23 [.d (.sl tP) a,.d (.sl tP) b] (IK a b):=rsX
def sM(a b:List BP)(s13:Int)(k:KT):OLR:=match decide (s13<(a.length:Int))with|true=>(match bi a s13 with|some x1=>(match decide (okP 4000 x1)with|true=>(match bi a s13 with|some x2=>(match bi b s13 with|some x3=>(match decide (okP 4000 x2∧okP 4000 x3)with|true=>(match !(aV (dec x2) (dec x3)==0)with|true=>some [RV.d .bool false]|false=>k 14 (tv a b (i64.wrap (s13+1))))|false=>none)|none=>none)|none=>none)|false=>none)|none=>none)|false=>some [RV.d .bool true]
theorem yS(a b:List BP)(s13:Int):RN Dg 14 (tv a b s13) (sM a b s13):=rnX
theorem acp(a b:List BP)(h:yW a b)(hab:a.length=b.length):∀(j i:Nat),i+j=a.length→Dg.Runs 14 (tv a b (i:Int)) [.d .bool (((a.drop i).zip (b.drop i)).all fun x=>aV (dec x.1) (dec x.2)==0)]:=by
 obtain⟨h1,h2,h3⟩:=h
 intro j
 induction j with
 |zero=>
  intro i hi
  refine yS _ _ _ ⟨0,?_⟩
  unfold sM
  rw[cz (by omega),tw (by omega)]
  rfl
 |succ j ih=>
  intro i hi
  have hil:i<a.length:=by omega
  have hib:i<b.length:=by omega
  obtain⟨n,hn⟩:=ih (i+1) (by omega)
  refine yS _ _ _ ⟨n,?_⟩
  have ha:=h2 _ (avu hil)
  have hb:=h3 _ (avu hib)
  unfold sM
  rw[cd hil,aA,auP hil,aA,auP hib,avd hil,avd hib,cr (by omega),List.zip_cons_cons,axe]
  dsimp only
  rw[dT ha,dT (show okP 4000 a[i]∧okP 4000 b[i] from⟨ha,hb⟩)]
  cases aV (dec a[i]) (dec b[i])==0
  ·rfl
  ·exact hn
theorem WP(a b:List BP)(h:yW a b):Con Tryz.prog 23 [.d (.sl tP) a,.d (.sl tP) b] [.d .bool (GK a b)]:=by
 refine aO OS (show Dg.Res _ _ _ from ?_)
 by_cases hab:a.length=b.length
 ·obtain⟨n,hn⟩:=acp a b h hab a.length 0 (avw _)
  refine Ux _ _ ⟨n,?_⟩
  unfold IK GK
  rw[show((a.length:Int) !=(b.length:Int))=false by rw[hab];simp,dT hab]
  exact hn
 ·refine Ux _ _ ⟨0,?_⟩
  unfold IK GK
  rw[show((a.length:Int) !=(b.length:Int))=true by simp;omega,dF hab]
  rfl
end Go.Proofs.YtgddhgcjmddjfaaGreat
end
