/- A curve's pieces hold the curve's points, and the least distance. -/
import Derived.Test.YtlahabkjhgkkjaaGreatYGeH
noncomputable section
namespace Go.Proofs.YtlahabkjhgkkjaaGreat
open Go.RowKit Go.IntKind
section
theorem rl{α:Type}{lt:α→α→Prop}(h:lR lt){L:List α}{a b:α}(ha:a∈L)(hb:b∈L):lt a b↔rk lt L a<rk lt L b:=by
 refine⟨fun g=>w9 h g ha,fun g=>?_⟩
 rcases h.tri a b with e|e|e
 ·exact e
 ·rw[e]at g;omega
 ·have:=w9 h e hb;omega
theorem ZH{α:Type}{lt:α→α→Prop}(h:lR lt){o x y p:α}(hxy:cLt lt o x y):¬cLt lt x y p↔¬cLt lt o p x∧¬cLt lt o y p:=by
 have m1:o∈[o,x,y,p]:=by simp
 have m2:x∈[o,x,y,p]:=by simp
 have m3:y∈[o,x,y,p]:=by simp
 have m4:p∈[o,x,y,p]:=by simp
 unfold cLt at*
 rw[rl h m2 m1,rl h m3 m1,rl h m2 m3]at hxy
 rw[rl h m3 m2,rl h m4 m2,rl h m3 m4,rl h m4 m1,rl h m2 m1,rl h m3 m1]
 omega
theorem Bx{α:Type}{lt:α→α→Prop}{f:α→α→Int}(hl:lR lt)(h:ua lt f)(x y:α):f x y≤0↔¬lt y x:=by
 rcases hl.tri x y with g|g|g
 ·rw[(h x y).1 g];exact⟨fun _ e=>hl.irr _ (hl.tr _ _ _ e g),fun _=>by decide⟩
 ·rw[(h x y).2.1 g];exact⟨fun _ e=>by rw[g]at e;exact hl.irr _ e,fun _=>by decide⟩
 ·rw[(h x y).2.2 g];exact⟨fun e=>absurd e (by decide),fun e=>absurd g e⟩
theorem j9{α:Type}{lt:α→α→Prop}{f:α→α→Int}(hl:lR lt)(h:ua lt f)(x y:α):f x y<0↔lt x y:=by
 rw[←awQ (p:=f x y<0)]
 exact xy hl h x y
def pcC(c:Cv)(x y:Pt):Cv:=(c.1,c.2.1,c.2.2.1,c.2.2.2.1,x,y)
structure apa (c:Cv):Prop extends Ord c where
 le:∀{p q},Sp c p→Sp c q→(cB c p q≤0↔¬cB c q p<0)
 lt:∀{p q r},Sp c p→Sp c q→Sp c r→¬cB c q p<0→¬cB c r q<0→¬cB c r p<0
theorem Bu{c:Cv}(h:Crp c):apa c:=by
 obtain⟨K,lt,κ,f,hl,hc,ho,hk⟩:=LC h
 refine⟨wd h,fun{p q} hp hq=>?_,fun{p q r} hp hq hr=>?_⟩
 ·rw[ho p q hp hq,ho q p hq hp,Bx hl hc,j9 hl hc]
 ·rw[ho q p hq hp,ho r q hr hq,ho r p hr hp,j9 hl hc,j9 hl hc,j9 hl hc]
  intro g g' e
  rcases hl.tri (κ q) (κ p)with a|a|a
  ·exact g a
  ·exact g' (by rw[a];exact e)
  ·exact g' (hl.tr _ _ _ e a)
theorem sd{c:Cv}(h:Crp c){p:Pt}(hp:Rpd p):onR c p=true↔gn c p=true∧¬cB c p (frC c)<0∧¬cB c (toC c) p<0:=by
 have o:=Bu h
 unfold onR
 rw[avL,avL,awQ,awQ]
 refine and_congr_right fun hs=>?_
 rw[o.le h.f ⟨hp,hs⟩,o.le ⟨hp,hs⟩ h.t]
theorem YC{c:Cv}(h:Crp c){x y p:Pt}(hx:Sp c x)(hy:Sp c y)(hxy:cB c x y<0)(hp:Rpd p):onR (pcC c x y) p=true↔gn c p=true∧¬cB c p x<0∧¬cB c y p<0:=by
 have o:=Bu h
 have es:gn (pcC c x y) p=gn c p:=rfl
 unfold onR
 rw[avL,avL,awQ,awQ,es]
 refine and_congr_right fun hs=>?_
 have sp:Sp c p:=⟨hp,hs⟩
 show cB (pcC c x y) x p≤0∧cB (pcC c x y) p y≤0↔_
 cases ha:c.1
 ·have e:∀a b,cB (pcC c x y) a b=cB c a b:=fun a b=>by
   have e1:decide (b9 x y>0)=decide (b9 (frC c) (toC c)>0):=by
    unfold cB at hxy
    rw[ha,cond_false]at hxy
    cases hd:decide (b9 (frC c) (toC c)>0)<;>rw[hd]at hxy
    ·exact au3 (by rw[cond_false]at hxy;omega)
    ·exact au1 (by rw[cond_true]at hxy;omega)
   unfold cB
   show(bif c.1 then _ else bif decide (b9 x y>0)then _ else _)=_
   rw[ha,cond_false,cond_false,e1]
  rw[e,e,o.le hx sp,o.le sp hy]
 ·obtain⟨κ,h1,h2⟩:=Ca h ha
  have hl:=LY RE.lt_lin
  have hc:=fun u=>wU RE.lt_lin RE.sg_cmpO u
  have ex:=h1 (pcC c x y) ha rfl rfl hx
  have ec:=h1 c ha rfl rfl h.f
  rw[ec x y hx hy,j9 (vU hl _) (hc _)]at hxy
  rw[ex x p hx sp,ex p y sp hy,ec p x sp hx,ec y p hy sp,Bx (vU hl _) (hc _),Bx (vU hl _) (hc _),j9 (vU hl _) (hc _),j9 (vU hl _) (hc _)]
  refine Iff.trans (and_iff_right ?_) (ZH hl hxy)
  rintro (⟨_,g⟩|⟨g1,g2⟩)
  ·exact hl.irr _ g
  ·exact hl.irr _ (g1.1 g2)
theorem zH{c:BCU}(o:apa (dC c)){P:Pt}(hP:Sp (dC c) P):∀{s:List BP},(∀x∈s,Spb (dC c) x)→s.Pairwise (fun a b=>cB (dC c) (dec a) (dec b)<0)→(∃x y,x∈s∧y∈s∧cB (dC c) (dec x) (dec y)<0∧¬cB (dC c) P (dec x)<0∧¬cB (dC c) (dec y) P<0)→
  ∃x y,x∈s∧y∈s∧cB (dC c) (dec x) (dec y)<0∧uw c x y∈sf c s∧¬cB (dC c) P (dec x)<0∧¬cB (dC c) (dec y) P<0
 |[],_,_,⟨x,y,hx,_⟩=>by cases hx
 |[a],hs,_,⟨x,y,hx,hy,h,_⟩=>by
  rw[awZ.1 hx,awZ.1 hy]at h
  have ha:=hs a (by simp)
  have:=o.asy ha ha h
  omega
 |a::b::r,hs,hp,⟨x,y,hx,hy,h,h1,h2⟩=>by
  have ha:=hs a (by simp)
  have hb:=hs b (by simp)
  have hr:∀z∈b::r,Spb (dC c) z:=fun z hz=>hs z (avo _ hz)
  obtain⟨p1,p2⟩:=awg.1 hp
  have hab:=p1 b (by simp)
  have ka:¬cB (dC c) P (dec a)<0:=fun g=>by
   rcases avz.1 hx with e|e
   ·rw[e]at h1;exact h1 g
   ·exact h1 (o.tr hP ha (hr x e) g (p1 x e))
  by_cases kb:cB (dC c) (dec b) P<0
  ·have ey:y∈b::r:=by
    rcases avz.1 hy with e|e
    ·rw[e]at h2;exact absurd (o.tr ha hb hP hab kb) h2
    ·exact e
   have eb:¬cB (dC c) P (dec b)<0:=fun g=>by
    have:=o.asy hP hb g
    omega
   have eby:cB (dC c) (dec b) (dec y)<0:=by
    rcases avz.1 ey with e|e
    ·rw[e]at h2;exact absurd kb h2
    ·exact(awg.1 p2).1 y e
   obtain⟨u,w,g1,g2,g3,g4,g5,g6⟩:=zH o hP hr p2 ⟨b,y,by simp,ey,eby,eb,h2⟩
   exact⟨u,w,avo _ g1,avo _ g2,g3,by simp only[sf];exact avo _ g4,g5,g6⟩
  ·exact⟨a,b,by simp,by simp,hab,by simp[sf],ka,kb⟩
theorem sM{c:Cv}{x y:BP}:∀{r:List BP},y∈r→y∈fq c r x
 |[],h=>by cases h
 |z::r,h=>by
  simp only[fq]
  cases decide (cB c (dec z) (dec x)<0)
  ·cases b9 (dec z) (dec x)==0
   ·exact avo _ h
   ·exact h
  ·rcases avz.1 h with e|e
   ·rw[e];exact .head _
   ·exact avo _ (sM e)
theorem wO{c:Cv}{y:BP}:∀{l r:List BP},y∈r→y∈l.foldl (fq c) r
 |[],_,h=>h
 |_::l,_,h=>wO (l:=l) (sM h)
theorem XD{c:BCU}(h:gdN c)(l:List BP):c.2.2.2.2.1∈nO c l∧c.2.2.2.2.2∈nO c l:=by
 have e:nO c l=l.foldl (fq (dC c)) (fq (dC c) [c.2.2.2.2.1] c.2.2.2.2.2):=rfl
 rw[e]
 refine⟨wO (sM (by simp)),wO ?_⟩
 simp only[fq]
 have:b9 (dec c.2.2.2.2.1) (dec c.2.2.2.2.2)≠0:=h.2.2.2
 rw[axg.2 this,cond_false]
 cases decide (cB (dC c) (dec c.2.2.2.2.1) (dec c.2.2.2.2.2)<0)<;>simp
theorem agM{c:BCU}(h:gdN c):cB (dC c) (frC (dC c)) (toC (dC c))<0:=by
 have k:=ti h.gd
 have hne:b9 (frC (dC c)) (toC (dC c))≠0:=h.2.2.2
 cases ha:(dC c).1
 ·unfold cB
  rw[ha,cond_false]
  cases hd:decide (b9 (frC (dC c)) (toC (dC c))>0)
  ·have:=avW hd
   rw[cond_false];omega
  ·have:=au0 hd
   rw[cond_true];omega
 ·rcases(wd k).tri k.f k.t with g|g|g
  ·exact g
  ·exact absurd g hne
  ·obtain⟨κ,h1,h2⟩:=Ca k ha
   have hl:=LY RE.lt_lin
   rw[h1 (dC c) ha rfl rfl k.f _ _ k.t k.f,j9 (vU hl _) (wU RE.lt_lin RE.sg_cmpO _)]at g
   rcases g with⟨_,g⟩|⟨g1,g2⟩
   ·exact absurd g (hl.irr _)
   ·exact absurd (g1.1 g2) (hl.irr _)
theorem wu{c:BCU}(h:gdN c):onR (dC c) (frC (dC c))=true∧onR (dC c) (toC (dC c))=true:=by
 have k:=ti h.gd
 have o:=wd k
 have irr:∀{q},Sp (dC c) q→cB (dC c) q q=0:=fun{q} hq=>by
  have:=hq.1
  exact o.irr hq hq (RE.cmpP_0.2 rfl)
 have tf:=o.asy k.f k.t (agM h)
 rw[sd k k.f.1,sd k k.t.1,irr k.f,irr k.t]
 exact⟨⟨k.f.2,by omega,by omega⟩,k.t.2,by omega,by omega⟩
theorem WQ{c:BCU}(h:gdN c){l:List BP}(ho:∀p∈l,okP 500 p∧onR (dC c) (dec p)=true){P:Pt}(hP:Rpd P):onR (dC c) P=true↔∃p∈fj c l,onR (dC p) P=true:=by
 have k:=ti h.gd
 have o:=Bu k
 have sp:=fun x hx=>(IJ h ho x hx).2
 have pw:=Qg h ho
 obtain⟨mF,mT⟩:=XD h l
 rw[sd k hP]
 constructor
 ·intro ⟨hs,h1,h2⟩
  obtain⟨x,y,hx,hy,hxy,hm,g1,g2⟩:=zH o ⟨hP,hs⟩ sp pw ⟨_,_,mF,mT,agM h,h1,h2⟩
  exact⟨_,hm,(YC k (sp x hx) (sp y hy) hxy hP).2 ⟨hs,g1,g2⟩⟩
 ·intro ⟨p,hp,hon⟩
  obtain⟨x,y,hx,hy,hxy,e⟩:=HP pw hp
  rw[e]at hon
  obtain⟨hs,g1,g2⟩:=(YC k (sp x hx) (sp y hy) hxy hP).1 hon
  have onc:∀z,z∈nO c l→¬cB (dC c) (dec z) (frC (dC c))<0∧¬cB (dC c) (toC (dC c)) (dec z)<0:=fun z hz=>by
   rcases BD hz with e|e|e
   ·rw[e];exact((sd k k.f.1).1 (wu h).1).2
   ·rw[e];exact((sd k k.t.1).1 (wu h).2).2
   ·exact((sd k (f0 (ho z e).1)).1 (ho z e).2).2
  exact⟨hs,o.lt k.f (sp x hx) ⟨hP,hs⟩ (onc x hx).1 g1,o.lt ⟨hP,hs⟩ (sp y hy) k.t g2 (onc y hy).2⟩
open RE in
theorem JQ{c:BCU}(h:gdN c)(v:Rat×Rat):∃P,Rpd P∧onR (dC c) P=true∧dsE (pR P) (vE v)=vR (cd (dC c) v):=by
 have g:=h.e
 have hf:=g.f
 have ht:=g.t
 have we:∃P,Rpd P∧onR (dC c) P=true∧dsE (pR P) (vE v)=vR (yk (dC c) v):=by
  rw[IA hf ht]
  unfold mnE
  by_cases e:dsE (pR (toC (dC c))) (vE v)<dsE (pR (frC (dC c))) (vE v)
  ·rw[avr e];exact⟨_,ht,(wu h).2,rfl⟩
  ·rw[avn e];exact⟨_,hf,(wu h).1,rfl⟩
 unfold cd
 cases ha:(dC c).1
 ·rw[cond_false]
  cases e:pe (dC c) (atP v)
  ·exact we
  ·rw[cond_true]
   have i:Rpd (atP (c8 (lnC (dC c)) v)):=inferInstance
   refine⟨_,i,?_,?_⟩
   ·rw[yO h.gd i,P0 h.gd ha,e]
   ·have:vR (cg (eG v (c8 (lnC (dC c)) v)) (eG v (c8 (lnC (dC c)) v)),0,0)=of (cg (eG v (c8 (lnC (dC c)) v)) (eG v (c8 (lnC (dC c)) v))):=dZ _ _
    rw[this,uo]
    unfold dsE vE cg eG
    rw[of_add,of_mul,of_mul,of_sub,of_sub]
 ·rw[cond_true]
  have hq:=(g.q ha).1
  cases e:jj (dC c) (bK (dC c) v)
  ·exact we
  ·have two:of (-2)= -2:=rfl
   rw[cond_true,vR_mk]
   unfold v2
   rw[two,agS]
   cases hz:zeV (bK (dC c) v)
   ·have hC:Cir (ciC (dC c)):=⟨hq⟩
    have i:Rpd (gK (ciC (dC c)) (bK (dC c) v)):=inferInstance
    have hon:onP (dC c) (gK (ciC (dC c)) (bK (dC c) v))=true:=by
     unfold jj at e
     rw[ha,hz]at e
     exact e
    rw[←yO h.gd i]at hon
    exact⟨_,i,hon,Tx hq hz (pT ha ⟨i,(avL.1 hon).1⟩)⟩
   ·exact⟨_,hf,(wu h).1,VD hz (g.q ha).2.1⟩
open RE in
theorem RC{c:BCU}(h:gdN c)(v:Rat×Rat){P:Pt}(hP:Rpd P)(ho:onR (dC c) P=true):vR (cd (dC c) v)≤dsE (pR P) (vE v):=(Do h.e v).2 _ ((uZ h.e).1 (by rw[←yO h.gd hP];exact ho))
open RE in
theorem aeq{c:BCU}(h:gdN c){l:List BP}(ho:∀p∈l,okP 500 p∧onR (dC c) (dec p)=true)(v:Rat×Rat):(∃p∈fj c l,vR (cd (dC p) v)=vR (cd (dC c) v))∧∀p∈fj c l,vR (cd (dC c) v)≤vR (cd (dC p) v):=by
 have gp:=CM h ho
 have lo:∀p∈fj c l,vR (cd (dC c) v)≤vR (cd (dC p) v):=fun p hp=>by
  obtain⟨P,rP,oP,eP⟩:=JQ (gp p hp) v
  rw[←eP]
  exact RC h v rP ((WQ h ho rP).2 ⟨p,hp,oP⟩)
 obtain⟨P,rP,oP,eP⟩:=JQ h v
 obtain⟨p,hp,op⟩:=(WQ h ho rP).1 oP
 exact⟨⟨p,hp,le_antisymm (by rw[←eP];exact RC (gp p hp) v rP op) (lo p hp)⟩,lo⟩
end
end Go.Proofs.YtlahabkjhgkkjaaGreat
end
