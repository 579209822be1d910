/- The order of points on a curve is linear; pieces have different ends. -/
import Derived.Test.YtgddhgcjmddjfaaGreatD17
import Derived.Test.YtgddhgcjmddjfaaGreatD14
import Derived.Test.YtgddhgcjmddjfaaGreatD15
import Derived.Test.YtgddhgcjmddjfaaGreatD16
noncomputable section
namespace Go.Proofs.YtgddhgcjmddjfaaGreat
open Go.RowKit Go.IntKind
theorem awA:type_of% @decide_eq_true_iff:=@decide_eq_true_iff
section
section
variable {α:Type} {lt:α→α→Prop} {f:α→α→Int}
theorem Th(h:l6 lt):l6 (fun x y=>lt y x):=⟨h.irr,fun x y z a b=>h.tr z y x b a,fun x y=>by
 rcases h.tri x y with g|g|g
 ·exact .inr (.inr g)
 ·exact .inr (.inl g)
 ·exact .inl g⟩
theorem P7(h:uY lt f):uY (fun x y=>lt y x) (fun x y=> -f x y):=fun x y=>⟨fun g=>(by show-f x y= -1;rw[(h x y).2.2 g]),fun g=>(by show-f x y=0;rw[(h x y).2.1 g];rfl),fun g=>(by show-f x y=1;rw[(h x y).1 g];rfl)⟩
def aLt(lt:α→α→Prop)(u v:Bool×α):Prop:=(u.1=false∧v.1=true)∨(u.1=false∧v.1=false∧lt u.2 v.2)∨(u.1=true∧v.1=true∧lt v.2 u.2)
theorem KE(h:l6 lt):l6 (aLt lt):=by
 refine⟨fun⟨a,u⟩ g=>?_,fun⟨a,u⟩ ⟨b,v⟩ ⟨c,w⟩ g g'=>?_,fun⟨a,u⟩ ⟨b,v⟩=>?_⟩
 ·rcases g with⟨g1,g2⟩|⟨_,_,g⟩|⟨_,_,g⟩
  ·rw[g1]at g2;cases g2
  ·exact h.irr _ g
  ·exact h.irr _ g
 ·unfold aLt at*
  cases a<;>cases b<;>cases c<;>simp only[true_and,false_and,and_false,ax7,axz,false_or,reduceCtorEq,and_self]at g g' ⊢
  ·exact h.tr _ _ _ g g'
  ·exact h.tr _ _ _ g' g
 ·unfold aLt
  cases a<;>cases b<;>simp only[true_and,false_and,and_false,ax7,axz,false_or,reduceCtorEq,and_self,or_true,true_or]
  ·rcases h.tri u v with g|g|g
   ·exact .inl g
   ·exact .inr (.inl (by rw[g]))
   ·exact .inr (.inr g)
  ·rcases h.tri u v with g|g|g
   ·exact .inr (.inr g)
   ·exact .inr (.inl (by rw[g]))
   ·exact .inl g
theorem V5(h:uY lt f):uY (aLt lt) (jx f):=fun⟨a,u⟩ ⟨b,v⟩=>by
 refine⟨fun g=>?_,fun g=>?_,fun g=>?_⟩
 ·unfold aLt at g
  unfold jx
  cases a<;>cases b<;>simp only[true_and,false_and,and_false,ax7,axz,false_or,reduceCtorEq,and_self]at g
  ·exact(h u v).1 g
  ·rfl
  ·show-f u v= -1
   rw[(h u v).2.2 g]
 ·injection g with g1 g2
  subst g1 g2
  unfold jx
  have:=(h u u).2.1 rfl
  cases a
  ·exact this
  ·show-f u u=0
   rw[this];rfl
 ·unfold aLt at g
  unfold jx
  cases a<;>cases b<;>simp only[true_and,false_and,and_false,ax7,axz,false_or,reduceCtorEq,and_self]at g
  ·exact(h u v).2.2 g
  ·rfl
  ·show-f u v=1
   rw[(h u v).1 g];rfl
def cLt(lt:α→α→Prop)(o u v:α):Prop:=(¬lt u o∧lt v o)∨((lt u o↔lt v o)∧lt u v)
theorem Cw(h:l6 lt)(o:α):l6 (cLt lt o):=by
 refine⟨fun u g=>?_,fun u v w g g'=>?_,fun u v=>?_⟩
 ·rcases g with⟨g1,g2⟩|⟨_,g⟩
  ·exact g1 g2
  ·exact h.irr _ g
 ·rcases g with⟨g1,g2⟩|⟨g1,g2⟩<;>rcases g' with⟨g3,g4⟩|⟨g3,g4⟩
  ·exact absurd g2 g3
  ·exact .inl ⟨g1,g3.1 g2⟩
  ·exact .inl ⟨fun e=>g3 (g1.1 e),g4⟩
  ·exact .inr ⟨g1.trans g3,h.tr _ _ _ g2 g4⟩
 ·by_cases e1:lt u o<;>by_cases e2:lt v o
  ·rcases h.tri u v with g|g|g
   ·exact .inl (.inr ⟨⟨fun _=>e2,fun _=>e1⟩,g⟩)
   ·exact .inr (.inl g)
   ·exact .inr (.inr (.inr ⟨⟨fun _=>e1,fun _=>e2⟩,g⟩))
  ·exact .inr (.inr (.inl ⟨e2,e1⟩))
  ·exact .inl (.inl ⟨e1,e2⟩)
  ·rcases h.tri u v with g|g|g
   ·exact .inl (.inr ⟨⟨fun e=>absurd e e1,fun e=>absurd e e2⟩,g⟩)
   ·exact .inr (.inl g)
   ·exact .inr (.inr (.inr ⟨⟨fun e=>absurd e e2,fun e=>absurd e e1⟩,g⟩))
theorem z6(hl:l6 lt)(h:uY lt f)(x y:α):decide (f x y<0)=true↔lt x y:=by
 rw[awA]
 rcases hl.tri x y with g|g|g
 ·rw[(h x y).1 g];exact⟨fun _=>g,fun _=>by decide⟩
 ·rw[(h x y).2.1 g];exact⟨fun e=>absurd e (by decide),fun e=>absurd e (by rw[g];exact hl.irr _)⟩
 ·rw[(h x y).2.2 g];exact⟨fun e=>absurd e (by decide),fun e=>absurd (hl.tr _ _ _ e g) (hl.irr _)⟩
theorem xW(hl:l6 lt)(h:uY lt f)(o:Bool×α):uY (cLt (aLt lt) o) (jJ f o):=fun u v=>by
 have ha:=V5 h
 have n:=z6 (KE hl) ha
 have tf:∀x,¬aLt lt x o→decide (jx f x o<0)=false:=fun x g=>by
  cases e:decide (jx f x o<0)
  ·rfl
  ·exact absurd ((n x o).1 e) g
 unfold jJ
 refine⟨fun g=>?_,fun g=>?_,fun g=>?_⟩
 ·rcases g with⟨g1,g2⟩|⟨g1,g2⟩
  ·rw[tf u g1,(n v o).2 g2];rfl
  ·have e:(decide (jx f u o<0)==decide (jx f v o<0))=true:=by
    by_cases e:aLt lt u o
    ·rw[(n u o).2 e,(n v o).2 (g1.1 e)];rfl
    ·rw[tf u e,tf v (fun e'=>e (g1.2 e'))];rfl
   rw[e];exact(ha u v).1 g2
 ·subst g
  rw[awW];exact(ha u u).2.1 rfl
 ·rcases g with⟨g1,g2⟩|⟨g1,g2⟩
  ·rw[tf v g1,(n u o).2 g2];rfl
  ·have e:(decide (jx f u o<0)==decide (jx f v o<0))=true:=by
    by_cases e:aLt lt u o
    ·rw[(n u o).2 e,(n v o).2 (g1.2 e)];rfl
    ·rw[tf u e,tf v (fun e'=>e (g1.1 e'))];rfl
   rw[e];exact(ha u v).2.2 g2
end
def Sp(c:Cv)(p:Pt):Prop:=Rpd p∧em c p=true
structure Crp (c:Cv):Prop where
 f:Sp c (frC c)
 t:Sp c (toC c)
 q:c.1=true→0<(ciC c).2.2
 l:c.1=false→(lnC c).1≠0∨(lnC c).2.1≠0
theorem vU{c:BCU}(h:gdC c):Crp (dC c):=by
 obtain⟨h1,h2,h3⟩:=h
 exact⟨⟨kM h1.2.2.1,h2⟩,⟨kM h1.2.2.2,h3⟩,fun e=>(h1.1 e).2,fun e=>(h1.2.1 e).2⟩
open RE in
theorem Crp.e{c:Cv}(h:Crp c)(hne:aV (frC c) (toC c)≠0):GdE c:=by
 have hf:=h.f.1
 have ht:=h.t.1
 have s:=fun p (hp:Sp c p)=>hp.2
 refine⟨hf,ht,fun e=>hne (cmpP_0.2 e),fun e=>?_,fun e=>?_⟩
 ·have h2:=h.f.2
  have h3:=h.t.2
  unfold em at h2 h3
  rw[e]at h2 h3
  exact⟨h.q e,ins_on (avQ.1 h2),ins_on (avQ.1 h3)⟩
 ·have h2:=h.f.2
  have h3:=h.t.2
  unfold em at h2 h3
  rw[e]at h2 h3
  exact⟨h.l e,Ja (avQ.1 h2),Ja (avQ.1 h3)⟩
namespace RE
theorem J3(v w:RE):((v-(w))*(v-(w)))+((w*w-(v*v)))+of 2*((w-(0))*(v-(w)))=0:=by
 induction v using auM
 induction w using auM
 exact snd fun n=>by
  simp only[RL.add,RL.mul,RL.neg,RL.const]
  grind
theorem T3(v w:RE)(h1:v*v=w*w)(_h2:0≤v)(h3:0≤w):v≤w:=fun hg=>far (aT (aT (mul_pos (aX hg) (aX hg)) (aQ (jw h1))) (lL (by decide+kernel:(0:Rat)<2) (cZ (aQ h3) (le_of_lt (aX hg))))) (J3 v w)
theorem JD(v w:RE):((w-(v))*(w-(v)))+((v*v-(w*w)))+of 2*((v-(0))*(w-(v)))=0:=by
 induction v using auM
 induction w using auM
 exact snd fun n=>by
  simp only[RL.add,RL.mul,RL.neg,RL.const]
  grind
theorem Wm(v w:RE)(h1:v*v=w*w)(h2:0≤v)(_h3:0≤w):w≤v:=fun hg=>far (aT (aT (mul_pos (aX hg) (aX hg)) (aQ (iy h1))) (lL (by decide+kernel:(0:Rat)<2) (cZ (aQ h2) (le_of_lt (aX hg))))) (JD v w)
theorem adv(v w:RE)(h1:v*v=w*w)(h2:0≤v)(h3:0≤w):v=w:=le_antisymm (T3 v w h1 h2 h3) (Wm v w h1 h2 h3)
theorem HV(v w:RE):((v-(w))*(v-(w)))+((v*v-(w*w)))+of 2*((0-(v))*(v-(w)))=0:=by
 induction v using auM
 induction w using auM
 exact snd fun n=>by
  simp only[RL.add,RL.mul,RL.neg,RL.const]
  grind
theorem Pk(v w:RE)(h1:v*v=w*w)(h2:v≤0)(_h3:w≤0):v≤w:=fun hg=>far (aT (aT (mul_pos (aX hg) (aX hg)) (aQ (iy h1))) (lL (by decide+kernel:(0:Rat)<2) (cZ (aQ h2) (le_of_lt (aX hg))))) (HV v w)
theorem F5(v w:RE):((w-(v))*(w-(v)))+((w*w-(v*v)))+of 2*((0-(w))*(w-(v)))=0:=by
 induction v using auM
 induction w using auM
 exact snd fun n=>by
  simp only[RL.add,RL.mul,RL.neg,RL.const]
  grind
theorem PB(v w:RE)(h1:v*v=w*w)(_h2:v≤0)(h3:w≤0):w≤v:=fun hg=>far (aT (aT (mul_pos (aX hg) (aX hg)) (aQ (jw h1))) (lL (by decide+kernel:(0:Rat)<2) (cZ (aQ h3) (le_of_lt (aX hg))))) (F5 v w)
theorem SD(v w:RE)(h1:v*v=w*w)(h2:v≤0)(h3:w≤0):v=w:=le_antisymm (Pk v w h1 h2 h3) (PB v w h1 h2 h3)
theorem Sy(u v w Q:RE):((v*v-(w*w)))+((Q-(u*u+v*v)))+((u*u+w*w-(Q)))=0:=by
 induction u using auM
 induction v using auM
 induction w using auM
 induction Q using auM
 exact snd fun n=>by
  simp only[RL.add,RL.mul,RL.neg,RL.const]
  grind
theorem akq(u v w Q:RE)(h1:u*u+v*v=Q)(h2:u*u+w*w=Q):v*v≤w*w:=fun hg=>far (aT (aT (aX hg) (aQ (jw h1))) (aQ (iy h2))) (Sy u v w Q)
theorem VD(u v w Q:RE):((w*w-(v*v)))+((u*u+v*v-(Q)))+((Q-(u*u+w*w)))=0:=by
 induction u using auM
 induction v using auM
 induction w using auM
 induction Q using auM
 exact snd fun n=>by
  simp only[RL.add,RL.mul,RL.neg,RL.const]
  grind
theorem ak1(u v w Q:RE)(h1:u*u+v*v=Q)(h2:u*u+w*w=Q):w*w≤v*v:=fun hg=>far (aT (aT (aX hg) (aQ (iy h1))) (aQ (jw h2))) (VD u v w Q)
theorem anO(u v w Q:RE)(h1:u*u+v*v=Q)(h2:u*u+w*w=Q):v*v=w*w:=le_antisymm (akq u v w Q h1 h2) (ak1 u v w Q h1 h2)
theorem JV(a b:RE):((a-(b)))+((-a-(-b)))=0:=by
 induction a using auM
 induction b using auM
 exact snd fun n=>by
  simp only[RL.add,RL.neg,RL.const]
  grind
theorem V9(a b:RE)(h1: -a= -b):a≤b:=fun hg=>far (aT (aX hg) (aQ (iy h1))) (JV a b)
theorem IZ(a b:RE):((b-(a)))+((-b-(-a)))=0:=by
 induction a using auM
 induction b using auM
 exact snd fun n=>by
  simp only[RL.add,RL.neg,RL.const]
  grind
theorem TY(a b:RE)(h1: -a= -b):b≤a:=fun hg=>far (aT (aX hg) (aQ (jw h1))) (IZ a b)
theorem aaV(a b:RE)(h1: -a= -b):a=b:=le_antisymm (V9 a b h1) (TY a b h1)
theorem FZ{u v:RE}:(upA (cls u v)=true→0≤v)∧(upA (cls u v)=false→v≤0)∧(ufA (cls u v)=true→0≤v)∧(ufA (cls u v)=false→v≤0):=by
 unfold cls upA ufA
 rcases dE v with⟨h,e⟩|⟨h,e⟩|⟨h,e⟩<;>rw[e]
 ·exact⟨fun _=>le_of_lt h,fun g=>(by cases g),fun _=>le_of_lt h,fun g=>(by cases g)⟩
 ·rw[h];exact⟨fun _=>le_refl _,fun _=>le_refl _,fun _=>le_refl _,fun _=>le_refl _⟩
 ·exact⟨fun g=>(by cases g),fun _=>le_of_lt h,fun g=>(by cases g),fun _=>le_of_lt h⟩
theorem ME{c:Ln}{p q:Pt}(hp:onCi c p)(hq:onCi c q)(hx:pX p=pX q)(g:(0≤pY p-of c.2.1∧0≤pY q-of c.2.1)∨(pY p-of c.2.1≤0∧pY q-of c.2.1≤0)):pR p=pR q:=by
 unfold onCi at hp hq
 rw[hx]at hp
 have e:=anO _ _ _ _ hp hq
 refine axg hx ?_
 rcases g with⟨a,b⟩|⟨a,b⟩
 ·exact tD _ _ _ (adv _ _ e a b)
 ·exact tD _ _ _ (SD _ _ e a b)
end RE
open RE in
theorem fH{c:Cv}(ha:c.1=true){p:Pt}(hp:Sp c p):onCi (ciC c) p:=by
 have:=hp.1
 have g:=hp.2
 unfold em at g
 rw[ha]at g
 exact ins_on (avQ.1 g)
open RE in
theorem EC{c:Cv}(h:Crp c)(ha:c.1=true):∃κ:Pt→Bool×RE,(∀d:Cv,d.1=true→ciC d=ciC c→cwC d=cwC c→Sp c (frC d)→∀p q,Sp c p→Sp c q→cj d p q=jJ (fun x y:RE=>sg (x-y)) (κ (frC d)) (κ p) (κ q))∧∀p q,Sp c p→Sp c q→(κ p=κ q↔aV p q=0):=by
 cases hw:cwC c
 ·refine⟨fun p=>(upR (ciC c) p,pX p),fun d d1 d2 d3 hd p q hp hq=>?_,fun p q hp hq=>?_⟩
  ·have i1:=hd.1
   have:=hp.1
   have:=hq.1
   have e:∀{x y:Pt},Rpd x→Rpd y→bS (xP x) (xP y)=sg (pX x-pX y):=fun{x y} _ _=>by rw[cmpT_re oE oE,wD,wD]
   unfold cj
   rw[d1,d3,cond_true,cond_false,d2]
   exact fN (e hp.1 i1) (e hq.1 i1) (e hp.1 hq.1)
  ·have r1:=hp.1
   have r2:=hq.1
   rw[cmpP_0]
   constructor
   ·intro e
    injection e with e1 e2
    rw[jy,jy]at e1
    refine ME (fH ha hp) (fH ha hq) e2 ?_
    cases g:upA (cls (pX p-of (ciC c).1) (pY p-of (ciC c).2.1))
    ·exact .inr ⟨FZ.2.1 g,FZ.2.1 (e1.symm.trans g)⟩
    ·exact .inl ⟨FZ.1 g,FZ.1 (e1.symm.trans g)⟩
   ·intro e
    have e1:pX p=pX q:=congrArg Prod.fst e
    have e2:pY p=pY q:=congrArg Prod.snd e
    show(upR (ciC c) p,pX p)=(upR (ciC c) q,pX q)
    rw[jy,jy,e1,e2]
 ·refine⟨fun p=>(upR (flC (ciC c)) (flP p),-pX p),fun d d1 d2 d3 hd p q hp hq=>?_,fun p q hp hq=>?_⟩
  ·have i1:=hd.1
   have:=hp.1
   have:=hq.1
   have e:∀{x y:Pt},Rpd x→Rpd y→bS (xP (flP x)) (xP (flP y))=sg (-pX x- -pX y):=fun{x y} _ _=>by rw[cmpT_re oE oE,wD,wD,HX,HX]
   unfold cj
   rw[d1,d3,cond_true,cond_true,d2]
   exact fN (e hp.1 i1) (e hq.1 i1) (e hp.1 hq.1)
  ·have r1:=hp.1
   have r2:=hq.1
   rw[cmpP_0]
   have u1:=wm (h.q ha) (fH ha hp)
   have u2:=wm (h.q ha) (fH ha hq)
   constructor
   ·intro e
    injection e with e1 e2
    rw[u1,u2]at e1
    refine ME (fH ha hp) (fH ha hq) (aaV _ _ e2) ?_
    cases g:ufA (cls (pX p-of (ciC c).1) (pY p-of (ciC c).2.1))
    ·exact .inr ⟨FZ.2.2.2 g,FZ.2.2.2 (e1.symm.trans g)⟩
    ·exact .inl ⟨FZ.2.2.1 g,FZ.2.2.1 (e1.symm.trans g)⟩
   ·intro e
    have e1:pX p=pX q:=congrArg Prod.fst e
    have e2:pY p=pY q:=congrArg Prod.snd e
    show(upR (flC (ciC c)) (flP p),-pX p)=(upR (flC (ciC c)) (flP q),-pX q)
    rw[u1,u2,e1,e2]
open RE in
theorem uE{c:Cv}(h:Crp c):∃(K:Type) (lt:K→K→Prop) (κ:Pt→K) (f:K→K→Int),l6 lt∧uY lt f∧(∀p q,Sp c p→Sp c q→cj c p q=f (κ p) (κ q))∧∀p q,Sp c p→Sp c q→(κ p=κ q↔aV p q=0):=by
 have hF:=h.f
 cases ha:c.1
 ·cases hd:decide (aV (frC c) (toC c)>0)
  ·refine⟨PE,alH,pR,lxc,jM,ij,fun p q hp hq=>?_,fun p q hp hq=>?_⟩
   ·have:=hp.1
    have:=hq.1
    unfold cj
    rw[ha,hd,cond_false,cond_false,lQ]
   ·have:=hp.1
    have:=hq.1
    exact cmpP_0.symm
  ·refine⟨PE,_,pR,_,Th jM,P7 ij,fun p q hp hq=>?_,fun p q hp hq=>?_⟩
   ·have:=hp.1
    have:=hq.1
    unfold cj
    rw[ha,hd,cond_false,cond_true,lQ]
   ·have:=hp.1
    have:=hq.1
    exact cmpP_0.symm
 ·obtain⟨κ,h1,h2⟩:=EC h ha
  exact⟨Bool×RE,_,κ,_,Cw (KE lt_lin) (κ (frC c)),xW lt_lin sg_cmpO _,h1 c ha rfl rfl hF,h2⟩
structure Ord (c:Cv):Prop where
 tr:∀{p q r},Sp c p→Sp c q→Sp c r→cj c p q<0→cj c q r<0→cj c p r<0
 tri:∀{p q},Sp c p→Sp c q→cj c p q<0∨aV p q=0∨cj c q p<0
 irr:∀{p q},Sp c p→Sp c q→aV p q=0→cj c p q=0
 asy:∀{p q},Sp c p→Sp c q→cj c p q<0→0<cj c q p
theorem pE{c:Cv}(h:Crp c):Ord c:=by
 obtain⟨K,lt,κ,f,hl,hc,ho,hk⟩:=uE h
 have n:∀{p q},Sp c p→Sp c q→(cj c p q<0↔lt (κ p) (κ q)):=fun{p q} hp hq=>by
  rw[ho p q hp hq,←awA (p:=f (κ p) (κ q)<0)]
  exact z6 hl hc _ _
 refine⟨fun{p q r} hp hq hr g g'=>?_,fun{p q} hp hq=>?_,fun{p q} hp hq g=>?_,fun{p q} hp hq g=>?_⟩
 ·rw[n hp hr]
  exact hl.tr _ _ _ ((n hp hq).1 g) ((n hq hr).1 g')
 ·rw[n hp hq,n hq hp,←hk p q hp hq]
  exact hl.tri _ _
 ·rw[ho p q hp hq,(hc _ _).2.1 ((hk p q hp hq).2 g)]
 ·rw[ho q p hq hp,(hc _ _).2.2 ((n hp hq).1 g)]
  decide
def Spb(c:Cv)(x:BP):Prop:=Sp c (dec x)
theorem Tu{c:Cv}(o:Ord c){x:BP}(hx:Spb c x):∀{l:List BP},(∀y∈l,Spb c y)→l.Pairwise (fun a b=>cj c (dec a) (dec b)<0)→(fM c l x).Pairwise (fun a b=>cj c (dec a) (dec b)<0)
 |[],_,_=>by simp[fM]
 |y::r,hl,hp=>by
  have hy:=hl y (by simp)
  have hr:∀z∈r,Spb c z:=fun z hz=>hl z (au4 _ hz)
  obtain⟨p1,p2⟩:=avh.1 hp
  simp only[fM]
  by_cases h1:cj c (dec y) (dec x)<0
  ·rw[auO h1,cond_true]
   refine avh.2 ⟨fun z hz=>?_,Tu o hx hr p2⟩
   rcases qf hz with g|g
   ·exact p1 z g
   ·rw[g];exact h1
  ·rw[auQ h1,cond_false]
   by_cases h2:aV (dec y) (dec x)=0
   ·rw[avQ.2 h2,cond_true];exact hp
   ·rw[awo.2 h2,cond_false]
    have h3:cj c (dec x) (dec y)<0:=by
     rcases o.tri hy hx with g|g|g
     ·exact absurd g h1
     ·exact absurd g h2
     ·exact g
    refine avh.2 ⟨fun z hz=>?_,hp⟩
    rcases au5.1 hz with g|g
    ·rw[g];exact h3
    ·exact o.tr hx hy (hr z g) h3 (p1 z g)
theorem KF{c:Cv}(o:Ord c):∀{l out:List BP},(∀y∈l,Spb c y)→(∀y∈out,Spb c y)→out.Pairwise (fun a b=>cj c (dec a) (dec b)<0)→(l.foldl (fM c) out).Pairwise (fun a b=>cj c (dec a) (dec b)<0)
 |[],_,_,_,h=>h
 |x::l,out,hl,ho,h=>KF o (l:=l) (fun y hy=>hl y (au4 _ hy)) (fun y hy=>by
   rcases qf hy with g|g
   ·exact ho y g
   ·rw[g];exact hl x (by simp)) (Tu o (hl x (by simp)) ho h)
theorem Xl{c:Cv}(o:Ord c){l:List BP}(hl:∀y∈l,Spb c y):(eU c l).Pairwise (fun a b=>cj c (dec a) (dec b)<0):=KF o hl (fun y hy=>by cases hy) List.Pairwise.nil
theorem JY{c:BCU}{R:BP→BP→Prop}{p:BCU}:∀{s:List BP},s.Pairwise R→p∈jG c s→∃x y,x∈s∧y∈s∧R x y∧p=pg c x y
 |[],_,h=>by cases h
 |[_],_,h=>by cases h
 |x::y::r,hp,h=>by
  obtain⟨p1,p2⟩:=avh.1 hp
  simp only[jG]at h
  rcases au5.1 h with h|h
  ·exact⟨x,y,by simp,by simp,p1 y (by simp),h⟩
  ·obtain⟨a,b,h1,h2,h3,h4⟩:=JY p2 h
   exact⟨a,b,au4 _ h1,au4 _ h2,h3,h4⟩
theorem Yx{c:BCU}(h:gdN c){l:List BP}(ho:∀p∈l,okP 500 p∧onR (dC c) (dec p)=true):∀x∈vD c l,okP 500 x∧Spb (dC c) x:=by
 intro z hz
 rcases Mg hz with e|e|e
 ·rw[e];exact⟨h.1.1.2.2.1,kM h.1.1.2.2.1,h.2.1⟩
 ·rw[e];exact⟨h.1.1.2.2.2,kM h.1.1.2.2.2,h.2.2.1⟩
 ·exact⟨(ho z e).1,kM (ho z e).1,(au6.1 (ho z e).2).1⟩
theorem amB{c:BCU}(h:gdN c){l:List BP}(ho:∀p∈l,okP 500 p∧onR (dC c) (dec p)=true):(vD c l).Pairwise (fun a b=>cj (dC c) (dec a) (dec b)<0):=by
 refine Xl (pE (vU h.gd)) fun y hy=>?_
 rcases avj.1 hy with hy|hy
 ·simp only[au5,awi,axz]at hy
  rcases hy with e|e
  ·rw[e];exact⟨kM h.1.1.2.2.1,h.2.1⟩
  ·rw[e];exact⟨kM h.1.1.2.2.2,h.2.2.1⟩
 ·exact⟨kM (ho y hy).1,(au6.1 (ho y hy).2).1⟩
theorem aeo{c:BCU}(h:gdN c){l:List BP}(ho:∀p∈l,okP 500 p∧onR (dC c) (dec p)=true):∀p∈kJ c l,gdN p:=by
 intro p hp
 have hm:=ala h ho p hp
 obtain⟨x,y,hx,hy,hr,e⟩:=JY (amB h ho) hp
 have o:=pE (vU h.gd)
 refine⟨hm.1,hm.2.1,hm.2.2,fun g=>?_⟩
 rw[e]at g
 have:=o.irr (Yx h ho x hx).2 (Yx h ho y hy).2 g
 omega
theorem acA{x:Pce}(h:uD x):∀p∈Fl x,gdN p:=by
 intro p hp
 have hA:=Fd h.1
 unfold Fl at hp
 cases hl:ofL x.1 with
 |nil=>rw[hl]at hp;cases hp
 |cons c r=>
  rw[hl]at hp hA
  exact aeo (hA c (by simp)) (T8 (hA c (by simp)) (Fd h.2.1)).2 p hp
theorem wM{x:Pce}(h:uD x)(ho:rC x=true):gdN (aU x):=acA h _ (Nh h ho)
theorem gdN.e{c:BCU}(h:gdN c):RE.GdE (dC c):=(vU h.gd).e h.2.2.2
end
def yD(c:Cv)(p q:Pt):Int:=bif c.1 then(bif cwC c then-(eZ bS (ptd (ciC c) (toC c)) (ptd (ciC c) p) (ptd (ciC c) q))else eZ bS (ptd (ciC c) (frC c)) (ptd (ciC c) p) (ptd (ciC c) q))else aV p q*aV (toC c) (frC c)
namespace RE
theorem abz:∀kF kP kQ:Fin 4,∀iF iP iQ:Fin 3,Jc kF.1 iF.1 kP.1 iP.1 kQ.1 iQ.1=true→
  eZ cI (upA kF.1,iF.1) (upA kP.1,iP.1) (upA kQ.1,iQ.1)=jJ cI (upA kF.1,iF.1) (upA kP.1,iP.1) (upA kQ.1,iQ.1):=by decide+kernel
theorem alT:∀kF kT:Fin 4,∀iF iT:Fin 4,(mD kF.1 iF.1 kT.1 iT.1&&mD kT.1 iT.1 kF.1 iF.1)=true→∀kP iP:Fin 4,(mD kF.1 iF.1 kP.1 iP.1&&mD kP.1 iP.1 kF.1 iF.1&&mD kT.1 iT.1 kP.1 iP.1&&mD kP.1 iP.1 kT.1 iT.1&&decide (eZ cI (upA kT.1,iT.1) (upA kP.1,iP.1) (upA kF.1,iF.1)≤0))=true→
  ∀kQ iQ:Fin 4,(mD kF.1 iF.1 kQ.1 iQ.1&&mD kQ.1 iQ.1 kF.1 iF.1&&mD kT.1 iT.1 kQ.1 iQ.1&&mD kQ.1 iQ.1 kT.1 iT.1&&mD kP.1 iP.1 kQ.1 iQ.1&&mD kQ.1 iQ.1 kP.1 iP.1&&decide (eZ cI (upA kT.1,iT.1) (upA kQ.1,iQ.1) (upA kF.1,iF.1)≤0))=true→
  -(eZ cI (upA kT.1,iT.1) (upA kP.1,iP.1) (upA kQ.1,iQ.1))=jJ dI (ufA kF.1,iF.1) (ufA kP.1,iP.1) (ufA kQ.1,iQ.1):=by decide+kernel
theorem JW{ci:Ln}{F P Q:Pt}[Rpd F][Rpd P][Rpd Q](hQ:0<ci.2.2)(hF:onCi ci F)(hP:onCi ci P)(hq:onCi ci Q):
  eZ bS (ptd ci F) (ptd ci P) (ptd ci Q)=jJ bS (ptd ci F) (ptd ci P) (ptd ci Q):=by
 have mF:pX F∈[pX F,pX P,pX Q]:=by simp
 have mP:pX P∈[pX F,pX P,pX Q]:=by simp
 have mQ:pX Q∈[pX F,pX P,pX Q]:=by simp
 have h0:0<of ci.2.2:=jz hQ
 have hcon:Jc (cls (pX F-of ci.1) (pY F-of ci.2.1)) (rk (fun a b:RE=>a<b) [pX F,pX P,pX Q] (pX F)) (cls (pX P-of ci.1) (pY P-of ci.2.1)) (rk (fun a b:RE=>a<b) [pX F,pX P,pX Q] (pX P)) (cls (pX Q-of ci.1) (pY Q-of ci.2.1)) (rk (fun a b:RE=>a<b) [pX F,pX P,pX Q] (pX Q))=true:=by
  unfold Jc
  rw[dp h0 hF hP mF mP,dp h0 hP hF mP mF,dp h0 hF hq mF mQ,dp h0 hq hF mQ mF,dp h0 hP hq mP mQ,dp h0 hq hP mQ mP]
  rfl
 have a:=abz ⟨_,lW (pX F-of ci.1) (pY F-of ci.2.1)⟩ ⟨_,lW (pX P-of ci.1) (pY P-of ci.2.1)⟩ ⟨_,lW (pX Q-of ci.1) (pY Q-of ci.2.1)⟩ ⟨_,lJ lt_lin mF⟩ ⟨_,lJ lt_lin mP⟩ ⟨_,lJ lt_lin mQ⟩ hcon
 simp only at a
 unfold ptd
 rw[jy,jy,jy,iV (fo mP mF) (fo mQ mF) (fo mP mQ),fN (fo mP mF) (fo mQ mF) (fo mP mQ)]
 exact a
theorem an7{ci:Ln}{F T P Q:Pt}[Rpd F][Rpd T][Rpd P][Rpd Q](hQ:0<ci.2.2)(hF:onCi ci F)(hT:onCi ci T)(hP:onCi ci P)(hq:onCi ci Q)
  (oP:decide (eZ bS (ptd ci T) (ptd ci P) (ptd ci F)≤0)=true) (oQ:decide (eZ bS (ptd ci T) (ptd ci Q) (ptd ci F)≤0)=true):
  -(eZ bS (ptd ci T) (ptd ci P) (ptd ci Q))=jJ bS (ptd (flC ci) (flP F)) (ptd (flC ci) (flP P)) (ptd (flC ci) (flP Q)):=by
 have mF:pX F∈[pX F,pX T,pX P,pX Q]:=by simp
 have mT:pX T∈[pX F,pX T,pX P,pX Q]:=by simp
 have mP:pX P∈[pX F,pX T,pX P,pX Q]:=by simp
 have mQ:pX Q∈[pX F,pX T,pX P,pX Q]:=by simp
 have h0:0<of ci.2.2:=jz hQ
 revert oP oQ
 unfold ptd
 rw[jy,jy,jy,jy,wm hQ hF,wm hQ hP,wm hQ hq,iV (fo mP mT) (fo mF mT) (fo mP mF),iV (fo mQ mT) (fo mF mT) (fo mQ mF),iV (fo mP mT) (fo mQ mT) (fo mP mQ),fN (np mP mF) (np mQ mF) (np mP mQ)]
 intro oP oQ
 refine alT ⟨_,lW (pX F-of ci.1) (pY F-of ci.2.1)⟩ ⟨_,lW (pX T-of ci.1) (pY T-of ci.2.1)⟩ ⟨_,lJ lt_lin mF⟩ ⟨_,lJ lt_lin mT⟩ ?_ ⟨_,lW (pX P-of ci.1) (pY P-of ci.2.1)⟩ ⟨_,lJ lt_lin mP⟩ ?_ ⟨_,lW (pX Q-of ci.1) (pY Q-of ci.2.1)⟩ ⟨_,lJ lt_lin mQ⟩ ?_
 ·simp only
  rw[dp h0 hF hT mF mT,dp h0 hT hF mT mF]
  rfl
 ·simp only
  rw[dp h0 hF hP mF mP,dp h0 hP hF mP mF,dp h0 hT hP mT mP,dp h0 hP hT mP mT,oP]
  rfl
 ·simp only
  rw[dp h0 hF hq mF mQ,dp h0 hq hF mQ mF,dp h0 hT hq mT mQ,dp h0 hq hT mQ mT,dp h0 hP hq mP mQ,dp h0 hq hP mQ mP,oQ]
  rfl
theorem iM{p q:Pt}[Rpd p][Rpd q]:aV p q= -aV q p:=by
 rw[lQ,lQ]
 rcases jM.tri (pR p) (pR q)with h|h|h
 ·rw[(ij _ _).1 h,(ij _ _).2.2 h]
 ·rw[h,(ij (pR q) (pR q)).2.1 rfl];rfl
 ·rw[(ij _ _).2.2 h,(ij _ _).1 h];rfl
theorem ord_eq{c:Cv}(h:Crp c)(hne:aV (frC c) (toC c)≠0){p q:Pt}(hp:Rpd p)(hq:Rpd q)(op:onP c p=true)(oq:onP c q=true):yD c p q=cj c p q:=by
 have hf:=h.f.1
 have ht:=h.t.1
 unfold onP at op oq
 obtain⟨sp,rp⟩:=au6.1 op
 obtain⟨sq,rq⟩:=au6.1 oq
 unfold yD cj
 unfold gO at rp rq
 cases ha:c.1
 ·rw[cond_false,cond_false,iM (p:=toC c)]
  have hb:=i9 (frC c) (toC c)
  by_cases hd:aV (frC c) (toC c)>0
  ·rw[auO hd,cond_true,show aV (frC c) (toC c)=1 by omega]
   omega
  ·rw[auQ hd,cond_false,show aV (frC c) (toC c)= -1 by omega]
   omega
 ·rw[ha,cond_true]at rp rq
  rw[cond_true,cond_true]
  have q0:=h.q ha
  have oF:=fH ha h.f
  have oT:=fH ha h.t
  have oP:=fH ha ⟨hp,sp⟩
  have oQ:=fH ha ⟨hq,sq⟩
  unfold ccF ccT at rp rq
  cases hw:cwC c
  ·rw[cond_false,cond_false]
   exact JW q0 oF oP oQ
  ·rw[hw,cond_true,cond_true]at rp rq
   rw[cond_true,cond_true]
   exact an7 q0 oF oT oP oQ rp rq
end RE
theorem aa2(f p q:Bool×Rt): -1≤eZ bS f p q∧eZ bS f p q≤1:=by
 have h:∀n,-1≤zq n∧zq n≤1:=fun n=>by
  unfold zq
  split<;>(try split)<;>omega
 unfold eZ
 cases ni bS f p==ni bS f q
 ·exact h _
 ·exact h _
def ago:Env:=[(108,Ew),(110,CC)]
theorem VN:EnvAll Tryz.prog ago:=⟨zh,yR,trivial⟩
def arh:Ctx:=CX ago []
def ahr(c:BCU)(p q:BP)(_k:KT):OLR:=match !c.1 with|true=>(match decide (okP 4000 p∧okP 4000 q)with|true=>(match decide (okP 4000 c.2.2.2.2.2∧okP 4000 c.2.2.2.2.1)with|true=>some [RV.d ayb (i64.wrap ((aV (dec p) (dec q))*(aV (dec c.2.2.2.2.2) (dec c.2.2.2.2.1))))]|false=>none)|false=>none)|false=>(match c.2.2.2.1 with|true=>(match decide (ok Ln 300 c.2.2.1∧okP 4000 c.2.2.2.2.2∧okP 4000 p∧okP 4000 q)with|true=>some [RV.d ayb (i64.wrap (0-(eZ bS (ptd (dec c.2.2.1) (dec c.2.2.2.2.2)) (ptd (dec c.2.2.1) (dec p)) (ptd (dec c.2.2.1) (dec q)))))]|false=>none)|false=>(match decide (ok Ln 300 c.2.2.1∧okP 4000 c.2.2.2.2.1∧okP 4000 p∧okP 4000 q)with|true=>some [RV.d ayb (eZ bS (ptd (dec c.2.2.1) (dec c.2.2.2.2.1)) (ptd (dec c.2.2.1) (dec p)) (ptd (dec c.2.2.1) (dec q)))]|false=>none))
theorem asQ(c:BCU)(p q:BP):RS arh 67 [.d tCU c,.d tP p,.d tP q] (ahr c p q):=rsX
theorem adN(c:BCU)(p q:BP)(h:okC 4000 c∧okP 4000 p∧okP 4000 q):Con Tryz.prog 67 [.d tCU c,.d tP p,.d tP q] [.d ayb (yD (dC c) (dec p) (dec q))]:=by
 refine aO VN (asQ _ _ _ ⟨0,?_⟩)
 obtain⟨hc,hp,hq⟩:=h
 obtain⟨ar,li,ci,cw,fr,to⟩:=c
 have h3:=hc.2.2.1
 have h4:=hc.2.2.2
 simp only at h3 h4
 unfold ahr yD
 cases ar
 ·have b1:=i9 (dec p) (dec q)
  have b2:=i9 (dec to) (dec fr)
  simp only[dT (show okP 4000 p∧okP 4000 q from⟨hp,hq⟩),dT (show okP 4000 to∧okP 4000 fr from⟨h4,h3⟩),Jd b1 b2]
  rfl
 ·have e:=(hc.1 rfl).1
  simp only at e
  cases cw
  ·simp only[dT (show ok Ln 300 ci∧okP 4000 fr∧okP 4000 p∧okP 4000 q from⟨e,h3,hp,hq⟩)]
   rfl
  ·have b:=aa2 (ptd (dec ci) (dec to)) (ptd (dec ci) (dec p)) (ptd (dec ci) (dec q))
   simp only[dT (show ok Ln 300 ci∧okP 4000 to∧okP 4000 p∧okP 4000 q from⟨e,h4,hp,hq⟩)]
   try dsimp only[Bool.not_true]
   rw[bz (x:=0-eZ bS (ptd (dec ci) (dec to)) (ptd (dec ci) (dec p)) (ptd (dec ci) (dec q))) (by omega) (by omega),awS]
   rfl
def Te:aM:=spN true true [tCU,tP,tP] (fun x=>decide (okC 4000 x.1∧okP 4000 x.2.1∧okP 4000 x.2.2.1)) (fun x=>[RV.d ayb (yD (dC x.1) (dec x.2.1) (dec x.2.2.1))])
theorem Re:SpK 67 Te:=spX fun x h=>adN x.1 x.2.1 x.2.2.1 (auN h)
theorem oC{α:Type}{lt:α→α→Prop}(h:l6 lt){L:List α}{a b:α}(ha:a∈L)(hb:b∈L):lt a b↔rk lt L a<rk lt L b:=by
 refine⟨fun g=>tM h g ha,fun g=>?_⟩
 rcases h.tri a b with e|e|e
 ·exact e
 ·rw[e]at g;omega
 ·have:=tM h e hb;omega
theorem LA{α:Type}{lt:α→α→Prop}{f:α→α→Int}(hl:l6 lt)(h:uY lt f)(x y:α):f x y≤0↔¬lt y x:=by
 rcases hl.tri x y with g|g|g
 ·rw[(h x y).1 g];exact⟨fun _ e=>hl.irr _ (hl.tr _ _ _ e g),fun _=>by decide⟩
 ·rw[(h x y).2.1 g];exact⟨fun _ e=>by rw[g]at e;exact hl.irr _ e,fun _=>by decide⟩
 ·rw[(h x y).2.2 g];exact⟨fun e=>absurd e (by decide),fun e=>absurd g e⟩
theorem ib{α:Type}{lt:α→α→Prop}{f:α→α→Int}(hl:l6 lt)(h:uY lt f)(x y:α):f x y<0↔lt x y:=by
 rw[←awA (p:=f x y<0)]
 exact z6 hl h x y
def pcC(c:Cv)(x y:Pt):Cv:=(c.1,c.2.1,c.2.2.1,c.2.2.2.1,x,y)
structure aeb (c:Cv):Prop extends Ord c where
 le:∀{p q},Sp c p→Sp c q→(cj c p q≤0↔¬cj c q p<0)
 lt:∀{p q r},Sp c p→Sp c q→Sp c r→¬cj c q p<0→¬cj c r q<0→¬cj c r p<0
theorem qy{c:Cv}(h:Crp c):aeb c:=by
 obtain⟨K,lt,κ,f,hl,hc,ho,hk⟩:=uE h
 refine⟨pE h,fun{p q} hp hq=>?_,fun{p q r} hp hq hr=>?_⟩
 ·rw[ho p q hp hq,ho q p hq hp,LA hl hc,ib hl hc]
 ·rw[ho q p hq hp,ho r q hr hq,ho r p hr hp,ib hl hc,ib hl hc,ib hl hc]
  intro g g' e
  rcases hl.tri (κ q) (κ p)with a|a|a
  ·exact g a
  ·exact g' (by rw[a];exact e)
  ·exact g' (hl.tr _ _ _ e a)
theorem qd{c:Cv}(h:Crp c){p:Pt}(hp:Rpd p):onR c p=true↔em c p=true∧¬cj c p (frC c)<0∧¬cj c (toC c) p<0:=by
 have o:=qy h
 unfold onR
 rw[au6,au6,awA,awA]
 refine and_congr_right fun hs=>?_
 rw[o.le h.f ⟨hp,hs⟩,o.le ⟨hp,hs⟩ h.t]
theorem A4{c:Cv}{x y:BP}:∀{r:List BP},y∈r→y∈fM c r x
 |[],h=>by cases h
 |z::r,h=>by
  simp only[fM]
  cases decide (cj c (dec z) (dec x)<0)
  ·cases aV (dec z) (dec x)==0
   ·exact au4 _ h
   ·exact h
  ·rcases au5.1 h with e|e
   ·rw[e];exact .head _
   ·exact au4 _ (A4 e)
theorem Ho{c:Cv}{y:BP}:∀{l r:List BP},y∈r→y∈l.foldl (fM c) r
 |[],_,h=>h
 |_::l,_,h=>Ho (l:=l) (A4 h)
theorem HP{c:BCU}(h:gdN c):cj (dC c) (frC (dC c)) (toC (dC c))<0:=by
 have k:=vU h.gd
 have hne:aV (frC (dC c)) (toC (dC c))≠0:=h.2.2.2
 cases ha:(dC c).1
 ·unfold cj
  rw[ha,cond_false]
  cases hd:decide (aV (frC (dC c)) (toC (dC c))>0)
  ·have:=av0 hd
   rw[cond_false];omega
  ·have:=auN hd
   rw[cond_true];omega
 ·rcases(pE k).tri k.f k.t with g|g|g
  ·exact g
  ·exact absurd g hne
  ·obtain⟨κ,h1,h2⟩:=EC k ha
   have hl:=KE RE.lt_lin
   rw[h1 (dC c) ha rfl rfl k.f _ _ k.t k.f,ib (Cw hl _) (xW RE.lt_lin RE.sg_cmpO _)]at g
   rcases g with⟨_,g⟩|⟨g1,g2⟩
   ·exact absurd g (hl.irr _)
   ·exact absurd (g1.1 g2) (hl.irr _)
theorem vE{c:BCU}(h:gdN c):onR (dC c) (frC (dC c))=true∧onR (dC c) (toC (dC c))=true:=by
 have k:=vU h.gd
 have o:=pE k
 have irr:∀{q},Sp (dC c) q→cj (dC c) q q=0:=fun{q} hq=>by
  have:=hq.1
  exact o.irr hq hq (RE.cmpP_0.2 rfl)
 have tf:=o.asy k.f k.t (HP h)
 rw[qd k k.f.1,qd k k.t.1,irr k.f,irr k.t]
 exact⟨⟨k.f.2,by omega,by omega⟩,k.t.2,by omega,by omega⟩
theorem Cg{K:Type}{lt:K→K→Prop}(h:l6 lt):∀{A B:List K},A.Pairwise lt→B.Pairwise lt→(∀x,x∈A↔x∈B)→A=B
 |[],[],_,_,_=>rfl
 |[],b::B,_,_,e=>absurd ((e b).2 (by simp)) (by simp)
 |a::A,[],_,_,e=>absurd ((e a).1 (by simp)) (by simp)
 |a::A,b::B,pa,pb,e=>by
  obtain⟨a1,a2⟩:=avh.1 pa
  obtain⟨b1,b2⟩:=avh.1 pb
  have ab:a=b:=by
   rcases au5.1 ((e a).1 (by simp))with g|g
   ·exact g
   ·rcases au5.1 ((e b).2 (by simp))with k|k
    ·exact k.symm
    ·exact absurd (h.tr _ _ _ (a1 b k) (b1 a g)) (h.irr a)
  subst ab
  rw[Cg h a2 b2 fun x=>⟨fun hx=>?_,fun hx=>?_⟩]
  ·rcases au5.1 ((e x).1 (au4 _ hx))with g|g
   ·rw[g]at hx;exact absurd (a1 a hx) (h.irr a)
   ·exact g
  ·rcases au5.1 ((e x).2 (au4 _ hx))with g|g
   ·rw[g]at hx;exact absurd (b1 a hx) (h.irr a)
   ·exact g
def eqL(A B:List BP):Prop:=A.length=B.length∧∀(i:Nat) (a b:BP),A[i]?=some a→B[i]?=some b→aV (dec a) (dec b)=0
theorem abi{K:Type}{f:BP→K}{A B:List BP}(e:A.map f=B.map f)(g:∀a∈A,∀b∈B,f a=f b→aV (dec a) (dec b)=0):eqL A B:=by
 refine⟨by simpa using congrArg List.length e,fun i a b ha hb=>?_⟩
 have h1:(A.map f)[i]?=some (f a):=by rw[avM,ha];rfl
 have h2:(B.map f)[i]?=some (f b):=by rw[avM,hb];rfl
 rw[e,h2]at h1
 injection h1 with h1
 exact g a (avq ha) b (avq hb) h1.symm
abbrev oL(c:Cv)(A:List BP):Prop:=A.Pairwise (fun a b=>cj c (dec a) (dec b)<0)
theorem tJ{c:Cv}(h:Crp c){A B:List BP}(hA:∀x∈A,Spb c x)(hB:∀x∈B,Spb c x)(pA:oL c A)(pB:oL c B)(e1:∀a∈A,∃b∈B,aV (dec a) (dec b)=0)(e2:∀b∈B,∃a∈A,aV (dec a) (dec b)=0):eqL A B:=by
 obtain⟨K,lt,κ,f,hl,hc,ho,hk⟩:=uE h
 have pw:∀{L:List BP},(∀x∈L,Spb c x)→oL c L→(L.map fun x=>κ (dec x)).Pairwise lt:=fun{L} hL pL=>by
  refine List.pairwise_map.2 (List.Pairwise.imp_of_mem (fun{a b} ha hb g=>?_) pL)
  rw[ho _ _ (hL a ha) (hL b hb)]at g
  exact(ib hl hc _ _).1 g
 refine abi (f:=fun x=>κ (dec x)) (Cg hl (pw hA pA) (pw hB pB) fun x=>⟨fun hx=>?_,fun hx=>?_⟩) fun a ha b hb g=>(hk _ _ (hA a ha) (hB b hb)).1 g
 ·obtain⟨a,ha,rfl⟩:=awc.1 hx
  obtain⟨b,hb,g⟩:=e1 a ha
  exact awc.2 ⟨b,hb,((hk _ _ (hA a ha) (hB b hb)).2 g).symm⟩
 ·obtain⟨b,hb,rfl⟩:=awc.1 hx
  obtain⟨a,ha,g⟩:=e2 b hb
  exact awc.2 ⟨a,ha,(hk _ _ (hA a ha) (hB b hb)).2 g⟩
section
section
variable {α K:Type}
def lw(lt:α→α→Bool):List α→α→List α
 |[],a=>[a]
 |b::r,a=>bif lt a b then b::lw lt r a else a::b::r
def sR(lt:α→α→Bool)(l:List α):List α:=(l.foldl (lw lt) []).reverse
def jL(eq:α→α→Bool):α→List α→List α
 |_,[]=>[]
 |p,q::r=>bif eq q p then jL eq q r else q::jL eq q r
def wA(eq:α→α→Bool):List α→List α
 |[]=>[]
 |x::r=>x::jL eq x r
theorem mH{lt:α→α→Bool}{a x:α}:∀{r:List α},x∈lw lt r a↔x=a∨x∈r
 |[]=>by simp[lw]
 |b::r=>by
  unfold lw
  cases lt a b
  ·simp
  ·simp only[cond_true,au5,mH (r:=r)]
   constructor
   ·rintro (h|h|h)
    ·exact .inr (.inl h)
    ·exact .inl h
    ·exact .inr (.inr h)
   ·rintro (h|h|h)
    ·exact .inr (.inl h)
    ·exact .inl h
    ·exact .inr (.inr h)
theorem Hy{lt:α→α→Bool}{x:α}:∀{l r:List α},x∈l.foldl (lw lt) r↔x∈l∨x∈r
 |[],r=>by simp
 |a::l,r=>by
  rw[awK,Hy,mH,au5]
  constructor
  ·rintro (h|h|h)
   ·exact .inl (.inr h)
   ·exact .inl (.inl h)
   ·exact .inr h
  ·rintro ((h|h)|h)
   ·exact .inr (.inl h)
   ·exact .inl h
   ·exact .inr (.inr h)
theorem pF{lt:α→α→Bool}{x:α}{l:List α}:x∈sR lt l↔x∈l:=by
 unfold sR
 rw[List.mem_reverse,Hy]
 simp
theorem uC{lt:α→α→Bool}{a:α}:∀{r:List α},(lw lt r a).length=r.length+1
 |[]=>rfl
 |b::r=>by
  unfold lw
  cases lt a b
  ·rfl
  ·simp[uC (r:=r)]
theorem L5{lt:α→α→Bool}:∀{l r:List α},(l.foldl (lw lt) r).length=l.length+r.length
 |[],r=>by simp
 |a::l,r=>by
  rw[awK,L5,uC,avc]
  omega
theorem GF{lt:α→α→Bool}{l:List α}:(sR lt l).length=l.length:=by
 unfold sR
 rw[List.length_reverse,L5]
 rfl
theorem HZ{eq:α→α→Bool}:∀{l:List α} {p:α},(jL eq p l).length≤l.length
 |[],_=>auY _
 |q::r,p=>by
  unfold jL
  have:=HZ (eq:=eq) (l:=r) (p:=q)
  cases eq q p
  ·simp only[cond_false,avc];omega
  ·simp only[cond_true,avc];omega
theorem Wb{eq:α→α→Bool}{l:List α}:(wA eq l).length≤l.length:=by
 cases l with
 |nil=>exact auY _
 |cons x r=>
  have:=HZ (eq:=eq) (l:=r) (p:=x)
  simp only[wA,avc]
  omega
theorem xB{eq:α→α→Bool}{x:α}:∀{l:List α} {p:α},x∈jL eq p l→x∈l
 |[],_,h=>h
 |q::r,p,h=>by
  unfold jL at h
  cases hq:eq q p<;>rw[hq]at h
  ·rcases au5.1 h with e|e
   ·rw[e];simp
   ·exact au4 _ (xB e)
  ·exact au4 _ (xB h)
theorem Su{eq:α→α→Bool}{x:α}{l:List α}(h:x∈wA eq l):x∈l:=by
 cases l with
 |nil=>exact h
 |cons y r=>
  rcases au5.1 h with e|e
  ·rw[e];simp
  ·exact au4 _ (xB e)
variable {lt:K→K→Prop} (hl:l6 lt) (κ:α→K)
abbrev upK(lt:K→K→Prop)(κ:α→K)(l:List α):Prop:=l.Pairwise fun a b=>¬lt (κ b) (κ a)
abbrev dnK(lt:K→K→Prop)(κ:α→K)(l:List α):Prop:=l.Pairwise fun a b=>¬lt (κ a) (κ b)
include hl in
theorem M9{f:α→α→Bool}{a:α}:∀{r:List α},(∀b∈r,(f a b=true↔lt (κ a) (κ b)))→dnK lt κ r→dnK lt κ (lw f r a)
 |[],_,_=>by simp[lw]
 |b::r,hf,hp=>by
  obtain⟨p1,p2⟩:=avh.1 hp
  have hb:=hf b (by simp)
  unfold lw
  cases hfb:f a b
  ·simp only[cond_false]
   have nlt:¬lt (κ a) (κ b):=fun h=>by rw[hb.2 h]at hfb;cases hfb
   refine avh.2 ⟨fun x hx=>?_,hp⟩
   rcases au5.1 hx with e|e
   ·rw[e];exact nlt
   ·intro h
    rcases hl.tri (κ b) (κ x)with g|g|g
    ·exact p1 x e g
    ·rw[←g]at h;exact nlt h
    ·exact nlt (hl.tr _ _ _ h g)
  ·simp only[cond_true]
   have hlt:=hb.1 hfb
   refine avh.2 ⟨fun x hx=>?_,M9 (fun y hy=>hf y (au4 _ hy)) p2⟩
   rcases mH.1 hx with e|e
   ·rw[e];intro h;exact hl.irr _ (hl.tr _ _ _ h hlt)
   ·exact p1 x e
include hl in
theorem LH{f:α→α→Bool}:∀{l r:List α},(∀a b,(a∈l∨a∈r)→(b∈l∨b∈r)→(f a b=true↔lt (κ a) (κ b)))→dnK lt κ r→dnK lt κ (l.foldl (lw f) r)
 |[],_,_,h=>h
 |a::l,r,hf,h=>by
  rw[awK]
  refine LH (fun x y hx hy=>hf x y ?_ ?_) (M9 hl κ (fun b hb=>hf a b (.inl (by simp)) (.inr hb)) h)
  ·rcases hx with e|e
   ·exact .inl (au4 _ e)
   ·rcases mH.1 e with g|g
    ·exact .inl (by rw[g];simp)
    ·exact .inr g
  ·rcases hy with e|e
   ·exact .inl (au4 _ e)
   ·rcases mH.1 e with g|g
    ·exact .inl (by rw[g];simp)
    ·exact .inr g
include hl in
theorem ad5{f:α→α→Bool}{l:List α}(hf:∀a∈l,∀b∈l,(f a b=true↔lt (κ a) (κ b))):upK lt κ (sR f l):=by
 unfold sR
 refine List.pairwise_reverse.2 (LH hl κ (fun a b ha hb=>hf a ?_ b ?_) (by simp))
 ·rcases ha with h|h
  ·exact h
  ·cases h
 ·rcases hb with h|h
  ·exact h
  ·cases h
include hl in
theorem M6{g:α→α→Bool}:∀{l:List α} {p:α},(∀a b,a∈p::l→b∈p::l→(g a b=true↔κ a=κ b))→upK lt κ (p::l)→
  (p::jL g p l).Pairwise (fun a b=>lt (κ a) (κ b))∧∀x∈p::l,∃y∈p::jL g p l,κ y=κ x
 |[],p,_,_=>⟨by simp[jL],fun x hx=>⟨x,hx,rfl⟩⟩
 |q::r,p,hg,hp=>by
  obtain⟨p1,p2⟩:=avh.1 hp
  obtain⟨i1,i2⟩:=M6 (l:=r) (p:=q) (fun a b ha hb=>hg a b (au4 _ ha) (au4 _ hb)) p2
  obtain⟨j1,j2⟩:=avh.1 i1
  have hq:=hg q p (by simp) (by simp)
  unfold jL
  cases hqp:g q p
  ·simp only[cond_false]
   have hlt:lt (κ p) (κ q):=by
    rcases hl.tri (κ p) (κ q)with e|e|e
    ·exact e
    ·rw[hq.2 e.symm]at hqp;cases hqp
    ·exact absurd e (p1 q (by simp))
   refine⟨avh.2 ⟨fun x hx=>?_,i1⟩,fun x hx=>?_⟩
   ·rcases au5.1 hx with e|e
    ·rw[e];exact hlt
    ·exact hl.tr _ _ _ hlt (j1 x e)
   ·rcases au5.1 hx with e|e
    ·exact⟨p,by simp,by rw[e]⟩
    ·obtain⟨y,hy,e2⟩:=i2 x e
     exact⟨y,au4 _ hy,e2⟩
  ·simp only[cond_true]
   have he:=hq.1 hqp
   refine⟨avh.2 ⟨fun x hx=>by rw[←he];exact j1 x hx,j2⟩,fun x hx=>?_⟩
   have tr:∀y,y∈q::jL g q r→∃z∈p::jL g q r,κ z=κ y:=fun y hy=>by
    rcases au5.1 hy with e|e
    ·exact⟨p,by simp,by rw[e,he]⟩
    ·exact⟨y,au4 _ e,rfl⟩
   rcases au5.1 hx with e|e
   ·exact⟨p,by simp,by rw[e]⟩
   ·obtain⟨y,hy,e2⟩:=i2 x e
    obtain⟨z,hz,e3⟩:=tr y hy
    exact⟨z,hz,e3.trans e2⟩
include hl in
theorem adR{g:α→α→Bool}{l:List α}(hg:∀a∈l,∀b∈l,(g a b=true↔κ a=κ b))(hp:upK lt κ l):(wA g l).Pairwise (fun a b=>lt (κ a) (κ b))∧∀x∈l,∃y∈wA g l,κ y=κ x:=by
 cases l with
 |nil=>exact⟨by simp[wA],fun x hx=>by cases hx⟩
 |cons p r=>exact M6 hl κ (fun a b ha hb=>hg a ha b hb) hp
end
def ltP(c:Cv)(a b:BP):Bool:=decide (yD c (dec a) (dec b)<0)
def fc(a b:BP):Bool:=aV (dec a) (dec b)==0
def c7(c:Cv)(l:List BP):List BP:=wA fc (sR (ltP c) l)
theorem eL{c:Cv}{l:List BP}{x:BP}(h:x∈c7 c l):x∈l:=pF.1 (Su h)
theorem mB{c:Cv}{l:List BP}:(c7 c l).length≤l.length:=by
 have:=Wb (eq:=fc) (l:=sR (ltP c) l)
 rw[GF]at this
 exact this
theorem wI{c:Cv}(h:Crp c)(hne:aV (frC c) (toC c)≠0){l:List BP}(hon:∀x∈l,Rpd (dec x:Pt)∧onP c (dec x)=true):oL c (c7 c l)∧∀x∈l,∃y∈c7 c l,aV (dec y) (dec x)=0:=by
 obtain⟨K,lt,κ,f,hl,hc,ho,hk⟩:=uE h
 have sp:∀x∈l,Spb c x:=fun x hx=>⟨(hon x hx).1,(au6.1 (hon x hx).2).1⟩
 have up:=ad5 hl (fun x:BP=>κ (dec x)) (f:=ltP c) (l:=l) fun a ha b hb=>by
  unfold ltP
  rw[awA,RE.ord_eq h hne (hon a ha).1 (hon b hb).1 (hon a ha).2 (hon b hb).2,ho _ _ (sp a ha) (sp b hb)]
  exact ib hl hc _ _
 have q:=adR hl (fun x:BP=>κ (dec x)) (g:=fc) (l:=sR (ltP c) l) (fun a ha b hb=>by
  unfold fc
  rw[avQ]
  exact(hk _ _ (sp a (pF.1 ha)) (sp b (pF.1 hb))).symm) up
 refine⟨List.Pairwise.imp_of_mem (fun{a b} ha hb g=>?_) q.1,fun x hx=>?_⟩
 ·have ha':=eL (c:=c) ha
  have hb':=eL (c:=c) hb
  rw[ho _ _ (sp a ha') (sp b hb')]
  exact(ib hl hc _ _).2 g
 ·obtain⟨y,hy,e⟩:=q.2 x (pF.2 hx)
  exact⟨y,hy,(hk _ _ (sp y (eL (c:=c) hy)) (sp x hx)).1 e⟩
end
section
theorem CH{n m k:Nat}(h1:n+m≤100000000)(hk:k≤1000000):decide ((n+m)*k≤140737488355328∧n+m≤140737488355328)=true:=by
 refine auO ⟨?_,by omega⟩
 have:=aw1 h1 hk
 omega
def jU(c:BCU)(l:List BP):Prop:=okC 4000 c∧l.length≤19∧∀x∈l,okP 4000 x
instance (c:BCU) (l:List BP):Decidable (jU c l):=by unfold jU;infer_instance
def aaa:Ctx:=CX [] []
def UR(p:List BP)(_k:KT):OLR:=match p with|[]=>I0 (some [RV.new 41 tP []]) (match decide ((([]:List BP).length+p.length)*320≤140737488355328∧([]:List BP).length+p.length≤140737488355328)with|true=>some [RV.new 41 tP (([]:List BP)++p)]|false=>none)|_::_=>(match decide ((([]:List BP).length+p.length)*320≤140737488355328∧([]:List BP).length+p.length≤140737488355328)with|true=>some [RV.new 41 tP (([]:List BP)++p)]|false=>none)
theorem aks(p:List BP):RS aaa 61 [.d (.sl tP) p] (UR p):=rsX
theorem XE(p:List BP)(h:p.length≤100000):Con Tryz.prog 61 [.d (.sl tP) p] [.new 41 tP p]:=by
 refine Ctx.Res.con (C:=aaa) (Wj (E:=[]) trivial) ?_ (fn:=Tryz.f61) (by kernel_rfl) (by kernel_rfl)
 refine aks _ ⟨0,?_⟩
 unfold UR
 rw[CH (n:=([]:List BP).length) (m:=p.length) (by simp;omega) (by omega)]
 cases p with
 |nil=>exact av _
 |cons a p=>rfl
def Y4:Env:=[(108,Ew)]
theorem Oh:EnvAll Tryz.prog Y4:=⟨zh,trivial⟩
def aon:Ctx:=CX Y4 []
def ahG(p q:BP)(_k:KT):OLR:=match decide (okP 4000 p∧okP 4000 q)with|true=>some [RV.d .bool ((aV (dec p) (dec q))==0)]|false=>none
theorem apJ(p q:BP):RS aon 55 [.d tP p,.d tP q] (ahG p q):=rsX
theorem aez(p q:BP)(h:okP 4000 p∧okP 4000 q):Con Tryz.prog 55 [.d tP p,.d tP q] [.d .bool (aV (dec p) (dec q)==0)]:=by
 refine aO Oh (apJ _ _ ⟨0,?_⟩)
 unfold ahG
 rw[dT h]
def yO:aM:=spN true true [tP,tP] (fun x=>decide (okP 4000 x.1∧okP 4000 x.2.1)) (fun x=>[RV.d .bool (aV (dec x.1) (dec x.2.1)==0)])
theorem uH:SpK 55 yO:=spX fun x h=>aez x.1 x.2.1 (auN h)
def xw:aM:=spN false false [(.sl tP)] (fun x=>decide (x.1.length≤100000)) (fun x=>[RV.new 41 tP x.1])
theorem vm:SpK 61 xw:=spX fun x h=>XE x.1 (auN h)
def NA:aM:={keep:=true,run:=fun _ _ _=>none}
theorem Qb:SpK 238 NA:=by
 refine⟨by kernel_rfl,fun R args k r h=>(by cases h),fun g h=>(by cases h)⟩
def Ro:Env:=[(67,Te),(55,yO),(61,xw),(238,NA)]
theorem Cm:EnvAll Tryz.prog Ro:=⟨Re,uH,vm,Qb,trivial⟩
def ai8:NT:=[((181,6),{keep:=[0,1,2,6,7,8],hl:=2}),((237,3),{keep:=[0,1,2,3,8],hl:=2}),((237,15),{keep:=[0,1,2,3,8,9],hl:=2}),((181,22),{keep:=[0,1,2,6],hl:=2}),((181,34),{keep:=[0,1,2,6,7,8],hl:=2}),((119,14),{keep:=[0,1,5],hl:=2}),((119,32),{keep:=[0,1,5,6,7],hl:=2}),((54,5),{keep:=[1],hl:=0}),((117,0),{keep:=[],hl:=0}),((181,15),{keep:=[0,1,2,6,8],hl:=0}),((181,20),{keep:=[0,1,2,6],hl:=0}),((237,18),{keep:=[0,1,2,3,8,9,18,19,20,21,22,23,24,25,26,27,28,29,30,31,32,33,34],hl:=0}),((54,7),{keep:=[11],hl:=0})]
def iw:Ctx:=CX Ro ai8
def sI(c:BCU)(l:List BP)(s181_7 s181_8:Int)(r181_1:List BP):Cfg:=⟨181,[.blk 0,.seq 19],[(0,.own 1),(1,SI (l.length:Int)),(2,.clo 118 [0]),(6,SI 20),(7,SI s181_7),(8,SI s181_8)],[.box 43 (Ty.split tCU c),.row 41 tP r181_1],2,[⟨117,[],0,4,[],2,none⟩,⟨54,[.seq 6],5,2,[(1,.own 1)],0,none⟩]⟩
def sB(c:BCU)(l:List BP)(s181_7 s181_8 s237_8:Int)(r237_1:List BP):Cfg:=⟨237,[.blk 0],[(0,.own 1),(1,SI s181_7),(2,SI s181_8),(3,.clo 118 [0]),(8,SI s237_8)],[.box 43 (Ty.split tCU c),.row 41 tP r237_1],2,[⟨181,[.seq 16,.blk 1,.lp 6,.blk 0,.seq 19],15,4,[(0,.own 1),(1,SI (l.length:Int)),(2,.clo 118 [0]),(6,SI 20),(8,SI s181_8)],2,none⟩,⟨117,[],0,4,[],2,none⟩,⟨54,[.seq 6],5,2,[(1,.own 1)],0,none⟩]⟩
def eO(c:BCU)(l:List BP)(s181_7 s237_8:Int)(r237_1:List BP):Cfg:=⟨237,[.blk 0],[(0,.own 1),(1,SI s181_7),(2,SI (l.length:Int)),(3,.clo 118 [0]),(8,SI s237_8)],[.box 43 (Ty.split tCU c),.row 41 tP r237_1],2,[⟨181,[.seq 21],20,4,[(0,.own 1),(1,SI (l.length:Int)),(2,.clo 118 [0]),(6,SI 20)],2,none⟩,⟨117,[],0,4,[],2,none⟩,⟨54,[.seq 6],5,2,[(1,.own 1)],0,none⟩]⟩
def G6(c:BCU)(l:List BP)(s181_7 s181_8 s237_8 s237_9:Int)(r237_1:List BP):Cfg:=⟨237,[.blk 2,.blk 1,.seq 26,.lp 3,.blk 0],[(0,.own 1),(1,SI s181_7),(2,SI s181_8),(3,.clo 118 [0]),(8,SI s237_8),(9,SI s237_9)],[.box 43 (Ty.split tCU c),.row 41 tP r237_1],2,[⟨181,[.seq 16,.blk 1,.lp 6,.blk 0,.seq 19],15,4,[(0,.own 1),(1,SI (l.length:Int)),(2,.clo 118 [0]),(6,SI 20),(8,SI s181_8)],2,none⟩,⟨117,[],0,4,[],2,none⟩,⟨54,[.seq 6],5,2,[(1,.own 1)],0,none⟩]⟩
def gF(c:BCU)(l:List BP)(s181_7 s237_8 s237_9:Int)(r237_1:List BP):Cfg:=⟨237,[.blk 2,.blk 1,.seq 26,.lp 3,.blk 0],[(0,.own 1),(1,SI s181_7),(2,SI (l.length:Int)),(3,.clo 118 [0]),(8,SI s237_8),(9,SI s237_9)],[.box 43 (Ty.split tCU c),.row 41 tP r237_1],2,[⟨181,[.seq 21],20,4,[(0,.own 1),(1,SI (l.length:Int)),(2,.clo 118 [0]),(6,SI 20)],2,none⟩,⟨117,[],0,4,[],2,none⟩,⟨54,[.seq 6],5,2,[(1,.own 1)],0,none⟩]⟩
def jp(c:BCU)(l r237_1:List BP)(s181_6:Int):Cfg:=⟨181,[.blk 2],[(0,.own 1),(1,SI (l.length:Int)),(2,.clo 118 [0]),(6,SI s181_6)],[.box 43 (Ty.split tCU c),.row 41 tP r237_1],2,[⟨117,[],0,4,[],2,none⟩,⟨54,[.seq 6],5,2,[(1,.own 1)],0,none⟩]⟩
def F6(c:BCU)(l r237_1:List BP)(s181_6:Int):Cfg:=⟨181,[.blk 4,.seq 47,.blk 3,.lp 22,.blk 2],[(0,.own 1),(1,SI (l.length:Int)),(2,.clo 118 [0]),(6,SI s181_6),(7,SI 0),(8,SI (i64.wrap (2*s181_6)))],[.box 43 (Ty.split tCU c),.row 41 tP r237_1],2,[⟨117,[],0,4,[],2,none⟩,⟨54,[.seq 6],5,2,[(1,.own 1)],0,none⟩]⟩
def jC(c:BCU)(r237_1:List BP)(s119_5:Int):Cfg:=⟨119,[.blk 0,.seq 56],[(0,.own 1),(1,.clo 55 []),(5,SI s119_5)],[.box 43 (Ty.split tCU c),.row 41 tP r237_1],2,[⟨54,[.seq 8],7,1,[],0,none⟩]⟩
def eg(c:BCU)(r237_1:List BP)(s119_5 s119_5v s119_7:Int)(r119_1:List BP):Cfg:=⟨119,[.blk 2,.seq 49,.blk 1,.seq 55,.lp 14,.blk 0,.seq 56],[(0,.own 1),(1,.clo 55 []),(5,SI s119_5v),(6,.osl 1 20 ((s119_5:Int).toNat) (((r237_1.length:Int):Int).toNat-(s119_5:Int).toNat)),(7,SI s119_7)],[.box 43 (Ty.split tCU c),.row 41 tP r119_1],2,[⟨54,[.seq 8],7,1,[],0,none⟩]⟩
def aid(c:BCU)(l:List BP)(k:KT):OLR:=match decide (l.length≤100000)with|true=>k 6 (sI c l 0 20 l)|false=>none
theorem asW(c:BCU)(l:List BP):RS iw 54 [.d tCU c,.d (.sl tP) l] (aid c l):=rsX
def uu(c:BCU)(l:List BP)(s181_7 s181_8:Int)(r181_1:List BP)(k:KT):OLR:=match decide (s181_8≤(l.length:Int))with|true=>k 3 (sB c l s181_7 s181_8 (i64.wrap (s181_7+1)) r181_1)|false=>k 3 (eO c l s181_7 (i64.wrap (s181_7+1)) r181_1)
theorem C3(c:BCU)(l:List BP)(s181_7 s181_8:Int)(r181_1:List BP):RN iw 6 (sI c l s181_7 s181_8 r181_1) (uu c l s181_7 s181_8 r181_1):=rnX
def io(c:BCU)(l:List BP)(s181_7 s237_8:Int)(r237_1:List BP)(k:KT):OLR:=match decide (s237_8<(l.length:Int))with|true=>k 15 (gF c l s181_7 s237_8 s237_8 r237_1)|false=>k 22 (jp c l r237_1 20)
theorem kH(c:BCU)(l:List BP)(s181_7 s237_8:Int)(r237_1:List BP):RN iw 3 (eO c l s181_7 s237_8 r237_1) (io c l s181_7 s237_8 r237_1):=rnX
def aal(c:BCU)(l:List BP)(s181_7 s181_8 s237_8 s237_9:Int)(r237_1:List BP)(k:KT):OLR:=match decide (s237_9>s181_7)with|true=>(match bi r237_1 s237_9 with|some _=>(match true,r237_1[(s237_9).toNat]? with|true,some x1=>(match bi r237_1 (i64.wrap (s237_9-1))with|some _=>(match true,r237_1[(i64.wrap (s237_9-1)).toNat]? with|true,some x2=>(match decide (okC 4000 c∧okP 4000 x1∧okP 4000 x2)with|true=>(match decide ((yD (dC c) (dec x1) (dec x2))<0)with|true=>(match bi r237_1 (i64.wrap (s237_9-1))with|some _=>(match true,r237_1[(i64.wrap (s237_9-1)).toNat]? with|true,some x3=>(match bi r237_1 s237_9 with|some _=>(match true,r237_1[(s237_9).toNat]? with|true,some x4=>(match bi r237_1 s237_9 with|some _=>(match true,r237_1[(s237_9).toNat]? with|true,some _=>(match bi (r237_1.set ((s237_9).toNat) x3) (i64.wrap (s237_9-1))with|some _=>(match true,(r237_1.set ((s237_9).toNat) x3)[(i64.wrap (s237_9-1)).toNat]? with|true,some _=>k 15 (G6 c l s181_7 s181_8 s237_8 (i64.wrap (s237_9-1)) ((r237_1.set ((s237_9).toNat) x3).set ((i64.wrap (s237_9-1)).toNat) x4))|_,_=>none)|none=>none)|_,_=>none)|none=>none)|_,_=>none)|none=>none)|_,_=>none)|none=>none)|false=>k 3 (sB c l s181_7 s181_8 (i64.wrap (s237_8+1)) r237_1))|false=>none)|_,_=>none)|none=>none)|_,_=>none)|none=>none)|false=>k 3 (sB c l s181_7 s181_8 (i64.wrap (s237_8+1)) r237_1)
def gH(c:BCU)(l:List BP)(s181_7 s237_8 s237_9:Int)(r237_1:List BP)(k:KT):OLR:=match decide (s237_9>s181_7)with|true=>(match bi r237_1 s237_9 with|some _=>(match true,r237_1[(s237_9).toNat]? with|true,some x1=>(match bi r237_1 (i64.wrap (s237_9-1))with|some _=>(match true,r237_1[(i64.wrap (s237_9-1)).toNat]? with|true,some x2=>(match decide (okC 4000 c∧okP 4000 x1∧okP 4000 x2)with|true=>(match decide ((yD (dC c) (dec x1) (dec x2))<0)with|true=>(match bi r237_1 (i64.wrap (s237_9-1))with|some _=>(match true,r237_1[(i64.wrap (s237_9-1)).toNat]? with|true,some x3=>(match bi r237_1 s237_9 with|some _=>(match true,r237_1[(s237_9).toNat]? with|true,some x4=>(match bi r237_1 s237_9 with|some _=>(match true,r237_1[(s237_9).toNat]? with|true,some _=>(match bi (r237_1.set ((s237_9).toNat) x3) (i64.wrap (s237_9-1))with|some _=>(match true,(r237_1.set ((s237_9).toNat) x3)[(i64.wrap (s237_9-1)).toNat]? with|true,some _=>k 15 (gF c l s181_7 s237_8 (i64.wrap (s237_9-1)) ((r237_1.set ((s237_9).toNat) x3).set ((i64.wrap (s237_9-1)).toNat) x4))|_,_=>none)|none=>none)|_,_=>none)|none=>none)|_,_=>none)|none=>none)|_,_=>none)|none=>none)|false=>k 3 (eO c l s181_7 (i64.wrap (s237_8+1)) r237_1))|false=>none)|_,_=>none)|none=>none)|_,_=>none)|none=>none)|false=>k 3 (eO c l s181_7 (i64.wrap (s237_8+1)) r237_1)
theorem jK(c:BCU)(l:List BP)(s181_7 s237_8 s237_9:Int)(r237_1:List BP):RN iw 15 (gF c l s181_7 s237_8 s237_9 r237_1) (gH c l s181_7 s237_8 s237_9 r237_1):=rnX
def jg(c:BCU)(l r237_1:List BP)(s181_6:Int)(k:KT):OLR:=match decide (s181_6<(l.length:Int))with|true=>k 34 (F6 c l r237_1 s181_6)|false=>(match decide ((r237_1.length:Int)<2)with|true=>some [RV.new 41 tP r237_1]|false=>k 14 (jC c r237_1 1))
theorem lY(c:BCU)(l r237_1:List BP)(s181_6:Int):RN iw 22 (jp c l r237_1 s181_6) (jg c l r237_1 s181_6):=rnX
def iZ(c:BCU)(r237_1:List BP)(s119_5:Int)(k:KT):OLR:=match decide (s119_5<(r237_1.length:Int))with|true=>(match bi r237_1 s119_5 with|some _=>(match true,r237_1[(s119_5).toNat]? with|true,some x1=>(match bi r237_1 (i64.wrap (s119_5-1))with|some _=>(match true,r237_1[(i64.wrap (s119_5-1)).toNat]? with|true,some x2=>(match decide (okP 4000 x1∧okP 4000 x2)with|true=>(match aV (dec x1) (dec x2)==0 with|true=>(match decide ((0:Int)≤s119_5∧s119_5≤(r237_1.length:Int)∧(r237_1.length:Int)≤(r237_1.length:Int))with|true=>k 32 (eg c r237_1 s119_5 s119_5 1 r237_1)|false=>none)|false=>k 14 (jC c r237_1 (i64.wrap (s119_5+1))))|false=>none)|_,_=>none)|none=>none)|_,_=>none)|none=>none)|false=>some [RV.new 41 tP r237_1]
theorem lT(c:BCU)(r237_1:List BP)(s119_5:Int):RN iw 14 (jC c r237_1 s119_5) (iZ c r237_1 s119_5):=rnX
def gK(c:BCU)(r237_1:List BP)(s119_5 s119_5v s119_7:Int)(r119_1:List BP)(k:KT):OLR:=match decide (s119_7<((((r237_1.length:Int):Int).toNat-(s119_5:Int).toNat:Nat):Int))with|true=>(match true,decide ((0:Int)≤s119_7∧s119_7<((((r237_1.length:Int):Int).toNat-(s119_5:Int).toNat:Nat):Int))with|true,true=>(match true,r119_1[(s119_5:Int).toNat+(s119_7).toNat]? with|true,some x1=>(match true,decide ((0:Int)≤i64.wrap (s119_7-1)∧i64.wrap (s119_7-1)<((((r237_1.length:Int):Int).toNat-(s119_5:Int).toNat:Nat):Int))with|true,true=>(match true,r119_1[(s119_5:Int).toNat+(i64.wrap (s119_7-1)).toNat]? with|true,some x2=>(match decide (okP 4000 x1∧okP 4000 x2)with|true=>(match !(aV (dec x1) (dec x2)==0)with|true=>(match true,decide ((0:Int)≤s119_7∧s119_7<((((r237_1.length:Int):Int).toNat-(s119_5:Int).toNat:Nat):Int))with|true,true=>(match true,r119_1[(s119_5:Int).toNat+(s119_7).toNat]? with|true,some x3=>(match bi r119_1 s119_5v with|some _=>(match true,r119_1[(s119_5v).toNat]? with|true,some _=>k 32 (eg c r237_1 s119_5 (i64.wrap (s119_5v+1)) (i64.wrap (s119_7+1)) (r119_1.set ((s119_5v).toNat) x3))|_,_=>none)|none=>none)|_,_=>none)|_,_=>none)|false=>k 32 (eg c r237_1 s119_5 s119_5v (i64.wrap (s119_7+1)) r119_1))|false=>none)|_,_=>none)|_,_=>none)|_,_=>none)|_,_=>none)|false=>(match decide ((0:Int)≤s119_5v∧s119_5v≤(r119_1.length:Int)∧(r119_1.length:Int)≤(r119_1.length:Int))with|true=>(match decide ((0:Int)≤0∧0≤s119_5v∧s119_5v≤((jq (Ty.zero tP) ((s119_5v:Int).toNat) (((r119_1.length:Int):Int).toNat-(s119_5v:Int).toNat) r119_1).length:Int))with|true=>some [RV.d (.sl tP) (((jq (Ty.zero tP) ((s119_5v:Int).toNat) (((r119_1.length:Int):Int).toNat-(s119_5v:Int).toNat) r119_1).drop ((0:Int).toNat)).take ((s119_5v:Int).toNat-(0:Int).toNat))]|false=>none)|false=>none)
theorem jH(c:BCU)(r237_1:List BP)(s119_5 s119_5v s119_7:Int)(r119_1:List BP):RN iw 32 (eg c r237_1 s119_5 s119_5v s119_7 r119_1) (gK c r237_1 s119_5 s119_5v s119_7 r119_1):=rnX
theorem nU{α:Type}(L:List α)(x:α)(T:List α):(L++x::T)[L.length]?=some x:=by simp
theorem C1{α:Type}(x y:α)(T:List α):∀L:List α,(L++x::T).set L.length y=L++y::T
 |[]=>rfl
 |a::L=>by simp[C1 x y T L]
section
variable (c:BCU) (l:List BP)
def apO(ys:List BP)(r:List RV):Prop:=r=[.new 41 tP ys]∨r=[.d (.sl tP) ys]
abbrev rN(i:Nat)(g:Cfg)(ys:List BP):Prop:=∃r,iw.Runs i g r∧apO ys r
end
section
variable (c:BCU) (l:List BP) (hc:okC 4000 c)
include hc
theorem AV(hl:l.length≤19)(i:Nat)(ys:List BP):∀(L:List BP) (a:BP) (R:List BP),(∀x∈L,okP 4000 x)→okP 4000 a→(L.reverse++a::R).length≤19→i≤19→
  rN 3 (eO c l 0 ((i+1:Nat):Int) ((lw (ltP (dC c)) L a).reverse++R)) ys→rN 15 (gF c l 0 (i:Int) (L.length:Int) (L.reverse++a::R)) ys
 |[],a,R,hL,ha,h19,hi,⟨r,⟨n,hn⟩,hr⟩=>by
  refine⟨r,jK _ _ _ _ _ _ ⟨n,?_⟩,hr⟩
  unfold gH
  rw[dF (show ¬((([]:List BP).length:Nat):Int)>0 by simp),cr (by omega)]
  exact hn
 |b::L,a,R,hL,ha,h19,hi,hnext=>by
  have hb:=hL b (by simp)
  have hln:L.length≤18:=by simp at h19;omega
  have hrev:(b::L).reverse++a::R=L.reverse++b::a::R:=by simp
  have e1:((b::L).length:Int)=((L.length+1:Nat):Int):=rfl
  have ew:i64.wrap (((L.length+1:Nat):Int)-1)=(L.length:Int):=by rw[bz (by omega) (by omega)];omega
  have g1:(L.reverse++b::a::R)[L.length+1]?=some a:=by
   simp
  have g0:(L.reverse++b::a::R)[L.length]?=some b:=by
   simp
  have s1:(L.reverse++b::a::R).set (L.length+1) b=L.reverse++b::b::R:=by
   simp
  have s2:(L.reverse++b::b::R).set L.length a=L.reverse++a::b::R:=by
   simp
  have g2:(L.reverse++b::b::R)[L.length]?=some b:=by
   simp
  have key:∀r n,(match ltP (dC c) a b with
    |true=>iw.k n 15 (gF c l 0 (i:Int) (L.length:Int) (L.reverse++a::b::R))
    |false=>iw.k n 3 (eO c l 0 ((i+1:Nat):Int) (L.reverse++b::a::R)))=some r→
    gH c l 0 (i:Int) ((b::L).length:Int) ((b::L).reverse++a::R) (iw.k n)=some r:=fun r n h=>by
   rw[hrev,e1]
   unfold gH
   rw[dT (show((L.length+1:Nat):Int)>0 by omega),ew,aA,g1,aA,g0,show((L.length+1:Nat):Int).toNat=L.length+1 by omega,show((L.length:Nat):Int).toNat=L.length by omega,g1,g0]
   dsimp only
   rw[dT (show okC 4000 c∧okP 4000 a∧okP 4000 b from⟨hc,ha,hb⟩),s1,aA,g2,s2,cr (by omega)]
   dsimp only
   unfold ltP at h
   exact h
  unfold lw at hnext
  cases hlt:ltP (dC c) a b
  ·rw[hlt,cond_false]at hnext
   obtain⟨r,⟨n,hn⟩,hr⟩:=hnext
   refine⟨r,jK _ _ _ _ _ _ ⟨n,key r n ?_⟩,hr⟩
   rw[hlt]
   simpa using hn
  ·rw[hlt,cond_true]at hnext
   obtain⟨r,⟨n,hn⟩,hr⟩:=AV hl i ys L a (b::R) (fun x hx=>hL x (au4 _ hx)) ha (by simp at h19 ⊢;omega) hi (by simpa using hnext)
   refine⟨r,jK _ _ _ _ _ _ ⟨n,key r n ?_⟩,hr⟩
   rw[hlt]
   exact hn
theorem AT(hl:l.length≤19)(ys:List BP):∀(R D:List BP),(∀x∈D,okP 4000 x)→(∀x∈R,okP 4000 x)→D.length+R.length=l.length→
  rN 22 (jp c l (R.foldl (lw (ltP (dC c))) D).reverse 20) ys→rN 3 (eO c l 0 (D.length:Int) (D.reverse++R)) ys
 |[],D,hD,hR,hlen,⟨r,⟨n,hn⟩,hr⟩=>by
  refine⟨r,kH _ _ _ _ _ ⟨n,?_⟩,hr⟩
  unfold io
  rw[cz (by simp at hlen;omega),avs]
  exact hn
 |a::R,D,hD,hR,hlen,hnext=>by
  have ha:=hR a (by simp)
  have hlen':D.length+(R.length+1)=l.length:=hlen
  have h1:=AT hl ys R (lw (ltP (dC c)) D a) (fun x hx=>by
   rcases mH.1 hx with e|e
   ·rw[e];exact ha
   ·exact hD x e) (fun x hx=>hR x (au4 _ hx)) (by rw[uC];omega) hnext
  rw[uC]at h1
  obtain⟨r,⟨n,hn⟩,hr⟩:=AV c l hc hl D.length ys D a R hD ha (by simp;omega) (by omega) h1
  refine⟨r,kH _ _ _ _ _ ⟨n,?_⟩,hr⟩
  unfold io
  rw[cd (by omega)]
  exact hn
omit hc in
theorem uZ(r0:List BP)(b:Nat)(h19:r0.length≤19):∀(S K J:List BP) (p:BP),(∀x∈K++(J++p::S),okP 4000 x)→(K++(J++p::S)).length=r0.length→∀k2:Nat,1≤k2→b+k2=K.length+J.length+1→
  rN 32 (eg c r0 (b:Int) (K.length:Int) (k2:Int) (K++(J++p::S))) (K++jL fc p S)
 |[],K,J,p,hok,hlen,k2,h1,hb=>by
  refine⟨_,jH _ _ _ _ _ _ ⟨0,?_⟩,.inr rfl⟩
  have hlen':K.length+(J.length+1)=r0.length:=by simpa using hlen
  unfold gK
  rw[dF (show ¬(k2:Int)<(((r0.length:Int).toNat-(b:Int).toNat:Nat):Int) by omega)]
  dsimp only
  rw[dT (show(0:Int)≤(K.length:Int)∧(K.length:Int)≤((K++(J++[p])).length:Int)∧((K++(J++[p])).length:Int)≤((K++(J++[p])).length:Int) by rw[hlen];omega)]
  dsimp only
  have hcl:((jq (Ty.zero tP) ((K.length:Int).toNat) ((((K++(J++[p])).length:Int)).toNat-(K.length:Int).toNat) (K++(J++[p])))).take K.length=K:=by
   unfold jq
   rw[show((K.length:Int)).toNat=K.length by omega,avl,awP (by simp),ax3,Nat.min_self,List.take_left' rfl]
  have hcn:K.length≤(jq (Ty.zero tP) ((K.length:Int).toNat) ((((K++(J++[p])).length:Int)).toNat-(K.length:Int).toNat) (K++(J++[p]))).length:=by
   have:=congrArg List.length hcl
   rw[avz]at this
   omega
  rw[dT (show(0:Int)≤0∧0≤(K.length:Int)∧(K.length:Int)≤((jq (Ty.zero tP) ((K.length:Int).toNat) ((((K++(J++[p])).length:Int)).toNat-(K.length:Int).toNat) (K++(J++[p]))).length:Int) by omega)]
  dsimp only
  rw[show((0:Int)).toNat=0 from rfl,awv,show((K.length:Int)).toNat-0=K.length by omega,hcl]
  simp[jL]
 |q::S,K,J,p,hok,hlen,k2,h1,hb=>by
  have hlen':K.length+(J.length+(S.length+1+1))=r0.length:=by simpa using hlen
  have hq:okP 4000 q:=hok q (by simp)
  have hp:okP 4000 p:=hok p (by simp)
  have g1:(K++(J++p::q::S))[(b:Int).toNat+(k2:Int).toNat]?=some q:=by
   rw[show(b:Int).toNat+(k2:Int).toNat=(K++(J++[p])).length by simp;omega]
   simp
  have ew:i64.wrap ((k2:Int)-1)=((k2-1:Nat):Int):=by rw[bz (by omega) (by omega)];omega
  have g0:(K++(J++p::q::S))[(b:Int).toNat+((k2-1:Nat):Int).toNat]?=some p:=by
   rw[show(b:Int).toNat+((k2-1:Nat):Int).toNat=(K++J).length by simp;omega]
   simp
  have key:∀r n,(match fc q p with
    |true=>iw.k n 32 (eg c r0 (b:Int) (K.length:Int) ((k2+1:Nat):Int) (K++(J++p::q::S)))
    |false=>iw.k n 32 (eg c r0 (b:Int) ((K.length+1:Nat):Int) ((k2+1:Nat):Int) ((K++(J++p::q::S)).set K.length q)))=some r→
    gK c r0 (b:Int) (K.length:Int) (k2:Int) (K++(J++p::q::S)) (iw.k n)=some r:=fun r n h=>by
   unfold gK
   rw[dT (show(k2:Int)<(((r0.length:Int).toNat-(b:Int).toNat:Nat):Int) by omega)]
   dsimp only
   rw[dT (show(0:Int)≤(k2:Int)∧(k2:Int)<(((r0.length:Int).toNat-(b:Int).toNat:Nat):Int) by omega),g1]
   dsimp only
   rw[ew,dT (show(0:Int)≤((k2-1:Nat):Int)∧((k2-1:Nat):Int)<(((r0.length:Int).toNat-(b:Int).toNat:Nat):Int) by omega),g0]
   dsimp only
   rw[dT (show okP 4000 q∧okP 4000 p from⟨hq,hp⟩),cr (k:=k2) (by omega)]
   dsimp only
   unfold fc at h
   cases he:aV (dec q) (dec p)==0<;>rw[he]at h
   ·try dsimp only[Bool.not_false]
    have g3:∃y,(K++(J++p::q::S))[K.length]?=some y:=⟨_,auP (by simp;omega)⟩
    obtain⟨y,g3⟩:=g3
    rw[aA,g3,show((K.length:Int)).toNat=K.length by omega,g3,cr (k:=K.length) (by omega)]
    exact h
   ·exact h
  have hcm:jL fc p (q::S)=bif fc q p then jL fc q S else q::jL fc q S:=rfl
  rw[hcm]
  cases he:fc q p
  ·have hset:∃J',(K++(J++p::q::S)).set K.length q=(K++[q])++(J'++q::S)∧J'.length=J.length∧∀x∈J',x∈J++[p]:=by
    cases J with
    |nil=>
     refine⟨[],?_,rfl,fun x hx=>by cases hx⟩
     simp
    |cons h T=>
     refine⟨T++[p],?_,by simp,fun x hx=>by simp at hx ⊢;exact .inr hx⟩
     simp
   obtain⟨J',e,eJ,mJ⟩:=hset
   obtain⟨r,⟨n,hn⟩,hr⟩:=uZ r0 b h19 S (K++[q]) J' q (fun x hx=>by
    simp only[avj,au5,awi,axz]at hx
    rcases hx with(hx|hx)|(hx|hx|hx)
    ·exact hok x (by simp[hx])
    ·rw[hx];exact hq
    ·have:=mJ x hx
     simp only[avj,au5,awi,axz]at this
     rcases this with h|h
     ·exact hok x (by simp[h])
     ·rw[h];exact hp
    ·rw[hx];exact hq
    ·exact hok x (by simp[hx])) (by simp;omega) (k2+1) (by omega) (by simp;omega)
   refine⟨r,jH _ _ _ _ _ _ ⟨n,key r n ?_⟩,?_⟩
   ·rw[he,e]
    have:(K++[q]).length=K.length+1:=by simp
    rw[this]at hn
    exact hn
   ·simpa using hr
  ·have e2:K++(J++p::q::S)=K++((J++[p])++q::S):=by simp
   obtain⟨r,⟨n,hn⟩,hr⟩:=uZ r0 b h19 S K (J++[p]) q (e2▸hok) (e2▸hlen) (k2+1) (by omega) (by simp;omega)
   refine⟨r,jH _ _ _ _ _ _ ⟨n,key r n ?_⟩,hr⟩
   rw[he,e2]
   exact hn
omit hc in
theorem Ce:∀(S A:List BP) (p:BP),(∀x∈A++p::S,okP 4000 x)→(A++p::S).length≤19→
  rN 14 (jC c (A++p::S) ((A.length+1:Nat):Int)) (A++p::jL fc p S)
 |[],A,p,hok,h19=>by
  refine⟨_,lT _ _ _ ⟨0,?_⟩,.inl rfl⟩
  unfold iZ
  rw[cz (by simp)]
  rfl
 |q::S,A,p,hok,h19=>by
  have hq:okP 4000 q:=hok q (by simp)
  have hp:okP 4000 p:=hok p (by simp)
  have h19':A.length+(S.length+1+1)≤19:=by simpa using h19
  have g1:(A++p::q::S)[A.length+1]?=some q:=by
   simp
  have g0:(A++p::q::S)[A.length]?=some p:=nU A p (q::S)
  have ew:i64.wrap (((A.length+1:Nat):Int)-1)=(A.length:Int):=by rw[bz (by omega) (by omega)];omega
  have key:∀r n,(match fc q p with
    |true=>iw.k n 32 (eg c (A++p::q::S) ((A.length+1:Nat):Int) ((A.length+1:Nat):Int) 1 (A++p::q::S))
    |false=>iw.k n 14 (jC c (A++p::q::S) ((A.length+1+1:Nat):Int)))=some r→
    iZ c (A++p::q::S) ((A.length+1:Nat):Int) (iw.k n)=some r:=fun r n h=>by
   unfold iZ
   rw[cd (by simp only[avv,avc];omega),aA,g1,show((A.length+1:Nat):Int).toNat=A.length+1 by omega,g1]
   dsimp only
   rw[ew,aA,g0,show((A.length:Nat):Int).toNat=A.length by omega,g0]
   dsimp only
   rw[dT (show okP 4000 q∧okP 4000 p from⟨hq,hp⟩),cr (k:=A.length+1) (by omega),dT (show(0:Int)≤((A.length+1:Nat):Int)∧((A.length+1:Nat):Int)≤((A++p::q::S).length:Int)∧((A++p::q::S).length:Int)≤((A++p::q::S).length:Int) by simp;omega)]
   exact h
  have hcm:jL fc p (q::S)=bif fc q p then jL fc q S else q::jL fc q S:=rfl
  have e2:A++p::q::S=(A++[p])++q::S:=by simp
  rw[hcm]
  cases he:fc q p
  ·obtain⟨r,⟨n,hn⟩,hr⟩:=Ce S (A++[p]) q (e2▸hok) (e2▸h19)
   refine⟨r,lT _ _ _ ⟨n,key r n ?_⟩,?_⟩
   ·rw[he,e2]
    have:(A++[p]).length=A.length+1:=by simp
    rw[this]at hn
    exact hn
   ·rw[avl]at hr
    exact hr
  ·obtain⟨r,⟨n,hn⟩,hr⟩:=uZ c (A++p::q::S) (A.length+1) h19 S (A++[p]) [] q (e2▸hok) (by rw[e2];rfl) 1 (auY _) (by simp)
   refine⟨r,lT _ _ _ ⟨n,key r n ?_⟩,?_⟩
   ·rw[he,e2]
    have:(A++[p]).length=A.length+1:=by simp
    rw[this,e2]at hn
    exact hn
   ·rw[avl]at hr
    exact hr
theorem aem(hl:l.length≤19)(ho:∀x∈l,okP 4000 x):rN 6 (sI c l 0 20 l) (c7 (dC c) l):=by
 have hlast:∀r:List BP,(∀x∈r,okP 4000 x)→r.length≤19→rN 22 (jp c l r 20) (wA fc r):=fun r hr h19=>by
  cases r with
  |nil=>
   refine⟨_,lY _ _ _ _ ⟨0,?_⟩,.inl rfl⟩
   unfold jg
   rw[dF (show ¬(20:Int)<(l.length:Int) by omega)]
   rfl
  |cons p S=>
   cases S with
   |nil=>
    refine⟨_,lY _ _ _ _ ⟨0,?_⟩,.inl rfl⟩
    unfold jg
    rw[dF (show ¬(20:Int)<(l.length:Int) by omega)]
    rfl
   |cons q S=>
    obtain⟨r',⟨n,hn⟩,hr'⟩:=Ce c (q::S) [] p hr h19
    refine⟨r',lY _ _ _ _ ⟨n,?_⟩,hr'⟩
    unfold jg
    rw[dF (show ¬(20:Int)<(l.length:Int) by omega)]
    dsimp only
    rw[dF (show ¬((p::q::S).length:Int)<2 by simp;omega)]
    simpa using hn
 have hsort:rN 22 (jp c l (sR (ltP (dC c)) l) 20) (c7 (dC c) l):=hlast _ (fun x hx=>ho x (pF.1 hx)) (by rw[GF];exact hl)
 have h3:rN 3 (eO c l 0 1 l) (c7 (dC c) l):=by
  cases l with
  |nil=>
   obtain⟨r,⟨n,hn⟩,hr⟩:=hsort
   refine⟨r,kH _ _ _ _ _ ⟨n,?_⟩,hr⟩
   unfold io
   rw[dF (show ¬(1:Int)<(([]:List BP).length:Int) by simp)]
   exact hn
  |cons x l=>
   have:=AT c (x::l) hc hl _ l [x] (fun y hy=>ho y (by simp at hy;simp[hy])) (fun y hy=>ho y (au4 _ hy)) (by simp;omega) hsort
   simpa using this
 obtain⟨r,⟨n,hn⟩,hr⟩:=h3
 refine⟨r,C3 _ _ _ _ _ ⟨n,?_⟩,hr⟩
 unfold uu
 rw[dF (show ¬(20:Int)≤(l.length:Int) by omega),bz (x:=0+1) (by omega) (by omega)]
 exact hn
end
theorem acT(c:BCU)(l:List BP)(h:jU c l):Con Tryz.prog 54 [.d tCU c,.d (.sl tP) l] [.d (.sl tP) (c7 (dC c) l)]:=by
 obtain⟨hc,hl,ho⟩:=h
 obtain⟨r,⟨n,hn⟩,hr⟩:=aem c l hc hl ho
 have hres:iw.Res 54 [.d tCU c,.d (.sl tP) l] r:=by
  refine asW _ _ ⟨n,?_⟩
  unfold aid
  rw[dT (show l.length≤100000 by omega)]
  exact hn
 rcases hr with e|e
 ·rw[e]at hres
  exact Con.new_d (et:=41) (aO Cm hres)
 ·rw[e]at hres
  exact aO Cm hres
def DA:aM:=spN false false [tCU,(.sl tP)] (fun x=>decide (jU x.1 x.2.1)) (fun x=>[RV.d (.sl tP) (c7 (dC x.1) x.2.1)])
theorem zl:SpK 54 DA:=spX fun x h=>acT x.1 x.2.1 (auN h)
end
namespace RE
end RE
namespace RE
theorem Tb{q:Pt}:pX (rdP q)=pX q∧pY (rdP q)=pY q:=by
 unfold rdP pX pY
 by_cases h1:q.2.1=0
 ·by_cases h2:q.2.2.2.1=0
  ·rw[auO h1,auO h2]
   dsimp only
   rw[h1,h2,eH,eH,eH,eH]
   exact⟨rfl,rfl⟩
  ·rw[auQ h2,Bool.and_false]
   exact⟨rfl,rfl⟩
 ·rw[auQ h1,ax4]
  exact⟨rfl,rfl⟩
theorem aq0{x y:Rt}(h:wC x y):pR (mkP x y)=(vR x,vR y):=by
 unfold mkP
 refine axg (Tb.1.trans ?_) (Tb.2.trans ?_)
 ·unfold pX vR
  dsimp only
  by_cases e:x.2.1=0
  ·rw[e,eH,eH]
  ·rw[auQ e]
   rfl
 ·unfold pY vR
  dsimp only
  by_cases e:x.2.1=0
  ·rw[auO e]
   rfl
  ·rw[auQ e]
   rcases h with h|h|h
   ·exact absurd h e
   ·rw[h,eH,eH]
   ·rw[cond_false,h]
end RE
section
namespace RE
theorem atw(A B x y u v s:RE):A*(x+u*s)+B*(y+v*s)=(A*x+B*y)+(A*u+B*v)*s:=by
 induction A using auM
 induction B using auM
 induction x using auM
 induction y using auM
 induction u using auM
 induction v using auM
 induction s using auM
 exact snd fun n=>by
  simp only[RL.add,RL.mul]
  grind
theorem at5(x y u v s p q:RE):(x+u*s-p)*(x+u*s-p)+(y+v*s-q)*(y+v*s-q)=((x-p)*(x-p)+(y-q)*(y-q))+((x-p)*u+(y-q)*v)*s+((x-p)*u+(y-q)*v)*s+(u*u+v*v)*(s*s):=by
 induction x using auM
 induction y using auM
 induction u using auM
 induction v using auM
 induction s using auM
 induction p using auM
 induction q using auM
 exact snd fun n=>by
  simp only[RL.add,RL.mul,RL.neg]
  grind
theorem atA(b n r:RE):b*(r*n)=b*n*r:=by
 induction b using auM
 induction n using auM
 induction r using auM
 exact snd fun n=>by
  simp only[RL.mul]
  grind
theorem aub(r n:RE):r*n*(r*n)=r*r*(n*n):=by
 induction r using auM
 induction n using auM
 exact snd fun n=>by
  simp only[RL.mul]
  grind
theorem atC(x y p q a b m n:RE):(x-a)*(x-a)+(y-b)*(y-b)=((x-p)*(x-p)+(y-q)*(y-q))+(a*a+b*b-m)-(p*p+q*q-n)-((1+1)*(a-p)*x+(1+1)*(b-q)*y)+(m-n):=by
 induction x using auM
 induction y using auM
 induction p using auM
 induction q using auM
 induction a using auM
 induction b using auM
 induction m using auM
 induction n using auM
 exact snd fun n=>by
  simp only[RL.add,RL.mul,RL.neg,RL.const]
  grind
theorem atM(a b n m:RE):n+a-b-(a-b)+(m-n)=m:=by
 induction a using auM
 induction b using auM
 induction n using auM
 induction m using auM
 exact snd fun n=>by
  simp only[RL.add,RL.neg]
  grind
theorem pO(x u y v k:Rat):pR (pP x u y v k)=(v2 x u k,v2 y v k):=by
 unfold pP
 rw[aq0 (El _ _ _ _ _),vR_mk,vR_mk]
section
variable {l c:Ln}
theorem L9(hl:l.1≠0∨l.2.1≠0):0<cK l:=by
 have h:=nw hl
 have h1:0≤cK l:=alW (l.1,l.2.1)
 grind
theorem Il(hl:l.1≠0∨l.2.1≠0):dZ l c*(cK l*cK l)=iG l c:=by
 have hn:=nw hl
 have t:vlL l c.1 c.2.1/cK l*cK l=vlL l c.1 c.2.1:=avN hn
 have k:(c.2.2-yG l c)/cK l*cK l=c.2.2-yG l c:=avN hn
 unfold dZ
 rw[←Rat.mul_assoc,k]
 unfold yG ftX ftY iG
 generalize vlL l c.1 c.2.1/cK l=s at*
 rw[←t]
 unfold cK
 grind
theorem alq(hl:l.1≠0∨l.2.1≠0):(dZ l c<0↔iG l c<0)∧(dZ l c=0↔iG l c=0):=by
 have hn:=L9 hl
 have h2:0<cK l*cK l:=avT hn hn
 have e:=Il (c:=c) hl
 rcases(by grind:dZ l c<0∨dZ l c=0∨0<dZ l c)with h|h|h
 ·have:=avT (show 0< -dZ l c by grind) h2
  have e2: -dZ l c*(cK l*cK l)= -iG l c:=by rw[Rat.neg_mul,e]
  rw[e2]at this
  constructor<;>constructor<;>intro<;>grind
 ·rw[h,Rat.zero_mul]at e
  constructor<;>constructor<;>intro<;>grind
 ·have:=avT h h2
  rw[e]at this
  constructor<;>constructor<;>intro<;>grind
theorem alp(hl:l.1≠0∨l.2.1≠0)(h0:0≤dZ l c):rq (iG l c)=rq (dZ l c)*of (cK l):=by
 have hn:=L9 hl
 have hr:0≤iG l c:=by
  rw[←Il hl]
  exact avI h0 (avI (by grind) (by grind))
 refine agu _ _ (R4 _) (cZ (R4 _) (ou.2 (by grind))) ?_
 rw[aub,pV hr,pV h0,←bR,←bR,Il hl]
theorem Db(hl:l.1≠0∨l.2.1≠0)(h0:0≤dZ l c)(a b:Rat):v2 a b (dZ l c)=v2 a (b/cK l) (iG l c):=by
 unfold v2
 rw[alp hl h0,atA,←bR,avN (nw hl)]
theorem ndv(a b:Rat): -a/b= -(a/b):=by rw[axZ,axZ,Rat.neg_mul]
theorem atG(hl:l.1≠0∨l.2.1≠0)(v:PE):(∃p∈jY l c,pR p=v)↔∃p∈rA l c,pR p=v:=by
 obtain⟨s1,s2⟩:=alq (c:=c) hl
 unfold jY rA
 by_cases h0:dZ l c<0
 ·rw[auO h0,auO (s1.1 h0)]
  exact Iff.rfl
 ·rw[auQ h0,auQ (fun h=>h0 (s1.2 h))]
  by_cases h1:dZ l c=0
  ·rw[auO h1,auO (s2.1 h1)]
   exact Iff.rfl
  ·rw[auQ h1,auQ (fun h=>h1 (s2.2 h))]
   have hp:0≤dZ l c:=by grind
   have e:(pR (lcM l c)=pR (sW l c)∧pR (lcN l c)=pR (t7 l c))∨(pR (lcM l c)=pR (t7 l c)∧pR (lcN l c)=pR (sW l c)):=by
    unfold lcM lcN sW t7
    rw[pO,pO,vi,vi,Db hl hp,Db hl hp,Db hl hp,Db hl hp]
    unfold rn rF
    cases JI l
    ·left
     simp only[cond_false,ndv,ax0,and_self]
    ·right
     simp only[cond_true,ndv,ax0,and_self]
   have m2:∀{a b:Pt},(∃p∈[a,b],pR p=v)↔(pR a=v∨pR b=v):=fun{a b}=>by simp
   simp only[cond_false]
   cases decide (aV (sW l c) (t7 l c)>0)
   ·simp only[cond_false]
    rw[m2,m2]
    rcases e with⟨e1,e2⟩|⟨e1,e2⟩<;>rw[e1,e2]
    exact Or.comm
   ·simp only[cond_true]
    rw[m2,m2]
    rcases e with⟨e1,e2⟩|⟨e1,e2⟩<;>rw[e1,e2]
    exact Or.comm
theorem IP(hl:l.1≠0∨l.2.1≠0){u v k:Rat}(hk:0≤k)(h1:l.1*u+l.2.1*v=0)(h2:yG l c+(u*u+v*v)*k=c.2.2):oJ l (v2 (ftX l c) u k,v2 (ftY l c) v k)∧pz c (v2 (ftX l c) u k,v2 (ftY l c) v k):=by
 have hn:=nw hl
 have t:vlL l c.1 c.2.1/cK l*cK l=vlL l c.1 c.2.1:=avN hn
 have e1:l.1*ftX l c+l.2.1*ftY l c=l.2.2:=by
  unfold ftX ftY
  generalize vlL l c.1 c.2.1/cK l=s at*
  unfold cK vlL at t
  grind
 have e3:(ftX l c-c.1)*u+(ftY l c-c.2.1)*v=0:=by
  unfold ftX ftY
  generalize vlL l c.1 c.2.1/cK l=s at*
  have:(c.1-s*l.1-c.1)*u+(c.2.1-s*l.2.1-c.2.1)*v= -s*(l.1*u+l.2.1*v):=by grind
  rw[this,h1,Rat.mul_zero]
 unfold oJ pz frm v2
 dsimp only
 constructor
 ·rw[atw,←bR,←bR,←bR,←bR,←of_add,←of_add,e1,h1,qX,zero_mul,add_zero]
 ·rw[at5,pV hk,←of_sub,←of_sub,←bR,←bR,←bR,←bR,←bR,←bR,←of_add,←of_add,←of_add,e3,qX,zero_mul,add_zero,add_zero,←bR,←of_add]
  exact congrArg of h2
theorem amO(_hl:l.1≠0∨l.2.1≠0):l.1*rn l+l.2.1*rF l=0∧rn l*rn l+rF l*rF l=cK l:=by
 unfold rn rF cK
 cases JI l
 ·simp only[cond_false];constructor<;>grind
 ·simp only[cond_true];constructor<;>grind
theorem K6(hl:l.1≠0∨l.2.1≠0){p:Pt}(hp:p∈jY l c):oJ l (pR p)∧pz c (pR p):=by
 have hn:=nw hl
 have k:dZ l c*cK l=c.2.2-yG l c:=avN hn
 obtain⟨d1,d2⟩:=amO hl
 unfold jY at hp
 by_cases h0:dZ l c<0
 ·rw[auO h0]at hp
  cases hp
 ·rw[auQ h0]at hp
  by_cases h1:dZ l c=0
  ·rw[auO h1]at hp
   have:p=atP (ftL l c):=by simpa using hp
   rw[this,wv]
   have:=IP (c:=c) (u:=0) (v:=0) (k:=0) hl (by decide) (by grind) (by rw[h1]at k;grind)
   rw[eH,eH]at this
   exact this
  ·rw[auQ h1]at hp
   have hk:0≤dZ l c:=by grind
   have:p=lcM l c∨p=lcN l c:=by simpa using hp
   rcases this with e|e
   ·rw[e]
    unfold lcM
    rw[pO]
    refine IP hl hk (by grind) ?_
    rw[show-rn l* -rn l+ -rF l* -rF l=cK l by rw[←d2];grind,awM,k]
    grind
   ·rw[e]
    unfold lcN
    rw[pO]
    refine IP hl hk d1 ?_
    rw[d2,awM,k]
    grind
end
theorem W1{c d:Ln}{v:PE}(hl:oJ (ms c d) v)(hc:pz c v):pz d v:=by
 unfold oJ ms oW at hl
 unfold pz frm at*
 dsimp only at*
 have o2:of 2=1+1:=by
  rw[←EQ,←of_add]
  exact congrArg of (by decide+kernel)
 rw[atC v.1 v.2 (of c.1) (of c.2.1) (of d.1) (of d.2.1) (of d.2.2) (of c.2.2),hc]
 simp only[of_sub,bR,of_add,o2]at hl
 rw[hl,atM]
theorem akE{l m:Ln}{p:Pt}(hp:p∈lz l m):oJ l (pR p)∧oJ m (pR p):=by
 unfold lz at hp
 by_cases h0:fd l m=0
 ·rw[auO h0]at hp
  cases hp
 ·rw[auQ h0]at hp
  have:p=atP (ma l m/fd l m,l7 l m/fd l m):=by simpa using hp
  rw[this,wv]
  have ex:ma l m/fd l m*fd l m=ma l m:=avN h0
  have ey:l7 l m/fd l m*fd l m=l7 l m:=avN h0
  have key:∀a b q:Rat,a*ma l m+b*l7 l m=q*fd l m→a*(ma l m/fd l m)+b*(l7 l m/fd l m)=q:=fun a b q e=>by
   generalize ma l m/fd l m=x at*
   generalize l7 l m/fd l m=y at*
   rw[←ex,←ey]at e
   have:(a*x+b*y-q)*fd l m=0:=by grind
   rcases aw9.1 this with h|h
   ·grind
   ·exact absurd h h0
  unfold oJ
  rw[←bR,←bR,←of_add,←bR,←bR,←of_add,key l.1 l.2.1 l.2.2 (by unfold ma l7 fd;grind),key m.1 m.2.1 m.2.2 (by unfold ma l7 fd;grind)]
  exact⟨rfl,rfl⟩
end RE
end
theorem amU{c:Cv}(h:Crp c):Crv c:=⟨h.f.1,h.t.1,fun ha=>⟨h.q ha,fH ha h.f,fH ha h.t⟩⟩
theorem ff{c:Cv}(h:Crp c){p:Pt}(hp:Rpd p):onP c p=onR c p:=ar5 (amU h) hp
namespace RE
theorem gD{c:Cv}{p:Pt}[Rpd p]:em c p=true↔bif c.1 then pz (ciC c) (pR p)else oJ (lnC c) (pR p):=by
 unfold em
 cases c.1
 ·exact L7
 ·exact wX
theorem vO{q:Rat}(hq:q≠0){x y:RE}(h:of q*x=of q*y):x=y:=by
 have e:∀z:RE,of q⁻¹*(of q*z)=z:=fun z=>by
  rw[←mul_assoc,←bR,Rat.inv_mul_cancel _ hq,EQ,one_mul]
 rw[←e x,h,e y]
theorem atD(a p q x y:RE):a*(p*x+q*y)=p*(a*x)+a*q*y:=by
 induction a using auM
 induction p using auM
 induction q using auM
 induction x using auM
 induction y using auM
 exact snd fun n=>by
  simp only[RL.add,RL.mul]
  grind
theorem atH(p a b x y:RE):p*(a*x+b*y)=p*(a*x)+b*p*y:=by
 induction p using auM
 induction a using auM
 induction b using auM
 induction x using auM
 induction y using auM
 exact snd fun n=>by
  simp only[RL.add,RL.mul]
  grind
theorem aue(b p q x y:RE):b*(p*x+q*y)=b*p*x+q*(b*y):=by
 induction b using auM
 induction p using auM
 induction q using auM
 induction x using auM
 induction y using auM
 exact snd fun n=>by
  simp only[RL.add,RL.mul]
  grind
theorem atL(q a b x y:RE):q*(a*x+b*y)=a*q*x+q*(b*y):=by
 induction q using auM
 induction a using auM
 induction b using auM
 induction x using auM
 induction y using auM
 exact snd fun n=>by
  simp only[RL.add,RL.mul]
  grind
theorem amt{l m:Ln}(hl:l.1≠0∨l.2.1≠0)(h:n7 l m=true){v:PE}(hv:oJ l v):oJ m v:=by
 unfold n7 at h
 obtain⟨h1,h23⟩:=au6.1 h
 obtain⟨h2,h3⟩:=au6.1 h23
 have h1:=auN h1
 have h2:=auN h2
 have h3:=auN h3
 unfold oJ at*
 rcases hl with ha|hb
 ·refine vO ha ?_
  rw[atD,←bR l.1 m.2.1,h1,bR,←atH,hv,←bR,←bR,h2,awM]
 ·refine vO hb ?_
  rw[aue,←bR l.2.1 m.1,←h1,bR,←atL,hv,←bR,←bR,h3,awM]
theorem aew{l m:Ln}(h:n7 l m=true):n7 m l=true:=by
 unfold n7 at*
 obtain⟨h1,h23⟩:=au6.1 h
 obtain⟨h2,h3⟩:=au6.1 h23
 have h1:=auN h1
 have h2:=auN h2
 have h3:=auN h3
 rw[dT (show m.1*l.2.1=m.2.1*l.1 by grind),dT (show m.1*l.2.2=m.2.2*l.1 by grind),dT (show m.2.1*l.2.2=m.2.2*l.2.1 by grind)]
 rfl
theorem amW{c d:Ln}(h:pM c d=true):c=d:=by
 unfold pM at h
 obtain⟨h1,h23⟩:=au6.1 h
 obtain⟨h2,h3⟩:=au6.1 h23
 exact axg (auN h1) (axg (auN h2) (auN h3))
theorem rU{c d:Cv}(h:cL c d=true):c.1=d.1:=by
 unfold cL at h
 cases e:c.1==d.1
 ·rw[e]at h;cases h
 ·exact avQ.1 e
theorem IB{c d:Cv}(h:cL c d=true)(ha:c.1=true):ciC c=ciC d:=by
 have e:=rU h
 unfold cL at h
 rw[←e,ha]at h
 exact amW h
theorem T4{c d:Cv}(h:cL c d=true)(ha:c.1=false):n7 (lnC c) (lnC d)=true:=by
 have e:=rU h
 unfold cL at h
 rw[←e,ha]at h
 exact h
theorem nQ{c d:Cv}(h:cL c d=true):cL d c=true:=by
 have e:=rU h
 unfold cL
 rw[←e,awW,cond_true]
 cases ha:c.1
 ·exact aew (T4 h ha)
 ·rw[cond_true,IB h ha]
  unfold pM
  rw[dT rfl,dT rfl,dT rfl]
  rfl
theorem nZ{c d:Cv}(hc:Crp c)(h:cL c d=true){p:Pt}[Rpd p](hp:em c p=true):em d p=true:=by
 have e:=rU h
 rw[gD]at*
 rw[←e]
 cases ha:c.1
 ·rw[ha,cond_false]at hp
  exact amt (hc.l ha) (T4 h ha) hp
 ·rw[ha,cond_true]at hp
  rw[cond_true,←IB h ha]
  exact hp
theorem supF_eq{c:Cv}{p q:Pt}[Rpd p][Rpd q](e:pR p=pR q)(h:em c p=true):em c q=true:=by
 rw[gD]at*
 rw[←e]
 exact h
end RE
theorem eM{c:Cv}(h:Crp c){p q r:Pt}(hp:Sp c p)(hq:Sp c q)(hr:Sp c r)(e:aV p q=0):cj c p r=cj c q r∧cj c r p=cj c r q:=by
 obtain⟨K,lt,κ,f,hl,hc,ho,hk⟩:=uE h
 have ek:=(hk p q hp hq).2 e
 rw[ho p r hp hr,ho q r hq hr,ho r p hr hp,ho r q hr hq,ek]
 exact⟨rfl,rfl⟩
theorem apd{c:Cv}{p q:Pt}(hp:Sp c p)(hq:Rpd q)(e:aV p q=0):Sp c q:=by
 have:=hp.1
 exact⟨hq,RE.supF_eq (RE.cmpP_0.1 e) hp.2⟩
theorem AP{p:Pt}(_h:Rpd p):aV p p=0:=RE.cmpP_0.2 rfl
theorem iJ{p q:Pt}[Rpd p][Rpd q](e:aV p q=0):aV q p=0:=RE.cmpP_0.2 (RE.cmpP_0.1 e).symm
theorem FY{p q r:Pt}[Rpd p][Rpd q][Rpd r](e:aV p q=0)(e':aV q r=0):aV p r=0:=RE.cmpP_0.2 ((RE.cmpP_0.1 e).trans (RE.cmpP_0.1 e'))
theorem GA{c:Cv}(h:Crp c){p q:Pt}(hp:Rpd p)(hq:Rpd q)(e:aV p q=0)(ho:onR c p=true):onR c q=true:=by
 obtain⟨h1,h2,h3⟩:=(qd h hp).1 ho
 have sp:Sp c p:=⟨hp,h1⟩
 have sq:=apd sp hq e
 rw[qd h hq]
 rw[(eM h sp sq h.f e).1]at h2
 rw[(eM h sp sq h.t e).2]at h3
 exact⟨sq.2,h2,h3⟩
theorem xq{c:Cv}(h:Crp c){p q:Pt}(hp:Rpd p)(hq:Rpd q)(e:aV p q=0):onR c p=onR c q:=by
 cases h1:onR c p
 ·cases h2:onR c q
  ·rfl
  ·rw[GA h hq hp (iJ e) h2]at h1;cases h1
 ·rw[GA h hp hq e h1]
theorem Hj{c:Cv}{x:BP}(hx:Rpd (dec x)):∀{r:List BP},∃y∈fM c r x,aV (dec y) (dec x)=0
 |[]=>⟨x,by simp[fM],RE.cmpP_0.2 rfl⟩
 |z::r=>by
  simp only[fM]
  cases decide (cj c (dec z) (dec x)<0)
  ·cases hz:aV (dec z) (dec x)==0
   ·exact⟨x,by simp,RE.cmpP_0.2 rfl⟩
   ·exact⟨z,by simp,avQ.1 hz⟩
  ·obtain⟨y,hy,e⟩:=Hj (c:=c) hx (r:=r)
   exact⟨y,au4 _ hy,e⟩
theorem H6{c:Cv}{x:BP}(hx:Rpd (dec x)):∀{l r:List BP},x∈l→∃y∈l.foldl (fM c) r,aV (dec y) (dec x)=0
 |[],_,h=>by cases h
 |z::l,r,h=>by
  rw[awK]
  rcases au5.1 h with e|e
  ·obtain⟨y,hy,e2⟩:=Hj (c:=c) hx (r:=r)
   exact⟨y,Ho (by rw[←e];exact hy),e2⟩
  ·exact H6 hx e
theorem HK{c:Cv}{x:BP}{l:List BP}(hx:Rpd (dec x))(h:x∈l):∃y∈eU c l,aV (dec y) (dec x)=0:=H6 hx h
theorem gz{c:Cv}{x:BP}{l:List BP}(h:x∈eU c l):x∈l:=by
 rcases wZ h with h|h
 ·cases h
 ·exact h
theorem Mq{c:Cv}(o:Ord c){l:List BP}(hl:∀x∈l,Spb c x):oL c (eU c l):=Xl o hl
section
def iq(c d:BCU):List BP:=bif cL (dC c) (dC d)then [c.2.2.2.2.1,c.2.2.2.2.2,d.2.2.2.2.1,d.2.2.2.2.2]else(gg (dC c) (dC d)).map enc
def gc(c d:BCU)(p:BP):Bool:=gO (dC c) (dec p)&&gO (dC d) (dec p)
def bL(c d:BCU):List BP:=c7 (dC c) ((iq c d).filter (gc c d))
theorem pG{c:BCU}(h:Az c):(c.1=true→BdC (ciC (dC c))∧0<(ciC (dC c)).2.2)∧(c.1=false→BdL (lnC (dC c))∧((lnC (dC c)).1≠0∨(lnC (dC c)).2.1≠0)):=by
 refine⟨fun e=>?_,fun e=>?_⟩
 ·obtain⟨l,e1,bl,nl⟩:=dh (h.1 e)
  show BdC (dec c.2.2.1)∧_
  rw[show ciC (dC c)=dec c.2.2.1 from rfl,e1,aq]
  exact⟨bl,nl⟩
 ·obtain⟨l,e1,bl,nl⟩:=eI (h.2 e)
  show BdL (dec c.2.1)∧_
  rw[show lnC (dC c)=dec c.2.1 from rfl,e1,aq]
  exact⟨bl,nl⟩
namespace RE
theorem supM_on{c d:BCU}(hc:Az c)(hd:Az d){p:Pt}(hp:p∈gg (dC c) (dC d)):Bd p 1200∧Rpd p∧em (dC c) p=true∧em (dC d) p=true:=by
 obtain⟨c1,c2⟩:=pG hc
 obtain⟨d1,d2⟩:=pG hd
 have ec:(dC c).1=c.1:=rfl
 have ed:(dC d).1=d.1:=rfl
 unfold gg at hp
 rw[ec,ed]at hp
 cases ha:c.1<;>cases hb:d.1<;>rw[ha,hb]at hp
 ·have i1:=(c2 ha).1
  have i2:=(d2 hb).1
  have hp:p∈lz (lnC (dC c)) (lnC (dC d)):=hp
  obtain⟨b,r⟩:=xz.2 p hp
  obtain⟨o1,o2⟩:=akE hp
  refine⟨b.mono (by decide),r,?_,?_⟩
  ·rw[gD,ec,ha];exact o1
  ·rw[gD,ed,hb];exact o2
 ·have i1:=(c2 ha).1
  have i2:=(d1 hb).1
  have hp:p∈jY (lnC (dC c)) (ciC (dC d)):=hp
  obtain⟨b,r⟩:=t4.2 p hp
  obtain⟨o1,o2⟩:=K6 (c2 ha).2 hp
  refine⟨b,r,?_,?_⟩
  ·rw[gD,ec,ha];exact o1
  ·rw[gD,ed,hb];exact o2
 ·have i1:=(c1 ha).1
  have i2:=(d2 hb).1
  have hp:p∈jY (lnC (dC d)) (ciC (dC c)):=hp
  obtain⟨b,r⟩:=t4.2 p hp
  obtain⟨o1,o2⟩:=K6 (d2 hb).2 hp
  refine⟨b,r,?_,?_⟩
  ·rw[gD,ec,ha];exact o2
  ·rw[gD,ed,hb];exact o1
 ·have i1:=(c1 ha).1
  have i2:=(d1 hb).1
  have hp:p∈sV (ciC (dC c)) (ciC (dC d)):=hp
  unfold sV at hp
  cases hq:gi (ciC (dC c)) (ciC (dC d))<;>rw[hq]at hp
  ·have i3:BdL (ms (ciC (dC c)) (ciC (dC d))):=xV
   obtain⟨b,r⟩:=t4.2 p hp
   obtain⟨o1,o2⟩:=K6 (xQ hq) hp
   refine⟨b,r,?_,?_⟩
   ·rw[gD,ec,ha];exact o2
   ·rw[gD,ed,hb];exact W1 o1 o2
  ·cases hp
end RE
open RE
theorem gdN.crp{c:BCU}(h:gdN c):Crp (dC c):=vU h.gd
theorem gdN.ne{c:BCU}(h:gdN c):aV (frC (dC c)) (toC (dC c))≠0:=h.2.2.2
theorem gdN.fr{c:BCU}(h:gdN c):okP 500 c.2.2.2.2.1:=h.1.1.2.2.1
theorem gdN.to{c:BCU}(h:gdN c):okP 500 c.2.2.2.2.2:=h.1.1.2.2.2
theorem xj{c d:BCU}(hc:gdN c)(hd:gdN d):(iq c d).length≤4∧∀x∈iq c d,okP 1200 x∧Spb (dC c) x∧Spb (dC d) x:=by
 have kc:=hc.crp
 have kd:=hd.crp
 unfold iq
 cases hs:cL (dC c) (dC d)
 ·refine⟨?_,fun x hx=>?_⟩
  ·simp only[cond_false,awj]
   have:∀l c,[BdL l]→[BdC c]→(jY l c).length≤4:=fun l c _ _=>ava t4.1 (by decide)
   obtain⟨c1,c2⟩:=pG hc.1.2
   obtain⟨d1,d2⟩:=pG hd.1.2
   have ec:(dC c).1=c.1:=rfl
   have ed:(dC d).1=d.1:=rfl
   unfold gg
   rw[ec,ed]
   cases ha:c.1<;>cases hb:d.1
   ·have i1:=(c2 ha).1
    have i2:=(d2 hb).1
    exact ava xz.1 (by decide)
   ·have i1:=(c2 ha).1
    have i2:=(d1 hb).1
    exact this _ _
   ·have i1:=(c1 ha).1
    have i2:=(d2 hb).1
    exact this _ _
   ·have i1:=(c1 ha).1
    have i2:=(d1 hb).1
    show(sV _ _).length≤4
    unfold sV
    cases hq:gi (ciC (dC c)) (ciC (dC d))
    ·have i3:BdL (ms (ciC (dC c)) (ciC (dC d))):=xV
     exact this _ _
    ·exact axb _
  ·obtain⟨p,hp,rfl⟩:=awc.1 hx
   obtain⟨b,r,o1,o2⟩:=supM_on hc.1.2 hd.1.2 hp
   refine⟨auN (bG (by decide) (by decide)),?_,?_⟩
   ·unfold Spb;rw[aq];exact⟨r,o1⟩
   ·unfold Spb;rw[aq];exact⟨r,o2⟩
 ·have hs':=nQ hs
  refine⟨by simp,fun x hx=>?_⟩
  have:x=c.2.2.2.2.1∨x=c.2.2.2.2.2∨x=d.2.2.2.2.1∨x=d.2.2.2.2.2:=by simpa using hx
  have up:∀{x},okP 500 x→okP 1200 x:=fun h=>db h (by decide) (by decide)
  rcases this with e|e|e|e<;>rw[e]
  ·have i:Rpd (dec c.2.2.2.2.1:Pt):=kc.f.1
   exact⟨up hc.fr,kc.f,kc.f.1,nZ kc hs kc.f.2⟩
  ·have i:Rpd (dec c.2.2.2.2.2:Pt):=kc.t.1
   exact⟨up hc.to,kc.t,kc.t.1,nZ kc hs kc.t.2⟩
  ·have i:Rpd (dec d.2.2.2.2.1:Pt):=kd.f.1
   exact⟨up hd.fr,⟨kd.f.1,nZ kd hs' kd.f.2⟩,kd.f⟩
  ·have i:Rpd (dec d.2.2.2.2.2:Pt):=kd.t.1
   exact⟨up hd.to,⟨kd.t.1,nZ kd hs' kd.t.2⟩,kd.t⟩
theorem fE{c d:BCU}(hc:gdN c)(hd:gdN d){x:BP}(hx:x∈bL c d):x∈iq c d∧okP 1200 x∧Spb (dC c) x∧Spb (dC d) x∧onR (dC c) (dec x)=true∧onR (dC d) (dec x)=true:=by
 obtain⟨hm,hk⟩:=awk.1 (eL hx)
 obtain⟨h0,h1,h2⟩:=(xj hc hd).2 x hm
 obtain⟨k1,k2⟩:=au6.1 hk
 refine⟨hm,h0,h1,h2,?_,?_⟩
 ·rw[←ff hc.crp h1.1]
  exact au6.2 ⟨h1.2,k1⟩
 ·rw[←ff hd.crp h2.1]
  exact au6.2 ⟨h2.2,k2⟩
theorem Mh{c d:BCU}{x:BP}(hc:gdN c)(hd:gdN d)(hr:Rpd (dec x:Pt))(h1:onR (dC c) (dec x)=true)(h2:onR (dC d) (dec x)=true):gc c d x=true:=by
 rw[←ff hc.crp hr]at h1
 rw[←ff hd.crp hr]at h2
 exact au6.2 ⟨(au6.1 h1).2,(au6.1 h2).2⟩
theorem Ir{c d:BCU}(hc:gdN c)(hd:gdN d):∀x∈(iq c d).filter (gc c d),Rpd (dec x:Pt)∧onP (dC c) (dec x)=true:=fun x hx=>by
 obtain⟨hm,hk⟩:=awk.1 hx
 obtain⟨h0,h1,h2⟩:=(xj hc hd).2 x hm
 exact⟨h1.1,au6.2 ⟨h1.2,(au6.1 hk).1⟩⟩
end
end Go.Proofs.YtgddhgcjmddjfaaGreat
end
