/- The order of points on a curve is linear; pieces have different ends. -/
import Derived.Test.YtlahabkjhgkkjaaGreatYGeF
import Derived.Test.YtlahabkjhgkkjaaGreatY18
noncomputable section
namespace Go.Proofs.YtlahabkjhgkkjaaGreat
open Go.RowKit Go.IntKind
theorem awQ:type_of% @decide_eq_true_iff:=@decide_eq_true_iff
section
section
variable {α:Type} {lt:α→α→Prop} {f:α→α→Int}
theorem TQ(h:lR lt):lR (fun x y=>lt y x):=⟨h.irr,fun x y z a b=>h.tr z y x b a,fun x y=>by
 rcases h.tri x y with g|g|g
 ·exact .inr (.inr g)
 ·exact .inr (.inl g)
 ·exact .inl g⟩
theorem Ov(h:ua lt f):ua (fun x y=>lt y x) (fun x y=> -f x y):=fun x y=>⟨fun g=>(by show-f x y= -1;rw[(h x y).2.2 g]),fun g=>(by show-f x y=0;rw[(h x y).2.1 g];rfl),fun g=>(by show-f x y=1;rw[(h x y).1 g];rfl)⟩
def aLt(lt:α→α→Prop)(u v:Bool×α):Prop:=(u.1=false∧v.1=true)∨(u.1=false∧v.1=false∧lt u.2 v.2)∨(u.1=true∧v.1=true∧lt v.2 u.2)
theorem LY(h:lR lt):lR (aLt lt):=by
 refine⟨fun⟨a,u⟩ g=>?_,fun⟨a,u⟩ ⟨b,v⟩ ⟨c,w⟩ g g'=>?_,fun⟨a,u⟩ ⟨b,v⟩=>?_⟩
 ·rcases g with⟨g1,g2⟩|⟨_,_,g⟩|⟨_,_,g⟩
  ·rw[g1]at g2;cases g2
  ·exact h.irr _ g
  ·exact h.irr _ g
 ·unfold aLt at*
  cases a<;>cases b<;>cases c<;>simp only[true_and,false_and,and_false,ax5,or_false,false_or,reduceCtorEq,and_self]at g g' ⊢
  ·exact h.tr _ _ _ g g'
  ·exact h.tr _ _ _ g' g
 ·unfold aLt
  cases a<;>cases b<;>simp only[true_and,false_and,and_false,ax5,or_false,false_or,reduceCtorEq,and_self,or_true,true_or]
  ·rcases h.tri u v with g|g|g
   ·exact .inl g
   ·exact .inr (.inl (by rw[g]))
   ·exact .inr (.inr g)
  ·rcases h.tri u v with g|g|g
   ·exact .inr (.inr g)
   ·exact .inr (.inl (by rw[g]))
   ·exact .inl g
theorem XZ(h:ua lt f):ua (aLt lt) (iz f):=fun⟨a,u⟩ ⟨b,v⟩=>by
 refine⟨fun g=>?_,fun g=>?_,fun g=>?_⟩
 ·unfold aLt at g
  unfold iz
  cases a<;>cases b<;>simp only[true_and,false_and,and_false,ax5,or_false,false_or,reduceCtorEq,and_self]at g
  ·exact(h u v).1 g
  ·rfl
  ·show-f u v= -1
   rw[(h u v).2.2 g]
 ·injection g with g1 g2
  subst g1 g2
  unfold iz
  have:=(h u u).2.1 rfl
  cases a
  ·exact this
  ·show-f u u=0
   rw[this];rfl
 ·unfold aLt at g
  unfold iz
  cases a<;>cases b<;>simp only[true_and,false_and,and_false,ax5,or_false,false_or,reduceCtorEq,and_self]at g
  ·exact(h u v).2.2 g
  ·rfl
  ·show-f u v=1
   rw[(h u v).1 g];rfl
def cLt(lt:α→α→Prop)(o u v:α):Prop:=(¬lt u o∧lt v o)∨((lt u o↔lt v o)∧lt u v)
theorem vU(h:lR lt)(o:α):lR (cLt lt o):=by
 refine⟨fun u g=>?_,fun u v w g g'=>?_,fun u v=>?_⟩
 ·rcases g with⟨g1,g2⟩|⟨_,g⟩
  ·exact g1 g2
  ·exact h.irr _ g
 ·rcases g with⟨g1,g2⟩|⟨g1,g2⟩<;>rcases g' with⟨g3,g4⟩|⟨g3,g4⟩
  ·exact absurd g2 g3
  ·exact .inl ⟨g1,g3.1 g2⟩
  ·exact .inl ⟨fun e=>g3 (g1.1 e),g4⟩
  ·exact .inr ⟨g1.trans g3,h.tr _ _ _ g2 g4⟩
 ·by_cases e1:lt u o<;>by_cases e2:lt v o
  ·rcases h.tri u v with g|g|g
   ·exact .inl (.inr ⟨⟨fun _=>e2,fun _=>e1⟩,g⟩)
   ·exact .inr (.inl g)
   ·exact .inr (.inr (.inr ⟨⟨fun _=>e1,fun _=>e2⟩,g⟩))
  ·exact .inr (.inr (.inl ⟨e2,e1⟩))
  ·exact .inl (.inl ⟨e1,e2⟩)
  ·rcases h.tri u v with g|g|g
   ·exact .inl (.inr ⟨⟨fun e=>absurd e e1,fun e=>absurd e e2⟩,g⟩)
   ·exact .inr (.inl g)
   ·exact .inr (.inr (.inr ⟨⟨fun e=>absurd e e2,fun e=>absurd e e1⟩,g⟩))
theorem xy(hl:lR lt)(h:ua lt f)(x y:α):decide (f x y<0)=true↔lt x y:=by
 rw[awQ]
 rcases hl.tri x y with g|g|g
 ·rw[(h x y).1 g];exact⟨fun _=>g,fun _=>by decide⟩
 ·rw[(h x y).2.1 g];exact⟨fun e=>absurd e (by decide),fun e=>absurd e (by rw[g];exact hl.irr _)⟩
 ·rw[(h x y).2.2 g];exact⟨fun e=>absurd e (by decide),fun e=>absurd (hl.tr _ _ _ e g) (hl.irr _)⟩
theorem wU(hl:lR lt)(h:ua lt f)(o:Bool×α):ua (cLt (aLt lt) o) (ku f o):=fun u v=>by
 have ha:=XZ h
 have n:=xy (LY hl) ha
 have tf:∀x,¬aLt lt x o→decide (iz f x o<0)=false:=fun x g=>by
  cases e:decide (iz f x o<0)
  ·rfl
  ·exact absurd ((n x o).1 e) g
 unfold ku
 refine⟨fun g=>?_,fun g=>?_,fun g=>?_⟩
 ·rcases g with⟨g1,g2⟩|⟨g1,g2⟩
  ·rw[tf u g1,(n v o).2 g2];rfl
  ·have e:(decide (iz f u o<0)==decide (iz f v o<0))=true:=by
    by_cases e:aLt lt u o
    ·rw[(n u o).2 e,(n v o).2 (g1.1 e)];rfl
    ·rw[tf u e,tf v (fun e'=>e (g1.2 e'))];rfl
   rw[e];exact(ha u v).1 g2
 ·subst g
  rw[beq_self_eq_true];exact(ha u u).2.1 rfl
 ·rcases g with⟨g1,g2⟩|⟨g1,g2⟩
  ·rw[tf v g1,(n u o).2 g2];rfl
  ·have e:(decide (iz f u o<0)==decide (iz f v o<0))=true:=by
    by_cases e:aLt lt u o
    ·rw[(n u o).2 e,(n v o).2 (g1.2 e)];rfl
    ·rw[tf u e,tf v (fun e'=>e (g1.1 e'))];rfl
   rw[e];exact(ha u v).2.2 g2
end
def Sp(c:Cv)(p:Pt):Prop:=Rpd p∧gn c p=true
structure Crp (c:Cv):Prop where
 f:Sp c (frC c)
 t:Sp c (toC c)
 q:c.1=true→0<(ciC c).2.2
 l:c.1=false→(lnC c).1≠0∨(lnC c).2.1≠0
theorem ti{c:BCU}(h:gdC c):Crp (dC c):=by
 obtain⟨h1,h2,h3⟩:=h
 exact⟨⟨f0 h1.2.2.1,h2⟩,⟨f0 h1.2.2.2,h3⟩,fun e=>(h1.1 e).2,fun e=>(h1.2.1 e).2⟩
open RE in
theorem Crp.e{c:Cv}(h:Crp c)(hne:b9 (frC c) (toC c)≠0):GdE c:=by
 have hf:=h.f.1
 have ht:=h.t.1
 have s:=fun p (hp:Sp c p)=>hp.2
 refine⟨hf,ht,fun e=>hne (cmpP_0.2 e),fun e=>?_,fun e=>?_⟩
 ·have h2:=h.f.2
  have h3:=h.t.2
  unfold gn at h2 h3
  rw[e]at h2 h3
  exact⟨h.q e,ins_on (awf.1 h2),ins_on (awf.1 h3)⟩
 ·have h2:=h.f.2
  have h3:=h.t.2
  unfold gn at h2 h3
  rw[e]at h2 h3
  exact⟨h.l e,sid_on (awf.1 h2),sid_on (awf.1 h3)⟩
namespace RE
theorem IG(v w:RE):((v-(w))*(v-(w)))+((w*w-(v*v)))+of 2*((w-(0))*(v-(w)))=0:=by
 induction v using auZ
 induction w using auZ
 exact snd fun n=>by
  simp only[RL.add,RL.mul,RL.neg,RL.const]
  grind
theorem WO(v w:RE)(h1:v*v=w*w)(_h2:0≤v)(h3:0≤w):v≤w:=fun hg=>far (aB (aB (mul_pos (aE hg) (aE hg)) (aA (dP h1))) (eK (by decide+kernel:(0:Rat)<2) (bV (aA h3) (le_of_lt (aE hg))))) (IG v w)
theorem If(v w:RE):((w-(v))*(w-(v)))+((v*v-(w*w)))+of 2*((v-(0))*(w-(v)))=0:=by
 induction v using auZ
 induction w using auZ
 exact snd fun n=>by
  simp only[RL.add,RL.mul,RL.neg,RL.const]
  grind
theorem Zp(v w:RE)(h1:v*v=w*w)(h2:0≤v)(_h3:0≤w):w≤v:=fun hg=>far (aB (aB (mul_pos (aE hg) (aE hg)) (aA (d7 h1))) (eK (by decide+kernel:(0:Rat)<2) (bV (aA h2) (le_of_lt (aE hg))))) (If v w)
theorem abO(v w:RE)(h1:v*v=w*w)(h2:0≤v)(h3:0≤w):v=w:=le_antisymm (WO v w h1 h2 h3) (Zp v w h1 h2 h3)
theorem FW(v w:RE):((v-(w))*(v-(w)))+((v*v-(w*w)))+of 2*((0-(v))*(v-(w)))=0:=by
 induction v using auZ
 induction w using auZ
 exact snd fun n=>by
  simp only[RL.add,RL.mul,RL.neg,RL.const]
  grind
theorem Oo(v w:RE)(h1:v*v=w*w)(h2:v≤0)(_h3:w≤0):v≤w:=fun hg=>far (aB (aB (mul_pos (aE hg) (aE hg)) (aA (d7 h1))) (eK (by decide+kernel:(0:Rat)<2) (bV (aA h2) (le_of_lt (aE hg))))) (FW v w)
theorem F7(v w:RE):((w-(v))*(w-(v)))+((w*w-(v*v)))+of 2*((0-(w))*(w-(v)))=0:=by
 induction v using auZ
 induction w using auZ
 exact snd fun n=>by
  simp only[RL.add,RL.mul,RL.neg,RL.const]
  grind
theorem M0(v w:RE)(h1:v*v=w*w)(_h2:v≤0)(h3:w≤0):w≤v:=fun hg=>far (aB (aB (mul_pos (aE hg) (aE hg)) (aA (dP h1))) (eK (by decide+kernel:(0:Rat)<2) (bV (aA h3) (le_of_lt (aE hg))))) (F7 v w)
theorem Xj(v w:RE)(h1:v*v=w*w)(h2:v≤0)(h3:w≤0):v=w:=le_antisymm (Oo v w h1 h2 h3) (M0 v w h1 h2 h3)
theorem Tr(u v w Q:RE):((v*v-(w*w)))+((Q-(u*u+v*v)))+((u*u+w*w-(Q)))=0:=by
 induction u using auZ
 induction v using auZ
 induction w using auZ
 induction Q using auZ
 exact snd fun n=>by
  simp only[RL.add,RL.mul,RL.neg,RL.const]
  grind
theorem aiA(u v w Q:RE)(h1:u*u+v*v=Q)(h2:u*u+w*w=Q):v*v≤w*w:=fun hg=>far (aB (aB (aE hg) (aA (dP h1))) (aA (d7 h2))) (Tr u v w Q)
theorem Sy(u v w Q:RE):((w*w-(v*v)))+((u*u+v*v-(Q)))+((Q-(u*u+w*w)))=0:=by
 induction u using auZ
 induction v using auZ
 induction w using auZ
 induction Q using auZ
 exact snd fun n=>by
  simp only[RL.add,RL.mul,RL.neg,RL.const]
  grind
theorem ajj(u v w Q:RE)(h1:u*u+v*v=Q)(h2:u*u+w*w=Q):w*w≤v*v:=fun hg=>far (aB (aB (aE hg) (aA (d7 h1))) (aA (dP h2))) (Sy u v w Q)
theorem anr(u v w Q:RE)(h1:u*u+v*v=Q)(h2:u*u+w*w=Q):v*v=w*w:=le_antisymm (aiA u v w Q h1 h2) (ajj u v w Q h1 h2)
theorem Hq(a b:RE):((a-(b)))+((-a-(-b)))=0:=by
 induction a using auZ
 induction b using auZ
 exact snd fun n=>by
  simp only[RL.add,RL.neg,RL.const]
  grind
theorem Qy(a b:RE)(h1: -a= -b):a≤b:=fun hg=>far (aB (aE hg) (aA (d7 h1))) (Hq a b)
theorem IK(a b:RE):((b-(a)))+((-b-(-a)))=0:=by
 induction a using auZ
 induction b using auZ
 exact snd fun n=>by
  simp only[RL.add,RL.neg,RL.const]
  grind
theorem Zj(a b:RE)(h1: -a= -b):b≤a:=fun hg=>far (aB (aE hg) (aA (dP h1))) (IK a b)
theorem abu(a b:RE)(h1: -a= -b):a=b:=le_antisymm (Qy a b h1) (Zj a b h1)
theorem DH{u v:RE}:(upA (cls u v)=true→0≤v)∧(upA (cls u v)=false→v≤0)∧(ufA (cls u v)=true→0≤v)∧(ufA (cls u v)=false→v≤0):=by
 unfold cls upA ufA
 rcases bZ v with⟨h,e⟩|⟨h,e⟩|⟨h,e⟩<;>rw[e]
 ·exact⟨fun _=>le_of_lt h,fun g=>(by cases g),fun _=>le_of_lt h,fun g=>(by cases g)⟩
 ·rw[h];exact⟨fun _=>le_refl _,fun _=>le_refl _,fun _=>le_refl _,fun _=>le_refl _⟩
 ·exact⟨fun g=>(by cases g),fun _=>le_of_lt h,fun g=>(by cases g),fun _=>le_of_lt h⟩
theorem K6{c:Ln}{p q:Pt}(hp:onCi c p)(hq:onCi c q)(hx:pX p=pX q)(g:(0≤pY p-of c.2.1∧0≤pY q-of c.2.1)∨(pY p-of c.2.1≤0∧pY q-of c.2.1≤0)):pR p=pR q:=by
 unfold onCi at hp hq
 rw[hx]at hp
 have e:=anr _ _ _ _ hp hq
 refine axe hx ?_
 rcases g with⟨a,b⟩|⟨a,b⟩
 ·exact iB _ _ _ (abO _ _ e a b)
 ·exact iB _ _ _ (Xj _ _ e a b)
end RE
open RE in
theorem pT{c:Cv}(ha:c.1=true){p:Pt}(hp:Sp c p):onCi (ciC c) p:=by
 have:=hp.1
 have g:=hp.2
 unfold gn at g
 rw[ha]at g
 exact ins_on (awf.1 g)
open RE in
theorem Ca{c:Cv}(h:Crp c)(ha:c.1=true):∃κ:Pt→Bool×RE,(∀d:Cv,d.1=true→ciC d=ciC c→cwC d=cwC c→Sp c (frC d)→∀p q,Sp c p→Sp c q→cB d p q=ku (fun x y:RE=>sg (x-y)) (κ (frC d)) (κ p) (κ q))∧∀p q,Sp c p→Sp c q→(κ p=κ q↔b9 p q=0):=by
 cases hw:cwC c
 ·refine⟨fun p=>(upR (ciC c) p,pX p),fun d d1 d2 d3 hd p q hp hq=>?_,fun p q hp hq=>?_⟩
  ·have i1:=hd.1
   have:=hp.1
   have:=hq.1
   have e:∀{x y:Pt},Rpd x→Rpd y→bI (xP x) (xP y)=sg (pX x-pX y):=fun{x y} _ _=>by rw[cmpT_re jY jY,qO,qO]
   unfold cB
   rw[d1,d3,cond_true,cond_false,d2]
   exact gT (e hp.1 i1) (e hq.1 i1) (e hp.1 hq.1)
  ·have r1:=hp.1
   have r2:=hq.1
   rw[cmpP_0]
   constructor
   ·intro e
    injection e with e1 e2
    rw[lk,lk]at e1
    refine K6 (pT ha hp) (pT ha hq) e2 ?_
    cases g:upA (cls (pX p-of (ciC c).1) (pY p-of (ciC c).2.1))
    ·exact .inr ⟨DH.2.1 g,DH.2.1 (e1.symm.trans g)⟩
    ·exact .inl ⟨DH.1 g,DH.1 (e1.symm.trans g)⟩
   ·intro e
    have e1:pX p=pX q:=congrArg Prod.fst e
    have e2:pY p=pY q:=congrArg Prod.snd e
    show(upR (ciC c) p,pX p)=(upR (ciC c) q,pX q)
    rw[lk,lk,e1,e2]
 ·refine⟨fun p=>(upR (flC (ciC c)) (flP p),-pX p),fun d d1 d2 d3 hd p q hp hq=>?_,fun p q hp hq=>?_⟩
  ·have i1:=hd.1
   have:=hp.1
   have:=hq.1
   have e:∀{x y:Pt},Rpd x→Rpd y→bI (xP (flP x)) (xP (flP y))=sg (-pX x- -pX y):=fun{x y} _ _=>by rw[cmpT_re jY jY,qO,qO,DU,DU]
   unfold cB
   rw[d1,d3,cond_true,cond_true,d2]
   exact gT (e hp.1 i1) (e hq.1 i1) (e hp.1 hq.1)
  ·have r1:=hp.1
   have r2:=hq.1
   rw[cmpP_0]
   have u1:=Fu (h.q ha) (pT ha hp)
   have u2:=Fu (h.q ha) (pT ha hq)
   constructor
   ·intro e
    injection e with e1 e2
    rw[u1,u2]at e1
    refine K6 (pT ha hp) (pT ha hq) (abu _ _ e2) ?_
    cases g:ufA (cls (pX p-of (ciC c).1) (pY p-of (ciC c).2.1))
    ·exact .inr ⟨DH.2.2.2 g,DH.2.2.2 (e1.symm.trans g)⟩
    ·exact .inl ⟨DH.2.2.1 g,DH.2.2.1 (e1.symm.trans g)⟩
   ·intro e
    have e1:pX p=pX q:=congrArg Prod.fst e
    have e2:pY p=pY q:=congrArg Prod.snd e
    show(upR (flC (ciC c)) (flP p),-pX p)=(upR (flC (ciC c)) (flP q),-pX q)
    rw[u1,u2,e1,e2]
open RE in
theorem LC{c:Cv}(h:Crp c):∃(K:Type) (lt:K→K→Prop) (κ:Pt→K) (f:K→K→Int),lR lt∧ua lt f∧(∀p q,Sp c p→Sp c q→cB c p q=f (κ p) (κ q))∧∀p q,Sp c p→Sp c q→(κ p=κ q↔b9 p q=0):=by
 have hF:=h.f
 cases ha:c.1
 ·cases hd:decide (b9 (frC c) (toC c)>0)
  ·refine⟨PE,ale,pR,lxc,jg,oB,fun p q hp hq=>?_,fun p q hp hq=>?_⟩
   ·have:=hp.1
    have:=hq.1
    unfold cB
    rw[ha,hd,cond_false,cond_false,jW]
   ·have:=hp.1
    have:=hq.1
    exact cmpP_0.symm
  ·refine⟨PE,_,pR,_,TQ jg,Ov oB,fun p q hp hq=>?_,fun p q hp hq=>?_⟩
   ·have:=hp.1
    have:=hq.1
    unfold cB
    rw[ha,hd,cond_false,cond_true,jW]
   ·have:=hp.1
    have:=hq.1
    exact cmpP_0.symm
 ·obtain⟨κ,h1,h2⟩:=Ca h ha
  exact⟨Bool×RE,_,κ,_,vU (LY lt_lin) (κ (frC c)),wU lt_lin sg_cmpO _,h1 c ha rfl rfl hF,h2⟩
structure Ord (c:Cv):Prop where
 tr:∀{p q r},Sp c p→Sp c q→Sp c r→cB c p q<0→cB c q r<0→cB c p r<0
 tri:∀{p q},Sp c p→Sp c q→cB c p q<0∨b9 p q=0∨cB c q p<0
 irr:∀{p q},Sp c p→Sp c q→b9 p q=0→cB c p q=0
 asy:∀{p q},Sp c p→Sp c q→cB c p q<0→0<cB c q p
theorem wd{c:Cv}(h:Crp c):Ord c:=by
 obtain⟨K,lt,κ,f,hl,hc,ho,hk⟩:=LC h
 have n:∀{p q},Sp c p→Sp c q→(cB c p q<0↔lt (κ p) (κ q)):=fun{p q} hp hq=>by
  rw[ho p q hp hq,←awQ (p:=f (κ p) (κ q)<0)]
  exact xy hl hc _ _
 refine⟨fun{p q r} hp hq hr g g'=>?_,fun{p q} hp hq=>?_,fun{p q} hp hq g=>?_,fun{p q} hp hq g=>?_⟩
 ·rw[n hp hr]
  exact hl.tr _ _ _ ((n hp hq).1 g) ((n hq hr).1 g')
 ·rw[n hp hq,n hq hp,←hk p q hp hq]
  exact hl.tri _ _
 ·rw[ho p q hp hq,(hc _ _).2.1 ((hk p q hp hq).2 g)]
 ·rw[ho q p hq hp,(hc _ _).2.2 ((n hp hq).1 g)]
  decide
def Spb(c:Cv)(x:BP):Prop:=Sp c (dec x)
theorem X6{c:Cv}(o:Ord c){x:BP}(hx:Spb c x):∀{l:List BP},(∀y∈l,Spb c y)→l.Pairwise (fun a b=>cB c (dec a) (dec b)<0)→(fq c l x).Pairwise (fun a b=>cB c (dec a) (dec b)<0)
 |[],_,_=>by simp[fq]
 |y::r,hl,hp=>by
  have hy:=hl y (by simp)
  have hr:∀z∈r,Spb c z:=fun z hz=>hl z (avo _ hz)
  obtain⟨p1,p2⟩:=awg.1 hp
  simp only[fq]
  by_cases h1:cB c (dec y) (dec x)<0
  ·rw[au1 h1,cond_true]
   refine awg.2 ⟨fun z hz=>?_,X6 o hx hr p2⟩
   rcases mS hz with g|g
   ·exact p1 z g
   ·rw[g];exact h1
  ·rw[au3 h1,cond_false]
   by_cases h2:b9 (dec y) (dec x)=0
   ·rw[awf.2 h2,cond_true];exact hp
   ·rw[axg.2 h2,cond_false]
    have h3:cB c (dec x) (dec y)<0:=by
     rcases o.tri hy hx with g|g|g
     ·exact absurd g h1
     ·exact absurd g h2
     ·exact g
    refine awg.2 ⟨fun z hz=>?_,hp⟩
    rcases avz.1 hz with g|g
    ·rw[g];exact h3
    ·exact o.tr hx hy (hr z g) h3 (p1 z g)
theorem Kw{c:Cv}(o:Ord c):∀{l out:List BP},(∀y∈l,Spb c y)→(∀y∈out,Spb c y)→out.Pairwise (fun a b=>cB c (dec a) (dec b)<0)→(l.foldl (fq c) out).Pairwise (fun a b=>cB c (dec a) (dec b)<0)
 |[],_,_,_,h=>h
 |x::l,out,hl,ho,h=>Kw o (l:=l) (fun y hy=>hl y (avo _ hy)) (fun y hy=>by
   rcases mS hy with g|g
   ·exact ho y g
   ·rw[g];exact hl x (by simp)) (X6 o (hl x (by simp)) ho h)
theorem ajq{c:Cv}(o:Ord c){l:List BP}(hl:∀y∈l,Spb c y):(gk c l).Pairwise (fun a b=>cB c (dec a) (dec b)<0):=Kw o hl (fun y hy=>by cases hy) List.Pairwise.nil
theorem HP{c:BCU}{R:BP→BP→Prop}{p:BCU}:∀{s:List BP},s.Pairwise R→p∈sf c s→∃x y,x∈s∧y∈s∧R x y∧p=uw c x y
 |[],_,h=>by cases h
 |[_],_,h=>by cases h
 |x::y::r,hp,h=>by
  obtain⟨p1,p2⟩:=awg.1 hp
  simp only[sf]at h
  rcases avz.1 h with h|h
  ·exact⟨x,y,by simp,by simp,p1 y (by simp),h⟩
  ·obtain⟨a,b,h1,h2,h3,h4⟩:=HP p2 h
   exact⟨a,b,avo _ h1,avo _ h2,h3,h4⟩
theorem IJ{c:BCU}(h:gdN c){l:List BP}(ho:∀p∈l,okP 500 p∧onR (dC c) (dec p)=true):∀x∈nO c l,okP 500 x∧Spb (dC c) x:=by
 intro z hz
 rcases BD hz with e|e|e
 ·rw[e];exact⟨h.1.1.2.2.1,f0 h.1.1.2.2.1,h.2.1⟩
 ·rw[e];exact⟨h.1.1.2.2.2,f0 h.1.1.2.2.2,h.2.2.1⟩
 ·exact⟨(ho z e).1,f0 (ho z e).1,(avL.1 (ho z e).2).1⟩
theorem Qg{c:BCU}(h:gdN c){l:List BP}(ho:∀p∈l,okP 500 p∧onR (dC c) (dec p)=true):(nO c l).Pairwise (fun a b=>cB (dC c) (dec a) (dec b)<0):=by
 refine ajq (wd (ti h.gd)) fun y hy=>?_
 rcases avI.1 hy with hy|hy
 ·simp only[avz,List.not_mem_nil,or_false]at hy
  rcases hy with e|e
  ·rw[e];exact⟨f0 h.1.1.2.2.1,h.2.1⟩
  ·rw[e];exact⟨f0 h.1.1.2.2.2,h.2.2.1⟩
 ·exact⟨f0 (ho y hy).1,(avL.1 (ho y hy).2).1⟩
theorem CM{c:BCU}(h:gdN c){l:List BP}(ho:∀p∈l,okP 500 p∧onR (dC c) (dec p)=true):∀p∈fj c l,gdN p:=by
 intro p hp
 have hm:=Rj h ho p hp
 obtain⟨x,y,hx,hy,hr,e⟩:=HP (Qg h ho) hp
 have o:=wd (ti h.gd)
 refine⟨hm.1,hm.2.1,hm.2.2,fun g=>?_⟩
 rw[e]at g
 have:=o.irr (IJ h ho x hx).2 (IJ h ho y hy).2 g
 omega
theorem aeo{x:Pce}(h:pZ x):∀p∈A6 x,gdN p:=by
 intro p hp
 have hA:=qt h.1
 unfold A6 at hp
 cases hl:ofL x.1 with
 |nil=>rw[hl]at hp;cases hp
 |cons c r=>
  rw[hl]at hp hA
  exact CM (hA c (by simp)) (Iu (hA c (by simp)) (qt h.2.1)).2 p hp
theorem J9{x:Pce}(h:pZ x)(ho:o9 x=true):gdN (dg x):=aeo h _ (Kf h ho)
theorem gdN.e{c:BCU}(h:gdN c):RE.GdE (dC c):=(ti h.gd).e h.2.2.2
end
end Go.Proofs.YtlahabkjhgkkjaaGreat
end
