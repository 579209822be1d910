/- The order of points on a curve is linear; pieces have different ends. -/
import Derived.Test.YtgddhgcjmddjfaaGreatC17
import Derived.Test.YtgddhgcjmddjfaaGreatC14
import Derived.Test.YtgddhgcjmddjfaaGreatC15
import Derived.Test.YtgddhgcjmddjfaaGreatC16
noncomputable section
namespace Go.Proofs.YtgddhgcjmddjfaaGreat
open Go.RowKit Go.IntKind
theorem avE:type_of% @decide_eq_true_iff:=@decide_eq_true_iff
section
section
variable {α:Type} {lt:α→α→Prop} {f:α→α→Int}
theorem VL(h:lV lt):lV (fun x y=>lt y x):=⟨h.irr,fun x y z a b=>h.tr z y x b a,fun x y=>by
 rcases h.tri x y with g|g|g
 ·exact .inr (.inr g)
 ·exact .inr (.inl g)
 ·exact .inl g⟩
theorem Nq(h:uv lt f):uv (fun x y=>lt y x) (fun x y=> -f x y):=fun x y=>⟨fun g=>(by show-f x y= -1;rw[(h x y).2.2 g]),fun g=>(by show-f x y=0;rw[(h x y).2.1 g];rfl),fun g=>(by show-f x y=1;rw[(h x y).1 g];rfl)⟩
def aLt(lt:α→α→Prop)(u v:Bool×α):Prop:=(u.1=false∧v.1=true)∨(u.1=false∧v.1=false∧lt u.2 v.2)∨(u.1=true∧v.1=true∧lt v.2 u.2)
theorem Ke(h:lV lt):lV (aLt lt):=by
 refine⟨fun⟨a,u⟩ g=>?_,fun⟨a,u⟩ ⟨b,v⟩ ⟨c,w⟩ g g'=>?_,fun⟨a,u⟩ ⟨b,v⟩=>?_⟩
 ·rcases g with⟨g1,g2⟩|⟨_,_,g⟩|⟨_,_,g⟩
  ·rw[g1]at g2;cases g2
  ·exact h.irr _ g
  ·exact h.irr _ g
 ·unfold aLt at*
  cases a<;>cases b<;>cases c<;>simp only[true_and,false_and,and_false,axc,awM,false_or,reduceCtorEq,and_self]at g g' ⊢
  ·exact h.tr _ _ _ g g'
  ·exact h.tr _ _ _ g' g
 ·unfold aLt
  cases a<;>cases b<;>simp only[true_and,false_and,and_false,axc,awM,false_or,reduceCtorEq,and_self,or_true,true_or]
  ·rcases h.tri u v with g|g|g
   ·exact .inl g
   ·exact .inr (.inl (by rw[g]))
   ·exact .inr (.inr g)
  ·rcases h.tri u v with g|g|g
   ·exact .inr (.inr g)
   ·exact .inr (.inl (by rw[g]))
   ·exact .inl g
theorem U1(h:uv lt f):uv (aLt lt) (jb f):=fun⟨a,u⟩ ⟨b,v⟩=>by
 refine⟨fun g=>?_,fun g=>?_,fun g=>?_⟩
 ·unfold aLt at g
  unfold jb
  cases a<;>cases b<;>simp only[true_and,false_and,and_false,axc,awM,false_or,reduceCtorEq,and_self]at g
  ·exact(h u v).1 g
  ·rfl
  ·show-f u v= -1
   rw[(h u v).2.2 g]
 ·injection g with g1 g2
  subst g1 g2
  unfold jb
  have:=(h u u).2.1 rfl
  cases a
  ·exact this
  ·show-f u u=0
   rw[this];rfl
 ·unfold aLt at g
  unfold jb
  cases a<;>cases b<;>simp only[true_and,false_and,and_false,axc,awM,false_or,reduceCtorEq,and_self]at g
  ·exact(h u v).2.2 g
  ·rfl
  ·show-f u v=1
   rw[(h u v).1 g];rfl
def cLt(lt:α→α→Prop)(o u v:α):Prop:=(¬lt u o∧lt v o)∨((lt u o↔lt v o)∧lt u v)
theorem A6(h:lV lt)(o:α):lV (cLt lt o):=by
 refine⟨fun u g=>?_,fun u v w g g'=>?_,fun u v=>?_⟩
 ·rcases g with⟨g1,g2⟩|⟨_,g⟩
  ·exact g1 g2
  ·exact h.irr _ g
 ·rcases g with⟨g1,g2⟩|⟨g1,g2⟩<;>rcases g' with⟨g3,g4⟩|⟨g3,g4⟩
  ·exact absurd g2 g3
  ·exact .inl ⟨g1,g3.1 g2⟩
  ·exact .inl ⟨fun e=>g3 (g1.1 e),g4⟩
  ·exact .inr ⟨g1.trans g3,h.tr _ _ _ g2 g4⟩
 ·by_cases e1:lt u o<;>by_cases e2:lt v o
  ·rcases h.tri u v with g|g|g
   ·exact .inl (.inr ⟨⟨fun _=>e2,fun _=>e1⟩,g⟩)
   ·exact .inr (.inl g)
   ·exact .inr (.inr (.inr ⟨⟨fun _=>e1,fun _=>e2⟩,g⟩))
  ·exact .inr (.inr (.inl ⟨e2,e1⟩))
  ·exact .inl (.inl ⟨e1,e2⟩)
  ·rcases h.tri u v with g|g|g
   ·exact .inl (.inr ⟨⟨fun e=>absurd e e1,fun e=>absurd e e2⟩,g⟩)
   ·exact .inr (.inl g)
   ·exact .inr (.inr (.inr ⟨⟨fun e=>absurd e e2,fun e=>absurd e e1⟩,g⟩))
theorem yF(hl:lV lt)(h:uv lt f)(x y:α):decide (f x y<0)=true↔lt x y:=by
 rw[avE]
 rcases hl.tri x y with g|g|g
 ·rw[(h x y).1 g];exact⟨fun _=>g,fun _=>by decide⟩
 ·rw[(h x y).2.1 g];exact⟨fun e=>absurd e (by decide),fun e=>absurd e (by rw[g];exact hl.irr _)⟩
 ·rw[(h x y).2.2 g];exact⟨fun e=>absurd e (by decide),fun e=>absurd (hl.tr _ _ _ e g) (hl.irr _)⟩
theorem xO(hl:lV lt)(h:uv lt f)(o:Bool×α):uv (cLt (aLt lt) o) (jy f o):=fun u v=>by
 have ha:=U1 h
 have n:=yF (Ke hl) ha
 have tf:∀x,¬aLt lt x o→decide (jb f x o<0)=false:=fun x g=>by
  cases e:decide (jb f x o<0)
  ·rfl
  ·exact absurd ((n x o).1 e) g
 unfold jy
 refine⟨fun g=>?_,fun g=>?_,fun g=>?_⟩
 ·rcases g with⟨g1,g2⟩|⟨g1,g2⟩
  ·rw[tf u g1,(n v o).2 g2];rfl
  ·have e:(decide (jb f u o<0)==decide (jb f v o<0))=true:=by
    by_cases e:aLt lt u o
    ·rw[(n u o).2 e,(n v o).2 (g1.1 e)];rfl
    ·rw[tf u e,tf v (fun e'=>e (g1.2 e'))];rfl
   rw[e];exact(ha u v).1 g2
 ·subst g
  rw[awo];exact(ha u u).2.1 rfl
 ·rcases g with⟨g1,g2⟩|⟨g1,g2⟩
  ·rw[tf v g1,(n u o).2 g2];rfl
  ·have e:(decide (jb f u o<0)==decide (jb f v o<0))=true:=by
    by_cases e:aLt lt u o
    ·rw[(n u o).2 e,(n v o).2 (g1.2 e)];rfl
    ·rw[tf u e,tf v (fun e'=>e (g1.1 e'))];rfl
   rw[e];exact(ha u v).2.2 g2
end
def Sp(c:Cv)(p:Pt):Prop:=Rpd p∧fE c p=true
structure Crp (c:Cv):Prop where
 f:Sp c (frC c)
 t:Sp c (toC c)
 q:c.1=true→0<(ciC c).2.2
 l:c.1=false→(lnC c).1≠0∨(lnC c).2.1≠0
theorem uA{c:BCU}(h:gdC c):Crp (dC c):=by
 obtain⟨h1,h2,h3⟩:=h
 exact⟨⟨gc h1.2.2.1,h2⟩,⟨gc h1.2.2.2,h3⟩,fun e=>(h1.1 e).2,fun e=>(h1.2.1 e).2⟩
open RE in
theorem Crp.e{c:Cv}(h:Crp c)(hne:aW (frC c) (toC c)≠0):GdE c:=by
 have hf:=h.f.1
 have ht:=h.t.1
 have s:=fun p (hp:Sp c p)=>hp.2
 refine⟨hf,ht,fun e=>hne (cmpP_0.2 e),fun e=>?_,fun e=>?_⟩
 ·have h2:=h.f.2
  have h3:=h.t.2
  unfold fE at h2 h3
  rw[e]at h2 h3
  exact⟨h.q e,ins_on (avb.1 h2),ins_on (avb.1 h3)⟩
 ·have h2:=h.f.2
  have h3:=h.t.2
  unfold fE at h2 h3
  rw[e]at h2 h3
  exact⟨h.l e,IA (avb.1 h2),IA (avb.1 h3)⟩
namespace RE
theorem Ix(v w:RE):((v-(w))*(v-(w)))+((w*w-(v*v)))+of 2*((w-(0))*(v-(w)))=0:=by
 induction v using atR
 induction w using atR
 exact snd fun n=>by
  simp only[RL.add,RL.mul,RL.neg,RL.const]
  grind
theorem Q9(v w:RE)(h1:v*v=w*w)(_h2:0≤v)(h3:0≤w):v≤w:=fun hg=>far (aU (aU (mul_pos (a8 hg) (a8 hg)) (aR (jH h1))) (ls (by decide+kernel:(0:Rat)<2) (cW (aR h3) (le_of_lt (a8 hg))))) (Ix v w)
theorem I7(v w:RE):((w-(v))*(w-(v)))+((v*v-(w*w)))+of 2*((v-(0))*(w-(v)))=0:=by
 induction v using atR
 induction w using atR
 exact snd fun n=>by
  simp only[RL.add,RL.mul,RL.neg,RL.const]
  grind
theorem RB(v w:RE)(h1:v*v=w*w)(h2:0≤v)(_h3:0≤w):w≤v:=fun hg=>far (aU (aU (mul_pos (a8 hg) (a8 hg)) (aR (ji h1))) (ls (by decide+kernel:(0:Rat)<2) (cW (aR h2) (le_of_lt (a8 hg))))) (I7 v w)
theorem abH(v w:RE)(h1:v*v=w*w)(h2:0≤v)(h3:0≤w):v=w:=le_antisymm (Q9 v w h1 h2 h3) (RB v w h1 h2 h3)
theorem Gp(v w:RE):((v-(w))*(v-(w)))+((v*v-(w*w)))+of 2*((0-(v))*(v-(w)))=0:=by
 induction v using atR
 induction w using atR
 exact snd fun n=>by
  simp only[RL.add,RL.mul,RL.neg,RL.const]
  grind
theorem OV(v w:RE)(h1:v*v=w*w)(h2:v≤0)(_h3:w≤0):v≤w:=fun hg=>far (aU (aU (mul_pos (a8 hg) (a8 hg)) (aR (ji h1))) (ls (by decide+kernel:(0:Rat)<2) (cW (aR h2) (le_of_lt (a8 hg))))) (Gp v w)
theorem GW(v w:RE):((w-(v))*(w-(v)))+((w*w-(v*v)))+of 2*((0-(w))*(w-(v)))=0:=by
 induction v using atR
 induction w using atR
 exact snd fun n=>by
  simp only[RL.add,RL.mul,RL.neg,RL.const]
  grind
theorem Pw(v w:RE)(h1:v*v=w*w)(_h2:v≤0)(h3:w≤0):w≤v:=fun hg=>far (aU (aU (mul_pos (a8 hg) (a8 hg)) (aR (jH h1))) (ls (by decide+kernel:(0:Rat)<2) (cW (aR h3) (le_of_lt (a8 hg))))) (GW v w)
theorem QR(v w:RE)(h1:v*v=w*w)(h2:v≤0)(h3:w≤0):v=w:=le_antisymm (OV v w h1 h2 h3) (Pw v w h1 h2 h3)
theorem Yv(u v w Q:RE):((v*v-(w*w)))+((Q-(u*u+v*v)))+((u*u+w*w-(Q)))=0:=by
 induction u using atR
 induction v using atR
 induction w using atR
 induction Q using atR
 exact snd fun n=>by
  simp only[RL.add,RL.mul,RL.neg,RL.const]
  grind
theorem ajV(u v w Q:RE)(h1:u*u+v*v=Q)(h2:u*u+w*w=Q):v*v≤w*w:=fun hg=>far (aU (aU (a8 hg) (aR (jH h1))) (aR (ji h2))) (Yv u v w Q)
theorem V2(u v w Q:RE):((w*w-(v*v)))+((u*u+v*v-(Q)))+((Q-(u*u+w*w)))=0:=by
 induction u using atR
 induction v using atR
 induction w using atR
 induction Q using atR
 exact snd fun n=>by
  simp only[RL.add,RL.mul,RL.neg,RL.const]
  grind
theorem alP(u v w Q:RE)(h1:u*u+v*v=Q)(h2:u*u+w*w=Q):w*w≤v*v:=fun hg=>far (aU (aU (a8 hg) (aR (ji h1))) (aR (jH h2))) (V2 u v w Q)
theorem aq5(u v w Q:RE)(h1:u*u+v*v=Q)(h2:u*u+w*w=Q):v*v=w*w:=le_antisymm (ajV u v w Q h1 h2) (alP u v w Q h1 h2)
theorem I3(a b:RE):((a-(b)))+((-a-(-b)))=0:=by
 induction a using atR
 induction b using atR
 exact snd fun n=>by
  simp only[RL.add,RL.neg,RL.const]
  grind
theorem Zc(a b:RE)(h1: -a= -b):a≤b:=fun hg=>far (aU (a8 hg) (aR (ji h1))) (I3 a b)
theorem Jb(a b:RE):((b-(a)))+((-b-(-a)))=0:=by
 induction a using atR
 induction b using atR
 exact snd fun n=>by
  simp only[RL.add,RL.neg,RL.const]
  grind
theorem WQ(a b:RE)(h1: -a= -b):b≤a:=fun hg=>far (aU (a8 hg) (aR (jH h1))) (Jb a b)
theorem abd(a b:RE)(h1: -a= -b):a=b:=le_antisymm (Zc a b h1) (WQ a b h1)
theorem G4{u v:RE}:(upA (cls u v)=true→0≤v)∧(upA (cls u v)=false→v≤0)∧(ufA (cls u v)=true→0≤v)∧(ufA (cls u v)=false→v≤0):=by
 unfold cls upA ufA
 rcases dB v with⟨h,e⟩|⟨h,e⟩|⟨h,e⟩<;>rw[e]
 ·exact⟨fun _=>le_of_lt h,fun g=>(by cases g),fun _=>le_of_lt h,fun g=>(by cases g)⟩
 ·rw[h];exact⟨fun _=>le_refl _,fun _=>le_refl _,fun _=>le_refl _,fun _=>le_refl _⟩
 ·exact⟨fun g=>(by cases g),fun _=>le_of_lt h,fun g=>(by cases g),fun _=>le_of_lt h⟩
theorem Kh{c:Ln}{p q:Pt}(hp:onCi c p)(hq:onCi c q)(hx:pX p=pX q)(g:(0≤pY p-of c.2.1∧0≤pY q-of c.2.1)∨(pY p-of c.2.1≤0∧pY q-of c.2.1≤0)):pR p=pR q:=by
 unfold onCi at hp hq
 rw[hx]at hp
 have e:=aq5 _ _ _ _ hp hq
 refine aw8 hx ?_
 rcases g with⟨a,b⟩|⟨a,b⟩
 ·exact sI _ _ _ (abH _ _ e a b)
 ·exact sI _ _ _ (QR _ _ e a b)
end RE
open RE in
theorem fD{c:Cv}(ha:c.1=true){p:Pt}(hp:Sp c p):onCi (ciC c) p:=by
 have:=hp.1
 have g:=hp.2
 unfold fE at g
 rw[ha]at g
 exact ins_on (avb.1 g)
open RE in
theorem Ct{c:Cv}(h:Crp c)(ha:c.1=true):∃κ:Pt→Bool×RE,(∀d:Cv,d.1=true→ciC d=ciC c→cwC d=cwC c→Sp c (frC d)→∀p q,Sp c p→Sp c q→cd d p q=jy (fun x y:RE=>sg (x-y)) (κ (frC d)) (κ p) (κ q))∧∀p q,Sp c p→Sp c q→(κ p=κ q↔aW p q=0):=by
 cases hw:cwC c
 ·refine⟨fun p=>(upR (ciC c) p,pX p),fun d d1 d2 d3 hd p q hp hq=>?_,fun p q hp hq=>?_⟩
  ·have i1:=hd.1
   have:=hp.1
   have:=hq.1
   have e:∀{x y:Pt},Rpd x→Rpd y→bR (xP x) (xP y)=sg (pX x-pX y):=fun{x y} _ _=>by rw[cmpT_re nX nX,wm,wm]
   unfold cd
   rw[d1,d3,cond_true,cond_false,d2]
   exact fI (e hp.1 i1) (e hq.1 i1) (e hp.1 hq.1)
  ·have r1:=hp.1
   have r2:=hq.1
   rw[cmpP_0]
   constructor
   ·intro e
    injection e with e1 e2
    rw[jd,jd]at e1
    refine Kh (fD ha hp) (fD ha hq) e2 ?_
    cases g:upA (cls (pX p-of (ciC c).1) (pY p-of (ciC c).2.1))
    ·exact .inr ⟨G4.2.1 g,G4.2.1 (e1.symm.trans g)⟩
    ·exact .inl ⟨G4.1 g,G4.1 (e1.symm.trans g)⟩
   ·intro e
    have e1:pX p=pX q:=congrArg Prod.fst e
    have e2:pY p=pY q:=congrArg Prod.snd e
    show(upR (ciC c) p,pX p)=(upR (ciC c) q,pX q)
    rw[jd,jd,e1,e2]
 ·refine⟨fun p=>(upR (flC (ciC c)) (flP p),-pX p),fun d d1 d2 d3 hd p q hp hq=>?_,fun p q hp hq=>?_⟩
  ·have i1:=hd.1
   have:=hp.1
   have:=hq.1
   have e:∀{x y:Pt},Rpd x→Rpd y→bR (xP (flP x)) (xP (flP y))=sg (-pX x- -pX y):=fun{x y} _ _=>by rw[cmpT_re nX nX,wm,wm,He,He]
   unfold cd
   rw[d1,d3,cond_true,cond_true,d2]
   exact fI (e hp.1 i1) (e hq.1 i1) (e hp.1 hq.1)
  ·have r1:=hp.1
   have r2:=hq.1
   rw[cmpP_0]
   have u1:=wg (h.q ha) (fD ha hp)
   have u2:=wg (h.q ha) (fD ha hq)
   constructor
   ·intro e
    injection e with e1 e2
    rw[u1,u2]at e1
    refine Kh (fD ha hp) (fD ha hq) (abd _ _ e2) ?_
    cases g:ufA (cls (pX p-of (ciC c).1) (pY p-of (ciC c).2.1))
    ·exact .inr ⟨G4.2.2.2 g,G4.2.2.2 (e1.symm.trans g)⟩
    ·exact .inl ⟨G4.2.2.1 g,G4.2.2.1 (e1.symm.trans g)⟩
   ·intro e
    have e1:pX p=pX q:=congrArg Prod.fst e
    have e2:pY p=pY q:=congrArg Prod.snd e
    show(upR (flC (ciC c)) (flP p),-pX p)=(upR (flC (ciC c)) (flP q),-pX q)
    rw[u1,u2,e1,e2]
open RE in
theorem ud{c:Cv}(h:Crp c):∃(K:Type) (lt:K→K→Prop) (κ:Pt→K) (f:K→K→Int),lV lt∧uv lt f∧(∀p q,Sp c p→Sp c q→cd c p q=f (κ p) (κ q))∧∀p q,Sp c p→Sp c q→(κ p=κ q↔aW p q=0):=by
 have hF:=h.f
 cases ha:c.1
 ·cases hd:decide (aW (frC c) (toC c)>0)
  ·refine⟨PE,ajY,pR,lxc,jD,hZ,fun p q hp hq=>?_,fun p q hp hq=>?_⟩
   ·have:=hp.1
    have:=hq.1
    unfold cd
    rw[ha,hd,cond_false,cond_false,lC]
   ·have:=hp.1
    have:=hq.1
    exact cmpP_0.symm
  ·refine⟨PE,_,pR,_,VL jD,Nq hZ,fun p q hp hq=>?_,fun p q hp hq=>?_⟩
   ·have:=hp.1
    have:=hq.1
    unfold cd
    rw[ha,hd,cond_false,cond_true,lC]
   ·have:=hp.1
    have:=hq.1
    exact cmpP_0.symm
 ·obtain⟨κ,h1,h2⟩:=Ct h ha
  exact⟨Bool×RE,_,κ,_,A6 (Ke lt_lin) (κ (frC c)),xO lt_lin sg_cmpO _,h1 c ha rfl rfl hF,h2⟩
structure Ord (c:Cv):Prop where
 tr:∀{p q r},Sp c p→Sp c q→Sp c r→cd c p q<0→cd c q r<0→cd c p r<0
 tri:∀{p q},Sp c p→Sp c q→cd c p q<0∨aW p q=0∨cd c q p<0
 irr:∀{p q},Sp c p→Sp c q→aW p q=0→cd c p q=0
 asy:∀{p q},Sp c p→Sp c q→cd c p q<0→0<cd c q p
theorem oR{c:Cv}(h:Crp c):Ord c:=by
 obtain⟨K,lt,κ,f,hl,hc,ho,hk⟩:=ud h
 have n:∀{p q},Sp c p→Sp c q→(cd c p q<0↔lt (κ p) (κ q)):=fun{p q} hp hq=>by
  rw[ho p q hp hq,←avE (p:=f (κ p) (κ q)<0)]
  exact yF hl hc _ _
 refine⟨fun{p q r} hp hq hr g g'=>?_,fun{p q} hp hq=>?_,fun{p q} hp hq g=>?_,fun{p q} hp hq g=>?_⟩
 ·rw[n hp hr]
  exact hl.tr _ _ _ ((n hp hq).1 g) ((n hq hr).1 g')
 ·rw[n hp hq,n hq hp,←hk p q hp hq]
  exact hl.tri _ _
 ·rw[ho p q hp hq,(hc _ _).2.1 ((hk p q hp hq).2 g)]
 ·rw[ho q p hq hp,(hc _ _).2.2 ((n hp hq).1 g)]
  decide
def Spb(c:Cv)(x:BP):Prop:=Sp c (dec x)
theorem T9{c:Cv}(o:Ord c){x:BP}(hx:Spb c x):∀{l:List BP},(∀y∈l,Spb c y)→l.Pairwise (fun a b=>cd c (dec a) (dec b)<0)→(fK c l x).Pairwise (fun a b=>cd c (dec a) (dec b)<0)
 |[],_,_=>by simp[fK]
 |y::r,hl,hp=>by
  have hy:=hl y (by simp)
  have hr:∀z∈r,Spb c z:=fun z hz=>hl z (aub _ hz)
  obtain⟨p1,p2⟩:=aup.1 hp
  simp only[fK]
  by_cases h1:cd c (dec y) (dec x)<0
  ·rw[atT h1,cond_true]
   refine aup.2 ⟨fun z hz=>?_,T9 o hx hr p2⟩
   rcases oB hz with g|g
   ·exact p1 z g
   ·rw[g];exact h1
  ·rw[atV h1,cond_false]
   by_cases h2:aW (dec y) (dec x)=0
   ·rw[avb.2 h2,cond_true];exact hp
   ·rw[av0.2 h2,cond_false]
    have h3:cd c (dec x) (dec y)<0:=by
     rcases o.tri hy hx with g|g|g
     ·exact absurd g h1
     ·exact absurd g h2
     ·exact g
    refine aup.2 ⟨fun z hz=>?_,hp⟩
    rcases aud.1 hz with g|g
    ·rw[g];exact h3
    ·exact o.tr hx hy (hr z g) h3 (p1 z g)
theorem K8{c:Cv}(o:Ord c):∀{l out:List BP},(∀y∈l,Spb c y)→(∀y∈out,Spb c y)→out.Pairwise (fun a b=>cd c (dec a) (dec b)<0)→(l.foldl (fK c) out).Pairwise (fun a b=>cd c (dec a) (dec b)<0)
 |[],_,_,_,h=>h
 |x::l,out,hl,ho,h=>K8 o (l:=l) (fun y hy=>hl y (aub _ hy)) (fun y hy=>by
   rcases oB hy with g|g
   ·exact ho y g
   ·rw[g];exact hl x (by simp)) (T9 o (hl x (by simp)) ho h)
theorem SO{c:Cv}(o:Ord c){l:List BP}(hl:∀y∈l,Spb c y):(gf c l).Pairwise (fun a b=>cd c (dec a) (dec b)<0):=K8 o hl (fun y hy=>by cases hy) List.Pairwise.nil
theorem JD{c:BCU}{R:BP→BP→Prop}{p:BCU}:∀{s:List BP},s.Pairwise R→p∈jP c s→∃x y,x∈s∧y∈s∧R x y∧p=pS c x y
 |[],_,h=>by cases h
 |[_],_,h=>by cases h
 |x::y::r,hp,h=>by
  obtain⟨p1,p2⟩:=aup.1 hp
  simp only[jP]at h
  rcases aud.1 h with h|h
  ·exact⟨x,y,by simp,by simp,p1 y (by simp),h⟩
  ·obtain⟨a,b,h1,h2,h3,h4⟩:=JD p2 h
   exact⟨a,b,aub _ h1,aub _ h2,h3,h4⟩
theorem Vk{c:BCU}(h:gdN c){l:List BP}(ho:∀p∈l,okP 500 p∧onR (dC c) (dec p)=true):∀x∈wq c l,okP 500 x∧Spb (dC c) x:=by
 intro z hz
 rcases MS hz with e|e|e
 ·rw[e];exact⟨h.1.1.2.2.1,gc h.1.1.2.2.1,h.2.1⟩
 ·rw[e];exact⟨h.1.1.2.2.2,gc h.1.1.2.2.2,h.2.2.1⟩
 ·exact⟨(ho z e).1,gc (ho z e).1,(auc.1 (ho z e).2).1⟩
theorem akP{c:BCU}(h:gdN c){l:List BP}(ho:∀p∈l,okP 500 p∧onR (dC c) (dec p)=true):(wq c l).Pairwise (fun a b=>cd (dC c) (dec a) (dec b)<0):=by
 refine SO (oR (uA h.gd)) fun y hy=>?_
 rcases auo.1 hy with hy|hy
 ·simp only[aud,avH,awM]at hy
  rcases hy with e|e
  ·rw[e];exact⟨gc h.1.1.2.2.1,h.2.1⟩
  ·rw[e];exact⟨gc h.1.1.2.2.2,h.2.2.1⟩
 ·exact⟨gc (ho y hy).1,(auc.1 (ho y hy).2).1⟩
theorem aaO{c:BCU}(h:gdN c){l:List BP}(ho:∀p∈l,okP 500 p∧onR (dC c) (dec p)=true):∀p∈kp c l,gdN p:=by
 intro p hp
 have hm:=alB h ho p hp
 obtain⟨x,y,hx,hy,hr,e⟩:=JD (akP h ho) hp
 have o:=oR (uA h.gd)
 refine⟨hm.1,hm.2.1,hm.2.2,fun g=>?_⟩
 rw[e]at g
 have:=o.irr (Vk h ho x hx).2 (Vk h ho y hy).2 g
 omega
theorem abo{x:Pce}(h:qU x):∀p∈JQ x,gdN p:=by
 intro p hp
 have hA:=HD h.1
 unfold JQ at hp
 cases hl:ofL x.1 with
 |nil=>rw[hl]at hp;cases hp
 |cons c r=>
  rw[hl]at hp hA
  exact aaO (hA c (by simp)) (Ww (hA c (by simp)) (HD h.2.1)).2 p hp
theorem nf{x:Pce}(h:qU x)(ho:lQ x=true):gdN (aG x):=abo h _ (abB h ho)
theorem gdN.e{c:BCU}(h:gdN c):RE.GdE (dC c):=(uA h.gd).e h.2.2.2
end
def rh(c:Cv)(p q:Pt):Int:=bif c.1 then(bif cwC c then-(eU bR (ptd (ciC c) (toC c)) (ptd (ciC c) p) (ptd (ciC c) q))else eU bR (ptd (ciC c) (frC c)) (ptd (ciC c) p) (ptd (ciC c) q))else aW p q*aW (toC c) (frC c)
namespace RE
theorem acg:∀kF kP kQ:Fin 4,∀iF iP iQ:Fin 3,Ip kF.1 iF.1 kP.1 iP.1 kQ.1 iQ.1=true→
  eU cI (upA kF.1,iF.1) (upA kP.1,iP.1) (upA kQ.1,iQ.1)=jy cI (upA kF.1,iF.1) (upA kP.1,iP.1) (upA kQ.1,iQ.1):=by decide+kernel
theorem aj3:∀kF kT:Fin 4,∀iF iT:Fin 4,(mj kF.1 iF.1 kT.1 iT.1&&mj kT.1 iT.1 kF.1 iF.1)=true→∀kP iP:Fin 4,(mj kF.1 iF.1 kP.1 iP.1&&mj kP.1 iP.1 kF.1 iF.1&&mj kT.1 iT.1 kP.1 iP.1&&mj kP.1 iP.1 kT.1 iT.1&&decide (eU cI (upA kT.1,iT.1) (upA kP.1,iP.1) (upA kF.1,iF.1)≤0))=true→
  ∀kQ iQ:Fin 4,(mj kF.1 iF.1 kQ.1 iQ.1&&mj kQ.1 iQ.1 kF.1 iF.1&&mj kT.1 iT.1 kQ.1 iQ.1&&mj kQ.1 iQ.1 kT.1 iT.1&&mj kP.1 iP.1 kQ.1 iQ.1&&mj kQ.1 iQ.1 kP.1 iP.1&&decide (eU cI (upA kT.1,iT.1) (upA kQ.1,iQ.1) (upA kF.1,iF.1)≤0))=true→
  -(eU cI (upA kT.1,iT.1) (upA kP.1,iP.1) (upA kQ.1,iQ.1))=jy dI (ufA kF.1,iF.1) (ufA kP.1,iP.1) (ufA kQ.1,iQ.1):=by decide+kernel
theorem Jz{ci:Ln}{F P Q:Pt}[Rpd F][Rpd P][Rpd Q](hQ:0<ci.2.2)(hF:onCi ci F)(hP:onCi ci P)(hq:onCi ci Q):
  eU bR (ptd ci F) (ptd ci P) (ptd ci Q)=jy bR (ptd ci F) (ptd ci P) (ptd ci Q):=by
 have mF:pX F∈[pX F,pX P,pX Q]:=by simp
 have mP:pX P∈[pX F,pX P,pX Q]:=by simp
 have mQ:pX Q∈[pX F,pX P,pX Q]:=by simp
 have h0:0<of ci.2.2:=jG hQ
 have hcon:Ip (cls (pX F-of ci.1) (pY F-of ci.2.1)) (rk (fun a b:RE=>a<b) [pX F,pX P,pX Q] (pX F)) (cls (pX P-of ci.1) (pY P-of ci.2.1)) (rk (fun a b:RE=>a<b) [pX F,pX P,pX Q] (pX P)) (cls (pX Q-of ci.1) (pY Q-of ci.2.1)) (rk (fun a b:RE=>a<b) [pX F,pX P,pX Q] (pX Q))=true:=by
  unfold Ip
  rw[dq h0 hF hP mF mP,dq h0 hP hF mP mF,dq h0 hF hq mF mQ,dq h0 hq hF mQ mF,dq h0 hP hq mP mQ,dq h0 hq hP mQ mP]
  rfl
 have a:=acg ⟨_,lO (pX F-of ci.1) (pY F-of ci.2.1)⟩ ⟨_,lO (pX P-of ci.1) (pY P-of ci.2.1)⟩ ⟨_,lO (pX Q-of ci.1) (pY Q-of ci.2.1)⟩ ⟨_,k9 lt_lin mF⟩ ⟨_,k9 lt_lin mP⟩ ⟨_,k9 lt_lin mQ⟩ hcon
 simp only at a
 unfold ptd
 rw[jd,jd,jd,iy (fd mP mF) (fd mQ mF) (fd mP mQ),fI (fd mP mF) (fd mQ mF) (fd mP mQ)]
 exact a
theorem anH{ci:Ln}{F T P Q:Pt}[Rpd F][Rpd T][Rpd P][Rpd Q](hQ:0<ci.2.2)(hF:onCi ci F)(hT:onCi ci T)(hP:onCi ci P)(hq:onCi ci Q)
  (oP:decide (eU bR (ptd ci T) (ptd ci P) (ptd ci F)≤0)=true) (oQ:decide (eU bR (ptd ci T) (ptd ci Q) (ptd ci F)≤0)=true):
  -(eU bR (ptd ci T) (ptd ci P) (ptd ci Q))=jy bR (ptd (flC ci) (flP F)) (ptd (flC ci) (flP P)) (ptd (flC ci) (flP Q)):=by
 have mF:pX F∈[pX F,pX T,pX P,pX Q]:=by simp
 have mT:pX T∈[pX F,pX T,pX P,pX Q]:=by simp
 have mP:pX P∈[pX F,pX T,pX P,pX Q]:=by simp
 have mQ:pX Q∈[pX F,pX T,pX P,pX Q]:=by simp
 have h0:0<of ci.2.2:=jG hQ
 revert oP oQ
 unfold ptd
 rw[jd,jd,jd,jd,wg hQ hF,wg hQ hP,wg hQ hq,iy (fd mP mT) (fd mF mT) (fd mP mF),iy (fd mQ mT) (fd mF mT) (fd mQ mF),iy (fd mP mT) (fd mQ mT) (fd mP mQ),fI (m5 mP mF) (m5 mQ mF) (m5 mP mQ)]
 intro oP oQ
 refine aj3 ⟨_,lO (pX F-of ci.1) (pY F-of ci.2.1)⟩ ⟨_,lO (pX T-of ci.1) (pY T-of ci.2.1)⟩ ⟨_,k9 lt_lin mF⟩ ⟨_,k9 lt_lin mT⟩ ?_ ⟨_,lO (pX P-of ci.1) (pY P-of ci.2.1)⟩ ⟨_,k9 lt_lin mP⟩ ?_ ⟨_,lO (pX Q-of ci.1) (pY Q-of ci.2.1)⟩ ⟨_,k9 lt_lin mQ⟩ ?_
 ·simp only
  rw[dq h0 hF hT mF mT,dq h0 hT hF mT mF]
  rfl
 ·simp only
  rw[dq h0 hF hP mF mP,dq h0 hP hF mP mF,dq h0 hT hP mT mP,dq h0 hP hT mP mT,oP]
  rfl
 ·simp only
  rw[dq h0 hF hq mF mQ,dq h0 hq hF mQ mF,dq h0 hT hq mT mQ,dq h0 hq hT mQ mT,dq h0 hP hq mP mQ,dq h0 hq hP mQ mP,oQ]
  rfl
theorem jX{p q:Pt}[Rpd p][Rpd q]:aW p q= -aW q p:=by
 rw[lC,lC]
 rcases jD.tri (pR p) (pR q)with h|h|h
 ·rw[(hZ _ _).1 h,(hZ _ _).2.2 h]
 ·rw[h,(hZ (pR q) (pR q)).2.1 rfl];rfl
 ·rw[(hZ _ _).2.2 h,(hZ _ _).1 h];rfl
theorem ord_eq{c:Cv}(h:Crp c)(hne:aW (frC c) (toC c)≠0){p q:Pt}(hp:Rpd p)(hq:Rpd q)(op:onP c p=true)(oq:onP c q=true):rh c p q=cd c p q:=by
 have hf:=h.f.1
 have ht:=h.t.1
 unfold onP at op oq
 obtain⟨sp,rp⟩:=auc.1 op
 obtain⟨sq,rq⟩:=auc.1 oq
 unfold rh cd
 unfold gI at rp rq
 cases ha:c.1
 ·rw[cond_false,cond_false,jX (p:=toC c)]
  have hb:=lj (frC c) (toC c)
  by_cases hd:aW (frC c) (toC c)>0
  ·rw[atT hd,cond_true,show aW (frC c) (toC c)=1 by omega]
   omega
  ·rw[atV hd,cond_false,show aW (frC c) (toC c)= -1 by omega]
   omega
 ·rw[ha,cond_true]at rp rq
  rw[cond_true,cond_true]
  have q0:=h.q ha
  have oF:=fD ha h.f
  have oT:=fD ha h.t
  have oP:=fD ha ⟨hp,sp⟩
  have oQ:=fD ha ⟨hq,sq⟩
  unfold ccF ccT at rp rq
  cases hw:cwC c
  ·rw[cond_false,cond_false]
   exact Jz q0 oF oP oQ
  ·rw[hw,cond_true,cond_true]at rp rq
   rw[cond_true,cond_true]
   exact anH q0 oF oT oP oQ rp rq
end RE
def odV(a b:Bool)(n:Int):Int:=bif a&&b then n else 0
def odE(a b:Bool):Int:=bif a&&b then 0 else 1
theorem abj(f p q:Bool×Rt): -1≤eU bR f p q∧eU bR f p q≤1:=by
 have h:∀n,-1≤zJ n∧zJ n≤1:=fun n=>by
  unfold zJ
  split<;>(try split)<;>omega
 unfold eU
 cases nE bR f p==nE bR f q
 ·exact h _
 ·exact h _
def TH:Env:=[(108,Cw),(110,C3)]
theorem Ff:EnvAll Tryz.prog TH:=⟨zw,z8,trivial⟩
def aoN:Ctx:=CX TH []
def agt(c:BCU)(p q:BP)(_k:KT):Option (List RV):=match !c.1 with|true=>(match decide (okP 4000 p∧okP 4000 q)with|true=>(match decide (okP 4000 c.2.2.2.2.2∧okP 4000 c.2.2.2.2.1)with|true=>some [RV.d axf (i64.wrap ((aW (dec p) (dec q))*(aW (dec c.2.2.2.2.2) (dec c.2.2.2.2.1))))]|false=>none)|false=>none)|false=>(match c.2.2.2.1 with|true=>(match decide (ok Ln 300 c.2.2.1∧okP 4000 c.2.2.2.2.2∧okP 4000 p∧okP 4000 q)with|true=>some [RV.d axf (i64.wrap (0-(eU bR (ptd (dec c.2.2.1) (dec c.2.2.2.2.2)) (ptd (dec c.2.2.1) (dec p)) (ptd (dec c.2.2.1) (dec q)))))]|false=>none)|false=>(match decide (ok Ln 300 c.2.2.1∧okP 4000 c.2.2.2.2.1∧okP 4000 p∧okP 4000 q)with|true=>some [RV.d axf (eU bR (ptd (dec c.2.2.1) (dec c.2.2.2.2.1)) (ptd (dec c.2.2.1) (dec p)) (ptd (dec c.2.2.1) (dec q)))]|false=>none))
theorem anV(c:BCU)(p q:BP):RS aoN 67 [.d tCU c,.d tP p,.d tP q] (agt c p q):=rsX
theorem aep(c:BCU)(p q:BP)(h:okC 4000 c∧okP 4000 p∧okP 4000 q):Con Tryz.prog 67 [.d tCU c,.d tP p,.d tP q] [.d axf (rh (dC c) (dec p) (dec q))]:=by
 refine aP Ff (anV _ _ _ ⟨0,?_⟩)
 obtain⟨hc,hp,hq⟩:=h
 obtain⟨ar,li,ci,cw,fr,to⟩:=c
 have h3:=hc.2.2.1
 have h4:=hc.2.2.2
 simp only at h3 h4
 unfold agt rh
 cases ar
 ·have b1:=lj (dec p) (dec q)
  have b2:=lj (dec to) (dec fr)
  simp only[dT (show okP 4000 p∧okP 4000 q from⟨hp,hq⟩),dT (show okP 4000 to∧okP 4000 fr from⟨h4,h3⟩),I9 b1 b2]
  rfl
 ·have e:=(hc.1 rfl).1
  simp only at e
  cases cw
  ·simp only[dT (show ok Ln 300 ci∧okP 4000 fr∧okP 4000 p∧okP 4000 q from⟨e,h3,hp,hq⟩)]
   rfl
  ·have b:=abj (ptd (dec ci) (dec to)) (ptd (dec ci) (dec p)) (ptd (dec ci) (dec q))
   simp only[dT (show ok Ln 300 ci∧okP 4000 to∧okP 4000 p∧okP 4000 q from⟨e,h4,hp,hq⟩)]
   try dsimp only[Bool.not_true]
   rw[bz (x:=0-eU bR (ptd (dec ci) (dec to)) (ptd (dec ci) (dec p)) (ptd (dec ci) (dec q))) (by omega) (by omega),avY]
   rfl
def IO:aN:=spN true true [tCU,tP,tP] (fun x=>decide (okC 4000 x.1∧okP 4000 x.2.1∧okP 4000 x.2.2.1)) (fun x=>[RV.d axf (rh (dC x.1) (dec x.2.1) (dec x.2.2.1))])
theorem Ga:SpK 67 IO:=spX fun x h=>aep x.1 x.2.1 x.2.2.1 (atS h)
def Ue:Env:=(67,IO)::(14,vX)::TH
theorem FG:EnvAll Tryz.prog Ue:=⟨Ga,oV,Ff⟩
def apO:Ctx:=CX Ue []
def ae1(c:BCU)(p q:BP)(_k:KT):Option (List RV):=match decide (okC 4000 c∧okP 4000 p)with|true=>(match !(onP (dC c) (dec p))with|true=>some [RV.d axf 0,RV.d axf 1]|false=>(match decide (okC 4000 c∧okP 4000 q)with|true=>(match !(onP (dC c) (dec q))with|true=>some [RV.d axf 0,RV.d axf 1]|false=>(match decide (okC 4000 c∧okP 4000 p∧okP 4000 q)with|true=>some [RV.d axf (rh (dC c) (dec p) (dec q)),RV.d axf 0]|false=>none))|false=>none))|false=>none
theorem amX(c:BCU)(p q:BP):RS apO 28 [.d tCU c,.d tP p,.d tP q] (ae1 c p q):=rsX
theorem aa7(c:BCU)(p q:BP)(h:okC 4000 c∧okP 4000 p∧okP 4000 q):Con Tryz.prog 28 [.d tCU c,.d tP p,.d tP q] [.d axf (odV (onP (dC c) (dec p)) (onP (dC c) (dec q)) (rh (dC c) (dec p) (dec q))),.d axf (odE (onP (dC c) (dec p)) (onP (dC c) (dec q)))]:=by
 refine aP FG (amX _ _ _ ⟨0,?_⟩)
 obtain⟨hc,hp,hq⟩:=h
 unfold ae1 odV odE
 rw[dT (show okC 4000 c∧okP 4000 p from⟨hc,hp⟩),dT (show okC 4000 c∧okP 4000 q from⟨hc,hq⟩),dT (show okC 4000 c∧okP 4000 p∧okP 4000 q from⟨hc,hp,hq⟩)]
 cases onP (dC c) (dec p)<;>cases onP (dC c) (dec q)<;>rfl
def agT:Env:=(50,vV)::(15,uC)::Ue
theorem Q0:EnvAll Tryz.prog agT:=⟨pE,pK,FG⟩
def arc:Ctx:=CX agT []
def aeP(c:BCU)(p q:BP)(_k:KT):Option (List RV):=match decide (okC 3500 c∧okP 3500 p)with|true=>(match !(onR (dC c) (dec p))with|true=>some [RV.d axf 0,RV.d axf 1]|false=>(match decide (okC 3500 c∧okP 3500 q)with|true=>(match !(onR (dC c) (dec q))with|true=>some [RV.d axf 0,RV.d axf 1]|false=>(match decide (okC 4000 c∧okP 4000 p∧okP 4000 q)with|true=>some [RV.d axf (cd (dC c) (dec p) (dec q)),RV.d axf 0]|false=>none))|false=>none))|false=>none
theorem arW(c:BCU)(p q:BP):RS arc 29 [.d tCU c,.d tP p,.d tP q] (aeP c p q):=rsX
theorem adX(c:BCU)(p q:BP)(h:okC 3500 c∧okP 3500 p∧okP 3500 q):Con Tryz.prog 29 [.d tCU c,.d tP p,.d tP q] [.d axf (odV (onR (dC c) (dec p)) (onR (dC c) (dec q)) (cd (dC c) (dec p) (dec q))),.d axf (odE (onR (dC c) (dec p)) (onR (dC c) (dec q)))]:=by
 refine aP Q0 (arW _ _ _ ⟨0,?_⟩)
 obtain⟨hc,hp,hq⟩:=h
 have hc4:=cq (k:=4000) hc (by decide) (by decide)
 have hp4:=cE (k:=4000) hp (by decide) (by decide)
 have hq4:=cE (k:=4000) hq (by decide) (by decide)
 unfold aeP odV odE
 rw[dT (show okC 3500 c∧okP 3500 p from⟨hc,hp⟩),dT (show okC 3500 c∧okP 3500 q from⟨hc,hq⟩),dT (show okC 4000 c∧okP 4000 p∧okP 4000 q from⟨hc4,hp4,hq4⟩)]
 cases onR (dC c) (dec p)<;>cases onR (dC c) (dec q)<;>rfl
def T4:aN:=spN true true [tCU,tP,tP] (fun x=>decide (okC 4000 x.1∧okP 4000 x.2.1∧okP 4000 x.2.2.1)) (fun x=>[RV.d axf (odV (onP (dC x.1) (dec x.2.1)) (onP (dC x.1) (dec x.2.2.1)) (rh (dC x.1) (dec x.2.1) (dec x.2.2.1))),RV.d axf (odE (onP (dC x.1) (dec x.2.1)) (onP (dC x.1) (dec x.2.2.1)))])
theorem Zd:SpK 28 T4:=spX fun x h=>aa7 x.1 x.2.1 x.2.2.1 (atS h)
def Sx:aN:=spN true true [tCU,tP,tP] (fun x=>decide (okC 3500 x.1∧okP 3500 x.2.1∧okP 3500 x.2.2.1)) (fun x=>[RV.d axf (odV (onR (dC x.1) (dec x.2.1)) (onR (dC x.1) (dec x.2.2.1)) (cd (dC x.1) (dec x.2.1) (dec x.2.2.1))),RV.d axf (odE (onR (dC x.1) (dec x.2.1)) (onR (dC x.1) (dec x.2.2.1)))])
theorem RI:SpK 29 Sx:=spX fun x h=>adX x.1 x.2.1 x.2.2.1 (atS h)
theorem nV{α:Type}{lt:α→α→Prop}(h:lV lt){L:List α}{a b:α}(ha:a∈L)(hb:b∈L):lt a b↔rk lt L a<rk lt L b:=by
 refine⟨fun g=>tF h g ha,fun g=>?_⟩
 rcases h.tri a b with e|e|e
 ·exact e
 ·rw[e]at g;omega
 ·have:=tF h e hb;omega
theorem KZ{α:Type}{lt:α→α→Prop}{f:α→α→Int}(hl:lV lt)(h:uv lt f)(x y:α):f x y≤0↔¬lt y x:=by
 rcases hl.tri x y with g|g|g
 ·rw[(h x y).1 g];exact⟨fun _ e=>hl.irr _ (hl.tr _ _ _ e g),fun _=>by decide⟩
 ·rw[(h x y).2.1 g];exact⟨fun _ e=>by rw[g]at e;exact hl.irr _ e,fun _=>by decide⟩
 ·rw[(h x y).2.2 g];exact⟨fun e=>absurd e (by decide),fun e=>absurd g e⟩
theorem hU{α:Type}{lt:α→α→Prop}{f:α→α→Int}(hl:lV lt)(h:uv lt f)(x y:α):f x y<0↔lt x y:=by
 rw[←avE (p:=f x y<0)]
 exact yF hl h x y
def pcC(c:Cv)(x y:Pt):Cv:=(c.1,c.2.1,c.2.2.1,c.2.2.2.1,x,y)
structure aaS (c:Cv):Prop extends Ord c where
 le:∀{p q},Sp c p→Sp c q→(cd c p q≤0↔¬cd c q p<0)
 lt:∀{p q r},Sp c p→Sp c q→Sp c r→¬cd c q p<0→¬cd c r q<0→¬cd c r p<0
theorem lA{c:Cv}(h:Crp c):aaS c:=by
 obtain⟨K,lt,κ,f,hl,hc,ho,hk⟩:=ud h
 refine⟨oR h,fun{p q} hp hq=>?_,fun{p q r} hp hq hr=>?_⟩
 ·rw[ho p q hp hq,ho q p hq hp,KZ hl hc,hU hl hc]
 ·rw[ho q p hq hp,ho r q hr hq,ho r p hr hp,hU hl hc,hU hl hc,hU hl hc]
  intro g g' e
  rcases hl.tri (κ q) (κ p)with a|a|a
  ·exact g a
  ·exact g' (by rw[a];exact e)
  ·exact g' (hl.tr _ _ _ e a)
theorem il{c:Cv}(h:Crp c){p:Pt}(hp:Rpd p):onR c p=true↔fE c p=true∧¬cd c p (frC c)<0∧¬cd c (toC c) p<0:=by
 have o:=lA h
 unfold onR
 rw[auc,auc,avE,avE]
 refine and_congr_right fun hs=>?_
 rw[o.le h.f ⟨hp,hs⟩,o.le ⟨hp,hs⟩ h.t]
theorem AV{c:Cv}{x y:BP}:∀{r:List BP},y∈r→y∈fK c r x
 |[],h=>by cases h
 |z::r,h=>by
  simp only[fK]
  cases decide (cd c (dec z) (dec x)<0)
  ·cases aW (dec z) (dec x)==0
   ·exact aub _ h
   ·exact h
  ·rcases aud.1 h with e|e
   ·rw[e];exact .head _
   ·exact aub _ (AV e)
theorem F1{c:Cv}{y:BP}:∀{l r:List BP},y∈r→y∈l.foldl (fK c) r
 |[],_,h=>h
 |_::l,_,h=>F1 (l:=l) (AV h)
theorem ahx{c:BCU}(h:gdN c):cd (dC c) (frC (dC c)) (toC (dC c))<0:=by
 have k:=uA h.gd
 have hne:aW (frC (dC c)) (toC (dC c))≠0:=h.2.2.2
 cases ha:(dC c).1
 ·unfold cd
  rw[ha,cond_false]
  cases hd:decide (aW (frC (dC c)) (toC (dC c))>0)
  ·have:=au4 hd
   rw[cond_false];omega
  ·have:=atS hd
   rw[cond_true];omega
 ·rcases(oR k).tri k.f k.t with g|g|g
  ·exact g
  ·exact absurd g hne
  ·obtain⟨κ,h1,h2⟩:=Ct k ha
   have hl:=Ke RE.lt_lin
   rw[h1 (dC c) ha rfl rfl k.f _ _ k.t k.f,hU (A6 hl _) (xO RE.lt_lin RE.sg_cmpO _)]at g
   rcases g with⟨_,g⟩|⟨g1,g2⟩
   ·exact absurd g (hl.irr _)
   ·exact absurd (g1.1 g2) (hl.irr _)
theorem Cq{c:BCU}(h:gdN c):onR (dC c) (frC (dC c))=true∧onR (dC c) (toC (dC c))=true:=by
 have k:=uA h.gd
 have o:=oR k
 have irr:∀{q},Sp (dC c) q→cd (dC c) q q=0:=fun{q} hq=>by
  have:=hq.1
  exact o.irr hq hq (RE.cmpP_0.2 rfl)
 have tf:=o.asy k.f k.t (ahx h)
 rw[il k k.f.1,il k k.t.1,irr k.f,irr k.t]
 exact⟨⟨k.f.2,by omega,by omega⟩,k.t.2,by omega,by omega⟩
theorem BG{K:Type}{lt:K→K→Prop}(h:lV lt):∀{A B:List K},A.Pairwise lt→B.Pairwise lt→(∀x,x∈A↔x∈B)→A=B
 |[],[],_,_,_=>rfl
 |[],b::B,_,_,e=>absurd ((e b).2 (by simp)) (by simp)
 |a::A,[],_,_,e=>absurd ((e a).1 (by simp)) (by simp)
 |a::A,b::B,pa,pb,e=>by
  obtain⟨a1,a2⟩:=aup.1 pa
  obtain⟨b1,b2⟩:=aup.1 pb
  have ab:a=b:=by
   rcases aud.1 ((e a).1 (by simp))with g|g
   ·exact g
   ·rcases aud.1 ((e b).2 (by simp))with k|k
    ·exact k.symm
    ·exact absurd (h.tr _ _ _ (a1 b k) (b1 a g)) (h.irr a)
  subst ab
  rw[BG h a2 b2 fun x=>⟨fun hx=>?_,fun hx=>?_⟩]
  ·rcases aud.1 ((e x).1 (aub _ hx))with g|g
   ·rw[g]at hx;exact absurd (a1 a hx) (h.irr a)
   ·exact g
  ·rcases aud.1 ((e x).2 (aub _ hx))with g|g
   ·rw[g]at hx;exact absurd (b1 a hx) (h.irr a)
   ·exact g
def eqL(A B:List BP):Prop:=A.length=B.length∧∀(i:Nat) (a b:BP),A[i]?=some a→B[i]?=some b→aW (dec a) (dec b)=0
theorem abR{K:Type}{f:BP→K}{A B:List BP}(e:A.map f=B.map f)(g:∀a∈A,∀b∈B,f a=f b→aW (dec a) (dec b)=0):eqL A B:=by
 refine⟨by simpa using congrArg List.length e,fun i a b ha hb=>?_⟩
 have h1:(A.map f)[i]?=some (f a):=by rw[auS,ha];rfl
 have h2:(B.map f)[i]?=some (f b):=by rw[auS,hb];rfl
 rw[e,h2]at h1
 injection h1 with h1
 exact g a (auE ha) b (auE hb) h1.symm
abbrev oL(c:Cv)(A:List BP):Prop:=A.Pairwise (fun a b=>cd c (dec a) (dec b)<0)
theorem W2{c:Cv}(h:Crp c){A B:List BP}(hA:∀x∈A,Spb c x)(hB:∀x∈B,Spb c x)(pA:oL c A)(pB:oL c B)(e1:∀a∈A,∃b∈B,aW (dec a) (dec b)=0)(e2:∀b∈B,∃a∈A,aW (dec a) (dec b)=0):eqL A B:=by
 obtain⟨K,lt,κ,f,hl,hc,ho,hk⟩:=ud h
 have pw:∀{L:List BP},(∀x∈L,Spb c x)→oL c L→(L.map fun x=>κ (dec x)).Pairwise lt:=fun{L} hL pL=>by
  refine List.pairwise_map.2 (List.Pairwise.imp_of_mem (fun{a b} ha hb g=>?_) pL)
  rw[ho _ _ (hL a ha) (hL b hb)]at g
  exact(hU hl hc _ _).1 g
 refine abR (f:=fun x=>κ (dec x)) (BG hl (pw hA pA) (pw hB pB) fun x=>⟨fun hx=>?_,fun hx=>?_⟩) fun a ha b hb g=>(hk _ _ (hA a ha) (hB b hb)).1 g
 ·obtain⟨a,ha,rfl⟩:=au7.1 hx
  obtain⟨b,hb,g⟩:=e1 a ha
  exact au7.2 ⟨b,hb,((hk _ _ (hA a ha) (hB b hb)).2 g).symm⟩
 ·obtain⟨b,hb,rfl⟩:=au7.1 hx
  obtain⟨a,ha,g⟩:=e2 b hb
  exact au7.2 ⟨a,ha,(hk _ _ (hA a ha) (hB b hb)).2 g⟩
section
section
variable {α K:Type}
def kY(lt:α→α→Bool):List α→α→List α
 |[],a=>[a]
 |b::r,a=>bif lt a b then b::kY lt r a else a::b::r
def te(lt:α→α→Bool)(l:List α):List α:=(l.foldl (kY lt) []).reverse
def jA(eq:α→α→Bool):α→List α→List α
 |_,[]=>[]
 |p,q::r=>bif eq q p then jA eq q r else q::jA eq q r
def wv(eq:α→α→Bool):List α→List α
 |[]=>[]
 |x::r=>x::jA eq x r
theorem mD{lt:α→α→Bool}{a x:α}:∀{r:List α},x∈kY lt r a↔x=a∨x∈r
 |[]=>by simp[kY]
 |b::r=>by
  unfold kY
  cases lt a b
  ·simp
  ·simp only[cond_true,aud,mD (r:=r)]
   constructor
   ·rintro (h|h|h)
    ·exact .inr (.inl h)
    ·exact .inl h
    ·exact .inr (.inr h)
   ·rintro (h|h|h)
    ·exact .inr (.inl h)
    ·exact .inl h
    ·exact .inr (.inr h)
theorem Gl{lt:α→α→Bool}{x:α}:∀{l r:List α},x∈l.foldl (kY lt) r↔x∈l∨x∈r
 |[],r=>by simp
 |a::l,r=>by
  rw[avP,Gl,mD,aud]
  constructor
  ·rintro (h|h|h)
   ·exact .inl (.inr h)
   ·exact .inl (.inl h)
   ·exact .inr h
  ·rintro ((h|h)|h)
   ·exact .inr (.inl h)
   ·exact .inl h
   ·exact .inr (.inr h)
theorem po{lt:α→α→Bool}{x:α}{l:List α}:x∈te lt l↔x∈l:=by
 unfold te
 rw[List.mem_reverse,Gl]
 simp
theorem tZ{lt:α→α→Bool}{a:α}:∀{r:List α},(kY lt r a).length=r.length+1
 |[]=>rfl
 |b::r=>by
  unfold kY
  cases lt a b
  ·rfl
  ·simp[tZ (r:=r)]
theorem L8{lt:α→α→Bool}:∀{l r:List α},(l.foldl (kY lt) r).length=l.length+r.length
 |[],r=>by simp
 |a::l,r=>by
  rw[avP,L8,tZ,aui]
  omega
theorem Fq{lt:α→α→Bool}{l:List α}:(te lt l).length=l.length:=by
 unfold te
 rw[List.length_reverse,L8]
 rfl
theorem E8{eq:α→α→Bool}:∀{l:List α} {p:α},(jA eq p l).length≤l.length
 |[],_=>at5 _
 |q::r,p=>by
  unfold jA
  have:=E8 (eq:=eq) (l:=r) (p:=q)
  cases eq q p
  ·simp only[cond_false,aui];omega
  ·simp only[cond_true,aui];omega
theorem Zm{eq:α→α→Bool}{l:List α}:(wv eq l).length≤l.length:=by
 cases l with
 |nil=>exact at5 _
 |cons x r=>
  have:=E8 (eq:=eq) (l:=r) (p:=x)
  simp only[wv,aui]
  omega
theorem yM{eq:α→α→Bool}{x:α}:∀{l:List α} {p:α},x∈jA eq p l→x∈l
 |[],_,h=>h
 |q::r,p,h=>by
  unfold jA at h
  cases hq:eq q p<;>rw[hq]at h
  ·rcases aud.1 h with e|e
   ·rw[e];simp
   ·exact aub _ (yM e)
  ·exact aub _ (yM h)
theorem Zy{eq:α→α→Bool}{x:α}{l:List α}(h:x∈wv eq l):x∈l:=by
 cases l with
 |nil=>exact h
 |cons y r=>
  rcases aud.1 h with e|e
  ·rw[e];simp
  ·exact aub _ (yM e)
variable {lt:K→K→Prop} (hl:lV lt) (κ:α→K)
abbrev upK(lt:K→K→Prop)(κ:α→K)(l:List α):Prop:=l.Pairwise fun a b=>¬lt (κ b) (κ a)
abbrev dnK(lt:K→K→Prop)(κ:α→K)(l:List α):Prop:=l.Pairwise fun a b=>¬lt (κ a) (κ b)
include hl in
theorem Me{f:α→α→Bool}{a:α}:∀{r:List α},(∀b∈r,(f a b=true↔lt (κ a) (κ b)))→dnK lt κ r→dnK lt κ (kY f r a)
 |[],_,_=>by simp[kY]
 |b::r,hf,hp=>by
  obtain⟨p1,p2⟩:=aup.1 hp
  have hb:=hf b (by simp)
  unfold kY
  cases hfb:f a b
  ·simp only[cond_false]
   have nlt:¬lt (κ a) (κ b):=fun h=>by rw[hb.2 h]at hfb;cases hfb
   refine aup.2 ⟨fun x hx=>?_,hp⟩
   rcases aud.1 hx with e|e
   ·rw[e];exact nlt
   ·intro h
    rcases hl.tri (κ b) (κ x)with g|g|g
    ·exact p1 x e g
    ·rw[←g]at h;exact nlt h
    ·exact nlt (hl.tr _ _ _ h g)
  ·simp only[cond_true]
   have hlt:=hb.1 hfb
   refine aup.2 ⟨fun x hx=>?_,Me (fun y hy=>hf y (aub _ hy)) p2⟩
   rcases mD.1 hx with e|e
   ·rw[e];intro h;exact hl.irr _ (hl.tr _ _ _ h hlt)
   ·exact p1 x e
include hl in
theorem KF{f:α→α→Bool}:∀{l r:List α},(∀a b,(a∈l∨a∈r)→(b∈l∨b∈r)→(f a b=true↔lt (κ a) (κ b)))→dnK lt κ r→dnK lt κ (l.foldl (kY f) r)
 |[],_,_,h=>h
 |a::l,r,hf,h=>by
  rw[avP]
  refine KF (fun x y hx hy=>hf x y ?_ ?_) (Me hl κ (fun b hb=>hf a b (.inl (by simp)) (.inr hb)) h)
  ·rcases hx with e|e
   ·exact .inl (aub _ e)
   ·rcases mD.1 e with g|g
    ·exact .inl (by rw[g];simp)
    ·exact .inr g
  ·rcases hy with e|e
   ·exact .inl (aub _ e)
   ·rcases mD.1 e with g|g
    ·exact .inl (by rw[g];simp)
    ·exact .inr g
include hl in
theorem ab2{f:α→α→Bool}{l:List α}(hf:∀a∈l,∀b∈l,(f a b=true↔lt (κ a) (κ b))):upK lt κ (te f l):=by
 unfold te
 refine List.pairwise_reverse.2 (KF hl κ (fun a b ha hb=>hf a ?_ b ?_) (by simp))
 ·rcases ha with h|h
  ·exact h
  ·cases h
 ·rcases hb with h|h
  ·exact h
  ·cases h
include hl in
theorem M1{g:α→α→Bool}:∀{l:List α} {p:α},(∀a b,a∈p::l→b∈p::l→(g a b=true↔κ a=κ b))→upK lt κ (p::l)→
  (p::jA g p l).Pairwise (fun a b=>lt (κ a) (κ b))∧∀x∈p::l,∃y∈p::jA g p l,κ y=κ x
 |[],p,_,_=>⟨by simp[jA],fun x hx=>⟨x,hx,rfl⟩⟩
 |q::r,p,hg,hp=>by
  obtain⟨p1,p2⟩:=aup.1 hp
  obtain⟨i1,i2⟩:=M1 (l:=r) (p:=q) (fun a b ha hb=>hg a b (aub _ ha) (aub _ hb)) p2
  obtain⟨j1,j2⟩:=aup.1 i1
  have hq:=hg q p (by simp) (by simp)
  unfold jA
  cases hqp:g q p
  ·simp only[cond_false]
   have hlt:lt (κ p) (κ q):=by
    rcases hl.tri (κ p) (κ q)with e|e|e
    ·exact e
    ·rw[hq.2 e.symm]at hqp;cases hqp
    ·exact absurd e (p1 q (by simp))
   refine⟨aup.2 ⟨fun x hx=>?_,i1⟩,fun x hx=>?_⟩
   ·rcases aud.1 hx with e|e
    ·rw[e];exact hlt
    ·exact hl.tr _ _ _ hlt (j1 x e)
   ·rcases aud.1 hx with e|e
    ·exact⟨p,by simp,by rw[e]⟩
    ·obtain⟨y,hy,e2⟩:=i2 x e
     exact⟨y,aub _ hy,e2⟩
  ·simp only[cond_true]
   have he:=hq.1 hqp
   refine⟨aup.2 ⟨fun x hx=>by rw[←he];exact j1 x hx,j2⟩,fun x hx=>?_⟩
   have tr:∀y,y∈q::jA g q r→∃z∈p::jA g q r,κ z=κ y:=fun y hy=>by
    rcases aud.1 hy with e|e
    ·exact⟨p,by simp,by rw[e,he]⟩
    ·exact⟨y,aub _ e,rfl⟩
   rcases aud.1 hx with e|e
   ·exact⟨p,by simp,by rw[e]⟩
   ·obtain⟨y,hy,e2⟩:=i2 x e
    obtain⟨z,hz,e3⟩:=tr y hy
    exact⟨z,hz,e3.trans e2⟩
include hl in
theorem Z0{g:α→α→Bool}{l:List α}(hg:∀a∈l,∀b∈l,(g a b=true↔κ a=κ b))(hp:upK lt κ l):(wv g l).Pairwise (fun a b=>lt (κ a) (κ b))∧∀x∈l,∃y∈wv g l,κ y=κ x:=by
 cases l with
 |nil=>exact⟨by simp[wv],fun x hx=>by cases hx⟩
 |cons p r=>exact M1 hl κ (fun a b ha hb=>hg a ha b hb) hp
end
def ltP(c:Cv)(a b:BP):Bool:=decide (rh c (dec a) (dec b)<0)
def fa(a b:BP):Bool:=aW (dec a) (dec b)==0
def cU(c:Cv)(l:List BP):List BP:=wv fa (te (ltP c) l)
theorem eL{c:Cv}{l:List BP}{x:BP}(h:x∈cU c l):x∈l:=po.1 (Zy h)
theorem mz{c:Cv}{l:List BP}:(cU c l).length≤l.length:=by
 have:=Zm (eq:=fa) (l:=te (ltP c) l)
 rw[Fq]at this
 exact this
theorem DZ{c:Cv}(h:Crp c)(hne:aW (frC c) (toC c)≠0){l:List BP}(hon:∀x∈l,Rpd (dec x:Pt)∧onP c (dec x)=true):oL c (cU c l)∧∀x∈l,∃y∈cU c l,aW (dec y) (dec x)=0:=by
 obtain⟨K,lt,κ,f,hl,hc,ho,hk⟩:=ud h
 have sp:∀x∈l,Spb c x:=fun x hx=>⟨(hon x hx).1,(auc.1 (hon x hx).2).1⟩
 have up:=ab2 hl (fun x:BP=>κ (dec x)) (f:=ltP c) (l:=l) fun a ha b hb=>by
  unfold ltP
  rw[avE,RE.ord_eq h hne (hon a ha).1 (hon b hb).1 (hon a ha).2 (hon b hb).2,ho _ _ (sp a ha) (sp b hb)]
  exact hU hl hc _ _
 have q:=Z0 hl (fun x:BP=>κ (dec x)) (g:=fa) (l:=te (ltP c) l) (fun a ha b hb=>by
  unfold fa
  rw[avb]
  exact(hk _ _ (sp a (po.1 ha)) (sp b (po.1 hb))).symm) up
 refine⟨List.Pairwise.imp_of_mem (fun{a b} ha hb g=>?_) q.1,fun x hx=>?_⟩
 ·have ha':=eL (c:=c) ha
  have hb':=eL (c:=c) hb
  rw[ho _ _ (sp a ha') (sp b hb')]
  exact(hU hl hc _ _).2 g
 ·obtain⟨y,hy,e⟩:=q.2 x (po.2 hx)
  exact⟨y,hy,(hk _ _ (sp y (eL (c:=c) hy)) (sp x hx)).1 e⟩
end
section
theorem th{n m k:Nat}(h1:n+m≤100000000)(hk:k≤1000000):decide ((n+m)*k≤140737488355328∧n+m≤140737488355328)=true:=by
 refine atT ⟨?_,by omega⟩
 have:=av7 h1 hk
 omega
def jQ(c:BCU)(l:List BP):Prop:=okC 4000 c∧l.length≤19∧∀x∈l,okP 4000 x
instance (c:BCU) (l:List BP):Decidable (jQ c l):=by unfold jQ;infer_instance
def Zs:Ctx:=CX [] []
def R4(p:List BP)(_k:KT):Option (List RV):=match p with|[]=>IK (some [RV.new 41 tP []]) (match decide ((([]:List BP).length+p.length)*320≤140737488355328∧([]:List BP).length+p.length≤140737488355328)with|true=>some [RV.new 41 tP (([]:List BP)++p)]|false=>none)|_::_=>(match decide ((([]:List BP).length+p.length)*320≤140737488355328∧([]:List BP).length+p.length≤140737488355328)with|true=>some [RV.new 41 tP (([]:List BP)++p)]|false=>none)
theorem aio(p:List BP):RS Zs 61 [.d (.sl tP) p] (R4 p):=rsX
theorem VP(p:List BP)(h:p.length≤100000):Con Tryz.prog 61 [.d (.sl tP) p] [.new 41 tP p]:=by
 refine Ctx.Res.con (C:=Zs) (Ul (E:=[]) trivial) ?_ (fn:=Tryz.f61) (by kernel_rfl) (by kernel_rfl)
 refine aio _ ⟨0,?_⟩
 unfold R4
 rw[th (n:=([]:List BP).length) (m:=p.length) (by simp;omega) (by omega)]
 cases p with
 |nil=>exact av _
 |cons a p=>rfl
def Ys:Env:=[(108,Cw)]
theorem NW:EnvAll Tryz.prog Ys:=⟨zw,trivial⟩
def aqN:Ctx:=CX Ys []
def afF(p q:BP)(_k:KT):Option (List RV):=match decide (okP 4000 p∧okP 4000 q)with|true=>some [RV.d .bool ((aW (dec p) (dec q))==0)]|false=>none
theorem apE(p q:BP):RS aqN 55 [.d tP p,.d tP q] (afF p q):=rsX
theorem ZX(p q:BP)(h:okP 4000 p∧okP 4000 q):Con Tryz.prog 55 [.d tP p,.d tP q] [.d .bool (aW (dec p) (dec q)==0)]:=by
 refine aP NW (apE _ _ ⟨0,?_⟩)
 unfold afF
 rw[dT h]
def Db:aN:=spN true true [tP,tP] (fun x=>decide (okP 4000 x.1∧okP 4000 x.2.1)) (fun x=>[RV.d .bool (aW (dec x.1) (dec x.2.1)==0)])
theorem yd:SpK 55 Db:=spX fun x h=>ZX x.1 x.2.1 (atS h)
def xk:aN:=spN false false [(.sl tP)] (fun x=>decide (x.1.length≤100000)) (fun x=>[RV.new 41 tP x.1])
theorem uF:SpK 61 xk:=spX fun x h=>VP x.1 (atS h)
def Kt:aN:={keep:=true,run:=fun _ _ _=>none}
theorem PS:SpK 238 Kt:=by
 refine⟨by kernel_rfl,fun R args k r h=>(by cases h),fun g h=>(by cases h)⟩
def VN:Env:=[(67,IO),(55,Db),(61,xk),(238,Kt)]
theorem BA:EnvAll Tryz.prog VN:=⟨Ga,yd,uF,PS,trivial⟩
def aif:NT:=[((181,6),{keep:=[0,1,2,6,7,8],hl:=2}),((237,3),{keep:=[0,1,2,3,8],hl:=2}),((237,15),{keep:=[0,1,2,3,8,9],hl:=2}),((181,22),{keep:=[0,1,2,6],hl:=2}),((181,34),{keep:=[0,1,2,6,7,8],hl:=2}),((119,14),{keep:=[0,1,5],hl:=2}),((119,32),{keep:=[0,1,5,6,7],hl:=2}),((54,5),{keep:=[1],hl:=0}),((117,0),{keep:=[],hl:=0}),((181,15),{keep:=[0,1,2,6,8],hl:=0}),((181,20),{keep:=[0,1,2,6],hl:=0}),((237,18),{keep:=[0,1,2,3,8,9,18,19,20,21,22,23,24,25,26,27,28,29,30,31,32,33,34],hl:=0}),((54,7),{keep:=[11],hl:=0})]
def ip:Ctx:=CX VN aif
def sf(c:BCU)(l:List BP)(s181_7 s181_8:Int)(r181_1:List BP):Cfg:=⟨181,[.blk 0,.seq 19],[(0,.own 1),(1,SI (l.length:Int)),(2,.clo 118 [0]),(6,SI 20),(7,SI s181_7),(8,SI s181_8)],[.box 43 (Ty.split tCU c),.row 41 tP r181_1],2,[⟨117,[],0,4,[],2,none⟩,⟨54,[.seq 6],5,2,[(1,.own 1)],0,none⟩]⟩
def rG(c:BCU)(l:List BP)(s181_7 s181_8 s237_8:Int)(r237_1:List BP):Cfg:=⟨237,[.blk 0],[(0,.own 1),(1,SI s181_7),(2,SI s181_8),(3,.clo 118 [0]),(8,SI s237_8)],[.box 43 (Ty.split tCU c),.row 41 tP r237_1],2,[⟨181,[.seq 16,.blk 1,.lp 6,.blk 0,.seq 19],15,4,[(0,.own 1),(1,SI (l.length:Int)),(2,.clo 118 [0]),(6,SI 20),(8,SI s181_8)],2,none⟩,⟨117,[],0,4,[],2,none⟩,⟨54,[.seq 6],5,2,[(1,.own 1)],0,none⟩]⟩
def eN(c:BCU)(l:List BP)(s181_7 s237_8:Int)(r237_1:List BP):Cfg:=⟨237,[.blk 0],[(0,.own 1),(1,SI s181_7),(2,SI (l.length:Int)),(3,.clo 118 [0]),(8,SI s237_8)],[.box 43 (Ty.split tCU c),.row 41 tP r237_1],2,[⟨181,[.seq 21],20,4,[(0,.own 1),(1,SI (l.length:Int)),(2,.clo 118 [0]),(6,SI 20)],2,none⟩,⟨117,[],0,4,[],2,none⟩,⟨54,[.seq 6],5,2,[(1,.own 1)],0,none⟩]⟩
def GR(c:BCU)(l:List BP)(s181_7 s181_8 s237_8 s237_9:Int)(r237_1:List BP):Cfg:=⟨237,[.blk 2,.blk 1,.seq 26,.lp 3,.blk 0],[(0,.own 1),(1,SI s181_7),(2,SI s181_8),(3,.clo 118 [0]),(8,SI s237_8),(9,SI s237_9)],[.box 43 (Ty.split tCU c),.row 41 tP r237_1],2,[⟨181,[.seq 16,.blk 1,.lp 6,.blk 0,.seq 19],15,4,[(0,.own 1),(1,SI (l.length:Int)),(2,.clo 118 [0]),(6,SI 20),(8,SI s181_8)],2,none⟩,⟨117,[],0,4,[],2,none⟩,⟨54,[.seq 6],5,2,[(1,.own 1)],0,none⟩]⟩
def gz(c:BCU)(l:List BP)(s181_7 s237_8 s237_9:Int)(r237_1:List BP):Cfg:=⟨237,[.blk 2,.blk 1,.seq 26,.lp 3,.blk 0],[(0,.own 1),(1,SI s181_7),(2,SI (l.length:Int)),(3,.clo 118 [0]),(8,SI s237_8),(9,SI s237_9)],[.box 43 (Ty.split tCU c),.row 41 tP r237_1],2,[⟨181,[.seq 21],20,4,[(0,.own 1),(1,SI (l.length:Int)),(2,.clo 118 [0]),(6,SI 20)],2,none⟩,⟨117,[],0,4,[],2,none⟩,⟨54,[.seq 6],5,2,[(1,.own 1)],0,none⟩]⟩
def jv(c:BCU)(l r237_1:List BP)(s181_6:Int):Cfg:=⟨181,[.blk 2],[(0,.own 1),(1,SI (l.length:Int)),(2,.clo 118 [0]),(6,SI s181_6)],[.box 43 (Ty.split tCU c),.row 41 tP r237_1],2,[⟨117,[],0,4,[],2,none⟩,⟨54,[.seq 6],5,2,[(1,.own 1)],0,none⟩]⟩
def GU(c:BCU)(l r237_1:List BP)(s181_6:Int):Cfg:=⟨181,[.blk 4,.seq 47,.blk 3,.lp 22,.blk 2],[(0,.own 1),(1,SI (l.length:Int)),(2,.clo 118 [0]),(6,SI s181_6),(7,SI 0),(8,SI (i64.wrap (2*s181_6)))],[.box 43 (Ty.split tCU c),.row 41 tP r237_1],2,[⟨117,[],0,4,[],2,none⟩,⟨54,[.seq 6],5,2,[(1,.own 1)],0,none⟩]⟩
def jc(c:BCU)(r237_1:List BP)(s119_5:Int):Cfg:=⟨119,[.blk 0,.seq 56],[(0,.own 1),(1,.clo 55 []),(5,SI s119_5)],[.box 43 (Ty.split tCU c),.row 41 tP r237_1],2,[⟨54,[.seq 8],7,1,[],0,none⟩]⟩
def d9(c:BCU)(r237_1:List BP)(s119_5 s119_5v s119_7:Int)(r119_1:List BP):Cfg:=⟨119,[.blk 2,.seq 49,.blk 1,.seq 55,.lp 14,.blk 0,.seq 56],[(0,.own 1),(1,.clo 55 []),(5,SI s119_5v),(6,.osl 1 20 ((s119_5:Int).toNat) (((r237_1.length:Int):Int).toNat-(s119_5:Int).toNat)),(7,SI s119_7)],[.box 43 (Ty.split tCU c),.row 41 tP r119_1],2,[⟨54,[.seq 8],7,1,[],0,none⟩]⟩
def agA(c:BCU)(l:List BP)(k:KT):Option (List RV):=match decide (l.length≤100000)with|true=>k 6 (sf c l 0 20 l)|false=>none
theorem aog(c:BCU)(l:List BP):RS ip 54 [.d tCU c,.d (.sl tP) l] (agA c l):=rsX
def tz(c:BCU)(l:List BP)(s181_7 s181_8:Int)(r181_1:List BP)(k:KT):Option (List RV):=match decide (s181_8≤(l.length:Int))with|true=>k 3 (rG c l s181_7 s181_8 (i64.wrap (s181_7+1)) r181_1)|false=>k 3 (eN c l s181_7 (i64.wrap (s181_7+1)) r181_1)
theorem C7(c:BCU)(l:List BP)(s181_7 s181_8:Int)(r181_1:List BP):RN ip 6 (sf c l s181_7 s181_8 r181_1) (tz c l s181_7 s181_8 r181_1):=rnX
def ib(c:BCU)(l:List BP)(s181_7 s237_8:Int)(r237_1:List BP)(k:KT):Option (List RV):=match decide (s237_8<(l.length:Int))with|true=>k 15 (gz c l s181_7 s237_8 s237_8 r237_1)|false=>k 22 (jv c l r237_1 20)
theorem kv(c:BCU)(l:List BP)(s181_7 s237_8:Int)(r237_1:List BP):RN ip 3 (eN c l s181_7 s237_8 r237_1) (ib c l s181_7 s237_8 r237_1):=rnX
def ZO(c:BCU)(l:List BP)(s181_7 s181_8 s237_8 s237_9:Int)(r237_1:List BP)(k:KT):Option (List RV):=match decide (s237_9>s181_7)with|true=>(match bi r237_1 s237_9 with|some _=>(match true,r237_1[(s237_9).toNat]? with|true,some x1=>(match bi r237_1 (i64.wrap (s237_9-1))with|some _=>(match true,r237_1[(i64.wrap (s237_9-1)).toNat]? with|true,some x2=>(match decide (okC 4000 c∧okP 4000 x1∧okP 4000 x2)with|true=>(match decide ((rh (dC c) (dec x1) (dec x2))<0)with|true=>(match bi r237_1 (i64.wrap (s237_9-1))with|some _=>(match true,r237_1[(i64.wrap (s237_9-1)).toNat]? with|true,some x3=>(match bi r237_1 s237_9 with|some _=>(match true,r237_1[(s237_9).toNat]? with|true,some x4=>(match bi r237_1 s237_9 with|some _=>(match true,r237_1[(s237_9).toNat]? with|true,some _=>(match bi (r237_1.set ((s237_9).toNat) x3) (i64.wrap (s237_9-1))with|some _=>(match true,(r237_1.set ((s237_9).toNat) x3)[(i64.wrap (s237_9-1)).toNat]? with|true,some _=>k 15 (GR c l s181_7 s181_8 s237_8 (i64.wrap (s237_9-1)) ((r237_1.set ((s237_9).toNat) x3).set ((i64.wrap (s237_9-1)).toNat) x4))|_,_=>none)|none=>none)|_,_=>none)|none=>none)|_,_=>none)|none=>none)|_,_=>none)|none=>none)|false=>k 3 (rG c l s181_7 s181_8 (i64.wrap (s237_8+1)) r237_1))|false=>none)|_,_=>none)|none=>none)|_,_=>none)|none=>none)|false=>k 3 (rG c l s181_7 s181_8 (i64.wrap (s237_8+1)) r237_1)
def gD(c:BCU)(l:List BP)(s181_7 s237_8 s237_9:Int)(r237_1:List BP)(k:KT):Option (List RV):=match decide (s237_9>s181_7)with|true=>(match bi r237_1 s237_9 with|some _=>(match true,r237_1[(s237_9).toNat]? with|true,some x1=>(match bi r237_1 (i64.wrap (s237_9-1))with|some _=>(match true,r237_1[(i64.wrap (s237_9-1)).toNat]? with|true,some x2=>(match decide (okC 4000 c∧okP 4000 x1∧okP 4000 x2)with|true=>(match decide ((rh (dC c) (dec x1) (dec x2))<0)with|true=>(match bi r237_1 (i64.wrap (s237_9-1))with|some _=>(match true,r237_1[(i64.wrap (s237_9-1)).toNat]? with|true,some x3=>(match bi r237_1 s237_9 with|some _=>(match true,r237_1[(s237_9).toNat]? with|true,some x4=>(match bi r237_1 s237_9 with|some _=>(match true,r237_1[(s237_9).toNat]? with|true,some _=>(match bi (r237_1.set ((s237_9).toNat) x3) (i64.wrap (s237_9-1))with|some _=>(match true,(r237_1.set ((s237_9).toNat) x3)[(i64.wrap (s237_9-1)).toNat]? with|true,some _=>k 15 (gz c l s181_7 s237_8 (i64.wrap (s237_9-1)) ((r237_1.set ((s237_9).toNat) x3).set ((i64.wrap (s237_9-1)).toNat) x4))|_,_=>none)|none=>none)|_,_=>none)|none=>none)|_,_=>none)|none=>none)|_,_=>none)|none=>none)|false=>k 3 (eN c l s181_7 (i64.wrap (s237_8+1)) r237_1))|false=>none)|_,_=>none)|none=>none)|_,_=>none)|none=>none)|false=>k 3 (eN c l s181_7 (i64.wrap (s237_8+1)) r237_1)
theorem jB(c:BCU)(l:List BP)(s181_7 s237_8 s237_9:Int)(r237_1:List BP):RN ip 15 (gz c l s181_7 s237_8 s237_9 r237_1) (gD c l s181_7 s237_8 s237_9 r237_1):=rnX
def i7(c:BCU)(l r237_1:List BP)(s181_6:Int)(k:KT):Option (List RV):=match decide (s181_6<(l.length:Int))with|true=>k 34 (GU c l r237_1 s181_6)|false=>(match decide ((r237_1.length:Int)<2)with|true=>some [RV.new 41 tP r237_1]|false=>k 14 (jc c r237_1 1))
theorem lK(c:BCU)(l r237_1:List BP)(s181_6:Int):RN ip 22 (jv c l r237_1 s181_6) (i7 c l r237_1 s181_6):=rnX
def iZ(c:BCU)(r237_1:List BP)(s119_5:Int)(k:KT):Option (List RV):=match decide (s119_5<(r237_1.length:Int))with|true=>(match bi r237_1 s119_5 with|some _=>(match true,r237_1[(s119_5).toNat]? with|true,some x1=>(match bi r237_1 (i64.wrap (s119_5-1))with|some _=>(match true,r237_1[(i64.wrap (s119_5-1)).toNat]? with|true,some x2=>(match decide (okP 4000 x1∧okP 4000 x2)with|true=>(match aW (dec x1) (dec x2)==0 with|true=>(match decide ((0:Int)≤s119_5∧s119_5≤(r237_1.length:Int)∧(r237_1.length:Int)≤(r237_1.length:Int))with|true=>k 32 (d9 c r237_1 s119_5 s119_5 1 r237_1)|false=>none)|false=>k 14 (jc c r237_1 (i64.wrap (s119_5+1))))|false=>none)|_,_=>none)|none=>none)|_,_=>none)|none=>none)|false=>some [RV.new 41 tP r237_1]
theorem lN(c:BCU)(r237_1:List BP)(s119_5:Int):RN ip 14 (jc c r237_1 s119_5) (iZ c r237_1 s119_5):=rnX
def gE(c:BCU)(r237_1:List BP)(s119_5 s119_5v s119_7:Int)(r119_1:List BP)(k:KT):Option (List RV):=match decide (s119_7<((((r237_1.length:Int):Int).toNat-(s119_5:Int).toNat:Nat):Int))with|true=>(match true,decide ((0:Int)≤s119_7∧s119_7<((((r237_1.length:Int):Int).toNat-(s119_5:Int).toNat:Nat):Int))with|true,true=>(match true,r119_1[(s119_5:Int).toNat+(s119_7).toNat]? with|true,some x1=>(match true,decide ((0:Int)≤i64.wrap (s119_7-1)∧i64.wrap (s119_7-1)<((((r237_1.length:Int):Int).toNat-(s119_5:Int).toNat:Nat):Int))with|true,true=>(match true,r119_1[(s119_5:Int).toNat+(i64.wrap (s119_7-1)).toNat]? with|true,some x2=>(match decide (okP 4000 x1∧okP 4000 x2)with|true=>(match !(aW (dec x1) (dec x2)==0)with|true=>(match true,decide ((0:Int)≤s119_7∧s119_7<((((r237_1.length:Int):Int).toNat-(s119_5:Int).toNat:Nat):Int))with|true,true=>(match true,r119_1[(s119_5:Int).toNat+(s119_7).toNat]? with|true,some x3=>(match bi r119_1 s119_5v with|some _=>(match true,r119_1[(s119_5v).toNat]? with|true,some _=>k 32 (d9 c r237_1 s119_5 (i64.wrap (s119_5v+1)) (i64.wrap (s119_7+1)) (r119_1.set ((s119_5v).toNat) x3))|_,_=>none)|none=>none)|_,_=>none)|_,_=>none)|false=>k 32 (d9 c r237_1 s119_5 s119_5v (i64.wrap (s119_7+1)) r119_1))|false=>none)|_,_=>none)|_,_=>none)|_,_=>none)|_,_=>none)|false=>(match decide ((0:Int)≤s119_5v∧s119_5v≤(r119_1.length:Int)∧(r119_1.length:Int)≤(r119_1.length:Int))with|true=>(match decide ((0:Int)≤0∧0≤s119_5v∧s119_5v≤((jm (Ty.zero tP) ((s119_5v:Int).toNat) (((r119_1.length:Int):Int).toNat-(s119_5v:Int).toNat) r119_1).length:Int))with|true=>some [RV.d (.sl tP) (((jm (Ty.zero tP) ((s119_5v:Int).toNat) (((r119_1.length:Int):Int).toNat-(s119_5v:Int).toNat) r119_1).drop ((0:Int).toNat)).take ((s119_5v:Int).toNat-(0:Int).toNat))]|false=>none)|false=>none)
theorem jE(c:BCU)(r237_1:List BP)(s119_5 s119_5v s119_7:Int)(r119_1:List BP):RN ip 32 (d9 c r237_1 s119_5 s119_5v s119_7 r119_1) (gE c r237_1 s119_5 s119_5v s119_7 r119_1):=rnX
theorem nv{α:Type}(L:List α)(x:α)(T:List α):(L++x::T)[L.length]?=some x:=by simp
theorem Do{α:Type}(x y:α)(T:List α):∀L:List α,(L++x::T).set L.length y=L++y::T
 |[]=>rfl
 |a::L=>by simp[Do x y T L]
section
variable (c:BCU) (l:List BP)
def aqh(ys:List BP)(r:List RV):Prop:=r=[.new 41 tP ys]∨r=[.d (.sl tP) ys]
abbrev rj(i:Nat)(g:Cfg)(ys:List BP):Prop:=∃r,ip.Runs i g r∧aqh ys r
end
section
variable (c:BCU) (l:List BP) (hc:okC 4000 c)
include hc
theorem BK(hl:l.length≤19)(i:Nat)(ys:List BP):∀(L:List BP) (a:BP) (R:List BP),(∀x∈L,okP 4000 x)→okP 4000 a→(L.reverse++a::R).length≤19→i≤19→
  rj 3 (eN c l 0 ((i+1:Nat):Int) ((kY (ltP (dC c)) L a).reverse++R)) ys→rj 15 (gz c l 0 (i:Int) (L.length:Int) (L.reverse++a::R)) ys
 |[],a,R,hL,ha,h19,hi,⟨r,⟨n,hn⟩,hr⟩=>by
  refine⟨r,jB _ _ _ _ _ _ ⟨n,?_⟩,hr⟩
  unfold gD
  rw[dF (show ¬((([]:List BP).length:Nat):Int)>0 by simp),co (by omega)]
  exact hn
 |b::L,a,R,hL,ha,h19,hi,hnext=>by
  have hb:=hL b (by simp)
  have hln:L.length≤18:=by simp at h19;omega
  have hrev:(b::L).reverse++a::R=L.reverse++b::a::R:=by simp
  have e1:((b::L).length:Int)=((L.length+1:Nat):Int):=rfl
  have ew:i64.wrap (((L.length+1:Nat):Int)-1)=(L.length:Int):=by rw[bz (by omega) (by omega)];omega
  have g1:(L.reverse++b::a::R)[L.length+1]?=some a:=by
   simp
  have g0:(L.reverse++b::a::R)[L.length]?=some b:=by
   simp
  have s1:(L.reverse++b::a::R).set (L.length+1) b=L.reverse++b::b::R:=by
   simp
  have s2:(L.reverse++b::b::R).set L.length a=L.reverse++a::b::R:=by
   simp
  have g2:(L.reverse++b::b::R)[L.length]?=some b:=by
   simp
  have key:∀r n,(match ltP (dC c) a b with
    |true=>ip.k n 15 (gz c l 0 (i:Int) (L.length:Int) (L.reverse++a::b::R))
    |false=>ip.k n 3 (eN c l 0 ((i+1:Nat):Int) (L.reverse++b::a::R)))=some r→
    gD c l 0 (i:Int) ((b::L).length:Int) ((b::L).reverse++a::R) (ip.k n)=some r:=fun r n h=>by
   rw[hrev,e1]
   unfold gD
   rw[dT (show((L.length+1:Nat):Int)>0 by omega),ew,aA,g1,aA,g0,show((L.length+1:Nat):Int).toNat=L.length+1 by omega,show((L.length:Nat):Int).toNat=L.length by omega,g1,g0]
   dsimp only
   rw[dT (show okC 4000 c∧okP 4000 a∧okP 4000 b from⟨hc,ha,hb⟩),s1,aA,g2,s2,co (by omega)]
   dsimp only
   unfold ltP at h
   exact h
  unfold kY at hnext
  cases hlt:ltP (dC c) a b
  ·rw[hlt,cond_false]at hnext
   obtain⟨r,⟨n,hn⟩,hr⟩:=hnext
   refine⟨r,jB _ _ _ _ _ _ ⟨n,key r n ?_⟩,hr⟩
   rw[hlt]
   simpa using hn
  ·rw[hlt,cond_true]at hnext
   obtain⟨r,⟨n,hn⟩,hr⟩:=BK hl i ys L a (b::R) (fun x hx=>hL x (aub _ hx)) ha (by simp at h19 ⊢;omega) hi (by simpa using hnext)
   refine⟨r,jB _ _ _ _ _ _ ⟨n,key r n ?_⟩,hr⟩
   rw[hlt]
   exact hn
theorem AH(hl:l.length≤19)(ys:List BP):∀(R D:List BP),(∀x∈D,okP 4000 x)→(∀x∈R,okP 4000 x)→D.length+R.length=l.length→
  rj 22 (jv c l (R.foldl (kY (ltP (dC c))) D).reverse 20) ys→rj 3 (eN c l 0 (D.length:Int) (D.reverse++R)) ys
 |[],D,hD,hR,hlen,⟨r,⟨n,hn⟩,hr⟩=>by
  refine⟨r,kv _ _ _ _ _ ⟨n,?_⟩,hr⟩
  unfold ib
  rw[cz (by simp at hlen;omega),auz]
  exact hn
 |a::R,D,hD,hR,hlen,hnext=>by
  have ha:=hR a (by simp)
  have hlen':D.length+(R.length+1)=l.length:=hlen
  have h1:=AH hl ys R (kY (ltP (dC c)) D a) (fun x hx=>by
   rcases mD.1 hx with e|e
   ·rw[e];exact ha
   ·exact hD x e) (fun x hx=>hR x (aub _ hx)) (by rw[tZ];omega) hnext
  rw[tZ]at h1
  obtain⟨r,⟨n,hn⟩,hr⟩:=BK c l hc hl D.length ys D a R hD ha (by simp;omega) (by omega) h1
  refine⟨r,kv _ _ _ _ _ ⟨n,?_⟩,hr⟩
  unfold ib
  rw[bS (by omega)]
  exact hn
omit hc in
theorem vd(r0:List BP)(b:Nat)(h19:r0.length≤19):∀(S K J:List BP) (p:BP),(∀x∈K++(J++p::S),okP 4000 x)→(K++(J++p::S)).length=r0.length→∀k2:Nat,1≤k2→b+k2=K.length+J.length+1→
  rj 32 (d9 c r0 (b:Int) (K.length:Int) (k2:Int) (K++(J++p::S))) (K++jA fa p S)
 |[],K,J,p,hok,hlen,k2,h1,hb=>by
  refine⟨_,jE _ _ _ _ _ _ ⟨0,?_⟩,.inr rfl⟩
  have hlen':K.length+(J.length+1)=r0.length:=by simpa using hlen
  unfold gE
  rw[dF (show ¬(k2:Int)<(((r0.length:Int).toNat-(b:Int).toNat:Nat):Int) by omega)]
  dsimp only
  rw[dT (show(0:Int)≤(K.length:Int)∧(K.length:Int)≤((K++(J++[p])).length:Int)∧((K++(J++[p])).length:Int)≤((K++(J++[p])).length:Int) by rw[hlen];omega)]
  dsimp only
  have hcl:((jm (Ty.zero tP) ((K.length:Int).toNat) ((((K++(J++[p])).length:Int)).toNat-(K.length:Int).toNat) (K++(J++[p])))).take K.length=K:=by
   unfold jm
   rw[show((K.length:Int)).toNat=K.length by omega,aut,avU (by simp),aw7,Nat.min_self,List.take_left' rfl]
  have hcn:K.length≤(jm (Ty.zero tP) ((K.length:Int).toNat) ((((K++(J++[p])).length:Int)).toNat-(K.length:Int).toNat) (K++(J++[p]))).length:=by
   have:=congrArg List.length hcl
   rw[auG]at this
   omega
  rw[dT (show(0:Int)≤0∧0≤(K.length:Int)∧(K.length:Int)≤((jm (Ty.zero tP) ((K.length:Int).toNat) ((((K++(J++[p])).length:Int)).toNat-(K.length:Int).toNat) (K++(J++[p]))).length:Int) by omega)]
  dsimp only
  rw[show((0:Int)).toNat=0 from rfl,avz,show((K.length:Int)).toNat-0=K.length by omega,hcl]
  simp[jA]
 |q::S,K,J,p,hok,hlen,k2,h1,hb=>by
  have hlen':K.length+(J.length+(S.length+1+1))=r0.length:=by simpa using hlen
  have hq:okP 4000 q:=hok q (by simp)
  have hp:okP 4000 p:=hok p (by simp)
  have g1:(K++(J++p::q::S))[(b:Int).toNat+(k2:Int).toNat]?=some q:=by
   rw[show(b:Int).toNat+(k2:Int).toNat=(K++(J++[p])).length by simp;omega]
   simp
  have ew:i64.wrap ((k2:Int)-1)=((k2-1:Nat):Int):=by rw[bz (by omega) (by omega)];omega
  have g0:(K++(J++p::q::S))[(b:Int).toNat+((k2-1:Nat):Int).toNat]?=some p:=by
   rw[show(b:Int).toNat+((k2-1:Nat):Int).toNat=(K++J).length by simp;omega]
   simp
  have key:∀r n,(match fa q p with
    |true=>ip.k n 32 (d9 c r0 (b:Int) (K.length:Int) ((k2+1:Nat):Int) (K++(J++p::q::S)))
    |false=>ip.k n 32 (d9 c r0 (b:Int) ((K.length+1:Nat):Int) ((k2+1:Nat):Int) ((K++(J++p::q::S)).set K.length q)))=some r→
    gE c r0 (b:Int) (K.length:Int) (k2:Int) (K++(J++p::q::S)) (ip.k n)=some r:=fun r n h=>by
   unfold gE
   rw[dT (show(k2:Int)<(((r0.length:Int).toNat-(b:Int).toNat:Nat):Int) by omega)]
   dsimp only
   rw[dT (show(0:Int)≤(k2:Int)∧(k2:Int)<(((r0.length:Int).toNat-(b:Int).toNat:Nat):Int) by omega),g1]
   dsimp only
   rw[ew,dT (show(0:Int)≤((k2-1:Nat):Int)∧((k2-1:Nat):Int)<(((r0.length:Int).toNat-(b:Int).toNat:Nat):Int) by omega),g0]
   dsimp only
   rw[dT (show okP 4000 q∧okP 4000 p from⟨hq,hp⟩),co (k:=k2) (by omega)]
   dsimp only
   unfold fa at h
   cases he:aW (dec q) (dec p)==0<;>rw[he]at h
   ·try dsimp only[Bool.not_false]
    have g3:∃y,(K++(J++p::q::S))[K.length]?=some y:=⟨_,atU (by simp;omega)⟩
    obtain⟨y,g3⟩:=g3
    rw[aA,g3,show((K.length:Int)).toNat=K.length by omega,g3,co (k:=K.length) (by omega)]
    exact h
   ·exact h
  have hcm:jA fa p (q::S)=bif fa q p then jA fa q S else q::jA fa q S:=rfl
  rw[hcm]
  cases he:fa q p
  ·have hset:∃J',(K++(J++p::q::S)).set K.length q=(K++[q])++(J'++q::S)∧J'.length=J.length∧∀x∈J',x∈J++[p]:=by
    cases J with
    |nil=>
     refine⟨[],?_,rfl,fun x hx=>by cases hx⟩
     simp
    |cons h T=>
     refine⟨T++[p],?_,by simp,fun x hx=>by simp at hx ⊢;exact .inr hx⟩
     simp
   obtain⟨J',e,eJ,mJ⟩:=hset
   obtain⟨r,⟨n,hn⟩,hr⟩:=vd r0 b h19 S (K++[q]) J' q (fun x hx=>by
    simp only[auo,aud,avH,awM]at hx
    rcases hx with(hx|hx)|(hx|hx|hx)
    ·exact hok x (by simp[hx])
    ·rw[hx];exact hq
    ·have:=mJ x hx
     simp only[auo,aud,avH,awM]at this
     rcases this with h|h
     ·exact hok x (by simp[h])
     ·rw[h];exact hp
    ·rw[hx];exact hq
    ·exact hok x (by simp[hx])) (by simp;omega) (k2+1) (by omega) (by simp;omega)
   refine⟨r,jE _ _ _ _ _ _ ⟨n,key r n ?_⟩,?_⟩
   ·rw[he,e]
    have:(K++[q]).length=K.length+1:=by simp
    rw[this]at hn
    exact hn
   ·simpa using hr
  ·have e2:K++(J++p::q::S)=K++((J++[p])++q::S):=by simp
   obtain⟨r,⟨n,hn⟩,hr⟩:=vd r0 b h19 S K (J++[p]) q (e2▸hok) (e2▸hlen) (k2+1) (by omega) (by simp;omega)
   refine⟨r,jE _ _ _ _ _ _ ⟨n,key r n ?_⟩,hr⟩
   rw[he,e2]
   exact hn
omit hc in
theorem B8:∀(S A:List BP) (p:BP),(∀x∈A++p::S,okP 4000 x)→(A++p::S).length≤19→
  rj 14 (jc c (A++p::S) ((A.length+1:Nat):Int)) (A++p::jA fa p S)
 |[],A,p,hok,h19=>by
  refine⟨_,lN _ _ _ ⟨0,?_⟩,.inl rfl⟩
  unfold iZ
  rw[cz (by simp)]
  rfl
 |q::S,A,p,hok,h19=>by
  have hq:okP 4000 q:=hok q (by simp)
  have hp:okP 4000 p:=hok p (by simp)
  have h19':A.length+(S.length+1+1)≤19:=by simpa using h19
  have g1:(A++p::q::S)[A.length+1]?=some q:=by
   simp
  have g0:(A++p::q::S)[A.length]?=some p:=nv A p (q::S)
  have ew:i64.wrap (((A.length+1:Nat):Int)-1)=(A.length:Int):=by rw[bz (by omega) (by omega)];omega
  have key:∀r n,(match fa q p with
    |true=>ip.k n 32 (d9 c (A++p::q::S) ((A.length+1:Nat):Int) ((A.length+1:Nat):Int) 1 (A++p::q::S))
    |false=>ip.k n 14 (jc c (A++p::q::S) ((A.length+1+1:Nat):Int)))=some r→
    iZ c (A++p::q::S) ((A.length+1:Nat):Int) (ip.k n)=some r:=fun r n h=>by
   unfold iZ
   rw[bS (by simp only[aus,aui];omega),aA,g1,show((A.length+1:Nat):Int).toNat=A.length+1 by omega,g1]
   dsimp only
   rw[ew,aA,g0,show((A.length:Nat):Int).toNat=A.length by omega,g0]
   dsimp only
   rw[dT (show okP 4000 q∧okP 4000 p from⟨hq,hp⟩),co (k:=A.length+1) (by omega),dT (show(0:Int)≤((A.length+1:Nat):Int)∧((A.length+1:Nat):Int)≤((A++p::q::S).length:Int)∧((A++p::q::S).length:Int)≤((A++p::q::S).length:Int) by simp;omega)]
   exact h
  have hcm:jA fa p (q::S)=bif fa q p then jA fa q S else q::jA fa q S:=rfl
  have e2:A++p::q::S=(A++[p])++q::S:=by simp
  rw[hcm]
  cases he:fa q p
  ·obtain⟨r,⟨n,hn⟩,hr⟩:=B8 S (A++[p]) q (e2▸hok) (e2▸h19)
   refine⟨r,lN _ _ _ ⟨n,key r n ?_⟩,?_⟩
   ·rw[he,e2]
    have:(A++[p]).length=A.length+1:=by simp
    rw[this]at hn
    exact hn
   ·rw[aut]at hr
    exact hr
  ·obtain⟨r,⟨n,hn⟩,hr⟩:=vd c (A++p::q::S) (A.length+1) h19 S (A++[p]) [] q (e2▸hok) (by rw[e2];rfl) 1 (at5 _) (by simp)
   refine⟨r,lN _ _ _ ⟨n,key r n ?_⟩,?_⟩
   ·rw[he,e2]
    have:(A++[p]).length=A.length+1:=by simp
    rw[this,e2]at hn
    exact hn
   ·rw[aut]at hr
    exact hr
theorem ac7(hl:l.length≤19)(ho:∀x∈l,okP 4000 x):rj 6 (sf c l 0 20 l) (cU (dC c) l):=by
 have hlast:∀r:List BP,(∀x∈r,okP 4000 x)→r.length≤19→rj 22 (jv c l r 20) (wv fa r):=fun r hr h19=>by
  cases r with
  |nil=>
   refine⟨_,lK _ _ _ _ ⟨0,?_⟩,.inl rfl⟩
   unfold i7
   rw[dF (show ¬(20:Int)<(l.length:Int) by omega)]
   rfl
  |cons p S=>
   cases S with
   |nil=>
    refine⟨_,lK _ _ _ _ ⟨0,?_⟩,.inl rfl⟩
    unfold i7
    rw[dF (show ¬(20:Int)<(l.length:Int) by omega)]
    rfl
   |cons q S=>
    obtain⟨r',⟨n,hn⟩,hr'⟩:=B8 c (q::S) [] p hr h19
    refine⟨r',lK _ _ _ _ ⟨n,?_⟩,hr'⟩
    unfold i7
    rw[dF (show ¬(20:Int)<(l.length:Int) by omega)]
    dsimp only
    rw[dF (show ¬((p::q::S).length:Int)<2 by simp;omega)]
    simpa using hn
 have hsort:rj 22 (jv c l (te (ltP (dC c)) l) 20) (cU (dC c) l):=hlast _ (fun x hx=>ho x (po.1 hx)) (by rw[Fq];exact hl)
 have h3:rj 3 (eN c l 0 1 l) (cU (dC c) l):=by
  cases l with
  |nil=>
   obtain⟨r,⟨n,hn⟩,hr⟩:=hsort
   refine⟨r,kv _ _ _ _ _ ⟨n,?_⟩,hr⟩
   unfold ib
   rw[dF (show ¬(1:Int)<(([]:List BP).length:Int) by simp)]
   exact hn
  |cons x l=>
   have:=AH c (x::l) hc hl _ l [x] (fun y hy=>ho y (by simp at hy;simp[hy])) (fun y hy=>ho y (aub _ hy)) (by simp;omega) hsort
   simpa using this
 obtain⟨r,⟨n,hn⟩,hr⟩:=h3
 refine⟨r,C7 _ _ _ _ _ ⟨n,?_⟩,hr⟩
 unfold tz
 rw[dF (show ¬(20:Int)≤(l.length:Int) by omega),bz (x:=0+1) (by omega) (by omega)]
 exact hn
end
theorem acM(c:BCU)(l:List BP)(h:jQ c l):Con Tryz.prog 54 [.d tCU c,.d (.sl tP) l] [.d (.sl tP) (cU (dC c) l)]:=by
 obtain⟨hc,hl,ho⟩:=h
 obtain⟨r,⟨n,hn⟩,hr⟩:=ac7 c l hc hl ho
 have hres:ip.Res 54 [.d tCU c,.d (.sl tP) l] r:=by
  refine aog _ _ ⟨n,?_⟩
  unfold agA
  rw[dT (show l.length≤100000 by omega)]
  exact hn
 rcases hr with e|e
 ·rw[e]at hres
  exact Con.new_d (et:=41) (aP BA hres)
 ·rw[e]at hres
  exact aP BA hres
def CI:aN:=spN false false [tCU,(.sl tP)] (fun x=>decide (jQ x.1 x.2.1)) (fun x=>[RV.d (.sl tP) (cU (dC x.1) x.2.1)])
theorem yT:SpK 54 CI:=spX fun x h=>acM x.1 x.2.1 (atS h)
end
namespace RE
end RE
namespace RE
theorem XP{q:Pt}:pX (rdP q)=pX q∧pY (rdP q)=pY q:=by
 unfold rdP pX pY
 by_cases h1:q.2.1=0
 ·by_cases h2:q.2.2.2.1=0
  ·rw[atT h1,atT h2]
   dsimp only
   rw[h1,h2,eF,eF,eF,eF]
   exact⟨rfl,rfl⟩
  ·rw[atV h2,Bool.and_false]
   exact⟨rfl,rfl⟩
 ·rw[atV h1,Bool.false_and]
  exact⟨rfl,rfl⟩
theorem apW{x y:Rt}(h:vO x y):pR (mkP x y)=(vR x,vR y):=by
 unfold mkP
 refine aw8 (XP.1.trans ?_) (XP.2.trans ?_)
 ·unfold pX vR
  dsimp only
  by_cases e:x.2.1=0
  ·rw[e,eF,eF]
  ·rw[atV e]
   rfl
 ·unfold pY vR
  dsimp only
  by_cases e:x.2.1=0
  ·rw[atT e]
   rfl
  ·rw[atV e]
   rcases h with h|h|h
   ·exact absurd h e
   ·rw[h,eF,eF]
   ·rw[cond_false,h]
end RE
section
namespace RE
theorem asO(A B x y u v s:RE):A*(x+u*s)+B*(y+v*s)=(A*x+B*y)+(A*u+B*v)*s:=by
 induction A using atR
 induction B using atR
 induction x using atR
 induction y using atR
 induction u using atR
 induction v using atR
 induction s using atR
 exact snd fun n=>by
  simp only[RL.add,RL.mul]
  grind
theorem atj(x y u v s p q:RE):(x+u*s-p)*(x+u*s-p)+(y+v*s-q)*(y+v*s-q)=((x-p)*(x-p)+(y-q)*(y-q))+((x-p)*u+(y-q)*v)*s+((x-p)*u+(y-q)*v)*s+(u*u+v*v)*(s*s):=by
 induction x using atR
 induction y using atR
 induction u using atR
 induction v using atR
 induction s using atR
 induction p using atR
 induction q using atR
 exact snd fun n=>by
  simp only[RL.add,RL.mul,RL.neg]
  grind
theorem atf(b n r:RE):b*(r*n)=b*n*r:=by
 induction b using atR
 induction n using atR
 induction r using atR
 exact snd fun n=>by
  simp only[RL.mul]
  grind
theorem asX(r n:RE):r*n*(r*n)=r*r*(n*n):=by
 induction r using atR
 induction n using atR
 exact snd fun n=>by
  simp only[RL.mul]
  grind
theorem asV(x y p q a b m n:RE):(x-a)*(x-a)+(y-b)*(y-b)=((x-p)*(x-p)+(y-q)*(y-q))+(a*a+b*b-m)-(p*p+q*q-n)-((1+1)*(a-p)*x+(1+1)*(b-q)*y)+(m-n):=by
 induction x using atR
 induction y using atR
 induction p using atR
 induction q using atR
 induction a using atR
 induction b using atR
 induction m using atR
 induction n using atR
 exact snd fun n=>by
  simp only[RL.add,RL.mul,RL.neg,RL.const]
  grind
theorem atn(a b n m:RE):n+a-b-(a-b)+(m-n)=m:=by
 induction a using atR
 induction b using atR
 induction n using atR
 induction m using atR
 exact snd fun n=>by
  simp only[RL.add,RL.neg]
  grind
theorem DF(x u y v k:Rat):pR (oA x u y v k)=(v2 x u k,v2 y v k):=by
 unfold oA
 rw[apW (tK _ _ _ _ _),vR_mk,vR_mk]
section
variable {l c:Ln}
theorem Lh(hl:l.1≠0∨l.2.1≠0):0<cY l:=by
 have h:=pH hl
 have h1:0≤cY l:=aiW (l.1,l.2.1)
 grind
theorem IS(hl:l.1≠0∨l.2.1≠0):fL l c*(cY l*cY l)=iE l c:=by
 have hn:=pH hl
 have t:vlL l c.1 c.2.1/cY l*cY l=vlL l c.1 c.2.1:=avo hn
 have k:(c.2.2-DE l c)/cY l*cY l=c.2.2-DE l c:=avo hn
 unfold fL
 rw[←Rat.mul_assoc,k]
 unfold DE ftX ftY iE
 generalize vlL l c.1 c.2.1/cY l=s at*
 rw[←t]
 unfold cY
 grind
theorem ahS(hl:l.1≠0∨l.2.1≠0):(fL l c<0↔iE l c<0)∧(fL l c=0↔iE l c=0):=by
 have hn:=Lh hl
 have h2:0<cY l*cY l:=auX hn hn
 have e:=IS (c:=c) hl
 rcases(by grind:fL l c<0∨fL l c=0∨0<fL l c)with h|h|h
 ·have:=auX (show 0< -fL l c by grind) h2
  have e2: -fL l c*(cY l*cY l)= -iE l c:=by rw[Rat.neg_mul,e]
  rw[e2]at this
  constructor<;>constructor<;>intro<;>grind
 ·rw[h,Rat.zero_mul]at e
  constructor<;>constructor<;>intro<;>grind
 ·have:=auX h h2
  rw[e]at this
  constructor<;>constructor<;>intro<;>grind
theorem alt(hl:l.1≠0∨l.2.1≠0)(h0:0≤fL l c):rq (iE l c)=rq (fL l c)*of (cY l):=by
 have hn:=Lh hl
 have hr:0≤iE l c:=by
  rw[←IS hl]
  exact auP h0 (auP (by grind) (by grind))
 refine aeZ _ _ (QG _) (cW (QG _) (nW.2 (by grind))) ?_
 rw[asX,ro hr,ro h0,←ck,←ck,IS hl]
theorem DY(hl:l.1≠0∨l.2.1≠0)(h0:0≤fL l c)(a b:Rat):v2 a b (fL l c)=v2 a (b/cY l) (iE l c):=by
 unfold v2
 rw[alt hl h0,atf,←ck,avo (pH hl)]
theorem ndv(a b:Rat): -a/b= -(a/b):=by rw[aw4,aw4,Rat.neg_mul]
theorem Ja(hl:l.1≠0∨l.2.1≠0)(v:PE):(∃p∈kX l c,pR p=v)↔∃p∈qY l c,pR p=v:=by
 obtain⟨s1,s2⟩:=ahS (c:=c) hl
 unfold kX qY
 by_cases h0:fL l c<0
 ·rw[atT h0,atT (s1.1 h0)]
  exact Iff.rfl
 ·rw[atV h0,atV (fun h=>h0 (s1.2 h))]
  by_cases h1:fL l c=0
  ·rw[atT h1,atT (s2.1 h1)]
   exact Iff.rfl
  ·rw[atV h1,atV (fun h=>h1 (s2.2 h))]
   have hp:0≤fL l c:=by grind
   have e:(pR (lcM l c)=pR (tJ l c)∧pR (lcN l c)=pR (uf l c))∨(pR (lcM l c)=pR (uf l c)∧pR (lcN l c)=pR (tJ l c)):=by
    unfold lcM lcN tJ uf
    rw[DF,DF,u6,u6,DY hl hp,DY hl hp,DY hl hp,DY hl hp]
    unfold u9 u5
    cases OD l
    ·left
     simp only[cond_false,ndv,Rat.neg_neg,and_self]
    ·right
     simp only[cond_true,ndv,Rat.neg_neg,and_self]
   have m2:∀{a b:Pt},(∃p∈[a,b],pR p=v)↔(pR a=v∨pR b=v):=fun{a b}=>by simp
   simp only[cond_false]
   cases decide (aW (tJ l c) (uf l c)>0)
   ·simp only[cond_false]
    rw[m2,m2]
    rcases e with⟨e1,e2⟩|⟨e1,e2⟩<;>rw[e1,e2]
    exact Or.comm
   ·simp only[cond_true]
    rw[m2,m2]
    rcases e with⟨e1,e2⟩|⟨e1,e2⟩<;>rw[e1,e2]
    exact Or.comm
theorem Io(hl:l.1≠0∨l.2.1≠0){u v k:Rat}(hk:0≤k)(h1:l.1*u+l.2.1*v=0)(h2:DE l c+(u*u+v*v)*k=c.2.2):sK l (v2 (ftX l c) u k,v2 (ftY l c) v k)∧wx c (v2 (ftX l c) u k,v2 (ftY l c) v k):=by
 have hn:=pH hl
 have t:vlL l c.1 c.2.1/cY l*cY l=vlL l c.1 c.2.1:=avo hn
 have e1:l.1*ftX l c+l.2.1*ftY l c=l.2.2:=by
  unfold ftX ftY
  generalize vlL l c.1 c.2.1/cY l=s at*
  unfold cY vlL at t
  grind
 have e3:(ftX l c-c.1)*u+(ftY l c-c.2.1)*v=0:=by
  unfold ftX ftY
  generalize vlL l c.1 c.2.1/cY l=s at*
  have:(c.1-s*l.1-c.1)*u+(c.2.1-s*l.2.1-c.2.1)*v= -s*(l.1*u+l.2.1*v):=by grind
  rw[this,h1,Rat.mul_zero]
 unfold sK wx frm v2
 dsimp only
 constructor
 ·rw[asO,←ck,←ck,←ck,←ck,←of_add,←of_add,e1,h1,xe,zero_mul,add_zero]
 ·rw[atj,ro hk,←of_sub,←of_sub,←ck,←ck,←ck,←ck,←ck,←ck,←of_add,←of_add,←of_add,e3,xe,zero_mul,add_zero,add_zero,←ck,←of_add]
  exact congrArg of h2
theorem al2(_hl:l.1≠0∨l.2.1≠0):l.1*u9 l+l.2.1*u5 l=0∧u9 l*u9 l+u5 l*u5 l=cY l:=by
 unfold u9 u5 cY
 cases OD l
 ·simp only[cond_false];constructor<;>grind
 ·simp only[cond_true];constructor<;>grind
theorem QV(hl:l.1≠0∨l.2.1≠0){p:Pt}(hp:p∈kX l c):sK l (pR p)∧wx c (pR p):=by
 have hn:=pH hl
 have k:fL l c*cY l=c.2.2-DE l c:=avo hn
 obtain⟨d1,d2⟩:=al2 hl
 unfold kX at hp
 by_cases h0:fL l c<0
 ·rw[atT h0]at hp
  cases hp
 ·rw[atV h0]at hp
  by_cases h1:fL l c=0
  ·rw[atT h1]at hp
   have:p=atP (ftL l c):=by simpa using hp
   rw[this,z9]
   have:=Io (c:=c) (u:=0) (v:=0) (k:=0) hl (by decide) (by grind) (by rw[h1]at k;grind)
   rw[eF,eF]at this
   exact this
  ·rw[atV h1]at hp
   have hk:0≤fL l c:=by grind
   have:p=lcM l c∨p=lcN l c:=by simpa using hp
   rcases this with e|e
   ·rw[e]
    unfold lcM
    rw[DF]
    refine Io hl hk (by grind) ?_
    rw[show-u9 l* -u9 l+ -u5 l* -u5 l=cY l by rw[←d2];grind,awD,k]
    grind
   ·rw[e]
    unfold lcN
    rw[DF]
    refine Io hl hk d1 ?_
    rw[d2,awD,k]
    grind
end
theorem ajn{c d:Ln}{v:PE}(hl:sK (n6 c d) v)(hc:wx c v):wx d v:=by
 unfold sK n6 rg at hl
 unfold wx frm at*
 dsimp only at*
 have o2:of 2=1+1:=by
  rw[←Zw,←of_add]
  exact congrArg of (by decide+kernel)
 rw[asV v.1 v.2 (of c.1) (of c.2.1) (of d.1) (of d.2.1) (of d.2.2) (of c.2.2),hc]
 simp only[of_sub,ck,of_add,o2]at hl
 rw[hl,atn]
theorem aie{l m:Ln}{p:Pt}(hp:p∈n8 l m):sK l (pR p)∧sK m (pR p):=by
 unfold n8 at hp
 by_cases h0:fH l m=0
 ·rw[atT h0]at hp
  cases hp
 ·rw[atV h0]at hp
  have:p=atP (oo l m/fH l m,oO l m/fH l m):=by simpa using hp
  rw[this,z9]
  have ex:oo l m/fH l m*fH l m=oo l m:=avo h0
  have ey:oO l m/fH l m*fH l m=oO l m:=avo h0
  have key:∀a b q:Rat,a*oo l m+b*oO l m=q*fH l m→a*(oo l m/fH l m)+b*(oO l m/fH l m)=q:=fun a b q e=>by
   generalize oo l m/fH l m=x at*
   generalize oO l m/fH l m=y at*
   rw[←ex,←ey]at e
   have:(a*x+b*y-q)*fH l m=0:=by grind
   rcases awE.1 this with h|h
   ·grind
   ·exact absurd h h0
  unfold sK
  rw[←ck,←ck,←of_add,←ck,←ck,←of_add,key l.1 l.2.1 l.2.2 (by unfold oo oO fH;grind),key m.1 m.2.1 m.2.2 (by unfold oo oO fH;grind)]
  exact⟨rfl,rfl⟩
end RE
end
theorem ajl{c:Cv}(h:Crp c):Crv c:=⟨h.f.1,h.t.1,fun ha=>⟨h.q ha,fD ha h.f,fD ha h.t⟩⟩
theorem dR{c:Cv}(h:Crp c){p:Pt}(hp:Rpd p):onP c p=onR c p:=aox (ajl h) hp
namespace RE
theorem gg{c:Cv}{p:Pt}[Rpd p]:fE c p=true↔bif c.1 then wx (ciC c) (pR p)else sK (lnC c) (pR p):=by
 unfold fE
 cases c.1
 ·exact Ku
 ·exact wU
theorem AL{q:Rat}(hq:q≠0){x y:RE}(h:of q*x=of q*y):x=y:=by
 have e:∀z:RE,of q⁻¹*(of q*z)=z:=fun z=>by
  rw[←mul_assoc,←ck,Rat.inv_mul_cancel _ hq,Zw,one_mul]
 rw[←e x,h,e y]
theorem atm(a p q x y:RE):a*(p*x+q*y)=p*(a*x)+a*q*y:=by
 induction a using atR
 induction p using atR
 induction q using atR
 induction x using atR
 induction y using atR
 exact snd fun n=>by
  simp only[RL.add,RL.mul]
  grind
theorem atq(p a b x y:RE):p*(a*x+b*y)=p*(a*x)+b*p*y:=by
 induction p using atR
 induction a using atR
 induction b using atR
 induction x using atR
 induction y using atR
 exact snd fun n=>by
  simp only[RL.add,RL.mul]
  grind
theorem as6(b p q x y:RE):b*(p*x+q*y)=b*p*x+q*(b*y):=by
 induction b using atR
 induction p using atR
 induction q using atR
 induction x using atR
 induction y using atR
 exact snd fun n=>by
  simp only[RL.add,RL.mul]
  grind
theorem asU(q a b x y:RE):q*(a*x+b*y)=a*q*x+q*(b*y):=by
 induction q using atR
 induction a using atR
 induction b using atR
 induction x using atR
 induction y using atR
 exact snd fun n=>by
  simp only[RL.add,RL.mul]
  grind
theorem ajI{l m:Ln}(hl:l.1≠0∨l.2.1≠0)(h:oh l m=true){v:PE}(hv:sK l v):sK m v:=by
 unfold oh at h
 obtain⟨h1,h23⟩:=auc.1 h
 obtain⟨h2,h3⟩:=auc.1 h23
 have h1:=atS h1
 have h2:=atS h2
 have h3:=atS h3
 unfold sK at*
 rcases hl with ha|hb
 ·refine AL ha ?_
  rw[atm,←ck l.1 m.2.1,h1,ck,←atq,hv,←ck,←ck,h2,awD]
 ·refine AL hb ?_
  rw[as6,←ck l.2.1 m.1,←h1,ck,←asU,hv,←ck,←ck,h3,awD]
theorem aaN{l m:Ln}(h:oh l m=true):oh m l=true:=by
 unfold oh at*
 obtain⟨h1,h23⟩:=auc.1 h
 obtain⟨h2,h3⟩:=auc.1 h23
 have h1:=atS h1
 have h2:=atS h2
 have h3:=atS h3
 rw[dT (show m.1*l.2.1=m.2.1*l.1 by grind),dT (show m.1*l.2.2=m.2.2*l.1 by grind),dT (show m.2.1*l.2.2=m.2.2*l.2.1 by grind)]
 rfl
theorem alb{c d:Ln}(h:qX c d=true):c=d:=by
 unfold qX at h
 obtain⟨h1,h23⟩:=auc.1 h
 obtain⟨h2,h3⟩:=auc.1 h23
 exact aw8 (atS h1) (aw8 (atS h2) (atS h3))
theorem yC{c d:Cv}(h:c7 c d=true):c.1=d.1:=by
 unfold c7 at h
 cases e:c.1==d.1
 ·rw[e]at h;cases h
 ·exact avb.1 e
theorem IU{c d:Cv}(h:c7 c d=true)(ha:c.1=true):ciC c=ciC d:=by
 have e:=yC h
 unfold c7 at h
 rw[←e,ha]at h
 exact alb h
theorem WG{c d:Cv}(h:c7 c d=true)(ha:c.1=false):oh (lnC c) (lnC d)=true:=by
 have e:=yC h
 unfold c7 at h
 rw[←e,ha]at h
 exact h
theorem wI{c d:Cv}(h:c7 c d=true):c7 d c=true:=by
 have e:=yC h
 unfold c7
 rw[←e,awo,cond_true]
 cases ha:c.1
 ·exact aaN (WG h ha)
 ·rw[cond_true,IU h ha]
  unfold qX
  rw[dT rfl,dT rfl,dT rfl]
  rfl
theorem nz{c d:Cv}(hc:Crp c)(h:c7 c d=true){p:Pt}[Rpd p](hp:fE c p=true):fE d p=true:=by
 have e:=yC h
 rw[gg]at*
 rw[←e]
 cases ha:c.1
 ·rw[ha,cond_false]at hp
  exact ajI (hc.l ha) (WG h ha) hp
 ·rw[ha,cond_true]at hp
  rw[cond_true,←IU h ha]
  exact hp
theorem supF_eq{c:Cv}{p q:Pt}[Rpd p][Rpd q](e:pR p=pR q)(h:fE c p=true):fE c q=true:=by
 rw[gg]at*
 rw[←e]
 exact h
end RE
theorem eP{c:Cv}(h:Crp c){p q r:Pt}(hp:Sp c p)(hq:Sp c q)(hr:Sp c r)(e:aW p q=0):cd c p r=cd c q r∧cd c r p=cd c r q:=by
 obtain⟨K,lt,κ,f,hl,hc,ho,hk⟩:=ud h
 have ek:=(hk p q hp hq).2 e
 rw[ho p r hp hr,ho q r hq hr,ho r p hr hp,ho r q hr hq,ek]
 exact⟨rfl,rfl⟩
theorem apS{c:Cv}{p q:Pt}(hp:Sp c p)(hq:Rpd q)(e:aW p q=0):Sp c q:=by
 have:=hp.1
 exact⟨hq,RE.supF_eq (RE.cmpP_0.1 e) hp.2⟩
theorem apt{p:Pt}(_h:Rpd p):aW p p=0:=RE.cmpP_0.2 rfl
theorem oY{p q:Pt}[Rpd p][Rpd q](e:aW p q=0):aW q p=0:=RE.cmpP_0.2 (RE.cmpP_0.1 e).symm
theorem MU{p q r:Pt}[Rpd p][Rpd q][Rpd r](e:aW p q=0)(e':aW q r=0):aW p r=0:=RE.cmpP_0.2 ((RE.cmpP_0.1 e).trans (RE.cmpP_0.1 e'))
theorem FQ{c:Cv}(h:Crp c){p q:Pt}(hp:Rpd p)(hq:Rpd q)(e:aW p q=0)(ho:onR c p=true):onR c q=true:=by
 obtain⟨h1,h2,h3⟩:=(il h hp).1 ho
 have sp:Sp c p:=⟨hp,h1⟩
 have sq:=apS sp hq e
 rw[il h hq]
 rw[(eP h sp sq h.f e).1]at h2
 rw[(eP h sp sq h.t e).2]at h3
 exact⟨sq.2,h2,h3⟩
theorem qo{c:Cv}(h:Crp c){p q:Pt}(hp:Rpd p)(hq:Rpd q)(e:aW p q=0):onR c p=onR c q:=by
 cases h1:onR c p
 ·cases h2:onR c q
  ·rfl
  ·rw[FQ h hq hp (oY e) h2]at h1;cases h1
 ·rw[FQ h hp hq e h1]
theorem Hy{c:Cv}{x:BP}(hx:Rpd (dec x)):∀{r:List BP},∃y∈fK c r x,aW (dec y) (dec x)=0
 |[]=>⟨x,by simp[fK],RE.cmpP_0.2 rfl⟩
 |z::r=>by
  simp only[fK]
  cases decide (cd c (dec z) (dec x)<0)
  ·cases hz:aW (dec z) (dec x)==0
   ·exact⟨x,by simp,RE.cmpP_0.2 rfl⟩
   ·exact⟨z,by simp,avb.1 hz⟩
  ·obtain⟨y,hy,e⟩:=Hy (c:=c) hx (r:=r)
   exact⟨y,aub _ hy,e⟩
theorem Fs{c:Cv}{x:BP}(hx:Rpd (dec x)):∀{l r:List BP},x∈l→∃y∈l.foldl (fK c) r,aW (dec y) (dec x)=0
 |[],_,h=>by cases h
 |z::l,r,h=>by
  rw[avP]
  rcases aud.1 h with e|e
  ·obtain⟨y,hy,e2⟩:=Hy (c:=c) hx (r:=r)
   exact⟨y,F1 (by rw[←e];exact hy),e2⟩
  ·exact Fs hx e
theorem Ra{c:Cv}{x:BP}{l:List BP}(hx:Rpd (dec x))(h:x∈l):∃y∈gf c l,aW (dec y) (dec x)=0:=Fs hx h
theorem GZ{c:Cv}{x:BP}{l:List BP}(h:x∈gf c l):x∈l:=by
 rcases wS h with h|h
 ·cases h
 ·exact h
theorem Nd{c:Cv}(o:Ord c){l:List BP}(hl:∀x∈l,Spb c x):oL c (gf c l):=SO o hl
end Go.Proofs.YtgddhgcjmddjfaaGreat
end
