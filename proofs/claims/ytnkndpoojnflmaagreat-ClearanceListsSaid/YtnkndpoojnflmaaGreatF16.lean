/- Common points of lines and circles: the program's, plain. -/
import Derived.Test.YtnkndpoojnflmaaGreatF15
import Derived.Test.YtnkndpoojnflmaaGreatF13
noncomputable section
namespace Go.Proofs.YtnkndpoojnflmaaGreat
open Go.RowKit Go.IntKind
theorem ao7:type_of% @List.mem_filter:=@List.mem_filter
theorem apS:type_of% @List.any_cons:=@List.any_cons
theorem aqi:type_of% @or_false:=@or_false
section
def vU(x u y v k:Rat):Pt:=mkP (mkR x u k) (mkR y v k)
def ftL(l c:Ln):Rat×Rat:=(ftX l c,ftY l c)
def wO(l c:Ln):Rat:=(ftX l c-c.1)*(ftX l c-c.1)+(ftY l c-c.2.1)*(ftY l c-c.2.1)
def eh(l c:Ln):Rat:=(c.2.2-wO l c)/cr l
def Gw(l:Ln):Bool:=decide (l.2.1<0)||(decide (l.2.1=0)&&decide (-l.1<0))
def qR(l:Ln):Rat:=bif Gw l then-l.2.1 else l.2.1
def qZ(l:Ln):Rat:=bif Gw l then- -l.1 else-l.1
def lcM(l c:Ln):Pt:=vU (ftX l c) (-qR l) (ftY l c) (-qZ l) (eh l c)
def lcN(l c:Ln):Pt:=vU (ftX l c) (qR l) (ftY l c) (qZ l) (eh l c)
def kX(l c:Ln):List Pt:=bif decide (eh l c<0)then []else bif decide (eh l c=0)then [atP (ftL l c)]else [lcM l c,lcN l c]
def PA(l m:Ln):Int:=bif !decide (eg l m=0)then 0 else bif qX l m then 10 else 0
def rR(c d:Ln):List Pt:=bif gY c d then []else kX (ng c d) c
def T2(c d:Ln):Int:=bif tX c d then 10 else 0
def gr(a b:Cv):List Pt:=bif a.1&&b.1 then rR (ciC a) (ciC b)else bif a.1 then kX (lnC b) (ciC a)else bif b.1 then kX (lnC a) (ciC b)else m6 (lnC a) (lnC b)
def agd(a b:Cv):Int:=bif a.1&&b.1 then T2 (ciC a) (ciC b)else bif a.1 then 0 else bif b.1 then 0 else PA (lnC a) (lnC b)
theorem UT(l c:Ln):dt l (c.1,c.2.1)=ftL l c:=rfl
theorem SD{x u y v k:Rat}[h:Nn k]:Rpd (vU x u y v k):=Z9 o8 o8 (nW _ _ _ _ _)
section
variable {l c:Ln}
theorem abg [BdL l]:Bd (qR l) 12∧Bd (qZ l) 12:=by
 unfold qR qZ;cases Gw l
 ·exact⟨(inferInstance:Bd l.2.1 12),(inferInstance:Bd (-l.1) 12)⟩
 ·exact⟨(inferInstance:Bd (-l.2.1) 12),(inferInstance:Bd (- -l.1) 12)⟩
end
theorem OW{x u y v k:Rat}{a b c:Nat}(h1:Bd x a)(h2:Bd u b)(h3:Bd y a)(h4:Bd v b)(h5:Bd k c){n:Nat}(hn:a+(b+c)+1≤n):Bd (vU x u y v k) n:=by
 have z:bdR n 0:=bK lS.le (by omega);have i1:Bd (mkR x u k) (a+(b+c)+1):=inferInstance;have i2:Bd (mkR y v k) (a+(b+c)+1):=inferInstance;have f1:=i1.mono hn;have f2:=i2.mono hn;refine⟨?_⟩;unfold vU mkP rdP;dsimp only;refine⟨f1.le.1,f1.le.2.1,f2.le.1,f2.le.2.1,?_⟩;cases decide ((mkR x u k).2.1=0)&&decide ((mkR y v k).2.1=0)
 ·cases decide ((mkR x u k).2.1=0)
  ·exact f1.le.2.2
  ·exact f2.le.2.2
 ·exact z
section
variable {l c:Ln}
theorem L8 [BdL l][h:BdC c]:Bd (eh l c) 1000:=by
 obtain⟨f1,f2,_,_⟩:=ut (l:=l) (c:=c);have hx:=h.x;have hy:=h.y;have hq:=h.q;have i1:Bd (cr l) 49:=inferInstanceAs (Bd (l.1*l.1+l.2.1*l.2.1) _);have i2:Bd (wO l c) 673:=(inferInstance:Bd ((ftX l c-c.1)*(ftX l c-c.1)+(ftY l c-c.2.1)*(ftY l c-c.2.1)) _).mono (by decide);exact(inferInstance:Bd ((c.2.2-wO l c)/cr l) _).mono (by decide)
theorem F9 [BdL l][h:BdC c]:Bd (ftL l c) 163:=by
 obtain⟨f1,f2,_,_⟩:=ut (l:=l) (c:=c);exact(inferInstance:Bd ((ftX l c,ftY l c):Rat×Rat) _).mono (by decide)
theorem adV [BdL l][BdC c]:Bd (lcM l c) 1200∧Bd (lcN l c) 1200:=by
 obtain⟨f1,f2,_,_⟩:=ut (l:=l) (c:=c);obtain⟨d1,d2⟩:=abg (l:=l);have k:=L8 (l:=l) (c:=c);have n1:Bd (-qR l) 12:=inferInstance;have n2:Bd (-qZ l) 12:=inferInstance;exact⟨OW f1 n1 f2 n2 k (by decide),OW f1 d1 f2 d2 k (by decide)⟩
theorem tu [BdL l][BdC c]:(kX l c).length≤2∧∀p∈kX l c,Bd p 1200∧Rpd p:=by
 unfold kX;by_cases h0:eh l c<0
 ·rw[am5 h0];exact⟨by simp,fun p hp=>by cases hp⟩
 ·rw[am7 h0];by_cases h1:eh l c=0
  ·rw[am5 h1];have:=F9 (l:=l) (c:=c);refine⟨by simp,fun p hp=>?_⟩;have:p=atP (ftL l c):=by simpa using hp
   rw[this];exact⟨(inferInstance:Bd (atP (ftL l c)) _).mono (by decide),inferInstance⟩
  ·rw[am7 h1];obtain⟨q1,q2⟩:=adV (l:=l) (c:=c);have nn:Nn (eh l c):=⟨by grind⟩
   refine⟨by simp,fun p hp=>?_⟩;have:p=lcM l c∨p=lcN l c:=by simpa using hp
   rcases this with e|e<;>rw[e]
   ·exact⟨q1,SD⟩
   ·exact⟨q2,SD⟩
end
end
section
namespace RE
theorem ama(A B x y u v s:RE):A*(x+u*s)+B*(y+v*s)=(A*x+B*y)+(A*u+B*v)*s:=by grind
theorem alB(x y u v s p q:RE):(x+u*s-p)*(x+u*s-p)+(y+v*s-q)*(y+v*s-q)=((x-p)*(x-p)+(y-q)*(y-q))+((x-p)*u+(y-q)*v)*s+((x-p)*u+(y-q)*v)*s+(u*u+v*v)*(s*s):=by grind
theorem alk(b n r:RE):b*(r*n)=b*n*r:=by grind
theorem akJ(r n:RE):r*n*(r*n)=r*r*(n*n):=by grind
theorem amw(x y p q a b m n:RE):(x-a)*(x-a)+(y-b)*(y-b)=((x-p)*(x-p)+(y-q)*(y-q))+(a*a+b*b-m)-(p*p+q*q-n)-((1+1)*(a-p)*x+(1+1)*(b-q)*y)+(m-n):=by grind
theorem alc(a b n m:RE):n+a-b-(a-b)+(m-n)=m:=by grind
theorem pP(x u y v k:Rat):pR (vU x u y v k)=(v2 x u k,v2 y v k):=by
 unfold vU;rw[aaG (nW _ _ _ _ _),vR_mk,vR_mk]
section
variable {l c:Ln}
theorem Ij(hl:l.1≠0∨l.2.1≠0):0<cr l:=by
 have h:=oh hl;have h1:0≤cr l:=jc (l.1,l.2.1);grind
theorem Fy(hl:l.1≠0∨l.2.1≠0):eh l c*(cr l*cr l)=jG l c:=by
 have hn:=oh hl;have t:vlL l c.1 c.2.1/cr l*cr l=vlL l c.1 c.2.1:=anv hn;have k:(c.2.2-wO l c)/cr l*cr l=c.2.2-wO l c:=anv hn;unfold eh;rw[←Rat.mul_assoc,k];unfold wO ftX ftY jG;generalize vlL l c.1 c.2.1/cr l=s at*
 rw[←t];unfold cr;grind
theorem aeG(hl:l.1≠0∨l.2.1≠0):(eh l c<0↔jG l c<0)∧(eh l c=0↔jG l c=0):=by
 have hn:=Ij hl;have h2:0<cr l*cr l:=anA hn hn;have e:=Fy (c:=c) hl;rcases(by grind:eh l c<0∨eh l c=0∨0<eh l c)with h|h|h
 ·have:=anA (show 0< -eh l c by grind) h2;have e2: -eh l c*(cr l*cr l)= -jG l c:=by rw[Rat.neg_mul,e]
  rw[e2]at this;constructor<;>constructor<;>intro<;>grind
 ·rw[h,Rat.zero_mul]at e;constructor<;>constructor<;>intro<;>grind
 ·have:=anA h h2;rw[e]at this;constructor<;>constructor<;>intro<;>grind
theorem abr(hl:l.1≠0∨l.2.1≠0)(h0:0≤eh l c):rq (jG l c)=rq (eh l c)*of (cr l):=by
 have hn:=Ij hl
 have hr:0≤jG l c:=by
  rw[←Fy hl];exact anl h0 (anl (by grind) (by grind))
 refine EM _ _ (eT _) (bg (eT _) (fx.2 (by grind))) ?_;rw[akJ,cQ hr,cQ h0,←aG,←aG,Fy hl]
theorem Ax(hl:l.1≠0∨l.2.1≠0)(h0:0≤eh l c)(a b:Rat):v2 a b (eh l c)=v2 a (b/cr l) (jG l c):=by
 unfold v2;rw[abr hl h0,alk,←aG,anv (oh hl)]
theorem ndv(a b:Rat): -a/b= -(a/b):=by rw[apK,apK,Rat.neg_mul]
theorem F1(hl:l.1≠0∨l.2.1≠0)(v:PE):(∃p∈kX l c,pR p=v)↔∃p∈rP l c,pR p=v:=by
 obtain⟨s1,s2⟩:=aeG (c:=c) hl;unfold kX rP;by_cases h0:eh l c<0
 ·rw[am5 h0,am5 (s1.1 h0)];exact Iff.rfl
 ·rw[am7 h0,am7 (fun h=>h0 (s1.2 h))];by_cases h1:eh l c=0
  ·rw[am5 h1,am5 (s2.1 h1)];exact Iff.rfl
  ·rw[am7 h1,am7 (fun h=>h1 (s2.2 h))];have hp:0≤eh l c:=by grind
   have e:(pR (lcM l c)=pR (sM l c)∧pR (lcN l c)=pR (tk l c))∨(pR (lcM l c)=pR (tk l c)∧pR (lcN l c)=pR (sM l c)):=by
    unfold lcM lcN sM tk;rw[pP,pP,uD,uD,Ax hl hp,Ax hl hp,Ax hl hp,Ax hl hp];unfold qR qZ;cases Gw l
    ·left;simp only[cond_false,ndv,apN,and_self]
    ·right;simp only[cond_true,ndv,apN,and_self]
   have m2:∀{a b:Pt},(∃p∈[a,b],pR p=v)↔(pR a=v∨pR b=v):=fun{a b}=>by simp
   simp only[cond_false];cases decide (aX (sM l c) (tk l c)>0)
   ·simp only[cond_false];rw[m2,m2];rcases e with⟨e1,e2⟩|⟨e1,e2⟩<;>rw[e1,e2];exact Or.comm
   ·simp only[cond_true];rw[m2,m2];rcases e with⟨e1,e2⟩|⟨e1,e2⟩<;>rw[e1,e2];exact Or.comm
theorem FP(hl:l.1≠0∨l.2.1≠0){u v k:Rat}(hk:0≤k)(h1:l.1*u+l.2.1*v=0)(h2:wO l c+(u*u+v*v)*k=c.2.2):iK l (v2 (ftX l c) u k,v2 (ftY l c) v k)∧gC c (v2 (ftX l c) u k,v2 (ftY l c) v k):=by
 have hn:=oh hl;have t:vlL l c.1 c.2.1/cr l*cr l=vlL l c.1 c.2.1:=anv hn
 have e1:l.1*ftX l c+l.2.1*ftY l c=l.2.2:=by
  unfold ftX ftY;generalize vlL l c.1 c.2.1/cr l=s at*
  unfold cr vlL at t;grind
 have e3:(ftX l c-c.1)*u+(ftY l c-c.2.1)*v=0:=by
  unfold ftX ftY;generalize vlL l c.1 c.2.1/cr l=s at*
  have:(c.1-s*l.1-c.1)*u+(c.2.1-s*l.2.1-c.2.1)*v= -s*(l.1*u+l.2.1*v):=by grind
  rw[this,h1,Rat.mul_zero]
 unfold iK gC frm v2;dsimp only;constructor
 ·rw[ama,←aG,←aG,←aG,←aG,←of_add,←of_add,e1,h1,nj,zero_mul,add_zero]
 ·rw[alB,cQ hk,←of_sub,←of_sub,←aG,←aG,←aG,←aG,←aG,←aG,←of_add,←of_add,←of_add,e3,nj,zero_mul,add_zero,add_zero,←aG,←of_add];exact congrArg of h2
theorem ad6(_hl:l.1≠0∨l.2.1≠0):l.1*qR l+l.2.1*qZ l=0∧qR l*qR l+qZ l*qZ l=cr l:=by
 unfold qR qZ cr;cases Gw l
 ·simp only[cond_false];constructor<;>grind
 ·simp only[cond_true];constructor<;>grind
theorem II(hl:l.1≠0∨l.2.1≠0){p:Pt}(hp:p∈kX l c):iK l (pR p)∧gC c (pR p):=by
 have hn:=oh hl;have k:eh l c*cr l=c.2.2-wO l c:=anv hn;obtain⟨d1,d2⟩:=ad6 hl;unfold kX at hp;by_cases h0:eh l c<0
 ·rw[am5 h0]at hp;cases hp
 ·rw[am7 h0]at hp;by_cases h1:eh l c=0
  ·rw[am5 h1]at hp;have:p=atP (ftL l c):=by simpa using hp
   rw[this,oA];have:=FP (c:=c) (u:=0) (v:=0) (k:=0) hl (by decide) (by grind) (by rw[h1]at k;grind);rw[dD,dD]at this;exact this
  ·rw[am7 h1]at hp;have hk:0≤eh l c:=by grind
   have:p=lcM l c∨p=lcN l c:=by simpa using hp
   rcases this with e|e
   ·rw[e];unfold lcM;rw[pP];refine FP hl hk (by grind) ?_;rw[show-qR l* -qR l+ -qZ l* -qZ l=cr l by rw[←d2];grind,ao0,k];grind
   ·rw[e];unfold lcN;rw[pP];refine FP hl hk d1 ?_;rw[d2,ao0,k];grind
end
theorem Lq{c d:Ln}{v:PE}(hl:iK (ng c d) v)(hc:gC c v):gC d v:=by
 unfold iK ng qU at hl;unfold gC frm at*
 dsimp only at*
 have o2:of 2=1+1:=by
  rw[←CH,←of_add];exact congrArg of (by decide+kernel)
 rw[amw v.1 v.2 (of c.1) (of c.2.1) (of d.1) (of d.2.1) (of d.2.2) (of c.2.2),hc];simp only[of_sub,aG,of_add,o2]at hl;rw[hl,alc]
theorem aec{l m:Ln}{p:Pt}(hp:p∈m6 l m):iK l (pR p)∧iK m (pR p):=by
 unfold m6 at hp;by_cases h0:eg l m=0
 ·rw[am5 h0]at hp;cases hp
 ·rw[am7 h0]at hp;have:p=atP (mj l m/eg l m,mt l m/eg l m):=by simpa using hp
  rw[this,oA];have ex:mj l m/eg l m*eg l m=mj l m:=anv h0;have ey:mt l m/eg l m*eg l m=mt l m:=anv h0
  have key:∀a b q:Rat,a*mj l m+b*mt l m=q*eg l m→a*(mj l m/eg l m)+b*(mt l m/eg l m)=q:=fun a b q e=>by
   generalize mj l m/eg l m=x at*
   generalize mt l m/eg l m=y at*
   rw[←ex,←ey]at e;have:(a*x+b*y-q)*eg l m=0:=by grind
   rcases apk.1 this with h|h
   ·grind
   ·exact absurd h h0
  unfold iK;rw[←aG,←aG,←of_add,←aG,←aG,←of_add,key l.1 l.2.1 l.2.2 (by unfold mj mt eg;grind),key m.1 m.2.1 m.2.2 (by unfold mj mt eg;grind)];exact⟨rfl,rfl⟩
end RE
end
def gdM(c:BCU):Prop:=mG c∧gD (dC c) (frC (dC c))=true∧gD (dC c) (toC (dC c))=true
theorem gdM.gd{c:BCU}(h:gdM c):gdC c:=⟨h.1.1,h.2.1,h.2.2⟩
theorem gdN.m{c:BCU}(h:gdN c):gdM c:=⟨h.1,h.2.1,h.2.2.1⟩
theorem Mg(x:Dr):(ofL x).length≤2:=by
 unfold ofL;cases x.1%3==2
 ·cases x.1%3==1
  ·cases qb (drA x) (drB x) !=0<;>simp
  ·cases arcE (drA x) (drB x) (drC x) !=0<;>simp
 ·cases decide ((drB x).1≤0)
  ·unfold v5;simp
  ·simp
section
section
variable {α:Type} {lt:α→α→Prop} {f:α→α→Int}
theorem SQ(h:nQ lt):nQ (fun x y=>lt y x):=⟨h.irr,fun x y z a b=>h.tr z y x b a,fun x y=>by
 rcases h.tri x y with g|g|g
 ·exact .inr (.inr g)
 ·exact .inr (.inl g)
 ·exact .inl g⟩
theorem KY(h:vp lt f):vp (fun x y=>lt y x) (fun x y=> -f x y):=fun x y=>⟨fun g=>(by show-f x y= -1;rw[(h x y).2.2 g]),fun g=>(by show-f x y=0;rw[(h x y).2.1 g];rfl),fun g=>(by show-f x y=1;rw[(h x y).1 g];rfl)⟩
def aLt(lt:α→α→Prop)(u v:Bool×α):Prop:=(u.1=false∧v.1=true)∨(u.1=false∧v.1=false∧lt u.2 v.2)∨(u.1=true∧v.1=true∧lt v.2 u.2)
theorem Ql(h:nQ lt):nQ (aLt lt):=by
 refine⟨fun⟨a,u⟩ g=>?_,fun⟨a,u⟩ ⟨b,v⟩ ⟨c,w⟩ g g'=>?_,fun⟨a,u⟩ ⟨b,v⟩=>?_⟩
 ·rcases g with⟨g1,g2⟩|⟨_,_,g⟩|⟨_,_,g⟩
  ·rw[g1]at g2;cases g2
  ·exact h.irr _ g
  ·exact h.irr _ g
 ·unfold aLt at*
  cases a<;>cases b<;>cases c<;>simp only[true_and,false_and,and_false,aqq,aqi,false_or,reduceCtorEq,and_self]at g g' ⊢
  ·exact h.tr _ _ _ g g'
  ·exact h.tr _ _ _ g' g
 ·unfold aLt;cases a<;>cases b<;>simp only[true_and,false_and,and_false,aqq,aqi,false_or,reduceCtorEq,and_self,or_true,true_or]
  ·rcases h.tri u v with g|g|g
   ·exact .inl g
   ·exact .inr (.inl (by rw[g]))
   ·exact .inr (.inr g)
  ·rcases h.tri u v with g|g|g
   ·exact .inr (.inr g)
   ·exact .inr (.inl (by rw[g]))
   ·exact .inl g
theorem R9(h:vp lt f):vp (aLt lt) (jP f):=fun⟨a,u⟩ ⟨b,v⟩=>by
 refine⟨fun g=>?_,fun g=>?_,fun g=>?_⟩
 ·unfold aLt at g;unfold jP;cases a<;>cases b<;>simp only[true_and,false_and,and_false,aqq,aqi,false_or,reduceCtorEq,and_self]at g
  ·exact(h u v).1 g
  ·rfl
  ·show-f u v= -1;rw[(h u v).2.2 g]
 ·injection g with g1 g2;subst g1 g2;unfold jP;have:=(h u u).2.1 rfl;cases a
  ·exact this
  ·show-f u u=0;rw[this];rfl
 ·unfold aLt at g;unfold jP;cases a<;>cases b<;>simp only[true_and,false_and,and_false,aqq,aqi,false_or,reduceCtorEq,and_self]at g
  ·exact(h u v).2.2 g
  ·rfl
  ·show-f u v=1;rw[(h u v).1 g];rfl
def cLt(lt:α→α→Prop)(o u v:α):Prop:=(¬lt u o∧lt v o)∨((lt u o↔lt v o)∧lt u v)
theorem Xk(h:nQ lt)(o:α):nQ (cLt lt o):=by
 refine⟨fun u g=>?_,fun u v w g g'=>?_,fun u v=>?_⟩
 ·rcases g with⟨g1,g2⟩|⟨_,g⟩
  ·exact g1 g2
  ·exact h.irr _ g
 ·rcases g with⟨g1,g2⟩|⟨g1,g2⟩<;>rcases g' with⟨g3,g4⟩|⟨g3,g4⟩
  ·exact absurd g2 g3
  ·exact .inl ⟨g1,g3.1 g2⟩
  ·exact .inl ⟨fun e=>g3 (g1.1 e),g4⟩
  ·exact .inr ⟨g1.trans g3,h.tr _ _ _ g2 g4⟩
 ·by_cases e1:lt u o<;>by_cases e2:lt v o
  ·rcases h.tri u v with g|g|g
   ·exact .inl (.inr ⟨⟨fun _=>e2,fun _=>e1⟩,g⟩)
   ·exact .inr (.inl g)
   ·exact .inr (.inr (.inr ⟨⟨fun _=>e1,fun _=>e2⟩,g⟩))
  ·exact .inr (.inr (.inl ⟨e2,e1⟩))
  ·exact .inl (.inl ⟨e1,e2⟩)
  ·rcases h.tri u v with g|g|g
   ·exact .inl (.inr ⟨⟨fun e=>absurd e e1,fun e=>absurd e e2⟩,g⟩)
   ·exact .inr (.inl g)
   ·exact .inr (.inr (.inr ⟨⟨fun e=>absurd e e2,fun e=>absurd e e1⟩,g⟩))
theorem wR(hl:nQ lt)(h:vp lt f)(x y:α):decide (f x y<0)=true↔lt x y:=by
 rw[aob];rcases hl.tri x y with g|g|g
 ·rw[(h x y).1 g];exact⟨fun _=>g,fun _=>by decide⟩
 ·rw[(h x y).2.1 g];exact⟨fun e=>absurd e (by decide),fun e=>absurd e (by rw[g];exact hl.irr _)⟩
 ·rw[(h x y).2.2 g];exact⟨fun e=>absurd e (by decide),fun e=>absurd (hl.tr _ _ _ e g) (hl.irr _)⟩
theorem DQ(hl:nQ lt)(h:vp lt f)(o:Bool×α):vp (cLt (aLt lt) o) (j8 f o):=fun u v=>by
 have ha:=R9 h;have n:=wR (Ql hl) ha
 have tf:∀x,¬aLt lt x o→decide (jP f x o<0)=false:=fun x g=>by
  cases e:decide (jP f x o<0)
  ·rfl
  ·exact absurd ((n x o).1 e) g
 unfold j8;refine⟨fun g=>?_,fun g=>?_,fun g=>?_⟩
 ·rcases g with⟨g1,g2⟩|⟨g1,g2⟩
  ·rw[tf u g1,(n v o).2 g2];rfl
  ·have e:(decide (jP f u o<0)==decide (jP f v o<0))=true:=by
    by_cases e:aLt lt u o
    ·rw[(n u o).2 e,(n v o).2 (g1.1 e)];rfl
    ·rw[tf u e,tf v (fun e'=>e (g1.2 e'))];rfl
   rw[e];exact(ha u v).1 g2
 ·subst g;rw[apY];exact(ha u u).2.1 rfl
 ·rcases g with⟨g1,g2⟩|⟨g1,g2⟩
  ·rw[tf v g1,(n u o).2 g2];rfl
  ·have e:(decide (jP f u o<0)==decide (jP f v o<0))=true:=by
    by_cases e:aLt lt u o
    ·rw[(n u o).2 e,(n v o).2 (g1.2 e)];rfl
    ·rw[tf u e,tf v (fun e'=>e (g1.1 e'))];rfl
   rw[e];exact(ha u v).2.2 g2
end
def Sp(c:Cv)(p:Pt):Prop:=Rpd p∧gD c p=true
structure Crp (c:Cv):Prop where
 f:Sp c (frC c)
 t:Sp c (toC c)
 q:c.1=true→0<(ciC c).2.2
 l:c.1=false→(lnC c).1≠0∨(lnC c).2.1≠0
theorem Ay{c:BCU}(h:gdC c):Crp (dC c):=by
 obtain⟨h1,h2,h3⟩:=h;exact⟨⟨wX h1.2.2.1,h2⟩,⟨wX h1.2.2.2,h3⟩,fun e=>(h1.1 e).2,fun e=>(h1.2.1 e).2⟩
open RE in
theorem Crp.e{c:Cv}(h:Crp c)(hne:aX (frC c) (toC c)≠0):GdE c:=by
 have hf:=h.f.1;have ht:=h.t.1;have s:=fun p (hp:Sp c p)=>hp.2;refine⟨hf,ht,fun e=>hne (cmpP_0.2 e),fun e=>?_,fun e=>?_⟩
 ·have h2:=h.f.2;have h3:=h.t.2;unfold gD at h2 h3;rw[e]at h2 h3;exact⟨h.q e,ins_on (an3.1 h2),ins_on (an3.1 h3)⟩
 ·have h2:=h.f.2;have h3:=h.t.2;unfold gD at h2 h3;rw[e]at h2 h3;exact⟨h.l e,Gb (an3.1 h2),Gb (an3.1 h3)⟩
namespace RE
theorem FO(v w:RE):((v-(w))*(v-(w)))+((w*w-(v*v)))+2*((w-(0))*(v-(w)))=0:=by grind
theorem Ra(v w:RE)(h1:v*v=w*w)(_h2:0≤v)(h3:0≤w):v≤w:=fun hg=>far (aK (aK (mul_pos (aL hg) (aL hg)) (aF (ow h1))) (iH (by decide+kernel:(0:Rat)<2) (bg (aF h3) (le_of_lt (aL hg))))) (FO v w)
theorem G9(v w:RE):((w-(v))*(w-(v)))+((v*v-(w*w)))+2*((v-(0))*(w-(v)))=0:=by grind
theorem LV(v w:RE)(h1:v*v=w*w)(h2:0≤v)(_h3:0≤w):w≤v:=fun hg=>far (aK (aK (mul_pos (aL hg) (aL hg)) (aF (lT h1))) (iH (by decide+kernel:(0:Rat)<2) (bg (aF h2) (le_of_lt (aL hg))))) (G9 v w)
theorem T8(v w:RE)(h1:v*v=w*w)(h2:0≤v)(h3:0≤w):v=w:=le_antisymm (Ra v w h1 h2 h3) (LV v w h1 h2 h3)
theorem C3(v w:RE):((v-(w))*(v-(w)))+((v*v-(w*w)))+2*((0-(v))*(v-(w)))=0:=by grind
theorem Kr(v w:RE)(h1:v*v=w*w)(h2:v≤0)(_h3:w≤0):v≤w:=fun hg=>far (aK (aK (mul_pos (aL hg) (aL hg)) (aF (lT h1))) (iH (by decide+kernel:(0:Rat)<2) (bg (aF h2) (le_of_lt (aL hg))))) (C3 v w)
theorem Eh(v w:RE):((w-(v))*(w-(v)))+((w*w-(v*v)))+2*((0-(w))*(w-(v)))=0:=by grind
theorem JZ(v w:RE)(h1:v*v=w*w)(_h2:v≤0)(h3:w≤0):w≤v:=fun hg=>far (aK (aK (mul_pos (aL hg) (aL hg)) (aF (ow h1))) (iH (by decide+kernel:(0:Rat)<2) (bg (aF h3) (le_of_lt (aL hg))))) (Eh v w)
theorem RK(v w:RE)(h1:v*v=w*w)(h2:v≤0)(h3:w≤0):v=w:=le_antisymm (Kr v w h1 h2 h3) (JZ v w h1 h2 h3)
theorem acW(u v w Q:RE)(h1:u*u+v*v=Q)(h2:u*u+w*w=Q):v*v≤w*w:=by grind
theorem abc(u v w Q:RE)(h1:u*u+v*v=Q)(h2:u*u+w*w=Q):w*w≤v*v:=by grind
theorem agi(u v w Q:RE)(h1:u*u+v*v=Q)(h2:u*u+w*w=Q):v*v=w*w:=le_antisymm (acW u v w Q h1 h2) (abc u v w Q h1 h2)
theorem LN(a b:RE)(h1: -a= -b):a≤b:=by grind
theorem QQ(a b:RE)(h1: -a= -b):b≤a:=by grind
theorem Tb(a b:RE)(h1: -a= -b):a=b:=le_antisymm (LN a b h1) (QQ a b h1)
theorem Ds{u v:RE}:(upA (cls u v)=true→0≤v)∧(upA (cls u v)=false→v≤0)∧(ufA (cls u v)=true→0≤v)∧(ufA (cls u v)=false→v≤0):=by
 unfold cls upA ufA;rcases bi v with⟨h,e⟩|⟨h,e⟩|⟨h,e⟩<;>rw[e]
 ·exact⟨fun _=>le_of_lt h,fun g=>(by cases g),fun _=>le_of_lt h,fun g=>(by cases g)⟩
 ·rw[h];exact⟨fun _=>le_refl _,fun _=>le_refl _,fun _=>le_refl _,fun _=>le_refl _⟩
 ·exact⟨fun g=>(by cases g),fun _=>le_of_lt h,fun g=>(by cases g),fun _=>le_of_lt h⟩
theorem HJ{c:Ln}{p q:Pt}(hp:onCi c p)(hq:onCi c q)(hx:pX p=pX q)(g:(0≤pY p-of c.2.1∧0≤pY q-of c.2.1)∨(pY p-of c.2.1≤0∧pY q-of c.2.1≤0)):pR p=pR q:=by
 unfold onCi at hp hq;rw[hx]at hp;have e:=agi _ _ _ _ hp hq;refine aoq hx ?_;rcases g with⟨a,b⟩|⟨a,b⟩
 ·exact jA _ _ _ (T8 _ _ e a b)
 ·exact jA _ _ _ (RK _ _ e a b)
end RE
open RE in
theorem jV{c:Cv}(ha:c.1=true){p:Pt}(hp:Sp c p):onCi (ciC c) p:=by
 have:=hp.1;have g:=hp.2;unfold gD at g;rw[ha]at g;exact ins_on (an3.1 g)
open RE in
theorem JG{c:Cv}(h:Crp c)(ha:c.1=true):∃κ:Pt→Bool×RE,(∀d:Cv,d.1=true→ciC d=ciC c→cwC d=cwC c→Sp c (frC d)→∀p q,Sp c p→Sp c q→dk d p q=j8 (fun x y:RE=>sg (x-y)) (κ (frC d)) (κ p) (κ q))∧∀p q,Sp c p→Sp c q→(κ p=κ q↔aX p q=0):=by
 cases hw:cwC c
 ·refine⟨fun p=>(upR (ciC c) p,pX p),fun d d1 d2 d3 hd p q hp hq=>?_,fun p q hp hq=>?_⟩
  ·have i1:=hd.1;have:=hp.1;have:=hq.1;have e:∀{x y:Pt},Rpd x→Rpd y→aW (xP x) (xP y)=sg (pX x-pX y):=fun{x y} _ _=>by rw[cmpT_re lW lW,tH,tH]
   unfold dk;rw[d1,d3,cond_true,cond_false,d2];exact fL (e hp.1 i1) (e hq.1 i1) (e hp.1 hq.1)
  ·have r1:=hp.1;have r2:=hq.1;rw[cmpP_0];constructor
   ·intro e;injection e with e1 e2;rw[ic,ic]at e1;refine HJ (jV ha hp) (jV ha hq) e2 ?_;cases g:upA (cls (pX p-of (ciC c).1) (pY p-of (ciC c).2.1))
    ·exact .inr ⟨Ds.2.1 g,Ds.2.1 (e1.symm.trans g)⟩
    ·exact .inl ⟨Ds.1 g,Ds.1 (e1.symm.trans g)⟩
   ·intro e;have e1:pX p=pX q:=congrArg Prod.fst e;have e2:pY p=pY q:=congrArg Prod.snd e;show(upR (ciC c) p,pX p)=(upR (ciC c) q,pX q)
    rw[ic,ic,e1,e2]
 ·refine⟨fun p=>(upR (flC (ciC c)) (flP p),-pX p),fun d d1 d2 d3 hd p q hp hq=>?_,fun p q hp hq=>?_⟩
  ·have i1:=hd.1;have:=hp.1;have:=hq.1;have e:∀{x y:Pt},Rpd x→Rpd y→aW (xP (flP x)) (xP (flP y))=sg (-pX x- -pX y):=fun{x y} _ _=>by rw[cmpT_re lW lW,tH,tH,Dx,Dx]
   unfold dk;rw[d1,d3,cond_true,cond_true,d2];exact fL (e hp.1 i1) (e hq.1 i1) (e hp.1 hq.1)
  ·have r1:=hp.1;have r2:=hq.1;rw[cmpP_0];have u1:=vJ (h.q ha) (jV ha hp);have u2:=vJ (h.q ha) (jV ha hq);constructor
   ·intro e;injection e with e1 e2;rw[u1,u2]at e1;refine HJ (jV ha hp) (jV ha hq) (Tb _ _ e2) ?_;cases g:ufA (cls (pX p-of (ciC c).1) (pY p-of (ciC c).2.1))
    ·exact .inr ⟨Ds.2.2.2 g,Ds.2.2.2 (e1.symm.trans g)⟩
    ·exact .inl ⟨Ds.2.2.1 g,Ds.2.2.1 (e1.symm.trans g)⟩
   ·intro e;have e1:pX p=pX q:=congrArg Prod.fst e;have e2:pY p=pY q:=congrArg Prod.snd e;show(upR (flC (ciC c)) (flP p),-pX p)=(upR (flC (ciC c)) (flP q),-pX q)
    rw[u1,u2,e1,e2]
open RE in
theorem um{c:Cv}(h:Crp c):∃(K:Type) (lt:K→K→Prop) (κ:Pt→K) (f:K→K→Int),nQ lt∧vp lt f∧(∀p q,Sp c p→Sp c q→dk c p q=f (κ p) (κ q))∧∀p q,Sp c p→Sp c q→(κ p=κ q↔aX p q=0):=by
 have hF:=h.f;cases ha:c.1
 ·cases hd:decide (aX (frC c) (toC c)>0)
  ·refine⟨PE,abn,pR,lxc,jS,iz,fun p q hp hq=>?_,fun p q hp hq=>?_⟩
   ·have:=hp.1;have:=hq.1;unfold dk;rw[ha,hd,cond_false,cond_false,jl]
   ·have:=hp.1;have:=hq.1;exact cmpP_0.symm
  ·refine⟨PE,_,pR,_,SQ jS,KY iz,fun p q hp hq=>?_,fun p q hp hq=>?_⟩
   ·have:=hp.1;have:=hq.1;unfold dk;rw[ha,hd,cond_false,cond_true,jl]
   ·have:=hp.1;have:=hq.1;exact cmpP_0.symm
 ·obtain⟨κ,h1,h2⟩:=JG h ha;exact⟨Bool×RE,_,κ,_,Xk (Ql lt_lin) (κ (frC c)),DQ lt_lin sg_cmpO _,h1 c ha rfl rfl hF,h2⟩
structure Ord (c:Cv):Prop where
 tr:∀{p q r},Sp c p→Sp c q→Sp c r→dk c p q<0→dk c q r<0→dk c p r<0
 tri:∀{p q},Sp c p→Sp c q→dk c p q<0∨aX p q=0∨dk c q p<0
 irr:∀{p q},Sp c p→Sp c q→aX p q=0→dk c p q=0
 asy:∀{p q},Sp c p→Sp c q→dk c p q<0→0<dk c q p
theorem Cb{c:Cv}(h:Crp c):Ord c:=by
 obtain⟨K,lt,κ,f,hl,hc,ho,hk⟩:=um h
 have n:∀{p q},Sp c p→Sp c q→(dk c p q<0↔lt (κ p) (κ q)):=fun{p q} hp hq=>by
  rw[ho p q hp hq,←aob (p:=f (κ p) (κ q)<0)];exact wR hl hc _ _
 refine⟨fun{p q r} hp hq hr g g'=>?_,fun{p q} hp hq=>?_,fun{p q} hp hq g=>?_,fun{p q} hp hq g=>?_⟩
 ·rw[n hp hr];exact hl.tr _ _ _ ((n hp hq).1 g) ((n hq hr).1 g')
 ·rw[n hp hq,n hq hp,←hk p q hp hq];exact hl.tri _ _
 ·rw[ho p q hp hq,(hc _ _).2.1 ((hk p q hp hq).2 g)]
 ·rw[ho q p hq hp,(hc _ _).2.2 ((n hp hq).1 g)];decide
def Spb(c:Cv)(x:BP):Prop:=Sp c (dec x)
theorem Nx{c:Cv}(o:Ord c){x:BP}(hx:Spb c x):∀{l:List BP},(∀y∈l,Spb c y)→l.Pairwise (fun a b=>dk c (dec a) (dec b)<0)→(gP c l x).Pairwise (fun a b=>dk c (dec a) (dec b)<0)
 |[],_,_=>by simp[gP]
 |y::r,hl,hp=>by
  have hy:=hl y (by simp);have hr:∀z∈r,Spb c z:=fun z hz=>hl z (anj _ hz);obtain⟨p1,p2⟩:=anK.1 hp;simp only[gP];by_cases h1:dk c (dec y) (dec x)<0
  ·rw[am5 h1,cond_true];refine anK.2 ⟨fun z hz=>?_,Nx o hx hr p2⟩;rcases pE hz with g|g
   ·exact p1 z g
   ·rw[g];exact h1
  ·rw[am7 h1,cond_false];by_cases h2:aX (dec y) (dec x)=0
   ·rw[an3.2 h2,cond_true];exact hp
   ·rw[apr.2 h2,cond_false]
    have h3:dk c (dec x) (dec y)<0:=by
     rcases o.tri hy hx with g|g|g
     ·exact absurd g h1
     ·exact absurd g h2
     ·exact g
    refine anK.2 ⟨fun z hz=>?_,hp⟩;rcases ann.1 hz with g|g
    ·rw[g];exact h3
    ·exact o.tr hx hy (hr z g) h3 (p1 z g)
theorem Iq{c:Cv}(o:Ord c):∀{l out:List BP},(∀y∈l,Spb c y)→(∀y∈out,Spb c y)→out.Pairwise (fun a b=>dk c (dec a) (dec b)<0)→(l.foldl (gP c) out).Pairwise (fun a b=>dk c (dec a) (dec b)<0)
 |[],_,_,_,h=>h
 |x::l,out,hl,ho,h=>Iq o (l:=l) (fun y hy=>hl y (anj _ hy)) (fun y hy=>by
   rcases pE hy with g|g
   ·exact ho y g
   ·rw[g];exact hl x (by simp)) (Nx o (hl x (by simp)) ho h)
theorem ach{c:Cv}(o:Ord c){l:List BP}(hl:∀y∈l,Spb c y):(kI c l).Pairwise (fun a b=>dk c (dec a) (dec b)<0):=Iq o hl (fun y hy=>by cases hy) List.Pairwise.nil
theorem gdN.e{c:BCU}(h:gdN c):RE.GdE (dC c):=(Ay h.gd).e h.2.2.2
end
theorem WD{α:Type}{lt:α→α→Prop}{f:α→α→Int}(hl:nQ lt)(h:vp lt f)(x y:α):f x y≤0↔¬lt y x:=by
 rcases hl.tri x y with g|g|g
 ·rw[(h x y).1 g];exact⟨fun _ e=>hl.irr _ (hl.tr _ _ _ e g),fun _=>by decide⟩
 ·rw[(h x y).2.1 g];exact⟨fun _ e=>by rw[g]at e;exact hl.irr _ e,fun _=>by decide⟩
 ·rw[(h x y).2.2 g];exact⟨fun e=>absurd e (by decide),fun e=>absurd g e⟩
theorem lE{α:Type}{lt:α→α→Prop}{f:α→α→Int}(hl:nQ lt)(h:vp lt f)(x y:α):f x y<0↔lt x y:=by
 rw[←aob (p:=f x y<0)];exact wR hl h x y
structure ak3 (c:Cv):Prop extends Ord c where
 le:∀{p q},Sp c p→Sp c q→(dk c p q≤0↔¬dk c q p<0)
 lt:∀{p q r},Sp c p→Sp c q→Sp c r→¬dk c q p<0→¬dk c r q<0→¬dk c r p<0
theorem TH{c:Cv}(h:Crp c):ak3 c:=by
 obtain⟨K,lt,κ,f,hl,hc,ho,hk⟩:=um h;refine⟨Cb h,fun{p q} hp hq=>?_,fun{p q r} hp hq hr=>?_⟩
 ·rw[ho p q hp hq,ho q p hq hp,WD hl hc,lE hl hc]
 ·rw[ho q p hq hp,ho r q hr hq,ho r p hr hp,lE hl hc,lE hl hc,lE hl hc];intro g g' e;rcases hl.tri (κ q) (κ p)with a|a|a
  ·exact g a
  ·exact g' (by rw[a];exact e)
  ·exact g' (hl.tr _ _ _ e a)
theorem wW{c:Cv}(h:Crp c){p:Pt}(hp:Rpd p):onR c p=true↔gD c p=true∧¬dk c p (frC c)<0∧¬dk c (toC c) p<0:=by
 have o:=TH h;unfold onR;rw[anh,anh,aob,aob];refine and_congr_right fun hs=>?_;rw[o.le h.f ⟨hp,hs⟩,o.le ⟨hp,hs⟩ h.t]
theorem zi{c:Cv}{x y:BP}:∀{r:List BP},y∈r→y∈gP c r x
 |[],h=>by cases h
 |z::r,h=>by
  simp only[gP];cases decide (dk c (dec z) (dec x)<0)
  ·cases aX (dec z) (dec x)==0
   ·exact anj _ h
   ·exact h
  ·rcases ann.1 h with e|e
   ·rw[e];exact .head _
   ·exact anj _ (zi e)
theorem ET{c:Cv}{y:BP}:∀{l r:List BP},y∈r→y∈l.foldl (gP c) r
 |[],_,h=>h
 |_::l,_,h=>ET (l:=l) (zi h)
theorem afM{c:BCU}(h:gdN c):dk (dC c) (frC (dC c)) (toC (dC c))<0:=by
 have k:=Ay h.gd;have hne:aX (frC (dC c)) (toC (dC c))≠0:=h.2.2.2;cases ha:(dC c).1
 ·unfold dk;rw[ha,cond_false];cases hd:decide (aX (frC (dC c)) (toC (dC c))>0)
  ·have:=anZ hd;rw[cond_false];omega
  ·have:=am8 hd;rw[cond_true];omega
 ·rcases(Cb k).tri k.f k.t with g|g|g
  ·exact g
  ·exact absurd g hne
  ·obtain⟨κ,h1,h2⟩:=JG k ha;have hl:=Ql RE.lt_lin;rw[h1 (dC c) ha rfl rfl k.f _ _ k.t k.f,lE (Xk hl _) (DQ RE.lt_lin RE.sg_cmpO _)]at g;rcases g with⟨_,g⟩|⟨g1,g2⟩
   ·exact absurd g (hl.irr _)
   ·exact absurd (g1.1 g2) (hl.irr _)
theorem adK{c:BCU}(h:gdN c):onR (dC c) (frC (dC c))=true∧onR (dC c) (toC (dC c))=true:=by
 have k:=Ay h.gd;have o:=Cb k
 have irr:∀{q},Sp (dC c) q→dk (dC c) q q=0:=fun{q} hq=>by
  have:=hq.1;exact o.irr hq hq (RE.cmpP_0.2 rfl)
 have tf:=o.asy k.f k.t (afM h);rw[wW k k.f.1,wW k k.t.1,irr k.f,irr k.t];exact⟨⟨k.f.2,by omega,by omega⟩,k.t.2,by omega,by omega⟩
def BD(c:Cv)(p q:Pt):Int:=bif c.1 then(bif cwC c then-(gI aW (ptd (ciC c) (toC c)) (ptd (ciC c) p) (ptd (ciC c) q))else gI aW (ptd (ciC c) (frC c)) (ptd (ciC c) p) (ptd (ciC c) q))else aX p q*aX (toC c) (frC c)
namespace RE
theorem Up:∀kF kP kQ:Fin 4,∀iF iP iQ:Fin 3,FJ kF.1 iF.1 kP.1 iP.1 kQ.1 iQ.1=true→
  gI cI (upA kF.1,iF.1) (upA kP.1,iP.1) (upA kQ.1,iQ.1)=j8 cI (upA kF.1,iF.1) (upA kP.1,iP.1) (upA kQ.1,iQ.1):=by decide+kernel
theorem aeb:∀kF kT:Fin 4,∀iF iT:Fin 4,(mU kF.1 iF.1 kT.1 iT.1&&mU kT.1 iT.1 kF.1 iF.1)=true→∀kP iP:Fin 4,(mU kF.1 iF.1 kP.1 iP.1&&mU kP.1 iP.1 kF.1 iF.1&&mU kT.1 iT.1 kP.1 iP.1&&mU kP.1 iP.1 kT.1 iT.1&&decide (gI cI (upA kT.1,iT.1) (upA kP.1,iP.1) (upA kF.1,iF.1)≤0))=true→
  ∀kQ iQ:Fin 4,(mU kF.1 iF.1 kQ.1 iQ.1&&mU kQ.1 iQ.1 kF.1 iF.1&&mU kT.1 iT.1 kQ.1 iQ.1&&mU kQ.1 iQ.1 kT.1 iT.1&&mU kP.1 iP.1 kQ.1 iQ.1&&mU kQ.1 iQ.1 kP.1 iP.1&&decide (gI cI (upA kT.1,iT.1) (upA kQ.1,iQ.1) (upA kF.1,iF.1)≤0))=true→
  -(gI cI (upA kT.1,iT.1) (upA kP.1,iP.1) (upA kQ.1,iQ.1))=j8 dI (ufA kF.1,iF.1) (ufA kP.1,iP.1) (ufA kQ.1,iQ.1):=by decide+kernel
theorem abp{ci:Ln}{F P Q:Pt}[Rpd F][Rpd P][Rpd Q](hQ:0<ci.2.2)(hF:onCi ci F)(hP:onCi ci P)(hq:onCi ci Q):
  gI aW (ptd ci F) (ptd ci P) (ptd ci Q)=j8 aW (ptd ci F) (ptd ci P) (ptd ci Q):=by
 have mF:pX F∈[pX F,pX P,pX Q]:=by simp
 have mP:pX P∈[pX F,pX P,pX Q]:=by simp
 have mQ:pX Q∈[pX F,pX P,pX Q]:=by simp
 have h0:0<of ci.2.2:=ib hQ
 have hcon:FJ (cls (pX F-of ci.1) (pY F-of ci.2.1)) (rk (fun a b:RE=>a<b) [pX F,pX P,pX Q] (pX F)) (cls (pX P-of ci.1) (pY P-of ci.2.1)) (rk (fun a b:RE=>a<b) [pX F,pX P,pX Q] (pX P)) (cls (pX Q-of ci.1) (pY Q-of ci.2.1)) (rk (fun a b:RE=>a<b) [pX F,pX P,pX Q] (pX Q))=true:=by
  unfold FJ;rw[df h0 hF hP mF mP,df h0 hP hF mP mF,df h0 hF hq mF mQ,df h0 hq hF mQ mF,df h0 hP hq mP mQ,df h0 hq hP mQ mP];rfl
 have a:=Up ⟨_,gQ (pX F-of ci.1) (pY F-of ci.2.1)⟩ ⟨_,gQ (pX P-of ci.1) (pY P-of ci.2.1)⟩ ⟨_,gQ (pX Q-of ci.1) (pY Q-of ci.2.1)⟩ ⟨_,iN lt_lin mF⟩ ⟨_,iN lt_lin mP⟩ ⟨_,iN lt_lin mQ⟩ hcon;simp only at a;unfold ptd;rw[ic,ic,ic,gS (fk mP mF) (fk mQ mF) (fk mP mQ),fL (fk mP mF) (fk mQ mF) (fk mP mQ)];exact a
theorem aft{ci:Ln}{F T P Q:Pt}[Rpd F][Rpd T][Rpd P][Rpd Q](hQ:0<ci.2.2)(hF:onCi ci F)(hT:onCi ci T)(hP:onCi ci P)(hq:onCi ci Q)
  (oP:decide (gI aW (ptd ci T) (ptd ci P) (ptd ci F)≤0)=true) (oQ:decide (gI aW (ptd ci T) (ptd ci Q) (ptd ci F)≤0)=true):
  -(gI aW (ptd ci T) (ptd ci P) (ptd ci Q))=j8 aW (ptd (flC ci) (flP F)) (ptd (flC ci) (flP P)) (ptd (flC ci) (flP Q)):=by
 have mF:pX F∈[pX F,pX T,pX P,pX Q]:=by simp
 have mT:pX T∈[pX F,pX T,pX P,pX Q]:=by simp
 have mP:pX P∈[pX F,pX T,pX P,pX Q]:=by simp
 have mQ:pX Q∈[pX F,pX T,pX P,pX Q]:=by simp
 have h0:0<of ci.2.2:=ib hQ;revert oP oQ;unfold ptd;rw[ic,ic,ic,ic,vJ hQ hF,vJ hQ hP,vJ hQ hq,gS (fk mP mT) (fk mF mT) (fk mP mF),gS (fk mQ mT) (fk mF mT) (fk mQ mF),gS (fk mP mT) (fk mQ mT) (fk mP mQ),fL (nJ mP mF) (nJ mQ mF) (nJ mP mQ)];intro oP oQ;refine aeb ⟨_,gQ (pX F-of ci.1) (pY F-of ci.2.1)⟩ ⟨_,gQ (pX T-of ci.1) (pY T-of ci.2.1)⟩ ⟨_,iN lt_lin mF⟩ ⟨_,iN lt_lin mT⟩ ?_ ⟨_,gQ (pX P-of ci.1) (pY P-of ci.2.1)⟩ ⟨_,iN lt_lin mP⟩ ?_ ⟨_,gQ (pX Q-of ci.1) (pY Q-of ci.2.1)⟩ ⟨_,iN lt_lin mQ⟩ ?_
 ·simp only;rw[df h0 hF hT mF mT,df h0 hT hF mT mF];rfl
 ·simp only;rw[df h0 hF hP mF mP,df h0 hP hF mP mF,df h0 hT hP mT mP,df h0 hP hT mP mT,oP];rfl
 ·simp only;rw[df h0 hF hq mF mQ,df h0 hq hF mQ mF,df h0 hT hq mT mQ,df h0 hq hT mQ mT,df h0 hP hq mP mQ,df h0 hq hP mQ mP,oQ];rfl
theorem Km{p q:Pt}[Rpd p][Rpd q]:aX p q= -aX q p:=by
 rw[jl,jl];rcases jS.tri (pR p) (pR q)with h|h|h
 ·rw[(iz _ _).1 h,(iz _ _).2.2 h]
 ·rw[h,(iz (pR q) (pR q)).2.1 rfl];rfl
 ·rw[(iz _ _).2.2 h,(iz _ _).1 h];rfl
theorem ord_eq{c:Cv}(h:Crp c)(hne:aX (frC c) (toC c)≠0){p q:Pt}(hp:Rpd p)(hq:Rpd q)(op:onP c p=true)(oq:onP c q=true):BD c p q=dk c p q:=by
 have hf:=h.f.1;have ht:=h.t.1;unfold onP at op oq;obtain⟨sp,rp⟩:=anh.1 op;obtain⟨sq,rq⟩:=anh.1 oq;unfold BD dk;unfold ii at rp rq;cases ha:c.1
 ·rw[cond_false,cond_false,Km (p:=toC c)];have hb:=wA (frC c) (toC c);by_cases hd:aX (frC c) (toC c)>0
  ·rw[am5 hd,cond_true,show aX (frC c) (toC c)=1 by omega];omega
  ·rw[am7 hd,cond_false,show aX (frC c) (toC c)= -1 by omega];omega
 ·rw[ha,cond_true]at rp rq;rw[cond_true,cond_true];have q0:=h.q ha;have oF:=jV ha h.f;have oT:=jV ha h.t;have oP:=jV ha ⟨hp,sp⟩;have oQ:=jV ha ⟨hq,sq⟩;unfold ccF ccT at rp rq;cases hw:cwC c
  ·rw[cond_false,cond_false];exact abp q0 oF oP oQ
  ·rw[hw,cond_true,cond_true]at rp rq;rw[cond_true,cond_true];exact aft q0 oF oT oP oQ rp rq
end RE
theorem Ah{K:Type}{lt:K→K→Prop}(h:nQ lt):∀{A B:List K},A.Pairwise lt→B.Pairwise lt→(∀x,x∈A↔x∈B)→A=B
 |[],[],_,_,_=>rfl
 |[],b::B,_,_,e=>absurd ((e b).2 (by simp)) (by simp)
 |a::A,[],_,_,e=>absurd ((e a).1 (by simp)) (by simp)
 |a::A,b::B,pa,pb,e=>by
  obtain⟨a1,a2⟩:=anK.1 pa;obtain⟨b1,b2⟩:=anK.1 pb
  have ab:a=b:=by
   rcases ann.1 ((e a).1 (by simp))with g|g
   ·exact g
   ·rcases ann.1 ((e b).2 (by simp))with k|k
    ·exact k.symm
    ·exact absurd (h.tr _ _ _ (a1 b k) (b1 a g)) (h.irr a)
  subst ab;rw[Ah h a2 b2 fun x=>⟨fun hx=>?_,fun hx=>?_⟩]
  ·rcases ann.1 ((e x).1 (anj _ hx))with g|g
   ·rw[g]at hx;exact absurd (a1 a hx) (h.irr a)
   ·exact g
  ·rcases ann.1 ((e x).2 (anj _ hx))with g|g
   ·rw[g]at hx;exact absurd (b1 a hx) (h.irr a)
   ·exact g
def eqL(A B:List BP):Prop:=A.length=B.length∧∀(i:Nat) (a b:BP),A[i]?=some a→B[i]?=some b→aX (dec a) (dec b)=0
theorem Wh{K:Type}{f:BP→K}{A B:List BP}(e:A.map f=B.map f)(g:∀a∈A,∀b∈B,f a=f b→aX (dec a) (dec b)=0):eqL A B:=by
 refine⟨by simpa using congrArg List.length e,fun i a b ha hb=>?_⟩;have h1:(A.map f)[i]?=some (f a):=by rw[an6,ha];rfl
 have h2:(B.map f)[i]?=some (f b):=by rw[an6,hb];rfl
 rw[e,h2]at h1;injection h1 with h1;exact g a (an4 ha) b (an4 hb) h1.symm
abbrev oL(c:Cv)(A:List BP):Prop:=A.Pairwise (fun a b=>dk c (dec a) (dec b)<0)
theorem Mq{c:Cv}(h:Crp c){A B:List BP}(hA:∀x∈A,Spb c x)(hB:∀x∈B,Spb c x)(pA:oL c A)(pB:oL c B)(e1:∀a∈A,∃b∈B,aX (dec a) (dec b)=0)(e2:∀b∈B,∃a∈A,aX (dec a) (dec b)=0):eqL A B:=by
 obtain⟨K,lt,κ,f,hl,hc,ho,hk⟩:=um h
 have pw:∀{L:List BP},(∀x∈L,Spb c x)→oL c L→(L.map fun x=>κ (dec x)).Pairwise lt:=fun{L} hL pL=>by
  refine List.pairwise_map.2 (List.Pairwise.imp_of_mem (fun{a b} ha hb g=>?_) pL);rw[ho _ _ (hL a ha) (hL b hb)]at g;exact(lE hl hc _ _).1 g
 refine Wh (f:=fun x=>κ (dec x)) (Ah hl (pw hA pA) (pw hB pB) fun x=>⟨fun hx=>?_,fun hx=>?_⟩) fun a ha b hb g=>(hk _ _ (hA a ha) (hB b hb)).1 g
 ·obtain⟨a,ha,rfl⟩:=an8.1 hx;obtain⟨b,hb,g⟩:=e1 a ha;exact an8.2 ⟨b,hb,((hk _ _ (hA a ha) (hB b hb)).2 g).symm⟩
 ·obtain⟨b,hb,rfl⟩:=an8.1 hx;obtain⟨a,ha,g⟩:=e2 b hb;exact an8.2 ⟨a,ha,(hk _ _ (hA a ha) (hB b hb)).2 g⟩
section
section
variable {α K:Type}
def lw(lt:α→α→Bool):List α→α→List α
 |[],a=>[a]
 |b::r,a=>bif lt a b then b::lw lt r a else a::b::r
def tc(lt:α→α→Bool)(l:List α):List α:=(l.foldl (lw lt) []).reverse
def jZ(eq:α→α→Bool):α→List α→List α
 |_,[]=>[]
 |p,q::r=>bif eq q p then jZ eq q r else q::jZ eq q r
def vP(eq:α→α→Bool):List α→List α
 |[]=>[]
 |x::r=>x::jZ eq x r
theorem mD{lt:α→α→Bool}{a x:α}:∀{r:List α},x∈lw lt r a↔x=a∨x∈r
 |[]=>by simp[lw]
 |b::r=>by
  unfold lw;cases lt a b
  ·simp
  ·simp only[cond_true,ann,mD (r:=r)];constructor
   ·rintro (h|h|h)
    ·exact .inr (.inl h)
    ·exact .inl h
    ·exact .inr (.inr h)
   ·rintro (h|h|h)
    ·exact .inr (.inl h)
    ·exact .inl h
    ·exact .inr (.inr h)
theorem DK{lt:α→α→Bool}{x:α}:∀{l r:List α},x∈l.foldl (lw lt) r↔x∈l∨x∈r
 |[],r=>by simp
 |a::l,r=>by
  rw[aoN,DK,mD,ann];constructor
  ·rintro (h|h|h)
   ·exact .inl (.inr h)
   ·exact .inl (.inl h)
   ·exact .inr h
  ·rintro ((h|h)|h)
   ·exact .inr (.inl h)
   ·exact .inl h
   ·exact .inr (.inr h)
theorem pG{lt:α→α→Bool}{x:α}{l:List α}:x∈tc lt l↔x∈l:=by
 unfold tc;rw[List.mem_reverse,DK];simp
theorem tB{lt:α→α→Bool}{a:α}:∀{r:List α},(lw lt r a).length=r.length+1
 |[]=>rfl
 |b::r=>by
  unfold lw;cases lt a b
  ·rfl
  ·simp[tB (r:=r)]
theorem IO{lt:α→α→Bool}:∀{l r:List α},(l.foldl (lw lt) r).length=l.length+r.length
 |[],r=>by simp
 |a::l,r=>by
  rw[aoN,IO,tB,anp];omega
theorem DE{lt:α→α→Bool}{l:List α}:(tc lt l).length=l.length:=by
 unfold tc;rw[List.length_reverse,IO];rfl
theorem Ef{eq:α→α→Bool}:∀{l:List α} {p:α},(jZ eq p l).length≤l.length
 |[],_=>anb _
 |q::r,p=>by
  unfold jZ;have:=Ef (eq:=eq) (l:=r) (p:=q);cases eq q p
  ·simp only[cond_false,anp];omega
  ·simp only[cond_true,anp];omega
theorem Oy{eq:α→α→Bool}{l:List α}:(vP eq l).length≤l.length:=by
 cases l with
 |nil=>exact anb _
 |cons x r=>
  have:=Ef (eq:=eq) (l:=r) (p:=x);simp only[vP,anp];omega
theorem xK{eq:α→α→Bool}{x:α}:∀{l:List α} {p:α},x∈jZ eq p l→x∈l
 |[],_,h=>h
 |q::r,p,h=>by
  unfold jZ at h;cases hq:eq q p<;>rw[hq]at h
  ·rcases ann.1 h with e|e
   ·rw[e];simp
   ·exact anj _ (xK e)
  ·exact anj _ (xK h)
theorem Og{eq:α→α→Bool}{x:α}{l:List α}(h:x∈vP eq l):x∈l:=by
 cases l with
 |nil=>exact h
 |cons y r=>
  rcases ann.1 h with e|e
  ·rw[e];simp
  ·exact anj _ (xK e)
variable {lt:K→K→Prop} (hl:nQ lt) (κ:α→K)
abbrev upK(lt:K→K→Prop)(κ:α→K)(l:List α):Prop:=l.Pairwise fun a b=>¬lt (κ b) (κ a)
abbrev dnK(lt:K→K→Prop)(κ:α→K)(l:List α):Prop:=l.Pairwise fun a b=>¬lt (κ a) (κ b)
include hl in
theorem HF{f:α→α→Bool}{a:α}:∀{r:List α},(∀b∈r,(f a b=true↔lt (κ a) (κ b)))→dnK lt κ r→dnK lt κ (lw f r a)
 |[],_,_=>by simp[lw]
 |b::r,hf,hp=>by
  obtain⟨p1,p2⟩:=anK.1 hp;have hb:=hf b (by simp);unfold lw;cases hfb:f a b
  ·simp only[cond_false];have nlt:¬lt (κ a) (κ b):=fun h=>by rw[hb.2 h]at hfb;cases hfb
   refine anK.2 ⟨fun x hx=>?_,hp⟩;rcases ann.1 hx with e|e
   ·rw[e];exact nlt
   ·intro h;rcases hl.tri (κ b) (κ x)with g|g|g
    ·exact p1 x e g
    ·rw[←g]at h;exact nlt h
    ·exact nlt (hl.tr _ _ _ h g)
  ·simp only[cond_true];have hlt:=hb.1 hfb;refine anK.2 ⟨fun x hx=>?_,HF (fun y hy=>hf y (anj _ hy)) p2⟩;rcases mD.1 hx with e|e
   ·rw[e];intro h;exact hl.irr _ (hl.tr _ _ _ h hlt)
   ·exact p1 x e
include hl in
theorem Jj{f:α→α→Bool}:∀{l r:List α},(∀a b,(a∈l∨a∈r)→(b∈l∨b∈r)→(f a b=true↔lt (κ a) (κ b)))→dnK lt κ r→dnK lt κ (l.foldl (lw f) r)
 |[],_,_,h=>h
 |a::l,r,hf,h=>by
  rw[aoN];refine Jj (fun x y hx hy=>hf x y ?_ ?_) (HF hl κ (fun b hb=>hf a b (.inl (by simp)) (.inr hb)) h)
  ·rcases hx with e|e
   ·exact .inl (anj _ e)
   ·rcases mD.1 e with g|g
    ·exact .inl (by rw[g];simp)
    ·exact .inr g
  ·rcases hy with e|e
   ·exact .inl (anj _ e)
   ·rcases mD.1 e with g|g
    ·exact .inl (by rw[g];simp)
    ·exact .inr g
include hl in
theorem Ug{f:α→α→Bool}{l:List α}(hf:∀a∈l,∀b∈l,(f a b=true↔lt (κ a) (κ b))):upK lt κ (tc f l):=by
 unfold tc;refine List.pairwise_reverse.2 (Jj hl κ (fun a b ha hb=>hf a ?_ b ?_) (by simp))
 ·rcases ha with h|h
  ·exact h
  ·cases h
 ·rcases hb with h|h
  ·exact h
  ·cases h
include hl in
theorem Im{g:α→α→Bool}:∀{l:List α} {p:α},(∀a b,a∈p::l→b∈p::l→(g a b=true↔κ a=κ b))→upK lt κ (p::l)→
  (p::jZ g p l).Pairwise (fun a b=>lt (κ a) (κ b))∧∀x∈p::l,∃y∈p::jZ g p l,κ y=κ x
 |[],p,_,_=>⟨by simp[jZ],fun x hx=>⟨x,hx,rfl⟩⟩
 |q::r,p,hg,hp=>by
  obtain⟨p1,p2⟩:=anK.1 hp;obtain⟨i1,i2⟩:=Im (l:=r) (p:=q) (fun a b ha hb=>hg a b (anj _ ha) (anj _ hb)) p2;obtain⟨j1,j2⟩:=anK.1 i1;have hq:=hg q p (by simp) (by simp);unfold jZ;cases hqp:g q p
  ·simp only[cond_false]
   have hlt:lt (κ p) (κ q):=by
    rcases hl.tri (κ p) (κ q)with e|e|e
    ·exact e
    ·rw[hq.2 e.symm]at hqp;cases hqp
    ·exact absurd e (p1 q (by simp))
   refine⟨anK.2 ⟨fun x hx=>?_,i1⟩,fun x hx=>?_⟩
   ·rcases ann.1 hx with e|e
    ·rw[e];exact hlt
    ·exact hl.tr _ _ _ hlt (j1 x e)
   ·rcases ann.1 hx with e|e
    ·exact⟨p,by simp,by rw[e]⟩
    ·obtain⟨y,hy,e2⟩:=i2 x e;exact⟨y,anj _ hy,e2⟩
  ·simp only[cond_true];have he:=hq.1 hqp;refine⟨anK.2 ⟨fun x hx=>by rw[←he];exact j1 x hx,j2⟩,fun x hx=>?_⟩
   have tr:∀y,y∈q::jZ g q r→∃z∈p::jZ g q r,κ z=κ y:=fun y hy=>by
    rcases ann.1 hy with e|e
    ·exact⟨p,by simp,by rw[e,he]⟩
    ·exact⟨y,anj _ e,rfl⟩
   rcases ann.1 hx with e|e
   ·exact⟨p,by simp,by rw[e]⟩
   ·obtain⟨y,hy,e2⟩:=i2 x e;obtain⟨z,hz,e3⟩:=tr y hy;exact⟨z,hz,e3.trans e2⟩
include hl in
theorem UK{g:α→α→Bool}{l:List α}(hg:∀a∈l,∀b∈l,(g a b=true↔κ a=κ b))(hp:upK lt κ l):(vP g l).Pairwise (fun a b=>lt (κ a) (κ b))∧∀x∈l,∃y∈vP g l,κ y=κ x:=by
 cases l with
 |nil=>exact⟨by simp[vP],fun x hx=>by cases hx⟩
 |cons p r=>exact Im hl κ (fun a b ha hb=>hg a ha b hb) hp
end
def ltP(c:Cv)(a b:BP):Bool:=decide (BD c (dec a) (dec b)<0)
def il(a b:BP):Bool:=aX (dec a) (dec b)==0
def dh(c:Cv)(l:List BP):List BP:=vP il (tc (ltP c) l)
theorem jO{c:Cv}{l:List BP}{x:BP}(h:x∈dh c l):x∈l:=pG.1 (Og h)
theorem o0{c:Cv}{l:List BP}:(dh c l).length≤l.length:=by
 have:=Oy (eq:=il) (l:=tc (ltP c) l);rw[DE]at this;exact this
theorem AD{c:Cv}(h:Crp c)(hne:aX (frC c) (toC c)≠0){l:List BP}(hon:∀x∈l,Rpd (dec x:Pt)∧onP c (dec x)=true):oL c (dh c l)∧∀x∈l,∃y∈dh c l,aX (dec y) (dec x)=0:=by
 obtain⟨K,lt,κ,f,hl,hc,ho,hk⟩:=um h;have sp:∀x∈l,Spb c x:=fun x hx=>⟨(hon x hx).1,(anh.1 (hon x hx).2).1⟩
 have up:=Ug hl (fun x:BP=>κ (dec x)) (f:=ltP c) (l:=l) fun a ha b hb=>by
  unfold ltP;rw[aob,RE.ord_eq h hne (hon a ha).1 (hon b hb).1 (hon a ha).2 (hon b hb).2,ho _ _ (sp a ha) (sp b hb)];exact lE hl hc _ _
 have q:=UK hl (fun x:BP=>κ (dec x)) (g:=il) (l:=tc (ltP c) l) (fun a ha b hb=>by
  unfold il;rw[an3];exact(hk _ _ (sp a (pG.1 ha)) (sp b (pG.1 hb))).symm) up
 refine⟨List.Pairwise.imp_of_mem (fun{a b} ha hb g=>?_) q.1,fun x hx=>?_⟩
 ·have ha':=jO (c:=c) ha;have hb':=jO (c:=c) hb;rw[ho _ _ (sp a ha') (sp b hb')];exact(lE hl hc _ _).2 g
 ·obtain⟨y,hy,e⟩:=q.2 x (pG.2 hx);exact⟨y,hy,(hk _ _ (sp y (jO (c:=c) hy)) (sp x hx)).1 e⟩
end
theorem abt{c:Cv}(h:Crp c):Crv c:=⟨h.f.1,h.t.1,fun ha=>⟨h.q ha,jV ha h.f,jV ha h.t⟩⟩
theorem nE{c:Cv}(h:Crp c){p:Pt}(hp:Rpd p):onP c p=onR c p:=Xg (abt h) hp
namespace RE
theorem gz{c:Cv}{p:Pt}[Rpd p]:gD c p=true↔bif c.1 then gC (ciC c) (pR p)else iK (lnC c) (pR p):=by
 unfold gD;cases c.1
 ·exact Aw
 ·exact ui
theorem uS{q:Rat}(hq:q≠0){x y:RE}(h:of q*x=of q*y):x=y:=by
 have e:∀z:RE,of q⁻¹*(of q*z)=z:=fun z=>by
  rw[←mul_assoc,←aG,Rat.inv_mul_cancel _ hq,CH,one_mul]
 rw[←e x,h,e y]
theorem ak6(a p q x y:RE):a*(p*x+q*y)=p*(a*x)+a*q*y:=by grind
theorem alb(p a b x y:RE):p*(a*x+b*y)=p*(a*x)+b*p*y:=by grind
theorem al2(b p q x y:RE):b*(p*x+q*y)=b*p*x+q*(b*y):=by grind
theorem ami(q a b x y:RE):q*(a*x+b*y)=a*q*x+q*(b*y):=by grind
theorem ab8{l m:Ln}(hl:l.1≠0∨l.2.1≠0)(h:qX l m=true){v:PE}(hv:iK l v):iK m v:=by
 unfold qX at h;obtain⟨h1,h23⟩:=anh.1 h;obtain⟨h2,h3⟩:=anh.1 h23;have h1:=am8 h1;have h2:=am8 h2;have h3:=am8 h3;unfold iK at*
 rcases hl with ha|hb
 ·refine uS ha ?_;rw[ak6,←aG l.1 m.2.1,h1,aG,←alb,hv,←aG,←aG,h2,ao0]
 ·refine uS hb ?_;rw[al2,←aG l.2.1 m.1,←h1,aG,←ami,hv,←aG,←aG,h3,ao0]
theorem Vo{l m:Ln}(h:qX l m=true):qX m l=true:=by
 unfold qX at*
 obtain⟨h1,h23⟩:=anh.1 h;obtain⟨h2,h3⟩:=anh.1 h23;have h1:=am8 h1;have h2:=am8 h2;have h3:=am8 h3;rw[dT (show m.1*l.2.1=m.2.1*l.1 by grind),dT (show m.1*l.2.2=m.2.2*l.1 by grind),dT (show m.2.1*l.2.2=m.2.2*l.2.1 by grind)];rfl
theorem aeN{c d:Ln}(h:tX c d=true):c=d:=by
 unfold tX at h;obtain⟨h1,h23⟩:=anh.1 h;obtain⟨h2,h3⟩:=anh.1 h23;exact aoq (am8 h1) (aoq (am8 h2) (am8 h3))
theorem A0{c d:Cv}(h:cX c d=true):c.1=d.1:=by
 unfold cX at h;cases e:c.1==d.1
 ·rw[e]at h;cases h
 ·exact an3.1 e
theorem Sa{c d:Cv}(h:cX c d=true)(ha:c.1=true):ciC c=ciC d:=by
 have e:=A0 h;unfold cX at h;rw[←e,ha]at h;exact aeN h
theorem MS{c d:Cv}(h:cX c d=true)(ha:c.1=false):qX (lnC c) (lnC d)=true:=by
 have e:=A0 h;unfold cX at h;rw[←e,ha]at h;exact h
theorem Bu{c d:Cv}(h:cX c d=true):cX d c=true:=by
 have e:=A0 h;unfold cX;rw[←e,apY,cond_true];cases ha:c.1
 ·exact Vo (MS h ha)
 ·rw[cond_true,Sa h ha];unfold tX;rw[dT rfl,dT rfl,dT rfl];rfl
theorem v6{c d:Cv}(hc:Crp c)(h:cX c d=true){p:Pt}[Rpd p](hp:gD c p=true):gD d p=true:=by
 have e:=A0 h;rw[gz]at*
 rw[←e];cases ha:c.1
 ·rw[ha,cond_false]at hp;exact ab8 (hc.l ha) (MS h ha) hp
 ·rw[ha,cond_true]at hp;rw[cond_true,←Sa h ha];exact hp
theorem supF_eq{c:Cv}{p q:Pt}[Rpd p][Rpd q](e:pR p=pR q)(h:gD c p=true):gD c q=true:=by
 rw[gz]at*
 rw[←e];exact h
end RE
theorem DM{c:Cv}(h:Crp c){p q r:Pt}(hp:Sp c p)(hq:Sp c q)(hr:Sp c r)(e:aX p q=0):dk c p r=dk c q r∧dk c r p=dk c r q:=by
 obtain⟨K,lt,κ,f,hl,hc,ho,hk⟩:=um h;have ek:=(hk p q hp hq).2 e;rw[ho p r hp hr,ho q r hq hr,ho r p hr hp,ho r q hr hq,ek];exact⟨rfl,rfl⟩
theorem ahH{c:Cv}{p q:Pt}(hp:Sp c p)(hq:Rpd q)(e:aX p q=0):Sp c q:=by
 have:=hp.1;exact⟨hq,RE.supF_eq (RE.cmpP_0.1 e) hp.2⟩
theorem afD{p:Pt}(_h:Rpd p):aX p p=0:=RE.cmpP_0.2 rfl
theorem Fc{p q:Pt}[Rpd p][Rpd q](e:aX p q=0):aX q p=0:=RE.cmpP_0.2 (RE.cmpP_0.1 e).symm
theorem SH{p q r:Pt}[Rpd p][Rpd q][Rpd r](e:aX p q=0)(e':aX q r=0):aX p r=0:=RE.cmpP_0.2 ((RE.cmpP_0.1 e).trans (RE.cmpP_0.1 e'))
theorem Ey{c:Cv}(h:Crp c){p q:Pt}(hp:Rpd p)(hq:Rpd q)(e:aX p q=0)(ho:onR c p=true):onR c q=true:=by
 obtain⟨h1,h2,h3⟩:=(wW h hp).1 ho;have sp:Sp c p:=⟨hp,h1⟩
 have sq:=ahH sp hq e;rw[wW h hq];rw[(DM h sp sq h.f e).1]at h2;rw[(DM h sp sq h.t e).2]at h3;exact⟨sq.2,h2,h3⟩
theorem qg{c:Cv}(h:Crp c){p q:Pt}(hp:Rpd p)(hq:Rpd q)(e:aX p q=0):onR c p=onR c q:=by
 cases h1:onR c p
 ·cases h2:onR c q
  ·rfl
  ·rw[Ey h hq hp (Fc e) h2]at h1;cases h1
 ·rw[Ey h hp hq e h1]
theorem EV{c:Cv}{x:BP}(hx:Rpd (dec x)):∀{r:List BP},∃y∈gP c r x,aX (dec y) (dec x)=0
 |[]=>⟨x,by simp[gP],RE.cmpP_0.2 rfl⟩
 |z::r=>by
  simp only[gP];cases decide (dk c (dec z) (dec x)<0)
  ·cases hz:aX (dec z) (dec x)==0
   ·exact⟨x,by simp,RE.cmpP_0.2 rfl⟩
   ·exact⟨z,by simp,an3.1 hz⟩
  ·obtain⟨y,hy,e⟩:=EV (c:=c) hx (r:=r);exact⟨y,anj _ hy,e⟩
theorem Eo{c:Cv}{x:BP}(hx:Rpd (dec x)):∀{l r:List BP},x∈l→∃y∈l.foldl (gP c) r,aX (dec y) (dec x)=0
 |[],_,h=>by cases h
 |z::l,r,h=>by
  rw[aoN];rcases ann.1 h with e|e
  ·obtain⟨y,hy,e2⟩:=EV (c:=c) hx (r:=r);exact⟨y,ET (by rw[←e];exact hy),e2⟩
  ·exact Eo hx e
theorem Ot{c:Cv}{x:BP}{l:List BP}(hx:Rpd (dec x))(h:x∈l):∃y∈kI c l,aX (dec y) (dec x)=0:=Eo hx h
theorem Ek{c:Cv}{x:BP}{l:List BP}(h:x∈kI c l):x∈l:=by
 rcases BE h with h|h
 ·cases h
 ·exact h
theorem VZ{c:Cv}(o:Ord c){l:List BP}(hl:∀x∈l,Spb c x):oL c (kI c l):=ach o hl
section
def iO(c d:BCU):List BP:=bif cX (dC c) (dC d)then [c.2.2.2.2.1,c.2.2.2.2.2,d.2.2.2.2.1,d.2.2.2.2.2]else(gr (dC c) (dC d)).map enc
def gG(c d:BCU)(p:BP):Bool:=ii (dC c) (dec p)&&ii (dC d) (dec p)
def fq(c d:BCU):List BP:=dh (dC c) ((iO c d).filter (gG c d))
theorem jU{c:BCU}(h:t3 c):(c.1=true→BdC (ciC (dC c))∧0<(ciC (dC c)).2.2)∧(c.1=false→BdL (lnC (dC c))∧((lnC (dC c)).1≠0∨(lnC (dC c)).2.1≠0)):=by
 refine⟨fun e=>?_,fun e=>?_⟩
 ·obtain⟨l,e1,bl,nl⟩:=cE (h.1 e);show BdC (dec c.2.2.1)∧_;rw[show ciC (dC c)=dec c.2.2.1 from rfl,e1,az];exact⟨bl,nl⟩
 ·obtain⟨l,e1,bl,nl⟩:=eK (h.2 e);show BdL (dec c.2.1)∧_;rw[show lnC (dC c)=dec c.2.1 from rfl,e1,az];exact⟨bl,nl⟩
namespace RE
theorem I9{c d:BCU}(hc:t3 c)(hd:t3 d)(v:PE):(∃p∈gr (dC c) (dC d),pR p=v)↔∃p∈sE (dC c) (dC d),pR p=v:=by
 obtain⟨c1,c2⟩:=jU hc;obtain⟨d1,d2⟩:=jU hd;have ec:(dC c).1=c.1:=rfl;have ed:(dC d).1=d.1:=rfl;unfold gr sE;rw[ec,ed];cases ha:c.1<;>cases hb:d.1
 ·exact Iff.rfl
 ·exact F1 (c2 ha).2 v
 ·exact F1 (d2 hb).2 v
 ·show(∃p∈rR _ _,pR p=v)↔∃p∈zb _ _,pR p=v;unfold rR zb;cases hq:gY (ciC (dC c)) (ciC (dC d))
  ·exact F1 (uy hq) v
  ·exact Iff.rfl
theorem supM_on{c d:BCU}(hc:t3 c)(hd:t3 d){p:Pt}(hp:p∈gr (dC c) (dC d)):Bd p 1200∧Rpd p∧gD (dC c) p=true∧gD (dC d) p=true:=by
 obtain⟨c1,c2⟩:=jU hc;obtain⟨d1,d2⟩:=jU hd;have ec:(dC c).1=c.1:=rfl;have ed:(dC d).1=d.1:=rfl;unfold gr at hp;rw[ec,ed]at hp;cases ha:c.1<;>cases hb:d.1<;>rw[ha,hb]at hp
 ·have i1:=(c2 ha).1;have i2:=(d2 hb).1;have hp:p∈m6 (lnC (dC c)) (lnC (dC d)):=hp;obtain⟨b,r⟩:=wD.2 p hp;obtain⟨o1,o2⟩:=aec hp;refine⟨b.mono (by decide),r,?_,?_⟩
  ·rw[gz,ec,ha];exact o1
  ·rw[gz,ed,hb];exact o2
 ·have i1:=(c2 ha).1;have i2:=(d1 hb).1;have hp:p∈kX (lnC (dC c)) (ciC (dC d)):=hp;obtain⟨b,r⟩:=tu.2 p hp;obtain⟨o1,o2⟩:=II (c2 ha).2 hp;refine⟨b,r,?_,?_⟩
  ·rw[gz,ec,ha];exact o1
  ·rw[gz,ed,hb];exact o2
 ·have i1:=(c1 ha).1;have i2:=(d2 hb).1;have hp:p∈kX (lnC (dC d)) (ciC (dC c)):=hp;obtain⟨b,r⟩:=tu.2 p hp;obtain⟨o1,o2⟩:=II (d2 hb).2 hp;refine⟨b,r,?_,?_⟩
  ·rw[gz,ec,ha];exact o2
  ·rw[gz,ed,hb];exact o1
 ·have i1:=(c1 ha).1;have i2:=(d1 hb).1;have hp:p∈rR (ciC (dC c)) (ciC (dC d)):=hp;unfold rR at hp;cases hq:gY (ciC (dC c)) (ciC (dC d))<;>rw[hq]at hp
  ·have i3:BdL (ng (ciC (dC c)) (ciC (dC d))):=yu;obtain⟨b,r⟩:=tu.2 p hp;obtain⟨o1,o2⟩:=II (uy hq) hp;refine⟨b,r,?_,?_⟩
   ·rw[gz,ec,ha];exact o2
   ·rw[gz,ed,hb];exact Lq o1 o2
  ·cases hp
end RE
open RE
theorem gdN.crp{c:BCU}(h:gdN c):Crp (dC c):=Ay h.gd
theorem gdN.ne{c:BCU}(h:gdN c):aX (frC (dC c)) (toC (dC c))≠0:=h.2.2.2
theorem gdN.fr{c:BCU}(h:gdN c):okP 500 c.2.2.2.2.1:=h.1.1.2.2.1
theorem gdN.to{c:BCU}(h:gdN c):okP 500 c.2.2.2.2.2:=h.1.1.2.2.2
theorem qC{c d:BCU}(hc:gdN c)(hd:gdN d):(iO c d).length≤4∧∀x∈iO c d,okP 1200 x∧Spb (dC c) x∧Spb (dC d) x:=by
 have kc:=hc.crp;have kd:=hd.crp;unfold iO;cases hs:cX (dC c) (dC d)
 ·refine⟨?_,fun x hx=>?_⟩
  ·simp only[cond_false,aoO];have:∀l c,[BdL l]→[BdC c]→(kX l c).length≤4:=fun l c _ _=>ank tu.1 (by decide);obtain⟨c1,c2⟩:=jU hc.1.2;obtain⟨d1,d2⟩:=jU hd.1.2;have ec:(dC c).1=c.1:=rfl;have ed:(dC d).1=d.1:=rfl;unfold gr;rw[ec,ed];cases ha:c.1<;>cases hb:d.1
   ·have i1:=(c2 ha).1;have i2:=(d2 hb).1;exact ank wD.1 (by decide)
   ·have i1:=(c2 ha).1;have i2:=(d1 hb).1;exact this _ _
   ·have i1:=(c1 ha).1;have i2:=(d2 hb).1;exact this _ _
   ·have i1:=(c1 ha).1;have i2:=(d1 hb).1;show(rR _ _).length≤4;unfold rR;cases hq:gY (ciC (dC c)) (ciC (dC d))
    ·have i3:BdL (ng (ciC (dC c)) (ciC (dC d))):=yu;exact this _ _
    ·exact apz _
  ·obtain⟨p,hp,rfl⟩:=an8.1 hx;obtain⟨b,r,o1,o2⟩:=supM_on hc.1.2 hd.1.2 hp;refine⟨am8 (aJ (by decide) (by decide)),?_,?_⟩
   ·unfold Spb;rw[az];exact⟨r,o1⟩
   ·unfold Spb;rw[az];exact⟨r,o2⟩
 ·have hs':=Bu hs;refine⟨by simp,fun x hx=>?_⟩;have:x=c.2.2.2.2.1∨x=c.2.2.2.2.2∨x=d.2.2.2.2.1∨x=d.2.2.2.2.2:=by simpa using hx
  have up:∀{x},okP 500 x→okP 1200 x:=fun h=>cN h (by decide) (by decide);rcases this with e|e|e|e<;>rw[e]
  ·have i:Rpd (dec c.2.2.2.2.1:Pt):=kc.f.1;exact⟨up hc.fr,kc.f,kc.f.1,v6 kc hs kc.f.2⟩
  ·have i:Rpd (dec c.2.2.2.2.2:Pt):=kc.t.1;exact⟨up hc.to,kc.t,kc.t.1,v6 kc hs kc.t.2⟩
  ·have i:Rpd (dec d.2.2.2.2.1:Pt):=kd.f.1;exact⟨up hd.fr,⟨kd.f.1,v6 kd hs' kd.f.2⟩,kd.f⟩
  ·have i:Rpd (dec d.2.2.2.2.2:Pt):=kd.t.1;exact⟨up hd.to,⟨kd.t.1,v6 kd hs' kd.t.2⟩,kd.t⟩
theorem pg{c d:BCU}(hc:gdN c)(hd:gdN d){x:BP}(hx:x∈fq c d):x∈iO c d∧okP 1200 x∧Spb (dC c) x∧Spb (dC d) x∧onR (dC c) (dec x)=true∧onR (dC d) (dec x)=true:=by
 obtain⟨hm,hk⟩:=ao7.1 (jO hx);obtain⟨h0,h1,h2⟩:=(qC hc hd).2 x hm;obtain⟨k1,k2⟩:=anh.1 hk;refine⟨hm,h0,h1,h2,?_,?_⟩
 ·rw[←nE hc.crp h1.1];exact anh.2 ⟨h1.2,k1⟩
 ·rw[←nE hd.crp h2.1];exact anh.2 ⟨h2.2,k2⟩
theorem Dk{c d:BCU}{x:BP}(hx:x∈uo c d):x∈vu c d∧onR (dC c) (dec x)=true∧onR (dC d) (dec x)=true:=by
 obtain⟨hm,hk⟩:=ao7.1 (Ek (show x∈kI (dC c) (Sz c d) from hx));exact⟨hm,anh.1 hk⟩
theorem BY{c d:BCU}{x:BP}(hc:gdN c)(hd:gdN d)(hr:Rpd (dec x:Pt))(h1:onR (dC c) (dec x)=true)(h2:onR (dC d) (dec x)=true):gG c d x=true:=by
 rw[←nE hc.crp hr]at h1;rw[←nE hd.crp hr]at h2;exact anh.2 ⟨(anh.1 h1).2,(anh.1 h2).2⟩
theorem Gf{c d:BCU}(hc:gdN c)(hd:gdN d):∀x∈(iO c d).filter (gG c d),Rpd (dec x:Pt)∧onP (dC c) (dec x)=true:=fun x hx=>by
 obtain⟨hm,hk⟩:=ao7.1 hx;obtain⟨h0,h1,h2⟩:=(qC hc hd).2 x hm;exact⟨h1.1,anh.2 ⟨h1.2,(anh.1 hk).1⟩⟩
theorem Cj{c d:BCU}(h:gU c d){x:BP}(hx:x∈vu c d):Rpd (dec x:Pt):=wX ((Ir h).2 x hx)
theorem US{c d:BCU}(hc:gdN c)(hd:gdN d):eqL (fq c d) (uo c d):=by
 have kc:=hc.crp;have kd:=hd.crp;obtain⟨p1,p2⟩:=AD kc hc.ne (Gf hc hd);have hmp:gU c d:=⟨hc.1,hd.1⟩
 have rdL:∀x∈uo c d,Rpd (dec x:Pt):=fun x hx=>Cj hmp (Dk hx).1
 have spL:∀x∈Sz c d,Spb (dC c) x:=fun x hx=>by
  obtain⟨hm,hk⟩:=ao7.1 hx;have r:=Cj hmp hm;exact⟨r,((wW kc r).1 (anh.1 hk).1).1⟩
 refine Mq kc (fun x hx=>(pg hc hd hx).2.2.1) (fun x hx=>spL x (Ek hx)) p1 (VZ (Cb kc) spL) (fun a ha=>?_) (fun b hb=>?_)
 ·obtain⟨hm,_,s1,s2,o1,o2⟩:=pg hc hd ha;have ra:=s1.1
  have key:∃z∈vu c d,aX (dec z) (dec a)=0∧Rpd (dec z:Pt):=by
   unfold iO at hm;cases hs:cX (dC c) (dC d)<;>rw[hs]at hm
   ·obtain⟨p,hp,e⟩:=an8.1 hm;obtain⟨q,hq,e2⟩:=(I9 hc.1.2 hd.1.2 (pR p)).1 ⟨p,hp,rfl⟩
    have hz:enc q∈vu c d:=by
     unfold vu;rw[hs];exact an8.2 ⟨q,hq,rfl⟩
    have rz:=Cj hmp hz;refine⟨enc q,hz,?_,rz⟩;refine cmpP_0.2 ?_;rw[az,e2,←e,az]
   ·refine⟨a,?_,cmpP_0.2 rfl,ra⟩;unfold vu;rw[hs];exact hm
  obtain⟨z,hz,ez,rz⟩:=key
  have hb:z∈Sz c d:=by
   refine ao7.2 ⟨hz,?_⟩;rw[qg kc rz ra ez,qg kd rz ra ez,o1,o2];rfl
  obtain⟨y,hy,ey⟩:=Ot (c:=dC c) rz hb;have ry:=rdL y hy;exact⟨y,hy,Fc (SH ey ez)⟩
 ·obtain⟨hm,o1,o2⟩:=Dk hb;have rb:=Cj hmp hm
  have key:∃z∈iO c d,aX (dec z) (dec b)=0:=by
   unfold vu at hm;cases hs:cX (dC c) (dC d)<;>rw[hs]at hm
   ·obtain⟨p,hp,e⟩:=an8.1 hm;obtain⟨q,hq,e2⟩:=(I9 hc.1.2 hd.1.2 (pR p)).2 ⟨p,hp,rfl⟩
    have hz:enc q∈iO c d:=by
     unfold iO;rw[hs];exact an8.2 ⟨q,hq,rfl⟩
    have rz:=((qC hc hd).2 _ hz).2.1.1;refine⟨enc q,hz,cmpP_0.2 ?_⟩;rw[az,e2,←e,az]
   ·refine⟨b,?_,cmpP_0.2 rfl⟩;unfold iO;rw[hs];exact hm
  obtain⟨z,hz,ez⟩:=key;have rz:=((qC hc hd).2 z hz).2.1.1
  have hk:z∈(iO c d).filter (gG c d):=by
   refine ao7.2 ⟨hz,BY hc hd rz ?_ ?_⟩
   ·rw[qg kc rz rb ez,o1]
   ·rw[qg kd rz rb ez,o2]
  obtain⟨y,hy,ey⟩:=p2 z hk;have ry:=(pg hc hd hy).2.2.1.1;exact⟨y,hy,SH ey ez⟩
end
section
open RE
def yU(c:BCU):BP→List BP→List BCU
 |f,[]=>[MY c f c.2.2.2.2.2]
 |f,p::r=>bif il p c.2.2.2.2.1||il p c.2.2.2.2.2 then yU c f r else MY c f p::yU c p r
def adU(c:BCU)(l:List BP):List BCU:=yU c c.2.2.2.2.1 (dh (dC c) l)
def aeu(c:BCU)(l:List BP):Bool:=l.any fun p=>!onP (dC c) (dec p)
def ru(c:BCU)(l:List BP):List BCU:=bif aeu c l then []else adU c l
def al3(c:BCU)(l:List BP):Int:=bif aeu c l then 1 else 0
section
variable {c:BCU} (h:gdN c) {l:List BP} (ho:∀x∈l,Rpd (dec x:Pt)∧onR (dC c) (dec x)=true)
include h ho
omit h ho in
end
end
section
open RE
def frB(c:BCU):BP:=c.2.2.2.2.1
def toB(c:BCU):BP:=c.2.2.2.2.2
def CZ(d p:BCU):Bool:=(onP (dC d) (dec (frB p))&&onP (dC d) (dec (toB p)))&&(bif d.1 then !il (frB (dY p)) (toB (dY d))&&decide (gI aW (ptd (dec (dY d).2.2.1) (dec (frB (dY p)))) (ptd (dec (dY d).2.2.1) (dec (toB (dY p)))) (ptd (dec (dY d).2.2.1) (dec (toB (dY d))))≤0)else true)
def yA(c d:BCU)(l:List BP):Bool:=(ru c l).any (CZ d)
def oO(c d:BCU):Bool:=cX (dC c) (dC d)&&yA c d (fq c d)
end
def io(d p q r:Rat):Int:=sgQ (d-p-q-r*r,-2*r,-2*r,-2,p,q)
def rE(x y z r:Rat):Int:=sgQ (x+y-z-r*r,2,-(2*r),0,x*y,z)
def KK(a b c d:Rat):Int:=sgQ (a+b-(c+d),2,-2,0,a*b,c*d)
def Bj(a b c r:Rat):Int:=bif decide (r*r<c)then 1 else sgQ (a+b-(r*r+c),2,r+r,0,a*b,c)
def Gj(a b r:Rat):Int:=bif decide (a<b)then io b a 0 r else io a b 0 r
def tT(a b c r:Rat):Int:=bif decide (io c a b 0>0)then io c a b r else KK a b c (r*r)
def mx2(a b:Int):Int:=if b>a then b else a
theorem yd(a b:Int):mn2 a b=min a b:=by unfold mn2;omega
theorem abJ(a b:Int):mx2 a b=max a b:=by unfold mx2;omega
theorem JM(a b c d:Int):G3 a b c d=min (min (min a b) c) d:=by unfold G3;simp only[yd]
def qV(b:Bool)(x:Int):Int:=bif b then x else 1
def ftv(s a:Cv):Rat×Rat:=dt (lnC s) (ctr (ciC a))
def wyv(c d:Cv):Rat×Rat:=bh (ctr (ciC c)) (ctr (ciC d))
def Ej(s a:Cv)(r:Rat):Int:=qV (onP s (atP (ftv s a))) (so a (ftv s a) r)
def E2(s a:Cv)(r:Rat):Int:=qV (onR s (atP (ftv s a))&&cf a (bh (ctr (ciC a)) (ftv s a))) (Gj (aY (bh (ctr (ciC a)) (ftv s a)) (bh (ctr (ciC a)) (ftv s a))) (ciC a).2.2 r)
def nT(c d:Cv):Bool:=cf c (wyv c d)
def fT(c d:Cv):Bool:=cf c (bkV (wyv c d))
def nD(c d:Cv):Rat:=aY (wyv c d) (wyv c d)
def yG(c d:Cv)(r:Rat):Int:=bif decide (nD c d=0)then 1 else
 min (min (qV (nT c d&&cf d (bkV (wyv c d))) (max (io (nD c d) (ciC c).2.2 (ciC d).2.2 r) (rE (ciC c).2.2 (ciC d).2.2 (nD c d) r)))
  (qV (nT c d&&cf d (wyv c d)) (max (rE (nD c d) (ciC d).2.2 (ciC c).2.2 r) (io (ciC c).2.2 (nD c d) (ciC d).2.2 r))))
  (qV (fT c d&&cf d (bkV (wyv c d))) (max (rE (nD c d) (ciC c).2.2 (ciC d).2.2 r) (io (ciC d).2.2 (nD c d) (ciC c).2.2 r)))
theorem w9(q:Qd):sgQ q≤1:=(Iz _ _ _ _ _ _).2
def K4(c d:Cv)(r:Rat):Int:=bif decide (nD c d=0)then 1 else
 min (min (min (qV (nT c d&&cf d (bkV (wyv c d))) (tT (ciC c).2.2 (ciC d).2.2 (nD c d) r))
  (qV (nT c d&&cf d (wyv c d)) (tT (nD c d) (ciC d).2.2 (ciC c).2.2 r)))
  (qV (fT c d&&cf d (bkV (wyv c d))) (tT (nD c d) (ciC c).2.2 (ciC d).2.2 r)))
  (qV (fT c d&&cf d (wyv c d)) (Bj (nD c d) (ciC c).2.2 (ciC d).2.2 r))
def lz(c d:Cv)(r:Rat):Int:=min (min (min (RE.poiE d (RE.pR (frC c)) r) (RE.poiE d (RE.pR (toC c)) r)) (RE.poiE c (RE.pR (frC d)) r)) (RE.poiE c (RE.pR (toC d)) r)
def oH(c d:Cv)(r:Rat):Int:=bif c.1 then(bif d.1 then min (lz c d r) (yG c d r)else min (lz c d r) (Ej d c r))else bif d.1 then min (lz c d r) (Ej c d r)else lz c d r
def U7(c d:Cv)(r:Rat):Int:=bif c.1 then(bif d.1 then min (lz c d r) (K4 c d r)else min (lz c d r) (E2 d c r))else bif d.1 then min (lz c d r) (E2 c d r)else lz c d r
def Hz(m:Bool)(o:Int)(r:Rat):Int:=bif decide (r<0)then 1 else bif m then-aD r 0 else o
def n3P(x y z:BR):Prop:=ok Rat 2000 x∧ok Rat 2000 y∧ok Rat 2000 z∧0≤ae x∧0≤ae y∧0≤ae z
instance (x y z:BR):Decidable (n3P x y z):=by unfold n3P;infer_instance
def n4P(x y z r:BR):Prop:=n3P x y z∧ok Rat 2000 r∧0≤ae r
instance (x y z r:BR):Decidable (n4P x y z r):=by unfold n4P;infer_instance
theorem So{x y z:BR}(h:n3P x y z):∃a b c:Rat,x=enc a∧y=enc b∧z=enc c∧Bd a 2000∧Bd b 2000∧Bd c 2000∧0≤a∧0≤b∧0≤c:=by
 obtain⟨h1,h2,h3,h4,h5,h6⟩:=h;obtain⟨a,rfl,ba⟩:=aB h1;obtain⟨b,rfl,bb⟩:=aB h2;obtain⟨c,rfl,bc⟩:=aB h3;rw[dQ,co]at h4 h5 h6;exact⟨a,b,c,rfl,rfl,rfl,ba,bb,bc,h4,h5,h6⟩
theorem EY{x y z r:BR}(h:n4P x y z r):∃a b c e:Rat,(x=enc a∧y=enc b∧z=enc c∧r=enc e)∧Bd a 2000∧Bd b 2000∧Bd c 2000∧Bd e 2000∧0≤a∧0≤b∧0≤c∧0≤e:=by
 obtain⟨h,h1,h2⟩:=h;obtain⟨a,b,c,e1,e2,e3,ba,bb,bc,na,nb,nc⟩:=So h;obtain⟨e,rfl,be⟩:=aB h1;rw[dQ,co]at h2;exact⟨a,b,c,e,⟨e1,e2,e3,rfl⟩,ba,bb,bc,be,na,nb,nc,h2⟩
theorem ZF{a b c:Rat}{i j k:Nat}[ba:Bd a i][bb:Bd b j][bc:Bd c k](hi:i≤2000)(hj:j≤2000)(hk:k≤2000)(na:0≤a)(nb:0≤b)(nc:0≤c):n3P (aj a) (aj b) (aj c):=
 ⟨am8 (okd hi (by decide)),am8 (okd hj (by decide)),am8 (okd hk (by decide)),by rwa [co],by rwa [co],by rwa [co]⟩
theorem agy{a b c e:Rat}{i j k l:Nat}[ba:Bd a i][bb:Bd b j][bc:Bd c k][be:Bd e l](hi:i≤2000)(hj:j≤2000)(hk:k≤2000)(hl:l≤2000)(na:0≤a)(nb:0≤b)(nc:0≤c)(ne:0≤e):n4P (aj a) (aj b) (aj c) (aj e):=
 ⟨ZF hi hj hk na nb nc,am8 (okd hl (by decide)),by rwa [co]⟩
theorem TG{a b c:Rat}{i j k:Nat}[ba:Bd a i][bb:Bd b j][bc:Bd c k](hi:i≤2000)(hj:j≤2000)(hk:k≤2000)(na:0≤a)(nb:0≤b)(nc:0≤c):decide (n3P (aj a) (aj b) (aj c))=true:=am5 (ZF hi hj hk na nb nc)
theorem xq{a b c e:Rat}{i j k l:Nat}[ba:Bd a i][bb:Bd b j][bc:Bd c k][be:Bd e l](hi:i≤2000)(hj:j≤2000)(hk:k≤2000)(hl:l≤2000)(na:0≤a)(nb:0≤b)(nc:0≤c)(ne:0≤e):decide (n4P (aj a) (aj b) (aj c) (aj e))=true:=am5 (agy hi hj hk hl na nb nc ne)
def vW(s a:BCU):Prop:=mG s∧mG a∧s.1=false∧a.1=true
instance (s a:BCU):Decidable (vW s a):=by unfold vW;infer_instance
def CM(c d:BCU):Prop:=mG c∧mG d∧c.1=true∧d.1=true
instance (c d:BCU):Decidable (CM c d):=by unfold CM;infer_instance
def kg(c d:BCU)(r:Rat):Int:=Hz (decide (((fq c d).length:Int)>0)||oO c d) (oH (dC c) (dC d) r) r
def NS(c d:BCU)(r:Rat):Int:=Hz (EB c d||decide (((uo c d).length:Int)>0)) (U7 (dC c) (dC d) r) r
namespace RE
theorem l7{a b:RE}(ha:0≤a)(hb:0≤b):sg (a*a-b*b)=sg (a-b):=by
 have e:a*a-b*b=(a+b)*(a-b):=by grind
 rcases fS (show 0≤a+b by grind)with h|h
 ·rw[e,mE h]
 ·rw[show a=0 by grind,show b=0 by grind,zero_mul]
theorem aa9(x:RE){r:RE}(hr:0≤r):max (sg (x-r)) (sg (-x-r))=sg (x*x-r*r):=by
 rcases lt_or_ge x 0 with h|h
 ·have:=l7 (show 0≤ -x by grind) hr;rw[show x*x= -x* -x by grind,this,Int.max_eq_right (qq (by grind))]
 ·rw[l7 h hr,Int.max_eq_left (qq (by grind))]
theorem HH{x:RE}(h:x≤0){r:RE}(hr:0≤r):sg (-x-r)=sg (x*x-r*r):=by
 rw[←l7 (show 0≤ -x by grind) hr,show-x* -x=x*x by grind]
theorem r8{d p q r:Rat}(hd:0≤d)(hp:0≤p)(hq:0≤q)(hr:0≤r):io d p q r=sg (rq d-rq p-rq q-of r):=by
 have a:=cQ hd;have b:=cQ hp;have c:=cQ hq;have t:=eT p;have u:=eT q;have w:=fx.2 hr;unfold io
 rw[pT hp hq,show rq d-rq p-rq q-of r=rq d-(rq p+rq q+of r) by grind,←l7 (eT d) (show 0≤rq p+rq q+of r by
  have:of 0=0:=rfl;grind)]
 refine congrArg sg ?_;unfold vq vQ;have two:of (-2)= -2:=rfl;simp only[of_sub,aG,two];grind
theorem Fk{x y z r:Rat}(hx:0≤x)(hy:0≤y)(hz:0≤z)(hr:0≤r):rE x y z r=sg (rq x+rq y-rq z-of r):=by
 have a:=cQ hx;have b:=cQ hy;have c:=cQ hz;have t:=eT x;have u:=eT y;have v:=eT z;have w:0≤of r:=fx.2 hr;unfold rE;rw[pT (anl hx hy) hz,show rq x+rq y-rq z-of r=rq x+rq y-(rq z+of r) by grind,←l7 (show 0≤rq x+rq y by grind) (show 0≤rq z+of r by grind)];refine congrArg sg ?_;unfold vq vQ;have two:of 2=2:=rfl;have zo:of 0=0:=rfl;simp only[of_sub,of_add,aG,of_neg,two,zo,uz hx hy];grind
theorem adS{a b c d:Rat}(ha:0≤a)(hb:0≤b)(hc:0≤c)(hd:0≤d):KK a b c d=sg (rq a+rq b-rq c-rq d):=by
 have e1:=cQ ha;have e2:=cQ hb;have e3:=cQ hc;have e4:=cQ hd;have t:=eT a;have u:=eT b;have v:=eT c;have w:=eT d;unfold KK;rw[pT (anl ha hb) (anl hc hd),show rq a+rq b-rq c-rq d=rq a+rq b-(rq c+rq d) by grind,←l7 (show 0≤rq a+rq b by grind) (show 0≤rq c+rq d by grind)];refine congrArg sg ?_;unfold vq vQ;have two:of 2=2:=rfl;have mtwo:of (-2)= -2:=rfl;have zo:of 0=0:=rfl;simp only[of_sub,of_add,two,mtwo,zo,uz ha hb,uz hc hd];grind
theorem JN{r:Rat}(hr:0≤r):rq (r*r)=of r:=EM _ _ (eT _) (fx.2 hr) (by rw[cQ (anl hr hr),aG])
theorem Nc:rq 0=0:=by
 have:=JN (r:=0) (by decide);rwa [Rat.zero_mul]at this
theorem ad9{a b c r:Rat}(ha:0≤a)(hb:0≤b)(hc:0≤c)(hr:0≤r):Bj a b c r=sg ((rq a+rq b+rq c)*(rq a+rq b+rq c)-of r*of r):=by
 have e1:=cQ ha;have e2:=cQ hb;have e3:=cQ hc;have t:=eT a;have u:=eT b;have v:=eT c;have w:0≤of r:=fx.2 hr;unfold Bj;rw[l7 (show 0≤rq a+rq b+rq c by grind) w];by_cases h:r*r<c
 ·have g:of r<rq c:=by
   refine sq_lt _ _ w v ?_;rw[e3,←aG];exact ib h
  rw[dT h,dB (by grind)];rfl
 ·have g:rq c≤of r:=by
   refine sO _ _ v w ?_;rw[e3,←aG];exact fx.2 (by grind)
  rw[dF h,pT (anl ha hb) hc,show rq a+rq b+rq c-of r=rq a+rq b-(of r-rq c) by grind,←l7 (show 0≤rq a+rq b by grind) (show 0≤of r-rq c by grind)];refine congrArg sg ?_;unfold vq vQ;have two:of 2=2:=rfl;have zo:of 0=0:=rfl;simp only[of_sub,of_add,aG,two,zo,uz ha hb];grind
theorem ac2{a b r:Rat}(ha:0≤a)(hb:0≤b)(hr:0≤r):Gj a b r=sg ((rq a-rq b)*(rq a-rq b)-of r*of r):=by
 have w:0≤of r:=fx.2 hr;have mono:∀{x y:Rat},0≤x→x≤y→rq x≤rq y:=fun{x y} h0 h=>sO _ _ (eT _) (eT _) (by rw[cQ h0,cQ (by grind)];exact fx.2 h);unfold Gj;by_cases h:a<b
 ·rw[dT h,cond_true,r8 hb ha (by decide) hr,Nc,←HH (show rq a-rq b≤0 by have:=mono ha (show a≤b by grind);grind) w];exact congrArg sg (by grind)
 ·rw[dF h,cond_false,r8 ha hb (by decide) hr,Nc,l7 (show 0≤rq a-rq b by have:=mono hb (show b≤a by grind);grind) w];exact congrArg sg (by grind)
theorem abN{a b c r:Rat}(ha:0≤a)(hb:0≤b)(hc:0≤c)(hr:0≤r):tT a b c r=sg ((rq a+rq b-rq c)*(rq a+rq b-rq c)-of r*of r):=by
 have w:0≤of r:=fx.2 hr;have zo:of 0=0:=rfl;unfold tT;rw[r8 hc ha hb (by decide),zo];rcases bi (rq c-rq a-rq b-0)with⟨h,e⟩|⟨h,e⟩|⟨h,e⟩<;>rw[e]
 ·show io c a b r=_;rw[r8 hc ha hb hr,←HH (show rq a+rq b-rq c≤0 by grind) w];exact congrArg sg (by grind)
 all_goals
  show KK a b c (r*r)=_;rw[adS ha hb hc (anl hr hr),JN hr,l7 (show 0≤rq a+rq b-rq c by grind) w]
theorem FZ{a b c r:Rat}(ha:0≤a)(hb:0≤b)(hc:0≤c)(hr:0≤r):max (io c a b r) (rE a b c r)=tT a b c r:=by
 rw[r8 hc ha hb hr,Fk ha hb hc hr,abN ha hb hc hr,←aa9 _ (fx.2 hr),Int.max_comm];exact congrArg (max _) (congrArg sg (by grind))
end RE
section
open RE
theorem Gx{s a:BCU}(hs:t3 s)(ha:t3 a)(e:s.1=false)(e':a.1=true):Bd (ftv (dC s) (dC a)) 200:=by
 obtain⟨bl,_⟩:=(jU hs).2 e;obtain⟨bc,_⟩:=(jU ha).1 e';have x1:Bd (mv (lnC (dC s)) (ctr (ciC (dC a)))) _:=(inferInstance:Bd (((lnC (dC s)).1*(ciC (dC a)).1+(lnC (dC s)).2.1*(ciC (dC a)).2.1-(lnC (dC s)).2.2)/((lnC (dC s)).1*(lnC (dC s)).1+(lnC (dC s)).2.1*(lnC (dC s)).2.1)) _)
 exact(inferInstance:Bd (((ciC (dC a)).1-mv (lnC (dC s)) (ctr (ciC (dC a)))*(lnC (dC s)).1,(ciC (dC a)).2.1-mv (lnC (dC s)) (ctr (ciC (dC a)))*(lnC (dC s)).2.1):Rat×Rat) _).mono (by decide)
theorem adQ(x:RE):sg x≤1:=(aaU x).2
theorem HB{c:Cv}(h:GdE c){p q:PE}(hq:onE c q){r:Rat}(hr:0≤r):poiE c p r≤sg (dsE q p-of (r*r)):=by
 obtain⟨m,hm,e⟩:=LS h p;rw[e r hr];exact qq (sX _ _ _ (hm.2 q hq))
theorem VN{c:Cv}(h:GdE c)(p:PE){r:Rat}(hr:0≤r):poiE c p r≤1:=by
 obtain⟨m,_,e⟩:=LS h p;rw[e r hr];exact adQ _
theorem NE(p q:PE):dsE p q=dsE q p:=by unfold dsE;grind
theorem Tm{c:Cv}(h:GdE c):onE c (pR (frC c))∧onE c (pR (toC c)):=by
 cases ha:c.1
 ·obtain⟨_,oF,oT⟩:=h.l ha;rw[Q5 ha];exact⟨⟨oF,by unfold btE;grind⟩,⟨oT,by unfold btE;grind⟩⟩
 ·have g:=ago h ha;rw[MU ha];have u:RE.arcE (ciC c) (pR (ccF c)) (pR (ccT c)) (pR (ccF c)):=⟨g.u,(oZ _ _).1⟩
  have w:RE.arcE (ciC c) (pR (ccF c)) (pR (ccT c)) (pR (ccT c)):=⟨g.w,(oZ _ _).2⟩
  rcases xu c with⟨g1,g2⟩|⟨g1,g2⟩<;>rw[g1,g2]at u w ⊢
  ·exact⟨u,w⟩
  ·exact⟨w,u⟩
theorem aeB{c:BCU}(h:gdN c){v:Rat×Rat}(hv:Bd v 200){r:Rat}(hr:0≤r):so (dC c) v r=sg (vR (oR (dC c) v)-of (r*r)):=by
 unfold so;rw[dF (show ¬r<0 by grind),cond_false,cmpTR_re (Ba (bv:=hv) h.1.1).2.nn]
theorem Pr{s a:BCU}(hs:gdN s)(ha:gdN a)(es:s.1=false)(ea:a.1=true){r:Rat}(hr:0≤r){E:Int}(h1:E≤1)(h2:E≤poiE (dC s) (pR (frC (dC a))) r)(h3:E≤poiE (dC s) (pR (toC (dC a))) r):min E (Ej (dC s) (dC a) r)=min E (E2 (dC s) (dC a) r):=by
 have bf:=Gx hs.1.2 ha.1.2 es ea;have hp:Rpd (atP (ftv (dC s) (dC a))):=inferInstance;have e1:(dC a).1=true:=ea;have dr:=aeB ha bf hr;unfold Ej E2;rw[nE hs.crp hp];cases o:onR (dC s) (atP (ftv (dC s) (dC a)))
 ·rfl
 ·have oe:onE (dC s) (vE (ftv (dC s) (dC a))):=by
   rw[←nE hs.crp hp]at o;have:=(Jc hs.e).1 o;rwa [oA]at this
  cases t:cf (dC a) (bh (ctr (ciC (dC a))) (ftv (dC s) (dC a)))
  ·show min E (so _ _ _)=min E 1;rw[Int.min_eq_left h1];refine Int.min_eq_left ?_
   have:oR (dC a) (ftv (dC s) (dC a))=yV (dC a) (ftv (dC s) (dC a)):=by
    unfold oR bV;rw[e1,t];rfl
   rw[dr,this,SY ha.e.f ha.e.t,←LI];have k1:=HB hs.e (p:=pR (frC (dC a))) oe hr;have k2:=HB hs.e (p:=pR (toC (dC a))) oe hr;rw[NE]at k1 k2;exact Int.le_min.2 ⟨Int.le_trans h2 k1,Int.le_trans h3 k2⟩
  ·show min E (so _ _ _)=min E (Gj _ _ _);have hq:=ha.crp.q ea;have hn:=jc (bh (ctr (ciC (dC a))) (ftv (dC s) (dC a)))
   have:oR (dC a) (ftv (dC s) (dC a))=mkR (aY (bh (ctr (ciC (dC a))) (ftv (dC s) (dC a))) (bh (ctr (ciC (dC a))) (ftv (dC s) (dC a)))+(ciC (dC a)).2.2) (-2) (aY (bh (ctr (ciC (dC a))) (ftv (dC s) (dC a))) (bh (ctr (ciC (dC a))) (ftv (dC s) (dC a)))*(ciC (dC a)).2.2):=by
    unfold oR bV;rw[e1,t];rfl
   rw[dr,this,vR_mk,ac2 hn (by grind) hr];have a1:=cQ hn;have a2:=cQ (m:=(ciC (dC a)).2.2) (by grind);unfold v2;have two:of (-2)= -2:=rfl;rw[uz hn (by grind),of_add,two,aG r r];exact congrArg _ (congrArg _ (by grind))
theorem afQ{u w:PE}{a b:RE}(ha:0≤a)(hb:0≤b)(hu:dtE u u=a*a)(hw:dtE w w=b*b):dtE (u.1+w.1,u.2+w.2) (u.1+w.1,u.2+w.2)≤(a+b)*(a+b):=by
 have h1:=FV u.1 u.2 w.1 w.2;have h2:=fo (u.1*w.2-u.2*w.1);have h3:u.1*u.1+u.2*u.2=a*a:=hu;have h4:w.1*w.1+w.2*w.2=b*b:=hw
 have h5:u.1*w.1+u.2*w.2≤a*b:=by
  rw[h3,h4]at h1;rcases lt_or_ge 0 (u.1*w.1+u.2*w.2)with g|g
  ·exact sO _ _ (le_of_lt g) (bg ha hb) (by grind)
  ·have:=bg ha hb;grind
 show(_+_)*(_+_)+(_+_)*(_+_)≤_;grind
theorem UL(u:PE):∃a,0≤a∧dtE u u=a*a:=by
 have:0≤dtE u u:=by
  have h1:=fo u.1;have h2:=fo u.2;unfold dtE;grind
 exact⟨_,jD _,(sI this).symm⟩
theorem alV{c d:Cv}{p q:PE}(hp:gC (ciC c) p)(hq:gC (ciC d) q)(h1:0≤(ciC c).2.2)(h2:0≤(ciC d).2.2):dsE q p≤(rq (nD c d)+rq (ciC c).2.2+rq (ciC d).2.2)*(rq (nD c d)+rq (ciC c).2.2+rq (ciC d).2.2):=by
 have n0:0≤nD c d:=jc _;have a1:=cQ n0;have a2:=cQ h1;have a3:=cQ h2;have b1:=eT (nD c d);have b2:=eT (ciC c).2.2;have b3:=eT (ciC d).2.2;have d1:dtE (vE (wyv c d)) (vE (wyv c d))=rq (nD c d)*rq (nD c d):=by rw[X5,a1];rfl
 have d2:dtE (-(frm (ciC c) p).1,-(frm (ciC c) p).2) (-(frm (ciC c) p).1,-(frm (ciC c) p).2)=rq (ciC c).2.2*rq (ciC c).2.2:=by
  rw[a2,←hp];unfold dtE;grind
 have d3:dtE (frm (ciC d) q) (frm (ciC d) q)=rq (ciC d).2.2*rq (ciC d).2.2:=by
  rw[a3];exact hq
 have t1:=afQ b1 b2 d1 d2;obtain⟨z,z0,ez⟩:=UL ((vE (wyv c d)).1+ -(frm (ciC c) p).1,(vE (wyv c d)).2+ -(frm (ciC c) p).2);have t2:=afQ z0 b3 ez d3;have zl:z≤rq (nD c d)+rq (ciC c).2.2:=sO _ _ z0 (by grind) (by rw[←ez];exact t1)
 have:dsE q p=dtE ((vE (wyv c d)).1+ -(frm (ciC c) p).1+(frm (ciC d) q).1,(vE (wyv c d)).2+ -(frm (ciC c) p).2+(frm (ciC d) q).2) ((vE (wyv c d)).1+ -(frm (ciC c) p).1+(frm (ciC d) q).1,(vE (wyv c d)).2+ -(frm (ciC c) p).2+(frm (ciC d) q).2):=by
  unfold dsE dtE vE wyv bh frm ctr;dsimp only;rw[of_sub,of_sub];grind
 rw[this];exact le_trans t2 (RE.sq_mono _ _ (by grind) (by grind))
theorem acM{c d:BCU}(hc:gdN c)(hd:gdN d)(ec:c.1=true)(ed:d.1=true){r:Rat}(hr:0≤r){E:Int}(h1:E≤1)(h2:E≤poiE (dC d) (pR (frC (dC c))) r):min E (yG (dC c) (dC d) r)=min E (K4 (dC c) (dC d) r):=by
 have p0:=hc.crp.q ec;have q0:=hd.crp.q ed;have n0:0≤nD (dC c) (dC d):=jc _;have hp:0≤(ciC (dC c)).2.2:=by grind
 have hq:0≤(ciC (dC d)).2.2:=by grind
 unfold yG K4;cases decide (nD (dC c) (dC d)=0)
 ·rw[cond_false,cond_false,FZ hp hq n0 hr,Int.max_comm (rE _ _ _ _),Int.max_comm (rE _ _ _ _),FZ n0 hq hp hr,FZ n0 hp hq hr]
  have k:E≤Bj (nD (dC c) (dC d)) (ciC (dC c)).2.2 (ciC (dC d)).2.2 r:=by
   obtain⟨g1,oF,_⟩:=hc.e.q ec;obtain⟨g2,oG,_⟩:=hd.e.q ed;rw[ad9 n0 hp hq hr,←aG];exact Int.le_trans h2 (Int.le_trans (HB hd.e (Tm hd.e).1 hr) (qq (sX _ _ _ (alV (c:=dC c) (d:=dC d) oF oG hp hq))))
  generalize tT _ _ _ r=x;generalize qV (nT (dC c) (dC d)&&cf (dC d) (wyv (dC c) (dC d))) _=y;generalize qV (fT (dC c) (dC d)&&cf (dC d) (bkV (wyv (dC c) (dC d)))) _=z;cases fT (dC c) (dC d)&&cf (dC d) (wyv (dC c) (dC d))<;>simp only[qV,cond_true,cond_false]
  ·generalize (bif nT (dC c) (dC d)&&cf (dC d) (bkV (wyv (dC c) (dC d)))then x else 1)=x';omega
  ·generalize (bif nT (dC c) (dC d)&&cf (dC d) (bkV (wyv (dC c) (dC d)))then x else 1)=x';omega
 ·rfl
theorem abe{c d:BCU}(hc:gdN c)(hd:gdN d){r:Rat}(hr:0≤r):oH (dC c) (dC d) r=U7 (dC c) (dC d) r:=by
 have l1:lz (dC c) (dC d) r≤1:=by
  have:=VN hd.e (pR (frC (dC c))) hr;unfold lz;omega
 unfold oH U7;have e1:(dC c).1=c.1:=rfl;have e2:(dC d).1=d.1:=rfl;rw[e1,e2];cases hx:c.1<;>cases hy:d.1
 ·rfl
 ·exact Pr hc hd hx hy hr l1 (by unfold lz;omega) (by unfold lz;omega)
 ·exact Pr hd hc hy hx hr l1 (by unfold lz;omega) (by unfold lz;omega)
 ·exact acM hc hd hx hy hr l1 (by unfold lz;omega)
theorem AR{c d:BCU}(hc:gdN c)(hd:gdN d)(h:fq c d=[]):oO c d=false:=by
 cases hN:oO c d
 ·rfl
 ·exfalso;unfold oO at hN;obtain⟨hs,ho⟩:=anh.1 hN;rw[h]at ho;have ho:([MY c c.2.2.2.2.1 c.2.2.2.2.2].any (CZ d))=true:=ho
  have h1:onP (dC d) (dec c.2.2.2.2.1)=true:=by
   simp only[apS,List.any_nil,Bool.or_false]at ho;unfold CZ at ho;exact(anh.1 (anh.1 ho).1).1
  have r:Rpd (dec c.2.2.2.2.1:Pt):=hc.crp.f.1;have hx:c.2.2.2.2.1∈iO c d:=by unfold iO;rw[hs];simp
  have k:=BY hc hd r (adK hc).1 (by rw[←nE hd.crp r];exact h1);obtain⟨y,hy,_⟩:=(AD hc.crp hc.ne (Gf hc hd)).2 _ (ao7.2 ⟨hx,k⟩);have hy:y∈fq c d:=hy;rw[h]at hy;cases hy
theorem acR{c d:BCU}(hc:gdN c)(hd:gdN d):(decide (((fq c d).length:Int)>0)||oO c d)=(EB c d||decide (((uo c d).length:Int)>0)):=by
 have e:=(US hc hd).1;by_cases h:fq c d=[]
 ·have hl:uo c d=[]:=List.length_eq_zero_iff.1 (by rw[←e,h];rfl);have hb:EB c d=false:=by unfold EB;rw[hl];exact aqf _
  rw[AR hc hd h,hb,h,hl];rfl
 ·have:0<(fq c d).length:=anE.2 h;rw[dT (show((fq c d).length:Int)>0 by omega),dT (show((uo c d).length:Int)>0 by omega),aqk,Bool.or_true]
theorem adE{c d:BCU}(hc:gdN c)(hd:gdN d)(r:Rat):kg c d r=NS c d r:=by
 unfold kg NS Hz;by_cases hr:r<0
 ·rw[dT hr];rfl
 ·rw[dF hr,abe hc hd (by grind),acR hc hd]
end
end Go.Proofs.YtnkndpoojnflmaaGreat
end
