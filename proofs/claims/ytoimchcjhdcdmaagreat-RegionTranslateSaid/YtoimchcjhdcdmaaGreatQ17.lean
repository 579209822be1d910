/- Pieces of a curve: the program's are the reference's. -/
import Derived.Test.YtoimchcjhdcdmaaGreatQ16
import Derived.Test.YtoimchcjhdcdmaaGreatQ7
noncomputable section
namespace Go.Proofs.YtoimchcjhdcdmaaGreat
open Go.RowKit Go.IntKind
open Bool renaming true->T',false->F'
open Option renaming some->S',none->N'
open Decidable renaming decide->D'
theorem aqZ:type_of% @bne_iff_ne:=@bne_iff_ne
section
open RE
def wy(c:BCU):BP->List BP->List BCU
 |f,[]=>[Ap c f c.2.2.2.2.2]
 |f,p::r=>bif fM p c.2.2.2.2.1||fM p c.2.2.2.2.2 then wy c f r else Ap c f p::wy c p r
def WF(c:BCU)(l:List BP):List BCU:=wy c c.2.2.2.2.1 (du (dC c) l)
def SJ(c:BCU)(l:List BP):Bool:=l.any λp=>!onP (dC c) (dec p)
def oP(c:BCU)(l:List BP):List BCU:=bif SJ c l then []else WF c l
def X9(c:BCU)(l:List BP):Int:=bif SJ c l then 1 else 0
section
variable {c:BCU} (h:gdN c) {l:List BP} (ho:∀x∈l,Rpd (dec x:Pt)/\onR (dC c) (dec x)=T')
include h ho
omit h ho in
end
end
section
open RE
def frB(c:BCU):BP:=c.2.2.2.2.1
def toB(c:BCU):BP:=c.2.2.2.2.2
def LN(d p:BCU):Bool:=(onP (dC d) (dec (frB p))&&onP (dC d) (dec (toB p)))&&(bif d.1 then !fM (frB (dS p)) (toB (dS d))&&D' (me bj (ptd (dec (dS d).2.2.1) (dec (frB (dS p)))) (ptd (dec (dS d).2.2.1) (dec (toB (dS p)))) (ptd (dec (dS d).2.2.1) (dec (toB (dS d))))<=0)else T')
def z7(c d:BCU)(l:List BP):Bool:=(oP c l).any (LN d)
def Ij(c d:BCU):Bool:=cG (dC c) (dC d)&&z7 c d (mc c d)
theorem gdN.rev{d:BCU}(h:gdN d):gdN (gJ d):=by
 obtain⟨⟨h1,h2,h3⟩,h4,h5,h6⟩:=h;have r1:=cY h1.2.2.1;have r2:=cY h1.2.2.2;refine⟨⟨Es _ h1,h2,h3⟩,h5,h4,λe=>h6 ?_⟩;have i1:Rpd (frC (dC d)):=r1;have i2:Rpd (toC (dC d)):=r2;exact TS (p:=toC (dC d)) (q:=frC (dC d)) e
end
section
def yo(c d:BCU)(l:List BP):Prop:=kG c l/\okC 4000 d
instance (c d:BCU) (l:List BP):Decidable (yo c d l):=by unfold yo;infer_instance
theorem afw(d:BCU):(dS d).1=d.1:=by
 unfold dS;cases d.2.2.2.1<;>rfl
theorem KN{k:Nat}{d:BCU}(h:okC k d):okC k (dS d):=by
 unfold dS;cases d.2.2.2.1
 ·exact h
 ·exact Es k h
theorem DS{c:BCU}(hc:okC 4000 c):∀{L:List BP} {f:BP},okP 4000 f->(∀x∈L,okP 4000 x)->∀p∈wy c f L,okC 4000 p
 |[],f,hf,_,p,hp=>by
  rw[apz.1 hp];exact⟨hc.1,hc.2.1,hf,hc.2.2.2⟩
 |x::r,f,hf,hL,p,hp=>by
  have hx:=hL x (by simp);have hr:∀y∈r,okP 4000 y:=λy hy=>hL y (ao4 _ hy);unfold wy at hp;cases h:fM x c.2.2.2.2.1||fM x c.2.2.2.2.2<;>rw[h]at hp
  ·rcases ao7.1 hp with e|e
   ·rw[e];exact⟨hc.1,hc.2.1,hf,hx⟩
   ·exact DS hc hx hr p e
  ·exact DS hc hf hr p hp
theorem WH{c:BCU}{l:List BP}(h:kG c l):(oP c l).length<=20/\∀p∈oP c l,okC 4000 p:=by
 obtain⟨hc,hl,ho⟩:=h;have hs:∀x∈du (dC c) l,okP 4000 x:=λx hx=>ho x (mH hx);have hn:(du (dC c) l).length<=l.length:=ng
 have len:∀(L:List BP) (f:BP),(wy c f L).length<=L.length+1:=by
  intro L;induction L with
  |nil=>intro f;simp[wy]
  |cons x r ih=>
   intro f;unfold wy;cases fM x c.2.2.2.2.1||fM x c.2.2.2.2.2
   ·have:=ih x;simp only[cond_false,ao8];omega
   ·have:=ih f;simp only[cond_true,ao8];omega
 unfold oP;cases SJ c l
 ·refine⟨?_,DS hc hc.2.2.1 hs⟩;have:=len (du (dC c) l) c.2.2.2.2.1;simp only[cond_false];unfold WF;omega
 ·exact⟨by simp,λp hp=>by cases hp⟩
def TU:List En:=[enT KC,enT mE,enK Si]
def aec:NT:=[((233,6),{keep:=[0,1,7,8],hl:=1}),((81,18),{keep:=[2,6,7,17,18,19],own:=[(6,48,tCU)],hl:=3}),((81,4),{keep:=[1,2,13],hl:=0}),((160,3),{keep:=[7],hl:=0}),((233,18),{keep:=[0,1,5,7,8,16],hl:=0})]
def Fh:Ctx:=CX (ens TU) aec
def nU(c:BCU)(l:List BP)(s233_8:Int):Cfg:=⟨233,[.blk 0,.seq 25],[(0,.d (.sl tP) l),(1,.clo 161 [0]),(7,SI (l.length:Int)),(8,SI s233_8)],[.box 48 (Ty.split tCU c)],1,[⟨160,[.seq 4],3,2,[],1,N'⟩,⟨81,[.seq 5,.seq 10],4,2,[(1,.d (.sl tP) l),(2,.box 0 0)],0,N'⟩]⟩
def qn(c:BCU)(l:List BP)(s19:Int)(B1:BCU)(r2:List BCU):Cfg:=⟨81,[.blk 0,.seq 41],[(2,.box 0 0),(6,.own 2),(7,.box 1 0),(17,.d (.sl tP) (du (dC c) l)),(18,SI ((du (dC c) l).length:Int)),(19,SI s19)],[.box 48 (Ty.split tCU c),.box 48 (Ty.split tCU B1),.row 48 tCU r2],0,[]⟩
def akE(c:BCU)(l:List BP)(k:KT):OLR:=k 6 (nU c l 0)
theorem amH(c:BCU)(l:List BP):RS Fh 81 [.d tCU c,.d (.sl tP) l] (akE c l):=rsX
def nI(c:BCU)(l:List BP)(s233_8:Int)(k:KT):OLR:=match D' (s233_8<(l.length:Int))with|T'=>(match aH l s233_8 with|S' x1=>(match D' (okC 4000 c/\okP 4000 x1)with|T'=>(match !(onP (dC c) (dec x1))with|T'=>(match D' (s233_8>=0)with|T'=>S' [RV.d (.sl tCU) ([]),RV.d ask 1]|F'=>(match D' (kG c l)with|T'=>N'|F'=>N'))|F'=>k 6 (nU c l (i64.wrap (s233_8+1))))|F'=>N')|N'=>N')|F'=>(match D' ((-1)>=0)with|T'=>S' [RV.d (.sl tCU) ([]),RV.d ask 1]|F'=>(match D' (kG c l)with|T'=>k 18 (qn c l 0 c ([]))|F'=>N'))
theorem uk(c:BCU)(l:List BP)(s233_8:Int):RN Fh 6 (nU c l s233_8) (nI c l s233_8):=rnX
def uR(c:BCU)(l:List BP)(s19:Int)(B1:BCU)(r2:List BCU)(k:KT):OLR:=match D' (s19<((du (dC c) l).length:Int))with|T'=>(match aH (du (dC c) l) s19 with|S' x1=>(match D' (okP 4000 x1/\okP 4000 c.2.2.2.2.1)with|T'=>(match aB (dec x1) (dec c.2.2.2.2.1)==0 with|T'=>k 18 (qn c l (i64.wrap (s19+1)) B1 r2)|F'=>(match D' (okP 4000 x1/\okP 4000 c.2.2.2.2.2)with|T'=>(match aB (dec x1) (dec c.2.2.2.2.2)==0 with|T'=>k 18 (qn c l (i64.wrap (s19+1)) B1 r2)|F'=>dup (.b .l .l) (match D' ((r2.length+([(B1.1,(B1.2.1,(B1.2.2.1,(B1.2.2.2.1,(B1.2.2.2.2.1,x1)))))]).length)*1040<=140737488355328/\r2.length+([(B1.1,(B1.2.1,(B1.2.2.1,(B1.2.2.2.1,(B1.2.2.2.2.1,x1)))))]).length<=140737488355328)with|T'=>k 18 (qn c l (i64.wrap (s19+1)) (B1.1,(B1.2.1,(B1.2.2.1,(B1.2.2.2.1,(x1,B1.2.2.2.2.2))))) (r2++([(B1.1,(B1.2.1,(B1.2.2.1,(B1.2.2.2.1,(B1.2.2.2.2.1,x1)))))])))|F'=>N'))|F'=>N'))|F'=>N')|N'=>N')|F'=>(match D' ((r2.length+([B1]).length)*1040<=140737488355328/\r2.length+([B1]).length<=140737488355328)with|T'=>S' [RV.d (.sl tCU) (r2++([B1])),RV.d ask 0]|F'=>N')
theorem AI(c:BCU)(l:List BP)(s19:Int)(B1:BCU)(r2:List BCU):RN Fh 18 (qn c l s19 B1 r2) (uR c l s19 B1 r2):=rnX
section
variable (c:BCU) (l:List BP) (h:kG c l)
include h
theorem LM:∀(L:List BP) (i:Nat),(du (dC c) l).drop i=L->i<=(du (dC c) l).length->∀(f:BP) (r2:List BCU),r2.length<=i->Fh.Runs 18 (qn c l (i:Int) (Ap c f c.2.2.2.2.2) r2) [.d (.sl tCU) (r2++wy c f L),.d ask (0:Int)]
 |[],i,hd,hi,f,r2,hr=>by
  have hn:(du (dC c) l).length<=l.length:=ng;have hl:=h.2.1;have hlen:=congrArg List.length hd;rw[ark,List.length_nil]at hlen;refine AI _ _ _ _ _ ⟨0,?_⟩;unfold uR;rw[bg (by omega),apd,DB (by omega) (by omega)];rfl
 |x::r,i,hd,hi,f,r2,hr=>by
  have hn:(du (dC c) l).length<=l.length:=ng;have hl:=h.2.1;have hlen:=congrArg List.length hd;rw[ark,ao8]at hlen;have hil:i<(du (dC c) l).length:=by omega
  have hd2:=ao5 hil;rw[hd2]at hd;injection hd with e1 e2;have hx:okP 4000 x:=by rw[<-e1];exact h.2.2 _ (mH (aoY hil))
  have g1:aH (du (dC c) l) (i:Int)=S' x:=by rw[ak,aoO hil,e1]
  have ih:=LM r (i+1) e2 (by omega);refine AI _ _ _ _ _ ?_;unfold uR wy;rw[aO hil,g1,aS (by omega)];dsimp only;rw[dT (show okP 4000 x/\okP 4000 c.2.2.2.2.1 from⟨hx,h.1.2.2.1⟩),dT (show okP 4000 x/\okP 4000 c.2.2.2.2.2 from⟨hx,h.1.2.2.2⟩)];unfold fM;cases q1:aB (dec x) (dec c.2.2.2.2.1)==0
  ·cases q2:aB (dec x) (dec c.2.2.2.2.2)==0
   ·obtain⟨n,hn⟩:=ih x (r2++[Ap c f x]) (by simp;omega);refine⟨n,?_⟩;rw[apg]at hn;simp only[dp];rw[apd,DB (by omega) (by omega)];exact hn
   ·exact ih f r2 (by omega)
  ·exact ih f r2 (by omega)
theorem agL:∀(j i:Nat),i+j=l.length->Fh.Runs 6 (nU c l (i:Int)) [.d (.sl tCU) (bif (l.drop i).any (λp=>!onP (dC c) (dec p))then []else WF c l),.d ask (bif (l.drop i).any (λp=>!onP (dC c) (dec p))then(1:Int)else 0)]:=by
 intro j;have hl:=h.2.1;induction j with
 |zero=>
  intro i hi;obtain⟨n,hn⟩:=LM c l h (du (dC c) l) 0 rfl (arh _) c.2.2.2.2.1 [] (aoU _);refine uk _ _ _ ⟨n,?_⟩;unfold nI;rw[bg (by omega),yy (by omega)];dsimp only;rw[dF (show ¬(-1:Int)>=0 by decide),dT h];exact hn
 |succ j ih=>
  intro i hi;have hil:i<l.length:=by omega
  obtain⟨n,hn⟩:=ih (i+1) (by omega);refine uk _ _ _ ⟨n,?_⟩;unfold nI;rw[aO hil,ak,aoO hil,jw hil,List.any_cons,aS (by omega)];dsimp only;rw[dT (show okC 4000 c/\okP 4000 l[i] from⟨h.1,h.2.2 _ (aoY _)⟩)];cases onP (dC c) (dec l[i])
  ·dsimp only[Bool.not_false];rw[dT (show(i:Int)>=0 by omega)];rfl
  ·exact hn
end
def GI:Cn 81 [tCU,(.sl tP)]:=cn λ(c:BCU) (l:List BP)=>lf (kG c l) [.d (.sl tCU) (oP c l),.d ask (X9 c l)] λh=>by
 have q:=agL c l h l.length 0 (ao3 _);exact aX TU (amH _ _ q)
def adF:List En:=[enT KC,enT mE,enL abN,enT Rw]
def ZW(d p:BCU)(_k:KT):OLR:=og (D' (okC 4000 d/\okP 4000 p.2.2.2.2.1)) (match !(onP (dC d) (dec p.2.2.2.2.1))with|T'=>S' [RV.d .bool F']|F'=>(og (D' (okC 4000 d/\okP 4000 p.2.2.2.2.2)) (match !(onP (dC d) (dec p.2.2.2.2.2))with|T'=>S' [RV.d .bool F']|F'=>(match !d.1 with|T'=>S' [RV.d .bool T']|F'=>(og (D' (okP 4000 ((((((hid (dS p)).2).2).2).2).1)/\okP 4000 ((((((hid (dS d)).2).2).2).2).2))) (match aB (dec ((((((hid (dS p)).2).2).2).2).1)) (dec ((((((hid (dS d)).2).2).2).2).2))==0 with|T'=>S' [RV.d .bool F']|F'=>(og (D' (ok Ln 300 ((((hid (dS d)).2).2).1)/\okP 4000 ((((((hid (dS p)).2).2).2).2).1)/\okP 4000 ((((((hid (dS p)).2).2).2).2).2)/\okP 4000 ((((((hid (dS d)).2).2).2).2).2))) (S' [RV.d .bool (D' ((me bj (ptd (dec ((((hid (dS d)).2).2).1)) (dec ((((((hid (dS p)).2).2).2).2).1))) (ptd (dec ((((hid (dS d)).2).2).1)) (dec ((((((hid (dS p)).2).2).2).2).2))) (ptd (dec ((((hid (dS d)).2).2).1)) (dec ((((((hid (dS d)).2).2).2).2).2))))<=0))]))))))))
def al0:Cn 241 [tCU,tCU]:=cn λ(d p:BCU)=>lf (okC 4000 d/\okC 4000 p) [.d .bool (LN d p)] λh=>by
 refine aA adF (ZW d p) ⟨0,?_⟩;obtain⟨hd,hp⟩:=h;have hd':=KN hd;have hp':=KN hp;unfold ZW LN frB toB fM;simp only[aQ];rw[dT (show okC 4000 d/\okP 4000 p.2.2.2.2.1 from⟨hd,hp.2.2.1⟩),dT (show okC 4000 d/\okP 4000 p.2.2.2.2.2 from⟨hd,hp.2.2.2⟩)];cases onP (dC d) (dec p.2.2.2.2.1)
 ·rfl
 ·cases onP (dC d) (dec p.2.2.2.2.2)
  ·rfl
  ·cases ha:d.1
   ·rfl
   ·rw[dT (show okP 4000 (dS p).2.2.2.2.1/\okP 4000 (dS d).2.2.2.2.2 from⟨hp'.2.2.1,hd'.2.2.2⟩),dT (show ok Ln 300 (dS d).2.2.1/\okP 4000 (dS p).2.2.2.2.1/\okP 4000 (dS p).2.2.2.2.2/\okP 4000 (dS d).2.2.2.2.2 from⟨(hd'.1 ((afw d).trans ha)).1,hp'.2.2.1,hp'.2.2.2,hd'.2.2.2⟩)];cases aB (dec (dS p).2.2.2.2.1) (dec (dS d).2.2.2.2.2)==0<;>rfl
def Sr:List En:=[enK GI,enT al0]
def acO:NT:=[((141,6),{keep:=[0,1,7,8],hl:=2}),((159,5),{keep:=[17],hl:=0}),((72,3),{keep:=[7],hl:=0}),((141,18),{keep:=[0,1,5,7,8,16],hl:=0})]
def Pu:Ctx:=CX (ens Sr) acO
def nR(c d:BCU)(l:List BP)(s141_8:Int):Cfg:=⟨141,[.blk 0,.seq 25],[(0,.d (.sl tCU) (oP c l)),(1,.clo 240 [1]),(7,SI ((oP c l).length:Int)),(8,SI s141_8)],[.box 48 (Ty.split tCU c),.box 48 (Ty.split tCU d)],2,[⟨72,[.seq 4],3,2,[],2,N'⟩,⟨159,[.seq 6],5,2,[],0,N'⟩]⟩
def Y3(c d:BCU)(l:List BP)(k:KT):OLR:=og (D' (kG c l)) (k 6 (nR c d l 0))
theorem aml(c d:BCU)(l:List BP):RS Pu 159 [.d tCU c,.d tCU d,.d (.sl tP) l] (Y3 c d l):=rsX
def oh(c d:BCU)(l:List BP)(s141_8:Int)(k:KT):OLR:=match D' (s141_8<((oP c l).length:Int))with|T'=>(match aH (oP c l) s141_8 with|S' x1=>(og (D' (okC 4000 d/\okC 4000 x1)) (match LN d x1 with|T'=>S' [RV.d .bool (D' (s141_8>=0))]|F'=>k 6 (nR c d l (i64.wrap (s141_8+1)))))|N'=>N')|F'=>S' [RV.d .bool (D' ((-1)>=0))]
theorem uf(c d:BCU)(l:List BP)(s141_8:Int):RN Pu 6 (nR c d l s141_8) (oh c d l s141_8):=rnX
theorem adu(c d:BCU)(l:List BP)(h:yo c d l):∀(j i:Nat),i+j=(oP c l).length->Pu.Runs 6 (nR c d l (i:Int)) [.d .bool (((oP c l).drop i).any (LN d))]:=by
 obtain⟨hn,ho⟩:=WH h.1;intro j;induction j with
 |zero=>
  intro i hi;refine uf _ _ _ _ ⟨0,?_⟩;unfold oh;rw[bg (by omega),yy (by omega)];rfl
 |succ j ih=>
  intro i hi;have hil:i<(oP c l).length:=by omega
  obtain⟨n,hn⟩:=ih (i+1) (by omega);refine uf _ _ _ _ ⟨n,?_⟩;unfold oh;rw[aO hil,ak,aoO hil,jw hil,List.any_cons,aS (by omega)];dsimp only;rw[dT (show okC 4000 d/\okC 4000 (oP c l)[i] from⟨h.2,ho _ (aoY _)⟩)];cases LN d (oP c l)[i]
  ·exact hn
  ·dsimp only;rw[dT (show(i:Int)>=0 by omega)];rfl
def aaa:Cn 159 [tCU,tCU,(.sl tP)]:=cn λ(c d:BCU) (l:List BP)=>lf (yo c d l) [.d .bool (z7 c d l)] λh=>by
 obtain⟨n,hn⟩:=adu c d l h (oP c l).length 0 (ao3 _);refine aX Sr (aml _ _ _ ⟨n,?_⟩);unfold Y3;rw[dT h.1];exact hn
end
theorem kI(q:Rat):(aD q 0== -1)=D' (q<0):=by
 unfold aD;by_cases h:q<0
 ·rw[aoP h];rfl
 ·rw[aoR h];by_cases h':0<q
  ·rw[aoP h'];rfl
  ·rw[aoR h'];rfl
def rI:List En:=[⟨94,fo,dG⟩,⟨194,iM,fd⟩,⟨122,kM,fY⟩,⟨165,lZ,ik⟩,⟨123,iQ,fi⟩,⟨46,jN,fx⟩,⟨196,l6,hU⟩,⟨164,vT,pV⟩,enL ail,enL ahF,enL A6,enL Vk,enL Qn,enL NQ,enL aiS]
def ahw:Cn 355 [tR,tR]:=cn λ(a b:BR)=>lf (okR a/\okR b) [.d tR (av (ag a+ag b))] λh=>qN [RV.d tR (hAd a b)] (eL rI) h
def aiT:Cn 298 [tR,tR]:=cn λ(a b:BR)=>lf (okR a/\okR b) [.d tR (av (ag a-ag b))] λh=>qN [RV.d tR (hSu a b)] (eL rI) h
def ai1:Cn 299 [tR,tR]:=cn λ(a b:BR)=>lf (okR a/\okR b) [.d tR (av (ag a*ag b))] λh=>qN [RV.d tR (hMu a b)] (eL rI) h
def ahN:Cn 300 [tR,tR]:=cn λ(a b:BR)=>lf (jK a b) [.d tR (av (ag a/ag b))] λh=>qN [RV.d tR (hDi a b)] (eL rI) h
def abf(a b:BR)(_k:KT):OLR:=match D' (okR a/\okR b)with|T'=>S' [RV.d .bool ((aD (ag a) (ag b))==0)]|F'=>N'
def aiM:Cn 279 [tR,tR]:=cn λ(a b:BR)=>lf (okR a/\okR b) [.d .bool (D' (ag a=ag b))] λh=>by
 refine aA rI (abf a b) ⟨0,?_⟩;unfold abf;rw[dT h];simp only[am]
def acb(x u y v k:BR)(_k:KT):OLR:=og (D' (ok Rat 100000 x/\ok Rat 100000 u/\ok Rat 100000 k/\0<=ag k)) (og (D' (ok Rat 100000 y/\ok Rat 100000 v/\ok Rat 100000 k/\0<=ag k)) (og (D' (okT 15000 (hid (enc (mkR (ag x) (ag u) (ag k))))/\okT 15000 (hid (enc (mkR (ag y) (ag v) (ag k))))/\zv (dec (hid (enc (mkR (ag x) (ag u) (ag k))))) (dec (hid (enc (mkR (ag y) (ag v) (ag k))))))) (S' [RV.d tP (hid (enc (mkP (dec (hid (enc (mkR (ag x) (ag u) (ag k))))) (dec (hid (enc (mkR (ag y) (ag v) (ag k))))))))])))
def amy:Cn 195 [tR,tR,tR,tR,tR]:=cn λ(x u y v k:BR)=>lf (ok Rat 1000 x/\ok Rat 1000 u/\ok Rat 1000 y/\ok Rat 1000 v/\ok Rat 1000 k/\0<=ag k) [.d tP (enc (pU (ag x) (ag u) (ag y) (ag v) (ag k)))] λh=>by
 refine aA rI (acb x u y v k) ⟨0,?_⟩;obtain⟨hx,hu,hy,hv,hk,h0⟩:=h;obtain⟨x,rfl,bx⟩:=aJ hx;obtain⟨u,rfl,bu⟩:=aJ hu;obtain⟨y,rfl,b_y⟩:=aJ hy;obtain⟨v,rfl,bv⟩:=aJ hv;obtain⟨k,rfl,bk⟩:=aJ hk;have h0:0<=(dec (enc k):Rat):=h0;rw[ao]at h0;have nk:Nn k:=⟨h0⟩
 have n0:D' (0<=k)=true:=aoP nk.le;have hm:D' (zv (mkR x u k) (mkR y v k))=true:=aoP (sZ _ _ _ _ _);unfold acb pU;simp only[aV,Nat.reduceAdd,Nat.reduceLeDiff,aI,n0,hm];try rfl
def rA:List En:=enL ahw::enL aiT::enL ai1::enL ahN::enT aiM::enL amy::rI
def ZM(l m:BO3)(_k:KT):OLR:=og (o2 l.1 m.2.1) (og (o2 m.1 l.2.1) (og (o2 (hMu l.1 m.2.1) (hMu m.1 l.2.1)) (match D' (ag (hMu l.1 m.2.1)=ag (hMu m.1 l.2.1))with|T'=>(og (o2 l.1 m.2.2) (og (o2 m.1 l.2.2) (og (o2 (hMu l.1 m.2.2) (hMu m.1 l.2.2)) (match D' (ag (hMu l.1 m.2.2)=ag (hMu m.1 l.2.2))with|T'=>(og (o2 l.2.1 m.2.2) (og (o2 m.2.1 l.2.2) (og (o2 (hMu l.2.1 m.2.2) (hMu m.2.1 l.2.2)) (S' [RV.d .bool (D' (ag (hMu l.2.1 m.2.2)=ag (hMu m.2.1 l.2.2)))]))))|F'=>S' [RV.d .bool F']))))|F'=>S' [RV.d .bool F'])))
def E9:Cn 206 [tO,tO]:=cn λ(l m:BO3)=>lf (cJ l/\cJ m) [.d .bool (oO (dec l) (dec m))] λh=>by
 refine aA rA (ZM l m) ⟨0,?_⟩;obtain⟨hl,hm⟩:=h;obtain⟨l,rfl,bl,nl⟩:=dL hl;obtain⟨m,rfl,bm,nm⟩:=dL hm;unfold ZM oO;have c1:l.2.1*m.1=m.1*l.2.1:=aqp _ _;have c2:l.2.2*m.1=m.1*l.2.2:=aqp _ _;have c3:l.2.2*m.2.1=m.2.1*l.2.2:=aqp _ _;simp only[aV,Nat.reduceAdd,Nat.reduceLeDiff,c1,c2,c3];cases D' (l.1*m.2.1=m.1*l.2.1)<;>cases D' (l.1*m.2.2=m.1*l.2.2)<;>rfl
def ZH(c d:BO3)(_k:KT):OLR:=og (o2 c.1 d.1) (match D' (ag c.1=ag d.1)with|T'=>(og (o2 c.2.1 d.2.1) (match D' (ag c.2.1=ag d.2.1)with|T'=>(og (o2 c.2.2 d.2.2) (S' [RV.d .bool (D' (ag c.2.2=ag d.2.2))]))|F'=>S' [RV.d .bool F']))|F'=>S' [RV.d .bool F'])
def FJ:Cn 205 [tO,tO]:=cn λ(c d:BO3)=>lf (bK c/\bK d) [.d .bool (pE (dec c) (dec d))] λh=>by
 refine aA rA (ZH c d) ⟨0,?_⟩;obtain⟨hc,hd⟩:=h;obtain⟨c,rfl,bc,nc⟩:=b8 hc;obtain⟨d,rfl,bd,nd⟩:=b8 hd;unfold ZH pE;simp only[aV,Nat.reduceLeDiff];cases D' (c.1=d.1)<;>cases D' (c.2.1=d.2.1)<;>rfl
def ZP(c d:BO3)(_k:KT):OLR:=og (o2 c.1 d.1) (match(aD (ag c.1) (ag d.1))==0 with|T'=>(og (o2 c.2.1 d.2.1) (S' [RV.d .bool ((aD (ag c.2.1) (ag d.2.1))==0)]))|F'=>S' [RV.d .bool F'])
def al3:Cn 295 [tO,tO]:=cn λ(c d:BO3)=>lf (bK c/\bK d) [.d .bool (jF (dec c) (dec d))] λh=>by
 refine aA rA (ZP c d) ⟨0,?_⟩;obtain⟨hc,hd⟩:=h;obtain⟨c,rfl,bc,nc⟩:=b8 hc;obtain⟨d,rfl,bd,nd⟩:=b8 hd;unfold ZP jF;simp only[aV,Nat.reduceLeDiff,am];cases D' (c.1=d.1)<;>rfl
def Yx(c:BO3)(_k:KT):OLR:=og (o2 c.1 c.1) (og (o2 c.2.1 c.2.1) (og (o2 (hMu c.1 c.1) (hMu c.2.1 c.2.1)) (og (o2 (hAd (hMu c.1 c.1) (hMu c.2.1 c.2.1)) c.2.2) (S' [RV.d tR (hSu (hAd (hMu c.1 c.1) (hMu c.2.1 c.2.1)) c.2.2)]))))
def aka:Cn 354 [tO]:=cn λ(c:BO3)=>lf (bK c) [.d tR (av (rC (dec c)))] λh=>by
 refine aA rA (Yx c) ⟨0,?_⟩;have hc:=h;obtain⟨c,rfl,bc,nc⟩:=b8 hc;unfold Yx rC;simp only[aV,Nat.reduceAdd,Nat.reduceLeDiff]
def aae(l c:BO3)(_k:KT):OLR:=let y1:=hid (enc (Vb (dec l) (dec (c.1,c.2.1))));let y2:=hSu (y1.2) c.2.1;let y3:=hMu (hSu (y1.1) c.1) (hSu (y1.1) c.1);let y4:=hAd y3 (hMu y2 y2);let y5:=hAd (hMu l.1 l.1) (hMu l.2.1 l.2.1);let y6:=jK (hSu c.2.2 y4) y5;let y7:=hDi (hSu c.2.2 y4) y5;let y8:OLR:=match decide y6 with|T'=>S' [RV.d tR y7,RV.d tV y1]|F'=>N';let y9:OLR:=match D' (okR (hMu l.1 l.1)/\okR (hMu l.2.1 l.2.1))with|T'=>y8|F'=>N';let y10:OLR:=match D' (okR l.2.1/\okR l.2.1)with|T'=>y9|F'=>N';og (D' (ok Ln 300 l/\ok (Rat×Rat) 200 (c.1,c.2.1)/\((dec l:Ln).1≠0\/(dec l:Ln).2.1≠0))) (og (o2 (y1.1) c.1) (og (o2 (y1.2) c.2.1) (og (o2 (hSu (y1.1) c.1) (hSu (y1.1) c.1)) (og (o2 y2 y2) (og (o2 y3 (hMu y2 y2)) (og (o2 c.2.2 y4) (cW (og (o2 l.1 l.1) (cW (og (o2 l.2.1 l.2.1) (cW (og (o2 (hMu l.1 l.1) (hMu l.2.1 l.2.1)) (cW (og (decide y6) (dup (.b .l .l) (S' [RV.d tR y7,RV.d tV y1]))) y8)) y9)) y10)) (og (o2 l.1 l.1) y10))))))))
def aiW:Cn 297 [tO,tO]:=cn λ(l c:BO3)=>lf (cJ l/\bK c) [.d tR (av (fP (dec l) (dec c))),.d tV (enc (ftL (dec l) (dec c)))] λh=>by
 refine aA rA (aae l c) ⟨0,?_⟩;obtain⟨hl,hc⟩:=h;obtain⟨l,rfl,bl,nl⟩:=dL hl;obtain⟨c,rfl,bc,nc⟩:=b8 hc;have ol:=aoP (lX (l:=l) nl);have bl:Bd l 63:=afJ;have bv:Bd ((c.1,c.2.1):Rat×Rat) 4:=inferInstance;have hn:=pk nl;have bn:Bd (cD l) 49:=inferInstanceAs (Bd (l.1*l.1+l.2.1*l.2.1) _);have bf:=Ip (l:=l) (c:=c);have b1:Bd (ftL l c).1 163:=inferInstance;have b2:Bd (ftL l c).2 163:=inferInstance;have e1:l.1*l.1+l.2.1*l.2.1=cD l:=rfl;unfold aae fP Cr;simp only[aV,Nat.reduceAdd,Nat.reduceLeDiff,MY,nl,Xo,e1,hn,ne_eq,aqq];try rfl
def aaW(c:BO3)(_k:KT):OLR:=og (D' (bI (1:Int))) (og (D' (bI (0:Int))) (og (o1 (hid (av ((1:Int):Rat)))) (og (D' (ok Rat 1000 c.1/\ok Rat 1000 (hNe (hid (av ((1:Int):Rat))))/\ok Rat 1000 c.2.1/\ok Rat 1000 (hid (av ((0:Int):Rat)))/\ok Rat 1000 c.2.2/\0<=ag c.2.2)) (og (D' (ok Rat 1000 c.1/\ok Rat 1000 (hid (av ((1:Int):Rat)))/\ok Rat 1000 c.2.1/\ok Rat 1000 (hid (av ((0:Int):Rat)))/\ok Rat 1000 c.2.2/\0<=ag c.2.2)) (S' [RV.d tP (hid (enc (pU (ag c.1) (ag (hNe (hid (av ((1:Int):Rat))))) (ag c.2.1) (ag (hid (av ((0:Int):Rat)))) (ag c.2.2)))),RV.d tP (hid (enc (pU (ag c.1) (ag (hid (av ((1:Int):Rat)))) (ag c.2.1) (ag (hid (av ((0:Int):Rat)))) (ag c.2.2))))])))))
def PN:Cn 111 [tO]:=cn λ(c:BO3)=>lf (bK c) [.d tP (enc (dX (dec c))),.d tP (enc (eH (dec c)))] λh=>by
 refine aA rA (aaW c) ⟨0,?_⟩;have hc:=h;obtain⟨c,rfl,bc,nc⟩:=b8 hc;have b0:Bd ((0:Int):Rat) 3:=dQ (by decide);have b1:Bd ((1:Int):Rat) 3:=dQ (by decide);have i0:D' (bI 0)=true:=by decide
 have i1:D' (bI 1)=true:=by decide
 have nc':D' (0<=c.2.2)=true:=aoP (by grind);unfold aaW dX eH;simp only[aV,Nat.reduceLeDiff,i0,i1,nc'];rfl
def yY:List En:=enT E9::enT FJ::enT al3::enL aka::enL aiW::enL PN::rA
def YY(l m:BO3)(_k:KT):OLR:=og (o2 l.1 m.2.1) (og (o2 m.1 l.2.1) (og (o2 (hMu l.1 m.2.1) (hMu m.1 l.2.1)) (og (o1 (hSu (hMu l.1 m.2.1) (hMu m.1 l.2.1))) (match(aD (ag (hSu (hMu l.1 m.2.1) (hMu m.1 l.2.1))) 0)==0 with|T'=>(og (D' (cJ l/\cJ m)) (match oO (dec l) (dec m)with|T'=>S' [RV.d (.sl tP) ([]),RV.d ask 10]|F'=>S' [RV.d (.sl tP) ([]),RV.d ask 0]))|F'=>(og (o2 l.2.2 m.2.1) (og (o2 m.2.2 l.2.1) (og (o2 (hMu l.2.2 m.2.1) (hMu m.2.2 l.2.1)) (og (D' (jK (hSu (hMu l.2.2 m.2.1) (hMu m.2.2 l.2.1)) (hSu (hMu l.1 m.2.1) (hMu m.1 l.2.1)))) (og (o2 l.1 m.2.2) (og (o2 m.1 l.2.2) (og (o2 (hMu l.1 m.2.2) (hMu m.1 l.2.2)) (og (D' (jK (hSu (hMu l.1 m.2.2) (hMu m.1 l.2.2)) (hSu (hMu l.1 m.2.1) (hMu m.1 l.2.1)))) (og (D' (ok (Rat×Rat) 100000 (hDi (hSu (hMu l.2.2 m.2.1) (hMu m.2.2 l.2.1)) (hSu (hMu l.1 m.2.1) (hMu m.1 l.2.1)),hDi (hSu (hMu l.1 m.2.2) (hMu m.1 l.2.2)) (hSu (hMu l.1 m.2.1) (hMu m.1 l.2.1))))) (S' [RV.d (.sl tP) ([hid (enc (atP (dec (hDi (hSu (hMu l.2.2 m.2.1) (hMu m.2.2 l.2.1)) (hSu (hMu l.1 m.2.1) (hMu m.1 l.2.1)),hDi (hSu (hMu l.1 m.2.2) (hMu m.1 l.2.2)) (hSu (hMu l.1 m.2.1) (hMu m.1 l.2.1))))))]),RV.d ask 0]))))))))))))))
def akK:Cn 232 [tO,tO]:=cn λ(l m:BO3)=>lf (cJ l/\cJ m) [.d (.sl tP) ((qJ (dec l) (dec m)).map enc),.d ask (TN (dec l) (dec m))] λh=>by
 refine aA yY (YY l m) ⟨0,?_⟩;obtain⟨hl,hm⟩:=h;obtain⟨l,rfl,bl,nl⟩:=dL hl;obtain⟨m,rfl,bm,nm⟩:=dL hm;have ol:=aoP (lX (l:=l) nl);have om:=aoP (lX (l:=m) nm);have bc:Bd (eK l m) 49:=inferInstanceAs (Bd (l.1*m.2.1-m.1*l.2.1) _);have e0:l.1*m.2.1-m.1*l.2.1=eK l m:=rfl;have e1:l.2.2*m.2.1-m.2.2*l.2.1=pJ l m:=rfl;have e2:l.1*m.2.2-m.1*l.2.2=oY l m:=rfl;have bx:Bd (pJ l m) 151:=inferInstanceAs (Bd (l.2.2*m.2.1-m.2.2*l.2.1) _);have b_:Bd (oY l m) 151:=inferInstanceAs (Bd (l.1*m.2.2-m.1*l.2.2) _);unfold YY qJ TN;simp only[aV,Nat.reduceAdd,Nat.reduceLeDiff,am,ol,om,e0,e1,e2];by_cases h0:eK l m=0
 ·simp only[aoP h0,Bool.not_true];cases oO l m<;>rfl
 ·simp only[aV,Nat.reduceAdd,Nat.reduceLeDiff,h0,ne_eq,aqq,Bool.not_false,MY];rfl
def acg(c d:BO3)(_k:KT):OLR:=og (D' (bK c/\bK d)) (match jF (dec c) (dec d)with|T'=>S' [RV.d tO (((F',[]),(F',[])),(((F',[]),(F',[])),((F',[]),(F',[])))),RV.d ask 6]|F'=>(og (D' (bI (2:Int))) (og (o2 d.1 c.1) (og (o2 (hid (av ((2:Int):Rat))) (hSu d.1 c.1)) (og (o2 d.2.1 c.2.1) (og (o2 (hid (av ((2:Int):Rat))) (hSu d.2.1 c.2.1)) (og (D' (bK d)) (og (D' (bK c)) (og (o2 (hid (av (rC (dec d)))) (hid (av (rC (dec c))))) (S' [RV.d tO (hMu (hid (av ((2:Int):Rat))) (hSu d.1 c.1),(hMu (hid (av ((2:Int):Rat))) (hSu d.2.1 c.2.1),hSu (hid (av (rC (dec d)))) (hid (av (rC (dec c)))))),RV.d ask 0]))))))))))
def ajk:Cn 296 [tO,tO]:=cn λ(c d:BO3)=>lf (bK c/\bK d) [.d tO (wh (dec c) (dec d)),.d ask (Xt (dec c) (dec d))] λh=>by
 refine aA yY (acg c d) ⟨0,?_⟩;obtain⟨hc,hd⟩:=h;obtain⟨c,rfl,bc,nc⟩:=b8 hc;obtain⟨d,rfl,bd,nd⟩:=b8 hd;have oc:=aoP (jR (c:=c) nc);have od:=aoP (jR (c:=d) nd);have i2:D' (bI 2)=true:=by decide
 have b2:Bd ((2:Int):Rat) 3:=dQ (by decide);have f1:Bd (rC c) 31:=(inferInstance:Bd (c.1*c.1+c.2.1*c.2.1-c.2.2) _).mono (by decide);have f2:Bd (rC d) 31:=(inferInstance:Bd (d.1*d.1+d.2.1*d.2.1-d.2.2) _).mono (by decide);unfold acg wh Xt;simp only[aV,Nat.reduceAdd,Nat.reduceLeDiff,oc,od,i2];cases jF c d
 ·rfl
 ·rfl
def ah9:Ctx:=CX (ens yY) []
def Z2(l c:BO3)(_k:KT):OLR:=let y1:=hid (av (fP (dec l) (dec c)));let y2:=hid (enc (ftL (dec l) (dec c)));let y3:=aD (ag l.2.1) 0;let y4:=hNe (hNe (hNe l.1));let y5:=enc (pU (ag (y2.1)) (ag (hNe l.2.1)) (ag (y2.2)) (ag (hNe (hNe l.1))) (ag y1));let y6:OLR:=match D' (okR l.2.1)with|T'=>(og (o1 (hNe l.1)) (og (o1 (hNe l.2.1)) (og (o1 (hNe (hNe l.1))) (og (D' (ok Rat 1000 (y2.1)/\ok Rat 1000 (hNe (hNe l.2.1))/\ok Rat 1000 (y2.2)/\ok Rat 1000 y4/\ok Rat 1000 y1/\0<=ag y1)) (og (D' (ok Rat 1000 (y2.1)/\ok Rat 1000 (hNe l.2.1)/\ok Rat 1000 (y2.2)/\ok Rat 1000 (hNe (hNe l.1))/\ok Rat 1000 y1/\0<=ag y1)) (S' [RV.new 40 tP ([hid (enc (pU (ag (y2.1)) (ag (hNe (hNe l.2.1))) (ag (y2.2)) (ag y4) (ag y1))),hid y5])]))))))|F'=>N';let y7:OLR:=match D' (okR l.2.1)with|T'=>(og (o1 (hNe l.1)) (og (D' (ok Rat 1000 (y2.1)/\ok Rat 1000 (hNe l.2.1)/\ok Rat 1000 (y2.2)/\ok Rat 1000 (hNe (hNe l.1))/\ok Rat 1000 y1/\0<=ag y1)) (og (D' (ok Rat 1000 (y2.1)/\ok Rat 1000 l.2.1/\ok Rat 1000 (y2.2)/\ok Rat 1000 (hNe l.1)/\ok Rat 1000 y1/\0<=ag y1)) (S' [RV.new 40 tP ([hid y5,hid (enc (pU (ag (y2.1)) (ag l.2.1) (ag (y2.2)) (ag (hNe l.1)) (ag y1)))])]))))|F'=>N';og (D' (cJ l/\bK c)) (og (o1 y1) (match(aD (ag y1) 0)==(-1)with|T'=>S' [RV.new 40 tP []]|F'=>(match(aD (ag y1) 0)==0 with|T'=>(og (D' (ok (Rat×Rat) 100000 y2)) (S' [RV.new 40 tP ([hid (enc (atP (dec y2)))])]))|F'=>(og (o1 l.1) (og (o1 l.2.1) (match D' (y3<0)with|T'=>y6|F'=>(match y3==0 with|T'=>(og (o1 (hNe l.1)) (match D' ((aD (ag (hNe l.1)) 0)<0)with|T'=>y6|F'=>y7))|F'=>y7)))))))
theorem amo(l c:BO3):RS ah9 231 [.d tO l,.d tO c] (Z2 l c):=rsX
def ald:Cn 231 [tO,tO]:=cn λ(l c:BO3)=>lf (cJ l/\bK c) [.d (.sl tP) ((mW (dec l) (dec c)).map enc)] λh=>by
 refine Con.new_d (et:=40) (aX yY (amo _ _ ⟨0,?_⟩));obtain⟨hl,hc⟩:=h;obtain⟨l,rfl,bl,nl⟩:=dL hl;obtain⟨c,rfl,bc,nc⟩:=b8 hc;have ol:=aoP (lX (l:=l) nl);have oc:=aoP (jR (c:=c) nc);have bf:=Ip (l:=l) (c:=c);have bk:=Ru (l:=l) (c:=c);have b1:Bd (ftL l c).1 163:=inferInstance;have b2:Bd (ftL l c).2 163:=inferInstance;unfold Z2 mW;simp only[aV,Nat.reduceLeDiff,am,aq,kI,ol,oc];by_cases h0:fP l c<0
 ·simp only[aoP h0];rfl
 ·simp only[aoR h0];by_cases h1:fP l c=0
  ·simp only[aoP h1];rfl
  ·have hp:D' (0<=fP l c)=true:=aoP (by grind);simp only[aoR h1,hp,aV];unfold lcM lcN vg uU MP;cases D' (l.2.1<0)<;>cases D' (l.2.1=0)<;>cases D' (-l.1<0)<;>rfl
def QW:List En:=enL akK::enL ajk::enL ald::yY
def acE(c d:BO3)(_k:KT):OLR:=og (D' (bK c/\bK d)) (match pE (dec c) (dec d)with|T'=>S' [RV.d (.sl tP) ([]),RV.d ask 10]|F'=>(og (D' (bK c/\bK d)) (match jF (dec c) (dec d)with|T'=>S' [RV.d (.sl tP) ([]),RV.d ask 0]|F'=>(og (D' (bK c/\bK d)) (og (D' (cJ (hid (wh (dec c) (dec d)))/\bK c)) (S' [RV.d (.sl tP) ((mW (dec (hid (wh (dec c) (dec d)))) (dec c)).map enc),RV.d ask 0]))))))
def aje:Cn 230 [tO,tO]:=cn λ(c d:BO3)=>lf (bK c/\bK d) [.d (.sl tP) ((GO (dec c) (dec d)).map enc),.d ask (Xc (dec c) (dec d))] λh=>by
 refine aA QW (acE c d) ⟨0,?_⟩;obtain⟨hc,hd⟩:=h;obtain⟨c,rfl,bc,nc⟩:=b8 hc;obtain⟨d,rfl,bd,nd⟩:=b8 hd;have oc:=aoP (jR (c:=c) nc);have od:=aoP (jR (c:=d) nd);unfold acE GO Xc;simp only[aV,oc,od];cases hs:pE c d
 ·cases hc:jF c d
  ·have ol:cJ (enc (pP c d)):=O6 hc;have er:wh c d=enc (pP c d):=by unfold wh;rw[hc];rfl
   simp only[er,dT ol,aV];try rfl
  ·rfl
 ·have hc:jF c d=true:=by
   unfold pE at hs;unfold jF;cases h1:D' (c.1=d.1)
   ·rw[h1]at hs;cases hs
   ·cases h2:D' (c.2.1=d.2.1)
    ·rw[h1,h2]at hs;cases hs
    ·rfl
  rw[hc];rfl
def Ts:List En:=enL aje::QW
def Zp(a b:BCU)(_k:KT):OLR:=match a.1 with|T'=>(match b.1 with|T'=>(og (D' (bK a.2.2.1/\bK b.2.2.1)) (S' [RV.d (.sl tP) ((GO (dec a.2.2.1) (dec b.2.2.1)).map enc),RV.d ask (Xc (dec a.2.2.1) (dec b.2.2.1))]))|F'=>(match a.1 with|T'=>(og (D' (cJ b.2.1/\bK a.2.2.1)) (S' [RV.d (.sl tP) ((mW (dec b.2.1) (dec a.2.2.1)).map enc),RV.d ask 0]))|F'=>(match b.1 with|T'=>(og (D' (cJ a.2.1/\bK b.2.2.1)) (S' [RV.d (.sl tP) ((mW (dec a.2.1) (dec b.2.2.1)).map enc),RV.d ask 0]))|F'=>(og (D' (cJ a.2.1/\cJ b.2.1)) (S' [RV.d (.sl tP) ((qJ (dec a.2.1) (dec b.2.1)).map enc),RV.d ask (TN (dec a.2.1) (dec b.2.1))])))))|F'=>(match a.1 with|T'=>(og (D' (cJ b.2.1/\bK a.2.2.1)) (S' [RV.d (.sl tP) ((mW (dec b.2.1) (dec a.2.2.1)).map enc),RV.d ask 0]))|F'=>(match b.1 with|T'=>(og (D' (cJ a.2.1/\bK b.2.2.1)) (S' [RV.d (.sl tP) ((mW (dec a.2.1) (dec b.2.2.1)).map enc),RV.d ask 0]))|F'=>(og (D' (cJ a.2.1/\cJ b.2.1)) (S' [RV.d (.sl tP) ((qJ (dec a.2.1) (dec b.2.1)).map enc),RV.d ask (TN (dec a.2.1) (dec b.2.1))]))))
def Y1:Cn 153 [tCU,tCU]:=cn λ(a b:BCU)=>lf (fh a b) [.d (.sl tP) ((jY (dC a) (dC b)).map enc),.d ask (ah5 (dC a) (dC b))] λh=>by
 refine aA Ts (Zp a b) ⟨0,?_⟩;obtain⟨⟨a1,a2⟩,b1,b2⟩:=h;unfold Zp jY ah5;obtain⟨aa,al,ac,aw,af,at_⟩:=a;obtain⟨ba,bl,bc,bw,bf,bt⟩:=b;cases aa<;>cases ba
 ·have h1:=a2 rfl;have h2:=b2 rfl;simp only[dT (show cJ al/\cJ bl from⟨h1,h2⟩)];rfl
 ·have h1:=a2 rfl;have h2:=b1 rfl;simp only[dT (show cJ al/\bK bc from⟨h1,h2⟩)];rfl
 ·have h1:=a1 rfl;have h2:=b2 rfl;simp only[dT (show cJ bl/\bK ac from⟨h2,h1⟩)];rfl
 ·have h1:=a1 rfl;have h2:=b1 rfl;simp only[dT (show bK ac/\bK bc from⟨h1,h2⟩)];rfl
def YK(a b:BCU)(_k:KT):OLR:=match !(a.1==b.1)with|T'=>S' [RV.d .bool F']|F'=>(match a.1 with|T'=>(og (D' (bK a.2.2.1/\bK b.2.2.1)) (S' [RV.d .bool (pE (dec a.2.2.1) (dec b.2.2.1))]))|F'=>(og (D' (cJ a.2.1/\cJ b.2.1)) (S' [RV.d .bool (oO (dec a.2.1) (dec b.2.1))])))
def NL:Cn 130 [tCU,tCU]:=cn λ(a b:BCU)=>lf (fh a b) [.d .bool (cG (dC a) (dC b))] λh=>by
 refine aA Ts (YK a b) ⟨0,?_⟩;obtain⟨⟨a1,a2⟩,b1,b2⟩:=h;unfold YK cG;obtain⟨aa,al,ac,aw,af,at_⟩:=a;obtain⟨ba,bl,bc,bw,bf,bt⟩:=b;cases aa<;>cases ba
 ·have h1:=a2 rfl;have h2:=b2 rfl;simp only[dT (show cJ al/\cJ bl from⟨h1,h2⟩)];rfl
 ·rfl
 ·rfl
 ·have h1:=a1 rfl;have h2:=b1 rfl;simp only[dT (show bK ac/\bK bc from⟨h1,h2⟩)];rfl
section
theorem yq{c d:BCU}(h:jy c d):(Ca c d).length<=4/\∀x∈Ca c d,okP 4000 x:=by
 obtain⟨⟨h1,h2⟩,h3,h4⟩:=h;have up:∀{k x},okP k x->k<=4000->okP 4000 x:=λh hk=>aU h hk (by decide);unfold Ca;cases hs:cG (dC c) (dC d)
 ·refine⟨?_,λx hx=>?_⟩
  ·simp only[cond_false,apW];have:∀l c,[BdL l]->[BdC c]->(mW l c).length<=4:=λl c _ _=>ao1 xg.1 (by decide);obtain⟨c1,c2⟩:=Dl h2;obtain⟨d1,d2⟩:=Dl h4;have ec:(dC c).1=c.1:=rfl;have ed:(dC d).1=d.1:=rfl;unfold jY;rw[ec,ed];cases ha:c.1<;>cases hb:d.1
   ·have i1:=(c2 ha).1;have i2:=(d2 hb).1;exact ao1 Ct.1 (by decide)
   ·have i1:=(c2 ha).1;have i2:=(d1 hb).1;exact this _ _
   ·have i1:=(c1 ha).1;have i2:=(d2 hb).1;exact this _ _
   ·have i1:=(c1 ha).1;have i2:=(d1 hb).1;show(GO _ _).length<=4;unfold GO;cases hq:jF (ciC (dC c)) (ciC (dC d))
    ·have i3:BdL (pP (ciC (dC c)) (ciC (dC d))):=B3;exact this _ _
    ·exact arh _
  ·obtain⟨p,hp,rfl⟩:=aq1.1 hx;obtain⟨b,r,_,_⟩:=RE.supM_on h2 h4 hp;exact aoQ (aL (j:=1200) (by decide) (by decide))
 ·refine⟨by simp,λx hx=>?_⟩;have:x=c.2.2.2.2.1\/x=c.2.2.2.2.2\/x=d.2.2.2.2.1\/x=d.2.2.2.2.2:=by simpa using hx
  rcases this with e|e|e|e<;>rw[e]
  ·exact up h1.2.2.1 (by decide)
  ·exact up h1.2.2.2 (by decide)
  ·exact up h3.2.2.1 (by decide)
  ·exact up h3.2.2.2 (by decide)
theorem J4{α:Type}(z:α)(L T:List α):((jq z ((L.length:Int).toNat) ((((L++T).length:Int)).toNat-(L.length:Int).toNat) (L++T)).drop ((0:Int).toNat)).take ((L.length:Int).toNat-(0:Int).toNat)=L/\
  L.length<=(jq z ((L.length:Int).toNat) ((((L++T).length:Int)).toNat-(L.length:Int).toNat) (L++T)).length:=by
 have hcl:(jq z ((L.length:Int).toNat) ((((L++T).length:Int)).toNat-(L.length:Int).toNat) (L++T)).take L.length=L:=by
  unfold jq;rw[show((L.length:Int)).toNat=L.length by omega,apg,List.take_append_of_le_length (by simp),arJ,Nat.min_self,List.take_left' rfl]
 refine⟨?_,?_⟩
 ·rw[show((0:Int)).toNat=0 from rfl,aqB,show((L.length:Int)).toNat-0=L.length by omega,hcl]
 ·have:=congrArg List.length hcl;rw[app]at this;omega
def afO:Cn 130 [tCU,tCU]:=cn λ(a b:BCU)=>lf (fh a b/\cG (dC a) (dC b)=T') [.d .bool T'] λh=>by
 have e:CQq7 130 [.d tCU a,.d tCU b] [.d .bool (cG (dC a) (dC b))]:=(NL.g a b).h h.1;rw[h.2]at e;exact e
def Qv:List En:=[enT afO,enT PP,enL Y1,enK Si,enF aaa,enK IN]
def XD:NT:=[((233,6),{keep:=[0,1,7,8],hl:=4}),((154,16),{keep:=[0,1,5,6],hl:=4}),((80,11),{keep:=[2,3,26,28],hl:=0}),((154,3),{keep:=[0,1,10],hl:=0}),((233,18),{keep:=[0,1,5,7,8,16],hl:=0}),((154,28),{keep:=[0,1,5,6,7,28],hl:=0})]
def kV:Ctx:=CX (ens Qv) XD
def jz(c d:BCU)(s233_8:Int):Cfg:=⟨233,[.blk 0,.seq 25],[(0,.own 3),(1,.clo 156 [0,1]),(7,SI (([c.2.2.2.2.1,c.2.2.2.2.2,d.2.2.2.2.1,d.2.2.2.2.2]).length:Int)),(8,SI s233_8)],[.box 48 (Ty.split tCU c),.box 48 (Ty.split tCU d),.gone,.row 40 tP ([c.2.2.2.2.1,c.2.2.2.2.2,d.2.2.2.2.1,d.2.2.2.2.2])],4,[⟨154,[.seq 4],3,2,[(0,.own 3),(1,.clo 156 [0,1])],4,N'⟩,⟨80,[.seq 12],11,3,[(2,.box 0 0),(3,.box 1 0),(26,.own 3)],0,N'⟩]⟩
def dk(c d:BCU)(s154_5 s154_6:Int)(r154_3:List BP):Cfg:=⟨154,[.blk 0,.seq 35],[(0,.own 3),(1,.clo 156 [0,1]),(5,SI s154_5),(6,SI s154_6)],[.box 48 (Ty.split tCU c),.box 48 (Ty.split tCU d),.gone,.row 40 tP r154_3],4,[⟨80,[.seq 12],11,3,[(2,.box 0 0),(3,.box 1 0),(26,.own 3)],0,N'⟩]⟩
def R4(c d:BCU)(k:KT):OLR:=match D' (fh c d/\cG (dC c) (dC d)=T')with|T'=>(match D' (([c.2.2.2.2.1,c.2.2.2.2.2,d.2.2.2.2.1,d.2.2.2.2.2]).length<=100000)with|T'=>k 6 (jz c d 0)|F'=>N')|F'=>N'
theorem adv(c d:BCU):RS kV 80 [.d tCU c,.d tCU d] (R4 c d):=rsX
def iV(c d:BCU)(s233_8:Int)(k:KT):OLR:=match D' (s233_8<(([c.2.2.2.2.1,c.2.2.2.2.2,d.2.2.2.2.1,d.2.2.2.2.2]).length:Int))with|T'=>(match aH ([c.2.2.2.2.1,c.2.2.2.2.2,d.2.2.2.2.1,d.2.2.2.2.2]) s233_8 with|S' _=>(match T',([c.2.2.2.2.1,c.2.2.2.2.2,d.2.2.2.2.1,d.2.2.2.2.2])[(s233_8).toNat]? with|T',S' x1=>(match D' (okC 4000 c/\okP 4000 x1)with|T'=>(match !(ll (dC c) (dec x1))with|T'=>(match s233_8==(-1)with|T'=>(match D' (kG c ([c.2.2.2.2.1,c.2.2.2.2.2,d.2.2.2.2.1,d.2.2.2.2.2]))with|T'=>(match D' (fh c d/\cG (dC c) (dC d)=T')with|T'=>(match D' (yo c d (du (dC c) ([c.2.2.2.2.1,c.2.2.2.2.2,d.2.2.2.2.1,d.2.2.2.2.2])))with|T'=>S' [RV.d (.sl tP) (du (dC c) ([c.2.2.2.2.1,c.2.2.2.2.2,d.2.2.2.2.1,d.2.2.2.2.2])),RV.d .bool (z7 c d (du (dC c) ([c.2.2.2.2.1,c.2.2.2.2.2,d.2.2.2.2.1,d.2.2.2.2.2])))]|F'=>N')|F'=>N')|F'=>N')|F'=>k 16 (dk c d s233_8 (i64.wrap (s233_8+1)) ([c.2.2.2.2.1,c.2.2.2.2.2,d.2.2.2.2.1,d.2.2.2.2.2])))|F'=>(match D' (okC 4000 d/\okP 4000 x1)with|T'=>(match !(ll (dC d) (dec x1))with|T'=>(match s233_8==(-1)with|T'=>(match D' (kG c ([c.2.2.2.2.1,c.2.2.2.2.2,d.2.2.2.2.1,d.2.2.2.2.2]))with|T'=>(match D' (fh c d/\cG (dC c) (dC d)=T')with|T'=>(match D' (yo c d (du (dC c) ([c.2.2.2.2.1,c.2.2.2.2.2,d.2.2.2.2.1,d.2.2.2.2.2])))with|T'=>S' [RV.d (.sl tP) (du (dC c) ([c.2.2.2.2.1,c.2.2.2.2.2,d.2.2.2.2.1,d.2.2.2.2.2])),RV.d .bool (z7 c d (du (dC c) ([c.2.2.2.2.1,c.2.2.2.2.2,d.2.2.2.2.1,d.2.2.2.2.2])))]|F'=>N')|F'=>N')|F'=>N')|F'=>k 16 (dk c d s233_8 (i64.wrap (s233_8+1)) ([c.2.2.2.2.1,c.2.2.2.2.2,d.2.2.2.2.1,d.2.2.2.2.2])))|F'=>k 6 (jz c d (i64.wrap (s233_8+1))))|F'=>N'))|F'=>N')|_,_=>N')|N'=>N')|F'=>(match(-1)==(-1)with|T'=>(match D' (kG c ([c.2.2.2.2.1,c.2.2.2.2.2,d.2.2.2.2.1,d.2.2.2.2.2]))with|T'=>(match D' (fh c d/\cG (dC c) (dC d)=T')with|T'=>(match D' (yo c d (du (dC c) ([c.2.2.2.2.1,c.2.2.2.2.2,d.2.2.2.2.1,d.2.2.2.2.2])))with|T'=>S' [RV.d (.sl tP) (du (dC c) ([c.2.2.2.2.1,c.2.2.2.2.2,d.2.2.2.2.1,d.2.2.2.2.2])),RV.d .bool (z7 c d (du (dC c) ([c.2.2.2.2.1,c.2.2.2.2.2,d.2.2.2.2.1,d.2.2.2.2.2])))]|F'=>N')|F'=>N')|F'=>N')|F'=>k 16 (dk c d (-1) (i64.wrap ((-1)+1)) ([c.2.2.2.2.1,c.2.2.2.2.2,d.2.2.2.2.1,d.2.2.2.2.2])))
theorem lV(c d:BCU)(s233_8:Int):RN kV 6 (jz c d s233_8) (iV c d s233_8):=rnX
def ip(c d:BCU)(s154_5 s154_6:Int)(r154_3:List BP)(k:KT):OLR:=match D' (s154_6<(r154_3.length:Int))with|T'=>(match aH r154_3 s154_6 with|S' _=>(match T',r154_3[(s154_6).toNat]? with|T',S' x1=>(match D' (okC 4000 c/\okP 4000 x1)with|T'=>(match !(ll (dC c) (dec x1))with|T'=>k 16 (dk c d s154_5 (i64.wrap (s154_6+1)) r154_3)|F'=>(match D' (okC 4000 d/\okP 4000 x1)with|T'=>(match !(!(ll (dC d) (dec x1)))with|T'=>(match aH r154_3 s154_5 with|S' _=>(match T',r154_3[(s154_5).toNat]? with|T',S' _=>k 16 (dk c d (i64.wrap (s154_5+1)) (i64.wrap (s154_6+1)) (r154_3.set ((s154_5).toNat) x1))|_,_=>N')|N'=>N')|F'=>k 16 (dk c d s154_5 (i64.wrap (s154_6+1)) r154_3))|F'=>N'))|F'=>N')|_,_=>N')|N'=>N')|F'=>(match D' ((0:Int)<=s154_5/\s154_5<=(r154_3.length:Int)/\(r154_3.length:Int)<=(r154_3.length:Int))with|T'=>(match D' ((0:Int)<=0/\0<=s154_5/\s154_5<=((jq (Ty.zero tP) ((s154_5:Int).toNat) (((r154_3.length:Int):Int).toNat-(s154_5:Int).toNat) r154_3).length:Int))with|T'=>(match D' (kG c (((jq (Ty.zero tP) ((s154_5:Int).toNat) (((r154_3.length:Int):Int).toNat-(s154_5:Int).toNat) r154_3).drop ((0:Int).toNat)).take ((s154_5:Int).toNat-(0:Int).toNat)))with|T'=>(match D' (fh c d/\cG (dC c) (dC d)=T')with|T'=>(match D' (yo c d (du (dC c) (((jq (Ty.zero tP) ((s154_5:Int).toNat) (((r154_3.length:Int):Int).toNat-(s154_5:Int).toNat) r154_3).drop ((0:Int).toNat)).take ((s154_5:Int).toNat-(0:Int).toNat))))with|T'=>S' [RV.d (.sl tP) (du (dC c) (((jq (Ty.zero tP) ((s154_5:Int).toNat) (((r154_3.length:Int):Int).toNat-(s154_5:Int).toNat) r154_3).drop ((0:Int).toNat)).take ((s154_5:Int).toNat-(0:Int).toNat))),RV.d .bool (z7 c d (du (dC c) (((jq (Ty.zero tP) ((s154_5:Int).toNat) (((r154_3.length:Int):Int).toNat-(s154_5:Int).toNat) r154_3).drop ((0:Int).toNat)).take ((s154_5:Int).toNat-(0:Int).toNat))))]|F'=>N')|F'=>N')|F'=>N')|F'=>N')|F'=>N')
theorem ld(c d:BCU)(s154_5 s154_6:Int)(r154_3:List BP):RN kV 16 (dk c d s154_5 s154_6 r154_3) (ip c d s154_5 s154_6 r154_3):=rnX
section
variable (c d:BCU) (h:jy c d) (hs:cG (dC c) (dC d)=T')
include h hs
theorem Gd(L:List BP)(hl:L.length<=4)(ho:∀x∈L,okP 4000 x):(match D' (kG c L)with
  |true=>(match decide (fh c d/\cG (dC c) (dC d)=true)with
   |true=>(match decide (yo c d (du (dC c) L))with|true=>some [RV.d (.sl tP) (du (dC c) L),RV.d .bool (z7 c d (du (dC c) L))]|false=>none)
   |false=>none)
  |false=>none)=some [RV.d (.sl tP) (du (dC c) L),RV.d .bool (z7 c d (du (dC c) L))]:=by
 have hc:okC 4000 c:=aY h.1.1 (by decide) (by decide);have hd:okC 4000 d:=aY h.2.1 (by decide) (by decide);have q:kG c L:=⟨hc,by omega,ho⟩
 have hn:(du (dC c) L).length<=L.length:=ng;have _q2:yo c d (du (dC c) L):=⟨⟨hc,by omega,λx hx=>ho x (mH hx)⟩,hd⟩
 rw[dT q,dT (show fh c d/\cG (dC c) (dC d)=T' from⟨⟨h.1.2,h.2.2⟩,hs⟩)];dsimp only;rw[dT _q2]
theorem xX:∀(S:List BP) (L J:List BP),J≠[]->(∀x∈L++(J++S),okP 4000 x)->(L++(J++S)).length<=4->
  kV.Runs 16 (dk c d (L.length:Int) ((L.length+J.length:Nat):Int) (L++(J++S))) [RV.d (.sl tP) (du (dC c) (L++S.filter (iv c d))),RV.d .bool (z7 c d (du (dC c) (L++S.filter (iv c d))))]
 |[],L,J,hJ,hok,h4=>by
  have h4':L.length+J.length<=4:=by simpa using h4
  obtain⟨c1,c2⟩:=J4 (Ty.zero tP) L J;refine ld _ _ _ _ _ ⟨0,?_⟩;unfold ip;rw[apj,bg (by simp)];dsimp only;rw[dT (show(0:Int)<=(L.length:Int)/\(L.length:Int)<=((L++J).length:Int)/\((L++J).length:Int)<=((L++J).length:Int) by simp only[apr];omega)];rw[dT (show(0:Int)<=0/\0<=(L.length:Int)/\(L.length:Int)<=((jq (Ty.zero tP) ((L.length:Int).toNat) ((((L++J).length:Int)).toNat-(L.length:Int).toNat) (L++J)).length:Int) by omega)];rw[c1,arD,apj];exact Gd c d h hs L (by omega) λx hx=>hok x (aqv _ hx)
 |q::S,L,J,hJ,hok,h4=>by
  have h4':L.length+(J.length+(S.length+1))<=4:=by simpa using h4
  have hc:okC 4000 c:=aY h.1.1 (by decide) (by decide);have hd:okC 4000 d:=aY h.2.1 (by decide) (by decide);have hq:okP 4000 q:=hok q (by simp)
  have g1:(L++(J++q::S))[L.length+J.length]?=S' q:=by
   have:=nP (L++J) q S;rw[apr,apg]at this;exact this
  obtain⟨y,T,rfl⟩:=List.exists_cons_of_ne_nil hJ;have g2:(L++(y::T++q::S))[L.length]?=S' y:=nP L y (T++q::S)
  have hset:(L++(y::T++q::S)).set L.length q=(L++[q])++((T++[q])++S):=by
   have:=CL y q (T++q::S) L;rw[show y::T++q::S=y::(T++q::S) from rfl,this];simp
  have e2:L++(y::T++q::S)=L++((y::T++[q])++S):=by simp
  have key:∀r n,(match iv c d q with
    |true=>kV.k n 16 (dk c d ((L.length+1:Nat):Int) ((L.length+(y::T).length+1:Nat):Int) ((L++[q])++((T++[q])++S)))
    |false=>kV.k n 16 (dk c d (L.length:Int) ((L.length+(y::T).length+1:Nat):Int) (L++(y::T++q::S))))=some r->
    ip c d (L.length:Int) ((L.length+(y::T).length:Nat):Int) (L++(y::T++q::S)) (kV.k n)=S' r:=λr n hk=>by
   unfold ip;rw[aO (by simp only[apr,ao8];omega),ak,g1,show((L.length+(y::T).length:Nat):Int).toNat=L.length+(y::T).length by omega,g1];dsimp only;rw[dT (show okC 4000 c/\okP 4000 q from⟨hc,hq⟩),dT (show okC 4000 d/\okP 4000 q from⟨hd,hq⟩),aS (k:=L.length+(y::T).length) (by simp only[ao8]at*;omega),aS (k:=L.length) (by omega),ak,g2,show((L.length:Nat):Int).toNat=L.length by omega,g2,hset];unfold iv at hk;cases r1:ll (dC c) (dec q)<;>cases r2:ll (dC d) (dec q)<;>rw[r1,r2]at hk<;>exact hk
  rw[aqN];cases hk:iv c d q
  ·obtain⟨n,hn⟩:=xX S L (y::T++[q]) (by simp) (e2▸hok) (e2▸h4);refine ld _ _ _ _ _ ⟨n,key _ n ?_⟩;rw[hk,e2];rw[apr,apd,<-aqQ]at hn;exact hn
  ·obtain⟨n,hn⟩:=xX S (L++[q]) (T++[q]) (by simp) (λx hx=>by
    simp only[ape,ao7,aqw,arN]at hx;rcases hx with(hx|hx)|(hx|hx)|hx
    ·exact hok x (by simp[hx])
    ·rw[hx];exact hq
    ·exact hok x (by simp[hx])
    ·rw[hx];exact hq
    ·exact hok x (by simp[hx])) (by simp at h4 ⊢;omega)
   refine ld _ _ _ _ _ ⟨n,key _ n ?_⟩;rw[hk];have n1:(L++[q]).length=L.length+1:=by simp
   have n2:L.length+1+(T++[q]).length=L.length+(y::T).length+1:=by simp;omega
   rw[n1,n2,apg L [q] (S.filter (iv c d))]at hn;exact hn
theorem Jk(X:List BP)(hX:[c.2.2.2.2.1,c.2.2.2.2.2,d.2.2.2.2.1,d.2.2.2.2.2]=X)(h4:X.length<=4)(hok:∀x∈X,okP 4000 x):∀(S A:List BP),A++S=X->A.filter (iv c d)=A->
  kV.Runs 6 (jz c d (A.length:Int)) [RV.d (.sl tP) (du (dC c) (A++S.filter (iv c d))),RV.d .bool (z7 c d (du (dC c) (A++S.filter (iv c d))))]
 |[],A,hA,hf=>by
  rw[apj]at hA;refine lV _ _ _ ⟨0,?_⟩;unfold iV;rw[hX,<-hA,bg (by omega),arD,apj];exact Gd c d h hs A (hA▸h4) (hA▸hok)
 |q::S,A,hA,hf=>by
  have hc:okC 4000 c:=aY h.1.1 (by decide) (by decide);have hd:okC 4000 d:=aY h.2.1 (by decide) (by decide);have hq:okP 4000 q:=hok q (by rw[<-hA];simp);have g1:X[A.length]?=S' q:=by rw[<-hA];exact nP A q S
  have hlen:A.length<X.length:=by rw[<-hA];simp
  have key:∀r n,(match iv c d q with
    |true=>kV.k n 6 (jz c d ((A.length+1:Nat):Int))
    |false=>kV.k n 16 (dk c d (A.length:Int) ((A.length+1:Nat):Int) X))=some r->
    iV c d (A.length:Int) (kV.k n)=S' r:=λr n hk=>by
   unfold iV;rw[hX,aO hlen,ak,g1,show((A.length:Nat):Int).toNat=A.length by omega,g1];dsimp only;rw[dT (show okC 4000 c/\okP 4000 q from⟨hc,hq⟩),dT (show okC 4000 d/\okP 4000 q from⟨hd,hq⟩),aS (k:=A.length) (by omega),show((A.length:Int)== -1)=F' by rw[apk];omega];unfold iv at hk;cases r1:ll (dC c) (dec q)<;>cases r2:ll (dC d) (dec q)<;>rw[r1,r2]at hk<;>exact hk
  rw[aqN];cases hk:iv c d q
  ·obtain⟨n,hn⟩:=xX c d h hs S A [q] (by simp) (by rw[aqk,hA];exact hok) (by rw[aqk,hA];exact h4);refine lV _ _ _ ⟨n,key _ n ?_⟩;rw[hk];rw[aqk,hA]at hn;exact hn
  ·obtain⟨n,hn⟩:=Jk X hX h4 hok S (A++[q]) (by rw[apg];exact hA) (by rw[List.filter_append,hf,aqN,hk];rfl);refine lV _ _ _ ⟨n,key _ n ?_⟩;rw[hk];have n1:(A++[q]).length=A.length+1:=by simp
   rw[n1,apg A [q] (S.filter (iv c d))]at hn;exact hn
end
theorem Ug(c d:BCU)(h:jy c d)(hs:cG (dC c) (dC d)=T'):CQq7 80 [.d tCU c,.d tCU d] [.d (.sl tP) (mc c d),.d .bool (Ij c d)]:=by
 obtain⟨h4,ho⟩:=yq h;have e:Ca c d=[c.2.2.2.2.1,c.2.2.2.2.2,d.2.2.2.2.1,d.2.2.2.2.2]:=by unfold Ca;rw[hs];rfl
 rw[e]at h4 ho;obtain⟨n,hn⟩:=Jk c d h hs _ rfl h4 ho _ [] rfl rfl;have e2:mc c d=du (dC c) (List.filter (iv c d) [c.2.2.2.2.1,c.2.2.2.2.2,d.2.2.2.2.1,d.2.2.2.2.2]):=by unfold mc;rw[e]
 have e3:Ij c d=z7 c d (du (dC c) (List.filter (iv c d) [c.2.2.2.2.1,c.2.2.2.2.2,d.2.2.2.2.1,d.2.2.2.2.2])):=by unfold Ij;rw[hs,e2];rfl
 rw[e2,e3];refine aX Qv (adv _ _ ⟨n,?_⟩);unfold R4;rw[dT (show fh c d/\cG (dC c) (dC d)=T' from⟨⟨h.1.2,h.2.2⟩,hs⟩)];dsimp only;rw[dT (ao1 h4 (by decide))];exact hn
def ad1:Cn 130 [tCU,tCU]:=cn λ(a b:BCU)=>lf (fh a b/\cG (dC a) (dC b)=F') [.d .bool F'] λh=>by
 have e:CQq7 130 [.d tCU a,.d tCU b] [.d .bool (cG (dC a) (dC b))]:=(NL.g a b).h h.1;rw[h.2]at e;exact e
def P8:List En:=[enT ad1,enT PP,enL Y1,enK Si,enF aaa,enK IN]
def XL:NT:=[((233,6),{keep:=[0,1,7,8],hl:=3}),((154,16),{keep:=[0,1,5,6],hl:=3}),((80,11),{keep:=[2,3,26,28],hl:=0}),((154,3),{keep:=[0,1,10],hl:=0}),((233,18),{keep:=[0,1,5,7,8,16],hl:=0}),((154,28),{keep:=[0,1,5,6,7,28],hl:=0})]
def ls:Ctx:=CX (ens P8) XL
def jl(c d:BCU)(s233_8:Int):Cfg:=⟨233,[.blk 0,.seq 25],[(0,.own 2),(1,.clo 156 [0,1]),(7,SI (((jY (dC c) (dC d)).map enc).length:Int)),(8,SI s233_8)],[.box 48 (Ty.split tCU c),.box 48 (Ty.split tCU d),.row 40 tP ((jY (dC c) (dC d)).map enc)],3,[⟨154,[.seq 4],3,2,[(0,.own 2),(1,.clo 156 [0,1])],3,N'⟩,⟨80,[.seq 12],11,3,[(2,.box 0 0),(3,.box 1 0),(26,.own 2)],0,N'⟩]⟩
def dt(c d:BCU)(s154_5 s154_6:Int)(r154_2:List BP):Cfg:=⟨154,[.blk 0,.seq 35],[(0,.own 2),(1,.clo 156 [0,1]),(5,SI s154_5),(6,SI s154_6)],[.box 48 (Ty.split tCU c),.box 48 (Ty.split tCU d),.row 40 tP r154_2],3,[⟨80,[.seq 12],11,3,[(2,.box 0 0),(3,.box 1 0),(26,.own 2)],0,N'⟩]⟩
def UR(c d:BCU)(k:KT):OLR:=match D' (fh c d/\cG (dC c) (dC d)=F')with|T'=>(match D' (fh c d)with|T'=>(match D' (((jY (dC c) (dC d)).map enc).length<=100000)with|T'=>k 6 (jl c d 0)|F'=>N')|F'=>N')|F'=>N'
theorem agU(c d:BCU):RS ls 80 [.d tCU c,.d tCU d] (UR c d):=rsX
def i7(c d:BCU)(s233_8:Int)(k:KT):OLR:=match D' (s233_8<(((jY (dC c) (dC d)).map enc).length:Int))with|T'=>(match aH ((jY (dC c) (dC d)).map enc) s233_8 with|S' _=>(match T',((jY (dC c) (dC d)).map enc)[(s233_8).toNat]? with|T',S' x1=>(match D' (okC 4000 c/\okP 4000 x1)with|T'=>(match !(ll (dC c) (dec x1))with|T'=>(match s233_8==(-1)with|T'=>(match D' (kG c ((jY (dC c) (dC d)).map enc))with|T'=>(match D' (fh c d/\cG (dC c) (dC d)=F')with|T'=>S' [RV.d (.sl tP) (du (dC c) ((jY (dC c) (dC d)).map enc)),RV.d .bool F']|F'=>N')|F'=>N')|F'=>k 16 (dt c d s233_8 (i64.wrap (s233_8+1)) ((jY (dC c) (dC d)).map enc)))|F'=>(match D' (okC 4000 d/\okP 4000 x1)with|T'=>(match !(ll (dC d) (dec x1))with|T'=>(match s233_8==(-1)with|T'=>(match D' (kG c ((jY (dC c) (dC d)).map enc))with|T'=>(match D' (fh c d/\cG (dC c) (dC d)=F')with|T'=>S' [RV.d (.sl tP) (du (dC c) ((jY (dC c) (dC d)).map enc)),RV.d .bool F']|F'=>N')|F'=>N')|F'=>k 16 (dt c d s233_8 (i64.wrap (s233_8+1)) ((jY (dC c) (dC d)).map enc)))|F'=>k 6 (jl c d (i64.wrap (s233_8+1))))|F'=>N'))|F'=>N')|_,_=>N')|N'=>N')|F'=>(match(-1)==(-1)with|T'=>(match D' (kG c ((jY (dC c) (dC d)).map enc))with|T'=>(match D' (fh c d/\cG (dC c) (dC d)=F')with|T'=>S' [RV.d (.sl tP) (du (dC c) ((jY (dC c) (dC d)).map enc)),RV.d .bool F']|F'=>N')|F'=>N')|F'=>k 16 (dt c d (-1) (i64.wrap ((-1)+1)) ((jY (dC c) (dC d)).map enc)))
theorem mi(c d:BCU)(s233_8:Int):RN ls 6 (jl c d s233_8) (i7 c d s233_8):=rnX
def gZ(c d:BCU)(s154_5 s154_6:Int)(r154_2:List BP)(k:KT):OLR:=match D' (s154_6<(r154_2.length:Int))with|T'=>(match aH r154_2 s154_6 with|S' _=>(match T',r154_2[(s154_6).toNat]? with|T',S' x1=>(match D' (okC 4000 c/\okP 4000 x1)with|T'=>(match !(ll (dC c) (dec x1))with|T'=>k 16 (dt c d s154_5 (i64.wrap (s154_6+1)) r154_2)|F'=>(match D' (okC 4000 d/\okP 4000 x1)with|T'=>(match !(!(ll (dC d) (dec x1)))with|T'=>(match aH r154_2 s154_5 with|S' _=>(match T',r154_2[(s154_5).toNat]? with|T',S' _=>k 16 (dt c d (i64.wrap (s154_5+1)) (i64.wrap (s154_6+1)) (r154_2.set ((s154_5).toNat) x1))|_,_=>N')|N'=>N')|F'=>k 16 (dt c d s154_5 (i64.wrap (s154_6+1)) r154_2))|F'=>N'))|F'=>N')|_,_=>N')|N'=>N')|F'=>(match D' ((0:Int)<=s154_5/\s154_5<=(r154_2.length:Int)/\(r154_2.length:Int)<=(r154_2.length:Int))with|T'=>(match D' ((0:Int)<=0/\0<=s154_5/\s154_5<=((jq (Ty.zero tP) ((s154_5:Int).toNat) (((r154_2.length:Int):Int).toNat-(s154_5:Int).toNat) r154_2).length:Int))with|T'=>(match D' (kG c (((jq (Ty.zero tP) ((s154_5:Int).toNat) (((r154_2.length:Int):Int).toNat-(s154_5:Int).toNat) r154_2).drop ((0:Int).toNat)).take ((s154_5:Int).toNat-(0:Int).toNat)))with|T'=>(match D' (fh c d/\cG (dC c) (dC d)=F')with|T'=>S' [RV.d (.sl tP) (du (dC c) (((jq (Ty.zero tP) ((s154_5:Int).toNat) (((r154_2.length:Int):Int).toNat-(s154_5:Int).toNat) r154_2).drop ((0:Int).toNat)).take ((s154_5:Int).toNat-(0:Int).toNat))),RV.d .bool F']|F'=>N')|F'=>N')|F'=>N')|F'=>N')
theorem kL(c d:BCU)(s154_5 s154_6:Int)(r154_2:List BP):RN ls 16 (dt c d s154_5 s154_6 r154_2) (gZ c d s154_5 s154_6 r154_2):=rnX
section
variable (c d:BCU) (h:jy c d) (hs:cG (dC c) (dC d)=F')
include h hs
theorem Fe(L:List BP)(hl:L.length<=4)(ho:∀x∈L,okP 4000 x):(match D' (kG c L)with
  |true=>(match decide (fh c d/\cG (dC c) (dC d)=false)with
   |true=>some [RV.d (.sl tP) (du (dC c) L),RV.d .bool false]
   |false=>none)
  |false=>none)=some [RV.d (.sl tP) (du (dC c) L),RV.d .bool (false)]:=by
 have hc:okC 4000 c:=aY h.1.1 (by decide) (by decide);have hd:okC 4000 d:=aY h.2.1 (by decide) (by decide);have q:kG c L:=⟨hc,by omega,ho⟩
 have hn:(du (dC c) L).length<=L.length:=ng;have _q2:yo c d (du (dC c) L):=⟨⟨hc,by omega,λx hx=>ho x (mH hx)⟩,hd⟩
 rw[dT q,dT (show fh c d/\cG (dC c) (dC d)=F' from⟨⟨h.1.2,h.2.2⟩,hs⟩)]
theorem yz:∀(S:List BP) (L J:List BP),J≠[]->(∀x∈L++(J++S),okP 4000 x)->(L++(J++S)).length<=4->
  ls.Runs 16 (dt c d (L.length:Int) ((L.length+J.length:Nat):Int) (L++(J++S))) [RV.d (.sl tP) (du (dC c) (L++S.filter (iv c d))),RV.d .bool (F')]
 |[],L,J,hJ,hok,h4=>by
  have h4':L.length+J.length<=4:=by simpa using h4
  obtain⟨c1,c2⟩:=J4 (Ty.zero tP) L J;refine kL _ _ _ _ _ ⟨0,?_⟩;unfold gZ;rw[apj,bg (by simp)];dsimp only;rw[dT (show(0:Int)<=(L.length:Int)/\(L.length:Int)<=((L++J).length:Int)/\((L++J).length:Int)<=((L++J).length:Int) by simp only[apr];omega)];rw[dT (show(0:Int)<=0/\0<=(L.length:Int)/\(L.length:Int)<=((jq (Ty.zero tP) ((L.length:Int).toNat) ((((L++J).length:Int)).toNat-(L.length:Int).toNat) (L++J)).length:Int) by omega)];rw[c1,arD,apj];exact Fe c d h hs L (by omega) λx hx=>hok x (aqv _ hx)
 |q::S,L,J,hJ,hok,h4=>by
  have h4':L.length+(J.length+(S.length+1))<=4:=by simpa using h4
  have hc:okC 4000 c:=aY h.1.1 (by decide) (by decide);have hd:okC 4000 d:=aY h.2.1 (by decide) (by decide);have hq:okP 4000 q:=hok q (by simp)
  have g1:(L++(J++q::S))[L.length+J.length]?=S' q:=by
   have:=nP (L++J) q S;rw[apr,apg]at this;exact this
  obtain⟨y,T,rfl⟩:=List.exists_cons_of_ne_nil hJ;have g2:(L++(y::T++q::S))[L.length]?=S' y:=nP L y (T++q::S)
  have hset:(L++(y::T++q::S)).set L.length q=(L++[q])++((T++[q])++S):=by
   have:=CL y q (T++q::S) L;rw[show y::T++q::S=y::(T++q::S) from rfl,this];simp
  have e2:L++(y::T++q::S)=L++((y::T++[q])++S):=by simp
  have key:∀r n,(match iv c d q with
    |true=>ls.k n 16 (dt c d ((L.length+1:Nat):Int) ((L.length+(y::T).length+1:Nat):Int) ((L++[q])++((T++[q])++S)))
    |false=>ls.k n 16 (dt c d (L.length:Int) ((L.length+(y::T).length+1:Nat):Int) (L++(y::T++q::S))))=some r->
    gZ c d (L.length:Int) ((L.length+(y::T).length:Nat):Int) (L++(y::T++q::S)) (ls.k n)=S' r:=λr n hk=>by
   unfold gZ;rw[aO (by simp only[apr,ao8];omega),ak,g1,show((L.length+(y::T).length:Nat):Int).toNat=L.length+(y::T).length by omega,g1];dsimp only;rw[dT (show okC 4000 c/\okP 4000 q from⟨hc,hq⟩),dT (show okC 4000 d/\okP 4000 q from⟨hd,hq⟩),aS (k:=L.length+(y::T).length) (by simp only[ao8]at*;omega),aS (k:=L.length) (by omega),ak,g2,show((L.length:Nat):Int).toNat=L.length by omega,g2,hset];unfold iv at hk;cases r1:ll (dC c) (dec q)<;>cases r2:ll (dC d) (dec q)<;>rw[r1,r2]at hk<;>exact hk
  rw[aqN];cases hk:iv c d q
  ·obtain⟨n,hn⟩:=yz S L (y::T++[q]) (by simp) (e2▸hok) (e2▸h4);refine kL _ _ _ _ _ ⟨n,key _ n ?_⟩;rw[hk,e2];rw[apr,apd,<-aqQ]at hn;exact hn
  ·obtain⟨n,hn⟩:=yz S (L++[q]) (T++[q]) (by simp) (λx hx=>by
    simp only[ape,ao7,aqw,arN]at hx;rcases hx with(hx|hx)|(hx|hx)|hx
    ·exact hok x (by simp[hx])
    ·rw[hx];exact hq
    ·exact hok x (by simp[hx])
    ·rw[hx];exact hq
    ·exact hok x (by simp[hx])) (by simp at h4 ⊢;omega)
   refine kL _ _ _ _ _ ⟨n,key _ n ?_⟩;rw[hk];have n1:(L++[q]).length=L.length+1:=by simp
   have n2:L.length+1+(T++[q]).length=L.length+(y::T).length+1:=by simp;omega
   rw[n1,n2,apg L [q] (S.filter (iv c d))]at hn;exact hn
theorem JB(X:List BP)(hX:((jY (dC c) (dC d)).map enc)=X)(h4:X.length<=4)(hok:∀x∈X,okP 4000 x):∀(S A:List BP),A++S=X->A.filter (iv c d)=A->
  ls.Runs 6 (jl c d (A.length:Int)) [RV.d (.sl tP) (du (dC c) (A++S.filter (iv c d))),RV.d .bool (F')]
 |[],A,hA,hf=>by
  rw[apj]at hA;refine mi _ _ _ ⟨0,?_⟩;unfold i7;rw[hX,<-hA,bg (by omega),arD,apj];exact Fe c d h hs A (hA▸h4) (hA▸hok)
 |q::S,A,hA,hf=>by
  have hc:okC 4000 c:=aY h.1.1 (by decide) (by decide);have hd:okC 4000 d:=aY h.2.1 (by decide) (by decide);have hq:okP 4000 q:=hok q (by rw[<-hA];simp);have g1:X[A.length]?=S' q:=by rw[<-hA];exact nP A q S
  have hlen:A.length<X.length:=by rw[<-hA];simp
  have key:∀r n,(match iv c d q with
    |true=>ls.k n 6 (jl c d ((A.length+1:Nat):Int))
    |false=>ls.k n 16 (dt c d (A.length:Int) ((A.length+1:Nat):Int) X))=some r->
    i7 c d (A.length:Int) (ls.k n)=S' r:=λr n hk=>by
   unfold i7;rw[hX,aO hlen,ak,g1,show((A.length:Nat):Int).toNat=A.length by omega,g1];dsimp only;rw[dT (show okC 4000 c/\okP 4000 q from⟨hc,hq⟩),dT (show okC 4000 d/\okP 4000 q from⟨hd,hq⟩),aS (k:=A.length) (by omega),show((A.length:Int)== -1)=F' by rw[apk];omega];unfold iv at hk;cases r1:ll (dC c) (dec q)<;>cases r2:ll (dC d) (dec q)<;>rw[r1,r2]at hk<;>exact hk
  rw[aqN];cases hk:iv c d q
  ·obtain⟨n,hn⟩:=yz c d h hs S A [q] (by simp) (by rw[aqk,hA];exact hok) (by rw[aqk,hA];exact h4);refine mi _ _ _ ⟨n,key _ n ?_⟩;rw[hk];rw[aqk,hA]at hn;exact hn
  ·obtain⟨n,hn⟩:=JB X hX h4 hok S (A++[q]) (by rw[apg];exact hA) (by rw[List.filter_append,hf,aqN,hk];rfl);refine mi _ _ _ ⟨n,key _ n ?_⟩;rw[hk];have n1:(A++[q]).length=A.length+1:=by simp
   rw[n1,apg A [q] (S.filter (iv c d))]at hn;exact hn
end
theorem N9(c d:BCU)(h:jy c d)(hs:cG (dC c) (dC d)=F'):CQq7 80 [.d tCU c,.d tCU d] [.d (.sl tP) (mc c d),.d .bool (Ij c d)]:=by
 obtain⟨h4,ho⟩:=yq h;have e:Ca c d=((jY (dC c) (dC d)).map enc):=by unfold Ca;rw[hs];rfl
 rw[e]at h4 ho;obtain⟨n,hn⟩:=JB c d h hs _ rfl h4 ho _ [] rfl rfl;have e2:mc c d=du (dC c) (List.filter (iv c d) ((jY (dC c) (dC d)).map enc)):=by unfold mc;rw[e]
 have e3:Ij c d=false:=by unfold Ij;rw[hs,e2];rfl
 rw[e2,e3];refine aX P8 (agU _ _ ⟨n,?_⟩);unfold UR;rw[dT (show fh c d/\cG (dC c) (dC d)=F' from⟨⟨h.1.2,h.2.2⟩,hs⟩)];dsimp only;rw[dT (show fh c d from⟨h.1.2,h.2.2⟩)];dsimp only;rw[dT (ao1 h4 (by decide))];exact hn
def Lt:Cn 80 [tCU,tCU]:=cn λ(c d:BCU)=>lf (jy c d) [.d (.sl tP) (mc c d),.d .bool (Ij c d)] λh=>by
 cases hs:cG (dC c) (dC d)
 ·exact N9 c d h hs
 ·exact Ug c d h hs
end
section
open RE
end
def Ga(c:Cv):Bool:=(c.1||!cwC c)&&(dv c (frC c)&&(dv c (toC c)&&!(aB (frC c) (toC c)==0)))
def uH(c d:Cv):Bool:=cG c d&&(cwC c==cwC d&&(aB (frC c) (frC d)==0&&aB (toC c) (toC d)==0))
def Im:List En:=[enT QF,enT nV,enL Hz]
def TH(p:BP)(_k:KT):OLR:=og (o1 p.1) (og (o1 p.2.2.1) (og (o1 p.2.1) (og (o1 p.2.2.2.1) (og (o1 p.2.2.2.2) (og (o1 p.2.1) (match(aD (ag p.2.1) 0)==0 with|T'=>(og (o1 p.2.2.2.1) (match(aD (ag p.2.2.2.1) 0)==0 with|T'=>(og (o1 p.2.2.2.2) (S' [RV.d .bool ((aD (ag p.2.2.2.2) 0)==0)]))|F'=>(og (o1 p.2.2.2.2) (og (o1 p.2.2.2.2) (match D' ((aD (ag p.2.2.2.2) 0)>0)with|T'=>S' [RV.d .bool (!(eA (ag p.2.2.2.2)))]|F'=>S' [RV.d .bool F'])))))|F'=>(og (o1 p.2.2.2.2) (og (o1 p.2.2.2.2) (match D' ((aD (ag p.2.2.2.2) 0)>0)with|T'=>S' [RV.d .bool (!(eA (ag p.2.2.2.2)))]|F'=>S' [RV.d .bool F'])))))))))
def aeM:Cn 125 [tP]:=cn λ(p:BP)=>lf (okP 4000 p) [.d .bool T'] λh=>by
 refine aA Im (TH p) ⟨0,?_⟩;have hp:=h;obtain⟨p,rfl,bp,rp⟩:=bL hp;unfold TH;simp only[aV,Nat.reduceLeDiff,am,au];rcases rp.rd with⟨h1,h2,h3⟩|⟨h1,h2,h3⟩
 ·rw[dT h1,dT h2,dT h3]
 ·rw[dT h2,h3];cases hb:D' (p.2.1=0)
  ·rfl
  ·cases hb2:D' (p.2.2.2.1=0)
   ·rfl
   ·exact absurd ⟨aoQ hb,aoQ hb2⟩ h1
def UC(c:BO3)(_k:KT):OLR:=og (o1 c.1) (og (o1 c.2.1) (og (o1 c.2.2) (og (o1 c.2.2) (S' [RV.d .bool (D' ((aD (ag c.2.2) 0)>0))]))))
def aeV:Cn 126 [tO]:=cn λ(c:BO3)=>lf (rD c) [.d .bool T'] λh=>by
 refine aA Im (UC c) ⟨0,?_⟩;obtain⟨hk,h0⟩:=h;obtain⟨c,rfl,bc⟩:=aJ hk;rw[ao]at h0;unfold UC;simp only[aV,Nat.reduceLeDiff,au,dT h0]
def Rj(l:BO3)(_k:KT):OLR:=og (o1 l.1) (og (o1 l.2.1) (og (o1 l.2.2) (og (o1 l.1) (match(aD (ag l.1) 0) !=0 with|T'=>S' [RV.d .bool T']|F'=>(og (o1 l.2.1) (S' [RV.d .bool ((aD (ag l.2.1) 0) !=0)]))))))
def agA:Cn 127 [tO]:=cn λ(l:BO3)=>lf (Fa l) [.d .bool T'] λh=>by
 refine aA Im (Rj l) ⟨0,?_⟩;obtain⟨hk,h0⟩:=h;obtain⟨l,rfl,bl⟩:=aJ hk;rw[ao]at h0;unfold Rj;simp only[aV,Nat.reduceLeDiff,aZ];by_cases h1:l.1=0
 ·rw[dT h1,dF (h0.resolve_left (λh=>h h1))];rfl
 ·rw[dF h1];rfl
def adB:List En:=[enT aeM,enT aeV,enT agA,enT act,enT nM]
def abr(c:BCU)(_k:KT):OLR:=let y1:OLR:=match D' (okC 3500 c/\okP 3500 c.2.2.2.2.1)with|T'=>(match dv (dC c) (dec c.2.2.2.2.1)with|T'=>(og (D' (okC 3500 c/\okP 3500 c.2.2.2.2.2)) (match dv (dC c) (dec c.2.2.2.2.2)with|T'=>(og (D' (okP 4000 c.2.2.2.2.1/\okP 4000 c.2.2.2.2.2)) (S' [RV.d .bool (!(aB (dec c.2.2.2.2.1) (dec c.2.2.2.2.2)==0))]))|F'=>S' [RV.d .bool F']))|F'=>S' [RV.d .bool F'])|F'=>N';let y2:OLR:=match !c.1 with|T'=>(match c.2.2.2.1 with|T'=>S' [RV.d .bool F']|F'=>(og (D' (Fa c.2.1)) y1))|F'=>y1;og (D' (okP 4000 c.2.2.2.2.1)) (og (D' (okP 4000 c.2.2.2.2.2)) (match c.1 with|T'=>(og (D' (rD c.2.2.1)) y2)|F'=>y2))
def acq:Cn 60 [tCU]:=cn λ(c:BCU)=>lf (okC 3500 c) [.d .bool (Ga (dC c))] λh=>by
 refine aA adB (abr c) ⟨0,?_⟩;have h4:=aY (k:=4000) h (by decide) (by decide);unfold abr Ga;rw[dT (show okC 3500 c/\okP 3500 c.2.2.2.2.1 from⟨h,h.2.2.1⟩),dT (show okC 3500 c/\okP 3500 c.2.2.2.2.2 from⟨h,h.2.2.2⟩),dT (show okP 4000 c.2.2.2.2.1/\okP 4000 c.2.2.2.2.2 from⟨h4.2.2.1,h4.2.2.2⟩),dT h4.2.2.1,dT h4.2.2.2];have e1:(dC c).1=c.1:=rfl;have e2:cwC (dC c)=c.2.2.2.1:=rfl;have e3:frC (dC c)=dec c.2.2.2.2.1:=rfl;have e4:toC (dC c)=dec c.2.2.2.2.2:=rfl;rw[e1,e2,e3,e4];cases ha:c.1
 ·have h2:=dT (p:=Fa c.2.1) (i:=inferInstance) (h.2.1 ha);rw[h2];cases c.2.2.2.1<;>cases dv (dC c) (dec c.2.2.2.2.1)<;>cases dv (dC c) (dec c.2.2.2.2.2)<;>rfl
 ·have h2:=dT (p:=rD c.2.2.1) (i:=inferInstance) (h.1 ha);rw[h2];cases dv (dC c) (dec c.2.2.2.2.1)<;>cases dv (dC c) (dec c.2.2.2.2.2)<;>rfl
def ae0:List En:=[enT OM,enT nM]
def Yw(a b:BCU)(_k:KT):OLR:=og (D' (fh a b)) (match cG (dC a) (dC b)with|T'=>(match a.2.2.2.1==b.2.2.2.1 with|T'=>(og (D' (okP 4000 a.2.2.2.2.1/\okP 4000 b.2.2.2.2.1)) (match aB (dec a.2.2.2.2.1) (dec b.2.2.2.2.1)==0 with|T'=>(og (D' (okP 4000 a.2.2.2.2.2/\okP 4000 b.2.2.2.2.2)) (S' [RV.d .bool (aB (dec a.2.2.2.2.2) (dec b.2.2.2.2.2)==0)]))|F'=>S' [RV.d .bool F']))|F'=>S' [RV.d .bool F'])|F'=>S' [RV.d .bool F'])
def akq:Cn 116 [tCU,tCU]:=cn λ(a b:BCU)=>lf (jy a b) [.d .bool (uH (dC a) (dC b))] λh=>by
 refine aA ae0 (Yw a b) ⟨0,?_⟩;obtain⟨⟨a1,a2⟩,b1,b2⟩:=h;have a4:=aY (k:=4000) a1 (by decide) (by decide);have b4:=aY (k:=4000) b1 (by decide) (by decide);unfold Yw uH;rw[dT (show fh a b from⟨a2,b2⟩),dT (show okP 4000 a.2.2.2.2.1/\okP 4000 b.2.2.2.2.1 from⟨a4.2.2.1,b4.2.2.1⟩),dT (show okP 4000 a.2.2.2.2.2/\okP 4000 b.2.2.2.2.2 from⟨a4.2.2.2,b4.2.2.2⟩)];have e2:∀c,cwC (dC c)=c.2.2.2.1:=λ_=>rfl;have e3:∀c,frC (dC c)=dec c.2.2.2.2.1:=λ_=>rfl;have e4:∀c,toC (dC c)=dec c.2.2.2.2.2:=λ_=>rfl;rw[e2,e2,e3,e3,e4,e4];cases cG (dC a) (dC b)<;>cases(a.2.2.2.1==b.2.2.2.1)<;>cases(aB (dec a.2.2.2.2.1) (dec b.2.2.2.2.1)==0)<;>rfl
namespace RE
theorem aiB(a r:RE)(h1:0<r):a+ -1*r<a+1*r:=by grind
theorem Rr{c:Ln}(h:0<c.2.2):aB (db c) (df c)= -1:=by
 have q0:(0:Rat)<=c.2.2:=by grind
 have pl:Rpd (db c):=l7 (λe=>absurd e.1 (by decide)) q0;have pr:Rpd (df c):=l7 (λe=>absurd e.1 (by decide)) q0;rw[gQ];refine(fp _ _).1 (.inl ?_);unfold db df;rw[lW,lW];show v2 _ _ _<v2 _ _ _;unfold v2;exact aiB _ _ (Y7 h)
end RE
def loN(c:BO3):BCU:=(T',o00,c,F',enc (db (dec c)),enc (df (dec c)))
def hiN(c:BO3):BCU:=(T',o00,c,F',enc (df (dec c)),enc (db (dec c)))
def upN(c:BO3):BCU:=(T',o00,c,T',enc (db (dec c)),enc (df (dec c)))
abbrev SLp:Type:=Int×BO3
def z3:BO3:=(((F',[]),(F',[])),(((F',[]),(F',[])),((F',[]),(F',[]))))
abbrev kK:Ty:=.st (.pair ask tO)
def I8:List En:=[]
def aew:NT:=[((191,6),{keep:=[1,7,8,9],hl:=1})]
def Li:Ctx:=CX (ens I8) aew
def Ew(x:BI)(s9:Int):Cfg:=⟨191,[.blk 0,.seq 25],[(1,.box 0 0),(7,.d asj x.2),(8,SI (x.2.length:Int)),(9,SI s9)],[.box 36 [SB x.1,.d asj x.2]],0,[]⟩
def ama(x:BI)(k:KT):OLR:=k 6 (Ew x 0)
theorem air(x:BI):RS Li 191 [.d tI x] (ama x):=rsX
def zK(x:BI)(s9:Int)(k:KT):OLR:=match D' (s9<(x.2.length:Int))with|T'=>(match aH x.2 s9 with|S' x1=>(match D' (x1>=1000000000)with|T'=>S' [RV.d .bool F']|F'=>k 6 (Ew x (i64.wrap (s9+1))))|N'=>N')|F'=>(match D' ((x.2.length:Int)>0)with|T'=>(match aH x.2 (i64.wrap ((x.2.length:Int)-1))with|S' x1=>S' [RV.d .bool (x1 !=0)]|N'=>N')|F'=>S' [RV.d .bool (!x.1)])
theorem FG(x:BI)(s9:Int):RN Li 6 (Ew x s9) (zK x s9):=rnX
theorem So(x:BI)(h:okI x):∀(j i:Nat),i+j=x.2.length->Li.Runs 6 (Ew x (i:Int)) [.d .bool T']:=by
 obtain⟨x0,x1,x2⟩:=co h;have hlim:=fv h;have hl:=h.2.2;intro j;induction j with
 |zero=>
  intro i hi;refine FG _ _ ⟨0,?_⟩;unfold zK;rw[bg (by omega)];dsimp only;cases e:x.2 with
  |nil=>
   have e1:x.1=false:=by
    cases e1:x.1
    ·rfl
    ·exact absurd e (h.2.1 e1)
   rw[e1];rfl
  |cons y r=>
   have h3:=h.1.2;rw[e]at h3 hl;have hn:(((y::r).length:Nat):Int)-1=((r.length:Nat):Int):=by simp
   have hl':r.length<=999999:=by simpa using hl
   rw[dT (show(((y::r).length:Nat):Int)>0 by simp),hn,aM (by omega) (by omega),ak];dsimp only
   have h4:(y::r)[r.length]?=S' ((y::r).getLast (by simp)):=by
    rw[List.getLast_eq_getElem];simp
   rw[h4];rw[List.getLast?_eq_some_getLast (by simp)]at h3;have h5:(y::r).getLast (by simp)≠0:=λq=>h3 (by rw[q]);simp only[aqZ.2 h5]
 |succ j ih=>
  intro i hi;have hil:i<x.2.length:=by omega
  obtain⟨q,hq⟩:=ih (i+1) (by omega);refine FG _ _ ⟨q,?_⟩;unfold zK;have hb:=(hlim.1 x.2[i] (aoY hil)).2;rw[aO hil,ak,aoO hil,aS (by omega)];dsimp only;rw[aoR (by omega)];exact hq
def alT:Cn 191 [tI]:=cn λ(x:BI)=>lf (okI x) [.d .bool T'] λh=>by
 refine aX I8 (show Li.Res _ _ _ from ?_);obtain⟨q,hq⟩:=So x h x.2.length 0 (by omega);exact air _ ⟨q,hq⟩
def QR:cE:=spN T' T' [tI] (λx=>D' (okI x.1)) (λx=>[RV.d ask (b9 (ab x.1) 0)])
theorem Pi:SpK 178 QR:=spX λx h=>B7 x.1 (aoQ h)
def NN:cE:=spN F' T' [tI,tI] (λx=>D' (okI x.1/\okI x.2.1)) (λx=>[RV.d tI (hid (ah ((Int.gcd (ab x.1) (ab x.2.1):Nat):Int)))])
theorem RO:SpK 192 NN:=spX λx h=>by simp only[aQ];exact KB x.1 x.2.1 (aoQ h)
def Um:cE:=spN F' T' [] (λ_=>T') (λ_=>[RV.d tI (hid (ah 1))])
theorem NF:SpK 193 Um:=spX λ_ _=>by simp only[aQ];exact Jg
def afd:List En:=enT alT::⟨178,QR,Pi⟩::⟨192,NN,RO⟩::⟨193,Um,NF⟩::⟨108,DM,yk⟩::I8
def aa9(a:BR)(_k:KT):OLR:=og (D' (okI a.1)) (og (D' (okI a.2)) (og (D' (okI a.2)) (match D' ((b9 (ab a.2) 0)<=0)with|T'=>S' [RV.d .bool F']|F'=>(og (D' (okI a.1/\okI a.2)) (og (D' (okI (hid (ah ((Int.gcd (ab a.1) (ab a.2):Nat):Int)))/\okI (hid (ah 1)))) (S' [RV.d .bool ((b9 (ab (hid (ah ((Int.gcd (ab a.1) (ab a.2):Nat):Int)))) (ab (hid (ah 1))))==0)]))))))
def Gy:Cn 110 [tR]:=cn λ(a:BR)=>lf (okR a) [.d .bool T'] λh=>by
 refine aA afd (aa9 a) ⟨0,?_⟩;obtain⟨h1,h2,h3,h4,_⟩:=h;have o1:okI (ah ((Int.gcd (ab a.1) (ab a.2):Nat):Int)):=by rw[h4];exact lO
 unfold aa9;simp only[aQ];rw[dT h1,dT h2,dT (show okI a.1/\okI a.2 from⟨h1,h2⟩),cH h3,dT (show okI (ah ((Int.gcd (ab a.1) (ab a.2):Nat):Int))/\okI (ah 1) from⟨o1,lO⟩),dec_enc,dec_enc,h4];rfl
def G9:List En:=[enT Gy,⟨94,fo,dG⟩,enL ZF]
def afv:NT:=[((142,6),{keep:=[1,17,18,19],hl:=99})]
def aln:Ctx:=CX (ens G9) afv
def aco(p:BP):OLR:=og (o1 p.1) (og (o1 p.2.1) (og (o1 p.2.2.1) (og (o1 p.2.2.2.1) (og (o1 p.2.2.2.2) (og (o1 p.2.1) (match(aD (ag p.2.1) 0)==0 with|T'=>(og (o1 p.2.2.2.1) (match(aD (ag p.2.2.2.1) 0)==0 with|T'=>(og (o1 p.2.2.2.2) (S' [RV.d .bool ((aD (ag p.2.2.2.2) 0)==0)]))|F'=>(og (o1 p.2.2.2.2) (og (o1 p.2.2.2.2) (match D' ((aD (ag p.2.2.2.2) 0)>0)with|T'=>S' [RV.d .bool (!(eA (ag p.2.2.2.2)))]|F'=>S' [RV.d .bool F'])))))|F'=>(og (o1 p.2.2.2.2) (og (o1 p.2.2.2.2) (match D' ((aD (ag p.2.2.2.2) 0)>0)with|T'=>S' [RV.d .bool (!(eA (ag p.2.2.2.2)))]|F'=>S' [RV.d .bool F'])))))))))
theorem amL(p:BP):RT aln 142 [.d tP p] (aco p):=rtX
def J5:Cn 142 [tP]:=cn λ(p:BP)=>lf (okP 4000 p) [.d .bool T'] λh=>by
 refine aX G9 (amL _ ?_);have hp:=h;obtain⟨p,rfl,bp,rp⟩:=bL hp;unfold aco;simp only[aV,Nat.reduceLeDiff,am,au];rcases rp.rd with⟨h1,h2,h3⟩|⟨h1,h2,h3⟩
 ·rw[dT h1,dT h2,dT h3]
 ·rw[dT h2,h3];cases hb:D' (p.2.1=0)
  ·rfl
  ·cases hb2:D' (p.2.2.2.1=0)
   ·rfl
   ·exact absurd ⟨aoQ hb,aoQ hb2⟩ h1
def ab9(c:BO3)(_k:KT):OLR:=og (o1 c.1) (og (o1 c.2.1) (og (o1 c.2.2) (og (o1 c.2.2) (S' [RV.d .bool (D' ((aD (ag c.2.2) 0)>0))]))))
def FL:Cn 48 [tO]:=cn λ(c:BO3)=>lf (rD c) [.d .bool T'] λh=>by
 refine aA G9 (ab9 c) ⟨0,?_⟩;obtain⟨hk,h0⟩:=h;obtain⟨c,rfl,bc⟩:=aJ hk;rw[ao]at h0;unfold ab9;simp only[aV,Nat.reduceLeDiff,au,dT h0]
end Go.Proofs.YtoimchcjhdcdmaaGreat
end
