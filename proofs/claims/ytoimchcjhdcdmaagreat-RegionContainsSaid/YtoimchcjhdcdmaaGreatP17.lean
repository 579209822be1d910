/- Pieces of a curve: the program's are the reference's. -/
import Derived.Test.YtoimchcjhdcdmaaGreatP16
import Derived.Test.YtoimchcjhdcdmaaGreatP7
noncomputable section
namespace Go.Proofs.YtoimchcjhdcdmaaGreat
open Go.RowKit Go.IntKind
open Bool renaming true->T',false->F'
open Option renaming some->S',none->N'
open Decidable renaming decide->D'
theorem apV:type_of% @bne_iff_ne:=@bne_iff_ne
section
open RE
def wG(c:BCU):BP->List BP->List BCU
 |f,[]=>[Ah c f c.2.2.2.2.2]
 |f,p::r=>bif fV p c.2.2.2.2.1||fV p c.2.2.2.2.2 then wG c f r else Ah c f p::wG c p r
def U5(c:BCU)(l:List BP):List BCU:=wG c c.2.2.2.2.1 (dv (dC c) l)
def OO(c:BCU)(l:List BP):Bool:=l.any λp=>!onP (dC c) (dec p)
def oU(c:BCU)(l:List BP):List BCU:=bif OO c l then []else U5 c l
def VC(c:BCU)(l:List BP):Int:=bif OO c l then 1 else 0
section
variable {c:BCU} (h:gdN c) {l:List BP} (ho:∀x∈l,Rpd (dec x:Pt)/\onR (dC c) (dec x)=T')
include h ho
omit h ho in
end
end
section
open RE
def frB(c:BCU):BP:=c.2.2.2.2.1
def toB(c:BCU):BP:=c.2.2.2.2.2
def Mg(d p:BCU):Bool:=(onP (dC d) (dec (frB p))&&onP (dC d) (dec (toB p)))&&(bif d.1 then !fV (frB (dR p)) (toB (dR d))&&D' (mr aU (ptd (dec (dR d).2.2.1) (dec (frB (dR p)))) (ptd (dec (dR d).2.2.1) (dec (toB (dR p)))) (ptd (dec (dR d).2.2.1) (dec (toB (dR d))))<=0)else T')
def xU(c d:BCU)(l:List BP):Bool:=(oU c l).any (Mg d)
def It(c d:BCU):Bool:=cO (dC c) (dC d)&&xU c d (ml c d)
theorem gdN.rev{d:BCU}(h:gdN d):gdN (gT d):=by
 obtain⟨⟨h1,h2,h3⟩,h4,h5,h6⟩:=h;have r1:=db h1.2.2.1;have r2:=db h1.2.2.2;refine⟨⟨Eg _ h1,h2,h3⟩,h5,h4,λe=>h6 ?_⟩;have i1:Rpd (frC (dC d)):=r1;have i2:Rpd (toC (dC d)):=r2;exact Pe (p:=toC (dC d)) (q:=frC (dC d)) e
end
section
def z8(c d:BCU)(l:List BP):Prop:=kK c l/\okC 4000 d
instance (c d:BCU) (l:List BP):Decidable (z8 c d l):=by unfold z8;infer_instance
theorem ad2(d:BCU):(dR d).1=d.1:=by
 unfold dR;cases d.2.2.2.1<;>rfl
theorem KX{k:Nat}{d:BCU}(h:okC k d):okC k (dR d):=by
 unfold dR;cases d.2.2.2.1
 ·exact h
 ·exact Eg k h
theorem D1{c:BCU}(hc:okC 4000 c):∀{L:List BP} {f:BP},okP 4000 f->(∀x∈L,okP 4000 x)->∀p∈wG c f L,okC 4000 p
 |[],f,hf,_,p,hp=>by
  rw[aox.1 hp];exact⟨hc.1,hc.2.1,hf,hc.2.2.2⟩
 |x::r,f,hf,hL,p,hp=>by
  have hx:=hL x (by simp);have hr:∀y∈r,okP 4000 y:=λy hy=>hL y (an4 _ hy);unfold wG at hp;cases h:fV x c.2.2.2.2.1||fV x c.2.2.2.2.2<;>rw[h]at hp
  ·rcases an6.1 hp with e|e
   ·rw[e];exact⟨hc.1,hc.2.1,hf,hx⟩
   ·exact D1 hc hx hr p e
  ·exact D1 hc hf hr p hp
theorem VD{c:BCU}{l:List BP}(h:kK c l):(oU c l).length<=20/\∀p∈oU c l,okC 4000 p:=by
 obtain⟨hc,hl,ho⟩:=h;have hs:∀x∈dv (dC c) l,okP 4000 x:=λx hx=>ho x (nj hx);have hn:(dv (dC c) l).length<=l.length:=nq
 have len:∀(L:List BP) (f:BP),(wG c f L).length<=L.length+1:=by
  intro L;induction L with
  |nil=>intro f;simp[wG]
  |cons x r ih=>
   intro f;unfold wG;cases fV x c.2.2.2.2.1||fV x c.2.2.2.2.2
   ·have:=ih x;simp only[cond_false,an8];omega
   ·have:=ih f;simp only[cond_true,an8];omega
 unfold oU;cases OO c l
 ·refine⟨?_,D1 hc hc.2.2.1 hs⟩;have:=len (dv (dC c) l) c.2.2.2.2.1;simp only[cond_false];unfold U5;omega
 ·exact⟨by simp,λp hp=>by cases hp⟩
def Pn:List En:=[enT Jp,enT oM,enK Qf]
def af2:NT:=[((233,6),{keep:=[0,1,7,8],hl:=1}),((81,18),{keep:=[2,6,7,17,18,19],own:=[(6,48,tCU)],hl:=3}),((81,4),{keep:=[1,2,13],hl:=0}),((160,3),{keep:=[7],hl:=0}),((233,18),{keep:=[0,1,5,7,8,16],hl:=0})]
def EK:Ctx:=CX (ens Pn) af2
def ow(c:BCU)(l:List BP)(s233_8:Int):Cfg:=⟨233,[.blk 0,.seq 25],[(0,.d (.sl tP) l),(1,.clo 161 [0]),(7,SI (l.length:Int)),(8,SI s233_8)],[.box 48 (Ty.split tCU c)],1,[⟨160,[.seq 4],3,2,[],1,N'⟩,⟨81,[.seq 5,.seq 10],4,2,[(1,.d (.sl tP) l),(2,.box 0 0)],0,N'⟩]⟩
def qF(c:BCU)(l:List BP)(s19:Int)(B1:BCU)(r2:List BCU):Cfg:=⟨81,[.blk 0,.seq 41],[(2,.box 0 0),(6,.own 2),(7,.box 1 0),(17,.d (.sl tP) (dv (dC c) l)),(18,SI ((dv (dC c) l).length:Int)),(19,SI s19)],[.box 48 (Ty.split tCU c),.box 48 (Ty.split tCU B1),.row 48 tCU r2],0,[]⟩
def ak1(c:BCU)(l:List BP)(k:KT):OLR:=k 6 (ow c l 0)
theorem ale(c:BCU)(l:List BP):RS EK 81 [.d tCU c,.d (.sl tP) l] (ak1 c l):=rsX
def nL(c:BCU)(l:List BP)(s233_8:Int)(k:KT):OLR:=match D' (s233_8<(l.length:Int))with|T'=>(match aH l s233_8 with|S' x1=>(match D' (okC 4000 c/\okP 4000 x1)with|T'=>(match !(onP (dC c) (dec x1))with|T'=>(match D' (s233_8>=0)with|T'=>S' [RV.d (.sl tCU) ([]),RV.d arf 1]|F'=>(match D' (kK c l)with|T'=>N'|F'=>N'))|F'=>k 6 (ow c l (i64.wrap (s233_8+1))))|F'=>N')|N'=>N')|F'=>(match D' ((-1)>=0)with|T'=>S' [RV.d (.sl tCU) ([]),RV.d arf 1]|F'=>(match D' (kK c l)with|T'=>k 18 (qF c l 0 c ([]))|F'=>N'))
theorem t6(c:BCU)(l:List BP)(s233_8:Int):RN EK 6 (ow c l s233_8) (nL c l s233_8):=rnX
def vc(c:BCU)(l:List BP)(s19:Int)(B1:BCU)(r2:List BCU)(k:KT):OLR:=match D' (s19<((dv (dC c) l).length:Int))with|T'=>(match aH (dv (dC c) l) s19 with|S' x1=>(match D' (okP 4000 x1/\okP 4000 c.2.2.2.2.1)with|T'=>(match aB (dec x1) (dec c.2.2.2.2.1)==0 with|T'=>k 18 (qF c l (i64.wrap (s19+1)) B1 r2)|F'=>(match D' (okP 4000 x1/\okP 4000 c.2.2.2.2.2)with|T'=>(match aB (dec x1) (dec c.2.2.2.2.2)==0 with|T'=>k 18 (qF c l (i64.wrap (s19+1)) B1 r2)|F'=>dup (.b .l .l) (match D' ((r2.length+([(B1.1,(B1.2.1,(B1.2.2.1,(B1.2.2.2.1,(B1.2.2.2.2.1,x1)))))]).length)*1040<=140737488355328/\r2.length+([(B1.1,(B1.2.1,(B1.2.2.1,(B1.2.2.2.1,(B1.2.2.2.2.1,x1)))))]).length<=140737488355328)with|T'=>k 18 (qF c l (i64.wrap (s19+1)) (B1.1,(B1.2.1,(B1.2.2.1,(B1.2.2.2.1,(x1,B1.2.2.2.2.2))))) (r2++([(B1.1,(B1.2.1,(B1.2.2.1,(B1.2.2.2.1,(B1.2.2.2.2.1,x1)))))])))|F'=>N'))|F'=>N'))|F'=>N')|N'=>N')|F'=>(match D' ((r2.length+([B1]).length)*1040<=140737488355328/\r2.length+([B1]).length<=140737488355328)with|T'=>S' [RV.d (.sl tCU) (r2++([B1])),RV.d arf 0]|F'=>N')
theorem BF(c:BCU)(l:List BP)(s19:Int)(B1:BCU)(r2:List BCU):RN EK 18 (qF c l s19 B1 r2) (vc c l s19 B1 r2):=rnX
section
variable (c:BCU) (l:List BP) (h:kK c l)
include h
theorem KQ:∀(L:List BP) (i:Nat),(dv (dC c) l).drop i=L->i<=(dv (dC c) l).length->∀(f:BP) (r2:List BCU),r2.length<=i->EK.Runs 18 (qF c l (i:Int) (Ah c f c.2.2.2.2.2) r2) [.d (.sl tCU) (r2++wG c f L),.d arf (0:Int)]
 |[],i,hd,hi,f,r2,hr=>by
  have hn:(dv (dC c) l).length<=l.length:=nq;have hl:=h.2.1;have hlen:=congrArg List.length hd;rw[aqf,List.length_nil]at hlen;refine BF _ _ _ _ _ ⟨0,?_⟩;unfold vc;rw[a8 (by omega),aoc,CM (by omega) (by omega)];rfl
 |x::r,i,hd,hi,f,r2,hr=>by
  have hn:(dv (dC c) l).length<=l.length:=nq;have hl:=h.2.1;have hlen:=congrArg List.length hd;rw[aqf,an8]at hlen;have hil:i<(dv (dC c) l).length:=by omega
  have hd2:=an5 hil;rw[hd2]at hd;injection hd with e1 e2;have hx:okP 4000 x:=by rw[<-e1];exact h.2.2 _ (nj (anY hil))
  have g1:aH (dv (dC c) l) (i:Int)=S' x:=by rw[ak,anN hil,e1]
  have ih:=KQ r (i+1) e2 (by omega);refine BF _ _ _ _ _ ?_;unfold vc wG;rw[aO hil,g1,aT (by omega)];dsimp only;rw[dT (show okP 4000 x/\okP 4000 c.2.2.2.2.1 from⟨hx,h.1.2.2.1⟩),dT (show okP 4000 x/\okP 4000 c.2.2.2.2.2 from⟨hx,h.1.2.2.2⟩)];unfold fV;cases q1:aB (dec x) (dec c.2.2.2.2.1)==0
  ·cases q2:aB (dec x) (dec c.2.2.2.2.2)==0
   ·obtain⟨n,hn⟩:=ih x (r2++[Ah c f x]) (by simp;omega);refine⟨n,?_⟩;rw[aof]at hn;simp only[dg];rw[aoc,CM (by omega) (by omega)];exact hn
   ·exact ih f r2 (by omega)
  ·exact ih f r2 (by omega)
theorem adn:∀(j i:Nat),i+j=l.length->EK.Runs 6 (ow c l (i:Int)) [.d (.sl tCU) (bif (l.drop i).any (λp=>!onP (dC c) (dec p))then []else U5 c l),.d arf (bif (l.drop i).any (λp=>!onP (dC c) (dec p))then(1:Int)else 0)]:=by
 intro j;have hl:=h.2.1;induction j with
 |zero=>
  intro i hi;obtain⟨n,hn⟩:=KQ c l h (dv (dC c) l) 0 rfl (aqc _) c.2.2.2.2.1 [] (anT _);refine t6 _ _ _ ⟨n,?_⟩;unfold nL;rw[a8 (by omega),z7 (by omega)];dsimp only;rw[dF (show ¬(-1:Int)>=0 by decide),dT h];exact hn
 |succ j ih=>
  intro i hi;have hil:i<l.length:=by omega
  obtain⟨n,hn⟩:=ih (i+1) (by omega);refine t6 _ _ _ ⟨n,?_⟩;unfold nL;rw[aO hil,ak,anN hil,jx hil,List.any_cons,aT (by omega)];dsimp only;rw[dT (show okC 4000 c/\okP 4000 l[i] from⟨h.1,h.2.2 _ (anY _)⟩)];cases onP (dC c) (dec l[i])
  ·dsimp only[Bool.not_false];rw[dT (show(i:Int)>=0 by omega)];rfl
  ·exact hn
end
def Gi:Cn 81 [tCU,(.sl tP)]:=cn λ(c:BCU) (l:List BP)=>lf (kK c l) [.d (.sl tCU) (oU c l),.d arf (VC c l)] λh=>by
 have q:=adn c l h l.length 0 (an2 _);exact bj Pn (ale _ _ q)
def ad1:List En:=[enT Jp,enT oM,enL X8,enT NR]
def abo(d p:BCU)(_k:KT):OLR:=og (D' (okC 4000 d/\okP 4000 p.2.2.2.2.1)) (match !(onP (dC d) (dec p.2.2.2.2.1))with|T'=>S' [RV.d .bool F']|F'=>(og (D' (okC 4000 d/\okP 4000 p.2.2.2.2.2)) (match !(onP (dC d) (dec p.2.2.2.2.2))with|T'=>S' [RV.d .bool F']|F'=>(match !d.1 with|T'=>S' [RV.d .bool T']|F'=>(og (D' (okP 4000 ((((((hid (dR p)).2).2).2).2).1)/\okP 4000 ((((((hid (dR d)).2).2).2).2).2))) (match aB (dec ((((((hid (dR p)).2).2).2).2).1)) (dec ((((((hid (dR d)).2).2).2).2).2))==0 with|T'=>S' [RV.d .bool F']|F'=>(og (D' (ok Ln 300 ((((hid (dR d)).2).2).1)/\okP 4000 ((((((hid (dR p)).2).2).2).2).1)/\okP 4000 ((((((hid (dR p)).2).2).2).2).2)/\okP 4000 ((((((hid (dR d)).2).2).2).2).2))) (S' [RV.d .bool (D' ((mr aU (ptd (dec ((((hid (dR d)).2).2).1)) (dec ((((((hid (dR p)).2).2).2).2).1))) (ptd (dec ((((hid (dR d)).2).2).1)) (dec ((((((hid (dR p)).2).2).2).2).2))) (ptd (dec ((((hid (dR d)).2).2).1)) (dec ((((((hid (dR d)).2).2).2).2).2))))<=0))]))))))))
def ahv:Cn 241 [tCU,tCU]:=cn λ(d p:BCU)=>lf (okC 4000 d/\okC 4000 p) [.d .bool (Mg d p)] λh=>by
 refine aA ad1 (abo d p) ⟨0,?_⟩;obtain⟨hd,hp⟩:=h;have hd':=KX hd;have hp':=KX hp;unfold abo Mg frB toB fV;simp only[aR];rw[dT (show okC 4000 d/\okP 4000 p.2.2.2.2.1 from⟨hd,hp.2.2.1⟩),dT (show okC 4000 d/\okP 4000 p.2.2.2.2.2 from⟨hd,hp.2.2.2⟩)];cases onP (dC d) (dec p.2.2.2.2.1)
 ·rfl
 ·cases onP (dC d) (dec p.2.2.2.2.2)
  ·rfl
  ·cases ha:d.1
   ·rfl
   ·rw[dT (show okP 4000 (dR p).2.2.2.2.1/\okP 4000 (dR d).2.2.2.2.2 from⟨hp'.2.2.1,hd'.2.2.2⟩),dT (show ok Ln 300 (dR d).2.2.1/\okP 4000 (dR p).2.2.2.2.1/\okP 4000 (dR p).2.2.2.2.2/\okP 4000 (dR d).2.2.2.2.2 from⟨(hd'.1 ((ad2 d).trans ha)).1,hp'.2.2.1,hp'.2.2.2,hd'.2.2.2⟩)];cases aB (dec (dR p).2.2.2.2.1) (dec (dR d).2.2.2.2.2)==0<;>rfl
def NA:List En:=[enK Gi,enT ahv]
def agu:NT:=[((141,6),{keep:=[0,1,7,8],hl:=2}),((159,5),{keep:=[17],hl:=0}),((72,3),{keep:=[7],hl:=0}),((141,18),{keep:=[0,1,5,7,8,16],hl:=0})]
def PU:Ctx:=CX (ens NA) agu
def nU(c d:BCU)(l:List BP)(s141_8:Int):Cfg:=⟨141,[.blk 0,.seq 25],[(0,.d (.sl tCU) (oU c l)),(1,.clo 240 [1]),(7,SI ((oU c l).length:Int)),(8,SI s141_8)],[.box 48 (Ty.split tCU c),.box 48 (Ty.split tCU d)],2,[⟨72,[.seq 4],3,2,[],2,N'⟩,⟨159,[.seq 6],5,2,[],0,N'⟩]⟩
def Yl(c d:BCU)(l:List BP)(k:KT):OLR:=og (D' (kK c l)) (k 6 (nU c d l 0))
theorem akN(c d:BCU)(l:List BP):RS PU 159 [.d tCU c,.d tCU d,.d (.sl tP) l] (Yl c d l):=rsX
def n8(c d:BCU)(l:List BP)(s141_8:Int)(k:KT):OLR:=match D' (s141_8<((oU c l).length:Int))with|T'=>(match aH (oU c l) s141_8 with|S' x1=>(og (D' (okC 4000 d/\okC 4000 x1)) (match Mg d x1 with|T'=>S' [RV.d .bool (D' (s141_8>=0))]|F'=>k 6 (nU c d l (i64.wrap (s141_8+1)))))|N'=>N')|F'=>S' [RV.d .bool (D' ((-1)>=0))]
theorem tc(c d:BCU)(l:List BP)(s141_8:Int):RN PU 6 (nU c d l s141_8) (n8 c d l s141_8):=rnX
theorem afg(c d:BCU)(l:List BP)(h:z8 c d l):∀(j i:Nat),i+j=(oU c l).length->PU.Runs 6 (nU c d l (i:Int)) [.d .bool (((oU c l).drop i).any (Mg d))]:=by
 obtain⟨hn,ho⟩:=VD h.1;intro j;induction j with
 |zero=>
  intro i hi;refine tc _ _ _ _ ⟨0,?_⟩;unfold n8;rw[a8 (by omega),z7 (by omega)];rfl
 |succ j ih=>
  intro i hi;have hil:i<(oU c l).length:=by omega
  obtain⟨n,hn⟩:=ih (i+1) (by omega);refine tc _ _ _ _ ⟨n,?_⟩;unfold n8;rw[aO hil,ak,anN hil,jx hil,List.any_cons,aT (by omega)];dsimp only;rw[dT (show okC 4000 d/\okC 4000 (oU c l)[i] from⟨h.2,ho _ (anY _)⟩)];cases Mg d (oU c l)[i]
  ·exact hn
  ·dsimp only;rw[dT (show(i:Int)>=0 by omega)];rfl
def abK:Cn 159 [tCU,tCU,(.sl tP)]:=cn λ(c d:BCU) (l:List BP)=>lf (z8 c d l) [.d .bool (xU c d l)] λh=>by
 obtain⟨n,hn⟩:=afg c d l h (oU c l).length 0 (an2 _);refine bj NA (akN _ _ _ ⟨n,?_⟩);unfold Yl;rw[dT h.1];exact hn
end
theorem lD(q:Rat):(aD q 0== -1)=D' (q<0):=by
 unfold aD;by_cases h:q<0
 ·rw[anO h];rfl
 ·rw[anQ h];by_cases h':0<q
  ·rw[anO h'];rfl
  ·rw[anQ h'];rfl
def sC:List En:=[⟨94,fp,dJ⟩,⟨194,i7,ff⟩,⟨122,oB,jv⟩,⟨165,mn,im⟩,⟨123,jO,fL⟩,⟨46,jL,fN⟩,⟨196,mE,ij⟩,⟨164,uU,qj⟩,enL alj,enL agA,enL BX,enL UD,enL Pp,enL OE,enL ag8]
def aj1:Cn 355 [tR,tR]:=cn λ(a b:BR)=>lf (okR a/\okR b) [.d tR (av (ag a+ag b))] λh=>qT [RV.d tR (hAd a b)] (eT sC) h
def akR:Cn 298 [tR,tR]:=cn λ(a b:BR)=>lf (okR a/\okR b) [.d tR (av (ag a-ag b))] λh=>qT [RV.d tR (hSu a b)] (eT sC) h
def ah6:Cn 299 [tR,tR]:=cn λ(a b:BR)=>lf (okR a/\okR b) [.d tR (av (ag a*ag b))] λh=>qT [RV.d tR (hMu a b)] (eT sC) h
def alH:Cn 300 [tR,tR]:=cn λ(a b:BR)=>lf (jX a b) [.d tR (av (ag a/ag b))] λh=>qT [RV.d tR (hDi a b)] (eT sC) h
def XW(a b:BR)(_k:KT):OLR:=match D' (okR a/\okR b)with|T'=>S' [RV.d .bool ((aD (ag a) (ag b))==0)]|F'=>N'
def amd:Cn 279 [tR,tR]:=cn λ(a b:BR)=>lf (okR a/\okR b) [.d .bool (D' (ag a=ag b))] λh=>by
 refine aA sC (XW a b) ⟨0,?_⟩;unfold XW;rw[dT h];simp only[am]
def ZQ(x u y v k:BR)(_k:KT):OLR:=og (D' (ok Rat 100000 x/\ok Rat 100000 u/\ok Rat 100000 k/\0<=ag k)) (og (D' (ok Rat 100000 y/\ok Rat 100000 v/\ok Rat 100000 k/\0<=ag k)) (og (D' (okT 15000 (hid (enc (mkR (ag x) (ag u) (ag k))))/\okT 15000 (hid (enc (mkR (ag y) (ag v) (ag k))))/\yE (dec (hid (enc (mkR (ag x) (ag u) (ag k))))) (dec (hid (enc (mkR (ag y) (ag v) (ag k))))))) (S' [RV.d tP (hid (enc (mkP (dec (hid (enc (mkR (ag x) (ag u) (ag k))))) (dec (hid (enc (mkR (ag y) (ag v) (ag k))))))))])))
def akF:Cn 195 [tR,tR,tR,tR,tR]:=cn λ(x u y v k:BR)=>lf (ok Rat 1000 x/\ok Rat 1000 u/\ok Rat 1000 y/\ok Rat 1000 v/\ok Rat 1000 k/\0<=ag k) [.d tP (enc (pK (ag x) (ag u) (ag y) (ag v) (ag k)))] λh=>by
 refine aA sC (ZQ x u y v k) ⟨0,?_⟩;obtain⟨hx,hu,hy,hv,hk,h0⟩:=h;obtain⟨x,rfl,bx⟩:=aL hx;obtain⟨u,rfl,bu⟩:=aL hu;obtain⟨y,rfl,b_y⟩:=aL hy;obtain⟨v,rfl,bv⟩:=aL hv;obtain⟨k,rfl,bk⟩:=aL hk;have h0:0<=(dec (enc k):Rat):=h0;rw[aq]at h0;have nk:Nn k:=⟨h0⟩
 have n0:D' (0<=k)=true:=anO nk.le;have hm:D' (yE (mkR x u k) (mkR y v k))=true:=anO (tM _ _ _ _ _);unfold ZQ pK;simp only[aX,Nat.reduceAdd,Nat.reduceLeDiff,aI,n0,hm];try rfl
def rX:List En:=enL aj1::enL akR::enL ah6::enL alH::enT amd::enL akF::sC
def ZG(l m:BO3)(_k:KT):OLR:=og (o2 l.1 m.2.1) (og (o2 m.1 l.2.1) (og (o2 (hMu l.1 m.2.1) (hMu m.1 l.2.1)) (match D' (ag (hMu l.1 m.2.1)=ag (hMu m.1 l.2.1))with|T'=>(og (o2 l.1 m.2.2) (og (o2 m.1 l.2.2) (og (o2 (hMu l.1 m.2.2) (hMu m.1 l.2.2)) (match D' (ag (hMu l.1 m.2.2)=ag (hMu m.1 l.2.2))with|T'=>(og (o2 l.2.1 m.2.2) (og (o2 m.2.1 l.2.2) (og (o2 (hMu l.2.1 m.2.2) (hMu m.2.1 l.2.2)) (S' [RV.d .bool (D' (ag (hMu l.2.1 m.2.2)=ag (hMu m.2.1 l.2.2)))]))))|F'=>S' [RV.d .bool F']))))|F'=>S' [RV.d .bool F'])))
def GQ:Cn 206 [tO,tO]:=cn λ(l m:BO3)=>lf (cJ l/\cJ m) [.d .bool (pZ (dec l) (dec m))] λh=>by
 refine aA rX (ZG l m) ⟨0,?_⟩;obtain⟨hl,hm⟩:=h;obtain⟨l,rfl,bl,nl⟩:=dU hl;obtain⟨m,rfl,bm,nm⟩:=dU hm;unfold ZG pZ;have c1:l.2.1*m.1=m.1*l.2.1:=aqA _ _;have c2:l.2.2*m.1=m.1*l.2.2:=aqA _ _;have c3:l.2.2*m.2.1=m.2.1*l.2.2:=aqA _ _;simp only[aX,Nat.reduceAdd,Nat.reduceLeDiff,c1,c2,c3];cases D' (l.1*m.2.1=m.1*l.2.1)<;>cases D' (l.1*m.2.2=m.1*l.2.2)<;>rfl
def ZF(c d:BO3)(_k:KT):OLR:=og (o2 c.1 d.1) (match D' (ag c.1=ag d.1)with|T'=>(og (o2 c.2.1 d.2.1) (match D' (ag c.2.1=ag d.2.1)with|T'=>(og (o2 c.2.2 d.2.2) (S' [RV.d .bool (D' (ag c.2.2=ag d.2.2))]))|F'=>S' [RV.d .bool F']))|F'=>S' [RV.d .bool F'])
def Fc:Cn 205 [tO,tO]:=cn λ(c d:BO3)=>lf (bK c/\bK d) [.d .bool (qY (dec c) (dec d))] λh=>by
 refine aA rX (ZF c d) ⟨0,?_⟩;obtain⟨hc,hd⟩:=h;obtain⟨c,rfl,bc,nc⟩:=b9 hc;obtain⟨d,rfl,bd,nd⟩:=b9 hd;unfold ZF qY;simp only[aX,Nat.reduceLeDiff];cases D' (c.1=d.1)<;>cases D' (c.2.1=d.2.1)<;>rfl
def Zn(c d:BO3)(_k:KT):OLR:=og (o2 c.1 d.1) (match(aD (ag c.1) (ag d.1))==0 with|T'=>(og (o2 c.2.1 d.2.1) (S' [RV.d .bool ((aD (ag c.2.1) (ag d.2.1))==0)]))|F'=>S' [RV.d .bool F'])
def aix:Cn 295 [tO,tO]:=cn λ(c d:BO3)=>lf (bK c/\bK d) [.d .bool (jQ (dec c) (dec d))] λh=>by
 refine aA rX (Zn c d) ⟨0,?_⟩;obtain⟨hc,hd⟩:=h;obtain⟨c,rfl,bc,nc⟩:=b9 hc;obtain⟨d,rfl,bd,nd⟩:=b9 hd;unfold Zn jQ;simp only[aX,Nat.reduceLeDiff,am];cases D' (c.1=d.1)<;>rfl
def abW(c:BO3)(_k:KT):OLR:=og (o2 c.1 c.1) (og (o2 c.2.1 c.2.1) (og (o2 (hMu c.1 c.1) (hMu c.2.1 c.2.1)) (og (o2 (hAd (hMu c.1 c.1) (hMu c.2.1 c.2.1)) c.2.2) (S' [RV.d tR (hSu (hAd (hMu c.1 c.1) (hMu c.2.1 c.2.1)) c.2.2)]))))
def aha:Cn 354 [tO]:=cn λ(c:BO3)=>lf (bK c) [.d tR (av (rH (dec c)))] λh=>by
 refine aA rX (abW c) ⟨0,?_⟩;have hc:=h;obtain⟨c,rfl,bc,nc⟩:=b9 hc;unfold abW rH;simp only[aX,Nat.reduceAdd,Nat.reduceLeDiff]
def abP(l c:BO3)(_k:KT):OLR:=let y1:=hid (enc (QW (dec l) (dec (c.1,c.2.1))));let y2:=hSu (y1.2) c.2.1;let y3:=hMu (hSu (y1.1) c.1) (hSu (y1.1) c.1);let y4:=hAd y3 (hMu y2 y2);let y5:=hAd (hMu l.1 l.1) (hMu l.2.1 l.2.1);let y6:=jX (hSu c.2.2 y4) y5;let y7:=hDi (hSu c.2.2 y4) y5;let y8:OLR:=match decide y6 with|T'=>S' [RV.d tR y7,RV.d tV y1]|F'=>N';let y9:OLR:=match D' (okR (hMu l.1 l.1)/\okR (hMu l.2.1 l.2.1))with|T'=>y8|F'=>N';let y10:OLR:=match D' (okR l.2.1/\okR l.2.1)with|T'=>y9|F'=>N';og (D' (ok Ln 300 l/\ok (Rat×Rat) 200 (c.1,c.2.1)/\((dec l:Ln).1≠0\/(dec l:Ln).2.1≠0))) (og (o2 (y1.1) c.1) (og (o2 (y1.2) c.2.1) (og (o2 (hSu (y1.1) c.1) (hSu (y1.1) c.1)) (og (o2 y2 y2) (og (o2 y3 (hMu y2 y2)) (og (o2 c.2.2 y4) (cX (og (o2 l.1 l.1) (cX (og (o2 l.2.1 l.2.1) (cX (og (o2 (hMu l.1 l.1) (hMu l.2.1 l.2.1)) (cX (og (decide y6) (dup (.b .l .l) (S' [RV.d tR y7,RV.d tV y1]))) y8)) y9)) y10)) (og (o2 l.1 l.1) y10))))))))
def agB:Cn 297 [tO,tO]:=cn λ(l c:BO3)=>lf (cJ l/\bK c) [.d tR (av (fP (dec l) (dec c))),.d tV (enc (ftL (dec l) (dec c)))] λh=>by
 refine aA rX (abP l c) ⟨0,?_⟩;obtain⟨hl,hc⟩:=h;obtain⟨l,rfl,bl,nl⟩:=dU hl;obtain⟨c,rfl,bc,nc⟩:=b9 hc;have ol:=anO (ms (l:=l) nl);have bl:Bd l 63:=aeU;have bv:Bd ((c.1,c.2.1):Rat×Rat) 4:=inferInstance;have hn:=o0 nl;have bn:Bd (cG l) 49:=inferInstanceAs (Bd (l.1*l.1+l.2.1*l.2.1) _);have bf:=Is (l:=l) (c:=c);have b1:Bd (ftL l c).1 163:=inferInstance;have b2:Bd (ftL l c).2 163:=inferInstance;have e1:l.1*l.1+l.2.1*l.2.1=cG l:=rfl;unfold abP fP Dv;simp only[aX,Nat.reduceAdd,Nat.reduceLeDiff,Mk,nl,Wq,e1,hn,ne_eq,apk];try rfl
def abC(c:BO3)(_k:KT):OLR:=og (D' (bH (1:Int))) (og (D' (bH (0:Int))) (og (o1 (hid (av ((1:Int):Rat)))) (og (D' (ok Rat 1000 c.1/\ok Rat 1000 (hNe (hid (av ((1:Int):Rat))))/\ok Rat 1000 c.2.1/\ok Rat 1000 (hid (av ((0:Int):Rat)))/\ok Rat 1000 c.2.2/\0<=ag c.2.2)) (og (D' (ok Rat 1000 c.1/\ok Rat 1000 (hid (av ((1:Int):Rat)))/\ok Rat 1000 c.2.1/\ok Rat 1000 (hid (av ((0:Int):Rat)))/\ok Rat 1000 c.2.2/\0<=ag c.2.2)) (S' [RV.d tP (hid (enc (pK (ag c.1) (ag (hNe (hid (av ((1:Int):Rat))))) (ag c.2.1) (ag (hid (av ((0:Int):Rat)))) (ag c.2.2)))),RV.d tP (hid (enc (pK (ag c.1) (ag (hid (av ((1:Int):Rat)))) (ag c.2.1) (ag (hid (av ((0:Int):Rat)))) (ag c.2.2))))])))))
def Pq:Cn 111 [tO]:=cn λ(c:BO3)=>lf (bK c) [.d tP (enc (dY (dec c))),.d tP (enc (eN (dec c)))] λh=>by
 refine aA rX (abC c) ⟨0,?_⟩;have hc:=h;obtain⟨c,rfl,bc,nc⟩:=b9 hc;have b0:Bd ((0:Int):Rat) 3:=dQ (by decide);have b1:Bd ((1:Int):Rat) 3:=dQ (by decide);have i0:D' (bH 0)=true:=by decide
 have i1:D' (bH 1)=true:=by decide
 have nc':D' (0<=c.2.2)=true:=anO (by grind);unfold abC dY eN;simp only[aX,Nat.reduceLeDiff,i0,i1,nc'];rfl
def zH:List En:=enT GQ::enT Fc::enT aix::enL aha::enL agB::enL Pq::rX
def Z6(l m:BO3)(_k:KT):OLR:=og (o2 l.1 m.2.1) (og (o2 m.1 l.2.1) (og (o2 (hMu l.1 m.2.1) (hMu m.1 l.2.1)) (og (o1 (hSu (hMu l.1 m.2.1) (hMu m.1 l.2.1))) (match(aD (ag (hSu (hMu l.1 m.2.1) (hMu m.1 l.2.1))) 0)==0 with|T'=>(og (D' (cJ l/\cJ m)) (match pZ (dec l) (dec m)with|T'=>S' [RV.d (.sl tP) ([]),RV.d arf 10]|F'=>S' [RV.d (.sl tP) ([]),RV.d arf 0]))|F'=>(og (o2 l.2.2 m.2.1) (og (o2 m.2.2 l.2.1) (og (o2 (hMu l.2.2 m.2.1) (hMu m.2.2 l.2.1)) (og (D' (jX (hSu (hMu l.2.2 m.2.1) (hMu m.2.2 l.2.1)) (hSu (hMu l.1 m.2.1) (hMu m.1 l.2.1)))) (og (o2 l.1 m.2.2) (og (o2 m.1 l.2.2) (og (o2 (hMu l.1 m.2.2) (hMu m.1 l.2.2)) (og (D' (jX (hSu (hMu l.1 m.2.2) (hMu m.1 l.2.2)) (hSu (hMu l.1 m.2.1) (hMu m.1 l.2.1)))) (og (D' (ok (Rat×Rat) 100000 (hDi (hSu (hMu l.2.2 m.2.1) (hMu m.2.2 l.2.1)) (hSu (hMu l.1 m.2.1) (hMu m.1 l.2.1)),hDi (hSu (hMu l.1 m.2.2) (hMu m.1 l.2.2)) (hSu (hMu l.1 m.2.1) (hMu m.1 l.2.1))))) (S' [RV.d (.sl tP) ([hid (enc (atP (dec (hDi (hSu (hMu l.2.2 m.2.1) (hMu m.2.2 l.2.1)) (hSu (hMu l.1 m.2.1) (hMu m.1 l.2.1)),hDi (hSu (hMu l.1 m.2.2) (hMu m.1 l.2.2)) (hSu (hMu l.1 m.2.1) (hMu m.1 l.2.1))))))]),RV.d arf 0]))))))))))))))
def aiK:Cn 232 [tO,tO]:=cn λ(l m:BO3)=>lf (cJ l/\cJ m) [.d (.sl tP) ((re (dec l) (dec m)).map enc),.d arf (Oc (dec l) (dec m))] λh=>by
 refine aA zH (Z6 l m) ⟨0,?_⟩;obtain⟨hl,hm⟩:=h;obtain⟨l,rfl,bl,nl⟩:=dU hl;obtain⟨m,rfl,bm,nm⟩:=dU hm;have ol:=anO (ms (l:=l) nl);have om:=anO (ms (l:=m) nm);have bc:Bd (eU l m) 49:=inferInstanceAs (Bd (l.1*m.2.1-m.1*l.2.1) _);have e0:l.1*m.2.1-m.1*l.2.1=eU l m:=rfl;have e1:l.2.2*m.2.1-m.2.2*l.2.1=pC l m:=rfl;have e2:l.1*m.2.2-m.1*l.2.2=pS l m:=rfl;have bx:Bd (pC l m) 151:=inferInstanceAs (Bd (l.2.2*m.2.1-m.2.2*l.2.1) _);have b_:Bd (pS l m) 151:=inferInstanceAs (Bd (l.1*m.2.2-m.1*l.2.2) _);unfold Z6 re Oc;simp only[aX,Nat.reduceAdd,Nat.reduceLeDiff,am,ol,om,e0,e1,e2];by_cases h0:eU l m=0
 ·simp only[anO h0,Bool.not_true];cases pZ l m<;>rfl
 ·simp only[aX,Nat.reduceAdd,Nat.reduceLeDiff,h0,ne_eq,apk,Bool.not_false,Mk];rfl
def Yc(c d:BO3)(_k:KT):OLR:=og (D' (bK c/\bK d)) (match jQ (dec c) (dec d)with|T'=>S' [RV.d tO (((F',[]),(F',[])),(((F',[]),(F',[])),((F',[]),(F',[])))),RV.d arf 6]|F'=>(og (D' (bH (2:Int))) (og (o2 d.1 c.1) (og (o2 (hid (av ((2:Int):Rat))) (hSu d.1 c.1)) (og (o2 d.2.1 c.2.1) (og (o2 (hid (av ((2:Int):Rat))) (hSu d.2.1 c.2.1)) (og (D' (bK d)) (og (D' (bK c)) (og (o2 (hid (av (rH (dec d)))) (hid (av (rH (dec c))))) (S' [RV.d tO (hMu (hid (av ((2:Int):Rat))) (hSu d.1 c.1),(hMu (hid (av ((2:Int):Rat))) (hSu d.2.1 c.2.1),hSu (hid (av (rH (dec d)))) (hid (av (rH (dec c)))))),RV.d arf 0]))))))))))
def agS:Cn 296 [tO,tO]:=cn λ(c d:BO3)=>lf (bK c/\bK d) [.d tO (wC (dec c) (dec d)),.d arf (Vm (dec c) (dec d))] λh=>by
 refine aA zH (Yc c d) ⟨0,?_⟩;obtain⟨hc,hd⟩:=h;obtain⟨c,rfl,bc,nc⟩:=b9 hc;obtain⟨d,rfl,bd,nd⟩:=b9 hd;have oc:=anO (jM (c:=c) nc);have od:=anO (jM (c:=d) nd);have i2:D' (bH 2)=true:=by decide
 have b2:Bd ((2:Int):Rat) 3:=dQ (by decide);have f1:Bd (rH c) 31:=(inferInstance:Bd (c.1*c.1+c.2.1*c.2.1-c.2.2) _).mono (by decide);have f2:Bd (rH d) 31:=(inferInstance:Bd (d.1*d.1+d.2.1*d.2.1-d.2.2) _).mono (by decide);unfold Yc wC Vm;simp only[aX,Nat.reduceAdd,Nat.reduceLeDiff,oc,od,i2];cases jQ c d
 ·rfl
 ·rfl
def ajD:Ctx:=CX (ens zH) []
def Z7(l c:BO3)(_k:KT):OLR:=let y1:=hid (av (fP (dec l) (dec c)));let y2:=hid (enc (ftL (dec l) (dec c)));let y3:=aD (ag l.2.1) 0;let y4:=hNe (hNe (hNe l.1));let y5:=enc (pK (ag (y2.1)) (ag (hNe l.2.1)) (ag (y2.2)) (ag (hNe (hNe l.1))) (ag y1));let y6:OLR:=match D' (okR l.2.1)with|T'=>(og (o1 (hNe l.1)) (og (o1 (hNe l.2.1)) (og (o1 (hNe (hNe l.1))) (og (D' (ok Rat 1000 (y2.1)/\ok Rat 1000 (hNe (hNe l.2.1))/\ok Rat 1000 (y2.2)/\ok Rat 1000 y4/\ok Rat 1000 y1/\0<=ag y1)) (og (D' (ok Rat 1000 (y2.1)/\ok Rat 1000 (hNe l.2.1)/\ok Rat 1000 (y2.2)/\ok Rat 1000 (hNe (hNe l.1))/\ok Rat 1000 y1/\0<=ag y1)) (S' [RV.new 40 tP ([hid (enc (pK (ag (y2.1)) (ag (hNe (hNe l.2.1))) (ag (y2.2)) (ag y4) (ag y1))),hid y5])]))))))|F'=>N';let y7:OLR:=match D' (okR l.2.1)with|T'=>(og (o1 (hNe l.1)) (og (D' (ok Rat 1000 (y2.1)/\ok Rat 1000 (hNe l.2.1)/\ok Rat 1000 (y2.2)/\ok Rat 1000 (hNe (hNe l.1))/\ok Rat 1000 y1/\0<=ag y1)) (og (D' (ok Rat 1000 (y2.1)/\ok Rat 1000 l.2.1/\ok Rat 1000 (y2.2)/\ok Rat 1000 (hNe l.1)/\ok Rat 1000 y1/\0<=ag y1)) (S' [RV.new 40 tP ([hid y5,hid (enc (pK (ag (y2.1)) (ag l.2.1) (ag (y2.2)) (ag (hNe l.1)) (ag y1)))])]))))|F'=>N';og (D' (cJ l/\bK c)) (og (o1 y1) (match(aD (ag y1) 0)==(-1)with|T'=>S' [RV.new 40 tP []]|F'=>(match(aD (ag y1) 0)==0 with|T'=>(og (D' (ok (Rat×Rat) 100000 y2)) (S' [RV.new 40 tP ([hid (enc (atP (dec y2)))])]))|F'=>(og (o1 l.1) (og (o1 l.2.1) (match D' (y3<0)with|T'=>y6|F'=>(match y3==0 with|T'=>(og (o1 (hNe l.1)) (match D' ((aD (ag (hNe l.1)) 0)<0)with|T'=>y6|F'=>y7))|F'=>y7)))))))
theorem ajL(l c:BO3):RS ajD 231 [.d tO l,.d tO c] (Z7 l c):=rsX
def alf:Cn 231 [tO,tO]:=cn λ(l c:BO3)=>lf (cJ l/\bK c) [.d (.sl tP) ((mY (dec l) (dec c)).map enc)] λh=>by
 refine Con.new_d (et:=40) (bj zH (ajL _ _ ⟨0,?_⟩));obtain⟨hl,hc⟩:=h;obtain⟨l,rfl,bl,nl⟩:=dU hl;obtain⟨c,rfl,bc,nc⟩:=b9 hc;have ol:=anO (ms (l:=l) nl);have oc:=anO (jM (c:=c) nc);have bf:=Is (l:=l) (c:=c);have bk:=NN (l:=l) (c:=c);have b1:Bd (ftL l c).1 163:=inferInstance;have b2:Bd (ftL l c).2 163:=inferInstance;unfold Z7 mY;simp only[aX,Nat.reduceLeDiff,am,ao,lD,ol,oc];by_cases h0:fP l c<0
 ·simp only[anO h0];rfl
 ·simp only[anQ h0];by_cases h1:fP l c=0
  ·simp only[anO h1];rfl
  ·have hp:D' (0<=fP l c)=true:=anO (by grind);simp only[anQ h1,hp,aX];unfold lcM lcN vn vj Mc;cases D' (l.2.1<0)<;>cases D' (l.2.1=0)<;>cases D' (-l.1<0)<;>rfl
def No:List En:=enL aiK::enL agS::enL alf::zH
def abg(c d:BO3)(_k:KT):OLR:=og (D' (bK c/\bK d)) (match qY (dec c) (dec d)with|T'=>S' [RV.d (.sl tP) ([]),RV.d arf 10]|F'=>(og (D' (bK c/\bK d)) (match jQ (dec c) (dec d)with|T'=>S' [RV.d (.sl tP) ([]),RV.d arf 0]|F'=>(og (D' (bK c/\bK d)) (og (D' (cJ (hid (wC (dec c) (dec d)))/\bK c)) (S' [RV.d (.sl tP) ((mY (dec (hid (wC (dec c) (dec d)))) (dec c)).map enc),RV.d arf 0]))))))
def agI:Cn 230 [tO,tO]:=cn λ(c d:BO3)=>lf (bK c/\bK d) [.d (.sl tP) ((Gt (dec c) (dec d)).map enc),.d arf (Vy (dec c) (dec d))] λh=>by
 refine aA No (abg c d) ⟨0,?_⟩;obtain⟨hc,hd⟩:=h;obtain⟨c,rfl,bc,nc⟩:=b9 hc;obtain⟨d,rfl,bd,nd⟩:=b9 hd;have oc:=anO (jM (c:=c) nc);have od:=anO (jM (c:=d) nd);unfold abg Gt Vy;simp only[aX,oc,od];cases hs:qY c d
 ·cases hc:jQ c d
  ·have ol:cJ (enc (pL c d)):=OQ hc;have er:wC c d=enc (pL c d):=by unfold wC;rw[hc];rfl
   simp only[er,dT ol,aX];try rfl
  ·rfl
 ·have hc:jQ c d=true:=by
   unfold qY at hs;unfold jQ;cases h1:D' (c.1=d.1)
   ·rw[h1]at hs;cases hs
   ·cases h2:D' (c.2.1=d.2.1)
    ·rw[h1,h2]at hs;cases hs
    ·rfl
  rw[hc];rfl
def OK:List En:=enL agI::No
def aaL(a b:BCU)(_k:KT):OLR:=match a.1 with|T'=>(match b.1 with|T'=>(og (D' (bK a.2.2.1/\bK b.2.2.1)) (S' [RV.d (.sl tP) ((Gt (dec a.2.2.1) (dec b.2.2.1)).map enc),RV.d arf (Vy (dec a.2.2.1) (dec b.2.2.1))]))|F'=>(match a.1 with|T'=>(og (D' (cJ b.2.1/\bK a.2.2.1)) (S' [RV.d (.sl tP) ((mY (dec b.2.1) (dec a.2.2.1)).map enc),RV.d arf 0]))|F'=>(match b.1 with|T'=>(og (D' (cJ a.2.1/\bK b.2.2.1)) (S' [RV.d (.sl tP) ((mY (dec a.2.1) (dec b.2.2.1)).map enc),RV.d arf 0]))|F'=>(og (D' (cJ a.2.1/\cJ b.2.1)) (S' [RV.d (.sl tP) ((re (dec a.2.1) (dec b.2.1)).map enc),RV.d arf (Oc (dec a.2.1) (dec b.2.1))])))))|F'=>(match a.1 with|T'=>(og (D' (cJ b.2.1/\bK a.2.2.1)) (S' [RV.d (.sl tP) ((mY (dec b.2.1) (dec a.2.2.1)).map enc),RV.d arf 0]))|F'=>(match b.1 with|T'=>(og (D' (cJ a.2.1/\bK b.2.2.1)) (S' [RV.d (.sl tP) ((mY (dec a.2.1) (dec b.2.2.1)).map enc),RV.d arf 0]))|F'=>(og (D' (cJ a.2.1/\cJ b.2.1)) (S' [RV.d (.sl tP) ((re (dec a.2.1) (dec b.2.1)).map enc),RV.d arf (Oc (dec a.2.1) (dec b.2.1))]))))
def YC:Cn 153 [tCU,tCU]:=cn λ(a b:BCU)=>lf (fx a b) [.d (.sl tP) ((kn (dC a) (dC b)).map enc),.d arf (ajA (dC a) (dC b))] λh=>by
 refine aA OK (aaL a b) ⟨0,?_⟩;obtain⟨⟨a1,a2⟩,b1,b2⟩:=h;unfold aaL kn ajA;obtain⟨aa,al,ac,aw,af,at_⟩:=a;obtain⟨ba,bl,bc,bw,bf,bt⟩:=b;cases aa<;>cases ba
 ·have h1:=a2 rfl;have h2:=b2 rfl;simp only[dT (show cJ al/\cJ bl from⟨h1,h2⟩)];rfl
 ·have h1:=a2 rfl;have h2:=b1 rfl;simp only[dT (show cJ al/\bK bc from⟨h1,h2⟩)];rfl
 ·have h1:=a1 rfl;have h2:=b2 rfl;simp only[dT (show cJ bl/\bK ac from⟨h2,h1⟩)];rfl
 ·have h1:=a1 rfl;have h2:=b1 rfl;simp only[dT (show bK ac/\bK bc from⟨h1,h2⟩)];rfl
def abb(a b:BCU)(_k:KT):OLR:=match !(a.1==b.1)with|T'=>S' [RV.d .bool F']|F'=>(match a.1 with|T'=>(og (D' (bK a.2.2.1/\bK b.2.2.1)) (S' [RV.d .bool (qY (dec a.2.2.1) (dec b.2.2.1))]))|F'=>(og (D' (cJ a.2.1/\cJ b.2.1)) (S' [RV.d .bool (pZ (dec a.2.1) (dec b.2.1))])))
def X7:Cn 130 [tCU,tCU]:=cn λ(a b:BCU)=>lf (fx a b) [.d .bool (cO (dC a) (dC b))] λh=>by
 refine aA OK (abb a b) ⟨0,?_⟩;obtain⟨⟨a1,a2⟩,b1,b2⟩:=h;unfold abb cO;obtain⟨aa,al,ac,aw,af,at_⟩:=a;obtain⟨ba,bl,bc,bw,bf,bt⟩:=b;cases aa<;>cases ba
 ·have h1:=a2 rfl;have h2:=b2 rfl;simp only[dT (show cJ al/\cJ bl from⟨h1,h2⟩)];rfl
 ·rfl
 ·rfl
 ·have h1:=a1 rfl;have h2:=b1 rfl;simp only[dT (show bK ac/\bK bc from⟨h1,h2⟩)];rfl
section
theorem yF{c d:BCU}(h:lw c d):(Dg c d).length<=4/\∀x∈Dg c d,okP 4000 x:=by
 obtain⟨⟨h1,h2⟩,h3,h4⟩:=h;have up:∀{k x},okP k x->k<=4000->okP 4000 x:=λh hk=>aV h hk (by decide);unfold Dg;cases hs:cO (dC c) (dC d)
 ·refine⟨?_,λx hx=>?_⟩
  ·simp only[cond_false,apn];have:∀l c,[BdL l]->[BdC c]->(mY l c).length<=4:=λl c _ _=>an0 xg.1 (by decide);obtain⟨c1,c2⟩:=CW h2;obtain⟨d1,d2⟩:=CW h4;have ec:(dC c).1=c.1:=rfl;have ed:(dC d).1=d.1:=rfl;unfold kn;rw[ec,ed];cases ha:c.1<;>cases hb:d.1
   ·have i1:=(c2 ha).1;have i2:=(d2 hb).1;exact an0 Cf.1 (by decide)
   ·have i1:=(c2 ha).1;have i2:=(d1 hb).1;exact this _ _
   ·have i1:=(c1 ha).1;have i2:=(d2 hb).1;exact this _ _
   ·have i1:=(c1 ha).1;have i2:=(d1 hb).1;show(Gt _ _).length<=4;unfold Gt;cases hq:jQ (ciC (dC c)) (ciC (dC d))
    ·have i3:BdL (pL (ciC (dC c)) (ciC (dC d))):=Eb;exact this _ _
    ·exact aqc _
  ·obtain⟨p,hp,rfl⟩:=aqt.1 hx;obtain⟨b,r,_,_⟩:=RE.supM_on h2 h4 hp;exact anP (aN (j:=1200) (by decide) (by decide))
 ·refine⟨by simp,λx hx=>?_⟩;have:x=c.2.2.2.2.1\/x=c.2.2.2.2.2\/x=d.2.2.2.2.1\/x=d.2.2.2.2.2:=by simpa using hx
  rcases this with e|e|e|e<;>rw[e]
  ·exact up h1.2.2.1 (by decide)
  ·exact up h1.2.2.2 (by decide)
  ·exact up h3.2.2.1 (by decide)
  ·exact up h3.2.2.2 (by decide)
theorem J7{α:Type}(z:α)(L T:List α):((jr z ((L.length:Int).toNat) ((((L++T).length:Int)).toNat-(L.length:Int).toNat) (L++T)).drop ((0:Int).toNat)).take ((L.length:Int).toNat-(0:Int).toNat)=L/\
  L.length<=(jr z ((L.length:Int).toNat) ((((L++T).length:Int)).toNat-(L.length:Int).toNat) (L++T)).length:=by
 have hcl:(jr z ((L.length:Int).toNat) ((((L++T).length:Int)).toNat-(L.length:Int).toNat) (L++T)).take L.length=L:=by
  unfold jr;rw[show((L.length:Int)).toNat=L.length by omega,aof,List.take_append_of_le_length (by simp),aqH,Nat.min_self,List.take_left' rfl]
 refine⟨?_,?_⟩
 ·rw[show((0:Int)).toNat=0 from rfl,apy,show((L.length:Int)).toNat-0=L.length by omega,hcl]
 ·have:=congrArg List.length hcl;rw[aoo]at this;omega
def aeA:Cn 130 [tCU,tCU]:=cn λ(a b:BCU)=>lf (fx a b/\cO (dC a) (dC b)=T') [.d .bool T'] λh=>by
 have e:CQq7 130 [.d tCU a,.d tCU b] [.d .bool (cO (dC a) (dC b))]:=(X7.g a b).h h.1;rw[h.2]at e;exact e
def Ni:List En:=[enT aeA,enT OP,enL YC,enK Qf,enF abK,enK IS]
def Wa:NT:=[((233,6),{keep:=[0,1,7,8],hl:=4}),((154,16),{keep:=[0,1,5,6],hl:=4}),((80,11),{keep:=[2,3,26,28],hl:=0}),((154,3),{keep:=[0,1,10],hl:=0}),((233,18),{keep:=[0,1,5,7,8,16],hl:=0}),((154,28),{keep:=[0,1,5,6,7,28],hl:=0})]
def lA:Ctx:=CX (ens Ni) Wa
def jA(c d:BCU)(s233_8:Int):Cfg:=⟨233,[.blk 0,.seq 25],[(0,.own 3),(1,.clo 156 [0,1]),(7,SI (([c.2.2.2.2.1,c.2.2.2.2.2,d.2.2.2.2.1,d.2.2.2.2.2]).length:Int)),(8,SI s233_8)],[.box 48 (Ty.split tCU c),.box 48 (Ty.split tCU d),.gone,.row 40 tP ([c.2.2.2.2.1,c.2.2.2.2.2,d.2.2.2.2.1,d.2.2.2.2.2])],4,[⟨154,[.seq 4],3,2,[(0,.own 3),(1,.clo 156 [0,1])],4,N'⟩,⟨80,[.seq 12],11,3,[(2,.box 0 0),(3,.box 1 0),(26,.own 3)],0,N'⟩]⟩
def dq(c d:BCU)(s154_5 s154_6:Int)(r154_3:List BP):Cfg:=⟨154,[.blk 0,.seq 35],[(0,.own 3),(1,.clo 156 [0,1]),(5,SI s154_5),(6,SI s154_6)],[.box 48 (Ty.split tCU c),.box 48 (Ty.split tCU d),.gone,.row 40 tP r154_3],4,[⟨80,[.seq 12],11,3,[(2,.box 0 0),(3,.box 1 0),(26,.own 3)],0,N'⟩]⟩
def QM(c d:BCU)(k:KT):OLR:=match D' (fx c d/\cO (dC c) (dC d)=T')with|T'=>(match D' (([c.2.2.2.2.1,c.2.2.2.2.2,d.2.2.2.2.1,d.2.2.2.2.2]).length<=100000)with|T'=>k 6 (jA c d 0)|F'=>N')|F'=>N'
theorem adD(c d:BCU):RS lA 80 [.d tCU c,.d tCU d] (QM c d):=rsX
def ji(c d:BCU)(s233_8:Int)(k:KT):OLR:=match D' (s233_8<(([c.2.2.2.2.1,c.2.2.2.2.2,d.2.2.2.2.1,d.2.2.2.2.2]).length:Int))with|T'=>(match aH ([c.2.2.2.2.1,c.2.2.2.2.2,d.2.2.2.2.1,d.2.2.2.2.2]) s233_8 with|S' _=>(match T',([c.2.2.2.2.1,c.2.2.2.2.2,d.2.2.2.2.1,d.2.2.2.2.2])[(s233_8).toNat]? with|T',S' x1=>(match D' (okC 4000 c/\okP 4000 x1)with|T'=>(match !(kQ (dC c) (dec x1))with|T'=>(match s233_8==(-1)with|T'=>(match D' (kK c ([c.2.2.2.2.1,c.2.2.2.2.2,d.2.2.2.2.1,d.2.2.2.2.2]))with|T'=>(match D' (fx c d/\cO (dC c) (dC d)=T')with|T'=>(match D' (z8 c d (dv (dC c) ([c.2.2.2.2.1,c.2.2.2.2.2,d.2.2.2.2.1,d.2.2.2.2.2])))with|T'=>S' [RV.d (.sl tP) (dv (dC c) ([c.2.2.2.2.1,c.2.2.2.2.2,d.2.2.2.2.1,d.2.2.2.2.2])),RV.d .bool (xU c d (dv (dC c) ([c.2.2.2.2.1,c.2.2.2.2.2,d.2.2.2.2.1,d.2.2.2.2.2])))]|F'=>N')|F'=>N')|F'=>N')|F'=>k 16 (dq c d s233_8 (i64.wrap (s233_8+1)) ([c.2.2.2.2.1,c.2.2.2.2.2,d.2.2.2.2.1,d.2.2.2.2.2])))|F'=>(match D' (okC 4000 d/\okP 4000 x1)with|T'=>(match !(kQ (dC d) (dec x1))with|T'=>(match s233_8==(-1)with|T'=>(match D' (kK c ([c.2.2.2.2.1,c.2.2.2.2.2,d.2.2.2.2.1,d.2.2.2.2.2]))with|T'=>(match D' (fx c d/\cO (dC c) (dC d)=T')with|T'=>(match D' (z8 c d (dv (dC c) ([c.2.2.2.2.1,c.2.2.2.2.2,d.2.2.2.2.1,d.2.2.2.2.2])))with|T'=>S' [RV.d (.sl tP) (dv (dC c) ([c.2.2.2.2.1,c.2.2.2.2.2,d.2.2.2.2.1,d.2.2.2.2.2])),RV.d .bool (xU c d (dv (dC c) ([c.2.2.2.2.1,c.2.2.2.2.2,d.2.2.2.2.1,d.2.2.2.2.2])))]|F'=>N')|F'=>N')|F'=>N')|F'=>k 16 (dq c d s233_8 (i64.wrap (s233_8+1)) ([c.2.2.2.2.1,c.2.2.2.2.2,d.2.2.2.2.1,d.2.2.2.2.2])))|F'=>k 6 (jA c d (i64.wrap (s233_8+1))))|F'=>N'))|F'=>N')|_,_=>N')|N'=>N')|F'=>(match(-1)==(-1)with|T'=>(match D' (kK c ([c.2.2.2.2.1,c.2.2.2.2.2,d.2.2.2.2.1,d.2.2.2.2.2]))with|T'=>(match D' (fx c d/\cO (dC c) (dC d)=T')with|T'=>(match D' (z8 c d (dv (dC c) ([c.2.2.2.2.1,c.2.2.2.2.2,d.2.2.2.2.1,d.2.2.2.2.2])))with|T'=>S' [RV.d (.sl tP) (dv (dC c) ([c.2.2.2.2.1,c.2.2.2.2.2,d.2.2.2.2.1,d.2.2.2.2.2])),RV.d .bool (xU c d (dv (dC c) ([c.2.2.2.2.1,c.2.2.2.2.2,d.2.2.2.2.1,d.2.2.2.2.2])))]|F'=>N')|F'=>N')|F'=>N')|F'=>k 16 (dq c d (-1) (i64.wrap ((-1)+1)) ([c.2.2.2.2.1,c.2.2.2.2.2,d.2.2.2.2.1,d.2.2.2.2.2])))
theorem mC(c d:BCU)(s233_8:Int):RN lA 6 (jA c d s233_8) (ji c d s233_8):=rnX
def ic(c d:BCU)(s154_5 s154_6:Int)(r154_3:List BP)(k:KT):OLR:=match D' (s154_6<(r154_3.length:Int))with|T'=>(match aH r154_3 s154_6 with|S' _=>(match T',r154_3[(s154_6).toNat]? with|T',S' x1=>(match D' (okC 4000 c/\okP 4000 x1)with|T'=>(match !(kQ (dC c) (dec x1))with|T'=>k 16 (dq c d s154_5 (i64.wrap (s154_6+1)) r154_3)|F'=>(match D' (okC 4000 d/\okP 4000 x1)with|T'=>(match !(!(kQ (dC d) (dec x1)))with|T'=>(match aH r154_3 s154_5 with|S' _=>(match T',r154_3[(s154_5).toNat]? with|T',S' _=>k 16 (dq c d (i64.wrap (s154_5+1)) (i64.wrap (s154_6+1)) (r154_3.set ((s154_5).toNat) x1))|_,_=>N')|N'=>N')|F'=>k 16 (dq c d s154_5 (i64.wrap (s154_6+1)) r154_3))|F'=>N'))|F'=>N')|_,_=>N')|N'=>N')|F'=>(match D' ((0:Int)<=s154_5/\s154_5<=(r154_3.length:Int)/\(r154_3.length:Int)<=(r154_3.length:Int))with|T'=>(match D' ((0:Int)<=0/\0<=s154_5/\s154_5<=((jr (Ty.zero tP) ((s154_5:Int).toNat) (((r154_3.length:Int):Int).toNat-(s154_5:Int).toNat) r154_3).length:Int))with|T'=>(match D' (kK c (((jr (Ty.zero tP) ((s154_5:Int).toNat) (((r154_3.length:Int):Int).toNat-(s154_5:Int).toNat) r154_3).drop ((0:Int).toNat)).take ((s154_5:Int).toNat-(0:Int).toNat)))with|T'=>(match D' (fx c d/\cO (dC c) (dC d)=T')with|T'=>(match D' (z8 c d (dv (dC c) (((jr (Ty.zero tP) ((s154_5:Int).toNat) (((r154_3.length:Int):Int).toNat-(s154_5:Int).toNat) r154_3).drop ((0:Int).toNat)).take ((s154_5:Int).toNat-(0:Int).toNat))))with|T'=>S' [RV.d (.sl tP) (dv (dC c) (((jr (Ty.zero tP) ((s154_5:Int).toNat) (((r154_3.length:Int):Int).toNat-(s154_5:Int).toNat) r154_3).drop ((0:Int).toNat)).take ((s154_5:Int).toNat-(0:Int).toNat))),RV.d .bool (xU c d (dv (dC c) (((jr (Ty.zero tP) ((s154_5:Int).toNat) (((r154_3.length:Int):Int).toNat-(s154_5:Int).toNat) r154_3).drop ((0:Int).toNat)).take ((s154_5:Int).toNat-(0:Int).toNat))))]|F'=>N')|F'=>N')|F'=>N')|F'=>N')|F'=>N')
theorem lc(c d:BCU)(s154_5 s154_6:Int)(r154_3:List BP):RN lA 16 (dq c d s154_5 s154_6 r154_3) (ic c d s154_5 s154_6 r154_3):=rnX
section
variable (c d:BCU) (h:lw c d) (hs:cO (dC c) (dC d)=T')
include h hs
theorem E2(L:List BP)(hl:L.length<=4)(ho:∀x∈L,okP 4000 x):(match D' (kK c L)with
  |true=>(match decide (fx c d/\cO (dC c) (dC d)=true)with
   |true=>(match decide (z8 c d (dv (dC c) L))with|true=>some [RV.d (.sl tP) (dv (dC c) L),RV.d .bool (xU c d (dv (dC c) L))]|false=>none)
   |false=>none)
  |false=>none)=some [RV.d (.sl tP) (dv (dC c) L),RV.d .bool (xU c d (dv (dC c) L))]:=by
 have hc:okC 4000 c:=bi h.1.1 (by decide) (by decide);have hd:okC 4000 d:=bi h.2.1 (by decide) (by decide);have q:kK c L:=⟨hc,by omega,ho⟩
 have hn:(dv (dC c) L).length<=L.length:=nq;have _q2:z8 c d (dv (dC c) L):=⟨⟨hc,by omega,λx hx=>ho x (nj hx)⟩,hd⟩
 rw[dT q,dT (show fx c d/\cO (dC c) (dC d)=T' from⟨⟨h.1.2,h.2.2⟩,hs⟩)];dsimp only;rw[dT _q2]
theorem z9:∀(S:List BP) (L J:List BP),J≠[]->(∀x∈L++(J++S),okP 4000 x)->(L++(J++S)).length<=4->
  lA.Runs 16 (dq c d (L.length:Int) ((L.length+J.length:Nat):Int) (L++(J++S))) [RV.d (.sl tP) (dv (dC c) (L++S.filter (iJ c d))),RV.d .bool (xU c d (dv (dC c) (L++S.filter (iJ c d))))]
 |[],L,J,hJ,hok,h4=>by
  have h4':L.length+J.length<=4:=by simpa using h4
  obtain⟨c1,c2⟩:=J7 (Ty.zero tP) L J;refine lc _ _ _ _ _ ⟨0,?_⟩;unfold ic;rw[aoi,a8 (by simp)];dsimp only;rw[dT (show(0:Int)<=(L.length:Int)/\(L.length:Int)<=((L++J).length:Int)/\((L++J).length:Int)<=((L++J).length:Int) by simp only[aoq];omega)];rw[dT (show(0:Int)<=0/\0<=(L.length:Int)/\(L.length:Int)<=((jr (Ty.zero tP) ((L.length:Int).toNat) ((((L++J).length:Int)).toNat-(L.length:Int).toNat) (L++J)).length:Int) by omega)];rw[c1,aqC,aoi];exact E2 c d h hs L (by omega) λx hx=>hok x (apr _ hx)
 |q::S,L,J,hJ,hok,h4=>by
  have h4':L.length+(J.length+(S.length+1))<=4:=by simpa using h4
  have hc:okC 4000 c:=bi h.1.1 (by decide) (by decide);have hd:okC 4000 d:=bi h.2.1 (by decide) (by decide);have hq:okP 4000 q:=hok q (by simp)
  have g1:(L++(J++q::S))[L.length+J.length]?=S' q:=by
   have:=nP (L++J) q S;rw[aoq,aof]at this;exact this
  obtain⟨y,T,rfl⟩:=List.exists_cons_of_ne_nil hJ;have g2:(L++(y::T++q::S))[L.length]?=S' y:=nP L y (T++q::S)
  have hset:(L++(y::T++q::S)).set L.length q=(L++[q])++((T++[q])++S):=by
   have:=CC y q (T++q::S) L;rw[show y::T++q::S=y::(T++q::S) from rfl,this];simp
  have e2:L++(y::T++q::S)=L++((y::T++[q])++S):=by simp
  have key:∀r n,(match iJ c d q with
    |true=>lA.k n 16 (dq c d ((L.length+1:Nat):Int) ((L.length+(y::T).length+1:Nat):Int) ((L++[q])++((T++[q])++S)))
    |false=>lA.k n 16 (dq c d (L.length:Int) ((L.length+(y::T).length+1:Nat):Int) (L++(y::T++q::S))))=some r->
    ic c d (L.length:Int) ((L.length+(y::T).length:Nat):Int) (L++(y::T++q::S)) (lA.k n)=S' r:=λr n hk=>by
   unfold ic;rw[aO (by simp only[aoq,an8];omega),ak,g1,show((L.length+(y::T).length:Nat):Int).toNat=L.length+(y::T).length by omega,g1];dsimp only;rw[dT (show okC 4000 c/\okP 4000 q from⟨hc,hq⟩),dT (show okC 4000 d/\okP 4000 q from⟨hd,hq⟩),aT (k:=L.length+(y::T).length) (by simp only[an8]at*;omega),aT (k:=L.length) (by omega),ak,g2,show((L.length:Nat):Int).toNat=L.length by omega,g2,hset];unfold iJ at hk;cases r1:kQ (dC c) (dec q)<;>cases r2:kQ (dC d) (dec q)<;>rw[r1,r2]at hk<;>exact hk
  rw[apJ];cases hk:iJ c d q
  ·obtain⟨n,hn⟩:=z9 S L (y::T++[q]) (by simp) (e2▸hok) (e2▸h4);refine lc _ _ _ _ _ ⟨n,key _ n ?_⟩;rw[hk,e2];rw[aoq,aoc,<-apM]at hn;exact hn
  ·obtain⟨n,hn⟩:=z9 S (L++[q]) (T++[q]) (by simp) (λx hx=>by
    simp only[aod,an6,apt,aqK]at hx;rcases hx with(hx|hx)|(hx|hx)|hx
    ·exact hok x (by simp[hx])
    ·rw[hx];exact hq
    ·exact hok x (by simp[hx])
    ·rw[hx];exact hq
    ·exact hok x (by simp[hx])) (by simp at h4 ⊢;omega)
   refine lc _ _ _ _ _ ⟨n,key _ n ?_⟩;rw[hk];have n1:(L++[q]).length=L.length+1:=by simp
   have n2:L.length+1+(T++[q]).length=L.length+(y::T).length+1:=by simp;omega
   rw[n1,n2,aof L [q] (S.filter (iJ c d))]at hn;exact hn
theorem K9(X:List BP)(hX:[c.2.2.2.2.1,c.2.2.2.2.2,d.2.2.2.2.1,d.2.2.2.2.2]=X)(h4:X.length<=4)(hok:∀x∈X,okP 4000 x):∀(S A:List BP),A++S=X->A.filter (iJ c d)=A->
  lA.Runs 6 (jA c d (A.length:Int)) [RV.d (.sl tP) (dv (dC c) (A++S.filter (iJ c d))),RV.d .bool (xU c d (dv (dC c) (A++S.filter (iJ c d))))]
 |[],A,hA,hf=>by
  rw[aoi]at hA;refine mC _ _ _ ⟨0,?_⟩;unfold ji;rw[hX,<-hA,a8 (by omega),aqC,aoi];exact E2 c d h hs A (hA▸h4) (hA▸hok)
 |q::S,A,hA,hf=>by
  have hc:okC 4000 c:=bi h.1.1 (by decide) (by decide);have hd:okC 4000 d:=bi h.2.1 (by decide) (by decide);have hq:okP 4000 q:=hok q (by rw[<-hA];simp);have g1:X[A.length]?=S' q:=by rw[<-hA];exact nP A q S
  have hlen:A.length<X.length:=by rw[<-hA];simp
  have key:∀r n,(match iJ c d q with
    |true=>lA.k n 6 (jA c d ((A.length+1:Nat):Int))
    |false=>lA.k n 16 (dq c d (A.length:Int) ((A.length+1:Nat):Int) X))=some r->
    ji c d (A.length:Int) (lA.k n)=S' r:=λr n hk=>by
   unfold ji;rw[hX,aO hlen,ak,g1,show((A.length:Nat):Int).toNat=A.length by omega,g1];dsimp only;rw[dT (show okC 4000 c/\okP 4000 q from⟨hc,hq⟩),dT (show okC 4000 d/\okP 4000 q from⟨hd,hq⟩),aT (k:=A.length) (by omega),show((A.length:Int)== -1)=F' by rw[aom];omega];unfold iJ at hk;cases r1:kQ (dC c) (dec q)<;>cases r2:kQ (dC d) (dec q)<;>rw[r1,r2]at hk<;>exact hk
  rw[apJ];cases hk:iJ c d q
  ·obtain⟨n,hn⟩:=z9 c d h hs S A [q] (by simp) (by rw[ape,hA];exact hok) (by rw[ape,hA];exact h4);refine mC _ _ _ ⟨n,key _ n ?_⟩;rw[hk];rw[ape,hA]at hn;exact hn
  ·obtain⟨n,hn⟩:=K9 X hX h4 hok S (A++[q]) (by rw[aof];exact hA) (by rw[List.filter_append,hf,apJ,hk];rfl);refine mC _ _ _ ⟨n,key _ n ?_⟩;rw[hk];have n1:(A++[q]).length=A.length+1:=by simp
   rw[n1,aof A [q] (S.filter (iJ c d))]at hn;exact hn
end
theorem NF(c d:BCU)(h:lw c d)(hs:cO (dC c) (dC d)=T'):CQq7 80 [.d tCU c,.d tCU d] [.d (.sl tP) (ml c d),.d .bool (It c d)]:=by
 obtain⟨h4,ho⟩:=yF h;have e:Dg c d=[c.2.2.2.2.1,c.2.2.2.2.2,d.2.2.2.2.1,d.2.2.2.2.2]:=by unfold Dg;rw[hs];rfl
 rw[e]at h4 ho;obtain⟨n,hn⟩:=K9 c d h hs _ rfl h4 ho _ [] rfl rfl;have e2:ml c d=dv (dC c) (List.filter (iJ c d) [c.2.2.2.2.1,c.2.2.2.2.2,d.2.2.2.2.1,d.2.2.2.2.2]):=by unfold ml;rw[e]
 have e3:It c d=xU c d (dv (dC c) (List.filter (iJ c d) [c.2.2.2.2.1,c.2.2.2.2.2,d.2.2.2.2.1,d.2.2.2.2.2])):=by unfold It;rw[hs,e2];rfl
 rw[e2,e3];refine bj Ni (adD _ _ ⟨n,?_⟩);unfold QM;rw[dT (show fx c d/\cO (dC c) (dC d)=T' from⟨⟨h.1.2,h.2.2⟩,hs⟩)];dsimp only;rw[dT (an0 h4 (by decide))];exact hn
def af6:Cn 130 [tCU,tCU]:=cn λ(a b:BCU)=>lf (fx a b/\cO (dC a) (dC b)=F') [.d .bool F'] λh=>by
 have e:CQq7 130 [.d tCU a,.d tCU b] [.d .bool (cO (dC a) (dC b))]:=(X7.g a b).h h.1;rw[h.2]at e;exact e
def Oo:List En:=[enT af6,enT OP,enL YC,enK Qf,enF abK,enK IS]
def WS:NT:=[((233,6),{keep:=[0,1,7,8],hl:=3}),((154,16),{keep:=[0,1,5,6],hl:=3}),((80,11),{keep:=[2,3,26,28],hl:=0}),((154,3),{keep:=[0,1,10],hl:=0}),((233,18),{keep:=[0,1,5,7,8,16],hl:=0}),((154,28),{keep:=[0,1,5,6,7,28],hl:=0})]
def kM:Ctx:=CX (ens Oo) WS
def jp(c d:BCU)(s233_8:Int):Cfg:=⟨233,[.blk 0,.seq 25],[(0,.own 2),(1,.clo 156 [0,1]),(7,SI (((kn (dC c) (dC d)).map enc).length:Int)),(8,SI s233_8)],[.box 48 (Ty.split tCU c),.box 48 (Ty.split tCU d),.row 40 tP ((kn (dC c) (dC d)).map enc)],3,[⟨154,[.seq 4],3,2,[(0,.own 2),(1,.clo 156 [0,1])],3,N'⟩,⟨80,[.seq 12],11,3,[(2,.box 0 0),(3,.box 1 0),(26,.own 2)],0,N'⟩]⟩
def dm(c d:BCU)(s154_5 s154_6:Int)(r154_2:List BP):Cfg:=⟨154,[.blk 0,.seq 35],[(0,.own 2),(1,.clo 156 [0,1]),(5,SI s154_5),(6,SI s154_6)],[.box 48 (Ty.split tCU c),.box 48 (Ty.split tCU d),.row 40 tP r154_2],3,[⟨80,[.seq 12],11,3,[(2,.box 0 0),(3,.box 1 0),(26,.own 2)],0,N'⟩]⟩
def Nu(c d:BCU)(k:KT):OLR:=match D' (fx c d/\cO (dC c) (dC d)=F')with|T'=>(match D' (fx c d)with|T'=>(match D' (((kn (dC c) (dC d)).map enc).length<=100000)with|T'=>k 6 (jp c d 0)|F'=>N')|F'=>N')|F'=>N'
theorem aeM(c d:BCU):RS kM 80 [.d tCU c,.d tCU d] (Nu c d):=rsX
def jg(c d:BCU)(s233_8:Int)(k:KT):OLR:=match D' (s233_8<(((kn (dC c) (dC d)).map enc).length:Int))with|T'=>(match aH ((kn (dC c) (dC d)).map enc) s233_8 with|S' _=>(match T',((kn (dC c) (dC d)).map enc)[(s233_8).toNat]? with|T',S' x1=>(match D' (okC 4000 c/\okP 4000 x1)with|T'=>(match !(kQ (dC c) (dec x1))with|T'=>(match s233_8==(-1)with|T'=>(match D' (kK c ((kn (dC c) (dC d)).map enc))with|T'=>(match D' (fx c d/\cO (dC c) (dC d)=F')with|T'=>S' [RV.d (.sl tP) (dv (dC c) ((kn (dC c) (dC d)).map enc)),RV.d .bool F']|F'=>N')|F'=>N')|F'=>k 16 (dm c d s233_8 (i64.wrap (s233_8+1)) ((kn (dC c) (dC d)).map enc)))|F'=>(match D' (okC 4000 d/\okP 4000 x1)with|T'=>(match !(kQ (dC d) (dec x1))with|T'=>(match s233_8==(-1)with|T'=>(match D' (kK c ((kn (dC c) (dC d)).map enc))with|T'=>(match D' (fx c d/\cO (dC c) (dC d)=F')with|T'=>S' [RV.d (.sl tP) (dv (dC c) ((kn (dC c) (dC d)).map enc)),RV.d .bool F']|F'=>N')|F'=>N')|F'=>k 16 (dm c d s233_8 (i64.wrap (s233_8+1)) ((kn (dC c) (dC d)).map enc)))|F'=>k 6 (jp c d (i64.wrap (s233_8+1))))|F'=>N'))|F'=>N')|_,_=>N')|N'=>N')|F'=>(match(-1)==(-1)with|T'=>(match D' (kK c ((kn (dC c) (dC d)).map enc))with|T'=>(match D' (fx c d/\cO (dC c) (dC d)=F')with|T'=>S' [RV.d (.sl tP) (dv (dC c) ((kn (dC c) (dC d)).map enc)),RV.d .bool F']|F'=>N')|F'=>N')|F'=>k 16 (dm c d (-1) (i64.wrap ((-1)+1)) ((kn (dC c) (dC d)).map enc)))
theorem mH(c d:BCU)(s233_8:Int):RN kM 6 (jp c d s233_8) (jg c d s233_8):=rnX
def iq(c d:BCU)(s154_5 s154_6:Int)(r154_2:List BP)(k:KT):OLR:=match D' (s154_6<(r154_2.length:Int))with|T'=>(match aH r154_2 s154_6 with|S' _=>(match T',r154_2[(s154_6).toNat]? with|T',S' x1=>(match D' (okC 4000 c/\okP 4000 x1)with|T'=>(match !(kQ (dC c) (dec x1))with|T'=>k 16 (dm c d s154_5 (i64.wrap (s154_6+1)) r154_2)|F'=>(match D' (okC 4000 d/\okP 4000 x1)with|T'=>(match !(!(kQ (dC d) (dec x1)))with|T'=>(match aH r154_2 s154_5 with|S' _=>(match T',r154_2[(s154_5).toNat]? with|T',S' _=>k 16 (dm c d (i64.wrap (s154_5+1)) (i64.wrap (s154_6+1)) (r154_2.set ((s154_5).toNat) x1))|_,_=>N')|N'=>N')|F'=>k 16 (dm c d s154_5 (i64.wrap (s154_6+1)) r154_2))|F'=>N'))|F'=>N')|_,_=>N')|N'=>N')|F'=>(match D' ((0:Int)<=s154_5/\s154_5<=(r154_2.length:Int)/\(r154_2.length:Int)<=(r154_2.length:Int))with|T'=>(match D' ((0:Int)<=0/\0<=s154_5/\s154_5<=((jr (Ty.zero tP) ((s154_5:Int).toNat) (((r154_2.length:Int):Int).toNat-(s154_5:Int).toNat) r154_2).length:Int))with|T'=>(match D' (kK c (((jr (Ty.zero tP) ((s154_5:Int).toNat) (((r154_2.length:Int):Int).toNat-(s154_5:Int).toNat) r154_2).drop ((0:Int).toNat)).take ((s154_5:Int).toNat-(0:Int).toNat)))with|T'=>(match D' (fx c d/\cO (dC c) (dC d)=F')with|T'=>S' [RV.d (.sl tP) (dv (dC c) (((jr (Ty.zero tP) ((s154_5:Int).toNat) (((r154_2.length:Int):Int).toNat-(s154_5:Int).toNat) r154_2).drop ((0:Int).toNat)).take ((s154_5:Int).toNat-(0:Int).toNat))),RV.d .bool F']|F'=>N')|F'=>N')|F'=>N')|F'=>N')
theorem kX(c d:BCU)(s154_5 s154_6:Int)(r154_2:List BP):RN kM 16 (dm c d s154_5 s154_6 r154_2) (iq c d s154_5 s154_6 r154_2):=rnX
section
variable (c d:BCU) (h:lw c d) (hs:cO (dC c) (dC d)=F')
include h hs
theorem Fl(L:List BP)(hl:L.length<=4)(ho:∀x∈L,okP 4000 x):(match D' (kK c L)with
  |true=>(match decide (fx c d/\cO (dC c) (dC d)=false)with
   |true=>some [RV.d (.sl tP) (dv (dC c) L),RV.d .bool false]
   |false=>none)
  |false=>none)=some [RV.d (.sl tP) (dv (dC c) L),RV.d .bool (false)]:=by
 have hc:okC 4000 c:=bi h.1.1 (by decide) (by decide);have hd:okC 4000 d:=bi h.2.1 (by decide) (by decide);have q:kK c L:=⟨hc,by omega,ho⟩
 have hn:(dv (dC c) L).length<=L.length:=nq;have _q2:z8 c d (dv (dC c) L):=⟨⟨hc,by omega,λx hx=>ho x (nj hx)⟩,hd⟩
 rw[dT q,dT (show fx c d/\cO (dC c) (dC d)=F' from⟨⟨h.1.2,h.2.2⟩,hs⟩)]
theorem zP:∀(S:List BP) (L J:List BP),J≠[]->(∀x∈L++(J++S),okP 4000 x)->(L++(J++S)).length<=4->
  kM.Runs 16 (dm c d (L.length:Int) ((L.length+J.length:Nat):Int) (L++(J++S))) [RV.d (.sl tP) (dv (dC c) (L++S.filter (iJ c d))),RV.d .bool (F')]
 |[],L,J,hJ,hok,h4=>by
  have h4':L.length+J.length<=4:=by simpa using h4
  obtain⟨c1,c2⟩:=J7 (Ty.zero tP) L J;refine kX _ _ _ _ _ ⟨0,?_⟩;unfold iq;rw[aoi,a8 (by simp)];dsimp only;rw[dT (show(0:Int)<=(L.length:Int)/\(L.length:Int)<=((L++J).length:Int)/\((L++J).length:Int)<=((L++J).length:Int) by simp only[aoq];omega)];rw[dT (show(0:Int)<=0/\0<=(L.length:Int)/\(L.length:Int)<=((jr (Ty.zero tP) ((L.length:Int).toNat) ((((L++J).length:Int)).toNat-(L.length:Int).toNat) (L++J)).length:Int) by omega)];rw[c1,aqC,aoi];exact Fl c d h hs L (by omega) λx hx=>hok x (apr _ hx)
 |q::S,L,J,hJ,hok,h4=>by
  have h4':L.length+(J.length+(S.length+1))<=4:=by simpa using h4
  have hc:okC 4000 c:=bi h.1.1 (by decide) (by decide);have hd:okC 4000 d:=bi h.2.1 (by decide) (by decide);have hq:okP 4000 q:=hok q (by simp)
  have g1:(L++(J++q::S))[L.length+J.length]?=S' q:=by
   have:=nP (L++J) q S;rw[aoq,aof]at this;exact this
  obtain⟨y,T,rfl⟩:=List.exists_cons_of_ne_nil hJ;have g2:(L++(y::T++q::S))[L.length]?=S' y:=nP L y (T++q::S)
  have hset:(L++(y::T++q::S)).set L.length q=(L++[q])++((T++[q])++S):=by
   have:=CC y q (T++q::S) L;rw[show y::T++q::S=y::(T++q::S) from rfl,this];simp
  have e2:L++(y::T++q::S)=L++((y::T++[q])++S):=by simp
  have key:∀r n,(match iJ c d q with
    |true=>kM.k n 16 (dm c d ((L.length+1:Nat):Int) ((L.length+(y::T).length+1:Nat):Int) ((L++[q])++((T++[q])++S)))
    |false=>kM.k n 16 (dm c d (L.length:Int) ((L.length+(y::T).length+1:Nat):Int) (L++(y::T++q::S))))=some r->
    iq c d (L.length:Int) ((L.length+(y::T).length:Nat):Int) (L++(y::T++q::S)) (kM.k n)=S' r:=λr n hk=>by
   unfold iq;rw[aO (by simp only[aoq,an8];omega),ak,g1,show((L.length+(y::T).length:Nat):Int).toNat=L.length+(y::T).length by omega,g1];dsimp only;rw[dT (show okC 4000 c/\okP 4000 q from⟨hc,hq⟩),dT (show okC 4000 d/\okP 4000 q from⟨hd,hq⟩),aT (k:=L.length+(y::T).length) (by simp only[an8]at*;omega),aT (k:=L.length) (by omega),ak,g2,show((L.length:Nat):Int).toNat=L.length by omega,g2,hset];unfold iJ at hk;cases r1:kQ (dC c) (dec q)<;>cases r2:kQ (dC d) (dec q)<;>rw[r1,r2]at hk<;>exact hk
  rw[apJ];cases hk:iJ c d q
  ·obtain⟨n,hn⟩:=zP S L (y::T++[q]) (by simp) (e2▸hok) (e2▸h4);refine kX _ _ _ _ _ ⟨n,key _ n ?_⟩;rw[hk,e2];rw[aoq,aoc,<-apM]at hn;exact hn
  ·obtain⟨n,hn⟩:=zP S (L++[q]) (T++[q]) (by simp) (λx hx=>by
    simp only[aod,an6,apt,aqK]at hx;rcases hx with(hx|hx)|(hx|hx)|hx
    ·exact hok x (by simp[hx])
    ·rw[hx];exact hq
    ·exact hok x (by simp[hx])
    ·rw[hx];exact hq
    ·exact hok x (by simp[hx])) (by simp at h4 ⊢;omega)
   refine kX _ _ _ _ _ ⟨n,key _ n ?_⟩;rw[hk];have n1:(L++[q]).length=L.length+1:=by simp
   have n2:L.length+1+(T++[q]).length=L.length+(y::T).length+1:=by simp;omega
   rw[n1,n2,aof L [q] (S.filter (iJ c d))]at hn;exact hn
theorem K3(X:List BP)(hX:((kn (dC c) (dC d)).map enc)=X)(h4:X.length<=4)(hok:∀x∈X,okP 4000 x):∀(S A:List BP),A++S=X->A.filter (iJ c d)=A->
  kM.Runs 6 (jp c d (A.length:Int)) [RV.d (.sl tP) (dv (dC c) (A++S.filter (iJ c d))),RV.d .bool (F')]
 |[],A,hA,hf=>by
  rw[aoi]at hA;refine mH _ _ _ ⟨0,?_⟩;unfold jg;rw[hX,<-hA,a8 (by omega),aqC,aoi];exact Fl c d h hs A (hA▸h4) (hA▸hok)
 |q::S,A,hA,hf=>by
  have hc:okC 4000 c:=bi h.1.1 (by decide) (by decide);have hd:okC 4000 d:=bi h.2.1 (by decide) (by decide);have hq:okP 4000 q:=hok q (by rw[<-hA];simp);have g1:X[A.length]?=S' q:=by rw[<-hA];exact nP A q S
  have hlen:A.length<X.length:=by rw[<-hA];simp
  have key:∀r n,(match iJ c d q with
    |true=>kM.k n 6 (jp c d ((A.length+1:Nat):Int))
    |false=>kM.k n 16 (dm c d (A.length:Int) ((A.length+1:Nat):Int) X))=some r->
    jg c d (A.length:Int) (kM.k n)=S' r:=λr n hk=>by
   unfold jg;rw[hX,aO hlen,ak,g1,show((A.length:Nat):Int).toNat=A.length by omega,g1];dsimp only;rw[dT (show okC 4000 c/\okP 4000 q from⟨hc,hq⟩),dT (show okC 4000 d/\okP 4000 q from⟨hd,hq⟩),aT (k:=A.length) (by omega),show((A.length:Int)== -1)=F' by rw[aom];omega];unfold iJ at hk;cases r1:kQ (dC c) (dec q)<;>cases r2:kQ (dC d) (dec q)<;>rw[r1,r2]at hk<;>exact hk
  rw[apJ];cases hk:iJ c d q
  ·obtain⟨n,hn⟩:=zP c d h hs S A [q] (by simp) (by rw[ape,hA];exact hok) (by rw[ape,hA];exact h4);refine mH _ _ _ ⟨n,key _ n ?_⟩;rw[hk];rw[ape,hA]at hn;exact hn
  ·obtain⟨n,hn⟩:=K3 X hX h4 hok S (A++[q]) (by rw[aof];exact hA) (by rw[List.filter_append,hf,apJ,hk];rfl);refine mH _ _ _ ⟨n,key _ n ?_⟩;rw[hk];have n1:(A++[q]).length=A.length+1:=by simp
   rw[n1,aof A [q] (S.filter (iJ c d))]at hn;exact hn
end
theorem UO(c d:BCU)(h:lw c d)(hs:cO (dC c) (dC d)=F'):CQq7 80 [.d tCU c,.d tCU d] [.d (.sl tP) (ml c d),.d .bool (It c d)]:=by
 obtain⟨h4,ho⟩:=yF h;have e:Dg c d=((kn (dC c) (dC d)).map enc):=by unfold Dg;rw[hs];rfl
 rw[e]at h4 ho;obtain⟨n,hn⟩:=K3 c d h hs _ rfl h4 ho _ [] rfl rfl;have e2:ml c d=dv (dC c) (List.filter (iJ c d) ((kn (dC c) (dC d)).map enc)):=by unfold ml;rw[e]
 have e3:It c d=false:=by unfold It;rw[hs,e2];rfl
 rw[e2,e3];refine bj Oo (aeM _ _ ⟨n,?_⟩);unfold Nu;rw[dT (show fx c d/\cO (dC c) (dC d)=F' from⟨⟨h.1.2,h.2.2⟩,hs⟩)];dsimp only;rw[dT (show fx c d from⟨h.1.2,h.2.2⟩)];dsimp only;rw[dT (an0 h4 (by decide))];exact hn
def Kf:Cn 80 [tCU,tCU]:=cn λ(c d:BCU)=>lf (lw c d) [.d (.sl tP) (ml c d),.d .bool (It c d)] λh=>by
 cases hs:cO (dC c) (dC d)
 ·exact UO c d h hs
 ·exact NF c d h hs
end
section
open RE
end
def WU(c:Cv):Bool:=(c.1||!cwC c)&&(df c (frC c)&&(df c (toC c)&&!(aB (frC c) (toC c)==0)))
def XE(c d:Cv):Bool:=cO c d&&(cwC c==cwC d&&(aB (frC c) (frC d)==0&&aB (toC c) (toC d)==0))
def I7:List En:=[enT O8,enT mf,enL G8]
def Sq(p:BP)(_k:KT):OLR:=og (o1 p.1) (og (o1 p.2.2.1) (og (o1 p.2.1) (og (o1 p.2.2.2.1) (og (o1 p.2.2.2.2) (og (o1 p.2.1) (match(aD (ag p.2.1) 0)==0 with|T'=>(og (o1 p.2.2.2.1) (match(aD (ag p.2.2.2.1) 0)==0 with|T'=>(og (o1 p.2.2.2.2) (S' [RV.d .bool ((aD (ag p.2.2.2.2) 0)==0)]))|F'=>(og (o1 p.2.2.2.2) (og (o1 p.2.2.2.2) (match D' ((aD (ag p.2.2.2.2) 0)>0)with|T'=>S' [RV.d .bool (!(eH (ag p.2.2.2.2)))]|F'=>S' [RV.d .bool F'])))))|F'=>(og (o1 p.2.2.2.2) (og (o1 p.2.2.2.2) (match D' ((aD (ag p.2.2.2.2) 0)>0)with|T'=>S' [RV.d .bool (!(eH (ag p.2.2.2.2)))]|F'=>S' [RV.d .bool F'])))))))))
def adS:Cn 125 [tP]:=cn λ(p:BP)=>lf (okP 4000 p) [.d .bool T'] λh=>by
 refine aA I7 (Sq p) ⟨0,?_⟩;have hp:=h;obtain⟨p,rfl,bp,rp⟩:=bQ hp;unfold Sq;simp only[aX,Nat.reduceLeDiff,am,au];rcases rp.rd with⟨h1,h2,h3⟩|⟨h1,h2,h3⟩
 ·rw[dT h1,dT h2,dT h3]
 ·rw[dT h2,h3];cases hb:D' (p.2.1=0)
  ·rfl
  ·cases hb2:D' (p.2.2.2.1=0)
   ·rfl
   ·exact absurd ⟨anP hb,anP hb2⟩ h1
def TN(c:BO3)(_k:KT):OLR:=og (o1 c.1) (og (o1 c.2.1) (og (o1 c.2.2) (og (o1 c.2.2) (S' [RV.d .bool (D' ((aD (ag c.2.2) 0)>0))]))))
def ac2:Cn 126 [tO]:=cn λ(c:BO3)=>lf (tn c) [.d .bool T'] λh=>by
 refine aA I7 (TN c) ⟨0,?_⟩;obtain⟨hk,h0⟩:=h;obtain⟨c,rfl,bc⟩:=aL hk;rw[aq]at h0;unfold TN;simp only[aX,Nat.reduceLeDiff,au,dT h0]
def Ov(l:BO3)(_k:KT):OLR:=og (o1 l.1) (og (o1 l.2.1) (og (o1 l.2.2) (og (o1 l.1) (match(aD (ag l.1) 0) !=0 with|T'=>S' [RV.d .bool T']|F'=>(og (o1 l.2.1) (S' [RV.d .bool ((aD (ag l.2.1) 0) !=0)]))))))
def ae3:Cn 127 [tO]:=cn λ(l:BO3)=>lf (HI l) [.d .bool T'] λh=>by
 refine aA I7 (Ov l) ⟨0,?_⟩;obtain⟨hk,h0⟩:=h;obtain⟨l,rfl,bl⟩:=aL hk;rw[aq]at h0;unfold Ov;simp only[aX,Nat.reduceLeDiff,bg];by_cases h1:l.1=0
 ·rw[dT h1,dF (h0.resolve_left (λh=>h h1))];rfl
 ·rw[dF h1];rfl
def afk:List En:=[enT adS,enT ac2,enT ae3,enT aaD,enT o8]
def aan(c:BCU)(_k:KT):OLR:=let y1:OLR:=match D' (okC 3500 c/\okP 3500 c.2.2.2.2.1)with|T'=>(match df (dC c) (dec c.2.2.2.2.1)with|T'=>(og (D' (okC 3500 c/\okP 3500 c.2.2.2.2.2)) (match df (dC c) (dec c.2.2.2.2.2)with|T'=>(og (D' (okP 4000 c.2.2.2.2.1/\okP 4000 c.2.2.2.2.2)) (S' [RV.d .bool (!(aB (dec c.2.2.2.2.1) (dec c.2.2.2.2.2)==0))]))|F'=>S' [RV.d .bool F']))|F'=>S' [RV.d .bool F'])|F'=>N';let y2:OLR:=match !c.1 with|T'=>(match c.2.2.2.1 with|T'=>S' [RV.d .bool F']|F'=>(og (D' (HI c.2.1)) y1))|F'=>y1;og (D' (okP 4000 c.2.2.2.2.1)) (og (D' (okP 4000 c.2.2.2.2.2)) (match c.1 with|T'=>(og (D' (tn c.2.2.1)) y2)|F'=>y2))
def ahJ:Cn 60 [tCU]:=cn λ(c:BCU)=>lf (okC 3500 c) [.d .bool (WU (dC c))] λh=>by
 refine aA afk (aan c) ⟨0,?_⟩;have h4:=bi (k:=4000) h (by decide) (by decide);unfold aan WU;rw[dT (show okC 3500 c/\okP 3500 c.2.2.2.2.1 from⟨h,h.2.2.1⟩),dT (show okC 3500 c/\okP 3500 c.2.2.2.2.2 from⟨h,h.2.2.2⟩),dT (show okP 4000 c.2.2.2.2.1/\okP 4000 c.2.2.2.2.2 from⟨h4.2.2.1,h4.2.2.2⟩),dT h4.2.2.1,dT h4.2.2.2];have e1:(dC c).1=c.1:=rfl;have e2:cwC (dC c)=c.2.2.2.1:=rfl;have e3:frC (dC c)=dec c.2.2.2.2.1:=rfl;have e4:toC (dC c)=dec c.2.2.2.2.2:=rfl;rw[e1,e2,e3,e4];cases ha:c.1
 ·have h2:=dT (p:=HI c.2.1) (i:=inferInstance) (h.2.1 ha);rw[h2];cases c.2.2.2.1<;>cases df (dC c) (dec c.2.2.2.2.1)<;>cases df (dC c) (dec c.2.2.2.2.2)<;>rfl
 ·have h2:=dT (p:=tn c.2.2.1) (i:=inferInstance) (h.1 ha);rw[h2];cases df (dC c) (dec c.2.2.2.2.1)<;>cases df (dC c) (dec c.2.2.2.2.2)<;>rfl
def acK:List En:=[enT RR,enT o8]
def aa9(a b:BCU)(_k:KT):OLR:=og (D' (fx a b)) (match cO (dC a) (dC b)with|T'=>(match a.2.2.2.1==b.2.2.2.1 with|T'=>(og (D' (okP 4000 a.2.2.2.2.1/\okP 4000 b.2.2.2.2.1)) (match aB (dec a.2.2.2.2.1) (dec b.2.2.2.2.1)==0 with|T'=>(og (D' (okP 4000 a.2.2.2.2.2/\okP 4000 b.2.2.2.2.2)) (S' [RV.d .bool (aB (dec a.2.2.2.2.2) (dec b.2.2.2.2.2)==0)]))|F'=>S' [RV.d .bool F']))|F'=>S' [RV.d .bool F'])|F'=>S' [RV.d .bool F'])
def ajS:Cn 116 [tCU,tCU]:=cn λ(a b:BCU)=>lf (lw a b) [.d .bool (XE (dC a) (dC b))] λh=>by
 refine aA acK (aa9 a b) ⟨0,?_⟩;obtain⟨⟨a1,a2⟩,b1,b2⟩:=h;have a4:=bi (k:=4000) a1 (by decide) (by decide);have b4:=bi (k:=4000) b1 (by decide) (by decide);unfold aa9 XE;rw[dT (show fx a b from⟨a2,b2⟩),dT (show okP 4000 a.2.2.2.2.1/\okP 4000 b.2.2.2.2.1 from⟨a4.2.2.1,b4.2.2.1⟩),dT (show okP 4000 a.2.2.2.2.2/\okP 4000 b.2.2.2.2.2 from⟨a4.2.2.2,b4.2.2.2⟩)];have e2:∀c,cwC (dC c)=c.2.2.2.1:=λ_=>rfl;have e3:∀c,frC (dC c)=dec c.2.2.2.2.1:=λ_=>rfl;have e4:∀c,toC (dC c)=dec c.2.2.2.2.2:=λ_=>rfl;rw[e2,e2,e3,e3,e4,e4];cases cO (dC a) (dC b)<;>cases(a.2.2.2.1==b.2.2.2.1)<;>cases(aB (dec a.2.2.2.2.1) (dec b.2.2.2.2.1)==0)<;>rfl
namespace RE
theorem akt(a r:RE)(h1:0<r):a+ -1*r<a+1*r:=by grind
theorem Ow{c:Ln}(h:0<c.2.2):aB (da c) (dp c)= -1:=by
 have q0:(0:Rat)<=c.2.2:=by grind
 have pl:Rpd (da c):=mo (λe=>absurd e.1 (by decide)) q0;have pr:Rpd (dp c):=mo (λe=>absurd e.1 (by decide)) q0;rw[iw];refine(fq _ _).1 (.inl ?_);unfold da dp;rw[mq,mq];show v2 _ _ _<v2 _ _ _;unfold v2;exact akt _ _ (abn h)
end RE
def loN(c:BO3):BCU:=(T',o00,c,F',enc (da (dec c)),enc (dp (dec c)))
def hiN(c:BO3):BCU:=(T',o00,c,F',enc (dp (dec c)),enc (da (dec c)))
def upN(c:BO3):BCU:=(T',o00,c,T',enc (da (dec c)),enc (dp (dec c)))
abbrev SLp:Type:=Int×BO3
def z3:BO3:=(((F',[]),(F',[])),(((F',[]),(F',[])),((F',[]),(F',[]))))
abbrev kO:Ty:=.st (.pair arf tO)
def HG:List En:=[]
def aee:NT:=[((191,6),{keep:=[1,7,8,9],hl:=1})]
def Kl:Ctx:=CX (ens HG) aee
def DO(x:BI)(s9:Int):Cfg:=⟨191,[.blk 0,.seq 25],[(1,.box 0 0),(7,.d ard x.2),(8,SI (x.2.length:Int)),(9,SI s9)],[.box 36 [SB x.1,.d ard x.2]],0,[]⟩
def ajM(x:BI)(k:KT):OLR:=k 6 (DO x 0)
theorem aiT(x:BI):RS Kl 191 [.d tI x] (ajM x):=rsX
def zn(x:BI)(s9:Int)(k:KT):OLR:=match D' (s9<(x.2.length:Int))with|T'=>(match aH x.2 s9 with|S' x1=>(match D' (x1>=1000000000)with|T'=>S' [RV.d .bool F']|F'=>k 6 (DO x (i64.wrap (s9+1))))|N'=>N')|F'=>(match D' ((x.2.length:Int)>0)with|T'=>(match aH x.2 (i64.wrap ((x.2.length:Int)-1))with|S' x1=>S' [RV.d .bool (x1 !=0)]|N'=>N')|F'=>S' [RV.d .bool (!x.1)])
theorem Gh(x:BI)(s9:Int):RN Kl 6 (DO x s9) (zn x s9):=rnX
theorem TR(x:BI)(h:okI x):∀(j i:Nat),i+j=x.2.length->Kl.Runs 6 (DO x (i:Int)) [.d .bool T']:=by
 obtain⟨x0,x1,x2⟩:=cp h;have hlim:=fu h;have hl:=h.2.2;intro j;induction j with
 |zero=>
  intro i hi;refine Gh _ _ ⟨0,?_⟩;unfold zn;rw[a8 (by omega)];dsimp only;cases e:x.2 with
  |nil=>
   have e1:x.1=false:=by
    cases e1:x.1
    ·rfl
    ·exact absurd e (h.2.1 e1)
   rw[e1];rfl
  |cons y r=>
   have h3:=h.1.2;rw[e]at h3 hl;have hn:(((y::r).length:Nat):Int)-1=((r.length:Nat):Int):=by simp
   have hl':r.length<=999999:=by simpa using hl
   rw[dT (show(((y::r).length:Nat):Int)>0 by simp),hn,aM (by omega) (by omega),ak];dsimp only
   have h4:(y::r)[r.length]?=S' ((y::r).getLast (by simp)):=by
    rw[List.getLast_eq_getElem];simp
   rw[h4];rw[List.getLast?_eq_some_getLast (by simp)]at h3;have h5:(y::r).getLast (by simp)≠0:=λq=>h3 (by rw[q]);simp only[apV.2 h5]
 |succ j ih=>
  intro i hi;have hil:i<x.2.length:=by omega
  obtain⟨q,hq⟩:=ih (i+1) (by omega);refine Gh _ _ ⟨q,?_⟩;unfold zn;have hb:=(hlim.1 x.2[i] (anY hil)).2;rw[aO hil,ak,anN hil,aT (by omega)];dsimp only;rw[anQ (by omega)];exact hq
def al8:Cn 191 [tI]:=cn λ(x:BI)=>lf (okI x) [.d .bool T'] λh=>by
 refine bj HG (show Kl.Res _ _ _ from ?_);obtain⟨q,hq⟩:=TR x h x.2.length 0 (by omega);exact aiT _ ⟨q,hq⟩
def Sy:cE:=spN T' T' [tI] (λx=>D' (okI x.1)) (λx=>[RV.d arf (b8 (ab x.1) 0)])
theorem QH:SpK 178 Sy:=spX λx h=>C6 x.1 (anP h)
def Om:cE:=spN F' T' [tI,tI] (λx=>D' (okI x.1/\okI x.2.1)) (λx=>[RV.d tI (hid (ah ((Int.gcd (ab x.1) (ab x.2.1):Nat):Int)))])
theorem Tr:SpK 192 Om:=spX λx h=>by simp only[aR];exact KB x.1 x.2.1 (anP h)
def TB:cE:=spN F' T' [] (λ_=>T') (λ_=>[RV.d tI (hid (ah 1))])
theorem R8:SpK 193 TB:=spX λ_ _=>by simp only[aR];exact Jw
def afG:List En:=enT al8::⟨178,Sy,QH⟩::⟨192,Om,Tr⟩::⟨193,TB,R8⟩::⟨108,Dr,ze⟩::HG
def YV(a:BR)(_k:KT):OLR:=og (D' (okI a.1)) (og (D' (okI a.2)) (og (D' (okI a.2)) (match D' ((b8 (ab a.2) 0)<=0)with|T'=>S' [RV.d .bool F']|F'=>(og (D' (okI a.1/\okI a.2)) (og (D' (okI (hid (ah ((Int.gcd (ab a.1) (ab a.2):Nat):Int)))/\okI (hid (ah 1)))) (S' [RV.d .bool ((b8 (ab (hid (ah ((Int.gcd (ab a.1) (ab a.2):Nat):Int)))) (ab (hid (ah 1))))==0)]))))))
def EV:Cn 110 [tR]:=cn λ(a:BR)=>lf (okR a) [.d .bool T'] λh=>by
 refine aA afG (YV a) ⟨0,?_⟩;obtain⟨h1,h2,h3,h4,_⟩:=h;have o1:okI (ah ((Int.gcd (ab a.1) (ab a.2):Nat):Int)):=by rw[h4];exact lP
 unfold YV;simp only[aR];rw[dT h1,dT h2,dT (show okI a.1/\okI a.2 from⟨h1,h2⟩),cH h3,dT (show okI (ah ((Int.gcd (ab a.1) (ab a.2):Nat):Int))/\okI (ah 1) from⟨o1,lP⟩),dec_enc,dec_enc,h4];rfl
def Hi:List En:=[enT EV,⟨94,fp,dJ⟩,enL aah]
def acz:NT:=[((142,6),{keep:=[1,17,18,19],hl:=99})]
def ajP:Ctx:=CX (ens Hi) acz
def aaO(p:BP):OLR:=og (o1 p.1) (og (o1 p.2.1) (og (o1 p.2.2.1) (og (o1 p.2.2.2.1) (og (o1 p.2.2.2.2) (og (o1 p.2.1) (match(aD (ag p.2.1) 0)==0 with|T'=>(og (o1 p.2.2.2.1) (match(aD (ag p.2.2.2.1) 0)==0 with|T'=>(og (o1 p.2.2.2.2) (S' [RV.d .bool ((aD (ag p.2.2.2.2) 0)==0)]))|F'=>(og (o1 p.2.2.2.2) (og (o1 p.2.2.2.2) (match D' ((aD (ag p.2.2.2.2) 0)>0)with|T'=>S' [RV.d .bool (!(eH (ag p.2.2.2.2)))]|F'=>S' [RV.d .bool F'])))))|F'=>(og (o1 p.2.2.2.2) (og (o1 p.2.2.2.2) (match D' ((aD (ag p.2.2.2.2) 0)>0)with|T'=>S' [RV.d .bool (!(eH (ag p.2.2.2.2)))]|F'=>S' [RV.d .bool F'])))))))))
theorem alG(p:BP):RT ajP 142 [.d tP p] (aaO p):=rtX
def Lt:Cn 142 [tP]:=cn λ(p:BP)=>lf (okP 4000 p) [.d .bool T'] λh=>by
 refine bj Hi (alG _ ?_);have hp:=h;obtain⟨p,rfl,bp,rp⟩:=bQ hp;unfold aaO;simp only[aX,Nat.reduceLeDiff,am,au];rcases rp.rd with⟨h1,h2,h3⟩|⟨h1,h2,h3⟩
 ·rw[dT h1,dT h2,dT h3]
 ·rw[dT h2,h3];cases hb:D' (p.2.1=0)
  ·rfl
  ·cases hb2:D' (p.2.2.2.1=0)
   ·rfl
   ·exact absurd ⟨anP hb,anP hb2⟩ h1
def aaZ(c:BO3)(_k:KT):OLR:=og (o1 c.1) (og (o1 c.2.1) (og (o1 c.2.2) (og (o1 c.2.2) (S' [RV.d .bool (D' ((aD (ag c.2.2) 0)>0))]))))
def EJ:Cn 48 [tO]:=cn λ(c:BO3)=>lf (tn c) [.d .bool T'] λh=>by
 refine aA Hi (aaZ c) ⟨0,?_⟩;obtain⟨hk,h0⟩:=h;obtain⟨c,rfl,bc⟩:=aL hk;rw[aq]at h0;unfold aaZ;simp only[aX,Nat.reduceLeDiff,au,dT h0]
end Go.Proofs.YtoimchcjhdcdmaaGreat
end
