/- Pieces of a curve: the program's are the reference's. -/
import Derived.Test.YtmnlppieefomnaaGreatDoorN15
import Derived.Test.YtmnlppieefomnaaGreatDoorN6
import Derived.ProofKit
import Derived.OpenShut
import Derived.ChangeSame
import Derived.Deep.Slices
import Derived.Test.YtmnlppieefomnaaGreatDoorN14
import Derived.Test.YtmnlppieefomnaaGreatDoorN7
noncomputable section
namespace Go.Proofs.YtmnlppieefomnaaGreatDoor
open Go.RowKit Go.IntKind
section
open RE
def vO(c:BCU):BP->List BP->List BCU
 |f,[]=>[zv c f c.2.2.2.2.2]
 |f,p::r=>bif fG p c.2.2.2.2.1||fG p c.2.2.2.2.2 then vO c f r else zv c f p::vO c p r
def VE(c:BCU)(l:List BP):List BCU:=vO c c.2.2.2.2.1 (dq (dC c) l)
def SH(c:BCU)(l:List BP):Bool:=l.any λp=>!onP (dC c) (dec p)
def oE(c:BCU)(l:List BP):List BCU:=bif SH c l then []else VE c l
def Wh(c:BCU)(l:List BP):Int:=bif SH c l then 1 else 0
section
variable {c:BCU} (h:gdN c) {l:List BP} (ho:∀x∈l,Rpd (dec x:Pt)/\onR (dC c) (dec x)=true)
include h ho
omit h ho in
end
end
section
open RE
def frB(c:BCU):BP:=c.2.2.2.2.1
def toB(c:BCU):BP:=c.2.2.2.2.2
def KS(d p:BCU):Bool:=(onP (dC d) (dec (frB p))&&onP (dC d) (dec (toB p)))&&(bif d.1 then !fG (frB (dO p)) (toB (dO d))&&decide (ml bQ (ptd (dec (dO d).2.2.1) (dec (frB (dO p)))) (ptd (dec (dO d).2.2.1) (dec (toB (dO p)))) (ptd (dec (dO d).2.2.1) (dec (toB (dO d))))<=0)else true)
def xo(c d:BCU)(l:List BP):Bool:=(oE c l).any (KS d)
def F5(c d:BCU):Bool:=cf (dC c) (dC d)&&xo c d (mn c d)
theorem gdN.rev{d:BCU}(h:gdN d):gdN (iM d):=by
 obtain⟨⟨h1,h2,h3⟩,h4,h5,h6⟩:=h;have r1:=co h1.2.2.1;have r2:=co h1.2.2.2;refine⟨⟨By _ h1,h2,h3⟩,h5,h4,λe=>h6 ?_⟩;have i1:Rpd (frC (dC d)):=r1;have i2:Rpd (toC (dC d)):=r2;exact SD (p:=toC (dC d)) (q:=frC (dC d)) e
end
section
def wW(c d:BCU)(l:List BP):Prop:=lj c l/\okC 4000 d
instance (c d:BCU) (l:List BP):Decidable (wW c d l):=by unfold wW;infer_instance
theorem aeG(d:BCU):(dO d).1=d.1:=by
 unfold dO;cases d.2.2.2.1<;>rfl
theorem Ic{k:Nat}{d:BCU}(h:okC k d):okC k (dO d):=by
 unfold dO;cases d.2.2.2.1
 ·exact h
 ·exact By k h
theorem C1{c:BCU}(hc:okC 4000 c):∀{L:List BP} {f:BP},okP 4000 f->(∀x∈L,okP 4000 x)->∀p∈vO c f L,okC 4000 p
 |[],f,hf,_,p,hp=>by
  rw[amQ.1 hp];exact⟨hc.1,hc.2.1,hf,hc.2.2.2⟩
 |x::r,f,hf,hL,p,hp=>by
  have hx:=hL x (by simp);have hr:∀y∈r,okP 4000 y:=λy hy=>hL y (amv _ hy);unfold vO at hp;cases h:fG x c.2.2.2.2.1||fG x c.2.2.2.2.2<;>rw[h]at hp
  ·rcases amy.1 hp with e|e
   ·rw[e];exact⟨hc.1,hc.2.1,hf,hx⟩
   ·exact C1 hc hx hr p e
  ·exact C1 hc hf hr p hp
theorem U2{c:BCU}{l:List BP}(h:lj c l):(oE c l).length<=20/\∀p∈oE c l,okC 4000 p:=by
 obtain⟨hc,hl,ho⟩:=h;have hs:∀x∈dq (dC c) l,okP 4000 x:=λx hx=>ho x (mN hx);have hn:(dq (dC c) l).length<=l.length:=mX
 have len:∀(L:List BP) (f:BP),(vO c f L).length<=L.length+1:=by
  intro L;induction L with
  |nil=>intro f;simp[vO]
  |cons x r ih=>
   intro f;unfold vO;cases fG x c.2.2.2.2.1||fG x c.2.2.2.2.2
   ·have:=ih x;simp only[cond_false,amD];omega
   ·have:=ih f;simp only[cond_true,amD];omega
 unfold oE;cases SH c l
 ·refine⟨?_,C1 hc hc.2.2.1 hs⟩;have:=len (dq (dC c) l) c.2.2.2.2.1;simp only[cond_false];unfold VE;omega
 ·exact⟨by simp,λp hp=>by cases hp⟩
def Q0:List En:=[enT IV,enT sO,enK NE]
def aez:NT:=[((241,6),{keep:=[0,1,7,8],hl:=1}),((184,18),{keep:=[2,6,7,17,18,19],own:=[(6,75,tCU)],hl:=3}),((184,4),{keep:=[1,2,13],hl:=0}),((243,3),{keep:=[7],hl:=0}),((241,18),{keep:=[0,1,5,7,8,16],hl:=0})]
def Dl:Ctx:=CX (ens Q0) aez
def nW(c:BCU)(l:List BP)(s241_8:Int):Cfg:=⟨241,[.blk 0,.seq 25],[(0,.d (.sl tP) l),(1,.clo 244 [0]),(7,SI (l.length:Int)),(8,SI s241_8)],[.box 75 (Ty.split tCU c)],1,[⟨243,[.seq 4],3,2,[],1,none⟩,⟨184,[.seq 5,.seq 10],4,2,[(1,.d (.sl tP) l),(2,.box 0 0)],0,none⟩]⟩
def ql(c:BCU)(l:List BP)(s19:Int)(B1:BCU)(r2:List BCU):Cfg:=⟨184,[.blk 0,.seq 41],[(2,.box 0 0),(6,.own 2),(7,.box 1 0),(17,.d (.sl tP) (dq (dC c) l)),(18,SI ((dq (dC c) l).length:Int)),(19,SI s19)],[.box 75 (Ty.split tCU c),.box 75 (Ty.split tCU B1),.row 75 tCU r2],0,[]⟩
def afp(c:BCU)(l:List BP)(k:KT):OLR:=k 6 (nW c l 0)
theorem aik(c:BCU)(l:List BP):RS Dl 184 [.d tCU c,.d (.sl tP) l] (afp c l):=rsX
def nY(c:BCU)(l:List BP)(s241_8:Int)(k:KT):OLR:=match decide (s241_8<(l.length:Int))with|true=>(match aH l s241_8 with|some x1=>(match decide (okC 4000 c/\okP 4000 x1)with|true=>(match !(onP (dC c) (dec x1))with|true=>(match decide (s241_8>=0)with|true=>some [RV.d (.sl tCU) ([]),RV.d apE 1]|false=>(match decide (lj c l)with|true=>none|false=>none))|false=>k 6 (nW c l (i64.wrap (s241_8+1))))|false=>none)|none=>none)|false=>(match decide ((-1)>=0)with|true=>some [RV.d (.sl tCU) ([]),RV.d apE 1]|false=>(match decide (lj c l)with|true=>k 18 (ql c l 0 c ([]))|false=>none))
theorem tt(c:BCU)(l:List BP)(s241_8:Int):RN Dl 6 (nW c l s241_8) (nY c l s241_8):=rnX
def uo(c:BCU)(l:List BP)(s19:Int)(B1:BCU)(r2:List BCU)(k:KT):OLR:=match decide (s19<((dq (dC c) l).length:Int))with|true=>(match aH (dq (dC c) l) s19 with|some x1=>(match decide (okP 4000 x1/\okP 4000 c.2.2.2.2.1)with|true=>(match aB (dec x1) (dec c.2.2.2.2.1)==0 with|true=>k 18 (ql c l (i64.wrap (s19+1)) B1 r2)|false=>(match decide (okP 4000 x1/\okP 4000 c.2.2.2.2.2)with|true=>(match aB (dec x1) (dec c.2.2.2.2.2)==0 with|true=>k 18 (ql c l (i64.wrap (s19+1)) B1 r2)|false=>dup (.b .l .l) (match decide ((r2.length+([(B1.1,(B1.2.1,(B1.2.2.1,(B1.2.2.2.1,(B1.2.2.2.2.1,x1)))))]).length)*1040<=140737488355328/\r2.length+([(B1.1,(B1.2.1,(B1.2.2.1,(B1.2.2.2.1,(B1.2.2.2.2.1,x1)))))]).length<=140737488355328)with|true=>k 18 (ql c l (i64.wrap (s19+1)) (B1.1,(B1.2.1,(B1.2.2.1,(B1.2.2.2.1,(x1,B1.2.2.2.2.2))))) (r2++([(B1.1,(B1.2.1,(B1.2.2.1,(B1.2.2.2.1,(B1.2.2.2.2.1,x1)))))])))|false=>none))|false=>none))|false=>none)|none=>none)|false=>(match decide ((r2.length+([B1]).length)*1040<=140737488355328/\r2.length+([B1]).length<=140737488355328)with|true=>some [RV.d (.sl tCU) (r2++([B1])),RV.d apE 0]|false=>none)
theorem AB(c:BCU)(l:List BP)(s19:Int)(B1:BCU)(r2:List BCU):RN Dl 18 (ql c l s19 B1 r2) (uo c l s19 B1 r2):=rnX
section
variable (c:BCU) (l:List BP) (h:lj c l)
include h
theorem JS:∀(L:List BP) (i:Nat),(dq (dC c) l).drop i=L->i<=(dq (dC c) l).length->∀(f:BP) (r2:List BCU),r2.length<=i->Dl.Runs 18 (ql c l (i:Int) (zv c f c.2.2.2.2.2) r2) [.d (.sl tCU) (r2++vO c f L),.d apE (0:Int)]
 |[],i,hd,hi,f,r2,hr=>by
  have hn:(dq (dC c) l).length<=l.length:=mX;have hl:=h.2.1;have hlen:=congrArg List.length hd;rw[aoH,List.length_nil]at hlen;refine AB _ _ _ _ _ ⟨0,?_⟩;unfold uo;rw[aX (by omega),amF,Ca (by omega) (by omega)];rfl
 |x::r,i,hd,hi,f,r2,hr=>by
  have hn:(dq (dC c) l).length<=l.length:=mX;have hl:=h.2.1;have hlen:=congrArg List.length hd;rw[aoH,amD]at hlen;have hil:i<(dq (dC c) l).length:=by omega
  have hd2:=amz hil;rw[hd2]at hd;injection hd with e1 e2;have hx:okP 4000 x:=by rw[<-e1];exact h.2.2 _ (mN (ams hil))
  have g1:aH (dq (dC c) l) (i:Int)=some x:=by rw[ai,amg hil,e1]
  have ih:=JS r (i+1) e2 (by omega);refine AB _ _ _ _ _ ?_;unfold uo vO;rw[aK hil,g1,aT (by omega)];dsimp only;rw[dT (show okP 4000 x/\okP 4000 c.2.2.2.2.1 from⟨hx,h.1.2.2.1⟩),dT (show okP 4000 x/\okP 4000 c.2.2.2.2.2 from⟨hx,h.1.2.2.2⟩)];unfold fG;cases q1:aB (dec x) (dec c.2.2.2.2.1)==0
  ·cases q2:aB (dec x) (dec c.2.2.2.2.2)==0
   ·obtain⟨n,hn⟩:=ih x (r2++[zv c f x]) (by simp;omega);refine⟨n,?_⟩;rw[amH]at hn;simp only[da];rw[amF,Ca (by omega) (by omega)];exact hn
   ·exact ih f r2 (by omega)
  ·exact ih f r2 (by omega)
theorem aec:∀(j i:Nat),i+j=l.length->Dl.Runs 6 (nW c l (i:Int)) [.d (.sl tCU) (bif (l.drop i).any (λp=>!onP (dC c) (dec p))then []else VE c l),.d apE (bif (l.drop i).any (λp=>!onP (dC c) (dec p))then(1:Int)else 0)]:=by
 intro j;have hl:=h.2.1;induction j with
 |zero=>
  intro i hi;obtain⟨n,hn⟩:=JS c l h (dq (dC c) l) 0 rfl (aoE _) c.2.2.2.2.1 [] (amm _);refine tt _ _ _ ⟨n,?_⟩;unfold nY;rw[aX (by omega),wH (by omega)];dsimp only;rw[dF (show ¬(-1:Int)>=0 by decide),dT h];exact hn
 |succ j ih=>
  intro i hi;have hil:i<l.length:=by omega
  obtain⟨n,hn⟩:=ih (i+1) (by omega);refine tt _ _ _ ⟨n,?_⟩;unfold nY;rw[aK hil,ai,amg hil,jm hil,List.any_cons,aT (by omega)];dsimp only;rw[dT (show okC 4000 c/\okP 4000 l[i] from⟨h.1,h.2.2 _ (ams _)⟩)];cases onP (dC c) (dec l[i])
  ·dsimp only[Bool.not_false];rw[dT (show(i:Int)>=0 by omega)];rfl
  ·exact hn
end
def Zn:Cn 184 [tCU,(.sl tP)]:=cn λ(c:BCU) (l:List BP)=>lf (lj c l) [.d (.sl tCU) (oE c l),.d apE (Wh c l)] λh=>by
 have q:=aec c l h l.length 0 (amx _);exact a8 Q0 (aik _ _ q)
def ad2:List En:=[enT IV,enT sO,enL WG,enT M2]
def Wq(d p:BCU)(_k:KT):OLR:=og (decide (okC 4000 d/\okP 4000 p.2.2.2.2.1)) (match !(onP (dC d) (dec p.2.2.2.2.1))with|true=>some [RV.d .bool false]|false=>(og (decide (okC 4000 d/\okP 4000 p.2.2.2.2.2)) (match !(onP (dC d) (dec p.2.2.2.2.2))with|true=>some [RV.d .bool false]|false=>(match !d.1 with|true=>some [RV.d .bool true]|false=>(og (decide (okP 4000 ((((((hid (dO p)).2).2).2).2).1)/\okP 4000 ((((((hid (dO d)).2).2).2).2).2))) (match aB (dec ((((((hid (dO p)).2).2).2).2).1)) (dec ((((((hid (dO d)).2).2).2).2).2))==0 with|true=>some [RV.d .bool false]|false=>(og (decide (ok Ln 300 ((((hid (dO d)).2).2).1)/\okP 4000 ((((((hid (dO p)).2).2).2).2).1)/\okP 4000 ((((((hid (dO p)).2).2).2).2).2)/\okP 4000 ((((((hid (dO d)).2).2).2).2).2))) (some [RV.d .bool (decide ((ml bQ (ptd (dec ((((hid (dO d)).2).2).1)) (dec ((((((hid (dO p)).2).2).2).2).1))) (ptd (dec ((((hid (dO d)).2).2).1)) (dec ((((((hid (dO p)).2).2).2).2).2))) (ptd (dec ((((hid (dO d)).2).2).1)) (dec ((((((hid (dO d)).2).2).2).2).2))))<=0))]))))))))
def ae0:Cn 318 [tCU,tCU]:=cn λ(d p:BCU)=>lf (okC 4000 d/\okC 4000 p) [.d .bool (KS d p)] λh=>by
 refine aA ad2 (Wq d p) ⟨0,?_⟩;obtain⟨hd,hp⟩:=h;have hd':=Ic hd;have hp':=Ic hp;unfold Wq KS frB toB fG;simp only[aQ];rw[dT (show okC 4000 d/\okP 4000 p.2.2.2.2.1 from⟨hd,hp.2.2.1⟩),dT (show okC 4000 d/\okP 4000 p.2.2.2.2.2 from⟨hd,hp.2.2.2⟩)];cases onP (dC d) (dec p.2.2.2.2.1)
 ·rfl
 ·cases onP (dC d) (dec p.2.2.2.2.2)
  ·rfl
  ·cases ha:d.1
   ·rfl
   ·rw[dT (show okP 4000 (dO p).2.2.2.2.1/\okP 4000 (dO d).2.2.2.2.2 from⟨hp'.2.2.1,hd'.2.2.2⟩),dT (show ok Ln 300 (dO d).2.2.1/\okP 4000 (dO p).2.2.2.2.1/\okP 4000 (dO p).2.2.2.2.2/\okP 4000 (dO d).2.2.2.2.2 from⟨(hd'.1 ((aeG d).trans ha)).1,hp'.2.2.1,hp'.2.2.2,hd'.2.2.2⟩)];cases aB (dec (dO p).2.2.2.2.1) (dec (dO d).2.2.2.2.2)==0<;>rfl
def Rj:List En:=[enK Zn,enT ae0]
def aeE:NT:=[((131,6),{keep:=[0,1,7,8],hl:=2}),((258,5),{keep:=[17],hl:=0}),((90,3),{keep:=[7],hl:=0}),((131,18),{keep:=[0,1,5,7,8,16],hl:=0})]
def SJ:Ctx:=CX (ens Rj) aeE
def n9(c d:BCU)(l:List BP)(s131_8:Int):Cfg:=⟨131,[.blk 0,.seq 25],[(0,.d (.sl tCU) (oE c l)),(1,.clo 317 [1]),(7,SI ((oE c l).length:Int)),(8,SI s131_8)],[.box 75 (Ty.split tCU c),.box 75 (Ty.split tCU d)],2,[⟨90,[.seq 4],3,2,[],2,none⟩,⟨258,[.seq 6],5,2,[],0,none⟩]⟩
def Zk(c d:BCU)(l:List BP)(k:KT):OLR:=og (decide (lj c l)) (k 6 (n9 c d l 0))
theorem afH(c d:BCU)(l:List BP):RS SJ 258 [.d tCU c,.d tCU d,.d (.sl tP) l] (Zk c d l):=rsX
def nG(c d:BCU)(l:List BP)(s131_8:Int)(k:KT):OLR:=match decide (s131_8<((oE c l).length:Int))with|true=>(match aH (oE c l) s131_8 with|some x1=>(og (decide (okC 4000 d/\okC 4000 x1)) (match KS d x1 with|true=>some [RV.d .bool (decide (s131_8>=0))]|false=>k 6 (n9 c d l (i64.wrap (s131_8+1)))))|none=>none)|false=>some [RV.d .bool (decide ((-1)>=0))]
theorem tB(c d:BCU)(l:List BP)(s131_8:Int):RN SJ 6 (n9 c d l s131_8) (nG c d l s131_8):=rnX
theorem aeu(c d:BCU)(l:List BP)(h:wW c d l):∀(j i:Nat),i+j=(oE c l).length->SJ.Runs 6 (n9 c d l (i:Int)) [.d .bool (((oE c l).drop i).any (KS d))]:=by
 obtain⟨hn,ho⟩:=U2 h.1;intro j;induction j with
 |zero=>
  intro i hi;refine tB _ _ _ _ ⟨0,?_⟩;unfold nG;rw[aX (by omega),wH (by omega)];rfl
 |succ j ih=>
  intro i hi;have hil:i<(oE c l).length:=by omega
  obtain⟨n,hn⟩:=ih (i+1) (by omega);refine tB _ _ _ _ ⟨n,?_⟩;unfold nG;rw[aK hil,ai,amg hil,jm hil,List.any_cons,aT (by omega)];dsimp only;rw[dT (show okC 4000 d/\okC 4000 (oE c l)[i] from⟨h.2,ho _ (ams _)⟩)];cases KS d (oE c l)[i]
  ·exact hn
  ·dsimp only;rw[dT (show(i:Int)>=0 by omega)];rfl
def Yn:Cn 258 [tCU,tCU,(.sl tP)]:=cn λ(c d:BCU) (l:List BP)=>lf (wW c d l) [.d .bool (xo c d l)] λh=>by
 obtain⟨n,hn⟩:=aeu c d l h (oE c l).length 0 (amx _);refine a8 Rj (afH _ _ _ ⟨n,?_⟩);unfold Zk;rw[dT h.1];exact hn
end
theorem lh(q:Rat):(aD q 0== -1)=decide (q<0):=by
 unfold aD;by_cases h:q<0
 ·rw[amh h];rfl
 ·rw[ami h];by_cases h':0<q
  ·rw[amh h'];rfl
  ·rw[ami h'];rfl
def rC:List En:=[⟨85,fS,dX⟩,⟨47,io,eL⟩,⟨260,nN,jn⟩,⟨266,lW,gQ⟩,⟨261,jC,fC⟩,⟨46,jJ,fq⟩,⟨141,nE,jB⟩,⟨332,ya,tw⟩,enL agz,enL ahW,enL OT,enL Yp,enL X0,enL WS,enL afl]
def afI:Cn 367 [tR,tR]:=cn λ(a b:BR)=>lf (okR a/\okR b) [.d tR (am (ag a+ag b))] λh=>qw [RV.d tR (hAd a b)] (eU rC) h
def ajA:Cn 346 [tR,tR]:=cn λ(a b:BR)=>lf (okR a/\okR b) [.d tR (am (ag a-ag b))] λh=>qw [RV.d tR (hSu a b)] (eU rC) h
def aj3:Cn 347 [tR,tR]:=cn λ(a b:BR)=>lf (okR a/\okR b) [.d tR (am (ag a*ag b))] λh=>qw [RV.d tR (hMu a b)] (eU rC) h
def ai1:Cn 348 [tR,tR]:=cn λ(a b:BR)=>lf (kV a b) [.d tR (am (ag a/ag b))] λh=>qw [RV.d tR (hDi a b)] (eU rC) h
def Z6(a b:BR)(_k:KT):OLR:=match decide (okR a/\okR b)with|true=>some [RV.d .bool ((aD (ag a) (ag b))==0)]|false=>none
def ai6:Cn 196 [tR,tR]:=cn λ(a b:BR)=>lf (okR a/\okR b) [.d .bool (decide (ag a=ag b))] λh=>by
 refine aA rC (Z6 a b) ⟨0,?_⟩;unfold Z6;rw[dT h];simp only[ao]
def Yl(x u y v k:BR)(_k:KT):OLR:=og (decide (ok Rat 100000 x/\ok Rat 100000 u/\ok Rat 100000 k/\0<=ag k)) (og (decide (ok Rat 100000 y/\ok Rat 100000 v/\ok Rat 100000 k/\0<=ag k)) (og (decide (okT 15000 (hid (enc (mkR (ag x) (ag u) (ag k))))/\okT 15000 (hid (enc (mkR (ag y) (ag v) (ag k))))/\C7 (dec (hid (enc (mkR (ag x) (ag u) (ag k))))) (dec (hid (enc (mkR (ag y) (ag v) (ag k))))))) (some [RV.d tP (hid (enc (mkP (dec (hid (enc (mkR (ag x) (ag u) (ag k))))) (dec (hid (enc (mkR (ag y) (ag v) (ag k))))))))])))
def ah4:Cn 140 [tR,tR,tR,tR,tR]:=cn λ(x u y v k:BR)=>lf (ok Rat 1000 x/\ok Rat 1000 u/\ok Rat 1000 y/\ok Rat 1000 v/\ok Rat 1000 k/\0<=ag k) [.d tP (enc (pB (ag x) (ag u) (ag y) (ag v) (ag k)))] λh=>by
 refine aA rC (Yl x u y v k) ⟨0,?_⟩;obtain⟨hx,hu,hy,hv,hk,h0⟩:=h;obtain⟨x,rfl,bx⟩:=aM hx;obtain⟨u,rfl,bu⟩:=aM hu;obtain⟨y,rfl,b_y⟩:=aM hy;obtain⟨v,rfl,bv⟩:=aM hv;obtain⟨k,rfl,bk⟩:=aM hk;have h0:0<=(dec (enc k):Rat):=h0;rw[au]at h0;have nk:Nn k:=⟨h0⟩
 have n0:decide (0<=k)=true:=amh nk.le;have hm:decide (C7 (mkR x u k) (mkR y v k))=true:=amh (Bu _ _ _ _ _);unfold Yl pB;simp only[bE,Nat.reduceAdd,Nat.reduceLeDiff,aP,n0,hm];try rfl
def ri:List En:=enL afI::enL ajA::enL aj3::enL ai1::enT ai6::enL ah4::rC
def W5(l m:BO3)(_k:KT):OLR:=og (o2 l.1 m.2.1) (og (o2 m.1 l.2.1) (og (o2 (hMu l.1 m.2.1) (hMu m.1 l.2.1)) (match decide (ag (hMu l.1 m.2.1)=ag (hMu m.1 l.2.1))with|true=>(og (o2 l.1 m.2.2) (og (o2 m.1 l.2.2) (og (o2 (hMu l.1 m.2.2) (hMu m.1 l.2.2)) (match decide (ag (hMu l.1 m.2.2)=ag (hMu m.1 l.2.2))with|true=>(og (o2 l.2.1 m.2.2) (og (o2 m.2.1 l.2.2) (og (o2 (hMu l.2.1 m.2.2) (hMu m.2.1 l.2.2)) (some [RV.d .bool (decide (ag (hMu l.2.1 m.2.2)=ag (hMu m.2.1 l.2.2)))]))))|false=>some [RV.d .bool false]))))|false=>some [RV.d .bool false])))
def XP:Cn 143 [tO,tO]:=cn λ(l m:BO3)=>lf (cK l/\cK m) [.d .bool (pD (dec l) (dec m))] λh=>by
 refine aA ri (W5 l m) ⟨0,?_⟩;obtain⟨hl,hm⟩:=h;obtain⟨l,rfl,bl,nl⟩:=dU hl;obtain⟨m,rfl,bm,nm⟩:=dU hm;unfold W5 pD;have c1:l.2.1*m.1=m.1*l.2.1:=ao1 _ _;have c2:l.2.2*m.1=m.1*l.2.2:=ao1 _ _;have c3:l.2.2*m.2.1=m.2.1*l.2.2:=ao1 _ _;simp only[bE,Nat.reduceAdd,Nat.reduceLeDiff,c1,c2,c3];cases decide (l.1*m.2.1=m.1*l.2.1)<;>cases decide (l.1*m.2.2=m.1*l.2.2)<;>rfl
def X1(c d:BO3)(_k:KT):OLR:=og (o2 c.1 d.1) (match decide (ag c.1=ag d.1)with|true=>(og (o2 c.2.1 d.2.1) (match decide (ag c.2.1=ag d.2.1)with|true=>(og (o2 c.2.2 d.2.2) (some [RV.d .bool (decide (ag c.2.2=ag d.2.2))]))|false=>some [RV.d .bool false]))|false=>some [RV.d .bool false])
def aae:Cn 142 [tO,tO]:=cn λ(c d:BO3)=>lf (bi c/\bi d) [.d .bool (pE (dec c) (dec d))] λh=>by
 refine aA ri (X1 c d) ⟨0,?_⟩;obtain⟨hc,hd⟩:=h;obtain⟨c,rfl,bc,nc⟩:=b8 hc;obtain⟨d,rfl,bd,nd⟩:=b8 hd;unfold X1 pE;simp only[bE,Nat.reduceLeDiff];cases decide (c.1=d.1)<;>cases decide (c.2.1=d.2.1)<;>rfl
def Yc(c d:BO3)(_k:KT):OLR:=og (o2 c.1 d.1) (match(aD (ag c.1) (ag d.1))==0 with|true=>(og (o2 c.2.1 d.2.1) (some [RV.d .bool ((aD (ag c.2.1) (ag d.2.1))==0)]))|false=>some [RV.d .bool false])
def aiP:Cn 342 [tO,tO]:=cn λ(c d:BO3)=>lf (bi c/\bi d) [.d .bool (jL (dec c) (dec d))] λh=>by
 refine aA ri (Yc c d) ⟨0,?_⟩;obtain⟨hc,hd⟩:=h;obtain⟨c,rfl,bc,nc⟩:=b8 hc;obtain⟨d,rfl,bd,nd⟩:=b8 hd;unfold Yc jL;simp only[bE,Nat.reduceLeDiff,ao];cases decide (c.1=d.1)<;>rfl
def ZC(c:BO3)(_k:KT):OLR:=og (o2 c.1 c.1) (og (o2 c.2.1 c.2.1) (og (o2 (hMu c.1 c.1) (hMu c.2.1 c.2.1)) (og (o2 (hAd (hMu c.1 c.1) (hMu c.2.1 c.2.1)) c.2.2) (some [RV.d tR (hSu (hAd (hMu c.1 c.1) (hMu c.2.1 c.2.1)) c.2.2)]))))
def ags:Cn 366 [tO]:=cn λ(c:BO3)=>lf (bi c) [.d tR (am (rG (dec c)))] λh=>by
 refine aA ri (ZC c) ⟨0,?_⟩;have hc:=h;obtain⟨c,rfl,bc,nc⟩:=b8 hc;unfold ZC rG;simp only[bE,Nat.reduceAdd,Nat.reduceLeDiff]
def ZT(l c:BO3)(_k:KT):OLR:=let y1:=hid (enc (Tj (dec l) (dec (c.1,c.2.1))));let y2:=hSu (y1.2) c.2.1;let y3:=hMu (hSu (y1.1) c.1) (hSu (y1.1) c.1);let y4:=hAd y3 (hMu y2 y2);let y5:=hAd (hMu l.1 l.1) (hMu l.2.1 l.2.1);let y6:=kV (hSu c.2.2 y4) y5;let y7:=hDi (hSu c.2.2 y4) y5;let y8:OLR:=match decide y6 with|true=>some [RV.d tR y7,RV.d tV y1]|false=>none;let y9:OLR:=match decide (okR (hMu l.1 l.1)/\okR (hMu l.2.1 l.2.1))with|true=>y8|false=>none;let y10:OLR:=match decide (okR l.2.1/\okR l.2.1)with|true=>y9|false=>none;og (decide (ok Ln 300 l/\ok (Rat×Rat) 200 (c.1,c.2.1)/\((dec l:Ln).1≠0\/(dec l:Ln).2.1≠0))) (og (o2 (y1.1) c.1) (og (o2 (y1.2) c.2.1) (og (o2 (hSu (y1.1) c.1) (hSu (y1.1) c.1)) (og (o2 y2 y2) (og (o2 y3 (hMu y2 y2)) (og (o2 c.2.2 y4) (cW (og (o2 l.1 l.1) (cW (og (o2 l.2.1 l.2.1) (cW (og (o2 (hMu l.1 l.1) (hMu l.2.1 l.2.1)) (cW (og (decide y6) (dup (.b .l .l) (some [RV.d tR y7,RV.d tV y1]))) y8)) y9)) y10)) (og (o2 l.1 l.1) y10))))))))
def aku:Cn 344 [tO,tO]:=cn λ(l c:BO3)=>lf (cK l/\bi c) [.d tR (am (fN (dec l) (dec c))),.d tV (enc (ftL (dec l) (dec c)))] λh=>by
 refine aA ri (ZT l c) ⟨0,?_⟩;obtain⟨hl,hc⟩:=h;obtain⟨l,rfl,bl,nl⟩:=dU hl;obtain⟨c,rfl,bc,nc⟩:=b8 hc;have ol:=amh (lV (l:=l) nl);have bl:Bd l 63:=ado;have bv:Bd ((c.1,c.2.1):Rat×Rat) 4:=inferInstance;have hn:=oT nl;have bn:Bd (cG l) 49:=inferInstanceAs (Bd (l.1*l.1+l.2.1*l.2.1) _);have bf:=GC (l:=l) (c:=c);have b1:Bd (ftL l c).1 163:=inferInstance;have b2:Bd (ftL l c).2 163:=inferInstance;have e1:l.1*l.1+l.2.1*l.2.1=cG l:=rfl;unfold ZT fN Ci;simp only[bE,Nat.reduceAdd,Nat.reduceLeDiff,Lx,nl,Wc,e1,hn,ne_eq,an2];try rfl
def Xd(c:BO3)(_k:KT):OLR:=og (decide (aR (1:Int))) (og (decide (aR (0:Int))) (og (o1 (hid (am ((1:Int):Rat)))) (og (decide (ok Rat 1000 c.1/\ok Rat 1000 (hNe (hid (am ((1:Int):Rat))))/\ok Rat 1000 c.2.1/\ok Rat 1000 (hid (am ((0:Int):Rat)))/\ok Rat 1000 c.2.2/\0<=ag c.2.2)) (og (decide (ok Rat 1000 c.1/\ok Rat 1000 (hid (am ((1:Int):Rat)))/\ok Rat 1000 c.2.1/\ok Rat 1000 (hid (am ((0:Int):Rat)))/\ok Rat 1000 c.2.2/\0<=ag c.2.2)) (some [RV.d tP (hid (enc (pB (ag c.1) (ag (hNe (hid (am ((1:Int):Rat))))) (ag c.2.1) (ag (hid (am ((0:Int):Rat)))) (ag c.2.2)))),RV.d tP (hid (enc (pB (ag c.1) (ag (hid (am ((1:Int):Rat)))) (ag c.2.1) (ag (hid (am ((0:Int):Rat)))) (ag c.2.2))))])))))
def Ta:Cn 95 [tO]:=cn λ(c:BO3)=>lf (bi c) [.d tP (enc (dS (dec c))),.d tP (enc (eu (dec c)))] λh=>by
 refine aA ri (Xd c) ⟨0,?_⟩;have hc:=h;obtain⟨c,rfl,bc,nc⟩:=b8 hc;have b0:Bd ((0:Int):Rat) 3:=dZ (by decide);have b1:Bd ((1:Int):Rat) 3:=dZ (by decide);have i0:decide (aR 0)=true:=by decide
 have i1:decide (aR 1)=true:=by decide
 have nc':decide (0<=c.2.2)=true:=amh (by grind);unfold Xd dS eu;simp only[bE,Nat.reduceLeDiff,i0,i1,nc'];rfl
def wP:List En:=enT XP::enT aae::enT aiP::enL ags::enL aku::enL Ta::ri
def Xn(l m:BO3)(_k:KT):OLR:=og (o2 l.1 m.2.1) (og (o2 m.1 l.2.1) (og (o2 (hMu l.1 m.2.1) (hMu m.1 l.2.1)) (og (o1 (hSu (hMu l.1 m.2.1) (hMu m.1 l.2.1))) (match(aD (ag (hSu (hMu l.1 m.2.1) (hMu m.1 l.2.1))) 0)==0 with|true=>(og (decide (cK l/\cK m)) (match pD (dec l) (dec m)with|true=>some [RV.d (.sl tP) ([]),RV.d apE 10]|false=>some [RV.d (.sl tP) ([]),RV.d apE 0]))|false=>(og (o2 l.2.2 m.2.1) (og (o2 m.2.2 l.2.1) (og (o2 (hMu l.2.2 m.2.1) (hMu m.2.2 l.2.1)) (og (decide (kV (hSu (hMu l.2.2 m.2.1) (hMu m.2.2 l.2.1)) (hSu (hMu l.1 m.2.1) (hMu m.1 l.2.1)))) (og (o2 l.1 m.2.2) (og (o2 m.1 l.2.2) (og (o2 (hMu l.1 m.2.2) (hMu m.1 l.2.2)) (og (decide (kV (hSu (hMu l.1 m.2.2) (hMu m.1 l.2.2)) (hSu (hMu l.1 m.2.1) (hMu m.1 l.2.1)))) (og (decide (ok (Rat×Rat) 100000 (hDi (hSu (hMu l.2.2 m.2.1) (hMu m.2.2 l.2.1)) (hSu (hMu l.1 m.2.1) (hMu m.1 l.2.1)),hDi (hSu (hMu l.1 m.2.2) (hMu m.1 l.2.2)) (hSu (hMu l.1 m.2.1) (hMu m.1 l.2.1))))) (some [RV.d (.sl tP) ([hid (enc (atP (dec (hDi (hSu (hMu l.2.2 m.2.1) (hMu m.2.2 l.2.1)) (hSu (hMu l.1 m.2.1) (hMu m.1 l.2.1)),hDi (hSu (hMu l.1 m.2.2) (hMu m.1 l.2.2)) (hSu (hMu l.1 m.2.1) (hMu m.1 l.2.1))))))]),RV.d apE 0]))))))))))))))
def aga:Cn 314 [tO,tO]:=cn λ(l m:BO3)=>lf (cK l/\cK m) [.d (.sl tP) ((qu (dec l) (dec m)).map enc),.d apE (Sd (dec l) (dec m))] λh=>by
 refine aA wP (Xn l m) ⟨0,?_⟩;obtain⟨hl,hm⟩:=h;obtain⟨l,rfl,bl,nl⟩:=dU hl;obtain⟨m,rfl,bm,nm⟩:=dU hm;have ol:=amh (lV (l:=l) nl);have om:=amh (lV (l:=m) nm);have bc:Bd (eI l m) 49:=inferInstanceAs (Bd (l.1*m.2.1-m.1*l.2.1) _);have e0:l.1*m.2.1-m.1*l.2.1=eI l m:=rfl;have e1:l.2.2*m.2.1-m.2.2*l.2.1=pu l m:=rfl;have e2:l.1*m.2.2-m.1*l.2.2=pi l m:=rfl;have bx:Bd (pu l m) 151:=inferInstanceAs (Bd (l.2.2*m.2.1-m.2.2*l.2.1) _);have b_:Bd (pi l m) 151:=inferInstanceAs (Bd (l.1*m.2.2-m.1*l.2.2) _);unfold Xn qu Sd;simp only[bE,Nat.reduceAdd,Nat.reduceLeDiff,ao,ol,om,e0,e1,e2];by_cases h0:eI l m=0
 ·simp only[amh h0,Bool.not_true];cases pD l m<;>rfl
 ·simp only[bE,Nat.reduceAdd,Nat.reduceLeDiff,h0,ne_eq,an2,Bool.not_false,Lx];rfl
def Xr(c d:BO3)(_k:KT):OLR:=og (decide (bi c/\bi d)) (match jL (dec c) (dec d)with|true=>some [RV.d tO (((false,[]),(false,[])),(((false,[]),(false,[])),((false,[]),(false,[])))),RV.d apE 6]|false=>(og (decide (aR (2:Int))) (og (o2 d.1 c.1) (og (o2 (hid (am ((2:Int):Rat))) (hSu d.1 c.1)) (og (o2 d.2.1 c.2.1) (og (o2 (hid (am ((2:Int):Rat))) (hSu d.2.1 c.2.1)) (og (decide (bi d)) (og (decide (bi c)) (og (o2 (hid (am (rG (dec d)))) (hid (am (rG (dec c))))) (some [RV.d tO (hMu (hid (am ((2:Int):Rat))) (hSu d.1 c.1),(hMu (hid (am ((2:Int):Rat))) (hSu d.2.1 c.2.1),hSu (hid (am (rG (dec d)))) (hid (am (rG (dec c)))))),RV.d apE 0]))))))))))
def aky:Cn 343 [tO,tO]:=cn λ(c d:BO3)=>lf (bi c/\bi d) [.d tO (vV (dec c) (dec d)),.d apE (Vs (dec c) (dec d))] λh=>by
 refine aA wP (Xr c d) ⟨0,?_⟩;obtain⟨hc,hd⟩:=h;obtain⟨c,rfl,bc,nc⟩:=b8 hc;obtain⟨d,rfl,bd,nd⟩:=b8 hd;have oc:=amh (jM (c:=c) nc);have od:=amh (jM (c:=d) nd);have i2:decide (aR 2)=true:=by decide
 have b2:Bd ((2:Int):Rat) 3:=dZ (by decide);have f1:Bd (rG c) 31:=(inferInstance:Bd (c.1*c.1+c.2.1*c.2.1-c.2.2) _).mono (by decide);have f2:Bd (rG d) 31:=(inferInstance:Bd (d.1*d.1+d.2.1*d.2.1-d.2.2) _).mono (by decide);unfold Xr vV Vs;simp only[bE,Nat.reduceAdd,Nat.reduceLeDiff,oc,od,i2];cases jL c d
 ·rfl
 ·rfl
def ain:Ctx:=CX (ens wP) []
def aas(l c:BO3)(_k:KT):OLR:=let y1:=hid (am (fN (dec l) (dec c)));let y2:=hid (enc (ftL (dec l) (dec c)));let y3:=aD (ag l.2.1) 0;let y4:=hNe (hNe (hNe l.1));let y5:=enc (pB (ag (y2.1)) (ag (hNe l.2.1)) (ag (y2.2)) (ag (hNe (hNe l.1))) (ag y1));let y6:OLR:=match decide (okR l.2.1)with|true=>(og (o1 (hNe l.1)) (og (o1 (hNe l.2.1)) (og (o1 (hNe (hNe l.1))) (og (decide (ok Rat 1000 (y2.1)/\ok Rat 1000 (hNe (hNe l.2.1))/\ok Rat 1000 (y2.2)/\ok Rat 1000 y4/\ok Rat 1000 y1/\0<=ag y1)) (og (decide (ok Rat 1000 (y2.1)/\ok Rat 1000 (hNe l.2.1)/\ok Rat 1000 (y2.2)/\ok Rat 1000 (hNe (hNe l.1))/\ok Rat 1000 y1/\0<=ag y1)) (some [RV.new 73 tP ([hid (enc (pB (ag (y2.1)) (ag (hNe (hNe l.2.1))) (ag (y2.2)) (ag y4) (ag y1))),hid y5])]))))))|false=>none;let y7:OLR:=match decide (okR l.2.1)with|true=>(og (o1 (hNe l.1)) (og (decide (ok Rat 1000 (y2.1)/\ok Rat 1000 (hNe l.2.1)/\ok Rat 1000 (y2.2)/\ok Rat 1000 (hNe (hNe l.1))/\ok Rat 1000 y1/\0<=ag y1)) (og (decide (ok Rat 1000 (y2.1)/\ok Rat 1000 l.2.1/\ok Rat 1000 (y2.2)/\ok Rat 1000 (hNe l.1)/\ok Rat 1000 y1/\0<=ag y1)) (some [RV.new 73 tP ([hid y5,hid (enc (pB (ag (y2.1)) (ag l.2.1) (ag (y2.2)) (ag (hNe l.1)) (ag y1)))])]))))|false=>none;og (decide (cK l/\bi c)) (og (o1 y1) (match(aD (ag y1) 0)==(-1)with|true=>some [RV.new 73 tP []]|false=>(match(aD (ag y1) 0)==0 with|true=>(og (decide (ok (Rat×Rat) 100000 y2)) (some [RV.new 73 tP ([hid (enc (atP (dec y2)))])]))|false=>(og (o1 l.1) (og (o1 l.2.1) (match decide (y3<0)with|true=>y6|false=>(match y3==0 with|true=>(og (o1 (hNe l.1)) (match decide ((aD (ag (hNe l.1)) 0)<0)with|true=>y6|false=>y7))|false=>y7)))))))
theorem afZ(l c:BO3):RS ain 313 [.d tO l,.d tO c] (aas l c):=rsX
def aiA:Cn 313 [tO,tO]:=cn λ(l c:BO3)=>lf (cK l/\bi c) [.d (.sl tP) ((mH (dec l) (dec c)).map enc)] λh=>by
 refine Con.new_d (et:=73) (a8 wP (afZ _ _ ⟨0,?_⟩));obtain⟨hl,hc⟩:=h;obtain⟨l,rfl,bl,nl⟩:=dU hl;obtain⟨c,rfl,bc,nc⟩:=b8 hc;have ol:=amh (lV (l:=l) nl);have oc:=amh (jM (c:=c) nc);have bf:=GC (l:=l) (c:=c);have bk:=NG (l:=l) (c:=c);have b1:Bd (ftL l c).1 163:=inferInstance;have b2:Bd (ftL l c).2 163:=inferInstance;unfold aas mH;simp only[bE,Nat.reduceLeDiff,ao,aq,lh,ol,oc];by_cases h0:fN l c<0
 ·simp only[amh h0];rfl
 ·simp only[ami h0];by_cases h1:fN l c=0
  ·simp only[amh h1];rfl
  ·have hp:decide (0<=fN l c)=true:=amh (by grind);simp only[ami h1,hp,bE];unfold lcM lcN uL uU Lw;cases decide (l.2.1<0)<;>cases decide (l.2.1=0)<;>cases decide (-l.1<0)<;>rfl
def S4:List En:=enL aga::enL aky::enL aiA::wP
def YE(c d:BO3)(_k:KT):OLR:=og (decide (bi c/\bi d)) (match pE (dec c) (dec d)with|true=>some [RV.d (.sl tP) ([]),RV.d apE 10]|false=>(og (decide (bi c/\bi d)) (match jL (dec c) (dec d)with|true=>some [RV.d (.sl tP) ([]),RV.d apE 0]|false=>(og (decide (bi c/\bi d)) (og (decide (cK (hid (vV (dec c) (dec d)))/\bi c)) (some [RV.d (.sl tP) ((mH (dec (hid (vV (dec c) (dec d)))) (dec c)).map enc),RV.d apE 0]))))))
def aiz:Cn 312 [tO,tO]:=cn λ(c d:BO3)=>lf (bi c/\bi d) [.d (.sl tP) ((Dq (dec c) (dec d)).map enc),.d apE (Ur (dec c) (dec d))] λh=>by
 refine aA S4 (YE c d) ⟨0,?_⟩;obtain⟨hc,hd⟩:=h;obtain⟨c,rfl,bc,nc⟩:=b8 hc;obtain⟨d,rfl,bd,nd⟩:=b8 hd;have oc:=amh (jM (c:=c) nc);have od:=amh (jM (c:=d) nd);unfold YE Dq Ur;simp only[bE,oc,od];cases hs:pE c d
 ·cases hc:jL c d
  ·have ol:cK (enc (o0 c d)):=LK hc;have er:vV c d=enc (o0 c d):=by unfold vV;rw[hc];rfl
   simp only[er,dT ol,bE];try rfl
  ·rfl
 ·have hc:jL c d=true:=by
   unfold pE at hs;unfold jL;cases h1:decide (c.1=d.1)
   ·rw[h1]at hs;cases hs
   ·cases h2:decide (c.2.1=d.2.1)
    ·rw[h1,h2]at hs;cases hs
    ·rfl
  rw[hc];rfl
def OI:List En:=enL aiz::S4
def Xo(a b:BCU)(_k:KT):OLR:=match a.1 with|true=>(match b.1 with|true=>(og (decide (bi a.2.2.1/\bi b.2.2.1)) (some [RV.d (.sl tP) ((Dq (dec a.2.2.1) (dec b.2.2.1)).map enc),RV.d apE (Ur (dec a.2.2.1) (dec b.2.2.1))]))|false=>(match a.1 with|true=>(og (decide (cK b.2.1/\bi a.2.2.1)) (some [RV.d (.sl tP) ((mH (dec b.2.1) (dec a.2.2.1)).map enc),RV.d apE 0]))|false=>(match b.1 with|true=>(og (decide (cK a.2.1/\bi b.2.2.1)) (some [RV.d (.sl tP) ((mH (dec a.2.1) (dec b.2.2.1)).map enc),RV.d apE 0]))|false=>(og (decide (cK a.2.1/\cK b.2.1)) (some [RV.d (.sl tP) ((qu (dec a.2.1) (dec b.2.1)).map enc),RV.d apE (Sd (dec a.2.1) (dec b.2.1))])))))|false=>(match a.1 with|true=>(og (decide (cK b.2.1/\bi a.2.2.1)) (some [RV.d (.sl tP) ((mH (dec b.2.1) (dec a.2.2.1)).map enc),RV.d apE 0]))|false=>(match b.1 with|true=>(og (decide (cK a.2.1/\bi b.2.2.1)) (some [RV.d (.sl tP) ((mH (dec a.2.1) (dec b.2.2.1)).map enc),RV.d apE 0]))|false=>(og (decide (cK a.2.1/\cK b.2.1)) (some [RV.d (.sl tP) ((qu (dec a.2.1) (dec b.2.1)).map enc),RV.d apE (Sd (dec a.2.1) (dec b.2.1))]))))
def Xe:Cn 254 [tCU,tCU]:=cn λ(a b:BCU)=>lf (fa a b) [.d (.sl tP) ((jW (dC a) (dC b)).map enc),.d apE (agt (dC a) (dC b))] λh=>by
 refine aA OI (Xo a b) ⟨0,?_⟩;obtain⟨⟨a1,a2⟩,b1,b2⟩:=h;unfold Xo jW agt;obtain⟨aa,al,ac,aw,af,at_⟩:=a;obtain⟨ba,bl,bc,bw,bf,bt⟩:=b;cases aa<;>cases ba
 ·have h1:=a2 rfl;have h2:=b2 rfl;simp only[dT (show cK al/\cK bl from⟨h1,h2⟩)];rfl
 ·have h1:=a2 rfl;have h2:=b1 rfl;simp only[dT (show cK al/\bi bc from⟨h1,h2⟩)];rfl
 ·have h1:=a1 rfl;have h2:=b2 rfl;simp only[dT (show cK bl/\bi ac from⟨h2,h1⟩)];rfl
 ·have h1:=a1 rfl;have h2:=b1 rfl;simp only[dT (show bi ac/\bi bc from⟨h1,h2⟩)];rfl
def ZE(a b:BCU)(_k:KT):OLR:=match !(a.1==b.1)with|true=>some [RV.d .bool false]|false=>(match a.1 with|true=>(og (decide (bi a.2.2.1/\bi b.2.2.1)) (some [RV.d .bool (pE (dec a.2.2.1) (dec b.2.2.1))]))|false=>(og (decide (cK a.2.1/\cK b.2.1)) (some [RV.d .bool (pD (dec a.2.1) (dec b.2.1))])))
def NW:Cn 97 [tCU,tCU]:=cn λ(a b:BCU)=>lf (fa a b) [.d .bool (cf (dC a) (dC b))] λh=>by
 refine aA OI (ZE a b) ⟨0,?_⟩;obtain⟨⟨a1,a2⟩,b1,b2⟩:=h;unfold ZE cf;obtain⟨aa,al,ac,aw,af,at_⟩:=a;obtain⟨ba,bl,bc,bw,bf,bt⟩:=b;cases aa<;>cases ba
 ·have h1:=a2 rfl;have h2:=b2 rfl;simp only[dT (show cK al/\cK bl from⟨h1,h2⟩)];rfl
 ·rfl
 ·rfl
 ·have h1:=a1 rfl;have h2:=b1 rfl;simp only[dT (show bi ac/\bi bc from⟨h1,h2⟩)];rfl
section
theorem xy{c d:BCU}(h:fU c d):(BK c d).length<=4/\∀x∈BK c d,okP 4000 x:=by
 obtain⟨⟨h1,h2⟩,h3,h4⟩:=h;have up:∀{k x},okP k x->k<=4000->okP 4000 x:=λh hk=>aV h hk (by decide);unfold BK;cases hs:cf (dC c) (dC d)
 ·refine⟨?_,λx hx=>?_⟩
  ·simp only[cond_false,anA];have:∀l c,[BdL l]->[BdC c]->(mH l c).length<=4:=λl c _ _=>amt wm.1 (by decide);obtain⟨c1,c2⟩:=A7 h2;obtain⟨d1,d2⟩:=A7 h4;have ec:(dC c).1=c.1:=rfl;have ed:(dC d).1=d.1:=rfl;unfold jW;rw[ec,ed];cases ha:c.1<;>cases hb:d.1
   ·have i1:=(c2 ha).1;have i2:=(d2 hb).1;exact amt BC.1 (by decide)
   ·have i1:=(c2 ha).1;have i2:=(d1 hb).1;exact this _ _
   ·have i1:=(c1 ha).1;have i2:=(d2 hb).1;exact this _ _
   ·have i1:=(c1 ha).1;have i2:=(d1 hb).1;show(Dq _ _).length<=4;unfold Dq;cases hq:jL (ciC (dC c)) (ciC (dC d))
    ·have i3:BdL (o0 (ciC (dC c)) (ciC (dC d))):=C8;exact this _ _
    ·exact aoE _
  ·obtain⟨p,hp,rfl⟩:=aoU.1 hx;obtain⟨b,r,_,_⟩:=RE.supM_on h2 h4 hp;exact amj (aU (j:=1200) (by decide) (by decide))
 ·refine⟨by simp,λx hx=>?_⟩;have:x=c.2.2.2.2.1\/x=c.2.2.2.2.2\/x=d.2.2.2.2.1\/x=d.2.2.2.2.2:=by simpa using hx
  rcases this with e|e|e|e<;>rw[e]
  ·exact up h1.2.2.1 (by decide)
  ·exact up h1.2.2.2 (by decide)
  ·exact up h3.2.2.1 (by decide)
  ·exact up h3.2.2.2 (by decide)
theorem JW{α:Type}(z:α)(L T:List α):((ji z ((L.length:Int).toNat) ((((L++T).length:Int)).toNat-(L.length:Int).toNat) (L++T)).drop ((0:Int).toNat)).take ((L.length:Int).toNat-(0:Int).toNat)=L/\
  L.length<=(ji z ((L.length:Int).toNat) ((((L++T).length:Int)).toNat-(L.length:Int).toNat) (L++T)).length:=by
 have hcl:(ji z ((L.length:Int).toNat) ((((L++T).length:Int)).toNat-(L.length:Int).toNat) (L++T)).take L.length=L:=by
  unfold ji;rw[show((L.length:Int)).toNat=L.length by omega,amH,List.take_append_of_le_length (by simp),ao8,Nat.min_self,List.take_left' rfl]
 refine⟨?_,?_⟩
 ·rw[show((0:Int)).toNat=0 from rfl,an3,show((L.length:Int)).toNat-0=L.length by omega,hcl]
 ·have:=congrArg List.length hcl;rw[amV]at this;omega
def acg:Cn 97 [tCU,tCU]:=cn λ(a b:BCU)=>lf (fa a b/\cf (dC a) (dC b)=true) [.d .bool true] λh=>by
 have e:CQq7 97 [.d tCU a,.d tCU b] [.d .bool (cf (dC a) (dC b))]:=(NW.g a b).h h.1;rw[h.2]at e;exact e
def NY:List En:=[enT acg,enT PT,enL Xe,enK NE,enF Yn,enK GK]
def VA:NT:=[((241,6),{keep:=[0,1,7,8],hl:=4}),((181,16),{keep:=[0,1,5,6],hl:=4}),((192,11),{keep:=[2,3,26,28],hl:=0}),((181,3),{keep:=[0,1,10],hl:=0}),((241,18),{keep:=[0,1,5,7,8,16],hl:=0}),((181,28),{keep:=[0,1,5,6,7,28],hl:=0})]
def kY:Ctx:=CX (ens NY) VA
def jp(c d:BCU)(s241_8:Int):Cfg:=⟨241,[.blk 0,.seq 25],[(0,.own 3),(1,.clo 256 [0,1]),(7,SI (([c.2.2.2.2.1,c.2.2.2.2.2,d.2.2.2.2.1,d.2.2.2.2.2]).length:Int)),(8,SI s241_8)],[.box 75 (Ty.split tCU c),.box 75 (Ty.split tCU d),.gone,.row 73 tP ([c.2.2.2.2.1,c.2.2.2.2.2,d.2.2.2.2.1,d.2.2.2.2.2])],4,[⟨181,[.seq 4],3,2,[(0,.own 3),(1,.clo 256 [0,1])],4,none⟩,⟨192,[.seq 12],11,3,[(2,.box 0 0),(3,.box 1 0),(26,.own 3)],0,none⟩]⟩
def db(c d:BCU)(s181_5 s181_6:Int)(r181_3:List BP):Cfg:=⟨181,[.blk 0,.seq 35],[(0,.own 3),(1,.clo 256 [0,1]),(5,SI s181_5),(6,SI s181_6)],[.box 75 (Ty.split tCU c),.box 75 (Ty.split tCU d),.gone,.row 73 tP r181_3],4,[⟨192,[.seq 12],11,3,[(2,.box 0 0),(3,.box 1 0),(26,.own 3)],0,none⟩]⟩
def Rp(c d:BCU)(k:KT):OLR:=match decide (fa c d/\cf (dC c) (dC d)=true)with|true=>(match decide (([c.2.2.2.2.1,c.2.2.2.2.2,d.2.2.2.2.1,d.2.2.2.2.2]).length<=100000)with|true=>k 6 (jp c d 0)|false=>none)|false=>none
theorem aep(c d:BCU):RS kY 192 [.d tCU c,.d tCU d] (Rp c d):=rsX
def iX(c d:BCU)(s241_8:Int)(k:KT):OLR:=match decide (s241_8<(([c.2.2.2.2.1,c.2.2.2.2.2,d.2.2.2.2.1,d.2.2.2.2.2]).length:Int))with|true=>(match aH ([c.2.2.2.2.1,c.2.2.2.2.2,d.2.2.2.2.1,d.2.2.2.2.2]) s241_8 with|some _=>(match true,([c.2.2.2.2.1,c.2.2.2.2.2,d.2.2.2.2.1,d.2.2.2.2.2])[(s241_8).toNat]? with|true,some x1=>(match decide (okC 4000 c/\okP 4000 x1)with|true=>(match !(lw (dC c) (dec x1))with|true=>(match s241_8==(-1)with|true=>(match decide (lj c ([c.2.2.2.2.1,c.2.2.2.2.2,d.2.2.2.2.1,d.2.2.2.2.2]))with|true=>(match decide (fa c d/\cf (dC c) (dC d)=true)with|true=>(match decide (wW c d (dq (dC c) ([c.2.2.2.2.1,c.2.2.2.2.2,d.2.2.2.2.1,d.2.2.2.2.2])))with|true=>some [RV.d (.sl tP) (dq (dC c) ([c.2.2.2.2.1,c.2.2.2.2.2,d.2.2.2.2.1,d.2.2.2.2.2])),RV.d .bool (xo c d (dq (dC c) ([c.2.2.2.2.1,c.2.2.2.2.2,d.2.2.2.2.1,d.2.2.2.2.2])))]|false=>none)|false=>none)|false=>none)|false=>k 16 (db c d s241_8 (i64.wrap (s241_8+1)) ([c.2.2.2.2.1,c.2.2.2.2.2,d.2.2.2.2.1,d.2.2.2.2.2])))|false=>(match decide (okC 4000 d/\okP 4000 x1)with|true=>(match !(lw (dC d) (dec x1))with|true=>(match s241_8==(-1)with|true=>(match decide (lj c ([c.2.2.2.2.1,c.2.2.2.2.2,d.2.2.2.2.1,d.2.2.2.2.2]))with|true=>(match decide (fa c d/\cf (dC c) (dC d)=true)with|true=>(match decide (wW c d (dq (dC c) ([c.2.2.2.2.1,c.2.2.2.2.2,d.2.2.2.2.1,d.2.2.2.2.2])))with|true=>some [RV.d (.sl tP) (dq (dC c) ([c.2.2.2.2.1,c.2.2.2.2.2,d.2.2.2.2.1,d.2.2.2.2.2])),RV.d .bool (xo c d (dq (dC c) ([c.2.2.2.2.1,c.2.2.2.2.2,d.2.2.2.2.1,d.2.2.2.2.2])))]|false=>none)|false=>none)|false=>none)|false=>k 16 (db c d s241_8 (i64.wrap (s241_8+1)) ([c.2.2.2.2.1,c.2.2.2.2.2,d.2.2.2.2.1,d.2.2.2.2.2])))|false=>k 6 (jp c d (i64.wrap (s241_8+1))))|false=>none))|false=>none)|_,_=>none)|none=>none)|false=>(match(-1)==(-1)with|true=>(match decide (lj c ([c.2.2.2.2.1,c.2.2.2.2.2,d.2.2.2.2.1,d.2.2.2.2.2]))with|true=>(match decide (fa c d/\cf (dC c) (dC d)=true)with|true=>(match decide (wW c d (dq (dC c) ([c.2.2.2.2.1,c.2.2.2.2.2,d.2.2.2.2.1,d.2.2.2.2.2])))with|true=>some [RV.d (.sl tP) (dq (dC c) ([c.2.2.2.2.1,c.2.2.2.2.2,d.2.2.2.2.1,d.2.2.2.2.2])),RV.d .bool (xo c d (dq (dC c) ([c.2.2.2.2.1,c.2.2.2.2.2,d.2.2.2.2.1,d.2.2.2.2.2])))]|false=>none)|false=>none)|false=>none)|false=>k 16 (db c d (-1) (i64.wrap ((-1)+1)) ([c.2.2.2.2.1,c.2.2.2.2.2,d.2.2.2.2.1,d.2.2.2.2.2])))
theorem mc(c d:BCU)(s241_8:Int):RN kY 6 (jp c d s241_8) (iX c d s241_8):=rnX
def im(c d:BCU)(s181_5 s181_6:Int)(r181_3:List BP)(k:KT):OLR:=match decide (s181_6<(r181_3.length:Int))with|true=>(match aH r181_3 s181_6 with|some _=>(match true,r181_3[(s181_6).toNat]? with|true,some x1=>(match decide (okC 4000 c/\okP 4000 x1)with|true=>(match !(lw (dC c) (dec x1))with|true=>k 16 (db c d s181_5 (i64.wrap (s181_6+1)) r181_3)|false=>(match decide (okC 4000 d/\okP 4000 x1)with|true=>(match !(!(lw (dC d) (dec x1)))with|true=>(match aH r181_3 s181_5 with|some _=>(match true,r181_3[(s181_5).toNat]? with|true,some _=>k 16 (db c d (i64.wrap (s181_5+1)) (i64.wrap (s181_6+1)) (r181_3.set ((s181_5).toNat) x1))|_,_=>none)|none=>none)|false=>k 16 (db c d s181_5 (i64.wrap (s181_6+1)) r181_3))|false=>none))|false=>none)|_,_=>none)|none=>none)|false=>(match decide ((0:Int)<=s181_5/\s181_5<=(r181_3.length:Int)/\(r181_3.length:Int)<=(r181_3.length:Int))with|true=>(match decide ((0:Int)<=0/\0<=s181_5/\s181_5<=((ji (Ty.zero tP) ((s181_5:Int).toNat) (((r181_3.length:Int):Int).toNat-(s181_5:Int).toNat) r181_3).length:Int))with|true=>(match decide (lj c (((ji (Ty.zero tP) ((s181_5:Int).toNat) (((r181_3.length:Int):Int).toNat-(s181_5:Int).toNat) r181_3).drop ((0:Int).toNat)).take ((s181_5:Int).toNat-(0:Int).toNat)))with|true=>(match decide (fa c d/\cf (dC c) (dC d)=true)with|true=>(match decide (wW c d (dq (dC c) (((ji (Ty.zero tP) ((s181_5:Int).toNat) (((r181_3.length:Int):Int).toNat-(s181_5:Int).toNat) r181_3).drop ((0:Int).toNat)).take ((s181_5:Int).toNat-(0:Int).toNat))))with|true=>some [RV.d (.sl tP) (dq (dC c) (((ji (Ty.zero tP) ((s181_5:Int).toNat) (((r181_3.length:Int):Int).toNat-(s181_5:Int).toNat) r181_3).drop ((0:Int).toNat)).take ((s181_5:Int).toNat-(0:Int).toNat))),RV.d .bool (xo c d (dq (dC c) (((ji (Ty.zero tP) ((s181_5:Int).toNat) (((r181_3.length:Int):Int).toNat-(s181_5:Int).toNat) r181_3).drop ((0:Int).toNat)).take ((s181_5:Int).toNat-(0:Int).toNat))))]|false=>none)|false=>none)|false=>none)|false=>none)|false=>none)
theorem lg(c d:BCU)(s181_5 s181_6:Int)(r181_3:List BP):RN kY 16 (db c d s181_5 s181_6 r181_3) (im c d s181_5 s181_6 r181_3):=rnX
section
variable (c d:BCU) (h:fU c d) (hs:cf (dC c) (dC d)=true)
include h hs
theorem De(L:List BP)(hl:L.length<=4)(ho:∀x∈L,okP 4000 x):(match decide (lj c L)with
  |true=>(match decide (fa c d/\cf (dC c) (dC d)=true)with
   |true=>(match decide (wW c d (dq (dC c) L))with|true=>some [RV.d (.sl tP) (dq (dC c) L),RV.d .bool (xo c d (dq (dC c) L))]|false=>none)
   |false=>none)
  |false=>none)=some [RV.d (.sl tP) (dq (dC c) L),RV.d .bool (xo c d (dq (dC c) L))]:=by
 have hc:okC 4000 c:=bh h.1.1 (by decide) (by decide);have hd:okC 4000 d:=bh h.2.1 (by decide) (by decide);have q:lj c L:=⟨hc,by omega,ho⟩
 have hn:(dq (dC c) L).length<=L.length:=mX;have _q2:wW c d (dq (dC c) L):=⟨⟨hc,by omega,λx hx=>ho x (mN hx)⟩,hd⟩
 rw[dT q,dT (show fa c d/\cf (dC c) (dC d)=true from⟨⟨h.1.2,h.2.2⟩,hs⟩)];dsimp only;rw[dT _q2]
theorem xY:∀(S:List BP) (L J:List BP),J≠[]->(∀x∈L++(J++S),okP 4000 x)->(L++(J++S)).length<=4->
  kY.Runs 16 (db c d (L.length:Int) ((L.length+J.length:Nat):Int) (L++(J++S))) [RV.d (.sl tP) (dq (dC c) (L++S.filter (iq c d))),RV.d .bool (xo c d (dq (dC c) (L++S.filter (iq c d))))]
 |[],L,J,hJ,hok,h4=>by
  have h4':L.length+J.length<=4:=by simpa using h4
  obtain⟨c1,c2⟩:=JW (Ty.zero tP) L J;refine lg _ _ _ _ _ ⟨0,?_⟩;unfold im;rw[amO,aX (by simp)];dsimp only;rw[dT (show(0:Int)<=(L.length:Int)/\(L.length:Int)<=((L++J).length:Int)/\((L++J).length:Int)<=((L++J).length:Int) by simp only[amU];omega)];rw[dT (show(0:Int)<=0/\0<=(L.length:Int)/\(L.length:Int)<=((ji (Ty.zero tP) ((L.length:Int).toNat) ((((L++J).length:Int)).toNat-(L.length:Int).toNat) (L++J)).length:Int) by omega)];rw[c1,ao3,amO];exact De c d h hs L (by omega) λx hx=>hok x (anU _ hx)
 |q::S,L,J,hJ,hok,h4=>by
  have h4':L.length+(J.length+(S.length+1))<=4:=by simpa using h4
  have hc:okC 4000 c:=bh h.1.1 (by decide) (by decide);have hd:okC 4000 d:=bh h.2.1 (by decide) (by decide);have hq:okP 4000 q:=hok q (by simp)
  have g1:(L++(J++q::S))[L.length+J.length]?=some q:=by
   have:=nR (L++J) q S;rw[amU,amH]at this;exact this
  obtain⟨y,T,rfl⟩:=List.exists_cons_of_ne_nil hJ;have g2:(L++(y::T++q::S))[L.length]?=some y:=nR L y (T++q::S)
  have hset:(L++(y::T++q::S)).set L.length q=(L++[q])++((T++[q])++S):=by
   have:=CH y q (T++q::S) L;rw[show y::T++q::S=y::(T++q::S) from rfl,this];simp
  have e2:L++(y::T++q::S)=L++((y::T++[q])++S):=by simp
  have key:∀r n,(match iq c d q with
    |true=>kY.k n 16 (db c d ((L.length+1:Nat):Int) ((L.length+(y::T).length+1:Nat):Int) ((L++[q])++((T++[q])++S)))
    |false=>kY.k n 16 (db c d (L.length:Int) ((L.length+(y::T).length+1:Nat):Int) (L++(y::T++q::S))))=some r->
    im c d (L.length:Int) ((L.length+(y::T).length:Nat):Int) (L++(y::T++q::S)) (kY.k n)=some r:=λr n hk=>by
   unfold im;rw[aK (by simp only[amU,amD];omega),ai,g1,show((L.length+(y::T).length:Nat):Int).toNat=L.length+(y::T).length by omega,g1];dsimp only;rw[dT (show okC 4000 c/\okP 4000 q from⟨hc,hq⟩),dT (show okC 4000 d/\okP 4000 q from⟨hd,hq⟩),aT (k:=L.length+(y::T).length) (by simp only[amD]at*;omega),aT (k:=L.length) (by omega),ai,g2,show((L.length:Nat):Int).toNat=L.length by omega,g2,hset];unfold iq at hk;cases r1:lw (dC c) (dec q)<;>cases r2:lw (dC d) (dec q)<;>rw[r1,r2]at hk<;>exact hk
  rw[aof];cases hk:iq c d q
  ·obtain⟨n,hn⟩:=xY S L (y::T++[q]) (by simp) (e2▸hok) (e2▸h4);refine lg _ _ _ _ _ ⟨n,key _ n ?_⟩;rw[hk,e2];rw[amU,amF,<-aoi]at hn;exact hn
  ·obtain⟨n,hn⟩:=xY S (L++[q]) (T++[q]) (by simp) (λx hx=>by
    simp only[amG,amy,anW,apb]at hx;rcases hx with(hx|hx)|(hx|hx)|hx
    ·exact hok x (by simp[hx])
    ·rw[hx];exact hq
    ·exact hok x (by simp[hx])
    ·rw[hx];exact hq
    ·exact hok x (by simp[hx])) (by simp at h4 ⊢;omega)
   refine lg _ _ _ _ _ ⟨n,key _ n ?_⟩;rw[hk];have n1:(L++[q]).length=L.length+1:=by simp
   have n2:L.length+1+(T++[q]).length=L.length+(y::T).length+1:=by simp;omega
   rw[n1,n2,amH L [q] (S.filter (iq c d))]at hn;exact hn
theorem JP(X:List BP)(hX:[c.2.2.2.2.1,c.2.2.2.2.2,d.2.2.2.2.1,d.2.2.2.2.2]=X)(h4:X.length<=4)(hok:∀x∈X,okP 4000 x):∀(S A:List BP),A++S=X->A.filter (iq c d)=A->
  kY.Runs 6 (jp c d (A.length:Int)) [RV.d (.sl tP) (dq (dC c) (A++S.filter (iq c d))),RV.d .bool (xo c d (dq (dC c) (A++S.filter (iq c d))))]
 |[],A,hA,hf=>by
  rw[amO]at hA;refine mc _ _ _ ⟨0,?_⟩;unfold iX;rw[hX,<-hA,aX (by omega),ao3,amO];exact De c d h hs A (hA▸h4) (hA▸hok)
 |q::S,A,hA,hf=>by
  have hc:okC 4000 c:=bh h.1.1 (by decide) (by decide);have hd:okC 4000 d:=bh h.2.1 (by decide) (by decide);have hq:okP 4000 q:=hok q (by rw[<-hA];simp);have g1:X[A.length]?=some q:=by rw[<-hA];exact nR A q S
  have hlen:A.length<X.length:=by rw[<-hA];simp
  have key:∀r n,(match iq c d q with
    |true=>kY.k n 6 (jp c d ((A.length+1:Nat):Int))
    |false=>kY.k n 16 (db c d (A.length:Int) ((A.length+1:Nat):Int) X))=some r->
    iX c d (A.length:Int) (kY.k n)=some r:=λr n hk=>by
   unfold iX;rw[hX,aK hlen,ai,g1,show((A.length:Nat):Int).toNat=A.length by omega,g1];dsimp only;rw[dT (show okC 4000 c/\okP 4000 q from⟨hc,hq⟩),dT (show okC 4000 d/\okP 4000 q from⟨hd,hq⟩),aT (k:=A.length) (by omega),show((A.length:Int)== -1)=false by rw[amT];omega];unfold iq at hk;cases r1:lw (dC c) (dec q)<;>cases r2:lw (dC d) (dec q)<;>rw[r1,r2]at hk<;>exact hk
  rw[aof];cases hk:iq c d q
  ·obtain⟨n,hn⟩:=xY c d h hs S A [q] (by simp) (by rw[anI,hA];exact hok) (by rw[anI,hA];exact h4);refine mc _ _ _ ⟨n,key _ n ?_⟩;rw[hk];rw[anI,hA]at hn;exact hn
  ·obtain⟨n,hn⟩:=JP X hX h4 hok S (A++[q]) (by rw[amH];exact hA) (by rw[List.filter_append,hf,aof,hk];rfl);refine mc _ _ _ ⟨n,key _ n ?_⟩;rw[hk];have n1:(A++[q]).length=A.length+1:=by simp
   rw[n1,amH A [q] (S.filter (iq c d))]at hn;exact hn
end
theorem Nm(c d:BCU)(h:fU c d)(hs:cf (dC c) (dC d)=true):CQq7 192 [.d tCU c,.d tCU d] [.d (.sl tP) (mn c d),.d .bool (F5 c d)]:=by
 obtain⟨h4,ho⟩:=xy h;have e:BK c d=[c.2.2.2.2.1,c.2.2.2.2.2,d.2.2.2.2.1,d.2.2.2.2.2]:=by unfold BK;rw[hs];rfl
 rw[e]at h4 ho;obtain⟨n,hn⟩:=JP c d h hs _ rfl h4 ho _ [] rfl rfl;have e2:mn c d=dq (dC c) (List.filter (iq c d) [c.2.2.2.2.1,c.2.2.2.2.2,d.2.2.2.2.1,d.2.2.2.2.2]):=by unfold mn;rw[e]
 have e3:F5 c d=xo c d (dq (dC c) (List.filter (iq c d) [c.2.2.2.2.1,c.2.2.2.2.2,d.2.2.2.2.1,d.2.2.2.2.2])):=by unfold F5;rw[hs,e2];rfl
 rw[e2,e3];refine a8 NY (aep _ _ ⟨n,?_⟩);unfold Rp;rw[dT (show fa c d/\cf (dC c) (dC d)=true from⟨⟨h.1.2,h.2.2⟩,hs⟩)];dsimp only;rw[dT (amt h4 (by decide))];exact hn
def ad9:Cn 97 [tCU,tCU]:=cn λ(a b:BCU)=>lf (fa a b/\cf (dC a) (dC b)=false) [.d .bool false] λh=>by
 have e:CQq7 97 [.d tCU a,.d tCU b] [.d .bool (cf (dC a) (dC b))]:=(NW.g a b).h h.1;rw[h.2]at e;exact e
def Ma:List En:=[enT ad9,enT PT,enL Xe,enK NE,enF Yn,enK GK]
def Ug:NT:=[((241,6),{keep:=[0,1,7,8],hl:=3}),((181,16),{keep:=[0,1,5,6],hl:=3}),((192,11),{keep:=[2,3,26,28],hl:=0}),((181,3),{keep:=[0,1,10],hl:=0}),((241,18),{keep:=[0,1,5,7,8,16],hl:=0}),((181,28),{keep:=[0,1,5,6,7,28],hl:=0})]
def lk:Ctx:=CX (ens Ma) Ug
def jk(c d:BCU)(s241_8:Int):Cfg:=⟨241,[.blk 0,.seq 25],[(0,.own 2),(1,.clo 256 [0,1]),(7,SI (((jW (dC c) (dC d)).map enc).length:Int)),(8,SI s241_8)],[.box 75 (Ty.split tCU c),.box 75 (Ty.split tCU d),.row 73 tP ((jW (dC c) (dC d)).map enc)],3,[⟨181,[.seq 4],3,2,[(0,.own 2),(1,.clo 256 [0,1])],3,none⟩,⟨192,[.seq 12],11,3,[(2,.box 0 0),(3,.box 1 0),(26,.own 2)],0,none⟩]⟩
def dl(c d:BCU)(s181_5 s181_6:Int)(r181_2:List BP):Cfg:=⟨181,[.blk 0,.seq 35],[(0,.own 2),(1,.clo 256 [0,1]),(5,SI s181_5),(6,SI s181_6)],[.box 75 (Ty.split tCU c),.box 75 (Ty.split tCU d),.row 73 tP r181_2],3,[⟨192,[.seq 12],11,3,[(2,.box 0 0),(3,.box 1 0),(26,.own 2)],0,none⟩]⟩
def Pc(c d:BCU)(k:KT):OLR:=match decide (fa c d/\cf (dC c) (dC d)=false)with|true=>(match decide (fa c d)with|true=>(match decide (((jW (dC c) (dC d)).map enc).length<=100000)with|true=>k 6 (jk c d 0)|false=>none)|false=>none)|false=>none
theorem abK(c d:BCU):RS lk 192 [.d tCU c,.d tCU d] (Pc c d):=rsX
def ja(c d:BCU)(s241_8:Int)(k:KT):OLR:=match decide (s241_8<(((jW (dC c) (dC d)).map enc).length:Int))with|true=>(match aH ((jW (dC c) (dC d)).map enc) s241_8 with|some _=>(match true,((jW (dC c) (dC d)).map enc)[(s241_8).toNat]? with|true,some x1=>(match decide (okC 4000 c/\okP 4000 x1)with|true=>(match !(lw (dC c) (dec x1))with|true=>(match s241_8==(-1)with|true=>(match decide (lj c ((jW (dC c) (dC d)).map enc))with|true=>(match decide (fa c d/\cf (dC c) (dC d)=false)with|true=>some [RV.d (.sl tP) (dq (dC c) ((jW (dC c) (dC d)).map enc)),RV.d .bool false]|false=>none)|false=>none)|false=>k 16 (dl c d s241_8 (i64.wrap (s241_8+1)) ((jW (dC c) (dC d)).map enc)))|false=>(match decide (okC 4000 d/\okP 4000 x1)with|true=>(match !(lw (dC d) (dec x1))with|true=>(match s241_8==(-1)with|true=>(match decide (lj c ((jW (dC c) (dC d)).map enc))with|true=>(match decide (fa c d/\cf (dC c) (dC d)=false)with|true=>some [RV.d (.sl tP) (dq (dC c) ((jW (dC c) (dC d)).map enc)),RV.d .bool false]|false=>none)|false=>none)|false=>k 16 (dl c d s241_8 (i64.wrap (s241_8+1)) ((jW (dC c) (dC d)).map enc)))|false=>k 6 (jk c d (i64.wrap (s241_8+1))))|false=>none))|false=>none)|_,_=>none)|none=>none)|false=>(match(-1)==(-1)with|true=>(match decide (lj c ((jW (dC c) (dC d)).map enc))with|true=>(match decide (fa c d/\cf (dC c) (dC d)=false)with|true=>some [RV.d (.sl tP) (dq (dC c) ((jW (dC c) (dC d)).map enc)),RV.d .bool false]|false=>none)|false=>none)|false=>k 16 (dl c d (-1) (i64.wrap ((-1)+1)) ((jW (dC c) (dC d)).map enc)))
theorem lU(c d:BCU)(s241_8:Int):RN lk 6 (jk c d s241_8) (ja c d s241_8):=rnX
def ii(c d:BCU)(s181_5 s181_6:Int)(r181_2:List BP)(k:KT):OLR:=match decide (s181_6<(r181_2.length:Int))with|true=>(match aH r181_2 s181_6 with|some _=>(match true,r181_2[(s181_6).toNat]? with|true,some x1=>(match decide (okC 4000 c/\okP 4000 x1)with|true=>(match !(lw (dC c) (dec x1))with|true=>k 16 (dl c d s181_5 (i64.wrap (s181_6+1)) r181_2)|false=>(match decide (okC 4000 d/\okP 4000 x1)with|true=>(match !(!(lw (dC d) (dec x1)))with|true=>(match aH r181_2 s181_5 with|some _=>(match true,r181_2[(s181_5).toNat]? with|true,some _=>k 16 (dl c d (i64.wrap (s181_5+1)) (i64.wrap (s181_6+1)) (r181_2.set ((s181_5).toNat) x1))|_,_=>none)|none=>none)|false=>k 16 (dl c d s181_5 (i64.wrap (s181_6+1)) r181_2))|false=>none))|false=>none)|_,_=>none)|none=>none)|false=>(match decide ((0:Int)<=s181_5/\s181_5<=(r181_2.length:Int)/\(r181_2.length:Int)<=(r181_2.length:Int))with|true=>(match decide ((0:Int)<=0/\0<=s181_5/\s181_5<=((ji (Ty.zero tP) ((s181_5:Int).toNat) (((r181_2.length:Int):Int).toNat-(s181_5:Int).toNat) r181_2).length:Int))with|true=>(match decide (lj c (((ji (Ty.zero tP) ((s181_5:Int).toNat) (((r181_2.length:Int):Int).toNat-(s181_5:Int).toNat) r181_2).drop ((0:Int).toNat)).take ((s181_5:Int).toNat-(0:Int).toNat)))with|true=>(match decide (fa c d/\cf (dC c) (dC d)=false)with|true=>some [RV.d (.sl tP) (dq (dC c) (((ji (Ty.zero tP) ((s181_5:Int).toNat) (((r181_2.length:Int):Int).toNat-(s181_5:Int).toNat) r181_2).drop ((0:Int).toNat)).take ((s181_5:Int).toNat-(0:Int).toNat))),RV.d .bool false]|false=>none)|false=>none)|false=>none)|false=>none)
theorem kQ(c d:BCU)(s181_5 s181_6:Int)(r181_2:List BP):RN lk 16 (dl c d s181_5 s181_6 r181_2) (ii c d s181_5 s181_6 r181_2):=rnX
section
variable (c d:BCU) (h:fU c d) (hs:cf (dC c) (dC d)=false)
include h hs
theorem DJ(L:List BP)(hl:L.length<=4)(ho:∀x∈L,okP 4000 x):(match decide (lj c L)with
  |true=>(match decide (fa c d/\cf (dC c) (dC d)=false)with
   |true=>some [RV.d (.sl tP) (dq (dC c) L),RV.d .bool false]
   |false=>none)
  |false=>none)=some [RV.d (.sl tP) (dq (dC c) L),RV.d .bool (false)]:=by
 have hc:okC 4000 c:=bh h.1.1 (by decide) (by decide);have hd:okC 4000 d:=bh h.2.1 (by decide) (by decide);have q:lj c L:=⟨hc,by omega,ho⟩
 have hn:(dq (dC c) L).length<=L.length:=mX;have _q2:wW c d (dq (dC c) L):=⟨⟨hc,by omega,λx hx=>ho x (mN hx)⟩,hd⟩
 rw[dT q,dT (show fa c d/\cf (dC c) (dC d)=false from⟨⟨h.1.2,h.2.2⟩,hs⟩)]
theorem xZ:∀(S:List BP) (L J:List BP),J≠[]->(∀x∈L++(J++S),okP 4000 x)->(L++(J++S)).length<=4->
  lk.Runs 16 (dl c d (L.length:Int) ((L.length+J.length:Nat):Int) (L++(J++S))) [RV.d (.sl tP) (dq (dC c) (L++S.filter (iq c d))),RV.d .bool (false)]
 |[],L,J,hJ,hok,h4=>by
  have h4':L.length+J.length<=4:=by simpa using h4
  obtain⟨c1,c2⟩:=JW (Ty.zero tP) L J;refine kQ _ _ _ _ _ ⟨0,?_⟩;unfold ii;rw[amO,aX (by simp)];dsimp only;rw[dT (show(0:Int)<=(L.length:Int)/\(L.length:Int)<=((L++J).length:Int)/\((L++J).length:Int)<=((L++J).length:Int) by simp only[amU];omega)];rw[dT (show(0:Int)<=0/\0<=(L.length:Int)/\(L.length:Int)<=((ji (Ty.zero tP) ((L.length:Int).toNat) ((((L++J).length:Int)).toNat-(L.length:Int).toNat) (L++J)).length:Int) by omega)];rw[c1,ao3,amO];exact DJ c d h hs L (by omega) λx hx=>hok x (anU _ hx)
 |q::S,L,J,hJ,hok,h4=>by
  have h4':L.length+(J.length+(S.length+1))<=4:=by simpa using h4
  have hc:okC 4000 c:=bh h.1.1 (by decide) (by decide);have hd:okC 4000 d:=bh h.2.1 (by decide) (by decide);have hq:okP 4000 q:=hok q (by simp)
  have g1:(L++(J++q::S))[L.length+J.length]?=some q:=by
   have:=nR (L++J) q S;rw[amU,amH]at this;exact this
  obtain⟨y,T,rfl⟩:=List.exists_cons_of_ne_nil hJ;have g2:(L++(y::T++q::S))[L.length]?=some y:=nR L y (T++q::S)
  have hset:(L++(y::T++q::S)).set L.length q=(L++[q])++((T++[q])++S):=by
   have:=CH y q (T++q::S) L;rw[show y::T++q::S=y::(T++q::S) from rfl,this];simp
  have e2:L++(y::T++q::S)=L++((y::T++[q])++S):=by simp
  have key:∀r n,(match iq c d q with
    |true=>lk.k n 16 (dl c d ((L.length+1:Nat):Int) ((L.length+(y::T).length+1:Nat):Int) ((L++[q])++((T++[q])++S)))
    |false=>lk.k n 16 (dl c d (L.length:Int) ((L.length+(y::T).length+1:Nat):Int) (L++(y::T++q::S))))=some r->
    ii c d (L.length:Int) ((L.length+(y::T).length:Nat):Int) (L++(y::T++q::S)) (lk.k n)=some r:=λr n hk=>by
   unfold ii;rw[aK (by simp only[amU,amD];omega),ai,g1,show((L.length+(y::T).length:Nat):Int).toNat=L.length+(y::T).length by omega,g1];dsimp only;rw[dT (show okC 4000 c/\okP 4000 q from⟨hc,hq⟩),dT (show okC 4000 d/\okP 4000 q from⟨hd,hq⟩),aT (k:=L.length+(y::T).length) (by simp only[amD]at*;omega),aT (k:=L.length) (by omega),ai,g2,show((L.length:Nat):Int).toNat=L.length by omega,g2,hset];unfold iq at hk;cases r1:lw (dC c) (dec q)<;>cases r2:lw (dC d) (dec q)<;>rw[r1,r2]at hk<;>exact hk
  rw[aof];cases hk:iq c d q
  ·obtain⟨n,hn⟩:=xZ S L (y::T++[q]) (by simp) (e2▸hok) (e2▸h4);refine kQ _ _ _ _ _ ⟨n,key _ n ?_⟩;rw[hk,e2];rw[amU,amF,<-aoi]at hn;exact hn
  ·obtain⟨n,hn⟩:=xZ S (L++[q]) (T++[q]) (by simp) (λx hx=>by
    simp only[amG,amy,anW,apb]at hx;rcases hx with(hx|hx)|(hx|hx)|hx
    ·exact hok x (by simp[hx])
    ·rw[hx];exact hq
    ·exact hok x (by simp[hx])
    ·rw[hx];exact hq
    ·exact hok x (by simp[hx])) (by simp at h4 ⊢;omega)
   refine kQ _ _ _ _ _ ⟨n,key _ n ?_⟩;rw[hk];have n1:(L++[q]).length=L.length+1:=by simp
   have n2:L.length+1+(T++[q]).length=L.length+(y::T).length+1:=by simp;omega
   rw[n1,n2,amH L [q] (S.filter (iq c d))]at hn;exact hn
theorem HP(X:List BP)(hX:((jW (dC c) (dC d)).map enc)=X)(h4:X.length<=4)(hok:∀x∈X,okP 4000 x):∀(S A:List BP),A++S=X->A.filter (iq c d)=A->
  lk.Runs 6 (jk c d (A.length:Int)) [RV.d (.sl tP) (dq (dC c) (A++S.filter (iq c d))),RV.d .bool (false)]
 |[],A,hA,hf=>by
  rw[amO]at hA;refine lU _ _ _ ⟨0,?_⟩;unfold ja;rw[hX,<-hA,aX (by omega),ao3,amO];exact DJ c d h hs A (hA▸h4) (hA▸hok)
 |q::S,A,hA,hf=>by
  have hc:okC 4000 c:=bh h.1.1 (by decide) (by decide);have hd:okC 4000 d:=bh h.2.1 (by decide) (by decide);have hq:okP 4000 q:=hok q (by rw[<-hA];simp);have g1:X[A.length]?=some q:=by rw[<-hA];exact nR A q S
  have hlen:A.length<X.length:=by rw[<-hA];simp
  have key:∀r n,(match iq c d q with
    |true=>lk.k n 6 (jk c d ((A.length+1:Nat):Int))
    |false=>lk.k n 16 (dl c d (A.length:Int) ((A.length+1:Nat):Int) X))=some r->
    ja c d (A.length:Int) (lk.k n)=some r:=λr n hk=>by
   unfold ja;rw[hX,aK hlen,ai,g1,show((A.length:Nat):Int).toNat=A.length by omega,g1];dsimp only;rw[dT (show okC 4000 c/\okP 4000 q from⟨hc,hq⟩),dT (show okC 4000 d/\okP 4000 q from⟨hd,hq⟩),aT (k:=A.length) (by omega),show((A.length:Int)== -1)=false by rw[amT];omega];unfold iq at hk;cases r1:lw (dC c) (dec q)<;>cases r2:lw (dC d) (dec q)<;>rw[r1,r2]at hk<;>exact hk
  rw[aof];cases hk:iq c d q
  ·obtain⟨n,hn⟩:=xZ c d h hs S A [q] (by simp) (by rw[anI,hA];exact hok) (by rw[anI,hA];exact h4);refine lU _ _ _ ⟨n,key _ n ?_⟩;rw[hk];rw[anI,hA]at hn;exact hn
  ·obtain⟨n,hn⟩:=HP X hX h4 hok S (A++[q]) (by rw[amH];exact hA) (by rw[List.filter_append,hf,aof,hk];rfl);refine lU _ _ _ ⟨n,key _ n ?_⟩;rw[hk];have n1:(A++[q]).length=A.length+1:=by simp
   rw[n1,amH A [q] (S.filter (iq c d))]at hn;exact hn
end
theorem OM(c d:BCU)(h:fU c d)(hs:cf (dC c) (dC d)=false):CQq7 192 [.d tCU c,.d tCU d] [.d (.sl tP) (mn c d),.d .bool (F5 c d)]:=by
 obtain⟨h4,ho⟩:=xy h;have e:BK c d=((jW (dC c) (dC d)).map enc):=by unfold BK;rw[hs];rfl
 rw[e]at h4 ho;obtain⟨n,hn⟩:=HP c d h hs _ rfl h4 ho _ [] rfl rfl;have e2:mn c d=dq (dC c) (List.filter (iq c d) ((jW (dC c) (dC d)).map enc)):=by unfold mn;rw[e]
 have e3:F5 c d=false:=by unfold F5;rw[hs,e2];rfl
 rw[e2,e3];refine a8 Ma (abK _ _ ⟨n,?_⟩);unfold Pc;rw[dT (show fa c d/\cf (dC c) (dC d)=false from⟨⟨h.1.2,h.2.2⟩,hs⟩)];dsimp only;rw[dT (show fa c d from⟨h.1.2,h.2.2⟩)];dsimp only;rw[dT (amt h4 (by decide))];exact hn
def ai8:Cn 192 [tCU,tCU]:=cn λ(c d:BCU)=>lf (fU c d) [.d (.sl tP) (mn c d),.d .bool (F5 c d)] λh=>by
 cases hs:cf (dC c) (dC d)
 ·exact OM c d h hs
 ·exact Nm c d h hs
end
section
open RE
end
def DH(c:Cv):Bool:=(c.1||!cwC c)&&(du c (frC c)&&(du c (toC c)&&!(aB (frC c) (toC c)==0)))
def jh(c d:Cv):Bool:=cf c d&&(cwC c==cwC d&&(aB (frC c) (frC d)==0&&aB (toC c) (toC d)==0))
def GJ:List En:=[enT GT,enT l9,enL BH]
def Q8(p:BP)(_k:KT):OLR:=og (o1 p.1) (og (o1 p.2.2.1) (og (o1 p.2.1) (og (o1 p.2.2.2.1) (og (o1 p.2.2.2.2) (og (o1 p.2.1) (match(aD (ag p.2.1) 0)==0 with|true=>(og (o1 p.2.2.2.1) (match(aD (ag p.2.2.2.1) 0)==0 with|true=>(og (o1 p.2.2.2.2) (some [RV.d .bool ((aD (ag p.2.2.2.2) 0)==0)]))|false=>(og (o1 p.2.2.2.2) (og (o1 p.2.2.2.2) (match decide ((aD (ag p.2.2.2.2) 0)>0)with|true=>some [RV.d .bool (!(dP (ag p.2.2.2.2)))]|false=>some [RV.d .bool false])))))|false=>(og (o1 p.2.2.2.2) (og (o1 p.2.2.2.2) (match decide ((aD (ag p.2.2.2.2) 0)>0)with|true=>some [RV.d .bool (!(dP (ag p.2.2.2.2)))]|false=>some [RV.d .bool false])))))))))
def aeQ:Cn 72 [tP]:=cn λ(p:BP)=>lf (okP 4000 p) [.d .bool true] λh=>by
 refine aA GJ (Q8 p) ⟨0,?_⟩;have hp:=h;obtain⟨p,rfl,bp,rp⟩:=cM hp;unfold Q8;simp only[bE,Nat.reduceLeDiff,ao,av];rcases rp.rd with⟨h1,h2,h3⟩|⟨h1,h2,h3⟩
 ·rw[dT h1,dT h2,dT h3]
 ·rw[dT h2,h3];cases hb:decide (p.2.1=0)
  ·rfl
  ·cases hb2:decide (p.2.2.2.1=0)
   ·rfl
   ·exact absurd ⟨amj hb,amj hb2⟩ h1
def NF(c:BO3)(_k:KT):OLR:=og (o1 c.1) (og (o1 c.2.1) (og (o1 c.2.2) (og (o1 c.2.2) (some [RV.d .bool (decide ((aD (ag c.2.2) 0)>0))]))))
def aaP:Cn 43 [tO]:=cn λ(c:BO3)=>lf (t6 c) [.d .bool true] λh=>by
 refine aA GJ (NF c) ⟨0,?_⟩;obtain⟨hk,h0⟩:=h;obtain⟨c,rfl,bc⟩:=aM hk;rw[au]at h0;unfold NF;simp only[bE,Nat.reduceLeDiff,av,dT h0]
def QR(l:BO3)(_k:KT):OLR:=og (o1 l.1) (og (o1 l.2.1) (og (o1 l.2.2) (og (o1 l.1) (match(aD (ag l.1) 0) !=0 with|true=>some [RV.d .bool true]|false=>(og (o1 l.2.1) (some [RV.d .bool ((aD (ag l.2.1) 0) !=0)]))))))
def adX:Cn 73 [tO]:=cn λ(l:BO3)=>lf (F8 l) [.d .bool true] λh=>by
 refine aA GJ (QR l) ⟨0,?_⟩;obtain⟨hk,h0⟩:=h;obtain⟨l,rfl,bl⟩:=aM hk;rw[au]at h0;unfold QR;simp only[bE,Nat.reduceLeDiff,bJ];by_cases h1:l.1=0
 ·rw[dT h1,dF (h0.resolve_left (λh=>h h1))];rfl
 ·rw[dF h1];rfl
def aaQ:List En:=[enT aeQ,enT aaP,enT adX,enT YR,enT oI]
def Yv(c:BCU)(_k:KT):OLR:=let y1:OLR:=match decide (okC 3500 c/\okP 3500 c.2.2.2.2.1)with|true=>(match du (dC c) (dec c.2.2.2.2.1)with|true=>(og (decide (okC 3500 c/\okP 3500 c.2.2.2.2.2)) (match du (dC c) (dec c.2.2.2.2.2)with|true=>(og (decide (okP 4000 c.2.2.2.2.1/\okP 4000 c.2.2.2.2.2)) (some [RV.d .bool (!(aB (dec c.2.2.2.2.1) (dec c.2.2.2.2.2)==0))]))|false=>some [RV.d .bool false]))|false=>some [RV.d .bool false])|false=>none;let y2:OLR:=match !c.1 with|true=>(match c.2.2.2.1 with|true=>some [RV.d .bool false]|false=>(og (decide (F8 c.2.1)) y1))|false=>y1;og (decide (okP 4000 c.2.2.2.2.1)) (og (decide (okP 4000 c.2.2.2.2.2)) (match c.1 with|true=>(og (decide (t6 c.2.2.1)) y2)|false=>y2))
def WP:Cn 37 [tCU]:=cn λ(c:BCU)=>lf (okC 3500 c) [.d .bool (DH (dC c))] λh=>by
 refine aA aaQ (Yv c) ⟨0,?_⟩;have h4:=bh (k:=4000) h (by decide) (by decide);unfold Yv DH;rw[dT (show okC 3500 c/\okP 3500 c.2.2.2.2.1 from⟨h,h.2.2.1⟩),dT (show okC 3500 c/\okP 3500 c.2.2.2.2.2 from⟨h,h.2.2.2⟩),dT (show okP 4000 c.2.2.2.2.1/\okP 4000 c.2.2.2.2.2 from⟨h4.2.2.1,h4.2.2.2⟩),dT h4.2.2.1,dT h4.2.2.2];have e1:(dC c).1=c.1:=rfl;have e2:cwC (dC c)=c.2.2.2.1:=rfl;have e3:frC (dC c)=dec c.2.2.2.2.1:=rfl;have e4:toC (dC c)=dec c.2.2.2.2.2:=rfl;rw[e1,e2,e3,e4];cases ha:c.1
 ·have h2:=dT (p:=F8 c.2.1) (i:=inferInstance) (h.2.1 ha);rw[h2];cases c.2.2.2.1<;>cases du (dC c) (dec c.2.2.2.2.1)<;>cases du (dC c) (dec c.2.2.2.2.2)<;>rfl
 ·have h2:=dT (p:=t6 c.2.2.1) (i:=inferInstance) (h.1 ha);rw[h2];cases du (dC c) (dec c.2.2.2.2.1)<;>cases du (dC c) (dec c.2.2.2.2.2)<;>rfl
def abe:List En:=[enT Ol,enT oI]
def Ye(a b:BCU)(_k:KT):OLR:=og (decide (fa a b)) (match cf (dC a) (dC b)with|true=>(match a.2.2.2.1==b.2.2.2.1 with|true=>(og (decide (okP 4000 a.2.2.2.2.1/\okP 4000 b.2.2.2.2.1)) (match aB (dec a.2.2.2.2.1) (dec b.2.2.2.2.1)==0 with|true=>(og (decide (okP 4000 a.2.2.2.2.2/\okP 4000 b.2.2.2.2.2)) (some [RV.d .bool (aB (dec a.2.2.2.2.2) (dec b.2.2.2.2.2)==0)]))|false=>some [RV.d .bool false]))|false=>some [RV.d .bool false])|false=>some [RV.d .bool false])
def RJ:Cn 58 [tCU,tCU]:=cn λ(a b:BCU)=>lf (fU a b) [.d .bool (jh (dC a) (dC b))] λh=>by
 refine aA abe (Ye a b) ⟨0,?_⟩;obtain⟨⟨a1,a2⟩,b1,b2⟩:=h;have a4:=bh (k:=4000) a1 (by decide) (by decide);have b4:=bh (k:=4000) b1 (by decide) (by decide);unfold Ye jh;rw[dT (show fa a b from⟨a2,b2⟩),dT (show okP 4000 a.2.2.2.2.1/\okP 4000 b.2.2.2.2.1 from⟨a4.2.2.1,b4.2.2.1⟩),dT (show okP 4000 a.2.2.2.2.2/\okP 4000 b.2.2.2.2.2 from⟨a4.2.2.2,b4.2.2.2⟩)];have e2:∀c,cwC (dC c)=c.2.2.2.1:=λ_=>rfl;have e3:∀c,frC (dC c)=dec c.2.2.2.2.1:=λ_=>rfl;have e4:∀c,toC (dC c)=dec c.2.2.2.2.2:=λ_=>rfl;rw[e2,e2,e3,e3,e4,e4];cases cf (dC a) (dC b)<;>cases(a.2.2.2.1==b.2.2.2.1)<;>cases(aB (dec a.2.2.2.2.1) (dec b.2.2.2.2.1)==0)<;>rfl
def l0B:BO3:=enc ((0,0,0):Ln)
def c0M:BCU:=(false,l0B,l0B,false,p00,p00)
def Vb(c:BO3):List BCU:=[(true,l0B,c,false,enc (dS (dec c)),enc (eu (dec c))),(true,l0B,c,false,enc (eu (dec c)),enc (dS (dec c)))]
def akK:List En:=[⟨85,fS,dX⟩,⟨47,io,eL⟩]
def YK(_k:KT):OLR:=og (decide (aR (0:Int))) (some [RV.d tCU (false,((hid (am ((0:Int):Rat)),(hid (am ((0:Int):Rat)),hid (am ((0:Int):Rat)))),((hid (am ((0:Int):Rat)),(hid (am ((0:Int):Rat)),hid (am ((0:Int):Rat)))),(false,((((false,[]),(false,[])),(((false,[]),(false,[])),(((false,[]),(false,[])),(((false,[]),(false,[])),((false,[]),(false,[])))))),(((false,[]),(false,[])),(((false,[]),(false,[])),(((false,[]),(false,[])),(((false,[]),(false,[])),((false,[]),(false,[])))))))))))])
def aiJ:Cn 96 []:=cn<|lf True [.d tCU c0M] λ_=>by
 refine aA akK (YK) ⟨0,?_⟩;unfold YK c0M l0B;rw[dT (show aR 0 by decide)];simp only[aQ];rfl
def ZU:List En:=[⟨266,lW,gQ⟩,⟨261,jC,fC⟩,⟨46,jJ,fq⟩,enL OT,enL aiJ,enL Ta]
def ajJ:Ctx:=CX (ens ZU) []
def YF(c:BO3)(_k:KT):OLR:=og (decide (bi c)) (dup (.b .l .l) (some [RV.new 75 tCU ([(true,(((hid (c0M)).2).1,(c,(false,(hid (enc (dS (dec c))),hid (enc (eu (dec c)))))))),(true,(((hid (c0M)).2).1,(c,(false,(hid (enc (eu (dec c))),hid (enc (dS (dec c))))))))])]))
theorem agp(c:BO3):RS ajJ 51 [.d tO c] (YF c):=rsX
def agM:Cn 51 [tO]:=cn λ(c:BO3)=>lf (bi c) [.d (.sl tCU) (Vb c)] λh=>by
 refine Con.new_d (et:=75) (a8 ZU (agp _ ⟨0,?_⟩));unfold YF;rw[dT h];simp only[aQ,da];rfl
section
open RE
section
variable {α β:Type} (f:α->β)
end
abbrev uS1:Rat×Rat:=(Rat.divInt (-4) 2,Rat.divInt 1 2)
abbrev uS2:Rat×Rat:=(Rat.divInt 4 2,Rat.divInt 1 2)
def qS:Cv:=(false,(0,4,2),(0,0,0),false,atP uS1,atP uS2)
section
end
end
section
open Go.ChangeShapes Go.WideShapes Go.ChangeAt Go.WideMaps Go.WideElems Go.RowKit
theorem Pz:ownKnob Tryz.prog.godebug=none:=by kernel_rfl
def Ty.ok:(t:Ty)->t.D->Prop
 |.int k,x=>(Lit.int k x).wf=true
 |.bool,_=>True
 |.str,_=>True
 |.sl e,xs=>xs.length<=9223372036854775807/\∀x∈xs,e.ok x
 |.pair a b,x=>a.ok x.1/\b.ok x.2
 |.st a,x=>a.ok x
def yF(rp:TypeId->Ty->Bool)(cells:TypeId->Nat):List Field->Ty->Nat->Bool
 |[],_,_=>false
 |[f],a,off=>rp f.type a&&Nat.beq f.offset off&&Nat.beq (cells f.type) a.n
 |f::g::fs,.pair a b,off=>rp f.type a&&Nat.beq f.offset off&&Nat.beq (cells f.type) a.n&&yF rp cells (g::fs) b (off+a.n)
 |_,_,_=>false
def Hy(rp:Ty->Bool)(n:Nat):Nat->Ty->Bool
 |0,_=>false
 |1,a=>rp a&&Nat.beq a.n n
 |k+2,.pair a b=>rp a&&Nat.beq a.n n&&Hy rp n (k+1) b
 |_,_=>false
def rep(P:Program):Nat->TypeId->Ty->Bool
 |0,_,_=>false
 |n+1,t,ty=>match P.underlying t,ty with
  |some (.int k),.int k'=>decide (k=k')
  |some .bool,.bool=>true
  |some .string,.str=>true
  |some (.slice e),.sl ety=>rep P n e ety&&Nat.beq (P.cellsOf e) ety.n&&Nat.ble 1 ety.n
  |some (.struct fs),.st a=>yF (rep P n) P.cellsOf fs.toList a 0&&Nat.beq (P.cellsOf t) a.n
  |some (.array k e),.st a=>Hy (rep P n e) (P.cellsOf e) k a&&Nat.beq (P.cellsOf t) a.n
  |_,_=>false
theorem TH{w:World}{a:Addr}{v:Value}(h:w.cell? a=some v):a.block<w.heap.size/\a.spot=none:=by
 unfold World.cell? at h;split at h
 ·rename_i hb;refine⟨(amw.1 hb).1,?_⟩;simp_all
 grind
theorem EP{α β:Type}{f:α->Option β}:∀{l:List α} {r:List β},l.mapM f=some r->r.length=l.length/\∀(j:Nat) (y:β),r[j]?=some y->∃x,l[j]?=some x/\f x=some y
 |[],r,h=>by simp at h;subst h;simp
 |x::l,r,h=>by
  rw[List.mapM_cons]at h;cases hx:f x with
  |none=>rw[hx]at h;simp at h
  |some y=>
   rw[hx]at h;cases hl:l.mapM f with
   |none=>rw[hl]at h;simp at h
   |some r'=>
    rw[hl]at h;obtain rfl:y::r'=r:=by simpa using h
    obtain⟨h1,h2⟩:=EP hl;refine⟨by simp[h1],λj z hz=>?_⟩;cases j with
    |zero=>exact⟨x,rfl,by simpa [hx]using hz⟩
    |succ j=>obtain⟨u,h3,h4⟩:=h2 j z (by simpa using hz);exact⟨u,by simpa using h3,h4⟩
theorem Ku{w:World}{base n:Nat}{a:Addr}{l:List Value}(h:w.cells? base a n=some l):l.length=n/\∀(j:Nat) (v:Value),l[j]?=some v->w.cell? (a.add j)=some v:=by
 unfold World.cells? at h;split at h
 ·obtain⟨h1,h2⟩:=EP h;grind
 grind
theorem Pq{α β:Type}{n:Nat}{p:Nat->α->β->Prop}(h:∀i,i<n->∃s t,p i s t):∃(l:List α) (m:List β),l.length=n/\m.length=n/\∀i s t,l[i]?=some s->m[i]?=some t->p i s t:=by
 induction n with
 |zero=>exact⟨[],[],rfl,rfl,λi s t h=>by simp at h⟩
 |succ n ih=>
  obtain⟨l,m,h1,h2,h3⟩:=ih λi hi=>h i (by omega);obtain⟨s,t,hst⟩:=h n (by omega);refine⟨l++[s],m++[t],by simp[h1],by simp[h2],λi s' t' hs ht=>?_⟩;grind
section
variable {H:Type} {enc:TypeId×Value->H} {P:Program} {w:World} {base:Nat} {spare:Nat->Bool} {held:Bool}
def R1(enc:TypeId×Value->H)(P:Program)(w:World)(base:Nat)(spare:Nat->Bool)(held:Bool)(ty:Ty):Prop:=∀(n:Nat) (t:TypeId),rep P n t ty=true->∀(fuel:Nat) (cs:List Value) (x:DataW H×List MemPlace),cs.length=ty.n->DataW.trod enc P w base spare held fuel t cs=some x->∃y:ty.D,ty.rd (λ_=>True) w cs y/\ty.ok y
def R2(enc:TypeId×Value->H)(P:Program)(w:World)(base:Nat)(spare:Nat->Bool)(held:Bool)(ty:Ty):Prop:=∀(n:Nat) (fs:List Field) (off:Nat) (cs:List Value),yF (rep P n) P.cellsOf fs ty off=true->cs.length=ty.n->(∀f∈fs,off<=f.offset->∃fuel x,DataW.trod enc P w base spare held fuel f.type ((cs.drop (f.offset-off)).take (P.cellsOf f.type))=some x)->∃y:ty.D,ty.rd (λ_=>True) w cs y/\ty.ok y
def R3(enc:TypeId×Value->H)(P:Program)(w:World)(base:Nat)(spare:Nat->Bool)(held:Bool)(ty:Ty):Prop:=∀(n k:Nat) (e:TypeId) (cs:List Value),Hy (rep P n e) (P.cellsOf e) k ty=true->cs.length=ty.n->(∀i,i<k->∃fuel x,DataW.trod enc P w base spare held fuel e ((cs.drop (i*P.cellsOf e)).take (P.cellsOf e))=some x)->∃y:ty.D,ty.rd (λ_=>True) w cs y/\ty.ok y
theorem aiX{ty:Ty}(h1:R1 enc P w base spare held ty)(hp:∀(n:Nat) (f g:Field) (fs:List Field) (off:Nat) (cs:List Value),yF (rep P n) P.cellsOf (f::g::fs) ty off=true->cs.length=ty.n->(∀q∈f::g::fs,off<=q.offset->∃fuel x,DataW.trod enc P w base spare held fuel q.type ((cs.drop (q.offset-off)).take (P.cellsOf q.type))=some x)->∃y:ty.D,ty.rd (λ_=>True) w cs y/\ty.ok y):R2 enc P w base spare held ty:=by
 intro n fs off cs hr hl hf;match fs,hr,hf with
 |[f],hr,hf=>
  simp only[yF,aml]at hr;have ho:=amk hr.1.2;have hc:=amk hr.2;obtain⟨fuel,x,hx⟩:=hf f (by simp) (by omega);rw[ho,aoD,hc,vk _ _ hl]at hx;exact h1 n f.type hr.1.1 fuel cs x hl hx
 |f::g::fs,hr,hf=>exact hp n f g fs off cs hr hl hf
theorem agV{ty:Ty}(h1:R1 enc P w base spare held ty)(hp:∀(n k:Nat) (e:TypeId) (cs:List Value),Hy (rep P n e) (P.cellsOf e) (k+2) ty=true->cs.length=ty.n->(∀i,i<k+2->∃fuel x,DataW.trod enc P w base spare held fuel e ((cs.drop (i*P.cellsOf e)).take (P.cellsOf e))=some x)->∃y:ty.D,ty.rd (λ_=>True) w cs y/\ty.ok y):R3 enc P w base spare held ty:=by
 intro n k e cs hr hl hf;match k,hr,hf with
 |1,hr,hf=>
  simp only[Hy,aml]at hr;have hc:=amk hr.2;obtain⟨fuel,x,hx⟩:=hf 0 (by omega);rw[ape,<-hc,vk _ _ hl]at hx;exact h1 n e hr.1 fuel cs x hl hx
 |k+2,hr,hf=>exact hp n k e cs hr hl hf
theorem VK:∀(ty:Ty),R1 enc P w base spare held ty/\R2 enc P w base spare held ty/\R3 enc P w base spare held ty:=by
 intro ty
 have oS:∀{ty:Ty},(∀a b,ty≠.pair a b)->R1 enc P w base spare held ty->R1 enc P w base spare held ty/\R2 enc P w base spare held ty/\R3 enc P w base spare held ty:=by
  intro ty hne h1;refine⟨h1,aiX h1 λn f g fs off cs hr=>?_,agV h1 λn k e cs hr=>?_⟩
  ·cases ty<;>first|exact absurd rfl (hne _ _)|simp[yF]at hr
  ·cases ty<;>first|exact absurd rfl (hne _ _)|simp[Hy]at hr
 induction ty with
 |int k=>
  refine oS (λa b e=>by cases e) λn t hr fuel cs x hl hx=>?_;cases n with
  |zero=>simp[rep]at hr
  |succ n=>
   unfold rep at hr;split at hr<;>try (cases hr;done)
   all_goals rename_i hu he<;>cases he
   have:=amj hr;subst this;obtain⟨m,rfl,_,hw⟩:=DataW.trod_int hu hx;exact⟨m,rfl,hw⟩
 |bool=>
  refine oS (λa b e=>by cases e) λn t hr fuel cs x hl hx=>?_;cases n with
  |zero=>simp[rep]at hr
  |succ n=>
   unfold rep at hr;split at hr<;>try (cases hr;done)
   all_goals rename_i hu he<;>cases he
   obtain⟨m,rfl,_⟩:=DataW.trod_bool hu hx;exact⟨m,rfl,trivial⟩
 |str=>
  refine oS (λa b e=>by cases e) λn t hr fuel cs x hl hx=>?_;cases n with
  |zero=>simp[rep]at hr
  |succ n=>
   unfold rep at hr;split at hr<;>try (cases hr;done)
   all_goals rename_i hu he<;>cases he
   cases fuel with
   |zero=>simp[DataW.trod]at hx
   |succ fuel=>
    unfold DataW.trod at hx;rw[hu]at hx;split at hx<;>simp_all;exact⟨_,rfl,trivial⟩
 |sl e ih=>
  refine oS (λa b e=>by cases e) λn t hr fuel cs x hl hx=>?_;cases n with
  |zero=>simp[rep]at hr
  |succ n=>
   unfold rep at hr;split at hr<;>try (cases hr;done)
   all_goals rename_i hu he<;>cases he
   simp only[aml]at hr;obtain⟨⟨r1,r2⟩,r3⟩:=hr;have hc:=amk r2;have hn0:=amn r3;rcases Deep.open_slice hu hx with⟨rfl,_⟩|⟨a,len,cap,m,nn,D,Pl,rfl,hb,hle,hcap,hm,_,hel⟩
   ·exact⟨[],wN,by simp,λx hx=>by simp at hx⟩
   ·have hlm:len<=m:=by rw[hm];split<;>omega
    have key:∀i,i<len->∃(l:List Value) (y:e.D),(e.rd (λ_=>True) w l y/\e.ok y)/\∀j v,l[j]?=some v->w.cell? ((a.add (i*e.n)).add j)=some v:=by
     intro i hi;obtain⟨cs',h1,h2⟩:=hel i (by omega);rw[hc]at h1;obtain⟨h3,h4⟩:=Ku h1;obtain⟨y,h5⟩:=ih.1 n _ r1 nn cs' _ h3 h2;exact⟨cs',y,h5,h4⟩
    obtain⟨css,ys,l1,l2,hk⟩:=Pq key;have hall:bI (λl y=>e.rd (λ_=>True) w l y) css ys:=JZ (by omega) λi l y h1 h2=>(hk i l y h1 h2).1.1;refine⟨ys,⟨some a,len,cap,css,rfl,l2,hle,hcap,hall,λh0=>?_⟩,by unfold maxLen at hcap;omega,λy hy=>?_⟩
    ·obtain⟨l0,hl0⟩:∃l,css[0]?=some l:=⟨_,amg (by omega)⟩
     obtain⟨y0,hy0,hrd0⟩:=fO hall 0 l0 hl0;have hlen0:=Ty.rd_len hrd0;obtain⟨v0,hv0⟩:∃v,l0[0]?=some v:=⟨_,amg (by omega)⟩
     have hc0:=(hk 0 l0 y0 hl0 hy0).2 0 v0 hv0;have e0:(a.add (0*e.n)).add 0=a:=by simp[Addr.add]
     rw[e0]at hc0;obtain⟨h1,h2⟩:=TH hc0;obtain⟨b,off,sp⟩:=a;dsimp only at h1 h2;subst h2;refine⟨b,off,rfl,trivial,h1,λi v hv=>?_⟩;have hls:=ff hall;have hi:i<css.flatten.length:=(amr.1 hv).1;rw[gE hls,l1]at hi;have hq:i/e.n<len:=Nat.div_lt_of_lt_mul (by rw[Nat.mul_comm];exact hi);obtain⟨l,hl⟩:∃l,css[i/e.n]?=some l:=⟨_,amg (by omega)⟩
     obtain⟨y,hy,hrd⟩:=fO hall _ l hl;have hmod:i%e.n<e.n:=ao4 _ hn0;obtain⟨u,hu'⟩:∃u,l[i%e.n]?=some u:=⟨_,amg (by rw[Ty.rd_len hrd];exact hmod)⟩
     have hfl:=lC hls hl hu';have hdm:i/e.n*e.n+i%e.n=i:=by rw[Nat.mul_comm];exact Nat.div_add_mod i e.n
     rw[hdm,hv]at hfl;injection hfl with hfl;subst hfl;have:=(hk _ l y hl hy).2 _ _ hu';rw[c7,c7]at this;rwa [aoi,hdm]at this
    ·obtain⟨i,hi,rfl⟩:=an0 hy;obtain⟨l,hl,_⟩:=pM hall i _ (amg hi);exact(hk i l _ hl (amg hi)).1.2
 |st a ih=>
  refine oS (λa b e=>by cases e) λn t hr fuel cs x hl hx=>?_;cases n with
  |zero=>simp[rep]at hr
  |succ n=>
   unfold rep at hr;split at hr<;>try (cases hr;done)
   all_goals rename_i hu he<;>cases he
   ·simp only[aml]at hr;obtain⟨xs,k,rfl,_,_,hlen,hg⟩:=DataW.trod_struct hu hx;refine ih.2.1 n _ 0 cs hr.1 hl λf hf _=>?_;obtain⟨i,hi,rfl⟩:=an0 hf;rename_i fs;have h1:=hg i _ (by rw[<-an7];exact amg hi);obtain⟨y,hy⟩:∃y,xs[i]?=some y:=⟨_,amg (by rw[hlen];simpa using hi)⟩
    rw[hy]at h1;exact⟨k,y,by rw[apu];exact h1⟩
   ·simp only[aml]at hr;obtain⟨xs,k,rfl,_,_,hlen,hg⟩:=DataW.trod_array hu hx;refine ih.2.2 n _ _ cs hr.1 hl λi hi=>?_;have h1:=hg i hi;obtain⟨y,hy⟩:∃y,xs[i]?=some y:=⟨_,amg (by rw[hlen];exact hi)⟩
    rw[hy]at h1;exact⟨k,y,h1⟩
 |pair a b iha ihb=>
  have h1:R1 enc P w base spare held (.pair a b):=by
   intro n t hr;cases n with
   |zero=>simp[rep]at hr
   |succ n=>
    unfold rep at hr;split at hr<;>first|(cases hr;done)|(rename_i he;cases he)
  have cut:∀{cs:List Value} {k m:Nat},cs.length=a.n+b.n->((cs.drop a.n).drop k).take m=(cs.drop (a.n+k)).take m:=λ_=>by rw[apq]
  refine⟨h1,aiX h1 λn f g fs off cs hr hl hf=>?_,agV h1 λn k e cs hr hl hf=>?_⟩
  ·simp only[yF,aml]at hr;obtain⟨⟨⟨r1,r2⟩,r3⟩,r4⟩:=hr;have ho:=amk r2;have hc:=amk r3;simp only[Ty.n]at hl;obtain⟨fuel,x,hx⟩:=hf f (by simp) (by omega);rw[ho,aoD,hc,an3]at hx;obtain⟨y1,k1,k2⟩:=iha.1 n f.type r1 fuel (cs.take a.n) x (by simp;omega) hx
   obtain⟨y2,k3,k4⟩:=ihb.2.1 n (g::fs) (off+a.n) (cs.drop a.n) r4 (by simp;omega) λq hq hle=>by
    obtain⟨fuel,x,hx⟩:=hf q (by simp only[amy]at hq ⊢;exact .inr hq) (by omega);refine⟨fuel,x,?_⟩;rw[apq,show a.n+(q.offset-(off+a.n))=q.offset-off by omega];exact hx
   exact⟨(y1,y2),⟨_,_,(anG a.n cs).symm,k1,k3⟩,k2,k4⟩
  ·simp only[Hy,aml]at hr;obtain⟨⟨r1,r2⟩,r3⟩:=hr;have hc:=amk r2;simp only[Ty.n]at hl;obtain⟨fuel,x,hx⟩:=hf 0 (by omega);rw[ape,an3,<-hc]at hx;obtain⟨y1,k1,k2⟩:=iha.1 n e r1 fuel (cs.take a.n) x (by simp;omega) hx
   obtain⟨y2,k3,k4⟩:=ihb.2.2 n (k+1) e (cs.drop a.n) r3 (by simp;omega) λi hi=>by
    obtain⟨fuel,x,hx⟩:=hf (i+1) (by omega);refine⟨fuel,x,?_⟩;rw[apq,hc,show P.cellsOf e+i*P.cellsOf e=(i+1)*P.cellsOf e by rw[an5];omega];exact hx
   exact⟨(y1,y2),⟨_,_,(anG a.n cs).symm,k1,k3⟩,k2,k4⟩
end
end
section
namespace RE
section
variable {l c:Ln}
end
end RE
end
section
open RE
end
def ab3:List En:=[enT NW,enT sO]
def aaz(a b:BCU)(_k:KT):OLR:=og (decide (fa a b)) (match cf (dC a) (dC b)with|true=>(match a.2.2.2.1==b.2.2.2.1 with|true=>(og (decide (okP 4000 a.2.2.2.2.1/\okP 4000 b.2.2.2.2.1)) (match aB (dec a.2.2.2.2.1) (dec b.2.2.2.2.1)==0 with|true=>(og (decide (okP 4000 a.2.2.2.2.2/\okP 4000 b.2.2.2.2.2)) (some [RV.d .bool (aB (dec a.2.2.2.2.2) (dec b.2.2.2.2.2)==0)]))|false=>some [RV.d .bool false]))|false=>some [RV.d .bool false])|false=>some [RV.d .bool false])
def ahf:Cn 53 [tCU,tCU]:=cn λ(a b:BCU)=>lf (fU a b) [.d .bool (jh (dC a) (dC b))] λh=>by
 refine aA ab3 (aaz a b) ⟨0,?_⟩;obtain⟨⟨a1,a2⟩,b1,b2⟩:=h;have a4:=bh (k:=4000) a1 (by decide) (by decide);have b4:=bh (k:=4000) b1 (by decide) (by decide);unfold aaz jh;rw[dT (show fa a b from⟨a2,b2⟩),dT (show okP 4000 a.2.2.2.2.1/\okP 4000 b.2.2.2.2.1 from⟨a4.2.2.1,b4.2.2.1⟩),dT (show okP 4000 a.2.2.2.2.2/\okP 4000 b.2.2.2.2.2 from⟨a4.2.2.2,b4.2.2.2⟩)];have e2:∀c,cwC (dC c)=c.2.2.2.1:=λ_=>rfl;have e3:∀c,frC (dC c)=dec c.2.2.2.2.1:=λ_=>rfl;have e4:∀c,toC (dC c)=dec c.2.2.2.2.2:=λ_=>rfl;rw[e2,e2,e3,e3,e4,e4];cases cf (dC a) (dC b)<;>cases(a.2.2.2.1==b.2.2.2.1)<;>cases(aB (dec a.2.2.2.2.1) (dec b.2.2.2.2.1)==0)<;>rfl
def Rn(P:Program)(F:FT)(T:TT)(E:Env)(N:NT):Nat->Nat->Cfg->OLR
 |0,_,_=>none
 |n+1,i,c=>go2 P F T E N (Rn P F T E N n) 4000 {c with K:=.lp i::c.K} (.node (i+1))
theorem Il(P:Program)(F:FT)(T:TT)(E:Env)(N:NT):∀n,Rn P F T E N n=run P F T E N n
 |0=>rfl
 |n+1=>by funext i c;simp only[Rn,run];rw[Il P F T E N n,xc]
theorem alt{C:Ctx}{f n:Nat}{args:List SV}{t:OLR}{r:List RV}(e:go2 C.P C.F C.T C.E C.N (Rn C.P C.F C.T C.E C.N n) 4000 (oo f args) (.node 0)=t)(h:t=some r):C.Res f args r:=by
 rw[Il,xc]at e;exact⟨n,e.trans h⟩
def RT(C:Ctx)(f:Nat)(args:List SV)(t:OLR):Prop:=∀{r:List RV},t=some r->C.Res f args r
theorem rtX{E:Env}{N:NT}{f:Nat}{args:List SV}{t:OLR}(e:go2 Tryz.prog ft tys E N (Rn Tryz.prog ft tys E N 99) 4000 (oo f args) (.node 0)=t:=by kernel_rfl):RT (CX E N) f args t:=λh=>alt (C:=CX E N) e h
end Go.Proofs.YtmnlppieefomnaaGreatDoor
end
