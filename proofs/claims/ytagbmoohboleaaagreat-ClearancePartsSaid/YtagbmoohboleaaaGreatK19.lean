/- Pieces of a curve, common pieces: the program's contracts. -/
import Derived.Test.YtagbmoohboleaaaGreatK18
import Derived.Test.YtagbmoohboleaaaGreatK16
import Derived.Test.YtagbmoohboleaaaGreatK17
import Derived.Test.YtagbmoohboleaaaGreatK15
import Derived.Test.YtagbmoohboleaaaGreatK6
import Derived.ProofKit
import Derived.OpenShut
import Derived.ChangeSame
import Derived.Deep.Slices
import Derived.Test.YtagbmoohboleaaaGreatK14
noncomputable section
namespace Go.Proofs.YtagbmoohboleaaaGreat
open Go.RowKit Go.IntKind
section
def zA(c d:BCU)(l:List BP):Prop:=mB c l/\okC 4000 d
instance (c d:BCU) (l:List BP):Decidable (zA c d l):=by unfold zA;infer_instance
theorem aeX(d:BCU):(eo d).1=d.1:=by
 unfold eo;cases d.2.2.2.1<;>rfl
theorem Kx{k:Nat}{d:BCU}(h:okC k d):okC k (eo d):=by
 unfold eo;cases d.2.2.2.1
 ·exact h
 ·exact MR k h
theorem Dl{c:BCU}(hc:okC 4000 c):∀{L:List BP} {f:BP},okP 4000 f->(∀x∈L,okP 4000 x)->∀p∈AF c f L,okC 4000 p
 |[],f,hf,_,p,hp=>by
  rw[aot.1 hp];exact⟨hc.1,hc.2.1,hf,hc.2.2.2⟩
 |x::r,f,hf,hL,p,hp=>by
  have hx:=hL x (by simp);have hr:∀y∈r,okP 4000 y:=λy hy=>hL y (ann _ hy);unfold AF at hp;cases h:jg x c.2.2.2.2.1||jg x c.2.2.2.2.2<;>rw[h]at hp
  ·rcases anr.1 hp with e|e
   ·rw[e];exact⟨hc.1,hc.2.1,hf,hx⟩
   ·exact Dl hc hx hr p e
  ·exact Dl hc hf hr p hp
theorem Vk{c:BCU}{l:List BP}(h:mB c l):(tH c l).length<=20/\∀p∈tH c l,okC 4000 p:=by
 obtain⟨hc,hl,ho⟩:=h;have hs:∀x∈dB (dC c) l,okP 4000 x:=λx hx=>ho x (ki hx);have hn:(dB (dC c) l).length<=l.length:=qN
 have len:∀(L:List BP) (f:BP),(AF c f L).length<=L.length+1:=by
  intro L;induction L with
  |nil=>intro f;simp[AF]
  |cons x r ih=>
   intro f;unfold AF;cases jg x c.2.2.2.2.1||jg x c.2.2.2.2.2
   ·have:=ih x;simp only[cond_false,ans];omega
   ·have:=ih f;simp only[cond_true,ans];omega
 unfold tH;cases aeS c l
 ·refine⟨?_,Dl hc hc.2.2.1 hs⟩;have:=len (dB (dC c) l) c.2.2.2.2.1;simp only[cond_false];unfold aeh;omega
 ·exact⟨by simp,λp hp=>by cases hp⟩
def RD:List En:=[enT IZ,enT PK,enK Oj]
def adW:NT:=[((98,6),{keep:=[0,1,7,8],hl:=1}),((9,18),{keep:=[2,6,7,17,18,19],own:=[(6,39,tCU)],hl:=3}),((9,4),{keep:=[1,2,13],hl:=0}),((38,3),{keep:=[7],hl:=0}),((98,18),{keep:=[0,1,5,7,8,16],hl:=0})]
def Ea:Ctx:=CX (ens RD) adW
def r7(c:BCU)(l:List BP)(s98_8:Int):Cfg:=⟨98,[.blk 0,.seq 25],[(0,.d (.sl tP) l),(1,.clo 39 [0]),(7,SI (l.length:Int)),(8,SI s98_8)],[.box 39 (Ty.split tCU c)],1,[⟨38,[.seq 4],3,2,[],1,none⟩,⟨9,[.seq 5,.seq 10],4,2,[(1,.d (.sl tP) l),(2,.box 0 0)],0,none⟩]⟩
def rS(c:BCU)(l:List BP)(s19:Int)(B1:BCU)(r2:List BCU):Cfg:=⟨9,[.blk 0,.seq 41],[(2,.box 0 0),(6,.own 2),(7,.box 1 0),(17,.d (.sl tP) (dB (dC c) l)),(18,SI ((dB (dC c) l).length:Int)),(19,SI s19)],[.box 39 (Ty.split tCU c),.box 39 (Ty.split tCU B1),.row 39 tCU r2],0,[]⟩
def agj(c:BCU)(l:List BP)(k:KT):OLR:=k 6 (r7 c l 0)
theorem ajR(c:BCU)(l:List BP):RS Ea 9 [.d tCU c,.d (.sl tP) l] (agj c l):=rsX
def re(c:BCU)(l:List BP)(s98_8:Int)(k:KT):OLR:=match decide (s98_8<(l.length:Int))with|true=>(match aS l s98_8 with|some x1=>(match decide (okC 4000 c/\okP 4000 x1)with|true=>(match !(onP (dC c) (dec x1))with|true=>(match decide (s98_8>=0)with|true=>some [RV.d (.sl tCU) ([]),RV.d aqw 1]|false=>(match decide (mB c l)with|true=>none|false=>none))|false=>k 6 (r7 c l (i64.wrap (s98_8+1))))|false=>none)|none=>none)|false=>(match decide ((-1)>=0)with|true=>some [RV.d (.sl tCU) ([]),RV.d aqw 1]|false=>(match decide (mB c l)with|true=>k 18 (rS c l 0 c ([]))|false=>none))
theorem wU(c:BCU)(l:List BP)(s98_8:Int):RN Ea 6 (r7 c l s98_8) (re c l s98_8):=rnX
def vZ(c:BCU)(l:List BP)(s19:Int)(B1:BCU)(r2:List BCU)(k:KT):OLR:=match decide (s19<((dB (dC c) l).length:Int))with|true=>(match aS (dB (dC c) l) s19 with|some x1=>(match decide (okP 4000 x1/\okP 4000 c.2.2.2.2.1)with|true=>(match aZ (dec x1) (dec c.2.2.2.2.1)==0 with|true=>k 18 (rS c l (i64.wrap (s19+1)) B1 r2)|false=>(match decide (okP 4000 x1/\okP 4000 c.2.2.2.2.2)with|true=>(match aZ (dec x1) (dec c.2.2.2.2.2)==0 with|true=>k 18 (rS c l (i64.wrap (s19+1)) B1 r2)|false=>dup (.b .l .l) (match decide ((r2.length+([(B1.1,(B1.2.1,(B1.2.2.1,(B1.2.2.2.1,(B1.2.2.2.2.1,x1)))))]).length)*1040<=140737488355328/\r2.length+([(B1.1,(B1.2.1,(B1.2.2.1,(B1.2.2.2.1,(B1.2.2.2.2.1,x1)))))]).length<=140737488355328)with|true=>k 18 (rS c l (i64.wrap (s19+1)) (B1.1,(B1.2.1,(B1.2.2.1,(B1.2.2.2.1,(x1,B1.2.2.2.2.2))))) (r2++([(B1.1,(B1.2.1,(B1.2.2.1,(B1.2.2.2.1,(B1.2.2.2.2.1,x1)))))])))|false=>none))|false=>none))|false=>none)|none=>none)|false=>(match decide ((r2.length+([B1]).length)*1040<=140737488355328/\r2.length+([B1]).length<=140737488355328)with|true=>some [RV.d (.sl tCU) (r2++([B1])),RV.d aqw 0]|false=>none)
theorem BL(c:BCU)(l:List BP)(s19:Int)(B1:BCU)(r2:List BCU):RN Ea 18 (rS c l s19 B1 r2) (vZ c l s19 B1 r2):=rnX
section
variable (c:BCU) (l:List BP) (h:mB c l)
include h
theorem Ku:∀(L:List BP) (i:Nat),(dB (dC c) l).drop i=L->i<=(dB (dC c) l).length->∀(f:BP) (r2:List BCU),r2.length<=i->Ea.Runs 18 (rS c l (i:Int) (eG c f c.2.2.2.2.2) r2) [.d (.sl tCU) (r2++AF c f L),.d aqw (0:Int)]
 |[],i,hd,hi,f,r2,hr=>by
  have hn:(dB (dC c) l).length<=l.length:=qN;have hl:=h.2.1;have hlen:=congrArg List.length hd;rw[apz,List.length_nil]at hlen;refine BL _ _ _ _ _ ⟨0,?_⟩;unfold vZ;rw[b8 (by omega),anC,B9 (by omega) (by omega)];rfl
 |x::r,i,hd,hi,f,r2,hr=>by
  have hn:(dB (dC c) l).length<=l.length:=qN;have hl:=h.2.1;have hlen:=congrArg List.length hd;rw[apz,ans]at hlen;have hil:i<(dB (dC c) l).length:=by omega
  have hd2:=anu hil;rw[hd2]at hd;injection hd with e1 e2;have hx:okP 4000 x:=by rw[<-e1];exact h.2.2 _ (ki (anG hil))
  have g1:aS (dB (dC c) l) (i:Int)=some x:=by rw[aq,anc hil,e1]
  have ih:=Ku r (i+1) e2 (by omega);refine BL _ _ _ _ _ ?_;unfold vZ AF;rw[bH hil,g1,bW (by omega)];dsimp only;rw[dT (show okP 4000 x/\okP 4000 c.2.2.2.2.1 from⟨hx,h.1.2.2.1⟩),dT (show okP 4000 x/\okP 4000 c.2.2.2.2.2 from⟨hx,h.1.2.2.2⟩)];unfold jg;cases q1:aZ (dec x) (dec c.2.2.2.2.1)==0
  ·cases q2:aZ (dec x) (dec c.2.2.2.2.2)==0
   ·obtain⟨n,hn⟩:=ih x (r2++[eG c f x]) (by simp;omega);refine⟨n,?_⟩;rw[anD]at hn;simp only[fE];rw[anC,B9 (by omega) (by omega)];exact hn
   ·exact ih f r2 (by omega)
  ·exact ih f r2 (by omega)
theorem adp:∀(j i:Nat),i+j=l.length->Ea.Runs 6 (r7 c l (i:Int)) [.d (.sl tCU) (bif (l.drop i).any (λp=>!onP (dC c) (dec p))then []else aeh c l),.d aqw (bif (l.drop i).any (λp=>!onP (dC c) (dec p))then(1:Int)else 0)]:=by
 intro j;have hl:=h.2.1;induction j with
 |zero=>
  intro i hi;obtain⟨n,hn⟩:=Ku c l h (dB (dC c) l) 0 rfl (apH _) c.2.2.2.2.1 [] (ani _);refine wU _ _ _ ⟨n,?_⟩;unfold re;rw[b8 (by omega),qP (by omega)];dsimp only;rw[dF (show ¬(-1:Int)>=0 by decide),dT h];exact hn
 |succ j ih=>
  intro i hi;have hil:i<l.length:=by omega
  obtain⟨n,hn⟩:=ih (i+1) (by omega);refine wU _ _ _ ⟨n,?_⟩;unfold re;rw[bH hil,aq,anc hil,ir hil,aqj,bW (by omega)];dsimp only;rw[dT (show okC 4000 c/\okP 4000 l[i] from⟨h.1,h.2.2 _ (anG _)⟩)];cases onP (dC c) (dec l[i])
  ·dsimp only[Bool.not_false];rw[dT (show(i:Int)>=0 by omega)];rfl
  ·exact hn
end
def ag6:Cn 9 [tCU,(.sl tP)]:=cn λ(c:BCU) (l:List BP)=>lf (mB c l) [.d (.sl tCU) (tH c l),.d aqw (alW c l)] λh=>by
 have q:=adp c l h l.length 0 (anO _);exact dk RD (ajR _ _ q)
def afr:List En:=[enT IZ,enT PK,enL abv,enT NS]
def Yk(d p:BCU)(_k:KT):OLR:=og (decide (okC 4000 d/\okP 4000 p.2.2.2.2.1)) (match !(onP (dC d) (dec p.2.2.2.2.1))with|true=>some [RV.d .bool false]|false=>(og (decide (okC 4000 d/\okP 4000 p.2.2.2.2.2)) (match !(onP (dC d) (dec p.2.2.2.2.2))with|true=>some [RV.d .bool false]|false=>(match !d.1 with|true=>some [RV.d .bool true]|false=>(og (decide (okP 4000 ((((((hid (eo p)).2).2).2).2).1)/\okP 4000 ((((((hid (eo d)).2).2).2).2).2))) (match aZ (dec ((((((hid (eo p)).2).2).2).2).1)) (dec ((((((hid (eo d)).2).2).2).2).2))==0 with|true=>some [RV.d .bool false]|false=>(og (decide (ok Ln 300 ((((hid (eo d)).2).2).1)/\okP 4000 ((((((hid (eo p)).2).2).2).2).1)/\okP 4000 ((((((hid (eo p)).2).2).2).2).2)/\okP 4000 ((((((hid (eo d)).2).2).2).2).2))) (some [RV.d .bool (decide ((iE bi (ptd (dec ((((hid (eo d)).2).2).1)) (dec ((((((hid (eo p)).2).2).2).2).1))) (ptd (dec ((((hid (eo d)).2).2).1)) (dec ((((((hid (eo p)).2).2).2).2).2))) (ptd (dec ((((hid (eo d)).2).2).1)) (dec ((((((hid (eo d)).2).2).2).2).2))))<=0))]))))))))
def agm:Cn 176 [tCU,tCU]:=cn λ(d p:BCU)=>lf (okC 4000 d/\okC 4000 p) [.d .bool (FX d p)] λh=>by
 refine aB afr (Yk d p) ⟨0,?_⟩;obtain⟨hd,hp⟩:=h;have hd':=Kx hd;have hp':=Kx hp;unfold Yk FX frB toB jg;simp only[bL];rw[dT (show okC 4000 d/\okP 4000 p.2.2.2.2.1 from⟨hd,hp.2.2.1⟩),dT (show okC 4000 d/\okP 4000 p.2.2.2.2.2 from⟨hd,hp.2.2.2⟩)];cases onP (dC d) (dec p.2.2.2.2.1)
 ·rfl
 ·cases onP (dC d) (dec p.2.2.2.2.2)
  ·rfl
  ·cases ha:d.1
   ·rfl
   ·rw[dT (show okP 4000 (eo p).2.2.2.2.1/\okP 4000 (eo d).2.2.2.2.2 from⟨hp'.2.2.1,hd'.2.2.2⟩),dT (show ok Ln 300 (eo d).2.2.1/\okP 4000 (eo p).2.2.2.2.1/\okP 4000 (eo p).2.2.2.2.2/\okP 4000 (eo d).2.2.2.2.2 from⟨(hd'.1 ((aeX d).trans ha)).1,hp'.2.2.1,hp'.2.2.2,hd'.2.2.2⟩)];cases aZ (dec (eo p).2.2.2.2.1) (dec (eo d).2.2.2.2.2)==0<;>rfl
def Rb:List En:=[enK ag6,enT agm]
def ac7:NT:=[((211,6),{keep:=[0,1,7,8],hl:=2}),((77,5),{keep:=[17],hl:=0}),((174,3),{keep:=[7],hl:=0}),((211,18),{keep:=[0,1,5,7,8,16],hl:=0})]
def M4:Ctx:=CX (ens Rb) ac7
def pZ(c d:BCU)(l:List BP)(s211_8:Int):Cfg:=⟨211,[.blk 0,.seq 25],[(0,.d (.sl tCU) (tH c l)),(1,.clo 175 [1]),(7,SI ((tH c l).length:Int)),(8,SI s211_8)],[.box 39 (Ty.split tCU c),.box 39 (Ty.split tCU d)],2,[⟨174,[.seq 4],3,2,[],2,none⟩,⟨77,[.seq 6],5,2,[],0,none⟩]⟩
def XT(c d:BCU)(l:List BP)(k:KT):OLR:=og (decide (mB c l)) (k 6 (pZ c d l 0))
theorem agq(c d:BCU)(l:List BP):RS M4 77 [.d tCU c,.d tCU d,.d (.sl tP) l] (XT c d l):=rsX
def o9(c d:BCU)(l:List BP)(s211_8:Int)(k:KT):OLR:=match decide (s211_8<((tH c l).length:Int))with|true=>(match aS (tH c l) s211_8 with|some x1=>(og (decide (okC 4000 d/\okC 4000 x1)) (match FX d x1 with|true=>some [RV.d .bool (decide (s211_8>=0))]|false=>k 6 (pZ c d l (i64.wrap (s211_8+1)))))|none=>none)|false=>some [RV.d .bool (decide ((-1)>=0))]
theorem uh(c d:BCU)(l:List BP)(s211_8:Int):RN M4 6 (pZ c d l s211_8) (o9 c d l s211_8):=rnX
theorem aeE(c d:BCU)(l:List BP)(h:zA c d l):∀(j i:Nat),i+j=(tH c l).length->M4.Runs 6 (pZ c d l (i:Int)) [.d .bool (((tH c l).drop i).any (FX d))]:=by
 obtain⟨hn,ho⟩:=Vk h.1;intro j;induction j with
 |zero=>
  intro i hi;refine uh _ _ _ _ ⟨0,?_⟩;unfold o9;rw[b8 (by omega),qP (by omega)];rfl
 |succ j ih=>
  intro i hi;have hil:i<(tH c l).length:=by omega
  obtain⟨n,hn⟩:=ih (i+1) (by omega);refine uh _ _ _ _ ⟨n,?_⟩;unfold o9;rw[bH hil,aq,anc hil,ir hil,aqj,bW (by omega)];dsimp only;rw[dT (show okC 4000 d/\okC 4000 (tH c l)[i] from⟨h.2,ho _ (anG _)⟩)];cases FX d (tH c l)[i]
  ·exact hn
  ·dsimp only;rw[dT (show(i:Int)>=0 by omega)];rfl
def aax:Cn 77 [tCU,tCU,(.sl tP)]:=cn λ(c d:BCU) (l:List BP)=>lf (zA c d l) [.d .bool (yo c d l)] λh=>by
 obtain⟨n,hn⟩:=aeE c d l h (tH c l).length 0 (anO _);refine dk Rb (agq _ _ _ ⟨n,?_⟩);unfold XT;rw[dT h.1];exact hn
end
section
theorem F4{c d:BCU}(h:hU c d):(mA c d).length<=4/\∀x∈mA c d,okP 4000 x:=by
 obtain⟨⟨h1,h2⟩,h3,h4⟩:=h;have up:∀{k x},okP k x->k<=4000->okP 4000 x:=λh hk=>cS h hk (by decide);unfold mA;cases hs:cH (dC c) (dC d)
 ·refine⟨?_,λx hx=>?_⟩
  ·simp only[cond_false,aoV];have:∀l c,[BdL l]->[BdC c]->(mn l c).length<=4:=λl c _ _=>anq u4.1 (by decide);obtain⟨c1,c2⟩:=kM h2;obtain⟨d1,d2⟩:=kM h4;have ec:(dC c).1=c.1:=rfl;have ed:(dC d).1=d.1:=rfl;unfold im;rw[ec,ed];cases ha:c.1<;>cases hb:d.1
   ·have i1:=(c2 ha).1;have i2:=(d2 hb).1;exact anq yd.1 (by decide)
   ·have i1:=(c2 ha).1;have i2:=(d1 hb).1;exact this _ _
   ·have i1:=(c1 ha).1;have i2:=(d2 hb).1;exact this _ _
   ·have i1:=(c1 ha).1;have i2:=(d1 hb).1;show(tc _ _).length<=4;unfold tc;cases hq:iU (ciC (dC c)) (ciC (dC d))
    ·have i3:BdL (oH (ciC (dC c)) (ciC (dC d))):=Ad;exact this _ _
    ·exact apH _
  ·obtain⟨p,hp,rfl⟩:=ao5.1 hx;obtain⟨b,r,_,_⟩:=RE.supM_on h2 h4 hp;exact anf (aQ (j:=1200) (by decide) (by decide))
 ·refine⟨by simp,λx hx=>?_⟩;have:x=c.2.2.2.2.1\/x=c.2.2.2.2.2\/x=d.2.2.2.2.1\/x=d.2.2.2.2.2:=by simpa using hx
  rcases this with e|e|e|e<;>rw[e]
  ·exact up h1.2.2.1 (by decide)
  ·exact up h1.2.2.2 (by decide)
  ·exact up h3.2.2.1 (by decide)
  ·exact up h3.2.2.2 (by decide)
theorem Jm{α:Type}(z:α)(L T:List α):((ks z ((L.length:Int).toNat) ((((L++T).length:Int)).toNat-(L.length:Int).toNat) (L++T)).drop ((0:Int).toNat)).take ((L.length:Int).toNat-(0:Int).toNat)=L/\
  L.length<=(ks z ((L.length:Int).toNat) ((((L++T).length:Int)).toNat-(L.length:Int).toNat) (L++T)).length:=by
 have hcl:(ks z ((L.length:Int).toNat) ((((L++T).length:Int)).toNat-(L.length:Int).toNat) (L++T)).take L.length=L:=by
  unfold ks;rw[show((L.length:Int)).toNat=L.length by omega,anD,List.take_append_of_le_length (by simp),aqo,Nat.min_self,List.take_left' rfl]
 refine⟨?_,?_⟩
 ·rw[show((0:Int)).toNat=0 from rfl,aoT,show((L.length:Int)).toNat-0=L.length by omega,hcl]
 ·have:=congrArg List.length hcl;rw[anY]at this;omega
def ab4:Cn 71 [tCU,tCU]:=cn λ(a b:BCU)=>lf (iR a b/\cH (dC a) (dC b)=true) [.d .bool true] λh=>by
 have e:CQq7 71 [.d tCU a,.d tCU b] [.d .bool (cH (dC a) (dC b))]:=(abr.g a b).h h.1;rw[h.2]at e;exact e
def R8:List En:=[enT ab4,enT S2,enL X0,enK Oj,enF aax,enK H9]
def V9:NT:=[((98,6),{keep:=[0,1,7,8],hl:=4}),((73,16),{keep:=[0,1,5,6],hl:=4}),((23,11),{keep:=[2,3,26,28],hl:=0}),((73,3),{keep:=[0,1,10],hl:=0}),((98,18),{keep:=[0,1,5,7,8,16],hl:=0}),((73,28),{keep:=[0,1,5,6,7,28],hl:=0})]
def lS:Ctx:=CX (ens R8) V9
def lX(c d:BCU)(s98_8:Int):Cfg:=⟨98,[.blk 0,.seq 25],[(0,.own 3),(1,.clo 75 [0,1]),(7,SI (([c.2.2.2.2.1,c.2.2.2.2.2,d.2.2.2.2.1,d.2.2.2.2.2]).length:Int)),(8,SI s98_8)],[.box 39 (Ty.split tCU c),.box 39 (Ty.split tCU d),.gone,.row 37 tP ([c.2.2.2.2.1,c.2.2.2.2.2,d.2.2.2.2.1,d.2.2.2.2.2])],4,[⟨73,[.seq 4],3,2,[(0,.own 3),(1,.clo 75 [0,1])],4,none⟩,⟨23,[.seq 12],11,3,[(2,.box 0 0),(3,.box 1 0),(26,.own 3)],0,none⟩]⟩
def dW(c d:BCU)(s73_5 s73_6:Int)(r73_3:List BP):Cfg:=⟨73,[.blk 0,.seq 35],[(0,.own 3),(1,.clo 75 [0,1]),(5,SI s73_5),(6,SI s73_6)],[.box 39 (Ty.split tCU c),.box 39 (Ty.split tCU d),.gone,.row 37 tP r73_3],4,[⟨23,[.seq 12],11,3,[(2,.box 0 0),(3,.box 1 0),(26,.own 3)],0,none⟩]⟩
def QT(c d:BCU)(k:KT):OLR:=match decide (iR c d/\cH (dC c) (dC d)=true)with|true=>(match decide (([c.2.2.2.2.1,c.2.2.2.2.2,d.2.2.2.2.1,d.2.2.2.2.2]).length<=100000)with|true=>k 6 (lX c d 0)|false=>none)|false=>none
theorem ac5(c d:BCU):RS lS 23 [.d tCU c,.d tCU d] (QT c d):=rsX
def kZ(c d:BCU)(s98_8:Int)(k:KT):OLR:=match decide (s98_8<(([c.2.2.2.2.1,c.2.2.2.2.2,d.2.2.2.2.1,d.2.2.2.2.2]).length:Int))with|true=>(match aS ([c.2.2.2.2.1,c.2.2.2.2.2,d.2.2.2.2.1,d.2.2.2.2.2]) s98_8 with|some _=>(match true,([c.2.2.2.2.1,c.2.2.2.2.2,d.2.2.2.2.1,d.2.2.2.2.2])[(s98_8).toNat]? with|true,some x1=>(match decide (okC 4000 c/\okP 4000 x1)with|true=>(match !(jd (dC c) (dec x1))with|true=>(match s98_8==(-1)with|true=>(match decide (mB c ([c.2.2.2.2.1,c.2.2.2.2.2,d.2.2.2.2.1,d.2.2.2.2.2]))with|true=>(match decide (iR c d/\cH (dC c) (dC d)=true)with|true=>(match decide (zA c d (dB (dC c) ([c.2.2.2.2.1,c.2.2.2.2.2,d.2.2.2.2.1,d.2.2.2.2.2])))with|true=>some [RV.d (.sl tP) (dB (dC c) ([c.2.2.2.2.1,c.2.2.2.2.2,d.2.2.2.2.1,d.2.2.2.2.2])),RV.d .bool (yo c d (dB (dC c) ([c.2.2.2.2.1,c.2.2.2.2.2,d.2.2.2.2.1,d.2.2.2.2.2])))]|false=>none)|false=>none)|false=>none)|false=>k 16 (dW c d s98_8 (i64.wrap (s98_8+1)) ([c.2.2.2.2.1,c.2.2.2.2.2,d.2.2.2.2.1,d.2.2.2.2.2])))|false=>(match decide (okC 4000 d/\okP 4000 x1)with|true=>(match !(jd (dC d) (dec x1))with|true=>(match s98_8==(-1)with|true=>(match decide (mB c ([c.2.2.2.2.1,c.2.2.2.2.2,d.2.2.2.2.1,d.2.2.2.2.2]))with|true=>(match decide (iR c d/\cH (dC c) (dC d)=true)with|true=>(match decide (zA c d (dB (dC c) ([c.2.2.2.2.1,c.2.2.2.2.2,d.2.2.2.2.1,d.2.2.2.2.2])))with|true=>some [RV.d (.sl tP) (dB (dC c) ([c.2.2.2.2.1,c.2.2.2.2.2,d.2.2.2.2.1,d.2.2.2.2.2])),RV.d .bool (yo c d (dB (dC c) ([c.2.2.2.2.1,c.2.2.2.2.2,d.2.2.2.2.1,d.2.2.2.2.2])))]|false=>none)|false=>none)|false=>none)|false=>k 16 (dW c d s98_8 (i64.wrap (s98_8+1)) ([c.2.2.2.2.1,c.2.2.2.2.2,d.2.2.2.2.1,d.2.2.2.2.2])))|false=>k 6 (lX c d (i64.wrap (s98_8+1))))|false=>none))|false=>none)|_,_=>none)|none=>none)|false=>(match(-1)==(-1)with|true=>(match decide (mB c ([c.2.2.2.2.1,c.2.2.2.2.2,d.2.2.2.2.1,d.2.2.2.2.2]))with|true=>(match decide (iR c d/\cH (dC c) (dC d)=true)with|true=>(match decide (zA c d (dB (dC c) ([c.2.2.2.2.1,c.2.2.2.2.2,d.2.2.2.2.1,d.2.2.2.2.2])))with|true=>some [RV.d (.sl tP) (dB (dC c) ([c.2.2.2.2.1,c.2.2.2.2.2,d.2.2.2.2.1,d.2.2.2.2.2])),RV.d .bool (yo c d (dB (dC c) ([c.2.2.2.2.1,c.2.2.2.2.2,d.2.2.2.2.1,d.2.2.2.2.2])))]|false=>none)|false=>none)|false=>none)|false=>k 16 (dW c d (-1) (i64.wrap ((-1)+1)) ([c.2.2.2.2.1,c.2.2.2.2.2,d.2.2.2.2.1,d.2.2.2.2.2])))
theorem oR(c d:BCU)(s98_8:Int):RN lS 6 (lX c d s98_8) (kZ c d s98_8):=rnX
def jY(c d:BCU)(s73_5 s73_6:Int)(r73_3:List BP)(k:KT):OLR:=match decide (s73_6<(r73_3.length:Int))with|true=>(match aS r73_3 s73_6 with|some _=>(match true,r73_3[(s73_6).toNat]? with|true,some x1=>(match decide (okC 4000 c/\okP 4000 x1)with|true=>(match !(jd (dC c) (dec x1))with|true=>k 16 (dW c d s73_5 (i64.wrap (s73_6+1)) r73_3)|false=>(match decide (okC 4000 d/\okP 4000 x1)with|true=>(match !(!(jd (dC d) (dec x1)))with|true=>(match aS r73_3 s73_5 with|some _=>(match true,r73_3[(s73_5).toNat]? with|true,some _=>k 16 (dW c d (i64.wrap (s73_5+1)) (i64.wrap (s73_6+1)) (r73_3.set ((s73_5).toNat) x1))|_,_=>none)|none=>none)|false=>k 16 (dW c d s73_5 (i64.wrap (s73_6+1)) r73_3))|false=>none))|false=>none)|_,_=>none)|none=>none)|false=>(match decide ((0:Int)<=s73_5/\s73_5<=(r73_3.length:Int)/\(r73_3.length:Int)<=(r73_3.length:Int))with|true=>(match decide ((0:Int)<=0/\0<=s73_5/\s73_5<=((ks (Ty.zero tP) ((s73_5:Int).toNat) (((r73_3.length:Int):Int).toNat-(s73_5:Int).toNat) r73_3).length:Int))with|true=>(match decide (mB c (((ks (Ty.zero tP) ((s73_5:Int).toNat) (((r73_3.length:Int):Int).toNat-(s73_5:Int).toNat) r73_3).drop ((0:Int).toNat)).take ((s73_5:Int).toNat-(0:Int).toNat)))with|true=>(match decide (iR c d/\cH (dC c) (dC d)=true)with|true=>(match decide (zA c d (dB (dC c) (((ks (Ty.zero tP) ((s73_5:Int).toNat) (((r73_3.length:Int):Int).toNat-(s73_5:Int).toNat) r73_3).drop ((0:Int).toNat)).take ((s73_5:Int).toNat-(0:Int).toNat))))with|true=>some [RV.d (.sl tP) (dB (dC c) (((ks (Ty.zero tP) ((s73_5:Int).toNat) (((r73_3.length:Int):Int).toNat-(s73_5:Int).toNat) r73_3).drop ((0:Int).toNat)).take ((s73_5:Int).toNat-(0:Int).toNat))),RV.d .bool (yo c d (dB (dC c) (((ks (Ty.zero tP) ((s73_5:Int).toNat) (((r73_3.length:Int):Int).toNat-(s73_5:Int).toNat) r73_3).drop ((0:Int).toNat)).take ((s73_5:Int).toNat-(0:Int).toNat))))]|false=>none)|false=>none)|false=>none)|false=>none)|false=>none)
theorem nj(c d:BCU)(s73_5 s73_6:Int)(r73_3:List BP):RN lS 16 (dW c d s73_5 s73_6 r73_3) (jY c d s73_5 s73_6 r73_3):=rnX
section
variable (c d:BCU) (h:hU c d) (hs:cH (dC c) (dC d)=true)
include h hs
theorem EB(L:List BP)(hl:L.length<=4)(ho:∀x∈L,okP 4000 x):(match decide (mB c L)with
  |true=>(match decide (iR c d/\cH (dC c) (dC d)=true)with
   |true=>(match decide (zA c d (dB (dC c) L))with|true=>some [RV.d (.sl tP) (dB (dC c) L),RV.d .bool (yo c d (dB (dC c) L))]|false=>none)
   |false=>none)
  |false=>none)=some [RV.d (.sl tP) (dB (dC c) L),RV.d .bool (yo c d (dB (dC c) L))]:=by
 have hc:okC 4000 c:=cj h.1.1 (by decide) (by decide);have hd:okC 4000 d:=cj h.2.1 (by decide) (by decide);have q:mB c L:=⟨hc,by omega,ho⟩
 have hn:(dB (dC c) L).length<=L.length:=qN;have _q2:zA c d (dB (dC c) L):=⟨⟨hc,by omega,λx hx=>ho x (ki hx)⟩,hd⟩
 rw[dT q,dT (show iR c d/\cH (dC c) (dC d)=true from⟨⟨h.1.2,h.2.2⟩,hs⟩)];dsimp only;rw[dT _q2]
theorem yp:∀(S:List BP) (L J:List BP),J≠[]->(∀x∈L++(J++S),okP 4000 x)->(L++(J++S)).length<=4->
  lS.Runs 16 (dW c d (L.length:Int) ((L.length+J.length:Nat):Int) (L++(J++S))) [RV.d (.sl tP) (dB (dC c) (L++S.filter (iO c d))),RV.d .bool (yo c d (dB (dC c) (L++S.filter (iO c d))))]
 |[],L,J,hJ,hok,h4=>by
  have h4':L.length+J.length<=4:=by simpa using h4
  obtain⟨c1,c2⟩:=Jm (Ty.zero tP) L J;refine nj _ _ _ _ _ ⟨0,?_⟩;unfold jY;rw[anM,b8 (by simp)];dsimp only;rw[dT (show(0:Int)<=(L.length:Int)/\(L.length:Int)<=((L++J).length:Int)/\((L++J).length:Int)<=((L++J).length:Int) by simp only[anK];omega)];rw[dT (show(0:Int)<=0/\0<=(L.length:Int)/\(L.length:Int)<=((ks (Ty.zero tP) ((L.length:Int).toNat) ((((L++J).length:Int)).toNat-(L.length:Int).toNat) (L++J)).length:Int) by omega)];rw[c1,apX,anM];exact EB c d h hs L (by omega) λx hx=>hok x (aoL _ hx)
 |q::S,L,J,hJ,hok,h4=>by
  have h4':L.length+(J.length+(S.length+1))<=4:=by simpa using h4
  have hc:okC 4000 c:=cj h.1.1 (by decide) (by decide);have hd:okC 4000 d:=cj h.2.1 (by decide) (by decide);have hq:okP 4000 q:=hok q (by simp)
  have g1:(L++(J++q::S))[L.length+J.length]?=some q:=by
   have:=pp (L++J) q S;rw[anK,anD]at this;exact this
  obtain⟨y,T,rfl⟩:=List.exists_cons_of_ne_nil hJ;have g2:(L++(y::T++q::S))[L.length]?=some y:=pp L y (T++q::S)
  have hset:(L++(y::T++q::S)).set L.length q=(L++[q])++((T++[q])++S):=by
   have:=Cw y q (T++q::S) L;rw[show y::T++q::S=y::(T++q::S) from rfl,this];simp
  have e2:L++(y::T++q::S)=L++((y::T++[q])++S):=by simp
  have key:∀r n,(match iO c d q with
    |true=>lS.k n 16 (dW c d ((L.length+1:Nat):Int) ((L.length+(y::T).length+1:Nat):Int) ((L++[q])++((T++[q])++S)))
    |false=>lS.k n 16 (dW c d (L.length:Int) ((L.length+(y::T).length+1:Nat):Int) (L++(y::T++q::S))))=some r->
    jY c d (L.length:Int) ((L.length+(y::T).length:Nat):Int) (L++(y::T++q::S)) (lS.k n)=some r:=λr n hk=>by
   unfold jY;rw[bH (by simp only[anK,ans];omega),aq,g1,show((L.length+(y::T).length:Nat):Int).toNat=L.length+(y::T).length by omega,g1];dsimp only;rw[dT (show okC 4000 c/\okP 4000 q from⟨hc,hq⟩),dT (show okC 4000 d/\okP 4000 q from⟨hd,hq⟩),bW (k:=L.length+(y::T).length) (by simp only[ans]at*;omega),bW (k:=L.length) (by omega),aq,g2,show((L.length:Nat):Int).toNat=L.length by omega,g2,hset];unfold iO at hk;cases r1:jd (dC c) (dec q)<;>cases r2:jd (dC d) (dec q)<;>rw[r1,r2]at hk<;>exact hk
  rw[ao4];cases hk:iO c d q
  ·obtain⟨n,hn⟩:=yp S L (y::T++[q]) (by simp) (e2▸hok) (e2▸h4);refine nj _ _ _ _ _ ⟨n,key _ n ?_⟩;rw[hk,e2];rw[anK,anC,<-apg]at hn;exact hn
  ·obtain⟨n,hn⟩:=yp S (L++[q]) (T++[q]) (by simp) (λx hx=>by
    simp only[anR,anr,aox,apZ]at hx;rcases hx with(hx|hx)|(hx|hx)|hx
    ·exact hok x (by simp[hx])
    ·rw[hx];exact hq
    ·exact hok x (by simp[hx])
    ·rw[hx];exact hq
    ·exact hok x (by simp[hx])) (by simp at h4 ⊢;omega)
   refine nj _ _ _ _ _ ⟨n,key _ n ?_⟩;rw[hk];have n1:(L++[q]).length=L.length+1:=by simp
   have n2:L.length+1+(T++[q]).length=L.length+(y::T).length+1:=by simp;omega
   rw[n1,n2,anD L [q] (S.filter (iO c d))]at hn;exact hn
theorem J6(X:List BP)(hX:[c.2.2.2.2.1,c.2.2.2.2.2,d.2.2.2.2.1,d.2.2.2.2.2]=X)(h4:X.length<=4)(hok:∀x∈X,okP 4000 x):∀(S A:List BP),A++S=X->A.filter (iO c d)=A->
  lS.Runs 6 (lX c d (A.length:Int)) [RV.d (.sl tP) (dB (dC c) (A++S.filter (iO c d))),RV.d .bool (yo c d (dB (dC c) (A++S.filter (iO c d))))]
 |[],A,hA,hf=>by
  rw[anM]at hA;refine oR _ _ _ ⟨0,?_⟩;unfold kZ;rw[hX,<-hA,b8 (by omega),apX,anM];exact EB c d h hs A (hA▸h4) (hA▸hok)
 |q::S,A,hA,hf=>by
  have hc:okC 4000 c:=cj h.1.1 (by decide) (by decide);have hd:okC 4000 d:=cj h.2.1 (by decide) (by decide);have hq:okP 4000 q:=hok q (by rw[<-hA];simp);have g1:X[A.length]?=some q:=by rw[<-hA];exact pp A q S
  have hlen:A.length<X.length:=by rw[<-hA];simp
  have key:∀r n,(match iO c d q with
    |true=>lS.k n 6 (lX c d ((A.length+1:Nat):Int))
    |false=>lS.k n 16 (dW c d (A.length:Int) ((A.length+1:Nat):Int) X))=some r->
    kZ c d (A.length:Int) (lS.k n)=some r:=λr n hk=>by
   unfold kZ;rw[hX,bH hlen,aq,g1,show((A.length:Nat):Int).toNat=A.length by omega,g1];dsimp only;rw[dT (show okC 4000 c/\okP 4000 q from⟨hc,hq⟩),dT (show okC 4000 d/\okP 4000 q from⟨hd,hq⟩),bW (k:=A.length) (by omega),show((A.length:Int)== -1)=false by rw[apc];omega];unfold iO at hk;cases r1:jd (dC c) (dec q)<;>cases r2:jd (dC d) (dec q)<;>rw[r1,r2]at hk<;>exact hk
  rw[ao4];cases hk:iO c d q
  ·obtain⟨n,hn⟩:=yp c d h hs S A [q] (by simp) (by rw[aoD,hA];exact hok) (by rw[aoD,hA];exact h4);refine oR _ _ _ ⟨n,key _ n ?_⟩;rw[hk];rw[aoD,hA]at hn;exact hn
  ·obtain⟨n,hn⟩:=J6 X hX h4 hok S (A++[q]) (by rw[anD];exact hA) (by rw[List.filter_append,hf,ao4,hk];rfl);refine oR _ _ _ ⟨n,key _ n ?_⟩;rw[hk];have n1:(A++[q]).length=A.length+1:=by simp
   rw[n1,anD A [q] (S.filter (iO c d))]at hn;exact hn
end
theorem Oe(c d:BCU)(h:hU c d)(hs:cH (dC c) (dC d)=true):CQq7 23 [.d tCU c,.d tCU d] [.d (.sl tP) (je c d),.d .bool (sV c d)]:=by
 obtain⟨h4,ho⟩:=F4 h;have e:mA c d=[c.2.2.2.2.1,c.2.2.2.2.2,d.2.2.2.2.1,d.2.2.2.2.2]:=by unfold mA;rw[hs];rfl
 rw[e]at h4 ho;obtain⟨n,hn⟩:=J6 c d h hs _ rfl h4 ho _ [] rfl rfl;have e2:je c d=dB (dC c) (List.filter (iO c d) [c.2.2.2.2.1,c.2.2.2.2.2,d.2.2.2.2.1,d.2.2.2.2.2]):=by unfold je;rw[e]
 have e3:sV c d=yo c d (dB (dC c) (List.filter (iO c d) [c.2.2.2.2.1,c.2.2.2.2.2,d.2.2.2.2.1,d.2.2.2.2.2])):=by unfold sV;rw[hs,e2];rfl
 rw[e2,e3];refine dk R8 (ac5 _ _ ⟨n,?_⟩);unfold QT;rw[dT (show iR c d/\cH (dC c) (dC d)=true from⟨⟨h.1.2,h.2.2⟩,hs⟩)];dsimp only;rw[dT (anq h4 (by decide))];exact hn
def afn:Cn 71 [tCU,tCU]:=cn λ(a b:BCU)=>lf (iR a b/\cH (dC a) (dC b)=false) [.d .bool false] λh=>by
 have e:CQq7 71 [.d tCU a,.d tCU b] [.d .bool (cH (dC a) (dC b))]:=(abr.g a b).h h.1;rw[h.2]at e;exact e
def PN:List En:=[enT afn,enT S2,enL X0,enK Oj,enF aax,enK H9]
def XD:NT:=[((98,6),{keep:=[0,1,7,8],hl:=3}),((73,16),{keep:=[0,1,5,6],hl:=3}),((23,11),{keep:=[2,3,26,28],hl:=0}),((73,3),{keep:=[0,1,10],hl:=0}),((98,18),{keep:=[0,1,5,7,8,16],hl:=0}),((73,28),{keep:=[0,1,5,6,7,28],hl:=0})]
def ma:Ctx:=CX (ens PN) XD
def l6(c d:BCU)(s98_8:Int):Cfg:=⟨98,[.blk 0,.seq 25],[(0,.own 2),(1,.clo 75 [0,1]),(7,SI (((im (dC c) (dC d)).map enc).length:Int)),(8,SI s98_8)],[.box 39 (Ty.split tCU c),.box 39 (Ty.split tCU d),.row 37 tP ((im (dC c) (dC d)).map enc)],3,[⟨73,[.seq 4],3,2,[(0,.own 2),(1,.clo 75 [0,1])],3,none⟩,⟨23,[.seq 12],11,3,[(2,.box 0 0),(3,.box 1 0),(26,.own 2)],0,none⟩]⟩
def dX(c d:BCU)(s73_5 s73_6:Int)(r73_2:List BP):Cfg:=⟨73,[.blk 0,.seq 35],[(0,.own 2),(1,.clo 75 [0,1]),(5,SI s73_5),(6,SI s73_6)],[.box 39 (Ty.split tCU c),.box 39 (Ty.split tCU d),.row 37 tP r73_2],3,[⟨23,[.seq 12],11,3,[(2,.box 0 0),(3,.box 1 0),(26,.own 2)],0,none⟩]⟩
def QX(c d:BCU)(k:KT):OLR:=match decide (iR c d/\cH (dC c) (dC d)=false)with|true=>(match decide (iR c d)with|true=>(match decide (((im (dC c) (dC d)).map enc).length<=100000)with|true=>k 6 (l6 c d 0)|false=>none)|false=>none)|false=>none
theorem acS(c d:BCU):RS ma 23 [.d tCU c,.d tCU d] (QX c d):=rsX
def ll(c d:BCU)(s98_8:Int)(k:KT):OLR:=match decide (s98_8<(((im (dC c) (dC d)).map enc).length:Int))with|true=>(match aS ((im (dC c) (dC d)).map enc) s98_8 with|some _=>(match true,((im (dC c) (dC d)).map enc)[(s98_8).toNat]? with|true,some x1=>(match decide (okC 4000 c/\okP 4000 x1)with|true=>(match !(jd (dC c) (dec x1))with|true=>(match s98_8==(-1)with|true=>(match decide (mB c ((im (dC c) (dC d)).map enc))with|true=>(match decide (iR c d/\cH (dC c) (dC d)=false)with|true=>some [RV.d (.sl tP) (dB (dC c) ((im (dC c) (dC d)).map enc)),RV.d .bool false]|false=>none)|false=>none)|false=>k 16 (dX c d s98_8 (i64.wrap (s98_8+1)) ((im (dC c) (dC d)).map enc)))|false=>(match decide (okC 4000 d/\okP 4000 x1)with|true=>(match !(jd (dC d) (dec x1))with|true=>(match s98_8==(-1)with|true=>(match decide (mB c ((im (dC c) (dC d)).map enc))with|true=>(match decide (iR c d/\cH (dC c) (dC d)=false)with|true=>some [RV.d (.sl tP) (dB (dC c) ((im (dC c) (dC d)).map enc)),RV.d .bool false]|false=>none)|false=>none)|false=>k 16 (dX c d s98_8 (i64.wrap (s98_8+1)) ((im (dC c) (dC d)).map enc)))|false=>k 6 (l6 c d (i64.wrap (s98_8+1))))|false=>none))|false=>none)|_,_=>none)|none=>none)|false=>(match(-1)==(-1)with|true=>(match decide (mB c ((im (dC c) (dC d)).map enc))with|true=>(match decide (iR c d/\cH (dC c) (dC d)=false)with|true=>some [RV.d (.sl tP) (dB (dC c) ((im (dC c) (dC d)).map enc)),RV.d .bool false]|false=>none)|false=>none)|false=>k 16 (dX c d (-1) (i64.wrap ((-1)+1)) ((im (dC c) (dC d)).map enc)))
theorem pM(c d:BCU)(s98_8:Int):RN ma 6 (l6 c d s98_8) (ll c d s98_8):=rnX
def jX(c d:BCU)(s73_5 s73_6:Int)(r73_2:List BP)(k:KT):OLR:=match decide (s73_6<(r73_2.length:Int))with|true=>(match aS r73_2 s73_6 with|some _=>(match true,r73_2[(s73_6).toNat]? with|true,some x1=>(match decide (okC 4000 c/\okP 4000 x1)with|true=>(match !(jd (dC c) (dec x1))with|true=>k 16 (dX c d s73_5 (i64.wrap (s73_6+1)) r73_2)|false=>(match decide (okC 4000 d/\okP 4000 x1)with|true=>(match !(!(jd (dC d) (dec x1)))with|true=>(match aS r73_2 s73_5 with|some _=>(match true,r73_2[(s73_5).toNat]? with|true,some _=>k 16 (dX c d (i64.wrap (s73_5+1)) (i64.wrap (s73_6+1)) (r73_2.set ((s73_5).toNat) x1))|_,_=>none)|none=>none)|false=>k 16 (dX c d s73_5 (i64.wrap (s73_6+1)) r73_2))|false=>none))|false=>none)|_,_=>none)|none=>none)|false=>(match decide ((0:Int)<=s73_5/\s73_5<=(r73_2.length:Int)/\(r73_2.length:Int)<=(r73_2.length:Int))with|true=>(match decide ((0:Int)<=0/\0<=s73_5/\s73_5<=((ks (Ty.zero tP) ((s73_5:Int).toNat) (((r73_2.length:Int):Int).toNat-(s73_5:Int).toNat) r73_2).length:Int))with|true=>(match decide (mB c (((ks (Ty.zero tP) ((s73_5:Int).toNat) (((r73_2.length:Int):Int).toNat-(s73_5:Int).toNat) r73_2).drop ((0:Int).toNat)).take ((s73_5:Int).toNat-(0:Int).toNat)))with|true=>(match decide (iR c d/\cH (dC c) (dC d)=false)with|true=>some [RV.d (.sl tP) (dB (dC c) (((ks (Ty.zero tP) ((s73_5:Int).toNat) (((r73_2.length:Int):Int).toNat-(s73_5:Int).toNat) r73_2).drop ((0:Int).toNat)).take ((s73_5:Int).toNat-(0:Int).toNat))),RV.d .bool false]|false=>none)|false=>none)|false=>none)|false=>none)
theorem nN(c d:BCU)(s73_5 s73_6:Int)(r73_2:List BP):RN ma 16 (dX c d s73_5 s73_6 r73_2) (jX c d s73_5 s73_6 r73_2):=rnX
section
variable (c d:BCU) (h:hU c d) (hs:cH (dC c) (dC d)=false)
include h hs
theorem EQ(L:List BP)(hl:L.length<=4)(ho:∀x∈L,okP 4000 x):(match decide (mB c L)with
  |true=>(match decide (iR c d/\cH (dC c) (dC d)=false)with
   |true=>some [RV.d (.sl tP) (dB (dC c) L),RV.d .bool false]
   |false=>none)
  |false=>none)=some [RV.d (.sl tP) (dB (dC c) L),RV.d .bool (false)]:=by
 have hc:okC 4000 c:=cj h.1.1 (by decide) (by decide);have hd:okC 4000 d:=cj h.2.1 (by decide) (by decide);have q:mB c L:=⟨hc,by omega,ho⟩
 have hn:(dB (dC c) L).length<=L.length:=qN;have _q2:zA c d (dB (dC c) L):=⟨⟨hc,by omega,λx hx=>ho x (ki hx)⟩,hd⟩
 rw[dT q,dT (show iR c d/\cH (dC c) (dC d)=false from⟨⟨h.1.2,h.2.2⟩,hs⟩)]
theorem yC:∀(S:List BP) (L J:List BP),J≠[]->(∀x∈L++(J++S),okP 4000 x)->(L++(J++S)).length<=4->
  ma.Runs 16 (dX c d (L.length:Int) ((L.length+J.length:Nat):Int) (L++(J++S))) [RV.d (.sl tP) (dB (dC c) (L++S.filter (iO c d))),RV.d .bool (false)]
 |[],L,J,hJ,hok,h4=>by
  have h4':L.length+J.length<=4:=by simpa using h4
  obtain⟨c1,c2⟩:=Jm (Ty.zero tP) L J;refine nN _ _ _ _ _ ⟨0,?_⟩;unfold jX;rw[anM,b8 (by simp)];dsimp only;rw[dT (show(0:Int)<=(L.length:Int)/\(L.length:Int)<=((L++J).length:Int)/\((L++J).length:Int)<=((L++J).length:Int) by simp only[anK];omega)];rw[dT (show(0:Int)<=0/\0<=(L.length:Int)/\(L.length:Int)<=((ks (Ty.zero tP) ((L.length:Int).toNat) ((((L++J).length:Int)).toNat-(L.length:Int).toNat) (L++J)).length:Int) by omega)];rw[c1,apX,anM];exact EQ c d h hs L (by omega) λx hx=>hok x (aoL _ hx)
 |q::S,L,J,hJ,hok,h4=>by
  have h4':L.length+(J.length+(S.length+1))<=4:=by simpa using h4
  have hc:okC 4000 c:=cj h.1.1 (by decide) (by decide);have hd:okC 4000 d:=cj h.2.1 (by decide) (by decide);have hq:okP 4000 q:=hok q (by simp)
  have g1:(L++(J++q::S))[L.length+J.length]?=some q:=by
   have:=pp (L++J) q S;rw[anK,anD]at this;exact this
  obtain⟨y,T,rfl⟩:=List.exists_cons_of_ne_nil hJ;have g2:(L++(y::T++q::S))[L.length]?=some y:=pp L y (T++q::S)
  have hset:(L++(y::T++q::S)).set L.length q=(L++[q])++((T++[q])++S):=by
   have:=Cw y q (T++q::S) L;rw[show y::T++q::S=y::(T++q::S) from rfl,this];simp
  have e2:L++(y::T++q::S)=L++((y::T++[q])++S):=by simp
  have key:∀r n,(match iO c d q with
    |true=>ma.k n 16 (dX c d ((L.length+1:Nat):Int) ((L.length+(y::T).length+1:Nat):Int) ((L++[q])++((T++[q])++S)))
    |false=>ma.k n 16 (dX c d (L.length:Int) ((L.length+(y::T).length+1:Nat):Int) (L++(y::T++q::S))))=some r->
    jX c d (L.length:Int) ((L.length+(y::T).length:Nat):Int) (L++(y::T++q::S)) (ma.k n)=some r:=λr n hk=>by
   unfold jX;rw[bH (by simp only[anK,ans];omega),aq,g1,show((L.length+(y::T).length:Nat):Int).toNat=L.length+(y::T).length by omega,g1];dsimp only;rw[dT (show okC 4000 c/\okP 4000 q from⟨hc,hq⟩),dT (show okC 4000 d/\okP 4000 q from⟨hd,hq⟩),bW (k:=L.length+(y::T).length) (by simp only[ans]at*;omega),bW (k:=L.length) (by omega),aq,g2,show((L.length:Nat):Int).toNat=L.length by omega,g2,hset];unfold iO at hk;cases r1:jd (dC c) (dec q)<;>cases r2:jd (dC d) (dec q)<;>rw[r1,r2]at hk<;>exact hk
  rw[ao4];cases hk:iO c d q
  ·obtain⟨n,hn⟩:=yC S L (y::T++[q]) (by simp) (e2▸hok) (e2▸h4);refine nN _ _ _ _ _ ⟨n,key _ n ?_⟩;rw[hk,e2];rw[anK,anC,<-apg]at hn;exact hn
  ·obtain⟨n,hn⟩:=yC S (L++[q]) (T++[q]) (by simp) (λx hx=>by
    simp only[anR,anr,aox,apZ]at hx;rcases hx with(hx|hx)|(hx|hx)|hx
    ·exact hok x (by simp[hx])
    ·rw[hx];exact hq
    ·exact hok x (by simp[hx])
    ·rw[hx];exact hq
    ·exact hok x (by simp[hx])) (by simp at h4 ⊢;omega)
   refine nN _ _ _ _ _ ⟨n,key _ n ?_⟩;rw[hk];have n1:(L++[q]).length=L.length+1:=by simp
   have n2:L.length+1+(T++[q]).length=L.length+(y::T).length+1:=by simp;omega
   rw[n1,n2,anD L [q] (S.filter (iO c d))]at hn;exact hn
theorem J9(X:List BP)(hX:((im (dC c) (dC d)).map enc)=X)(h4:X.length<=4)(hok:∀x∈X,okP 4000 x):∀(S A:List BP),A++S=X->A.filter (iO c d)=A->
  ma.Runs 6 (l6 c d (A.length:Int)) [RV.d (.sl tP) (dB (dC c) (A++S.filter (iO c d))),RV.d .bool (false)]
 |[],A,hA,hf=>by
  rw[anM]at hA;refine pM _ _ _ ⟨0,?_⟩;unfold ll;rw[hX,<-hA,b8 (by omega),apX,anM];exact EQ c d h hs A (hA▸h4) (hA▸hok)
 |q::S,A,hA,hf=>by
  have hc:okC 4000 c:=cj h.1.1 (by decide) (by decide);have hd:okC 4000 d:=cj h.2.1 (by decide) (by decide);have hq:okP 4000 q:=hok q (by rw[<-hA];simp);have g1:X[A.length]?=some q:=by rw[<-hA];exact pp A q S
  have hlen:A.length<X.length:=by rw[<-hA];simp
  have key:∀r n,(match iO c d q with
    |true=>ma.k n 6 (l6 c d ((A.length+1:Nat):Int))
    |false=>ma.k n 16 (dX c d (A.length:Int) ((A.length+1:Nat):Int) X))=some r->
    ll c d (A.length:Int) (ma.k n)=some r:=λr n hk=>by
   unfold ll;rw[hX,bH hlen,aq,g1,show((A.length:Nat):Int).toNat=A.length by omega,g1];dsimp only;rw[dT (show okC 4000 c/\okP 4000 q from⟨hc,hq⟩),dT (show okC 4000 d/\okP 4000 q from⟨hd,hq⟩),bW (k:=A.length) (by omega),show((A.length:Int)== -1)=false by rw[apc];omega];unfold iO at hk;cases r1:jd (dC c) (dec q)<;>cases r2:jd (dC d) (dec q)<;>rw[r1,r2]at hk<;>exact hk
  rw[ao4];cases hk:iO c d q
  ·obtain⟨n,hn⟩:=yC c d h hs S A [q] (by simp) (by rw[aoD,hA];exact hok) (by rw[aoD,hA];exact h4);refine pM _ _ _ ⟨n,key _ n ?_⟩;rw[hk];rw[aoD,hA]at hn;exact hn
  ·obtain⟨n,hn⟩:=J9 X hX h4 hok S (A++[q]) (by rw[anD];exact hA) (by rw[List.filter_append,hf,ao4,hk];rfl);refine pM _ _ _ ⟨n,key _ n ?_⟩;rw[hk];have n1:(A++[q]).length=A.length+1:=by simp
   rw[n1,anD A [q] (S.filter (iO c d))]at hn;exact hn
end
theorem Pd(c d:BCU)(h:hU c d)(hs:cH (dC c) (dC d)=false):CQq7 23 [.d tCU c,.d tCU d] [.d (.sl tP) (je c d),.d .bool (sV c d)]:=by
 obtain⟨h4,ho⟩:=F4 h;have e:mA c d=((im (dC c) (dC d)).map enc):=by unfold mA;rw[hs];rfl
 rw[e]at h4 ho;obtain⟨n,hn⟩:=J9 c d h hs _ rfl h4 ho _ [] rfl rfl;have e2:je c d=dB (dC c) (List.filter (iO c d) ((im (dC c) (dC d)).map enc)):=by unfold je;rw[e]
 have e3:sV c d=false:=by unfold sV;rw[hs,e2];rfl
 rw[e2,e3];refine dk PN (acS _ _ ⟨n,?_⟩);unfold QX;rw[dT (show iR c d/\cH (dC c) (dC d)=false from⟨⟨h.1.2,h.2.2⟩,hs⟩)];dsimp only;rw[dT (show iR c d from⟨h.1.2,h.2.2⟩)];dsimp only;rw[dT (anq h4 (by decide))];exact hn
def afJ:Cn 23 [tCU,tCU]:=cn λ(c d:BCU)=>lf (hU c d) [.d (.sl tP) (je c d),.d .bool (sV c d)] λh=>by
 cases hs:cH (dC c) (dC d)
 ·exact Pd c d h hs
 ·exact Oe c d h hs
end
section
open RE
section
variable {α β:Type} (f:α->β)
theorem Gg{lt:α->α->Bool}{lt':β->β->Bool}(h:∀a b,lt' (f a) (f b)=lt a b)(a:α):∀r:List α,mD lt' (r.map f) (f a)=(mD lt r a).map f
 |[]=>rfl
 |b::r=>by
  have ih:=Gg h a r;simp only[apu,mD,h];cases lt a b
  ·rfl
  ·simp only[cond_true,apu,ih]
theorem FP{lt:α->α->Bool}{lt':β->β->Bool}(h:∀a b,lt' (f a) (f b)=lt a b):∀(l r:List α),(l.map f).foldl (mD lt') (r.map f)=(l.foldl (mD lt) r).map f
 |[],_=>rfl
 |a::l,r=>by
  rw[apu,ao9,ao9,Gg f h,FP h]
theorem T7{lt:α->α->Bool}{lt':β->β->Bool}(h:∀a b,lt' (f a) (f b)=lt a b)(l:List α):uq lt' (l.map f)=(uq lt l).map f:=by
 unfold uq;have:=FP f h l [];rw[List.map_nil]at this;rw[this,List.map_reverse]
theorem Eg{g:α->α->Bool}{g':β->β->Bool}(h:∀a b,g' (f a) (f b)=g a b):∀(l:List α) (p:α),kD g' (f p) (l.map f)=(kD g p l).map f
 |[],_=>rfl
 |q::r,p=>by
  have ih:=Eg h r q;simp only[apu,kD,h];cases g q p
  ·simp only[cond_false,apu,ih]
  ·exact ih
theorem MI{g:α->α->Bool}{g':β->β->Bool}(h:∀a b,g' (f a) (f b)=g a b)(l:List α):xc g' (l.map f)=(xc g l).map f:=by
 cases l with
 |nil=>rfl
 |cons x r=>
  simp only[apu,xc];rw[Eg f h]
end
def acL(c d:Cv):List Pt:=xc (λa b=>aZ a b==0) (uq (λa b=>decide (Dc c a b<0)) ((bif cH c d then [frC c,toC c,frC d,toC d]else im c d).filter λp=>jd c p&&jd d p))
theorem Pj{c d:BCU}(h1:c.2.2.2.2.1=enc (frC (dC c)))(h2:c.2.2.2.2.2=enc (toC (dC c)))(h3:d.2.2.2.2.1=enc (frC (dC d)))(h4:d.2.2.2.2.2=enc (toC (dC d))):je c d=(acL (dC c) (dC d)).map enc:=by
 have e:mA c d=(bif cH (dC c) (dC d)then [frC (dC c),toC (dC c),frC (dC d),toC (dC d)]else im (dC c) (dC d)).map enc:=by
  unfold mA;cases cH (dC c) (dC d)
  ·rfl
  ·simp only[cond_true,apu,List.map_nil,<-h1,<-h2,<-h3,<-h4]
 unfold je acL dB;rw[e,List.filter_map]
 have e2:(iO c d∘enc)=λp:Pt=>jd (dC c) p&&jd (dC d) p:=by
  funext p;show(jd (dC c) (dec (enc p))&&jd (dC d) (dec (enc p)))=_;rw[aA]
 rw[e2,T7 (f:=(enc:Pt->BP)) (lt:=λa b=>decide (Dc (dC c) a b<0)) (λa b=>by unfold ltP;rw[aA,aA]),MI (f:=(enc:Pt->BP)) (g:=λa b=>aZ a b==0) (λa b=>by unfold jg;rw[aA,aA])]
abbrev uS1:Rat×Rat:=(Rat.divInt (-4) 2,Rat.divInt 1 2)
abbrev uS2:Rat×Rat:=(Rat.divInt 4 2,Rat.divInt 1 2)
def qS:Cv:=(false,(0,4,2),(0,0,0),false,atP uS1,atP uS2)
section
theorem bQ(n d:Int)(h:AH n d):Bd (Rat.divInt n d) 3:=KS h.1 h.2.1 h.2.2
end
end
section
open Go.ChangeShapes Go.WideShapes Go.ChangeAt Go.WideMaps Go.WideElems Go.RowKit
theorem OQ:ownKnob Tryz.prog.godebug=none:=by kernel_rfl
def Ty.ok:(t:Ty)->t.D->Prop
 |.int k,x=>(Lit.int k x).wf=true
 |.bool,_=>True
 |.str,_=>True
 |.sl e,xs=>xs.length<=9223372036854775807/\∀x∈xs,e.ok x
 |.pair a b,x=>a.ok x.1/\b.ok x.2
 |.st a,x=>a.ok x
def yN(rp:TypeId->Ty->Bool)(cells:TypeId->Nat):List Field->Ty->Nat->Bool
 |[],_,_=>false
 |[f],a,off=>rp f.type a&&Nat.beq f.offset off&&Nat.beq (cells f.type) a.n
 |f::g::fs,.pair a b,off=>rp f.type a&&Nat.beq f.offset off&&Nat.beq (cells f.type) a.n&&yN rp cells (g::fs) b (off+a.n)
 |_,_,_=>false
def In(rp:Ty->Bool)(n:Nat):Nat->Ty->Bool
 |0,_=>false
 |1,a=>rp a&&Nat.beq a.n n
 |k+2,.pair a b=>rp a&&Nat.beq a.n n&&In rp n (k+1) b
 |_,_=>false
def rep(P:Program):Nat->TypeId->Ty->Bool
 |0,_,_=>false
 |n+1,t,ty=>match P.underlying t,ty with
  |some (.int k),.int k'=>decide (k=k')
  |some .bool,.bool=>true
  |some .string,.str=>true
  |some (.slice e),.sl ety=>rep P n e ety&&Nat.beq (P.cellsOf e) ety.n&&Nat.ble 1 ety.n
  |some (.struct fs),.st a=>yN (rep P n) P.cellsOf fs.toList a 0&&Nat.beq (P.cellsOf t) a.n
  |some (.array k e),.st a=>In (rep P n e) (P.cellsOf e) k a&&Nat.beq (P.cellsOf t) a.n
  |_,_=>false
theorem XN{w:World}{a:Addr}{v:Value}(h:w.cell? a=some v):a.block<w.heap.size/\a.spot=none:=by
 unfold World.cell? at h;split at h
 ·rename_i hb;refine⟨(ant.1 hb).1,?_⟩;simp_all
 grind
theorem Ew{α β:Type}{f:α->Option β}:∀{l:List α} {r:List β},l.mapM f=some r->r.length=l.length/\∀(j:Nat) (y:β),r[j]?=some y->∃x,l[j]?=some x/\f x=some y
 |[],r,h=>by simp at h;subst h;simp
 |x::l,r,h=>by
  rw[List.mapM_cons]at h;cases hx:f x with
  |none=>rw[hx]at h;simp at h
  |some y=>
   rw[hx]at h;cases hl:l.mapM f with
   |none=>rw[hl]at h;simp at h
   |some r'=>
    rw[hl]at h;obtain rfl:y::r'=r:=by simpa using h
    obtain⟨h1,h2⟩:=Ew hl;refine⟨by simp[h1],λj z hz=>?_⟩;cases j with
    |zero=>exact⟨x,rfl,by simpa [hx]using hz⟩
    |succ j=>obtain⟨u,h3,h4⟩:=h2 j z (by simpa using hz);exact⟨u,by simpa using h3,h4⟩
theorem LD{w:World}{base n:Nat}{a:Addr}{l:List Value}(h:w.cells? base a n=some l):l.length=n/\∀(j:Nat) (v:Value),l[j]?=some v->w.cell? (a.add j)=some v:=by
 unfold World.cells? at h;split at h
 ·obtain⟨h1,h2⟩:=Ew h;grind
 grind
theorem T8{α β:Type}{n:Nat}{p:Nat->α->β->Prop}(h:∀i,i<n->∃s t,p i s t):∃(l:List α) (m:List β),l.length=n/\m.length=n/\∀i s t,l[i]?=some s->m[i]?=some t->p i s t:=by
 induction n with
 |zero=>exact⟨[],[],rfl,rfl,λi s t h=>by simp at h⟩
 |succ n ih=>
  obtain⟨l,m,h1,h2,h3⟩:=ih λi hi=>h i (by omega);obtain⟨s,t,hst⟩:=h n (by omega);refine⟨l++[s],m++[t],by simp[h1],by simp[h2],λi s' t' hs ht=>?_⟩;grind
section
variable {H:Type} {enc:TypeId×Value->H} {P:Program} {w:World} {base:Nat} {spare:Nat->Bool} {held:Bool}
def R1(enc:TypeId×Value->H)(P:Program)(w:World)(base:Nat)(spare:Nat->Bool)(held:Bool)(ty:Ty):Prop:=∀(n:Nat) (t:TypeId),rep P n t ty=true->∀(fuel:Nat) (cs:List Value) (x:DataW H×List MemPlace),cs.length=ty.n->DataW.trod enc P w base spare held fuel t cs=some x->∃y:ty.D,ty.rd (λ_=>True) w cs y/\ty.ok y
def R2(enc:TypeId×Value->H)(P:Program)(w:World)(base:Nat)(spare:Nat->Bool)(held:Bool)(ty:Ty):Prop:=∀(n:Nat) (fs:List Field) (off:Nat) (cs:List Value),yN (rep P n) P.cellsOf fs ty off=true->cs.length=ty.n->(∀f∈fs,off<=f.offset->∃fuel x,DataW.trod enc P w base spare held fuel f.type ((cs.drop (f.offset-off)).take (P.cellsOf f.type))=some x)->∃y:ty.D,ty.rd (λ_=>True) w cs y/\ty.ok y
def R3(enc:TypeId×Value->H)(P:Program)(w:World)(base:Nat)(spare:Nat->Bool)(held:Bool)(ty:Ty):Prop:=∀(n k:Nat) (e:TypeId) (cs:List Value),In (rep P n e) (P.cellsOf e) k ty=true->cs.length=ty.n->(∀i,i<k->∃fuel x,DataW.trod enc P w base spare held fuel e ((cs.drop (i*P.cellsOf e)).take (P.cellsOf e))=some x)->∃y:ty.D,ty.rd (λ_=>True) w cs y/\ty.ok y
theorem aja{ty:Ty}(h1:R1 enc P w base spare held ty)(hp:∀(n:Nat) (f g:Field) (fs:List Field) (off:Nat) (cs:List Value),yN (rep P n) P.cellsOf (f::g::fs) ty off=true->cs.length=ty.n->(∀q∈f::g::fs,off<=q.offset->∃fuel x,DataW.trod enc P w base spare held fuel q.type ((cs.drop (q.offset-off)).take (P.cellsOf q.type))=some x)->∃y:ty.D,ty.rd (λ_=>True) w cs y/\ty.ok y):R2 enc P w base spare held ty:=by
 intro n fs off cs hr hl hf;match fs,hr,hf with
 |[f],hr,hf=>
  simp only[yN,ang]at hr;have ho:=anh hr.1.2;have hc:=anh hr.2;obtain⟨fuel,x,hx⟩:=hf f (by simp) (by omega);rw[ho,apJ,hc,wi _ _ hl]at hx;exact h1 n f.type hr.1.1 fuel cs x hl hx
 |f::g::fs,hr,hf=>exact hp n f g fs off cs hr hl hf
theorem aiY{ty:Ty}(h1:R1 enc P w base spare held ty)(hp:∀(n k:Nat) (e:TypeId) (cs:List Value),In (rep P n e) (P.cellsOf e) (k+2) ty=true->cs.length=ty.n->(∀i,i<k+2->∃fuel x,DataW.trod enc P w base spare held fuel e ((cs.drop (i*P.cellsOf e)).take (P.cellsOf e))=some x)->∃y:ty.D,ty.rd (λ_=>True) w cs y/\ty.ok y):R3 enc P w base spare held ty:=by
 intro n k e cs hr hl hf;match k,hr,hf with
 |1,hr,hf=>
  simp only[In,ang]at hr;have hc:=anh hr.2;obtain⟨fuel,x,hx⟩:=hf 0 (by omega);rw[Nat.zero_mul,<-hc,wi _ _ hl]at hx;exact h1 n e hr.1 fuel cs x hl hx
 |k+2,hr,hf=>exact hp n k e cs hr hl hf
theorem Uh:∀(ty:Ty),R1 enc P w base spare held ty/\R2 enc P w base spare held ty/\R3 enc P w base spare held ty:=by
 intro ty
 have qX:∀{ty:Ty},(∀a b,ty≠.pair a b)->R1 enc P w base spare held ty->R1 enc P w base spare held ty/\R2 enc P w base spare held ty/\R3 enc P w base spare held ty:=by
  intro ty hne h1;refine⟨h1,aja h1 λn f g fs off cs hr=>?_,aiY h1 λn k e cs hr=>?_⟩
  ·cases ty<;>first|exact absurd rfl (hne _ _)|simp[yN]at hr
  ·cases ty<;>first|exact absurd rfl (hne _ _)|simp[In]at hr
 induction ty with
 |int k=>
  refine qX (λa b e=>by cases e) λn t hr fuel cs x hl hx=>?_;cases n with
  |zero=>simp[rep]at hr
  |succ n=>
   unfold rep at hr;split at hr<;>try (cases hr;done)
   all_goals rename_i hu he<;>cases he
   have:=anf hr;subst this;obtain⟨m,rfl,_,hw⟩:=DataW.trod_int hu hx;exact⟨m,rfl,hw⟩
 |bool=>
  refine qX (λa b e=>by cases e) λn t hr fuel cs x hl hx=>?_;cases n with
  |zero=>simp[rep]at hr
  |succ n=>
   unfold rep at hr;split at hr<;>try (cases hr;done)
   all_goals rename_i hu he<;>cases he
   obtain⟨m,rfl,_⟩:=DataW.trod_bool hu hx;exact⟨m,rfl,trivial⟩
 |str=>
  refine qX (λa b e=>by cases e) λn t hr fuel cs x hl hx=>?_;cases n with
  |zero=>simp[rep]at hr
  |succ n=>
   unfold rep at hr;split at hr<;>try (cases hr;done)
   all_goals rename_i hu he<;>cases he
   cases fuel with
   |zero=>simp[DataW.trod]at hx
   |succ fuel=>
    unfold DataW.trod at hx;rw[hu]at hx;split at hx<;>simp_all;exact⟨_,rfl,trivial⟩
 |sl e ih=>
  refine qX (λa b e=>by cases e) λn t hr fuel cs x hl hx=>?_;cases n with
  |zero=>simp[rep]at hr
  |succ n=>
   unfold rep at hr;split at hr<;>try (cases hr;done)
   all_goals rename_i hu he<;>cases he
   simp only[ang]at hr;obtain⟨⟨r1,r2⟩,r3⟩:=hr;have hc:=anh r2;have hn0:=anj r3;rcases Deep.open_slice hu hx with⟨rfl,_⟩|⟨a,len,cap,m,nn,D,Pl,rfl,hb,hle,hcap,hm,_,hel⟩
   ·exact⟨[],z5,by simp,λx hx=>by simp at hx⟩
   ·have hlm:len<=m:=by rw[hm];split<;>omega
    have key:∀i,i<len->∃(l:List Value) (y:e.D),(e.rd (λ_=>True) w l y/\e.ok y)/\∀j v,l[j]?=some v->w.cell? ((a.add (i*e.n)).add j)=some v:=by
     intro i hi;obtain⟨cs',h1,h2⟩:=hel i (by omega);rw[hc]at h1;obtain⟨h3,h4⟩:=LD h1;obtain⟨y,h5⟩:=ih.1 n _ r1 nn cs' _ h3 h2;exact⟨cs',y,h5,h4⟩
    obtain⟨css,ys,l1,l2,hk⟩:=T8 key;have hall:cp (λl y=>e.rd (λ_=>True) w l y) css ys:=IT (by omega) λi l y h1 h2=>(hk i l y h1 h2).1.1;refine⟨ys,⟨some a,len,cap,css,rfl,l2,hle,hcap,hall,λh0=>?_⟩,by unfold maxLen at hcap;omega,λy hy=>?_⟩
    ·obtain⟨l0,hl0⟩:∃l,css[0]?=some l:=⟨_,anc (by omega)⟩
     obtain⟨y0,hy0,hrd0⟩:=jK hall 0 l0 hl0;have hlen0:=Ty.rd_len hrd0;obtain⟨v0,hv0⟩:∃v,l0[0]?=some v:=⟨_,anc (by omega)⟩
     have hc0:=(hk 0 l0 y0 hl0 hy0).2 0 v0 hv0;have e0:(a.add (0*e.n)).add 0=a:=by simp[Addr.add]
     rw[e0]at hc0;obtain⟨h1,h2⟩:=XN hc0;obtain⟨b,off,sp⟩:=a;dsimp only at h1 h2;subst h2;refine⟨b,off,rfl,trivial,h1,λi v hv=>?_⟩;have hls:=ia hall;have hi:i<css.flatten.length:=(ano.1 hv).1;rw[i7 hls,l1]at hi;have hq:i/e.n<len:=Nat.div_lt_of_lt_mul (by rw[Nat.mul_comm];exact hi);obtain⟨l,hl⟩:∃l,css[i/e.n]?=some l:=⟨_,anc (by omega)⟩
     obtain⟨y,hy,hrd⟩:=jK hall _ l hl;have hmod:i%e.n<e.n:=ap8 _ hn0;obtain⟨u,hu'⟩:∃u,l[i%e.n]?=some u:=⟨_,anc (by rw[Ty.rd_len hrd];exact hmod)⟩
     have hfl:=mU hls hl hu';have hdm:i/e.n*e.n+i%e.n=i:=by rw[Nat.mul_comm];exact Nat.div_add_mod i e.n
     rw[hdm,hv]at hfl;injection hfl with hfl;subst hfl;have:=(hk _ l y hl hy).2 _ _ hu';rw[d9,d9]at this;rwa [apg,hdm]at this
    ·obtain⟨i,hi,rfl⟩:=apv hy;obtain⟨l,hl,_⟩:=qG hall i _ (anc hi);exact(hk i l _ hl (anc hi)).1.2
 |st a ih=>
  refine qX (λa b e=>by cases e) λn t hr fuel cs x hl hx=>?_;cases n with
  |zero=>simp[rep]at hr
  |succ n=>
   unfold rep at hr;split at hr<;>try (cases hr;done)
   all_goals rename_i hu he<;>cases he
   ·simp only[ang]at hr;obtain⟨xs,k,rfl,_,_,hlen,hg⟩:=DataW.trod_struct hu hx;refine ih.2.1 n _ 0 cs hr.1 hl λf hf _=>?_;obtain⟨i,hi,rfl⟩:=apv hf;rename_i fs;have h1:=hg i _ (by rw[<-aoW];exact anc hi);obtain⟨y,hy⟩:∃y,xs[i]?=some y:=⟨_,anc (by rw[hlen];simpa using hi)⟩
    rw[hy]at h1;exact⟨k,y,by rw[Nat.sub_zero];exact h1⟩
   ·simp only[ang]at hr;obtain⟨xs,k,rfl,_,_,hlen,hg⟩:=DataW.trod_array hu hx;refine ih.2.2 n _ _ cs hr.1 hl λi hi=>?_;have h1:=hg i hi;obtain⟨y,hy⟩:∃y,xs[i]?=some y:=⟨_,anc (by rw[hlen];exact hi)⟩
    rw[hy]at h1;exact⟨k,y,h1⟩
 |pair a b iha ihb=>
  have h1:R1 enc P w base spare held (.pair a b):=by
   intro n t hr;cases n with
   |zero=>simp[rep]at hr
   |succ n=>
    unfold rep at hr;split at hr<;>first|(cases hr;done)|(rename_i he;cases he)
  have cut:∀{cs:List Value} {k m:Nat},cs.length=a.n+b.n->((cs.drop a.n).drop k).take m=(cs.drop (a.n+k)).take m:=λ_=>by rw[aqn]
  refine⟨h1,aja h1 λn f g fs off cs hr hl hf=>?_,aiY h1 λn k e cs hr hl hf=>?_⟩
  ·simp only[yN,ang]at hr;obtain⟨⟨⟨r1,r2⟩,r3⟩,r4⟩:=hr;have ho:=anh r2;have hc:=anh r3;simp only[Ty.n]at hl;obtain⟨fuel,x,hx⟩:=hf f (by simp) (by omega);rw[ho,apJ,hc,aoT]at hx;obtain⟨y1,k1,k2⟩:=iha.1 n f.type r1 fuel (cs.take a.n) x (by simp;omega) hx
   obtain⟨y2,k3,k4⟩:=ihb.2.1 n (g::fs) (off+a.n) (cs.drop a.n) r4 (by simp;omega) λq hq hle=>by
    obtain⟨fuel,x,hx⟩:=hf q (by simp only[anr]at hq ⊢;exact .inr hq) (by omega);refine⟨fuel,x,?_⟩;rw[aqn,show a.n+(q.offset-(off+a.n))=q.offset-off by omega];exact hx
   exact⟨(y1,y2),⟨_,_,(aoA a.n cs).symm,k1,k3⟩,k2,k4⟩
  ·simp only[In,ang]at hr;obtain⟨⟨r1,r2⟩,r3⟩:=hr;have hc:=anh r2;simp only[Ty.n]at hl;obtain⟨fuel,x,hx⟩:=hf 0 (by omega);rw[Nat.zero_mul,aoT,<-hc]at hx;obtain⟨y1,k1,k2⟩:=iha.1 n e r1 fuel (cs.take a.n) x (by simp;omega) hx
   obtain⟨y2,k3,k4⟩:=ihb.2.2 n (k+1) e (cs.drop a.n) r3 (by simp;omega) λi hi=>by
    obtain⟨fuel,x,hx⟩:=hf (i+1) (by omega);refine⟨fuel,x,?_⟩;rw[aqn,hc,show P.cellsOf e+i*P.cellsOf e=(i+1)*P.cellsOf e by rw[aoU];omega];exact hx
   exact⟨(y1,y2),⟨_,_,(aoA a.n cs).symm,k1,k3⟩,k2,k4⟩
end
end
def afN:List En:=[enL Ih]
def ZO(n:Int)(_k:KT):OLR:=og (decide (AH (i64.wrap n) (4:Int))) (some [RV.d tR (hid (ao (Rat.divInt (i64.wrap n) (4:Int))))])
def afS:Cn 16 [(.int .i8)]:=cn λ(n:Int)=>lf (i8P n) [.d tR (ao (Rat.divInt n 4))] λh=>by
 refine aB afN (ZO n) ⟨0,?_⟩;obtain⟨h1,h2⟩:=h;unfold ZO;rw[aV (x:=n) (by omega) (by omega),dT (show AH n 4 from⟨⟨by omega,by omega⟩,⟨by omega,by omega⟩,by omega⟩)];simp only[bL]
theorem Q4{n:Int}(h:i8P n):Bd (Rat.divInt n 4) 3:=KS (n:=n) (d:=4) (by obtain⟨h1,h2⟩:=h;exact⟨by omega,by omega⟩) (by decide) (by decide)
theorem yI{n:Int}(h:Ty.ok (.int .i8) n):i8P n:=bounds_i8 h
theorem PM{n:Int}(h:Ty.ok (.int .u8) n):u8P n:=bounds_u8 h
theorem ZA{x:Dr}(h:Ty.ok tDr x):yV x:=⟨PM h.1,PM h.2.1,yI h.2.2.1,yI h.2.2.2.1,yI h.2.2.2.2.1,yI h.2.2.2.2.2.1,yI h.2.2.2.2.2.2.1,yI h.2.2.2.2.2.2.2⟩
theorem RY{x:Pce}(h:Ty.ok tM x):Da x:=⟨ZA h.1,ZA h.2.1,PM h.2.2⟩
theorem ael{n:Int}(h:i8P n){k:Nat}(hk:3<=k)(hk':k<=480000):ok Rat k (ao (Rat.divInt n 4)):=by
 have:=Q4 h;exact anf (okd (x:=Rat.divInt n 4) hk hk')
def CI:List En:=[⟨54,gK,eH⟩,⟨125,jn,fO⟩,⟨67,iV,fA⟩,⟨132,jR,gb⟩,⟨65,jx,fM⟩,⟨133,mv,iu⟩,enT Pa]
def ad1:NT:=[((233,6),{keep:=[4,5,6,7,18,19,20],hl:=5})]
def Ss:Ctx:=CX (ens CI) ad1
def Ca(d p q r:BR)(s20:Int):Cfg:=⟨233,[.blk 0,.seq 25],[(4,.box 0 0),(5,.box 1 0),(6,.box 2 0),(7,.box 3 0),(18,.own 4),(19,SI (([d,p,q,r]).length:Int)),(20,SI s20)],[.box 31 [SB d.1.1,.d aqv d.1.2,SB d.2.1,.d aqv d.2.2],.box 31 [SB p.1.1,.d aqv p.1.2,SB p.2.1,.d aqv p.2.2],.box 31 [SB q.1.1,.d aqv q.1.2,SB q.2.1,.d aqv q.2.2],.box 31 [SB r.1.1,.d aqv r.1.2,SB r.2.1,.d aqv r.2.2],.row 31 tR ([d,p,q,r])],0,[]⟩
def aiL(d p q r:BR)(k:KT):OLR:=k 6 (Ca d p q r 0)
theorem ahc(d p q r:BR):RS Ss 233 [.d tR d,.d tR p,.d tR q,.d tR r] (aiL d p q r):=rsX
def zl(d p q r:BR)(s20:Int)(k:KT):OLR:=match decide (s20<(([d,p,q,r]).length:Int))with|true=>(match aS ([d,p,q,r]) s20 with|some _=>(match true,([d,p,q,r])[(s20).toNat]? with|true,some x1=>(og (o1 x1) (match decide ((aF (ah x1) 0)<0)with|true=>some [RV.d aqw 0,RV.d aqw 7]|false=>k 6 (Ca d p q r (i64.wrap (s20+1)))))|_,_=>none)|none=>none)|false=>(og (o2 d p) (og (o2 (hSu d p) q) (og (o2 r r) (og (o2 (hSu (hSu d p) q) (hMu r r)) (og (decide (aJ ((-2):Int))) (og (o2 (hid (ao (((-2):Int):Rat))) r) (og (decide (aJ ((-2):Int))) (og (decide (okQ (hSu (hSu (hSu d p) q) (hMu r r),(hMu (hid (ao (((-2):Int):Rat))) r,(hMu (hid (ao (((-2):Int):Rat))) r,(hid (ao (((-2):Int):Rat)),(p,q))))))) (some [RV.d aqw (sgQ (dec (hSu (hSu (hSu d p) q) (hMu r r),(hMu (hid (ao (((-2):Int):Rat))) r,(hMu (hid (ao (((-2):Int):Rat))) r,(hid (ao (((-2):Int):Rat)),(p,q))))))),RV.d aqw 0])))))))))
theorem Ed(d p q r:BR)(s20:Int):RN Ss 6 (Ca d p q r s20) (zl d p q r s20):=rnX
theorem aiT{d p q r:Rat}[bd:Bd d 2000][bp:Bd p 2000][bq:Bd q 2000][br:Bd r 2000](nd:0<=d)(np:0<=p)(nq:0<=q)(nr_:0<=r):∀(j i:Nat),i+j=4->Ss.Runs 6 (Ca (enc d) (enc p) (enc q) (enc r) (i:Int)) [.d aqw (pG d p q r),.d aqw (0:Int)]:=by
 have k2:decide (aJ (-2))=true:=by decide
 have b2:Bd ((-2:Int):Rat) 3:=c7 (n:= -2) (by decide);have b2':Bd (-2:Rat) 3:=b2;have e2:((-2:Int):Rat)= -2:=rfl;have n1:Nn p:=⟨np⟩
 have n2:Nn q:=⟨nq⟩
 have o1:decide (okQ (enc ((d-p-q-r*r,-2*r,-2*r,-2,p,q):Qd)))=true:=BM (by decide) (by decide) (by decide) (by decide) (by decide) (by decide)
 have hall:∀x∈[d,p,q,r],Bd x 2000/\0<=x:=by
  intro x hx;simp only[anr,aox,apZ]at hx;rcases hx with e|e|e|e<;>subst e<;>constructor<;>assumption
 intro j;induction j with
 |zero=>
  intro i hi;refine Ed _ _ _ _ _ ⟨0,?_⟩;unfold zl;rw[dF (show ¬(i:Int)<(([enc d,enc p,enc q,enc r]:List BR).length:Int) by simp;omega)];simp only[aX,Nat.reduceAdd,Nat.reduceLeDiff,k2,e2];show og (decide (okQ (enc ((d-p-q-r*r,-2*r,-2*r,-2,p,q):Qd)))) (some [RV.d aqw (sgQ (dec (enc ((d-p-q-r*r,-2*r,-2*r,-2,p,q):Qd)))),_])=_;rw[o1,aA];rfl
 |succ j ih=>
  intro i hi;have hil:i<[d,p,q,r].length:=by simp;omega
  obtain⟨n,hn⟩:=ih (i+1) (by omega);refine Ed _ _ _ _ _ ⟨n,?_⟩
  have g:([enc d,enc p,enc q,enc r]:List BR)[i]?=some (enc [d,p,q,r][i]):=by
   show(([d,p,q,r]:List Rat).map enc)[i]?=_;rw[aoo,anc hil];rfl
  obtain⟨hb,hx⟩:=hall _ (anG hil);generalize [d,p,q,r][i]=x at*
  unfold zl;rw[dT (show(i:Int)<(([enc d,enc p,enc q,enc r]:List BR).length:Int) by simp;omega),aq,aoS,g,bW (by omega)];dsimp only;simp only[aX,Nat.reduceLeDiff,av,dF (show ¬x<0 by grind)];exact hn
def aip:Cn 233 [tR,tR,tR,tR]:=cn λ(d p q r:BR)=>lf (n4P d p q r) [.d aqw (pG (ah d) (ah p) (ah q) (ah r)),.d aqw 0] λh=>by
 obtain⟨d,p,q,r,⟨rfl,rfl,rfl,rfl⟩,bd,bp,bq,br,nd,np,nq,nr_⟩:=abe h;have:=aiT nd np nq nr_ 4 0 rfl;simp only[fk,cC];exact dk CI (ahc _ _ _ _ this)
def ZV(x y z r:BR)(_k:KT):OLR:=og (decide (aJ (2:Int))) (og (o2 x y) (og (o2 (hAd x y) z) (og (o2 r r) (og (o2 (hSu (hAd x y) z) (hMu r r)) (og (o2 (hid (ao ((2:Int):Rat))) r) (og (o1 (hMu (hid (ao ((2:Int):Rat))) r)) (og (decide (aJ (0:Int))) (og (o2 x y) (og (decide (okQ (hSu (hSu (hAd x y) z) (hMu r r),(hid (ao ((2:Int):Rat)),(hNe (hMu (hid (ao ((2:Int):Rat))) r),(hid (ao ((0:Int):Rat)),(hMu x y,z))))))) (some [RV.d aqw (sgQ (dec (hSu (hSu (hAd x y) z) (hMu r r),(hid (ao ((2:Int):Rat)),(hNe (hMu (hid (ao ((2:Int):Rat))) r),(hid (ao ((0:Int):Rat)),(hMu x y,z)))))))]))))))))))
def aic:Cn 136 [tR,tR,tR,tR]:=cn λ(x y z r:BR)=>lf (n4P x y z r) [.d aqw (sS (ah x) (ah y) (ah z) (ah r))] λh=>by
 refine aB CI (ZV x y z r) ⟨0,?_⟩;obtain⟨x,y,z,r,⟨rfl,rfl,rfl,rfl⟩,bx,b_,bz,br,nx,ny,nz,nr_⟩:=abe h;have i2:decide (aJ 2)=true:=by decide
 have i0:decide (aJ 0)=true:=by decide
 have b2:Bd ((2:Int):Rat) 3:=c7 (n:=2) (by decide);have b0:Bd ((0:Int):Rat) 3:=c7 (n:=0) (by decide);have b2':Bd (2:Rat) 3:=b2;have b0':Bd (0:Rat) 3:=b0;have e2:((2:Int):Rat)=2:=rfl;have e0:((0:Int):Rat)=0:=rfl;have n1:Nn (x*y):=⟨anw nx ny⟩
 have n2:Nn z:=⟨nz⟩
 have o1:decide (okQ (enc ((x+y-z-r*r,2,-(2*r),0,x*y,z):Qd)))=true:=BM (by decide) (by decide) (by decide) (by decide) (by decide) (by decide);unfold ZV;simp only[aX,Nat.reduceAdd,Nat.reduceLeDiff,i2,i0,e2,e0];show og (decide (okQ (enc ((x+y-z-r*r,2,-(2*r),0,x*y,z):Qd)))) (some [RV.d aqw (sgQ (dec (enc ((x+y-z-r*r,2,-(2*r),0,x*y,z):Qd))))])=_;rw[o1,aA];rfl
def ace:List En:=enT aip::CI
def ahI:Cn 135 [tR,tR,tR,tR]:=cn λ(x y z r:BR)=>lf (n4P x y z r) [.d aqw (pG (ah x) (ah y) (ah z) (ah r))] λh=>kO [RV.d aqw (pG (ah x) (ah y) (ah z) (ah r))] (dN ace) h
def acx:List En:=[enL Rn,enT IZ,enL K3,enT akH]
def Zn(s a:BCU)(r:BR)(_k:KT):OLR:=og (decide (ok Ln 300 s.2.1/\ok (Rat×Rat) 200 (a.2.2.1.1,a.2.2.1.2.1)/\((dec s.2.1:Ln).1≠0\/(dec s.2.1:Ln).2.1≠0))) (og (decide (ok (Rat×Rat) 100000 (hid (enc (dZ (dec s.2.1) (dec (a.2.2.1.1,a.2.2.1.2.1))))))) (og (decide (okC 4000 s/\okP 4000 (hid (enc (atP (dec (hid (enc (dZ (dec s.2.1) (dec (a.2.2.1.1,a.2.2.1.2.1))))))))))) (match !(onP (dC s) (dec (hid (enc (atP (dec (hid (enc (dZ (dec s.2.1) (dec (a.2.2.1.1,a.2.2.1.2.1)))))))))))with|true=>some [RV.d aqw 1]|false=>(og (decide (okC 580 a/\ok (Rat×Rat) 200 (hid (enc (dZ (dec s.2.1) (dec (a.2.2.1.1,a.2.2.1.2.1)))))/\ok Rat 1000 r)) (some [RV.d aqw (vF (dC a) (dec (hid (enc (dZ (dec s.2.1) (dec (a.2.2.1.1,a.2.2.1.2.1)))))) (ah r))])))))
def ah6:Cn 57 [tCU,tCU,tR]:=cn λ(s a:BCU) (r:BR)=>lf (Ie s a/\ok Rat 1000 r) [.d aqw (xg (dC s) (dC a) (ah r))] λh=>by
 refine aB acx (Zn s a r) ⟨0,?_⟩;obtain⟨⟨hs,ha,es,ea⟩,hr⟩:=h;have hF:=Is hs.2 ha.2 es ea;obtain⟨ar,li,ci,cw,fr,to⟩:=s;obtain⟨ar',li',ci',cw',fr',to'⟩:=a;simp only at es ea;subst es ea;obtain⟨l1,l2⟩:=hs.1.2.1 rfl;obtain⟨c1,c2⟩:=ha.1.1 rfl;simp only at l1 l2 c1 c2;obtain⟨li,rfl,bl⟩:=aI l1;obtain⟨ci',rfl,bc,qc⟩:=cQ (ha.2.1 rfl);have bc':Bd (ctr ci') 200:=(inferInstance:Bd ((ci'.1,ci'.2.1):Rat×Rat) _).mono (by decide);have e0:((ao ci'.1,ao ci'.2.1):BV)=enc (ctr ci'):=rfl;rw[aA]at l2;simp only[ftv,dC,lnC,ciC,aA]at hF;unfold Zn xg ftv v6;simp only[dC,lnC,ciC,aA];simp only[aX,Nat.reduceLeDiff,aQ,e0,dT l2,dT (cj (k:=4000) hs.1 (by decide) (by decide)),dT ha.1,dT hr];cases onP (false,li,dec ci,cw,dec fr,dec to) (atP (dZ li (ctr ci')))<;>rfl
def acl:List En:=[⟨65,jx,fM⟩,⟨132,jR,gb⟩,⟨67,iV,fA⟩,⟨133,mv,iu⟩,⟨54,gK,eH⟩,enT Z3,enT ahI,enT aic]
def X6(c d:BCU)(r:BR)(_k:KT):OLR:=let y1:=hSu d.2.2.1.1 c.2.2.1.1;let y2:=hSu d.2.2.1.2.1 c.2.2.1.2.1;let y3:=hAd (hMu y1 y1) (hMu y2 y2);let y4:=dec (hSu d.2.2.1.1 c.2.2.1.1,hSu d.2.2.1.2.1 c.2.2.1.2.1);let y5:=dec (hNe y1,hNe y2);let y6:=n4P y3 c.2.2.1.2.2 d.2.2.1.2.2 r;let y7:=n4P y3 d.2.2.1.2.2 c.2.2.1.2.2 r;let y8:=n4P c.2.2.1.2.2 y3 d.2.2.1.2.2 r;let y9:=n4P d.2.2.1.2.2 y3 c.2.2.1.2.2 r;let y10:=ah c.2.2.1.2.2;let y11:=ah d.2.2.1.2.2;let y12:=mn2 1 (mx2 (pG (ah y3) y10 y11 (ah r)) (sS y10 y11 (ah y3) (ah r)));let y13:=mx2 (sS (ah y3) y11 y10 (ah r)) (pG y10 (ah y3) y11 (ah r));let y14:=mx2 (sS (ah y3) y10 y11 (ah r)) (pG y11 (ah y3) y10 (ah r));let y15:OLR:=match decide (okC 580 c/\ok (Rat×Rat) 510 (hNe y1,hNe y2))with|true=>(match dM (dC c) y5 with|true=>(og (decide (okC 580 d/\ok (Rat×Rat) 510 (hNe y1,hNe y2))) (match dM (dC d) y5 with|true=>(og (decide y6) (og (decide y9) (some [RV.d aqw (mn2 1 y14)])))|false=>some [RV.d aqw 1]))|false=>some [RV.d aqw 1])|false=>none;og (o2 d.2.2.1.1 c.2.2.1.1) (og (o2 d.2.2.1.2.1 c.2.2.1.2.1) (og (o2 y1 y1) (og (o2 y2 y2) (og (o2 (hMu y1 y1) (hMu y2 y2)) (og (o1 y3) (match(aF (ah y3) 0)==0 with|true=>some [RV.d aqw 1]|false=>(og (o1 y1) (og (o1 y2) (og (decide (okC 580 c/\ok (Rat×Rat) 510 (hSu d.2.2.1.1 c.2.2.1.1,hSu d.2.2.1.2.1 c.2.2.1.2.1))) (match dM (dC c) y4 with|true=>(og (decide (okC 580 d/\ok (Rat×Rat) 510 (hNe y1,hNe y2))) (match dM (dC d) y5 with|true=>(og (decide y6) (og (decide (n4P c.2.2.1.2.2 d.2.2.1.2.2 y3 r)) (og (decide (okC 580 d/\ok (Rat×Rat) 510 (hSu d.2.2.1.1 c.2.2.1.1,hSu d.2.2.1.2.1 c.2.2.1.2.1))) (match dM (dC d) y4 with|true=>(og (decide y7) (og (decide y8) (og (decide (okC 580 c/\ok (Rat×Rat) 510 (hNe y1,hNe y2))) (match dM (dC c) y5 with|true=>(og (decide (okC 580 d/\ok (Rat×Rat) 510 (hNe y1,hNe y2))) (match dM (dC d) y5 with|true=>(og (decide y6) (og (decide y9) (some [RV.d aqw (mn2 (mn2 y12 y13) y14)])))|false=>some [RV.d aqw (mn2 y12 y13)]))|false=>some [RV.d aqw (mn2 y12 y13)]))))|false=>(og (decide (okC 580 c/\ok (Rat×Rat) 510 (hNe y1,hNe y2))) (match dM (dC c) y5 with|true=>(og (decide (okC 580 d/\ok (Rat×Rat) 510 (hNe y1,hNe y2))) (match dM (dC d) y5 with|true=>(og (decide y6) (og (decide y9) (some [RV.d aqw (mn2 y12 y14)])))|false=>some [RV.d aqw y12]))|false=>some [RV.d aqw y12]))))))|false=>(og (decide (okC 580 d/\ok (Rat×Rat) 510 (hSu d.2.2.1.1 c.2.2.1.1,hSu d.2.2.1.2.1 c.2.2.1.2.1))) (match dM (dC d) y4 with|true=>(og (decide y7) (og (decide y8) (og (decide (okC 580 c/\ok (Rat×Rat) 510 (hNe y1,hNe y2))) (match dM (dC c) y5 with|true=>(og (decide (okC 580 d/\ok (Rat×Rat) 510 (hNe y1,hNe y2))) (match dM (dC d) y5 with|true=>(og (decide y6) (og (decide y9) (some [RV.d aqw (mn2 (mn2 1 y13) y14)])))|false=>some [RV.d aqw (mn2 1 y13)]))|false=>some [RV.d aqw (mn2 1 y13)]))))|false=>y15))))|false=>y15))))))))))
def af6:Cn 56 [tCU,tCU,tR]:=cn λ(c d:BCU) (r:BR)=>lf (Tt c d/\ok Rat 1000 r/\0<=ah r) [.d aqw (tT (dC c) (dC d) (ah r))] λh=>by
 refine aB acl (X6 c d r) ⟨0,?_⟩;obtain⟨⟨hc,hd,ec,ed⟩,hr,nr_⟩:=h;obtain⟨ar,li,ci,cw,fr,to⟩:=c;obtain⟨ar',li',di,cw',fr',to'⟩:=d;simp only at ec ed;subst ec ed;have oc:decide (okC 580 _)=true:=dT hc.1;have od:decide (okC 580 _)=true:=dT hd.1;obtain⟨ci,rfl,bc,qc⟩:=cQ (hc.2.1 rfl);obtain⟨di,rfl,bd,qd⟩:=cQ (hd.2.1 rfl);obtain⟨r,rfl,br⟩:=aI hr;rw[fk,cC]at nr_;have n0:0<=a9 (cV (ctr ci) (ctr di)) (cV (ctr ci) (ctr di)):=jN _;have bN:Bd (a9 (cV (ctr ci) (ctr di)) (cV (ctr ci) (ctr di))) 100:=(inferInstance:Bd ((di.1-ci.1)*(di.1-ci.1)+(di.2.1-ci.2.1)*(di.2.1-ci.2.1)) _).mono (by decide);have e0:((ao (di.1-ci.1),ao (di.2.1-ci.2.1)):BV)=enc (cV (ctr ci) (ctr di)):=rfl;have e1:((ao (-(di.1-ci.1)),ao (-(di.2.1-ci.2.1))):BV)=enc (bkV (cV (ctr ci) (ctr di))):=rfl;have eN:(di.1-ci.1)*(di.1-ci.1)+(di.2.1-ci.2.1)*(di.2.1-ci.2.1)=a9 (cV (ctr ci) (ctr di)) (cV (ctr ci) (ctr di)):=rfl;have bw:Bd (cV (ctr ci) (ctr di)) 20:=(inferInstance:Bd ((di.1-ci.1,di.2.1-ci.2.1):Rat×Rat) _).mono (by decide);have bb:Bd (bkV (cV (ctr ci) (ctr di))) 20:=(inferInstance:Bd ((-(di.1-ci.1),-(di.2.1-ci.2.1)):Rat×Rat) _).mono (by decide);have b0:Bd (di.1-ci.1) 10:=(inferInstance:Bd (di.1-ci.1) _).mono (by decide);have b1:Bd (di.2.1-ci.2.1) 10:=(inferInstance:Bd (di.2.1-ci.2.1) _).mono (by decide);have pc:0<=ci.2.2:=by grind
 have pd:0<=di.2.2:=by grind
 have k1:=(Ta (i:=100) (j:=13) (k:=13) (l:=1000) (by decide) (by decide) (by decide) (by decide) n0 pc pd nr_)
 have k2:=(Ta (i:=100) (j:=13) (k:=13) (l:=1000) (by decide) (by decide) (by decide) (by decide) n0 pd pc nr_)
 have k3:=(Ta (i:=13) (j:=100) (k:=13) (l:=1000) (by decide) (by decide) (by decide) (by decide) pc n0 pd nr_)
 have k4:=(Ta (i:=13) (j:=100) (k:=13) (l:=1000) (by decide) (by decide) (by decide) (by decide) pd n0 pc nr_)
 have k5:=(Ta (i:=13) (j:=13) (k:=100) (l:=1000) (by decide) (by decide) (by decide) (by decide) pc pd n0 nr_)
 have sl:∀a b c d,pG a b c d<=1:=λa b c d=>TL _;have bl:∀a b c d,sS a b c d<=1:=λa b c d=>TL _;unfold X6 tT nT fT nD wyv;simp only[aX,Nat.reduceAdd,Nat.reduceLeDiff,au,e0,e1,eN,oc,od,k1,k2,k3,k4,k5,dC,ciC,GC,aeM];have s1:=sl (a9 (cV (ctr ci) (ctr di)) (cV (ctr ci) (ctr di))) ci.2.2 di.2.2 r;have s2:=sl ci.2.2 (a9 (cV (ctr ci) (ctr di)) (cV (ctr ci) (ctr di))) di.2.2 r;have s3:=sl di.2.2 (a9 (cV (ctr ci) (ctr di)) (cV (ctr ci) (ctr di))) ci.2.2 r;have s4:=bl ci.2.2 di.2.2 (a9 (cV (ctr ci) (ctr di)) (cV (ctr ci) (ctr di))) r;have s5:=bl (a9 (cV (ctr ci) (ctr di)) (cV (ctr ci) (ctr di))) di.2.2 ci.2.2 r;have s6:=bl (a9 (cV (ctr ci) (ctr di)) (cV (ctr ci) (ctr di))) ci.2.2 di.2.2 r;cases decide (a9 (cV (ctr ci) (ctr di)) (cV (ctr ci) (ctr di))=0)
 ·cases dM (true,dec li,ci,cw,dec fr,dec to) (cV (ctr ci) (ctr di))<;>cases dM (true,dec li,ci,cw,dec fr,dec to) (bkV (cV (ctr ci) (ctr di)))<;>cases dM (true,dec li',di,cw',dec fr',dec to') (cV (ctr ci) (ctr di))<;>cases dM (true,dec li',di,cw',dec fr',dec to') (bkV (cV (ctr ci) (ctr di)))<;>simp only[v6,cond_true,cond_false,Bool.and_true,Bool.and_false]<;>refine congrArg (λx:Int=>some [RV.d aqw x]) ?_<;>omega
 ·rfl
def ae6:List En:=[⟨54,gK,eH⟩,enL afJ,enT af4,enT af6,enT ah6]
def aaL(c d:BCU)(r:BR)(_k:KT):OLR:=let y1:OLR:=match decide (okR r)with|true=>some [RV.d aqw (i64.wrap (0-(aF (ah r) 0)))]|false=>none;let y2:=Mb (RE.poiE (dC d) (RE.pR (dec c.2.2.2.2.1)) (ah r)) (RE.poiE (dC d) (RE.pR (dec c.2.2.2.2.2)) (ah r)) (RE.poiE (dC c) (RE.pR (dec d.2.2.2.2.1)) (ah r)) (RE.poiE (dC c) (RE.pR (dec d.2.2.2.2.2)) (ah r));let y3:OLR:=match c.1 with|true=>(og (decide (Ie d c/\ok Rat 1000 r)) (some [RV.d aqw (mn2 y2 (xg (dC d) (dC c) (ah r)))]))|false=>(match d.1 with|true=>(og (decide (Ie c d/\ok Rat 1000 r)) (some [RV.d aqw (mn2 y2 (xg (dC c) (dC d) (ah r)))]))|false=>some [RV.d aqw y2]);og (o1 r) (match decide ((aF (ah r) 0)<0)with|true=>some [RV.d aqw 1]|false=>(og (decide (hU c d)) (match decide (((je c d).length:Int)>0)with|true=>y1|false=>(match sV c d with|true=>y1|false=>(og (decide (okC 580 d/\okP 580 c.2.2.2.2.1/\ok Rat 1000 r)) (og (decide (okC 580 d/\okP 580 c.2.2.2.2.2/\ok Rat 1000 r)) (og (decide (okC 580 c/\okP 580 d.2.2.2.2.1/\ok Rat 1000 r)) (og (decide (okC 580 c/\okP 580 d.2.2.2.2.2/\ok Rat 1000 r)) (match c.1 with|true=>(match d.1 with|true=>(og (decide (Tt c d/\ok Rat 1000 r/\0<=ah r)) (some [RV.d aqw (mn2 y2 (tT (dC c) (dC d) (ah r)))]))|false=>y3)|false=>y3)))))))))
def RU:Cn 17 [tCU,tCU,tR]:=cn λ(c d:BCU) (r:BR)=>lf (hU c d/\ok Rat 1000 r) [.d aqw (iG c d (ah r))] λh=>by
 refine aB ae6 (aaL c d r) ⟨0,?_⟩;obtain⟨⟨mc,md⟩,hr⟩:=h;have c5:=cj (k:=580) mc.1 (by decide) (by decide);have d5:=cj (k:=580) md.1 (by decide) (by decide);obtain⟨r,rfl,br⟩:=aI hr
 have w:i64.wrap (0-aF r 0)= -aF r 0:=by
  have:=kY r 0;rw[aV (by omega) (by omega)];omega
 unfold aaL iG Lv jv uU;simp only[aX,Nat.reduceLeDiff,av,GC,Wt,dT (show hU c d from⟨mc,md⟩),dT c5,dT d5,dT c5.2.2.1,dT c5.2.2.2,dT d5.2.2.1,dT d5.2.2.2,w];by_cases h0:r<0
 ·rw[dT h0];rfl
 ·rw[dF h0];have hn:0<=r:=by grind
  cases decide (((je c d).length:Int)>0)
  ·cases sV c d
   ·cases ea:c.1<;>cases eb:d.1
    ·simp only[dC,ea,eb];rfl
    ·simp only[dC,ea,eb,dT (show Ie c d from⟨mc,md,ea,eb⟩)];rfl
    ·simp only[dC,ea,eb,dT (show Ie d c from⟨md,mc,eb,ea⟩)];rfl
    ·simp only[dC,ea,eb,dT (show Tt c d from⟨mc,md,ea,eb⟩),dT hn];rfl
   ·rfl
  ·rfl
def LQ(c:BCU)(l:List BCU)(r:BR):Prop:=mG c/\(∀x∈l,mG x)/\l.length<=1000000/\ok Rat 1000 r
instance (c:BCU) (l:List BCU) (r:BR):Decidable (LQ c l r):=by unfold LQ;infer_instance
def CC(a b:List BCU)(r:BR):Prop:=(∀x∈a,mG x)/\(∀x∈b,mG x)/\a.length<=1000000/\b.length<=1000000/\ok Rat 1000 r
instance (a b:List BCU) (r:BR):Decidable (CC a b r):=by unfold CC;infer_instance
def nrZ(c:BCU)(r:Rat)(d:BCU):Bool:=decide (iG c d r<0)
def HM(c:BCU)(l:List BCU)(r:Rat):Bool:=!(l.any (nrZ c r))
def Gr(f:BCU->Bool):List BCU->Int->Int
 |[],_=> -1
 |c::l,i=>bif f c then i else Gr f l (i+1)
def Dg(a b:List BCU)(r:Rat):Int:=Gr (λc=>!(HM c b r)) a 0
def C8:List En:=[enT RU]
def adB:NT:=[((211,6),{keep:=[0,1,7,8],hl:=2}),((213,3),{keep:=[9],hl:=0}),((174,3),{keep:=[7],hl:=0}),((211,18),{keep:=[0,1,5,7,8,16],hl:=0})]
def Su:Ctx:=CX (ens C8) adB
def pJ(c:BCU)(l:List BCU)(r:BR)(s211_8:Int):Cfg:=⟨211,[.blk 0,.seq 25],[(0,.d (.sl tCU) l),(1,.clo 281 [0,1]),(7,SI (l.length:Int)),(8,SI s211_8)],[.box 39 [SB c.1,SB c.2.1.1.1.1,.d aqv c.2.1.1.1.2,SB c.2.1.1.2.1,.d aqv c.2.1.1.2.2,SB c.2.1.2.1.1.1,.d aqv c.2.1.2.1.1.2,SB c.2.1.2.1.2.1,.d aqv c.2.1.2.1.2.2,SB c.2.1.2.2.1.1,.d aqv c.2.1.2.2.1.2,SB c.2.1.2.2.2.1,.d aqv c.2.1.2.2.2.2,SB c.2.2.1.1.1.1,.d aqv c.2.2.1.1.1.2,SB c.2.2.1.1.2.1,.d aqv c.2.2.1.1.2.2,SB c.2.2.1.2.1.1.1,.d aqv c.2.2.1.2.1.1.2,SB c.2.2.1.2.1.2.1,.d aqv c.2.2.1.2.1.2.2,SB c.2.2.1.2.2.1.1,.d aqv c.2.2.1.2.2.1.2,SB c.2.2.1.2.2.2.1,.d aqv c.2.2.1.2.2.2.2,SB c.2.2.2.1,SB c.2.2.2.2.1.1.1.1,.d aqv c.2.2.2.2.1.1.1.2,SB c.2.2.2.2.1.1.2.1,.d aqv c.2.2.2.2.1.1.2.2,SB c.2.2.2.2.1.2.1.1.1,.d aqv c.2.2.2.2.1.2.1.1.2,SB c.2.2.2.2.1.2.1.2.1,.d aqv c.2.2.2.2.1.2.1.2.2,SB c.2.2.2.2.1.2.2.1.1.1,.d aqv c.2.2.2.2.1.2.2.1.1.2,SB c.2.2.2.2.1.2.2.1.2.1,.d aqv c.2.2.2.2.1.2.2.1.2.2,SB c.2.2.2.2.1.2.2.2.1.1.1,.d aqv c.2.2.2.2.1.2.2.2.1.1.2,SB c.2.2.2.2.1.2.2.2.1.2.1,.d aqv c.2.2.2.2.1.2.2.2.1.2.2,SB c.2.2.2.2.1.2.2.2.2.1.1,.d aqv c.2.2.2.2.1.2.2.2.2.1.2,SB c.2.2.2.2.1.2.2.2.2.2.1,.d aqv c.2.2.2.2.1.2.2.2.2.2.2,SB c.2.2.2.2.2.1.1.1,.d aqv c.2.2.2.2.2.1.1.2,SB c.2.2.2.2.2.1.2.1,.d aqv c.2.2.2.2.2.1.2.2,SB c.2.2.2.2.2.2.1.1.1,.d aqv c.2.2.2.2.2.2.1.1.2,SB c.2.2.2.2.2.2.1.2.1,.d aqv c.2.2.2.2.2.2.1.2.2,SB c.2.2.2.2.2.2.2.1.1.1,.d aqv c.2.2.2.2.2.2.2.1.1.2,SB c.2.2.2.2.2.2.2.1.2.1,.d aqv c.2.2.2.2.2.2.2.1.2.2,SB c.2.2.2.2.2.2.2.2.1.1.1,.d aqv c.2.2.2.2.2.2.2.2.1.1.2,SB c.2.2.2.2.2.2.2.2.1.2.1,.d aqv c.2.2.2.2.2.2.2.2.1.2.2,SB c.2.2.2.2.2.2.2.2.2.1.1,.d aqv c.2.2.2.2.2.2.2.2.2.1.2,SB c.2.2.2.2.2.2.2.2.2.2.1,.d aqv c.2.2.2.2.2.2.2.2.2.2.2],.box 31 [SB r.1.1,.d aqv r.1.2,SB r.2.1,.d aqv r.2.2]],2,[⟨174,[.seq 4],3,2,[],2,none⟩,⟨213,[.seq 4],3,2,[],0,none⟩]⟩
def ahE(c:BCU)(l:List BCU)(r:BR)(k:KT):OLR:=k 6 (pJ c l r 0)
theorem ag8(c:BCU)(l:List BCU)(r:BR):RS Su 213 [.d tCU c,.d (.sl tCU) l,.d tR r] (ahE c l r):=rsX
def pk(c:BCU)(l:List BCU)(r:BR)(s211_8:Int)(k:KT):OLR:=match decide (s211_8<(l.length:Int))with|true=>(match aS l s211_8 with|some x1=>(og (decide (hU c x1/\ok Rat 1000 r)) (match decide ((iG c x1 (ah r))<0)with|true=>some [RV.d .bool (!(decide (s211_8>=0)))]|false=>k 6 (pJ c l r (i64.wrap (s211_8+1)))))|none=>none)|false=>some [RV.d .bool (!(decide ((-1)>=0)))]
theorem ul(c:BCU)(l:List BCU)(r:BR)(s211_8:Int):RN Su 6 (pJ c l r s211_8) (pk c l r s211_8):=rnX
theorem aii(c:BCU)(l:List BCU)(r:BR)(h:LQ c l r):∀(j i:Nat),i+j=l.length->Su.Runs 6 (pJ c l r (i:Int)) [.d .bool (!((l.drop i).any (nrZ c (ah r))))]:=by
 intro j;have hl:=h.2.2.1;induction j with
 |zero=>
  intro i hi;refine ul _ _ _ _ ⟨0,?_⟩;unfold pk;rw[b8 (by omega),qP (by omega)];rfl
 |succ j ih=>
  intro i hi;have hil:i<l.length:=by omega
  obtain⟨n,hn⟩:=ih (i+1) (by omega);refine ul _ _ _ _ ⟨n,?_⟩;unfold pk;rw[bH hil,aq,anc hil,ir hil,aqj,bW (by omega)];dsimp only;rw[dT (show hU c l[i]/\ok Rat 1000 r from⟨⟨h.1,h.2.1 _ (anG _)⟩,h.2.2.2⟩)];have e:nrZ c (ah r) l[i]=decide (iG c l[i] (ah r)<0):=rfl;rw[e];cases decide (iG c l[i] (ah r)<0)
  ·exact hn
  ·show some [RV.d .bool (!(decide ((i:Int)>=0)))]=_;rw[dT (show(i:Int)>=0 by omega)];rfl
def aiC:Cn 213 [tCU,(.sl tCU),tR]:=cn λ(c:BCU) (l:List BCU) (r:BR)=>lf (LQ c l r) [.d .bool (HM c l (ah r))] λh=>by
 exact dk C8 (ag8 _ _ _ (aii c l r h l.length 0 (anO _)))
def Cx:List En:=enF aiC::C8
def afy:NT:=[((211,6),{keep:=[0,1,7,8],hl:=2}),((116,3),{keep:=[9],hl:=0}),((211,18),{keep:=[0,1,5,7,8,16],hl:=0})]
def PG:Ctx:=CX (ens Cx) afy
def pA(a b:List BCU)(r:BR)(s211_8:Int):Cfg:=⟨211,[.blk 0,.seq 25],[(0,.d (.sl tCU) a),(1,.clo 212 [0,1]),(7,SI (a.length:Int)),(8,SI s211_8)],[.box 46 [.d (.sl tCU) b],.box 31 [SB r.1.1,.d aqv r.1.2,SB r.2.1,.d aqv r.2.2]],2,[⟨116,[.seq 4],3,2,[],0,none⟩]⟩
def akD(a b:List BCU)(r:BR)(k:KT):OLR:=k 6 (pA a b r 0)
theorem agH(a b:List BCU)(r:BR):RS PG 116 [.d (.sl tCU) a,.d (.sl tCU) b,.d tR r] (akD a b r):=rsX
def pQ(a b:List BCU)(r:BR)(s211_8:Int)(k:KT):OLR:=match decide (s211_8<(a.length:Int))with|true=>(match aS a s211_8 with|some x1=>(og (decide (LQ x1 b r)) (match !(HM x1 b (ah r))with|true=>some [RV.d aqw s211_8]|false=>k 6 (pA a b r (i64.wrap (s211_8+1)))))|none=>none)|false=>some [RV.d aqw (-1)]
theorem uD(a b:List BCU)(r:BR)(s211_8:Int):RN PG 6 (pA a b r s211_8) (pQ a b r s211_8):=rnX
theorem aio(a b:List BCU)(r:BR)(h:CC a b r):∀(j i:Nat),i+j=a.length->PG.Runs 6 (pA a b r (i:Int)) [.d aqw (Gr (λc=>!(HM c b (ah r))) (a.drop i) (i:Int))]:=by
 intro j;have hl:=h.2.2.1;induction j with
 |zero=>
  intro i hi;refine uD _ _ _ _ ⟨0,?_⟩;unfold pQ;rw[b8 (by omega),qP (by omega)];rfl
 |succ j ih=>
  intro i hi;have hil:i<a.length:=by omega
  obtain⟨n,hn⟩:=ih (i+1) (by omega);refine uD _ _ _ _ ⟨n,?_⟩;unfold pQ;rw[bH hil,aq,anc hil,ir hil,bW (by omega)];dsimp only;rw[dT (show LQ a[i] b r from⟨h.1 _ (anG _),h.2.1,h.2.2.2.1,h.2.2.2.2⟩)];unfold Gr;cases HM a[i] b (ah r)
  ·rfl
  ·exact hn
def aih:Cn 116 [(.sl tCU),(.sl tCU),tR]:=cn λ(a b:List BCU) (r:BR)=>lf (CC a b r) [.d aqw (Dg a b (ah r))] λh=>by
 exact dk Cx (agH _ _ _ (aio a b r h a.length 0 (anO _)))
def VE:List En:=enF aih::Cx
def afW:Cn 53 [(.sl tCU),(.sl tCU),tR]:=cn λ(a b:List BCU) (r:BR)=>lf (CC a b r) [.d .bool (decide (Dg a b (ah r)<0))] λh=>kO [RV.d .bool (decide ((Dg a b (ah r))<0))] (dN VE) h
end Go.Proofs.YtagbmoohboleaaaGreat
end
