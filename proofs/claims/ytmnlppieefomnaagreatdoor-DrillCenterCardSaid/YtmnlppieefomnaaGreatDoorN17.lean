/- The program's Valid: numbers, points, circles. -/
import Derived.Test.YtmnlppieefomnaaGreatDoorN16
import Derived.Test.YtmnlppieefomnaaGreatDoorN15
import Derived.Test.YtmnlppieefomnaaGreatDoorN13
noncomputable section
namespace Go.Proofs.YtmnlppieefomnaaGreatDoor
open Go.RowKit Go.IntKind
theorem amq:type_of% @Classical.epsilon_spec:=@Classical.epsilon_spec
theorem aoc:type_of% @bne_iff_ne:=@bne_iff_ne
theorem aoC:type_of% @bne_self_eq_false:=@bne_self_eq_false
namespace RE
theorem akl(a r:RE)(h1:0<r):a+ -1*r<a+1*r:=by grind
theorem LI{c:Ln}(h:0<c.2.2):aB (cd c) (bZ c)= -1:=by
 have q0:(0:Rat)<=c.2.2:=by grind
 have pl:Rpd (cd c):=mo (λe=>absurd e.1 (by decide)) q0;have pr:Rpd (bZ c):=mo (λe=>absurd e.1 (by decide)) q0;rw[gT];refine(fh _ _).1 (.inl ?_);unfold cd bZ;rw[lZ,lZ];show v2 _ _ _<v2 _ _ _;unfold v2;exact akl _ _ (Wp h)
end RE
def loN(c:BO3):BCU:=(true,o00,c,false,enc (cd (dec c)),enc (bZ (dec c)))
def hiN(c:BO3):BCU:=(true,o00,c,false,enc (bZ (dec c)),enc (cd (dec c)))
def upN(c:BO3):BCU:=(true,o00,c,true,enc (cd (dec c)),enc (bZ (dec c)))
abbrev SLp:Type:=Int×BO3
def z3:BO3:=(((false,[]),(false,[])),(((false,[]),(false,[])),((false,[]),(false,[]))))
abbrev qz:Ty:=.st (.pair apE tO)
def Hz:List En:=[]
def aeK:NT:=[((129,6),{keep:=[1,7,8,9],hl:=1})]
def J6:Ctx:=CX (ens Hz) aeK
def BT(x:BI)(s9:Int):Cfg:=⟨129,[.blk 0,.seq 25],[(1,.box 0 0),(7,.d apD x.2),(8,SI (x.2.length:Int)),(9,SI s9)],[.box 26 [SB x.1,.d apD x.2]],0,[]⟩
def aiw(x:BI)(k:KT):OLR:=k 6 (BT x 0)
theorem agU(x:BI):RS J6 129 [.d tI x] (aiw x):=rsX
def xg(x:BI)(s9:Int)(k:KT):OLR:=match decide (s9<(x.2.length:Int))with|true=>(match aH x.2 s9 with|some x1=>(match decide (x1>=1000000000)with|true=>some [RV.d .bool false]|false=>k 6 (BT x (i64.wrap (s9+1))))|none=>none)|false=>(match decide ((x.2.length:Int)>0)with|true=>(match aH x.2 (i64.wrap ((x.2.length:Int)-1))with|some x1=>some [RV.d .bool (x1 !=0)]|none=>none)|false=>some [RV.d .bool (!x.1)])
theorem C9(x:BI)(s9:Int):RN J6 6 (BT x s9) (xg x s9):=rnX
theorem MY(x:BI)(h:okI x):∀(j i:Nat),i+j=x.2.length->J6.Runs 6 (BT x (i:Int)) [.d .bool true]:=by
 obtain⟨x0,x1,x2⟩:=cp h;have hlim:=fi h;have hl:=h.2.2;intro j;induction j with
 |zero=>
  intro i hi;refine C9 _ _ ⟨0,?_⟩;unfold xg;rw[aX (by omega)];dsimp only;cases e:x.2 with
  |nil=>
   have e1:x.1=false:=by
    cases e1:x.1
    ·rfl
    ·exact absurd e (h.2.1 e1)
   rw[e1];rfl
  |cons y r=>
   have h3:=h.1.2;rw[e]at h3 hl;have hn:(((y::r).length:Nat):Int)-1=((r.length:Nat):Int):=by simp
   have hl':r.length<=999999:=by simpa using hl
   rw[dT (show(((y::r).length:Nat):Int)>0 by simp),hn,aO (by omega) (by omega),ai];dsimp only
   have h4:(y::r)[r.length]?=some ((y::r).getLast (by simp)):=by
    rw[List.getLast_eq_getElem];simp
   rw[h4];rw[List.getLast?_eq_some_getLast (by simp)]at h3;have h5:(y::r).getLast (by simp)≠0:=λq=>h3 (by rw[q]);simp only[aoc.2 h5]
 |succ j ih=>
  intro i hi;have hil:i<x.2.length:=by omega
  obtain⟨q,hq⟩:=ih (i+1) (by omega);refine C9 _ _ ⟨q,?_⟩;unfold xg;have hb:=(hlim.1 x.2[i] (ams hil)).2;rw[aK hil,ai,amg hil,aT (by omega)];dsimp only;rw[ami (by omega)];exact hq
def afN:Cn 129 [tI]:=cn λ(x:BI)=>lf (okI x) [.d .bool true] λh=>by
 refine a8 Hz (show J6.Res _ _ _ from ?_);obtain⟨q,hq⟩:=MY x h x.2.length 0 (by omega);exact agU _ ⟨q,hq⟩
def Q7:dJ:=spN true true [tI] (λx=>decide (okI x.1)) (λx=>[RV.d apE (bV (ab x.1) 0)])
theorem R4:SpK 124 Q7:=spX λx h=>Jy x.1 (amj h)
def N9:dJ:=spN false true [tI,tI] (λx=>decide (okI x.1/\okI x.2.1)) (λx=>[RV.d tI (hid (ah ((Int.gcd (ab x.1) (ab x.2.1):Nat):Int)))])
theorem Oq:SpK 130 N9:=spX λx h=>by simp only[aQ];exact JN x.1 x.2.1 (amj h)
def Nh:dJ:=spN false true [] (λ_=>true) (λ_=>[RV.d tI (hid (ah 1))])
theorem Ti:SpK 126 Nh:=spX λ_ _=>by simp only[aQ];exact Jj
def aef:List En:=enT afN::⟨124,Q7,R4⟩::⟨130,N9,Oq⟩::⟨126,Nh,Ti⟩::⟨82,Bn,xi⟩::Hz
def Z8(a:BR)(_k:KT):OLR:=og (decide (okI a.1)) (og (decide (okI a.2)) (og (decide (okI a.2)) (match decide ((bV (ab a.2) 0)<=0)with|true=>some [RV.d .bool false]|false=>(og (decide (okI a.1/\okI a.2)) (og (decide (okI (hid (ah ((Int.gcd (ab a.1) (ab a.2):Nat):Int)))/\okI (hid (ah 1)))) (some [RV.d .bool ((bV (ab (hid (ah ((Int.gcd (ab a.1) (ab a.2):Nat):Int)))) (ab (hid (ah 1))))==0)]))))))
def XY:Cn 89 [tR]:=cn λ(a:BR)=>lf (okR a) [.d .bool true] λh=>by
 refine aA aef (Z8 a) ⟨0,?_⟩;obtain⟨h1,h2,h3,h4,_⟩:=h;have o1:okI (ah ((Int.gcd (ab a.1) (ab a.2):Nat):Int)):=by rw[h4];exact iR
 unfold Z8;simp only[aQ];rw[dT h1,dT h2,dT (show okI a.1/\okI a.2 from⟨h1,h2⟩),cq h3,dT (show okI (ah ((Int.gcd (ab a.1) (ab a.2):Nat):Int))/\okI (ah 1) from⟨o1,iR⟩),dec_enc,dec_enc,h4];rfl
def Fj:List En:=[enT XY,⟨85,fS,dX⟩,enL NZ]
def acH:NT:=[((132,6),{keep:=[1,17,18,19],hl:=99})]
def ago:Ctx:=CX (ens Fj) acH
def Zz(p:BP):OLR:=og (o1 p.1) (og (o1 p.2.1) (og (o1 p.2.2.1) (og (o1 p.2.2.2.1) (og (o1 p.2.2.2.2) (og (o1 p.2.1) (match(aD (ag p.2.1) 0)==0 with|true=>(og (o1 p.2.2.2.1) (match(aD (ag p.2.2.2.1) 0)==0 with|true=>(og (o1 p.2.2.2.2) (some [RV.d .bool ((aD (ag p.2.2.2.2) 0)==0)]))|false=>(og (o1 p.2.2.2.2) (og (o1 p.2.2.2.2) (match decide ((aD (ag p.2.2.2.2) 0)>0)with|true=>some [RV.d .bool (!(dP (ag p.2.2.2.2)))]|false=>some [RV.d .bool false])))))|false=>(og (o1 p.2.2.2.2) (og (o1 p.2.2.2.2) (match decide ((aD (ag p.2.2.2.2) 0)>0)with|true=>some [RV.d .bool (!(dP (ag p.2.2.2.2)))]|false=>some [RV.d .bool false])))))))))
theorem agq(p:BP):RT ago 132 [.d tP p] (Zz p):=rtX
def ahc:Cn 132 [tP]:=cn λ(p:BP)=>lf (okP 4000 p) [.d .bool true] λh=>by
 refine a8 Fj (agq _ ?_);have hp:=h;obtain⟨p,rfl,bp,rp⟩:=cM hp;unfold Zz;simp only[bE,Nat.reduceLeDiff,ao,av];rcases rp.rd with⟨h1,h2,h3⟩|⟨h1,h2,h3⟩
 ·rw[dT h1,dT h2,dT h3]
 ·rw[dT h2,h3];cases hb:decide (p.2.1=0)
  ·rfl
  ·cases hb2:decide (p.2.2.2.1=0)
   ·rfl
   ·exact absurd ⟨amj hb,amj hb2⟩ h1
def Yq(c:BO3)(_k:KT):OLR:=og (o1 c.1) (og (o1 c.2.1) (og (o1 c.2.2) (og (o1 c.2.2) (some [RV.d .bool (decide ((aD (ag c.2.2) 0)>0))]))))
def Yf:Cn 49 [tO]:=cn λ(c:BO3)=>lf (t6 c) [.d .bool true] λh=>by
 refine aA Fj (Yq c) ⟨0,?_⟩;obtain⟨hk,h0⟩:=h;obtain⟨c,rfl,bc⟩:=aM hk;rw[au]at h0;unfold Yq;simp only[bE,Nat.reduceLeDiff,av,dT h0]
section
open RE
theorem gZ{c:Ln}:dS c=cd c/\eu c=bZ c:=by
 unfold dS eu cd bZ pB l7 mkP mkR rdP atP;cases dP c.2.2<;>exact⟨rfl,rfl⟩
def loM(c:BO3):BCU:=(true,l0B,c,false,enc (dS (dec c)),enc (eu (dec c)))
def hiM(c:BO3):BCU:=(true,l0B,c,false,enc (eu (dec c)),enc (dS (dec c)))
def upM(c:BO3):BCU:=(true,l0B,c,true,enc (dS (dec c)),enc (eu (dec c)))
def vY(c:BCU):Prop:=bi c.2.2.1/\(c=loM c.2.2.1\/c=hiM c.2.2.1)
instance (c:BCU):Decidable (vY c):=Classical.propDecidable _
def kC(c:BCU):BCU:=bif decide (aB (dec c.2.2.2.2.1) (dec c.2.2.2.2.2)>0)then iM c else c
def yz(c:Cv)(p:Pt):Bool:=onP c p&&(!(aB (frC c) p==0)&&!(aB (toC c) p==0))
theorem aa4{l m:BO3}{c:BCU}(e:c.1=true)(h:gdN (c.1,l,c.2.2)):gdN (c.1,m,c.2.2):=by
 obtain⟨⟨⟨h1,h2,h3⟩,h4,h5⟩,h6,h7,h8⟩:=h;have e':∀{q:Prop},(c.1=false->q):=λh=>by rw[e]at h;cases h
 refine⟨⟨⟨h1,e',h3⟩,h4,e'⟩,?_,?_,h8⟩
 ·have:=h6;unfold du dC at*;rw[show((c.1,l,c.2.2):BCU).1=true from e]at this;rw[show((c.1,m,c.2.2):BCU).1=true from e];exact this
 ·have:=h7;unfold du dC at*;rw[show((c.1,l,c.2.2):BCU).1=true from e]at this;rw[show((c.1,m,c.2.2):BCU).1=true from e];exact this
theorem xI{c:BO3}(h:bi c):gdN (loM c)/\gdN (hiM c)/\gdN (upM c)/\aB (dec (enc (dS (dec c)))) (dec (enc (eu (dec c))))= -1:=by
 obtain⟨c,rfl,bc,h0⟩:=b8 h;have g:=Bo (c:=c) h0;have k:∀w f t,gdN (true,o00,enc c,w,f,t)->gdN (true,l0B,enc c,w,f,t):=λw f t=>aa4 (c:=(true,o00,enc c,w,f,t)) rfl;have g1:gdN (loM (enc c)):=k _ _ _ (g _ (by unfold vT;rw[au,gZ.1,gZ.2];simp));have g2:gdN (hiM (enc c)):=k _ _ _ (g _ (by unfold vT;rw[au,gZ.1,gZ.2];simp));refine⟨g1,g2,g2.rev,?_⟩;rw[au,au,gZ.1,gZ.2,au];exact LI h0
theorem aac{c:BCU}(h:vY c):c.1=true/\gdN c/\okC 4000 c/\(okP 4000 (enc (dS (dec c.2.2.1)))/\yz (dC c) (dec (enc (dS (dec c.2.2.1))))=false)/\okP 4000 (enc (eu (dec c.2.2.1)))/\yz (dC c) (dec (enc (eu (dec c.2.2.1))))=false:=by
 obtain⟨hs,h⟩:=h;obtain⟨g1,g2,_,_⟩:=xI hs;have o:=bh (k:=4000) g1.1.1 (by decide) (by decide);obtain⟨_,_,o1,o2⟩:=o
 have z:∀{p:BP},okP 4000 p->(aB (dec p) (dec p)==0)=true:=λ{p} h=>by
  have:=co h;exact amW.2 (RE.cmpP_0.2 rfl)
 have g:c.1=true/\gdN c:=by
  rcases h with e|e<;>rw[e]
  ·exact⟨rfl,g1⟩
  ·exact⟨rfl,g2⟩
 have z1:(aB (dec (enc (dS (dec c.2.2.1)))) (dec (enc (dS (dec c.2.2.1))))==0)=true:=z o1;have z2:(aB (dec (enc (eu (dec c.2.2.1)))) (dec (enc (eu (dec c.2.2.1))))==0)=true:=z o2;refine⟨g.1,g.2,bh (k:=4000) g.2.1.1 (by decide) (by decide),⟨o1,?_⟩,o2,?_⟩<;>unfold yz
 ·rcases h with e|e
  ·rw[show frC (dC c)=dec (enc (dS (dec c.2.2.1))) by rw[e];rfl,z1,Bool.not_true,apr,aow]
  ·rw[show toC (dC c)=dec (enc (dS (dec c.2.2.1))) by rw[e];rfl,z1,Bool.not_true,aow,aow]
 ·rcases h with e|e
  ·rw[show toC (dC c)=dec (enc (eu (dec c.2.2.1))) by rw[e];rfl,z2,Bool.not_true,aow,aow]
  ·rw[show frC (dC c)=dec (enc (eu (dec c.2.2.1))) by rw[e];rfl,z2,Bool.not_true,apr,aow]
def abf:List En:=[enT IV,enT sO]
def Y2(c:BCU)(p:BP)(_k:KT):OLR:=og (decide (okC 4000 c/\okP 4000 p)) (match onP (dC c) (dec p)with|true=>(og (decide (okP 4000 c.2.2.2.2.1/\okP 4000 p)) (match !(aB (dec c.2.2.2.2.1) (dec p)==0)with|true=>(og (decide (okP 4000 c.2.2.2.2.2/\okP 4000 p)) (some [RV.d .bool (!(aB (dec c.2.2.2.2.2) (dec p)==0))]))|false=>some [RV.d .bool false]))|false=>some [RV.d .bool false])
def afk:Cn 183 [tCU,tP]:=cn λ(c:BCU) (p:BP)=>lf (okC 4000 c/\okP 4000 p) [.d .bool (yz (dC c) (dec p))] λh=>by
 refine aA abf (Y2 c p) ⟨0,?_⟩;obtain⟨h1,h2⟩:=h;unfold Y2 yz;rw[dT (show okC 4000 c/\okP 4000 p from⟨h1,h2⟩),dT (show okP 4000 c.2.2.2.2.1/\okP 4000 p from⟨h1.2.2.1,h2⟩),dT (show okP 4000 c.2.2.2.2.2/\okP 4000 p from⟨h1.2.2.2,h2⟩)];have e3:frC (dC c)=dec c.2.2.2.2.1:=rfl;have e4:toC (dC c)=dec c.2.2.2.2.2:=rfl;rw[e3,e4];cases onP (dC c) (dec p)<;>cases aB (dec c.2.2.2.2.1) (dec p)==0<;>rfl
def akf:Cn 183 [tCU,tP]:=cn λ(c:BCU) (p:BP)=>lf (yz (dC c) (dec p)=false/\okC 4000 c/\okP 4000 p) [.d .bool false] λh=>by
 have e:CQq7 183 [.d tCU c,.d tP p] [.d .bool (yz (dC c) (dec p))]:=(afk.g c p).h h.2;rw[h.1]at e;exact e
def S8:List En:=[enL Ta,enT akf,enT zP,enL Xb,enT sO,enT WU,enT IV]
def abw:NT:=[((241,6),{keep:=[0,1,7,8],hl:=99}),((181,16),{keep:=[0,1,5,6],hl:=99}),((328,6),{keep:=[0,1,2,6,7,8],hl:=99}),((357,3),{keep:=[0,1,2,3,8],hl:=99}),((328,22),{keep:=[0,1,2,6],hl:=99}),((184,18),{keep:=[2,6,7,17,18,19],hl:=99}),((136,24),{keep:=[3,35,36,37],hl:=99}),((246,6),{keep:=[0,1,2,6,7,8],hl:=99}),((296,3),{keep:=[0,1,2,3,8],hl:=99}),((246,22),{keep:=[0,1,2,6],hl:=99}),((136,11),{keep:=[1,3,25],hl:=0}),((181,3),{keep:=[0,1,10],hl:=0}),((241,18),{keep:=[0,1,5,7,8,16],hl:=0}),((181,28),{keep:=[0,1,5,6,7,28],hl:=0}),((136,13),{keep:=[3,29],hl:=0}),((184,4),{keep:=[1,2,13],hl:=0}),((243,3),{keep:=[7],hl:=0}),((184,16),{keep:=[2,6,7,17],hl:=0}),((245,3),{keep:=[2,6],hl:=0}),((245,5),{keep:=[1],hl:=0}),((292,0),{keep:=[],hl:=0}),((328,20),{keep:=[0,1,2,6],hl:=0}),((245,7),{keep:=[11],hl:=0}),((136,42),{keep:=[3],hl:=0}),((186,0),{keep:=[],hl:=0}),((246,20),{keep:=[0,1,2,6],hl:=0})]
def af7:Ctx:=CX (ens S8) abw
def Wv(c:BCU):OLR:=match c.1 with|true=>(og (decide (bi c.2.2.1)) (og (decide (yz (dC c) (dec (hid (enc (dS (dec c.2.2.1)))))=false/\okC 4000 c/\okP 4000 (hid (enc (dS (dec c.2.2.1)))))) (og (decide (yz (dC c) (dec (hid (enc (eu (dec c.2.2.1)))))=false/\okC 4000 c/\okP 4000 (hid (enc (eu (dec c.2.2.1)))))) (D4 (og (decide (okP 4000 c.2.2.2.2.1/\okP 4000 c.2.2.2.2.2)) (match decide ((aB (dec c.2.2.2.2.1) (dec c.2.2.2.2.2))>0)with|true=>some [RV.new 75 tCU ([hid (iM c)])]|false=>some [RV.new 75 tCU ([c])])) (og (decide (okP 4000 c.2.2.2.2.1/\okP 4000 c.2.2.2.2.2)) (match decide ((aB (dec c.2.2.2.2.1) (dec c.2.2.2.2.2))>0)with|true=>some [RV.new 75 tCU ([hid (iM c)])]|false=>some [RV.new 75 tCU ([c])]))))))|false=>(og (decide (okP 4000 c.2.2.2.2.1/\okP 4000 c.2.2.2.2.2)) (match decide ((aB (dec c.2.2.2.2.1) (dec c.2.2.2.2.2))>0)with|true=>some [RV.new 75 tCU ([hid (iM c)])]|false=>some [RV.new 75 tCU ([c])]))
theorem ae8(c:BCU):RT af7 136 [.d tCU c] (Wv c):=rtX
def ae3:Cn 136 [tCU]:=cn λ(c:BCU)=>lf (vY c) [.new 75 tCU ([kC c])] λh=>by
 refine a8 S8 (ae8 _ ?_);obtain⟨h1,g,h4,⟨h5,h6⟩,h7,h8⟩:=aac h;unfold Wv kC;simp only[aQ];rw[h1,dT h.1,dT (show yz (dC c) (dec (enc (dS (dec c.2.2.1))))=false/\okC 4000 c/\okP 4000 (enc (dS (dec c.2.2.1))) from⟨h6,h4,h5⟩),dT (show yz (dC c) (dec (enc (eu (dec c.2.2.1))))=false/\okC 4000 c/\okP 4000 (enc (eu (dec c.2.2.1))) from⟨h8,h4,h7⟩),dT (show okP 4000 c.2.2.2.2.1/\okP 4000 c.2.2.2.2.2 from h4.2.2)];cases decide (aB (dec c.2.2.2.2.1) (dec c.2.2.2.2.2)>0)<;>exact(dz _).trans rfl
end
section
open RE
abbrev BDs:Type:=Int×Int×Int×Int×Bool
abbrev tBD:Ty:=.st (.pair apE (.pair apE (.pair apE (.pair apE .bool))))
def Wa(a b:BDs):Bool:=a.2.2.2.2&&(b.2.2.2.2&&(decide (a.2.1<b.1)||(decide (b.2.1<a.1)||(decide (a.2.2.2.1<b.2.2.1)||decide (b.2.2.2.1<a.2.2.1)))))
def vU(c:BCU)(l:List BP):Prop:=lj c l/\∀p∈l,onP (dC c) (dec p)=true/\(fG p c.2.2.2.2.1||fG p c.2.2.2.2.2)=true
instance (c:BCU) (l:List BP):Decidable (vU c l):=Classical.propDecidable _
theorem Dg{c:BCU}:∀{L:List BP} {f:BP},(∀p∈L,(fG p c.2.2.2.2.1||fG p c.2.2.2.2.2)=true)->vO c f L=[zv c f c.2.2.2.2.2]
 |[],_,_=>rfl
 |p::r,f,h=>by
  unfold vO;rw[h p (by simp)];exact Dg λq hq=>h q (amv _ hq)
theorem Jz{c:BCU}{l:List BP}(h:vU c l):oE c l=[c]/\Wh c l=0:=by
 have ho:SH c l=false:=by
  unfold SH;rw[List.any_eq_false];intro p hp;rw[(h.2 p hp).1];decide
 unfold oE Wh VE;rw[ho,Dg λp hp=>(h.2 p (mN hp)).2];exact⟨rfl,rfl⟩
def lX(l:List BCU):Prop:=∃c,bi c/\l=[loM c,upM c]
instance (l:List BCU):Decidable (lX l):=Classical.propDecidable _
theorem qQ{c:BO3}(h:bi c):okP 4000 (enc (dS (dec c)))/\okP 4000 (enc (eu (dec c)))/\aB (dec (enc (dS (dec c)))) (dec (enc (dS (dec c))))=0/\aB (dec (enc (eu (dec c)))) (dec (enc (eu (dec c))))=0/\aB (dec (enc (dS (dec c)))) (dec (enc (eu (dec c))))= -1/\aB (dec (enc (eu (dec c)))) (dec (enc (dS (dec c))))=1:=by
 obtain⟨g1,g2,_,e⟩:=xI h;obtain⟨_,_,o1,o2⟩:=bh (k:=4000) g1.1.1 (by decide) (by decide);have o1:okP 4000 (enc (dS (dec c))):=o1;have o2:okP 4000 (enc (eu (dec c))):=o2;have r1:=co o1;have r2:=co o2;exact⟨o1,o2,cmpP_0.2 rfl,cmpP_0.2 rfl,e,by rw[kj,e];rfl⟩
theorem UE{c:BCU}(h:gdN c):onP (dC c) (dec c.2.2.2.2.1)=true/\onP (dC c) (dec c.2.2.2.2.2)=true:=by
 have:=FS h;have r1:=co h.1.1.2.2.1;have r2:=co h.1.1.2.2.2;have h1:=WQ (Tg h.gd) r1;have h2:=WQ (Tg h.gd) r2;exact⟨h1.trans this.1,h2.trans this.2⟩
theorem Uz{c:BO3}(h:bi c):vU (loM c) (mn (upM c) (loM c))/\vU (upM c) (mn (upM c) (loM c))/\vU (loM c) []/\vU (upM c) []/\fU (upM c) (loM c)/\(mn (upM c) (loM c)).length<=4:=by
 obtain⟨g1,g2,g3,_⟩:=xI h;obtain⟨o1,o2,z1,z2,_,_⟩:=qQ h;have c1:=bh (k:=4000) g1.1.1 (by decide) (by decide);have c3:=bh (k:=4000) g3.1.1 (by decide) (by decide)
 have hs:cf (dC (upM c)) (dC (loM c))=true:=by
  unfold cf pE;simp[dC,upM,loM,ciC]
 have hm:∀x∈mn (upM c) (loM c),x=enc (dS (dec c))\/x=enc (eu (dec c)):=λx hx=>by
  have hx:=(List.mem_filter.1 (mN hx)).1;unfold BK at hx;rw[hs,cond_true]at hx;have:x=(upM c).2.2.2.2.1\/x=(upM c).2.2.2.2.2\/x=(loM c).2.2.2.2.1\/x=(loM c).2.2.2.2.2:=by simpa using hx
  rcases this with e|e|e|e
  ·exact .inl e
  ·exact .inr e
  ·exact .inl e
  ·exact .inr e
 have hp:fU (upM c) (loM c):=⟨g3.1,g1.1⟩
 have hl:(mn (upM c) (loM c)).length<=4:=amt mX (amt (List.length_filter_le _ _) (xy hp).1)
 have k:∀d:BCU,gdN d->okC 4000 d->d.2.2.2.2.1=enc (dS (dec c))->d.2.2.2.2.2=enc (eu (dec c))->∀x,x=enc (dS (dec c))\/x=enc (eu (dec c))->okP 4000 x/\onP (dC d) (dec x)=true/\(fG x d.2.2.2.2.1||fG x d.2.2.2.2.2)=true:=λd g o e1 e2 x hx=>by
  have:=UE g;rw[e1,e2]at this ⊢;unfold fG;rcases hx with e|e<;>rw[e]
  ·exact⟨o1,this.1,by rw[z1];rfl⟩
  ·exact⟨o2,this.2,by rw[z2];exact apt _⟩
 have k1:=k (loM c) g1 c1 rfl rfl;have k3:=k (upM c) g3 c3 rfl rfl;have nil:∀{d:BCU},okC 4000 d->vU d []:=λh=>⟨⟨h,by simp,λ_ h=>by cases h⟩,λ_ h=>by cases h⟩
 exact⟨⟨⟨c1,by omega,λx hx=>(k1 x (hm x hx)).1⟩,λx hx=>(k1 x (hm x hx)).2⟩,⟨⟨c3,by omega,λx hx=>(k3 x (hm x hx)).1⟩,λx hx=>(k3 x (hm x hx)).2⟩,nil c1,nil c3,hp,hl⟩
def HD:List En:=[enL Vw,enL V8,enL Dw,enL IP,enL QY]
def abx:NT:=[((190,8),{keep:=[1,2,3,20,21,22],hl:=99}),((190,31),{keep:=[1,2,3,20,21,22],hl:=0})]
def ahi:Ctx:=CX (ens HD) abx
def DS(c:BCU):OLR:=let y1:=okP 4000 c.2.2.2.2.1;let y2:=hid (enc (xP (dec c.2.2.2.2.1)));let y3:=hid (enc (yP (dec c.2.2.2.2.1)));let y4:=okP 4000 c.2.2.2.2.2;let y5:=hid (enc (xP (dec c.2.2.2.2.2)));let y6:=hid (enc (yP (dec c.2.2.2.2.2)));let y7:=hid ((aZ (dec y5)).1);let y8:=hid ((aZ (dec y2)).1);let y9:=hid ((aZ (dec y6)).1);let y10:=hid ((aZ (dec y3)).1);let y11:=frF (ag c.2.2.1.2.1);let y12:=frF (ag c.2.2.1.2.2);og (decide y1) (og (decide (ok Rt 100000 y2)) (og (decide y1) (og (decide (ok Rt 100000 y3)) (match !((aZ (dec y2)).2)with|true=>some [RV.d tBD (0,(0,(0,(0,false))))]|false=>(match !((aZ (dec y3)).2)with|true=>some [RV.d tBD (0,(0,(0,(0,false))))]|false=>dup (.b (.b .l .l) (.b .l .l)) (og (decide y4) (og (decide (ok Rt 100000 y5)) (og (decide y4) (og (decide (ok Rt 100000 y6)) (match !((aZ (dec y5)).2)with|true=>some [RV.d tBD (0,(0,(0,(0,false))))]|false=>(match !((aZ (dec y6)).2)with|true=>some [RV.d tBD (0,(0,(0,(0,false))))]|false=>dup (.b (.b .l .l) (.b .l .l)) (match !c.1 with|true=>some [RV.d tBD (if y7.1<(if y8.1<4611686018427387904 then y8.1 else 4611686018427387904)then y7.1 else(if y8.1<4611686018427387904 then y8.1 else 4611686018427387904),(if y7.2>(if y8.2> -4611686018427387904 then y8.2 else-4611686018427387904)then y7.2 else(if y8.2> -4611686018427387904 then y8.2 else-4611686018427387904),(if y9.1<(if y10.1<4611686018427387904 then y10.1 else 4611686018427387904)then y9.1 else(if y10.1<4611686018427387904 then y10.1 else 4611686018427387904),(if y9.2>(if y10.2> -4611686018427387904 then y10.2 else-4611686018427387904)then y9.2 else(if y10.2> -4611686018427387904 then y10.2 else-4611686018427387904),true))))]|false=>(og (decide (ok Rat 200000 c.2.2.1.2.1)) (og (decide (ok Rat 200000 c.2.2.1.2.2)) (match !(y11.2)with|true=>some [RV.d tBD (0,(0,(0,(0,false))))]|false=>(match !(y12.2)with|true=>some [RV.d tBD (0,(0,(0,(0,false))))]|false=>(og (decide (prI (hid (y12.1)))) (match !((sqF (hid (y12.1))).2)with|true=>some [RV.d tBD (0,(0,(0,(0,false))))]|false=>(match c.2.2.2.1 with|true=>some [RV.d tBD (if y7.1<(if y8.1<4611686018427387904 then y8.1 else 4611686018427387904)then y7.1 else(if y8.1<4611686018427387904 then y8.1 else 4611686018427387904),(if y7.2>(if y8.2> -4611686018427387904 then y8.2 else-4611686018427387904)then y7.2 else(if y8.2> -4611686018427387904 then y8.2 else-4611686018427387904),(if y9.1<(if y10.1<4611686018427387904 then y10.1 else 4611686018427387904)then y9.1 else(if y10.1<4611686018427387904 then y10.1 else 4611686018427387904),(if i64.wrap (((hid (y11.1)).2)+((hid ((sqF (hid (y12.1))).1)).2))>(if y9.2>(if y10.2> -4611686018427387904 then y10.2 else-4611686018427387904)then y9.2 else(if y10.2> -4611686018427387904 then y10.2 else-4611686018427387904))then i64.wrap (((hid (y11.1)).2)+((hid ((sqF (hid (y12.1))).1)).2))else(if y9.2>(if y10.2> -4611686018427387904 then y10.2 else-4611686018427387904)then y9.2 else(if y10.2> -4611686018427387904 then y10.2 else-4611686018427387904)),true))))]|false=>some [RV.d tBD (if y7.1<(if y8.1<4611686018427387904 then y8.1 else 4611686018427387904)then y7.1 else(if y8.1<4611686018427387904 then y8.1 else 4611686018427387904),(if y7.2>(if y8.2> -4611686018427387904 then y8.2 else-4611686018427387904)then y7.2 else(if y8.2> -4611686018427387904 then y8.2 else-4611686018427387904),(if i64.wrap (((hid (y11.1)).1)-((hid ((sqF (hid (y12.1))).1)).2))<(if y9.1<(if y10.1<4611686018427387904 then y10.1 else 4611686018427387904)then y9.1 else(if y10.1<4611686018427387904 then y10.1 else 4611686018427387904))then i64.wrap (((hid (y11.1)).1)-((hid ((sqF (hid (y12.1))).1)).2))else(if y9.1<(if y10.1<4611686018427387904 then y10.1 else 4611686018427387904)then y9.1 else(if y10.1<4611686018427387904 then y10.1 else 4611686018427387904)),(if y9.2>(if y10.2> -4611686018427387904 then y10.2 else-4611686018427387904)then y9.2 else(if y10.2> -4611686018427387904 then y10.2 else-4611686018427387904),true))))])))))))))))))))))))
theorem ag0(c:BCU):RT ahi 190 [.d tCU c] (DS c):=rtX
theorem aed{c:BCU}(h:okC 4000 c/\(c.1=true->bi c.2.2.1)):∃v:BDs,DS c=some [.d tBD v]:=by
 obtain⟨a,l,ci,w,f,t⟩:=c;obtain⟨⟨_,_,hf,ht⟩,hc⟩:=h;obtain⟨f,rfl,bf,rf⟩:=cM hf;obtain⟨t,rfl,bt,rt⟩:=cM ht;have q:∀r:Rat,prI (frF r).1:=RE.frF_pr;cases a
 ·unfold DS;simp only[aQ,da,bE,Nat.reduceLeDiff,aU];cases(aZ (xP f)).2<;>cases(aZ (yP f)).2<;>cases(aZ (xP t)).2<;>cases(aZ (yP t)).2<;>exact⟨_,rfl⟩
 ·obtain⟨l,rfl,bl,nl⟩:=b8 (hc rfl);unfold DS;simp only[aQ,da,dT (q _),bE,Nat.reduceLeDiff,aU];cases(aZ (xP f)).2<;>cases(aZ (yP f)).2<;>cases(aZ (xP t)).2<;>cases(aZ (yP t)).2<;>cases(frF l.2.1).2<;>cases(frF l.2.2).2<;>cases(sqF (frF l.2.2).1).2<;>cases w<;>exact⟨_,rfl⟩
def PL(c:BCU):BDs:=Classical.epsilon λv=>DS c=some [.d tBD v]
def ai2:Cn 190 [tCU]:=cn λ(c:BCU)=>lf (okC 4000 c/\(c.1=true->bi c.2.2.1)) [.d tBD (PL c)] λh=>by
 refine a8 HD (ag0 _ ?_);exact amq (aed h)
def XX(a b:BDs)(_k:KT):OLR:=match a.2.2.2.2 with|true=>(match b.2.2.2.2 with|true=>(match decide (a.2.1<b.1)with|true=>some [RV.d .bool true]|false=>(match decide (b.2.1<a.1)with|true=>some [RV.d .bool true]|false=>(match decide (a.2.2.2.1<b.2.2.1)with|true=>some [RV.d .bool true]|false=>some [RV.d .bool (decide (b.2.2.2.1<a.2.2.1))])))|false=>some [RV.d .bool false])|false=>some [RV.d .bool false]
def ah2:Cn 191 [tBD,tBD]:=cn λ(a b:BDs)=>lf True [.d .bool (Wa a b)] λ_=>by
 refine aA HD (XX a b) ⟨0,?_⟩;unfold XX Wa;cases a.2.2.2.2<;>cases b.2.2.2.2<;>cases decide (a.2.1<b.1)<;>cases decide (b.2.1<a.1)<;>cases decide (a.2.2.2.1<b.2.2.1)<;>rfl
def agG:Cn 184 [tCU,(.sl tP)]:=cn λ(c:BCU) (l:List BP)=>lf (vU c l) [.d (.sl tCU) ([c]),.d apE 0] λh=>by
 have e:CQq7 184 [.d tCU c,.d (.sl tP) l] [.d (.sl tCU) (oE c l),.d apE (Wh c l)]:=(Zn.g c l).h h.1;rw[(Jz h).1,(Jz h).2]at e;exact e
def P7:List En:=[enT ai2,enT ah2,enL ai8,enK agG]
def adw:NT:=[((139,8),{keep:=[0,3,19,20,21],hl:=99}),((139,27),{keep:=[0,3,6,36,37],hl:=99}),((139,41),{keep:=[0,3,6,7,36,37,40,41],hl:=99}),((139,69),{keep:=[6,11,85,86,87],hl:=99})]
def ahZ:Ctx:=CX (ens P7) adw
def YL(c:BO3):OLR:=og (decide (okC 4000 (loM c)/\((loM c).1=true->bi (loM c).2.2.1))) (og (decide (okC 4000 (upM c)/\((upM c).1=true->bi (upM c).2.2.1))) (match Wa (hid (PL (upM c))) (hid (PL (loM c)))with|true=>(og (decide (vU (loM c) ([]))) (og (decide (vU (upM c) ([]))) (some [RV.new 75 tCU ([(loM c),(upM c)])])))|false=>(og (decide (fU (upM c) (loM c))) (dup (.b (.b .l .l) .l) (og (decide ((mn (upM c) (loM c)).length*320<=140737488355328/\(mn (upM c) (loM c)).length<=140737488355328)) (og (decide ((mn (upM c) (loM c)).length*320<=140737488355328/\(mn (upM c) (loM c)).length<=140737488355328)) (og (decide (vU (loM c) (mn (upM c) (loM c)))) (og (decide (vU (upM c) (mn (upM c) (loM c)))) (some [RV.new 75 tCU ([(loM c),(upM c)])])))))))))
theorem ahK(c:BO3):RT ahZ 139 [.d (.sl tCU) ([loM c,upM c])] (YL c):=rtX
def af5:Cn 139 [(.sl tCU)]:=cn λ(l:List BCU)=>lf (lX l) [.new 75 tCU l] λh=>by
 obtain⟨c,hc,rfl⟩:=h;obtain⟨e1,e2,e3,e4,hp,hl⟩:=Uz hc;refine a8 P7 (ahK c ?_);unfold YL;simp only[da];have b1:okC 4000 (loM c)/\((loM c).1=true->bi (loM c).2.2.1):=⟨e3.1.1,λ_=>hc⟩
 have b2:okC 4000 (upM c)/\((upM c).1=true->bi (upM c).2.2.1):=⟨e4.1.1,λ_=>hc⟩
 have b3:(mn (upM c) (loM c)).length*320<=140737488355328/\(mn (upM c) (loM c)).length<=140737488355328:=by omega
 rw[dT b1,dT b2,dT e1,dT e2,dT e3,dT e4,dT hp,dT b3];cases Wa (hid (PL (upM c))) (hid (PL (loM c)))<;>rfl
end
section
open RE
def adT(r s:Rt):Rt:=coR (r.1+s.1) (r.2.1+s.2.1) (gJ r s)
def jf(c:BCU):Int:=bif c.2.2.2.1 then 1 else-1
def K4(c:BCU)(p:BP):Prop:=∃x,bi x/\(c=loM x\/c=upM x)/\p=enc (dS (dec x))
instance (c:BCU) (p:BP):Decidable (K4 c p):=Classical.propDecidable _
def CF(c d:BCU):Prop:=∃x,bi x/\(c=loM x\/c=upM x)/\(d=loM x\/d=upM x)
instance (c d:BCU):Decidable (CF c d):=Classical.propDecidable _
def sd(c d:BCU):Int:=bif decide (jf c<jf d)then-1 else bif decide (jf c>jf d)then 1 else 0
theorem ahq{c:Ln}:yP (dS c)=(c.2.1,0,0):=by
 rw[gZ.1];unfold cd l7 yP;cases dP c.2.2
 ·rfl
 ·show coR (c.2.1+0*rtQ c.2.2) 0 0=_;rw[apg,Rat.add_zero];rfl
def LR:Cn 249 [(.int .u64)]:=cn λ(x:Int)=>lf (x=2) [.d apE 2] λh=>by
 subst h;exact a8 [] (N:=[]) ((rtX:RT (CX (ens []) []) 249 [.d (.int .u64) (2:Int)] (some [.d apE (2:Int)])) rfl)
def Qv:List En:=[]
def ahl:Ctx:=CX (ens Qv) []
def aaw(x:SLp):OLR:=match x.1==2 with|true=>none|false=>some [RV.d apE x.1]
theorem ajO(x:SLp):RT ahl 330 [.d qz x,.dead] (aaw x):=rtX
def agi:CG (CQq7 330) [qz] (·++[.dead]):=λ(x:SLp)=>lf (x.1≠2) [.d apE x.1] λh=>by
 refine a8 Qv (ajO x ?_);unfold aaw;rw[show(x.1==2)=false from amT.2 h]
def MI:List En:=[⟨85,fS,dX⟩,⟨46,jJ,fq⟩,⟨260,nN,jn⟩,enL In]
def aeA:NT:=[((333,3),{keep:=[2,3,4,11],hl:=0})]
def akG:Ctx:=CX (ens MI) aeA
def Xc(r s:BO3)(_k:KT):OLR:=og (o1 r.2.1) (match(aD (ag r.2.1) 0)==0 with|true=>(og (o2 r.1 s.1) (og (o2 r.2.1 s.2.1) (og (decide (okR (hAd r.1 s.1)/\okR (hAd r.2.1 s.2.1)/\okR s.2.2)) (some [RV.d tO (hid (enc (coR (ag (hAd r.1 s.1)) (ag (hAd r.2.1 s.2.1)) (ag s.2.2)))),RV.d apE 0]))))|false=>(og (o1 s.2.1) (match(aD (ag s.2.1) 0)==0 with|true=>(og (o2 r.1 s.1) (og (o2 r.2.1 s.2.1) (og (decide (okR (hAd r.1 s.1)/\okR (hAd r.2.1 s.2.1)/\okR r.2.2)) (some [RV.d tO (hid (enc (coR (ag (hAd r.1 s.1)) (ag (hAd r.2.1 s.2.1)) (ag r.2.2)))),RV.d apE 0]))))|false=>(og (o2 r.2.2 s.2.2) (match !((aD (ag r.2.2) (ag s.2.2))==0)with|true=>some [RV.d tO (((false,[]),(false,[])),(((false,[]),(false,[])),((false,[]),(false,[])))),RV.d apE 1]|false=>(og (o2 r.1 s.1) (og (o2 r.2.1 s.2.1) (og (decide (okR (hAd r.1 s.1)/\okR (hAd r.2.1 s.2.1)/\okR r.2.2)) (some [RV.d tO (hid (enc (coR (ag (hAd r.1 s.1)) (ag (hAd r.2.1 s.2.1)) (ag r.2.2)))),RV.d apE 0])))))))))
theorem ahA(r s:BO3):RS akG 333 [.d tO r,.d tO s] (Xc r s):=rsX
def akn:Cn 333 [tO,tO]:=cn λ(r s:BO3)=>lf (okT 15000 r/\okT 15000 s/\(dec s:Rt).2.1=0) [.d tO (enc (adT (dec r) (dec s))),.d apE 0] λh=>by
 refine a8 MI (ahA _ _ ⟨0,?_⟩);obtain⟨hr,hs,h0⟩:=h;obtain⟨r,rfl,br,rr⟩:=iE hr;obtain⟨s,rfl,bs,rs⟩:=iE hs;rw[au]at h0;unfold Xc adT gJ;simp only[aQ,au,dT h0,bE,Nat.reduceAdd,Nat.reduceLeDiff,ao];by_cases h1:r.2.1=0
 ·rw[dT h1];rfl
 ·rw[dF h1];rfl
def acq:List En:=[⟨85,fS,dX⟩,enL X2]
def W2(r:BO3)(_k:KT):OLR:=match decide (okR r.1)with|true=>(match decide (okR r.2.1)with|true=>(match(aD (ag r.2.1) 0)==0 with|true=>some [RV.d apE (aD (ag r.1) 0)]|false=>(match(aD (ag r.1) 0)==(aD (ag r.2.1) 0)with|true=>some [RV.d apE (aD (ag r.1) 0)]|false=>(match(aD (ag r.1) 0)==0 with|true=>some [RV.d apE (aD (ag r.2.1) 0)]|false=>(match decide (ok Rt 15000 r)with|true=>(match decide (okR (hid (am (noR (dec r)))))with|true=>some [RV.d apE (i64.wrap ((aD (ag r.1) 0)*(aD (ag (hid (am (noR (dec r))))) 0)))]|false=>none)|false=>none))))|false=>none)|false=>none
def ajb:Cn 362 [tO]:=cn λ(r:BO3)=>lf (okT 15000 r) [.d apE (sgR (dec r))] λh=>by
 refine aA acq (W2 r) ⟨0,?_⟩;have hr:=h;obtain⟨r,rfl,br,rr⟩:=iE hr;unfold W2;simp only[aQ,au,sB,C5,lO,eA,okd,qA,Nat.reduceAdd,Nat.reduceMul,Nat.reduceLeDiff,Bt (lM _ _) (lM _ _)];rw[WI rr];cases aD r.2.1 0==0
 ·cases aD r.1 0==aD r.2.1 0
  ·cases aD r.1 0==0<;>rfl
  ·rfl
 ·rfl
def RM:List En:=[enT ajb,enL X2,⟨332,ya,tw⟩,⟨47,io,eL⟩,⟨141,nE,jB⟩,⟨261,jC,fC⟩,enL In]
def aaJ:NT:=[((334,21),{keep:=[1,2,3,4,21,22,23,24,25,26,27,28,29,30],hl:=0})]
def afM:Ctx:=CX (ens RM) aaJ
def XE(r:BO3)(_k:KT):OLR:=og (decide (okT 15000 r)) (match(sgR (dec r))==0 with|true=>some [RV.d tO (((false,[]),(false,[])),(((false,[]),(false,[])),((false,[]),(false,[])))),RV.d apE 6]|false=>(og (decide (aR (1:Int))) (og (decide (ok Rt 15000 r)) (og (decide (kV (hid (am ((1:Int):Rat))) (hid (am (noR (dec r)))))) (match 0 !=0 with|true=>some [RV.d tO (((false,[]),(false,[])),(((false,[]),(false,[])),((false,[]),(false,[])))),RV.d apE 0]|false=>(og (o1 r.2.1) (og (o2 r.1 (hDi (hid (am ((1:Int):Rat))) (hid (am (noR (dec r)))))) (og (o2 (hNe r.2.1) (hDi (hid (am ((1:Int):Rat))) (hid (am (noR (dec r)))))) (og (decide (okR (hMu r.1 (hDi (hid (am ((1:Int):Rat))) (hid (am (noR (dec r))))))/\okR (hMu (hNe r.2.1) (hDi (hid (am ((1:Int):Rat))) (hid (am (noR (dec r))))))/\okR r.2.2)) none)))))))))
theorem afj(r:BO3):RS afM 334 [.d tO r] (XE r):=rsX
def ajD:Cn 334 [tO]:=cn λ(r:BO3)=>lf (okT 15000 r/\sgR (dec r)=0) [.d tO z3,.d apE 6] λh=>by
 refine a8 RM (afj _ ⟨0,?_⟩);unfold XE z3;rw[dT h.1,h.2];rfl
def abB:List En:=[enL Vw,enL V8,enL E0,enL akn,enL ajD,⟨141,nE,jB⟩,⟨332,ya,tw⟩,⟨85,fS,dX⟩]
def Xp(c:BCU)(p:BP)(_k:KT):OLR:=match !c.1 with|true=>(og (o1 c.2.1.2.1) (match(aD (ag c.2.1.2.1) 0)==0 with|true=>some [RV.d qz (2,(((false,[]),(false,[])),(((false,[]),(false,[])),((false,[]),(false,[])))))]|false=>(og (o1 c.2.1.1) (og (decide (kV (hNe c.2.1.1) c.2.1.2.1)) (og (o1 (hDi (hNe c.2.1.1) c.2.1.2.1)) (some [RV.d qz (0,hid (enc ((ag (hDi (hNe c.2.1.1) c.2.1.2.1),0,0):Rt)))]))))))|false=>(og (decide (okP 4000 p)) (og (o1 c.2.2.1.1) (og (o1 (hNe c.2.2.1.1)) (og (decide (okT 15000 (hid (enc (xP (dec p))))/\okT 15000 (hid (enc ((ag (hNe c.2.2.1.1),0,0):Rt)))/\(dec (hid (enc ((ag (hNe c.2.2.1.1),0,0):Rt))):Rt).2.1=0)) (og (decide (okP 4000 p)) (og (o1 c.2.2.1.2.1) (og (o1 (hNe c.2.2.1.2.1)) (og (decide (okT 15000 (hid (enc (yP (dec p))))/\okT 15000 (hid (enc ((ag (hNe c.2.2.1.2.1),0,0):Rt)))/\(dec (hid (enc ((ag (hNe c.2.2.1.2.1),0,0):Rt))):Rt).2.1=0)) (og (decide (okT 15000 (hid (enc (adT (dec (hid (enc (yP (dec p))))) (dec (hid (enc ((ag (hNe c.2.2.1.2.1),0,0):Rt)))))))/\sgR (dec (hid (enc (adT (dec (hid (enc (yP (dec p))))) (dec (hid (enc ((ag (hNe c.2.2.1.2.1),0,0):Rt))))))))=0)) (match 6 !=0 with|true=>(match c.2.2.2.1 with|true=>some [RV.d qz (1,(((false,[]),(false,[])),(((false,[]),(false,[])),((false,[]),(false,[])))))]|false=>some [RV.d qz (-1,(((false,[]),(false,[])),(((false,[]),(false,[])),((false,[]),(false,[])))))])|false=>dup (.b .l .l) (none)))))))))))
def ag4:Cn 299 [tCU,tP]:=cn λ(c:BCU) (p:BP)=>lf (K4 c p) [.d qz (jf c,z3)] λh=>by
 refine aA abB (Xp c p) ⟨0,?_⟩;obtain⟨x,hx,hc,rfl⟩:=h;obtain⟨o1,_⟩:=qQ hx;obtain⟨l,rfl,bl,h0⟩:=b8 hx;have ey:=ahq (c:=l);obtain⟨v,e,bv,rv⟩:=cM o1;rw[au]at e;have e:=congrArg (dec:BP->Pt) e;rw[au,au]at e;subst e;have k:∀{c:BCU},c=loM (enc l)\/c=upM (enc l)->c.1=true/\c.2.2.1=enc l:=by rintro c (rfl|rfl)<;>exact⟨rfl,rfl⟩
 obtain⟨k1,k2⟩:=k hc
 have ea:adT (yP (dS l)) (-l.2.1,0,0)=(0,0,0):=by
  rw[ey];unfold adT gJ coR;rw[show l.2.1+ -l.2.1=0 by grind];show(bif decide ((0:Rat)+0=0)then _ else _)=_;rw[Rat.add_zero,amh rfl];rfl
 have b0:Bd (0:Rat) 3:=dZ (n:=0) (by decide);have s0:sgR ((0,0,0):Rt)=0:=rfl;have b3:Bd ((0,0,0):Rt) 3:=inferInstanceAs (Bd ((0:Rat),(0:Rat),(0:Rat)) 3);have r0:Rdd ((0,0,0):Rt):=⟨.inl ⟨rfl,rfl⟩⟩
 unfold Xp z3 jf;rw[k1,k2];simp only[aQ,au,bE,aG,Nat.reduceLeDiff,aP,aU,ao];have e3:∀a:Rat,((am a,am 0,am 0):BO3)=enc ((a,0,0):Rt):=λ_=>rfl;have d3:∀a:Rat,Rdd ((a,0,0):Rt):=λ_=>inferInstance;have t1:okT 15000 (enc ((-l.1,0,0):Rt)):=amj (aP (x:=(-l.1,0,0)) (j:=4) (by decide) (by decide));have t2:okT 15000 (enc ((-l.2.1,0,0):Rt)):=amj (aP (x:=(-l.2.1,0,0)) (j:=4) (by decide) (by decide));have t3:okT 15000 (enc ((0,0,0):Rt)):=amj (aP (x:=(0,0,0)) (j:=3) (by decide) (by decide));simp only[e3];simp only[au,ea,s0,dT t1,dT t2,dT t3,decide_true,anD];cases c.2.2.2.1<;>rfl
def RB:List En:=[enT zP,enT sO,enL ag4,⟨46,jJ,fq⟩,enT I4,enL In,enC agi]
def aem:NT:=[((187,14),{keep:=[2,3,19],hl:=0}),((247,11),{keep:=[2,3,4,5,12,13,14,15,16,17,18,19,20,21,22],hl:=0}),((298,44),{keep:=[60],hl:=0})]
def afn:Ctx:=CX (ens RB) aem
def W9(c d:BCU):OLR:=og (decide (okP 4000 c.2.2.2.2.1/\okP 4000 d.2.2.2.2.1)) (match(aB (dec c.2.2.2.2.1) (dec d.2.2.2.2.1)) !=0 with|true=>some [RV.d apE (aB (dec c.2.2.2.2.1) (dec d.2.2.2.2.1))]|false=>(og (decide (okP 4000 c.2.2.2.2.1/\okP 4000 d.2.2.2.2.1)) (match !(aB (dec c.2.2.2.2.1) (dec d.2.2.2.2.1)==0)with|true=>(og (decide (okP 4000 c.2.2.2.2.2/\okP 4000 d.2.2.2.2.2)) (some [RV.d apE (aB (dec c.2.2.2.2.2) (dec d.2.2.2.2.2))]))|false=>(og (decide (K4 c c.2.2.2.2.1)) (og (decide (K4 d d.2.2.2.2.1)) (og (decide ((hid ((jf c,z3))).1≠2)) (og (decide ((hid ((jf d,z3))).1≠2)) (match decide (((hid ((jf c,z3))).1)<((hid ((jf d,z3))).1))with|true=>some [RV.d apE (-1)]|false=>(match decide (((hid ((jf c,z3))).1)>((hid ((jf d,z3))).1))with|true=>some [RV.d apE 1]|false=>(match((hid ((jf c,z3))).1)==2 with|true=>(og (decide (okP 4000 c.2.2.2.2.2/\okP 4000 d.2.2.2.2.2)) (some [RV.d apE (aB (dec c.2.2.2.2.2) (dec d.2.2.2.2.2))]))|false=>(match((hid ((jf c,z3))).1) !=0 with|true=>(og (o2 c.2.2.1.2.2 d.2.2.1.2.2) (match(i64.wrap (((hid ((jf c,z3))).1)*(aD (ag c.2.2.1.2.2) (ag d.2.2.1.2.2)))) !=0 with|true=>some [RV.d apE (i64.wrap (((hid ((jf c,z3))).1)*(aD (ag c.2.2.1.2.2) (ag d.2.2.1.2.2))))]|false=>(og (decide (okP 4000 c.2.2.2.2.2/\okP 4000 d.2.2.2.2.2)) (some [RV.d apE (aB (dec c.2.2.2.2.2) (dec d.2.2.2.2.2))]))))|false=>(og (decide (okT 15000 ((hid ((jf c,z3))).2)/\okT 15000 ((hid ((jf d,z3))).2))) (og ((bQ (dec ((hid ((jf c,z3))).2)) (dec ((hid ((jf d,z3))).2))) !=0) (match(i64.wrap (1*(bQ (dec ((hid ((jf c,z3))).2)) (dec ((hid ((jf d,z3))).2))))) !=0 with|true=>some [RV.d apE (i64.wrap (1*(bQ (dec ((hid ((jf c,z3))).2)) (dec ((hid ((jf d,z3))).2)))))]|false=>(og (decide (okP 4000 c.2.2.2.2.2/\okP 4000 d.2.2.2.2.2)) (some [RV.d apE (aB (dec c.2.2.2.2.2) (dec d.2.2.2.2.2))]))))))))))))))))
theorem ah7(c d:BCU):RT afn 187 [.d tCU c,.d tCU d] (W9 c d):=rtX
def XA:Cn 187 [tCU,tCU]:=cn λ(c d:BCU)=>lf (CF c d) [.d apE (sd c d)] λh=>by
 refine a8 RB (ah7 _ _ ?_);obtain⟨x,hx,hc,hd⟩:=h;obtain⟨w1,w2,z1,z2,_,_⟩:=qQ hx
 have k:∀{d:BCU},d=loM x\/d=upM x->d.2.2.2.2.1=enc (dS (dec x))/\d.2.2.2.2.2=enc (eu (dec x))/\d.2.2.1=x/\(jf d= -1\/jf d=1):=by
  rintro d (rfl|rfl)
  ·exact⟨rfl,rfl,rfl,.inl rfl⟩
  ·exact⟨rfl,rfl,rfl,.inr rfl⟩
 obtain⟨c1,c2,c3,c4⟩:=k hc;obtain⟨d1,d2,d3,d4⟩:=k hd;have ac:K4 c (enc (dS (dec x))):=⟨x,hx,hc,rfl⟩
 have ad:K4 d (enc (dS (dec x))):=⟨x,hx,hd,rfl⟩
 have hq:o2 x.2.2 x.2.2=true:=by
  obtain⟨l,rfl,bl,_⟩:=b8 hx;have:okR (enc l).2.2:=amj (qA (q:=l.2.2) (j:=13) (by decide));exact dT ⟨this,this⟩
 have q0:aD (ag x.2.2) (ag x.2.2)=0:=by unfold aD;simp
 unfold W9 sd;simp only[aQ];rw[c1,d1,c2,d2,c3,d3,dT (show okP 4000 (enc (dS (dec x)))/\okP 4000 (enc (dS (dec x))) from⟨w1,w1⟩),dT (show okP 4000 (enc (eu (dec x)))/\okP 4000 (enc (eu (dec x))) from⟨w2,w2⟩),z1,z2,dT ac,dT ad,hq,q0];rcases c4 with e|e<;>rcases d4 with e'|e'<;>rw[e,e']<;>rfl
end
section
open RE
abbrev fF:Ty:=.st (.pair tP (.pair apE .bool))
def uM(l:List BCU):Prop:=∃c,bi c/\l=[loM c,hiM c]
instance (l:List BCU):Decidable (uM l):=Classical.propDecidable _
def cj(l:List BCU)(i:Nat):BP:=match l with
 |c::_=>match i with
  |0=>c.2.2.2.2.1
  |_=>c.2.2.2.2.2
 |[]=>p00
def cwP(l:List BCU):Bool:=match l with
 |_::d::_=>d.2.2.2.1
 |_=>false
theorem CM{c:BO3}(h:bi c):kC (loM c)=loM c/\kC (hiM c)=upM c:=by
 obtain⟨_,_,_,_,z3,z4⟩:=qQ h;constructor
 ·unfold kC;rw[show aB (dec (loM c).2.2.2.2.1) (dec (loM c).2.2.2.2.2)= -1 from z3];rfl
 ·unfold kC;rw[show aB (dec (hiM c).2.2.2.2.1) (dec (hiM c).2.2.2.2.2)=1 from z4];rfl
def Gj:List En:=[enT zP]
def ab2:NT:=[((135,8),{keep:=[3,6,7,8],hl:=99}),((240,6),{keep:=[0,1,2,6,7,8],hl:=99}),((290,3),{keep:=[0,1,2,3,8],hl:=99}),((290,15),{keep:=[0,1,2,3,8,9],hl:=99}),((240,22),{keep:=[0,1,2,6],hl:=99}),((135,22),{keep:=[3],hl:=0}),((179,0),{keep:=[],hl:=0}),((240,20),{keep:=[0,1,2,6],hl:=0}),((290,18),{keep:=[0,1,2,3,8,9,18,19,20,21,22,23,24,25,26,27,28,29,30,31,32,33,34],hl:=0})]
def agP:Ctx:=CX (ens Gj) ab2
def SP(a b:BCU):OLR:=og (decide (okP 4000 a.2.2.2.2.2/\okP 4000 a.2.2.2.2.1)) (match decide ((aB (dec a.2.2.2.2.2) (dec a.2.2.2.2.1))<0)with|true=>(og (decide (okP 4000 b.2.2.2.2.1/\okP 4000 a.2.2.2.2.1)) (match decide ((aB (dec b.2.2.2.2.1) (dec a.2.2.2.2.1))<0)with|true=>(og (decide (okP 4000 b.2.2.2.2.1/\okP 4000 a.2.2.2.2.2)) (match decide ((aB (dec b.2.2.2.2.1) (dec a.2.2.2.2.2))<0)with|true=>(og (decide (okP 4000 b.2.2.2.2.2/\okP 4000 a.2.2.2.2.1)) (match decide ((aB (dec b.2.2.2.2.2) (dec a.2.2.2.2.1))<0)with|true=>(og (decide (okP 4000 b.2.2.2.2.2/\okP 4000 a.2.2.2.2.2)) (match decide ((aB (dec b.2.2.2.2.2) (dec a.2.2.2.2.2))<0)with|true=>(og (decide (okP 4000 b.2.2.2.2.2/\okP 4000 b.2.2.2.2.1)) (match decide ((aB (dec b.2.2.2.2.2) (dec b.2.2.2.2.1))<0)with|true=>some [RV.new 177 fF ([(b.2.2.2.2.2,(1,false)),(b.2.2.2.2.1,(1,true)),(a.2.2.2.2.2,(0,false)),(a.2.2.2.2.1,(0,true))])]|false=>some [RV.new 177 fF ([(b.2.2.2.2.1,(1,true)),(b.2.2.2.2.2,(1,false)),(a.2.2.2.2.2,(0,false)),(a.2.2.2.2.1,(0,true))])]))|false=>some [RV.new 177 fF ([(b.2.2.2.2.1,(1,true)),(a.2.2.2.2.2,(0,false)),(b.2.2.2.2.2,(1,false)),(a.2.2.2.2.1,(0,true))])]))|false=>some [RV.new 177 fF ([(b.2.2.2.2.1,(1,true)),(a.2.2.2.2.2,(0,false)),(a.2.2.2.2.1,(0,true)),(b.2.2.2.2.2,(1,false))])]))|false=>(og (decide (okP 4000 b.2.2.2.2.2/\okP 4000 a.2.2.2.2.1)) (match decide ((aB (dec b.2.2.2.2.2) (dec a.2.2.2.2.1))<0)with|true=>(og (decide (okP 4000 b.2.2.2.2.2/\okP 4000 b.2.2.2.2.1)) (match decide ((aB (dec b.2.2.2.2.2) (dec b.2.2.2.2.1))<0)with|true=>(og (decide (okP 4000 b.2.2.2.2.2/\okP 4000 a.2.2.2.2.2)) (match decide ((aB (dec b.2.2.2.2.2) (dec a.2.2.2.2.2))<0)with|true=>some [RV.new 177 fF ([(b.2.2.2.2.2,(1,false)),(a.2.2.2.2.2,(0,false)),(b.2.2.2.2.1,(1,true)),(a.2.2.2.2.1,(0,true))])]|false=>some [RV.new 177 fF ([(a.2.2.2.2.2,(0,false)),(b.2.2.2.2.2,(1,false)),(b.2.2.2.2.1,(1,true)),(a.2.2.2.2.1,(0,true))])]))|false=>some [RV.new 177 fF ([(a.2.2.2.2.2,(0,false)),(b.2.2.2.2.1,(1,true)),(b.2.2.2.2.2,(1,false)),(a.2.2.2.2.1,(0,true))])]))|false=>some [RV.new 177 fF ([(a.2.2.2.2.2,(0,false)),(b.2.2.2.2.1,(1,true)),(a.2.2.2.2.1,(0,true)),(b.2.2.2.2.2,(1,false))])]))))|false=>(og (decide (okP 4000 b.2.2.2.2.2/\okP 4000 b.2.2.2.2.1)) (match decide ((aB (dec b.2.2.2.2.2) (dec b.2.2.2.2.1))<0)with|true=>(og (decide (okP 4000 b.2.2.2.2.2/\okP 4000 a.2.2.2.2.1)) (match decide ((aB (dec b.2.2.2.2.2) (dec a.2.2.2.2.1))<0)with|true=>(og (decide (okP 4000 b.2.2.2.2.2/\okP 4000 a.2.2.2.2.2)) (match decide ((aB (dec b.2.2.2.2.2) (dec a.2.2.2.2.2))<0)with|true=>some [RV.new 177 fF ([(b.2.2.2.2.2,(1,false)),(a.2.2.2.2.2,(0,false)),(a.2.2.2.2.1,(0,true)),(b.2.2.2.2.1,(1,true))])]|false=>some [RV.new 177 fF ([(a.2.2.2.2.2,(0,false)),(b.2.2.2.2.2,(1,false)),(a.2.2.2.2.1,(0,true)),(b.2.2.2.2.1,(1,true))])]))|false=>some [RV.new 177 fF ([(a.2.2.2.2.2,(0,false)),(a.2.2.2.2.1,(0,true)),(b.2.2.2.2.2,(1,false)),(b.2.2.2.2.1,(1,true))])]))|false=>some [RV.new 177 fF ([(a.2.2.2.2.2,(0,false)),(a.2.2.2.2.1,(0,true)),(b.2.2.2.2.1,(1,true)),(b.2.2.2.2.2,(1,false))])]))))|false=>(og (decide (okP 4000 b.2.2.2.2.1/\okP 4000 a.2.2.2.2.2)) (match decide ((aB (dec b.2.2.2.2.1) (dec a.2.2.2.2.2))<0)with|true=>(og (decide (okP 4000 b.2.2.2.2.1/\okP 4000 a.2.2.2.2.1)) (match decide ((aB (dec b.2.2.2.2.1) (dec a.2.2.2.2.1))<0)with|true=>(og (decide (okP 4000 b.2.2.2.2.2/\okP 4000 a.2.2.2.2.2)) (match decide ((aB (dec b.2.2.2.2.2) (dec a.2.2.2.2.2))<0)with|true=>(og (decide (okP 4000 b.2.2.2.2.2/\okP 4000 a.2.2.2.2.1)) (match decide ((aB (dec b.2.2.2.2.2) (dec a.2.2.2.2.1))<0)with|true=>(og (decide (okP 4000 b.2.2.2.2.2/\okP 4000 b.2.2.2.2.1)) (match decide ((aB (dec b.2.2.2.2.2) (dec b.2.2.2.2.1))<0)with|true=>some [RV.new 177 fF ([(b.2.2.2.2.2,(1,false)),(b.2.2.2.2.1,(1,true)),(a.2.2.2.2.1,(0,true)),(a.2.2.2.2.2,(0,false))])]|false=>some [RV.new 177 fF ([(b.2.2.2.2.1,(1,true)),(b.2.2.2.2.2,(1,false)),(a.2.2.2.2.1,(0,true)),(a.2.2.2.2.2,(0,false))])]))|false=>some [RV.new 177 fF ([(b.2.2.2.2.1,(1,true)),(a.2.2.2.2.1,(0,true)),(b.2.2.2.2.2,(1,false)),(a.2.2.2.2.2,(0,false))])]))|false=>some [RV.new 177 fF ([(b.2.2.2.2.1,(1,true)),(a.2.2.2.2.1,(0,true)),(a.2.2.2.2.2,(0,false)),(b.2.2.2.2.2,(1,false))])]))|false=>(og (decide (okP 4000 b.2.2.2.2.2/\okP 4000 a.2.2.2.2.2)) (match decide ((aB (dec b.2.2.2.2.2) (dec a.2.2.2.2.2))<0)with|true=>(og (decide (okP 4000 b.2.2.2.2.2/\okP 4000 b.2.2.2.2.1)) (match decide ((aB (dec b.2.2.2.2.2) (dec b.2.2.2.2.1))<0)with|true=>(og (decide (okP 4000 b.2.2.2.2.2/\okP 4000 a.2.2.2.2.1)) (match decide ((aB (dec b.2.2.2.2.2) (dec a.2.2.2.2.1))<0)with|true=>some [RV.new 177 fF ([(b.2.2.2.2.2,(1,false)),(a.2.2.2.2.1,(0,true)),(b.2.2.2.2.1,(1,true)),(a.2.2.2.2.2,(0,false))])]|false=>some [RV.new 177 fF ([(a.2.2.2.2.1,(0,true)),(b.2.2.2.2.2,(1,false)),(b.2.2.2.2.1,(1,true)),(a.2.2.2.2.2,(0,false))])]))|false=>some [RV.new 177 fF ([(a.2.2.2.2.1,(0,true)),(b.2.2.2.2.1,(1,true)),(b.2.2.2.2.2,(1,false)),(a.2.2.2.2.2,(0,false))])]))|false=>some [RV.new 177 fF ([(a.2.2.2.2.1,(0,true)),(b.2.2.2.2.1,(1,true)),(a.2.2.2.2.2,(0,false)),(b.2.2.2.2.2,(1,false))])]))))|false=>(og (decide (okP 4000 b.2.2.2.2.2/\okP 4000 b.2.2.2.2.1)) (match decide ((aB (dec b.2.2.2.2.2) (dec b.2.2.2.2.1))<0)with|true=>(og (decide (okP 4000 b.2.2.2.2.2/\okP 4000 a.2.2.2.2.2)) (match decide ((aB (dec b.2.2.2.2.2) (dec a.2.2.2.2.2))<0)with|true=>(og (decide (okP 4000 b.2.2.2.2.2/\okP 4000 a.2.2.2.2.1)) (match decide ((aB (dec b.2.2.2.2.2) (dec a.2.2.2.2.1))<0)with|true=>some [RV.new 177 fF ([(b.2.2.2.2.2,(1,false)),(a.2.2.2.2.1,(0,true)),(a.2.2.2.2.2,(0,false)),(b.2.2.2.2.1,(1,true))])]|false=>some [RV.new 177 fF ([(a.2.2.2.2.1,(0,true)),(b.2.2.2.2.2,(1,false)),(a.2.2.2.2.2,(0,false)),(b.2.2.2.2.1,(1,true))])]))|false=>some [RV.new 177 fF ([(a.2.2.2.2.1,(0,true)),(a.2.2.2.2.2,(0,false)),(b.2.2.2.2.2,(1,false)),(b.2.2.2.2.1,(1,true))])]))|false=>some [RV.new 177 fF ([(a.2.2.2.2.1,(0,true)),(a.2.2.2.2.2,(0,false)),(b.2.2.2.2.1,(1,true)),(b.2.2.2.2.2,(1,false))])])))))
theorem Y7(a b:BCU):RT agP 135 [.d (.sl tCU) ([a,b])] (SP a b):=rtX
def afL:Cn 135 [(.sl tCU)]:=cn λ(l:List BCU)=>lf (uM l\/lX l) [.new 177 fF ([(cj l 0,(0,true)),(cj l 0,(1,cwP l)),(cj l 1,(0,false)),(cj l 1,(1,!cwP l))])] λh=>by
 have k:∀{p q},okP 4000 p->okP 4000 q->decide (okP 4000 p/\okP 4000 q)=true:=λh h'=>dT ⟨h,h'⟩;rcases h with⟨c,hc,rfl⟩|⟨c,hc,rfl⟩<;>obtain⟨o1,o2,z1,z2,z3,z4⟩:=qQ hc
 ·refine a8 Gj (Y7 (loM c) (hiM c) ?_);unfold SP;simp only[show(loM c).2.2.2.2.1=enc (dS (dec c)) from rfl,show(loM c).2.2.2.2.2=enc (eu (dec c)) from rfl,show(hiM c).2.2.2.2.1=enc (eu (dec c)) from rfl,show(hiM c).2.2.2.2.2=enc (dS (dec c)) from rfl,k o1 o1,k o1 o2,k o2 o1,k o2 o2,z1,z2,z3,z4];rfl
 ·refine a8 Gj (Y7 (loM c) (upM c) ?_);unfold SP;simp only[show(loM c).2.2.2.2.1=enc (dS (dec c)) from rfl,show(loM c).2.2.2.2.2=enc (eu (dec c)) from rfl,show(upM c).2.2.2.2.1=enc (dS (dec c)) from rfl,show(upM c).2.2.2.2.2=enc (eu (dec c)) from rfl,k o1 o1,k o1 o2,k o2 o1,k o2 o2,z1,z2,z3,z4];rfl
def Gk:List En:=[enK afL,enT sO]
def abQ:NT:=[((93,8),{keep:=[3,8,9,10],hl:=99})]
def afw:Ctx:=CX (ens Gk) abQ
def O3(l:List BCU):OLR:=og (decide (uM l\/lX l)) (og (decide (okP 4000 (cj l 0)/\okP 4000 (cj l 0))) (match aB (dec (cj l 0)) (dec (cj l 0))==0 with|true=>dup (.b .l .l) (og (decide (okP 4000 (cj l 0)/\okP 4000 (cj l 1))) (match aB (dec (cj l 0)) (dec (cj l 1))==0 with|true=>dup (.b .l .l) (og (decide (okP 4000 (cj l 0)/\okP 4000 (cj l 1))) (match aB (dec (cj l 0)) (dec (cj l 1))==0 with|true=>dup (.b .l .l) (some [RV.new 149 (.sl fF) [[(cj l 0,(0,true)),(cj l 0,(1,cwP l)),(cj l 1,(0,false)),(cj l 1,(1,!cwP l))]]])|false=>some [RV.new 149 (.sl fF) [[(cj l 0,(0,true)),(cj l 0,(1,cwP l)),(cj l 1,(0,false))],[(cj l 1,(1,!cwP l))]]]))|false=>(og (decide (okP 4000 (cj l 1)/\okP 4000 (cj l 1))) (match aB (dec (cj l 1)) (dec (cj l 1))==0 with|true=>dup (.b .l .l) (some [RV.new 149 (.sl fF) [[(cj l 0,(0,true)),(cj l 0,(1,cwP l))],[(cj l 1,(0,false)),(cj l 1,(1,!cwP l))]]])|false=>some [RV.new 149 (.sl fF) [[(cj l 0,(0,true)),(cj l 0,(1,cwP l))],[(cj l 1,(0,false))],[(cj l 1,(1,!cwP l))]]]))))|false=>(og (decide (okP 4000 (cj l 0)/\okP 4000 (cj l 1))) (match aB (dec (cj l 0)) (dec (cj l 1))==0 with|true=>dup (.b .l .l) (og (decide (okP 4000 (cj l 0)/\okP 4000 (cj l 1))) (match aB (dec (cj l 0)) (dec (cj l 1))==0 with|true=>dup (.b .l .l) (some [RV.new 149 (.sl fF) [[(cj l 0,(0,true))],[(cj l 0,(1,cwP l)),(cj l 1,(0,false)),(cj l 1,(1,!cwP l))]]])|false=>some [RV.new 149 (.sl fF) [[(cj l 0,(0,true))],[(cj l 0,(1,cwP l)),(cj l 1,(0,false))],[(cj l 1,(1,!cwP l))]]]))|false=>(og (decide (okP 4000 (cj l 1)/\okP 4000 (cj l 1))) (match aB (dec (cj l 1)) (dec (cj l 1))==0 with|true=>dup (.b .l .l) (some [RV.new 149 (.sl fF) [[(cj l 0,(0,true))],[(cj l 0,(1,cwP l))],[(cj l 1,(0,false)),(cj l 1,(1,!cwP l))]]])|false=>some [RV.new 149 (.sl fF) [[(cj l 0,(0,true))],[(cj l 0,(1,cwP l))],[(cj l 1,(0,false))],[(cj l 1,(1,!cwP l))]]]))))))
theorem ZN(l:List BCU):RT afw 93 [.d (.sl tCU) l] (O3 l):=rtX
def aeg:Cn 93 [(.sl tCU)]:=cn λ(l:List BCU)=>lf (uM l) [.d (.sl (.sl fF)) ([[(cj l 0,(0,true)),(cj l 0,(1,false))],[(cj l 1,(0,false)),(cj l 1,(1,true))]])] λh=>by
 obtain⟨c,hc,rfl⟩:=h;obtain⟨o1,o2,z1,z2,z3,z4⟩:=qQ hc;refine Con.new_d (et:=149) (a8 Gk (ZN _ ?_));have k:∀{p q},okP 4000 p->okP 4000 q->decide (okP 4000 p/\okP 4000 q)=true:=λh h'=>dT ⟨h,h'⟩;unfold O3;rw[dT (.inl ⟨c,hc,rfl⟩:uM _\/lX _)];simp only[da,show ∀d,cj [loM c,d] 0=enc (dS (dec c)) from λ_=>rfl,show ∀d,cj [loM c,d] 1=enc (eu (dec c)) from λ_=>rfl,k o1 o1,k o1 o2,k o2 o2,z1,z2,z3];rfl
def adm:Cn 93 [(.sl tCU)]:=cn λ(l:List BCU)=>lf (lX l) [.d (.sl (.sl fF)) ([[(cj l 0,(0,true)),(cj l 0,(1,true))],[(cj l 1,(0,false)),(cj l 1,(1,false))]])] λh=>by
 obtain⟨c,hc,rfl⟩:=h;obtain⟨o1,o2,z1,z2,z3,z4⟩:=qQ hc;refine Con.new_d (et:=149) (a8 Gk (ZN _ ?_));have k:∀{p q},okP 4000 p->okP 4000 q->decide (okP 4000 p/\okP 4000 q)=true:=λh h'=>dT ⟨h,h'⟩;unfold O3;rw[dT (.inr ⟨c,hc,rfl⟩:uM _\/lX _)];simp only[da,show ∀d,cj [loM c,d] 0=enc (dS (dec c)) from λ_=>rfl,show ∀d,cj [loM c,d] 1=enc (eu (dec c)) from λ_=>rfl,k o1 o1,k o1 o2,k o2 o2,z1,z2,z3];rfl
def Sj:List En:=[enT aae,enT XP]
def agW:Ctx:=CX (ens Sj) []
def XU(c d:BCU)(_k:KT):OLR:=match !(c.1==d.1)with|true=>some [RV.d .bool false]|false=>(match !(c.2.2.2.1==d.2.2.2.1)with|true=>some [RV.d .bool false]|false=>(match c.1 with|true=>(og (decide (bi c.2.2.1/\bi d.2.2.1)) (some [RV.d .bool (pE (dec c.2.2.1) (dec d.2.2.1))]))|false=>(og (decide (cK c.2.1/\cK d.2.1)) (some [RV.d .bool (pD (dec c.2.1) (dec d.2.1))]))))
theorem afB(c d:BCU):RS agW 188 [.d tCU c,.d tCU d] (XU c d):=rsX
def aj6:Cn 188 [tCU,tCU]:=cn λ(c d:BCU)=>lf (lX [c,d]\/lX [d,c]) [.d .bool false] λh=>by
 refine a8 Sj (afB _ _ ⟨0,?_⟩)
 have e:c.2.2.2.1=!d.2.2.2.1/\c.1=d.1:=by
  rcases h with⟨x,_,e⟩|⟨x,_,e⟩<;>(injection e with e1 e2;injection e2 with e2;rw[e1,e2];exact⟨rfl,rfl⟩)
 unfold XU;rw[e.1,e.2];cases d.1<;>cases d.2.2.2.1<;>rfl
def LO:List En:=[enT XA,enT LR]
def adC:NT:=[((248,5),{keep:=[0,1,2,3,4,10,11],hl:=99}),((296,3),{keep:=[0,1,2,3,8],hl:=99}),((296,15),{keep:=[0,1,2,3,8,9],hl:=99}),((138,10),{keep:=[0,3,4],hl:=99}),((138,22),{keep:=[0,3,4,5],hl:=99}),((138,3),{keep:=[0],hl:=0}),((189,2),{keep:=[1,7,8,11],hl:=0}),((248,14),{keep:=[],hl:=0})]
def ahB:Ctx:=CX (ens LO) adC
def X7(c:BO3):OLR:=og (decide ((2:Int)=2)) (og (decide (CF (upM c) (loM c))) (match decide ((sd (upM c) (loM c))<0)with|true=>none|false=>(og (decide (CF (loM c) (upM c))) (match(sd (loM c) (upM c))==0 with|true=>some [RV.new 75 tCU []]|false=>some [RV.new 75 tCU ([loM c,upM c])]))))
theorem afS(c:BO3):RT ahB 138 [.d (.sl tCU) ([loM c,upM c])] (X7 c):=rtX
def ahm:Cn 138 [(.sl tCU)]:=cn λ(l:List BCU)=>lf (lX l) [.new 75 tCU l] λh=>by
 obtain⟨c,hc,rfl⟩:=h;obtain⟨o1,o2,z1,z2,z3,z4⟩:=qQ hc;have q1:CF (upM c) (loM c):=⟨c,hc,.inr rfl,.inl rfl⟩
 have q2:CF (loM c) (upM c):=⟨c,hc,.inl rfl,.inr rfl⟩
 have v1:sd (upM c) (loM c)=1:=rfl;have v2:sd (loM c) (upM c)= -1:=rfl;refine a8 LO (afS c ?_);unfold X7;simp only[dT q1,dT q2,v1,v2];rfl
def S7:List En:=[enK adm,enT aj6,enT XA,enT LR]
def aa8:NT:=[((137,10),{keep:=[0,3,4,21,22],hl:=99}),((137,27),{keep:=[0,3,4,30,31,32],hl:=99}),((137,64),{keep:=[0,3,4,10,86,87,88],hl:=99}),((137,85),{keep:=[0,3,4,10,12,13,86,87,88],hl:=99}),((248,5),{keep:=[0,1,2,3,4,10,11],hl:=99}),((296,3),{keep:=[0,1,2,3,8],hl:=99}),((296,15),{keep:=[0,1,2,3,8,9],hl:=99}),((137,99),{keep:=[10],hl:=0}),((189,2),{keep:=[1,7,8,11],hl:=0}),((248,14),{keep:=[],hl:=0})]
def ajF:Ctx:=CX (ens S7) aa8
def ZS(c:BO3):OLR:=og (decide (lX ([loM c,upM c]))) (og (decide ((2:Int)=2)) (og (decide (CF (upM c) (loM c))) (match decide ((sd (upM c) (loM c))<0)with|true=>some [RV.new 75 tCU ([upM c,loM c])]|false=>some [RV.new 75 tCU ([loM c,upM c])])))
theorem ait(c:BO3):RT ajF 137 [.d (.sl tCU) ([loM c,upM c])] (ZS c):=rtX
def ajP:Cn 137 [(.sl tCU)]:=cn λ(l:List BCU)=>lf (lX l) [.new 75 tCU l] λh=>by
 obtain⟨c,hc,rfl⟩:=h;obtain⟨o1,o2,z1,z2,z3,z4⟩:=qQ hc;have q1:CF (upM c) (loM c):=⟨c,hc,.inr rfl,.inl rfl⟩
 have q2:CF (loM c) (upM c):=⟨c,hc,.inl rfl,.inr rfl⟩
 have v1:sd (upM c) (loM c)=1:=rfl;have v2:sd (loM c) (upM c)= -1:=rfl;have t1:lX [loM c,upM c]\/lX [upM c,loM c]:=.inl ⟨c,hc,rfl⟩;have t2:lX [upM c,loM c]\/lX [loM c,upM c]:=.inr ⟨c,hc,rfl⟩;have t3:lX [loM c,upM c]:=⟨c,hc,rfl⟩
 have e1:cj [loM c,upM c] 0=enc (dS (dec c)):=rfl;have e2:cj [loM c,upM c] 1=enc (eu (dec c)):=rfl;have k:∀{p q},okP 4000 p->okP 4000 q->decide (okP 4000 p/\okP 4000 q)=true:=λh h'=>dT ⟨h,h'⟩;refine a8 S7 (ait c ?_);unfold ZS;simp only[dT q1,dT t3,v1];rfl
def SA:List En:=[enT ahc,enT Yf,enT YB,enT sO,enT XY,⟨85,fS,dX⟩,⟨47,io,eL⟩]
def abn:NT:=[((92,17),{keep:=[1,27,30,33],hl:=0}),((133,3),{keep:=[1,5,6,9,11,14,16,19,21,24],hl:=0})]
def agu:Ctx:=CX (ens SA) abn
def aay(c:BCU)(_k:KT):OLR:=let y1:OLR:=match decide (okC 4000 c/\okP 4000 c.2.2.2.2.1)with|true=>(match du (dC c) (dec c.2.2.2.2.1)with|true=>(og (decide (okC 4000 c/\okP 4000 c.2.2.2.2.2)) (match du (dC c) (dec c.2.2.2.2.2)with|true=>(og (decide (okP 4000 c.2.2.2.2.1/\okP 4000 c.2.2.2.2.2)) (some [RV.d .bool (!(aB (dec c.2.2.2.2.1) (dec c.2.2.2.2.2)==0))]))|false=>some [RV.d .bool false]))|false=>some [RV.d .bool false])|false=>none;let y2:OLR:=match !c.1 with|true=>(match c.2.2.2.1 with|true=>some [RV.d .bool false]|false=>(og (o1 c.2.1.1) (og (o1 c.2.1.2.1) (og (o1 c.2.1.2.2) (og (o1 c.2.1.1) (match !((aD (ag c.2.1.1) 0)==0)with|true=>y1|false=>(og (o1 c.2.1.2.1) (match !(!((aD (ag c.2.1.2.1) 0)==0))with|true=>some [RV.d .bool false]|false=>y1))))))))|false=>y1;og (decide (okP 4000 c.2.2.2.2.1)) (og (decide (okP 4000 c.2.2.2.2.2)) (match c.1 with|true=>(og (decide (t6 c.2.2.1)) y2)|false=>y2))
theorem afT(c:BCU):RS agu 92 [.d tCU c] (aay c):=rsX
def ahJ:Cn 92 [tCU]:=cn λ(c:BCU)=>lf (vY c) [.d .bool true] λh=>by
 refine a8 SA (afT _ ⟨0,?_⟩);obtain⟨h1,g,h4,_⟩:=aac h;have s1:du (dC c) (dec c.2.2.2.2.1)=true:=g.2.1;have s2:du (dC c) (dec c.2.2.2.2.2)=true:=g.2.2.1;have s3:(aB (dec c.2.2.2.2.1) (dec c.2.2.2.2.2)==0)=false:=amT.2 g.2.2.2;unfold aay;simp only[dT h4.2.2.1,dT h4.2.2.2,h1,dT (h4.1 h1),s1,s2,s3,dT (show okC 4000 c/\okP 4000 c.2.2.2.2.1 from⟨h4,h4.2.2.1⟩),dT (show okC 4000 c/\okP 4000 c.2.2.2.2.2 from⟨h4,h4.2.2.2⟩),dT (show okP 4000 c.2.2.2.2.1/\okP 4000 c.2.2.2.2.2 from h4.2.2)];rfl
def PI:List En:=[enK ae3,enK af5,enK ahm,enK ajP]
def acf:NT:=[((94,8),{keep:=[3,6,7,8],hl:=99})]
def ajr:Ctx:=CX (ens PI) acf
def XD(c:BO3):OLR:=og (decide (vY (loM c))) (og (decide (vY (hiM c))) (og (decide (lX ([kC (loM c),kC (hiM c)]))) (og (decide (lX ([kC (loM c),kC (hiM c)]))) (og (decide (lX ([kC (loM c),kC (hiM c)]))) (some [RV.new 75 tCU ([kC (loM c),kC (hiM c)])])))))
theorem aj2(c:BO3):RT ajr 94 [.d (.sl tCU) ([loM c,hiM c])] (XD c):=rtX
def afb:Cn 94 [(.sl tCU)]:=cn λ(l:List BCU)=>lf (uM l) [.new 75 tCU (l.map kC)] λh=>by
 obtain⟨c,hc,rfl⟩:=h;have p:lX [kC (loM c),kC (hiM c)]:=⟨c,hc,by rw[(CM hc).1,(CM hc).2]⟩
 refine a8 PI (aj2 c ?_);unfold XD;rw[dT (show vY (loM c) from⟨hc,.inl rfl⟩),dT (show vY (hiM c) from⟨hc,.inr rfl⟩),dT p];rfl
def Nd:List En:=[enT ahJ,enK aeg,enK afb]
def acv:NT:=[((131,6),{keep:=[0,1,7,8],hl:=99}),((50,22),{keep:=[0,2,15,16,17],hl:=99}),((50,12),{keep:=[0,2,12],hl:=0}),((90,3),{keep:=[7],hl:=0}),((131,18),{keep:=[0,1,5,7,8,16],hl:=0})]
def aiv:Ctx:=CX (ens Nd) acv
def Zm(c:BO3):OLR:=og (decide (vY (loM c))) (og (decide (vY (hiM c))) (og (decide (uM ([loM c,hiM c]))) (og (decide (uM ([loM c,hiM c]))) (match decide (((([loM c,hiM c]).map kC).length:Int)>400)with|true=>some [RV.d (.st (.sl tCU)) ([]),RV.d apE 3]|false=>some [RV.d (.st (.sl tCU)) (([loM c,hiM c]).map kC),RV.d apE 0]))))
theorem aiD(c:BO3):RT aiv 50 [.d (.sl tCU) ([loM c,hiM c])] (Zm c):=rtX
def ake:Cn 50 [(.sl tCU)]:=cn λ(l:List BCU)=>lf (uM l) [.d (.st (.sl tCU)) (l.map kC),.d apE 0] λh=>by
 obtain⟨c,hc,rfl⟩:=h;obtain⟨o1,o2,z1,z2,z3,z4⟩:=qQ hc;have t3:uM [loM c,hiM c]:=⟨c,hc,rfl⟩
 have e1:cj [loM c,hiM c] 0=enc (dS (dec c)):=rfl;have e2:cj [loM c,hiM c] 1=enc (eu (dec c)):=rfl;have k:∀{p q},okP 4000 p->okP 4000 q->decide (okP 4000 p/\okP 4000 q)=true:=λh h'=>dT ⟨h,h'⟩;refine a8 Nd (aiD c ?_);unfold Zm;simp only[dT (show vY (loM c) from⟨hc,.inl rfl⟩),dT (show vY (hiM c) from⟨hc,.inr rfl⟩),dT t3];rfl
def Rb:List En:=[enT Yf,enL agM,enK ake]
def akQ:Ctx:=CX (ens Rb) []
def Wx(c:BO3)(_k:KT):OLR:=og (decide (t6 c)) (og (decide (bi c)) (og (decide (uM (Vb c))) (some [RV.d (.st (.sl tCU)) ((Vb c).map kC),RV.d apE 0])))
theorem af3(c:BO3):RS akQ 20 [.d tO c] (Wx c):=rsX
def agE:Cn 20 [tO]:=cn λ(c:BO3)=>lf (bi c) [.d (.st (.sl tCU)) ([loM c,upM c]),.d apE 0] λh=>by
 refine a8 Rb (af3 _ ⟨0,?_⟩);unfold Wx;rw[dT (show t6 c from(xI h).1.1.1.1 rfl),dT h,dT (show uM (Vb c) from⟨c,h,rfl⟩)];show some [RV.d (.st (.sl tCU)) [kC (loM c),kC (hiM c)],RV.d apE 0]=_;rw[(CM h).1,(CM h).2]
end
section
open RE
def jI(c:Cv)(p:Pt):Bool:=onR c p&&(!(aB (frC c) p==0)&&!(aB (toC c) p==0))
def K5(c:Cv):Bool:=!c.1&&(bQ (xP (frC c)) (xP (toC c))==0)
def oV(c:BCU):Int:=bif c.1 then(bif c.2.2.2.1 then-1 else 1)else 0
def ngR(r:Rt):Rt:=(-r.1,-r.2.1,r.2.2)
def ivR(r:Rt):Rt:=iJ (r.1*(1/noR r)) (-(r.2.1*(1/noR r))) r.2.2
theorem akN{r:Rt}(h:Rdd r)(h0:sgR r≠0):noR r≠0:=by
 obtain⟨a,b,c⟩:=r;unfold noR;intro e;rcases h.rd with⟨h1,h2⟩|⟨h1,h2,h3⟩
 ·have h1:b=0:=h1;have h2:c=0:=h2;have e:a*a-b*b*c=0:=e;rw[h1,apg,apg]at e;have:a*a=0:=by grind
  have:a=0:=by
   rcases apm.1 this with g|g<;>exact g
  rw[this,h1,h2]at h0;exact h0 rfl
 ·have h1:b≠0:=h1;have h3:dP c=false:=h3;have e:a*a-b*b*c=0:=e
  have:c=(a/b)*(a/b):=by
   have hb:b*b≠0:=λg=>by rcases apm.1 g with g|g<;>exact h1 g
   grind
  rw[this,Jm]at h3;cases h3
theorem abW{x y:Rt}(hx:Rdd x)(hy:Rdd y)(h:vR x=vR y):(bQ x y==0)=true:=by
 rw[cmpT_re hx.nn hy.nn,h,sub_self,fe];rfl
def gW(c:BCU):Prop:=mG c/\du (dC c) (frC (dC c))=true/\du (dC c) (toC (dC c))=true
theorem qM{c:BCU}(h:gdN c):gW c:=⟨h.1,h.2.1,h.2.2.1⟩
theorem akr{c:BCU}(h:gW c)(ha:c.1=false)(hv:K5 (dC c)=false):(dec c.2.1:Ln).2.1≠0:=by
 intro hb;have r1:Rpd (frC (dC c)):=co h.1.1.2.2.1;have r2:Rpd (toC (dC c)):=co h.1.1.2.2.2;have a0:(dec c.2.1:Ln).1≠0:=(h.1.1.2.1 ha).2.resolve_right λg=>g hb;have ha':(dC c).1=false:=ha;have s1:=eH.1 h.2.1;have s2:=eH.1 h.2.2;rw[ha',cond_false]at s1 s2;have s1:of (dec c.2.1:Ln).1*pX (frC (dC c))+of (dec c.2.1:Ln).2.1*pY (frC (dC c))=of (dec c.2.1:Ln).2.2:=s1;have s2:of (dec c.2.1:Ln).1*pX (toC (dC c))+of (dec c.2.1:Ln).2.1*pY (toC (dC c))=of (dec c.2.1:Ln).2.2:=s2;rw[hb,sX]at s1 s2;have e:=uw a0 (x:=pX (frC (dC c))) (y:=pX (toC (dC c))) (by grind);unfold K5 at hv;rw[ha',abW inferInstance inferInstance (by rw[tK,tK,e])]at hv;cases hv
instance aaX {r:Rt} {j:Nat} [h:Bd r j]:Bd (ivR r) (6*j+10):=by
 have b1:Bd (1:Rat) 3:=dZ (n:=1) (by decide);have i:Bd (iJ (r.1*(1/noR r)) (-(r.2.1*(1/noR r))) r.2.2) _:=inferInstance;exact i.mono (jz (by omega) (jz (by omega) (by omega)))
theorem IS{a b c:Rat}(h:c=0\/(0<c/\dP c=false)):Rdd (iJ a b c):=by
 unfold iJ;by_cases hb:b=0
 ·rw[dT hb];exact(inferInstance:Rdd ((a,0,0):Rt))
 ·rw[dF hb,cond_false];rcases h with h|h
  ·rw[dT h];exact(inferInstance:Rdd ((a,0,0):Rt))
  ·rw[dF (λe=>by rw[e]at h;exact absurd h.1 (by decide))];exact⟨.inr ⟨hb,h.1,h.2⟩⟩
theorem HF{r:Rt}(h:Rdd r):r.2.2=0\/(0<r.2.2/\dP r.2.2=false):=by
 rcases h.rd with h|h
 ·exact .inl h.2
 ·exact .inr h.2
def NS:List En:=[enT JC,enT oI,enT aaN,enL IE,enL I5]
def WZ(c:BCU)(p:BP)(_k:KT):OLR:=og (decide (okC 3500 c/\okP 3500 p)) (match onR (dC c) (dec p)with|true=>(og (decide (okP 4000 c.2.2.2.2.1/\okP 4000 p)) (match !(aB (dec c.2.2.2.2.1) (dec p)==0)with|true=>(og (decide (okP 4000 c.2.2.2.2.2/\okP 4000 p)) (some [RV.d .bool (!(aB (dec c.2.2.2.2.2) (dec p)==0))]))|false=>some [RV.d .bool false]))|false=>some [RV.d .bool false])
def ahw:Cn 112 [tCU,tP]:=cn λ(c:BCU) (p:BP)=>lf (okC 3500 c/\okP 3500 p) [.d .bool (jI (dC c) (dec p))] λh=>by
 refine aA NS (WZ c p) ⟨0,?_⟩;obtain⟨h1,h2⟩:=h;have h4:=bh (k:=4000) h1 (by decide) (by decide);have hp:=aV (k:=4000) h2 (by decide) (by decide);unfold WZ jI;rw[dT (show okC 3500 c/\okP 3500 p from⟨h1,h2⟩),dT (show okP 4000 c.2.2.2.2.1/\okP 4000 p from⟨h4.2.2.1,hp⟩),dT (show okP 4000 c.2.2.2.2.2/\okP 4000 p from⟨h4.2.2.2,hp⟩)];have e3:frC (dC c)=dec c.2.2.2.2.1:=rfl;have e4:toC (dC c)=dec c.2.2.2.2.2:=rfl;rw[e3,e4];cases onR (dC c) (dec p)<;>cases aB (dec c.2.2.2.2.1) (dec p)==0<;>rfl
def Xm(c:BCU)(_k:KT):OLR:=match !c.1 with|true=>(og (decide (okP 4000 c.2.2.2.2.1)) (og (decide (okP 4000 c.2.2.2.2.2)) (og (decide (okT 15000 (hid (enc (xP (dec c.2.2.2.2.1))))/\okT 15000 (hid (enc (xP (dec c.2.2.2.2.2)))))) (some [RV.d .bool (bQ (dec (hid (enc (xP (dec c.2.2.2.2.1))))) (dec (hid (enc (xP (dec c.2.2.2.2.2)))))==0)]))))|false=>some [RV.d .bool false]
def ahN:Cn 214 [tCU]:=cn λ(c:BCU)=>lf (okC 3500 c) [.d .bool (K5 (dC c))] λh=>by
 refine aA NS (Xm c) ⟨0,?_⟩;obtain⟨ar,li,ci,cw,fr,to⟩:=c;obtain⟨_,_,h3,h4⟩:=h;obtain⟨f,rfl,bf,rf⟩:=cM h3;obtain⟨t,rfl,bt,rt⟩:=cM h4;unfold Xm K5;simp only[bE,Nat.reduceLeDiff,aP,aU];cases ar
 ·show _=some [RV.d .bool (bQ (xP (dec (enc f))) (xP (dec (enc t)))==0)];rw[au,au];rfl
 ·rfl
def ab6:List En:=[enL ru]
def SG(_k:KT):OLR:=og (decide (aR (1:Int))) (some [RV.d tR (hid (am ((1:Int):Rat)))])
def abj:Cn 281 []:=cn<|lf True [.d tR (am 1)] λ_=>by
 refine aA ab6 (SG) ⟨0,?_⟩;unfold SG;rw[dT (show aR 1 by decide)];simp only[aQ];rfl
def adS:List En:=[enL nB]
def SC(r:BO3)(_k:KT):OLR:=og (o1 r.1) (og (o1 r.2.1) (some [RV.d tO (hNe r.1,(hNe r.2.1,r.2.2))]))
def acn:Cn 219 [tO]:=cn λ(r:BO3)=>lf (ok Rt 100000 r) [.d tO (enc (ngR (dec r)))] λh=>by
 refine aA adS (SC r) ⟨0,?_⟩;have hr:=h;obtain⟨r,rfl,br⟩:=aM hr;unfold SC;simp only[bE,Nat.reduceLeDiff];try rfl
def adt:List En:=[enT Fo,enL QI,enL wK,enL rK,enL nB,enL Hg,enL abj]
def Zh(r:BO3)(_k:KT):OLR:=og (decide (okT 90000 r)) (match(sgR (dec r))==0 with|true=>some [RV.d tO (((false,[]),(false,[])),(((false,[]),(false,[])),((false,[]),(false,[])))),RV.d apE 6]|false=>(og (decide (ok Rt 90000 r)) (og (decide (kV (hid (am 1)) (hid (am (noR (dec r)))))) (og (o2 r.1 (hDi (hid (am 1)) (hid (am (noR (dec r)))))) (og (o2 r.2.1 (hDi (hid (am 1)) (hid (am (noR (dec r)))))) (og (o1 (hMu r.2.1 (hDi (hid (am 1)) (hid (am (noR (dec r))))))) (og (decide (okR (hMu r.1 (hDi (hid (am 1)) (hid (am (noR (dec r))))))/\okR (hNe (hMu r.2.1 (hDi (hid (am 1)) (hid (am (noR (dec r)))))))/\okR r.2.2)) (some [RV.d tO (hid (enc (iJ (ag (hMu r.1 (hDi (hid (am 1)) (hid (am (noR (dec r))))))) (ag (hNe (hMu r.2.1 (hDi (hid (am 1)) (hid (am (noR (dec r)))))))) (ag r.2.2)))),RV.d apE 0]))))))))
def ajg:Cn 217 [tO]:=cn λ(r:BO3)=>lf (okT 600 r/\sgR (dec r)≠0) [.d tO (enc (ivR (dec r))),.d apE 0] λh=>by
 refine aA adt (Zh r) ⟨0,?_⟩;obtain⟨hr,h0⟩:=h;obtain⟨r,rfl,br,rr⟩:=iE hr;rw[au]at h0;have hn:=akN rr h0;have b1:Bd (1:Rat) 3:=dZ (n:=1) (by decide);unfold Zh ivR;simp only[bE,Nat.reduceAdd,Nat.reduceMul,Nat.reduceLeDiff,aP,hn,ne_eq,an2];try rw[amT.2 h0]
 try rfl
theorem adJ{q:Pt}(a b:Rat):oC (ngR (arT (xP q) a)) (ivR (arT (yP q) b))=true:=by
 unfold oC;by_cases hx:q.2.1=0
 ·have e:(xP q).2.1=0:=by unfold xP coR;rw[dT hx];rfl
  rw[dT (show(ngR (arT (xP q) a)).2.1=0 by show-(xP q).2.1=0;rw[e];rfl)];rfl
 ·by_cases hy:q.2.2.2.1=0
  ·have e:(yP q).2.1=0:=by unfold yP coR;rw[dT hy];rfl
   have:(ivR (arT (yP q) b)).2.1=0:=by
    unfold ivR iJ;rw[dT (show-((arT (yP q) b).2.1*(1/noR (arT (yP q) b)))=0 by show-((yP q).2.1*_)=0;rw[e,apg];rfl)];rfl
   rw[dT this,Bool.true_or,apt]
  ·have ex:(ngR (arT (xP q) a)).2.2=q.2.2.2.2:=by show(xP q).2.2=_;unfold xP coR;rw[dF hx];rfl
   have ey:(arT (yP q) b).2.2=q.2.2.2.2:=by show(yP q).2.2=_;unfold yP coR;rw[dF hy];rfl
   have:(ivR (arT (yP q) b)).2.1=0\/(ivR (arT (yP q) b)).2.2=q.2.2.2.2:=by
    unfold ivR iJ;rw[ey];cases decide (-((arT (yP q) b).2.1*(1/noR (arT (yP q) b)))=0)
    ·cases decide (q.2.2.2.2=0)
     ·exact .inr rfl
     ·exact .inl rfl
    ·exact .inl rfl
   rcases this with h|h
   ·rw[dT h,Bool.true_or,apt]
   ·rw[h,ex,dT rfl,apt,apt]
theorem aeZ{r:Rt}(h:Rdd r):Rdd (ngR r):=by
 refine⟨?_⟩;rcases h.rd with⟨h1,h2⟩|⟨h1,h2,h3⟩
 ·exact .inl ⟨by show-r.2.1=0;rw[h1];rfl,h2⟩
 ·exact .inr ⟨λe=>h1 (by have e: -r.2.1=0:=e;grind),h2,h3⟩
theorem ahG{r:Rt}(h:Rdd r):Rdd (ivR r):=IS (HF h)
theorem V4{r s:Rt}(h:Rdd r)(h':Rdd s):Rdd (ls r s):=by
 refine IS ?_;unfold gJ;cases decide (r.2.1=0)
 ·exact HF h
 ·exact HF h'
def M4(c:BCU)(p:BP):Prop:=∃x,bi x/\(c=loN x\/c=upN x)/\p=enc (cd (dec x))
def qx(c d:BCU):Prop:=∃x,bi x/\c=upN x/\d=loN x
theorem aaZ{c:BCU}{p:BP}(h:M4 c p){x:Ln}(ec:c.2.2.1=enc x){q:Pt}(ep:p=enc q):sgR (arT (yP q) (-x.2.1))=0:=by
 obtain⟨y,_,h1,h2⟩:=h;have e1:c.2.2.1=y:=by rcases h1 with e|e<;>rw[e]<;>rfl
 rw[ec]at e1;subst e1;rw[ep]at h2;have e2:=congrArg (dec:BP->Pt) h2;rw[au,au,au]at e2;subst e2
 have:yP (cd x)=(x.2.1,0,0):=by
  unfold cd l7 yP;cases dP x.2.2
  ·rfl
  ·show coR (x.2.1+0*rtQ x.2.2) 0 0=_;rw[apg,Rat.add_zero];rfl
 rw[this];unfold arT;rw[show x.2.1+ -x.2.1=0 by grind];rfl
def QW:List En:=[enT ahN,enL nB,enL wK,enL GD,enL IE,enL I5,enL Hv,enT Fo,enL ajg,enL Pr,enL acn]
def AL(c:BCU)(p:BP)(_k:KT):OLR:=og (decide (okC 3500 c)) (match K5 (dC c)with|true=>some [RV.d qz (2,(((false,[]),(false,[])),(((false,[]),(false,[])),((false,[]),(false,[])))))]|false=>(match !c.1 with|true=>(og (o1 c.2.1.1) (og (decide (kV (hNe c.2.1.1) c.2.1.2.1)) (og (o1 (hDi (hNe c.2.1.1) c.2.1.2.1)) (some [RV.d qz (0,hid (enc ((ag (hDi (hNe c.2.1.1) c.2.1.2.1),0,0):Rt)))]))))|false=>(og (decide (okP 4000 p)) (og (o1 c.2.2.1.1) (og (decide (ok Rt 100000 (hid (enc (xP (dec p))))/\ok Rat 100000 (hNe c.2.2.1.1))) (og (decide (okP 4000 p)) (og (o1 c.2.2.1.2.1) (og (decide (ok Rt 100000 (hid (enc (yP (dec p))))/\ok Rat 100000 (hNe c.2.2.1.2.1))) (og (decide (okT 90000 (hid (enc (arT (dec (hid (enc (yP (dec p))))) (ag (hNe c.2.2.1.2.1))))))) (match(sgR (dec (hid (enc (arT (dec (hid (enc (yP (dec p))))) (ag (hNe c.2.2.1.2.1)))))))==0 with|true=>(match c.2.2.2.1 with|true=>some [RV.d qz (1,(((false,[]),(false,[])),(((false,[]),(false,[])),((false,[]),(false,[])))))]|false=>some [RV.d qz (-1,(((false,[]),(false,[])),(((false,[]),(false,[])),((false,[]),(false,[])))))])|false=>(og (decide (okT 600 (hid (enc (arT (dec (hid (enc (yP (dec p))))) (ag (hNe c.2.2.1.2.1)))))/\sgR (dec (hid (enc (arT (dec (hid (enc (yP (dec p))))) (ag (hNe c.2.2.1.2.1))))))≠0)) (og (decide (ok Rt 100000 (hid (enc (arT (dec (hid (enc (xP (dec p))))) (ag (hNe c.2.2.1.1))))))) (og (decide (ok Rt 50000 (hid (enc (ngR (dec (hid (enc (arT (dec (hid (enc (xP (dec p))))) (ag (hNe c.2.2.1.1)))))))))/\ok Rt 50000 (hid (enc (ivR (dec (hid (enc (arT (dec (hid (enc (yP (dec p))))) (ag (hNe c.2.2.1.2.1)))))))))/\oC (dec (hid (enc (ngR (dec (hid (enc (arT (dec (hid (enc (xP (dec p))))) (ag (hNe c.2.2.1.1)))))))))) (dec (hid (enc (ivR (dec (hid (enc (arT (dec (hid (enc (yP (dec p))))) (ag (hNe c.2.2.1.2.1))))))))))=true)) (some [RV.d qz (0,hid (enc (ls (dec (hid (enc (ngR (dec (hid (enc (arT (dec (hid (enc (xP (dec p))))) (ag (hNe c.2.2.1.1)))))))))) (dec (hid (enc (ivR (dec (hid (enc (arT (dec (hid (enc (yP (dec p))))) (ag (hNe c.2.2.1.2.1)))))))))))))]))))))))))))))
def Ly(c:BCU)(p:BP):Prop:=∃v:SLp,(λv:SLp=>(v.1=0->okT 15000 v.2)/\(v.1≠0->v.1≠2->c.1=true)/\(M4 c p->v=(bif c.2.2.2.1 then 1 else-1,z3))) v/\CQq7 157 [.d tCU c,.d tP p] [.d qz v]
instance (c:BCU) (p:BP):Decidable (Ly c p):=Classical.propDecidable _
def pz(c:BCU)(p:BP):SLp:=Classical.epsilon λv=>(λv:SLp=>(v.1=0->okT 15000 v.2)/\(v.1≠0->v.1≠2->c.1=true)/\(M4 c p->v=(bif c.2.2.2.1 then 1 else-1,z3))) v/\CQq7 157 [.d tCU c,.d tP p] [.d qz v]
theorem I1{c:BCU}{p:BP}(h:Ly c p):(λv:SLp=>(v.1=0->okT 15000 v.2)/\(v.1≠0->v.1≠2->c.1=true)/\(M4 c p->v=(bif c.2.2.2.1 then 1 else-1,z3))) (pz c p):=(amq h).1
def ah0:Cn 157 [tCU,tP]:=cn λ(c:BCU) (p:BP)=>lf (Ly c p) [.d qz (pz c p)] λh=>(amq h).2
theorem PR{c:BCU}{p:BP}(h:gW c)(hp:okP 580 p):Ly c p:=by
 suffices gX:∃v:SLp,(λv:SLp=>(v.1=0->okT 15000 v.2)/\(v.1≠0->v.1≠2->c.1=true)/\(M4 c p->v=(bif c.2.2.2.1 then 1 else-1,z3))) v/\AL c p ((CX (ens QW) []).k 0)=some [.d qz v] from gX.elim λv h=>⟨v,h.1,aA QW (AL c p) ⟨0,h.2⟩⟩
 have h35:okC 3500 c:=bh h.1.1 (by decide) (by decide);have hp4:okP 4000 p:=aV hp (by decide) (by decide);cases hv:K5 (dC c)
 ·cases ha:c.1
  ·obtain⟨l,el,bl,nl⟩:=dU (h.1.2.2 ha);have hb:=akr h ha hv;rw[el,au]at hb;have i1:Bd (-l.1/l.2.1) 24:=(inferInstance:Bd (-l.1/l.2.1) _)
   refine⟨(0,enc ((-l.1/l.2.1,0,0):Rt)),⟨λ_=>amj (aP (j:=24) (by decide) (by decide)),(λe=>absurd rfl e),λg=>by obtain⟨_,_,g|g,_⟩:=g<;>(rw[g]at ha;cases ha)⟩,?_⟩;unfold AL;rw[el];simp only[hv,ha,dT h35,bE,aG,Nat.reduceLeDiff,hb,ne_eq,an2];rfl
  ·obtain⟨x,ex,bx,x0⟩:=b8 (h.1.2.1 ha);obtain⟨q,rfl,bq,rq⟩:=cM hp;have b1:Bd (arT (xP q) (-x.1)) 585:=(inferInstance:Bd (arT (xP q) (-x.1)) _)
   have b2:Bd (arT (yP q) (-x.2.1)) 585:=(inferInstance:Bd (arT (yP q) (-x.2.1)) _)
   by_cases hy:sgR (arT (yP q) (-x.2.1))=0
   ·refine⟨(bif c.2.2.2.1 then 1 else-1,z3),⟨(by cases c.2.2.2.1<;>(intro e;cases e)),(λ_ _=>rfl),λ_=>rfl⟩,?_⟩;unfold AL;rw[ex];simp only[hv,ha,dT h35,dT hp4,bE,aG,Nat.reduceAdd,Nat.reduceMul,Nat.reduceLeDiff,aP,hy];cases c.2.2.2.1<;>rfl
   ·have r1:=aeZ (inferInstance:Rdd (arT (xP q) (-x.1)));have r2:=ahG (inferInstance:Rdd (arT (yP q) (-x.2.1)));have r3:=V4 r1 r2;have b3:Bd (ngR (arT (xP q) (-x.1))) 585:=(inferInstance:Bd ((-(arT (xP q) (-x.1)).1,-(arT (xP q) (-x.1)).2.1,(arT (xP q) (-x.1)).2.2):Rt) _).mono (by decide);have b4:Bd (ivR (arT (yP q) (-x.2.1))) 3520:=aaX (j:=585);have b5:Bd (ls (ngR (arT (xP q) (-x.1))) (ivR (arT (yP q) (-x.2.1)))) 15000:=(inferInstance:Bd (ls (ngR (arT (xP q) (-x.1))) (ivR (arT (yP q) (-x.2.1)))) _).mono (by decide);have hc:=adJ (q:=q) (-x.1) (-x.2.1);refine⟨(0,enc (ls (ngR (arT (xP q) (-x.1))) (ivR (arT (yP q) (-x.2.1))))),⟨λ_=>amj (aP (j:=15000) (by decide) (by decide)),(λe=>absurd rfl e),λg=>absurd (aaZ g ex rfl) hy⟩,?_⟩;unfold AL;rw[ex];simp only[hv,ha,dT h35,dT hp4,bE,aG,Nat.reduceLeDiff,aP,amT.2 hy,dT (show sgR (arT (yP q) (-x.2.1))≠0 from hy),hc];rfl
 ·refine⟨(2,z3),⟨(λe=>nomatch e),(λ_ e=>absurd rfl e),λg=>by obtain⟨_,_,g|g,_⟩:=g<;>(rw[g]at hv;cases hv)⟩,?_⟩;unfold AL;rw[dT h35,hv];rfl
def Oy:List En:=[]
def Yu(c:BCU)(_k:KT):OLR:=match !c.1 with|true=>some [RV.d apE 0]|false=>(match c.2.2.2.1 with|true=>some [RV.d apE (-1)]|false=>some [RV.d apE 1])
def ajI:Cn 220 [tCU]:=cn λ(c:BCU)=>lf True [.d apE (oV c)] λ_=>by
 refine aA Oy (Yu c) ⟨0,?_⟩;unfold Yu oV;cases c.1
 ·rfl
 ·cases c.2.2.2.1<;>rfl
def Pf:List En:=enL ah0::enT oI::enT uq::enT BE::enT ajI::Oy
def aaU:NT:=[((109,55),{keep:=[59],hl:=0})]
def Yi:Ctx:=CX (ens Pf) aaU
def J2(c d:BCU)(_k:KT):OLR:=og (decide (okP 4000 c.2.2.2.2.1/\okP 4000 d.2.2.2.2.1)) (match !(aB (dec c.2.2.2.2.1) (dec d.2.2.2.2.1)==0)with|true=>some [RV.d apE 0,RV.d apE 1]|false=>(og (decide (Ly c c.2.2.2.2.1)) (og (decide (Ly d d.2.2.2.2.1)) (match((hid ((pz c c.2.2.2.2.1))).1) !=((hid ((pz d d.2.2.2.2.1))).1)with|true=>(match decide (((hid ((pz c c.2.2.2.2.1))).1)<((hid ((pz d d.2.2.2.2.1))).1))with|true=>some [RV.d apE (-1),RV.d apE 0]|false=>some [RV.d apE 1,RV.d apE 0])|false=>(match((hid ((pz c c.2.2.2.2.1))).1)==2 with|true=>some [RV.d apE 0,RV.d apE 0]|false=>(match((hid ((pz c c.2.2.2.2.1))).1) !=0 with|true=>(og (o2 c.2.2.1.2.2 d.2.2.1.2.2) (some [RV.d apE (i64.wrap (((hid ((pz c c.2.2.2.2.1))).1)*(aD (ag c.2.2.1.2.2) (ag d.2.2.1.2.2)))),RV.d apE 0]))|false=>(og (decide (okT 15000 ((hid ((pz c c.2.2.2.2.1))).2)/\okT 15000 ((hid ((pz d d.2.2.2.2.1))).2))) (match(bQ (dec ((hid ((pz c c.2.2.2.2.1))).2)) (dec ((hid ((pz d d.2.2.2.2.1))).2))) !=0 with|true=>some [RV.d apE (bQ (dec ((hid ((pz c c.2.2.2.2.1))).2)) (dec ((hid ((pz d d.2.2.2.2.1))).2))),RV.d apE 0]|false=>(match(oV c) !=(oV d)with|true=>(match decide ((oV c)<(oV d))with|true=>some [RV.d apE (-1),RV.d apE 0]|false=>some [RV.d apE 1,RV.d apE 0])|false=>(match(oV c)==0 with|true=>some [RV.d apE 0,RV.d apE 0]|false=>(og (o2 c.2.2.1.2.2 d.2.2.1.2.2) (some [RV.d apE (i64.wrap ((i64.wrap (0-(oV c)))*(aD (ag c.2.2.1.2.2) (ag d.2.2.1.2.2)))),RV.d apE 0]))))))))))))
theorem afK(c d:BCU):RS Yi 109 [.d tCU c,.d tCU d] (J2 c d):=rsX
def PZ(c d:BCU):Prop:=∃v:Int×Int,(λv:Int×Int=>qx c d->v.1=1) v/\CQq7 109 [.d tCU c,.d tCU d] [.d apE v.1,.d apE v.2]
instance (c:BCU) (d:BCU):Decidable (PZ c d):=Classical.propDecidable _
def Lq(c d:BCU):Int×Int:=Classical.epsilon λv=>(λv:Int×Int=>qx c d->v.1=1) v/\CQq7 109 [.d tCU c,.d tCU d] [.d apE v.1,.d apE v.2]
theorem UU{c d:BCU}(h:PZ c d):(λv:Int×Int=>qx c d->v.1=1) (Lq c d):=(amq h).1
def aiY:Cn 109 [tCU,tCU]:=cn λ(c d:BCU)=>lf (PZ c d) [.d apE ((Lq c d).1),.d apE ((Lq c d).2)] λh=>(amq h).2
theorem Me{c d:BCU}(hc:gW c)(hd:gW d):PZ c d:=by
 suffices gX:∃v:Int×Int,(λv:Int×Int=>qx c d->v.1=1) v/\∃n,J2 c d (Yi.k n)=some [.d apE v.1,.d apE v.2] from gX.elim λv h=>⟨v,h.1,a8 Pf (afK c d h.2)⟩
 have j1:=PR hc hc.1.1.2.2.1;have j2:=PR hd hd.1.1.2.2.1;obtain⟨s1,s2,s3⟩:=I1 j1;obtain⟨t1,t2,t3⟩:=I1 j2
 have oq:∀{e:BCU},gW e->e.1=true->okR e.2.2.1.2.2:=λh ha=>by
  obtain⟨x,ex,bx,_⟩:=b8 (h.1.2.1 ha);rw[ex];exact amj (qA (q:=x.2.2) (j:=13) (by decide))
 have k1:okP 4000 c.2.2.2.2.1/\okP 4000 d.2.2.2.2.1:=⟨aV hc.1.1.2.2.1 (by decide) (by decide),aV hd.1.1.2.2.1 (by decide) (by decide)⟩
 by_cases hD:qx c d
 ·obtain⟨x,hx,rfl,rfl⟩:=hD;have e1:=s3 ⟨x,hx,.inr rfl,rfl⟩;have e2:=t3 ⟨x,hx,.inl rfl,rfl⟩;have r1:=co k1.1;have r2:=co k1.2;have z:(aB (dec (upN x).2.2.2.2.1) (dec (loN x).2.2.2.2.1)==0)=true:=amW.2 (cmpP_0.2 rfl);refine⟨(1,0),(λ_=>rfl),0,?_⟩;unfold J2;simp only[aQ,dT j1,dT j2,dT k1,e1,e2,z];rfl
 have nD:∀{v:Int×Int},qx c d->v.1=1:=λg=>absurd g hD;unfold J2;simp only[aQ,dT j1,dT j2,dT k1];generalize pz c c.2.2.2.2.1=s at*
 generalize pz d d.2.2.2.2.1=t at*
 cases aB (dec c.2.2.2.2.1) (dec d.2.2.2.2.1)==0
 ·exact⟨(_,_),nD,0,rfl⟩
 by_cases q1:s.1=t.1
 ·rw[show(s.1 !=t.1)=false by rw[q1];exact aoC _];by_cases q2:s.1=2
  ·rw[amW.2 q2];exact⟨(_,_),nD,0,rfl⟩
  rw[amT.2 q2];by_cases q3:s.1=0
  ·rw[show(s.1 !=0)=false by rw[q3];rfl,dT (show okT 15000 s.2/\okT 15000 t.2 from⟨s1 q3,t1 (q1▸q3)⟩)];cases bQ (dec s.2) (dec t.2) !=0
   ·by_cases q4:oV c=oV d
    ·rw[show(oV c !=oV d)=false by rw[q4];exact aoC _];by_cases q5:oV c=0
     ·rw[amW.2 q5];exact⟨(_,_),nD,0,rfl⟩
     ·have ha:∀{e:BCU},oV e≠0->e.1=true:=λ{e} h=>by
       unfold oV at h;cases g:e.1
       ·rw[g]at h;exact absurd rfl h
       ·rfl
      rw[amT.2 q5,show o2 c.2.2.1.2.2 d.2.2.1.2.2=true from dT ⟨oq hc (ha q5),oq hd (ha (q4▸q5))⟩];exact⟨(_,_),nD,0,rfl⟩
    ·rw[aoc.2 q4];cases decide (oV c<oV d)<;>exact⟨(_,_),nD,0,rfl⟩
   ·exact⟨(_,_),nD,0,rfl⟩
  ·rw[aoc.2 q3,show o2 c.2.2.1.2.2 d.2.2.1.2.2=true from dT ⟨oq hc (s2 q3 q2),oq hd (t2 (q1▸q3) (q1▸q2))⟩];exact⟨(_,_),nD,0,rfl⟩
 ·rw[aoc.2 q1];cases decide (s.1<t.1)<;>exact⟨(_,_),nD,0,rfl⟩
def LA:List En:=[enL aiY,enT r8]
def LF(c d:BCU)(_k:KT):OLR:=og (decide (okP 4000 c.2.2.2.2.1/\okP 4000 d.2.2.2.2.1)) (match(aB (dec c.2.2.2.2.1) (dec d.2.2.2.2.1)) !=0 with|true=>some [RV.d apE (aB (dec c.2.2.2.2.1) (dec d.2.2.2.2.1))]|false=>(og (decide (PZ c d)) (match((Lq c d).1) !=0 with|true=>some [RV.d apE ((Lq c d).1)]|false=>(og (decide (okP 4000 c.2.2.2.2.2/\okP 4000 d.2.2.2.2.2)) (some [RV.d apE (aB (dec c.2.2.2.2.2) (dec d.2.2.2.2.2))])))))
def KK(c d:BCU):Prop:=∃v:Int,(λv:Int=>qx c d->v=1) v/\CQq7 76 [.d tCU c,.d tCU d] [.d apE v]
instance (c:BCU) (d:BCU):Decidable (KK c d):=Classical.propDecidable _
def F4(c d:BCU):Int:=Classical.epsilon λv=>(λv:Int=>qx c d->v=1) v/\CQq7 76 [.d tCU c,.d tCU d] [.d apE v]
theorem Vk{c d:BCU}(h:KK c d):(λv:Int=>qx c d->v=1) (F4 c d):=(amq h).1
def Sy:Cn 76 [tCU,tCU]:=cn λ(c d:BCU)=>lf (KK c d) [.d apE (F4 c d)] λh=>(amq h).2
theorem yV{c d:BCU}(hc:gW c)(hd:gW d):KK c d:=by
 suffices gX:∃v:Int,(λv:Int=>qx c d->v=1) v/\LF c d ((CX (ens LA) []).k 0)=some [.d apE v] from gX.elim λv h=>⟨v,h.1,aA LA (LF c d) ⟨0,h.2⟩⟩
 have k1:okP 4000 c.2.2.2.2.1/\okP 4000 d.2.2.2.2.1:=⟨aV hc.1.1.2.2.1 (by decide) (by decide),aV hd.1.1.2.2.1 (by decide) (by decide)⟩
 have k2:okP 4000 c.2.2.2.2.2/\okP 4000 d.2.2.2.2.2:=⟨aV hc.1.1.2.2.2 (by decide) (by decide),aV hd.1.1.2.2.2 (by decide) (by decide)⟩
 have j:=UU (Me hc hd);unfold LF;simp only[dT (Me hc hd),dT k1,dT k2];by_cases hD:qx c d
 ·have r1:=co k1.1
  have z:(aB (dec c.2.2.2.2.1) (dec d.2.2.2.2.1) !=0)=false:=by
   obtain⟨x,_,rfl,rfl⟩:=hD;have r1:=co k1.1;have r2:=co k1.2;rw[show aB (dec (upN x).2.2.2.2.1) (dec (loN x).2.2.2.2.1)=0 from cmpP_0.2 rfl];rfl
  refine⟨1,(λ_=>rfl),?_⟩;rw[z,j hD];rfl
 have nD:∀{v:Int},qx c d->v=1:=λg=>absurd g hD;cases aB (dec c.2.2.2.2.1) (dec d.2.2.2.2.1) !=0
 ·cases(Lq c d).1 !=0<;>exact⟨_,nD,rfl⟩
 ·exact⟨_,nD,rfl⟩
end
end Go.Proofs.YtmnlppieefomnaaGreatDoor
end
