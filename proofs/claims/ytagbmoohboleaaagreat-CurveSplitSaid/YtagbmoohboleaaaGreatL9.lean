/- Square roots of reals. -/
import Derived.Test.YtagbmoohboleaaaGreatL8
noncomputable section
namespace Go.Proofs.YtagbmoohboleaaaGreat
open Go.RowKit Go.IntKind
theorem af6:type_of% @Rat.mul_nonneg:=@Rat.mul_nonneg
theorem ahG:type_of% @Rat.intCast_natCast:=@Rat.intCast_natCast
theorem ahJ:type_of% @decide_eq_decide:=@decide_eq_decide
theorem ahK:type_of% @Rat.intCast_le_intCast:=@Rat.intCast_le_intCast
section
namespace RE
open RL
theorem aao(q:Rat):∃k:Nat,q<(k:Rat):=by
 refine⟨(q.floor+1).toNat,?_⟩;have h1:q<((q.floor+1:Int):Rat):=(Rat.floor_lt_iff).1 (by omega);have h2:((q.floor+1:Int):Rat)<=(((q.floor+1).toNat:Int):Rat):=ahK.2 (by omega);have h3:(((q.floor+1).toNat:Int):Rat)=(((q.floor+1).toNat:Nat):Rat):=ahG _;rw[h3]at h2;grind
theorem Ri(g d:Rat)(hg:0<=g)(hd:0<d):∃s:Rat,0<=s/\s*s<=g/\g<(s+d)*(s+d):=by
 apply afF;intro hn
 have step:∀k:Nat,((k:Rat)*d)*((k:Rat)*d)<=g:=by
  intro k;induction k with
  |zero=>rw[show((0:Nat):Rat)=0 from rfl];grind
  |succ k ih=>
   apply afF;intro hc;refine hn ⟨(k:Rat)*d,?_,ih,?_⟩
   ·have:(0:Rat)<=(k:Rat):=by
     have:=Rat.intCast_nonneg.2 (show(0:Int)<=(k:Int) by omega);rwa [ahG]at this
    exact af6 this (by grind)
   ·have e:(((k+1:Nat)):Rat)=(k:Rat)+1:=by rw[Rat.natCast_add];rfl
    rw[e]at hc;grind
 obtain⟨k,hk⟩:=aao ((g+1)/d)
 have h1:g+1<(k:Rat)*d:=by
  have:=agf (show 0<(k:Rat)-(g+1)/d by grind) hd;have e:((k:Rat)-(g+1)/d)*d=(k:Rat)*d-(g+1):=by grind
  grind
 have h2:=step k;have h3:=agf (show 0<(k:Rat)*d-(g+1) by grind) (show 0<(k:Rat)*d by grind);have h4:=agf (show 0<(k:Rat)*d-(g+1) by grind) (show 0<g+1 by grind);have h5:=af6 hg hg;clear hn step hk;generalize (k:Rat)*d=t at h1 h2 h3 h4;grind
def eps(n:Nat):Rat:=1/((n:Rat)+1)
theorem qw(n:Nat):(0:Rat)<=(n:Rat):=by
 have:=Rat.intCast_nonneg.2 (show(0:Int)<=(n:Int) by omega);rwa [ahG]at this
theorem ro(n:Nat):0<eps n:=by
 have:=qw n;exact agf (by grind) (Rat.inv_pos.2 (by grind))
theorem yy(e:Rat)(he:0<e):∃N,∀n,N<=n->eps n<e:=by
 obtain⟨N,hN⟩:=aao (1/e);refine⟨N,λn hn=>?_⟩;have h0:=qw n
 have h1:(N:Rat)<=(n:Rat):=by
  have:=ahK.2 (show(N:Int)<=(n:Int) by omega);rwa [ahG,ahG]at this
 have h2:1/e<(n:Rat)+1:=by grind
 have h3:=agf (show 0<(n:Rat)+1-1/e by grind) (agf he (ro n));unfold eps at h3 ⊢
 have e1:((n:Rat)+1-1/e)*(e*(1/((n:Rat)+1)))=e-1/((n:Rat)+1):=by
  have:(n:Rat)+1≠0:=by grind
  have:e≠0:=by grind
  grind
 grind
theorem Fc(n:Nat):eps n<=1:=by
 have h0:=qw n;have:=ro n;unfold eps at*
 have h3:=af6 h0 (show(0:Rat)<=1/((n:Rat)+1) by grind)
 have e1:(n:Rat)*(1/((n:Rat)+1))=1-1/((n:Rat)+1):=by
  have:(n:Rat)+1≠0:=by grind
  grind
 grind
theorem NK{a b:Rat}(ha:0<=a)(hb:0<=b)(h:a*a<b*b):a<b:=by
 apply afF;intro hc;have:=af6 (show 0<=a-b by grind) (show 0<=a+b by grind);grind
theorem A5(x:RE)(hx:0<=x):∃y:RE,0<=y/\y*y=x:=by
 induction x using agD
 rename_i f
 have hc:∀n,∃s:Rat,0<=s/\s*s<=(if 0<=f.f n then f.f n else 0)/\(if 0<=f.f n then f.f n else 0)<(s+eps n)*(s+eps n):=λn=>
  Ri _ _ (by split<;>grind) (ro n)
 let g:Nat->Rat:=λn=>if 0<=f.f n then f.f n else 0
 let s:Nat->Rat:=λn=>Classical.choose (hc n)
 have hs:∀n,0<=s n/\s n*s n<=g n/\g n<(s n+eps n)*(s n+eps n):=λn=>agN (hc n)
 have hg:∀m n,g m-g n<=(if 0<=f.f m-f.f n then f.f m-f.f n else 0):=λm n=>by
  show(if 0<=f.f m then f.f m else 0)-(if 0<=f.f n then f.f n else 0)<=_;split<;>split<;>split<;>grind
 obtain⟨B,hB,NB,hBn⟩:=f.bd
 have hgB:∀n,NB<=n->g n<B:=λn hn=>by
  show(if 0<=f.f n then f.f n else 0)<B;have:=hBn n hn;split<;>grind
 have hsB:∀n,NB<=n->s n<B+1:=λn hn=>by
  have h1:=hs n;have h2:=hgB n hn;refine NK h1.1 (by grind) ?_;have:=af6 (show 0<=B by grind) (show 0<=B by grind);grind
 have hcau:∀e:Rat,0<e->∃N,∀m n,N<=m->N<=n->s m-s n<e:=by
  intro e he;obtain⟨N1,h1⟩:=f.cau (e*e/4) (by have:=agf he he;grind);obtain⟨N2,h2⟩:=yy (e/2) (by grind);refine⟨max N1 N2,λm n hm hn=>?_⟩;apply afF;intro hne;have a1:=hs m;have a2:=hs n;have a3:=h1 m n (by omega) (by omega);have a4:=h2 n (by omega);have a5:=hg m n;have a6:=ro n;have p1:=af6 (show 0<=s m-(s n+e) by grind) (show 0<=s m+(s n+e) by grind);have p2:=af6 (show 0<=e/2-eps n by grind) (show 0<=(s n+e/2)+(s n+eps n) by grind);have p3:=af6 (show 0<=e by grind) a2.1;have p4:=agf he he;split at a5<;>grind
 refine⟨Quotient.mk _ ⟨s,hcau⟩,?_,aib λe he=>?_⟩
 ·rintro ⟨e,he,N,h⟩
  have h1:=h N (afs _);have h2:=(hs N).1;simp only[RL.const]at h1;grind
 ·-- s n*s n is near to f n
  have hneg:∃N,∀n,N<=n-> -(e/4)<f.f n:=by
   apply afF;intro hne;obtain⟨M,hM⟩:=f.cau (e/8) (by grind);refine hx ⟨e/16,by grind,M,λn hn=>?_⟩;apply afF;intro hge;refine hne ⟨M,λk hk=>?_⟩;have:=hM n k hn hk;simp only[RL.const]at hge;grind
  obtain⟨N1,h1⟩:=hneg;obtain⟨N2,h2⟩:=yy (e/(4*(B+2))) (agf he (Rat.inv_pos.2 (by grind)));refine⟨max (max N1 N2) NB,λn hn=>?_⟩;have a1:=hs n;have a2:=h1 n (by omega);have a3:=h2 n (by omega);have a4:=hsB n (by omega);have a5:=ro n;have a6:=Fc n
  have hgf:f.f n<=g n/\g n<f.f n+e/4:=by
   show f.f n<=(if 0<=f.f n then f.f n else 0)/\(if 0<=f.f n then f.f n else 0)<_;split<;>constructor<;>grind
  have p1:=af6 (show 0<=eps n by grind) (show 0<=2*(B+2)-(2*s n+eps n) by grind)
  have p2:eps n*(2*(B+2))<e/2:=by
   have:=agf (show 0<e/(4*(B+2))-eps n by grind) (show 0<2*(B+2) by grind)
   have e1:(e/(4*(B+2))-eps n)*(2*(B+2))=e/2-eps n*(2*(B+2)):=by
    have:B+2≠0:=by grind
    grind
   grind
  simp only[RL.mul];constructor<;>grind
open Classical in
def wH(x:RE):RE:=if h:0<=x then Classical.choose (A5 x h)else 0
theorem nX(x:RE):0<=wH x:=by
 unfold wH;split
 ·rename_i h;exact(agN (A5 x h)).1
 ·exact lt_irrefl 0
theorem Af{x:RE}(h:0<=x):wH x*wH x=x:=by
 unfold wH;rw[dif_pos h];exact(agN (A5 x h)).2
theorem nt{a b:Rat}:of a<=of b↔a<=b:=by
 constructor
 ·intro h;apply afF;intro hc;exact h (jF (by grind))
 ·intro h h';rcases(by grind:a<b\/a=b)with h1|h1
  ·exact lt_irrefl _ (fF h' (jF h1))
  ·rw[h1]at h';exact lt_irrefl _ h'
theorem EQ{a b:Rat}(h:of a=of b):a=b:=by
 have h1:=nt.1 (show of a<=of b by rw[h];exact lt_irrefl _);have h2:=nt.1 (show of b<=of a by rw[h];exact lt_irrefl _);grind
end RE
end
section
namespace RE
open RL
open Classical in
def sg(x:RE):Int:=if 0<x then 1 else if x<0 then-1 else 0
theorem jm{x:RE}(h:0<x):sg x=1:=af2 h
theorem nw{x:RE}(h:x<0):sg x= -1:=by unfold sg;rw[afQ (λh'=>lt_irrefl _ (fF h h')),af2 h]
theorem fR:sg 0=0:=by unfold sg;rw[afQ (lt_irrefl _),afQ (lt_irrefl _)]
theorem df(x:RE):(0<x/\sg x=1)\/(x=0/\sg x=0)\/(x<0/\sg x= -1):=by
 rcases nO 0 x with h|h|h
 ·exact .inl ⟨h,jm h⟩
 ·exact .inr (.inl ⟨h.symm,by rw[<-h,fR]⟩)
 ·exact .inr (.inr ⟨h,nw h⟩)
theorem Oy{x:RE}:sg x=0↔x=0:=by
 rcases df x with⟨h,e⟩|⟨h,e⟩|⟨h,e⟩<;>rw[e]
 ·exact⟨λh'=>by omega,λh'=>by rw[h']at h;exact absurd h (lt_irrefl _)⟩
 ·exact⟨λ_=>h,λ_=>rfl⟩
 ·exact⟨λh'=>by omega,λh'=>by rw[h']at h;exact absurd h (lt_irrefl _)⟩
theorem neg_mul(a b:RE): -a*b= -(a*b):=by grind
theorem mul_neg(a b:RE):a* -b= -(a*b):=by grind
theorem neg_neg(a:RE): - -a=a:=by grind
theorem sub_self(a:RE):a-a=0:=by grind
theorem Yo(x y:RE):(x+y)*(x-y)=x*x-y*y:=by grind
theorem MA(x y:RE):((x-(0))*(0-(y)))+((x*y-(0)))=0:=by grind
theorem LM(x y:RE)(h1:0<x)(h2:y<0):x*y<0:=xN.1 λhg=>far (aS (mul_pos (aX h1) (aX h2)) (aK hg)) (MA x y)
theorem YY(x y:RE)(h1:x<0)(h2:y<0):x+y<0:=by grind
theorem XT(x y:RE)(h1:0<x)(h2:y<0):0<x-y:=by grind
theorem XY(x y:RE)(h1:x<0)(h2:0<y):x-y<0:=by grind
theorem YA(x y:RE)(h1:0<x)(h2:0<y):0<x+y:=by grind
theorem Pk: -(0:RE)=0:=by rw[<-zero_add (-0),kZ]
theorem Ws(x:RE):sg (-x)= -sg x:=by
 rcases df x with⟨h,e⟩|⟨h,e⟩|⟨h,e⟩<;>rw[e]
 ·exact nw (Ys h)
 ·rw[h,Pk,fR];rfl
 ·exact jm (uc h)
theorem tM(x y:RE):sg (x*y)=sg x*sg y:=by
 rcases df x with⟨h,e⟩|⟨h,e⟩|⟨h,e⟩<;>rw[e]
 ·rcases df y with⟨h',e'⟩|⟨h',e'⟩|⟨h',e'⟩<;>rw[e']
  ·exact jm (mul_pos h h')
  ·rw[h',mul_zero,fR];rfl
  ·exact nw (LM _ _ h h')
 ·rw[h,zero_mul,fR];omega
 ·rcases df y with⟨h',e'⟩|⟨h',e'⟩|⟨h',e'⟩<;>rw[e']
  ·rw[mul_comm];exact nw (LM _ _ h' h)
  ·rw[h',mul_zero,fR];rfl
  ·have:=mul_pos (uc h) (uc h');rw[neg_mul,mul_neg,neg_neg]at this;exact jm this
theorem sg_of(q:Rat):sg (of q)=aE q 0:=by
 rcases(by grind:q<0\/q=0\/0<q)with h|h|h
 ·rw[dD h];exact nw (jF h)
 ·rw[h,dP];exact fR
 ·rw[dq h];exact jm (jF h)
def addS(s t d:Int):Int:=bif t==0||s==t then s else bif s==0 then t else s*d
theorem Mj(x y:RE):sg (x+y)=addS (sg x) (sg y) (sg (x*x-y*y)):=by
 rw[<-Yo,tM];rcases df x with⟨h,e⟩|⟨h,e⟩|⟨h,e⟩<;>rw[e]
 ·rcases df y with⟨h',e'⟩|⟨h',e'⟩|⟨h',e'⟩<;>rw[e']
  ·exact jm (YA _ _ h h')
  ·rw[h',add_zero,e];rfl
  ·rw[jm (XT _ _ h h')];show _=1*(_*1)
   omega
 ·rcases df y with⟨h',e'⟩|⟨h',e'⟩|⟨h',e'⟩<;>rw[e',h,zero_add,e']<;>rfl
 ·rcases df y with⟨h',e'⟩|⟨h',e'⟩|⟨h',e'⟩<;>rw[e']
  ·rw[nw (XY _ _ h h')];show _= -1*(_* -1)
   omega
  ·rw[h',add_zero,e];rfl
  ·exact nw (YY _ _ h h')
end RE
end
def t7:Nat->Nat->Nat
 |0,_=>0
 |f+1,n=>bif decide (n=0)then 0 else bif decide ((2*t7 f (n/4)+1)*(2*t7 f (n/4)+1)<=n)then 2*t7 f (n/4)+1 else 2*t7 f (n/4)
def NZ(n:Nat):Nat:=t7 (n.log2+1) n
theorem H9:∀(f n:Nat),n<2^f->t7 f n*t7 f n<=n/\n<(t7 f n+1)*(t7 f n+1)
 |0,n,h=>by
  have:n=0:=by simpa using h
  subst this;exact⟨afs _,by decide⟩
 |f+1,n,h=>by
  rcases age n with h0|h0
  ·subst h0;show t7 (f+1) 0*t7 (f+1) 0<=0/\_;exact⟨afs _,by show 0<(0+1)*(0+1);decide⟩
  ·have h4:n/4<2^f:=by
    rw[Nat.pow_succ]at h;omega
   obtain⟨h1,h2⟩:=H9 f (n/4) h4;simp only[t7];rw[afo (show ¬n=0 by omega)];generalize t7 f (n/4)=s at h1 h2;have e1:(2*s)*(2*s)=4*(s*s):=by grind
   have e2:(2*s+1+1)*(2*s+1+1)=4*((s+1)*(s+1)):=by grind
   by_cases hc:(2*s+1)*(2*s+1)<=n
   ·rw[afm hc];exact⟨hc,by show n<(2*s+1+1)*(2*s+1+1);rw[e2];omega⟩
   ·rw[afo hc];exact⟨by show(2*s)*(2*s)<=n;rw[e1];omega,by show n<(2*s+1)*(2*s+1);omega⟩
theorem Sm(n:Nat):NZ n*NZ n<=n/\n<(NZ n+1)*(NZ n+1):=H9 _ n Nat.lt_log2_self
def bJ(z:Int):Int:=(NZ z.toNat:Int)
theorem fK{z:Int}(h:0<=z):0<=bJ z/\bJ z*bJ z<=z/\z<(bJ z+1)*(bJ z+1):=by
 obtain⟨h1,h2⟩:=Sm z.toNat
 grind [bJ]
theorem sh{a b:Int}(ha:0<=a)(h:a<=b):a*a<=b*b:=ahw h h ha (by omega)
theorem sq_lt{a b:Int}(hb:0<=b)(h:a*a<b*b):a<b:=by
 apply afF;intro hc;have:=sh hb (show b<=a by omega);omega
theorem Su{z s:Int}(h0:0<=s)(h1:s*s<=z)(h2:z<(s+1)*(s+1)):bJ z=s:=by
 obtain⟨g0,g1,g2⟩:=fK (show 0<=z by have:=sh (a:=0) (by omega) h0;omega);have a1:=sq_lt (b:=s+1) (a:=bJ z) (by omega) (by omega);have a2:=sq_lt (b:=bJ z+1) (a:=s) (by omega) (by omega);omega
theorem OU{a x s:Int}(hx:0<x)(_hs:0<=s)(h1:s*s<=a):s<=(x+a/x)/2:=by
 have hq:=af8 a x;have hm:=af1 a hx;apply afF;intro hc;have h2:a/x<=2*s-x-1:=by omega
 have h3:x*(a/x)<=x*(2*s-x-1):=afu h2 (by omega)
 have h4:0<=(s-x)*(s-x):=by
  rcases Int.le_total 0 (s-x)with h|h
  ·exact agk h h
  ·exact Int.mul_nonneg_of_nonpos_of_nonpos h h
 grind
theorem xY{a x s:Int}(hx:0<x)(hs:s<=x)(_h1:s*s<=a)(h2:a<(s+1)*(s+1))(h3:0<=s)(h:x<=(x+a/x)/2):x=s:=by
 have hq:=af8 a x;have hm:=agu a (show x≠0 by omega);have h4:x<=a/x:=by omega
 have h5:x*x<=x*(a/x):=afu h4 (by omega);have:=sq_lt (a:=x) (b:=s+1) (by omega) (by omega);omega
def fJ(x:BI):BI:=bif x.1 then(false,[])else ai (bJ (ae x))
def uR(x:BI):Int:=bif x.1 then 7 else 0
def vo:List En:=[⟨223,nM,kq⟩,⟨163,qU,lV⟩,⟨227,oO,ky⟩,⟨248,xZ,sO⟩,⟨302,A0,wP⟩]
def WJ:NT:=[((331,25),{keep:=[1,2,5,6],hl:=6})]
def Hi:Ctx:=CX (ens vo) WJ
def mZ(x:Bool×List Int)(b4_0:Bool)(b4_1:List Int):Cfg:=⟨331,[.blk 0],[(1,.box 0 0),(2,.box 1 0),(5,.box 4 0),(6,.box 5 0)],[.box 29 [SB x.1,.d aix x.2],.box 29 [SB false,.nil],.gone,.row 200 aiz ([1]),.box 29 [SB b4_0,.d aix b4_1],.box 29 [SB ((ai (2:Int)).1),.d aix ((ai (2:Int)).2)]],0,[]⟩
def GE(x:Bool×List Int)(k:KT):OLR:=match x.1 with|true=>some [RV.d y2Y (false,[]),RV.d aiy 7]|false=>(match(x.2.length:Int)==0 with|true=>some [RV.d y2Y (false,[]),RV.d aiy 0]|false=>(og (decide ((0:Int)<=i64.wrap (Int.tdiv (i64.wrap ((x.2.length:Int)+1)) 2)/\(i64.wrap (Int.tdiv (i64.wrap ((x.2.length:Int)+1)) 2))*((4:Nat):Int)<=140737488355328/\i64.wrap (Int.tdiv (i64.wrap ((x.2.length:Int)+1)) 2)<=140737488355328)) (og (decide (((List.replicate (i64.wrap (Int.tdiv (i64.wrap ((x.2.length:Int)+1)) 2)).toNat (0:Int)).length+([1]).length)*4<=140737488355328/\(List.replicate (i64.wrap (Int.tdiv (i64.wrap ((x.2.length:Int)+1)) 2)).toNat (0:Int)).length+([1]).length<=140737488355328)) (og (decide (aO ((List.replicate (i64.wrap (Int.tdiv (i64.wrap ((x.2.length:Int)+1)) 2)).toNat (0:Int))++([1])))) (og (decide (a9 (2:Int))) (k 25 (mZ x ((ai (cf false (val ((List.replicate (i64.wrap (Int.tdiv (i64.wrap ((x.2.length:Int)+1)) 2)).toNat (0:Int))++([1]))))).1) ((ai (cf false (val ((List.replicate (i64.wrap (Int.tdiv (i64.wrap ((x.2.length:Int)+1)) 2)).toNat (0:Int))++([1]))))).2))))))))
theorem Pr(x:Bool×List Int):RS Hi 331 [.d y2Y x] (GE x):=rsX
def ug(x:Bool×List Int)(b4_0:Bool)(b4_1:List Int)(k:KT):OLR:=og (decide (eZ x (b4_0,b4_1))) (cS (og (decide (okI (b4_0,b4_1)/\okI (ai (ae x/ae (b4_0,b4_1))))) (cS (og (decide (eZ (ai (ae (b4_0,b4_1)+ae (ai (ae x/ae (b4_0,b4_1))))) (ai (2:Int)))) (dup (.b .l .l) (og (decide (okI (ai (ae (ai (ae (b4_0,b4_1)+ae (ai (ae x/ae (b4_0,b4_1)))))/ae (ai (2:Int))))/\okI (b4_0,b4_1))) (match decide ((cq (ae (ai (ae (ai (ae (b4_0,b4_1)+ae (ai (ae x/ae (b4_0,b4_1)))))/ae (ai (2:Int))))) (ae (b4_0,b4_1)))>=0)with|true=>some [RV.d y2Y (b4_0,b4_1),RV.d aiy 0]|false=>k 25 (mZ x ((ai (ae (ai (ae (b4_0,b4_1)+ae (ai (ae x/ae (b4_0,b4_1)))))/ae (ai (2:Int)))).1) ((ai (ae (ai (ae (b4_0,b4_1)+ae (ai (ae x/ae (b4_0,b4_1)))))/ae (ai (2:Int)))).2)))))) (dup (.b (.b .l .l) (.b .l .l)) (og (decide (eZ (ai (ae (b4_0,b4_1)+ae (ai (ae x/ae (b4_0,b4_1))))) (ai (2:Int)))) (og (decide (okI (ai (ae (ai (ae (b4_0,b4_1)+ae (ai (ae x/ae (b4_0,b4_1)))))/ae (ai (2:Int))))/\okI (b4_0,b4_1))) (match decide ((cq (ae (ai (ae (ai (ae (b4_0,b4_1)+ae (ai (ae x/ae (b4_0,b4_1)))))/ae (ai (2:Int))))) (ae (b4_0,b4_1)))>=0)with|true=>some [RV.d y2Y (b4_0,b4_1),RV.d aiy 0]|false=>k 25 (mZ x ((ai (ae (ai (ae (b4_0,b4_1)+ae (ai (ae x/ae (b4_0,b4_1)))))/ae (ai (2:Int)))).1) ((ai (ae (ai (ae (b4_0,b4_1)+ae (ai (ae x/ae (b4_0,b4_1)))))/ae (ai (2:Int)))).2)))))))) (dup (.b .l .l) (cS (og (decide (okI (b4_0,b4_1)/\okI (ai (ae x/ae (b4_0,b4_1))))) (dup (.b .l .l) (og (decide (eZ (ai (ae (b4_0,b4_1)+ae (ai (ae x/ae (b4_0,b4_1))))) (ai (2:Int)))) (og (decide (okI (ai (ae (ai (ae (b4_0,b4_1)+ae (ai (ae x/ae (b4_0,b4_1)))))/ae (ai (2:Int))))/\okI (b4_0,b4_1))) (match decide ((cq (ae (ai (ae (ai (ae (b4_0,b4_1)+ae (ai (ae x/ae (b4_0,b4_1)))))/ae (ai (2:Int))))) (ae (b4_0,b4_1)))>=0)with|true=>some [RV.d y2Y (b4_0,b4_1),RV.d aiy 0]|false=>k 25 (mZ x ((ai (ae (ai (ae (b4_0,b4_1)+ae (ai (ae x/ae (b4_0,b4_1)))))/ae (ai (2:Int)))).1) ((ai (ae (ai (ae (b4_0,b4_1)+ae (ai (ae x/ae (b4_0,b4_1)))))/ae (ai (2:Int)))).2))))))) (og (decide (okI (b4_0,b4_1)/\okI (ai (ae x/ae (b4_0,b4_1))))) (og (decide (eZ (ai (ae (b4_0,b4_1)+ae (ai (ae x/ae (b4_0,b4_1))))) (ai (2:Int)))) (og (decide (okI (ai (ae (ai (ae (b4_0,b4_1)+ae (ai (ae x/ae (b4_0,b4_1)))))/ae (ai (2:Int))))/\okI (b4_0,b4_1))) (match decide ((cq (ae (ai (ae (ai (ae (b4_0,b4_1)+ae (ai (ae x/ae (b4_0,b4_1)))))/ae (ai (2:Int))))) (ae (b4_0,b4_1)))>=0)with|true=>some [RV.d y2Y (b4_0,b4_1),RV.d aiy 0]|false=>k 25 (mZ x ((ai (ae (ai (ae (b4_0,b4_1)+ae (ai (ae x/ae (b4_0,b4_1)))))/ae (ai (2:Int)))).1) ((ai (ae (ai (ae (b4_0,b4_1)+ae (ai (ae x/ae (b4_0,b4_1)))))/ae (ai (2:Int)))).2)))))))))
theorem zD(x:Bool×List Int)(b4_0:Bool)(b4_1:List Int):RN Hi 25 (mZ x b4_0 b4_1) (ug x b4_0 b4_1):=rnX
def Yd:NT:=[((326,16),{keep:=[1,4,5],hl:=1})]
def HP:Ctx:=CX (ens vo) Yd
def vD(x:Bool×List Int)(s4 s5:Int):Cfg:=⟨326,[.blk 0,.seq 27],[(1,.box 0 0),(4,.d (.int .u64) s4),(5,SI s5)],[.box 29 [SB x.1,.d aix x.2]],0,[]⟩
def H8(x:Bool×List Int)(k:KT):OLR:=og (decide (a9 ((-9223372036854775808):Int))) (og (decide (okI x/\okI (ai ((-9223372036854775808):Int)))) (dup (.b .l .l) (match decide ((cq (ae x) (ae (ai ((-9223372036854775808):Int))))<0)with|true=>some [RV.d aiy 0,RV.d .bool false]|false=>(og (decide (a9 (9223372036854775807:Int))) (og (decide (okI x/\okI (ai (9223372036854775807:Int)))) (match decide ((cq (ae x) (ae (ai (9223372036854775807:Int))))>0)with|true=>some [RV.d aiy 0,RV.d .bool false]|false=>k 16 (vD x 0 (i64.wrap ((x.2.length:Int)-1)))))))))
theorem Ph(x:Bool×List Int):RS HP 326 [.d y2Y x] (H8 x):=rsX
def ui(x:Bool×List Int)(s4 s5:Int)(k:KT):OLR:=match decide (s5>=0)with|true=>(match aG x.2 s5 with|some x1=>k 16 (vD x (u64.wrap ((u64.wrap (s4*1000000000))+(u64.wrap x1))) (i64.wrap (s5-1)))|none=>none)|false=>(match x.1 with|true=>some [RV.d aiy (i64.wrap (u64.wrap (0-s4))),RV.d .bool true]|false=>some [RV.d aiy (i64.wrap s4),RV.d .bool true])
theorem yN(x:Bool×List Int)(s4 s5:Int):RN HP 16 (vD x s4 s5) (ui x s4 s5):=rnX
theorem Mr(x:BI)(hx:okI x)(h0:0<ae x):∀(m:Nat) (X:Int),X.toNat=m->0<X->bJ (ae x)<=X->szI X<=900000->Hi.Runs 25 (mZ x (ai X).1 (ai X).2) [.d y2Y (ai (bJ (ae x))),.d aiy 0]:=by
 intro m;induction m using Nat.strongRecOn with
 |ind m ih=>
  intro X hm hX hs hsz;obtain⟨g0,g1,g2⟩:=fK (af0 h0);have hq0:0<=ae x/X:=agp (by omega) (by omega);have hq1:ae x/X<=ae x:=ahg _ (by omega);have oX:okI (ai X):=aR (by omega);have sq:szI (ae x/X)<=1000000:=afA (dg (by omega)) (ir hx);have p1:eZ x (ai X):=⟨hx,oX,by rw[dec_enc];exact hX⟩
  have ssum:szI (X+ae x/X)<=1000000:=by
   have b1:=mC hsz;have b2:=mC (ir hx);have e:pw 1000000=pw 900000*pw 100000:=by rw[<-fe]
   have p9:(1000:Int)<=pw 100000:=by
    have:pw 100000=pw 99999*1000000000:=ce 99999;have:=co 99999;omega
   have p8:=co 900000;have h8:pw 900000*1000<=pw 900000*pw 100000:=afu p9 (by omega);rcases afT X 2 with hX1|hX1
   ·-- X=1:then the number is less than 4
    have:X=1:=by omega
    subst this;have:bJ (ae x)<=1:=hs
    have h4:ae x<4:=by
     have:=sh (a:=bJ (ae x)+1) (b:=2) (by omega) (by omega);omega
    refine eV ?_ ?_<;>(rw[e,Int.ediv_one];omega)
   ·have hq2:ae x/X<=ae x/2:=by
     have:=Int.ediv_mul_le (ae x) (show X≠0 by omega);have h2:ae x/X*2<=ae x/X*X:=afu hX1 hq0;omega
    refine eV ?_ ?_<;>(rw[e]at b2 ⊢;omega)
  have o1:okI (ai X)/\okI (ai (ae x/X)):=⟨oX,aR sq⟩
  have p2:eZ (ai (X+ae x/X)) (ai 2):=⟨aR ssum,by decide,by rw[dec_enc];decide⟩
  have hn:=OU hX g0 g1;have o2:okI (ai ((X+ae x/X)/2))/\okI (ai X):=⟨aR (afA (dg (by omega)) ssum),oX⟩
  by_cases hc:X<=(X+ae x/X)/2
  ·have hXs:=xY hX hs g1 g2 g0 hc;refine zD _ _ _ ⟨0,?_⟩;unfold ug;simp only[cM,dV];have e:∀z:Int,((ai z).1,(ai z).2)=ai z:=λz=>rfl;simp only[e,dec_enc,afm p1,afm o1,afm p2,afm o2]
   have hg:decide (cq ((X+ae x/X)/2) X>=0)=true:=by
    rcases Int.lt_or_eq_of_le hc with h|h
    ·rw[cH h];rfl
    ·rw[<-h,dO];rfl
   rw[hg,hXs]
  ·obtain⟨n,hN⟩:=ih ((X+ae x/X)/2).toNat (by omega) ((X+ae x/X)/2) rfl (by
    rcases afT 0 (bJ (ae x))with h|h
    ·omega
    ·exfalso;have:bJ (ae x)=0:=by omega
     rw[this]at g2;omega) hn (afA (dg (by omega)) hsz)
   refine zD _ _ _ ⟨n,?_⟩;unfold ug;simp only[cM,dV];have e:∀z:Int,((ai z).1,(ai z).2)=ai z:=λz=>rfl;simp only[e,dec_enc,afm p1,afm o1,afm p2,afm o2];rw[cW (by omega)];exact hN
def UZ:Cn 331 [y2Y]:=cn λ(x:Bool×List Int)=>lf (okI x) [.d y2Y (fJ x),.d aiy (uR x)] λh=>by
 refine dm vo (show Hi.Res _ _ _ from ?_);obtain⟨x0,x1,x2⟩:=cC h;have hl:=h.2.2;cases hn:x.1
 ·by_cases hz:x.2=[]
  ·refine Pr _ ⟨0,?_⟩;unfold GE fJ uR;have:ae x=0:=by unfold ae;rw[hn,hz];rfl
   rw[hn,hz,this];rfl
  ·have hp:0<val x.2:=eo h.1 hz;have hd:ae x=val x.2:=by unfold ae;rw[hn];rfl
   have hlen:=af4.2 hz
   have hk:i64.wrap (Int.tdiv (i64.wrap ((x.2.length:Int)+1)) 2)=(((x.2.length+1)/2:Nat):Int):=by
    rw[bH (by omega),gR (by omega),aM (by omega) (by omega)];omega
   have hv:val (List.replicate ((x.2.length+1)/2) 0++[1])=pw ((x.2.length+1)/2):=by
    rw[dh,gC,ahS];simp[val]
   have hL:aO (List.replicate ((x.2.length+1)/2) 0++[1]):=by
    refine⟨λy hy=>?_,by simp;omega⟩;rcases afL.1 hy with hy|hy
    ·have:=List.eq_of_mem_replicate hy;omega
    ·simp at hy;omega
   have hpos:=co ((x.2.length+1)/2)
   obtain⟨n,hN⟩:=Mr x h (by omega) _ (pw ((x.2.length+1)/2)) rfl hpos (by
     obtain⟨g0,g1,g2⟩:=fK (show 0<=ae x by omega);have hlt:=b8 h.1.1;have hm:=c8 (show x.2.length<=(x.2.length+1)/2+(x.2.length+1)/2 by omega);rw[fe]at hm;have:=sq_lt (a:=bJ (ae x)) (b:=pw ((x.2.length+1)/2)) (by omega) (by omega)
     omega) (eV (k:=900000) (by have:=co 900000;omega) (by
      have:=c8 (show(x.2.length+1)/2+1<=900000 by omega);rw[ce]at this;omega))
   refine Pr _ ⟨n,?_⟩;unfold GE fJ uR;simp only[hk];rw[hn,show((x.2.length:Int)==0)=false by simp;omega];simp only[ahm];rw[afm (show(0:Int)<=(((x.2.length+1)/2:Nat):Int)/\(((x.2.length+1)/2:Nat):Int)*((4:Nat):Int)<=140737488355328/\(((x.2.length+1)/2:Nat):Int)<=140737488355328 by omega)];rw[afm (show((List.replicate ((x.2.length+1)/2) (0:Int)).length+([1]:List Nat).length)*4<=140737488355328/\(List.replicate ((x.2.length+1)/2) (0:Int)).length+([1]:List Nat).length<=140737488355328 by simp;omega)];rw[afm hL,afm (show a9 2 by decide),hv];exact hN
 ·refine Pr _ ⟨0,?_⟩;unfold GE fJ uR;rw[hn];rfl
theorem DM(x:BI)(hx:okI x)(hv:val x.2<=9223372036854775808):∀(i:Nat),i<=x.2.length->HP.Runs 16 (vD x (val (x.2.drop i)) ((i:Int)-1)) [.d aiy (i64.wrap (bif x.1 then u64.wrap (0-val x.2)else val x.2)),.d .bool true]
 |0,_=>by
  refine yN _ _ _ ⟨0,?_⟩;unfold ui;rw[afo (by omega),agQ];cases x.1<;>rfl
 |i+1,hi=>by
  obtain⟨n,ih⟩:=DM x hx hv i (by omega);have h0:=hx.2.2;have hlim:=hx.1.1;have hd:x.2.drop i=x.2[i]::x.2.drop (i+1):=gU (by omega)
  have hle:∀j,val (x.2.drop j)<=9223372036854775808/\0<=val (x.2.drop j):=λj=>by
   have l1:Lim (x.2.drop j):=λy hy=>hlim y (ahy hy);have l2:Lim (x.2.take j):=λy hy=>hlim y (ahx hy);have:=dh (x.2.take j) (x.2.drop j);rw[agI]at this;have n1:=aN l1;have n2:=aN l2;have p:=co (x.2.take j).length
   have:val (x.2.drop j)<=pw (x.2.take j).length*val (x.2.drop j):=by
    have:=afB (show 1<=pw (x.2.take j).length by omega) n1;omega
   omega
  have hb:=hlim x.2[i] (afU _);have hv1:=hle i;have hv2:=hle (i+1);rw[hd]at hv1 ih;simp only[val]at hv1 ih;refine yN _ _ _ ⟨n,?_⟩;unfold ui;rw[show(((i+1:Nat):Int)-1)=(i:Int) by omega,afm (by omega),am,afn (by omega)];dsimp only;rw[a8 (x:=val (x.2.drop (i+1))*1000000000) (by omega) (by omega),a8 (x:=x.2[i]) (by omega) (by omega),a8 (by omega) (by omega),aM (by omega) (by omega)];rw[show val (x.2.drop (i+1))*1000000000+x.2[i]=x.2[i]+1000000000*val (x.2.drop (i+1)) by omega];exact ih
def Vl:Cn 326 [y2Y]:=cn λ(x:Bool×List Int)=>lf (okI x) [.d aiy (bif decide (a9 (ae x))then ae x else 0),.d .bool (decide (a9 (ae x)))] λh=>by
 refine dm vo (show HP.Res _ _ _ from ?_);obtain⟨x0,x1,x2⟩:=cC h;have o1:okI x/\okI (ai (-9223372036854775808)):=⟨h,by decide⟩
 have o2:okI x/\okI (ai 9223372036854775807):=⟨h,by decide⟩
 have hl:=h.2.2;by_cases h1:ae x< -9223372036854775808
 ·refine Ph _ ⟨0,?_⟩;unfold H8;simp only[dV,dec_enc,afm o1];rw[afm (show a9 (-9223372036854775808) by decide),cW h1,afo (show ¬a9 (ae x) from λg=>by have:=g.1;omega)];rfl
 ·have c1:decide (cq (ae x) (-9223372036854775808)<0)=false:=by
   rcases Int.lt_or_eq_of_le (show-9223372036854775808<=ae x by omega)with g|g
   ·rw[cH g];rfl
   ·rw[<-g,dO];rfl
  by_cases h2:9223372036854775807<ae x
  ·refine Ph _ ⟨0,?_⟩;unfold H8;simp only[dV,dec_enc,afm o1,afm o2];rw[afm (show a9 (-9223372036854775808) by decide),c1,afm (show a9 9223372036854775807 by decide),cH h2,afo (show ¬a9 (ae x) from λg=>by have:=g.2;omega)];rfl
  ·have c2:decide (cq (ae x) 9223372036854775807>0)=false:=by
    rcases Int.lt_or_eq_of_le (show ae x<=9223372036854775807 by omega)with g|g
    ·rw[cW g];rfl
    ·rw[g,dO];rfl
   have hp:a9 (ae x):=⟨by omega,by omega⟩
   have hvv:val x.2<=9223372036854775808:=by
    have g1:=hp.1;have g2:=hp.2;have hd:ae x=bif x.1 then-val x.2 else val x.2:=rfl;cases hb:x.1<;>rw[hb]at hd<;>simp only[cond_true,cond_false]at hd<;>omega
   obtain⟨n,hN⟩:=DM x h hvv x.2.length (afs _);refine Ph _ ⟨n,?_⟩;unfold H8;simp only[dV,dec_enc,afm o1,afm o2];rw[afm (show a9 (-9223372036854775808) by decide),c1,afm (show a9 9223372036854775807 by decide),c2,afm hp];rw[ahH]at hN;rw[aM (by omega) (by omega)];refine hN.trans ?_
   have hr:i64.wrap (bif x.1 then u64.wrap (0-val x.2)else val x.2)=ae x:=by
    have hd:ae x=bif x.1 then-val x.2 else val x.2:=rfl;have:=hp.1;have:=hp.2;cases hb:x.1<;>rw[hb]at hd<;>simp only[cond_true,cond_false]at hd ⊢
    ·rw[aM (by omega) (by omega)];omega
    ·have:=x1 hb;rw[aga,IntKind.wrap_i64];omega
   rw[hr];rfl
def rQ(a:List Int):Prop:=aO a/\val a<18446744073709551616
instance (a:List Int):Decidable (rQ a):=by unfold rQ;infer_instance
def qi(a b:List Int):Prop:=(can a/\a.length<=1000000000)/\(can b/\b.length<=1000000000)
instance (a b:List Int):Decidable (qi a b):=by unfold qi;infer_instance
def iW(l:List Int):Prop:=Lim l/\l.length<=10000000
instance (l:List Int):Decidable (iW l):=by unfold iW;infer_instance
theorem cA{n:Nat}(h:(ag n).length<=1000000000):aO (ag n):=⟨cd n,h⟩
theorem bW{v:Int}(h:0<=v):val (ag v.toNat)=v:=by grind [aZ]
theorem ct{v:Int}{k:Nat}(h0:0<=v)(h:v<pw k):(ag v.toNat).length<=k:=c7 (by omega)
def m7:List En:=[]
def PM:NT:=[((241,4),{keep:=[0],pure_:=[(0,.int .u32)],hl:=0})]
def AJ:Ctx:=CX (ens m7) PM
def vE(s0:List Int):Cfg:=⟨241,[.blk 0,.seq 13],[(0,.d aix s0)],[],0,[]⟩
def XD(a:List Int)(k:KT):OLR:=k 4 (vE a)
theorem Wy(a:List Int):RS AJ 241 [.d aix a] (XD a):=rsX
def tn(s0:List Int)(k:KT):OLR:=match decide ((s0.length:Int)>0)with|true=>(match aG s0 (i64.wrap ((s0.length:Int)-1))with|some x1=>(match x1==0 with|true=>(og (decide ((0:Int)<=0/\0<=i64.wrap ((s0.length:Int)-1)/\i64.wrap ((s0.length:Int)-1)<=(s0.length:Int))) (k 4 (vE ((s0.take (i64.wrap ((s0.length:Int)-1)).toNat).drop (0:Int).toNat))))|false=>some [RV.d aix s0])|none=>none)|false=>some [RV.d aix s0]
theorem uh(s0:List Int):RN AJ 4 (vE s0) (tn s0):=rnX
def Sb:NT:=[((243,8),{keep:=[0,3,4],hl:=0})]
def AE:Ctx:=CX (ens m7) Sb
def vN(a:List Int)(s3 s4:Int):Cfg:=⟨243,[.blk 0,.seq 19],[(0,.d aix a),(3,.d (.int .u64) s3),(4,SI s4)],[],0,[]⟩
def JW(a:List Int)(k:KT):OLR:=k 8 (vN a 0 (i64.wrap ((a.length:Int)-1)))
theorem YM(a:List Int):RS AE 243 [.d aix a] (JW a):=rsX
def t4(a:List Int)(s3 s4:Int)(k:KT):OLR:=match decide (s4>=0)with|true=>(match aG a s4 with|some x1=>k 8 (vN a (u64.wrap ((u64.wrap (s3*1000000000))+(u64.wrap x1))) (i64.wrap (s4-1)))|none=>none)|false=>some [RV.d (.int .u64) s3]
theorem yr(a:List Int)(s3 s4:Int):RN AE 8 (vN a s3 s4) (t4 a s3 s4):=rnX
def Sv:NT:=[((178,6),{keep:=[0,3],own:=[(3,200,.int .u32)],hl:=1})]
def AD:Ctx:=CX (ens m7) Sv
def u7(s0:Int)(r0:List Int):Cfg:=⟨178,[.blk 0,.seq 17],[(0,.d (.int .u64) s0),(3,.own 0)],[.row 200 aiz r0],0,[]⟩
def Wc(u:Int)(k:KT):OLR:=k 6 (u7 u ([]))
theorem YH(u:Int):RS AD 178 [.d (.int .u64) u] (Wc u):=rsX
def tk(s0:Int)(r0:List Int)(k:KT):OLR:=match decide (s0>0)with|true=>(og (decide ((r0.length+([u32.wrap (Int.tmod s0 1000000000)]).length)*4<=140737488355328/\r0.length+([u32.wrap (Int.tmod s0 1000000000)]).length<=140737488355328)) (k 6 (u7 (u64.wrap (Int.tdiv s0 1000000000)) (r0++([u32.wrap (Int.tmod s0 1000000000)])))))|false=>some [RV.new 200 aiz r0]
theorem zP(s0:Int)(r0:List Int):RN AD 6 (u7 s0 r0) (tk s0 r0):=rnX
def Sq:NT:=[((155,22),{keep:=[0,1,5],hl:=0})]
def zY:Ctx:=CX (ens m7) Sq
def rM(a b:List Int)(s5:Int):Cfg:=⟨155,[.blk 0,.seq 47],[(0,.d aix a),(1,.d aix b),(5,SI s5)],[],0,[]⟩
def Ff(a b:List Int)(k:KT):OLR:=match(a.length:Int) !=(b.length:Int)with|true=>(match decide ((a.length:Int)<(b.length:Int))with|true=>some [RV.d aiy (-1)]|false=>some [RV.d aiy 1])|false=>k 22 (rM a b (i64.wrap ((a.length:Int)-1)))
theorem Le(a b:List Int):RS zY 155 [.d aix a,.d aix b] (Ff a b):=rsX
def kn(a b:List Int)(s5:Int)(k:KT):OLR:=match decide (s5>=0)with|true=>(match aG a s5 with|some x1=>(match aG b s5 with|some x2=>(match decide (x1<x2)with|true=>some [RV.d aiy (-1)]|false=>(match aG a s5 with|some x3=>(match aG b s5 with|some x4=>(match decide (x3>x4)with|true=>some [RV.d aiy 1]|false=>k 22 (rM a b (i64.wrap (s5-1))))|none=>none)|none=>none))|none=>none)|none=>none)|false=>some [RV.d aiy 0]
theorem mX(a b:List Int)(s5:Int):RN zY 22 (rM a b s5) (kn a b s5):=rnX
theorem I3(l:List Int)(hl:Lim l)(hs:l.length<=1000000000):∀(n:Nat),n<=l.length->(∀j (hj:j<l.length),n<=j->l[j]=0)->AJ.Runs 4 (vE (l.take n)) [.d aix (ag (val l).toNat)]:=by
 intro n;induction n with
 |zero=>
  intro _ h;refine uh _ ⟨0,?_⟩;rw[<-mn hl (ahn _) h (.inl rfl)];rfl
 |succ n ih=>
  intro hn h;have hlen:(l.take (n+1)).length=n+1:=by rw[af3,af7 hn]
  have hget:(l.take (n+1))[n]?=some l[n]:=by rw[List.getElem?_take_of_lt (by omega),afn (by omega)]
  by_cases hz:l[n]=0
  ·obtain⟨q,hq⟩:=ih (by omega) λj hj hk=>by
    rcases Nat.eq_or_lt_of_le hk with e|e
    ·subst e;exact hz
    ·exact h j hj e
   refine uh _ ⟨q,?_⟩;unfold tn;rw[hlen,afm (by omega),It (by omega) (by omega),am,show n+1-1=n from rfl,hget];dsimp only;rw[hz,afm (show(0:Int)<=0/\(0:Int)<=(n:Int)/\(n:Int)<=((n+1:Nat):Int) by omega),aA,ah9,af7 (by omega)];exact hq
  ·refine uh _ ⟨0,?_⟩;unfold tn;rw[hlen,afm (by omega),It (by omega) (by omega),am,show n+1-1=n from rfl,hget];dsimp only;rw[show(l[n]==0)=false by simpa using hz,<-mn hl hn h (.inr ⟨Nat.lt_of_succ_le hn,hz⟩)]
def xK:Cn 241 [aix]:=cn λ(a:List Int)=>lf (aO a) [.d aix (ag (val a).toNat)] λh=>by
 refine dm m7 (show AJ.Res _ _ _ from ?_);obtain⟨q,hq⟩:=I3 a h.1 h.2 a.length (afs _) (λj hj hk=>by omega);rw[agC]at hq;exact Wy _ ⟨q,hq⟩
theorem IV(u:Nat):∀(r:List Int),(u:Int)<18446744073709551616->r.length+3<=1000+3-(ag u).length->AD.Runs 6 (u7 (u:Int) r) [.new 200 aiz (r++ag u)]:=by
 induction u using pi with
 |h0=>
  intro r _ _;refine zP _ _ ⟨0,?_⟩;unfold tk;rw[fG,afO];rfl
 |h1 n hn ih=>
  intro r hu hr;rw[iD hn]at hr;simp only[afD]at hr;obtain⟨q,hq⟩:=ih (r++[((n%1000000000:Nat):Int)]) (by omega) (by rw[afN];simp only[afH];omega);refine zP _ _ ⟨q,?_⟩;unfold tk;rw[afm (by omega),jl (by omega),gR (by omega),a8 (x:=(n:Int)/1000000000) (by omega) (by omega),cU (x:=(n:Int)%1000000000) (by omega) (by omega)];simp only[afH];rw[Xy (by omega) (by omega),iD hn];rw[show((n:Int)%1000000000)=((n%1000000000:Nat):Int) by omega,show((n:Int)/1000000000)=((n/1000000000:Nat):Int) by omega];rw[afG]at hq;exact hq
def Ay:Cn 178 [(.int .u64)]:=cn λ(u:Int)=>lf (im u) [.new 200 aiz (ag u.toNat)] λh=>by
 refine dm m7 (show AD.Res _ _ _ from ?_);have h0:=h.1;have h1:=h.2;have hl:=c7 (n:=u.toNat) (k:=3) (ahN (show(u.toNat:Int)<18446744073709551616 by omega) (by decide));obtain⟨q,hq⟩:=IV u.toNat [] (by omega) (by simp;omega)
 rw[show((u.toNat:Nat):Int)=u by omega]at hq;exact YH _ ⟨q,hq⟩
theorem zF(a:List Int)(h:rQ a):∀(i:Nat),i<=a.length->AE.Runs 8 (vN a (val (a.drop i)) ((i:Int)-1)) [.d (.int .u64) (val a)]
 |0,_=>by
  refine yr _ _ _ ⟨0,?_⟩;unfold t4;rw[afo (by omega),agQ]
 |i+1,hi=>by
  obtain⟨n,ih⟩:=zF a h i (by omega);have h0:=h.1.2;have hlim:=h.1.1;have hlt:=h.2;have hd:a.drop i=a[i]::a.drop (i+1):=gU (by omega)
  have hle:∀j,val (a.drop j)<=val a/\0<=val (a.drop j):=λj=>by
   have l1:Lim (a.drop j):=λy hy=>hlim y (ahy hy);have l2:Lim (a.take j):=λy hy=>hlim y (ahx hy);have:=dh (a.take j) (a.drop j);rw[agI]at this;have n1:=aN l1;have n2:=aN l2;have p:=co (a.take j).length
   have:val (a.drop j)<=pw (a.take j).length*val (a.drop j):=by
    have:=afB (show 1<=pw (a.take j).length by omega) n1;omega
   omega
  have hb:=hlim a[i] (afU _);have hv1:=hle i;have hv2:=hle (i+1);rw[hd]at hv1 ih;simp only[val]at hv1 ih;refine yr _ _ _ ⟨n,?_⟩;unfold t4;rw[show(((i+1:Nat):Int)-1)=(i:Int) by omega,afm (by omega),am,afn (by omega)];dsimp only;rw[a8 (x:=val (a.drop (i+1))*1000000000) (by omega) (by omega),a8 (x:=a[i]) (by omega) (by omega),a8 (by omega) (by omega),aM (by omega) (by omega)];rw[show val (a.drop (i+1))*1000000000+a[i]=a[i]+1000000000*val (a.drop (i+1)) by omega];exact ih
def z7:Cn 243 [aix]:=cn λ(a:List Int)=>lf (rQ a) [.d (.int .u64) (val a)] λh=>by
 refine dm m7 (show AE.Res _ _ _ from ?_);obtain⟨n,hn⟩:=zF a h a.length (afs _);have h0:=h.1.2;refine YM _ ⟨n,?_⟩;unfold JW;rw[ahH]at hn;rw[aM (by omega) (by omega)];exact hn
theorem Ji(a b:List Int)(la:Lim a)(lb:Lim b)(hl:a.length=b.length)(hs:a.length<=1000000000):∀(n:Nat),n<=a.length->a.drop n=b.drop n->
  zY.Runs 22 (rM a b ((n:Int)-1)) [.d aiy (cq (val a) (val b))]:=by
 intro n;induction n with
 |zero=>
  intro _ h;refine mX _ _ _ ⟨0,?_⟩;have e:val a=val b:=by simp only[agQ]at h;rw[h]
  unfold kn;rw[afo (by omega),e,dO]
 |succ n ih=>
  intro hn h;have h1:n<a.length:=by omega
  have h2:n<b.length:=by omega
  rcases Int.lt_trichotomy a[n] b[n]with hc|hc|hc
  ·refine mX _ _ _ ⟨0,?_⟩;have:=AL la lb h1 h2 h hc;unfold kn;rw[show((n+1:Nat):Int)-1=(n:Int) by omega,afm (by omega),am,am,afn h1,afn h2];dsimp only;rw[afm hc,cW (by omega)]
  ·obtain⟨q,hq⟩:=ih (by omega) (by rw[afC h1,afC h2,hc,h]);refine mX _ _ _ ⟨q,?_⟩;unfold kn;rw[show((n+1:Nat):Int)-1=(n:Int) by omega,afm (by omega),am,am,afn h1,afn h2];dsimp only;rw[afo (by omega),afo (by omega),aM (x:=(n:Int)-1) (by omega) (by omega)];exact hq
  ·refine mX _ _ _ ⟨0,?_⟩;have:=AL lb la h2 h1 h.symm hc;unfold kn;rw[show((n+1:Nat):Int)-1=(n:Int) by omega,afm (by omega),am,am,afn h1,afn h2];dsimp only;rw[afo (by omega),afm hc,cH (by omega)]
theorem G5{a b:List Int}(ha:can a)(hb:can b)(h:a.length<b.length):val a<val b:=by
 have ea:=nJ ha;have eb:=nJ hb;have:=vd (a:=(val a).toNat) (b:=(val b).toNat) (by rw[<-ea,<-eb];exact h);omega
def xR:Cn 155 [aix,aix]:=cn λ(a b:List Int)=>lf (qi a b) [.d aiy (cq (val a) (val b))] λh=>by
 refine dm m7 (show zY.Res _ _ _ from ?_);obtain⟨⟨ha,sa⟩,hb,sb⟩:=h;by_cases hl:a.length=b.length
 ·obtain⟨q,hq⟩:=Ji a b ha.1 hb.1 hl sa _ (afs _) (by rw[ahH,hl,ahH]);refine Le _ _ ⟨q,?_⟩;unfold Ff;rw[show((a.length:Int) !=(b.length:Int))=false by simp[hl],aM (x:=(a.length:Int)-1) (by omega) (by omega)];exact hq
 ·refine Le _ _ ⟨0,?_⟩;unfold Ff;rw[show((a.length:Int) !=(b.length:Int))=true by simp;omega];dsimp only;rcases Nat.lt_or_gt_of_ne hl with h1|h1
  ·have:=G5 ha hb h1;rw[afm (by omega),cW (by omega)]
  ·have:=G5 hb ha h1;rw[afo (by omega),cH (by omega)]
def qj:List En:=enK xK::enK Ay::enF z7::enF xR::m7
def Nc(neg:Bool)(l:List Int)(_k:KT):OLR:=og (decide (aO l)) (match neg with|true=>some [RV.d y2Y (decide (((ag (val l).toNat).length:Int)>0),ag (val l).toNat)]|false=>some [RV.d y2Y (false,ag (val l).toNat)])
def QL:NT:=[((154,16),{keep:=[0,1,5,6,7],hl:=1})]
def wk:Ctx:=CX (ens qj) QL
def kJ(s0 s1 r0:List Int)(s6 s7:Int):Cfg:=⟨154,[.blk 0,.seq 37],[(0,.d aix s0),(1,.d aix s1),(5,.own 0),(6,.d aiz s6),(7,SI s7)],[.row 200 aiz r0],0,[]⟩
def FQ(a b:List Int)(k:KT):OLR:=match decide ((a.length:Int)<(b.length:Int))with|true=>(og (decide ((0:Int)<=i64.wrap ((b.length:Int)+1)/\(i64.wrap ((b.length:Int)+1))*((4:Nat):Int)<=140737488355328/\i64.wrap ((b.length:Int)+1)<=140737488355328)) (k 16 (kJ b a (List.replicate (i64.wrap ((b.length:Int)+1)).toNat (0:Int)) 0 0)))|false=>(og (decide ((0:Int)<=i64.wrap ((a.length:Int)+1)/\(i64.wrap ((a.length:Int)+1))*((4:Nat):Int)<=140737488355328/\i64.wrap ((a.length:Int)+1)<=140737488355328)) (k 16 (kJ a b (List.replicate (i64.wrap ((a.length:Int)+1)).toNat (0:Int)) 0 0)))
theorem Ow(a b:List Int):RS wk 154 [.d aix a,.d aix b] (FQ a b):=rsX
def ms(s0 s1 r0:List Int)(s6 s7:Int)(k:KT):OLR:=match decide (s7<(s0.length:Int))with|true=>(match aG s0 s7 with|some x1=>(match decide (s7<(s1.length:Int))with|true=>(match aG s1 s7 with|some x2=>(match aG r0 s7 with|some _=>(match true,r0[(s7).toNat]? with|true,some _=>k 16 (kJ s0 s1 (r0.set ((s7).toNat) (Int.tmod (u32.wrap ((u32.wrap (s6+x1))+x2)) 1000000000)) (u32.wrap (Int.tdiv (u32.wrap ((u32.wrap (s6+x1))+x2)) 1000000000)) (i64.wrap (s7+1)))|_,_=>none)|none=>none)|none=>none)|false=>(match aG r0 s7 with|some _=>(match true,r0[(s7).toNat]? with|true,some _x2=>k 16 (kJ s0 s1 (r0.set ((s7).toNat) (Int.tmod (u32.wrap (s6+x1)) 1000000000)) (u32.wrap (Int.tdiv (u32.wrap (s6+x1)) 1000000000)) (i64.wrap (s7+1)))|_,_=>none)|none=>none))|none=>none)|false=>(match aG r0 (s0.length:Int)with|some _=>(match true,r0[((s0.length:Int)).toNat]? with|true,some _x1=>(og (decide (aO (r0.set (((s0.length:Int)).toNat) s6))) (some [RV.d aix (ag (val (r0.set (((s0.length:Int)).toNat) s6)).toNat)]))|_,_=>none)|none=>none)
theorem qQ(s0 s1 r0:List Int)(s6 s7:Int):RN wk 16 (kJ s0 s1 r0 s6 s7) (ms s0 s1 r0 s6 s7):=rnX
def RZ:NT:=[((156,10),{keep:=[0,1,5,6,7],hl:=1})]
def vY:Ctx:=CX (ens qj) RZ
def iZ(a b:List Int)(s7:Int)(r0:List Int)(s6:Int):Cfg:=⟨156,[.blk 0,.seq 37],[(0,.d aix a),(1,.d aix b),(5,.own 0),(6,.d aiz s6),(7,SI s7)],[.row 200 aiz r0],0,[]⟩
def Jl(a b:List Int)(k:KT):OLR:=og (decide ((0:Int)<=(a.length:Int)/\(a.length:Int)*((4:Nat):Int)<=140737488355328/\(a.length:Int)<=140737488355328)) (k 10 (iZ a b 0 (List.replicate ((a.length:Int)).toNat (0:Int)) 0))
theorem XR(a b:List Int):RS vY 156 [.d aix a,.d aix b] (Jl a b):=rsX
def iC(a b:List Int)(s7:Int)(r0:List Int)(s6:Int)(k:KT):OLR:=match decide (s7<(a.length:Int))with|true=>(match aG a s7 with|some x1=>(match decide (s7<(b.length:Int))with|true=>(match aG b s7 with|some x2=>(match decide ((u32.wrap ((u32.wrap ((u32.wrap (x1+1000000000))-s6))-x2))>=1000000000)with|true=>(match aG r0 s7 with|some _=>(match true,r0[(s7).toNat]? with|true,some _x3=>k 10 (iZ a b (i64.wrap (s7+1)) (r0.set ((s7).toNat) (u32.wrap ((u32.wrap ((u32.wrap ((u32.wrap (x1+1000000000))-s6))-x2))-1000000000))) 0)|_,_=>none)|none=>none)|false=>(match aG r0 s7 with|some _=>(match true,r0[(s7).toNat]? with|true,some _x3=>k 10 (iZ a b (i64.wrap (s7+1)) (r0.set ((s7).toNat) (u32.wrap ((u32.wrap ((u32.wrap (x1+1000000000))-s6))-x2))) 1)|_,_=>none)|none=>none))|none=>none)|false=>(match decide ((u32.wrap ((u32.wrap (x1+1000000000))-s6))>=1000000000)with|true=>(match aG r0 s7 with|some _=>(match true,r0[(s7).toNat]? with|true,some _x2=>k 10 (iZ a b (i64.wrap (s7+1)) (r0.set ((s7).toNat) (u32.wrap ((u32.wrap ((u32.wrap (x1+1000000000))-s6))-1000000000))) 0)|_,_=>none)|none=>none)|false=>(match aG r0 s7 with|some _=>(match true,r0[(s7).toNat]? with|true,some _x2=>k 10 (iZ a b (i64.wrap (s7+1)) (r0.set ((s7).toNat) (u32.wrap ((u32.wrap (x1+1000000000))-s6))) 1)|_,_=>none)|none=>none)))|none=>none)|false=>(og (decide (aO r0)) (some [RV.d aix (ag (val r0).toNat)]))
theorem kE(a b:List Int)(s7:Int)(r0:List Int)(s6:Int):RN vY 10 (iZ a b s7 r0 s6) (iC a b s7 r0 s6):=rnX
def RX:NT:=[((150,8),{keep:=[0,1,5,6],hl:=1}),((150,23),{keep:=[0,1,5,6,7,8],hl:=1})]
def qn:Ctx:=CX (ens qj) RX
def rF(a b:List Int)(s6:Int)(r0:List Int):Cfg:=⟨150,[.blk 0,.seq 40],[(0,.d aix a),(1,.d aix b),(5,.own 0),(6,SI s6)],[.row 200 aiz r0],0,[]⟩
def rT(a b:List Int)(s6 s7 s8:Int)(r0:List Int):Cfg:=⟨150,[.blk 2,.seq 38,.blk 1,.seq 39,.lp 8,.blk 0,.seq 40],[(0,.d aix a),(1,.d aix b),(5,.own 0),(6,SI s6),(7,.d (.int .u64) s7),(8,SI s8)],[.row 200 aiz r0],0,[]⟩
def NP(a b:List Int)(k:KT):OLR:=og (decide ((0:Int)<=i64.wrap ((a.length:Int)+(b.length:Int))/\(i64.wrap ((a.length:Int)+(b.length:Int)))*((4:Nat):Int)<=140737488355328/\i64.wrap ((a.length:Int)+(b.length:Int))<=140737488355328)) (k 8 (rF a b 0 (List.replicate (i64.wrap ((a.length:Int)+(b.length:Int))).toNat (0:Int))))
theorem XW(a b:List Int):RS qn 150 [.d aix a,.d aix b] (NP a b):=rsX
def ta(a b:List Int)(s6:Int)(r0:List Int)(k:KT):OLR:=match decide (s6<(a.length:Int))with|true=>k 23 (rT a b s6 0 0 r0)|false=>(og (decide (aO r0)) (some [RV.d aix (ag (val r0).toNat)]))
theorem yn(a b:List Int)(s6:Int)(r0:List Int):RN qn 8 (rF a b s6 r0) (ta a b s6 r0):=rnX
def rj(a b:List Int)(s6 s7 s8:Int)(r0:List Int)(k:KT):OLR:=match decide (s8<(b.length:Int))with|true=>(match aG r0 (i64.wrap (s6+s8))with|some _=>(match true,r0[(i64.wrap (s6+s8)).toNat]? with|true,some x1=>(match aG a s6 with|some x2=>(match aG b s8 with|some x3=>(match aG r0 (i64.wrap (s6+s8))with|some _=>(match true,r0[(i64.wrap (s6+s8)).toNat]? with|true,some _=>k 23 (rT a b s6 (u64.wrap (Int.tdiv (u64.wrap ((u64.wrap (s7+(u64.wrap x1)))+(u64.wrap ((u64.wrap x2)*(u64.wrap x3))))) 1000000000)) (i64.wrap (s8+1)) (r0.set ((i64.wrap (s6+s8)).toNat) (u32.wrap (Int.tmod (u64.wrap ((u64.wrap (s7+(u64.wrap x1)))+(u64.wrap ((u64.wrap x2)*(u64.wrap x3))))) 1000000000))))|_,_=>none)|none=>none)|none=>none)|none=>none)|_,_=>none)|none=>none)|false=>(match aG r0 (i64.wrap (s6+(b.length:Int)))with|some _=>(match true,r0[(i64.wrap (s6+(b.length:Int))).toNat]? with|true,some _x1=>k 8 (rF a b (i64.wrap (s6+1)) (r0.set ((i64.wrap (s6+(b.length:Int))).toNat) (u32.wrap s7)))|_,_=>none)|none=>none)
theorem xE(a b:List Int)(s6 s7 s8:Int)(r0:List Int):RN qn 23 (rT a b s6 s7 s8 r0) (rj a b s6 s7 s8 r0):=rnX
def EE:Cn 149 [.bool,aix]:=cn λ(neg:Bool) (l:List Int)=>lf (aO l) [.d y2Y (ai (cf neg (val l)))] λh=>by
 refine az qj (Nc neg l) ⟨0,?_⟩;have hv:=aN h.1
 have hp:decide (((ag (val l).toNat).length:Int)>0)=decide (0<val l):=by
  refine ahJ.2 ⟨λg=>?_,λg=>?_⟩
  ·apply afF;intro hc;rw[show(val l).toNat=0 by omega,fG]at g;simp at g
  ·have:ag (val l).toNat≠[]:=λe=>by rw[gO]at e;omega
   have:=af4.2 this;omega
 unfold Nc;rw[afm h,mj neg hv,hp];cases neg<;>rfl
theorem za(a b:List Int)(ha:iW a)(hb:iW b)(hab:b.length<=a.length):∀(j i:Nat) (c:Int) (r:List Int),i+j=a.length->0<=c->c<=1->Lim r->r.length=a.length+1->(∀k (hk:k<r.length),i<=k->r[k]=0)->val r+pw i*c=val (a.take i)+val (b.take i)->
  wk.Runs 16 (kJ a b r c (i:Int)) [.d aix (ag (val a+val b).toNat)]:=by
 have hsa:=ha.2;intro j;induction j with
 |zero=>
  intro i c r hi c0 c1 hr hl hz hv;obtain rfl:i=a.length:=by omega
  have hir:a.length<r.length:=by omega
  have hr0:=hz _ hir (afs _)
  have e:val (r.set a.length c)=val a+val b:=by
   rw[eP hir,hr0];rw[agC,agy hab]at hv;grind
  refine qQ _ _ _ _ _ ⟨0,?_⟩;unfold ms;rw[bO (afs _),am r,aA,afn hir];dsimp only;rw[afm (show aO (r.set a.length c) from⟨hr.set _ ⟨c0,by omega⟩,by simp;omega⟩),e]
 |succ j ih=>
  intro i c r hi c0 c1 hr hl hz hv;have hia:i<a.length:=by omega
  have hir:i<r.length:=by omega
  have xa:=ha.1.get hia;have hr0:=hz i hir (afs _)
  have step:∀(t:Int),0<=t->t<2000000000->val (b.take (i+1))=val (b.take i)+pw i*(t-a[i]-c)->wk.Runs 16 (kJ a b (r.set i (t%1000000000)) (t/1000000000) ((i+1:Nat):Int)) [.d aix (ag (val a+val b).toNat)]:=by
   intro t t0 t1 hb';refine ih (i+1) (t/1000000000) (r.set i (t%1000000000)) (by omega) (by omega) (by omega) (hr.set i ⟨by omega,by omega⟩) (by simpa using hl) (oN hz) ?_;rw[eP hir,hr0,aT hia,hb',ce];have:=Int.emod_add_mul_ediv t 1000000000;grind
  by_cases hib:i<b.length
  ·have xb:=hb.1.get hib;have ht:=aT hib;obtain⟨q,hq⟩:=step (c+a[i]+b[i]) (by omega) (by omega) (by rw[ht];grind);refine qQ _ _ _ _ _ ⟨q,?_⟩;unfold ms;rw[aY hia,am,afn hia,aY hib,am,afn hib,am r i,aA,afn hir];dsimp only;rw[cU (x:=c+a[i]) (by omega) (by omega),cU (x:=c+a[i]+b[i]) (by omega) (by omega),jl (by omega),gR (by omega),cU (x:=(c+a[i]+b[i])/1000000000) (by omega) (by omega),bH (by omega)];exact hq
  ·have ht:=jV (b:=b) (i:=i) (by omega);obtain⟨q,hq⟩:=step (c+a[i]) (by omega) (by omega) (by rw[ht];grind);refine qQ _ _ _ _ _ ⟨q,?_⟩;unfold ms;rw[aY hia,am,afn hia,bO (show b.length<=i by omega),am r i,aA,afn hir];dsimp only;rw[cU (x:=c+a[i]) (by omega) (by omega),jl (by omega),gR (by omega),cU (x:=(c+a[i])/1000000000) (by omega) (by omega),bH (by omega)];exact hq
def YW:Cn 154 [aix,aix]:=cn λ(a b:List Int)=>lf (iW a/\iW b) [.d aix (ag (val a+val b).toNat)] λh=>by
 refine dm qj (show wk.Res _ _ _ from ?_);obtain⟨ha,hb⟩:=h;have hsa:=ha.2;have hsb:=hb.2;by_cases hc:a.length<b.length
 ·obtain⟨q,hq⟩:=za b a hb ha (by omega) b.length 0 0 (List.replicate (b.length+1) 0) (by omega) (by omega) (by omega) (Lim.rep _) (by simp) (λk hk _=>by simp) (by simp[val,gC]);refine Ow _ _ ⟨q,?_⟩;unfold FQ;rw[aY hc,bH (by omega),sG (by omega),aA,aig (val a)];exact hq
 ·obtain⟨q,hq⟩:=za a b ha hb (by omega) a.length 0 0 (List.replicate (a.length+1) 0) (by omega) (by omega) (by omega) (Lim.rep _) (by simp) (λk hk _=>by simp) (by simp[val,gC]);refine Ow _ _ ⟨q,?_⟩;unfold FQ;rw[bO (by omega),bH (k:=a.length) (by omega),sG (n:=a.length+1) (by omega),aA];exact hq
theorem IU(a b:List Int)(ha:aO a)(hb:aO b)(hle:val b<=val a):∀(j i:Nat) (c:Int) (r:List Int),i+j=a.length->0<=c->c<=1->Lim r->r.length=a.length->(∀k (hk:k<r.length),i<=k->r[k]=0)->val r+val (b.take i)=val (a.take i)+pw i*c->
  vY.Runs 10 (iZ a b (i:Int) r c) [.d aix (ag (val a-val b).toNat)]:=by
 have hsa:=ha.2;intro j;induction j with
 |zero=>
  intro i c r hi c0 c1 hr hl hz hv;obtain rfl:i=a.length:=by omega
  refine kE _ _ _ _ _ ⟨0,?_⟩;unfold iC;rw[bO (afs _)];have hrl:=b8 hr;rw[hl]at hrl;have hb2:val b=val (b.take a.length)+pw (min a.length b.length)*val (b.drop a.length):=fS b a.length;have hbd:0<=val (b.drop a.length):=aN (hb.1.drop _);have hal:=b8 ha.1;have hbt:=aN (hb.1.take a.length);rw[agC]at hv
  have hz0:val (b.drop a.length)=0:=by
   rcases afZ a.length b.length with h1|h1
   ·rw[af7 (by omega)]at hb2;rcases afT 0 (val (b.drop a.length))with h2|h2
    ·have hp:=co a.length;have:=afu (show 1<=val (b.drop a.length) by omega) (af0 hp);omega
    ·omega
   ·rw[agh h1];rfl
  rw[hz0,ahY,aip]at hb2
  have hc0:c=0:=by
   have hp:=co a.length;rcases(show c=0\/c=1 by omega)with h|h
   ·exact h
   ·subst h;rw[ahX]at hv;omega
  subst hc0;rw[ahY]at hv;rw[afm (show aO r from⟨hr,by omega⟩),show val r=val a-val b by omega]
 |succ j ih=>
  intro i c r hi c0 c1 hr hl hz hv;have hia:i<a.length:=by omega
  have hir:i<r.length:=by omega
  have xa:=ha.1.get hia;have hr0:=hz i hir (afs _)
  have step:∀(y c':Int),0<=y->y<1000000000->0<=c'->c'<=1->val (b.take (i+1))=val (b.take i)+pw i*(a[i]+1000000000*c'-y-c)->vY.Runs 10 (iZ a b ((i+1:Nat):Int) (r.set i y) c') [.d aix (ag (val a-val b).toNat)]:=by
   intro y c' y0 y1 k0 k1 hb';refine ih (i+1) c' (r.set i y) (by omega) k0 k1 (hr.set i ⟨y0,y1⟩) (by simpa using hl) (oN hz) ?_;rw[eP hir,hr0,aT hia,hb',ce];grind
  by_cases hib:i<b.length
  ·have xb:=hb.1.get hib;have ht:=aT hib;by_cases hc:a[i]+1000000000-c-b[i]>=1000000000
   ·obtain⟨q,hq⟩:=step (a[i]+1000000000-c-b[i]-1000000000) 0 (by omega) (by omega) (by omega) (by omega) (by rw[ht];grind);refine kE _ _ _ _ _ ⟨q,?_⟩;unfold iC;rw[aY hia,am,afn hia,aY hib,am,afn hib,am,aA,afn hir];dsimp only;rw[cU (x:=a[i]+1000000000) (by omega) (by omega),cU (x:=a[i]+1000000000-c) (by omega) (by omega),cU (x:=a[i]+1000000000-c-b[i]) (by omega) (by omega),afm hc,cU (x:=a[i]+1000000000-c-b[i]-1000000000) (by omega) (by omega),bH (by omega)];exact hq
   ·obtain⟨q,hq⟩:=step (a[i]+1000000000-c-b[i]) 1 (by omega) (by omega) (by omega) (by omega) (by rw[ht];grind);refine kE _ _ _ _ _ ⟨q,?_⟩;unfold iC;rw[aY hia,am,afn hia,aY hib,am,afn hib,am,aA,afn hir];dsimp only;rw[cU (x:=a[i]+1000000000) (by omega) (by omega),cU (x:=a[i]+1000000000-c) (by omega) (by omega),cU (x:=a[i]+1000000000-c-b[i]) (by omega) (by omega),afo hc,bH (by omega)];exact hq
  ·have ht:=jV (b:=b) (i:=i) (by omega);by_cases hc:a[i]+1000000000-c>=1000000000
   ·obtain⟨q,hq⟩:=step (a[i]+1000000000-c-1000000000) 0 (by omega) (by omega) (by omega) (by omega) (by rw[ht];grind);refine kE _ _ _ _ _ ⟨q,?_⟩;unfold iC;rw[aY hia,am,afn hia,bO (show b.length<=i by omega),am r i,aA,afn hir];dsimp only;rw[cU (x:=a[i]+1000000000) (by omega) (by omega),cU (x:=a[i]+1000000000-c) (by omega) (by omega),afm hc,cU (x:=a[i]+1000000000-c-1000000000) (by omega) (by omega),bH (by omega)];exact hq
   ·obtain⟨q,hq⟩:=step (a[i]+1000000000-c) 1 (by omega) (by omega) (by omega) (by omega) (by rw[ht];grind);refine kE _ _ _ _ _ ⟨q,?_⟩;unfold iC;rw[aY hia,am,afn hia,bO (show b.length<=i by omega),am r i,aA,afn hir];dsimp only;rw[cU (x:=a[i]+1000000000) (by omega) (by omega),cU (x:=a[i]+1000000000-c) (by omega) (by omega),afo hc,bH (by omega)];exact hq
def Ef:Cn 156 [aix,aix]:=cn λ(a b:List Int)=>lf (nB a b) [.d aix (ag (val a-val b).toNat)] λh=>by
 refine dm qj (show vY.Res _ _ _ from ?_);obtain⟨ha,hb,hle⟩:=h;have hsa:=ha.2;obtain⟨q,hq⟩:=IU a b ha hb hle a.length 0 0 (List.replicate a.length 0) (by omega) (by omega) (by omega) (Lim.rep _) (by simp) (λk hk _=>by simp) (by simp[val,gC]);refine XR _ _ ⟨q,?_⟩;unfold Jl;rw[sG (by omega),aA];exact hq
theorem E4(a b:List Int)(ha:iW a)(hb:iW b)(i:Nat)(hi:i<a.length)
  (hout:∀r,Lim r->r.length=a.length+b.length->(∀k (hk:k<r.length),i+1+b.length<=k->r[k]=0)->val r=val (a.take (i+1))*val b->qn.Runs 8 (rF a b ((i+1:Nat):Int) r) [.d aix (ag (val a*val b).toNat)]):
  ∀(j k:Nat) (c:Int) (r:List Int),k+j=b.length->0<=c->c<1000000000->Lim r->r.length=a.length+b.length->(∀q (hq:q<r.length),i+b.length<=q->r[q]=0)->val r+pw (i+k)*c=val (a.take i)*val b+pw i*a[i]*val (b.take k)->
  qn.Runs 23 (rT a b (i:Int) c (k:Int) r) [.d aix (ag (val a*val b).toNat)]:=by
 have hsa:=ha.2;have hsb:=hb.2;have xa:=ha.1.get hi;intro j;induction j with
 |zero=>
  intro k c r hk c0 c1 hr hl hz hv;obtain rfl:k=b.length:=by omega
  have hir:i+b.length<r.length:=by omega
  have hr0:=hz _ hir (afs _)
  obtain⟨q,hq⟩:=hout (r.set (i+b.length) c) (hr.set _ ⟨c0,c1⟩) (by simpa using hl) (by rw[show i+1+b.length=i+b.length+1 by omega];exact oN hz) (by
   rw[eP hir,hr0,aT hi];rw[agC]at hv;grind)
  refine xE _ _ _ _ _ _ ⟨q,?_⟩;have hw:i64.wrap ((i:Int)+(b.length:Int))=((i+b.length:Nat):Int):=by rw[aM (by omega) (by omega)];simp
  unfold rj;rw[bO (afs _),hw,am r (i+b.length),aA,afn hir,cU (x:=c) (by omega) (by omega),bH (k:=i) (by omega)];exact hq
 |succ j ih=>
  intro k c r hk c0 c1 hr hl hz hv;have hkb:k<b.length:=by omega
  have hir:i+k<r.length:=by omega
  have xb:=hb.1.get hkb;have xr:=hr.get hir;have hbd:=D8 xr xa xb ⟨c0,c1⟩
  obtain⟨q,hq⟩:=ih (k+1) ((r[i+k]+a[i]*b[k]+c)/1000000000) (r.set (i+k) ((r[i+k]+a[i]*b[k]+c)%1000000000)) (by omega) hbd.2.2.1 hbd.2.2.2 (hr.set _ (by omega)) (by simpa using hl)
   (λm hm hq=>by rw[agG (by omega)];exact hz m (by simpa using hm) hq) (by
    rw[eP hir,aT hkb,show i+(k+1)=i+k+1 by omega,ce,fe];rw[fe]at hv;have e:=Int.emod_add_mul_ediv (r[i+k]+a[i]*b[k]+c) 1000000000;grind)
  refine xE _ _ _ _ _ _ ⟨q,?_⟩;have hw:i64.wrap ((i:Int)+(k:Int))=((i+k:Nat):Int):=by rw[aM (by omega) (by omega)];simp
  unfold rj;rw[aY hkb,hw,am b k,afn hkb,am a i,afn hi,am r (i+k),aA,afn hir];dsimp only;rw[a8 (x:=r[i+k]) (by omega) (by omega),a8 (x:=a[i]) (by omega) (by omega),a8 (x:=b[k]) (by omega) (by omega),a8 (x:=a[i]*b[k]) (by omega) (by omega),a8 (x:=c+r[i+k]) (by omega) (by omega),a8 (x:=c+r[i+k]+a[i]*b[k]) (by omega) (by omega),show c+r[i+k]+a[i]*b[k]=r[i+k]+a[i]*b[k]+c by omega,gR (a:=r[i+k]+a[i]*b[k]+c) (by omega),jl (a:=r[i+k]+a[i]*b[k]+c) (by omega),a8 (x:=(r[i+k]+a[i]*b[k]+c)/1000000000) (by omega) (by omega),cU (x:=(r[i+k]+a[i]*b[k]+c)%1000000000) (by omega) (by omega),bH (k:=k) (by omega)];exact hq
theorem Ey(a b:List Int)(ha:iW a)(hb:iW b):∀(j i:Nat) (r:List Int),i+j=a.length->Lim r->r.length=a.length+b.length->(∀k (hk:k<r.length),i+b.length<=k->r[k]=0)->val r=val (a.take i)*val b->
  qn.Runs 8 (rF a b (i:Int) r) [.d aix (ag (val a*val b).toNat)]:=by
 have hsa:=ha.2;have hsb:=hb.2;intro j;induction j with
 |zero=>
  intro i r hi hr hl hz hv;obtain rfl:i=a.length:=by omega
  refine yn _ _ _ _ ⟨0,?_⟩;unfold ta;rw[agC]at hv;rw[bO (afs _),afm (show aO r from⟨hr,by omega⟩),hv]
 |succ j ih=>
  intro i r hi hr hl hz hv;have hia:i<a.length:=by omega
  obtain⟨q,hq⟩:=E4 a b ha hb i hia (λr' h1 h2 h3 h4=>ih (i+1) r' (by omega) h1 h2 h3 h4) b.length 0 0 r (by omega) (by omega) (by omega) hr hl hz (by simp[val,hv]);refine yn _ _ _ _ ⟨q,?_⟩;grind [ta]
def Y1:Cn 150 [aix,aix]:=cn λ(a b:List Int)=>lf (iW a/\iW b) [.d aix (ag (val a*val b).toNat)] λh=>by
 refine dm qj (show qn.Res _ _ _ from ?_);obtain⟨ha,hb⟩:=h;have hsa:=ha.2;have hsb:=hb.2;obtain⟨q,hq⟩:=Ey a b ha hb a.length 0 (List.replicate (a.length+b.length) 0) (by omega) (Lim.rep _) (by simp) (λk hk _=>by simp) (by simp[val,gC]);refine XW _ _ ⟨q,?_⟩;have hw:i64.wrap ((a.length:Int)+(b.length:Int))=((a.length+b.length:Nat):Int):=by rw[aM (by omega) (by omega)];simp
 unfold NP;rw[hw,sG (by omega),aA];exact hq
theorem sD{x:BI}(h:okI x):iW x.2:=⟨h.1.1,by have:=h.2.2;omega⟩
theorem Qf(a b:Int):decide (cq a b>=0)=decide (b<=a):=by grind [cW,dO,cH]
theorem xz(a b:Int):decide (cq a b>0)=decide (b<a):=by grind [cW,dO,cH]
def n7:List En:=[enK xK,enK Ay,enF z7,enF xR,enK EE,enK YW,enK Ef,enK Y1]
def Pc(n:Int)(_k:KT):OLR:=match decide (n<0)with|true=>(match decide (im (u64.wrap (0-(u64.wrap n))))with|true=>(match decide (aO (ag (u64.wrap (0-(u64.wrap n))).toNat))with|true=>some [RV.d y2Y (ai (cf true (val (ag (u64.wrap (0-(u64.wrap n))).toNat))))]|false=>none)|false=>none)|false=>(match decide (im (u64.wrap n))with|true=>(match decide (aO (ag (u64.wrap n).toNat))with|true=>some [RV.d y2Y (ai (cf false (val (ag (u64.wrap n).toNat))))]|false=>none)|false=>none)
def L4(x:Bool×List Int)(_k:KT):OLR:=match(x.2.length:Int)==0 with|true=>some [RV.d aiy 0]|false=>(match x.1 with|true=>some [RV.d aiy (-1)]|false=>some [RV.d aiy 1])
def Mc(x y:Bool×List Int)(_k:KT):OLR:=match !(x.1==y.1)with|true=>(match x.1 with|true=>some [RV.d aiy (-1)]|false=>some [RV.d aiy 1])|false=>(match x.1 with|true=>(og (decide (qi y.2 x.2)) (some [RV.d aiy (cq (val y.2) (val x.2))]))|false=>(og (decide (qi x.2 y.2)) (some [RV.d aiy (cq (val x.2) (val y.2))])))
def MV(x y:Bool×List Int)(_k:KT):OLR:=match x.1==y.1 with|true=>(og (decide (iW x.2/\iW y.2)) (og (decide (aO (ag (val x.2+val y.2).toNat))) (some [RV.d y2Y (ai (cf x.1 (val (ag (val x.2+val y.2).toNat))))])))|false=>(og (decide (qi x.2 y.2)) (match decide ((cq (val x.2) (val y.2))>=0)with|true=>(og (decide (nB x.2 y.2)) (og (decide (aO (ag (val x.2-val y.2).toNat))) (some [RV.d y2Y (ai (cf x.1 (val (ag (val x.2-val y.2).toNat))))])))|false=>(og (decide (nB y.2 x.2)) (og (decide (aO (ag (val y.2-val x.2).toNat))) (some [RV.d y2Y (ai (cf y.1 (val (ag (val y.2-val x.2).toNat))))])))))
def KB(x:Bool×List Int)(_k:KT):OLR:=og (decide (aO x.2)) (some [RV.d y2Y (ai (cf (!x.1) (val x.2)))])
def Oc(x y:Bool×List Int)(_k:KT):OLR:=og (decide (iW x.2/\iW y.2)) (og (decide (aO (ag (val x.2*val y.2).toNat))) (some [RV.d y2Y (ai (cf (!(x.1==y.1)) (val (ag (val x.2*val y.2).toNat))))]))
def T8(a:List Int)(n:Int)(_k:KT):OLR:=og (decide (aO ([n]))) (og (decide (iW a/\iW (ag (val ([n])).toNat))) (some [RV.d aix (ag (val a*val (ag (val ([n])).toNat)).toNat)]))
def A9:Cn 79 [aiy]:=cn λ(n:Int)=>lf (a9 n) [.d y2Y (ai n)] λh=>by
 refine az n7 (Pc n) ⟨0,?_⟩;have h1:=h.1;have h2:=h.2;unfold Pc;by_cases hn:n<0
 ·have e:u64.wrap (0-u64.wrap n)= -n:=by rw[aga,aga];omega
  have hl:(ag (-n).toNat).length<=3:=ct (by omega) (ahN (show-n<18446744073709551616 by omega) (by decide));rw[afm hn];dsimp only;rw[e,afm (show im (-n) from⟨by omega,by omega⟩),afm (cA (n:=(-n).toNat) (by omega)),bW (v:= -n) (by omega)];dsimp only;rw[show cf true (-n)=n by unfold cf;simp]
 ·have e:u64.wrap n=n:=a8 (by omega) (by omega);have hl:(ag n.toNat).length<=3:=ct (by omega) (ahN (show n<18446744073709551616 by omega) (by decide));rw[afo hn];dsimp only;rw[e,afm (show im n from⟨by omega,by omega⟩),afm (cA (n:=n.toNat) (by omega)),bW (v:=n) (by omega)];rfl
def Pd:Cn 109 [y2Y]:=cn λ(x:Bool×List Int)=>lf (okI x) [.d aiy (cq (ae x) 0)] λh=>by
 refine az n7 (L4 x) ⟨0,?_⟩;obtain⟨h0,h1,h2⟩:=cC h;unfold L4;rw[bK];unfold cf;by_cases he:x.2=[]
 ·have e0:=h2.1 he
  have ex:x.1=false:=by
   cases hx:x.1
   ·rfl
   ·have:=h1 hx;omega
  rw[ex,e0,he];rfl
 ·have hp:0<val x.2:=eo h.1 he;have:=af4.2 he;rw[show((x.2.length:Int)==0)=false by simp;omega];cases x.1
  ·simp only[cond_false];rw[cH hp]
  ·simp only[cond_true];rw[cW (by omega)]
def Lu:Cn 269 [y2Y,y2Y]:=cn λ(x y:Bool×List Int)=>lf (okI x/\okI y) [.d aiy (cq (ae x) (ae y))] λh=>by
 refine az n7 (Mc x y) ⟨0,?_⟩;obtain⟨hx,hy⟩:=h;obtain⟨x0,x1,x2⟩:=cC hx;obtain⟨y0,y1,y2⟩:=cC hy;have sx:=hx.2.2;have sy:=hy.2.2;unfold Mc;rw[bK,bK,afm (show qi y.2 x.2 from⟨⟨hy.1,by omega⟩,hx.1,by omega⟩),afm (show qi x.2 y.2 from⟨⟨hx.1,by omega⟩,hy.1,by omega⟩)];unfold cf;cases ex:x.1<;>cases ey:y.1
 ·rfl
 ·have:=y1 ey;simp only[cond_true,cond_false];rw[show cq (val x.2) (-val y.2)=1 from cH (by omega)];rfl
 ·have:=x1 ex;simp only[cond_true,cond_false];rw[show cq (-val x.2) (val y.2)= -1 from cW (by omega)];rfl
 ·simp only[cond_true];rw[F6 x0 y0];rfl
def Ar:Cn 63 [y2Y,y2Y]:=cn λ(x y:Bool×List Int)=>lf (okI x/\okI y) [.d y2Y (ai (ae x+ae y))] λh=>by
 refine az n7 (MV x y) ⟨0,?_⟩;obtain⟨hx,hy⟩:=h;obtain⟨x0,x1,x2⟩:=cC hx;obtain⟨y0,y1,y2⟩:=cC hy;have lx:=fT hx;have ly:=fT hy;have tx:=sD hx;have ty:=sD hy;have sx:=hx.2.2;have sy:=hy.2.2;have bx:=b8 hx.1.1;have by':=b8 hy.1.1;have px:=c8 (show x.2.length<=1000000 by omega);have py:=c8 (show y.2.length<=1000000 by omega);have l1:(ag (val x.2+val y.2).toNat).length<=1000001:=ct (by omega) (by rw[ce];omega);have l2:(ag (val x.2-val y.2).toNat).length<=1000000:=c7 (by have:=co 1000000;omega);have l3:(ag (val y.2-val x.2).toNat).length<=1000000:=c7 (by have:=co 1000000;omega);unfold MV
 rw[bK,bK,afm (show iW x.2/\iW y.2 from⟨tx,ty⟩),afm (cA (n:=(val x.2+val y.2).toNat) (by omega)),afm (cA (n:=(val x.2-val y.2).toNat) (by omega)),afm (cA (n:=(val y.2-val x.2).toNat) (by omega)),bW (v:=val x.2+val y.2) (by omega),
  afm (show qi x.2 y.2 from⟨⟨hx.1,by omega⟩,hy.1,by omega⟩),Qf]
 cases hs:x.1==y.1
 ·dsimp only;rcases afT (val x.2) (val y.2)with hc|hc
  ·rw[afo (show ¬val y.2<=val x.2 by omega),afm (show nB y.2 x.2 from⟨ly,lx,by omega⟩),bW (v:=val y.2-val x.2) (by omega)];dsimp only;unfold cf;cases ex:x.1<;>cases ey:y.1<;>simp_all<;>congr 2<;>omega
  ·rw[afm hc,afm (show nB x.2 y.2 from⟨lx,ly,hc⟩),bW (v:=val x.2-val y.2) (by omega)];dsimp only;unfold cf;cases ex:x.1<;>cases ey:y.1<;>simp_all<;>congr 2<;>omega
 ·dsimp only;have e:=agl.1 hs;rw[<-e];unfold cf;cases x.1
  ·rfl
  ·simp only[cond_true];rw[show-(val x.2+val y.2)= -val x.2+ -val y.2 by omega]
def Ol:Cn 151 [y2Y]:=cn λ(x:Bool×List Int)=>lf (okI x) [.d y2Y (ai (-ae x))] λh=>by
 refine az n7 (KB x) ⟨0,?_⟩;unfold KB;rw[bK,afm (fT h)];unfold cf;cases x.1<;>simp
def OO:Cn 61 [y2Y,y2Y]:=cn λ(x y:Bool×List Int)=>lf (okI x/\okI y) [.d y2Y (ai (ae x*ae y))] λh=>by
 refine az n7 (Oc x y) ⟨0,?_⟩;obtain⟨hx,hy⟩:=h;obtain⟨x0,x1,x2⟩:=cC hx;obtain⟨y0,y1,y2⟩:=cC hy;have bx:=b8 hx.1.1;have by':=b8 hy.1.1;have sx:=hx.2.2;have sy:=hy.2.2;have hm:0<=val x.2*val y.2:=agk x0 y0
 have l1:(ag (val x.2*val y.2).toNat).length<=x.2.length+y.2.length:=ct hm (by
  rw[fe];have p1:=co x.2.length;have p2:=co y.2.length;have:=ahw (show val x.2<=pw x.2.length-1 by omega) (show val y.2<=pw y.2.length-1 by omega) y0 (by omega);grind)
 unfold Oc;rw[bK,bK,afm (show iW x.2/\iW y.2 from⟨sD hx,sD hy⟩),afm (cA (n:=(val x.2*val y.2).toNat) (by omega)),bW hm];unfold cf;cases x.1<;>cases y.1<;>simp[Int.neg_mul,ain]
def byP(a:List Int)(n:Int):Prop:=iW a/\0<=n/\n<1000000000
instance (a:List Int) (n:Int):Decidable (byP a n):=by unfold byP;infer_instance
def SH:Cn 298 [aix,aiz]:=cn λ(a:List Int) (n:Int)=>lf (byP a n) [.d aix (ag (val a*n).toNat)] λh=>by
 refine az n7 (T8 a n) ⟨0,?_⟩;obtain⟨ha,h1,h2⟩:=h;have hl:(ag n.toNat).length<=1:=ct (by omega) (by show n<pw 1;simp[pw];exact h2);have e:val [n]=n:=by simp[val]
 unfold T8;rw[e,afm (show aO [n] from⟨Lim.cons ⟨by omega,h2⟩ Lim.nil,by simp⟩),afm (show iW a/\iW (ag n.toNat) from⟨ha,cd _,by omega⟩),bW (by omega)]
def Yj:List En:=enK Ar::enK Ol::n7
def Pb(x y:Bool×List Int)(_k:KT):OLR:=og (decide (okI y)) (og (decide (okI x/\okI (ai (-ae y)))) (some [RV.d y2Y (ai (ae x+ae (ai (-ae y))))]))
def XP:Cn 244 [y2Y,y2Y]:=cn λ(x y:Bool×List Int)=>lf (okI x/\okI y) [.d y2Y (ai (ae x-ae y))] λh=>by
 refine az Yj (Pb x y) ⟨0,?_⟩;obtain⟨hx,hy⟩:=h;unfold Pb;rw[afm hy,afm (show okI x/\okI (ai (-ae y)) from⟨hx,aR (by rw[iJ];exact ir hy)⟩),dec_enc,Int.sub_eq_add_neg]
end Go.Proofs.YtagbmoohboleaaaGreat
end
