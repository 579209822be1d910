/- Square roots of reals. -/
import Derived.Test.YtnkndpoojnflmaaGreatB8
noncomputable section
namespace Go.Proofs.YtnkndpoojnflmaaGreat
open Go.RowKit Go.IntKind
theorem agm:type_of% @Rat.mul_nonneg:=@Rat.mul_nonneg
theorem ahe:type_of% @decide_eq_decide:=@decide_eq_decide
theorem aid:type_of% @Rat.intCast_natCast:=@Rat.intCast_natCast
theorem aii:type_of% @Rat.intCast_le_intCast:=@Rat.intCast_le_intCast
section
namespace RE
open RL
theorem aaZ(q:Rat):∃k:Nat,q<(k:Rat):=by
 refine⟨(q.floor+1).toNat,?_⟩
 have h1:q<((q.floor+1:Int):Rat):=(Rat.floor_lt_iff).1 (by omega)
 have h2:((q.floor+1:Int):Rat)≤(((q.floor+1).toNat:Int):Rat):=aii.2 (by omega)
 have h3:(((q.floor+1).toNat:Int):Rat)=(((q.floor+1).toNat:Nat):Rat):=aid _
 rw[h3]at h2
 grind
theorem Qe(g d:Rat)(hg:0≤g)(hd:0<d):∃s:Rat,0≤s∧s*s≤g∧g<(s+d)*(s+d):=by
 apply age
 intro hn
 have step:∀k:Nat,((k:Rat)*d)*((k:Rat)*d)≤g:=by
  intro k
  induction k with
  |zero=>rw[show((0:Nat):Rat)=0 from rfl];grind
  |succ k ih=>
   apply age
   intro hc
   refine hn ⟨(k:Rat)*d,?_,ih,?_⟩
   ·have:(0:Rat)≤(k:Rat):=by
     have:=Rat.intCast_nonneg.2 (show(0:Int)≤(k:Int) by omega)
     rwa [aid]at this
    exact agm this (by grind)
   ·have e:(((k+1:Nat)):Rat)=(k:Rat)+1:=by rw[Rat.natCast_add];rfl
    rw[e]at hc
    grind
 obtain⟨k,hk⟩:=aaZ ((g+1)/d)
 have h1:g+1<(k:Rat)*d:=by
  have:=agP (show 0<(k:Rat)-(g+1)/d by grind) hd
  have e:((k:Rat)-(g+1)/d)*d=(k:Rat)*d-(g+1):=by grind
  grind
 have h2:=step k
 have h3:=agP (show 0<(k:Rat)*d-(g+1) by grind) (show 0<(k:Rat)*d by grind)
 have h4:=agP (show 0<(k:Rat)*d-(g+1) by grind) (show 0<g+1 by grind)
 have h5:=agm hg hg
 clear hn step hk
 generalize (k:Rat)*d=t at h1 h2 h3 h4
 grind
def eps(n:Nat):Rat:=1/((n:Rat)+1)
theorem oV(n:Nat):(0:Rat)≤(n:Rat):=by
 have:=Rat.intCast_nonneg.2 (show(0:Int)≤(n:Int) by omega)
 rwa [aid]at this
theorem qn(n:Nat):0<eps n:=by
 have:=oV n
 exact agP (by grind) (Rat.inv_pos.2 (by grind))
theorem xp(e:Rat)(he:0<e):∃N,∀n,N≤n→eps n<e:=by
 obtain⟨N,hN⟩:=aaZ (1/e)
 refine⟨N,fun n hn=>?_⟩
 have h0:=oV n
 have h1:(N:Rat)≤(n:Rat):=by
  have:=aii.2 (show(N:Int)≤(n:Int) by omega)
  rwa [aid,aid]at this
 have h2:1/e<(n:Rat)+1:=by grind
 have h3:=agP (show 0<(n:Rat)+1-1/e by grind) (agP he (qn n))
 unfold eps at h3 ⊢
 have e1:((n:Rat)+1-1/e)*(e*(1/((n:Rat)+1)))=e-1/((n:Rat)+1):=by
  have:(n:Rat)+1≠0:=by grind
  have:e≠0:=by grind
  grind
 grind
theorem CO(n:Nat):eps n≤1:=by
 have h0:=oV n
 have:=qn n
 unfold eps at*
 have h3:=agm h0 (show(0:Rat)≤1/((n:Rat)+1) by grind)
 have e1:(n:Rat)*(1/((n:Rat)+1))=1-1/((n:Rat)+1):=by
  have:(n:Rat)+1≠0:=by grind
  grind
 grind
theorem Nb{a b:Rat}(ha:0≤a)(hb:0≤b)(h:a*a<b*b):a<b:=by
 apply age
 intro hc
 have:=agm (show 0≤a-b by grind) (show 0≤a+b by grind)
 grind
theorem zh(x:RE)(hx:0≤x):∃y:RE,0≤y∧y*y=x:=by
 induction x using ahd
 rename_i f
 have hc:∀n,∃s:Rat,0≤s∧s*s≤(if 0≤f.f n then f.f n else 0)∧(if 0≤f.f n then f.f n else 0)<(s+eps n)*(s+eps n):=fun n=>
  Qe _ _ (by split<;>grind) (qn n)
 let g:Nat→Rat:=fun n=>if 0≤f.f n then f.f n else 0
 let s:Nat→Rat:=fun n=>Classical.choose (hc n)
 have hs:∀n,0≤s n∧s n*s n≤g n∧g n<(s n+eps n)*(s n+eps n):=fun n=>ahn (hc n)
 have hg:∀m n,g m-g n≤(if 0≤f.f m-f.f n then f.f m-f.f n else 0):=fun m n=>by
  show(if 0≤f.f m then f.f m else 0)-(if 0≤f.f n then f.f n else 0)≤_
  split<;>split<;>split<;>grind
 obtain⟨B,hB,NB,hBn⟩:=f.bd
 have hgB:∀n,NB≤n→g n<B:=fun n hn=>by
  show(if 0≤f.f n then f.f n else 0)<B
  have:=hBn n hn
  split<;>grind
 have hsB:∀n,NB≤n→s n<B+1:=fun n hn=>by
  have h1:=hs n
  have h2:=hgB n hn
  refine Nb h1.1 (by grind) ?_
  have:=agm (show 0≤B by grind) (show 0≤B by grind)
  grind
 have hcau:∀e:Rat,0<e→∃N,∀m n,N≤m→N≤n→s m-s n<e:=by
  intro e he
  obtain⟨N1,h1⟩:=f.cau (e*e/4) (by have:=agP he he;grind)
  obtain⟨N2,h2⟩:=xp (e/2) (by grind)
  refine⟨max N1 N2,fun m n hm hn=>?_⟩
  apply age
  intro hne
  have a1:=hs m
  have a2:=hs n
  have a3:=h1 m n (by omega) (by omega)
  have a4:=h2 n (by omega)
  have a5:=hg m n
  have a6:=qn n
  have p1:=agm (show 0≤s m-(s n+e) by grind) (show 0≤s m+(s n+e) by grind)
  have p2:=agm (show 0≤e/2-eps n by grind) (show 0≤(s n+e/2)+(s n+eps n) by grind)
  have p3:=agm (show 0≤e by grind) a2.1
  have p4:=agP he he
  split at a5<;>grind
 refine⟨Quotient.mk _ ⟨s,hcau⟩,?_,aiD fun e he=>?_⟩
 ·rintro ⟨e,he,N,h⟩
  have h1:=h N (af6 _)
  have h2:=(hs N).1
  simp only[RL.const]at h1
  grind
 ·-- s n*s n is near to f n
  have hneg:∃N,∀n,N≤n→ -(e/4)<f.f n:=by
   apply age
   intro hne
   obtain⟨M,hM⟩:=f.cau (e/8) (by grind)
   refine hx ⟨e/16,by grind,M,fun n hn=>?_⟩
   apply age
   intro hge
   refine hne ⟨M,fun k hk=>?_⟩
   have:=hM n k hn hk
   simp only[RL.const]at hge
   grind
  obtain⟨N1,h1⟩:=hneg
  obtain⟨N2,h2⟩:=xp (e/(4*(B+2))) (agP he (Rat.inv_pos.2 (by grind)))
  refine⟨max (max N1 N2) NB,fun n hn=>?_⟩
  have a1:=hs n
  have a2:=h1 n (by omega)
  have a3:=h2 n (by omega)
  have a4:=hsB n (by omega)
  have a5:=qn n
  have a6:=CO n
  have hgf:f.f n≤g n∧g n<f.f n+e/4:=by
   show f.f n≤(if 0≤f.f n then f.f n else 0)∧(if 0≤f.f n then f.f n else 0)<_
   split<;>constructor<;>grind
  have p1:=agm (show 0≤eps n by grind) (show 0≤2*(B+2)-(2*s n+eps n) by grind)
  have p2:eps n*(2*(B+2))<e/2:=by
   have:=agP (show 0<e/(4*(B+2))-eps n by grind) (show 0<2*(B+2) by grind)
   have e1:(e/(4*(B+2))-eps n)*(2*(B+2))=e/2-eps n*(2*(B+2)):=by
    have:B+2≠0:=by grind
    grind
   grind
  simp only[RL.mul]
  constructor<;>grind
open Classical in
def uF(x:RE):RE:=if h:0≤x then Classical.choose (zh x h)else 0
theorem mX(x:RE):0≤uF x:=by
 unfold uF
 split
 ·rename_i h;exact(ahn (zh x h)).1
 ·exact lt_irrefl 0
theorem yR{x:RE}(h:0≤x):uF x*uF x=x:=by
 unfold uF
 rw[dif_pos h]
 exact(ahn (zh x h)).2
theorem iZ{a b:Rat}:of a≤of b↔a≤b:=by
 constructor
 ·intro h
  apply age
  intro hc
  exact h (lc (by grind))
 ·intro h h'
  rcases(by grind:a<b∨a=b)with h1|h1
  ·exact lt_irrefl _ (dK h' (lc h1))
  ·rw[h1]at h';exact lt_irrefl _ h'
theorem ub{a b:Rat}(h:of a=of b):a=b:=by
 have h1:=iZ.1 (show of a≤of b by rw[h];exact lt_irrefl _)
 have h2:=iZ.1 (show of b≤of a by rw[h];exact lt_irrefl _)
 grind
end RE
end
section
namespace RE
open RL
open Classical in
def sg(x:RE):Int:=if 0<x then 1 else if x<0 then-1 else 0
theorem dE{x:RE}(h:0<x):sg x=1:=agu h
theorem iM{x:RE}(h:x<0):sg x= -1:=by unfold sg;rw[agk (fun h'=>lt_irrefl _ (dK h h')),agu h]
theorem dU:sg 0=0:=by unfold sg;rw[agk (lt_irrefl _),agk (lt_irrefl _)]
theorem bj(x:RE):(0<x∧sg x=1)∨(x=0∧sg x=0)∨(x<0∧sg x= -1):=by
 rcases oB 0 x with h|h|h
 ·exact .inl ⟨h,dE h⟩
 ·exact .inr (.inl ⟨h.symm,by rw[←h,dU]⟩)
 ·exact .inr (.inr ⟨h,iM h⟩)
theorem sf{x:RE}:sg x=0↔x=0:=by
 rcases bj x with⟨h,e⟩|⟨h,e⟩|⟨h,e⟩<;>rw[e]
 ·exact⟨fun h'=>by omega,fun h'=>by rw[h']at h;exact absurd h (lt_irrefl _)⟩
 ·exact⟨fun _=>h,fun _=>rfl⟩
 ·exact⟨fun h'=>by omega,fun h'=>by rw[h']at h;exact absurd h (lt_irrefl _)⟩
theorem MA{x:RE}:sg x=1↔0<x:=by
 rcases bj x with⟨h,e⟩|⟨h,e⟩|⟨h,e⟩<;>rw[e]
 ·exact⟨fun _=>h,fun _=>rfl⟩
 ·exact⟨fun h'=>by omega,fun h'=>by rw[h]at h';exact absurd h' (lt_irrefl _)⟩
 ·exact⟨fun h'=>by omega,fun h'=>absurd (dK h h') (lt_irrefl _)⟩
theorem Xx{x:RE}:sg x= -1↔x<0:=by
 rcases bj x with⟨h,e⟩|⟨h,e⟩|⟨h,e⟩<;>rw[e]
 ·exact⟨fun h'=>by omega,fun h'=>absurd (dK h h') (lt_irrefl _)⟩
 ·exact⟨fun h'=>by omega,fun h'=>by rw[h]at h';exact absurd h' (lt_irrefl _)⟩
 ·exact⟨fun _=>h,fun _=>rfl⟩
theorem afB{x:RE}:0≤sg x↔0≤x:=by
 rcases bj x with⟨h,e⟩|⟨h,e⟩|⟨h,e⟩<;>rw[e]
 ·exact⟨fun _=>le_of_lt h,fun _=>by omega⟩
 ·exact⟨fun _=>by rw[h];exact le_refl _,fun _=>by omega⟩
 ·exact⟨fun h'=>by omega,fun h'=>absurd h h'⟩
theorem ab9{x:RE}:sg x≤0↔x≤0:=by
 rcases bj x with⟨h,e⟩|⟨h,e⟩|⟨h,e⟩<;>rw[e]
 ·exact⟨fun h'=>by omega,fun h'=>absurd h h'⟩
 ·exact⟨fun _=>by rw[h];exact le_refl _,fun _=>by omega⟩
 ·exact⟨fun _=>le_of_lt h,fun _=>by omega⟩
theorem neg_mul(a b:RE): -a*b= -(a*b):=by grind
theorem mul_neg(a b:RE):a* -b= -(a*b):=by grind
theorem neg_neg(a:RE): - -a=a:=by grind
theorem sub_self(a:RE):a-a=0:=by grind
theorem Qn(a b:RE): -(a-b)=b-a:=by grind
theorem Cx(x y:RE):(x+y)*(x-y)=x*x-y*y:=by grind
theorem HS(x y:RE):((x-(0))*(0-(y)))+((x*y-(0)))=0:=by grind
theorem Mr(x y:RE)(h1:0<x)(h2:y<0):x*y<0:=uX.1 fun hg=>far (a8 (mul_pos (bH h1) (bH h2)) (aQ hg)) (HS x y)
theorem X1(x y:RE)(h1:x<0)(h2:y<0):x+y<0:=by grind
theorem M2(x y:RE)(h1:0<x)(h2:y<0):0<x-y:=by grind
theorem M3(x y:RE)(h1:x<0)(h2:0<y):x-y<0:=by grind
theorem LI(x y:RE)(h1:0<x)(h2:0<y):0<x+y:=by grind
theorem Bm: -(0:RE)=0:=by rw[←zero_add (-0),j7]
theorem sG(x:RE):sg (-x)= -sg x:=by
 rcases bj x with⟨h,e⟩|⟨h,e⟩|⟨h,e⟩<;>rw[e]
 ·exact iM (VM h)
 ·rw[h,Bm,dU];rfl
 ·exact dE (lI h)
theorem dN(x y:RE):sg (x*y)=sg x*sg y:=by
 rcases bj x with⟨h,e⟩|⟨h,e⟩|⟨h,e⟩<;>rw[e]
 ·rcases bj y with⟨h',e'⟩|⟨h',e'⟩|⟨h',e'⟩<;>rw[e']
  ·exact dE (mul_pos h h')
  ·rw[h',mul_zero,dU];rfl
  ·exact iM (Mr _ _ h h')
 ·rw[h,zero_mul,dU];omega
 ·rcases bj y with⟨h',e'⟩|⟨h',e'⟩|⟨h',e'⟩<;>rw[e']
  ·rw[mul_comm];exact iM (Mr _ _ h' h)
  ·rw[h',mul_zero,dU];rfl
  ·have:=mul_pos (lI h) (lI h')
   rw[neg_mul,mul_neg,neg_neg]at this
   exact dE this
theorem sg_of(q:Rat):sg (of q)=aC q 0:=by
 rcases(by grind:q<0∨q=0∨0<q)with h|h|h
 ·rw[dg h];exact iM (lc h)
 ·rw[h,de];exact dU
 ·rw[cV h];exact dE (lc h)
def addS(s t d:Int):Int:=bif t==0||s==t then s else bif s==0 then t else s*d
theorem Da(x y:RE):sg (x+y)=addS (sg x) (sg y) (sg (x*x-y*y)):=by
 rw[←Cx,dN]
 rcases bj x with⟨h,e⟩|⟨h,e⟩|⟨h,e⟩<;>rw[e]
 ·rcases bj y with⟨h',e'⟩|⟨h',e'⟩|⟨h',e'⟩<;>rw[e']
  ·exact dE (LI _ _ h h')
  ·rw[h',add_zero,e];rfl
  ·rw[dE (M2 _ _ h h')]
   show _=1*(_*1)
   omega
 ·rcases bj y with⟨h',e'⟩|⟨h',e'⟩|⟨h',e'⟩<;>rw[e',h,zero_add,e']<;>rfl
 ·rcases bj y with⟨h',e'⟩|⟨h',e'⟩|⟨h',e'⟩<;>rw[e']
  ·rw[iM (M3 _ _ h h')]
   show _= -1*(_* -1)
   omega
  ·rw[h',add_zero,e];rfl
  ·exact iM (X1 _ _ h h')
theorem adJ(x:RE): -1≤sg x∧sg x≤1:=by rcases bj x with⟨_,e⟩|⟨_,e⟩|⟨_,e⟩<;>rw[e]<;>omega
end RE
end
def rI:Nat→Nat→Nat
 |0,_=>0
 |f+1,n=>bif decide (n=0)then 0 else bif decide ((2*rI f (n/4)+1)*(2*rI f (n/4)+1)≤n)then 2*rI f (n/4)+1 else 2*rI f (n/4)
def LD(n:Nat):Nat:=rI (n.log2+1) n
theorem Ea:∀(f n:Nat),n<2^f→rI f n*rI f n≤n∧n<(rI f n+1)*(rI f n+1)
 |0,n,h=>by
  have:n=0:=by simpa using h
  subst this
  exact⟨af6 _,by decide⟩
 |f+1,n,h=>by
  rcases agQ n with h0|h0
  ·subst h0
   show rI (f+1) 0*rI (f+1) 0≤0∧_
   exact⟨af6 _,by show 0<(0+1)*(0+1);decide⟩
  ·have h4:n/4<2^f:=by
    rw[Nat.pow_succ]at h
    omega
   obtain⟨h1,h2⟩:=Ea f (n/4) h4
   simp only[rI]
   rw[af1 (show ¬n=0 by omega)]
   generalize rI f (n/4)=s at h1 h2
   have e1:(2*s)*(2*s)=4*(s*s):=by grind
   have e2:(2*s+1+1)*(2*s+1+1)=4*((s+1)*(s+1)):=by grind
   by_cases hc:(2*s+1)*(2*s+1)≤n
   ·rw[afZ hc]
    exact⟨hc,by show n<(2*s+1+1)*(2*s+1+1);rw[e2];omega⟩
   ·rw[af1 hc]
    exact⟨by show(2*s)*(2*s)≤n;rw[e1];omega,by show n<(2*s+1)*(2*s+1);omega⟩
theorem Oy(n:Nat):LD n*LD n≤n∧n<(LD n+1)*(LD n+1):=Ea _ n Nat.lt_log2_self
def bg(z:Int):Int:=(LD z.toNat:Int)
theorem fC{z:Int}(h:0≤z):0≤bg z∧bg z*bg z≤z∧z<(bg z+1)*(bg z+1):=by
 obtain⟨h1,h2⟩:=Oy z.toNat
 grind [bg]
theorem qT{a b:Int}(ha:0≤a)(h:a≤b):a*a≤b*b:=ah0 h h ha (by omega)
theorem sq_lt{a b:Int}(hb:0≤b)(h:a*a<b*b):a<b:=by
 apply age
 intro hc
 have:=qT hb (show b≤a by omega)
 omega
theorem OR{z s:Int}(h0:0≤s)(h1:s*s≤z)(h2:z<(s+1)*(s+1)):bg z=s:=by
 obtain⟨g0,g1,g2⟩:=fC (show 0≤z by have:=qT (a:=0) (by omega) h0;omega)
 have a1:=sq_lt (b:=s+1) (a:=bg z) (by omega) (by omega)
 have a2:=sq_lt (b:=bg z+1) (a:=s) (by omega) (by omega)
 omega
theorem L8{a x s:Int}(hx:0<x)(_hs:0≤s)(h1:s*s≤a):s≤(x+a/x)/2:=by
 have hq:=agJ a x
 have hm:=agM a hx
 apply age
 intro hc
 have h2:a/x≤2*s-x-1:=by omega
 have h3:x*(a/x)≤x*(2*s-x-1):=af7 h2 (by omega)
 have h4:0≤(s-x)*(s-x):=by
  rcases Int.le_total 0 (s-x)with h|h
  ·exact agT h h
  ·exact Int.mul_nonneg_of_nonpos_of_nonpos h h
 grind
theorem vi{a x s:Int}(hx:0<x)(hs:s≤x)(_h1:s*s≤a)(h2:a<(s+1)*(s+1))(h3:0≤s)(h:x≤(x+a/x)/2):x=s:=by
 have hq:=agJ a x
 have hm:=ag8 a (show x≠0 by omega)
 have h4:x≤a/x:=by omega
 have h5:x*x≤x*(a/x):=af7 h4 (by omega)
 have:=sq_lt (a:=x) (b:=s+1) (by omega) (by omega)
 omega
def fp(x:BI):BI:=bif x.1 then(false,[])else ai (bg (ae x))
def sV(x:BI):Int:=bif x.1 then 7 else 0
def tf:List En:=[⟨210,mU,jy⟩,⟨172,oG,ll⟩,⟨215,ni,jD⟩,⟨269,uL,qQ⟩,⟨341,yU,vm⟩]
def WA:NT:=[((351,25),{keep:=[1,2,5,6],hl:=6})]
def FX:Ctx:=CX (ens tf) WA
def lL(x:Bool×List Int)(b4_0:Bool)(b4_1:List Int):Cfg:=⟨351,[.blk 0],[(1,.box 0 0),(2,.box 1 0),(5,.box 4 0),(6,.box 5 0)],[.box 29 [SB x.1,.d ai1 x.2],.box 29 [SB false,.nil],.gone,.row 225 ai3 ([1]),.box 29 [SB b4_0,.d ai1 b4_1],.box 29 [SB ((ai (2:Int)).1),.d ai1 ((ai (2:Int)).2)]],0,[]⟩
def Fe(x:Bool×List Int)(k:KT):Option (List RV):=match x.1 with|true=>some [RV.d y2Y (false,[]),RV.d ai2 7]|false=>(match(x.2.length:Int)==0 with|true=>some [RV.d y2Y (false,[]),RV.d ai2 0]|false=>(og (decide ((0:Int)≤i64.wrap (Int.tdiv (i64.wrap ((x.2.length:Int)+1)) 2)∧(i64.wrap (Int.tdiv (i64.wrap ((x.2.length:Int)+1)) 2))*((4:Nat):Int)≤140737488355328∧i64.wrap (Int.tdiv (i64.wrap ((x.2.length:Int)+1)) 2)≤140737488355328)) (og (decide (((List.replicate (i64.wrap (Int.tdiv (i64.wrap ((x.2.length:Int)+1)) 2)).toNat (0:Int)).length+([1]).length)*4≤140737488355328∧(List.replicate (i64.wrap (Int.tdiv (i64.wrap ((x.2.length:Int)+1)) 2)).toNat (0:Int)).length+([1]).length≤140737488355328)) (og (decide (aM ((List.replicate (i64.wrap (Int.tdiv (i64.wrap ((x.2.length:Int)+1)) 2)).toNat (0:Int))++([1])))) (og (decide (aF (2:Int))) (k 25 (lL x ((ai (bS false (val ((List.replicate (i64.wrap (Int.tdiv (i64.wrap ((x.2.length:Int)+1)) 2)).toNat (0:Int))++([1]))))).1) ((ai (bS false (val ((List.replicate (i64.wrap (Int.tdiv (i64.wrap ((x.2.length:Int)+1)) 2)).toNat (0:Int))++([1]))))).2))))))))
theorem Kl(x:Bool×List Int):RS FX 351 [.d y2Y x] (Fe x):=rsX
def rJ(x:Bool×List Int)(b4_0:Bool)(b4_1:List Int)(k:KT):Option (List RV):=og (decide (eS x (b4_0,b4_1))) (cd (og (decide (okI (b4_0,b4_1)∧okI (ai (ae x/ae (b4_0,b4_1))))) (cd (og (decide (eS (ai (ae (b4_0,b4_1)+ae (ai (ae x/ae (b4_0,b4_1))))) (ai (2:Int)))) (dup (.b .l .l) (og (decide (okI (ai (ae (ai (ae (b4_0,b4_1)+ae (ai (ae x/ae (b4_0,b4_1)))))/ae (ai (2:Int))))∧okI (b4_0,b4_1))) (match decide ((ce (ae (ai (ae (ai (ae (b4_0,b4_1)+ae (ai (ae x/ae (b4_0,b4_1)))))/ae (ai (2:Int))))) (ae (b4_0,b4_1)))≥0)with|true=>some [RV.d y2Y (b4_0,b4_1),RV.d ai2 0]|false=>k 25 (lL x ((ai (ae (ai (ae (b4_0,b4_1)+ae (ai (ae x/ae (b4_0,b4_1)))))/ae (ai (2:Int)))).1) ((ai (ae (ai (ae (b4_0,b4_1)+ae (ai (ae x/ae (b4_0,b4_1)))))/ae (ai (2:Int)))).2)))))) (dup (.b (.b .l .l) (.b .l .l)) (og (decide (eS (ai (ae (b4_0,b4_1)+ae (ai (ae x/ae (b4_0,b4_1))))) (ai (2:Int)))) (og (decide (okI (ai (ae (ai (ae (b4_0,b4_1)+ae (ai (ae x/ae (b4_0,b4_1)))))/ae (ai (2:Int))))∧okI (b4_0,b4_1))) (match decide ((ce (ae (ai (ae (ai (ae (b4_0,b4_1)+ae (ai (ae x/ae (b4_0,b4_1)))))/ae (ai (2:Int))))) (ae (b4_0,b4_1)))≥0)with|true=>some [RV.d y2Y (b4_0,b4_1),RV.d ai2 0]|false=>k 25 (lL x ((ai (ae (ai (ae (b4_0,b4_1)+ae (ai (ae x/ae (b4_0,b4_1)))))/ae (ai (2:Int)))).1) ((ai (ae (ai (ae (b4_0,b4_1)+ae (ai (ae x/ae (b4_0,b4_1)))))/ae (ai (2:Int)))).2)))))))) (dup (.b .l .l) (cd (og (decide (okI (b4_0,b4_1)∧okI (ai (ae x/ae (b4_0,b4_1))))) (dup (.b .l .l) (og (decide (eS (ai (ae (b4_0,b4_1)+ae (ai (ae x/ae (b4_0,b4_1))))) (ai (2:Int)))) (og (decide (okI (ai (ae (ai (ae (b4_0,b4_1)+ae (ai (ae x/ae (b4_0,b4_1)))))/ae (ai (2:Int))))∧okI (b4_0,b4_1))) (match decide ((ce (ae (ai (ae (ai (ae (b4_0,b4_1)+ae (ai (ae x/ae (b4_0,b4_1)))))/ae (ai (2:Int))))) (ae (b4_0,b4_1)))≥0)with|true=>some [RV.d y2Y (b4_0,b4_1),RV.d ai2 0]|false=>k 25 (lL x ((ai (ae (ai (ae (b4_0,b4_1)+ae (ai (ae x/ae (b4_0,b4_1)))))/ae (ai (2:Int)))).1) ((ai (ae (ai (ae (b4_0,b4_1)+ae (ai (ae x/ae (b4_0,b4_1)))))/ae (ai (2:Int)))).2))))))) (og (decide (okI (b4_0,b4_1)∧okI (ai (ae x/ae (b4_0,b4_1))))) (og (decide (eS (ai (ae (b4_0,b4_1)+ae (ai (ae x/ae (b4_0,b4_1))))) (ai (2:Int)))) (og (decide (okI (ai (ae (ai (ae (b4_0,b4_1)+ae (ai (ae x/ae (b4_0,b4_1)))))/ae (ai (2:Int))))∧okI (b4_0,b4_1))) (match decide ((ce (ae (ai (ae (ai (ae (b4_0,b4_1)+ae (ai (ae x/ae (b4_0,b4_1)))))/ae (ai (2:Int))))) (ae (b4_0,b4_1)))≥0)with|true=>some [RV.d y2Y (b4_0,b4_1),RV.d ai2 0]|false=>k 25 (lL x ((ai (ae (ai (ae (b4_0,b4_1)+ae (ai (ae x/ae (b4_0,b4_1)))))/ae (ai (2:Int)))).1) ((ai (ae (ai (ae (b4_0,b4_1)+ae (ai (ae x/ae (b4_0,b4_1)))))/ae (ai (2:Int)))).2)))))))))
theorem wR(x:Bool×List Int)(b4_0:Bool)(b4_1:List Int):RN FX 25 (lL x b4_0 b4_1) (rJ x b4_0 b4_1):=rnX
def Wp:NT:=[((354,16),{keep:=[1,4,5],hl:=1})]
def Ef:Ctx:=CX (ens tf) Wp
def tF(x:Bool×List Int)(s4 s5:Int):Cfg:=⟨354,[.blk 0,.seq 27],[(1,.box 0 0),(4,.d (.int .u64) s4),(5,SI s5)],[.box 29 [SB x.1,.d ai1 x.2]],0,[]⟩
def FP(x:Bool×List Int)(k:KT):Option (List RV):=og (decide (aF ((-9223372036854775808):Int))) (og (decide (okI x∧okI (ai ((-9223372036854775808):Int)))) (dup (.b .l .l) (match decide ((ce (ae x) (ae (ai ((-9223372036854775808):Int))))<0)with|true=>some [RV.d ai2 0,RV.d .bool false]|false=>(og (decide (aF (9223372036854775807:Int))) (og (decide (okI x∧okI (ai (9223372036854775807:Int)))) (match decide ((ce (ae x) (ae (ai (9223372036854775807:Int))))>0)with|true=>some [RV.d ai2 0,RV.d .bool false]|false=>k 16 (tF x 0 (i64.wrap ((x.2.length:Int)-1)))))))))
theorem KU(x:Bool×List Int):RS Ef 354 [.d y2Y x] (FP x):=rsX
def rX(x:Bool×List Int)(s4 s5:Int)(k:KT):Option (List RV):=match decide (s5≥0)with|true=>(match aN x.2 s5 with|some x1=>k 16 (tF x (u64.wrap ((u64.wrap (s4*1000000000))+(u64.wrap x1))) (i64.wrap (s5-1)))|none=>none)|false=>(match x.1 with|true=>some [RV.d ai2 (i64.wrap (u64.wrap (0-s4))),RV.d .bool true]|false=>some [RV.d ai2 (i64.wrap s4),RV.d .bool true])
theorem wH(x:Bool×List Int)(s4 s5:Int):RN Ef 16 (tF x s4 s5) (rX x s4 s5):=rnX
theorem Nt(x:BI)(hx:okI x)(h0:0<ae x):∀(m:Nat) (X:Int),X.toNat=m→0<X→bg (ae x)≤X→szI X≤900000→FX.Runs 25 (lL x (ai X).1 (ai X).2) [.d y2Y (ai (bg (ae x))),.d ai2 0]:=by
 intro m
 induction m using Nat.strongRecOn with
 |ind m ih=>
  intro X hm hX hs hsz
  obtain⟨g0,g1,g2⟩:=fC (agB h0)
  have hq0:0≤ae x/X:=agW (by omega) (by omega)
  have hq1:ae x/X≤ae x:=ahJ _ (by omega)
  have oX:okI (ai X):=aR (by omega)
  have sq:szI (ae x/X)≤1000000:=agj (c8 (by omega)) (ia hx)
  have p1:eS x (ai X):=⟨hx,oX,by rw[dec_enc];exact hX⟩
  have ssum:szI (X+ae x/X)≤1000000:=by
   have b1:=lQ hsz
   have b2:=lQ (ia hx)
   have e:pw 1000000=pw 900000*pw 100000:=by rw[←fb]
   have p9:(1000:Int)≤pw 100000:=by
    have:pw 100000=pw 99999*1000000000:=bU 99999
    have:=b9 99999
    omega
   have p8:=b9 900000
   have h8:pw 900000*1000≤pw 900000*pw 100000:=af7 p9 (by omega)
   rcases ags X 2 with hX1|hX1
   ·-- X=1:then the number is less than 4
    have:X=1:=by omega
    subst this
    have:bg (ae x)≤1:=hs
    have h4:ae x<4:=by
     have:=qT (a:=bg (ae x)+1) (b:=2) (by omega) (by omega)
     omega
    refine dX ?_ ?_<;>(rw[e,Int.ediv_one];omega)
   ·have hq2:ae x/X≤ae x/2:=by
     have:=Int.ediv_mul_le (ae x) (show X≠0 by omega)
     have h2:ae x/X*2≤ae x/X*X:=af7 hX1 hq0
     omega
    refine dX ?_ ?_<;>(rw[e]at b2 ⊢;omega)
  have o1:okI (ai X)∧okI (ai (ae x/X)):=⟨oX,aR sq⟩
  have p2:eS (ai (X+ae x/X)) (ai 2):=⟨aR ssum,by decide,by rw[dec_enc];decide⟩
  have hn:=L8 hX g0 g1
  have o2:okI (ai ((X+ae x/X)/2))∧okI (ai X):=⟨aR (agj (c8 (by omega)) ssum),oX⟩
  by_cases hc:X≤(X+ae x/X)/2
  ·have hXs:=vi hX hs g1 g2 g0 hc
   refine wR _ _ _ ⟨0,?_⟩
   unfold rJ
   simp only[cN,eH]
   have e:∀z:Int,((ai z).1,(ai z).2)=ai z:=fun z=>rfl
   simp only[e,dec_enc,afZ p1,afZ o1,afZ p2,afZ o2]
   have hg:decide (ce ((X+ae x/X)/2) X≥0)=true:=by
    rcases Int.lt_or_eq_of_le hc with h|h
    ·rw[cC h];rfl
    ·rw[←h,dw];rfl
   rw[hg,hXs]
  ·obtain⟨n,hN⟩:=ih ((X+ae x/X)/2).toNat (by omega) ((X+ae x/X)/2) rfl (by
    rcases ags 0 (bg (ae x))with h|h
    ·omega
    ·exfalso
     have:bg (ae x)=0:=by omega
     rw[this]at g2
     omega) hn (agj (c8 (by omega)) hsz)
   refine wR _ _ _ ⟨n,?_⟩
   unfold rJ
   simp only[cN,eH]
   have e:∀z:Int,((ai z).1,(ai z).2)=ai z:=fun z=>rfl
   simp only[e,dec_enc,afZ p1,afZ o1,afZ p2,afZ o2]
   rw[cQ (by omega)]
   exact hN
def UQ:Cn 351 [y2Y]:=cn fun(x:Bool×List Int)=>lf (okI x) [.d y2Y (fp x),.d ai2 (sV x)] fun h=>by
 refine cJ tf (show FX.Res _ _ _ from ?_)
 obtain⟨x0,x1,x2⟩:=cr h
 have hl:=h.2.2
 cases hn:x.1
 ·by_cases hz:x.2=[]
  ·refine Kl _ ⟨0,?_⟩
   unfold Fe fp sV
   have:ae x=0:=by unfold ae;rw[hn,hz];rfl
   rw[hn,hz,this]
   rfl
  ·have hp:0<val x.2:=d9 h.1 hz
   have hd:ae x=val x.2:=by unfold ae;rw[hn];rfl
   have hlen:=agF.2 hz
   have hk:i64.wrap (Int.tdiv (i64.wrap ((x.2.length:Int)+1)) 2)=(((x.2.length+1)/2:Nat):Int):=by
    rw[bK (by omega),gn (by omega),aP (by omega) (by omega)]
    omega
   have hv:val (List.replicate ((x.2.length+1)/2) 0++[1])=pw ((x.2.length+1)/2):=by
    rw[da,gf,ais]
    simp[val]
   have hL:aM (List.replicate ((x.2.length+1)/2) 0++[1]):=by
    refine⟨fun y hy=>?_,by simp;omega⟩
    rcases ag7.1 hy with hy|hy
    ·have:=List.eq_of_mem_replicate hy;omega
    ·simp at hy;omega
   have hpos:=b9 ((x.2.length+1)/2)
   obtain⟨n,hN⟩:=Nt x h (by omega) _ (pw ((x.2.length+1)/2)) rfl hpos (by
     obtain⟨g0,g1,g2⟩:=fC (show 0≤ae x by omega)
     have hlt:=bP h.1.1
     have hm:=cX (show x.2.length≤(x.2.length+1)/2+(x.2.length+1)/2 by omega)
     rw[fb]at hm
     have:=sq_lt (a:=bg (ae x)) (b:=pw ((x.2.length+1)/2)) (by omega) (by omega)
     omega) (dX (k:=900000) (by have:=b9 900000;omega) (by
      have:=cX (show(x.2.length+1)/2+1≤900000 by omega)
      rw[bU]at this
      omega))
   refine Kl _ ⟨n,?_⟩
   unfold Fe fp sV
   simp only[hk]
   rw[hn,show((x.2.length:Int)==0)=false by simp;omega]
   simp only[ahm]
   rw[afZ (show(0:Int)≤(((x.2.length+1)/2:Nat):Int)∧(((x.2.length+1)/2:Nat):Int)*((4:Nat):Int)≤140737488355328∧(((x.2.length+1)/2:Nat):Int)≤140737488355328 by omega)]
   rw[afZ (show((List.replicate ((x.2.length+1)/2) (0:Int)).length+([1]:List Nat).length)*4≤140737488355328∧(List.replicate ((x.2.length+1)/2) (0:Int)).length+([1]:List Nat).length≤140737488355328 by simp;omega)]
   rw[afZ hL,afZ (show aF 2 by decide),hv]
   exact hN
 ·refine Kl _ ⟨0,?_⟩
  unfold Fe fp sV
  rw[hn]
  rfl
theorem zX(x:BI)(hx:okI x)(hv:val x.2≤9223372036854775808):∀(i:Nat),i≤x.2.length→Ef.Runs 16 (tF x (val (x.2.drop i)) ((i:Int)-1)) [.d ai2 (i64.wrap (bif x.1 then u64.wrap (0-val x.2)else val x.2)),.d .bool true]
 |0,_=>by
  refine wH _ _ _ ⟨0,?_⟩
  unfold rX
  rw[af1 (by omega),ahy]
  cases x.1<;>rfl
 |i+1,hi=>by
  obtain⟨n,ih⟩:=zX x hx hv i (by omega)
  have h0:=hx.2.2
  have hlim:=hx.1.1
  have hd:x.2.drop i=x.2[i]::x.2.drop (i+1):=dO (by omega)
  have hle:∀j,val (x.2.drop j)≤9223372036854775808∧0≤val (x.2.drop j):=fun j=>by
   have l1:Lim (x.2.drop j):=fun y hy=>hlim y (ah2 hy)
   have l2:Lim (x.2.take j):=fun y hy=>hlim y (ah1 hy)
   have:=da (x.2.take j) (x.2.drop j)
   rw[ahh]at this
   have n1:=aL l1
   have n2:=aL l2
   have p:=b9 (x.2.take j).length
   have:val (x.2.drop j)≤pw (x.2.take j).length*val (x.2.drop j):=by
    have:=aga (show 1≤pw (x.2.take j).length by omega) n1
    omega
   omega
  have hb:=hlim x.2[i] (agz _)
  have hv1:=hle i
  have hv2:=hle (i+1)
  rw[hd]at hv1 ih
  simp only[val]at hv1 ih
  refine wH _ _ _ ⟨n,?_⟩
  unfold rX
  rw[show(((i+1:Nat):Int)-1)=(i:Int) by omega,afZ (by omega),ao,af0 (by omega)]
  dsimp only
  rw[aY (x:=val (x.2.drop (i+1))*1000000000) (by omega) (by omega),aY (x:=x.2[i]) (by omega) (by omega),aY (by omega) (by omega),aP (by omega) (by omega)]
  rw[show val (x.2.drop (i+1))*1000000000+x.2[i]=x.2[i]+1000000000*val (x.2.drop (i+1)) by omega]
  exact ih
def Rn:Cn 354 [y2Y]:=cn fun(x:Bool×List Int)=>lf (okI x) [.d ai2 (bif decide (aF (ae x))then ae x else 0),.d .bool (decide (aF (ae x)))] fun h=>by
 refine cJ tf (show Ef.Res _ _ _ from ?_)
 obtain⟨x0,x1,x2⟩:=cr h
 have o1:okI x∧okI (ai (-9223372036854775808)):=⟨h,by decide⟩
 have o2:okI x∧okI (ai 9223372036854775807):=⟨h,by decide⟩
 have hl:=h.2.2
 by_cases h1:ae x< -9223372036854775808
 ·refine KU _ ⟨0,?_⟩
  unfold FP
  simp only[eH,dec_enc,afZ o1]
  rw[afZ (show aF (-9223372036854775808) by decide),cQ h1,af1 (show ¬aF (ae x) from fun g=>by have:=g.1;omega)]
  rfl
 ·have c1:decide (ce (ae x) (-9223372036854775808)<0)=false:=by
   rcases Int.lt_or_eq_of_le (show-9223372036854775808≤ae x by omega)with g|g
   ·rw[cC g];rfl
   ·rw[←g,dw];rfl
  by_cases h2:9223372036854775807<ae x
  ·refine KU _ ⟨0,?_⟩
   unfold FP
   simp only[eH,dec_enc,afZ o1,afZ o2]
   rw[afZ (show aF (-9223372036854775808) by decide),c1,afZ (show aF 9223372036854775807 by decide),cC h2,af1 (show ¬aF (ae x) from fun g=>by have:=g.2;omega)]
   rfl
  ·have c2:decide (ce (ae x) 9223372036854775807>0)=false:=by
    rcases Int.lt_or_eq_of_le (show ae x≤9223372036854775807 by omega)with g|g
    ·rw[cQ g];rfl
    ·rw[g,dw];rfl
   have hp:aF (ae x):=⟨by omega,by omega⟩
   have hvv:val x.2≤9223372036854775808:=by
    have g1:=hp.1
    have g2:=hp.2
    have hd:ae x=bif x.1 then-val x.2 else val x.2:=rfl
    cases hb:x.1<;>rw[hb]at hd<;>simp only[agd,cond_false]at hd<;>omega
   obtain⟨n,hN⟩:=zX x h hvv x.2.length (af6 _)
   refine KU _ ⟨n,?_⟩
   unfold FP
   simp only[eH,dec_enc,afZ o1,afZ o2]
   rw[afZ (show aF (-9223372036854775808) by decide),c1,afZ (show aF 9223372036854775807 by decide),c2,afZ hp]
   rw[aie]at hN
   rw[aP (by omega) (by omega)]
   refine hN.trans ?_
   have hr:i64.wrap (bif x.1 then u64.wrap (0-val x.2)else val x.2)=ae x:=by
    have hd:ae x=bif x.1 then-val x.2 else val x.2:=rfl
    have:=hp.1
    have:=hp.2
    cases hb:x.1<;>rw[hb]at hd<;>simp only[agd,cond_false]at hd ⊢
    ·rw[aP (by omega) (by omega)];omega
    ·have:=x1 hb
     rw[agN,IntKind.wrap_i64]
     omega
   rw[hr]
   rfl
def pK(a:List Int):Prop:=aM a∧val a<18446744073709551616
instance (a:List Int):Decidable (pK a):=by unfold pK;infer_instance
def pj(a b:List Int):Prop:=(can a∧a.length≤1000000000)∧(can b∧b.length≤1000000000)
instance (a b:List Int):Decidable (pj a b):=by unfold pj;infer_instance
def iG(l:List Int):Prop:=Lim l∧l.length≤10000000
instance (l:List Int):Decidable (iG l):=by unfold iG;infer_instance
theorem co{n:Nat}(h:(ag n).length≤1000000000):aM (ag n):=⟨bR n,h⟩
theorem bL{v:Int}(h:0≤v):val (ag v.toNat)=v:=by grind [aW]
theorem ck{v:Int}{k:Nat}(h0:0≤v)(h:v<pw k):(ag v.toNat).length≤k:=cW (by omega)
def lJ:List En:=[]
def Q1:NT:=[((263,4),{keep:=[0],pure_:=[(0,.int .u32)],hl:=0})]
def ya:Ctx:=CX (ens lJ) Q1
def tW(s0:List Int):Cfg:=⟨263,[.blk 0,.seq 13],[(0,.d ai1 s0)],[],0,[]⟩
def XB(a:List Int)(k:KT):Option (List RV):=k 4 (tW a)
theorem X5(a:List Int):RS ya 263 [.d ai1 a] (XB a):=rsX
def rK(s0:List Int)(k:KT):Option (List RV):=match decide ((s0.length:Int)>0)with|true=>(match aN s0 (i64.wrap ((s0.length:Int)-1))with|some x1=>(match x1==0 with|true=>(og (decide ((0:Int)≤0∧0≤i64.wrap ((s0.length:Int)-1)∧i64.wrap ((s0.length:Int)-1)≤(s0.length:Int))) (k 4 (tW ((s0.take (i64.wrap ((s0.length:Int)-1)).toNat).drop (0:Int).toNat))))|false=>some [RV.d ai1 s0])|none=>none)|false=>some [RV.d ai1 s0]
theorem sh(s0:List Int):RN ya 4 (tW s0) (rK s0):=rnX
def OY:NT:=[((265,8),{keep:=[0,3,4],hl:=0})]
def yI:Ctx:=CX (ens lJ) OY
def tg(a:List Int)(s3 s4:Int):Cfg:=⟨265,[.blk 0,.seq 19],[(0,.d ai1 a),(3,.d (.int .u64) s3),(4,SI s4)],[],0,[]⟩
def JQ(a:List Int)(k:KT):Option (List RV):=k 8 (tg a 0 (i64.wrap ((a.length:Int)-1)))
theorem Wc(a:List Int):RS yI 265 [.d ai1 a] (JQ a):=rsX
def rO(a:List Int)(s3 s4:Int)(k:KT):Option (List RV):=match decide (s4≥0)with|true=>(match aN a s4 with|some x1=>k 8 (tg a (u64.wrap ((u64.wrap (s3*1000000000))+(u64.wrap x1))) (i64.wrap (s4-1)))|none=>none)|false=>some [RV.d (.int .u64) s3]
theorem xI(a:List Int)(s3 s4:Int):RN yI 8 (tg a s3 s4) (rO a s3 s4):=rnX
def Pu:NT:=[((182,6),{keep:=[0,3],own:=[(3,225,.int .u32)],hl:=1})]
def zd:Ctx:=CX (ens lJ) Pu
def td(s0:Int)(r0:List Int):Cfg:=⟨182,[.blk 0,.seq 17],[(0,.d (.int .u64) s0),(3,.own 0)],[.row 225 ai3 r0],0,[]⟩
def Xq(u:Int)(k:KT):Option (List RV):=k 6 (td u ([]))
theorem Y0(u:Int):RS zd 182 [.d (.int .u64) u] (Xq u):=rsX
def rP(s0:Int)(r0:List Int)(k:KT):Option (List RV):=match decide (s0>0)with|true=>(og (decide ((r0.length+([u32.wrap (Int.tmod s0 1000000000)]).length)*4≤140737488355328∧r0.length+([u32.wrap (Int.tmod s0 1000000000)]).length≤140737488355328)) (k 6 (td (u64.wrap (Int.tdiv s0 1000000000)) (r0++([u32.wrap (Int.tmod s0 1000000000)])))))|false=>some [RV.new 225 ai3 r0]
theorem xx(s0:Int)(r0:List Int):RN zd 6 (td s0 r0) (rP s0 r0):=rnX
def Pi:NT:=[((168,22),{keep:=[0,1,5],hl:=0})]
def xW:Ctx:=CX (ens lJ) Pi
def qF(a b:List Int)(s5:Int):Cfg:=⟨168,[.blk 0,.seq 47],[(0,.d ai1 a),(1,.d ai1 b),(5,SI s5)],[],0,[]⟩
def DS(a b:List Int)(k:KT):Option (List RV):=match(a.length:Int) !=(b.length:Int)with|true=>(match decide ((a.length:Int)<(b.length:Int))with|true=>some [RV.d ai2 (-1)]|false=>some [RV.d ai2 1])|false=>k 22 (qF a b (i64.wrap ((a.length:Int)-1)))
theorem Jh(a b:List Int):RS xW 168 [.d ai1 a,.d ai1 b] (DS a b):=rsX
def jM(a b:List Int)(s5:Int)(k:KT):Option (List RV):=match decide (s5≥0)with|true=>(match aN a s5 with|some x1=>(match aN b s5 with|some x2=>(match decide (x1<x2)with|true=>some [RV.d ai2 (-1)]|false=>(match aN a s5 with|some x3=>(match aN b s5 with|some x4=>(match decide (x3>x4)with|true=>some [RV.d ai2 1]|false=>k 22 (qF a b (i64.wrap (s5-1))))|none=>none)|none=>none))|none=>none)|none=>none)|false=>some [RV.d ai2 0]
theorem lM(a b:List Int)(s5:Int):RN xW 22 (qF a b s5) (jM a b s5):=rnX
theorem Hl(l:List Int)(hl:Lim l)(hs:l.length≤1000000000):∀(n:Nat),n≤l.length→(∀j (hj:j<l.length),n≤j→l[j]=0)→ya.Runs 4 (tW (l.take n)) [.d ai1 (ag (val l).toNat)]:=by
 intro n
 induction n with
 |zero=>
  intro _ h
  refine sh _ ⟨0,?_⟩
  rw[←kS hl (ain _) h (.inl rfl)]
  rfl
 |succ n ih=>
  intro hn h
  have hlen:(l.take (n+1)).length=n+1:=by rw[agG,agI hn]
  have hget:(l.take (n+1))[n]?=some l[n]:=by rw[List.getElem?_take_of_lt (by omega),af0 (by omega)]
  by_cases hz:l[n]=0
  ·obtain⟨q,hq⟩:=ih (by omega) fun j hj hk=>by
    rcases Nat.eq_or_lt_of_le hk with e|e
    ·subst e;exact hz
    ·exact h j hj e
   refine sh _ ⟨q,?_⟩
   unfold rK
   rw[hlen,afZ (by omega),G4 (by omega) (by omega),ao,show n+1-1=n from rfl,hget]
   dsimp only
   rw[hz,afZ (show(0:Int)≤0∧(0:Int)≤(n:Int)∧(n:Int)≤((n+1:Nat):Int) by omega),aE,aiU,agI (by omega)]
   exact hq
  ·refine sh _ ⟨0,?_⟩
   unfold rK
   rw[hlen,afZ (by omega),G4 (by omega) (by omega),ao,show n+1-1=n from rfl,hget]
   dsimp only
   rw[show(l[n]==0)=false by simpa using hz,←kS hl hn h (.inr ⟨Nat.lt_of_succ_le hn,hz⟩)]
def uO:Cn 263 [ai1]:=cn fun(a:List Int)=>lf (aM a) [.d ai1 (ag (val a).toNat)] fun h=>by
 refine cJ lJ (show ya.Res _ _ _ from ?_)
 obtain⟨q,hq⟩:=Hl a h.1 h.2 a.length (af6 _) (fun j hj hk=>by omega)
 rw[ag9]at hq
 exact X5 _ ⟨q,hq⟩
theorem Gb(u:Nat):∀(r:List Int),(u:Int)<18446744073709551616→r.length+3≤1000+3-(ag u).length→zd.Runs 6 (td (u:Int) r) [.new 225 ai3 (r++ag u)]:=by
 induction u using nH with
 |h0=>
  intro r _ _
  refine xx _ _ ⟨0,?_⟩
  unfold rP
  rw[fe,agt]
  rfl
 |h1 n hn ih=>
  intro r hu hr
  rw[gR hn]at hr
  simp only[agi]at hr
  obtain⟨q,hq⟩:=ih (r++[((n%1000000000:Nat):Int)]) (by omega) (by rw[agv];simp only[agb];omega)
  refine xx _ _ ⟨q,?_⟩
  unfold rP
  rw[afZ (by omega),iK (by omega),gn (by omega),aY (x:=(n:Int)/1000000000) (by omega) (by omega),cM (x:=(n:Int)%1000000000) (by omega) (by omega)]
  simp only[agb]
  rw[YP (by omega) (by omega),gR hn]
  rw[show((n:Int)%1000000000)=((n%1000000000:Nat):Int) by omega,show((n:Int)/1000000000)=((n/1000000000:Nat):Int) by omega]
  rw[ago]at hq
  exact hq
def zi:Cn 182 [(.int .u64)]:=cn fun(u:Int)=>lf (gK u) [.new 225 ai3 (ag u.toNat)] fun h=>by
 refine cJ lJ (show zd.Res _ _ _ from ?_)
 have h0:=h.1
 have h1:=h.2
 have hl:=cW (n:=u.toNat) (k:=3) (ail (show(u.toNat:Int)<18446744073709551616 by omega) (by decide))
 obtain⟨q,hq⟩:=Gb u.toNat [] (by omega) (by simp;omega)
 rw[show((u.toNat:Nat):Int)=u by omega]at hq
 exact Y0 _ ⟨q,hq⟩
theorem xg(a:List Int)(h:pK a):∀(i:Nat),i≤a.length→yI.Runs 8 (tg a (val (a.drop i)) ((i:Int)-1)) [.d (.int .u64) (val a)]
 |0,_=>by
  refine xI _ _ _ ⟨0,?_⟩
  unfold rO
  rw[af1 (by omega),ahy]
 |i+1,hi=>by
  obtain⟨n,ih⟩:=xg a h i (by omega)
  have h0:=h.1.2
  have hlim:=h.1.1
  have hlt:=h.2
  have hd:a.drop i=a[i]::a.drop (i+1):=dO (by omega)
  have hle:∀j,val (a.drop j)≤val a∧0≤val (a.drop j):=fun j=>by
   have l1:Lim (a.drop j):=fun y hy=>hlim y (ah2 hy)
   have l2:Lim (a.take j):=fun y hy=>hlim y (ah1 hy)
   have:=da (a.take j) (a.drop j)
   rw[ahh]at this
   have n1:=aL l1
   have n2:=aL l2
   have p:=b9 (a.take j).length
   have:val (a.drop j)≤pw (a.take j).length*val (a.drop j):=by
    have:=aga (show 1≤pw (a.take j).length by omega) n1
    omega
   omega
  have hb:=hlim a[i] (agz _)
  have hv1:=hle i
  have hv2:=hle (i+1)
  rw[hd]at hv1 ih
  simp only[val]at hv1 ih
  refine xI _ _ _ ⟨n,?_⟩
  unfold rO
  rw[show(((i+1:Nat):Int)-1)=(i:Int) by omega,afZ (by omega),ao,af0 (by omega)]
  dsimp only
  rw[aY (x:=val (a.drop (i+1))*1000000000) (by omega) (by omega),aY (x:=a[i]) (by omega) (by omega),aY (by omega) (by omega),aP (by omega) (by omega)]
  rw[show val (a.drop (i+1))*1000000000+a[i]=a[i]+1000000000*val (a.drop (i+1)) by omega]
  exact ih
def zB:Cn 265 [ai1]:=cn fun(a:List Int)=>lf (pK a) [.d (.int .u64) (val a)] fun h=>by
 refine cJ lJ (show yI.Res _ _ _ from ?_)
 obtain⟨n,hn⟩:=xg a h a.length (af6 _)
 have h0:=h.1.2
 refine Wc _ ⟨n,?_⟩
 unfold JQ
 rw[aie]at hn
 rw[aP (by omega) (by omega)]
 exact hn
theorem Gp(a b:List Int)(la:Lim a)(lb:Lim b)(hl:a.length=b.length)(hs:a.length≤1000000000):∀(n:Nat),n≤a.length→a.drop n=b.drop n→
  xW.Runs 22 (qF a b ((n:Int)-1)) [.d ai2 (ce (val a) (val b))]:=by
 intro n
 induction n with
 |zero=>
  intro _ h
  refine lM _ _ _ ⟨0,?_⟩
  have e:val a=val b:=by simp only[ahy]at h;rw[h]
  unfold jM
  rw[af1 (by omega),e,dw]
 |succ n ih=>
  intro hn h
  have h1:n<a.length:=by omega
  have h2:n<b.length:=by omega
  rcases Int.lt_trichotomy a[n] b[n]with hc|hc|hc
  ·refine lM _ _ _ ⟨0,?_⟩
   have:=yc la lb h1 h2 h hc
   unfold jM
   rw[show((n+1:Nat):Int)-1=(n:Int) by omega,afZ (by omega),ao,ao,af0 h1,af0 h2]
   dsimp only
   rw[afZ hc,cQ (by omega)]
  ·obtain⟨q,hq⟩:=ih (by omega) (by rw[agq h1,agq h2,hc,h])
   refine lM _ _ _ ⟨q,?_⟩
   unfold jM
   rw[show((n+1:Nat):Int)-1=(n:Int) by omega,afZ (by omega),ao,ao,af0 h1,af0 h2]
   dsimp only
   rw[af1 (by omega),af1 (by omega),aP (x:=(n:Int)-1) (by omega) (by omega)]
   exact hq
  ·refine lM _ _ _ ⟨0,?_⟩
   have:=yc lb la h2 h1 h.symm hc
   unfold jM
   rw[show((n+1:Nat):Int)-1=(n:Int) by omega,afZ (by omega),ao,ao,af0 h1,af0 h2]
   dsimp only
   rw[af1 (by omega),afZ hc,cC (by omega)]
theorem FE{a b:List Int}(ha:can a)(hb:can b)(h:a.length<b.length):val a<val b:=by
 have ea:=m4 ha
 have eb:=m4 hb
 have:=tC (a:=(val a).toNat) (b:=(val b).toNat) (by rw[←ea,←eb];exact h)
 omega
def vU:Cn 168 [ai1,ai1]:=cn fun(a b:List Int)=>lf (pj a b) [.d ai2 (ce (val a) (val b))] fun h=>by
 refine cJ lJ (show xW.Res _ _ _ from ?_)
 obtain⟨⟨ha,sa⟩,hb,sb⟩:=h
 by_cases hl:a.length=b.length
 ·obtain⟨q,hq⟩:=Gp a b ha.1 hb.1 hl sa _ (af6 _) (by rw[aie,hl,aie])
  refine Jh _ _ ⟨q,?_⟩
  unfold DS
  rw[show((a.length:Int) !=(b.length:Int))=false by simp[hl],aP (x:=(a.length:Int)-1) (by omega) (by omega)]
  exact hq
 ·refine Jh _ _ ⟨0,?_⟩
  unfold DS
  rw[show((a.length:Int) !=(b.length:Int))=true by simp;omega]
  dsimp only
  rcases Nat.lt_or_gt_of_ne hl with h1|h1
  ·have:=FE ha hb h1
   rw[afZ (by omega),cQ (by omega)]
  ·have:=FE hb ha h1
   rw[af1 (by omega),cC (by omega)]
def oW:List En:=enK uO::enK zi::enF zB::enF vU::lJ
def Jo(neg:Bool)(l:List Int)(_k:KT):Option (List RV):=og (decide (aM l)) (match neg with|true=>some [RV.d y2Y (decide (((ag (val l).toNat).length:Int)>0),ag (val l).toNat)]|false=>some [RV.d y2Y (false,ag (val l).toNat)])
def O6:NT:=[((167,16),{keep:=[0,1,5,6,7],hl:=1})]
def uC:Ctx:=CX (ens oW) O6
def jR(s0 s1 r0:List Int)(s6 s7:Int):Cfg:=⟨167,[.blk 0,.seq 37],[(0,.d ai1 s0),(1,.d ai1 s1),(5,.own 0),(6,.d ai3 s6),(7,SI s7)],[.row 225 ai3 r0],0,[]⟩
def De(a b:List Int)(k:KT):Option (List RV):=match decide ((a.length:Int)<(b.length:Int))with|true=>(og (decide ((0:Int)≤i64.wrap ((b.length:Int)+1)∧(i64.wrap ((b.length:Int)+1))*((4:Nat):Int)≤140737488355328∧i64.wrap ((b.length:Int)+1)≤140737488355328)) (k 16 (jR b a (List.replicate (i64.wrap ((b.length:Int)+1)).toNat (0:Int)) 0 0)))|false=>(og (decide ((0:Int)≤i64.wrap ((a.length:Int)+1)∧(i64.wrap ((a.length:Int)+1))*((4:Nat):Int)≤140737488355328∧i64.wrap ((a.length:Int)+1)≤140737488355328)) (k 16 (jR a b (List.replicate (i64.wrap ((a.length:Int)+1)).toNat (0:Int)) 0 0)))
theorem Mz(a b:List Int):RS uC 167 [.d ai1 a,.d ai1 b] (De a b):=rsX
def lP(s0 s1 r0:List Int)(s6 s7:Int)(k:KT):Option (List RV):=match decide (s7<(s0.length:Int))with|true=>(match aN s0 s7 with|some x1=>(match decide (s7<(s1.length:Int))with|true=>(match aN s1 s7 with|some x2=>(match aN r0 s7 with|some _=>(match true,r0[(s7).toNat]? with|true,some _=>k 16 (jR s0 s1 (r0.set ((s7).toNat) (Int.tmod (u32.wrap ((u32.wrap (s6+x1))+x2)) 1000000000)) (u32.wrap (Int.tdiv (u32.wrap ((u32.wrap (s6+x1))+x2)) 1000000000)) (i64.wrap (s7+1)))|_,_=>none)|none=>none)|none=>none)|false=>(match aN r0 s7 with|some _=>(match true,r0[(s7).toNat]? with|true,some _x2=>k 16 (jR s0 s1 (r0.set ((s7).toNat) (Int.tmod (u32.wrap (s6+x1)) 1000000000)) (u32.wrap (Int.tdiv (u32.wrap (s6+x1)) 1000000000)) (i64.wrap (s7+1)))|_,_=>none)|none=>none))|none=>none)|false=>(match aN r0 (s0.length:Int)with|some _=>(match true,r0[((s0.length:Int)).toNat]? with|true,some _x1=>(og (decide (aM (r0.set (((s0.length:Int)).toNat) s6))) (some [RV.d ai1 (ag (val (r0.set (((s0.length:Int)).toNat) s6)).toNat)]))|_,_=>none)|none=>none)
theorem pE(s0 s1 r0:List Int)(s6 s7:Int):RN uC 16 (jR s0 s1 r0 s6 s7) (lP s0 s1 r0 s6 s7):=rnX
def Q3:NT:=[((169,10),{keep:=[0,1,5,6,7],hl:=1})]
def vI:Ctx:=CX (ens oW) Q3
def iB(a b:List Int)(s7:Int)(r0:List Int)(s6:Int):Cfg:=⟨169,[.blk 0,.seq 37],[(0,.d ai1 a),(1,.d ai1 b),(5,.own 0),(6,.d ai3 s6),(7,SI s7)],[.row 225 ai3 r0],0,[]⟩
def HY(a b:List Int)(k:KT):Option (List RV):=og (decide ((0:Int)≤(a.length:Int)∧(a.length:Int)*((4:Nat):Int)≤140737488355328∧(a.length:Int)≤140737488355328)) (k 10 (iB a b 0 (List.replicate ((a.length:Int)).toNat (0:Int)) 0))
theorem Xr(a b:List Int):RS vI 169 [.d ai1 a,.d ai1 b] (HY a b):=rsX
def hZ(a b:List Int)(s7:Int)(r0:List Int)(s6:Int)(k:KT):Option (List RV):=match decide (s7<(a.length:Int))with|true=>(match aN a s7 with|some x1=>(match decide (s7<(b.length:Int))with|true=>(match aN b s7 with|some x2=>(match decide ((u32.wrap ((u32.wrap ((u32.wrap (x1+1000000000))-s6))-x2))≥1000000000)with|true=>(match aN r0 s7 with|some _=>(match true,r0[(s7).toNat]? with|true,some _x3=>k 10 (iB a b (i64.wrap (s7+1)) (r0.set ((s7).toNat) (u32.wrap ((u32.wrap ((u32.wrap ((u32.wrap (x1+1000000000))-s6))-x2))-1000000000))) 0)|_,_=>none)|none=>none)|false=>(match aN r0 s7 with|some _=>(match true,r0[(s7).toNat]? with|true,some _x3=>k 10 (iB a b (i64.wrap (s7+1)) (r0.set ((s7).toNat) (u32.wrap ((u32.wrap ((u32.wrap (x1+1000000000))-s6))-x2))) 1)|_,_=>none)|none=>none))|none=>none)|false=>(match decide ((u32.wrap ((u32.wrap (x1+1000000000))-s6))≥1000000000)with|true=>(match aN r0 s7 with|some _=>(match true,r0[(s7).toNat]? with|true,some _x2=>k 10 (iB a b (i64.wrap (s7+1)) (r0.set ((s7).toNat) (u32.wrap ((u32.wrap ((u32.wrap (x1+1000000000))-s6))-1000000000))) 0)|_,_=>none)|none=>none)|false=>(match aN r0 s7 with|some _=>(match true,r0[(s7).toNat]? with|true,some _x2=>k 10 (iB a b (i64.wrap (s7+1)) (r0.set ((s7).toNat) (u32.wrap ((u32.wrap (x1+1000000000))-s6))) 1)|_,_=>none)|none=>none)))|none=>none)|false=>(og (decide (aM r0)) (some [RV.d ai1 (ag (val r0).toNat)]))
theorem jS(a b:List Int)(s7:Int)(r0:List Int)(s6:Int):RN vI 10 (iB a b s7 r0 s6) (hZ a b s7 r0 s6):=rnX
def Qi:NT:=[((163,8),{keep:=[0,1,5,6],hl:=1}),((163,23),{keep:=[0,1,5,6,7,8],hl:=1})]
def oU:Ctx:=CX (ens oW) Qi
def pN(a b:List Int)(s6:Int)(r0:List Int):Cfg:=⟨163,[.blk 0,.seq 40],[(0,.d ai1 a),(1,.d ai1 b),(5,.own 0),(6,SI s6)],[.row 225 ai3 r0],0,[]⟩
def qP(a b:List Int)(s6 s7 s8:Int)(r0:List Int):Cfg:=⟨163,[.blk 2,.seq 38,.blk 1,.seq 39,.lp 8,.blk 0,.seq 40],[(0,.d ai1 a),(1,.d ai1 b),(5,.own 0),(6,SI s6),(7,.d (.int .u64) s7),(8,SI s8)],[.row 225 ai3 r0],0,[]⟩
def LC(a b:List Int)(k:KT):Option (List RV):=og (decide ((0:Int)≤i64.wrap ((a.length:Int)+(b.length:Int))∧(i64.wrap ((a.length:Int)+(b.length:Int)))*((4:Nat):Int)≤140737488355328∧i64.wrap ((a.length:Int)+(b.length:Int))≤140737488355328)) (k 8 (pN a b 0 (List.replicate (i64.wrap ((a.length:Int)+(b.length:Int))).toNat (0:Int))))
theorem Wf(a b:List Int):RS oU 163 [.d ai1 a,.d ai1 b] (LC a b):=rsX
def se(a b:List Int)(s6:Int)(r0:List Int)(k:KT):Option (List RV):=match decide (s6<(a.length:Int))with|true=>k 23 (qP a b s6 0 0 r0)|false=>(og (decide (aM r0)) (some [RV.d ai1 (ag (val r0).toNat)]))
theorem w8(a b:List Int)(s6:Int)(r0:List Int):RN oU 8 (pN a b s6 r0) (se a b s6 r0):=rnX
def po(a b:List Int)(s6 s7 s8:Int)(r0:List Int)(k:KT):Option (List RV):=match decide (s8<(b.length:Int))with|true=>(match aN r0 (i64.wrap (s6+s8))with|some _=>(match true,r0[(i64.wrap (s6+s8)).toNat]? with|true,some x1=>(match aN a s6 with|some x2=>(match aN b s8 with|some x3=>(match aN r0 (i64.wrap (s6+s8))with|some _=>(match true,r0[(i64.wrap (s6+s8)).toNat]? with|true,some _=>k 23 (qP a b s6 (u64.wrap (Int.tdiv (u64.wrap ((u64.wrap (s7+(u64.wrap x1)))+(u64.wrap ((u64.wrap x2)*(u64.wrap x3))))) 1000000000)) (i64.wrap (s8+1)) (r0.set ((i64.wrap (s6+s8)).toNat) (u32.wrap (Int.tmod (u64.wrap ((u64.wrap (s7+(u64.wrap x1)))+(u64.wrap ((u64.wrap x2)*(u64.wrap x3))))) 1000000000))))|_,_=>none)|none=>none)|none=>none)|none=>none)|_,_=>none)|none=>none)|false=>(match aN r0 (i64.wrap (s6+(b.length:Int)))with|some _=>(match true,r0[(i64.wrap (s6+(b.length:Int))).toNat]? with|true,some _x1=>k 8 (pN a b (i64.wrap (s6+1)) (r0.set ((i64.wrap (s6+(b.length:Int))).toNat) (u32.wrap s7)))|_,_=>none)|none=>none)
theorem u9(a b:List Int)(s6 s7 s8:Int)(r0:List Int):RN oU 23 (qP a b s6 s7 s8 r0) (po a b s6 s7 s8 r0):=rnX
def CL:Cn 162 [.bool,ai1]:=cn fun(neg:Bool) (l:List Int)=>lf (aM l) [.d y2Y (ai (bS neg (val l)))] fun h=>by
 refine az oW (Jo neg l) ⟨0,?_⟩
 have hv:=aL h.1
 have hp:decide (((ag (val l).toNat).length:Int)>0)=decide (0<val l):=by
  refine ahe.2 ⟨fun g=>?_,fun g=>?_⟩
  ·apply age
   intro hc
   rw[show(val l).toNat=0 by omega,fe]at g
   simp at g
  ·have:ag (val l).toNat≠[]:=fun e=>by rw[gk]at e;omega
   have:=agF.2 this
   omega
 unfold Jo
 rw[afZ h,kK neg hv,hp]
 cases neg<;>rfl
theorem wW(a b:List Int)(ha:iG a)(hb:iG b)(hab:b.length≤a.length):∀(j i:Nat) (c:Int) (r:List Int),i+j=a.length→0≤c→c≤1→Lim r→r.length=a.length+1→(∀k (hk:k<r.length),i≤k→r[k]=0)→val r+pw i*c=val (a.take i)+val (b.take i)→
  uC.Runs 16 (jR a b r c (i:Int)) [.d ai1 (ag (val a+val b).toNat)]:=by
 have hsa:=ha.2
 intro j
 induction j with
 |zero=>
  intro i c r hi c0 c1 hr hl hz hv
  obtain rfl:i=a.length:=by omega
  have hir:a.length<r.length:=by omega
  have hr0:=hz _ hir (af6 _)
  have e:val (r.set a.length c)=val a+val b:=by
   rw[eM hir,hr0]
   rw[ag9,ag4 hab]at hv
   grind
  refine pE _ _ _ _ _ ⟨0,?_⟩
  unfold lP
  rw[bV (af6 _),ao r,aE,af0 hir]
  dsimp only
  rw[afZ (show aM (r.set a.length c) from⟨hr.set _ ⟨c0,by omega⟩,by simp;omega⟩),e]
 |succ j ih=>
  intro i c r hi c0 c1 hr hl hz hv
  have hia:i<a.length:=by omega
  have hir:i<r.length:=by omega
  have xa:=ha.1.get hia
  have hr0:=hz i hir (af6 _)
  have step:∀(t:Int),0≤t→t<2000000000→val (b.take (i+1))=val (b.take i)+pw i*(t-a[i]-c)→uC.Runs 16 (jR a b (r.set i (t%1000000000)) (t/1000000000) ((i+1:Nat):Int)) [.d ai1 (ag (val a+val b).toNat)]:=by
   intro t t0 t1 hb'
   refine ih (i+1) (t/1000000000) (r.set i (t%1000000000)) (by omega) (by omega) (by omega) (hr.set i ⟨by omega,by omega⟩) (by simpa using hl) (mC hz) ?_
   rw[eM hir,hr0,aT hia,hb',bU]
   have:=Int.emod_add_mul_ediv t 1000000000
   grind
  by_cases hib:i<b.length
  ·have xb:=hb.1.get hib
   have ht:=aT hib
   obtain⟨q,hq⟩:=step (c+a[i]+b[i]) (by omega) (by omega) (by rw[ht];grind)
   refine pE _ _ _ _ _ ⟨q,?_⟩
   unfold lP
   rw[bh hia,ao,af0 hia,bh hib,ao,af0 hib,ao r i,aE,af0 hir]
   dsimp only
   rw[cM (x:=c+a[i]) (by omega) (by omega),cM (x:=c+a[i]+b[i]) (by omega) (by omega),iK (by omega),gn (by omega),cM (x:=(c+a[i]+b[i])/1000000000) (by omega) (by omega),bK (by omega)]
   exact hq
  ·have ht:=jk (b:=b) (i:=i) (by omega)
   obtain⟨q,hq⟩:=step (c+a[i]) (by omega) (by omega) (by rw[ht];grind)
   refine pE _ _ _ _ _ ⟨q,?_⟩
   unfold lP
   rw[bh hia,ao,af0 hia,bV (show b.length≤i by omega),ao r i,aE,af0 hir]
   dsimp only
   rw[cM (x:=c+a[i]) (by omega) (by omega),iK (by omega),gn (by omega),cM (x:=(c+a[i])/1000000000) (by omega) (by omega),bK (by omega)]
   exact hq
def VD:Cn 167 [ai1,ai1]:=cn fun(a b:List Int)=>lf (iG a∧iG b) [.d ai1 (ag (val a+val b).toNat)] fun h=>by
 refine cJ oW (show uC.Res _ _ _ from ?_)
 obtain⟨ha,hb⟩:=h
 have hsa:=ha.2
 have hsb:=hb.2
 by_cases hc:a.length<b.length
 ·obtain⟨q,hq⟩:=wW b a hb ha (by omega) b.length 0 0 (List.replicate (b.length+1) 0) (by omega) (by omega) (by omega) (Lim.rep _) (by simp) (fun k hk _=>by simp) (by simp[val,gf])
  refine Mz _ _ ⟨q,?_⟩
  unfold De
  rw[bh hc,bK (by omega),pI (by omega),aE,aiL (val a)]
  exact hq
 ·obtain⟨q,hq⟩:=wW a b ha hb (by omega) a.length 0 0 (List.replicate (a.length+1) 0) (by omega) (by omega) (by omega) (Lim.rep _) (by simp) (fun k hk _=>by simp) (by simp[val,gf])
  refine Mz _ _ ⟨q,?_⟩
  unfold De
  rw[bV (by omega),bK (k:=a.length) (by omega),pI (n:=a.length+1) (by omega),aE]
  exact hq
theorem Gn(a b:List Int)(ha:aM a)(hb:aM b)(hle:val b≤val a):∀(j i:Nat) (c:Int) (r:List Int),i+j=a.length→0≤c→c≤1→Lim r→r.length=a.length→(∀k (hk:k<r.length),i≤k→r[k]=0)→val r+val (b.take i)=val (a.take i)+pw i*c→
  vI.Runs 10 (iB a b (i:Int) r c) [.d ai1 (ag (val a-val b).toNat)]:=by
 have hsa:=ha.2
 intro j
 induction j with
 |zero=>
  intro i c r hi c0 c1 hr hl hz hv
  obtain rfl:i=a.length:=by omega
  refine jS _ _ _ _ _ ⟨0,?_⟩
  unfold hZ
  rw[bV (af6 _)]
  have hrl:=bP hr
  rw[hl]at hrl
  have hb2:val b=val (b.take a.length)+pw (min a.length b.length)*val (b.drop a.length):=fH b a.length
  have hbd:0≤val (b.drop a.length):=aL (hb.1.drop _)
  have hal:=bP ha.1
  have hbt:=aL (hb.1.take a.length)
  rw[ag9]at hv
  have hz0:val (b.drop a.length)=0:=by
   rcases agA a.length b.length with h1|h1
   ·rw[agI (by omega)]at hb2
    rcases ags 0 (val (b.drop a.length))with h2|h2
    ·have hp:=b9 a.length
     have:=af7 (show 1≤val (b.drop a.length) by omega) (agB hp)
     omega
    ·omega
   ·rw[agR h1];rfl
  rw[hz0,ah9,aiW]at hb2
  have hc0:c=0:=by
   have hp:=b9 a.length
   rcases(show c=0∨c=1 by omega)with h|h
   ·exact h
   ·subst h;rw[aic]at hv;omega
  subst hc0
  rw[ah9]at hv
  rw[afZ (show aM r from⟨hr,by omega⟩),show val r=val a-val b by omega]
 |succ j ih=>
  intro i c r hi c0 c1 hr hl hz hv
  have hia:i<a.length:=by omega
  have hir:i<r.length:=by omega
  have xa:=ha.1.get hia
  have hr0:=hz i hir (af6 _)
  have step:∀(y c':Int),0≤y→y<1000000000→0≤c'→c'≤1→val (b.take (i+1))=val (b.take i)+pw i*(a[i]+1000000000*c'-y-c)→vI.Runs 10 (iB a b ((i+1:Nat):Int) (r.set i y) c') [.d ai1 (ag (val a-val b).toNat)]:=by
   intro y c' y0 y1 k0 k1 hb'
   refine ih (i+1) c' (r.set i y) (by omega) k0 k1 (hr.set i ⟨y0,y1⟩) (by simpa using hl) (mC hz) ?_
   rw[eM hir,hr0,aT hia,hb',bU]
   grind
  by_cases hib:i<b.length
  ·have xb:=hb.1.get hib
   have ht:=aT hib
   by_cases hc:a[i]+1000000000-c-b[i]≥1000000000
   ·obtain⟨q,hq⟩:=step (a[i]+1000000000-c-b[i]-1000000000) 0 (by omega) (by omega) (by omega) (by omega) (by rw[ht];grind)
    refine jS _ _ _ _ _ ⟨q,?_⟩
    unfold hZ
    rw[bh hia,ao,af0 hia,bh hib,ao,af0 hib,ao,aE,af0 hir]
    dsimp only
    rw[cM (x:=a[i]+1000000000) (by omega) (by omega),cM (x:=a[i]+1000000000-c) (by omega) (by omega),cM (x:=a[i]+1000000000-c-b[i]) (by omega) (by omega),afZ hc,cM (x:=a[i]+1000000000-c-b[i]-1000000000) (by omega) (by omega),bK (by omega)]
    exact hq
   ·obtain⟨q,hq⟩:=step (a[i]+1000000000-c-b[i]) 1 (by omega) (by omega) (by omega) (by omega) (by rw[ht];grind)
    refine jS _ _ _ _ _ ⟨q,?_⟩
    unfold hZ
    rw[bh hia,ao,af0 hia,bh hib,ao,af0 hib,ao,aE,af0 hir]
    dsimp only
    rw[cM (x:=a[i]+1000000000) (by omega) (by omega),cM (x:=a[i]+1000000000-c) (by omega) (by omega),cM (x:=a[i]+1000000000-c-b[i]) (by omega) (by omega),af1 hc,bK (by omega)]
    exact hq
  ·have ht:=jk (b:=b) (i:=i) (by omega)
   by_cases hc:a[i]+1000000000-c≥1000000000
   ·obtain⟨q,hq⟩:=step (a[i]+1000000000-c-1000000000) 0 (by omega) (by omega) (by omega) (by omega) (by rw[ht];grind)
    refine jS _ _ _ _ _ ⟨q,?_⟩
    unfold hZ
    rw[bh hia,ao,af0 hia,bV (show b.length≤i by omega),ao r i,aE,af0 hir]
    dsimp only
    rw[cM (x:=a[i]+1000000000) (by omega) (by omega),cM (x:=a[i]+1000000000-c) (by omega) (by omega),afZ hc,cM (x:=a[i]+1000000000-c-1000000000) (by omega) (by omega),bK (by omega)]
    exact hq
   ·obtain⟨q,hq⟩:=step (a[i]+1000000000-c) 1 (by omega) (by omega) (by omega) (by omega) (by rw[ht];grind)
    refine jS _ _ _ _ _ ⟨q,?_⟩
    unfold hZ
    rw[bh hia,ao,af0 hia,bV (show b.length≤i by omega),ao r i,aE,af0 hir]
    dsimp only
    rw[cM (x:=a[i]+1000000000) (by omega) (by omega),cM (x:=a[i]+1000000000-c) (by omega) (by omega),af1 hc,bK (by omega)]
    exact hq
def Cr:Cn 169 [ai1,ai1]:=cn fun(a b:List Int)=>lf (mh a b) [.d ai1 (ag (val a-val b).toNat)] fun h=>by
 refine cJ oW (show vI.Res _ _ _ from ?_)
 obtain⟨ha,hb,hle⟩:=h
 have hsa:=ha.2
 obtain⟨q,hq⟩:=Gn a b ha hb hle a.length 0 0 (List.replicate a.length 0) (by omega) (by omega) (by omega) (Lim.rep _) (by simp) (fun k hk _=>by simp) (by simp[val,gf])
 refine Xr _ _ ⟨q,?_⟩
 unfold HY
 rw[pI (by omega),aE]
 exact hq
theorem Cp(a b:List Int)(ha:iG a)(hb:iG b)(i:Nat)(hi:i<a.length)
  (hout:∀r,Lim r→r.length=a.length+b.length→(∀k (hk:k<r.length),i+1+b.length≤k→r[k]=0)→val r=val (a.take (i+1))*val b→oU.Runs 8 (pN a b ((i+1:Nat):Int) r) [.d ai1 (ag (val a*val b).toNat)]):
  ∀(j k:Nat) (c:Int) (r:List Int),k+j=b.length→0≤c→c<1000000000→Lim r→r.length=a.length+b.length→(∀q (hq:q<r.length),i+b.length≤q→r[q]=0)→val r+pw (i+k)*c=val (a.take i)*val b+pw i*a[i]*val (b.take k)→
  oU.Runs 23 (qP a b (i:Int) c (k:Int) r) [.d ai1 (ag (val a*val b).toNat)]:=by
 have hsa:=ha.2
 have hsb:=hb.2
 have xa:=ha.1.get hi
 intro j
 induction j with
 |zero=>
  intro k c r hk c0 c1 hr hl hz hv
  obtain rfl:k=b.length:=by omega
  have hir:i+b.length<r.length:=by omega
  have hr0:=hz _ hir (af6 _)
  obtain⟨q,hq⟩:=hout (r.set (i+b.length) c) (hr.set _ ⟨c0,c1⟩) (by simpa using hl) (by rw[show i+1+b.length=i+b.length+1 by omega];exact mC hz) (by
   rw[eM hir,hr0,aT hi]
   rw[ag9]at hv
   grind)
  refine u9 _ _ _ _ _ _ ⟨q,?_⟩
  have hw:i64.wrap ((i:Int)+(b.length:Int))=((i+b.length:Nat):Int):=by rw[aP (by omega) (by omega)];simp
  unfold po
  rw[bV (af6 _),hw,ao r (i+b.length),aE,af0 hir,cM (x:=c) (by omega) (by omega),bK (k:=i) (by omega)]
  exact hq
 |succ j ih=>
  intro k c r hk c0 c1 hr hl hz hv
  have hkb:k<b.length:=by omega
  have hir:i+k<r.length:=by omega
  have xb:=hb.1.get hkb
  have xr:=hr.get hir
  have hbd:=B7 xr xa xb ⟨c0,c1⟩
  obtain⟨q,hq⟩:=ih (k+1) ((r[i+k]+a[i]*b[k]+c)/1000000000) (r.set (i+k) ((r[i+k]+a[i]*b[k]+c)%1000000000)) (by omega) hbd.2.2.1 hbd.2.2.2 (hr.set _ (by omega)) (by simpa using hl)
   (fun m hm hq=>by rw[ahf (by omega)];exact hz m (by simpa using hm) hq) (by
    rw[eM hir,aT hkb,show i+(k+1)=i+k+1 by omega,bU,fb]
    rw[fb]at hv
    have e:=Int.emod_add_mul_ediv (r[i+k]+a[i]*b[k]+c) 1000000000
    grind)
  refine u9 _ _ _ _ _ _ ⟨q,?_⟩
  have hw:i64.wrap ((i:Int)+(k:Int))=((i+k:Nat):Int):=by rw[aP (by omega) (by omega)];simp
  unfold po
  rw[bh hkb,hw,ao b k,af0 hkb,ao a i,af0 hi,ao r (i+k),aE,af0 hir]
  dsimp only
  rw[aY (x:=r[i+k]) (by omega) (by omega),aY (x:=a[i]) (by omega) (by omega),aY (x:=b[k]) (by omega) (by omega),aY (x:=a[i]*b[k]) (by omega) (by omega),aY (x:=c+r[i+k]) (by omega) (by omega),aY (x:=c+r[i+k]+a[i]*b[k]) (by omega) (by omega),show c+r[i+k]+a[i]*b[k]=r[i+k]+a[i]*b[k]+c by omega,gn (a:=r[i+k]+a[i]*b[k]+c) (by omega),iK (a:=r[i+k]+a[i]*b[k]+c) (by omega),aY (x:=(r[i+k]+a[i]*b[k]+c)/1000000000) (by omega) (by omega),cM (x:=(r[i+k]+a[i]*b[k]+c)%1000000000) (by omega) (by omega),bK (k:=k) (by omega)]
  exact hq
theorem DI(a b:List Int)(ha:iG a)(hb:iG b):∀(j i:Nat) (r:List Int),i+j=a.length→Lim r→r.length=a.length+b.length→(∀k (hk:k<r.length),i+b.length≤k→r[k]=0)→val r=val (a.take i)*val b→
  oU.Runs 8 (pN a b (i:Int) r) [.d ai1 (ag (val a*val b).toNat)]:=by
 have hsa:=ha.2
 have hsb:=hb.2
 intro j
 induction j with
 |zero=>
  intro i r hi hr hl hz hv
  obtain rfl:i=a.length:=by omega
  refine w8 _ _ _ _ ⟨0,?_⟩
  unfold se
  rw[ag9]at hv
  rw[bV (af6 _),afZ (show aM r from⟨hr,by omega⟩),hv]
 |succ j ih=>
  intro i r hi hr hl hz hv
  have hia:i<a.length:=by omega
  obtain⟨q,hq⟩:=Cp a b ha hb i hia (fun r' h1 h2 h3 h4=>ih (i+1) r' (by omega) h1 h2 h3 h4) b.length 0 0 r (by omega) (by omega) (by omega) hr hl hz (by simp[val,hv])
  refine w8 _ _ _ _ ⟨q,?_⟩
  grind [se]
def XI:Cn 163 [ai1,ai1]:=cn fun(a b:List Int)=>lf (iG a∧iG b) [.d ai1 (ag (val a*val b).toNat)] fun h=>by
 refine cJ oW (show oU.Res _ _ _ from ?_)
 obtain⟨ha,hb⟩:=h
 have hsa:=ha.2
 have hsb:=hb.2
 obtain⟨q,hq⟩:=DI a b ha hb a.length 0 (List.replicate (a.length+b.length) 0) (by omega) (Lim.rep _) (by simp) (fun k hk _=>by simp) (by simp[val,gf])
 refine Wf _ _ ⟨q,?_⟩
 have hw:i64.wrap ((a.length:Int)+(b.length:Int))=((a.length+b.length:Nat):Int):=by rw[aP (by omega) (by omega)];simp
 unfold LC
 rw[hw,pI (by omega),aE]
 exact hq
theorem qs{x:BI}(h:okI x):iG x.2:=⟨h.1.1,by have:=h.2.2;omega⟩
theorem Ql(a b:Int):decide (ce a b≥0)=decide (b≤a):=by grind [cQ,dw,cC]
theorem ue(a b:Int):decide (ce a b>0)=decide (b<a):=by grind [cQ,dw,cC]
def m7:List En:=[enK uO,enK zi,enF zB,enF vU,enK CL,enK VD,enK Cr,enK XI]
def L6(n:Int)(_k:KT):Option (List RV):=match decide (n<0)with|true=>(match decide (gK (u64.wrap (0-(u64.wrap n))))with|true=>(match decide (aM (ag (u64.wrap (0-(u64.wrap n))).toNat))with|true=>some [RV.d y2Y (ai (bS true (val (ag (u64.wrap (0-(u64.wrap n))).toNat))))]|false=>none)|false=>none)|false=>(match decide (gK (u64.wrap n))with|true=>(match decide (aM (ag (u64.wrap n).toNat))with|true=>some [RV.d y2Y (ai (bS false (val (ag (u64.wrap n).toNat))))]|false=>none)|false=>none)
def MO(x:Bool×List Int)(_k:KT):Option (List RV):=match(x.2.length:Int)==0 with|true=>some [RV.d ai2 0]|false=>(match x.1 with|true=>some [RV.d ai2 (-1)]|false=>some [RV.d ai2 1])
def Lj(x y:Bool×List Int)(_k:KT):Option (List RV):=match !(x.1==y.1)with|true=>(match x.1 with|true=>some [RV.d ai2 (-1)]|false=>some [RV.d ai2 1])|false=>(match x.1 with|true=>(og (decide (pj y.2 x.2)) (some [RV.d ai2 (ce (val y.2) (val x.2))]))|false=>(og (decide (pj x.2 y.2)) (some [RV.d ai2 (ce (val x.2) (val y.2))])))
def JN(x y:Bool×List Int)(_k:KT):Option (List RV):=match x.1==y.1 with|true=>(og (decide (iG x.2∧iG y.2)) (og (decide (aM (ag (val x.2+val y.2).toNat))) (some [RV.d y2Y (ai (bS x.1 (val (ag (val x.2+val y.2).toNat))))])))|false=>(og (decide (pj x.2 y.2)) (match decide ((ce (val x.2) (val y.2))≥0)with|true=>(og (decide (mh x.2 y.2)) (og (decide (aM (ag (val x.2-val y.2).toNat))) (some [RV.d y2Y (ai (bS x.1 (val (ag (val x.2-val y.2).toNat))))])))|false=>(og (decide (mh y.2 x.2)) (og (decide (aM (ag (val y.2-val x.2).toNat))) (some [RV.d y2Y (ai (bS y.1 (val (ag (val y.2-val x.2).toNat))))])))))
def Io(x:Bool×List Int)(_k:KT):Option (List RV):=og (decide (aM x.2)) (some [RV.d y2Y (ai (bS (!x.1) (val x.2)))])
def HI(x y:Bool×List Int)(_k:KT):Option (List RV):=og (decide (iG x.2∧iG y.2)) (og (decide (aM (ag (val x.2*val y.2).toNat))) (some [RV.d y2Y (ai (bS (!(x.1==y.1)) (val (ag (val x.2*val y.2).toNat))))]))
def UV(a:List Int)(n:Int)(_k:KT):Option (List RV):=og (decide (aM ([n]))) (og (decide (iG a∧iG (ag (val ([n])).toNat))) (some [RV.d ai1 (ag (val a*val (ag (val ([n])).toNat)).toNat)]))
def yb:Cn 82 [ai2]:=cn fun(n:Int)=>lf (aF n) [.d y2Y (ai n)] fun h=>by
 refine az m7 (L6 n) ⟨0,?_⟩
 have h1:=h.1
 have h2:=h.2
 unfold L6
 by_cases hn:n<0
 ·have e:u64.wrap (0-u64.wrap n)= -n:=by rw[agN,agN];omega
  have hl:(ag (-n).toNat).length≤3:=ck (by omega) (ail (show-n<18446744073709551616 by omega) (by decide))
  rw[afZ hn]
  dsimp only
  rw[e,afZ (show gK (-n) from⟨by omega,by omega⟩),afZ (co (n:=(-n).toNat) (by omega)),bL (v:= -n) (by omega)]
  dsimp only
  rw[show bS true (-n)=n by unfold bS;simp]
 ·have e:u64.wrap n=n:=aY (by omega) (by omega)
  have hl:(ag n.toNat).length≤3:=ck (by omega) (ail (show n<18446744073709551616 by omega) (by decide))
  rw[af1 hn]
  dsimp only
  rw[e,afZ (show gK n from⟨by omega,by omega⟩),afZ (co (n:=n.toNat) (by omega)),bL (v:=n) (by omega)]
  rfl
def ME:Cn 117 [y2Y]:=cn fun(x:Bool×List Int)=>lf (okI x) [.d ai2 (ce (ae x) 0)] fun h=>by
 refine az m7 (MO x) ⟨0,?_⟩
 obtain⟨h0,h1,h2⟩:=cr h
 unfold MO
 rw[bi]
 unfold bS
 by_cases he:x.2=[]
 ·have e0:=h2.1 he
  have ex:x.1=false:=by
   cases hx:x.1
   ·rfl
   ·have:=h1 hx;omega
  rw[ex,e0,he]
  rfl
 ·have hp:0<val x.2:=d9 h.1 he
  have:=agF.2 he
  rw[show((x.2.length:Int)==0)=false by simp;omega]
  cases x.1
  ·simp only[cond_false];rw[cC hp]
  ·simp only[agd];rw[cQ (by omega)]
def IX:Cn 176 [y2Y,y2Y]:=cn fun(x y:Bool×List Int)=>lf (okI x∧okI y) [.d ai2 (ce (ae x) (ae y))] fun h=>by
 refine az m7 (Lj x y) ⟨0,?_⟩
 obtain⟨hx,hy⟩:=h
 obtain⟨x0,x1,x2⟩:=cr hx
 obtain⟨y0,y1,y2⟩:=cr hy
 have sx:=hx.2.2
 have sy:=hy.2.2
 unfold Lj
 rw[bi,bi,afZ (show pj y.2 x.2 from⟨⟨hy.1,by omega⟩,hx.1,by omega⟩),afZ (show pj x.2 y.2 from⟨⟨hx.1,by omega⟩,hy.1,by omega⟩)]
 unfold bS
 cases ex:x.1<;>cases ey:y.1
 ·rfl
 ·have:=y1 ey
  simp only[agd,cond_false]
  rw[show ce (val x.2) (-val y.2)=1 from cC (by omega)]
  rfl
 ·have:=x1 ex
  simp only[agd,cond_false]
  rw[show ce (-val x.2) (val y.2)= -1 from cQ (by omega)]
  rfl
 ·simp only[agd]
  rw[EM x0 y0]
  rfl
def yG:Cn 67 [y2Y,y2Y]:=cn fun(x y:Bool×List Int)=>lf (okI x∧okI y) [.d y2Y (ai (ae x+ae y))] fun h=>by
 refine az m7 (JN x y) ⟨0,?_⟩
 obtain⟨hx,hy⟩:=h
 obtain⟨x0,x1,x2⟩:=cr hx
 obtain⟨y0,y1,y2⟩:=cr hy
 have lx:=fJ hx
 have ly:=fJ hy
 have tx:=qs hx
 have ty:=qs hy
 have sx:=hx.2.2
 have sy:=hy.2.2
 have bx:=bP hx.1.1
 have by':=bP hy.1.1
 have px:=cX (show x.2.length≤1000000 by omega)
 have py:=cX (show y.2.length≤1000000 by omega)
 have l1:(ag (val x.2+val y.2).toNat).length≤1000001:=ck (by omega) (by rw[bU];omega)
 have l2:(ag (val x.2-val y.2).toNat).length≤1000000:=cW (by have:=b9 1000000;omega)
 have l3:(ag (val y.2-val x.2).toNat).length≤1000000:=cW (by have:=b9 1000000;omega)
 unfold JN
 rw[bi,bi,afZ (show iG x.2∧iG y.2 from⟨tx,ty⟩),afZ (co (n:=(val x.2+val y.2).toNat) (by omega)),afZ (co (n:=(val x.2-val y.2).toNat) (by omega)),afZ (co (n:=(val y.2-val x.2).toNat) (by omega)),bL (v:=val x.2+val y.2) (by omega),
  afZ (show pj x.2 y.2 from⟨⟨hx.1,by omega⟩,hy.1,by omega⟩),Ql]
 cases hs:x.1==y.1
 ·dsimp only
  rcases ags (val x.2) (val y.2)with hc|hc
  ·rw[af1 (show ¬val y.2≤val x.2 by omega),afZ (show mh y.2 x.2 from⟨ly,lx,by omega⟩),bL (v:=val y.2-val x.2) (by omega)]
   dsimp only
   unfold bS
   cases ex:x.1<;>cases ey:y.1<;>simp_all<;>congr 2<;>omega
  ·rw[afZ hc,afZ (show mh x.2 y.2 from⟨lx,ly,hc⟩),bL (v:=val x.2-val y.2) (by omega)]
   dsimp only
   unfold bS
   cases ex:x.1<;>cases ey:y.1<;>simp_all<;>congr 2<;>omega
 ·dsimp only
  have e:=aha.1 hs
  rw[←e]
  unfold bS
  cases x.1
  ·rfl
  ·simp only[agd]
   rw[show-(val x.2+val y.2)= -val x.2+ -val y.2 by omega]
def JR:Cn 164 [y2Y]:=cn fun(x:Bool×List Int)=>lf (okI x) [.d y2Y (ai (-ae x))] fun h=>by
 refine az m7 (Io x) ⟨0,?_⟩
 unfold Io
 rw[bi,afZ (fJ h)]
 unfold bS
 cases x.1<;>simp
def MS:Cn 65 [y2Y,y2Y]:=cn fun(x y:Bool×List Int)=>lf (okI x∧okI y) [.d y2Y (ai (ae x*ae y))] fun h=>by
 refine az m7 (HI x y) ⟨0,?_⟩
 obtain⟨hx,hy⟩:=h
 obtain⟨x0,x1,x2⟩:=cr hx
 obtain⟨y0,y1,y2⟩:=cr hy
 have bx:=bP hx.1.1
 have by':=bP hy.1.1
 have sx:=hx.2.2
 have sy:=hy.2.2
 have hm:0≤val x.2*val y.2:=agT x0 y0
 have l1:(ag (val x.2*val y.2).toNat).length≤x.2.length+y.2.length:=ck hm (by
  rw[fb]
  have p1:=b9 x.2.length
  have p2:=b9 y.2.length
  have:=ah0 (show val x.2≤pw x.2.length-1 by omega) (show val y.2≤pw y.2.length-1 by omega) y0 (by omega)
  grind)
 unfold HI
 rw[bi,bi,afZ (show iG x.2∧iG y.2 from⟨qs hx,qs hy⟩),afZ (co (n:=(val x.2*val y.2).toNat) (by omega)),bL hm]
 unfold bS
 cases x.1<;>cases y.1<;>simp[Int.neg_mul,aiF]
def byP(a:List Int)(n:Int):Prop:=iG a∧0≤n∧n<1000000000
instance (a:List Int) (n:Int):Decidable (byP a n):=by unfold byP;infer_instance
def TC:Cn 321 [ai1,ai3]:=cn fun(a:List Int) (n:Int)=>lf (byP a n) [.d ai1 (ag (val a*n).toNat)] fun h=>by
 refine az m7 (UV a n) ⟨0,?_⟩
 obtain⟨ha,h1,h2⟩:=h
 have hl:(ag n.toNat).length≤1:=ck (by omega) (by show n<pw 1;simp[pw];exact h2)
 have e:val [n]=n:=by simp[val]
 unfold UV
 rw[e,afZ (show aM [n] from⟨Lim.cons ⟨by omega,h2⟩ Lim.nil,by simp⟩),afZ (show iG a∧iG (ag n.toNat) from⟨ha,bR _,by omega⟩),bL (by omega)]
def WB:List En:=enK yG::enK JR::m7
def HZ(x y:Bool×List Int)(_k:KT):Option (List RV):=og (decide (okI y)) (og (decide (okI x∧okI (ai (-ae y)))) (some [RV.d y2Y (ai (ae x+ae (ai (-ae y))))]))
def YQ:Cn 266 [y2Y,y2Y]:=cn fun(x y:Bool×List Int)=>lf (okI x∧okI y) [.d y2Y (ai (ae x-ae y))] fun h=>by
 refine az WB (HZ x y) ⟨0,?_⟩
 obtain⟨hx,hy⟩:=h
 unfold HZ
 rw[afZ hy,afZ (show okI x∧okI (ai (-ae y)) from⟨hx,aR (by rw[io];exact ia hy)⟩),dec_enc,Int.sub_eq_add_neg]
end Go.Proofs.YtnkndpoojnflmaaGreat
end
