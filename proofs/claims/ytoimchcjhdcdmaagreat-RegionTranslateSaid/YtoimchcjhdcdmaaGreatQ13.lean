/- Intervals: sound for reals. -/
import Derived.Test.YtoimchcjhdcdmaaGreatQ12
import Derived.Test.YtoimchcjhdcdmaaGreatQ1
import Derived.Lib.LazyBuf
import Derived.Test.YtoimchcjhdcdmaaGreatQ7
noncomputable section
namespace Go.Proofs.YtoimchcjhdcdmaaGreat
open Go.RowKit Go.IntKind
open Bool renaming true->T',false->F'
open Option renaming some->S',none->N'
open Decidable renaming decide->D'
theorem aqH:type_of% @Int.zero_sub:=@Int.zero_sub
theorem aqX:type_of% @Rat.intCast_mul:=@Rat.intCast_mul
theorem aro:type_of% @Rat.intCast_lt_intCast:=@Rat.intCast_lt_intCast
namespace RE
theorem mw{a b:Int}(h:a<=b):of (a:Rat)<=of (b:Rat):=oA.2 (arn.2 h)
theorem gN{q:Rat}(h:(frF q).2=T'):inI (frF q).1 (of q):=by
 have f1:((q*65536).floor:Rat)<=q*65536:=Rat.floor_le _;have f2:((-(q*65536)).floor:Rat)<= -(q*65536):=Rat.floor_le _;unfold frF at h ⊢;cases e1:D' (bI (q*65536).floor)
 ·rw[e1]at h;cases h
 ·cases e2:D' (bI (-(-(q*65536)).floor))
  ·rw[e1,e2]at h;cases h
  ·rw[e1,e2]at h;simp only[cond_true]at h ⊢;rw[Ej h];refine⟨?_,?_⟩
   ·rw[<-bR];exact oA.2 (by show(((q*65536).floor:Int):Rat)<=_;grind)
   ·rw[<-bR];exact oA.2 (by show _<=((-(-(q*65536)).floor:Int):Rat);rw[arC];grind)
theorem frF_pr(q:Rat):prI (frF q).1:=by
 have f1:((q*65536).floor:Rat)<=q*65536:=Rat.floor_le _;have f2:((-(q*65536)).floor:Rat)<= -(q*65536):=Rat.floor_le _
 have f3:(q*65536).floor<= -(-(q*65536)).floor:=by
  refine arn.1 ?_;rw[arC];grind
 unfold frF;cases D' (bI (q*65536).floor)
 ·exact fF
 ·cases D' (bI (-(-(q*65536)).floor))
  ·exact fF
  ·exact B0 f3
theorem jT{a b:Iv}{x y:RE}(ha:inI a x)(hb:inI b y)(h:(dH a b).2=T'):inI (dH a b).1 (x+y):=by
 unfold dH at h ⊢;rw[Ej h];refine⟨?_,?_⟩
 ·show of ((a.1+b.1:Int):Rat)<=_;rw[Rat.intCast_add,of_add];exact Yi _ _ _ _ _ ha.1 hb.1
 ·show _<=of ((a.2+b.2:Int):Rat);rw[Rat.intCast_add,of_add];exact WY _ _ _ _ _ ha.2 hb.2
theorem addF_pr{a b:Iv}(ha:prI a)(hb:prI b):prI (dH a b).1:=B0 (by have:=ha.2.1;have:=hb.2.1;omega)
theorem CP{a:Iv}{x:RE}(ha:inI a x):inI (nf a) (-x):=by
 refine⟨?_,?_⟩
 ·show of ((-a.2:Int):Rat)<=_;rw[arC,of_neg];exact W5 _ _ _ ha.2
 ·show _<=of ((-a.1:Int):Rat);rw[arC,of_neg];exact Xq _ _ _ ha.1
theorem negF_pr{a:Iv}(ha:prI a):prI (nf a):=⟨by show _<= -a.2;have:=ha.2.2;omega,by show-a.2<= -a.1;have:=ha.2.1;omega,by show-a.1<=_;have:=ha.1;omega⟩
theorem lJ{a b:Iv}{x y:RE}(ha:inI a x)(hb:inI b y)(h:(cC a b).2=T'):inI (cC a b).1 (x*y):=by
 have hc:=Vo h;have c1:=hc a.1 b.1 (.inl rfl) (.inl rfl);have c2:=hc a.1 b.2 (.inl rfl) (.inr rfl);have c3:=hc a.2 b.1 (.inr rfl) (.inl rfl);have c4:=hc a.2 b.2 (.inr rfl) (.inr rfl);generalize (cC a b).1=m at*
 have up:∀{p q r:Int},p*65536<=q*r->of (p:Rat)*of 65536<=of (q:Rat)*of (r:Rat):=λ{p q r} h=>by
  have:=mw h;rw[aqX,aqX,bR,bR]at this;exact this
 have dn:∀{p q r:Int},q*r<=p*65536->of (q:Rat)*of (r:Rat)<=of (p:Rat)*of 65536:=λ{p q r} h=>by
  have:=mw h;rw[aqX,aqX,bR,bR]at this;exact this
 obtain⟨a1,a2⟩:=ha;obtain⟨b1,b2⟩:=hb
 have l:of (m.1:Rat)*of 65536<=of 65536*x*(of 65536*y):=by
  rcases lt_or_ge (of 65536*y) 0 with v|v
  ·rcases lt_or_ge (of (a.2:Rat)) 0 with s|s
   ·exact am9 _ _ _ _ _ (le_of_lt v) (le_of_lt s) a2 b2 (up c4.1)
   ·exact amn _ _ _ _ _ (le_of_lt v) s a2 b1 (up c3.1)
  ·rcases lt_or_ge (of (a.1:Rat)) 0 with s|s
   ·exact amD _ _ _ _ _ v (le_of_lt s) a1 b2 (up c2.1)
   ·exact ajW _ _ _ _ _ v s a1 b1 (up c1.1)
 have u:of 65536*x*(of 65536*y)<=of (m.2:Rat)*of 65536:=by
  rcases lt_or_ge (of 65536*y) 0 with v|v
  ·rcases lt_or_ge (of (a.1:Rat)) 0 with s|s
   ·exact amf _ _ _ _ _ (le_of_lt v) (le_of_lt s) a1 b1 (dn c1.2)
   ·exact alG _ _ _ _ _ (le_of_lt v) s a1 b2 (dn c2.2)
  ·rcases lt_or_ge (of (a.2:Rat)) 0 with s|s
   ·exact aim _ _ _ _ _ v (le_of_lt s) a2 b1 (dn c3.2)
   ·exact amj _ _ _ _ _ v s a2 b2 (dn c4.2)
 rw[aey]at l u;exact⟨abY _ _ _ oC l,abY _ _ _ oC u⟩
theorem akl(u s:RE):u*s*(u*s)=u*(s*s)*u:=by grind
theorem Ue(r a u x:RE):((r-(u*x*u)))+((a*u-(r)))+((u*x-(a))*(u-(0)))=0:=by grind
theorem aei(r a u x:RE)(h1:r<=a*u)(h2:a<=u*x)(h3:0<u):r<=u*x*u:=λhg=>far (aW (aW (bE hg) (aN h1)) (cq (aN h2) (le_of_lt (bE h3)))) (Ue r a u x)
theorem Q8(r a u x:RE):((u*x*u-(r)))+((r-(a*u)))+((a-(u*x))*(u-(0)))=0:=by grind
theorem TX(r a u x:RE)(h1:a*u<=r)(h2:u*x<=a)(h3:0<u):u*x*u<=r:=λhg=>far (aW (aW (bE hg) (aN h1)) (cq (aN h2) (le_of_lt (bE h3)))) (Q8 r a u x)
theorem sqF_pr{a:Iv}(ha:prI a):prI (sqF a).1:=by
 unfold sqF;by_cases h:a.2<0
 ·rw[aoP h];exact fF
 ·rw[aoR h];simp only[cond_false];refine B0 ?_;have h1:(if 0>a.1 then 0 else a.1)<=a.2:=by have:=ha.2.1;split<;>omega
  have h0:0<=(if 0>a.1 then 0 else a.1):=by split<;>omega
  have hm:eh (if 0>a.1 then 0 else a.1)<=eh a.2:=by
   unfold eh;obtain⟨_,g1,_⟩:=fS (z:=(if 0>a.1 then 0 else a.1)*65536) (by omega);obtain⟨g0,_,g2⟩:=fS (z:=a.2*65536) (by omega);have:=Go.Proofs.YtoimchcjhdcdmaaGreat.sq_lt (a:=bO ((if 0>a.1 then 0 else a.1)*65536)) (b:=bO (a.2*65536)+1) (by omega) (by omega);omega
  cases D' (eh a.2*eh a.2=a.2*65536)
  ·show _<=eh a.2+1;omega
  ·exact hm
theorem zU{a:Iv}{x:RE}(ha:inI a x)(hx:0<=x)(h:(sqF a).2=T'):inI (sqF a).1 (z5 x):=by
 obtain⟨a1,a2⟩:=ha;have hs:=CV hx;have s0:0<=of 65536*z5 x:=cq (le_of_lt oC) (oZ x);have e:of 65536*z5 x*(of 65536*z5 x)=of 65536*x*of 65536:=by rw[akl,hs]
 unfold sqF at h ⊢;cases hn:D' (a.2<0)
 ·rw[hn]at h;simp only[cond_false]at h ⊢;have h2:=apI hn;rw[Ej h];obtain⟨p0,p1,p2⟩:=fS (z:=(if 0>a.1 then 0 else a.1)*65536) (by split<;>omega);obtain⟨q0,q1,q2⟩:=fS (z:=a.2*65536) (by omega)
  have cm:∀{p q:Int},p*p<=q*65536->of (p:Rat)*of (p:Rat)<=of (q:Rat)*of 65536:=λ{p q} h=>by
   have:=mw h;rw[aqX,aqX,bR,bR]at this;exact this
  have cn:∀{p q:Int},q*65536<=p*p->of (q:Rat)*of 65536<=of (p:Rat)*of (p:Rat):=λ{p q} h=>by
   have:=mw h;rw[aqX,aqX,bR,bR]at this;exact this
  have nn:∀{p:Int},0<=p->0<=of (p:Rat):=λh=>mw h;refine⟨?_,?_⟩
  ·show of ((eh _:Int):Rat)<=_;refine QQ _ _ (nn p0) s0 ?_;rw[e];refine aei _ (of (((if 0>a.1 then 0 else a.1:Int)):Rat)) _ _ (cm p1) ?_ oC;split
   ·exact cq (le_of_lt oC) hx
   ·exact a1
  ·show _<=of (((bif _ then _ else _):Int):Rat);cases he:D' (eh a.2*eh a.2=a.2*65536)
   ·simp only[cond_false];refine QQ _ _ s0 (nn (by unfold eh;omega)) ?_;rw[e];exact TX _ _ _ _ (cn (by unfold eh;omega)) a2 oC
   ·simp only[cond_true];refine QQ _ _ s0 (nn q0) ?_;rw[e];exact TX _ _ _ _ (cn (by rw[aoQ he];exact ase _)) a2 oC
 ·rw[hn]at h;cases h
theorem HE{i:Iv}{x:RE}(hi:inI i x)(h:(sgF i).2=T'):(sgF i).1=sg x:=by
 obtain⟨h1,h2⟩:=hi;unfold sgF at h ⊢;cases e1:D' (i.1>0)
 ·rw[e1]at h;cases e2:D' (i.2<0)
  ·rw[e2]at h;simp only[cond_false,aoT,arG]at h ⊢;rw[h.1]at h1;rw[h.2]at h2;have:of 65536*x=0:=le_antisymm h2 h1;have:sg (of 65536*x)=0:=by rw[this,fq]
   rw[vd,jg oC]at this;omega
  ·have e:=aoQ e2;have h3:of (i.2:Rat)<0:=kE (aro.2 e);simp only[cond_false,cond_true]
   have:sg (of 65536*x)= -1:=oE (by
    rcases lt_or_ge (of 65536*x) 0 with h|h
    ·exact h
    ·exact absurd (le_trans h h2) (xS.2 h3))
   rw[vd,jg oC]at this;omega
 ·have e:=aoQ e1;have h3:0<of (i.1:Rat):=kE (aro.2 e);simp only[cond_true]
  have:sg (of 65536*x)=1:=jg (by
   rcases lt_or_ge 0 (of 65536*x)with h|h
   ·exact h
   ·exact absurd (le_trans h1 h) (xS.2 h3))
  rw[vd,jg oC]at this;omega
end RE
abbrev Qd:=Rat×Rat×Rat×Rat×Rat×Rat
def sgQ(q:Qd):Int:=Em q.1 q.2.1 q.2.2.1 q.2.2.2.1 q.2.2.2.2.1 q.2.2.2.2.2
def suT(x y:Rt):Qd:=(x.1-y.1,x.2.1,-y.2.1,0,x.2.2,y.2.2)
def eG(x:Rt)(q:Rat):Int:=gb (x.1-q) x.2.1 x.2.2
def okQ(q:BQ):Prop:=ok Rat 30001 q.1/\ok Rat 15000 q.2.1/\ok Rat 15000 q.2.2.1/\ok Rat 6000 q.2.2.2.1/\ok Rat 15000 q.2.2.2.2.1/\ok Rat 15000 q.2.2.2.2.2/\0<=ag q.2.2.2.2.1/\0<=ag q.2.2.2.2.2
instance (q:BQ):Decidable (okQ q):=by unfold okQ;infer_instance
theorem IA{q:BQ}(h:okQ q):∃A B C D M N:Rat,q=enc ((A,B,C,D,M,N):Qd)/\Bd A 30001/\Bd B 15000/\Bd C 15000/\Bd D 6000/\Bd M 15000/\Bd N 15000/\0<=M/\0<=N:=by
 obtain⟨A,B,C,D,M,N⟩:=q;obtain⟨h1,h2,h3,h4,h5,h6,h7,h8⟩:=h;obtain⟨a,ha,b1⟩:=aJ h1;obtain⟨b,hb,b2⟩:=aJ h2;obtain⟨c,hc,b3⟩:=aJ h3;obtain⟨d,hd,b4⟩:=aJ h4;obtain⟨m,hm,b5⟩:=aJ h5;obtain⟨n,hn,b6⟩:=aJ h6;dsimp only at ha hb hc hd hm hn h7 h8;subst ha hb hc hd hm hn;rw[lN,eP]at h7 h8;exact⟨a,b,c,d,m,n,rfl,b1,b2,b3,b4,b5,b6,h7,h8⟩
theorem abl{A B C D M N:Rat}{a b c d m n:Nat}[h1:Bd A a][h2:Bd B b][h3:Bd C c][h4:Bd D d][h5:Bd M m][h6:Bd N n][h7:Nn M][h8:Nn N](ha:a<=30001)(hb:b<=15000)(hc:c<=15000)(hd:d<=6000)(hm:m<=15000)(hn:n<=15000):D' (okQ (enc ((A,B,C,D,M,N):Qd)))=true:=
 aoP ⟨aoQ (lH ha (by decide)),aoQ (lH hb (by decide)),aoQ (lH hc (by decide)),aoQ (lH hd (by decide)),aoQ (lH hm (by decide)),aoQ (lH hn (by decide)),by show 0<=ag (av M);rw[eP];exact h7.le,by show 0<=ag (av N);rw[eP];exact h8.le⟩
theorem xp{s t:Int}(hs: -1<=s/\s<=1)(ht: -1<=t/\t<=1):i64.wrap (s*t)=s*t:=by
 have:=B4 hs ht;exact aM (by omega) (by omega)
theorem t6{a b m x y:Rat}:i64.wrap (gb a b m*aD x y)=gb a b m*aD x y:=xp (jb _ _ _) (jZ _ _)
theorem tu{a b m x y z:Rat}:i64.wrap (gb a b m*gb x y z)=gb a b m*gb x y z:=xp (jb _ _ _) (jb _ _ _)
theorem GK(s t u:Int):(match s==0 with|T'=>(match s==0 with|T'=>S' [RV.d ask t]|F'=>S' [RV.d ask s])|F'=>(match t==0 with|T'=>(match s==0 with|T'=>S' [RV.d ask t]|F'=>S' [RV.d ask s])|F'=>(match s==t with|T'=>(match s==0 with|T'=>S' [RV.d ask t]|F'=>S' [RV.d ask s])|F'=>S' [RV.d ask (s*u)])))=S' [RV.d ask (RE.addS s t u)]:=by
 unfold RE.addS;cases h1:s==0
 ·cases h2:t==0
  ·cases h3:s==t<;>rfl
  ·rfl
 ·have e:=apw.1 h1;subst e;cases h2:t==0
  ·cases h3:(0:Int)==t
   ·rfl
   ·rw[<-apw.1 h3];rfl
  ·rw[apw.1 h2];rfl
theorem Dn(s t u:Int):(match t==0 with|T'=>S' [RV.d ask s]|F'=>(match s==t with|T'=>S' [RV.d ask s]|F'=>(match s==0 with|T'=>S' [RV.d ask t]|F'=>S' [RV.d ask (s*u)])))=S' [RV.d ask (RE.addS s t u)]:=by
 unfold RE.addS;cases h2:t==0
 ·cases h3:s==t
  ·cases h1:s==0<;>rfl
  ·rfl
 ·rfl
def Is:List En:=[enL lg,enL ru,enL xY,enL n7,enT nV,enT oW,enL ou]
def Ur(a b c:BR)(_k:KT):OLR:=og (o1 a) (og (o1 b) (og (o1 c) (match(aD (ag a) 0)==0 with|T'=>(match(aD (ag a) 0)==0 with|T'=>S' [RV.d ask (i64.wrap ((aD (ag b) 0)*(aD (ag c) 0)))]|F'=>S' [RV.d ask (aD (ag a) 0)])|F'=>(match(i64.wrap ((aD (ag b) 0)*(aD (ag c) 0)))==0 with|T'=>(match(aD (ag a) 0)==0 with|T'=>S' [RV.d ask (i64.wrap ((aD (ag b) 0)*(aD (ag c) 0)))]|F'=>S' [RV.d ask (aD (ag a) 0)])|F'=>(match(aD (ag a) 0)==(i64.wrap ((aD (ag b) 0)*(aD (ag c) 0)))with|T'=>(match(aD (ag a) 0)==0 with|T'=>S' [RV.d ask (i64.wrap ((aD (ag b) 0)*(aD (ag c) 0)))]|F'=>S' [RV.d ask (aD (ag a) 0)])|F'=>(og (o2 a a) (og (o2 b b) (og (o2 (hMu b b) c) (og (o2 (hMu a a) (hMu (hMu b b) c)) (S' [RV.d ask (i64.wrap ((aD (ag a) 0)*(aD (ag (hMu a a)) (ag (hMu (hMu b b) c)))))]))))))))))
def acZ:Cn 182 [tR,tR,tR]:=cn λ(a b c:BR)=>lf (ok Rat 240000 a/\ok Rat 170000 b/\ok Rat 30000 c) [.d ask (gb (ag a) (ag b) (ag c))] λh=>by
 refine aA Is (Ur a b c) ⟨0,?_⟩;obtain⟨ha,hb,hc⟩:=h;obtain⟨a,rfl,ba⟩:=aJ ha;obtain⟨b,rfl,bb⟩:=aJ hb;obtain⟨c,rfl,bc⟩:=aJ hc;unfold Ur;simp only[aV,Nat.reduceAdd,Nat.reduceLeDiff,qd];exact GK _ _ _
def Ph(a b:BO3)(_k:KT):OLR:=og (o2 a.1 b.1) (og (o1 b.2.1) (og (D' (bI (0:Int))) (S' [RV.d tQ (hSu a.1 b.1,(a.2.1,(hNe b.2.1,(hid (av ((0:Int):Rat)),(a.2.2,b.2.2)))))])))
def af1:Cn 101 [tO,tO]:=cn λ(a b:BO3)=>lf (ok Rt 15000 a/\ok Rt 15000 b) [.d tQ (enc (suT (dec a) (dec b)))] λh=>by
 refine aA Is (Ph a b) ⟨0,?_⟩;obtain⟨ha,hb⟩:=h;obtain⟨a,rfl,ba⟩:=aJ ha;obtain⟨b,rfl,bb⟩:=aJ hb;unfold Ph;simp only[aV,Nat.reduceLeDiff];try rfl
def Nl:List En:=enT acZ::enL af1::Is
def Un(q:BQ)(_k:KT):OLR:=let y1:=ag q.2.2.2.2.1;let y2:=aD (ag q.2.2.2.2.2) 0;let y3:=gb (ag q.1) (ag q.2.1) y1;let y4:=i64.wrap ((gb (ag q.2.2.1) (ag q.2.2.2.1) y1)*y2);let y5:OLR:=match y3==0 with|T'=>S' [RV.d ask y4]|F'=>S' [RV.d ask y3];let y6:=hMu q.2.2.2.1 q.2.2.2.1;let y7:=hMu q.2.2.1 q.2.2.1;let y8:=hMu y6 q.2.2.2.2.1;let y9:=hMu (hMu q.2.1 q.2.1) q.2.2.2.2.1;let y10:=hAd (hMu q.1 q.1) y9;let y11:=hMu q.2.2.2.2.2 (hAd y7 y8);let y12:=hMu q.2.2.1 q.2.2.2.1;let y13:=hMu q.2.2.2.2.2 y12;let y14:=hSu (hMu q.1 q.2.1) y13;og (o1 q.2.2.2.2.1) (match D' ((aD y1 0)<0)with|T'=>S' [RV.d ask 0]|F'=>(og (o1 q.2.2.2.2.2) (match D' (y2<0)with|T'=>S' [RV.d ask 0]|F'=>(og (D' (ok Rat 240000 q.1/\ok Rat 170000 q.2.1/\ok Rat 30000 q.2.2.2.2.1)) (og (D' (ok Rat 240000 q.2.2.1/\ok Rat 170000 q.2.2.2.1/\ok Rat 30000 q.2.2.2.2.1)) (og (o1 q.2.2.2.2.2) (match y3==0 with|T'=>y5|F'=>(match y4==0 with|T'=>y5|F'=>(match y3==y4 with|T'=>y5|F'=>(og (o2 q.2.2.1 q.2.2.1) (og (o2 q.2.2.2.1 q.2.2.2.1) (og (o2 y6 q.2.2.2.2.1) (og (o2 y7 y8) (og (o2 q.2.2.2.2.2 (hAd y7 y8)) (og (o2 q.1 q.1) (og (o2 q.2.1 q.2.1) (og (o2 (hMu q.2.1 q.2.1) q.2.2.2.2.1) (og (o2 (hMu q.1 q.1) y9) (og (o2 y10 y11) (og (o2 q.1 q.2.1) (og (o2 q.2.2.1 q.2.2.2.1) (og (o2 q.2.2.2.2.2 y12) (og (o2 (hMu q.1 q.2.1) y13) (og (o2 y14 y14) (og (D' (ok Rat 240000 (hSu y10 y11)/\ok Rat 170000 (hAd y14 y14)/\ok Rat 30000 q.2.2.2.2.1)) (S' [RV.d ask (i64.wrap (y3*(gb (ag (hSu y10 y11)) (ag (hAd y14 y14)) y1)))]))))))))))))))))))))))))))
def adO:Cn 100 [tQ]:=cn λ(q:BQ)=>lf (okQ q) [.d ask (sgQ (dec q))] λh=>by
 refine aA Nl (Un q) ⟨0,?_⟩;obtain⟨A,B,C,D,M,N,rfl,bA,bB,bC,bD,bM,bN,hM,hN⟩:=IA h;rw[ao];unfold Un;simp only[aV,aC,Nat.reduceAdd,Nat.reduceLeDiff,t6,tu,aq,aoR (show ¬M<0 by grind),aoR (show ¬N<0 by grind)];refine(GK _ _ _).trans ?_;unfold sgQ Em;rw[aoR (show ¬M<0 by grind),aoR (show ¬N<0 by grind)];dsimp only[Bool.or_false,cond_false];rw[show A*B-N*(C*D)+(A*B-N*(C*D))=2*(A*B-N*(C*D)) by grind];rfl
def Hh:List En:=enT adO::Nl
def To(a b:BO3)(_k:KT):OLR:=og (D' (ok Rt 15000 a/\ok Rt 15000 b)) (og (D' (okQ (hid (enc (suT (dec a) (dec b)))))) (S' [RV.d ask (sgQ (dec (hid (enc (suT (dec a) (dec b))))))]))
def DV:Cn 44 [tO,tO]:=cn λ(a b:BO3)=>lf (okT 15000 a/\okT 15000 b) [.d ask (bj (dec a) (dec b))] λh=>by
 refine aA Hh (To a b) ⟨0,?_⟩;obtain⟨ha,hb⟩:=h;obtain⟨a,rfl,ba,ra⟩:=gn ha;obtain⟨b,rfl,bb,rb⟩:=gn hb;have na:Nn a.2.2:=inferInstance;have nb:Nn b.2.2:=inferInstance;have e:D' (okQ (enc (suT a b)))=true:=abl (by decide) (by decide) (by decide) (by decide) (by decide) (by decide);unfold To;simp only[aV,Nat.reduceLeDiff,e];rfl
def SQ(a:BO3)(b:BR)(_k:KT):OLR:=og (o2 a.1 b) (og (D' (ok Rat 240000 (hSu a.1 b)/\ok Rat 170000 a.2.1/\ok Rat 30000 a.2.2)) (S' [RV.d ask (gb (ag (hSu a.1 b)) (ag a.2.1) (ag a.2.2))]))
def Ta:Cn 387 [tO,tR]:=cn λ(a:BO3) (b:BR)=>lf (okT 15000 a/\ok Rat 15000 b) [.d ask (eG (dec a) (ag b))] λh=>by
 refine aA Hh (SQ a b) ⟨0,?_⟩;obtain⟨ha,hb⟩:=h;obtain⟨a,rfl,ba,ra⟩:=gn ha;obtain⟨b,rfl,bb⟩:=aJ hb;unfold SQ;simp only[aV,Nat.reduceAdd,Nat.reduceLeDiff];try rfl
def afN:List En:=enT DV::Hh
def Vf(a b:BO3)(_k:KT):OLR:=og (D' (okT 15000 a/\okT 15000 b)) (S' [RV.d .bool ((bj (dec a) (dec b))==0)])
def agu:Cn 99 [tO,tO]:=cn λ(a b:BO3)=>lf (okT 15000 a/\okT 15000 b) [.d .bool (bj (dec a) (dec b)==0)] λh=>by
 refine aA afN (Vf a b) ⟨0,?_⟩;unfold Vf;rw[dT h]
def jN:cE:=spN T' T' [tR,tR] (λx=>D' (okR x.1/\okR x.2.1)) (λx=>[RV.d ask (aD (ag x.1) (ag x.2.1))])
theorem fx:SpK 46 jN:=spX λx h=>Lq x.1 x.2.1 (aoQ h)
def l6:cE:=spN F' T' [tR] (λx=>D' (okR x.1)) (λx=>[RV.d tR (hNe x.1)])
theorem hU:SpK 196 l6:=spX λx h=>by simp only[aQ];exact C4 x.1 (aoQ h)
def Vd:List En:=[⟨194,iM,fd⟩,⟨122,kM,fY⟩,⟨165,lZ,ik⟩,⟨123,iQ,fi⟩,⟨94,fo,dG⟩,⟨46,jN,fx⟩,⟨196,l6,hU⟩]
def abG(a b c:BR)(_k:KT):OLR:=og (o1 a) (og (o1 b) (og (o1 c) (match(i64.wrap ((aD (ag b) 0)*(aD (ag c) 0)))==0 with|T'=>S' [RV.d ask (aD (ag a) 0)]|F'=>(match(aD (ag a) 0)==(i64.wrap ((aD (ag b) 0)*(aD (ag c) 0)))with|T'=>S' [RV.d ask (aD (ag a) 0)]|F'=>(match(aD (ag a) 0)==0 with|T'=>S' [RV.d ask (i64.wrap ((aD (ag b) 0)*(aD (ag c) 0)))]|F'=>(og (o2 a a) (og (o2 b b) (og (o2 (hMu b b) c) (og (o2 (hMu a a) (hMu (hMu b b) c)) (S' [RV.d ask (i64.wrap ((aD (ag a) 0)*(aD (ag (hMu a a)) (ag (hMu (hMu b b) c)))))]))))))))))
def Gu:Cn 170 [tR,tR,tR]:=cn λ(a b c:BR)=>lf (ok Rat 240000 a/\ok Rat 170000 b/\ok Rat 30000 c) [.d ask (gb (ag a) (ag b) (ag c))] λh=>by
 refine aA Vd (abG a b c) ⟨0,?_⟩;obtain⟨ha,hb,hc⟩:=h;obtain⟨a,rfl,ba⟩:=aJ ha;obtain⟨b,rfl,bb⟩:=aJ hb;obtain⟨c,rfl,bc⟩:=aJ hc;unfold abG;simp only[aV,Nat.reduceAdd,Nat.reduceLeDiff,qd];exact Dn _ _ _
def aaY(a:BR)(_k:KT):OLR:=og (o1 a) (og (o1 (hNe a)) (S' [RV.d tR (hNe (hNe a))]))
def abD:Cn 248 [tR]:=cn λ(a:BR)=>lf (okR a) [.d tR (av (ag a))] λh=>by
 refine aA Vd (aaY a) ⟨0,?_⟩;have ha:=h;obtain⟨a,rfl,ba⟩:=eN ha;unfold aaY;simp only[aV,Nat.reduceLeDiff,Rat.neg_neg]
def amS:List En:=enT Gu::enL abD::Vd
def abp(a b:BO3)(_k:KT):OLR:=og (o2 a.1 b.1) (og (o1 a.2.1) (og (o1 b.2.1) (og (D' (bI (0:Int))) (og (o1 a.2.2) (og (o1 b.2.2) (S' [RV.d tQ (hSu a.1 b.1,(hid (av (ag a.2.1)),(hNe b.2.1,(hid (av ((0:Int):Rat)),(hid (av (ag a.2.2)),hid (av (ag b.2.2)))))))]))))))
def Tm:Cn 172 [tO,tO]:=cn λ(a b:BO3)=>lf (ok Rt 15000 a/\ok Rt 15000 b) [.d tQ (enc (suT (dec a) (dec b)))] λh=>by
 refine aA amS (abp a b) ⟨0,?_⟩;obtain⟨ha,hb⟩:=h;obtain⟨a,rfl,ba⟩:=aJ ha;obtain⟨b,rfl,bb⟩:=aJ hb;unfold abp;simp only[aV,Nat.reduceLeDiff];try rfl
theorem jV{n:Int}(h:bI n):szI n<=3:=by
 have:pw 3=1000000000000000000000000000:=by decide
 exact eW (by have:=h.1;omega) (by have:=h.2;omega)
theorem Pf{q:Rat}{k:Nat}(h:Bd q k)(hk:k<=480000):okI (ah q.floor)/\okI (ah (-q.floor)):=by
 have e:szI q.floor<=k:=by
  refine ao1 (dB ?_) h.le.1;rw[Rat.floor_def];exact Int.natAbs_ediv_le_natAbs _ _
 exact⟨aT (by omega),aT (by rw[iW];omega)⟩
theorem an7:Bd (65536:Rat) 1:=⟨⟨by decide+kernel,by decide+kernel⟩⟩
theorem aeY:((65536:Int):Rat)=65536:=rfl
theorem p48:(2:Int)^(min (48:Int).toNat 64)=281474976710656:=by decide
theorem p32:(2:Int)^(min (32:Int).toNat 64)=4294967296:=by decide
theorem p16:(2:Int)^(min (16:Int).toNat 64)=65536:=by decide
theorem fdv{a b:Int}(h:0<=b):Int.fdiv a b=a/b:=Int.fdiv_eq_ediv_of_nonneg a h
theorem abu(n k:Nat)(hn:n<18446744073709551616)(hk:2^k-1<18446744073709551616):BitVec.toNat (BitVec.ofInt 64 (n:Int)&&&BitVec.ofInt 64 ((2^k-1:Nat):Int))=n%2^k:=by
 rw[BitVec.toNat_and,BitVec.toNat_ofInt,BitVec.toNat_ofInt];have e1:((n:Int)%((2^64:Nat):Int)).toNat=n:=by omega
 have e2:(((2^k-1:Nat):Int)%((2^64:Nat):Int)).toNat=2^k-1:=by omega
 rw[e1,e2,Nat.and_two_pow_sub_one_eq_mod]
theorem alh(n:Nat)(hn:n<18446744073709551616):u64.wrap (BitVec.toNat (BitVec.ofInt 64 (n:Int)&&&BitVec.ofInt 64 65535))=((n%65536:Nat):Int):=by
 rw[show(65535:Int)=((2^16-1:Nat):Int) from rfl,abu n 16 hn (by decide),apG];omega
theorem Tv(n:Nat)(hn:n<18446744073709551616):u64.wrap (BitVec.toNat (BitVec.ofInt 64 (n:Int)&&&BitVec.ofInt 64 4294967295))=((n%4294967296:Nat):Int):=by
 rw[show(4294967295:Int)=((2^32-1:Nat):Int) from rfl,abu n 32 hn (by decide),apG];omega
theorem anZ{h l:Nat}(hh:h<65536)(hl:l<281474976710656):u64.wrap (BitVec.toNat (BitVec.ofInt 64 (u64.wrap ((h:Int)*281474976710656)) ||| BitVec.ofInt 64 (l:Int)))=((h*281474976710656+l:Nat):Int):=by
 rw[BitVec.toNat_or,BitVec.toNat_ofInt,BitVec.toNat_ofInt,apG,apG]
 have e1:((h:Int)*281474976710656%18446744073709551616%((2^64:Nat):Int)).toNat=h <<< 48:=by
  rw[Nat.shiftLeft_eq];omega
 have e2:((l:Int)%((2^64:Nat):Int)).toNat=l:=by omega
 rw[e1,e2,<-Nat.shiftLeft_add_eq_or_of_lt (by omega),Nat.shiftLeft_eq];omega
def scP(x y:Int):Prop:=x.natAbs<=2305843009213693952/\y.natAbs<=2305843009213693952
instance (x y:Int):Decidable (scP x y):=by unfold scP;infer_instance
def Gb(n:Int):Prop:=0<=n/\n<=2305843009213693952
instance (n:Int):Decidable (Gb n):=by unfold Gb;infer_instance
def ajK:Ctx:=CX [] []
def aaU(x y:Int)(_k:KT):OLR:=match D' (x<(-2305843009213693952))with|T'=>S' [RV.d tG (0,0),RV.d .bool F']|F'=>(match D' (y>2305843009213693952)with|T'=>S' [RV.d tG (0,0),RV.d .bool F']|F'=>S' [RV.d tG (x,y),RV.d .bool T'])
theorem ahW(x y:Int):RS ajK 310 [SI x,SI y] (aaU x y):=rsX
def Nt:Cn 310 [ask,ask]:=cn λ(x y:Int)=>lf True [.d tG ((oK x y).1),.d .bool ((oK x y).2)] λ_=>by
 refine fI (E:=[]) trivial (ahW _ _ ⟨0,?_⟩);unfold aaU oK;cases D' (x< -2305843009213693952)
 ·cases D' (y>2305843009213693952)<;>rfl
 ·rfl
def Ik:cE:=spN F' T' [tI] (λx=>D' (okI x.1)) (λx=>[RV.d tI (hid (ah (-ab x.1)))])
theorem Gv:SpK 273 Ik:=spX λx h=>by simp only[aQ];exact C7 x.1 (aoQ h)
def AH:List En:=[⟨194,iM,fd⟩,⟨123,iQ,fi⟩,⟨196,l6,hU⟩,enL BG,enT FE,⟨273,Ik,Gv⟩,enL Nt]
def abH(a:BR)(_k:KT):OLR:=let y1:=hid (av ((65536:Int):Rat));let y2:=hid (ah (ag (hMu a y1)).floor);let y3:=hid (ah (ag (hNe (hMu a y1))).floor);let y4:=hid (ah (-ab y3));let y5:=oK (bif D' (bI (ab y2))then ab y2 else 0) (bif D' (bI (ab y4))then ab y4 else 0);og (D' (bI (65536:Int))) (og (o2 a y1) (og (o1 (hMu a y1)) (og (D' (okI y2)) (og (o1 (hMu a y1)) (og (o1 (hNe (hMu a y1))) (og (D' (okI y3)) (og (D' (okI y4)) (match !(D' (bI (ab y2)))with|T'=>S' [RV.d tG (0,0),RV.d .bool F']|F'=>(match !(D' (bI (ab y4)))with|T'=>S' [RV.d tG (0,0),RV.d .bool F']|F'=>S' [RV.d tG (hid (y5.1)),RV.d .bool (y5.2)])))))))))
def ym:Cn 250 [tR]:=cn λ(a:BR)=>lf (ok Rat 200000 a) [.d tG ((frF (ag a)).1),.d .bool ((frF (ag a)).2)] λh=>by
 refine aA AH (abH a) ⟨0,?_⟩;have ha:=h;obtain⟨a,rfl,ba⟩:=aJ ha;have hk:=an7;have h6:bI 65536:=by decide
 have f1:=Pf (inferInstance:Bd (a*65536) _) (by decide);have f2:=Pf (inferInstance:Bd (-(a*65536)) _) (by decide);unfold abH;simp only[aeY,aV,Nat.reduceAdd,Nat.reduceLeDiff,dec_enc,dT h6,dT f1.1,dT f2.1,dT f2.2];unfold frF;cases e1:D' (bI (a*65536).floor)
 ·rfl
 ·cases e2:D' (bI (-(-(a*65536)).floor))
  ·rfl
  ·rfl
def Zk(a b:(Int×Int))(_k:KT):OLR:=S' [RV.d tG (hid ((oK (i64.wrap (a.1+b.1)) (i64.wrap (a.2+b.2))).1)),RV.d .bool ((oK (i64.wrap (a.1+b.1)) (i64.wrap (a.2+b.2))).2)]
def Sk:Cn 251 [tG,tG]:=cn λ(a b:(Int×Int))=>lf (prI a/\prI b) [.d tG ((dH a b).1),.d .bool ((dH a b).2)] λh=>by
 refine aA AH (Zk a b) ⟨0,?_⟩;obtain⟨⟨a1,a2,a3⟩,⟨b1,b2,b3⟩⟩:=h;unfold Zk dH;rw[aM (by omega) (by omega),aM (by omega) (by omega)];simp only[aQ]
def ZR(a:(Int×Int))(_k:KT):OLR:=S' [RV.d tG (i64.wrap (0-a.2),i64.wrap (0-a.1))]
def Rn:Cn 252 [tG]:=cn λ(a:(Int×Int))=>lf (prI a) [.d tG (nf a)] λh=>by
 refine aA AH (ZR a) ⟨0,?_⟩;obtain⟨a1,a2,a3⟩:=h;unfold ZR nf;rw[aM (by omega) (by omega),aM (by omega) (by omega),aqH,aqH]
def aaC(n:Int)(_k:KT):OLR:=match D' (n<0)with|T'=>S' [RV.d (.int .u64) (u64.wrap (0-(u64.wrap n)))]|F'=>S' [RV.d (.int .u64) (u64.wrap n)]
def Oc:Cn 365 [ask]:=cn λ(n:Int)=>lf (bI n) [.d (.int .u64) (n.natAbs:Int)] λh=>by
 refine aA AH (aaC n) ⟨0,?_⟩;obtain⟨h1,h2⟩:=h;unfold aaC;rw[apG,apG];by_cases hn:n<0
 ·rw[aoP hn,show(0-n%18446744073709551616)%18446744073709551616=(n.natAbs:Int) by omega]
 ·rw[aoR hn,show n%18446744073709551616=(n.natAbs:Int) by omega]
def ZN(x y:Int)(_k:KT):OLR:=match D' (32<(0:Int))with|T'=>N'|F'=>(match D' (32<(0:Int))with|T'=>N'|F'=>(match D' (32<(0:Int))with|T'=>N'|F'=>(match D' (32<(0:Int))with|T'=>N'|F'=>(match D' (32<(0:Int))with|T'=>N'|F'=>S' [RV.d (.int .u64) (u64.wrap ((u64.wrap ((u64.wrap ((Int.fdiv x (2^(min (32:Int).toNat 64)))*(Int.fdiv y (2^(min (32:Int).toNat 64)))))+(Int.fdiv (u64.wrap ((u64.wrap ((Int.fdiv x (2^(min (32:Int).toNat 64)))*(u64.wrap (BitVec.toNat (BitVec.ofInt 64 y&&&BitVec.ofInt 64 4294967295)))))+(Int.fdiv (u64.wrap ((u64.wrap (BitVec.toNat (BitVec.ofInt 64 x&&&BitVec.ofInt 64 4294967295)))*(u64.wrap (BitVec.toNat (BitVec.ofInt 64 y&&&BitVec.ofInt 64 4294967295))))) (2^(min (32:Int).toNat 64))))) (2^(min (32:Int).toNat 64)))))+(Int.fdiv (u64.wrap ((u64.wrap (BitVec.toNat (BitVec.ofInt 64 (u64.wrap ((u64.wrap ((Int.fdiv x (2^(min (32:Int).toNat 64)))*(u64.wrap (BitVec.toNat (BitVec.ofInt 64 y&&&BitVec.ofInt 64 4294967295)))))+(Int.fdiv (u64.wrap ((u64.wrap (BitVec.toNat (BitVec.ofInt 64 x&&&BitVec.ofInt 64 4294967295)))*(u64.wrap (BitVec.toNat (BitVec.ofInt 64 y&&&BitVec.ofInt 64 4294967295))))) (2^(min (32:Int).toNat 64)))))&&&BitVec.ofInt 64 4294967295)))+(u64.wrap ((u64.wrap (BitVec.toNat (BitVec.ofInt 64 x&&&BitVec.ofInt 64 4294967295)))*(Int.fdiv y (2^(min (32:Int).toNat 64))))))) (2^(min (32:Int).toNat 64))))),RV.d (.int .u64) (u64.wrap (x*y))]))))
def TR:Cn 364 [(.int .u64),(.int .u64)]:=cn λ(x y:Int)=>lf (iw x/\iw y) [.d (.int .u64) (x*y/18446744073709551616),.d (.int .u64) (x*y%18446744073709551616)] λh=>by
 refine aA AH (ZN x y) ⟨0,?_⟩;obtain⟨h1,h2⟩:=h;obtain⟨X,rfl⟩:=ap7 h1.1;obtain⟨Y,rfl⟩:=ap7 h2.1;have hX:X<18446744073709551616:=by have:=h1.2;omega
 have hY:Y<18446744073709551616:=by have:=h2.2;omega
 have wn:∀n:Nat,n<18446744073709551616->u64.wrap (n:Int)=(n:Int):=λn hn=>by rw[apG];omega
 have eX:(X:Int)/4294967296=((X/4294967296:Nat):Int):=by omega
 have eY:(Y:Int)/4294967296=((Y/4294967296:Nat):Int):=by omega
 unfold ZN;simp only[p32,fdv (show(0:Int)<=4294967296 by decide),Tv X hX,Tv Y hY,eX,eY]
 have hXY:X*Y=X/4294967296*(Y/4294967296)*18446744073709551616+(X/4294967296*(Y%4294967296)+X%4294967296*(Y/4294967296))*4294967296+X%4294967296*(Y%4294967296):=by
  have a:=Nat.div_add_mod X 4294967296;have b:=Nat.div_add_mod Y 4294967296;generalize X/4294967296=x1 at*
  generalize X%4294967296=x0 at*
  generalize Y/4294967296=y1 at*
  generalize Y%4294967296=y0 at*
  subst a b;grind
 have x0:X%4294967296<=4294967295:=by omega
 have y0:Y%4294967296<=4294967295:=by omega
 have x1:X/4294967296<=4294967295:=by omega
 have y1:Y/4294967296<=4294967295:=by omega
 have q00:=arm x0 y0;have q10:=arm x1 y0;have q01:=arm x0 y1;have q11:=arm x1 y1;simp only[<-aqd];rw[hXY];generalize X%4294967296*(Y%4294967296)=p00 at*
 generalize X/4294967296*(Y%4294967296)=p10 at*
 generalize X%4294967296*(Y/4294967296)=p01 at*
 generalize X/4294967296*(Y/4294967296)=p11 at*
 have t0:u64.wrap (u64.wrap (p10:Int)+u64.wrap (p00:Int)/4294967296)=((p10+p00/4294967296:Nat):Int):=by
  rw[wn p10 (by omega),wn p00 (by omega),show(p10:Int)+(p00:Int)/4294967296=((p10+p00/4294967296:Nat):Int) by omega,wn _ (by omega)]
 rw[t0,Tv _ (by omega)]
 have t1:u64.wrap (((p10+p00/4294967296)%4294967296:Nat)+u64.wrap (p01:Int))=(((p10+p00/4294967296)%4294967296+p01:Nat):Int):=by
  rw[wn p01 (by omega),<-Int.natCast_add,wn _ (by omega)]
 rw[t1,wn p11 (by omega)];rw[aoR (show ¬(32:Int)<0 by decide)];dsimp only
 have hi:u64.wrap (u64.wrap ((p11:Int)+((p10+p00/4294967296:Nat):Int)/4294967296)+(((p10+p00/4294967296)%4294967296+p01:Nat):Int)/4294967296)=((p11*18446744073709551616+(p10+p01)*4294967296+p00:Nat):Int)/18446744073709551616:=by
  rw[apG,apG];omega
 rw[hi,apG]
def amN:List En:=enA Oc::enA TR::AH
def aaX(x y:Int)(_k:KT):OLR:=let y1:=hid ((x.natAbs:Int));let y2:=hid ((y.natAbs:Int));let y3:=hid (y1*y2/18446744073709551616);let y4:=hid (y1*y2%18446744073709551616);let y5:=u64.wrap (BitVec.toNat (BitVec.ofInt 64 (u64.wrap (y3*2^(min (48:Int).toNat 64))) ||| BitVec.ofInt 64 (Int.fdiv y4 (2^(min (16:Int).toNat 64)))));let y6:=i64.wrap y5;let y7:=i64.wrap (y6+1);let y8:=i64.wrap (0-y7);let y9:=i64.wrap (0-y6);let y10:=D' (y9<=2305843009213693952);og (D' (bI x)) (og (D' (bI y)) (og (D' (iw y1/\iw y2)) (match D' (16<(0:Int))with|T'=>N'|F'=>(match(Int.fdiv y3 (2^(min (16:Int).toNat 64))) !=0 with|T'=>S' [RV.d ask 0,RV.d ask 0,RV.d .bool F']|F'=>(match D' (48<(0:Int))with|T'=>N'|F'=>(match D' (16<(0:Int))with|T'=>N'|F'=>(match D' (y5>2305843009213693952)with|T'=>S' [RV.d ask 0,RV.d ask 0,RV.d .bool F']|F'=>(match(u64.wrap (BitVec.toNat (BitVec.ofInt 64 y4&&&BitVec.ofInt 64 65535))) !=0 with|T'=>(match !((D' (x<0))==(D' (y<0)))with|T'=>(match D' (y8>=(-2305843009213693952))with|T'=>S' [RV.d ask y8,RV.d ask y9,RV.d .bool y10]|F'=>S' [RV.d ask y8,RV.d ask y9,RV.d .bool F'])|F'=>(match D' (y6>=(-2305843009213693952))with|T'=>S' [RV.d ask y6,RV.d ask y7,RV.d .bool (D' (y7<=2305843009213693952))]|F'=>S' [RV.d ask y6,RV.d ask y7,RV.d .bool F']))|F'=>(match !((D' (x<0))==(D' (y<0)))with|T'=>(match D' (y9>=(-2305843009213693952))with|T'=>S' [RV.d ask y9,RV.d ask y9,RV.d .bool y10]|F'=>S' [RV.d ask y9,RV.d ask y9,RV.d .bool F'])|F'=>(match D' (y6>=(-2305843009213693952))with|T'=>S' [RV.d ask y6,RV.d ask y6,RV.d .bool (D' (y6<=2305843009213693952))]|F'=>S' [RV.d ask y6,RV.d ask y6,RV.d .bool F']))))))))))
def Zd:Cn 311 [ask,ask]:=cn λ(x y:Int)=>lf (scP x y) [.d ask ((scF x y).1.1),.d ask ((scF x y).1.2),.d .bool ((scF x y).2)] λh=>by
 refine aA amN (aaX x y) ⟨0,?_⟩;obtain⟨hx,hy⟩:=h;have h1:bI x:=⟨by omega,by omega⟩
 have h2:bI y:=⟨by omega,by omega⟩
 have h3:iw (x.natAbs:Int)/\iw (y.natAbs:Int):=⟨⟨by omega,by omega⟩,⟨by omega,by omega⟩⟩
 unfold aaX scF;simp only[aQ];rw[dT h1,dT h2,dT h3];have hp:=arm hx hy;simp only[<-aqd,p16,p48,fdv (show(0:Int)<=65536 by decide)];generalize x.natAbs*y.natAbs=p at*
 rw[aoR (show ¬(16:Int)<0 by decide),aoR (show ¬(48:Int)<0 by decide),show(p:Int)/18446744073709551616=((p/18446744073709551616:Nat):Int) by omega,show(p:Int)%18446744073709551616=((p%18446744073709551616:Nat):Int) by omega,show((p%18446744073709551616:Nat):Int)/65536=((p%18446744073709551616/65536:Nat):Int) by omega,alh _ (by omega),show p%18446744073709551616%65536=p%65536 by omega];by_cases hc:p>=1208925819614629174706176
 ·rw[aoP hc,show(((p/18446744073709551616:Nat):Int)/65536 !=0)=T' by simp;omega];rfl
 ·rw[aoR hc,show(((p/18446744073709551616:Nat):Int)/65536 !=0)=F' by simp;omega,anZ (by omega) (by omega),show p/18446744073709551616*281474976710656+p%18446744073709551616/65536=p/65536 by omega];have hdm:=Nat.div_add_mod p 65536;have hml:=arE p (show 65536>0 by decide);have hru:(p+65535)/65536=if p%65536=0 then p/65536 else p/65536+1:=by split<;>omega
  rw[hru];clear hru;generalize p/65536=q at*
  generalize p%65536=m at*
  have e1:D' ((q:Int)>2305843009213693952)=D' (q>2305843009213693952):=arM.2 (by omega);rw[e1];by_cases hd:q>2305843009213693952
  ·rw[aoP hd];rfl
  rw[aoR hd,aM (x:=(q:Int)) (by omega) (by omega),aM (x:=(q:Int)+1) (by omega) (by omega),aM (x:=0-(q:Int)) (by omega) (by omega),aM (x:=0-((q:Int)+1)) (by omega) (by omega)];have e2:((m:Int) !=0)=!D' (m=0):=by by_cases h:m=0<;>simp[h]
  have e3:D' (0-(q:Int)>= -2305843009213693952)=true:=aoP (by omega);have e4:D' (0-(q:Int)<=2305843009213693952)=true:=aoP (by omega);have e5:D' ((q:Int)>= -2305843009213693952)=true:=aoP (by omega);have e6:D' ((q:Int)<=2305843009213693952)=true:=aoP (by omega);have e7:D' (0-((q:Int)+1)>= -2305843009213693952)=D' (q+1<=2305843009213693952):=arM.2 (by omega);have e8:D' ((q:Int)+1<=2305843009213693952)=D' (q+1<=2305843009213693952):=arM.2 (by omega);have e9:D' (q<=2305843009213693952)=true:=aoP (by omega);rw[e2,e3,e4,e5,e6,e7,e8];have f2:((q+1:Nat):Int)=(q:Int)+1:=by omega
  have f3:D' (m=0)=T'->m=0:=aoQ;have f4:D' (m=0)=F'->m≠0:=apI;generalize D' (m=0)=d2 at*
  generalize (D' (x<0)==D' (y<0))=d3 at*
  cases d2
  ·rw[aph (f4 rfl),f2];generalize D' (q+1<=2305843009213693952)=d4 at*
   cases d3<;>cases d4<;>simp
  ·rw[apB (f3 rfl),e9];cases d3<;>simp
def a9(r:Rt):Iv×Bool:=
 bif !(frF r.1).2||D' (r.2.1=0)then frF r.1
 else bif !(frF r.2.1).2||!(frF r.2.2).2||D' (r.2.2<0)then(iv0,F')
 else bif !(sqF (frF r.2.2).1).2 then(iv0,F')
 else bif !(cC (frF r.2.1).1 (sqF (frF r.2.2).1).1).2 then(iv0,F')
 else dH (frF r.1).1 (cC (frF r.2.1).1 (sqF (frF r.2.2).1).1).1
def jE(n:Rat)(a:Iv)(k:Bool):Iv×Bool:=bif !k||!(frF n).2 then(iv0,F')else cC (frF n).1 a
def apF(a b:Rt):Int×Bool:=
 bif !(a9 a).2||!(a9 b).2 then(0,F')else bif D' ((a9 a).1.2<(a9 b).1.1)then(-1,T')else bif D' ((a9 a).1.1>(a9 b).1.2)then(1,T')else(0,F')
abbrev Pt:=Rat×Rat×Rat×Rat×Rat
abbrev Ln:=Rat×Rat×Rat
def pxR(p:Pt):Rt:=(p.1,p.2.1,p.2.2.2.2)
def pyR(p:Pt):Rt:=(p.2.2.1,p.2.2.2.1,p.2.2.2.2)
def zm(l:Ln)(p:Pt):Int×Bool:=
 bif !(jE l.1 (a9 (pxR p)).1 (a9 (pxR p)).2).2||!(jE l.2.1 (a9 (pyR p)).1 (a9 (pyR p)).2).2||!(frF l.2.2).2 then(0,F')
 else bif !(dH (jE l.1 (a9 (pxR p)).1 (a9 (pxR p)).2).1 (jE l.2.1 (a9 (pyR p)).1 (a9 (pyR p)).2).1).2 then(0,F')
 else bif !(dH (dH (jE l.1 (a9 (pxR p)).1 (a9 (pxR p)).2).1 (jE l.2.1 (a9 (pyR p)).1 (a9 (pyR p)).2).1).1 (nf (frF l.2.2).1)).2 then(0,F')
 else sgF (dH (dH (jE l.1 (a9 (pxR p)).1 (a9 (pxR p)).2).1 (jE l.2.1 (a9 (pyR p)).1 (a9 (pyR p)).2).1).1 (nf (frF l.2.2).1)).1
def eZ(r:Rt)(q:Rat):Iv×Bool:=bif !(a9 r).2||!(frF q).2 then(iv0,F')else dH (a9 r).1 (nf (frF q).1)
def vf(c:Ln)(p:Pt):Int×Bool:=
 bif !(eZ (pxR p) c.1).2||!(eZ (pyR p) c.2.1).2||!(frF c.2.2).2 then(0,F')
 else bif !(cC (eZ (pxR p) c.1).1 (eZ (pxR p) c.1).1).2||!(cC (eZ (pyR p) c.2.1).1 (eZ (pyR p) c.2.1).1).2 then(0,F')
 else bif !(dH (cC (eZ (pxR p) c.1).1 (eZ (pxR p) c.1).1).1 (cC (eZ (pyR p) c.2.1).1 (eZ (pyR p) c.2.1).1).1).2 then(0,F')
 else bif !(dH (dH (cC (eZ (pxR p) c.1).1 (eZ (pxR p) c.1).1).1 (cC (eZ (pyR p) c.2.1).1 (eZ (pyR p) c.2.1).1).1).1 (nf (frF c.2.2).1)).2 then(0,F')
 else sgF (dH (dH (cC (eZ (pxR p) c.1).1 (eZ (pxR p) c.1).1).1 (cC (eZ (pyR p) c.2.1).1 (eZ (pyR p) c.2.1).1).1).1 (nf (frF c.2.2).1)).1
def sfF(m:Rat):Iv:=(sqF (frF m).1).1
def mfF(b:Rat)(i:Iv):Iv:=(cC (frF b).1 i).1
def qu1(q:Qd):Bool:=(frF q.2.2.2.2.1).2&&(sqF (frF q.2.2.2.2.1).1).2&&(frF q.2.2.2.2.2).2&&(sqF (frF q.2.2.2.2.2).1).2
def qu2(q:Qd):Bool:=(frF q.2.1).2&&(cC (frF q.2.1).1 (sfF q.2.2.2.2.1)).2&&(frF q.2.2.1).2&&(cC (frF q.2.2.1).1 (sfF q.2.2.2.2.2)).2&&(frF q.2.2.2.1).2&&(cC (sfF q.2.2.2.2.1) (sfF q.2.2.2.2.2)).2&&(cC (frF q.2.2.2.1).1 (cC (sfF q.2.2.2.2.1) (sfF q.2.2.2.2.2)).1).2
def quA(q:Qd):Iv×Bool:=dH (frF q.1).1 (mfF q.2.1 (sfF q.2.2.2.2.1))
def quB(q:Qd):Iv×Bool:=dH (mfF q.2.2.1 (sfF q.2.2.2.2.2)) (mfF q.2.2.2.1 (cC (sfF q.2.2.2.2.1) (sfF q.2.2.2.2.2)).1)
def qu3(q:Qd):Bool:=(frF q.1).2&&(quA q).2&&(quB q).2&&(dH (quA q).1 (quB q).1).2
def quF(q:Qd):Int×Bool:=bif !(qu1 q)then(0,F')else bif !(qu2 q)then(0,F')else bif !(qu3 q)then(0,F')else sgF (dH (quA q).1 (quB q).1).1
theorem ye(r:Rt):prI (a9 r).1:=by
 unfold a9;cases !(frF r.1).2||decide (r.2.1=0)
 ·cases !(frF r.2.1).2||!(frF r.2.2).2||decide (r.2.2<0)
  ·cases !(sqF (frF r.2.2).1).2
   ·cases !(cC (frF r.2.1).1 (sqF (frF r.2.2).1).1).2
    ·exact RE.addF_pr (RE.frF_pr _) (tC _ _)
    ·exact fF
   ·exact fF
  ·exact fF
 ·exact RE.frF_pr _
theorem X2(n:Rat)(a:Iv)(k:Bool):prI (jE n a k).1:=by
 unfold jE;cases !k||!(frF n).2
 ·exact tC _ _
 ·exact fF
theorem X3(r:Rt)(q:Rat):prI (eZ r q).1:=by
 unfold eZ;cases !(a9 r).2||!(frF q).2
 ·exact RE.addF_pr (ye _) (RE.negF_pr (RE.frF_pr _))
 ·exact fF
namespace RE
theorem pW{r:Rt}(h:(a9 r).2=T'):inI (a9 r).1 (v2 r.1 r.2.1 r.2.2):=by
 unfold a9 at h ⊢;cases e1:(frF r.1).2
 ·rw[e1]at h;simp only[Bool.not_false,Bool.true_or,cond_true]at h;rw[e1]at h;cases h
 ·rw[e1]at h;by_cases hb:r.2.1=0
  ·rw[aoP hb]at h ⊢;simp only[Bool.not_true,Bool.false_or,cond_true];unfold v2;rw[hb,sN,zero_mul,add_zero];exact gN e1
  ·rw[aoR hb]at h ⊢;cases e2:(frF r.2.1).2<;>cases e3:(frF r.2.2).2<;>cases e4:D' (r.2.2<0)<;>rw[e2,e3,e4]at h<;>try (cases h;done)
   cases e5:(sqF (frF r.2.2).1).2<;>rw[e5]at h<;>try (cases h;done)
   cases e6:(cC (frF r.2.1).1 (sqF (frF r.2.2).1).1).2<;>rw[e6]at h<;>try (cases h;done)
   have hn:(0:RE)<=of r.2.2:=oA.2 (by have:=apI e4;grind);exact jT (gN e1) (lJ (gN e2) (zU (gN e3) hn e5) e6) h
theorem Jm{n:Rat}{a:Iv}{k:Bool}{x:RE}(ha:k=T'->inI a x)(h:(jE n a k).2=T'):inI (jE n a k).1 (of n*x):=by
 unfold jE at h ⊢;cases k
 ·cases h
 ·cases e:(frF n).2<;>rw[e]at h
  ·cases h
  ·exact lJ (gN e) (ha rfl) h
theorem JE{r:Rt}{q:Rat}(h:(eZ r q).2=T'):inI (eZ r q).1 (v2 r.1 r.2.1 r.2.2+ -of q):=by
 unfold eZ at h ⊢;cases e1:(a9 r).2<;>cases e2:(frF q).2<;>rw[e1,e2]at h<;>try (cases h;done)
 exact jT (pW e1) (CP (gN e2)) h
theorem WQ(x y:RE)(h1:x<y):x-y<0:=by grind
theorem akM(u x y a b:RE):((b-(a)))+((a-(u*x)))+((u*y-(b)))+((u-(0))*(x-(y)))=0:=by grind
theorem ap1(u x y a b:RE)(h1:0<u)(h2:u*x<=a)(h3:a<b)(h4:b<=u*y):x<y:=xS.1 λhg=>far (aW (aW (aW (bE h3) (aN h2)) (aN h4)) (cq (le_of_lt (bE h1)) (aN hg))) (akM u x y a b)
theorem apF_ok{a b:Rt}(h:(apF a b).2=T'):(apF a b).1=sg (vR a-vR b):=by
 unfold apF at h ⊢;cases e1:(a9 a).2<;>cases e2:(a9 b).2<;>rw[e1,e2]at h<;>try (cases h;done)
 obtain⟨a1,a2⟩:=pW e1;obtain⟨b1,b2⟩:=pW e2;cases e3:D' ((a9 a).1.2<(a9 b).1.1)<;>rw[e3]at h
 ·cases e4:D' ((a9 a).1.1>(a9 b).1.2)<;>rw[e4]at h
  ·cases h
  ·have h4:of ((a9 b).1.2:Rat)<of ((a9 a).1.1:Rat):=kE (aro.2 (aoQ e4));exact(jg (bE (ap1 _ _ _ _ _ oC b2 h4 a1))).symm
 ·have h4:of ((a9 a).1.2:Rat)<of ((a9 b).1.1:Rat):=kE (aro.2 (aoQ e3));exact(oE (WQ _ _ (ap1 _ _ _ _ _ oC a2 h4 b1))).symm
theorem X8{l:Ln}{p:Pt}(h:(zm l p).2=T'):(zm l p).1=sg (of l.1*v2 p.1 p.2.1 p.2.2.2.2+of l.2.1*v2 p.2.2.1 p.2.2.2.1 p.2.2.2.2+ -of l.2.2):=by
 unfold zm at h ⊢;cases e1:(jE l.1 (a9 (pxR p)).1 (a9 (pxR p)).2).2<;>cases e2:(jE l.2.1 (a9 (pyR p)).1 (a9 (pyR p)).2).2<;>cases e3:(frF l.2.2).2<;>rw[e1,e2,e3]at h<;>try (cases h;done)
 have i1:=Jm (x:=v2 p.1 p.2.1 p.2.2.2.2) (λe=>pW (r:=pxR p) e) e1;have i2:=Jm (x:=v2 p.2.2.1 p.2.2.2.1 p.2.2.2.2) (λe=>pW (r:=pyR p) e) e2;revert h i1 i2;generalize jE l.1 (a9 (pxR p)).1 (a9 (pxR p)).2=X;generalize jE l.2.1 (a9 (pyR p)).1 (a9 (pyR p)).2=Y;intro h i1 i2;cases e4:(dH X.1 Y.1).2<;>rw[e4]at h<;>try (cases h;done)
 cases e5:(dH (dH X.1 Y.1).1 (nf (frF l.2.2).1)).2<;>rw[e5]at h<;>try (cases h;done)
 exact HE (jT (jT i1 i2 e4) (CP (gN e3)) e5) h
theorem Vz{c:Ln}{p:Pt}(h:(vf c p).2=T'):(vf c p).1=sg ((v2 p.1 p.2.1 p.2.2.2.2+ -of c.1)*(v2 p.1 p.2.1 p.2.2.2.2+ -of c.1)+(v2 p.2.2.1 p.2.2.2.1 p.2.2.2.2+ -of c.2.1)*(v2 p.2.2.1 p.2.2.2.1 p.2.2.2.2+ -of c.2.1)+ -of c.2.2):=by
 unfold vf at h ⊢;cases e1:(eZ (pxR p) c.1).2<;>cases e2:(eZ (pyR p) c.2.1).2<;>cases e3:(frF c.2.2).2<;>rw[e1,e2,e3]at h<;>try (cases h;done)
 have i1:=JE e1;have i2:=JE e2;revert h;generalize eZ (pxR p) c.1=X at*
 generalize eZ (pyR p) c.2.1=Y at*
 intro h;cases e4:(cC X.1 X.1).2<;>cases e5:(cC Y.1 Y.1).2<;>rw[e4,e5]at h<;>try (cases h;done)
 cases e6:(dH (cC X.1 X.1).1 (cC Y.1 Y.1).1).2<;>rw[e6]at h<;>try (cases h;done)
 cases e7:(dH (dH (cC X.1 X.1).1 (cC Y.1 Y.1).1).1 (nf (frF c.2.2).1)).2<;>rw[e7]at h<;>try (cases h;done)
 exact HE (jT (jT (lJ i1 i1 e4) (lJ i2 i2 e5) e6) (CP (gN e3)) e7) h
theorem amR(a b c d:RE):a+b+(c+d)=a+b+c+d:=by grind
theorem quF_ok{q:Qd}(hM:0<=q.2.2.2.2.1)(hN:0<=q.2.2.2.2.2)(h:(quF q).2=T'):(quF q).1=sg (vQ q.1 q.2.1 q.2.2.1 q.2.2.2.1 q.2.2.2.2.1 q.2.2.2.2.2):=by
 unfold quF at h ⊢;cases e1:qu1 q<;>rw[e1]at h<;>try (cases h;done)
 cases e2:qu2 q<;>rw[e2]at h<;>try (cases h;done)
 cases e3:qu3 q<;>rw[e3]at h<;>try (cases h;done)
 unfold qu1 at e1;unfold qu2 at e2;unfold qu3 at e3;simp only[aoT]at e1 e2 e3;obtain⟨⟨⟨a1,a2⟩,a3⟩,a4⟩:=e1;obtain⟨⟨⟨⟨⟨⟨b1,b2⟩,b3⟩,b4⟩,b5⟩,b6⟩,b7⟩:=e2;obtain⟨⟨⟨c1,c2⟩,c3⟩,c4⟩:=e3;have i1:inI (sfF q.2.2.2.2.1) (rq q.2.2.2.2.1):=zU (gN a1) (oA.2 hM) a2;have i2:inI (sfF q.2.2.2.2.2) (rq q.2.2.2.2.2):=zU (gN a3) (oA.2 hN) a4
 have hq:inI (dH (quA q).1 (quB q).1).1 (vQ q.1 q.2.1 q.2.2.1 q.2.2.2.1 q.2.2.2.2.1 q.2.2.2.2.2):=by
  have:=jT (jT (gN c1) (lJ (gN b1) i1 b2) c2) (jT (lJ (gN b3) i2 b4) (lJ (gN b5) (lJ i1 i2 b6) b7) c3) c4;rw[amR]at this;exact this
 exact HE hq h
end RE
theorem Se{z:Int}(h:bI z):okI (ah z):=aT (by have:=jV h;omega)
theorem JY{n:Int}(h:Gb n):0<=eh n/\eh n<=2305843009213693952:=by
 obtain⟨h0,h1⟩:=h;unfold eh;obtain⟨g0,g1,g2⟩:=fS (z:=n*65536) (by omega);refine⟨g0,?_⟩;rcases apl 2305843009213693952 (bO (n*65536))with h|h
 ·have:2305843009213693952*2305843009213693952<=bO (n*65536)*bO (n*65536):=aq8 (by omega) (by omega) (by omega) (by omega);omega
 ·exact h
theorem Ni{a b:Iv}(ha:prI a)(hb:prI b){x y:Int}(hx:x=a.1\/x=a.2)(hy:y=b.1\/y=b.2):scP x y:=by
 obtain⟨a1,a2,a3⟩:=ha;obtain⟨b1,b2,b3⟩:=hb;constructor
 ·rcases hx with rfl|rfl<;>omega
 ·rcases hy with rfl|rfl<;>omega
theorem anp{α:Type}(b:Bool)(x y:α):(match b with|true=>x|false=>y)=bif b then x else y:=by cases b<;>rfl
def Rs:cE:=spN F' T' [ask] (λx=>D' (bI x.1)) (λx=>[RV.d tI (hid (ah x.1))])
theorem Rg:SpK 269 Rs:=spX λx h=>by simp only[aQ];exact DU x.1 (aoQ h)
def Kq:List En:=[⟨194,iM,fd⟩,⟨123,iQ,fi⟩,⟨196,l6,hU⟩,enL BG,enT FE,⟨273,Ik,Gv⟩,⟨94,fo,dG⟩,⟨109,HS,G4⟩,enL acB,⟨108,DM,yk⟩,⟨269,Rs,Rg⟩,enL Nt,enL ym,enL Sk,enL Rn,enA Oc,enA TR,enL Zd]
def afy:NT:=[((256,8),{keep:=[3,4,6,7,19,20,21],hl:=4}),((256,22),{keep:=[3,4,6,7,9,19,20,21,29,30,31],hl:=5})]
def pI:Ctx:=CX (ens Kq) afy
def sd(a b:(Int×Int))(s21 s6 s7:Int):Cfg:=⟨256,[.blk 0,.seq 46],[(3,.box 1 0),(4,.box 2 0),(6,SI s6),(7,SI s7),(19,.own 3),(20,SI (([a.1,a.2]).length:Int)),(21,SI s21)],[.box 227 [SI a.1,SI a.2],.box 227 [SI b.1,SI b.2],.box 227 [SI 0,SI 0],.row 2 ask ([a.1,a.2])],0,[]⟩
def qB(a b:(Int×Int))(s21 x1 s6 s7 s31:Int):Cfg:=⟨256,[.blk 2,.blk 1,.seq 45,.lp 8,.blk 0,.seq 46],[(3,.box 1 0),(4,.box 2 0),(6,SI s6),(7,SI s7),(9,SI x1),(19,.own 3),(20,SI (([a.1,a.2]).length:Int)),(21,SI s21),(29,.own 4),(30,SI (([b.1,b.2]).length:Int)),(31,SI s31)],[.box 227 [SI a.1,SI a.2],.box 227 [SI b.1,SI b.2],.box 227 [SI 0,SI 0],.row 2 ask ([a.1,a.2]),.row 2 ask ([b.1,b.2])],0,[]⟩
def akL(a b:(Int×Int))(k:KT):OLR:=k 8 (sd a b 0 2305843009213693952 (-2305843009213693952))
theorem alO(a b:(Int×Int)):RS pI 256 [.d tG a,.d tG b] (akL a b):=rsX
def xJ(a b:(Int×Int))(s21 s6 s7:Int)(k:KT):OLR:=match D' (s21<(([a.1,a.2]).length:Int))with|T'=>(match aH ([a.1,a.2]) s21 with|S' _=>(match T',([a.1,a.2])[(s21).toNat]? with|T',S' x1=>k 22 (qB a b s21 x1 s6 s7 0)|_,_=>N')|N'=>N')|F'=>S' [RV.d tG (s6,s7),RV.d .bool T']
theorem EX(a b:(Int×Int))(s21 s6 s7:Int):RN pI 8 (sd a b s21 s6 s7) (xJ a b s21 s6 s7):=rnX
def qi(a b:(Int×Int))(s21 x1 s6 s7 s31:Int)(k:KT):OLR:=match D' (s31<(([b.1,b.2]).length:Int))with|T'=>(match aH ([b.1,b.2]) s31 with|S' _=>(match T',([b.1,b.2])[(s31).toNat]? with|T',S' x2=>(og (D' (scP x1 x2)) (match !((scF x1 x2).2)with|T'=>S' [RV.d tG (0,0),RV.d .bool F']|F'=>k 22 (qB a b s21 x1 (if(scF x1 x2).1.1<s6 then(scF x1 x2).1.1 else s6) (if(scF x1 x2).1.2>s7 then(scF x1 x2).1.2 else s7) (i64.wrap (s31+1)))))|_,_=>N')|N'=>N')|F'=>k 8 (sd a b (i64.wrap (s21+1)) s6 s7)
theorem uF(a b:(Int×Int))(s21 x1 s6 s7 s31:Int):RN pI 22 (qB a b s21 x1 s6 s7 s31) (qi a b s21 x1 s6 s7 s31):=rnX
theorem TA(a b:Iv)(ha:prI a)(hb:prI b)(s21 x:Int)(hx:x=a.1\/x=a.2)(s:Iv)(r:List RV)(h:∀s2:Iv×Bool,s2=gO (gO (s,T') x b.1) x b.2->bif s2.2 then pI.Runs 8 (sd a b (i64.wrap (s21+1)) s2.1.1 s2.1.2) r else r=[RV.d tG (0,0),RV.d .bool F']):
  pI.Runs 22 (qB a b s21 x s.1 s.2 0) r:=by
 have h:=h _ rfl;refine uF _ _ _ _ _ _ _ ?_;unfold qi;have g1:D' ((0:Int)<(([b.1,b.2]).length:Int))=true:=by simp
 have g2:D' ((1:Int)<(([b.1,b.2]).length:Int))=true:=by simp
 have g3:D' ((2:Int)<(([b.1,b.2]).length:Int))=false:=by simp
 rw[g1];simp only[show aH [b.1,b.2] 0=S' b.1 from rfl,show [b.1,b.2][(0:Int).toNat]?=S' b.1 from rfl,dT (Ni ha hb hx (.inl rfl))];cases e1:(scF x b.1).2
 ·rw[show gO (gO (s,T') x b.1) x b.2=(iv0,F') by unfold gO;rw[e1];rfl]at h;exact⟨0,by rw[h];rfl⟩
 ·try dsimp only[Bool.not_true]
  have e0:gO (s,T') x b.1=((if(scF x b.1).1.1<s.1 then(scF x b.1).1.1 else s.1,if(scF x b.1).1.2>s.2 then(scF x b.1).1.2 else s.2),T'):=by unfold gO;rw[e1];rfl
  rw[e0]at h
  suffices hh:pI.Runs 22 (qB a b s21 x (if(scF x b.1).1.1<s.1 then(scF x b.1).1.1 else s.1) (if(scF x b.1).1.2>s.2 then(scF x b.1).1.2 else s.2) (i64.wrap (0+1))) r by
   obtain⟨n,hn⟩:=hh;exact⟨n,hn⟩
  rw[show i64.wrap (0+1)=1 by decide];refine uF _ _ _ _ _ _ _ ?_;unfold qi;rw[g2];simp only[show aH [b.1,b.2] 1=S' b.2 from rfl,show [b.1,b.2][(1:Int).toNat]?=S' b.2 from rfl,dT (Ni ha hb hx (.inr rfl))];cases e2:(scF x b.2).2
  ·unfold gO at h;rw[e2]at h;exact⟨0,by rw[show r=[RV.d tG (0,0),RV.d .bool F'] from h];rfl⟩
  ·try dsimp only[Bool.not_true]
   unfold gO at h;rw[e2]at h;simp only[apV,cond_true]at h
   suffices hh:pI.Runs 22 (qB a b s21 x _ _ (i64.wrap (1+1))) r by
    obtain⟨n,hn⟩:=hh;exact⟨n,hn⟩
   rw[show i64.wrap (1+1)=2 by decide];refine uF _ _ _ _ _ _ _ ?_;unfold qi;rw[g3];obtain⟨n,hn⟩:=h;exact⟨n,hn⟩
theorem Jj(a b:Iv)(ha:prI a)(hb:prI b)(x i:Int)(hi:(i=0/\x=a.1)\/(i=1/\x=a.2))(s:Iv)(r:List RV)(h:∀s2:Iv×Bool,s2=gO (gO (s,T') x b.1) x b.2->bif s2.2 then pI.Runs 8 (sd a b (i+1) s2.1.1 s2.1.2) r else r=[RV.d tG (0,0),RV.d .bool F']):
  pI.Runs 8 (sd a b i s.1 s.2) r:=by
 refine EX _ _ _ _ _ ?_;unfold xJ;rcases hi with⟨rfl,rfl⟩|⟨rfl,rfl⟩
 ·obtain⟨n,hn⟩:=TA a b ha hb 0 a.1 (.inl rfl) s r (by rw[show i64.wrap (0+1)=0+1 by decide];exact h);exact⟨n,hn⟩
 ·obtain⟨n,hn⟩:=TA a b ha hb 1 a.2 (.inr rfl) s r (by rw[show i64.wrap (1+1)=1+1 by decide];exact h);exact⟨n,hn⟩
theorem Pd{s:Iv×Bool}{x y:Int}(h:s.2=F'):gO s x y=(iv0,F'):=by unfold gO;rw[h];rfl
theorem al5{s:Iv×Bool}(h:s.2=T'):s=(s.1,T'):=by rw[<-h]
def Ua:Cn 256 [tG,tG]:=cn λ(a b:(Int×Int))=>lf (prI a/\prI b) [.d tG ((cC a b).1),.d .bool ((cC a b).2)] λh=>by
 obtain⟨ha,hb⟩:=h;refine aX Kq (show pI.Res _ _ _ from ?_);refine alO _ _ ?_
 suffices hh:pI.Runs 8 (sd a b 0 2305843009213693952 (-2305843009213693952)) [.d tG (cC a b).1,.d .bool (cC a b).2] by
  obtain⟨n,hn⟩:=hh;exact⟨n,hn⟩
 refine Jj a b ha hb a.1 0 (.inl ⟨rfl,rfl⟩) (2305843009213693952,-2305843009213693952) _ λs1 e1=>?_;have hm:cC a b=gO (gO s1 a.2 b.1) a.2 b.2:=by rw[e1];rfl
 cases c1:s1.2
 ·rw[hm,Pd (Pd c1▸rfl)];rfl
 ·rw[cond_true];refine Jj a b ha hb a.2 1 (.inr ⟨rfl,rfl⟩) s1.1 _ λs2 e2=>?_;rw[<-al5 c1,<-hm]at e2;cases c2:s2.2
  ·rw[<-e2]
   rw[show s2=(iv0,F') by
    rw[e2,hm];rw[e2,hm]at c2;unfold gO at c2 ⊢;revert c2;cases(_:Bool)&&(scF a.2 b.2).2
    ·intro _;rfl
    ·intro h;cases h]
   rfl
  ·rw[cond_true,<-e2];refine EX _ _ _ _ _ ⟨0,?_⟩;unfold xJ;rw[show D' ((1+1:Int)<(([a.1,a.2]).length:Int))=F' from by simp,c2]
def ach(n:Int)(_k:KT):OLR:=og (D' (bI n)) (og (D' (bI (65536:Int))) (og (D' (okI (hid (ah n))/\okI (hid (ah (65536:Int))))) (og (D' (okI (hid (ah (ab (hid (ah n))*ab (hid (ah (65536:Int)))))))) (og (D' (okI (hid (fC (hid (ah (ab (hid (ah n))*ab (hid (ah (65536:Int)))))))))) (og (D' (okI (hid (fC (hid (ah (ab (hid (ah n))*ab (hid (ah (65536:Int))))))))/\okI (hid (fC (hid (ah (ab (hid (ah n))*ab (hid (ah (65536:Int)))))))))) (og (D' (okI (hid (ah (ab (hid (fC (hid (ah (ab (hid (ah n))*ab (hid (ah (65536:Int))))))))*ab (hid (fC (hid (ah (ab (hid (ah n))*ab (hid (ah (65536:Int)))))))))))/\okI (hid (ah (ab (hid (ah n))*ab (hid (ah (65536:Int)))))))) (S' [RV.d ask (bif D' (bI (ab (hid (fC (hid (ah (ab (hid (ah n))*ab (hid (ah (65536:Int))))))))))then ab (hid (fC (hid (ah (ab (hid (ah n))*ab (hid (ah (65536:Int))))))))else 0),RV.d .bool ((b9 (ab (hid (ah (ab (hid (fC (hid (ah (ab (hid (ah n))*ab (hid (ah (65536:Int))))))))*ab (hid (fC (hid (ah (ab (hid (ah n))*ab (hid (ah (65536:Int)))))))))))) (ab (hid (ah (ab (hid (ah n))*ab (hid (ah (65536:Int))))))))==0)])))))))
def anh:Cn 353 [ask]:=cn λ(n:Int)=>lf (Gb n) [.d ask (eh n),.d .bool (D' (eh n*eh n=n*65536))] λh=>by
 refine aA Kq (ach n) ⟨0,?_⟩;have hr:=JY h;obtain⟨h0,h1⟩:=h;have i1:bI n:=⟨by omega,by omega⟩
 have i2:bI 65536:=by decide
 have o1:okI (ah (n*65536)):=aT (by have:=cK (jV i1) (jV i2);omega);have o2:okI (ah (eh n)):=Se ⟨by omega,by omega⟩;have o3:okI (ah (eh n*eh n)):=aT (by have:=cK (jV (n:=eh n) ⟨by omega,by omega⟩) (jV (n:=eh n) ⟨by omega,by omega⟩);omega);have o4:okI (ah n)/\okI (ah 65536):=⟨Se i1,Se i2⟩
 have o5:okI (ah (eh n))/\okI (ah (eh n)):=⟨o2,o2⟩
 have o6:okI (ah (eh n*eh n))/\okI (ah (n*65536)):=⟨o3,o1⟩
 have o7:bI (eh n):=⟨by omega,by omega⟩
 unfold ach;simp only[aQ,dec_enc,dT i1,dT i2,dT o4,dT o1,CW o1];have e:bO (n*65536)=eh n:=rfl;simp only[e,dT o2,dT o5,dT o6,dT o7,cond_true,mO]
def YW:List En:=enL Ua::enL anh::Kq
def Z5(a:(Int×Int))(_k:KT):OLR:=match D' (a.2<0)with|T'=>S' [RV.d tG (0,0),RV.d .bool F']|F'=>(og (D' (Gb (if 0>a.1 then 0 else a.1))) (og (D' (Gb a.2)) (match !(D' (eh a.2*eh a.2=a.2*65536))with|T'=>S' [RV.d tG (hid ((oK (eh (if 0>a.1 then 0 else a.1)) (i64.wrap ((eh a.2)+1))).1)),RV.d .bool ((oK (eh (if 0>a.1 then 0 else a.1)) (i64.wrap ((eh a.2)+1))).2)]|F'=>S' [RV.d tG (hid ((oK (eh (if 0>a.1 then 0 else a.1)) (eh a.2)).1)),RV.d .bool ((oK (eh (if 0>a.1 then 0 else a.1)) (eh a.2)).2)])))
def Ax:Cn 294 [tG]:=cn λ(a:(Int×Int))=>lf (prI a) [.d tG ((sqF a).1),.d .bool ((sqF a).2)] λh=>by
 refine aA YW (Z5 a) ⟨0,?_⟩;obtain⟨a1,a2,a3⟩:=h;unfold Z5 sqF;cases hn:D' (a.2<0)
 ·have hn:=apI hn;have r2:Gb a.2:=⟨by omega,by omega⟩
  have r1:Gb (if 0>a.1 then 0 else a.1):=⟨by split<;>omega,by split<;>omega⟩
  have b2:=JY r2;simp only[dT r1,dT r2,aQ,aM (x:=eh a.2+1) (by omega) (by omega)];cases D' (eh a.2*eh a.2=a.2*65536)<;>rfl
 ·rfl
def Ve:List En:=enL Ax::YW
def aay(r:BO3)(_k:KT):OLR:=og (D' (ok Rat 200000 r.1)) (match !((frF (ag r.1)).2)with|T'=>S' [RV.d tG (hid ((frF (ag r.1)).1)),RV.d .bool ((frF (ag r.1)).2)]|F'=>(og (o1 r.2.1) (match(aD (ag r.2.1) 0)==0 with|T'=>S' [RV.d tG (hid ((frF (ag r.1)).1)),RV.d .bool ((frF (ag r.1)).2)]|F'=>(og (D' (ok Rat 200000 r.2.1)) (og (D' (ok Rat 200000 r.2.2)) (match !((frF (ag r.2.1)).2)with|T'=>S' [RV.d tG (0,0),RV.d .bool F']|F'=>(match !((frF (ag r.2.2)).2)with|T'=>S' [RV.d tG (0,0),RV.d .bool F']|F'=>(og (o1 r.2.2) (match D' ((aD (ag r.2.2) 0)<0)with|T'=>S' [RV.d tG (0,0),RV.d .bool F']|F'=>(og (D' (prI (hid ((frF (ag r.2.2)).1)))) (match !((sqF (hid ((frF (ag r.2.2)).1))).2)with|T'=>S' [RV.d tG (0,0),RV.d .bool F']|F'=>(og (D' (prI (hid ((frF (ag r.2.1)).1))/\prI (hid ((sqF (hid ((frF (ag r.2.2)).1))).1)))) (match !((cC (hid ((frF (ag r.2.1)).1)) (hid ((sqF (hid ((frF (ag r.2.2)).1))).1))).2)with|T'=>S' [RV.d tG (0,0),RV.d .bool F']|F'=>(og (D' (prI (hid ((frF (ag r.1)).1))/\prI (hid ((cC (hid ((frF (ag r.2.1)).1)) (hid ((sqF (hid ((frF (ag r.2.2)).1))).1))).1)))) (S' [RV.d tG (hid ((dH (hid ((frF (ag r.1)).1)) (hid ((cC (hid ((frF (ag r.2.1)).1)) (hid ((sqF (hid ((frF (ag r.2.2)).1))).1))).1))).1)),RV.d .bool ((dH (hid ((frF (ag r.1)).1)) (hid ((cC (hid ((frF (ag r.2.1)).1)) (hid ((sqF (hid ((frF (ag r.2.2)).1))).1))).1))).2)])))))))))))))))
def v5:Cn 245 [tO]:=cn λ(r:BO3)=>lf (ok Rt 100000 r) [.d tG ((a9 (dec r)).1),.d .bool ((a9 (dec r)).2)] λh=>by
 refine aA Ve (aay r) ⟨0,?_⟩;have hr:=h;obtain⟨r,rfl,br⟩:=aJ hr;have p1:prI (frF r.1).1:=RE.frF_pr _;have p2:prI (frF r.2.1).1:=RE.frF_pr _;have p3:prI (frF r.2.2).1:=RE.frF_pr _;have p4:prI (sqF (frF r.2.2).1).1:=RE.sqF_pr p3;have p5:prI (cC (frF r.2.1).1 (sqF (frF r.2.2).1).1).1:=tC _ _;unfold aay;simp only[aV,Nat.reduceLeDiff,am,aq,dT p3,dT (show prI (frF r.2.1).1/\prI (sqF (frF r.2.2).1).1 from⟨p2,p4⟩),dT (show prI (frF r.1).1/\prI (cC (frF r.2.1).1 (sqF (frF r.2.2).1).1).1 from⟨p1,p5⟩)];unfold a9;clear p1 p2 p3 p4 p5;generalize frF r.1=A;generalize frF r.2.1=B;generalize frF r.2.2=C;generalize sqF C.1=S;generalize cC B.1 S.1=M;generalize dH A.1 M.1=U;obtain⟨_,a⟩:=A;obtain⟨_,b⟩:=B;obtain⟨_,c⟩:=C;obtain⟨_,s⟩:=S;obtain⟨_,m⟩:=M;cases a<;>cases D' (r.2.1=0)<;>cases b<;>cases c<;>cases D' (r.2.2<0)<;>cases s<;>cases m<;>rfl
def aaL(a:(Int×Int))(_k:KT):OLR:=match D' (a.1>0)with|T'=>S' [RV.d ask 1,RV.d .bool T']|F'=>(match D' (a.2<0)with|T'=>S' [RV.d ask (-1),RV.d .bool T']|F'=>(match a.1==0 with|T'=>S' [RV.d ask 0,RV.d .bool (a.2==0)]|F'=>S' [RV.d ask 0,RV.d .bool F']))
def Rk:Cn 253 [tG]:=cn λ(a:(Int×Int))=>lf True [.d ask ((sgF a).1),.d .bool ((sgF a).2)] λ_=>by
 refine aA Ve (aaL a) ⟨0,?_⟩;unfold aaL sgF;cases D' (a.1>0)<;>cases D' (a.2<0)<;>try rfl
 by_cases e1:a.1=0
 ·rw[aoP e1,show(a.1==0)=T' by simp[e1]];by_cases e2:a.2=0
  ·rw[aoP e2,show(a.2==0)=T' by simp[e2]];rfl
  ·rw[aoR e2,show(a.2==0)=F' by simp[e2]];rfl
 ·rw[aoR e1,show(a.1==0)=F' by simp[e1]];rfl
def akW:List En:=enL v5::enL Rk::Ve
def aaE(n:BR)(a:(Int×Int))(g:Bool)(_k:KT):OLR:=og (D' (ok Rat 200000 n)) (match !g with|T'=>S' [RV.d tG (0,0),RV.d .bool F']|F'=>(match !((frF (ag n)).2)with|T'=>S' [RV.d tG (0,0),RV.d .bool F']|F'=>(og (D' (prI (hid ((frF (ag n)).1))/\prI a)) (S' [RV.d tG (hid ((cC (hid ((frF (ag n)).1)) a).1)),RV.d .bool ((cC (hid ((frF (ag n)).1)) a).2)]))))
def abZ:Cn 249 [tR,tG,.bool]:=cn λ(n:BR) (a:(Int×Int)) (g:Bool)=>lf (ok Rat 100000 n/\prI a) [.d tG ((jE (ag n) a g).1),.d .bool ((jE (ag n) a g).2)] λh=>by
 refine aA akW (aaE n a g) ⟨0,?_⟩;obtain⟨hn,ha⟩:=h;obtain⟨n,rfl,bn⟩:=aJ hn;unfold aaE;simp only[aV,Nat.reduceLeDiff,dT (show prI (frF n).1/\prI a from⟨RE.frF_pr _,ha⟩)];unfold jE;generalize frF n=A;obtain⟨_,q⟩:=A;cases g<;>cases q<;>rfl
section
section
variable {u:Nat} {w w':World} {size n:Nat} {v:Value} {xs:List Value}
end
section
variable {P:Program} {fn:Func} {R:Ending->World->Prop} {B:Code} {K:List KI} {i:Nat} {a:Act} {w:World}
end
end
section
section
variable {P:Program} {a:Act} {w:World}
end
end
theorem xk{w w1 w2:World}{o:Option Nat}(h:w.grownBy w1 o)(hb:Below w1.heap.size w1 w2):w.grownBy w2 o:=
 ⟨hb.os.trans h.os,hb.tape.trans h.tape,hb.output.trans h.output,ao1 h.size hb.size,λi hi hn=>(hb.block i (aqI hi h.size)).trans (h.block i hi hn)⟩
theorem sT{w w1 w2:World}{c b:Nat}(h:w.grownBy w1 (S' c))(hu:Upd w1 w2 b)(hb:b=c\/w.heap.size<=b):w.grownBy w2 (S' c):=
 ⟨hu.os.trans h.os,hu.tape.trans h.tape,hu.output.trans h.output,by rw[hu.size];exact h.size,λi hi hn=>(hu.block i (λe=>by
  subst e;rcases hb with hb|hb
  ·subst hb;exact hn rfl
  ·omega)).trans (h.block i hi hn)⟩
def VK:Code:=Tryz.f307.body.getD .skip
set_option maxRecDepth 100000 in
theorem LY:ai0 Tryz.prog 307 265:=by
 intro w c b ok x y _ hc;have hB:w.grownBy w (S' c):=World.grownBy.refl _ _;have hlt:=hc.lt;refine enter (B:=VK) (args:=[.pointer (S' ⟨c,0,N'⟩),.agg #[.int .i64 x,.int .i64 y],.bool ok]) Tryz.func307 (by kernel_rfl) (by kernel_rfl) ?_;rw[show Tryz.f307.ntmps=18 from by kernel_rfl];intro a hs;replace hs:=hs.pick (ts:=[0,1,2]) (L':=[(0,.pointer (S' ⟨c,0,N'⟩)),(1,.agg #[.int .i64 x,.int .i64 y]),(2,.bool ok)]) (by kernel_rfl)
 refine yL (j:=2) (by kernel_rfl) ?_;refine mD (id:=0) (by kernel_rfl) ?_;refine vk hs (by kernel_rfl) (aie (t:=227) (cs:= #[.int .i64 x,.int .i64 y]) (λrb_=>.pointer (S' ⟨rb_,0,N'⟩)) [0,2,4] (λrb_=>[(0,.pointer (S' ⟨c,0,N'⟩)),(2,.bool ok),(4,.pointer (S' ⟨rb_,0,N'⟩))]) hs (λ_=>by kernel_rfl) (λ_=>by kernel_rfl) ?_);clear hs a;intro a w1 b1 hn hs;have B1:=hn.blk;have l1:w.heap.size<=b1:=by rw[hn.at_];exact hB.size
 replace hc:=hc.below hn.below hc.lt
 replace hB:=xk hB hn.below
 clear hn;refine vk hs (by kernel_rfl) (aie (t:=227) (cs:= #[.int .i64 0,.int .i64 0]) (λrb_=>.pointer (S' ⟨rb_,0,N'⟩)) [0,2,4,6] (λrb_=>[(0,.pointer (S' ⟨c,0,N'⟩)),(2,.bool ok),(4,.pointer (S' ⟨b1,0,N'⟩)),(6,.pointer (S' ⟨rb_,0,N'⟩))]) hs (λ_=>by kernel_rfl) (λ_=>by kernel_rfl) ?_);clear hs a;intro a w2 b2 hn hs;have B2:=hn.blk;have l2:w.heap.size<=b2:=by rw[hn.at_];exact hB.size
 have l2':b1<b2:=by rw[hn.at_];exact B1.lt
 replace hc:=hc.below hn.below hc.lt
 replace B1:=B1.below hn.below B1.lt
 replace hB:=xk hB hn.below
 clear hn;refine qq (by kernel_rfl) ?_;refine ms rfl ?_;refine yL (j:=4) (by kernel_rfl) ?_;refine mD (id:=1) (by kernel_rfl) ?_;refine te (m:=6) (H:=[(4,none,[.bool b])]) (ts:=[2,4,6,7,12]) (L':=[(2,.bool ok),(4,.pointer (some ⟨b1,0,none⟩)),(6,.pointer (some ⟨b2,0,none⟩)),(7,.pointer (some ⟨c,0,none⟩)),(12,.bool b)]) (O:=λw=>(w.cell? ⟨c,0,none⟩=some (.bool b))/\True) hs (by kernel_rfl) ⟨hc.cell 0 rfl,trivial⟩ ?_;clear hs a;intro a hs;rcases Bool.eq_false_or_eq_true (b)with hb|hb
 ·replace hs:=hs.know (t:=12) rfl hb
  have cd1:=hb;have cd1b:=hb;clear hb;replace hs:=hs.pick (ts:=[2,4,6,7,12]) (L':=[(2,.bool ok),(4,.pointer (S' ⟨b1,0,N'⟩)),(6,.pointer (S' ⟨b2,0,N'⟩)),(7,.pointer (S' ⟨c,0,N'⟩)),(12,.bool T')]) (by kernel_rfl)
  refine te (m:=4) (H:=[]) (ts:=[4,6,14,16]) (L':=[(4,.pointer (S' ⟨b1,0,N'⟩)),(6,.pointer (S' ⟨b2,0,N'⟩)),(14,.bool ok),(16,.pointer (S' ⟨c,0,N'⟩))]) (O:=λw=>True) hs (by kernel_rfl) trivial ?_;clear hs a;intro a hs;refine vk hs (by kernel_rfl) (DA (b:=c) (cs:= #[.bool b]) #[.bool ok] [(0,.bool ok)] [4,6] [(4,.pointer (S' ⟨b1,0,N'⟩)),(6,.pointer (S' ⟨b2,0,N'⟩))] hs hc (by kernel_rfl) ⟨aoV rfl,trivial,trivial⟩ rfl (by kernel_rfl) ?_);clear hs a;intro a w3 hc' hu hs;replace hc:=hc';clear hc'
  replace B1:=hu.blk B1 (by omega)
  replace B2:=hu.blk B2 (by omega)
  replace hB:=sT hB hu (by omega)
  clear hu;refine qq (by kernel_rfl) ?_;refine ms rfl ?_;refine yL (j:=6) (by kernel_rfl) ?_;refine mD (id:=2) (by kernel_rfl) ?_;refine te (m:=1) (H:=[(0,N',[.int .i64 x,.int .i64 y])]) (ts:=[6,17]) (L':=[(6,.pointer (S' ⟨b2,0,N'⟩)),(17,.agg #[.int .i64 x,.int .i64 y])]) (O:=λw=>(w.cell? ⟨b1,0,N'⟩=S' (.int .i64 x))/\(w.cell? ⟨b1,1,N'⟩=S' (.int .i64 y))/\True) hs (by kernel_rfl) ⟨B1.cell 0 rfl,B1.cell 1 rfl,trivial⟩ ?_;clear hs a;intro a hs;refine vk hs (by kernel_rfl) (DA (b:=b2) (cs:= #[.int .i64 0,.int .i64 0]) #[.int .i64 x,.int .i64 y] [(0,.int .i64 x),(1,.int .i64 y)] [6] [(6,.pointer (S' ⟨b2,0,N'⟩))] hs B2 (by kernel_rfl) ⟨aoV rfl,trivial,⟨aoV rfl,trivial,trivial⟩⟩ rfl (by kernel_rfl) ?_);clear hs a;intro a w4 B2' hu hs;replace B2:=B2';clear B2'
  replace hc:=hu.blk hc (by omega)
  replace B1:=hu.blk B1 (by omega)
  replace hB:=sT hB hu (by omega)
  clear hu;refine qq (by kernel_rfl) ?_;refine ms rfl ?_;refine IU (by kernel_rfl) ?_;refine SY (vs:=[.agg #[.int .i64 x,.int .i64 y]]) (H:=[.int .i64 x,.int .i64 y]) (v:=.agg #[.int .i64 x,.int .i64 y]) (O:=λw=>(w.cell? ⟨b2,0,N'⟩=S' (.int .i64 x))/\(w.cell? ⟨b2,1,N'⟩=S' (.int .i64 y))/\True) hs (by kernel_rfl) rfl ⟨B2.cell 0 rfl,B2.cell 1 rfl,trivial⟩ ?_;exact⟨rfl,by rw[cd1];exact hc,hB⟩
 ·replace hs:=hs.know (t:=12) rfl hb
  have cd1:=hb;have cd1b:=hb;clear hb;replace hs:=hs.pick (ts:=[2,4,6,7,12]) (L':=[(2,.bool ok),(4,.pointer (S' ⟨b1,0,N'⟩)),(6,.pointer (S' ⟨b2,0,N'⟩)),(7,.pointer (S' ⟨c,0,N'⟩)),(12,.bool F')]) (by kernel_rfl)
  refine te (m:=4) (H:=[]) (ts:=[4,6,14,16]) (L':=[(4,.pointer (S' ⟨b1,0,N'⟩)),(6,.pointer (S' ⟨b2,0,N'⟩)),(14,.bool F'),(16,.pointer (S' ⟨c,0,N'⟩))]) (O:=λw=>True) hs (by kernel_rfl) trivial ?_;clear hs a;intro a hs;refine vk hs (by kernel_rfl) (DA (b:=c) (cs:= #[.bool b]) #[.bool F'] [(0,.bool F')] [4,6] [(4,.pointer (S' ⟨b1,0,N'⟩)),(6,.pointer (S' ⟨b2,0,N'⟩))] hs hc (by kernel_rfl) ⟨aoV rfl,trivial,trivial⟩ rfl (by kernel_rfl) ?_);clear hs a;intro a w5 hc' hu hs;replace hc:=hc';clear hc'
  replace B1:=hu.blk B1 (by omega)
  replace B2:=hu.blk B2 (by omega)
  replace hB:=sT hB hu (by omega)
  clear hu;refine qq (by kernel_rfl) ?_;refine ms rfl ?_;refine yL (j:=6) (by kernel_rfl) ?_;refine mD (id:=2) (by kernel_rfl) ?_;refine te (m:=1) (H:=[(0,N',[.int .i64 x,.int .i64 y])]) (ts:=[6,17]) (L':=[(6,.pointer (S' ⟨b2,0,N'⟩)),(17,.agg #[.int .i64 x,.int .i64 y])]) (O:=λw=>(w.cell? ⟨b1,0,N'⟩=S' (.int .i64 x))/\(w.cell? ⟨b1,1,N'⟩=S' (.int .i64 y))/\True) hs (by kernel_rfl) ⟨B1.cell 0 rfl,B1.cell 1 rfl,trivial⟩ ?_;clear hs a;intro a hs;refine vk hs (by kernel_rfl) (DA (b:=b2) (cs:= #[.int .i64 0,.int .i64 0]) #[.int .i64 x,.int .i64 y] [(0,.int .i64 x),(1,.int .i64 y)] [6] [(6,.pointer (S' ⟨b2,0,N'⟩))] hs B2 (by kernel_rfl) ⟨aoV rfl,trivial,⟨aoV rfl,trivial,trivial⟩⟩ rfl (by kernel_rfl) ?_);clear hs a;intro a w6 B2' hu hs;replace B2:=B2';clear B2'
  replace hc:=hu.blk hc (by omega)
  replace B1:=hu.blk B1 (by omega)
  replace hB:=sT hB hu (by omega)
  clear hu;refine qq (by kernel_rfl) ?_;refine ms rfl ?_;refine IU (by kernel_rfl) ?_;refine SY (vs:=[.agg #[.int .i64 x,.int .i64 y]]) (H:=[.int .i64 x,.int .i64 y]) (v:=.agg #[.int .i64 x,.int .i64 y]) (O:=λw=>(w.cell? ⟨b2,0,N'⟩=S' (.int .i64 x))/\(w.cell? ⟨b2,1,N'⟩=S' (.int .i64 y))/\True) hs (by kernel_rfl) rfl ⟨B2.cell 0 rfl,B2.cell 1 rfl,trivial⟩ ?_;exact⟨rfl,by rw[cd1];exact hc,hB⟩
def Nj:cE:={keep:=T',tame:=T',run:=λ_ _ _=>N',mut_:=S' ⟨T',λl=>l,S' 265⟩}
theorem O9:SpK 307 Nj:=by
 refine⟨by kernel_rfl,λR args k r h=>(by cases h),(λg h=>?_),λ_ _ e=>(by cases e)⟩;injection h with h;subst h;exact LY
def abt:List En:=[⟨194,iM,fd⟩,⟨123,iQ,fi⟩,⟨122,kM,fY⟩,⟨165,lZ,ik⟩,⟨196,l6,hU⟩,enL BG,⟨46,jN,fx⟩,⟨94,fo,dG⟩,enL sK,enT Gu,enL Tm,enL abD,enL Nt,enL ym,enL Sk,enL Rn,enA Oc,enA TR,enL Zd,enL Ua,enL Ax,enL v5,enL Rk,enL abZ,⟨307,Nj,O9⟩]
def aex:NT:=[((246,5),{keep:=[1,4,13,14,17,20,21,24],hl:=0}),((246,7),{keep:=[1,4,5,25,26,29,32,33,36],hl:=0})]
def ajF:Ctx:=CX (ens abt) aex
def ZS(q:BQ)(_k:KT):OLR:=let y1:=frF (ag q.2.2.2.2.1);let y2:=ok Rat 200000 q.2.2.2.2.2;let y3:=frF (ag q.2.2.2.2.2);let y4:=sqF (hid (y3.1));let y5:=hid ((frF (ag q.2.1)).1);let y6:=hid ((sqF (hid (y1.1))).1);let y7:=frF (ag q.2.2.1);let y8:=frF (ag q.2.2.2.1);let y9:=cC y6 (hid (y4.1));let y10:=cC (hid (y7.1)) (hid (y4.1));let y11:=cC (hid (y8.1)) (hid (y9.1));let y12:=hid ((frF (ag q.1)).1);let y13:=hid ((cC y5 y6).1);let y14:=hid ((dH y12 y13).1);let y15:=dH (hid (y10.1)) (hid (y11.1));let y16:=dH y14 (hid (y15.1));let y17:OLR:=match D' (prI (hid (y3.1)))with|T'=>S' [RV.d ask 0,RV.d .bool F']|F'=>N';og (D' (ok Rat 200000 q.2.2.2.2.1)) (og (D' (prI (hid (y1.1)))) (match y1.2 with|T'=>(og (decide y2) (match(sqF (hid (y1.1))).2 with|T'=>(og (D' (prI (hid (y3.1)))) (match y3.2 with|T'=>(match !(y4.2)with|T'=>S' [RV.d ask 0,RV.d .bool F']|F'=>(og (D' (ok Rat 200000 q.2.1)) (og (D' (prI y5/\prI y6)) (og (D' (ok Rat 200000 q.2.2.1)) (og (D' (prI (hid (y7.1))/\prI (hid (y4.1)))) (og (D' (ok Rat 200000 q.2.2.2.1)) (og (D' (prI y6/\prI (hid (y4.1)))) (og (D' (prI (hid (y8.1))/\prI (hid (y9.1)))) (match !(((((((y4.2&&(frF (ag q.2.1)).2)&&(cC y5 y6).2)&&y7.2)&&y10.2)&&y8.2)&&y9.2)&&y11.2)with|T'=>S' [RV.d ask 0,RV.d .bool F']|F'=>(og (D' (ok Rat 200000 q.1)) (og (D' (prI y12/\prI y13)) (og (D' (prI (hid (y10.1))/\prI (hid (y11.1)))) (og (D' (prI y14/\prI (hid (y15.1)))) (match !(((((((((((y4.2&&(frF (ag q.2.1)).2)&&(cC y5 y6).2)&&y7.2)&&y10.2)&&y8.2)&&y9.2)&&y11.2)&&(frF (ag q.1)).2)&&(dH y12 y13).2)&&y15.2)&&y16.2)with|T'=>S' [RV.d ask 0,RV.d .bool F']|F'=>S' [RV.d ask ((sgF (hid (y16.1))).1),RV.d .bool ((sgF (hid (y16.1))).2)]))))))))))))))|F'=>S' [RV.d ask 0,RV.d .bool F']))|F'=>y17))|F'=>(og (decide y2) y17)))
theorem aiN(q:BQ):RS ajF 246 [.d tQ q] (ZS q):=rsX
def ani:Cn 246 [tQ]:=cn λ(q:BQ)=>lf (okQ q) [.d ask ((quF (dec q)).1),.d .bool ((quF (dec q)).2)] λh=>by
 refine aX abt (aiN _ ⟨0,?_⟩);obtain⟨A,B,C,D,M,N,rfl,bA,bB,bC,bD,bM,bN,hM,hN⟩:=IA h;rw[ao];have pf:∀q,prI (frF q).1:=RE.frF_pr;have pm:∀a b,prI (cC a b).1:=tC;have ps:∀q,prI (sqF (frF q).1).1:=λq=>RE.sqF_pr (pf q);have pa:∀{a b},prI a->prI b->prI (dH a b).1:=λha hb=>RE.addF_pr ha hb;have d1:∀q,D' (prI (frF q).1)=true:=λq=>dT (pf q);have d2:∀q m,D' (prI (frF q).1/\prI (sqF (frF m).1).1)=true:=λq m=>dT ⟨pf q,ps m⟩;have d3:∀q m,D' (prI (sqF (frF q).1).1/\prI (sqF (frF m).1).1)=true:=λq m=>dT ⟨ps q,ps m⟩;have d4:∀q a b,D' (prI (frF q).1/\prI (cC a b).1)=true:=λq a b=>dT ⟨pf q,pm a b⟩;have d5:∀a b c d,D' (prI (cC a b).1/\prI (cC c d).1)=true:=λa b c d=>dT ⟨pm a b,pm c d⟩;have d6:∀q a b c d e f,D' (prI (dH (frF q).1 (cC a b).1).1/\prI (dH (cC c d).1 (cC e f).1).1)=true:=λq a b c d e f=>dT ⟨pa (pf q) (pm a b),pa (pm c d) (pm e f)⟩;unfold ZS;simp only[aV,aC,Nat.reduceLeDiff,dT (pf _),dT (pm _ _),dT (ps _),dT (pa (pf _) (pm _ _)),dT (pa (pm _ _) (pm _ _))];unfold quF qu1 qu2 qu3 quA quB sfF mfF;generalize frF M=FM;generalize frF N=FN;generalize sqF FM.1=SM;generalize sqF FN.1=SN;generalize frF A=FA;generalize frF B=FB;generalize frF C=FC;generalize frF D=FD;generalize cC FB.1 SM.1=MB;generalize cC FC.1 SN.1=MC;generalize cC SM.1 SN.1=MM;generalize cC FD.1 MM.1=MD;generalize dH FA.1 MB.1=A1;generalize dH MC.1 MD.1=A2;generalize dH A1.1 A2.1=A3;generalize sgF A3.1=S;obtain⟨_,fm⟩:=FM;obtain⟨_,fn⟩:=FN;obtain⟨_,sm⟩:=SM;obtain⟨_,sn⟩:=SN;cases fm<;>cases sm<;>cases fn<;>cases sn<;>try rfl
 dsimp only;simp only[aqf,apV];generalize (FB.2&&MB.2&&FC.2&&MC.2&&FD.2&&MM.2&&MD.2)=c2;cases c2
 ·rfl
 ·simp only[aqf];generalize (FA.2&&A1.2&&A2.2&&A3.2)=c3;cases c3<;>rfl
namespace RE
theorem same_rad(a b c d r:RE):a-c+(b-d)*r=a+b*r-(c+d*r):=by grind
theorem agV(a b c:RE):a-b+c=a+c-b:=by grind
theorem vR_rat(q:Rat):vR (q,0,0)=of q:=eg q 0
theorem cmpTR_re{x:Rt}{q:Rat}(h:0<=x.2.2):eG x q=sg (vR x-of q):=by
 unfold eG vR;rw[sgn2_re h];unfold v2;rw[of_sub,agV]
end RE
theorem Rdd.rat{x:Rt}(h:Rdd x)(hb:x.2.1=0):x=(x.1,0,0):=by
 obtain⟨a,b,c⟩:=x;rcases h.rd with h|h
 ·obtain⟨h1,h2⟩:=h;simp only at h1 h2;rw[h1,h2]
 ·exact absurd hb h.1
theorem Us{x:Rt}{q:Rat}(h:Rdd x):bj x (q,0,0)=eG x q:=by
 rw[RE.cmpT_re h.nn (by show(0:Rat)<=0;grind),RE.cmpTR_re h.nn,RE.vR_rat]
theorem XU{x y:Rt}(hx:Rdd x)(hy:Rdd y)(bx:x.2.1=0)(b_:y.2.1=0):bj x y=aD x.1 y.1:=by
 rw[hx.rat bx,hy.rat b_,RE.cmpT_re (by show(0:Rat)<=0;grind) (by show(0:Rat)<=0;grind),RE.vR_rat,RE.vR_rat,<-RE.of_sub,RE.sg_of,xD]
theorem Yk{x y:Rt}(hx:Rdd x)(hy:Rdd y)(h:(apF x y).2=T'):(apF x y).1=bj x y:=by
 rw[RE.apF_ok h,RE.cmpT_re hx.nn hy.nn]
theorem Mm{x y:Rt}(hx:Rdd x)(hy:Rdd y)(h:x.2.2=y.2.2):gb (x.1-y.1) (x.2.1-y.2.1) x.2.2=bj x y:=by
 rw[RE.cmpT_re hx.nn hy.nn,RE.sgn2_re hx.nn];unfold RE.vR RE.v2;rw[RE.of_sub,RE.of_sub,RE.same_rad,h]
theorem aem{A B C D M N:Rat}(hM:0<=M)(hN:0<=N)(h:(quF (A,B,C,D,M,N)).2=T'):(quF (A,B,C,D,M,N)).1=sgQ (A,B,C,D,M,N):=by
 rw[RE.quF_ok (q:=(A,B,C,D,M,N)) hM hN h];exact(RE.sgnQ_re hM hN).symm
def Qo:List En:=[⟨122,kM,fY⟩,⟨123,iQ,fi⟩,⟨46,jN,fx⟩,⟨165,lZ,ik⟩,⟨94,fo,dG⟩,⟨194,iM,fd⟩,enL sK,enT Gu,enL Tm,enL v5]
def aeK:Cn 247 [tR,tR]:=cn λ(a b:BR)=>lf (okR a/\okR b) [.d tR (av (ag a+ag b))] λh=>qN [RV.d tR (hAd a b)] (eL Qo) h
def Zq(a b:BO3)(_k:KT):OLR:=og (D' (ok Rt 100000 a)) (og (D' (ok Rt 100000 b)) (match !((a9 (dec a)).2)with|T'=>S' [RV.d ask 0,RV.d .bool F']|F'=>(match !((a9 (dec b)).2)with|T'=>S' [RV.d ask 0,RV.d .bool F']|F'=>(match D' (((hid ((a9 (dec a)).1)).2)<((hid ((a9 (dec b)).1)).1))with|T'=>S' [RV.d ask (-1),RV.d .bool T']|F'=>(match D' (((hid ((a9 (dec a)).1)).1)>((hid ((a9 (dec b)).1)).2))with|T'=>S' [RV.d ask 1,RV.d .bool T']|F'=>S' [RV.d ask 0,RV.d .bool F'])))))
def aaF:Cn 169 [tO,tO]:=cn λ(a b:BO3)=>lf (ok Rt 100000 a/\ok Rt 100000 b) [.d ask ((apF (dec a) (dec b)).1),.d .bool ((apF (dec a) (dec b)).2)] λh=>by
 refine aA Qo (Zq a b) ⟨0,?_⟩;obtain⟨ha,hb⟩:=h;obtain⟨a,rfl,ba⟩:=aJ ha;obtain⟨b,rfl,bb⟩:=aJ hb;unfold Zq;simp only[aV,Nat.reduceLeDiff];unfold apF;generalize a9 a=A;generalize a9 b=B;obtain⟨⟨a1,a2⟩,p⟩:=A;obtain⟨⟨b1,b2⟩,q⟩:=B;cases p<;>cases q<;>try rfl
 dsimp only;cases D' (a2<b1)<;>try rfl
 cases D' (a1>b2)<;>rfl
def ann:List En:=enL aeK::enT aaF::enT ani::Qo
def ab3(q:BQ)(_k:KT):OLR:=let y1:=ag q.2.2.2.2.1;let y2:=aD (ag q.2.2.2.2.2) 0;let y3:=i64.wrap ((gb (ag q.2.2.1) (ag q.2.2.2.1) y1)*y2);let y4:=gb (ag q.1) (ag q.2.1) y1;let y5:=hMu q.2.2.2.2.1 (hMu q.2.1 q.2.1);let y6:=hMu q.2.2.2.1 q.2.2.2.1;let y7:=hMu q.2.2.1 q.2.2.1;let y8:=hMu q.2.2.2.2.1 y6;let y9:=hAd (hMu q.1 q.1) y5;let y10:=hMu q.2.2.2.2.2 (hAd y7 y8);let y11:=hMu q.2.2.1 q.2.2.2.1;let y12:=hMu q.2.2.2.2.2 y11;let y13:=hSu (hMu q.1 q.2.1) y12;let y14:OLR:=match D' (okR (hMu q.1 q.2.1)/\okR y12)with|T'=>(og (o2 y13 y13) (og (D' (ok Rat 240000 (hSu y9 y10)/\ok Rat 170000 (hAd y13 y13)/\ok Rat 30000 q.2.2.2.2.1)) (S' [RV.d ask (i64.wrap (y4*(gb (ag (hSu y9 y10)) (ag (hAd y13 y13)) y1)))])))|F'=>N';let y15:OLR:=match D' (okR q.2.2.2.2.2/\okR y11)with|T'=>y14|F'=>N';let y16:OLR:=match D' (okR q.2.2.1/\okR q.2.2.2.1)with|T'=>y15|F'=>N';let y17:OLR:=match D' (okR y9/\okR y10)with|T'=>cW (og (o2 q.1 q.2.1) (cW (og (o2 q.2.2.1 q.2.2.2.1) (cW (og (o2 q.2.2.2.2.2 y11) (dup (.b .l .l) y14)) y15)) y16)) (og (o2 q.1 q.2.1) y16)|F'=>N';let y18:OLR:=match D' (okR q.2.2.2.2.2/\okR (hAd y7 y8))with|T'=>y17|F'=>N';let y19:OLR:=match D' (okR y7/\okR y8)with|T'=>y18|F'=>N';let y20:OLR:=match D' (okR q.2.2.2.2.1/\okR y6)with|T'=>y19|F'=>N';let y21:OLR:=match D' (okR q.2.2.2.1/\okR q.2.2.2.1)with|T'=>y20|F'=>N';let y22:OLR:=match D' (okR q.2.2.1/\okR q.2.2.1)with|T'=>y21|F'=>N';let y23:OLR:=match D' (okR (hMu q.1 q.1)/\okR y5)with|T'=>y22|F'=>N';let y24:OLR:=match D' (okR q.2.2.2.2.1/\okR (hMu q.2.1 q.2.1))with|T'=>y23|F'=>N';let y25:OLR:=match D' (okR q.2.1/\okR q.2.1)with|T'=>y24|F'=>N';og (o1 q.2.2.2.2.1) (match D' ((aD y1 0)<0)with|T'=>S' [RV.d ask 0]|F'=>(og (o1 q.2.2.2.2.2) (match D' (y2<0)with|T'=>S' [RV.d ask 0]|F'=>(og (D' (okQ q)) (match(quF (dec q)).2 with|T'=>S' [RV.d ask ((quF (dec q)).1)]|F'=>(og (D' (ok Rat 240000 q.1/\ok Rat 170000 q.2.1/\ok Rat 30000 q.2.2.2.2.1)) (og (D' (ok Rat 240000 q.2.2.1/\ok Rat 170000 q.2.2.2.1/\ok Rat 30000 q.2.2.2.2.1)) (og (o1 q.2.2.2.2.2) (match y3==0 with|T'=>S' [RV.d ask y4]|F'=>(match y4==y3 with|T'=>S' [RV.d ask y4]|F'=>(match y4==0 with|T'=>S' [RV.d ask y3]|F'=>cW (og (o2 q.1 q.1) (cW (og (o2 q.2.1 q.2.1) (cW (og (o2 q.2.2.2.2.1 (hMu q.2.1 q.2.1)) (cW (og (o2 (hMu q.1 q.1) y5) (cW (og (o2 q.2.2.1 q.2.2.1) (cW (og (o2 q.2.2.2.1 q.2.2.2.1) (cW (og (o2 q.2.2.2.2.1 y6) (cW (og (o2 y7 y8) (cW (og (o2 q.2.2.2.2.2 (hAd y7 y8)) (dup (.b .l .l) y17)) y18)) y19)) y20)) y21)) y22)) y23)) y24)) y25)) (og (o2 q.1 q.1) y25))))))))))))
def aiY:Cn 171 [tQ]:=cn λ(q:BQ)=>lf (okQ q) [.d ask (sgQ (dec q))] λh=>by
 refine aA ann (ab3 q) ⟨0,?_⟩;obtain⟨A,B,C,D,M,N,rfl,bA,bB,bC,bD,bM,bN,hM,hN⟩:=IA h;have hh:D' (okQ (av A,av B,av C,av D,av M,av N))=true:=aoP h;have hd:(dec ((av A,av B,av C,av D,av M,av N):BQ):Qd)=(A,B,C,D,M,N):=ao ((A,B,C,D,M,N):Qd);rw[ao];unfold ab3;simp only[aV,aC,Nat.reduceAdd,Nat.reduceLeDiff,t6,tu,aq,hh,hd,aoR (show ¬M<0 by grind),aoR (show ¬N<0 by grind)];cases hq:(quF (A,B,C,D,M,N)).2
 ·try dsimp only
  refine(Dn _ _ _).trans ?_;unfold sgQ Em;rw[aoR (show ¬M<0 by grind),aoR (show ¬N<0 by grind)];dsimp only[Bool.or_false,cond_false];rw[show A*B-N*(C*D)+(A*B-N*(C*D))=2*(A*B-N*(C*D)) by grind,show A*A+M*(B*B)-N*(C*C+M*(D*D))=A*A+B*B*M-N*(C*C+D*D*M) by grind];rfl
 ·try dsimp only
  rw[aem hM hN hq]
def abT:List En:=[⟨94,fo,dG⟩,⟨46,jN,fx⟩,⟨165,lZ,ik⟩,enT Gu,enL Tm,enT aaF,enT aiY,enL sK]
def aam(a b:BO3)(_k:KT):OLR:=og (o1 a.2.1) (match(aD (ag a.2.1) 0)==0 with|T'=>(og (o1 b.2.1) (match(aD (ag b.2.1) 0)==0 with|T'=>(og (o2 a.1 b.1) (S' [RV.d ask (aD (ag a.1) (ag b.1))]))|F'=>(og (D' (ok Rt 100000 a/\ok Rt 100000 b)) (match(apF (dec a) (dec b)).2 with|T'=>S' [RV.d ask ((apF (dec a) (dec b)).1)]|F'=>(og (o2 a.2.2 b.2.2) (match(aD (ag a.2.2) (ag b.2.2))==0 with|T'=>(og (o2 a.1 b.1) (og (o2 a.2.1 b.2.1) (og (D' (ok Rat 240000 (hSu a.1 b.1)/\ok Rat 170000 (hSu a.2.1 b.2.1)/\ok Rat 30000 a.2.2)) (S' [RV.d ask (gb (ag (hSu a.1 b.1)) (ag (hSu a.2.1 b.2.1)) (ag a.2.2))]))))|F'=>(og (D' (ok Rt 15000 a/\ok Rt 15000 b)) (og (D' (okQ (hid (enc (suT (dec a) (dec b)))))) (S' [RV.d ask (sgQ (dec (hid (enc (suT (dec a) (dec b))))))])))))))))|F'=>(og (D' (ok Rt 100000 a/\ok Rt 100000 b)) (match(apF (dec a) (dec b)).2 with|T'=>S' [RV.d ask ((apF (dec a) (dec b)).1)]|F'=>(og (o2 a.2.2 b.2.2) (match(aD (ag a.2.2) (ag b.2.2))==0 with|T'=>(og (o2 a.1 b.1) (og (o2 a.2.1 b.2.1) (og (D' (ok Rat 240000 (hSu a.1 b.1)/\ok Rat 170000 (hSu a.2.1 b.2.1)/\ok Rat 30000 a.2.2)) (S' [RV.d ask (gb (ag (hSu a.1 b.1)) (ag (hSu a.2.1 b.2.1)) (ag a.2.2))]))))|F'=>(og (D' (ok Rt 15000 a/\ok Rt 15000 b)) (og (D' (okQ (hid (enc (suT (dec a) (dec b)))))) (S' [RV.d ask (sgQ (dec (hid (enc (suT (dec a) (dec b))))))]))))))))
def qZ:Cn 91 [tO,tO]:=cn λ(a b:BO3)=>lf (okT 15000 a/\okT 15000 b) [.d ask (bj (dec a) (dec b))] λh=>by
 refine aA abT (aam a b) ⟨0,?_⟩;obtain⟨ha,hb⟩:=h;obtain⟨a,rfl,ba,ra⟩:=gn ha;obtain⟨b,rfl,bb,rb⟩:=gn hb;have na:Nn a.2.2:=inferInstance;have nb:Nn b.2.2:=inferInstance;have e:D' (okQ (enc (suT a b)))=true:=abl (by decide) (by decide) (by decide) (by decide) (by decide) (by decide);have e1:=λh1 h2=>XU ra rb h1 h2;have e2:=λh=>Yk ra rb h;have e3:=λh=>Mm ra rb h;unfold aam;simp only[aV,Nat.reduceAdd,Nat.reduceLeDiff,am,e];by_cases ha:a.2.1=0
 ·by_cases hb:b.2.1=0
  ·rw[aoP ha,aoP hb,e1 ha hb]
  ·rw[aoP ha,aoR hb];dsimp only;cases hq:(apF a b).2
   ·dsimp only;by_cases hc:a.2.2=b.2.2
    ·rw[aoP hc,<-e3 hc]
    ·rw[aoR hc];rfl
   ·dsimp only;rw[e2 hq]
 ·rw[aoR ha];dsimp only;cases hq:(apF a b).2
  ·dsimp only;by_cases hc:a.2.2=b.2.2
   ·rw[aoP hc,<-e3 hc]
   ·rw[aoR hc];rfl
  ·dsimp only;rw[e2 hq]
def abW:List En:=enT qZ::abT
def aby(a b:BO3)(_k:KT):OLR:=og (D' (okT 15000 a/\okT 15000 b)) (S' [RV.d .bool ((bj (dec a) (dec b))==0)])
def Lx:Cn 168 [tO,tO]:=cn λ(a b:BO3)=>lf (okT 15000 a/\okT 15000 b) [.d .bool (bj (dec a) (dec b)==0)] λh=>by
 refine aA abW (aby a b) ⟨0,?_⟩;unfold aby;rw[dT h]
def Zx(a:BO3)(b:BR)(_k:KT):OLR:=og (o1 b) (og (D' (okT 15000 a/\okT 15000 (hid (enc ((ag b,0,0):Rt))))) (S' [RV.d ask (bj (dec a) (dec (hid (enc ((ag b,0,0):Rt)))))]))
def Fq:Cn 95 [tO,tR]:=cn λ(a:BO3) (b:BR)=>lf (okT 15000 a/\ok Rat 15000 b) [.d ask (eG (dec a) (ag b))] λh=>by
 refine aA abW (Zx a b) ⟨0,?_⟩;obtain⟨ha,hb⟩:=h;obtain⟨a,rfl,ba,ra⟩:=gn ha;obtain⟨b,rfl,bb⟩:=aJ hb;unfold Zx;simp only[aV,Nat.reduceLeDiff,aI];rw[Us ra]
end Go.Proofs.YtoimchcjhdcdmaaGreat
end
