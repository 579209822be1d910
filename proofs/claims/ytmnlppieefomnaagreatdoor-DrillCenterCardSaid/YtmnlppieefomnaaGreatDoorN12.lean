/- Intervals: sound for reals. -/
import Derived.Test.YtmnlppieefomnaaGreatDoorN11
import Derived.Test.YtmnlppieefomnaaGreatDoorN1
import Derived.Lib.LazyBuf
import Derived.Test.YtmnlppieefomnaaGreatDoorN6
noncomputable section
namespace Go.Proofs.YtmnlppieefomnaaGreatDoor
open Go.RowKit Go.IntKind
theorem aoj:type_of% @Int.zero_sub:=@Int.zero_sub
theorem aom:type_of% @Rat.intCast_mul:=@Rat.intCast_mul
theorem aoL:type_of% @Rat.intCast_lt_intCast:=@Rat.intCast_lt_intCast
namespace RE
theorem mV{a b:Int}(h:a<=b):of (a:Rat)<=of (b:Rat):=oz.2 (aoK.2 h)
theorem gL{q:Rat}(h:(frF q).2=true):inI (frF q).1 (of q):=by
 have f1:((q*65536).floor:Rat)<=q*65536:=Rat.floor_le _;have f2:((-(q*65536)).floor:Rat)<= -(q*65536):=Rat.floor_le _;unfold frF at h ⊢;cases e1:decide (aR (q*65536).floor)
 ·rw[e1]at h;cases h
 ·cases e2:decide (aR (-(-(q*65536)).floor))
  ·rw[e1,e2]at h;cases h
  ·rw[e1,e2]at h;simp only[cond_true]at h ⊢;rw[AZ h];refine⟨?_,?_⟩
   ·rw[<-bO];exact oz.2 (by show(((q*65536).floor:Int):Rat)<=_;grind)
   ·rw[<-bO];exact oz.2 (by show _<=((-(-(q*65536)).floor:Int):Rat);rw[ao2];grind)
theorem frF_pr(q:Rat):prI (frF q).1:=by
 have f1:((q*65536).floor:Rat)<=q*65536:=Rat.floor_le _;have f2:((-(q*65536)).floor:Rat)<= -(q*65536):=Rat.floor_le _
 have f3:(q*65536).floor<= -(-(q*65536)).floor:=by
  refine aoK.1 ?_;rw[ao2];grind
 unfold frF;cases decide (aR (q*65536).floor)
 ·exact fu
 ·cases decide (aR (-(-(q*65536)).floor))
  ·exact fu
  ·exact Bi f3
theorem jY{a b:Iv}{x y:RE}(ha:inI a x)(hb:inI b y)(h:(dH a b).2=true):inI (dH a b).1 (x+y):=by
 unfold dH at h ⊢;rw[AZ h];refine⟨?_,?_⟩
 ·show of ((a.1+b.1:Int):Rat)<=_;rw[Rat.intCast_add,of_add];exact Wg _ _ _ _ _ ha.1 hb.1
 ·show _<=of ((a.2+b.2:Int):Rat);rw[Rat.intCast_add,of_add];exact UQ _ _ _ _ _ ha.2 hb.2
theorem addF_pr{a b:Iv}(ha:prI a)(hb:prI b):prI (dH a b).1:=Bi (by have:=ha.2.1;have:=hb.2.1;omega)
theorem B3{a:Iv}{x:RE}(ha:inI a x):inI (mC a) (-x):=by
 refine⟨?_,?_⟩
 ·show of ((-a.2:Int):Rat)<=_;rw[ao2,of_neg];exact VB _ _ _ ha.2
 ·show _<=of ((-a.1:Int):Rat);rw[ao2,of_neg];exact VF _ _ _ ha.1
theorem negF_pr{a:Iv}(ha:prI a):prI (mC a):=⟨by show _<= -a.2;have:=ha.2.2;omega,by show-a.2<= -a.1;have:=ha.2.1;omega,by show-a.1<=_;have:=ha.1;omega⟩
theorem lB{a b:Iv}{x y:RE}(ha:inI a x)(hb:inI b y)(h:(cE a b).2=true):inI (cE a b).1 (x*y):=by
 have hc:=UH h;have c1:=hc a.1 b.1 (.inl rfl) (.inl rfl);have c2:=hc a.1 b.2 (.inl rfl) (.inr rfl);have c3:=hc a.2 b.1 (.inr rfl) (.inl rfl);have c4:=hc a.2 b.2 (.inr rfl) (.inr rfl);generalize (cE a b).1=m at*
 have up:∀{p q r:Int},p*65536<=q*r->of (p:Rat)*of 65536<=of (q:Rat)*of (r:Rat):=λ{p q r} h=>by
  have:=mV h;rw[aom,aom,bO,bO]at this;exact this
 have dn:∀{p q r:Int},q*r<=p*65536->of (q:Rat)*of (r:Rat)<=of (p:Rat)*of 65536:=λ{p q r} h=>by
  have:=mV h;rw[aom,aom,bO,bO]at this;exact this
 obtain⟨a1,a2⟩:=ha;obtain⟨b1,b2⟩:=hb
 have l:of (m.1:Rat)*of 65536<=of 65536*x*(of 65536*y):=by
  rcases lt_or_ge (of 65536*y) 0 with v|v
  ·rcases lt_or_ge (of (a.2:Rat)) 0 with s|s
   ·exact ahj _ _ _ _ _ (le_of_lt v) (le_of_lt s) a2 b2 (up c4.1)
   ·exact afR _ _ _ _ _ (le_of_lt v) s a2 b1 (up c3.1)
  ·rcases lt_or_ge (of (a.1:Rat)) 0 with s|s
   ·exact ahC _ _ _ _ _ v (le_of_lt s) a1 b2 (up c2.1)
   ·exact agc _ _ _ _ _ v s a1 b1 (up c1.1)
 have u:of 65536*x*(of 65536*y)<=of (m.2:Rat)*of 65536:=by
  rcases lt_or_ge (of 65536*y) 0 with v|v
  ·rcases lt_or_ge (of (a.1:Rat)) 0 with s|s
   ·exact akh _ _ _ _ _ (le_of_lt v) (le_of_lt s) a1 b1 (dn c1.2)
   ·exact agY _ _ _ _ _ (le_of_lt v) s a1 b2 (dn c2.2)
  ·rcases lt_or_ge (of (a.2:Rat)) 0 with s|s
   ·exact ajT _ _ _ _ _ v (le_of_lt s) a2 b1 (dn c3.2)
   ·exact akv _ _ _ _ _ v s a2 b2 (dn c4.2)
 rw[aeL]at l u;exact⟨XG _ _ _ ow l,XG _ _ _ ow u⟩
theorem akH(u s:RE):u*s*(u*s)=u*(s*s)*u:=by grind
theorem RF(r a u x:RE):((r-(u*x*u)))+((a*u-(r)))+((u*x-(a))*(u-(0)))=0:=by grind
theorem abu(r a u x:RE)(h1:r<=a*u)(h2:a<=u*x)(h3:0<u):r<=u*x*u:=λhg=>far (aW (aW (bz hg) (aJ h1)) (ct (aJ h2) (le_of_lt (bz h3)))) (RF r a u x)
theorem Ra(r a u x:RE):((u*x*u-(r)))+((r-(a*u)))+((a-(u*x))*(u-(0)))=0:=by grind
theorem MK(r a u x:RE)(h1:a*u<=r)(h2:u*x<=a)(h3:0<u):u*x*u<=r:=λhg=>far (aW (aW (bz hg) (aJ h1)) (ct (aJ h2) (le_of_lt (bz h3)))) (Ra r a u x)
theorem sqF_pr{a:Iv}(ha:prI a):prI (sqF a).1:=by
 unfold sqF;by_cases h:a.2<0
 ·rw[amh h];exact fu
 ·rw[ami h];simp only[cond_false];refine Bi ?_;have h1:(if 0>a.1 then 0 else a.1)<=a.2:=by have:=ha.2.1;split<;>omega
  have h0:0<=(if 0>a.1 then 0 else a.1):=by split<;>omega
  have hm:eg (if 0>a.1 then 0 else a.1)<=eg a.2:=by
   unfold eg;obtain⟨_,g1,_⟩:=fJ (z:=(if 0>a.1 then 0 else a.1)*65536) (by omega);obtain⟨g0,_,g2⟩:=fJ (z:=a.2*65536) (by omega);have:=Go.Proofs.YtmnlppieefomnaaGreatDoor.sq_lt (a:=bK ((if 0>a.1 then 0 else a.1)*65536)) (b:=bK (a.2*65536)+1) (by omega) (by omega);omega
  cases decide (eg a.2*eg a.2=a.2*65536)
  ·show _<=eg a.2+1;omega
  ·exact hm
theorem xh{a:Iv}{x:RE}(ha:inI a x)(hx:0<=x)(h:(sqF a).2=true):inI (sqF a).1 (xp x):=by
 obtain⟨a1,a2⟩:=ha;have hs:=BF hx;have s0:0<=of 65536*xp x:=ct (le_of_lt ow) (pH x);have e:of 65536*xp x*(of 65536*xp x)=of 65536*x*of 65536:=by rw[akH,hs]
 unfold sqF at h ⊢;cases hn:decide (a.2<0)
 ·rw[hn]at h;simp only[cond_false]at h ⊢;have h2:=am7 hn;rw[AZ h];obtain⟨p0,p1,p2⟩:=fJ (z:=(if 0>a.1 then 0 else a.1)*65536) (by split<;>omega);obtain⟨q0,q1,q2⟩:=fJ (z:=a.2*65536) (by omega)
  have cm:∀{p q:Int},p*p<=q*65536->of (p:Rat)*of (p:Rat)<=of (q:Rat)*of 65536:=λ{p q} h=>by
   have:=mV h;rw[aom,aom,bO,bO]at this;exact this
  have cn:∀{p q:Int},q*65536<=p*p->of (q:Rat)*of 65536<=of (p:Rat)*of (p:Rat):=λ{p q} h=>by
   have:=mV h;rw[aom,aom,bO,bO]at this;exact this
  have nn:∀{p:Int},0<=p->0<=of (p:Rat):=λh=>mV h;refine⟨?_,?_⟩
  ·show of ((eg _:Int):Rat)<=_;refine L8 _ _ (nn p0) s0 ?_;rw[e];refine abu _ (of (((if 0>a.1 then 0 else a.1:Int)):Rat)) _ _ (cm p1) ?_ ow;split
   ·exact ct (le_of_lt ow) hx
   ·exact a1
  ·show _<=of (((bif _ then _ else _):Int):Rat);cases he:decide (eg a.2*eg a.2=a.2*65536)
   ·simp only[cond_false];refine L8 _ _ s0 (nn (by unfold eg;omega)) ?_;rw[e];exact MK _ _ _ _ (cn (by unfold eg;omega)) a2 ow
   ·simp only[cond_true];refine L8 _ _ s0 (nn q0) ?_;rw[e];exact MK _ _ _ _ (cn (by rw[amj he];exact Int.le_refl _)) a2 ow
 ·rw[hn]at h;cases h
theorem Hq{i:Iv}{x:RE}(hi:inI i x)(h:(sgF i).2=true):(sgF i).1=sg x:=by
 obtain⟨h1,h2⟩:=hi;unfold sgF at h ⊢;cases e1:decide (i.1>0)
 ·rw[e1]at h;cases e2:decide (i.2<0)
  ·rw[e2]at h;simp only[cond_false,aml,aoB]at h ⊢;rw[h.1]at h1;rw[h.2]at h2;have:of 65536*x=0:=le_antisymm h2 h1;have:sg (of 65536*x)=0:=by rw[this,fe]
   rw[uF,jc ow]at this;omega
  ·have e:=amj e2;have h3:of (i.2:Rat)<0:=kS (aoL.2 e);simp only[cond_false,cond_true]
   have:sg (of 65536*x)= -1:=oA (by
    rcases lt_or_ge (of 65536*x) 0 with h|h
    ·exact h
    ·exact absurd (le_trans h h2) (xC.2 h3))
   rw[uF,jc ow]at this;omega
 ·have e:=amj e1;have h3:0<of (i.1:Rat):=kS (aoL.2 e);simp only[cond_true]
  have:sg (of 65536*x)=1:=jc (by
   rcases lt_or_ge 0 (of 65536*x)with h|h
   ·exact h
   ·exact absurd (le_trans h1 h) (xC.2 h3))
  rw[uF,jc ow]at this;omega
end RE
abbrev Qd:=Rat×Rat×Rat×Rat×Rat×Rat
def sgQ(q:Qd):Int:=C4 q.1 q.2.1 q.2.2.1 q.2.2.2.1 q.2.2.2.2.1 q.2.2.2.2.2
def suT(x y:Rt):Qd:=(x.1-y.1,x.2.1,-y.2.1,0,x.2.2,y.2.2)
def hU(x:Rt)(q:Rat):Int:=gf (x.1-q) x.2.1 x.2.2
def okQ(q:BQ):Prop:=ok Rat 30001 q.1/\ok Rat 15000 q.2.1/\ok Rat 15000 q.2.2.1/\ok Rat 6000 q.2.2.2.1/\ok Rat 15000 q.2.2.2.2.1/\ok Rat 15000 q.2.2.2.2.2/\0<=ag q.2.2.2.2.1/\0<=ag q.2.2.2.2.2
instance (q:BQ):Decidable (okQ q):=by unfold okQ;infer_instance
theorem GF{q:BQ}(h:okQ q):∃A B C D M N:Rat,q=enc ((A,B,C,D,M,N):Qd)/\Bd A 30001/\Bd B 15000/\Bd C 15000/\Bd D 6000/\Bd M 15000/\Bd N 15000/\0<=M/\0<=N:=by
 obtain⟨A,B,C,D,M,N⟩:=q;obtain⟨h1,h2,h3,h4,h5,h6,h7,h8⟩:=h;obtain⟨a,ha,b1⟩:=aM h1;obtain⟨b,hb,b2⟩:=aM h2;obtain⟨c,hc,b3⟩:=aM h3;obtain⟨d,hd,b4⟩:=aM h4;obtain⟨m,hm,b5⟩:=aM h5;obtain⟨n,hn,b6⟩:=aM h6;dsimp only at ha hb hc hd hm hn h7 h8;subst ha hb hc hd hm hn;rw[lO,eA]at h7 h8;exact⟨a,b,c,d,m,n,rfl,b1,b2,b3,b4,b5,b6,h7,h8⟩
theorem Zl{A B C D M N:Rat}{a b c d m n:Nat}[h1:Bd A a][h2:Bd B b][h3:Bd C c][h4:Bd D d][h5:Bd M m][h6:Bd N n][h7:Nn M][h8:Nn N](ha:a<=30001)(hb:b<=15000)(hc:c<=15000)(hd:d<=6000)(hm:m<=15000)(hn:n<=15000):decide (okQ (enc ((A,B,C,D,M,N):Qd)))=true:=
 amh ⟨amj (lN ha (by decide)),amj (lN hb (by decide)),amj (lN hc (by decide)),amj (lN hd (by decide)),amj (lN hm (by decide)),amj (lN hn (by decide)),by show 0<=ag (am M);rw[eA];exact h7.le,by show 0<=ag (am N);rw[eA];exact h8.le⟩
theorem Bt{s t:Int}(hs: -1<=s/\s<=1)(ht: -1<=t/\t<=1):i64.wrap (s*t)=s*t:=by
 have:=Cu hs ht;exact aO (by omega) (by omega)
theorem tc{a b m x y:Rat}:i64.wrap (gf a b m*aD x y)=gf a b m*aD x y:=Bt (lD _ _ _) (lM _ _)
theorem tu{a b m x y z:Rat}:i64.wrap (gf a b m*gf x y z)=gf a b m*gf x y z:=Bt (lD _ _ _) (lD _ _ _)
theorem Eu(s t u:Int):(match s==0 with|true=>(match s==0 with|true=>some [RV.d apE t]|false=>some [RV.d apE s])|false=>(match t==0 with|true=>(match s==0 with|true=>some [RV.d apE t]|false=>some [RV.d apE s])|false=>(match s==t with|true=>(match s==0 with|true=>some [RV.d apE t]|false=>some [RV.d apE s])|false=>some [RV.d apE (s*u)])))=some [RV.d apE (RE.addS s t u)]:=by
 unfold RE.addS;cases h1:s==0
 ·cases h2:t==0
  ·cases h3:s==t<;>rfl
  ·rfl
 ·have e:=amW.1 h1;subst e;cases h2:t==0
  ·cases h3:(0:Int)==t
   ·rfl
   ·rw[<-amW.1 h3];rfl
  ·rw[amW.1 h2];rfl
theorem Bl(s t u:Int):(match t==0 with|true=>some [RV.d apE s]|false=>(match s==t with|true=>some [RV.d apE s]|false=>(match s==0 with|true=>some [RV.d apE t]|false=>some [RV.d apE (s*u)])))=some [RV.d apE (RE.addS s t u)]:=by
 unfold RE.addS;cases h2:t==0
 ·cases h3:s==t
  ·cases h1:s==0<;>rfl
  ·rfl
 ·rfl
def Hx:List En:=[enL ru,enL vp,enL yc,enL rK,enT l9,enT uq,enL nB]
def LG(a b c:BR)(_k:KT):OLR:=og (o1 a) (og (o1 b) (og (o1 c) (match(aD (ag a) 0)==0 with|true=>(match(aD (ag a) 0)==0 with|true=>some [RV.d apE (i64.wrap ((aD (ag b) 0)*(aD (ag c) 0)))]|false=>some [RV.d apE (aD (ag a) 0)])|false=>(match(i64.wrap ((aD (ag b) 0)*(aD (ag c) 0)))==0 with|true=>(match(aD (ag a) 0)==0 with|true=>some [RV.d apE (i64.wrap ((aD (ag b) 0)*(aD (ag c) 0)))]|false=>some [RV.d apE (aD (ag a) 0)])|false=>(match(aD (ag a) 0)==(i64.wrap ((aD (ag b) 0)*(aD (ag c) 0)))with|true=>(match(aD (ag a) 0)==0 with|true=>some [RV.d apE (i64.wrap ((aD (ag b) 0)*(aD (ag c) 0)))]|false=>some [RV.d apE (aD (ag a) 0)])|false=>(og (o2 a a) (og (o2 b b) (og (o2 (hMu b b) c) (og (o2 (hMu a a) (hMu (hMu b b) c)) (some [RV.d apE (i64.wrap ((aD (ag a) 0)*(aD (ag (hMu a a)) (ag (hMu (hMu b b) c)))))]))))))))))
def aa5:Cn 277 [tR,tR,tR]:=cn λ(a b c:BR)=>lf (ok Rat 240000 a/\ok Rat 170000 b/\ok Rat 30000 c) [.d apE (gf (ag a) (ag b) (ag c))] λh=>by
 refine aA Hx (LG a b c) ⟨0,?_⟩;obtain⟨ha,hb,hc⟩:=h;obtain⟨a,rfl,ba⟩:=aM ha;obtain⟨b,rfl,bb⟩:=aM hb;obtain⟨c,rfl,bc⟩:=aM hc;unfold LG;simp only[bE,Nat.reduceAdd,Nat.reduceLeDiff,pQ];exact Eu _ _ _
def OE(a b:BO3)(_k:KT):OLR:=og (o2 a.1 b.1) (og (o1 b.2.1) (og (decide (aR (0:Int))) (some [RV.d tQ (hSu a.1 b.1,(a.2.1,(hNe b.2.1,(hid (am ((0:Int):Rat)),(a.2.2,b.2.2)))))])))
def adi:Cn 212 [tO,tO]:=cn λ(a b:BO3)=>lf (ok Rt 15000 a/\ok Rt 15000 b) [.d tQ (enc (suT (dec a) (dec b)))] λh=>by
 refine aA Hx (OE a b) ⟨0,?_⟩;obtain⟨ha,hb⟩:=h;obtain⟨a,rfl,ba⟩:=aM ha;obtain⟨b,rfl,bb⟩:=aM hb;unfold OE;simp only[bE,Nat.reduceLeDiff];try rfl
def MJ:List En:=enT aa5::enL adi::Hx
def OF(q:BQ)(_k:KT):OLR:=let y1:=ag q.2.2.2.2.1;let y2:=aD (ag q.2.2.2.2.2) 0;let y3:=gf (ag q.1) (ag q.2.1) y1;let y4:=i64.wrap ((gf (ag q.2.2.1) (ag q.2.2.2.1) y1)*y2);let y5:OLR:=match y3==0 with|true=>some [RV.d apE y4]|false=>some [RV.d apE y3];let y6:=hMu q.2.2.2.1 q.2.2.2.1;let y7:=hMu q.2.2.1 q.2.2.1;let y8:=hMu y6 q.2.2.2.2.1;let y9:=hMu (hMu q.2.1 q.2.1) q.2.2.2.2.1;let y10:=hAd (hMu q.1 q.1) y9;let y11:=hMu q.2.2.2.2.2 (hAd y7 y8);let y12:=hMu q.2.2.1 q.2.2.2.1;let y13:=hMu q.2.2.2.2.2 y12;let y14:=hSu (hMu q.1 q.2.1) y13;og (o1 q.2.2.2.2.1) (match decide ((aD y1 0)<0)with|true=>some [RV.d apE 0]|false=>(og (o1 q.2.2.2.2.2) (match decide (y2<0)with|true=>some [RV.d apE 0]|false=>(og (decide (ok Rat 240000 q.1/\ok Rat 170000 q.2.1/\ok Rat 30000 q.2.2.2.2.1)) (og (decide (ok Rat 240000 q.2.2.1/\ok Rat 170000 q.2.2.2.1/\ok Rat 30000 q.2.2.2.2.1)) (og (o1 q.2.2.2.2.2) (match y3==0 with|true=>y5|false=>(match y4==0 with|true=>y5|false=>(match y3==y4 with|true=>y5|false=>(og (o2 q.2.2.1 q.2.2.1) (og (o2 q.2.2.2.1 q.2.2.2.1) (og (o2 y6 q.2.2.2.2.1) (og (o2 y7 y8) (og (o2 q.2.2.2.2.2 (hAd y7 y8)) (og (o2 q.1 q.1) (og (o2 q.2.1 q.2.1) (og (o2 (hMu q.2.1 q.2.1) q.2.2.2.2.1) (og (o2 (hMu q.1 q.1) y9) (og (o2 y10 y11) (og (o2 q.1 q.2.1) (og (o2 q.2.2.1 q.2.2.2.1) (og (o2 q.2.2.2.2.2 y12) (og (o2 (hMu q.1 q.2.1) y13) (og (o2 y14 y14) (og (decide (ok Rat 240000 (hSu y10 y11)/\ok Rat 170000 (hAd y14 y14)/\ok Rat 30000 q.2.2.2.2.1)) (some [RV.d apE (i64.wrap (y3*(gf (ag (hSu y10 y11)) (ag (hAd y14 y14)) y1)))]))))))))))))))))))))))))))
def acy:Cn 211 [tQ]:=cn λ(q:BQ)=>lf (okQ q) [.d apE (sgQ (dec q))] λh=>by
 refine aA MJ (OF q) ⟨0,?_⟩;obtain⟨A,B,C,D,M,N,rfl,bA,bB,bC,bD,bM,bN,hM,hN⟩:=GF h;rw[au];unfold OF;simp only[bE,aG,Nat.reduceAdd,Nat.reduceLeDiff,tc,tu,aq,ami (show ¬M<0 by grind),ami (show ¬N<0 by grind)];refine(Eu _ _ _).trans ?_;unfold sgQ C4;rw[ami (show ¬M<0 by grind),ami (show ¬N<0 by grind)];dsimp only[Bool.or_false,cond_false];rw[show A*B-N*(C*D)+(A*B-N*(C*D))=2*(A*B-N*(C*D)) by grind];rfl
def Fw:List En:=enT acy::MJ
def Ou(a b:BO3)(_k:KT):OLR:=og (decide (ok Rt 15000 a/\ok Rt 15000 b)) (og (decide (okQ (hid (enc (suT (dec a) (dec b)))))) (some [RV.d apE (sgQ (dec (hid (enc (suT (dec a) (dec b))))))]))
def BE:Cn 154 [tO,tO]:=cn λ(a b:BO3)=>lf (okT 15000 a/\okT 15000 b) [.d apE (bQ (dec a) (dec b))] λh=>by
 refine aA Fw (Ou a b) ⟨0,?_⟩;obtain⟨ha,hb⟩:=h;obtain⟨a,rfl,ba,ra⟩:=iE ha;obtain⟨b,rfl,bb,rb⟩:=iE hb;have na:Nn a.2.2:=inferInstance;have nb:Nn b.2.2:=inferInstance;have e:decide (okQ (enc (suT a b)))=true:=Zl (by decide) (by decide) (by decide) (by decide) (by decide) (by decide);unfold Ou;simp only[bE,Nat.reduceLeDiff,e];rfl
def NA(a:BO3)(b:BR)(_k:KT):OLR:=og (o2 a.1 b) (og (decide (ok Rat 240000 (hSu a.1 b)/\ok Rat 170000 a.2.1/\ok Rat 30000 a.2.2)) (some [RV.d apE (gf (ag (hSu a.1 b)) (ag a.2.1) (ag a.2.2))]))
def ST:Cn 325 [tO,tR]:=cn λ(a:BO3) (b:BR)=>lf (okT 15000 a/\ok Rat 15000 b) [.d apE (hU (dec a) (ag b))] λh=>by
 refine aA Fw (NA a b) ⟨0,?_⟩;obtain⟨ha,hb⟩:=h;obtain⟨a,rfl,ba,ra⟩:=iE ha;obtain⟨b,rfl,bb⟩:=aM hb;unfold NA;simp only[bE,Nat.reduceAdd,Nat.reduceLeDiff];try rfl
def aaF:List En:=enT BE::Fw
def Ox(a b:BO3)(_k:KT):OLR:=og (decide (okT 15000 a/\okT 15000 b)) (some [RV.d .bool ((bQ (dec a) (dec b))==0)])
def aaN:Cn 278 [tO,tO]:=cn λ(a b:BO3)=>lf (okT 15000 a/\okT 15000 b) [.d .bool (bQ (dec a) (dec b)==0)] λh=>by
 refine aA aaF (Ox a b) ⟨0,?_⟩;unfold Ox;rw[dT h]
def jJ:dJ:=spN true true [tR,tR] (λx=>decide (okR x.1/\okR x.2.1)) (λx=>[RV.d apE (aD (ag x.1) (ag x.2.1))])
theorem fq:SpK 46 jJ:=spX λx h=>Ul x.1 x.2.1 (amj h)
def nE:dJ:=spN false true [tR] (λx=>decide (okR x.1)) (λx=>[RV.d tR (hNe x.1)])
theorem jB:SpK 141 nE:=spX λx h=>by simp only[aQ];exact Jf x.1 (amj h)
def LP:List En:=[⟨47,io,eL⟩,⟨260,nN,jn⟩,⟨266,lW,gQ⟩,⟨261,jC,fC⟩,⟨85,fS,dX⟩,⟨46,jJ,fq⟩,⟨141,nE,jB⟩]
def Yd(a b c:BR)(_k:KT):OLR:=og (o1 a) (og (o1 b) (og (o1 c) (match(i64.wrap ((aD (ag b) 0)*(aD (ag c) 0)))==0 with|true=>some [RV.d apE (aD (ag a) 0)]|false=>(match(aD (ag a) 0)==(i64.wrap ((aD (ag b) 0)*(aD (ag c) 0)))with|true=>some [RV.d apE (aD (ag a) 0)]|false=>(match(aD (ag a) 0)==0 with|true=>some [RV.d apE (i64.wrap ((aD (ag b) 0)*(aD (ag c) 0)))]|false=>(og (o2 a a) (og (o2 b b) (og (o2 (hMu b b) c) (og (o2 (hMu a a) (hMu (hMu b b) c)) (some [RV.d apE (i64.wrap ((aD (ag a) 0)*(aD (ag (hMu a a)) (ag (hMu (hMu b b) c)))))]))))))))))
def D1:Cn 265 [tR,tR,tR]:=cn λ(a b c:BR)=>lf (ok Rat 240000 a/\ok Rat 170000 b/\ok Rat 30000 c) [.d apE (gf (ag a) (ag b) (ag c))] λh=>by
 refine aA LP (Yd a b c) ⟨0,?_⟩;obtain⟨ha,hb,hc⟩:=h;obtain⟨a,rfl,ba⟩:=aM ha;obtain⟨b,rfl,bb⟩:=aM hb;obtain⟨c,rfl,bc⟩:=aM hc;unfold Yd;simp only[bE,Nat.reduceAdd,Nat.reduceLeDiff,pQ];exact Bl _ _ _
def Y5(a:BR)(_k:KT):OLR:=og (o1 a) (og (o1 (hNe a)) (some [RV.d tR (hNe (hNe a))]))
def WA:Cn 324 [tR]:=cn λ(a:BR)=>lf (okR a) [.d tR (am (ag a))] λh=>by
 refine aA LP (Y5 a) ⟨0,?_⟩;have ha:=h;obtain⟨a,rfl,ba⟩:=fT ha;unfold Y5;simp only[bE,Nat.reduceLeDiff,Rat.neg_neg]
def aia:List En:=enT D1::enL WA::LP
def WD(a b:BO3)(_k:KT):OLR:=og (o2 a.1 b.1) (og (o1 a.2.1) (og (o1 b.2.1) (og (decide (aR (0:Int))) (og (o1 a.2.2) (og (o1 b.2.2) (some [RV.d tQ (hSu a.1 b.1,(hid (am (ag a.2.1)),(hNe b.2.1,(hid (am ((0:Int):Rat)),(hid (am (ag a.2.2)),hid (am (ag b.2.2)))))))]))))))
def Sw:Cn 268 [tO,tO]:=cn λ(a b:BO3)=>lf (ok Rt 15000 a/\ok Rt 15000 b) [.d tQ (enc (suT (dec a) (dec b)))] λh=>by
 refine aA aia (WD a b) ⟨0,?_⟩;obtain⟨ha,hb⟩:=h;obtain⟨a,rfl,ba⟩:=aM ha;obtain⟨b,rfl,bb⟩:=aM hb;unfold WD;simp only[bE,Nat.reduceLeDiff];try rfl
theorem n5{n:Int}(h:aR n):szI n<=3:=by
 have:pw 3=1000000000000000000000000000:=by decide
 exact eP (by have:=h.1;omega) (by have:=h.2;omega)
theorem R6{q:Rat}{k:Nat}(h:Bd q k)(hk:k<=480000):okI (ah q.floor)/\okI (ah (-q.floor)):=by
 have e:szI q.floor<=k:=by
  refine amt (dm ?_) h.le.1;rw[Rat.floor_def];exact Int.natAbs_ediv_le_natAbs _ _
 exact⟨aS (by omega),aS (by rw[i7];omega)⟩
theorem ali:Bd (65536:Rat) 1:=⟨⟨by decide+kernel,by decide+kernel⟩⟩
theorem ace:((65536:Int):Rat)=65536:=rfl
theorem p48:(2:Int)^(min (48:Int).toNat 64)=281474976710656:=by decide
theorem p32:(2:Int)^(min (32:Int).toNat 64)=4294967296:=by decide
theorem p16:(2:Int)^(min (16:Int).toNat 64)=65536:=by decide
theorem fdv{a b:Int}(h:0<=b):Int.fdiv a b=a/b:=Int.fdiv_eq_ediv_of_nonneg a h
theorem Yo(n k:Nat)(hn:n<18446744073709551616)(hk:2^k-1<18446744073709551616):BitVec.toNat (BitVec.ofInt 64 (n:Int)&&&BitVec.ofInt 64 ((2^k-1:Nat):Int))=n%2^k:=by
 rw[BitVec.toNat_and,BitVec.toNat_ofInt,BitVec.toNat_ofInt];have e1:((n:Int)%((2^64:Nat):Int)).toNat=n:=by omega
 have e2:(((2^k-1:Nat):Int)%((2^64:Nat):Int)).toNat=2^k-1:=by omega
 rw[e1,e2,Nat.and_two_pow_sub_one_eq_mod]
theorem ag8(n:Nat)(hn:n<18446744073709551616):u64.wrap (BitVec.toNat (BitVec.ofInt 64 (n:Int)&&&BitVec.ofInt 64 65535))=((n%65536:Nat):Int):=by
 rw[show(65535:Int)=((2^16-1:Nat):Int) from rfl,Yo n 16 hn (by decide),am5];omega
theorem M6(n:Nat)(hn:n<18446744073709551616):u64.wrap (BitVec.toNat (BitVec.ofInt 64 (n:Int)&&&BitVec.ofInt 64 4294967295))=((n%4294967296:Nat):Int):=by
 rw[show(4294967295:Int)=((2^32-1:Nat):Int) from rfl,Yo n 32 hn (by decide),am5];omega
theorem ak5{h l:Nat}(hh:h<65536)(hl:l<281474976710656):u64.wrap (BitVec.toNat (BitVec.ofInt 64 (u64.wrap ((h:Int)*281474976710656)) ||| BitVec.ofInt 64 (l:Int)))=((h*281474976710656+l:Nat):Int):=by
 rw[BitVec.toNat_or,BitVec.toNat_ofInt,BitVec.toNat_ofInt,am5,am5]
 have e1:((h:Int)*281474976710656%18446744073709551616%((2^64:Nat):Int)).toNat=h <<< 48:=by
  rw[Nat.shiftLeft_eq];omega
 have e2:((l:Int)%((2^64:Nat):Int)).toNat=l:=by omega
 rw[e1,e2,<-Nat.shiftLeft_add_eq_or_of_lt (by omega),Nat.shiftLeft_eq];omega
def scP(x y:Int):Prop:=x.natAbs<=2305843009213693952/\y.natAbs<=2305843009213693952
instance (x y:Int):Decidable (scP x y):=by unfold scP;infer_instance
def DI(n:Int):Prop:=0<=n/\n<=2305843009213693952
instance (n:Int):Decidable (DI n):=by unfold DI;infer_instance
def akc:Ctx:=CX [] []
def aao(x y:Int)(_k:KT):OLR:=match decide (x<(-2305843009213693952))with|true=>some [RV.d tG (0,0),RV.d .bool false]|false=>(match decide (y>2305843009213693952)with|true=>some [RV.d tG (0,0),RV.d .bool false]|false=>some [RV.d tG (x,y),RV.d .bool true])
theorem agj(x y:Int):RS akc 310 [SI x,SI y] (aao x y):=rsX
def OL:Cn 310 [apE,apE]:=cn λ(x y:Int)=>lf True [.d tG ((oF x y).1),.d .bool ((oF x y).2)] λ_=>by
 refine fy (E:=[]) trivial (agj _ _ ⟨0,?_⟩);unfold aao oF;cases decide (x< -2305843009213693952)
 ·cases decide (y>2305843009213693952)<;>rfl
 ·rfl
def GX:dJ:=spN false true [tI] (λx=>decide (okI x.1)) (λx=>[RV.d tI (hid (ah (-ab x.1)))])
theorem DK:SpK 195 GX:=spX λx h=>by simp only[aQ];exact Ja x.1 (amj h)
def Ag:List En:=[⟨47,io,eL⟩,⟨261,jC,fC⟩,⟨141,nE,jB⟩,enL Re,enT P6,⟨195,GX,DK⟩,enL OL]
def Y0(a:BR)(_k:KT):OLR:=let y1:=hid (am ((65536:Int):Rat));let y2:=hid (ah (ag (hMu a y1)).floor);let y3:=hid (ah (ag (hNe (hMu a y1))).floor);let y4:=hid (ah (-ab y3));let y5:=oF (bif decide (aR (ab y2))then ab y2 else 0) (bif decide (aR (ab y4))then ab y4 else 0);og (decide (aR (65536:Int))) (og (o2 a y1) (og (o1 (hMu a y1)) (og (decide (okI y2)) (og (o1 (hMu a y1)) (og (o1 (hNe (hMu a y1))) (og (decide (okI y3)) (og (decide (okI y4)) (match !(decide (aR (ab y2)))with|true=>some [RV.d tG (0,0),RV.d .bool false]|false=>(match !(decide (aR (ab y4)))with|true=>some [RV.d tG (0,0),RV.d .bool false]|false=>some [RV.d tG (hid (y5.1)),RV.d .bool (y5.2)])))))))))
def IP:Cn 252 [tR]:=cn λ(a:BR)=>lf (ok Rat 200000 a) [.d tG ((frF (ag a)).1),.d .bool ((frF (ag a)).2)] λh=>by
 refine aA Ag (Y0 a) ⟨0,?_⟩;have ha:=h;obtain⟨a,rfl,ba⟩:=aM ha;have hk:=ali;have h6:aR 65536:=by decide
 have f1:=R6 (inferInstance:Bd (a*65536) _) (by decide);have f2:=R6 (inferInstance:Bd (-(a*65536)) _) (by decide);unfold Y0;simp only[ace,bE,Nat.reduceAdd,Nat.reduceLeDiff,dec_enc,dT h6,dT f1.1,dT f2.1,dT f2.2];unfold frF;cases e1:decide (aR (a*65536).floor)
 ·rfl
 ·cases e2:decide (aR (-(-(a*65536)).floor))
  ·rfl
  ·rfl
def ZY(a b:(Int×Int))(_k:KT):OLR:=some [RV.d tG (hid ((oF (i64.wrap (a.1+b.1)) (i64.wrap (a.2+b.2))).1)),RV.d .bool ((oF (i64.wrap (a.1+b.1)) (i64.wrap (a.2+b.2))).2)]
def Ru:Cn 286 [tG,tG]:=cn λ(a b:(Int×Int))=>lf (prI a/\prI b) [.d tG ((dH a b).1),.d .bool ((dH a b).2)] λh=>by
 refine aA Ag (ZY a b) ⟨0,?_⟩;obtain⟨⟨a1,a2,a3⟩,⟨b1,b2,b3⟩⟩:=h;unfold ZY dH;rw[aO (by omega) (by omega),aO (by omega) (by omega)];simp only[aQ]
def YZ(a:(Int×Int))(_k:KT):OLR:=some [RV.d tG (i64.wrap (0-a.2),i64.wrap (0-a.1))]
def RA:Cn 287 [tG]:=cn λ(a:(Int×Int))=>lf (prI a) [.d tG (mC a)] λh=>by
 refine aA Ag (YZ a) ⟨0,?_⟩;obtain⟨a1,a2,a3⟩:=h;unfold YZ mC;rw[aO (by omega) (by omega),aO (by omega) (by omega),aoj,aoj]
def YJ(n:Int)(_k:KT):OLR:=match decide (n<0)with|true=>some [RV.d (.int .u64) (u64.wrap (0-(u64.wrap n)))]|false=>some [RV.d (.int .u64) (u64.wrap n)]
def Oc:Cn 355 [apE]:=cn λ(n:Int)=>lf (aR n) [.d (.int .u64) (n.natAbs:Int)] λh=>by
 refine aA Ag (YJ n) ⟨0,?_⟩;obtain⟨h1,h2⟩:=h;unfold YJ;rw[am5,am5];by_cases hn:n<0
 ·rw[amh hn,show(0-n%18446744073709551616)%18446744073709551616=(n.natAbs:Int) by omega]
 ·rw[ami hn,show n%18446744073709551616=(n.natAbs:Int) by omega]
def Zj(x y:Int)(_k:KT):OLR:=match decide (32<(0:Int))with|true=>none|false=>(match decide (32<(0:Int))with|true=>none|false=>(match decide (32<(0:Int))with|true=>none|false=>(match decide (32<(0:Int))with|true=>none|false=>(match decide (32<(0:Int))with|true=>none|false=>some [RV.d (.int .u64) (u64.wrap ((u64.wrap ((u64.wrap ((Int.fdiv x (2^(min (32:Int).toNat 64)))*(Int.fdiv y (2^(min (32:Int).toNat 64)))))+(Int.fdiv (u64.wrap ((u64.wrap ((Int.fdiv x (2^(min (32:Int).toNat 64)))*(u64.wrap (BitVec.toNat (BitVec.ofInt 64 y&&&BitVec.ofInt 64 4294967295)))))+(Int.fdiv (u64.wrap ((u64.wrap (BitVec.toNat (BitVec.ofInt 64 x&&&BitVec.ofInt 64 4294967295)))*(u64.wrap (BitVec.toNat (BitVec.ofInt 64 y&&&BitVec.ofInt 64 4294967295))))) (2^(min (32:Int).toNat 64))))) (2^(min (32:Int).toNat 64)))))+(Int.fdiv (u64.wrap ((u64.wrap (BitVec.toNat (BitVec.ofInt 64 (u64.wrap ((u64.wrap ((Int.fdiv x (2^(min (32:Int).toNat 64)))*(u64.wrap (BitVec.toNat (BitVec.ofInt 64 y&&&BitVec.ofInt 64 4294967295)))))+(Int.fdiv (u64.wrap ((u64.wrap (BitVec.toNat (BitVec.ofInt 64 x&&&BitVec.ofInt 64 4294967295)))*(u64.wrap (BitVec.toNat (BitVec.ofInt 64 y&&&BitVec.ofInt 64 4294967295))))) (2^(min (32:Int).toNat 64)))))&&&BitVec.ofInt 64 4294967295)))+(u64.wrap ((u64.wrap (BitVec.toNat (BitVec.ofInt 64 x&&&BitVec.ofInt 64 4294967295)))*(Int.fdiv y (2^(min (32:Int).toNat 64))))))) (2^(min (32:Int).toNat 64))))),RV.d (.int .u64) (u64.wrap (x*y))]))))
def OQ:Cn 354 [(.int .u64),(.int .u64)]:=cn λ(x y:Int)=>lf (ip x/\ip y) [.d (.int .u64) (x*y/18446744073709551616),.d (.int .u64) (x*y%18446744073709551616)] λh=>by
 refine aA Ag (Zj x y) ⟨0,?_⟩;obtain⟨h1,h2⟩:=h;obtain⟨X,rfl⟩:=anQ h1.1;obtain⟨Y,rfl⟩:=anQ h2.1;have hX:X<18446744073709551616:=by have:=h1.2;omega
 have hY:Y<18446744073709551616:=by have:=h2.2;omega
 have wn:∀n:Nat,n<18446744073709551616->u64.wrap (n:Int)=(n:Int):=λn hn=>by rw[am5];omega
 have eX:(X:Int)/4294967296=((X/4294967296:Nat):Int):=by omega
 have eY:(Y:Int)/4294967296=((Y/4294967296:Nat):Int):=by omega
 unfold Zj;simp only[p32,fdv (show(0:Int)<=4294967296 by decide),M6 X hX,M6 Y hY,eX,eY]
 have hXY:X*Y=X/4294967296*(Y/4294967296)*18446744073709551616+(X/4294967296*(Y%4294967296)+X%4294967296*(Y/4294967296))*4294967296+X%4294967296*(Y%4294967296):=by
  have a:=Nat.div_add_mod X 4294967296;have b:=Nat.div_add_mod Y 4294967296;generalize X/4294967296=x1 at*
  generalize X%4294967296=x0 at*
  generalize Y/4294967296=y1 at*
  generalize Y%4294967296=y0 at*
  subst a b;grind
 have x0:X%4294967296<=4294967295:=by omega
 have y0:Y%4294967296<=4294967295:=by omega
 have x1:X/4294967296<=4294967295:=by omega
 have y1:Y/4294967296<=4294967295:=by omega
 have q00:=aoJ x0 y0;have q10:=aoJ x1 y0;have q01:=aoJ x0 y1;have q11:=aoJ x1 y1;simp only[<-anB];rw[hXY];generalize X%4294967296*(Y%4294967296)=p00 at*
 generalize X/4294967296*(Y%4294967296)=p10 at*
 generalize X%4294967296*(Y/4294967296)=p01 at*
 generalize X/4294967296*(Y/4294967296)=p11 at*
 have t0:u64.wrap (u64.wrap (p10:Int)+u64.wrap (p00:Int)/4294967296)=((p10+p00/4294967296:Nat):Int):=by
  rw[wn p10 (by omega),wn p00 (by omega),show(p10:Int)+(p00:Int)/4294967296=((p10+p00/4294967296:Nat):Int) by omega,wn _ (by omega)]
 rw[t0,M6 _ (by omega)]
 have t1:u64.wrap (((p10+p00/4294967296)%4294967296:Nat)+u64.wrap (p01:Int))=(((p10+p00/4294967296)%4294967296+p01:Nat):Int):=by
  rw[wn p01 (by omega),<-Int.natCast_add,wn _ (by omega)]
 rw[t1,wn p11 (by omega)];rw[ami (show ¬(32:Int)<0 by decide)];dsimp only
 have hi:u64.wrap (u64.wrap ((p11:Int)+((p10+p00/4294967296:Nat):Int)/4294967296)+(((p10+p00/4294967296)%4294967296+p01:Nat):Int)/4294967296)=((p11*18446744073709551616+(p10+p01)*4294967296+p00:Nat):Int)/18446744073709551616:=by
  rw[am5,am5];omega
 rw[hi,am5]
def aiS:List En:=enA Oc::enA OQ::Ag
def ZG(x y:Int)(_k:KT):OLR:=let y1:=hid ((x.natAbs:Int));let y2:=hid ((y.natAbs:Int));let y3:=hid (y1*y2/18446744073709551616);let y4:=hid (y1*y2%18446744073709551616);let y5:=u64.wrap (BitVec.toNat (BitVec.ofInt 64 (u64.wrap (y3*2^(min (48:Int).toNat 64))) ||| BitVec.ofInt 64 (Int.fdiv y4 (2^(min (16:Int).toNat 64)))));let y6:=i64.wrap y5;let y7:=i64.wrap (y6+1);let y8:=i64.wrap (0-y7);let y9:=i64.wrap (0-y6);let y10:=decide (y9<=2305843009213693952);og (decide (aR x)) (og (decide (aR y)) (og (decide (ip y1/\ip y2)) (match decide (16<(0:Int))with|true=>none|false=>(match(Int.fdiv y3 (2^(min (16:Int).toNat 64))) !=0 with|true=>some [RV.d apE 0,RV.d apE 0,RV.d .bool false]|false=>(match decide (48<(0:Int))with|true=>none|false=>(match decide (16<(0:Int))with|true=>none|false=>(match decide (y5>2305843009213693952)with|true=>some [RV.d apE 0,RV.d apE 0,RV.d .bool false]|false=>(match(u64.wrap (BitVec.toNat (BitVec.ofInt 64 y4&&&BitVec.ofInt 64 65535))) !=0 with|true=>(match !((decide (x<0))==(decide (y<0)))with|true=>(match decide (y8>=(-2305843009213693952))with|true=>some [RV.d apE y8,RV.d apE y9,RV.d .bool y10]|false=>some [RV.d apE y8,RV.d apE y9,RV.d .bool false])|false=>(match decide (y6>=(-2305843009213693952))with|true=>some [RV.d apE y6,RV.d apE y7,RV.d .bool (decide (y7<=2305843009213693952))]|false=>some [RV.d apE y6,RV.d apE y7,RV.d .bool false]))|false=>(match !((decide (x<0))==(decide (y<0)))with|true=>(match decide (y9>=(-2305843009213693952))with|true=>some [RV.d apE y9,RV.d apE y9,RV.d .bool y10]|false=>some [RV.d apE y9,RV.d apE y9,RV.d .bool false])|false=>(match decide (y6>=(-2305843009213693952))with|true=>some [RV.d apE y6,RV.d apE y6,RV.d .bool (decide (y6<=2305843009213693952))]|false=>some [RV.d apE y6,RV.d apE y6,RV.d .bool false]))))))))))
def W4:Cn 326 [apE,apE]:=cn λ(x y:Int)=>lf (scP x y) [.d apE ((scF x y).1.1),.d apE ((scF x y).1.2),.d .bool ((scF x y).2)] λh=>by
 refine aA aiS (ZG x y) ⟨0,?_⟩;obtain⟨hx,hy⟩:=h;have h1:aR x:=⟨by omega,by omega⟩
 have h2:aR y:=⟨by omega,by omega⟩
 have h3:ip (x.natAbs:Int)/\ip (y.natAbs:Int):=⟨⟨by omega,by omega⟩,⟨by omega,by omega⟩⟩
 unfold ZG scF;simp only[aQ];rw[dT h1,dT h2,dT h3];have hp:=aoJ hx hy;simp only[<-anB,p16,p48,fdv (show(0:Int)<=65536 by decide)];generalize x.natAbs*y.natAbs=p at*
 rw[ami (show ¬(16:Int)<0 by decide),ami (show ¬(48:Int)<0 by decide),show(p:Int)/18446744073709551616=((p/18446744073709551616:Nat):Int) by omega,show(p:Int)%18446744073709551616=((p%18446744073709551616:Nat):Int) by omega,show((p%18446744073709551616:Nat):Int)/65536=((p%18446744073709551616/65536:Nat):Int) by omega,ag8 _ (by omega),show p%18446744073709551616%65536=p%65536 by omega];by_cases hc:p>=1208925819614629174706176
 ·rw[amh hc,show(((p/18446744073709551616:Nat):Int)/65536 !=0)=true by simp;omega];rfl
 ·rw[ami hc,show(((p/18446744073709551616:Nat):Int)/65536 !=0)=false by simp;omega,ak5 (by omega) (by omega),show p/18446744073709551616*281474976710656+p%18446744073709551616/65536=p/65536 by omega];have hdm:=Nat.div_add_mod p 65536;have hml:=ao4 p (show 65536>0 by decide);have hru:(p+65535)/65536=if p%65536=0 then p/65536 else p/65536+1:=by split<;>omega
  rw[hru];clear hru;generalize p/65536=q at*
  generalize p%65536=m at*
  have e1:decide ((q:Int)>2305843009213693952)=decide (q>2305843009213693952):=aoI.2 (by omega);rw[e1];by_cases hd:q>2305843009213693952
  ·rw[amh hd];rfl
  rw[ami hd,aO (x:=(q:Int)) (by omega) (by omega),aO (x:=(q:Int)+1) (by omega) (by omega),aO (x:=0-(q:Int)) (by omega) (by omega),aO (x:=0-((q:Int)+1)) (by omega) (by omega)];have e2:((m:Int) !=0)=!decide (m=0):=by by_cases h:m=0<;>simp[h]
  have e3:decide (0-(q:Int)>= -2305843009213693952)=true:=amh (by omega);have e4:decide (0-(q:Int)<=2305843009213693952)=true:=amh (by omega);have e5:decide ((q:Int)>= -2305843009213693952)=true:=amh (by omega);have e6:decide ((q:Int)<=2305843009213693952)=true:=amh (by omega);have e7:decide (0-((q:Int)+1)>= -2305843009213693952)=decide (q+1<=2305843009213693952):=aoI.2 (by omega);have e8:decide ((q:Int)+1<=2305843009213693952)=decide (q+1<=2305843009213693952):=aoI.2 (by omega);have e9:decide (q<=2305843009213693952)=true:=amh (by omega);rw[e2,e3,e4,e5,e6,e7,e8];have f2:((q+1:Nat):Int)=(q:Int)+1:=by omega
  have f3:decide (m=0)=true->m=0:=amj;have f4:decide (m=0)=false->m≠0:=am7;generalize decide (m=0)=d2 at*
  generalize (decide (x<0)==decide (y<0))=d3 at*
  cases d2
  ·rw[amJ (f4 rfl),f2];generalize decide (q+1<=2305843009213693952)=d4 at*
   cases d3<;>cases d4<;>simp
  ·rw[am2 (f3 rfl),e9];cases d3<;>simp
def aZ(r:Rt):Iv×Bool:=
 bif !(frF r.1).2||decide (r.2.1=0)then frF r.1
 else bif !(frF r.2.1).2||!(frF r.2.2).2||decide (r.2.2<0)then(iv0,false)
 else bif !(sqF (frF r.2.2).1).2 then(iv0,false)
 else bif !(cE (frF r.2.1).1 (sqF (frF r.2.2).1).1).2 then(iv0,false)
 else dH (frF r.1).1 (cE (frF r.2.1).1 (sqF (frF r.2.2).1).1).1
def jF(n:Rat)(a:Iv)(k:Bool):Iv×Bool:=bif !k||!(frF n).2 then(iv0,false)else cE (frF n).1 a
def apF(a b:Rt):Int×Bool:=
 bif !(aZ a).2||!(aZ b).2 then(0,false)else bif decide ((aZ a).1.2<(aZ b).1.1)then(-1,true)else bif decide ((aZ a).1.1>(aZ b).1.2)then(1,true)else(0,false)
abbrev Pt:=Rat×Rat×Rat×Rat×Rat
abbrev Ln:=Rat×Rat×Rat
def pxR(p:Pt):Rt:=(p.1,p.2.1,p.2.2.2.2)
def pyR(p:Pt):Rt:=(p.2.2.1,p.2.2.2.1,p.2.2.2.2)
def xw(l:Ln)(p:Pt):Int×Bool:=
 bif !(jF l.1 (aZ (pxR p)).1 (aZ (pxR p)).2).2||!(jF l.2.1 (aZ (pyR p)).1 (aZ (pyR p)).2).2||!(frF l.2.2).2 then(0,false)
 else bif !(dH (jF l.1 (aZ (pxR p)).1 (aZ (pxR p)).2).1 (jF l.2.1 (aZ (pyR p)).1 (aZ (pyR p)).2).1).2 then(0,false)
 else bif !(dH (dH (jF l.1 (aZ (pxR p)).1 (aZ (pxR p)).2).1 (jF l.2.1 (aZ (pyR p)).1 (aZ (pyR p)).2).1).1 (mC (frF l.2.2).1)).2 then(0,false)
 else sgF (dH (dH (jF l.1 (aZ (pxR p)).1 (aZ (pxR p)).2).1 (jF l.2.1 (aZ (pyR p)).1 (aZ (pyR p)).2).1).1 (mC (frF l.2.2).1)).1
def eO(r:Rt)(q:Rat):Iv×Bool:=bif !(aZ r).2||!(frF q).2 then(iv0,false)else dH (aZ r).1 (mC (frF q).1)
def vt(c:Ln)(p:Pt):Int×Bool:=
 bif !(eO (pxR p) c.1).2||!(eO (pyR p) c.2.1).2||!(frF c.2.2).2 then(0,false)
 else bif !(cE (eO (pxR p) c.1).1 (eO (pxR p) c.1).1).2||!(cE (eO (pyR p) c.2.1).1 (eO (pyR p) c.2.1).1).2 then(0,false)
 else bif !(dH (cE (eO (pxR p) c.1).1 (eO (pxR p) c.1).1).1 (cE (eO (pyR p) c.2.1).1 (eO (pyR p) c.2.1).1).1).2 then(0,false)
 else bif !(dH (dH (cE (eO (pxR p) c.1).1 (eO (pxR p) c.1).1).1 (cE (eO (pyR p) c.2.1).1 (eO (pyR p) c.2.1).1).1).1 (mC (frF c.2.2).1)).2 then(0,false)
 else sgF (dH (dH (cE (eO (pxR p) c.1).1 (eO (pxR p) c.1).1).1 (cE (eO (pyR p) c.2.1).1 (eO (pyR p) c.2.1).1).1).1 (mC (frF c.2.2).1)).1
def sfF(m:Rat):Iv:=(sqF (frF m).1).1
def mfF(b:Rat)(i:Iv):Iv:=(cE (frF b).1 i).1
def qu1(q:Qd):Bool:=(frF q.2.2.2.2.1).2&&(sqF (frF q.2.2.2.2.1).1).2&&(frF q.2.2.2.2.2).2&&(sqF (frF q.2.2.2.2.2).1).2
def qu2(q:Qd):Bool:=(frF q.2.1).2&&(cE (frF q.2.1).1 (sfF q.2.2.2.2.1)).2&&(frF q.2.2.1).2&&(cE (frF q.2.2.1).1 (sfF q.2.2.2.2.2)).2&&(frF q.2.2.2.1).2&&(cE (sfF q.2.2.2.2.1) (sfF q.2.2.2.2.2)).2&&(cE (frF q.2.2.2.1).1 (cE (sfF q.2.2.2.2.1) (sfF q.2.2.2.2.2)).1).2
def quA(q:Qd):Iv×Bool:=dH (frF q.1).1 (mfF q.2.1 (sfF q.2.2.2.2.1))
def quB(q:Qd):Iv×Bool:=dH (mfF q.2.2.1 (sfF q.2.2.2.2.2)) (mfF q.2.2.2.1 (cE (sfF q.2.2.2.2.1) (sfF q.2.2.2.2.2)).1)
def qu3(q:Qd):Bool:=(frF q.1).2&&(quA q).2&&(quB q).2&&(dH (quA q).1 (quB q).1).2
def quF(q:Qd):Int×Bool:=bif !(qu1 q)then(0,false)else bif !(qu2 q)then(0,false)else bif !(qu3 q)then(0,false)else sgF (dH (quA q).1 (quB q).1).1
theorem wI(r:Rt):prI (aZ r).1:=by
 unfold aZ;cases !(frF r.1).2||decide (r.2.1=0)
 ·cases !(frF r.2.1).2||!(frF r.2.2).2||decide (r.2.2<0)
  ·cases !(sqF (frF r.2.2).1).2
   ·cases !(cE (frF r.2.1).1 (sqF (frF r.2.2).1).1).2
    ·exact RE.addF_pr (RE.frF_pr _) (sI _ _)
    ·exact fu
   ·exact fu
  ·exact fu
 ·exact RE.frF_pr _
theorem U8(n:Rat)(a:Iv)(k:Bool):prI (jF n a k).1:=by
 unfold jF;cases !k||!(frF n).2
 ·exact sI _ _
 ·exact fu
theorem VN(r:Rt)(q:Rat):prI (eO r q).1:=by
 unfold eO;cases !(aZ r).2||!(frF q).2
 ·exact RE.addF_pr (wI _) (RE.negF_pr (RE.frF_pr _))
 ·exact fu
namespace RE
theorem pA{r:Rt}(h:(aZ r).2=true):inI (aZ r).1 (v2 r.1 r.2.1 r.2.2):=by
 unfold aZ at h ⊢;cases e1:(frF r.1).2
 ·rw[e1]at h;simp only[Bool.not_false,Bool.true_or,cond_true]at h;rw[e1]at h;cases h
 ·rw[e1]at h;by_cases hb:r.2.1=0
  ·rw[amh hb]at h ⊢;simp only[Bool.not_true,Bool.false_or,cond_true];unfold v2;rw[hb,sX,zero_mul,add_zero];exact gL e1
  ·rw[ami hb]at h ⊢;cases e2:(frF r.2.1).2<;>cases e3:(frF r.2.2).2<;>cases e4:decide (r.2.2<0)<;>rw[e2,e3,e4]at h<;>try (cases h;done)
   cases e5:(sqF (frF r.2.2).1).2<;>rw[e5]at h<;>try (cases h;done)
   cases e6:(cE (frF r.2.1).1 (sqF (frF r.2.2).1).1).2<;>rw[e6]at h<;>try (cases h;done)
   have hn:(0:RE)<=of r.2.2:=oz.2 (by have:=am7 e4;grind);exact jY (gL e1) (lB (gL e2) (xh (gL e3) hn e5) e6) h
theorem Ju{n:Rat}{a:Iv}{k:Bool}{x:RE}(ha:k=true->inI a x)(h:(jF n a k).2=true):inI (jF n a k).1 (of n*x):=by
 unfold jF at h ⊢;cases k
 ·cases h
 ·cases e:(frF n).2<;>rw[e]at h
  ·cases h
  ·exact lB (gL e) (ha rfl) h
theorem IQ{r:Rt}{q:Rat}(h:(eO r q).2=true):inI (eO r q).1 (v2 r.1 r.2.1 r.2.2+ -of q):=by
 unfold eO at h ⊢;cases e1:(aZ r).2<;>cases e2:(frF q).2<;>rw[e1,e2]at h<;>try (cases h;done)
 exact jY (pA e1) (B3 (gL e2)) h
theorem Vl(x y:RE)(h1:x<y):x-y<0:=by grind
theorem agA(u x y a b:RE):((b-(a)))+((a-(u*x)))+((u*y-(b)))+((u-(0))*(x-(y)))=0:=by grind
theorem ap1(u x y a b:RE)(h1:0<u)(h2:u*x<=a)(h3:a<b)(h4:b<=u*y):x<y:=xC.1 λhg=>far (aW (aW (aW (bz h3) (aJ h2)) (aJ h4)) (ct (le_of_lt (bz h1)) (aJ hg))) (agA u x y a b)
theorem apF_ok{a b:Rt}(h:(apF a b).2=true):(apF a b).1=sg (vR a-vR b):=by
 unfold apF at h ⊢;cases e1:(aZ a).2<;>cases e2:(aZ b).2<;>rw[e1,e2]at h<;>try (cases h;done)
 obtain⟨a1,a2⟩:=pA e1;obtain⟨b1,b2⟩:=pA e2;cases e3:decide ((aZ a).1.2<(aZ b).1.1)<;>rw[e3]at h
 ·cases e4:decide ((aZ a).1.1>(aZ b).1.2)<;>rw[e4]at h
  ·cases h
  ·have h4:of ((aZ b).1.2:Rat)<of ((aZ a).1.1:Rat):=kS (aoL.2 (amj e4));exact(jc (bz (ap1 _ _ _ _ _ ow b2 h4 a1))).symm
 ·have h4:of ((aZ a).1.2:Rat)<of ((aZ b).1.1:Rat):=kS (aoL.2 (amj e3));exact(oA (Vl _ _ (ap1 _ _ _ _ _ ow a2 h4 b1))).symm
theorem Vn{l:Ln}{p:Pt}(h:(xw l p).2=true):(xw l p).1=sg (of l.1*v2 p.1 p.2.1 p.2.2.2.2+of l.2.1*v2 p.2.2.1 p.2.2.2.1 p.2.2.2.2+ -of l.2.2):=by
 unfold xw at h ⊢;cases e1:(jF l.1 (aZ (pxR p)).1 (aZ (pxR p)).2).2<;>cases e2:(jF l.2.1 (aZ (pyR p)).1 (aZ (pyR p)).2).2<;>cases e3:(frF l.2.2).2<;>rw[e1,e2,e3]at h<;>try (cases h;done)
 have i1:=Ju (x:=v2 p.1 p.2.1 p.2.2.2.2) (λe=>pA (r:=pxR p) e) e1;have i2:=Ju (x:=v2 p.2.2.1 p.2.2.2.1 p.2.2.2.2) (λe=>pA (r:=pyR p) e) e2;revert h i1 i2;generalize jF l.1 (aZ (pxR p)).1 (aZ (pxR p)).2=X;generalize jF l.2.1 (aZ (pyR p)).1 (aZ (pyR p)).2=Y;intro h i1 i2;cases e4:(dH X.1 Y.1).2<;>rw[e4]at h<;>try (cases h;done)
 cases e5:(dH (dH X.1 Y.1).1 (mC (frF l.2.2).1)).2<;>rw[e5]at h<;>try (cases h;done)
 exact Hq (jY (jY i1 i2 e4) (B3 (gL e3)) e5) h
theorem Wl{c:Ln}{p:Pt}(h:(vt c p).2=true):(vt c p).1=sg ((v2 p.1 p.2.1 p.2.2.2.2+ -of c.1)*(v2 p.1 p.2.1 p.2.2.2.2+ -of c.1)+(v2 p.2.2.1 p.2.2.2.1 p.2.2.2.2+ -of c.2.1)*(v2 p.2.2.1 p.2.2.2.1 p.2.2.2.2+ -of c.2.1)+ -of c.2.2):=by
 unfold vt at h ⊢;cases e1:(eO (pxR p) c.1).2<;>cases e2:(eO (pyR p) c.2.1).2<;>cases e3:(frF c.2.2).2<;>rw[e1,e2,e3]at h<;>try (cases h;done)
 have i1:=IQ e1;have i2:=IQ e2;revert h;generalize eO (pxR p) c.1=X at*
 generalize eO (pyR p) c.2.1=Y at*
 intro h;cases e4:(cE X.1 X.1).2<;>cases e5:(cE Y.1 Y.1).2<;>rw[e4,e5]at h<;>try (cases h;done)
 cases e6:(dH (cE X.1 X.1).1 (cE Y.1 Y.1).1).2<;>rw[e6]at h<;>try (cases h;done)
 cases e7:(dH (dH (cE X.1 X.1).1 (cE Y.1 Y.1).1).1 (mC (frF c.2.2).1)).2<;>rw[e7]at h<;>try (cases h;done)
 exact Hq (jY (jY (lB i1 i1 e4) (lB i2 i2 e5) e6) (B3 (gL e3)) e7) h
theorem ae6(a b c d:RE):a+b+(c+d)=a+b+c+d:=by grind
theorem quF_ok{q:Qd}(hM:0<=q.2.2.2.2.1)(hN:0<=q.2.2.2.2.2)(h:(quF q).2=true):(quF q).1=sg (vQ q.1 q.2.1 q.2.2.1 q.2.2.2.1 q.2.2.2.2.1 q.2.2.2.2.2):=by
 unfold quF at h ⊢;cases e1:qu1 q<;>rw[e1]at h<;>try (cases h;done)
 cases e2:qu2 q<;>rw[e2]at h<;>try (cases h;done)
 cases e3:qu3 q<;>rw[e3]at h<;>try (cases h;done)
 unfold qu1 at e1;unfold qu2 at e2;unfold qu3 at e3;simp only[aml]at e1 e2 e3;obtain⟨⟨⟨a1,a2⟩,a3⟩,a4⟩:=e1;obtain⟨⟨⟨⟨⟨⟨b1,b2⟩,b3⟩,b4⟩,b5⟩,b6⟩,b7⟩:=e2;obtain⟨⟨⟨c1,c2⟩,c3⟩,c4⟩:=e3;have i1:inI (sfF q.2.2.2.2.1) (rq q.2.2.2.2.1):=xh (gL a1) (oz.2 hM) a2;have i2:inI (sfF q.2.2.2.2.2) (rq q.2.2.2.2.2):=xh (gL a3) (oz.2 hN) a4
 have hq:inI (dH (quA q).1 (quB q).1).1 (vQ q.1 q.2.1 q.2.2.1 q.2.2.2.1 q.2.2.2.2.1 q.2.2.2.2.2):=by
  have:=jY (jY (gL c1) (lB (gL b1) i1 b2) c2) (jY (lB (gL b3) i2 b4) (lB (gL b5) (lB i1 i2 b6) b7) c3) c4;rw[ae6]at this;exact this
 exact Hq hq h
end RE
theorem Om{z:Int}(h:aR z):okI (ah z):=aS (by have:=n5 h;omega)
theorem IZ{n:Int}(h:DI n):0<=eg n/\eg n<=2305843009213693952:=by
 obtain⟨h0,h1⟩:=h;unfold eg;obtain⟨g0,g1,g2⟩:=fJ (z:=n*65536) (by omega);refine⟨g0,?_⟩;rcases amM 2305843009213693952 (bK (n*65536))with h|h
 ·have:2305843009213693952*2305843009213693952<=bK (n*65536)*bK (n*65536):=aox (by omega) (by omega) (by omega) (by omega);omega
 ·exact h
theorem Ob{a b:Iv}(ha:prI a)(hb:prI b){x y:Int}(hx:x=a.1\/x=a.2)(hy:y=b.1\/y=b.2):scP x y:=by
 obtain⟨a1,a2,a3⟩:=ha;obtain⟨b1,b2,b3⟩:=hb;constructor
 ·rcases hx with rfl|rfl<;>omega
 ·rcases hy with rfl|rfl<;>omega
theorem akW{α:Type}(b:Bool)(x y:α):(match b with|true=>x|false=>y)=bif b then x else y:=by cases b<;>rfl
def P8:dJ:=spN false true [apE] (λx=>decide (aR x.1)) (λx=>[RV.d tI (hid (ah x.1))])
theorem M1:SpK 83 P8:=spX λx h=>by simp only[aQ];exact HG x.1 (amj h)
def IM:List En:=[⟨47,io,eL⟩,⟨261,jC,fC⟩,⟨141,nE,jB⟩,enL Re,enT P6,⟨195,GX,DK⟩,⟨85,fS,dX⟩,⟨86,F6,EX⟩,enL WT,⟨82,Bn,xi⟩,⟨83,P8,M1⟩,enL OL,enL IP,enL Ru,enL RA,enA Oc,enA OQ,enL W4]
def adj:NT:=[((285,8),{keep:=[3,4,6,7,19,20,21],hl:=4}),((285,22),{keep:=[3,4,6,7,9,19,20,21,29,30,31],hl:=5})]
def oQ:Ctx:=CX (ens IM) adj
def re(a b:(Int×Int))(s21 s6 s7:Int):Cfg:=⟨285,[.blk 0,.seq 46],[(3,.box 1 0),(4,.box 2 0),(6,SI s6),(7,SI s7),(19,.own 3),(20,SI (([a.1,a.2]).length:Int)),(21,SI s21)],[.box 254 [SI a.1,SI a.2],.box 254 [SI b.1,SI b.2],.box 254 [SI 0,SI 0],.row 2 apE ([a.1,a.2])],0,[]⟩
def qp(a b:(Int×Int))(s21 x1 s6 s7 s31:Int):Cfg:=⟨285,[.blk 2,.blk 1,.seq 45,.lp 8,.blk 0,.seq 46],[(3,.box 1 0),(4,.box 2 0),(6,SI s6),(7,SI s7),(9,SI x1),(19,.own 3),(20,SI (([a.1,a.2]).length:Int)),(21,SI s21),(29,.own 4),(30,SI (([b.1,b.2]).length:Int)),(31,SI s31)],[.box 254 [SI a.1,SI a.2],.box 254 [SI b.1,SI b.2],.box 254 [SI 0,SI 0],.row 2 apE ([a.1,a.2]),.row 2 apE ([b.1,b.2])],0,[]⟩
def akR(a b:(Int×Int))(k:KT):OLR:=k 8 (re a b 0 2305843009213693952 (-2305843009213693952))
theorem aeY(a b:(Int×Int)):RS oQ 285 [.d tG a,.d tG b] (akR a b):=rsX
def wL(a b:(Int×Int))(s21 s6 s7:Int)(k:KT):OLR:=match decide (s21<(([a.1,a.2]).length:Int))with|true=>(match aH ([a.1,a.2]) s21 with|some _=>(match true,([a.1,a.2])[(s21).toNat]? with|true,some x1=>k 22 (qp a b s21 x1 s6 s7 0)|_,_=>none)|none=>none)|false=>some [RV.d tG (s6,s7),RV.d .bool true]
theorem EE(a b:(Int×Int))(s21 s6 s7:Int):RN oQ 8 (re a b s21 s6 s7) (wL a b s21 s6 s7):=rnX
def pO(a b:(Int×Int))(s21 x1 s6 s7 s31:Int)(k:KT):OLR:=match decide (s31<(([b.1,b.2]).length:Int))with|true=>(match aH ([b.1,b.2]) s31 with|some _=>(match true,([b.1,b.2])[(s31).toNat]? with|true,some x2=>(og (decide (scP x1 x2)) (match !((scF x1 x2).2)with|true=>some [RV.d tG (0,0),RV.d .bool false]|false=>k 22 (qp a b s21 x1 (if(scF x1 x2).1.1<s6 then(scF x1 x2).1.1 else s6) (if(scF x1 x2).1.2>s7 then(scF x1 x2).1.2 else s7) (i64.wrap (s31+1)))))|_,_=>none)|none=>none)|false=>k 8 (re a b (i64.wrap (s21+1)) s6 s7)
theorem uH(a b:(Int×Int))(s21 x1 s6 s7 s31:Int):RN oQ 22 (qp a b s21 x1 s6 s7 s31) (pO a b s21 x1 s6 s7 s31):=rnX
theorem LV(a b:Iv)(ha:prI a)(hb:prI b)(s21 x:Int)(hx:x=a.1\/x=a.2)(s:Iv)(r:List RV)(h:∀s2:Iv×Bool,s2=gU (gU (s,true) x b.1) x b.2->bif s2.2 then oQ.Runs 8 (re a b (i64.wrap (s21+1)) s2.1.1 s2.1.2) r else r=[RV.d tG (0,0),RV.d .bool false]):
  oQ.Runs 22 (qp a b s21 x s.1 s.2 0) r:=by
 have h:=h _ rfl;refine uH _ _ _ _ _ _ _ ?_;unfold pO;have g1:decide ((0:Int)<(([b.1,b.2]).length:Int))=true:=by simp
 have g2:decide ((1:Int)<(([b.1,b.2]).length:Int))=true:=by simp
 have g3:decide ((2:Int)<(([b.1,b.2]).length:Int))=false:=by simp
 rw[g1];simp only[show aH [b.1,b.2] 0=some b.1 from rfl,show [b.1,b.2][(0:Int).toNat]?=some b.1 from rfl,dT (Ob ha hb hx (.inl rfl))];cases e1:(scF x b.1).2
 ·rw[show gU (gU (s,true) x b.1) x b.2=(iv0,false) by unfold gU;rw[e1];rfl]at h;exact⟨0,by rw[h];rfl⟩
 ·try dsimp only[Bool.not_true]
  have e0:gU (s,true) x b.1=((if(scF x b.1).1.1<s.1 then(scF x b.1).1.1 else s.1,if(scF x b.1).1.2>s.2 then(scF x b.1).1.2 else s.2),true):=by unfold gU;rw[e1];rfl
  rw[e0]at h
  suffices hh:oQ.Runs 22 (qp a b s21 x (if(scF x b.1).1.1<s.1 then(scF x b.1).1.1 else s.1) (if(scF x b.1).1.2>s.2 then(scF x b.1).1.2 else s.2) (i64.wrap (0+1))) r by
   obtain⟨n,hn⟩:=hh;exact⟨n,hn⟩
  rw[show i64.wrap (0+1)=1 by decide];refine uH _ _ _ _ _ _ _ ?_;unfold pO;rw[g2];simp only[show aH [b.1,b.2] 1=some b.2 from rfl,show [b.1,b.2][(1:Int).toNat]?=some b.2 from rfl,dT (Ob ha hb hx (.inr rfl))];cases e2:(scF x b.2).2
  ·unfold gU at h;rw[e2]at h;exact⟨0,by rw[show r=[RV.d tG (0,0),RV.d .bool false] from h];rfl⟩
  ·try dsimp only[Bool.not_true]
   unfold gU at h;rw[e2]at h;simp only[anD,cond_true]at h
   suffices hh:oQ.Runs 22 (qp a b s21 x _ _ (i64.wrap (1+1))) r by
    obtain⟨n,hn⟩:=hh;exact⟨n,hn⟩
   rw[show i64.wrap (1+1)=2 by decide];refine uH _ _ _ _ _ _ _ ?_;unfold pO;rw[g3];obtain⟨n,hn⟩:=h;exact⟨n,hn⟩
theorem Ia(a b:Iv)(ha:prI a)(hb:prI b)(x i:Int)(hi:(i=0/\x=a.1)\/(i=1/\x=a.2))(s:Iv)(r:List RV)(h:∀s2:Iv×Bool,s2=gU (gU (s,true) x b.1) x b.2->bif s2.2 then oQ.Runs 8 (re a b (i+1) s2.1.1 s2.1.2) r else r=[RV.d tG (0,0),RV.d .bool false]):
  oQ.Runs 8 (re a b i s.1 s.2) r:=by
 refine EE _ _ _ _ _ ?_;unfold wL;rcases hi with⟨rfl,rfl⟩|⟨rfl,rfl⟩
 ·obtain⟨n,hn⟩:=LV a b ha hb 0 a.1 (.inl rfl) s r (by rw[show i64.wrap (0+1)=0+1 by decide];exact h);exact⟨n,hn⟩
 ·obtain⟨n,hn⟩:=LV a b ha hb 1 a.2 (.inr rfl) s r (by rw[show i64.wrap (1+1)=1+1 by decide];exact h);exact⟨n,hn⟩
theorem RR{s:Iv×Bool}{x y:Int}(h:s.2=false):gU s x y=(iv0,false):=by unfold gU;rw[h];rfl
theorem ajR{s:Iv×Bool}(h:s.2=true):s=(s.1,true):=by rw[<-h]
def MF:Cn 285 [tG,tG]:=cn λ(a b:(Int×Int))=>lf (prI a/\prI b) [.d tG ((cE a b).1),.d .bool ((cE a b).2)] λh=>by
 obtain⟨ha,hb⟩:=h;refine a8 IM (show oQ.Res _ _ _ from ?_);refine aeY _ _ ?_
 suffices hh:oQ.Runs 8 (re a b 0 2305843009213693952 (-2305843009213693952)) [.d tG (cE a b).1,.d .bool (cE a b).2] by
  obtain⟨n,hn⟩:=hh;exact⟨n,hn⟩
 refine Ia a b ha hb a.1 0 (.inl ⟨rfl,rfl⟩) (2305843009213693952,-2305843009213693952) _ λs1 e1=>?_;have hm:cE a b=gU (gU s1 a.2 b.1) a.2 b.2:=by rw[e1];rfl
 cases c1:s1.2
 ·rw[hm,RR (RR c1▸rfl)];rfl
 ·rw[cond_true];refine Ia a b ha hb a.2 1 (.inr ⟨rfl,rfl⟩) s1.1 _ λs2 e2=>?_;rw[<-ajR c1,<-hm]at e2;cases c2:s2.2
  ·rw[<-e2]
   rw[show s2=(iv0,false) by
    rw[e2,hm];rw[e2,hm]at c2;unfold gU at c2 ⊢;revert c2;cases(_:Bool)&&(scF a.2 b.2).2
    ·intro _;rfl
    ·intro h;cases h]
   rfl
  ·rw[cond_true,<-e2];refine EE _ _ _ _ _ ⟨0,?_⟩;unfold wL;rw[show decide ((1+1:Int)<(([a.1,a.2]).length:Int))=false from by simp,c2]
def YP(n:Int)(_k:KT):OLR:=og (decide (aR n)) (og (decide (aR (65536:Int))) (og (decide (okI (hid (ah n))/\okI (hid (ah (65536:Int))))) (og (decide (okI (hid (ah (ab (hid (ah n))*ab (hid (ah (65536:Int)))))))) (og (decide (okI (hid (fE (hid (ah (ab (hid (ah n))*ab (hid (ah (65536:Int)))))))))) (og (decide (okI (hid (fE (hid (ah (ab (hid (ah n))*ab (hid (ah (65536:Int))))))))/\okI (hid (fE (hid (ah (ab (hid (ah n))*ab (hid (ah (65536:Int)))))))))) (og (decide (okI (hid (ah (ab (hid (fE (hid (ah (ab (hid (ah n))*ab (hid (ah (65536:Int))))))))*ab (hid (fE (hid (ah (ab (hid (ah n))*ab (hid (ah (65536:Int)))))))))))/\okI (hid (ah (ab (hid (ah n))*ab (hid (ah (65536:Int)))))))) (some [RV.d apE (bif decide (aR (ab (hid (fE (hid (ah (ab (hid (ah n))*ab (hid (ah (65536:Int))))))))))then ab (hid (fE (hid (ah (ab (hid (ah n))*ab (hid (ah (65536:Int))))))))else 0),RV.d .bool ((bV (ab (hid (ah (ab (hid (fE (hid (ah (ab (hid (ah n))*ab (hid (ah (65536:Int))))))))*ab (hid (fE (hid (ah (ab (hid (ah n))*ab (hid (ah (65536:Int)))))))))))) (ab (hid (ah (ab (hid (ah n))*ab (hid (ah (65536:Int))))))))==0)])))))))
def agx:Cn 311 [apE]:=cn λ(n:Int)=>lf (DI n) [.d apE (eg n),.d .bool (decide (eg n*eg n=n*65536))] λh=>by
 refine aA IM (YP n) ⟨0,?_⟩;have hr:=IZ h;obtain⟨h0,h1⟩:=h;have i1:aR n:=⟨by omega,by omega⟩
 have i2:aR 65536:=by decide
 have o1:okI (ah (n*65536)):=aS (by have:=cN (n5 i1) (n5 i2);omega);have o2:okI (ah (eg n)):=Om ⟨by omega,by omega⟩;have o3:okI (ah (eg n*eg n)):=aS (by have:=cN (n5 (n:=eg n) ⟨by omega,by omega⟩) (n5 (n:=eg n) ⟨by omega,by omega⟩);omega);have o4:okI (ah n)/\okI (ah 65536):=⟨Om i1,Om i2⟩
 have o5:okI (ah (eg n))/\okI (ah (eg n)):=⟨o2,o2⟩
 have o6:okI (ah (eg n*eg n))/\okI (ah (n*65536)):=⟨o3,o1⟩
 have o7:aR (eg n):=⟨by omega,by omega⟩
 unfold YP;simp only[aQ,dec_enc,dT i1,dT i2,dT o4,dT o1,CC o1];have e:bK (n*65536)=eg n:=rfl;simp only[e,dT o2,dT o5,dT o6,dT o7,cond_true,m8]
def Wr:List En:=enL MF::enL agx::IM
def Ya(a:(Int×Int))(_k:KT):OLR:=match decide (a.2<0)with|true=>some [RV.d tG (0,0),RV.d .bool false]|false=>(og (decide (DI (if 0>a.1 then 0 else a.1))) (og (decide (DI a.2)) (match !(decide (eg a.2*eg a.2=a.2*65536))with|true=>some [RV.d tG (hid ((oF (eg (if 0>a.1 then 0 else a.1)) (i64.wrap ((eg a.2)+1))).1)),RV.d .bool ((oF (eg (if 0>a.1 then 0 else a.1)) (i64.wrap ((eg a.2)+1))).2)]|false=>some [RV.d tG (hid ((oF (eg (if 0>a.1 then 0 else a.1)) (eg a.2)).1)),RV.d .bool ((oF (eg (if 0>a.1 then 0 else a.1)) (eg a.2)).2)])))
def QY:Cn 253 [tG]:=cn λ(a:(Int×Int))=>lf (prI a) [.d tG ((sqF a).1),.d .bool ((sqF a).2)] λh=>by
 refine aA Wr (Ya a) ⟨0,?_⟩;obtain⟨a1,a2,a3⟩:=h;unfold Ya sqF;cases hn:decide (a.2<0)
 ·have hn:=am7 hn;have r2:DI a.2:=⟨by omega,by omega⟩
  have r1:DI (if 0>a.1 then 0 else a.1):=⟨by split<;>omega,by split<;>omega⟩
  have b2:=IZ r2;simp only[dT r1,dT r2,aQ,aO (x:=eg a.2+1) (by omega) (by omega)];cases decide (eg a.2*eg a.2=a.2*65536)<;>rfl
 ·rfl
def Nv:List En:=enL QY::Wr
def XS(r:BO3)(_k:KT):OLR:=og (decide (ok Rat 200000 r.1)) (match !((frF (ag r.1)).2)with|true=>some [RV.d tG (hid ((frF (ag r.1)).1)),RV.d .bool ((frF (ag r.1)).2)]|false=>(og (o1 r.2.1) (match(aD (ag r.2.1) 0)==0 with|true=>some [RV.d tG (hid ((frF (ag r.1)).1)),RV.d .bool ((frF (ag r.1)).2)]|false=>(og (decide (ok Rat 200000 r.2.1)) (og (decide (ok Rat 200000 r.2.2)) (match !((frF (ag r.2.1)).2)with|true=>some [RV.d tG (0,0),RV.d .bool false]|false=>(match !((frF (ag r.2.2)).2)with|true=>some [RV.d tG (0,0),RV.d .bool false]|false=>(og (o1 r.2.2) (match decide ((aD (ag r.2.2) 0)<0)with|true=>some [RV.d tG (0,0),RV.d .bool false]|false=>(og (decide (prI (hid ((frF (ag r.2.2)).1)))) (match !((sqF (hid ((frF (ag r.2.2)).1))).2)with|true=>some [RV.d tG (0,0),RV.d .bool false]|false=>(og (decide (prI (hid ((frF (ag r.2.1)).1))/\prI (hid ((sqF (hid ((frF (ag r.2.2)).1))).1)))) (match !((cE (hid ((frF (ag r.2.1)).1)) (hid ((sqF (hid ((frF (ag r.2.2)).1))).1))).2)with|true=>some [RV.d tG (0,0),RV.d .bool false]|false=>(og (decide (prI (hid ((frF (ag r.1)).1))/\prI (hid ((cE (hid ((frF (ag r.2.1)).1)) (hid ((sqF (hid ((frF (ag r.2.2)).1))).1))).1)))) (some [RV.d tG (hid ((dH (hid ((frF (ag r.1)).1)) (hid ((cE (hid ((frF (ag r.2.1)).1)) (hid ((sqF (hid ((frF (ag r.2.2)).1))).1))).1))).1)),RV.d .bool ((dH (hid ((frF (ag r.1)).1)) (hid ((cE (hid ((frF (ag r.2.1)).1)) (hid ((sqF (hid ((frF (ag r.2.2)).1))).1))).1))).2)])))))))))))))))
def Dw:Cn 250 [tO]:=cn λ(r:BO3)=>lf (ok Rt 100000 r) [.d tG ((aZ (dec r)).1),.d .bool ((aZ (dec r)).2)] λh=>by
 refine aA Nv (XS r) ⟨0,?_⟩;have hr:=h;obtain⟨r,rfl,br⟩:=aM hr;have p1:prI (frF r.1).1:=RE.frF_pr _;have p2:prI (frF r.2.1).1:=RE.frF_pr _;have p3:prI (frF r.2.2).1:=RE.frF_pr _;have p4:prI (sqF (frF r.2.2).1).1:=RE.sqF_pr p3;have p5:prI (cE (frF r.2.1).1 (sqF (frF r.2.2).1).1).1:=sI _ _;unfold XS;simp only[bE,Nat.reduceLeDiff,ao,aq,dT p3,dT (show prI (frF r.2.1).1/\prI (sqF (frF r.2.2).1).1 from⟨p2,p4⟩),dT (show prI (frF r.1).1/\prI (cE (frF r.2.1).1 (sqF (frF r.2.2).1).1).1 from⟨p1,p5⟩)];unfold aZ;clear p1 p2 p3 p4 p5;generalize frF r.1=A;generalize frF r.2.1=B;generalize frF r.2.2=C;generalize sqF C.1=S;generalize cE B.1 S.1=M;generalize dH A.1 M.1=U;obtain⟨_,a⟩:=A;obtain⟨_,b⟩:=B;obtain⟨_,c⟩:=C;obtain⟨_,s⟩:=S;obtain⟨_,m⟩:=M;cases a<;>cases decide (r.2.1=0)<;>cases b<;>cases c<;>cases decide (r.2.2<0)<;>cases s<;>cases m<;>rfl
def WY(a:(Int×Int))(_k:KT):OLR:=match decide (a.1>0)with|true=>some [RV.d apE 1,RV.d .bool true]|false=>(match decide (a.2<0)with|true=>some [RV.d apE (-1),RV.d .bool true]|false=>(match a.1==0 with|true=>some [RV.d apE 0,RV.d .bool (a.2==0)]|false=>some [RV.d apE 0,RV.d .bool false]))
def OV:Cn 288 [tG]:=cn λ(a:(Int×Int))=>lf True [.d apE ((sgF a).1),.d .bool ((sgF a).2)] λ_=>by
 refine aA Nv (WY a) ⟨0,?_⟩;unfold WY sgF;cases decide (a.1>0)<;>cases decide (a.2<0)<;>try rfl
 by_cases e1:a.1=0
 ·rw[amh e1,show(a.1==0)=true by simp[e1]];by_cases e2:a.2=0
  ·rw[amh e2,show(a.2==0)=true by simp[e2]];rfl
  ·rw[ami e2,show(a.2==0)=false by simp[e2]];rfl
 ·rw[ami e1,show(a.1==0)=false by simp[e1]];rfl
def akA:List En:=enL Dw::enL OV::Nv
def YU(n:BR)(a:(Int×Int))(g:Bool)(_k:KT):OLR:=og (decide (ok Rat 200000 n)) (match !g with|true=>some [RV.d tG (0,0),RV.d .bool false]|false=>(match !((frF (ag n)).2)with|true=>some [RV.d tG (0,0),RV.d .bool false]|false=>(og (decide (prI (hid ((frF (ag n)).1))/\prI a)) (some [RV.d tG (hid ((cE (hid ((frF (ag n)).1)) a).1)),RV.d .bool ((cE (hid ((frF (ag n)).1)) a).2)]))))
def ZR:Cn 289 [tR,tG,.bool]:=cn λ(n:BR) (a:(Int×Int)) (g:Bool)=>lf (ok Rat 100000 n/\prI a) [.d tG ((jF (ag n) a g).1),.d .bool ((jF (ag n) a g).2)] λh=>by
 refine aA akA (YU n a g) ⟨0,?_⟩;obtain⟨hn,ha⟩:=h;obtain⟨n,rfl,bn⟩:=aM hn;unfold YU;simp only[bE,Nat.reduceLeDiff,dT (show prI (frF n).1/\prI a from⟨RE.frF_pr _,ha⟩)];unfold jF;generalize frF n=A;obtain⟨_,q⟩:=A;cases g<;>cases q<;>rfl
section
section
variable {u:Nat} {w w':World} {size n:Nat} {v:Value} {xs:List Value}
end
section
variable {P:Program} {fn:Func} {R:Ending->World->Prop} {B:Code} {K:List KI} {i:Nat} {a:Act} {w:World}
end
end
section
section
variable {P:Program} {a:Act} {w:World}
end
end
theorem yN{w w1 w2:World}{o:Option Nat}(h:w.grownBy w1 o)(hb:Below w1.heap.size w1 w2):w.grownBy w2 o:=
 ⟨hb.os.trans h.os,hb.tape.trans h.tape,hb.output.trans h.output,amt h.size hb.size,λi hi hn=>(hb.block i (anM hi h.size)).trans (h.block i hi hn)⟩
theorem sD{w w1 w2:World}{c b:Nat}(h:w.grownBy w1 (some c))(hu:Upd w1 w2 b)(hb:b=c\/w.heap.size<=b):w.grownBy w2 (some c):=
 ⟨hu.os.trans h.os,hu.tape.trans h.tape,hu.output.trans h.output,by rw[hu.size];exact h.size,λi hi hn=>(hu.block i (λe=>by
  subst e;rcases hb with hb|hb
  ·subst hb;exact hn rfl
  ·omega)).trans (h.block i hi hn)⟩
def Ud:Code:=Tryz.f353.body.getD .skip
set_option maxRecDepth 100000 in
theorem Le:afg Tryz.prog 353 312:=by
 intro w c b ok x y _ hc;have hB:w.grownBy w (some c):=World.grownBy.refl _ _;have hlt:=hc.lt;refine enter (B:=Ud) (args:=[.pointer (some ⟨c,0,none⟩),.agg #[.int .i64 x,.int .i64 y],.bool ok]) Tryz.func353 (by kernel_rfl) (by kernel_rfl) ?_;rw[show Tryz.f353.ntmps=18 from by kernel_rfl];intro a hs;replace hs:=hs.pick (ts:=[0,1,2]) (L':=[(0,.pointer (some ⟨c,0,none⟩)),(1,.agg #[.int .i64 x,.int .i64 y]),(2,.bool ok)]) (by kernel_rfl)
 refine yG (j:=2) (by kernel_rfl) ?_;refine m7 (id:=0) (by kernel_rfl) ?_;refine uW hs (by kernel_rfl) (aiT (t:=254) (cs:= #[.int .i64 x,.int .i64 y]) (λrb_=>.pointer (some ⟨rb_,0,none⟩)) [0,2,4] (λrb_=>[(0,.pointer (some ⟨c,0,none⟩)),(2,.bool ok),(4,.pointer (some ⟨rb_,0,none⟩))]) hs (λ_=>by kernel_rfl) (λ_=>by kernel_rfl) ?_);clear hs a;intro a w1 b1 hn hs;have B1:=hn.blk;have l1:w.heap.size<=b1:=by rw[hn.at_];exact hB.size
 replace hc:=hc.below hn.below hc.lt
 replace hB:=yN hB hn.below
 clear hn;refine uW hs (by kernel_rfl) (aiT (t:=254) (cs:= #[.int .i64 0,.int .i64 0]) (λrb_=>.pointer (some ⟨rb_,0,none⟩)) [0,2,4,6] (λrb_=>[(0,.pointer (some ⟨c,0,none⟩)),(2,.bool ok),(4,.pointer (some ⟨b1,0,none⟩)),(6,.pointer (some ⟨rb_,0,none⟩))]) hs (λ_=>by kernel_rfl) (λ_=>by kernel_rfl) ?_);clear hs a;intro a w2 b2 hn hs;have B2:=hn.blk;have l2:w.heap.size<=b2:=by rw[hn.at_];exact hB.size
 have l2':b1<b2:=by rw[hn.at_];exact B1.lt
 replace hc:=hc.below hn.below hc.lt
 replace B1:=B1.below hn.below B1.lt
 replace hB:=yN hB hn.below
 clear hn;refine qq (by kernel_rfl) ?_;refine mv rfl ?_;refine yG (j:=4) (by kernel_rfl) ?_;refine m7 (id:=1) (by kernel_rfl) ?_;refine sL (m:=6) (H:=[(4,none,[.bool b])]) (ts:=[2,4,6,7,12]) (L':=[(2,.bool ok),(4,.pointer (some ⟨b1,0,none⟩)),(6,.pointer (some ⟨b2,0,none⟩)),(7,.pointer (some ⟨c,0,none⟩)),(12,.bool b)]) (O:=λw=>(w.cell? ⟨c,0,none⟩=some (.bool b))/\True) hs (by kernel_rfl) ⟨hc.cell 0 rfl,trivial⟩ ?_;clear hs a;intro a hs;rcases Bool.eq_false_or_eq_true (b)with hb|hb
 ·replace hs:=hs.know (t:=12) rfl hb
  have cd1:=hb;have cd1b:=hb;clear hb;replace hs:=hs.pick (ts:=[2,4,6,7,12]) (L':=[(2,.bool ok),(4,.pointer (some ⟨b1,0,none⟩)),(6,.pointer (some ⟨b2,0,none⟩)),(7,.pointer (some ⟨c,0,none⟩)),(12,.bool true)]) (by kernel_rfl)
  refine sL (m:=4) (H:=[]) (ts:=[4,6,14,16]) (L':=[(4,.pointer (some ⟨b1,0,none⟩)),(6,.pointer (some ⟨b2,0,none⟩)),(14,.bool ok),(16,.pointer (some ⟨c,0,none⟩))]) (O:=λw=>True) hs (by kernel_rfl) trivial ?_;clear hs a;intro a hs;refine uW hs (by kernel_rfl) (Bk (b:=c) (cs:= #[.bool b]) #[.bool ok] [(0,.bool ok)] [4,6] [(4,.pointer (some ⟨b1,0,none⟩)),(6,.pointer (some ⟨b2,0,none⟩))] hs hc (by kernel_rfl) ⟨amn rfl,trivial,trivial⟩ rfl (by kernel_rfl) ?_);clear hs a;intro a w3 hc' hu hs;replace hc:=hc';clear hc'
  replace B1:=hu.blk B1 (by omega)
  replace B2:=hu.blk B2 (by omega)
  replace hB:=sD hB hu (by omega)
  clear hu;refine qq (by kernel_rfl) ?_;refine mv rfl ?_;refine yG (j:=6) (by kernel_rfl) ?_;refine m7 (id:=2) (by kernel_rfl) ?_;refine sL (m:=1) (H:=[(0,none,[.int .i64 x,.int .i64 y])]) (ts:=[6,17]) (L':=[(6,.pointer (some ⟨b2,0,none⟩)),(17,.agg #[.int .i64 x,.int .i64 y])]) (O:=λw=>(w.cell? ⟨b1,0,none⟩=some (.int .i64 x))/\(w.cell? ⟨b1,1,none⟩=some (.int .i64 y))/\True) hs (by kernel_rfl) ⟨B1.cell 0 rfl,B1.cell 1 rfl,trivial⟩ ?_;clear hs a;intro a hs;refine uW hs (by kernel_rfl) (Bk (b:=b2) (cs:= #[.int .i64 0,.int .i64 0]) #[.int .i64 x,.int .i64 y] [(0,.int .i64 x),(1,.int .i64 y)] [6] [(6,.pointer (some ⟨b2,0,none⟩))] hs B2 (by kernel_rfl) ⟨amn rfl,trivial,⟨amn rfl,trivial,trivial⟩⟩ rfl (by kernel_rfl) ?_);clear hs a;intro a w4 B2' hu hs;replace B2:=B2';clear B2'
  replace hc:=hu.blk hc (by omega)
  replace B1:=hu.blk B1 (by omega)
  replace hB:=sD hB hu (by omega)
  clear hu;refine qq (by kernel_rfl) ?_;refine mv rfl ?_;refine FZ (by kernel_rfl) ?_;refine LY (vs:=[.agg #[.int .i64 x,.int .i64 y]]) (H:=[.int .i64 x,.int .i64 y]) (v:=.agg #[.int .i64 x,.int .i64 y]) (O:=λw=>(w.cell? ⟨b2,0,none⟩=some (.int .i64 x))/\(w.cell? ⟨b2,1,none⟩=some (.int .i64 y))/\True) hs (by kernel_rfl) rfl ⟨B2.cell 0 rfl,B2.cell 1 rfl,trivial⟩ ?_;exact⟨rfl,by rw[cd1];exact hc,hB⟩
 ·replace hs:=hs.know (t:=12) rfl hb
  have cd1:=hb;have cd1b:=hb;clear hb;replace hs:=hs.pick (ts:=[2,4,6,7,12]) (L':=[(2,.bool ok),(4,.pointer (some ⟨b1,0,none⟩)),(6,.pointer (some ⟨b2,0,none⟩)),(7,.pointer (some ⟨c,0,none⟩)),(12,.bool false)]) (by kernel_rfl)
  refine sL (m:=4) (H:=[]) (ts:=[4,6,14,16]) (L':=[(4,.pointer (some ⟨b1,0,none⟩)),(6,.pointer (some ⟨b2,0,none⟩)),(14,.bool false),(16,.pointer (some ⟨c,0,none⟩))]) (O:=λw=>True) hs (by kernel_rfl) trivial ?_;clear hs a;intro a hs;refine uW hs (by kernel_rfl) (Bk (b:=c) (cs:= #[.bool b]) #[.bool false] [(0,.bool false)] [4,6] [(4,.pointer (some ⟨b1,0,none⟩)),(6,.pointer (some ⟨b2,0,none⟩))] hs hc (by kernel_rfl) ⟨amn rfl,trivial,trivial⟩ rfl (by kernel_rfl) ?_);clear hs a;intro a w5 hc' hu hs;replace hc:=hc';clear hc'
  replace B1:=hu.blk B1 (by omega)
  replace B2:=hu.blk B2 (by omega)
  replace hB:=sD hB hu (by omega)
  clear hu;refine qq (by kernel_rfl) ?_;refine mv rfl ?_;refine yG (j:=6) (by kernel_rfl) ?_;refine m7 (id:=2) (by kernel_rfl) ?_;refine sL (m:=1) (H:=[(0,none,[.int .i64 x,.int .i64 y])]) (ts:=[6,17]) (L':=[(6,.pointer (some ⟨b2,0,none⟩)),(17,.agg #[.int .i64 x,.int .i64 y])]) (O:=λw=>(w.cell? ⟨b1,0,none⟩=some (.int .i64 x))/\(w.cell? ⟨b1,1,none⟩=some (.int .i64 y))/\True) hs (by kernel_rfl) ⟨B1.cell 0 rfl,B1.cell 1 rfl,trivial⟩ ?_;clear hs a;intro a hs;refine uW hs (by kernel_rfl) (Bk (b:=b2) (cs:= #[.int .i64 0,.int .i64 0]) #[.int .i64 x,.int .i64 y] [(0,.int .i64 x),(1,.int .i64 y)] [6] [(6,.pointer (some ⟨b2,0,none⟩))] hs B2 (by kernel_rfl) ⟨amn rfl,trivial,⟨amn rfl,trivial,trivial⟩⟩ rfl (by kernel_rfl) ?_);clear hs a;intro a w6 B2' hu hs;replace B2:=B2';clear B2'
  replace hc:=hu.blk hc (by omega)
  replace B1:=hu.blk B1 (by omega)
  replace hB:=sD hB hu (by omega)
  clear hu;refine qq (by kernel_rfl) ?_;refine mv rfl ?_;refine FZ (by kernel_rfl) ?_;refine LY (vs:=[.agg #[.int .i64 x,.int .i64 y]]) (H:=[.int .i64 x,.int .i64 y]) (v:=.agg #[.int .i64 x,.int .i64 y]) (O:=λw=>(w.cell? ⟨b2,0,none⟩=some (.int .i64 x))/\(w.cell? ⟨b2,1,none⟩=some (.int .i64 y))/\True) hs (by kernel_rfl) rfl ⟨B2.cell 0 rfl,B2.cell 1 rfl,trivial⟩ ?_;exact⟨rfl,by rw[cd1];exact hc,hB⟩
def S3:dJ:={keep:=true,tame:=true,run:=λ_ _ _=>none,mut_:=some ⟨true,λl=>l,some 312⟩}
theorem Rg:SpK 353 S3:=by
 refine⟨by kernel_rfl,λR args k r h=>(by cases h),(λg h=>?_),λ_ _ e=>(by cases e)⟩;injection h with h;subst h;exact Le
def Xs:List En:=[⟨47,io,eL⟩,⟨261,jC,fC⟩,⟨260,nN,jn⟩,⟨266,lW,gQ⟩,⟨141,nE,jB⟩,enL Re,⟨46,jJ,fq⟩,⟨85,fS,dX⟩,enL E0,enT D1,enL Sw,enL WA,enL OL,enL IP,enL Ru,enL RA,enA Oc,enA OQ,enL W4,enL MF,enL QY,enL Dw,enL OV,enL ZR,⟨353,S3,Rg⟩]
def abq:NT:=[((322,5),{keep:=[1,4,13,14,17,20,21,24],hl:=0}),((322,7),{keep:=[1,4,5,25,26,29,32,33,36],hl:=0})]
def ajB:Ctx:=CX (ens Xs) abq
def XW(q:BQ)(_k:KT):OLR:=let y1:=frF (ag q.2.2.2.2.1);let y2:=ok Rat 200000 q.2.2.2.2.2;let y3:=frF (ag q.2.2.2.2.2);let y4:=sqF (hid (y3.1));let y5:=hid ((frF (ag q.2.1)).1);let y6:=hid ((sqF (hid (y1.1))).1);let y7:=frF (ag q.2.2.1);let y8:=frF (ag q.2.2.2.1);let y9:=cE y6 (hid (y4.1));let y10:=cE (hid (y7.1)) (hid (y4.1));let y11:=cE (hid (y8.1)) (hid (y9.1));let y12:=hid ((frF (ag q.1)).1);let y13:=hid ((cE y5 y6).1);let y14:=hid ((dH y12 y13).1);let y15:=dH (hid (y10.1)) (hid (y11.1));let y16:=dH y14 (hid (y15.1));let y17:OLR:=match decide (prI (hid (y3.1)))with|true=>some [RV.d apE 0,RV.d .bool false]|false=>none;og (decide (ok Rat 200000 q.2.2.2.2.1)) (og (decide (prI (hid (y1.1)))) (match y1.2 with|true=>(og (decide y2) (match(sqF (hid (y1.1))).2 with|true=>(og (decide (prI (hid (y3.1)))) (match y3.2 with|true=>(match !(y4.2)with|true=>some [RV.d apE 0,RV.d .bool false]|false=>(og (decide (ok Rat 200000 q.2.1)) (og (decide (prI y5/\prI y6)) (og (decide (ok Rat 200000 q.2.2.1)) (og (decide (prI (hid (y7.1))/\prI (hid (y4.1)))) (og (decide (ok Rat 200000 q.2.2.2.1)) (og (decide (prI y6/\prI (hid (y4.1)))) (og (decide (prI (hid (y8.1))/\prI (hid (y9.1)))) (match !(((((((y4.2&&(frF (ag q.2.1)).2)&&(cE y5 y6).2)&&y7.2)&&y10.2)&&y8.2)&&y9.2)&&y11.2)with|true=>some [RV.d apE 0,RV.d .bool false]|false=>(og (decide (ok Rat 200000 q.1)) (og (decide (prI y12/\prI y13)) (og (decide (prI (hid (y10.1))/\prI (hid (y11.1)))) (og (decide (prI y14/\prI (hid (y15.1)))) (match !(((((((((((y4.2&&(frF (ag q.2.1)).2)&&(cE y5 y6).2)&&y7.2)&&y10.2)&&y8.2)&&y9.2)&&y11.2)&&(frF (ag q.1)).2)&&(dH y12 y13).2)&&y15.2)&&y16.2)with|true=>some [RV.d apE 0,RV.d .bool false]|false=>some [RV.d apE ((sgF (hid (y16.1))).1),RV.d .bool ((sgF (hid (y16.1))).2)]))))))))))))))|false=>some [RV.d apE 0,RV.d .bool false]))|false=>y17))|false=>(og (decide y2) y17)))
theorem ahV(q:BQ):RS ajB 322 [.d tQ q] (XW q):=rsX
def afh:Cn 322 [tQ]:=cn λ(q:BQ)=>lf (okQ q) [.d apE ((quF (dec q)).1),.d .bool ((quF (dec q)).2)] λh=>by
 refine a8 Xs (ahV _ ⟨0,?_⟩);obtain⟨A,B,C,D,M,N,rfl,bA,bB,bC,bD,bM,bN,hM,hN⟩:=GF h;rw[au];have pf:∀q,prI (frF q).1:=RE.frF_pr;have pm:∀a b,prI (cE a b).1:=sI;have ps:∀q,prI (sqF (frF q).1).1:=λq=>RE.sqF_pr (pf q);have pa:∀{a b},prI a->prI b->prI (dH a b).1:=λha hb=>RE.addF_pr ha hb;have d1:∀q,decide (prI (frF q).1)=true:=λq=>dT (pf q);have d2:∀q m,decide (prI (frF q).1/\prI (sqF (frF m).1).1)=true:=λq m=>dT ⟨pf q,ps m⟩;have d3:∀q m,decide (prI (sqF (frF q).1).1/\prI (sqF (frF m).1).1)=true:=λq m=>dT ⟨ps q,ps m⟩;have d4:∀q a b,decide (prI (frF q).1/\prI (cE a b).1)=true:=λq a b=>dT ⟨pf q,pm a b⟩;have d5:∀a b c d,decide (prI (cE a b).1/\prI (cE c d).1)=true:=λa b c d=>dT ⟨pm a b,pm c d⟩;have d6:∀q a b c d e f,decide (prI (dH (frF q).1 (cE a b).1).1/\prI (dH (cE c d).1 (cE e f).1).1)=true:=λq a b c d e f=>dT ⟨pa (pf q) (pm a b),pa (pm c d) (pm e f)⟩;unfold XW;simp only[bE,aG,Nat.reduceLeDiff,dT (pf _),dT (pm _ _),dT (ps _),dT (pa (pf _) (pm _ _)),dT (pa (pm _ _) (pm _ _))];unfold quF qu1 qu2 qu3 quA quB sfF mfF;generalize frF M=FM;generalize frF N=FN;generalize sqF FM.1=SM;generalize sqF FN.1=SN;generalize frF A=FA;generalize frF B=FB;generalize frF C=FC;generalize frF D=FD;generalize cE FB.1 SM.1=MB;generalize cE FC.1 SN.1=MC;generalize cE SM.1 SN.1=MM;generalize cE FD.1 MM.1=MD;generalize dH FA.1 MB.1=A1;generalize dH MC.1 MD.1=A2;generalize dH A1.1 A2.1=A3;generalize sgF A3.1=S;obtain⟨_,fm⟩:=FM;obtain⟨_,fn⟩:=FN;obtain⟨_,sm⟩:=SM;obtain⟨_,sn⟩:=SN;cases fm<;>cases sm<;>cases fn<;>cases sn<;>try rfl
 dsimp only;simp only[anP,anD];generalize (FB.2&&MB.2&&FC.2&&MC.2&&FD.2&&MM.2&&MD.2)=c2;cases c2
 ·rfl
 ·simp only[anP];generalize (FA.2&&A1.2&&A2.2&&A3.2)=c3;cases c3<;>rfl
namespace RE
theorem same_rad(a b c d r:RE):a-c+(b-d)*r=a+b*r-(c+d*r):=by grind
theorem ac1(a b c:RE):a-b+c=a+c-b:=by grind
theorem vR_rat(q:Rat):vR (q,0,0)=of q:=ef q 0
theorem cmpTR_re{x:Rt}{q:Rat}(h:0<=x.2.2):hU x q=sg (vR x-of q):=by
 unfold hU vR;rw[sgn2_re h];unfold v2;rw[of_sub,ac1]
end RE
theorem Rdd.rat{x:Rt}(h:Rdd x)(hb:x.2.1=0):x=(x.1,0,0):=by
 obtain⟨a,b,c⟩:=x;rcases h.rd with h|h
 ·obtain⟨h1,h2⟩:=h;simp only at h1 h2;rw[h1,h2]
 ·exact absurd hb h.1
theorem Mc{x:Rt}{q:Rat}(h:Rdd x):bQ x (q,0,0)=hU x q:=by
 rw[RE.cmpT_re h.nn (by show(0:Rat)<=0;grind),RE.cmpTR_re h.nn,RE.vR_rat]
theorem Uu{x y:Rt}(hx:Rdd x)(hy:Rdd y)(bx:x.2.1=0)(b_:y.2.1=0):bQ x y=aD x.1 y.1:=by
 rw[hx.rat bx,hy.rat b_,RE.cmpT_re (by show(0:Rat)<=0;grind) (by show(0:Rat)<=0;grind),RE.vR_rat,RE.vR_rat,<-RE.of_sub,RE.sg_of,yO]
theorem V2{x y:Rt}(hx:Rdd x)(hy:Rdd y)(h:(apF x y).2=true):(apF x y).1=bQ x y:=by
 rw[RE.apF_ok h,RE.cmpT_re hx.nn hy.nn]
theorem Lo{x y:Rt}(hx:Rdd x)(hy:Rdd y)(h:x.2.2=y.2.2):gf (x.1-y.1) (x.2.1-y.2.1) x.2.2=bQ x y:=by
 rw[RE.cmpT_re hx.nn hy.nn,RE.sgn2_re hx.nn];unfold RE.vR RE.v2;rw[RE.of_sub,RE.of_sub,RE.same_rad,h]
theorem aaT{A B C D M N:Rat}(hM:0<=M)(hN:0<=N)(h:(quF (A,B,C,D,M,N)).2=true):(quF (A,B,C,D,M,N)).1=sgQ (A,B,C,D,M,N):=by
 rw[RE.quF_ok (q:=(A,B,C,D,M,N)) hM hN h];exact(RE.sgnQ_re hM hN).symm
def Ni:List En:=[⟨260,nN,jn⟩,⟨261,jC,fC⟩,⟨46,jJ,fq⟩,⟨266,lW,gQ⟩,⟨85,fS,dX⟩,⟨47,io,eL⟩,enL E0,enT D1,enL Sw,enL Dw]
def aeW:Cn 323 [tR,tR]:=cn λ(a b:BR)=>lf (okR a/\okR b) [.d tR (am (ag a+ag b))] λh=>qw [RV.d tR (hAd a b)] (eU Ni) h
def XQ(a b:BO3)(_k:KT):OLR:=og (decide (ok Rt 100000 a)) (og (decide (ok Rt 100000 b)) (match !((aZ (dec a)).2)with|true=>some [RV.d apE 0,RV.d .bool false]|false=>(match !((aZ (dec b)).2)with|true=>some [RV.d apE 0,RV.d .bool false]|false=>(match decide (((hid ((aZ (dec a)).1)).2)<((hid ((aZ (dec b)).1)).1))with|true=>some [RV.d apE (-1),RV.d .bool true]|false=>(match decide (((hid ((aZ (dec a)).1)).1)>((hid ((aZ (dec b)).1)).2))with|true=>some [RV.d apE 1,RV.d .bool true]|false=>some [RV.d apE 0,RV.d .bool false])))))
def Xl:Cn 264 [tO,tO]:=cn λ(a b:BO3)=>lf (ok Rt 100000 a/\ok Rt 100000 b) [.d apE ((apF (dec a) (dec b)).1),.d .bool ((apF (dec a) (dec b)).2)] λh=>by
 refine aA Ni (XQ a b) ⟨0,?_⟩;obtain⟨ha,hb⟩:=h;obtain⟨a,rfl,ba⟩:=aM ha;obtain⟨b,rfl,bb⟩:=aM hb;unfold XQ;simp only[bE,Nat.reduceLeDiff];unfold apF;generalize aZ a=A;generalize aZ b=B;obtain⟨⟨a1,a2⟩,p⟩:=A;obtain⟨⟨b1,b2⟩,q⟩:=B;cases p<;>cases q<;>try rfl
 dsimp only;cases decide (a2<b1)<;>try rfl
 cases decide (a1>b2)<;>rfl
def ajz:List En:=enL aeW::enT Xl::enT afh::Ni
def W1(q:BQ)(_k:KT):OLR:=let y1:=ag q.2.2.2.2.1;let y2:=aD (ag q.2.2.2.2.2) 0;let y3:=i64.wrap ((gf (ag q.2.2.1) (ag q.2.2.2.1) y1)*y2);let y4:=gf (ag q.1) (ag q.2.1) y1;let y5:=hMu q.2.2.2.2.1 (hMu q.2.1 q.2.1);let y6:=hMu q.2.2.2.1 q.2.2.2.1;let y7:=hMu q.2.2.1 q.2.2.1;let y8:=hMu q.2.2.2.2.1 y6;let y9:=hAd (hMu q.1 q.1) y5;let y10:=hMu q.2.2.2.2.2 (hAd y7 y8);let y11:=hMu q.2.2.1 q.2.2.2.1;let y12:=hMu q.2.2.2.2.2 y11;let y13:=hSu (hMu q.1 q.2.1) y12;let y14:OLR:=match decide (okR (hMu q.1 q.2.1)/\okR y12)with|true=>(og (o2 y13 y13) (og (decide (ok Rat 240000 (hSu y9 y10)/\ok Rat 170000 (hAd y13 y13)/\ok Rat 30000 q.2.2.2.2.1)) (some [RV.d apE (i64.wrap (y4*(gf (ag (hSu y9 y10)) (ag (hAd y13 y13)) y1)))])))|false=>none;let y15:OLR:=match decide (okR q.2.2.2.2.2/\okR y11)with|true=>y14|false=>none;let y16:OLR:=match decide (okR q.2.2.1/\okR q.2.2.2.1)with|true=>y15|false=>none;let y17:OLR:=match decide (okR y9/\okR y10)with|true=>cW (og (o2 q.1 q.2.1) (cW (og (o2 q.2.2.1 q.2.2.2.1) (cW (og (o2 q.2.2.2.2.2 y11) (dup (.b .l .l) y14)) y15)) y16)) (og (o2 q.1 q.2.1) y16)|false=>none;let y18:OLR:=match decide (okR q.2.2.2.2.2/\okR (hAd y7 y8))with|true=>y17|false=>none;let y19:OLR:=match decide (okR y7/\okR y8)with|true=>y18|false=>none;let y20:OLR:=match decide (okR q.2.2.2.2.1/\okR y6)with|true=>y19|false=>none;let y21:OLR:=match decide (okR q.2.2.2.1/\okR q.2.2.2.1)with|true=>y20|false=>none;let y22:OLR:=match decide (okR q.2.2.1/\okR q.2.2.1)with|true=>y21|false=>none;let y23:OLR:=match decide (okR (hMu q.1 q.1)/\okR y5)with|true=>y22|false=>none;let y24:OLR:=match decide (okR q.2.2.2.2.1/\okR (hMu q.2.1 q.2.1))with|true=>y23|false=>none;let y25:OLR:=match decide (okR q.2.1/\okR q.2.1)with|true=>y24|false=>none;og (o1 q.2.2.2.2.1) (match decide ((aD y1 0)<0)with|true=>some [RV.d apE 0]|false=>(og (o1 q.2.2.2.2.2) (match decide (y2<0)with|true=>some [RV.d apE 0]|false=>(og (decide (okQ q)) (match(quF (dec q)).2 with|true=>some [RV.d apE ((quF (dec q)).1)]|false=>(og (decide (ok Rat 240000 q.1/\ok Rat 170000 q.2.1/\ok Rat 30000 q.2.2.2.2.1)) (og (decide (ok Rat 240000 q.2.2.1/\ok Rat 170000 q.2.2.2.1/\ok Rat 30000 q.2.2.2.2.1)) (og (o1 q.2.2.2.2.2) (match y3==0 with|true=>some [RV.d apE y4]|false=>(match y4==y3 with|true=>some [RV.d apE y4]|false=>(match y4==0 with|true=>some [RV.d apE y3]|false=>cW (og (o2 q.1 q.1) (cW (og (o2 q.2.1 q.2.1) (cW (og (o2 q.2.2.2.2.1 (hMu q.2.1 q.2.1)) (cW (og (o2 (hMu q.1 q.1) y5) (cW (og (o2 q.2.2.1 q.2.2.1) (cW (og (o2 q.2.2.2.1 q.2.2.2.1) (cW (og (o2 q.2.2.2.2.1 y6) (cW (og (o2 y7 y8) (cW (og (o2 q.2.2.2.2.2 (hAd y7 y8)) (dup (.b .l .l) y17)) y18)) y19)) y20)) y21)) y22)) y23)) y24)) y25)) (og (o2 q.1 q.1) y25))))))))))))
def ahs:Cn 267 [tQ]:=cn λ(q:BQ)=>lf (okQ q) [.d apE (sgQ (dec q))] λh=>by
 refine aA ajz (W1 q) ⟨0,?_⟩;obtain⟨A,B,C,D,M,N,rfl,bA,bB,bC,bD,bM,bN,hM,hN⟩:=GF h;have hh:decide (okQ (am A,am B,am C,am D,am M,am N))=true:=amh h;have hd:(dec ((am A,am B,am C,am D,am M,am N):BQ):Qd)=(A,B,C,D,M,N):=au ((A,B,C,D,M,N):Qd);rw[au];unfold W1;simp only[bE,aG,Nat.reduceAdd,Nat.reduceLeDiff,tc,tu,aq,hh,hd,ami (show ¬M<0 by grind),ami (show ¬N<0 by grind)];cases hq:(quF (A,B,C,D,M,N)).2
 ·try dsimp only
  refine(Bl _ _ _).trans ?_;unfold sgQ C4;rw[ami (show ¬M<0 by grind),ami (show ¬N<0 by grind)];dsimp only[Bool.or_false,cond_false];rw[show A*B-N*(C*D)+(A*B-N*(C*D))=2*(A*B-N*(C*D)) by grind,show A*A+M*(B*B)-N*(C*C+M*(D*D))=A*A+B*B*M-N*(C*C+D*D*M) by grind];rfl
 ·try dsimp only
  rw[aaT hM hN hq]
def YI:List En:=[⟨85,fS,dX⟩,⟨46,jJ,fq⟩,⟨266,lW,gQ⟩,enT D1,enL Sw,enT Xl,enT ahs,enL E0]
def YV(a b:BO3)(_k:KT):OLR:=og (o1 a.2.1) (match(aD (ag a.2.1) 0)==0 with|true=>(og (o1 b.2.1) (match(aD (ag b.2.1) 0)==0 with|true=>(og (o2 a.1 b.1) (some [RV.d apE (aD (ag a.1) (ag b.1))]))|false=>(og (decide (ok Rt 100000 a/\ok Rt 100000 b)) (match(apF (dec a) (dec b)).2 with|true=>some [RV.d apE ((apF (dec a) (dec b)).1)]|false=>(og (o2 a.2.2 b.2.2) (match(aD (ag a.2.2) (ag b.2.2))==0 with|true=>(og (o2 a.1 b.1) (og (o2 a.2.1 b.2.1) (og (decide (ok Rat 240000 (hSu a.1 b.1)/\ok Rat 170000 (hSu a.2.1 b.2.1)/\ok Rat 30000 a.2.2)) (some [RV.d apE (gf (ag (hSu a.1 b.1)) (ag (hSu a.2.1 b.2.1)) (ag a.2.2))]))))|false=>(og (decide (ok Rt 15000 a/\ok Rt 15000 b)) (og (decide (okQ (hid (enc (suT (dec a) (dec b)))))) (some [RV.d apE (sgQ (dec (hid (enc (suT (dec a) (dec b))))))])))))))))|false=>(og (decide (ok Rt 100000 a/\ok Rt 100000 b)) (match(apF (dec a) (dec b)).2 with|true=>some [RV.d apE ((apF (dec a) (dec b)).1)]|false=>(og (o2 a.2.2 b.2.2) (match(aD (ag a.2.2) (ag b.2.2))==0 with|true=>(og (o2 a.1 b.1) (og (o2 a.2.1 b.2.1) (og (decide (ok Rat 240000 (hSu a.1 b.1)/\ok Rat 170000 (hSu a.2.1 b.2.1)/\ok Rat 30000 a.2.2)) (some [RV.d apE (gf (ag (hSu a.1 b.1)) (ag (hSu a.2.1 b.2.1)) (ag a.2.2))]))))|false=>(og (decide (ok Rt 15000 a/\ok Rt 15000 b)) (og (decide (okQ (hid (enc (suT (dec a) (dec b)))))) (some [RV.d apE (sgQ (dec (hid (enc (suT (dec a) (dec b))))))]))))))))
def I4:Cn 198 [tO,tO]:=cn λ(a b:BO3)=>lf (okT 15000 a/\okT 15000 b) [.d apE (bQ (dec a) (dec b))] λh=>by
 refine aA YI (YV a b) ⟨0,?_⟩;obtain⟨ha,hb⟩:=h;obtain⟨a,rfl,ba,ra⟩:=iE ha;obtain⟨b,rfl,bb,rb⟩:=iE hb;have na:Nn a.2.2:=inferInstance;have nb:Nn b.2.2:=inferInstance;have e:decide (okQ (enc (suT a b)))=true:=Zl (by decide) (by decide) (by decide) (by decide) (by decide) (by decide);have e1:=λh1 h2=>Uu ra rb h1 h2;have e2:=λh=>V2 ra rb h;have e3:=λh=>Lo ra rb h;unfold YV;simp only[bE,Nat.reduceAdd,Nat.reduceLeDiff,ao,e];by_cases ha:a.2.1=0
 ·by_cases hb:b.2.1=0
  ·rw[amh ha,amh hb,e1 ha hb]
  ·rw[amh ha,ami hb];dsimp only;cases hq:(apF a b).2
   ·dsimp only;by_cases hc:a.2.2=b.2.2
    ·rw[amh hc,<-e3 hc]
    ·rw[ami hc];rfl
   ·dsimp only;rw[e2 hq]
 ·rw[ami ha];dsimp only;cases hq:(apF a b).2
  ·dsimp only;by_cases hc:a.2.2=b.2.2
   ·rw[amh hc,<-e3 hc]
   ·rw[ami hc];rfl
  ·dsimp only;rw[e2 hq]
def ahr:List En:=enT I4::YI
def XJ(a:BO3)(b:BR)(_k:KT):OLR:=og (o1 b) (og (decide (okT 15000 a/\okT 15000 (hid (enc ((ag b,0,0):Rt))))) (some [RV.d apE (bQ (dec a) (dec (hid (enc ((ag b,0,0):Rt)))))]))
def ag6:Cn 372 [tO,tR]:=cn λ(a:BO3) (b:BR)=>lf (okT 15000 a/\ok Rat 15000 b) [.d apE (hU (dec a) (ag b))] λh=>by
 refine aA ahr (XJ a b) ⟨0,?_⟩;obtain⟨ha,hb⟩:=h;obtain⟨a,rfl,ba,ra⟩:=iE ha;obtain⟨b,rfl,bb⟩:=aM hb;unfold XJ;simp only[bE,Nat.reduceLeDiff,aP];rw[Mc ra]
end Go.Proofs.YtmnlppieefomnaaGreatDoor
end
