/- Intervals: sound for reals. -/
import Derived.Test.YtgddhgcjmddjfaaGreatD11
import Derived.Test.YtgddhgcjmddjfaaGreatD1
import Derived.Lib.LazyBuf
import Derived.Test.YtgddhgcjmddjfaaGreatD6
noncomputable section
namespace Go.Proofs.YtgddhgcjmddjfaaGreat
open Go.RowKit Go.IntKind
theorem awS:type_of% @Int.zero_sub:=@Int.zero_sub
theorem awU:type_of% @Rat.intCast_mul:=@Rat.intCast_mul
theorem axl:type_of% @Rat.intCast_lt_intCast:=@Rat.intCast_lt_intCast
theorem ax0:type_of% @Rat.neg_neg:=@Rat.neg_neg
namespace RE
theorem mV{a b:Int}(h:a≤b):of (a:Rat)≤of (b:Rat):=ou.2 (axk.2 h)
theorem im{q:Rat}(h:(frF q).2=true):inI (frF q).1 (of q):=by
 have f1:((q*65536).floor:Rat)≤q*65536:=Rat.floor_le _
 have f2:((-(q*65536)).floor:Rat)≤ -(q*65536):=Rat.floor_le _
 unfold frF at h ⊢
 cases e1:decide (bU (q*65536).floor)
 ·rw[e1]at h;cases h
 ·cases e2:decide (bU (-(-(q*65536)).floor))
  ·rw[e1,e2]at h;cases h
  ·rw[e1,e2]at h
   simp only[cond_true]at h ⊢
   rw[CQ h]
   refine⟨?_,?_⟩
   ·rw[←bR];exact ou.2 (by show(((q*65536).floor:Int):Rat)≤_;grind)
   ·rw[←bR];exact ou.2 (by show _≤((-(-(q*65536)).floor:Int):Rat);rw[Rat.intCast_neg];grind)
theorem frF_pr(q:Rat):prI (frF q).1:=by
 have f1:((q*65536).floor:Rat)≤q*65536:=Rat.floor_le _
 have f2:((-(q*65536)).floor:Rat)≤ -(q*65536):=Rat.floor_le _
 have f3:(q*65536).floor≤ -(-(q*65536)).floor:=by
  refine axk.1 ?_
  rw[Rat.intCast_neg]
  grind
 unfold frF
 cases decide (bU (q*65536).floor)
 ·exact fQ
 ·cases decide (bU (-(-(q*65536)).floor))
  ·exact fQ
  ·exact C8 f3
theorem jW{a b:Iv}{x y:RE}(ha:inI a x)(hb:inI b y)(h:(dJ a b).2=true):inI (dJ a b).1 (x+y):=by
 unfold dJ at h ⊢
 rw[CQ h]
 refine⟨?_,?_⟩
 ·show of ((a.1+b.1:Int):Rat)≤_
  rw[Rat.intCast_add,of_add]
  exact abC _ _ _ _ _ ha.1 hb.1
 ·show _≤of ((a.2+b.2:Int):Rat)
  rw[Rat.intCast_add,of_add]
  exact adF _ _ _ _ _ ha.2 hb.2
theorem addF_pr{a b:Iv}(ha:prI a)(hb:prI b):prI (dJ a b).1:=C8 (by have:=ha.2.1;have:=hb.2.1;omega)
theorem DJ{a:Iv}{x:RE}(ha:inI a x):inI (lV a) (-x):=by
 refine⟨?_,?_⟩
 ·show of ((-a.2:Int):Rat)≤_
  rw[Rat.intCast_neg,of_neg]
  exact ad9 _ _ _ ha.2
 ·show _≤of ((-a.1:Int):Rat)
  rw[Rat.intCast_neg,of_neg]
  exact aaS _ _ _ ha.1
theorem negF_pr{a:Iv}(ha:prI a):prI (lV a):=⟨by show _≤ -a.2;have:=ha.2.2;omega,by show-a.2≤ -a.1;have:=ha.2.1;omega,by show-a.1≤_;have:=ha.1;omega⟩
theorem lG{a b:Iv}{x y:RE}(ha:inI a x)(hb:inI b y)(h:(cW a b).2=true):inI (cW a b).1 (x*y):=by
 have hc:=adA h
 have c1:=hc a.1 b.1 (.inl rfl) (.inl rfl)
 have c2:=hc a.1 b.2 (.inl rfl) (.inr rfl)
 have c3:=hc a.2 b.1 (.inr rfl) (.inl rfl)
 have c4:=hc a.2 b.2 (.inr rfl) (.inr rfl)
 generalize (cW a b).1=m at*
 have up:∀{p q r:Int},p*65536≤q*r→of (p:Rat)*of 65536≤of (q:Rat)*of (r:Rat):=fun{p q r} h=>by
  have:=mV h
  rw[awU,awU,bR,bR]at this
  exact this
 have dn:∀{p q r:Int},q*r≤p*65536→of (q:Rat)*of (r:Rat)≤of (p:Rat)*of 65536:=fun{p q r} h=>by
  have:=mV h
  rw[awU,awU,bR,bR]at this
  exact this
 obtain⟨a1,a2⟩:=ha
 obtain⟨b1,b2⟩:=hb
 have l:of (m.1:Rat)*of 65536≤of 65536*x*(of 65536*y):=by
  rcases lt_or_ge (of 65536*y) 0 with v|v
  ·rcases lt_or_ge (of (a.2:Rat)) 0 with s|s
   ·exact anN _ _ _ _ _ (le_of_lt v) (le_of_lt s) a2 b2 (up c4.1)
   ·exact am6 _ _ _ _ _ (le_of_lt v) s a2 b1 (up c3.1)
  ·rcases lt_or_ge (of (a.1:Rat)) 0 with s|s
   ·exact asP _ _ _ _ _ v (le_of_lt s) a1 b2 (up c2.1)
   ·exact am5 _ _ _ _ _ v s a1 b1 (up c1.1)
 have u:of 65536*x*(of 65536*y)≤of (m.2:Rat)*of 65536:=by
  rcases lt_or_ge (of 65536*y) 0 with v|v
  ·rcases lt_or_ge (of (a.1:Rat)) 0 with s|s
   ·exact an9 _ _ _ _ _ (le_of_lt v) (le_of_lt s) a1 b1 (dn c1.2)
   ·exact art _ _ _ _ _ (le_of_lt v) s a1 b2 (dn c2.2)
  ·rcases lt_or_ge (of (a.2:Rat)) 0 with s|s
   ·exact aqG _ _ _ _ _ v (le_of_lt s) a2 b1 (dn c3.2)
   ·exact arO _ _ _ _ _ v s a2 b2 (dn c4.2)
 rw[amX]at l u
 exact⟨agN _ _ _ ow l,agN _ _ _ ow u⟩
theorem aqc(u s:RE):u*s*(u*s)=u*(s*s)*u:=by
 induction u using auM
 induction s using auM
 exact snd fun n=>by
  simp only[RL.mul]
  grind
theorem QR(r a u x:RE):((r-(u*x*u)))+((a*u-(r)))+((u*x-(a))*(u-(0)))=0:=by
 induction r using auM
 induction a using auM
 induction u using auM
 induction x using auM
 exact snd fun n=>by
  simp only[RL.add,RL.mul,RL.neg,RL.const]
  grind
theorem akN(r a u x:RE)(h1:r≤a*u)(h2:a≤u*x)(h3:0<u):r≤u*x*u:=fun hg=>far (aT (aT (aX hg) (aQ h1)) (cZ (aQ h2) (le_of_lt (aX h3)))) (QR r a u x)
theorem Xy(r a u x:RE):((u*x*u-(r)))+((r-(a*u)))+((a-(u*x))*(u-(0)))=0:=by
 induction r using auM
 induction a using auM
 induction u using auM
 induction x using auM
 exact snd fun n=>by
  simp only[RL.add,RL.mul,RL.neg,RL.const]
  grind
theorem Ta(r a u x:RE)(h1:a*u≤r)(h2:u*x≤a)(h3:0<u):u*x*u≤r:=fun hg=>far (aT (aT (aX hg) (aQ h1)) (cZ (aQ h2) (le_of_lt (aX h3)))) (Xy r a u x)
theorem sqF_pr{a:Iv}(ha:prI a):prI (sqF a).1:=by
 unfold sqF
 by_cases h:a.2<0
 ·rw[auO h];exact fQ
 ·rw[auQ h]
  simp only[cond_false]
  refine C8 ?_
  have h1:(if 0>a.1 then 0 else a.1)≤a.2:=by have:=ha.2.1;split<;>omega
  have h0:0≤(if 0>a.1 then 0 else a.1):=by split<;>omega
  have hm:d8 (if 0>a.1 then 0 else a.1)≤d8 a.2:=by
   unfold d8
   obtain⟨_,g1,_⟩:=fT (z:=(if 0>a.1 then 0 else a.1)*65536) (by omega)
   obtain⟨g0,_,g2⟩:=fT (z:=a.2*65536) (by omega)
   have:=Go.Proofs.YtgddhgcjmddjfaaGreat.sq_lt (a:=ce ((if 0>a.1 then 0 else a.1)*65536)) (b:=ce (a.2*65536)+1) (by omega) (by omega)
   omega
  cases decide (d8 a.2*d8 a.2=a.2*65536)
  ·show _≤d8 a.2+1;omega
  ·exact hm
theorem zz{a:Iv}{x:RE}(ha:inI a x)(hx:0≤x)(h:(sqF a).2=true):inI (sqF a).1 (zR x):=by
 obtain⟨a1,a2⟩:=ha
 have hs:=Ec hx
 have s0:0≤of 65536*zR x:=cZ (le_of_lt ow) (pT x)
 have e:of 65536*zR x*(of 65536*zR x)=of 65536*x*of 65536:=by rw[aqc,hs]
 unfold sqF at h ⊢
 cases hn:decide (a.2<0)
 ·rw[hn]at h
  simp only[cond_false]at h ⊢
  have h2:=av0 hn
  rw[CQ h]
  obtain⟨p0,p1,p2⟩:=fT (z:=(if 0>a.1 then 0 else a.1)*65536) (by split<;>omega)
  obtain⟨q0,q1,q2⟩:=fT (z:=a.2*65536) (by omega)
  have cm:∀{p q:Int},p*p≤q*65536→of (p:Rat)*of (p:Rat)≤of (q:Rat)*of 65536:=fun{p q} h=>by
   have:=mV h
   rw[awU,awU,bR,bR]at this
   exact this
  have cn:∀{p q:Int},q*65536≤p*p→of (q:Rat)*of 65536≤of (p:Rat)*of (p:Rat):=fun{p q} h=>by
   have:=mV h
   rw[awU,awU,bR,bR]at this
   exact this
  have nn:∀{p:Int},0≤p→0≤of (p:Rat):=fun h=>mV h
  refine⟨?_,?_⟩
  ·show of ((d8 _:Int):Rat)≤_
   refine Zq _ _ (nn p0) s0 ?_
   rw[e]
   refine akN _ (of (((if 0>a.1 then 0 else a.1:Int)):Rat)) _ _ (cm p1) ?_ ow
   split
   ·exact cZ (le_of_lt ow) hx
   ·exact a1
  ·show _≤of (((bif _ then _ else _):Int):Rat)
   cases he:decide (d8 a.2*d8 a.2=a.2*65536)
   ·simp only[cond_false]
    refine Zq _ _ s0 (nn (by unfold d8;omega)) ?_
    rw[e]
    exact Ta _ _ _ _ (cn (by unfold d8;omega)) a2 ow
   ·simp only[cond_true]
    refine Zq _ _ s0 (nn q0) ?_
    rw[e]
    exact Ta _ _ _ _ (cn (by rw[auN he];exact Int.le_refl _)) a2 ow
 ·rw[hn]at h;cases h
theorem JF{i:Iv}{x:RE}(hi:inI i x)(h:(sgF i).2=true):(sgF i).1=sg x:=by
 obtain⟨h1,h2⟩:=hi
 unfold sgF at h ⊢
 cases e1:decide (i.1>0)
 ·rw[e1]at h
  cases e2:decide (i.2<0)
  ·rw[e2]at h
   simp only[cond_false,auW,decide_eq_true_eq]at h ⊢
   rw[h.1]at h1
   rw[h.2]at h2
   have:of 65536*x=0:=le_antisymm h2 h1
   have:sg (of 65536*x)=0:=by rw[this,eP]
   rw[mc,gv ow]at this
   omega
  ·have e:=auN e2
   have h3:of (i.2:Rat)<0:=jz (axl.2 e)
   simp only[cond_false,cond_true]
   have:sg (of 65536*x)= -1:=jN (by
    rcases lt_or_ge (of 65536*x) 0 with h|h
    ·exact h
    ·exact absurd (le_trans h h2) (iS.2 h3))
   rw[mc,gv ow]at this
   omega
 ·have e:=auN e1
  have h3:0<of (i.1:Rat):=jz (axl.2 e)
  simp only[cond_true]
  have:sg (of 65536*x)=1:=gv (by
   rcases lt_or_ge 0 (of 65536*x)with h|h
   ·exact h
   ·exact absurd (le_trans h1 h) (iS.2 h3))
  rw[mc,gv ow]at this
  omega
end RE
abbrev Qd:=Rat×Rat×Rat×Rat×Rat×Rat
def sgQ(q:Qd):Int:=EE q.1 q.2.1 q.2.2.1 q.2.2.2.1 q.2.2.2.2.1 q.2.2.2.2.2
def suT(x y:Rt):Qd:=(x.1-y.1,x.2.1,-y.2.1,0,x.2.2,y.2.2)
def gE(x:Rt)(q:Rat):Int:=fZ (x.1-q) x.2.1 x.2.2
def okQ(q:BQ):Prop:=ok Rat 30001 q.1∧ok Rat 15000 q.2.1∧ok Rat 15000 q.2.2.1∧ok Rat 6000 q.2.2.2.1∧ok Rat 15000 q.2.2.2.2.1∧ok Rat 15000 q.2.2.2.2.2∧0≤ae q.2.2.2.2.1∧0≤ae q.2.2.2.2.2
instance (q:BQ):Decidable (okQ q):=by unfold okQ;infer_instance
theorem Jm{q:BQ}(h:okQ q):∃A B C D M N:Rat,q=enc ((A,B,C,D,M,N):Qd)∧Bd A 30001∧Bd B 15000∧Bd C 15000∧Bd D 6000∧Bd M 15000∧Bd N 15000∧0≤M∧0≤N:=by
 obtain⟨A,B,C,D,M,N⟩:=q
 obtain⟨h1,h2,h3,h4,h5,h6,h7,h8⟩:=h
 obtain⟨a,ha,b1⟩:=aY h1
 obtain⟨b,hb,b2⟩:=aY h2
 obtain⟨c,hc,b3⟩:=aY h3
 obtain⟨d,hd,b4⟩:=aY h4
 obtain⟨m,hm,b5⟩:=aY h5
 obtain⟨n,hn,b6⟩:=aY h6
 dsimp only at ha hb hc hd hm hn h7 h8
 subst ha hb hc hd hm hn
 rw[aF,az]at h7 h8
 exact⟨a,b,c,d,m,n,rfl,b1,b2,b3,b4,b5,b6,h7,h8⟩
theorem agR{A B C D M N:Rat}{a b c d m n:Nat}[h1:Bd A a][h2:Bd B b][h3:Bd C c][h4:Bd D d][h5:Bd M m][h6:Bd N n][h7:Nn M][h8:Nn N](ha:a≤30001)(hb:b≤15000)(hc:c≤15000)(hd:d≤6000)(hm:m≤15000)(hn:n≤15000):decide (okQ (enc ((A,B,C,D,M,N):Qd)))=true:=
 auO ⟨auN (aD ha (by decide)),auN (aD hb (by decide)),auN (aD hc (by decide)),auN (aD hd (by decide)),auN (aD hm (by decide)),auN (aD hn (by decide)),by show 0≤ae (ai M);rw[az];exact h7.le,by show 0≤ae (ai N);rw[az];exact h8.le⟩
theorem Jd{s t:Int}(hs: -1≤s∧s≤1)(ht: -1≤t∧t≤1):i64.wrap (s*t)=s*t:=by
 have:=EU hs ht
 exact bz (by omega) (by omega)
theorem ue{a b m x y:Rat}:i64.wrap (fZ a b m*aR x y)=fZ a b m*aR x y:=Jd (lM _ _ _) (rh _ _)
theorem tc{a b m x y z:Rat}:i64.wrap (fZ a b m*fZ x y z)=fZ a b m*fZ x y z:=Jd (lM _ _ _) (lM _ _ _)
theorem GP(s t u:Int):(match s==0 with|true=>(match s==0 with|true=>some [RV.d ayb t]|false=>some [RV.d ayb s])|false=>(match t==0 with|true=>(match s==0 with|true=>some [RV.d ayb t]|false=>some [RV.d ayb s])|false=>(match s==t with|true=>(match s==0 with|true=>some [RV.d ayb t]|false=>some [RV.d ayb s])|false=>some [RV.d ayb (s*u)])))=some [RV.d ayb (RE.addS s t u)]:=by
 unfold RE.addS
 cases h1:s==0
 ·cases h2:t==0
  ·cases h3:s==t<;>rfl
  ·rfl
 ·have e:=avQ.1 h1
  subst e
  cases h2:t==0
  ·cases h3:(0:Int)==t
   ·rfl
   ·rw[←avQ.1 h3];rfl
  ·rw[avQ.1 h2];rfl
theorem CJ(s t u:Int):(match t==0 with|true=>some [RV.d ayb s]|false=>(match s==t with|true=>some [RV.d ayb s]|false=>(match s==0 with|true=>some [RV.d ayb t]|false=>some [RV.d ayb (s*u)])))=some [RV.d ayb (RE.addS s t u)]:=by
 unfold RE.addS
 cases h2:t==0
 ·cases h3:s==t
  ·cases h1:s==0<;>rfl
  ·rfl
 ·rfl
def rg:aM:=spN true true [tR,tR] (fun x=>decide (okR x.1∧okR x.2.1)) (fun x=>[RV.d ayb (aR (ae x.1) (ae x.2.1))])
theorem mX:SpK 92 rg:=spX fun x h=>V2 x.1 x.2.1 (auN h)
def ri:aM:=spN false true [tR] (fun x=>decide (okR x.1)) (fun x=>[RV.d tR (hid (ai (-ae x.1)))])
theorem mp:SpK 169 ri:=spX fun x h=>by simp only[am];exact G9 x.1 (auN h)
def CM:Env:=[(35,nv),(85,qU),(168,qs),(86,ng),(69,jS),(92,rg),(169,ri)]
theorem vT:EnvAll Tryz.prog CM:=⟨kq,mg,mM,j8,gU,mX,mp,trivial⟩
def ajS:Ctx:=CX CM []
def TE(a b c:BR)(_k:KT):OLR:=match decide (okR a)with|true=>(match decide (okR b)with|true=>(match decide (okR c)with|true=>(match(aR (ae a) 0)==0 with|true=>(match(aR (ae a) 0)==0 with|true=>some [RV.d ayb (i64.wrap ((aR (ae b) 0)*(aR (ae c) 0)))]|false=>some [RV.d ayb (aR (ae a) 0)])|false=>(match(i64.wrap ((aR (ae b) 0)*(aR (ae c) 0)))==0 with|true=>(match(aR (ae a) 0)==0 with|true=>some [RV.d ayb (i64.wrap ((aR (ae b) 0)*(aR (ae c) 0)))]|false=>some [RV.d ayb (aR (ae a) 0)])|false=>(match(aR (ae a) 0)==(i64.wrap ((aR (ae b) 0)*(aR (ae c) 0)))with|true=>(match(aR (ae a) 0)==0 with|true=>some [RV.d ayb (i64.wrap ((aR (ae b) 0)*(aR (ae c) 0)))]|false=>some [RV.d ayb (aR (ae a) 0)])|false=>(match decide (okR a∧okR a)with|true=>(match decide (okR b∧okR b)with|true=>(match decide (okR (hid (ai (ae b*ae b)))∧okR c)with|true=>(match decide (okR (hid (ai (ae a*ae a)))∧okR (hid (ai (ae (hid (ai (ae b*ae b)))*ae c))))with|true=>some [RV.d ayb (i64.wrap ((aR (ae a) 0)*(aR (ae (hid (ai (ae a*ae a)))) (ae (hid (ai (ae (hid (ai (ae b*ae b)))*ae c)))))))]|false=>none)|false=>none)|false=>none)|false=>none))))|false=>none)|false=>none)|false=>none
theorem ajP(a b c:BR):RS ajS 218 [.d tR a,.d tR b,.d tR c] (TE a b c):=rsX
theorem Xs(a b c:BR)(h:ok Rat 240000 a∧ok Rat 170000 b∧ok Rat 30000 c):Con Tryz.prog 218 [.d tR a,.d tR b,.d tR c] [.d ayb (fZ (ae a) (ae b) (ae c))]:=by
 refine aO vT (ajP _ _ _ ⟨0,?_⟩)
 obtain⟨ha,hb,hc⟩:=h
 obtain⟨a,rfl,ba⟩:=aY ha
 obtain⟨b,rfl,bb⟩:=aY hb
 obtain⟨c,rfl,bc⟩:=aY hc
 unfold TE
 simp only[am,aF,az,aZ,auR,auT,Nat.reduceAdd,Nat.reduceLeDiff,qD]
 exact GP _ _ _
def amp:Ctx:=CX CM []
def ZH(a b:BO3)(_k:KT):OLR:=match decide (okR a.1∧okR b.1)with|true=>(match decide (okR b.2.1)with|true=>(match decide (bU (0:Int))with|true=>some [RV.d tQ (hid (ai (ae a.1-ae b.1)),(a.2.1,(hid (ai (-ae b.2.1)),(hid (ai ((0:Int):Rat)),(a.2.2,b.2.2)))))]|false=>none)|false=>none)|false=>none
theorem aiV(a b:BO3):RS amp 164 [.d tO a,.d tO b] (ZH a b):=rsX
theorem ZB(a b:BO3)(h:ok Rt 15000 a∧ok Rt 15000 b):Con Tryz.prog 164 [.d tO a,.d tO b] [.d tQ (enc (suT (dec a) (dec b)))]:=by
 refine aO vT (aiV _ _ ⟨0,?_⟩)
 obtain⟨ha,hb⟩:=h
 obtain⟨a,rfl,ba⟩:=aY ha
 obtain⟨b,rfl,bb⟩:=aY hb
 unfold ZH
 simp only[am,aq,aH,aI,aF,az,aZ,auR,auT,Nat.reduceLeDiff]
 try rfl
def KS:aM:=spN true true [tR,tR,tR] (fun x=>decide (ok Rat 240000 x.1∧ok Rat 170000 x.2.1∧ok Rat 30000 x.2.2.1)) (fun x=>[RV.d ayb (fZ (ae x.1) (ae x.2.1) (ae x.2.2.1))])
theorem PH:SpK 218 KS:=spX fun x h=>Xs x.1 x.2.1 x.2.2.1 (auN h)
def LF:aM:=spN false true [tO,tO] (fun x=>decide (ok Rt 15000 x.1∧ok Rt 15000 x.2.1)) (fun x=>[RV.d tQ (hid (enc (suT (dec x.1) (dec x.2.1))))])
theorem N6:SpK 164 LF:=spX fun x h=>by simp only[am];exact ZB x.1 x.2.1 (auN h)
def It:Env:=(218,KS)::(164,LF)::CM
theorem Bq:EnvAll Tryz.prog It:=⟨PH,N6,vT⟩
def alg:Ctx:=CX It []
def UK(q:BQ)(_k:KT):OLR:=let y1:=ae q.2.2.2.2.1;let y2:=aR (ae q.2.2.2.2.2) 0;let y3:=fZ (ae q.1) (ae q.2.1) y1;let y4:=i64.wrap ((fZ (ae q.2.2.1) (ae q.2.2.2.1) y1)*y2);let y5:OLR:=match y3==0 with|true=>some [RV.d ayb y4]|false=>some [RV.d ayb y3];let y6:=hid (ai (ae q.2.2.2.1*ae q.2.2.2.1));let y7:=hid (ai (ae q.2.2.1*ae q.2.2.1));let y8:=hid (ai (ae y6*ae q.2.2.2.2.1));let y9:=hid (ai (ae y7+ae y8));let y10:=hid (ai (ae q.2.1*ae q.2.1));let y11:=hid (ai (ae q.1*ae q.1));let y12:=hid (ai (ae y10*ae q.2.2.2.2.1));let y13:=hid (ai (ae y11+ae y12));let y14:=hid (ai (ae q.2.2.2.2.2*ae y9));let y15:=hid (ai (ae q.2.2.1*ae q.2.2.2.1));let y16:=hid (ai (ae q.1*ae q.2.1));let y17:=hid (ai (ae q.2.2.2.2.2*ae y15));let y18:=hid (ai (ae y16-ae y17));let y19:=hid (ai (ae y13-ae y14));let y20:=hid (ai (ae y18+ae y18));match decide (okR q.2.2.2.2.1)with|true=>(match decide ((aR y1 0)<0)with|true=>some [RV.d ayb 0]|false=>(match decide (okR q.2.2.2.2.2)with|true=>(match decide (y2<0)with|true=>some [RV.d ayb 0]|false=>(match decide (ok Rat 240000 q.1∧ok Rat 170000 q.2.1∧ok Rat 30000 q.2.2.2.2.1)with|true=>(match decide (ok Rat 240000 q.2.2.1∧ok Rat 170000 q.2.2.2.1∧ok Rat 30000 q.2.2.2.2.1)with|true=>(match decide (okR q.2.2.2.2.2)with|true=>(match y3==0 with|true=>y5|false=>(match y4==0 with|true=>y5|false=>(match y3==y4 with|true=>y5|false=>(match decide (okR q.2.2.1∧okR q.2.2.1)with|true=>(match decide (okR q.2.2.2.1∧okR q.2.2.2.1)with|true=>(match decide (okR y6∧okR q.2.2.2.2.1)with|true=>(match decide (okR y7∧okR y8)with|true=>(match decide (okR q.2.2.2.2.2∧okR y9)with|true=>(match decide (okR q.1∧okR q.1)with|true=>(match decide (okR q.2.1∧okR q.2.1)with|true=>(match decide (okR y10∧okR q.2.2.2.2.1)with|true=>(match decide (okR y11∧okR y12)with|true=>(match decide (okR y13∧okR y14)with|true=>(match decide (okR q.1∧okR q.2.1)with|true=>(match decide (okR q.2.2.1∧okR q.2.2.2.1)with|true=>(match decide (okR q.2.2.2.2.2∧okR y15)with|true=>(match decide (okR y16∧okR y17)with|true=>(match decide (okR y18∧okR y18)with|true=>(match decide (ok Rat 240000 y19∧ok Rat 170000 y20∧ok Rat 30000 q.2.2.2.2.1)with|true=>some [RV.d ayb (i64.wrap (y3*(fZ (ae y19) (ae y20) y1)))]|false=>none)|false=>none)|false=>none)|false=>none)|false=>none)|false=>none)|false=>none)|false=>none)|false=>none)|false=>none)|false=>none)|false=>none)|false=>none)|false=>none)|false=>none)|false=>none))))|false=>none)|false=>none)|false=>none))|false=>none))|false=>none
theorem aji(q:BQ):RS alg 163 [.d tQ q] (UK q):=rsX
theorem SO(q:BQ)(h:okQ q):Con Tryz.prog 163 [.d tQ q] [.d ayb (sgQ (dec q))]:=by
 refine aO Bq (aji _ ⟨0,?_⟩)
 obtain⟨A,B,C,D,M,N,rfl,bA,bB,bC,bD,bM,bN,hM,hN⟩:=Jm h
 rw[aq]
 unfold UK
 simp only[am,aS,aF,az,aD,aZ,auR,auT,Nat.reduceAdd,Nat.reduceLeDiff,ue,tc,aG,auQ (show ¬M<0 by grind),auQ (show ¬N<0 by grind)]
 refine(GP _ _ _).trans ?_
 unfold sgQ EE
 rw[auQ (show ¬M<0 by grind),auQ (show ¬N<0 by grind)]
 dsimp only[Bool.or_false,cond_false]
 rw[show A*B-N*(C*D)+(A*B-N*(C*D))=2*(A*B-N*(C*D)) by grind]
 rfl
def LX:aM:=spN true true [tQ] (fun x=>decide (okQ x.1)) (fun x=>[RV.d ayb (sgQ (dec x.1))])
theorem Pf:SpK 163 LX:=spX fun x h=>SO x.1 (auN h)
def EA:Env:=(163,LX)::It
theorem u4:EnvAll Tryz.prog EA:=⟨Pf,Bq⟩
def alR:Ctx:=CX EA []
def VC(a b:BO3)(_k:KT):OLR:=match decide (ok Rt 15000 a∧ok Rt 15000 b)with|true=>(match decide (okQ (hid (enc (suT (dec a) (dec b)))))with|true=>some [RV.d ayb (sgQ (dec (hid (enc (suT (dec a) (dec b))))))]|false=>none)|false=>none
theorem ajB(a b:BO3):RS alR 90 [.d tO a,.d tO b] (VC a b):=rsX
theorem Zz(a b:BO3)(h:okT 15000 a∧okT 15000 b):Con Tryz.prog 90 [.d tO a,.d tO b] [.d ayb (bS (dec a) (dec b))]:=by
 refine aO u4 (ajB _ _ ⟨0,?_⟩)
 obtain⟨ha,hb⟩:=h
 obtain⟨a,rfl,ba,ra⟩:=kx ha
 obtain⟨b,rfl,bb,rb⟩:=kx hb
 have na:Nn a.2.2:=inferInstance
 have nb:Nn b.2.2:=inferInstance
 have e:decide (okQ (enc (suT a b)))=true:=agR (by decide) (by decide) (by decide) (by decide) (by decide) (by decide)
 unfold VC
 simp only[am,aq,okd,auR,auT,Nat.reduceLeDiff,e]
 rfl
def alG:Ctx:=CX EA []
def QL(a:BO3)(b:BR)(_k:KT):OLR:=match decide (okR a.1∧okR b)with|true=>(match decide (ok Rat 240000 (hid (ai (ae a.1-ae b)))∧ok Rat 170000 a.2.1∧ok Rat 30000 a.2.2)with|true=>some [RV.d ayb (fZ (ae (hid (ai (ae a.1-ae b)))) (ae a.2.1) (ae a.2.2))]|false=>none)|false=>none
theorem aj4(a:BO3)(b:BR):RS alG 267 [.d tO a,.d tR b] (QL a b):=rsX
theorem Q5(a:BO3)(b:BR)(h:okT 15000 a∧ok Rat 15000 b):Con Tryz.prog 267 [.d tO a,.d tR b] [.d ayb (gE (dec a) (ae b))]:=by
 refine aO u4 (aj4 _ _ ⟨0,?_⟩)
 obtain⟨ha,hb⟩:=h
 obtain⟨a,rfl,ba,ra⟩:=kx ha
 obtain⟨b,rfl,bb⟩:=aY hb
 unfold QL
 simp only[am,aq,aH,aI,aF,az,aD,aZ,auR,auT,Nat.reduceAdd,Nat.reduceLeDiff]
 try rfl
def wY:aM:=spN true true [tO,tO] (fun x=>decide (okT 15000 x.1∧okT 15000 x.2.1)) (fun x=>[RV.d ayb (bS (dec x.1) (dec x.2.1))])
theorem u7:SpK 90 wY:=spX fun x h=>Zz x.1 x.2.1 (auN h)
def Ri:Env:=(90,wY)::EA
theorem NK:EnvAll Tryz.prog Ri:=⟨u7,u4⟩
def akp:Ctx:=CX Ri []
def U0(a b:BO3)(_k:KT):OLR:=match decide (okT 15000 a∧okT 15000 b)with|true=>some [RV.d .bool ((bS (dec a) (dec b))==0)]|false=>none
theorem aiJ(a b:BO3):RS akp 39 [.d tO a,.d tO b] (U0 a b):=rsX
theorem Wx(a b:BO3)(h:okT 15000 a∧okT 15000 b):Con Tryz.prog 39 [.d tO a,.d tO b] [.d .bool (bS (dec a) (dec b)==0)]:=by
 refine aO NK (aiJ _ _ ⟨0,?_⟩)
 unfold U0
 rw[dT h]
def n6:aM:=spN true true [tR,tR] (fun x=>decide (okR x.1∧okR x.2.1)) (fun x=>[RV.d ayb (aR (ae x.1) (ae x.2.1))])
theorem jE:SpK 75 n6:=spX fun x h=>aaZ x.1 x.2.1 (auN h)
def sC:aM:=spN false true [tR] (fun x=>decide (okR x.1)) (fun x=>[RV.d tR (hid (ai (-ae x.1)))])
theorem mu:SpK 145 sC:=spX fun x h=>by simp only[am];exact LS x.1 (auN h)
def M4:Env:=[(151,lg),(144,qb),(74,l4),(76,kC),(147,kX),(75,n6),(145,sC)]
theorem yB:EnvAll Tryz.prog M4:=⟨gj,lj,il,gk,gG,jE,mu,trivial⟩
def arw:Ctx:=CX M4 []
def afD(a b c:BR)(_k:KT):OLR:=match decide (okR a)with|true=>(match decide (okR b)with|true=>(match decide (okR c)with|true=>(match(i64.wrap ((aR (ae b) 0)*(aR (ae c) 0)))==0 with|true=>some [RV.d ayb (aR (ae a) 0)]|false=>(match(aR (ae a) 0)==(i64.wrap ((aR (ae b) 0)*(aR (ae c) 0)))with|true=>some [RV.d ayb (aR (ae a) 0)]|false=>(match(aR (ae a) 0)==0 with|true=>some [RV.d ayb (i64.wrap ((aR (ae b) 0)*(aR (ae c) 0)))]|false=>(match decide (okR a∧okR a)with|true=>(match decide (okR b∧okR b)with|true=>(match decide (okR (hid (ai (ae b*ae b)))∧okR c)with|true=>(match decide (okR (hid (ai (ae a*ae a)))∧okR (hid (ai (ae (hid (ai (ae b*ae b)))*ae c))))with|true=>some [RV.d ayb (i64.wrap ((aR (ae a) 0)*(aR (ae (hid (ai (ae a*ae a)))) (ae (hid (ai (ae (hid (ai (ae b*ae b)))*ae c)))))))]|false=>none)|false=>none)|false=>none)|false=>none))))|false=>none)|false=>none)|false=>none
theorem asU(a b c:BR):RS arw 229 [.d tR a,.d tR b,.d tR c] (afD a b c):=rsX
theorem acR(a b c:BR)(h:ok Rat 240000 a∧ok Rat 170000 b∧ok Rat 30000 c):Con Tryz.prog 229 [.d tR a,.d tR b,.d tR c] [.d ayb (fZ (ae a) (ae b) (ae c))]:=by
 refine aO yB (asU _ _ _ ⟨0,?_⟩)
 obtain⟨ha,hb,hc⟩:=h
 obtain⟨a,rfl,ba⟩:=aY ha
 obtain⟨b,rfl,bb⟩:=aY hb
 obtain⟨c,rfl,bc⟩:=aY hc
 unfold afD
 simp only[am,aF,az,aZ,auR,auT,Nat.reduceAdd,Nat.reduceLeDiff,qD]
 exact CJ _ _ _
def arH:Ctx:=CX M4 []
def agb(a:BR)(_k:KT):OLR:=match decide (okR a)with|true=>(match decide (okR (hid (ai (-ae a))))with|true=>some [RV.d tR (hid (ai (-ae (hid (ai (-ae a))))))]|false=>none)|false=>none
theorem aoV(a:BR):RS arH 261 [.d tR a] (agb a):=rsX
theorem aex(a:BR)(h:okR a):Con Tryz.prog 261 [.d tR a] [.d tR (ai (ae a))]:=by
 refine aO yB (aoV _ ⟨0,?_⟩)
 have ha:=h
 obtain⟨a,rfl,ba⟩:=fk ha
 unfold agb
 simp only[am,az,aZ,Nat.reduceLeDiff,ax0]
def uX:aM:=spN true true [tR,tR,tR] (fun x=>decide (ok Rat 240000 x.1∧ok Rat 170000 x.2.1∧ok Rat 30000 x.2.2.1)) (fun x=>[RV.d ayb (fZ (ae x.1) (ae x.2.1) (ae x.2.2.1))])
theorem oR:SpK 229 uX:=spX fun x h=>acR x.1 x.2.1 x.2.2.1 (auN h)
def Kd:aM:=spN false true [tR] (fun x=>decide (okR x.1)) (fun x=>[RV.d tR (hid (ai (ae x.1)))])
theorem Hi:SpK 261 Kd:=spX fun x h=>by simp only[am];exact aex x.1 (auN h)
def ahH:Env:=(229,uX)::(261,Kd)::M4
theorem ZP:EnvAll Tryz.prog ahH:=⟨oR,Hi,yB⟩
def aoT:Ctx:=CX ahH []
def ahn(a b:BO3)(_k:KT):OLR:=match decide (okR a.1∧okR b.1)with|true=>(match decide (okR a.2.1)with|true=>(match decide (okR b.2.1)with|true=>(match decide (bU (0:Int))with|true=>(match decide (okR a.2.2)with|true=>(match decide (okR b.2.2)with|true=>some [RV.d tQ (hid (ai (ae a.1-ae b.1)),(hid (ai (ae a.2.1)),(hid (ai (-ae b.2.1)),(hid (ai ((0:Int):Rat)),(hid (ai (ae a.2.2)),hid (ai (ae b.2.2)))))))]|false=>none)|false=>none)|false=>none)|false=>none)|false=>none)|false=>none
theorem aou(a b:BO3):RS aoT 231 [.d tO a,.d tO b] (ahn a b):=rsX
theorem aaC(a b:BO3)(h:ok Rt 15000 a∧ok Rt 15000 b):Con Tryz.prog 231 [.d tO a,.d tO b] [.d tQ (enc (suT (dec a) (dec b)))]:=by
 refine aO ZP (aou _ _ ⟨0,?_⟩)
 obtain⟨ha,hb⟩:=h
 obtain⟨a,rfl,ba⟩:=aY ha
 obtain⟨b,rfl,bb⟩:=aY hb
 unfold ahn
 simp only[am,aq,aH,aI,aF,az,aZ,auR,auT,Nat.reduceLeDiff]
 try rfl
theorem jQ{n:Int}(h:bU n):szI n≤3:=by
 have:pw 3=1000000000000000000000000000:=by decide
 exact fu (by have:=h.1;omega) (by have:=h.2;omega)
theorem XZ{q:Rat}{k:Nat}(h:Bd q k)(hk:k≤480000):okI (aj q.floor)∧okI (aj (-q.floor)):=by
 have e:szI q.floor≤k:=by
  refine ava (dG ?_) h.le.1
  rw[Rat.floor_def]
  exact Int.natAbs_ediv_le_natAbs _ _
 exact⟨bK (by omega),bK (by rw[iX];omega)⟩
theorem at3:Bd (65536:Rat) 1:=⟨⟨by decide+kernel,by decide+kernel⟩⟩
theorem alo:((65536:Int):Rat)=65536:=rfl
theorem p48:(2:Int)^(min (48:Int).toNat 64)=281474976710656:=by decide
theorem p32:(2:Int)^(min (32:Int).toNat 64)=4294967296:=by decide
theorem p16:(2:Int)^(min (16:Int).toNat 64)=65536:=by decide
theorem fdv{a b:Int}(h:0≤b):Int.fdiv a b=a/b:=Int.fdiv_eq_ediv_of_nonneg a h
theorem afV(n k:Nat)(hn:n<18446744073709551616)(hk:2^k-1<18446744073709551616):BitVec.toNat (BitVec.ofInt 64 (n:Int)&&&BitVec.ofInt 64 ((2^k-1:Nat):Int))=n%2^k:=by
 rw[BitVec.toNat_and,BitVec.toNat_ofInt,BitVec.toNat_ofInt]
 have e1:((n:Int)%((2^64:Nat):Int)).toNat=n:=by omega
 have e2:(((2^k-1:Nat):Int)%((2^64:Nat):Int)).toNat=2^k-1:=by omega
 rw[e1,e2,Nat.and_two_pow_sub_one_eq_mod]
theorem ary(n:Nat)(hn:n<18446744073709551616):u64.wrap (BitVec.toNat (BitVec.ofInt 64 (n:Int)&&&BitVec.ofInt 64 65535))=((n%65536:Nat):Int):=by
 rw[show(65535:Int)=((2^16-1:Nat):Int) from rfl,afV n 16 hn (by decide),avP]
 omega
theorem Ws(n:Nat)(hn:n<18446744073709551616):u64.wrap (BitVec.toNat (BitVec.ofInt 64 (n:Int)&&&BitVec.ofInt 64 4294967295))=((n%4294967296:Nat):Int):=by
 rw[show(4294967295:Int)=((2^32-1:Nat):Int) from rfl,afV n 32 hn (by decide),avP]
 omega
theorem aud{h l:Nat}(hh:h<65536)(hl:l<281474976710656):u64.wrap (BitVec.toNat (BitVec.ofInt 64 (u64.wrap ((h:Int)*281474976710656)) ||| BitVec.ofInt 64 (l:Int)))=((h*281474976710656+l:Nat):Int):=by
 rw[BitVec.toNat_or,BitVec.toNat_ofInt,BitVec.toNat_ofInt,avP,avP]
 have e1:((h:Int)*281474976710656%18446744073709551616%((2^64:Nat):Int)).toNat=h <<< 48:=by
  rw[Nat.shiftLeft_eq]
  omega
 have e2:((l:Int)%((2^64:Nat):Int)).toNat=l:=by omega
 rw[e1,e2,←Nat.shiftLeft_add_eq_or_of_lt (by omega),Nat.shiftLeft_eq]
 omega
def scP(x y:Int):Prop:=x.natAbs≤2305843009213693952∧y.natAbs≤2305843009213693952
instance (x y:Int):Decidable (scP x y):=by unfold scP;infer_instance
def En(n:Int):Prop:=0≤n∧n≤2305843009213693952
instance (n:Int):Decidable (En n):=by unfold En;infer_instance
def apm:Ctx:=CX [] []
def agQ(x y:Int)(_k:KT):OLR:=match decide (x<(-2305843009213693952))with|true=>some [RV.d tG (0,0),RV.d .bool false]|false=>(match decide (y>2305843009213693952)with|true=>some [RV.d tG (0,0),RV.d .bool false]|false=>some [RV.d tG (x,y),RV.d .bool true])
theorem aqN(x y:Int):RS apm 256 [SI x,SI y] (agQ x y):=rsX
theorem ad4(x y:Int):Con Tryz.prog 256 [.d ayb x,.d ayb y] [.d tG ((mN x y).1),.d .bool ((mN x y).2)]:=by
 refine aO (E:=[]) trivial (aqN _ _ ⟨0,?_⟩)
 unfold agQ mN
 cases decide (x< -2305843009213693952)
 ·cases decide (y>2305843009213693952)<;>rfl
 ·rfl
def EB:aM:=spN false true [tR] (fun x=>decide (okR x.1)) (fun x=>[RV.d tI (hid (aj (ae x.1).floor))])
theorem yC:SpK 255 EB:=spX fun x h=>by simp only[am];exact aaA x.1 (auN h)
def Ke:aM:=spN true true [tI] (fun x=>decide (okI x.1)) (fun x=>[RV.d ayb (bif decide (bU (ag x.1))then ag x.1 else 0),RV.d .bool (decide (bU (ag x.1)))])
theorem Gw:SpK 254 Ke:=spX fun x h=>adj x.1 (auN h)
def IE:aM:=spN false true [tI] (fun x=>decide (okI x.1)) (fun x=>[RV.d tI (hid (aj (-ag x.1)))])
theorem Ga:SpK 196 IE:=spX fun x h=>by simp only[am];exact KU x.1 (auN h)
def Cz:aM:=spN false true [ayb,ayb] (fun _=>true) (fun x=>[RV.d tG (hid ((mN x.1 x.2.1).1)),RV.d .bool ((mN x.1 x.2.1).2)])
theorem zt:SpK 256 Cz:=spX fun x _=>by simp only[am];exact ad4 x.1 x.2.1
def xI:Env:=[(151,lg),(76,kC),(145,sC),(255,EB),(254,Ke),(196,IE),(256,Cz)]
theorem mA:EnvAll Tryz.prog xI:=⟨gj,gk,mu,yC,Gw,Ga,zt,trivial⟩
def arJ:Ctx:=CX xI []
def age(a:BR)(_k:KT):OLR:=let y1:=hid (ai ((65536:Int):Rat));let y2:=hid (ai (ae a*ae y1));let y3:=hid (aj (ae y2).floor);let y4:=hid (ai (-ae y2));let y5:=hid (aj (ae y4).floor);let y6:=hid (aj (-ag y5));let y7:=mN (bif decide (bU (ag y3))then ag y3 else 0) (bif decide (bU (ag y6))then ag y6 else 0);match decide (bU (65536:Int))with|true=>(match decide (okR a∧okR y1)with|true=>(match decide (okR y2)with|true=>(match decide (okI y3)with|true=>(match decide (okR y2)with|true=>(match decide (okR y4)with|true=>(match decide (okI y5)with|true=>(match decide (okI y6)with|true=>(match !(decide (bU (ag y3)))with|true=>some [RV.d tG (0,0),RV.d .bool false]|false=>(match !(decide (bU (ag y6)))with|true=>some [RV.d tG (0,0),RV.d .bool false]|false=>some [RV.d tG (hid (y7.1)),RV.d .bool (y7.2)]))|false=>none)|false=>none)|false=>none)|false=>none)|false=>none)|false=>none)|false=>none)|false=>none
theorem aqw(a:BR):RS arJ 221 [.d tR a] (age a):=rsX
theorem adC(a:BR)(h:ok Rat 200000 a):Con Tryz.prog 221 [.d tR a] [.d tG ((frF (ae a)).1),.d .bool ((frF (ae a)).2)]:=by
 refine aO mA (aqw _ ⟨0,?_⟩)
 have ha:=h
 obtain⟨a,rfl,ba⟩:=aY ha
 have hk:=at3
 have h6:bU 65536:=by decide
 have f1:=XZ (inferInstance:Bd (a*65536) _) (by decide)
 have f2:=XZ (inferInstance:Bd (-(a*65536)) _) (by decide)
 unfold age
 simp only[alo,am,aF,az,aZ,auR,auT,Nat.reduceAdd,Nat.reduceLeDiff,dec_enc,dT h6,dT f1.1,dT f2.1,dT f2.2]
 unfold frF
 cases e1:decide (bU (a*65536).floor)
 ·rfl
 ·cases e2:decide (bU (-(-(a*65536)).floor))
  ·rfl
  ·rfl
def aqD:Ctx:=CX xI []
def ag2(a b:(Int×Int))(_k:KT):OLR:=some [RV.d tG (hid ((mN (i64.wrap (a.1+b.1)) (i64.wrap (a.2+b.2))).1)),RV.d .bool ((mN (i64.wrap (a.1+b.1)) (i64.wrap (a.2+b.2))).2)]
theorem aqE(a b:(Int×Int)):RS aqD 223 [.d tG a,.d tG b] (ag2 a b):=rsX
theorem aav(a b:(Int×Int))(h:prI a∧prI b):Con Tryz.prog 223 [.d tG a,.d tG b] [.d tG ((dJ a b).1),.d .bool ((dJ a b).2)]:=by
 refine aO mA (aqE _ _ ⟨0,?_⟩)
 obtain⟨⟨a1,a2,a3⟩,⟨b1,b2,b3⟩⟩:=h
 unfold ag2 dJ
 rw[bz (by omega) (by omega),bz (by omega) (by omega)]
 simp only[am]
def arn:Ctx:=CX xI []
def afF(a:(Int×Int))(_k:KT):OLR:=some [RV.d tG (i64.wrap (0-a.2),i64.wrap (0-a.1))]
theorem aoQ(a:(Int×Int)):RS arn 224 [.d tG a] (afF a):=rsX
theorem ab1(a:(Int×Int))(h:prI a):Con Tryz.prog 224 [.d tG a] [.d tG (lV a)]:=by
 refine aO mA (aoQ _ ⟨0,?_⟩)
 obtain⟨a1,a2,a3⟩:=h
 unfold afF lV
 rw[bz (by omega) (by omega),bz (by omega) (by omega),awS,awS]
def aqo:Ctx:=CX xI []
def ahv(n:Int)(_k:KT):OLR:=match decide (n<0)with|true=>some [RV.d (.int .u64) (u64.wrap (0-(u64.wrap n)))]|false=>some [RV.d (.int .u64) (u64.wrap n)]
theorem ap6(n:Int):RS aqo 276 [SI n] (ahv n):=rsX
theorem adG(n:Int)(h:bU n):Con Tryz.prog 276 [.d ayb n] [.d (.int .u64) (n.natAbs:Int)]:=by
 refine aO mA (ap6 _ ⟨0,?_⟩)
 obtain⟨h1,h2⟩:=h
 unfold ahv
 rw[avP,avP]
 by_cases hn:n<0
 ·rw[auO hn,show(0-n%18446744073709551616)%18446744073709551616=(n.natAbs:Int) by omega]
 ·rw[auQ hn,show n%18446744073709551616=(n.natAbs:Int) by omega]
def apg:Ctx:=CX xI []
def afk(x y:Int)(_k:KT):OLR:=match decide (32<(0:Int))with|true=>none|false=>(match decide (32<(0:Int))with|true=>none|false=>(match decide (32<(0:Int))with|true=>none|false=>(match decide (32<(0:Int))with|true=>none|false=>(match decide (32<(0:Int))with|true=>none|false=>some [RV.d (.int .u64) (u64.wrap ((u64.wrap ((u64.wrap ((Int.fdiv x (2^(min (32:Int).toNat 64)))*(Int.fdiv y (2^(min (32:Int).toNat 64)))))+(Int.fdiv (u64.wrap ((u64.wrap ((Int.fdiv x (2^(min (32:Int).toNat 64)))*(u64.wrap (BitVec.toNat (BitVec.ofInt 64 y&&&BitVec.ofInt 64 4294967295)))))+(Int.fdiv (u64.wrap ((u64.wrap (BitVec.toNat (BitVec.ofInt 64 x&&&BitVec.ofInt 64 4294967295)))*(u64.wrap (BitVec.toNat (BitVec.ofInt 64 y&&&BitVec.ofInt 64 4294967295))))) (2^(min (32:Int).toNat 64))))) (2^(min (32:Int).toNat 64)))))+(Int.fdiv (u64.wrap ((u64.wrap (BitVec.toNat (BitVec.ofInt 64 (u64.wrap ((u64.wrap ((Int.fdiv x (2^(min (32:Int).toNat 64)))*(u64.wrap (BitVec.toNat (BitVec.ofInt 64 y&&&BitVec.ofInt 64 4294967295)))))+(Int.fdiv (u64.wrap ((u64.wrap (BitVec.toNat (BitVec.ofInt 64 x&&&BitVec.ofInt 64 4294967295)))*(u64.wrap (BitVec.toNat (BitVec.ofInt 64 y&&&BitVec.ofInt 64 4294967295))))) (2^(min (32:Int).toNat 64)))))&&&BitVec.ofInt 64 4294967295)))+(u64.wrap ((u64.wrap (BitVec.toNat (BitVec.ofInt 64 x&&&BitVec.ofInt 64 4294967295)))*(Int.fdiv y (2^(min (32:Int).toNat 64))))))) (2^(min (32:Int).toNat 64))))),RV.d (.int .u64) (u64.wrap (x*y))]))))
theorem anb(x y:Int):RS apg 275 [.d (.int .u64) x,.d (.int .u64) y] (afk x y):=rsX
theorem acZ(x y:Int)(h:gP x∧gP y):Con Tryz.prog 275 [.d (.int .u64) x,.d (.int .u64) y] [.d (.int .u64) (x*y/18446744073709551616),.d (.int .u64) (x*y%18446744073709551616)]:=by
 refine aO mA (anb _ _ ⟨0,?_⟩)
 obtain⟨h1,h2⟩:=h
 obtain⟨X,rfl⟩:=av7 h1.1
 obtain⟨Y,rfl⟩:=av7 h2.1
 have hX:X<18446744073709551616:=by have:=h1.2;omega
 have hY:Y<18446744073709551616:=by have:=h2.2;omega
 have wn:∀n:Nat,n<18446744073709551616→u64.wrap (n:Int)=(n:Int):=fun n hn=>by rw[avP];omega
 have eX:(X:Int)/4294967296=((X/4294967296:Nat):Int):=by omega
 have eY:(Y:Int)/4294967296=((Y/4294967296:Nat):Int):=by omega
 unfold afk
 simp only[p32,fdv (show(0:Int)≤4294967296 by decide),Ws X hX,Ws Y hY,eX,eY]
 have hXY:X*Y=X/4294967296*(Y/4294967296)*18446744073709551616+(X/4294967296*(Y%4294967296)+X%4294967296*(Y/4294967296))*4294967296+X%4294967296*(Y%4294967296):=by
  have a:=Nat.div_add_mod X 4294967296
  have b:=Nat.div_add_mod Y 4294967296
  generalize X/4294967296=x1 at*
  generalize X%4294967296=x0 at*
  generalize Y/4294967296=y1 at*
  generalize Y%4294967296=y0 at*
  subst a b
  grind
 have x0:X%4294967296≤4294967295:=by omega
 have y0:Y%4294967296≤4294967295:=by omega
 have x1:X/4294967296≤4294967295:=by omega
 have y1:Y/4294967296≤4294967295:=by omega
 have q00:=aw1 x0 y0
 have q10:=aw1 x1 y0
 have q01:=aw1 x0 y1
 have q11:=aw1 x1 y1
 simp only[←awh]
 rw[hXY]
 generalize X%4294967296*(Y%4294967296)=p00 at*
 generalize X/4294967296*(Y%4294967296)=p10 at*
 generalize X%4294967296*(Y/4294967296)=p01 at*
 generalize X/4294967296*(Y/4294967296)=p11 at*
 have t0:u64.wrap (u64.wrap (p10:Int)+u64.wrap (p00:Int)/4294967296)=((p10+p00/4294967296:Nat):Int):=by
  rw[wn p10 (by omega),wn p00 (by omega),show(p10:Int)+(p00:Int)/4294967296=((p10+p00/4294967296:Nat):Int) by omega,wn _ (by omega)]
 rw[t0,Ws _ (by omega)]
 have t1:u64.wrap (((p10+p00/4294967296)%4294967296:Nat)+u64.wrap (p01:Int))=(((p10+p00/4294967296)%4294967296+p01:Nat):Int):=by
  rw[wn p01 (by omega),←Int.natCast_add,wn _ (by omega)]
 rw[t1,wn p11 (by omega)]
 rw[auQ (show ¬(32:Int)<0 by decide)]
 dsimp only
 have hi:u64.wrap (u64.wrap ((p11:Int)+((p10+p00/4294967296:Nat):Int)/4294967296)+(((p10+p00/4294967296)%4294967296+p01:Nat):Int)/4294967296)=((p11*18446744073709551616+(p10+p01)*4294967296+p00:Nat):Int)/18446744073709551616:=by
  rw[avP,avP]
  omega
 rw[hi,avP]
def CG:aM:=spN false true [ayb] (fun x=>decide (bU x.1)) (fun x=>[RV.d (.int .u64) (hid ((x.1.natAbs:Int)))])
theorem xE:SpK 276 CG:=spX fun x h=>by simp only[am];exact adG x.1 (auN h)
def D9:aM:=spN false true [(.int .u64),(.int .u64)] (fun x=>decide (gP x.1∧gP x.2.1)) (fun x=>[RV.d (.int .u64) (hid (x.1*x.2.1/18446744073709551616)),RV.d (.int .u64) (hid (x.1*x.2.1%18446744073709551616))])
theorem yk:SpK 275 D9:=spX fun x h=>by simp only[am];exact acZ x.1 x.2.1 (auN h)
def afQ:Env:=(276,CG)::(275,D9)::xI
theorem RA:EnvAll Tryz.prog afQ:=⟨xE,yk,mA⟩
def arS:Ctx:=CX afQ []
def ahL(x y:Int)(_k:KT):OLR:=let y1:=hid ((x.natAbs:Int));let y2:=hid ((y.natAbs:Int));let y3:=hid (y1*y2/18446744073709551616);let y4:=hid (y1*y2%18446744073709551616);let y5:=u64.wrap (BitVec.toNat (BitVec.ofInt 64 (u64.wrap (y3*2^(min (48:Int).toNat 64))) ||| BitVec.ofInt 64 (Int.fdiv y4 (2^(min (16:Int).toNat 64)))));let y6:=i64.wrap y5;let y7:=i64.wrap (y6+1);let y8:=i64.wrap (0-y7);let y9:=i64.wrap (0-y6);let y10:=decide (y9≤2305843009213693952);match decide (bU x)with|true=>(match decide (bU y)with|true=>(match decide (gP y1∧gP y2)with|true=>(match decide (16<(0:Int))with|true=>none|false=>(match(Int.fdiv y3 (2^(min (16:Int).toNat 64))) !=0 with|true=>some [RV.d ayb 0,RV.d ayb 0,RV.d .bool false]|false=>(match decide (48<(0:Int))with|true=>none|false=>(match decide (16<(0:Int))with|true=>none|false=>(match decide (y5>2305843009213693952)with|true=>some [RV.d ayb 0,RV.d ayb 0,RV.d .bool false]|false=>(match(u64.wrap (BitVec.toNat (BitVec.ofInt 64 y4&&&BitVec.ofInt 64 65535))) !=0 with|true=>(match !((decide (x<0))==(decide (y<0)))with|true=>(match decide (y8≥(-2305843009213693952))with|true=>some [RV.d ayb y8,RV.d ayb y9,RV.d .bool y10]|false=>some [RV.d ayb y8,RV.d ayb y9,RV.d .bool false])|false=>(match decide (y6≥(-2305843009213693952))with|true=>some [RV.d ayb y6,RV.d ayb y7,RV.d .bool (decide (y7≤2305843009213693952))]|false=>some [RV.d ayb y6,RV.d ayb y7,RV.d .bool false]))|false=>(match !((decide (x<0))==(decide (y<0)))with|true=>(match decide (y9≥(-2305843009213693952))with|true=>some [RV.d ayb y9,RV.d ayb y9,RV.d .bool y10]|false=>some [RV.d ayb y9,RV.d ayb y9,RV.d .bool false])|false=>(match decide (y6≥(-2305843009213693952))with|true=>some [RV.d ayb y6,RV.d ayb y6,RV.d .bool (decide (y6≤2305843009213693952))]|false=>some [RV.d ayb y6,RV.d ayb y6,RV.d .bool false]))))))))|false=>none)|false=>none)|false=>none
theorem ass(x y:Int):RS arS 257 [SI x,SI y] (ahL x y):=rsX
theorem abh(x y:Int)(h:scP x y):Con Tryz.prog 257 [.d ayb x,.d ayb y] [.d ayb ((scF x y).1.1),.d ayb ((scF x y).1.2),.d .bool ((scF x y).2)]:=by
 refine aO RA (ass _ _ ⟨0,?_⟩)
 obtain⟨hx,hy⟩:=h
 have h1:bU x:=⟨by omega,by omega⟩
 have h2:bU y:=⟨by omega,by omega⟩
 have h3:gP (x.natAbs:Int)∧gP (y.natAbs:Int):=⟨⟨by omega,by omega⟩,⟨by omega,by omega⟩⟩
 unfold ahL scF
 simp only[am]
 rw[dT h1,dT h2,dT h3]
 have hp:=aw1 hx hy
 simp only[←awh,p16,p48,fdv (show(0:Int)≤65536 by decide)]
 generalize x.natAbs*y.natAbs=p at*
 rw[auQ (show ¬(16:Int)<0 by decide),auQ (show ¬(48:Int)<0 by decide),show(p:Int)/18446744073709551616=((p/18446744073709551616:Nat):Int) by omega,show(p:Int)%18446744073709551616=((p%18446744073709551616:Nat):Int) by omega,show((p%18446744073709551616:Nat):Int)/65536=((p%18446744073709551616/65536:Nat):Int) by omega,ary _ (by omega),show p%18446744073709551616%65536=p%65536 by omega]
 by_cases hc:p≥1208925819614629174706176
 ·rw[auO hc,show(((p/18446744073709551616:Nat):Int)/65536 !=0)=true by simp;omega]
  rfl
 ·rw[auQ hc,show(((p/18446744073709551616:Nat):Int)/65536 !=0)=false by simp;omega,aud (by omega) (by omega),show p/18446744073709551616*281474976710656+p%18446744073709551616/65536=p/65536 by omega]
  have hdm:=Nat.div_add_mod p 65536
  have hml:=axI p (show 65536>0 by decide)
  have hru:(p+65535)/65536=if p%65536=0 then p/65536 else p/65536+1:=by split<;>omega
  rw[hru]
  clear hru
  generalize p/65536=q at*
  generalize p%65536=m at*
  have e1:decide ((q:Int)>2305843009213693952)=decide (q>2305843009213693952):=awl.2 (by omega)
  rw[e1]
  by_cases hd:q>2305843009213693952
  ·rw[auO hd]
   rfl
  rw[auQ hd,bz (x:=(q:Int)) (by omega) (by omega),bz (x:=(q:Int)+1) (by omega) (by omega),bz (x:=0-(q:Int)) (by omega) (by omega),bz (x:=0-((q:Int)+1)) (by omega) (by omega)]
  have e2:((m:Int) !=0)=!decide (m=0):=by by_cases h:m=0<;>simp[h]
  have e3:decide (0-(q:Int)≥ -2305843009213693952)=true:=auO (by omega)
  have e4:decide (0-(q:Int)≤2305843009213693952)=true:=auO (by omega)
  have e5:decide ((q:Int)≥ -2305843009213693952)=true:=auO (by omega)
  have e6:decide ((q:Int)≤2305843009213693952)=true:=auO (by omega)
  have e7:decide (0-((q:Int)+1)≥ -2305843009213693952)=decide (q+1≤2305843009213693952):=awl.2 (by omega)
  have e8:decide ((q:Int)+1≤2305843009213693952)=decide (q+1≤2305843009213693952):=awl.2 (by omega)
  have e9:decide (q≤2305843009213693952)=true:=auO (by omega)
  rw[e2,e3,e4,e5,e6,e7,e8]
  have f2:((q+1:Nat):Int)=(q:Int)+1:=by omega
  have f3:decide (m=0)=true→m=0:=auN
  have f4:decide (m=0)=false→m≠0:=av0
  generalize decide (m=0)=d2 at*
  generalize (decide (x<0)==decide (y<0))=d3 at*
  cases d2
  ·rw[avf (f4 rfl),f2]
   generalize decide (q+1≤2305843009213693952)=d4 at*
   cases d3<;>cases d4<;>simp
  ·rw[avn (f3 rfl),e9]
   cases d3<;>simp
def b9(r:Rt):Iv×Bool:=
 bif !(frF r.1).2||decide (r.2.1=0)then frF r.1
 else bif !(frF r.2.1).2||!(frF r.2.2).2||decide (r.2.2<0)then(iv0,false)
 else bif !(sqF (frF r.2.2).1).2 then(iv0,false)
 else bif !(cW (frF r.2.1).1 (sqF (frF r.2.2).1).1).2 then(iv0,false)
 else dJ (frF r.1).1 (cW (frF r.2.1).1 (sqF (frF r.2.2).1).1).1
def iH(n:Rat)(a:Iv)(k:Bool):Iv×Bool:=bif !k||!(frF n).2 then(iv0,false)else cW (frF n).1 a
def apF(a b:Rt):Int×Bool:=
 bif !(b9 a).2||!(b9 b).2 then(0,false)else bif decide ((b9 a).1.2<(b9 b).1.1)then(-1,true)else bif decide ((b9 a).1.1>(b9 b).1.2)then(1,true)else(0,false)
abbrev Pt:=Rat×Rat×Rat×Rat×Rat
abbrev Ln:=Rat×Rat×Rat
def pxR(p:Pt):Rt:=(p.1,p.2.1,p.2.2.2.2)
def pyR(p:Pt):Rt:=(p.2.2.1,p.2.2.2.1,p.2.2.2.2)
def ve(l:Ln)(p:Pt):Int×Bool:=
 bif !(iH l.1 (b9 (pxR p)).1 (b9 (pxR p)).2).2||!(iH l.2.1 (b9 (pyR p)).1 (b9 (pyR p)).2).2||!(frF l.2.2).2 then(0,false)
 else bif !(dJ (iH l.1 (b9 (pxR p)).1 (b9 (pxR p)).2).1 (iH l.2.1 (b9 (pyR p)).1 (b9 (pyR p)).2).1).2 then(0,false)
 else bif !(dJ (dJ (iH l.1 (b9 (pxR p)).1 (b9 (pxR p)).2).1 (iH l.2.1 (b9 (pyR p)).1 (b9 (pyR p)).2).1).1 (lV (frF l.2.2).1)).2 then(0,false)
 else sgF (dJ (dJ (iH l.1 (b9 (pxR p)).1 (b9 (pxR p)).2).1 (iH l.2.1 (b9 (pyR p)).1 (b9 (pyR p)).2).1).1 (lV (frF l.2.2).1)).1
def fh(r:Rt)(q:Rat):Iv×Bool:=bif !(b9 r).2||!(frF q).2 then(iv0,false)else dJ (b9 r).1 (lV (frF q).1)
def tb(c:Ln)(p:Pt):Int×Bool:=
 bif !(fh (pxR p) c.1).2||!(fh (pyR p) c.2.1).2||!(frF c.2.2).2 then(0,false)
 else bif !(cW (fh (pxR p) c.1).1 (fh (pxR p) c.1).1).2||!(cW (fh (pyR p) c.2.1).1 (fh (pyR p) c.2.1).1).2 then(0,false)
 else bif !(dJ (cW (fh (pxR p) c.1).1 (fh (pxR p) c.1).1).1 (cW (fh (pyR p) c.2.1).1 (fh (pyR p) c.2.1).1).1).2 then(0,false)
 else bif !(dJ (dJ (cW (fh (pxR p) c.1).1 (fh (pxR p) c.1).1).1 (cW (fh (pyR p) c.2.1).1 (fh (pyR p) c.2.1).1).1).1 (lV (frF c.2.2).1)).2 then(0,false)
 else sgF (dJ (dJ (cW (fh (pxR p) c.1).1 (fh (pxR p) c.1).1).1 (cW (fh (pyR p) c.2.1).1 (fh (pyR p) c.2.1).1).1).1 (lV (frF c.2.2).1)).1
def sfF(m:Rat):Iv:=(sqF (frF m).1).1
def mfF(b:Rat)(i:Iv):Iv:=(cW (frF b).1 i).1
def qu1(q:Qd):Bool:=(frF q.2.2.2.2.1).2&&(sqF (frF q.2.2.2.2.1).1).2&&(frF q.2.2.2.2.2).2&&(sqF (frF q.2.2.2.2.2).1).2
def qu2(q:Qd):Bool:=(frF q.2.1).2&&(cW (frF q.2.1).1 (sfF q.2.2.2.2.1)).2&&(frF q.2.2.1).2&&(cW (frF q.2.2.1).1 (sfF q.2.2.2.2.2)).2&&(frF q.2.2.2.1).2&&(cW (sfF q.2.2.2.2.1) (sfF q.2.2.2.2.2)).2&&(cW (frF q.2.2.2.1).1 (cW (sfF q.2.2.2.2.1) (sfF q.2.2.2.2.2)).1).2
def quA(q:Qd):Iv×Bool:=dJ (frF q.1).1 (mfF q.2.1 (sfF q.2.2.2.2.1))
def quB(q:Qd):Iv×Bool:=dJ (mfF q.2.2.1 (sfF q.2.2.2.2.2)) (mfF q.2.2.2.1 (cW (sfF q.2.2.2.2.1) (sfF q.2.2.2.2.2)).1)
def qu3(q:Qd):Bool:=(frF q.1).2&&(quA q).2&&(quB q).2&&(dJ (quA q).1 (quB q).1).2
def quF(q:Qd):Int×Bool:=bif !(qu1 q)then(0,false)else bif !(qu2 q)then(0,false)else bif !(qu3 q)then(0,false)else sgF (dJ (quA q).1 (quB q).1).1
theorem yh(r:Rt):prI (b9 r).1:=by
 unfold b9
 cases !(frF r.1).2||decide (r.2.1=0)
 ·cases !(frF r.2.1).2||!(frF r.2.2).2||decide (r.2.2<0)
  ·cases !(sqF (frF r.2.2).1).2
   ·cases !(cW (frF r.2.1).1 (sqF (frF r.2.2).1).1).2
    ·exact RE.addF_pr (RE.frF_pr _) (tL _ _)
    ·exact fQ
   ·exact fQ
  ·exact fQ
 ·exact RE.frF_pr _
theorem abF(n:Rat)(a:Iv)(k:Bool):prI (iH n a k).1:=by
 unfold iH
 cases !k||!(frF n).2
 ·exact tL _ _
 ·exact fQ
theorem abS(r:Rt)(q:Rat):prI (fh r q).1:=by
 unfold fh
 cases !(b9 r).2||!(frF q).2
 ·exact RE.addF_pr (yh _) (RE.negF_pr (RE.frF_pr _))
 ·exact fQ
namespace RE
theorem pn{r:Rt}(h:(b9 r).2=true):inI (b9 r).1 (v2 r.1 r.2.1 r.2.2):=by
 unfold b9 at h ⊢
 cases e1:(frF r.1).2
 ·rw[e1]at h
  simp only[Bool.not_false,Bool.true_or,cond_true]at h
  rw[e1]at h
  cases h
 ·rw[e1]at h
  by_cases hb:r.2.1=0
  ·rw[auO hb]at h ⊢
   simp only[Bool.not_true,Bool.false_or,cond_true]
   unfold v2
   rw[hb,qX,zero_mul,add_zero]
   exact im e1
  ·rw[auQ hb]at h ⊢
   cases e2:(frF r.2.1).2<;>cases e3:(frF r.2.2).2<;>cases e4:decide (r.2.2<0)<;>rw[e2,e3,e4]at h<;>try (cases h;done)
   cases e5:(sqF (frF r.2.2).1).2<;>rw[e5]at h<;>try (cases h;done)
   cases e6:(cW (frF r.2.1).1 (sqF (frF r.2.2).1).1).2<;>rw[e6]at h<;>try (cases h;done)
   have hn:(0:RE)≤of r.2.2:=ou.2 (by have:=av0 e4;grind)
   exact jW (im e1) (lG (im e2) (zz (im e3) hn e5) e6) h
theorem Mp{n:Rat}{a:Iv}{k:Bool}{x:RE}(ha:k=true→inI a x)(h:(iH n a k).2=true):inI (iH n a k).1 (of n*x):=by
 unfold iH at h ⊢
 cases k
 ·cases h
 ·cases e:(frF n).2<;>rw[e]at h
  ·cases h
  ·exact lG (im e) (ha rfl) h
theorem MV{r:Rt}{q:Rat}(h:(fh r q).2=true):inI (fh r q).1 (v2 r.1 r.2.1 r.2.2+ -of q):=by
 unfold fh at h ⊢
 cases e1:(b9 r).2<;>cases e2:(frF q).2<;>rw[e1,e2]at h<;>try (cases h;done)
 exact jW (pn e1) (DJ (im e2)) h
theorem OM(x y:RE):((y-(x)))+((x-y-(0)))=0:=by
 induction x using auM
 induction y using auM
 exact snd fun n=>by
  simp only[RL.add,RL.neg,RL.const]
  grind
theorem ach(x y:RE)(h1:x<y):x-y<0:=iS.1 fun hg=>far (aT (aX h1) (aQ hg)) (OM x y)
theorem asL(u x y a b:RE):((b-(a)))+((a-(u*x)))+((u*y-(b)))+((u-(0))*(x-(y)))=0:=by
 induction u using auM
 induction x using auM
 induction y using auM
 induction a using auM
 induction b using auM
 exact snd fun n=>by
  simp only[RL.add,RL.mul,RL.neg,RL.const]
  grind
theorem ap1(u x y a b:RE)(h1:0<u)(h2:u*x≤a)(h3:a<b)(h4:b≤u*y):x<y:=iS.1 fun hg=>far (aT (aT (aT (aX h3) (aQ h2)) (aQ h4)) (cZ (le_of_lt (aX h1)) (aQ hg))) (asL u x y a b)
theorem apF_ok{a b:Rt}(h:(apF a b).2=true):(apF a b).1=sg (vR a-vR b):=by
 unfold apF at h ⊢
 cases e1:(b9 a).2<;>cases e2:(b9 b).2<;>rw[e1,e2]at h<;>try (cases h;done)
 obtain⟨a1,a2⟩:=pn e1
 obtain⟨b1,b2⟩:=pn e2
 cases e3:decide ((b9 a).1.2<(b9 b).1.1)<;>rw[e3]at h
 ·cases e4:decide ((b9 a).1.1>(b9 b).1.2)<;>rw[e4]at h
  ·cases h
  ·have h4:of ((b9 b).1.2:Rat)<of ((b9 a).1.1:Rat):=jz (axl.2 (auN e4))
   exact(gv (aX (ap1 _ _ _ _ _ ow b2 h4 a1))).symm
 ·have h4:of ((b9 a).1.2:Rat)<of ((b9 b).1.1:Rat):=jz (axl.2 (auN e3))
  exact(jN (ach _ _ (ap1 _ _ _ _ _ ow a2 h4 b1))).symm
theorem adH{l:Ln}{p:Pt}(h:(ve l p).2=true):(ve l p).1=sg (of l.1*v2 p.1 p.2.1 p.2.2.2.2+of l.2.1*v2 p.2.2.1 p.2.2.2.1 p.2.2.2.2+ -of l.2.2):=by
 unfold ve at h ⊢
 cases e1:(iH l.1 (b9 (pxR p)).1 (b9 (pxR p)).2).2<;>cases e2:(iH l.2.1 (b9 (pyR p)).1 (b9 (pyR p)).2).2<;>cases e3:(frF l.2.2).2<;>rw[e1,e2,e3]at h<;>try (cases h;done)
 have i1:=Mp (x:=v2 p.1 p.2.1 p.2.2.2.2) (fun e=>pn (r:=pxR p) e) e1
 have i2:=Mp (x:=v2 p.2.2.1 p.2.2.2.1 p.2.2.2.2) (fun e=>pn (r:=pyR p) e) e2
 revert h i1 i2
 generalize iH l.1 (b9 (pxR p)).1 (b9 (pxR p)).2=X
 generalize iH l.2.1 (b9 (pyR p)).1 (b9 (pyR p)).2=Y
 intro h i1 i2
 cases e4:(dJ X.1 Y.1).2<;>rw[e4]at h<;>try (cases h;done)
 cases e5:(dJ (dJ X.1 Y.1).1 (lV (frF l.2.2).1)).2<;>rw[e5]at h<;>try (cases h;done)
 exact JF (jW (jW i1 i2 e4) (DJ (im e3)) e5) h
theorem aax{c:Ln}{p:Pt}(h:(tb c p).2=true):(tb c p).1=sg ((v2 p.1 p.2.1 p.2.2.2.2+ -of c.1)*(v2 p.1 p.2.1 p.2.2.2.2+ -of c.1)+(v2 p.2.2.1 p.2.2.2.1 p.2.2.2.2+ -of c.2.1)*(v2 p.2.2.1 p.2.2.2.1 p.2.2.2.2+ -of c.2.1)+ -of c.2.2):=by
 unfold tb at h ⊢
 cases e1:(fh (pxR p) c.1).2<;>cases e2:(fh (pyR p) c.2.1).2<;>cases e3:(frF c.2.2).2<;>rw[e1,e2,e3]at h<;>try (cases h;done)
 have i1:=MV e1
 have i2:=MV e2
 revert h
 generalize fh (pxR p) c.1=X at*
 generalize fh (pyR p) c.2.1=Y at*
 intro h
 cases e4:(cW X.1 X.1).2<;>cases e5:(cW Y.1 Y.1).2<;>rw[e4,e5]at h<;>try (cases h;done)
 cases e6:(dJ (cW X.1 X.1).1 (cW Y.1 Y.1).1).2<;>rw[e6]at h<;>try (cases h;done)
 cases e7:(dJ (dJ (cW X.1 X.1).1 (cW Y.1 Y.1).1).1 (lV (frF c.2.2).1)).2<;>rw[e7]at h<;>try (cases h;done)
 exact JF (jW (jW (lG i1 i1 e4) (lG i2 i2 e5) e6) (DJ (im e3)) e7) h
theorem anK(a b c d:RE):a+b+(c+d)=a+b+c+d:=by
 induction a using auM
 induction b using auM
 induction c using auM
 induction d using auM
 exact snd fun n=>by
  simp only[RL.add]
  grind
theorem quF_ok{q:Qd}(hM:0≤q.2.2.2.2.1)(hN:0≤q.2.2.2.2.2)(h:(quF q).2=true):(quF q).1=sg (vQ q.1 q.2.1 q.2.2.1 q.2.2.2.1 q.2.2.2.2.1 q.2.2.2.2.2):=by
 unfold quF at h ⊢
 cases e1:qu1 q<;>rw[e1]at h<;>try (cases h;done)
 cases e2:qu2 q<;>rw[e2]at h<;>try (cases h;done)
 cases e3:qu3 q<;>rw[e3]at h<;>try (cases h;done)
 unfold qu1 at e1
 unfold qu2 at e2
 unfold qu3 at e3
 simp only[auW]at e1 e2 e3
 obtain⟨⟨⟨a1,a2⟩,a3⟩,a4⟩:=e1
 obtain⟨⟨⟨⟨⟨⟨b1,b2⟩,b3⟩,b4⟩,b5⟩,b6⟩,b7⟩:=e2
 obtain⟨⟨⟨c1,c2⟩,c3⟩,c4⟩:=e3
 have i1:inI (sfF q.2.2.2.2.1) (rq q.2.2.2.2.1):=zz (im a1) (ou.2 hM) a2
 have i2:inI (sfF q.2.2.2.2.2) (rq q.2.2.2.2.2):=zz (im a3) (ou.2 hN) a4
 have hq:inI (dJ (quA q).1 (quB q).1).1 (vQ q.1 q.2.1 q.2.2.1 q.2.2.2.1 q.2.2.2.2.1 q.2.2.2.2.2):=by
  have:=jW (jW (im c1) (lG (im b1) i1 b2) c2) (jW (lG (im b3) i2 b4) (lG (im b5) (lG i1 i2 b6) b7) c3) c4
  rw[anK]at this
  exact this
 exact JF hq h
end RE
theorem TW{z:Int}(h:bU z):okI (aj z):=bK (by have:=jQ h;omega)
theorem M5{n:Int}(h:En n):0≤d8 n∧d8 n≤2305843009213693952:=by
 obtain⟨h0,h1⟩:=h
 unfold d8
 obtain⟨g0,g1,g2⟩:=fT (z:=n*65536) (by omega)
 refine⟨g0,?_⟩
 rcases avt 2305843009213693952 (ce (n*65536))with h|h
 ·have:2305843009213693952*2305843009213693952≤ce (n*65536)*ce (n*65536):=aw2 (by omega) (by omega) (by omega) (by omega)
  omega
 ·exact h
theorem UI{a b:Iv}(ha:prI a)(hb:prI b){x y:Int}(hx:x=a.1∨x=a.2)(hy:y=b.1∨y=b.2):scP x y:=by
 obtain⟨a1,a2,a3⟩:=ha
 obtain⟨b1,b2,b3⟩:=hb
 constructor
 ·rcases hx with rfl|rfl<;>omega
 ·rcases hy with rfl|rfl<;>omega
theorem ath{α:Type}(b:Bool)(x y:α):(match b with|true=>x|false=>y)=bif b then x else y:=by cases b<;>rfl
def TR:aM:=spN false true [ayb] (fun x=>decide (bU x.1)) (fun x=>[RV.d tI (hid (aj x.1))])
theorem Zi:SpK 206 TR:=spX fun x h=>by simp only[am];exact MN x.1 (auN h)
def EH:aM:=spN false true [tR] (fun x=>decide (ok Rat 200000 x.1)) (fun x=>[RV.d tG (hid ((frF (ae x.1)).1)),RV.d .bool ((frF (ae x.1)).2)])
theorem yE:SpK 221 EH:=spX fun x h=>by simp only[am];exact adC x.1 (auN h)
def Et:aM:=spN false true [tG,tG] (fun x=>decide (prI x.1∧prI x.2.1)) (fun x=>[RV.d tG (hid ((dJ x.1 x.2.1).1)),RV.d .bool ((dJ x.1 x.2.1).2)])
theorem zv:SpK 223 Et:=spX fun x h=>by simp only[am];exact aav x.1 x.2.1 (auN h)
def DY:aM:=spN false true [tG] (fun x=>decide (prI x.1)) (fun x=>[RV.d tG (hid (lV x.1))])
theorem Ah:SpK 224 DY:=spX fun x h=>by simp only[am];exact ab1 x.1 (auN h)
def Is:aM:=spN false true [ayb,ayb] (fun x=>decide (scP x.1 x.2.1)) (fun x=>[RV.d ayb ((scF x.1 x.2.1).1.1),RV.d ayb ((scF x.1 x.2.1).1.2),RV.d .bool ((scF x.1 x.2.1).2)])
theorem Gn:SpK 257 Is:=spX fun x h=>abh x.1 x.2.1 (auN h)
def MA:Env:=[(151,lg),(76,kC),(145,sC),(255,EB),(254,Ke),(196,IE),(147,kX),(149,Kf),(282,Jk),(148,I9),(206,TR),(256,Cz),(221,EH),(223,Et),(224,DY),(276,CG),(275,D9),(257,Is)]
theorem xT:EnvAll Tryz.prog MA:=⟨gj,gk,mu,yC,Gw,Ga,gG,Hx,Fo,FG,Zi,zt,yE,zv,Ah,xE,yk,Gn,trivial⟩
def ajm:NT:=[((222,8),{keep:=[3,4,6,7,19,20,21],hl:=4}),((222,22),{keep:=[3,4,6,7,9,19,20,21,29,30,31],hl:=5})]
def pp:Ctx:=CX MA ajm
def sL(a b:(Int×Int))(s21 s6 s7:Int):Cfg:=⟨222,[.blk 0,.seq 46],[(3,.box 1 0),(4,.box 2 0),(6,SI s6),(7,SI s7),(19,.own 3),(20,SI (([a.1,a.2]).length:Int)),(21,SI s21)],[.box 188 [SI a.1,SI a.2],.box 188 [SI b.1,SI b.2],.box 188 [SI 0,SI 0],.row 2 ayb ([a.1,a.2])],0,[]⟩
def re(a b:(Int×Int))(s21 x1 s6 s7 s31:Int):Cfg:=⟨222,[.blk 2,.blk 1,.seq 45,.lp 8,.blk 0,.seq 46],[(3,.box 1 0),(4,.box 2 0),(6,SI s6),(7,SI s7),(9,SI x1),(19,.own 3),(20,SI (([a.1,a.2]).length:Int)),(21,SI s21),(29,.own 4),(30,SI (([b.1,b.2]).length:Int)),(31,SI s31)],[.box 188 [SI a.1,SI a.2],.box 188 [SI b.1,SI b.2],.box 188 [SI 0,SI 0],.row 2 ayb ([a.1,a.2]),.row 2 ayb ([b.1,b.2])],0,[]⟩
def anG(a b:(Int×Int))(k:KT):OLR:=k 8 (sL a b 0 2305843009213693952 (-2305843009213693952))
theorem as8(a b:(Int×Int)):RS pp 222 [.d tG a,.d tG b] (anG a b):=rsX
def yi(a b:(Int×Int))(s21 s6 s7:Int)(k:KT):OLR:=match decide (s21<(([a.1,a.2]).length:Int))with|true=>(match bi ([a.1,a.2]) s21 with|some _=>(match true,([a.1,a.2])[(s21).toNat]? with|true,some x1=>k 22 (re a b s21 x1 s6 s7 0)|_,_=>none)|none=>none)|false=>some [RV.d tG (s6,s7),RV.d .bool true]
theorem Fg(a b:(Int×Int))(s21 s6 s7:Int):RN pp 8 (sL a b s21 s6 s7) (yi a b s21 s6 s7):=rnX
def qR(a b:(Int×Int))(s21 x1 s6 s7 s31:Int)(k:KT):OLR:=match decide (s31<(([b.1,b.2]).length:Int))with|true=>(match bi ([b.1,b.2]) s31 with|some _=>(match true,([b.1,b.2])[(s31).toNat]? with|true,some x2=>(match decide (scP x1 x2)with|true=>(match !((scF x1 x2).2)with|true=>some [RV.d tG (0,0),RV.d .bool false]|false=>k 22 (re a b s21 x1 (if(scF x1 x2).1.1<s6 then(scF x1 x2).1.1 else s6) (if(scF x1 x2).1.2>s7 then(scF x1 x2).1.2 else s7) (i64.wrap (s31+1))))|false=>none)|_,_=>none)|none=>none)|false=>k 8 (sL a b (i64.wrap (s21+1)) s6 s7)
theorem wb(a b:(Int×Int))(s21 x1 s6 s7 s31:Int):RN pp 22 (re a b s21 x1 s6 s7 s31) (qR a b s21 x1 s6 s7 s31):=rnX
theorem Rf(a b:Iv)(ha:prI a)(hb:prI b)(s21 x:Int)(hx:x=a.1∨x=a.2)(s:Iv)(r:List RV)(h:∀s2:Iv×Bool,s2=hZ (hZ (s,true) x b.1) x b.2→bif s2.2 then pp.Runs 8 (sL a b (i64.wrap (s21+1)) s2.1.1 s2.1.2) r else r=[RV.d tG (0,0),RV.d .bool false]):
  pp.Runs 22 (re a b s21 x s.1 s.2 0) r:=by
 have h:=h _ rfl
 refine wb _ _ _ _ _ _ _ ?_
 unfold qR
 have g1:decide ((0:Int)<(([b.1,b.2]).length:Int))=true:=by simp
 have g2:decide ((1:Int)<(([b.1,b.2]).length:Int))=true:=by simp
 have g3:decide ((2:Int)<(([b.1,b.2]).length:Int))=false:=by simp
 rw[g1]
 simp only[show bi [b.1,b.2] 0=some b.1 from rfl,show [b.1,b.2][(0:Int).toNat]?=some b.1 from rfl,dT (UI ha hb hx (.inl rfl))]
 cases e1:(scF x b.1).2
 ·rw[show hZ (hZ (s,true) x b.1) x b.2=(iv0,false) by unfold hZ;rw[e1];rfl]at h
  exact⟨0,by rw[h];rfl⟩
 ·try dsimp only[Bool.not_true]
  have e0:hZ (s,true) x b.1=((if(scF x b.1).1.1<s.1 then(scF x b.1).1.1 else s.1,if(scF x b.1).1.2>s.2 then(scF x b.1).1.2 else s.2),true):=by unfold hZ;rw[e1];rfl
  rw[e0]at h
  suffices hh:pp.Runs 22 (re a b s21 x (if(scF x b.1).1.1<s.1 then(scF x b.1).1.1 else s.1) (if(scF x b.1).1.2>s.2 then(scF x b.1).1.2 else s.2) (i64.wrap (0+1))) r by
   obtain⟨n,hn⟩:=hh
   exact⟨n,hn⟩
  rw[show i64.wrap (0+1)=1 by decide]
  refine wb _ _ _ _ _ _ _ ?_
  unfold qR
  rw[g2]
  simp only[show bi [b.1,b.2] 1=some b.2 from rfl,show [b.1,b.2][(1:Int).toNat]?=some b.2 from rfl,dT (UI ha hb hx (.inr rfl))]
  cases e2:(scF x b.2).2
  ·unfold hZ at h
   rw[e2]at h
   exact⟨0,by rw[show r=[RV.d tG (0,0),RV.d .bool false] from h];rfl⟩
  ·try dsimp only[Bool.not_true]
   unfold hZ at h
   rw[e2]at h
   simp only[auT,cond_true]at h
   suffices hh:pp.Runs 22 (re a b s21 x _ _ (i64.wrap (1+1))) r by
    obtain⟨n,hn⟩:=hh
    exact⟨n,hn⟩
   rw[show i64.wrap (1+1)=2 by decide]
   refine wb _ _ _ _ _ _ _ ?_
   unfold qR
   rw[g3]
   obtain⟨n,hn⟩:=h
   exact⟨n,hn⟩
theorem Kw(a b:Iv)(ha:prI a)(hb:prI b)(x i:Int)(hi:(i=0∧x=a.1)∨(i=1∧x=a.2))(s:Iv)(r:List RV)(h:∀s2:Iv×Bool,s2=hZ (hZ (s,true) x b.1) x b.2→bif s2.2 then pp.Runs 8 (sL a b (i+1) s2.1.1 s2.1.2) r else r=[RV.d tG (0,0),RV.d .bool false]):
  pp.Runs 8 (sL a b i s.1 s.2) r:=by
 refine Fg _ _ _ _ _ ?_
 unfold yi
 rcases hi with⟨rfl,rfl⟩|⟨rfl,rfl⟩
 ·obtain⟨n,hn⟩:=Rf a b ha hb 0 a.1 (.inl rfl) s r (by rw[show i64.wrap (0+1)=0+1 by decide];exact h)
  exact⟨n,hn⟩
 ·obtain⟨n,hn⟩:=Rf a b ha hb 1 a.2 (.inr rfl) s r (by rw[show i64.wrap (1+1)=1+1 by decide];exact h)
  exact⟨n,hn⟩
theorem VS{s:Iv×Bool}{x y:Int}(h:s.2=false):hZ s x y=(iv0,false):=by unfold hZ;rw[h];rfl
theorem anM{s:Iv×Bool}(h:s.2=true):s=(s.1,true):=by rw[←h]
theorem aeW(a b:(Int×Int))(h:prI a∧prI b):Con Tryz.prog 222 [.d tG a,.d tG b] [.d tG ((cW a b).1),.d .bool ((cW a b).2)]:=by
 obtain⟨ha,hb⟩:=h
 refine aO xT (show pp.Res _ _ _ from ?_)
 refine as8 _ _ ?_
 suffices hh:pp.Runs 8 (sL a b 0 2305843009213693952 (-2305843009213693952)) [.d tG (cW a b).1,.d .bool (cW a b).2] by
  obtain⟨n,hn⟩:=hh
  exact⟨n,hn⟩
 refine Kw a b ha hb a.1 0 (.inl ⟨rfl,rfl⟩) (2305843009213693952,-2305843009213693952) _ fun s1 e1=>?_
 have hm:cW a b=hZ (hZ s1 a.2 b.1) a.2 b.2:=by rw[e1];rfl
 cases c1:s1.2
 ·rw[hm,VS (VS c1▸rfl)]
  rfl
 ·rw[cond_true]
  refine Kw a b ha hb a.2 1 (.inr ⟨rfl,rfl⟩) s1.1 _ fun s2 e2=>?_
  rw[←anM c1,←hm]at e2
  cases c2:s2.2
  ·rw[←e2]
   rw[show s2=(iv0,false) by
    rw[e2,hm]
    rw[e2,hm]at c2
    unfold hZ at c2 ⊢
    revert c2
    cases(_:Bool)&&(scF a.2 b.2).2
    ·intro _;rfl
    ·intro h;cases h]
   rfl
  ·rw[cond_true,←e2]
   refine Fg _ _ _ _ _ ⟨0,?_⟩
   unfold yi
   rw[show decide ((1+1:Int)<(([a.1,a.2]).length:Int))=false from by simp,c2]
def EO:aM:=spN false true [tG,tG] (fun x=>decide (prI x.1∧prI x.2.1)) (fun x=>[RV.d tG (hid ((cW x.1 x.2.1).1)),RV.d .bool ((cW x.1 x.2.1).2)])
theorem zB:SpK 222 EO:=spX fun x h=>by simp only[am];exact aeW x.1 x.2.1 (auN h)
def aqy:Ctx:=CX MA []
def afY(n:Int)(_k:KT):OLR:=match decide (bU n)with|true=>(match decide (bU (65536:Int))with|true=>(match decide (okI (hid (aj n))∧okI (hid (aj (65536:Int))))with|true=>(match decide (okI (hid (aj (ag (hid (aj n))*ag (hid (aj (65536:Int)))))))with|true=>(match decide (okI (hid (fJ (hid (aj (ag (hid (aj n))*ag (hid (aj (65536:Int)))))))))with|true=>(match decide (okI (hid (fJ (hid (aj (ag (hid (aj n))*ag (hid (aj (65536:Int))))))))∧okI (hid (fJ (hid (aj (ag (hid (aj n))*ag (hid (aj (65536:Int)))))))))with|true=>(match decide (okI (hid (aj (ag (hid (fJ (hid (aj (ag (hid (aj n))*ag (hid (aj (65536:Int))))))))*ag (hid (fJ (hid (aj (ag (hid (aj n))*ag (hid (aj (65536:Int)))))))))))∧okI (hid (aj (ag (hid (aj n))*ag (hid (aj (65536:Int)))))))with|true=>some [RV.d ayb (bif decide (bU (ag (hid (fJ (hid (aj (ag (hid (aj n))*ag (hid (aj (65536:Int))))))))))then ag (hid (fJ (hid (aj (ag (hid (aj n))*ag (hid (aj (65536:Int))))))))else 0),RV.d .bool ((cJ (ag (hid (aj (ag (hid (fJ (hid (aj (ag (hid (aj n))*ag (hid (aj (65536:Int))))))))*ag (hid (fJ (hid (aj (ag (hid (aj n))*ag (hid (aj (65536:Int)))))))))))) (ag (hid (aj (ag (hid (aj n))*ag (hid (aj (65536:Int))))))))==0)]|false=>none)|false=>none)|false=>none)|false=>none)|false=>none)|false=>none)|false=>none
theorem ast(n:Int):RS aqy 277 [SI n] (afY n):=rsX
theorem abH(n:Int)(h:En n):Con Tryz.prog 277 [.d ayb n] [.d ayb (d8 n),.d .bool (decide (d8 n*d8 n=n*65536))]:=by
 refine aO xT (ast _ ⟨0,?_⟩)
 have hr:=M5 h
 obtain⟨h0,h1⟩:=h
 have i1:bU n:=⟨by omega,by omega⟩
 have i2:bU 65536:=by decide
 have o1:okI (aj (n*65536)):=bK (by have:=c9 (jQ i1) (jQ i2);omega)
 have o2:okI (aj (d8 n)):=TW ⟨by omega,by omega⟩
 have o3:okI (aj (d8 n*d8 n)):=bK (by have:=c9 (jQ (n:=d8 n) ⟨by omega,by omega⟩) (jQ (n:=d8 n) ⟨by omega,by omega⟩);omega)
 have o4:okI (aj n)∧okI (aj 65536):=⟨TW i1,TW i2⟩
 have o5:okI (aj (d8 n))∧okI (aj (d8 n)):=⟨o2,o2⟩
 have o6:okI (aj (d8 n*d8 n))∧okI (aj (n*65536)):=⟨o3,o1⟩
 have o7:bU (d8 n):=⟨by omega,by omega⟩
 unfold afY
 simp only[am,dec_enc,dT i1,dT i2,dT o4,dT o1,Dj o1]
 have e:ce (n*65536)=d8 n:=rfl
 simp only[e,dT o2,dT o5,dT o6,dT o7,cond_true,mO]
def SH:aM:=spN false true [ayb] (fun x=>decide (En x.1)) (fun x=>[RV.d ayb (d8 x.1),RV.d .bool (decide (d8 x.1*d8 x.1=x.1*65536))])
theorem RR:SpK 277 SH:=spX fun x h=>abH x.1 (auN h)
def X0:Env:=(222,EO)::(277,SH)::MA
theorem FK:EnvAll Tryz.prog X0:=⟨zB,RR,xT⟩
def anB:Ctx:=CX X0 []
def agZ(a:(Int×Int))(_k:KT):OLR:=match decide (a.2<0)with|true=>some [RV.d tG (0,0),RV.d .bool false]|false=>(match decide (En (if 0>a.1 then 0 else a.1))with|true=>(match decide (En a.2)with|true=>(match !(decide (d8 a.2*d8 a.2=a.2*65536))with|true=>some [RV.d tG (hid ((mN (d8 (if 0>a.1 then 0 else a.1)) (i64.wrap ((d8 a.2)+1))).1)),RV.d .bool ((mN (d8 (if 0>a.1 then 0 else a.1)) (i64.wrap ((d8 a.2)+1))).2)]|false=>some [RV.d tG (hid ((mN (d8 (if 0>a.1 then 0 else a.1)) (d8 a.2)).1)),RV.d .bool ((mN (d8 (if 0>a.1 then 0 else a.1)) (d8 a.2)).2)])|false=>none)|false=>none)
theorem aq8(a:(Int×Int)):RS anB 258 [.d tG a] (agZ a):=rsX
theorem adc(a:(Int×Int))(h:prI a):Con Tryz.prog 258 [.d tG a] [.d tG ((sqF a).1),.d .bool ((sqF a).2)]:=by
 refine aO FK (aq8 _ ⟨0,?_⟩)
 obtain⟨a1,a2,a3⟩:=h
 unfold agZ sqF
 cases hn:decide (a.2<0)
 ·have hn:=av0 hn
  have r2:En a.2:=⟨by omega,by omega⟩
  have r1:En (if 0>a.1 then 0 else a.1):=⟨by split<;>omega,by split<;>omega⟩
  have b2:=M5 r2
  simp only[dT r1,dT r2,am,bz (x:=d8 a.2+1) (by omega) (by omega)]
  cases decide (d8 a.2*d8 a.2=a.2*65536)<;>rfl
 ·rfl
def In:aM:=spN false true [tG] (fun x=>decide (prI x.1)) (fun x=>[RV.d tG (hid ((sqF x.1).1)),RV.d .bool ((sqF x.1).2)])
theorem G5:SpK 258 In:=spX fun x h=>by simp only[am];exact adc x.1 (auN h)
def MY:Env:=(258,In)::X0
theorem yY:EnvAll Tryz.prog MY:=⟨G5,FK⟩
def apZ:Ctx:=CX MY []
def ahx(r:BO3)(_k:KT):OLR:=match decide (ok Rat 200000 r.1)with|true=>(match !((frF (ae r.1)).2)with|true=>some [RV.d tG (hid ((frF (ae r.1)).1)),RV.d .bool ((frF (ae r.1)).2)]|false=>(match decide (okR r.2.1)with|true=>(match(aR (ae r.2.1) 0)==0 with|true=>some [RV.d tG (hid ((frF (ae r.1)).1)),RV.d .bool ((frF (ae r.1)).2)]|false=>(match decide (ok Rat 200000 r.2.1)with|true=>(match decide (ok Rat 200000 r.2.2)with|true=>(match !((frF (ae r.2.1)).2)with|true=>some [RV.d tG (0,0),RV.d .bool false]|false=>(match !((frF (ae r.2.2)).2)with|true=>some [RV.d tG (0,0),RV.d .bool false]|false=>(match decide (okR r.2.2)with|true=>(match decide ((aR (ae r.2.2) 0)<0)with|true=>some [RV.d tG (0,0),RV.d .bool false]|false=>(match decide (prI (hid ((frF (ae r.2.2)).1)))with|true=>(match !((sqF (hid ((frF (ae r.2.2)).1))).2)with|true=>some [RV.d tG (0,0),RV.d .bool false]|false=>(match decide (prI (hid ((frF (ae r.2.1)).1))∧prI (hid ((sqF (hid ((frF (ae r.2.2)).1))).1)))with|true=>(match !((cW (hid ((frF (ae r.2.1)).1)) (hid ((sqF (hid ((frF (ae r.2.2)).1))).1))).2)with|true=>some [RV.d tG (0,0),RV.d .bool false]|false=>(match decide (prI (hid ((frF (ae r.1)).1))∧prI (hid ((cW (hid ((frF (ae r.2.1)).1)) (hid ((sqF (hid ((frF (ae r.2.2)).1))).1))).1)))with|true=>some [RV.d tG (hid ((dJ (hid ((frF (ae r.1)).1)) (hid ((cW (hid ((frF (ae r.2.1)).1)) (hid ((sqF (hid ((frF (ae r.2.2)).1))).1))).1))).1)),RV.d .bool ((dJ (hid ((frF (ae r.1)).1)) (hid ((cW (hid ((frF (ae r.2.1)).1)) (hid ((sqF (hid ((frF (ae r.2.2)).1))).1))).1))).2)]|false=>none))|false=>none))|false=>none))|false=>none)))|false=>none)|false=>none))|false=>none))|false=>none
theorem aof(r:BO3):RS apZ 226 [.d tO r] (ahx r):=rsX
theorem acB(r:BO3)(h:ok Rt 100000 r):Con Tryz.prog 226 [.d tO r] [.d tG ((b9 (dec r)).1),.d .bool ((b9 (dec r)).2)]:=by
 refine aO yY (aof _ ⟨0,?_⟩)
 have hr:=h
 obtain⟨r,rfl,br⟩:=aY hr
 have p1:prI (frF r.1).1:=RE.frF_pr _
 have p2:prI (frF r.2.1).1:=RE.frF_pr _
 have p3:prI (frF r.2.2).1:=RE.frF_pr _
 have p4:prI (sqF (frF r.2.2).1).1:=RE.sqF_pr p3
 have p5:prI (cW (frF r.2.1).1 (sqF (frF r.2.2).1).1).1:=tL _ _
 unfold ahx
 simp only[am,aq,aH,aI,aF,az,aD,aZ,Nat.reduceLeDiff,aE,aG,dT p3,dT (show prI (frF r.2.1).1∧prI (sqF (frF r.2.2).1).1 from⟨p2,p4⟩),dT (show prI (frF r.1).1∧prI (cW (frF r.2.1).1 (sqF (frF r.2.2).1).1).1 from⟨p1,p5⟩)]
 unfold b9
 clear p1 p2 p3 p4 p5
 generalize frF r.1=A
 generalize frF r.2.1=B
 generalize frF r.2.2=C
 generalize sqF C.1=S
 generalize cW B.1 S.1=M
 generalize dJ A.1 M.1=U
 obtain⟨_,a⟩:=A
 obtain⟨_,b⟩:=B
 obtain⟨_,c⟩:=C
 obtain⟨_,s⟩:=S
 obtain⟨_,m⟩:=M
 cases a<;>cases decide (r.2.1=0)<;>cases b<;>cases c<;>cases decide (r.2.2<0)<;>cases s<;>cases m<;>rfl
def anU:Ctx:=CX MY []
def agP(a:(Int×Int))(_k:KT):OLR:=match decide (a.1>0)with|true=>some [RV.d ayb 1,RV.d .bool true]|false=>(match decide (a.2<0)with|true=>some [RV.d ayb (-1),RV.d .bool true]|false=>(match a.1==0 with|true=>some [RV.d ayb 0,RV.d .bool (a.2==0)]|false=>some [RV.d ayb 0,RV.d .bool false]))
theorem anx(a:(Int×Int)):RS anU 225 [.d tG a] (agP a):=rsX
theorem ace(a:(Int×Int)):Con Tryz.prog 225 [.d tG a] [.d ayb ((sgF a).1),.d .bool ((sgF a).2)]:=by
 refine aO yY (anx _ ⟨0,?_⟩)
 unfold agP sgF
 cases decide (a.1>0)<;>cases decide (a.2<0)<;>try rfl
 by_cases e1:a.1=0
 ·rw[auO e1,show(a.1==0)=true by simp[e1]]
  by_cases e2:a.2=0
  ·rw[auO e2,show(a.2==0)=true by simp[e2]];rfl
  ·rw[auQ e2,show(a.2==0)=false by simp[e2]];rfl
 ·rw[auQ e1,show(a.1==0)=false by simp[e1]];rfl
def zS:aM:=spN false true [tO] (fun x=>decide (ok Rt 100000 x.1)) (fun x=>[RV.d tG (hid ((b9 (dec x.1)).1)),RV.d .bool ((b9 (dec x.1)).2)])
theorem ti:SpK 226 zS:=spX fun x h=>by simp only[am];exact acB x.1 (auN h)
def EG:aM:=spN false true [tG] (fun _=>true) (fun x=>[RV.d ayb ((sgF x.1).1),RV.d .bool ((sgF x.1).2)])
theorem zm:SpK 225 EG:=spX fun x _=>ace x.1
def agV:Env:=(226,zS)::(225,EG)::MY
theorem XX:EnvAll Tryz.prog agV:=⟨ti,zm,yY⟩
def ao6:Ctx:=CX agV []
def agH(n:BR)(a:(Int×Int))(g:Bool)(_k:KT):OLR:=match decide (ok Rat 200000 n)with|true=>(match !g with|true=>some [RV.d tG (0,0),RV.d .bool false]|false=>(match !((frF (ae n)).2)with|true=>some [RV.d tG (0,0),RV.d .bool false]|false=>(match decide (prI (hid ((frF (ae n)).1))∧prI a)with|true=>some [RV.d tG (hid ((cW (hid ((frF (ae n)).1)) a).1)),RV.d .bool ((cW (hid ((frF (ae n)).1)) a).2)]|false=>none)))|false=>none
theorem aql(n:BR)(a:(Int×Int))(g:Bool):RS ao6 227 [.d tR n,.d tG a,SB g] (agH n a g):=rsX
theorem abs(n:BR)(a:(Int×Int))(g:Bool)(h:ok Rat 100000 n∧prI a):Con Tryz.prog 227 [.d tR n,.d tG a,.d .bool g] [.d tG ((iH (ae n) a g).1),.d .bool ((iH (ae n) a g).2)]:=by
 refine aO XX (aql _ _ _ ⟨0,?_⟩)
 obtain⟨hn,ha⟩:=h
 obtain⟨n,rfl,bn⟩:=aY hn
 unfold agH
 simp only[am,aF,az,aD,Nat.reduceLeDiff,dT (show prI (frF n).1∧prI a from⟨RE.frF_pr _,ha⟩)]
 unfold iH
 generalize frF n=A
 obtain⟨_,q⟩:=A
 cases g<;>cases q<;>rfl
section
section
variable {u:Nat} {w w':World} {size n:Nat} {v:Value} {xs:List Value}
end
section
variable {P:Program} {fn:Func} {R:Ending→World→Prop} {B:Code} {K:List KI} {i:Nat} {a:Act} {w:World}
end
end
section
section
variable {P:Program} {a:Act} {w:World}
end
end
theorem yx{w w1 w2:World}{o:Option Nat}(h:w.grownBy w1 o)(hb:Below w1.heap.size w1 w2):w.grownBy w2 o:=
 ⟨hb.os.trans h.os,hb.tape.trans h.tape,hb.output.trans h.output,ava h.size hb.size,fun i hi hn=>(hb.block i (aww hi h.size)).trans (h.block i hi hn)⟩
theorem ur{w w1 w2:World}{c b:Nat}(h:w.grownBy w1 (some c))(hu:Upd w1 w2 b)(hb:b=c∨w.heap.size≤b):w.grownBy w2 (some c):=
 ⟨hu.os.trans h.os,hu.tape.trans h.tape,hu.output.trans h.output,by rw[hu.size];exact h.size,fun i hi hn=>(hu.block i (fun e=>by
  subst e
  rcases hb with hb|hb
  ·subst hb;exact hn rfl
  ·omega)).trans (h.block i hi hn)⟩
def acU:Code:=Tryz.f278.body.getD .skip
set_option maxRecDepth 100000 in
theorem Oc:arp Tryz.prog 278 232:=by
 intro w c b ok x y _ hc
 have hB:w.grownBy w (some c):=World.grownBy.refl _ _
 have hlt:=hc.lt
 refine enter (B:=acU) (args:=[.pointer (some ⟨c,0,none⟩),.agg #[.int .i64 x,.int .i64 y],.bool ok]) Tryz.func278 (by kernel_rfl) (by kernel_rfl) ?_
 rw[show Tryz.f278.ntmps=18 from by kernel_rfl]
 intro a hs
 replace hs:=hs.pick (ts:=[0,1,2]) (L':=[(0,.pointer (some ⟨c,0,none⟩)),(1,.agg #[.int .i64 x,.int .i64 y]),(2,.bool ok)]) (by kernel_rfl)
 refine z7 (j:=2) (by kernel_rfl) ?_
 refine m9 (id:=0) (by kernel_rfl) ?_
 refine vt hs (by kernel_rfl) (apr (t:=188) (cs:= #[.int .i64 x,.int .i64 y]) (fun rb_=>.pointer (some ⟨rb_,0,none⟩)) [0,2,4] (fun rb_=>[(0,.pointer (some ⟨c,0,none⟩)),(2,.bool ok),(4,.pointer (some ⟨rb_,0,none⟩))]) hs (fun _=>by kernel_rfl) (fun _=>by kernel_rfl) ?_)
 clear hs a;intro a w1 b1 hn hs
 have B1:=hn.blk
 have l1:w.heap.size≤b1:=by rw[hn.at_];exact hB.size
 replace hc:=hc.below hn.below hc.lt
 replace hB:=yx hB hn.below
 clear hn
 refine vt hs (by kernel_rfl) (apr (t:=188) (cs:= #[.int .i64 0,.int .i64 0]) (fun rb_=>.pointer (some ⟨rb_,0,none⟩)) [0,2,4,6] (fun rb_=>[(0,.pointer (some ⟨c,0,none⟩)),(2,.bool ok),(4,.pointer (some ⟨b1,0,none⟩)),(6,.pointer (some ⟨rb_,0,none⟩))]) hs (fun _=>by kernel_rfl) (fun _=>by kernel_rfl) ?_)
 clear hs a;intro a w2 b2 hn hs
 have B2:=hn.blk
 have l2:w.heap.size≤b2:=by rw[hn.at_];exact hB.size
 have l2':b1<b2:=by rw[hn.at_];exact B1.lt
 replace hc:=hc.below hn.below hc.lt
 replace B1:=B1.below hn.below B1.lt
 replace hB:=yx hB hn.below
 clear hn
 refine qj (by kernel_rfl) ?_
 refine mh rfl ?_
 refine z7 (j:=4) (by kernel_rfl) ?_
 refine m9 (id:=1) (by kernel_rfl) ?_
 refine uF (m:=6) (H:=[(4,none,[.bool b])]) (ts:=[2,4,6,7,12]) (L':=[(2,.bool ok),(4,.pointer (some ⟨b1,0,none⟩)),(6,.pointer (some ⟨b2,0,none⟩)),(7,.pointer (some ⟨c,0,none⟩)),(12,.bool b)]) (O:=fun w=>(w.cell? ⟨c,0,none⟩=some (.bool b))∧True) hs (by kernel_rfl) ⟨hc.cell 0 rfl,trivial⟩ ?_
 clear hs a;intro a hs
 rcases Bool.eq_false_or_eq_true (b)with hb|hb
 ·replace hs:=hs.know (t:=12) rfl hb
  have cd1:=hb;have cd1b:=hb;clear hb
  replace hs:=hs.pick (ts:=[2,4,6,7,12]) (L':=[(2,.bool ok),(4,.pointer (some ⟨b1,0,none⟩)),(6,.pointer (some ⟨b2,0,none⟩)),(7,.pointer (some ⟨c,0,none⟩)),(12,.bool true)]) (by kernel_rfl)
  refine uF (m:=4) (H:=[]) (ts:=[4,6,14,16]) (L':=[(4,.pointer (some ⟨b1,0,none⟩)),(6,.pointer (some ⟨b2,0,none⟩)),(14,.bool ok),(16,.pointer (some ⟨c,0,none⟩))]) (O:=fun w=>True) hs (by kernel_rfl) trivial ?_
  clear hs a;intro a hs
  refine vt hs (by kernel_rfl) (DI (b:=c) (cs:= #[.bool b]) #[.bool ok] [(0,.bool ok)] [4,6] [(4,.pointer (some ⟨b1,0,none⟩)),(6,.pointer (some ⟨b2,0,none⟩))] hs hc (by kernel_rfl) ⟨auZ rfl,trivial,trivial⟩ rfl (by kernel_rfl) ?_)
  clear hs a;intro a w3 hc' hu hs
  replace hc:=hc';clear hc'
  replace B1:=hu.blk B1 (by omega)
  replace B2:=hu.blk B2 (by omega)
  replace hB:=ur hB hu (by omega)
  clear hu
  refine qj (by kernel_rfl) ?_
  refine mh rfl ?_
  refine z7 (j:=6) (by kernel_rfl) ?_
  refine m9 (id:=2) (by kernel_rfl) ?_
  refine uF (m:=1) (H:=[(0,none,[.int .i64 x,.int .i64 y])]) (ts:=[6,17]) (L':=[(6,.pointer (some ⟨b2,0,none⟩)),(17,.agg #[.int .i64 x,.int .i64 y])]) (O:=fun w=>(w.cell? ⟨b1,0,none⟩=some (.int .i64 x))∧(w.cell? ⟨b1,1,none⟩=some (.int .i64 y))∧True) hs (by kernel_rfl) ⟨B1.cell 0 rfl,B1.cell 1 rfl,trivial⟩ ?_
  clear hs a;intro a hs
  refine vt hs (by kernel_rfl) (DI (b:=b2) (cs:= #[.int .i64 0,.int .i64 0]) #[.int .i64 x,.int .i64 y] [(0,.int .i64 x),(1,.int .i64 y)] [6] [(6,.pointer (some ⟨b2,0,none⟩))] hs B2 (by kernel_rfl) ⟨auZ rfl,trivial,⟨auZ rfl,trivial,trivial⟩⟩ rfl (by kernel_rfl) ?_)
  clear hs a;intro a w4 B2' hu hs
  replace B2:=B2';clear B2'
  replace hc:=hu.blk hc (by omega)
  replace B1:=hu.blk B1 (by omega)
  replace hB:=ur hB hu (by omega)
  clear hu
  refine qj (by kernel_rfl) ?_
  refine mh rfl ?_
  refine Io (by kernel_rfl) ?_
  refine WF (vs:=[.agg #[.int .i64 x,.int .i64 y]]) (H:=[.int .i64 x,.int .i64 y]) (v:=.agg #[.int .i64 x,.int .i64 y]) (O:=fun w=>(w.cell? ⟨b2,0,none⟩=some (.int .i64 x))∧(w.cell? ⟨b2,1,none⟩=some (.int .i64 y))∧True) hs (by kernel_rfl) rfl ⟨B2.cell 0 rfl,B2.cell 1 rfl,trivial⟩ ?_
  exact⟨rfl,by rw[cd1];exact hc,hB⟩
 ·replace hs:=hs.know (t:=12) rfl hb
  have cd1:=hb;have cd1b:=hb;clear hb
  replace hs:=hs.pick (ts:=[2,4,6,7,12]) (L':=[(2,.bool ok),(4,.pointer (some ⟨b1,0,none⟩)),(6,.pointer (some ⟨b2,0,none⟩)),(7,.pointer (some ⟨c,0,none⟩)),(12,.bool false)]) (by kernel_rfl)
  refine uF (m:=4) (H:=[]) (ts:=[4,6,14,16]) (L':=[(4,.pointer (some ⟨b1,0,none⟩)),(6,.pointer (some ⟨b2,0,none⟩)),(14,.bool false),(16,.pointer (some ⟨c,0,none⟩))]) (O:=fun w=>True) hs (by kernel_rfl) trivial ?_
  clear hs a;intro a hs
  refine vt hs (by kernel_rfl) (DI (b:=c) (cs:= #[.bool b]) #[.bool false] [(0,.bool false)] [4,6] [(4,.pointer (some ⟨b1,0,none⟩)),(6,.pointer (some ⟨b2,0,none⟩))] hs hc (by kernel_rfl) ⟨auZ rfl,trivial,trivial⟩ rfl (by kernel_rfl) ?_)
  clear hs a;intro a w5 hc' hu hs
  replace hc:=hc';clear hc'
  replace B1:=hu.blk B1 (by omega)
  replace B2:=hu.blk B2 (by omega)
  replace hB:=ur hB hu (by omega)
  clear hu
  refine qj (by kernel_rfl) ?_
  refine mh rfl ?_
  refine z7 (j:=6) (by kernel_rfl) ?_
  refine m9 (id:=2) (by kernel_rfl) ?_
  refine uF (m:=1) (H:=[(0,none,[.int .i64 x,.int .i64 y])]) (ts:=[6,17]) (L':=[(6,.pointer (some ⟨b2,0,none⟩)),(17,.agg #[.int .i64 x,.int .i64 y])]) (O:=fun w=>(w.cell? ⟨b1,0,none⟩=some (.int .i64 x))∧(w.cell? ⟨b1,1,none⟩=some (.int .i64 y))∧True) hs (by kernel_rfl) ⟨B1.cell 0 rfl,B1.cell 1 rfl,trivial⟩ ?_
  clear hs a;intro a hs
  refine vt hs (by kernel_rfl) (DI (b:=b2) (cs:= #[.int .i64 0,.int .i64 0]) #[.int .i64 x,.int .i64 y] [(0,.int .i64 x),(1,.int .i64 y)] [6] [(6,.pointer (some ⟨b2,0,none⟩))] hs B2 (by kernel_rfl) ⟨auZ rfl,trivial,⟨auZ rfl,trivial,trivial⟩⟩ rfl (by kernel_rfl) ?_)
  clear hs a;intro a w6 B2' hu hs
  replace B2:=B2';clear B2'
  replace hc:=hu.blk hc (by omega)
  replace B1:=hu.blk B1 (by omega)
  replace hB:=ur hB hu (by omega)
  clear hu
  refine qj (by kernel_rfl) ?_
  refine mh rfl ?_
  refine Io (by kernel_rfl) ?_
  refine WF (vs:=[.agg #[.int .i64 x,.int .i64 y]]) (H:=[.int .i64 x,.int .i64 y]) (v:=.agg #[.int .i64 x,.int .i64 y]) (O:=fun w=>(w.cell? ⟨b2,0,none⟩=some (.int .i64 x))∧(w.cell? ⟨b2,1,none⟩=some (.int .i64 y))∧True) hs (by kernel_rfl) rfl ⟨B2.cell 0 rfl,B2.cell 1 rfl,trivial⟩ ?_
  exact⟨rfl,by rw[cd1];exact hc,hB⟩
def DM:aM:=spN false true [tO,tO] (fun x=>decide (ok Rt 15000 x.1∧ok Rt 15000 x.2.1)) (fun x=>[RV.d tQ (hid (enc (suT (dec x.1) (dec x.2.1))))])
theorem zD:SpK 231 DM:=spX fun x h=>by simp only[am];exact aaC x.1 x.2.1 (auN h)
def IA:aM:=spN false true [tR,tG,.bool] (fun x=>decide (ok Rat 100000 x.1∧prI x.2.1)) (fun x=>[RV.d tG (hid ((iH (ae x.1) x.2.1 x.2.2.1).1)),RV.d .bool ((iH (ae x.1) x.2.1 x.2.2.1).2)])
theorem GT:SpK 227 IA:=spX fun x h=>by simp only[am];exact abs x.1 x.2.1 x.2.2.1 (auN h)
def Ww:aM:={keep:=true,tame:=true,run:=fun _ _ _=>none,mut_:=some ⟨true,fun l=>l,some 232⟩}
theorem SQ:SpK 278 Ww:=by
 refine⟨by kernel_rfl,fun R args k r h=>(by cases h),fun g h=>?_⟩
 injection h with h
 subst h
 exact Oc
def afX:Env:=[(151,lg),(76,kC),(144,qb),(74,l4),(145,sC),(255,EB),(75,n6),(147,kX),(250,xH),(229,uX),(231,DM),(261,Kd),(256,Cz),(221,EH),(223,Et),(224,DY),(276,CG),(275,D9),(257,Is),(222,EO),(258,In),(226,zS),(225,EG),(227,IA),(278,Ww)]
theorem XS:EnvAll Tryz.prog afX:=⟨gj,gk,lj,il,mu,yC,jE,gG,sS,oR,zD,Hi,zt,yE,zv,Ah,xE,yk,Gn,zB,G5,ti,zm,GT,SQ,trivial⟩
def ajJ:NT:=[((259,5),{keep:=[1,4,13,14,17,20,21,24],hl:=0}),((259,7),{keep:=[1,4,5,25,26,29,32,33,36],hl:=0})]
def aps:Ctx:=CX afX ajJ
def ahK(q:BQ)(_k:KT):OLR:=let y1:=frF (ae q.2.2.2.2.1);let y2:=ok Rat 200000 q.2.2.2.2.2;let y3:=frF (ae q.2.2.2.2.2);let y4:=sqF (hid (y3.1));let y5:=hid ((frF (ae q.2.1)).1);let y6:=hid ((sqF (hid (y1.1))).1);let y7:=frF (ae q.2.2.1);let y8:=frF (ae q.2.2.2.1);let y9:=cW y6 (hid (y4.1));let y10:=cW (hid (y7.1)) (hid (y4.1));let y11:=cW (hid (y8.1)) (hid (y9.1));let y12:=hid ((frF (ae q.1)).1);let y13:=hid ((cW y5 y6).1);let y14:=hid ((dJ y12 y13).1);let y15:=dJ (hid (y10.1)) (hid (y11.1));let y16:=dJ y14 (hid (y15.1));let y17:OLR:=match decide (prI (hid (y3.1)))with|true=>some [RV.d ayb 0,RV.d .bool false]|false=>none;match decide (ok Rat 200000 q.2.2.2.2.1)with|true=>(match decide (prI (hid (y1.1)))with|true=>(match y1.2 with|true=>(match decide y2 with|true=>(match(sqF (hid (y1.1))).2 with|true=>(match decide (prI (hid (y3.1)))with|true=>(match y3.2 with|true=>(match !(y4.2)with|true=>some [RV.d ayb 0,RV.d .bool false]|false=>(match decide (ok Rat 200000 q.2.1)with|true=>(match decide (prI y5∧prI y6)with|true=>(match decide (ok Rat 200000 q.2.2.1)with|true=>(match decide (prI (hid (y7.1))∧prI (hid (y4.1)))with|true=>(match decide (ok Rat 200000 q.2.2.2.1)with|true=>(match decide (prI y6∧prI (hid (y4.1)))with|true=>(match decide (prI (hid (y8.1))∧prI (hid (y9.1)))with|true=>(match !(((((((y4.2&&(frF (ae q.2.1)).2)&&(cW y5 y6).2)&&y7.2)&&y10.2)&&y8.2)&&y9.2)&&y11.2)with|true=>some [RV.d ayb 0,RV.d .bool false]|false=>(match decide (ok Rat 200000 q.1)with|true=>(match decide (prI y12∧prI y13)with|true=>(match decide (prI (hid (y10.1))∧prI (hid (y11.1)))with|true=>(match decide (prI y14∧prI (hid (y15.1)))with|true=>(match !(((((((((((y4.2&&(frF (ae q.2.1)).2)&&(cW y5 y6).2)&&y7.2)&&y10.2)&&y8.2)&&y9.2)&&y11.2)&&(frF (ae q.1)).2)&&(dJ y12 y13).2)&&y15.2)&&y16.2)with|true=>some [RV.d ayb 0,RV.d .bool false]|false=>some [RV.d ayb ((sgF (hid (y16.1))).1),RV.d .bool ((sgF (hid (y16.1))).2)])|false=>none)|false=>none)|false=>none)|false=>none))|false=>none)|false=>none)|false=>none)|false=>none)|false=>none)|false=>none)|false=>none))|false=>some [RV.d ayb 0,RV.d .bool false])|false=>none)|false=>y17)|false=>none)|false=>(match decide y2 with|true=>y17|false=>none))|false=>none)|false=>none
theorem aq5(q:BQ):RS aps 259 [.d tQ q] (ahK q):=rsX
theorem abf(q:BQ)(h:okQ q):Con Tryz.prog 259 [.d tQ q] [.d ayb ((quF (dec q)).1),.d .bool ((quF (dec q)).2)]:=by
 refine aO XS (aq5 _ ⟨0,?_⟩)
 obtain⟨A,B,C,D,M,N,rfl,bA,bB,bC,bD,bM,bN,hM,hN⟩:=Jm h
 rw[aq]
 have pf:∀q,prI (frF q).1:=RE.frF_pr
 have pm:∀a b,prI (cW a b).1:=tL
 have ps:∀q,prI (sqF (frF q).1).1:=fun q=>RE.sqF_pr (pf q)
 have pa:∀{a b},prI a→prI b→prI (dJ a b).1:=fun ha hb=>RE.addF_pr ha hb
 have d1:∀q,decide (prI (frF q).1)=true:=fun q=>dT (pf q)
 have d2:∀q m,decide (prI (frF q).1∧prI (sqF (frF m).1).1)=true:=fun q m=>dT ⟨pf q,ps m⟩
 have d3:∀q m,decide (prI (sqF (frF q).1).1∧prI (sqF (frF m).1).1)=true:=fun q m=>dT ⟨ps q,ps m⟩
 have d4:∀q a b,decide (prI (frF q).1∧prI (cW a b).1)=true:=fun q a b=>dT ⟨pf q,pm a b⟩
 have d5:∀a b c d,decide (prI (cW a b).1∧prI (cW c d).1)=true:=fun a b c d=>dT ⟨pm a b,pm c d⟩
 have d6:∀q a b c d e f,decide (prI (dJ (frF q).1 (cW a b).1).1∧prI (dJ (cW c d).1 (cW e f).1).1)=true:=fun q a b c d e f=>dT ⟨pa (pf q) (pm a b),pa (pm c d) (pm e f)⟩
 unfold ahK
 simp only[am,aS,aF,az,aD,auR,auT,Nat.reduceLeDiff,auR,dT (pf _),dT (pm _ _),dT (ps _),dT (pa (pf _) (pm _ _)),dT (pa (pm _ _) (pm _ _))]
 unfold quF qu1 qu2 qu3 quA quB sfF mfF
 generalize frF M=FM
 generalize frF N=FN
 generalize sqF FM.1=SM
 generalize sqF FN.1=SN
 generalize frF A=FA
 generalize frF B=FB
 generalize frF C=FC
 generalize frF D=FD
 generalize cW FB.1 SM.1=MB
 generalize cW FC.1 SN.1=MC
 generalize cW SM.1 SN.1=MM
 generalize cW FD.1 MM.1=MD
 generalize dJ FA.1 MB.1=A1
 generalize dJ MC.1 MD.1=A2
 generalize dJ A1.1 A2.1=A3
 generalize sgF A3.1=S
 obtain⟨_,fm⟩:=FM
 obtain⟨_,fn⟩:=FN
 obtain⟨_,sm⟩:=SM
 obtain⟨_,sn⟩:=SN
 cases fm<;>cases sm<;>cases fn<;>cases sn<;>try rfl
 dsimp only
 simp only[auS,auT]
 generalize (FB.2&&MB.2&&FC.2&&MC.2&&FD.2&&MM.2&&MD.2)=c2
 cases c2
 ·rfl
 ·simp only[auS]
  generalize (FA.2&&A1.2&&A2.2&&A3.2)=c3
  cases c3<;>rfl
end Go.Proofs.YtgddhgcjmddjfaaGreat
end
