/- Intervals: sound for reals. -/
import Derived.Test.YtgddhgcjmddjfaaGreatC11
import Derived.Test.YtgddhgcjmddjfaaGreatC1
import Derived.Lib.LazyBuf
import Derived.Test.YtgddhgcjmddjfaaGreatC6
noncomputable section
namespace Go.Proofs.YtgddhgcjmddjfaaGreat
open Go.RowKit Go.IntKind
theorem avY:type_of% @Int.zero_sub:=@Int.zero_sub
theorem av1:type_of% @Rat.intCast_mul:=@Rat.intCast_mul
theorem awq:type_of% @Rat.intCast_lt_intCast:=@Rat.intCast_lt_intCast
namespace RE
theorem mC{a b:Int}(h:a≤b):of (a:Rat)≤of (b:Rat):=nW.2 (awp.2 h)
theorem ik{q:Rat}(h:(frF q).2=true):inI (frF q).1 (of q):=by
 have f1:((q*65536).floor:Rat)≤q*65536:=Rat.floor_le _
 have f2:((-(q*65536)).floor:Rat)≤ -(q*65536):=Rat.floor_le _
 unfold frF at h ⊢
 cases e1:decide (bO (q*65536).floor)
 ·rw[e1]at h;cases h
 ·cases e2:decide (bO (-(-(q*65536)).floor))
  ·rw[e1,e2]at h;cases h
  ·rw[e1,e2]at h
   simp only[cond_true]at h ⊢
   rw[DU h]
   refine⟨?_,?_⟩
   ·rw[←ck];exact nW.2 (by show(((q*65536).floor:Int):Rat)≤_;grind)
   ·rw[←ck];exact nW.2 (by show _≤((-(-(q*65536)).floor:Int):Rat);rw[Rat.intCast_neg];grind)
theorem frF_pr(q:Rat):prI (frF q).1:=by
 have f1:((q*65536).floor:Rat)≤q*65536:=Rat.floor_le _
 have f2:((-(q*65536)).floor:Rat)≤ -(q*65536):=Rat.floor_le _
 have f3:(q*65536).floor≤ -(-(q*65536)).floor:=by
  refine awp.1 ?_
  rw[Rat.intCast_neg]
  grind
 unfold frF
 cases decide (bO (q*65536).floor)
 ·exact fO
 ·cases decide (bO (-(-(q*65536)).floor))
  ·exact fO
  ·exact EB f3
theorem jO{a b:Iv}{x y:RE}(ha:inI a x)(hb:inI b y)(h:(dG a b).2=true):inI (dG a b).1 (x+y):=by
 unfold dG at h ⊢
 rw[DU h]
 refine⟨?_,?_⟩
 ·show of ((a.1+b.1:Int):Rat)≤_
  rw[Rat.intCast_add,of_add]
  exact adE _ _ _ _ _ ha.1 hb.1
 ·show _≤of ((a.2+b.2:Int):Rat)
  rw[Rat.intCast_add,of_add]
  exact aaa _ _ _ _ _ ha.2 hb.2
theorem addF_pr{a b:Iv}(ha:prI a)(hb:prI b):prI (dG a b).1:=EB (by have:=ha.2.1;have:=hb.2.1;omega)
theorem CN{a:Iv}{x:RE}(ha:inI a x):inI (lL a) (-x):=by
 refine⟨?_,?_⟩
 ·show of ((-a.2:Int):Rat)≤_
  rw[Rat.intCast_neg,of_neg]
  exact adU _ _ _ ha.2
 ·show _≤of ((-a.1:Int):Rat)
  rw[Rat.intCast_neg,of_neg]
  exact adj _ _ _ ha.1
theorem negF_pr{a:Iv}(ha:prI a):prI (lL a):=⟨by show _≤ -a.2;have:=ha.2.2;omega,by show-a.2≤ -a.1;have:=ha.2.1;omega,by show-a.1≤_;have:=ha.1;omega⟩
theorem lz{a b:Iv}{x y:RE}(ha:inI a x)(hb:inI b y)(h:(cV a b).2=true):inI (cV a b).1 (x*y):=by
 have hc:=aaZ h
 have c1:=hc a.1 b.1 (.inl rfl) (.inl rfl)
 have c2:=hc a.1 b.2 (.inl rfl) (.inr rfl)
 have c3:=hc a.2 b.1 (.inr rfl) (.inl rfl)
 have c4:=hc a.2 b.2 (.inr rfl) (.inr rfl)
 generalize (cV a b).1=m at*
 have up:∀{p q r:Int},p*65536≤q*r→of (p:Rat)*of 65536≤of (q:Rat)*of (r:Rat):=fun{p q r} h=>by
  have:=mC h
  rw[av1,av1,ck,ck]at this
  exact this
 have dn:∀{p q r:Int},q*r≤p*65536→of (q:Rat)*of (r:Rat)≤of (p:Rat)*of 65536:=fun{p q r} h=>by
  have:=mC h
  rw[av1,av1,ck,ck]at this
  exact this
 obtain⟨a1,a2⟩:=ha
 obtain⟨b1,b2⟩:=hb
 have l:of (m.1:Rat)*of 65536≤of 65536*x*(of 65536*y):=by
  rcases lt_or_ge (of 65536*y) 0 with v|v
  ·rcases lt_or_ge (of (a.2:Rat)) 0 with s|s
   ·exact asg _ _ _ _ _ (le_of_lt v) (le_of_lt s) a2 b2 (up c4.1)
   ·exact an6 _ _ _ _ _ (le_of_lt v) s a2 b1 (up c3.1)
  ·rcases lt_or_ge (of (a.1:Rat)) 0 with s|s
   ·exact arH _ _ _ _ _ v (le_of_lt s) a1 b2 (up c2.1)
   ·exact ar8 _ _ _ _ _ v s a1 b1 (up c1.1)
 have u:of 65536*x*(of 65536*y)≤of (m.2:Rat)*of 65536:=by
  rcases lt_or_ge (of 65536*y) 0 with v|v
  ·rcases lt_or_ge (of (a.1:Rat)) 0 with s|s
   ·exact aqX _ _ _ _ _ (le_of_lt v) (le_of_lt s) a1 b1 (dn c1.2)
   ·exact anU _ _ _ _ _ (le_of_lt v) s a1 b2 (dn c2.2)
  ·rcases lt_or_ge (of (a.2:Rat)) 0 with s|s
   ·exact ap2 _ _ _ _ _ v (le_of_lt s) a2 b1 (dn c3.2)
   ·exact aqn _ _ _ _ _ v s a2 b2 (dn c4.2)
 rw[aj6]at l u
 exact⟨agL _ _ _ nS l,agL _ _ _ nS u⟩
theorem amz(u s:RE):u*s*(u*s)=u*(s*s)*u:=by
 induction u using atR
 induction s using atR
 exact snd fun n=>by
  simp only[RL.mul]
  grind
theorem P5(r a u x:RE):((r-(u*x*u)))+((a*u-(r)))+((u*x-(a))*(u-(0)))=0:=by
 induction r using atR
 induction a using atR
 induction u using atR
 induction x using atR
 exact snd fun n=>by
  simp only[RL.add,RL.mul,RL.neg,RL.const]
  grind
theorem aiz(r a u x:RE)(h1:r≤a*u)(h2:a≤u*x)(h3:0<u):r≤u*x*u:=fun hg=>far (aU (aU (a8 hg) (aR h1)) (cW (aR h2) (le_of_lt (a8 h3)))) (P5 r a u x)
theorem QS(r a u x:RE):((u*x*u-(r)))+((r-(a*u)))+((a-(u*x))*(u-(0)))=0:=by
 induction r using atR
 induction a using atR
 induction u using atR
 induction x using atR
 exact snd fun n=>by
  simp only[RL.add,RL.mul,RL.neg,RL.const]
  grind
theorem Q2(r a u x:RE)(h1:a*u≤r)(h2:u*x≤a)(h3:0<u):u*x*u≤r:=fun hg=>far (aU (aU (a8 hg) (aR h1)) (cW (aR h2) (le_of_lt (a8 h3)))) (QS r a u x)
theorem sqF_pr{a:Iv}(ha:prI a):prI (sqF a).1:=by
 unfold sqF
 by_cases h:a.2<0
 ·rw[atT h];exact fO
 ·rw[atV h]
  simp only[cond_false]
  refine EB ?_
  have h1:(if 0>a.1 then 0 else a.1)≤a.2:=by have:=ha.2.1;split<;>omega
  have h0:0≤(if 0>a.1 then 0 else a.1):=by split<;>omega
  have hm:d8 (if 0>a.1 then 0 else a.1)≤d8 a.2:=by
   unfold d8
   obtain⟨_,g1,_⟩:=fT (z:=(if 0>a.1 then 0 else a.1)*65536) (by omega)
   obtain⟨g0,_,g2⟩:=fT (z:=a.2*65536) (by omega)
   have:=Go.Proofs.YtgddhgcjmddjfaaGreat.sq_lt (a:=b9 ((if 0>a.1 then 0 else a.1)*65536)) (b:=b9 (a.2*65536)+1) (by omega) (by omega)
   omega
  cases decide (d8 a.2*d8 a.2=a.2*65536)
  ·show _≤d8 a.2+1;omega
  ·exact hm
theorem yR{a:Iv}{x:RE}(ha:inI a x)(hx:0≤x)(h:(sqF a).2=true):inI (sqF a).1 (zG x):=by
 obtain⟨a1,a2⟩:=ha
 have hs:=Dh hx
 have s0:0≤of 65536*zG x:=cW (le_of_lt nS) (pZ x)
 have e:of 65536*zG x*(of 65536*zG x)=of 65536*x*of 65536:=by rw[amz,hs]
 unfold sqF at h ⊢
 cases hn:decide (a.2<0)
 ·rw[hn]at h
  simp only[cond_false]at h ⊢
  have h2:=au4 hn
  rw[DU h]
  obtain⟨p0,p1,p2⟩:=fT (z:=(if 0>a.1 then 0 else a.1)*65536) (by split<;>omega)
  obtain⟨q0,q1,q2⟩:=fT (z:=a.2*65536) (by omega)
  have cm:∀{p q:Int},p*p≤q*65536→of (p:Rat)*of (p:Rat)≤of (q:Rat)*of 65536:=fun{p q} h=>by
   have:=mC h
   rw[av1,av1,ck,ck]at this
   exact this
  have cn:∀{p q:Int},q*65536≤p*p→of (q:Rat)*of 65536≤of (p:Rat)*of (p:Rat):=fun{p q} h=>by
   have:=mC h
   rw[av1,av1,ck,ck]at this
   exact this
  have nn:∀{p:Int},0≤p→0≤of (p:Rat):=fun h=>mC h
  refine⟨?_,?_⟩
  ·show of ((d8 _:Int):Rat)≤_
   refine Zj _ _ (nn p0) s0 ?_
   rw[e]
   refine aiz _ (of (((if 0>a.1 then 0 else a.1:Int)):Rat)) _ _ (cm p1) ?_ nS
   split
   ·exact cW (le_of_lt nS) hx
   ·exact a1
  ·show _≤of (((bif _ then _ else _):Int):Rat)
   cases he:decide (d8 a.2*d8 a.2=a.2*65536)
   ·simp only[cond_false]
    refine Zj _ _ s0 (nn (by unfold d8;omega)) ?_
    rw[e]
    exact Q2 _ _ _ _ (cn (by unfold d8;omega)) a2 nS
   ·simp only[cond_true]
    refine Zj _ _ s0 (nn q0) ?_
    rw[e]
    exact Q2 _ _ _ _ (cn (by rw[atS he];exact Int.le_refl _)) a2 nS
 ·rw[hn]at h;cases h
theorem Jn{i:Iv}{x:RE}(hi:inI i x)(h:(sgF i).2=true):(sgF i).1=sg x:=by
 obtain⟨h1,h2⟩:=hi
 unfold sgF at h ⊢
 cases e1:decide (i.1>0)
 ·rw[e1]at h
  cases e2:decide (i.2<0)
  ·rw[e2]at h
   simp only[cond_false,at3,decide_eq_true_eq]at h ⊢
   rw[h.1]at h1
   rw[h.2]at h2
   have:of 65536*x=0:=le_antisymm h2 h1
   have:sg (of 65536*x)=0:=by rw[this,fV]
   rw[uQ,jr nS]at this
   omega
  ·have e:=atS e2
   have h3:of (i.2:Rat)<0:=jG (awq.2 e)
   simp only[cond_false,cond_true]
   have:sg (of 65536*x)= -1:=n4 (by
    rcases lt_or_ge (of 65536*x) 0 with h|h
    ·exact h
    ·exact absurd (le_trans h h2) (iK.2 h3))
   rw[uQ,jr nS]at this
   omega
 ·have e:=atS e1
  have h3:0<of (i.1:Rat):=jG (awq.2 e)
  simp only[cond_true]
  have:sg (of 65536*x)=1:=jr (by
   rcases lt_or_ge 0 (of 65536*x)with h|h
   ·exact h
   ·exact absurd (le_trans h1 h) (iK.2 h3))
  rw[uQ,jr nS]at this
  omega
end RE
abbrev Qd:=Rat×Rat×Rat×Rat×Rat×Rat
def sgQ(q:Qd):Int:=Dj q.1 q.2.1 q.2.2.1 q.2.2.2.1 q.2.2.2.2.1 q.2.2.2.2.2
def suT(x y:Rt):Qd:=(x.1-y.1,x.2.1,-y.2.1,0,x.2.2,y.2.2)
def gk(x:Rt)(q:Rat):Int:=fU (x.1-q) x.2.1 x.2.2
def okQ(q:BQ):Prop:=ok Rat 30001 q.1∧ok Rat 15000 q.2.1∧ok Rat 15000 q.2.2.1∧ok Rat 6000 q.2.2.2.1∧ok Rat 15000 q.2.2.2.2.1∧ok Rat 15000 q.2.2.2.2.2∧0≤ae q.2.2.2.2.1∧0≤ae q.2.2.2.2.2
instance (q:BQ):Decidable (okQ q):=by unfold okQ;infer_instance
theorem IL{q:BQ}(h:okQ q):∃A B C D M N:Rat,q=enc ((A,B,C,D,M,N):Qd)∧Bd A 30001∧Bd B 15000∧Bd C 15000∧Bd D 6000∧Bd M 15000∧Bd N 15000∧0≤M∧0≤N:=by
 obtain⟨A,B,C,D,M,N⟩:=q
 obtain⟨h1,h2,h3,h4,h5,h6,h7,h8⟩:=h
 obtain⟨a,ha,b1⟩:=aZ h1
 obtain⟨b,hb,b2⟩:=aZ h2
 obtain⟨c,hc,b3⟩:=aZ h3
 obtain⟨d,hd,b4⟩:=aZ h4
 obtain⟨m,hm,b5⟩:=aZ h5
 obtain⟨n,hn,b6⟩:=aZ h6
 dsimp only at ha hb hc hd hm hn h7 h8
 subst ha hb hc hd hm hn
 rw[aF,az]at h7 h8
 exact⟨a,b,c,d,m,n,rfl,b1,b2,b3,b4,b5,b6,h7,h8⟩
theorem agD{A B C D M N:Rat}{a b c d m n:Nat}[h1:Bd A a][h2:Bd B b][h3:Bd C c][h4:Bd D d][h5:Bd M m][h6:Bd N n][h7:Nn M][h8:Nn N](ha:a≤30001)(hb:b≤15000)(hc:c≤15000)(hd:d≤6000)(hm:m≤15000)(hn:n≤15000):decide (okQ (enc ((A,B,C,D,M,N):Qd)))=true:=
 atT ⟨atS (aD ha (by decide)),atS (aD hb (by decide)),atS (aD hc (by decide)),atS (aD hd (by decide)),atS (aD hm (by decide)),atS (aD hn (by decide)),by show 0≤ae (ai M);rw[az];exact h7.le,by show 0≤ae (ai N);rw[az];exact h8.le⟩
theorem I9{s t:Int}(hs: -1≤s∧s≤1)(ht: -1≤t∧t≤1):i64.wrap (s*t)=s*t:=by
 have:=Dk hs ht
 exact bz (by omega) (by omega)
theorem t5{a b m x y:Rat}:i64.wrap (fU a b m*aS x y)=fU a b m*aS x y:=I9 (lg _ _ _) (qr _ _)
theorem sR{a b m x y z:Rat}:i64.wrap (fU a b m*fU x y z)=fU a b m*fU x y z:=I9 (lg _ _ _) (lg _ _ _)
theorem GL(s t u:Int):(match s==0 with|true=>(match s==0 with|true=>some [RV.d axf t]|false=>some [RV.d axf s])|false=>(match t==0 with|true=>(match s==0 with|true=>some [RV.d axf t]|false=>some [RV.d axf s])|false=>(match s==t with|true=>(match s==0 with|true=>some [RV.d axf t]|false=>some [RV.d axf s])|false=>some [RV.d axf (s*u)])))=some [RV.d axf (RE.addS s t u)]:=by
 unfold RE.addS
 cases h1:s==0
 ·cases h2:t==0
  ·cases h3:s==t<;>rfl
  ·rfl
 ·have e:=avb.1 h1
  subst e
  cases h2:t==0
  ·cases h3:(0:Int)==t
   ·rfl
   ·rw[←avb.1 h3];rfl
  ·rw[avb.1 h2];rfl
theorem DR(s t u:Int):(match t==0 with|true=>some [RV.d axf s]|false=>(match s==t with|true=>some [RV.d axf s]|false=>(match s==0 with|true=>some [RV.d axf t]|false=>some [RV.d axf (s*u)])))=some [RV.d axf (RE.addS s t u)]:=by
 unfold RE.addS
 cases h2:t==0
 ·cases h3:s==t
  ·cases h1:s==0<;>rfl
  ·rfl
 ·rfl
def qE:aN:=spN true true [tR,tR] (fun x=>decide (okR x.1∧okR x.2.1)) (fun x=>[RV.d axf (aS (ae x.1) (ae x.2.1))])
theorem mB:SpK 92 qE:=spX fun x h=>WD x.1 x.2.1 (atS h)
def qw:aN:=spN false true [tR] (fun x=>decide (okR x.1)) (fun x=>[RV.d tR (hid (ai (-ae x.1)))])
theorem ma:SpK 169 qw:=spX fun x h=>by simp only[ak];exact Gj x.1 (atS h)
def EC:Env:=[(35,lE),(85,qk),(168,qv),(86,nC),(69,jI),(92,qE),(169,qw)]
theorem vH:EnvAll Tryz.prog EC:=⟨iC,lX,mg,jT,gN,mB,ma,trivial⟩
def ajF:Ctx:=CX EC []
def S4(a b c:BR)(_k:KT):Option (List RV):=match decide (okR a)with|true=>(match decide (okR b)with|true=>(match decide (okR c)with|true=>(match(aS (ae a) 0)==0 with|true=>(match(aS (ae a) 0)==0 with|true=>some [RV.d axf (i64.wrap ((aS (ae b) 0)*(aS (ae c) 0)))]|false=>some [RV.d axf (aS (ae a) 0)])|false=>(match(i64.wrap ((aS (ae b) 0)*(aS (ae c) 0)))==0 with|true=>(match(aS (ae a) 0)==0 with|true=>some [RV.d axf (i64.wrap ((aS (ae b) 0)*(aS (ae c) 0)))]|false=>some [RV.d axf (aS (ae a) 0)])|false=>(match(aS (ae a) 0)==(i64.wrap ((aS (ae b) 0)*(aS (ae c) 0)))with|true=>(match(aS (ae a) 0)==0 with|true=>some [RV.d axf (i64.wrap ((aS (ae b) 0)*(aS (ae c) 0)))]|false=>some [RV.d axf (aS (ae a) 0)])|false=>(match decide (okR a∧okR a)with|true=>(match decide (okR b∧okR b)with|true=>(match decide (okR (hid (ai (ae b*ae b)))∧okR c)with|true=>(match decide (okR (hid (ai (ae a*ae a)))∧okR (hid (ai (ae (hid (ai (ae b*ae b)))*ae c))))with|true=>some [RV.d axf (i64.wrap ((aS (ae a) 0)*(aS (ae (hid (ai (ae a*ae a)))) (ae (hid (ai (ae (hid (ai (ae b*ae b)))*ae c)))))))]|false=>none)|false=>none)|false=>none)|false=>none))))|false=>none)|false=>none)|false=>none
theorem akg(a b c:BR):RS ajF 218 [.d tR a,.d tR b,.d tR c] (S4 a b c):=rsX
theorem Uh(a b c:BR)(h:ok Rat 240000 a∧ok Rat 170000 b∧ok Rat 30000 c):Con Tryz.prog 218 [.d tR a,.d tR b,.d tR c] [.d axf (fU (ae a) (ae b) (ae c))]:=by
 refine aP vH (akg _ _ _ ⟨0,?_⟩)
 obtain⟨ha,hb,hc⟩:=h
 obtain⟨a,rfl,ba⟩:=aZ ha
 obtain⟨b,rfl,bb⟩:=aZ hb
 obtain⟨c,rfl,bc⟩:=aZ hc
 unfold S4
 simp only[ak,aF,az,aX,atW,atY,Nat.reduceAdd,Nat.reduceLeDiff,qb]
 exact GL _ _ _
def ali:Ctx:=CX EC []
def Xk(a b:BO3)(_k:KT):Option (List RV):=match decide (okR a.1∧okR b.1)with|true=>(match decide (okR b.2.1)with|true=>(match decide (bO (0:Int))with|true=>some [RV.d tQ (hid (ai (ae a.1-ae b.1)),(a.2.1,(hid (ai (-ae b.2.1)),(hid (ai ((0:Int):Rat)),(a.2.2,b.2.2)))))]|false=>none)|false=>none)|false=>none
theorem ama(a b:BO3):RS ali 164 [.d tO a,.d tO b] (Xk a b):=rsX
theorem SH(a b:BO3)(h:ok Rt 15000 a∧ok Rt 15000 b):Con Tryz.prog 164 [.d tO a,.d tO b] [.d tQ (enc (suT (dec a) (dec b)))]:=by
 refine aP vH (ama _ _ ⟨0,?_⟩)
 obtain⟨ha,hb⟩:=h
 obtain⟨a,rfl,ba⟩:=aZ ha
 obtain⟨b,rfl,bb⟩:=aZ hb
 unfold Xk
 simp only[ak,aq,aI,aL,aF,az,aX,atW,atY,Nat.reduceLeDiff]
 try rfl
def Ma:aN:=spN true true [tR,tR,tR] (fun x=>decide (ok Rat 240000 x.1∧ok Rat 170000 x.2.1∧ok Rat 30000 x.2.2.1)) (fun x=>[RV.d axf (fU (ae x.1) (ae x.2.1) (ae x.2.2.1))])
theorem PJ:SpK 218 Ma:=spX fun x h=>Uh x.1 x.2.1 x.2.2.1 (atS h)
def Ks:aN:=spN false true [tO,tO] (fun x=>decide (ok Rt 15000 x.1∧ok Rt 15000 x.2.1)) (fun x=>[RV.d tQ (hid (enc (suT (dec x.1) (dec x.2.1))))])
theorem Pu:SpK 164 Ks:=spX fun x h=>by simp only[ak];exact SH x.1 x.2.1 (atS h)
def I0:Env:=(218,Ma)::(164,Ks)::EC
theorem BE:EnvAll Tryz.prog I0:=⟨PJ,Pu,vH⟩
def alR:Ctx:=CX I0 []
def TW(q:BQ)(_k:KT):Option (List RV):=let y1:=ae q.2.2.2.2.1;let y2:=aS (ae q.2.2.2.2.2) 0;let y3:=fU (ae q.1) (ae q.2.1) y1;let y4:=i64.wrap ((fU (ae q.2.2.1) (ae q.2.2.2.1) y1)*y2);let y5:Option (List RV):=match y3==0 with|true=>some [RV.d axf y4]|false=>some [RV.d axf y3];let y6:=hid (ai (ae q.2.2.2.1*ae q.2.2.2.1));let y7:=hid (ai (ae q.2.2.1*ae q.2.2.1));let y8:=hid (ai (ae y6*ae q.2.2.2.2.1));let y9:=hid (ai (ae y7+ae y8));let y10:=hid (ai (ae q.2.1*ae q.2.1));let y11:=hid (ai (ae q.1*ae q.1));let y12:=hid (ai (ae y10*ae q.2.2.2.2.1));let y13:=hid (ai (ae y11+ae y12));let y14:=hid (ai (ae q.2.2.2.2.2*ae y9));let y15:=hid (ai (ae q.2.2.1*ae q.2.2.2.1));let y16:=hid (ai (ae q.1*ae q.2.1));let y17:=hid (ai (ae q.2.2.2.2.2*ae y15));let y18:=hid (ai (ae y16-ae y17));let y19:=hid (ai (ae y13-ae y14));let y20:=hid (ai (ae y18+ae y18));match decide (okR q.2.2.2.2.1)with|true=>(match decide ((aS y1 0)<0)with|true=>some [RV.d axf 0]|false=>(match decide (okR q.2.2.2.2.2)with|true=>(match decide (y2<0)with|true=>some [RV.d axf 0]|false=>(match decide (ok Rat 240000 q.1∧ok Rat 170000 q.2.1∧ok Rat 30000 q.2.2.2.2.1)with|true=>(match decide (ok Rat 240000 q.2.2.1∧ok Rat 170000 q.2.2.2.1∧ok Rat 30000 q.2.2.2.2.1)with|true=>(match decide (okR q.2.2.2.2.2)with|true=>(match y3==0 with|true=>y5|false=>(match y4==0 with|true=>y5|false=>(match y3==y4 with|true=>y5|false=>(match decide (okR q.2.2.1∧okR q.2.2.1)with|true=>(match decide (okR q.2.2.2.1∧okR q.2.2.2.1)with|true=>(match decide (okR y6∧okR q.2.2.2.2.1)with|true=>(match decide (okR y7∧okR y8)with|true=>(match decide (okR q.2.2.2.2.2∧okR y9)with|true=>(match decide (okR q.1∧okR q.1)with|true=>(match decide (okR q.2.1∧okR q.2.1)with|true=>(match decide (okR y10∧okR q.2.2.2.2.1)with|true=>(match decide (okR y11∧okR y12)with|true=>(match decide (okR y13∧okR y14)with|true=>(match decide (okR q.1∧okR q.2.1)with|true=>(match decide (okR q.2.2.1∧okR q.2.2.2.1)with|true=>(match decide (okR q.2.2.2.2.2∧okR y15)with|true=>(match decide (okR y16∧okR y17)with|true=>(match decide (okR y18∧okR y18)with|true=>(match decide (ok Rat 240000 y19∧ok Rat 170000 y20∧ok Rat 30000 q.2.2.2.2.1)with|true=>some [RV.d axf (i64.wrap (y3*(fU (ae y19) (ae y20) y1)))]|false=>none)|false=>none)|false=>none)|false=>none)|false=>none)|false=>none)|false=>none)|false=>none)|false=>none)|false=>none)|false=>none)|false=>none)|false=>none)|false=>none)|false=>none)|false=>none))))|false=>none)|false=>none)|false=>none))|false=>none))|false=>none
theorem ahT(q:BQ):RS alR 163 [.d tQ q] (TW q):=rsX
theorem ZG(q:BQ)(h:okQ q):Con Tryz.prog 163 [.d tQ q] [.d axf (sgQ (dec q))]:=by
 refine aP BE (ahT _ ⟨0,?_⟩)
 obtain⟨A,B,C,D,M,N,rfl,bA,bB,bC,bD,bM,bN,hM,hN⟩:=IL h
 rw[aq]
 unfold TW
 simp only[ak,aT,aF,az,aD,aX,atW,atY,Nat.reduceAdd,Nat.reduceLeDiff,t5,sR,aH,atV (show ¬M<0 by grind),atV (show ¬N<0 by grind)]
 refine(GL _ _ _).trans ?_
 unfold sgQ Dj
 rw[atV (show ¬M<0 by grind),atV (show ¬N<0 by grind)]
 dsimp only[Bool.or_false,cond_false]
 rw[show A*B-N*(C*D)+(A*B-N*(C*D))=2*(A*B-N*(C*D)) by grind]
 rfl
def K4:aN:=spN true true [tQ] (fun x=>decide (okQ x.1)) (fun x=>[RV.d axf (sgQ (dec x.1))])
theorem Ot:SpK 163 K4:=spX fun x h=>ZG x.1 (atS h)
def Ep:Env:=(163,K4)::I0
theorem uK:EnvAll Tryz.prog Ep:=⟨Ot,BE⟩
def ajS:Ctx:=CX Ep []
def Tg(a b:BO3)(_k:KT):Option (List RV):=match decide (ok Rt 15000 a∧ok Rt 15000 b)with|true=>(match decide (okQ (hid (enc (suT (dec a) (dec b)))))with|true=>some [RV.d axf (sgQ (dec (hid (enc (suT (dec a) (dec b))))))]|false=>none)|false=>none
theorem akC(a b:BO3):RS ajS 90 [.d tO a,.d tO b] (Tg a b):=rsX
theorem Vq(a b:BO3)(h:okT 15000 a∧okT 15000 b):Con Tryz.prog 90 [.d tO a,.d tO b] [.d axf (bR (dec a) (dec b))]:=by
 refine aP uK (akC _ _ ⟨0,?_⟩)
 obtain⟨ha,hb⟩:=h
 obtain⟨a,rfl,ba,ra⟩:=ks ha
 obtain⟨b,rfl,bb,rb⟩:=ks hb
 have na:Nn a.2.2:=inferInstance
 have nb:Nn b.2.2:=inferInstance
 have e:decide (okQ (enc (suT a b)))=true:=agD (by decide) (by decide) (by decide) (by decide) (by decide) (by decide)
 unfold Tg
 simp only[ak,aq,okd,atW,atY,Nat.reduceLeDiff,e]
 rfl
def ak2:Ctx:=CX Ep []
def SU(a:BO3)(b:BR)(_k:KT):Option (List RV):=match decide (okR a.1∧okR b)with|true=>(match decide (ok Rat 240000 (hid (ai (ae a.1-ae b)))∧ok Rat 170000 a.2.1∧ok Rat 30000 a.2.2)with|true=>some [RV.d axf (fU (ae (hid (ai (ae a.1-ae b)))) (ae a.2.1) (ae a.2.2))]|false=>none)|false=>none
theorem akS(a:BO3)(b:BR):RS ak2 267 [.d tO a,.d tR b] (SU a b):=rsX
theorem YH(a:BO3)(b:BR)(h:okT 15000 a∧ok Rat 15000 b):Con Tryz.prog 267 [.d tO a,.d tR b] [.d axf (gk (dec a) (ae b))]:=by
 refine aP uK (akS _ _ ⟨0,?_⟩)
 obtain⟨ha,hb⟩:=h
 obtain⟨a,rfl,ba,ra⟩:=ks ha
 obtain⟨b,rfl,bb⟩:=aZ hb
 unfold SU
 simp only[ak,aq,aI,aL,aF,az,aD,aX,atW,atY,Nat.reduceAdd,Nat.reduceLeDiff]
 try rfl
def xo:aN:=spN true true [tO,tO] (fun x=>decide (okT 15000 x.1∧okT 15000 x.2.1)) (fun x=>[RV.d axf (bR (dec x.1) (dec x.2.1))])
theorem wa:SpK 90 xo:=spX fun x h=>Vq x.1 x.2.1 (atS h)
def Xx:Env:=(90,xo)::Ep
theorem PA:EnvAll Tryz.prog Xx:=⟨wa,uK⟩
def amk:Ctx:=CX Xx []
def TS(a b:BO3)(_k:KT):Option (List RV):=match decide (okT 15000 a∧okT 15000 b)with|true=>some [RV.d .bool ((bR (dec a) (dec b))==0)]|false=>none
theorem alg(a b:BO3):RS amk 39 [.d tO a,.d tO b] (TS a b):=rsX
theorem QF(a b:BO3)(h:okT 15000 a∧okT 15000 b):Con Tryz.prog 39 [.d tO a,.d tO b] [.d .bool (bR (dec a) (dec b)==0)]:=by
 refine aP PA (alg _ _ ⟨0,?_⟩)
 unfold TS
 rw[dT h]
def m6:aN:=spN true true [tR,tR] (fun x=>decide (okR x.1∧okR x.2.1)) (fun x=>[RV.d axf (aS (ae x.1) (ae x.2.1))])
theorem jo:SpK 75 m6:=spX fun x h=>aah x.1 x.2.1 (atS h)
def rU:aN:=spN false true [tR] (fun x=>decide (okR x.1)) (fun x=>[RV.d tR (hid (ai (-ae x.1)))])
theorem mu:SpK 145 rU:=spX fun x h=>by simp only[ak];exact J3 x.1 (atS h)
def KO:Env:=[(151,ke),(144,oZ),(74,lS),(76,ky),(147,kJ),(75,m6),(145,rU)]
theorem zy:EnvAll Tryz.prog KO:=⟨gu,kV,ic,gh,gj,jo,mu,trivial⟩
def anT:Ctx:=CX KO []
def ag4(a b c:BR)(_k:KT):Option (List RV):=match decide (okR a)with|true=>(match decide (okR b)with|true=>(match decide (okR c)with|true=>(match(i64.wrap ((aS (ae b) 0)*(aS (ae c) 0)))==0 with|true=>some [RV.d axf (aS (ae a) 0)]|false=>(match(aS (ae a) 0)==(i64.wrap ((aS (ae b) 0)*(aS (ae c) 0)))with|true=>some [RV.d axf (aS (ae a) 0)]|false=>(match(aS (ae a) 0)==0 with|true=>some [RV.d axf (i64.wrap ((aS (ae b) 0)*(aS (ae c) 0)))]|false=>(match decide (okR a∧okR a)with|true=>(match decide (okR b∧okR b)with|true=>(match decide (okR (hid (ai (ae b*ae b)))∧okR c)with|true=>(match decide (okR (hid (ai (ae a*ae a)))∧okR (hid (ai (ae (hid (ai (ae b*ae b)))*ae c))))with|true=>some [RV.d axf (i64.wrap ((aS (ae a) 0)*(aS (ae (hid (ai (ae a*ae a)))) (ae (hid (ai (ae (hid (ai (ae b*ae b)))*ae c)))))))]|false=>none)|false=>none)|false=>none)|false=>none))))|false=>none)|false=>none)|false=>none
theorem aqK(a b c:BR):RS anT 229 [.d tR a,.d tR b,.d tR c] (ag4 a b c):=rsX
theorem acB(a b c:BR)(h:ok Rat 240000 a∧ok Rat 170000 b∧ok Rat 30000 c):Con Tryz.prog 229 [.d tR a,.d tR b,.d tR c] [.d axf (fU (ae a) (ae b) (ae c))]:=by
 refine aP zy (aqK _ _ _ ⟨0,?_⟩)
 obtain⟨ha,hb,hc⟩:=h
 obtain⟨a,rfl,ba⟩:=aZ ha
 obtain⟨b,rfl,bb⟩:=aZ hb
 obtain⟨c,rfl,bc⟩:=aZ hc
 unfold ag4
 simp only[ak,aF,az,aX,atW,atY,Nat.reduceAdd,Nat.reduceLeDiff,qb]
 exact DR _ _ _
def aos:Ctx:=CX KO []
def afR(a:BR)(_k:KT):Option (List RV):=match decide (okR a)with|true=>(match decide (okR (hid (ai (-ae a))))with|true=>some [RV.d tR (hid (ai (-ae (hid (ai (-ae a))))))]|false=>none)|false=>none
theorem aqD(a:BR):RS aos 261 [.d tR a] (afR a):=rsX
theorem ac5(a:BR)(h:okR a):Con Tryz.prog 261 [.d tR a] [.d tR (ai (ae a))]:=by
 refine aP zy (aqD _ ⟨0,?_⟩)
 have ha:=h
 obtain⟨a,rfl,ba⟩:=fe ha
 unfold afR
 simp only[ak,az,aX,Nat.reduceLeDiff,Rat.neg_neg]
def uX:aN:=spN true true [tR,tR,tR] (fun x=>decide (ok Rat 240000 x.1∧ok Rat 170000 x.2.1∧ok Rat 30000 x.2.2.1)) (fun x=>[RV.d axf (fU (ae x.1) (ae x.2.1) (ae x.2.2.1))])
theorem oS:SpK 229 uX:=spX fun x h=>acB x.1 x.2.1 x.2.2.1 (atS h)
def Jc:aN:=spN false true [tR] (fun x=>decide (okR x.1)) (fun x=>[RV.d tR (hid (ai (ae x.1)))])
theorem FO:SpK 261 Jc:=spX fun x h=>by simp only[ak];exact ac5 x.1 (atS h)
def afM:Env:=(229,uX)::(261,Jc)::KO
theorem Yg:EnvAll Tryz.prog afM:=⟨oS,FO,zy⟩
def anx:Ctx:=CX afM []
def ag2(a b:BO3)(_k:KT):Option (List RV):=match decide (okR a.1∧okR b.1)with|true=>(match decide (okR a.2.1)with|true=>(match decide (okR b.2.1)with|true=>(match decide (bO (0:Int))with|true=>(match decide (okR a.2.2)with|true=>(match decide (okR b.2.2)with|true=>some [RV.d tQ (hid (ai (ae a.1-ae b.1)),(hid (ai (ae a.2.1)),(hid (ai (-ae b.2.1)),(hid (ai ((0:Int):Rat)),(hid (ai (ae a.2.2)),hid (ai (ae b.2.2)))))))]|false=>none)|false=>none)|false=>none)|false=>none)|false=>none)|false=>none
theorem ams(a b:BO3):RS anx 231 [.d tO a,.d tO b] (ag2 a b):=rsX
theorem acj(a b:BO3)(h:ok Rt 15000 a∧ok Rt 15000 b):Con Tryz.prog 231 [.d tO a,.d tO b] [.d tQ (enc (suT (dec a) (dec b)))]:=by
 refine aP Yg (ams _ _ ⟨0,?_⟩)
 obtain⟨ha,hb⟩:=h
 obtain⟨a,rfl,ba⟩:=aZ ha
 obtain⟨b,rfl,bb⟩:=aZ hb
 unfold ag2
 simp only[ak,aq,aI,aL,aF,az,aX,atW,atY,Nat.reduceLeDiff]
 try rfl
theorem jJ{n:Int}(h:bO n):szI n≤3:=by
 have:pw 3=1000000000000000000000000000:=by decide
 exact fu (by have:=h.1;omega) (by have:=h.2;omega)
theorem Wo{q:Rat}{k:Nat}(h:Bd q k)(hk:k≤480000):okI (aj q.floor)∧okI (aj (-q.floor)):=by
 have e:szI q.floor≤k:=by
  refine auh (dE ?_) h.le.1
  rw[Rat.floor_def]
  exact Int.natAbs_ediv_le_natAbs _ _
 exact⟨bK (by omega),bK (by rw[iY];omega)⟩
theorem asJ:Bd (65536:Rat) 1:=⟨⟨by decide+kernel,by decide+kernel⟩⟩
theorem ak0:((65536:Int):Rat)=65536:=rfl
theorem p48:(2:Int)^(min (48:Int).toNat 64)=281474976710656:=by decide
theorem p32:(2:Int)^(min (32:Int).toNat 64)=4294967296:=by decide
theorem p16:(2:Int)^(min (16:Int).toNat 64)=65536:=by decide
theorem fdv{a b:Int}(h:0≤b):Int.fdiv a b=a/b:=Int.fdiv_eq_ediv_of_nonneg a h
theorem agG(n k:Nat)(hn:n<18446744073709551616)(hk:2^k-1<18446744073709551616):BitVec.toNat (BitVec.ofInt 64 (n:Int)&&&BitVec.ofInt 64 ((2^k-1:Nat):Int))=n%2^k:=by
 rw[BitVec.toNat_and,BitVec.toNat_ofInt,BitVec.toNat_ofInt]
 have e1:((n:Int)%((2^64:Nat):Int)).toNat=n:=by omega
 have e2:(((2^k-1:Nat):Int)%((2^64:Nat):Int)).toNat=2^k-1:=by omega
 rw[e1,e2,Nat.and_two_pow_sub_one_eq_mod]
theorem apX(n:Nat)(hn:n<18446744073709551616):u64.wrap (BitVec.toNat (BitVec.ofInt 64 (n:Int)&&&BitVec.ofInt 64 65535))=((n%65536:Nat):Int):=by
 rw[show(65535:Int)=((2^16-1:Nat):Int) from rfl,agG n 16 hn (by decide),auU]
 omega
theorem Yk(n:Nat)(hn:n<18446744073709551616):u64.wrap (BitVec.toNat (BitVec.ofInt 64 (n:Int)&&&BitVec.ofInt 64 4294967295))=((n%4294967296:Nat):Int):=by
 rw[show(4294967295:Int)=((2^32-1:Nat):Int) from rfl,agG n 32 hn (by decide),auU]
 omega
theorem atd{h l:Nat}(hh:h<65536)(hl:l<281474976710656):u64.wrap (BitVec.toNat (BitVec.ofInt 64 (u64.wrap ((h:Int)*281474976710656)) ||| BitVec.ofInt 64 (l:Int)))=((h*281474976710656+l:Nat):Int):=by
 rw[BitVec.toNat_or,BitVec.toNat_ofInt,BitVec.toNat_ofInt,auU,auU]
 have e1:((h:Int)*281474976710656%18446744073709551616%((2^64:Nat):Int)).toNat=h <<< 48:=by
  rw[Nat.shiftLeft_eq]
  omega
 have e2:((l:Int)%((2^64:Nat):Int)).toNat=l:=by omega
 rw[e1,e2,←Nat.shiftLeft_add_eq_or_of_lt (by omega),Nat.shiftLeft_eq]
 omega
def scP(x y:Int):Prop:=x.natAbs≤2305843009213693952∧y.natAbs≤2305843009213693952
instance (x y:Int):Decidable (scP x y):=by unfold scP;infer_instance
def Ea(n:Int):Prop:=0≤n∧n≤2305843009213693952
instance (n:Int):Decidable (Ea n):=by unfold Ea;infer_instance
def anh:Ctx:=CX [] []
def ae0(x y:Int)(_k:KT):Option (List RV):=match decide (x<(-2305843009213693952))with|true=>some [RV.d tG (0,0),RV.d .bool false]|false=>(match decide (y>2305843009213693952)with|true=>some [RV.d tG (0,0),RV.d .bool false]|false=>some [RV.d tG (x,y),RV.d .bool true])
theorem amr(x y:Int):RS anh 256 [SI x,SI y] (ae0 x y):=rsX
theorem adR(x y:Int):Con Tryz.prog 256 [.d axf x,.d axf y] [.d tG ((mt x y).1),.d .bool ((mt x y).2)]:=by
 refine aP (E:=[]) trivial (amr _ _ ⟨0,?_⟩)
 unfold ae0 mt
 cases decide (x< -2305843009213693952)
 ·cases decide (y>2305843009213693952)<;>rfl
 ·rfl
def Ec:aN:=spN false true [tR] (fun x=>decide (okR x.1)) (fun x=>[RV.d tI (hid (aj (ae x.1).floor))])
theorem zB:SpK 255 Ec:=spX fun x h=>by simp only[ak];exact abO x.1 (atS h)
def JO:aN:=spN true true [tI] (fun x=>decide (okI x.1)) (fun x=>[RV.d axf (bif decide (bO (ag x.1))then ag x.1 else 0),RV.d .bool (decide (bO (ag x.1)))])
theorem Fv:SpK 254 JO:=spX fun x h=>aaQ x.1 (atS h)
def Ju:aN:=spN false true [tI] (fun x=>decide (okI x.1)) (fun x=>[RV.d tI (hid (aj (-ag x.1)))])
theorem HJ:SpK 196 Ju:=spX fun x h=>by simp only[ak];exact MZ x.1 (atS h)
def CM:aN:=spN false true [axf,axf] (fun _=>true) (fun x=>[RV.d tG (hid ((mt x.1 x.2.1).1)),RV.d .bool ((mt x.1 x.2.1).2)])
theorem zj:SpK 256 CM:=spX fun x _=>by simp only[ak];exact adR x.1 x.2.1
def xN:Env:=[(151,ke),(76,ky),(145,rU),(255,Ec),(254,JO),(196,Ju),(256,CM)]
theorem mO:EnvAll Tryz.prog xN:=⟨gu,gh,mu,zB,Fv,HJ,zj,trivial⟩
def aq4:Ctx:=CX xN []
def afI(a:BR)(_k:KT):Option (List RV):=let y1:=hid (ai ((65536:Int):Rat));let y2:=hid (ai (ae a*ae y1));let y3:=hid (aj (ae y2).floor);let y4:=hid (ai (-ae y2));let y5:=hid (aj (ae y4).floor);let y6:=hid (aj (-ag y5));let y7:=mt (bif decide (bO (ag y3))then ag y3 else 0) (bif decide (bO (ag y6))then ag y6 else 0);match decide (bO (65536:Int))with|true=>(match decide (okR a∧okR y1)with|true=>(match decide (okR y2)with|true=>(match decide (okI y3)with|true=>(match decide (okR y2)with|true=>(match decide (okR y4)with|true=>(match decide (okI y5)with|true=>(match decide (okI y6)with|true=>(match !(decide (bO (ag y3)))with|true=>some [RV.d tG (0,0),RV.d .bool false]|false=>(match !(decide (bO (ag y6)))with|true=>some [RV.d tG (0,0),RV.d .bool false]|false=>some [RV.d tG (hid (y7.1)),RV.d .bool (y7.2)]))|false=>none)|false=>none)|false=>none)|false=>none)|false=>none)|false=>none)|false=>none)|false=>none
theorem aod(a:BR):RS aq4 221 [.d tR a] (afI a):=rsX
theorem acb(a:BR)(h:ok Rat 200000 a):Con Tryz.prog 221 [.d tR a] [.d tG ((frF (ae a)).1),.d .bool ((frF (ae a)).2)]:=by
 refine aP mO (aod _ ⟨0,?_⟩)
 have ha:=h
 obtain⟨a,rfl,ba⟩:=aZ ha
 have hk:=asJ
 have h6:bO 65536:=by decide
 have f1:=Wo (inferInstance:Bd (a*65536) _) (by decide)
 have f2:=Wo (inferInstance:Bd (-(a*65536)) _) (by decide)
 unfold afI
 simp only[ak0,ak,aF,az,aX,atW,atY,Nat.reduceAdd,Nat.reduceLeDiff,dec_enc,dT h6,dT f1.1,dT f2.1,dT f2.2]
 unfold frF
 cases e1:decide (bO (a*65536).floor)
 ·rfl
 ·cases e2:decide (bO (-(-(a*65536)).floor))
  ·rfl
  ·rfl
def ao9:Ctx:=CX xN []
def agp(a b:(Int×Int))(_k:KT):Option (List RV):=some [RV.d tG (hid ((mt (i64.wrap (a.1+b.1)) (i64.wrap (a.2+b.2))).1)),RV.d .bool ((mt (i64.wrap (a.1+b.1)) (i64.wrap (a.2+b.2))).2)]
theorem amZ(a b:(Int×Int)):RS ao9 223 [.d tG a,.d tG b] (agp a b):=rsX
theorem act(a b:(Int×Int))(h:prI a∧prI b):Con Tryz.prog 223 [.d tG a,.d tG b] [.d tG ((dG a b).1),.d .bool ((dG a b).2)]:=by
 refine aP mO (amZ _ _ ⟨0,?_⟩)
 obtain⟨⟨a1,a2,a3⟩,⟨b1,b2,b3⟩⟩:=h
 unfold agp dG
 rw[bz (by omega) (by omega),bz (by omega) (by omega)]
 simp only[ak]
def apz:Ctx:=CX xN []
def afl(a:(Int×Int))(_k:KT):Option (List RV):=some [RV.d tG (i64.wrap (0-a.2),i64.wrap (0-a.1))]
theorem arR(a:(Int×Int)):RS apz 224 [.d tG a] (afl a):=rsX
theorem acW(a:(Int×Int))(h:prI a):Con Tryz.prog 224 [.d tG a] [.d tG (lL a)]:=by
 refine aP mO (arR _ ⟨0,?_⟩)
 obtain⟨a1,a2,a3⟩:=h
 unfold afl lL
 rw[bz (by omega) (by omega),bz (by omega) (by omega),avY,avY]
def ask:Ctx:=CX xN []
def agu(n:Int)(_k:KT):Option (List RV):=match decide (n<0)with|true=>some [RV.d (.int .u64) (u64.wrap (0-(u64.wrap n)))]|false=>some [RV.d (.int .u64) (u64.wrap n)]
theorem aqT(n:Int):RS ask 276 [SI n] (agu n):=rsX
theorem aek(n:Int)(h:bO n):Con Tryz.prog 276 [.d axf n] [.d (.int .u64) (n.natAbs:Int)]:=by
 refine aP mO (aqT _ ⟨0,?_⟩)
 obtain⟨h1,h2⟩:=h
 unfold agu
 rw[auU,auU]
 by_cases hn:n<0
 ·rw[atT hn,show(0-n%18446744073709551616)%18446744073709551616=(n.natAbs:Int) by omega]
 ·rw[atV hn,show n%18446744073709551616=(n.natAbs:Int) by omega]
def ap5:Ctx:=CX xN []
def agO(x y:Int)(_k:KT):Option (List RV):=match decide (32<(0:Int))with|true=>none|false=>(match decide (32<(0:Int))with|true=>none|false=>(match decide (32<(0:Int))with|true=>none|false=>(match decide (32<(0:Int))with|true=>none|false=>(match decide (32<(0:Int))with|true=>none|false=>some [RV.d (.int .u64) (u64.wrap ((u64.wrap ((u64.wrap ((Int.fdiv x (2^(min (32:Int).toNat 64)))*(Int.fdiv y (2^(min (32:Int).toNat 64)))))+(Int.fdiv (u64.wrap ((u64.wrap ((Int.fdiv x (2^(min (32:Int).toNat 64)))*(u64.wrap (BitVec.toNat (BitVec.ofInt 64 y&&&BitVec.ofInt 64 4294967295)))))+(Int.fdiv (u64.wrap ((u64.wrap (BitVec.toNat (BitVec.ofInt 64 x&&&BitVec.ofInt 64 4294967295)))*(u64.wrap (BitVec.toNat (BitVec.ofInt 64 y&&&BitVec.ofInt 64 4294967295))))) (2^(min (32:Int).toNat 64))))) (2^(min (32:Int).toNat 64)))))+(Int.fdiv (u64.wrap ((u64.wrap (BitVec.toNat (BitVec.ofInt 64 (u64.wrap ((u64.wrap ((Int.fdiv x (2^(min (32:Int).toNat 64)))*(u64.wrap (BitVec.toNat (BitVec.ofInt 64 y&&&BitVec.ofInt 64 4294967295)))))+(Int.fdiv (u64.wrap ((u64.wrap (BitVec.toNat (BitVec.ofInt 64 x&&&BitVec.ofInt 64 4294967295)))*(u64.wrap (BitVec.toNat (BitVec.ofInt 64 y&&&BitVec.ofInt 64 4294967295))))) (2^(min (32:Int).toNat 64)))))&&&BitVec.ofInt 64 4294967295)))+(u64.wrap ((u64.wrap (BitVec.toNat (BitVec.ofInt 64 x&&&BitVec.ofInt 64 4294967295)))*(Int.fdiv y (2^(min (32:Int).toNat 64))))))) (2^(min (32:Int).toNat 64))))),RV.d (.int .u64) (u64.wrap (x*y))]))))
theorem ank(x y:Int):RS ap5 275 [.d (.int .u64) x,.d (.int .u64) y] (agO x y):=rsX
theorem abX(x y:Int)(h:gL x∧gL y):Con Tryz.prog 275 [.d (.int .u64) x,.d (.int .u64) y] [.d (.int .u64) (x*y/18446744073709551616),.d (.int .u64) (x*y%18446744073709551616)]:=by
 refine aP mO (ank _ _ ⟨0,?_⟩)
 obtain⟨h1,h2⟩:=h
 obtain⟨X,rfl⟩:=avf h1.1
 obtain⟨Y,rfl⟩:=avf h2.1
 have hX:X<18446744073709551616:=by have:=h1.2;omega
 have hY:Y<18446744073709551616:=by have:=h2.2;omega
 have wn:∀n:Nat,n<18446744073709551616→u64.wrap (n:Int)=(n:Int):=fun n hn=>by rw[auU];omega
 have eX:(X:Int)/4294967296=((X/4294967296:Nat):Int):=by omega
 have eY:(Y:Int)/4294967296=((Y/4294967296:Nat):Int):=by omega
 unfold agO
 simp only[p32,fdv (show(0:Int)≤4294967296 by decide),Yk X hX,Yk Y hY,eX,eY]
 have hXY:X*Y=X/4294967296*(Y/4294967296)*18446744073709551616+(X/4294967296*(Y%4294967296)+X%4294967296*(Y/4294967296))*4294967296+X%4294967296*(Y%4294967296):=by
  have a:=Nat.div_add_mod X 4294967296
  have b:=Nat.div_add_mod Y 4294967296
  generalize X/4294967296=x1 at*
  generalize X%4294967296=x0 at*
  generalize Y/4294967296=y1 at*
  generalize Y%4294967296=y0 at*
  subst a b
  grind
 have x0:X%4294967296≤4294967295:=by omega
 have y0:Y%4294967296≤4294967295:=by omega
 have x1:X/4294967296≤4294967295:=by omega
 have y1:Y/4294967296≤4294967295:=by omega
 have q00:=av7 x0 y0
 have q10:=av7 x1 y0
 have q01:=av7 x0 y1
 have q11:=av7 x1 y1
 simp only[←avq]
 rw[hXY]
 generalize X%4294967296*(Y%4294967296)=p00 at*
 generalize X/4294967296*(Y%4294967296)=p10 at*
 generalize X%4294967296*(Y/4294967296)=p01 at*
 generalize X/4294967296*(Y/4294967296)=p11 at*
 have t0:u64.wrap (u64.wrap (p10:Int)+u64.wrap (p00:Int)/4294967296)=((p10+p00/4294967296:Nat):Int):=by
  rw[wn p10 (by omega),wn p00 (by omega),show(p10:Int)+(p00:Int)/4294967296=((p10+p00/4294967296:Nat):Int) by omega,wn _ (by omega)]
 rw[t0,Yk _ (by omega)]
 have t1:u64.wrap (((p10+p00/4294967296)%4294967296:Nat)+u64.wrap (p01:Int))=(((p10+p00/4294967296)%4294967296+p01:Nat):Int):=by
  rw[wn p01 (by omega),←Int.natCast_add,wn _ (by omega)]
 rw[t1,wn p11 (by omega)]
 rw[atV (show ¬(32:Int)<0 by decide)]
 dsimp only
 have hi:u64.wrap (u64.wrap ((p11:Int)+((p10+p00/4294967296:Nat):Int)/4294967296)+(((p10+p00/4294967296)%4294967296+p01:Nat):Int)/4294967296)=((p11*18446744073709551616+(p10+p01)*4294967296+p00:Nat):Int)/18446744073709551616:=by
  rw[auU,auU]
  omega
 rw[hi,auU]
def Ey:aN:=spN false true [axf] (fun x=>decide (bO x.1)) (fun x=>[RV.d (.int .u64) (hid ((x.1.natAbs:Int)))])
theorem xQ:SpK 276 Ey:=spX fun x h=>by simp only[ak];exact aek x.1 (atS h)
def DX:aN:=spN false true [(.int .u64),(.int .u64)] (fun x=>decide (gL x.1∧gL x.2.1)) (fun x=>[RV.d (.int .u64) (hid (x.1*x.2.1/18446744073709551616)),RV.d (.int .u64) (hid (x.1*x.2.1%18446744073709551616))])
theorem xT:SpK 275 DX:=spX fun x h=>by simp only[ak];exact abX x.1 x.2.1 (atS h)
def agy:Env:=(276,Ey)::(275,DX)::xN
theorem YN:EnvAll Tryz.prog agy:=⟨xQ,xT,mO⟩
def aoX:Ctx:=CX agy []
def afa(x y:Int)(_k:KT):Option (List RV):=let y1:=hid ((x.natAbs:Int));let y2:=hid ((y.natAbs:Int));let y3:=hid (y1*y2/18446744073709551616);let y4:=hid (y1*y2%18446744073709551616);let y5:=u64.wrap (BitVec.toNat (BitVec.ofInt 64 (u64.wrap (y3*2^(min (48:Int).toNat 64))) ||| BitVec.ofInt 64 (Int.fdiv y4 (2^(min (16:Int).toNat 64)))));let y6:=i64.wrap y5;let y7:=i64.wrap (y6+1);let y8:=i64.wrap (0-y7);let y9:=i64.wrap (0-y6);let y10:=decide (y9≤2305843009213693952);match decide (bO x)with|true=>(match decide (bO y)with|true=>(match decide (gL y1∧gL y2)with|true=>(match decide (16<(0:Int))with|true=>none|false=>(match(Int.fdiv y3 (2^(min (16:Int).toNat 64))) !=0 with|true=>some [RV.d axf 0,RV.d axf 0,RV.d .bool false]|false=>(match decide (48<(0:Int))with|true=>none|false=>(match decide (16<(0:Int))with|true=>none|false=>(match decide (y5>2305843009213693952)with|true=>some [RV.d axf 0,RV.d axf 0,RV.d .bool false]|false=>(match(u64.wrap (BitVec.toNat (BitVec.ofInt 64 y4&&&BitVec.ofInt 64 65535))) !=0 with|true=>(match !((decide (x<0))==(decide (y<0)))with|true=>(match decide (y8≥(-2305843009213693952))with|true=>some [RV.d axf y8,RV.d axf y9,RV.d .bool y10]|false=>some [RV.d axf y8,RV.d axf y9,RV.d .bool false])|false=>(match decide (y6≥(-2305843009213693952))with|true=>some [RV.d axf y6,RV.d axf y7,RV.d .bool (decide (y7≤2305843009213693952))]|false=>some [RV.d axf y6,RV.d axf y7,RV.d .bool false]))|false=>(match !((decide (x<0))==(decide (y<0)))with|true=>(match decide (y9≥(-2305843009213693952))with|true=>some [RV.d axf y9,RV.d axf y9,RV.d .bool y10]|false=>some [RV.d axf y9,RV.d axf y9,RV.d .bool false])|false=>(match decide (y6≥(-2305843009213693952))with|true=>some [RV.d axf y6,RV.d axf y6,RV.d .bool (decide (y6≤2305843009213693952))]|false=>some [RV.d axf y6,RV.d axf y6,RV.d .bool false]))))))))|false=>none)|false=>none)|false=>none
theorem am6(x y:Int):RS aoX 257 [SI x,SI y] (afa x y):=rsX
theorem acs(x y:Int)(h:scP x y):Con Tryz.prog 257 [.d axf x,.d axf y] [.d axf ((scF x y).1.1),.d axf ((scF x y).1.2),.d .bool ((scF x y).2)]:=by
 refine aP YN (am6 _ _ ⟨0,?_⟩)
 obtain⟨hx,hy⟩:=h
 have h1:bO x:=⟨by omega,by omega⟩
 have h2:bO y:=⟨by omega,by omega⟩
 have h3:gL (x.natAbs:Int)∧gL (y.natAbs:Int):=⟨⟨by omega,by omega⟩,⟨by omega,by omega⟩⟩
 unfold afa scF
 simp only[ak]
 rw[dT h1,dT h2,dT h3]
 have hp:=av7 hx hy
 simp only[←avq,p16,p48,fdv (show(0:Int)≤65536 by decide)]
 generalize x.natAbs*y.natAbs=p at*
 rw[atV (show ¬(16:Int)<0 by decide),atV (show ¬(48:Int)<0 by decide),show(p:Int)/18446744073709551616=((p/18446744073709551616:Nat):Int) by omega,show(p:Int)%18446744073709551616=((p%18446744073709551616:Nat):Int) by omega,show((p%18446744073709551616:Nat):Int)/65536=((p%18446744073709551616/65536:Nat):Int) by omega,apX _ (by omega),show p%18446744073709551616%65536=p%65536 by omega]
 by_cases hc:p≥1208925819614629174706176
 ·rw[atT hc,show(((p/18446744073709551616:Nat):Int)/65536 !=0)=true by simp;omega]
  rfl
 ·rw[atV hc,show(((p/18446744073709551616:Nat):Int)/65536 !=0)=false by simp;omega,atd (by omega) (by omega),show p/18446744073709551616*281474976710656+p%18446744073709551616/65536=p/65536 by omega]
  have hdm:=Nat.div_add_mod p 65536
  have hml:=awP p (show 65536>0 by decide)
  have hru:(p+65535)/65536=if p%65536=0 then p/65536 else p/65536+1:=by split<;>omega
  rw[hru]
  clear hru
  generalize p/65536=q at*
  generalize p%65536=m at*
  have e1:decide ((q:Int)>2305843009213693952)=decide (q>2305843009213693952):=avX.2 (by omega)
  rw[e1]
  by_cases hd:q>2305843009213693952
  ·rw[atT hd]
   rfl
  rw[atV hd,bz (x:=(q:Int)) (by omega) (by omega),bz (x:=(q:Int)+1) (by omega) (by omega),bz (x:=0-(q:Int)) (by omega) (by omega),bz (x:=0-((q:Int)+1)) (by omega) (by omega)]
  have e2:((m:Int) !=0)=!decide (m=0):=by by_cases h:m=0<;>simp[h]
  have e3:decide (0-(q:Int)≥ -2305843009213693952)=true:=atT (by omega)
  have e4:decide (0-(q:Int)≤2305843009213693952)=true:=atT (by omega)
  have e5:decide ((q:Int)≥ -2305843009213693952)=true:=atT (by omega)
  have e6:decide ((q:Int)≤2305843009213693952)=true:=atT (by omega)
  have e7:decide (0-((q:Int)+1)≥ -2305843009213693952)=decide (q+1≤2305843009213693952):=avX.2 (by omega)
  have e8:decide ((q:Int)+1≤2305843009213693952)=decide (q+1≤2305843009213693952):=avX.2 (by omega)
  have e9:decide (q≤2305843009213693952)=true:=atT (by omega)
  rw[e2,e3,e4,e5,e6,e7,e8]
  have f2:((q+1:Nat):Int)=(q:Int)+1:=by omega
  have f3:decide (m=0)=true→m=0:=atS
  have f4:decide (m=0)=false→m≠0:=au4
  generalize decide (m=0)=d2 at*
  generalize (decide (x<0)==decide (y<0))=d3 at*
  cases d2
  ·rw[aum (f4 rfl),f2]
   generalize decide (q+1≤2305843009213693952)=d4 at*
   cases d3<;>cases d4<;>simp
  ·rw[auv (f3 rfl),e9]
   cases d3<;>simp
def b8(r:Rt):Iv×Bool:=
 bif !(frF r.1).2||decide (r.2.1=0)then frF r.1
 else bif !(frF r.2.1).2||!(frF r.2.2).2||decide (r.2.2<0)then(iv0,false)
 else bif !(sqF (frF r.2.2).1).2 then(iv0,false)
 else bif !(cV (frF r.2.1).1 (sqF (frF r.2.2).1).1).2 then(iv0,false)
 else dG (frF r.1).1 (cV (frF r.2.1).1 (sqF (frF r.2.2).1).1).1
def iq(n:Rat)(a:Iv)(k:Bool):Iv×Bool:=bif !k||!(frF n).2 then(iv0,false)else cV (frF n).1 a
def apF(a b:Rt):Int×Bool:=
 bif !(b8 a).2||!(b8 b).2 then(0,false)else bif decide ((b8 a).1.2<(b8 b).1.1)then(-1,true)else bif decide ((b8 a).1.1>(b8 b).1.2)then(1,true)else(0,false)
abbrev Pt:=Rat×Rat×Rat×Rat×Rat
abbrev Ln:=Rat×Rat×Rat
def pxR(p:Pt):Rt:=(p.1,p.2.1,p.2.2.2.2)
def pyR(p:Pt):Rt:=(p.2.2.1,p.2.2.2.1,p.2.2.2.2)
def vS(l:Ln)(p:Pt):Int×Bool:=
 bif !(iq l.1 (b8 (pxR p)).1 (b8 (pxR p)).2).2||!(iq l.2.1 (b8 (pyR p)).1 (b8 (pyR p)).2).2||!(frF l.2.2).2 then(0,false)
 else bif !(dG (iq l.1 (b8 (pxR p)).1 (b8 (pxR p)).2).1 (iq l.2.1 (b8 (pyR p)).1 (b8 (pyR p)).2).1).2 then(0,false)
 else bif !(dG (dG (iq l.1 (b8 (pxR p)).1 (b8 (pxR p)).2).1 (iq l.2.1 (b8 (pyR p)).1 (b8 (pyR p)).2).1).1 (lL (frF l.2.2).1)).2 then(0,false)
 else sgF (dG (dG (iq l.1 (b8 (pxR p)).1 (b8 (pxR p)).2).1 (iq l.2.1 (b8 (pyR p)).1 (b8 (pyR p)).2).1).1 (lL (frF l.2.2).1)).1
def fb(r:Rt)(q:Rat):Iv×Bool:=bif !(b8 r).2||!(frF q).2 then(iv0,false)else dG (b8 r).1 (lL (frF q).1)
def t9(c:Ln)(p:Pt):Int×Bool:=
 bif !(fb (pxR p) c.1).2||!(fb (pyR p) c.2.1).2||!(frF c.2.2).2 then(0,false)
 else bif !(cV (fb (pxR p) c.1).1 (fb (pxR p) c.1).1).2||!(cV (fb (pyR p) c.2.1).1 (fb (pyR p) c.2.1).1).2 then(0,false)
 else bif !(dG (cV (fb (pxR p) c.1).1 (fb (pxR p) c.1).1).1 (cV (fb (pyR p) c.2.1).1 (fb (pyR p) c.2.1).1).1).2 then(0,false)
 else bif !(dG (dG (cV (fb (pxR p) c.1).1 (fb (pxR p) c.1).1).1 (cV (fb (pyR p) c.2.1).1 (fb (pyR p) c.2.1).1).1).1 (lL (frF c.2.2).1)).2 then(0,false)
 else sgF (dG (dG (cV (fb (pxR p) c.1).1 (fb (pxR p) c.1).1).1 (cV (fb (pyR p) c.2.1).1 (fb (pyR p) c.2.1).1).1).1 (lL (frF c.2.2).1)).1
def sfF(m:Rat):Iv:=(sqF (frF m).1).1
def mfF(b:Rat)(i:Iv):Iv:=(cV (frF b).1 i).1
def qu1(q:Qd):Bool:=(frF q.2.2.2.2.1).2&&(sqF (frF q.2.2.2.2.1).1).2&&(frF q.2.2.2.2.2).2&&(sqF (frF q.2.2.2.2.2).1).2
def qu2(q:Qd):Bool:=(frF q.2.1).2&&(cV (frF q.2.1).1 (sfF q.2.2.2.2.1)).2&&(frF q.2.2.1).2&&(cV (frF q.2.2.1).1 (sfF q.2.2.2.2.2)).2&&(frF q.2.2.2.1).2&&(cV (sfF q.2.2.2.2.1) (sfF q.2.2.2.2.2)).2&&(cV (frF q.2.2.2.1).1 (cV (sfF q.2.2.2.2.1) (sfF q.2.2.2.2.2)).1).2
def quA(q:Qd):Iv×Bool:=dG (frF q.1).1 (mfF q.2.1 (sfF q.2.2.2.2.1))
def quB(q:Qd):Iv×Bool:=dG (mfF q.2.2.1 (sfF q.2.2.2.2.2)) (mfF q.2.2.2.1 (cV (sfF q.2.2.2.2.1) (sfF q.2.2.2.2.2)).1)
def qu3(q:Qd):Bool:=(frF q.1).2&&(quA q).2&&(quB q).2&&(dG (quA q).1 (quB q).1).2
def quF(q:Qd):Int×Bool:=bif !(qu1 q)then(0,false)else bif !(qu2 q)then(0,false)else bif !(qu3 q)then(0,false)else sgF (dG (quA q).1 (quB q).1).1
theorem ze(r:Rt):prI (b8 r).1:=by
 unfold b8
 cases !(frF r.1).2||decide (r.2.1=0)
 ·cases !(frF r.2.1).2||!(frF r.2.2).2||decide (r.2.2<0)
  ·cases !(sqF (frF r.2.2).1).2
   ·cases !(cV (frF r.2.1).1 (sqF (frF r.2.2).1).1).2
    ·exact RE.addF_pr (RE.frF_pr _) (ut _ _)
    ·exact fO
   ·exact fO
  ·exact fO
 ·exact RE.frF_pr _
theorem aaW(n:Rat)(a:Iv)(k:Bool):prI (iq n a k).1:=by
 unfold iq
 cases !k||!(frF n).2
 ·exact ut _ _
 ·exact fO
theorem adK(r:Rt)(q:Rat):prI (fb r q).1:=by
 unfold fb
 cases !(b8 r).2||!(frF q).2
 ·exact RE.addF_pr (ze _) (RE.negF_pr (RE.frF_pr _))
 ·exact fO
namespace RE
theorem o8{r:Rt}(h:(b8 r).2=true):inI (b8 r).1 (v2 r.1 r.2.1 r.2.2):=by
 unfold b8 at h ⊢
 cases e1:(frF r.1).2
 ·rw[e1]at h
  simp only[Bool.not_false,Bool.true_or,cond_true]at h
  rw[e1]at h
  cases h
 ·rw[e1]at h
  by_cases hb:r.2.1=0
  ·rw[atT hb]at h ⊢
   simp only[Bool.not_true,Bool.false_or,cond_true]
   unfold v2
   rw[hb,xe,zero_mul,add_zero]
   exact ik e1
  ·rw[atV hb]at h ⊢
   cases e2:(frF r.2.1).2<;>cases e3:(frF r.2.2).2<;>cases e4:decide (r.2.2<0)<;>rw[e2,e3,e4]at h<;>try (cases h;done)
   cases e5:(sqF (frF r.2.2).1).2<;>rw[e5]at h<;>try (cases h;done)
   cases e6:(cV (frF r.2.1).1 (sqF (frF r.2.2).1).1).2<;>rw[e6]at h<;>try (cases h;done)
   have hn:(0:RE)≤of r.2.2:=nW.2 (by have:=au4 e4;grind)
   exact jO (ik e1) (lz (ik e2) (yR (ik e3) hn e5) e6) h
theorem K1{n:Rat}{a:Iv}{k:Bool}{x:RE}(ha:k=true→inI a x)(h:(iq n a k).2=true):inI (iq n a k).1 (of n*x):=by
 unfold iq at h ⊢
 cases k
 ·cases h
 ·cases e:(frF n).2<;>rw[e]at h
  ·cases h
  ·exact lz (ik e) (ha rfl) h
theorem Kq{r:Rt}{q:Rat}(h:(fb r q).2=true):inI (fb r q).1 (v2 r.1 r.2.1 r.2.2+ -of q):=by
 unfold fb at h ⊢
 cases e1:(b8 r).2<;>cases e2:(frF q).2<;>rw[e1,e2]at h<;>try (cases h;done)
 exact jO (o8 e1) (CN (ik e2)) h
theorem Og(x y:RE):((y-(x)))+((x-y-(0)))=0:=by
 induction x using atR
 induction y using atR
 exact snd fun n=>by
  simp only[RL.add,RL.neg,RL.const]
  grind
theorem acu(x y:RE)(h1:x<y):x-y<0:=iK.1 fun hg=>far (aU (a8 h1) (aR hg)) (Og x y)
theorem apu(u x y a b:RE):((b-(a)))+((a-(u*x)))+((u*y-(b)))+((u-(0))*(x-(y)))=0:=by
 induction u using atR
 induction x using atR
 induction y using atR
 induction a using atR
 induction b using atR
 exact snd fun n=>by
  simp only[RL.add,RL.mul,RL.neg,RL.const]
  grind
theorem ap1(u x y a b:RE)(h1:0<u)(h2:u*x≤a)(h3:a<b)(h4:b≤u*y):x<y:=iK.1 fun hg=>far (aU (aU (aU (a8 h3) (aR h2)) (aR h4)) (cW (le_of_lt (a8 h1)) (aR hg))) (apu u x y a b)
theorem apF_ok{a b:Rt}(h:(apF a b).2=true):(apF a b).1=sg (vR a-vR b):=by
 unfold apF at h ⊢
 cases e1:(b8 a).2<;>cases e2:(b8 b).2<;>rw[e1,e2]at h<;>try (cases h;done)
 obtain⟨a1,a2⟩:=o8 e1
 obtain⟨b1,b2⟩:=o8 e2
 cases e3:decide ((b8 a).1.2<(b8 b).1.1)<;>rw[e3]at h
 ·cases e4:decide ((b8 a).1.1>(b8 b).1.2)<;>rw[e4]at h
  ·cases h
  ·have h4:of ((b8 b).1.2:Rat)<of ((b8 a).1.1:Rat):=jG (awq.2 (atS e4))
   exact(jr (a8 (ap1 _ _ _ _ _ nS b2 h4 a1))).symm
 ·have h4:of ((b8 a).1.2:Rat)<of ((b8 b).1.1:Rat):=jG (awq.2 (atS e3))
  exact(n4 (acu _ _ (ap1 _ _ _ _ _ nS a2 h4 b1))).symm
theorem aao{l:Ln}{p:Pt}(h:(vS l p).2=true):(vS l p).1=sg (of l.1*v2 p.1 p.2.1 p.2.2.2.2+of l.2.1*v2 p.2.2.1 p.2.2.2.1 p.2.2.2.2+ -of l.2.2):=by
 unfold vS at h ⊢
 cases e1:(iq l.1 (b8 (pxR p)).1 (b8 (pxR p)).2).2<;>cases e2:(iq l.2.1 (b8 (pyR p)).1 (b8 (pyR p)).2).2<;>cases e3:(frF l.2.2).2<;>rw[e1,e2,e3]at h<;>try (cases h;done)
 have i1:=K1 (x:=v2 p.1 p.2.1 p.2.2.2.2) (fun e=>o8 (r:=pxR p) e) e1
 have i2:=K1 (x:=v2 p.2.2.1 p.2.2.2.1 p.2.2.2.2) (fun e=>o8 (r:=pyR p) e) e2
 revert h i1 i2
 generalize iq l.1 (b8 (pxR p)).1 (b8 (pxR p)).2=X
 generalize iq l.2.1 (b8 (pyR p)).1 (b8 (pyR p)).2=Y
 intro h i1 i2
 cases e4:(dG X.1 Y.1).2<;>rw[e4]at h<;>try (cases h;done)
 cases e5:(dG (dG X.1 Y.1).1 (lL (frF l.2.2).1)).2<;>rw[e5]at h<;>try (cases h;done)
 exact Jn (jO (jO i1 i2 e4) (CN (ik e3)) e5) h
theorem abs{c:Ln}{p:Pt}(h:(t9 c p).2=true):(t9 c p).1=sg ((v2 p.1 p.2.1 p.2.2.2.2+ -of c.1)*(v2 p.1 p.2.1 p.2.2.2.2+ -of c.1)+(v2 p.2.2.1 p.2.2.2.1 p.2.2.2.2+ -of c.2.1)*(v2 p.2.2.1 p.2.2.2.1 p.2.2.2.2+ -of c.2.1)+ -of c.2.2):=by
 unfold t9 at h ⊢
 cases e1:(fb (pxR p) c.1).2<;>cases e2:(fb (pyR p) c.2.1).2<;>cases e3:(frF c.2.2).2<;>rw[e1,e2,e3]at h<;>try (cases h;done)
 have i1:=Kq e1
 have i2:=Kq e2
 revert h
 generalize fb (pxR p) c.1=X at*
 generalize fb (pyR p) c.2.1=Y at*
 intro h
 cases e4:(cV X.1 X.1).2<;>cases e5:(cV Y.1 Y.1).2<;>rw[e4,e5]at h<;>try (cases h;done)
 cases e6:(dG (cV X.1 X.1).1 (cV Y.1 Y.1).1).2<;>rw[e6]at h<;>try (cases h;done)
 cases e7:(dG (dG (cV X.1 X.1).1 (cV Y.1 Y.1).1).1 (lL (frF c.2.2).1)).2<;>rw[e7]at h<;>try (cases h;done)
 exact Jn (jO (jO (lz i1 i1 e4) (lz i2 i2 e5) e6) (CN (ik e3)) e7) h
theorem apd(a b c d:RE):a+b+(c+d)=a+b+c+d:=by
 induction a using atR
 induction b using atR
 induction c using atR
 induction d using atR
 exact snd fun n=>by
  simp only[RL.add]
  grind
theorem quF_ok{q:Qd}(hM:0≤q.2.2.2.2.1)(hN:0≤q.2.2.2.2.2)(h:(quF q).2=true):(quF q).1=sg (vQ q.1 q.2.1 q.2.2.1 q.2.2.2.1 q.2.2.2.2.1 q.2.2.2.2.2):=by
 unfold quF at h ⊢
 cases e1:qu1 q<;>rw[e1]at h<;>try (cases h;done)
 cases e2:qu2 q<;>rw[e2]at h<;>try (cases h;done)
 cases e3:qu3 q<;>rw[e3]at h<;>try (cases h;done)
 unfold qu1 at e1
 unfold qu2 at e2
 unfold qu3 at e3
 simp only[at3]at e1 e2 e3
 obtain⟨⟨⟨a1,a2⟩,a3⟩,a4⟩:=e1
 obtain⟨⟨⟨⟨⟨⟨b1,b2⟩,b3⟩,b4⟩,b5⟩,b6⟩,b7⟩:=e2
 obtain⟨⟨⟨c1,c2⟩,c3⟩,c4⟩:=e3
 have i1:inI (sfF q.2.2.2.2.1) (rq q.2.2.2.2.1):=yR (ik a1) (nW.2 hM) a2
 have i2:inI (sfF q.2.2.2.2.2) (rq q.2.2.2.2.2):=yR (ik a3) (nW.2 hN) a4
 have hq:inI (dG (quA q).1 (quB q).1).1 (vQ q.1 q.2.1 q.2.2.1 q.2.2.2.1 q.2.2.2.2.1 q.2.2.2.2.2):=by
  have:=jO (jO (ik c1) (lz (ik b1) i1 b2) c2) (jO (lz (ik b3) i2 b4) (lz (ik b5) (lz i1 i2 b6) b7) c3) c4
  rw[apd]at this
  exact this
 exact Jn hq h
end RE
theorem Ut{z:Int}(h:bO z):okI (aj z):=bK (by have:=jJ h;omega)
theorem Mr{n:Int}(h:Ea n):0≤d8 n∧d8 n≤2305843009213693952:=by
 obtain⟨h0,h1⟩:=h
 unfold d8
 obtain⟨g0,g1,g2⟩:=fT (z:=n*65536) (by omega)
 refine⟨g0,?_⟩
 rcases auA 2305843009213693952 (b9 (n*65536))with h|h
 ·have:2305843009213693952*2305843009213693952≤b9 (n*65536)*b9 (n*65536):=av8 (by omega) (by omega) (by omega) (by omega)
  omega
 ·exact h
theorem V8{a b:Iv}(ha:prI a)(hb:prI b){x y:Int}(hx:x=a.1∨x=a.2)(hy:y=b.1∨y=b.2):scP x y:=by
 obtain⟨a1,a2,a3⟩:=ha
 obtain⟨b1,b2,b3⟩:=hb
 constructor
 ·rcases hx with rfl|rfl<;>omega
 ·rcases hy with rfl|rfl<;>omega
theorem asA{α:Type}(b:Bool)(x y:α):(match b with|true=>x|false=>y)=bif b then x else y:=by cases b<;>rfl
def P6:aN:=spN false true [axf] (fun x=>decide (bO x.1)) (fun x=>[RV.d tI (hid (aj x.1))])
theorem Wz:SpK 206 P6:=spX fun x h=>by simp only[ak];exact K9 x.1 (atS h)
def DA:aN:=spN false true [tR] (fun x=>decide (ok Rat 200000 x.1)) (fun x=>[RV.d tG (hid ((frF (ae x.1)).1)),RV.d .bool ((frF (ae x.1)).2)])
theorem xM:SpK 221 DA:=spX fun x h=>by simp only[ak];exact acb x.1 (atS h)
def C4:aN:=spN false true [tG,tG] (fun x=>decide (prI x.1∧prI x.2.1)) (fun x=>[RV.d tG (hid ((dG x.1 x.2.1).1)),RV.d .bool ((dG x.1 x.2.1).2)])
theorem yK:SpK 223 C4:=spX fun x h=>by simp only[ak];exact act x.1 x.2.1 (atS h)
def Cp:aN:=spN false true [tG] (fun x=>decide (prI x.1)) (fun x=>[RV.d tG (hid (lL x.1))])
theorem yg:SpK 224 Cp:=spX fun x h=>by simp only[ak];exact acW x.1 (atS h)
def IN:aN:=spN false true [axf,axf] (fun x=>decide (scP x.1 x.2.1)) (fun x=>[RV.d axf ((scF x.1 x.2.1).1.1),RV.d axf ((scF x.1 x.2.1).1.2),RV.d .bool ((scF x.1 x.2.1).2)])
theorem EY:SpK 257 IN:=spX fun x h=>acs x.1 x.2.1 (atS h)
def M6:Env:=[(151,ke),(76,ky),(145,rU),(255,Ec),(254,JO),(196,Ju),(147,kJ),(149,Iw),(282,Im),(148,I5),(206,P6),(256,CM),(221,DA),(223,C4),(224,Cp),(276,Ey),(275,DX),(257,IN)]
theorem yZ:EnvAll Tryz.prog M6:=⟨gu,gh,mu,zB,Fv,HJ,gj,GA,Hh,Hd,Wz,zj,xM,yK,yg,xQ,xT,EY,trivial⟩
def aje:NT:=[((222,8),{keep:=[3,4,6,7,19,20,21],hl:=4}),((222,22),{keep:=[3,4,6,7,9,19,20,21,29,30,31],hl:=5})]
def ou:Ctx:=CX M6 aje
def rR(a b:(Int×Int))(s21 s6 s7:Int):Cfg:=⟨222,[.blk 0,.seq 46],[(3,.box 1 0),(4,.box 2 0),(6,SI s6),(7,SI s7),(19,.own 3),(20,SI (([a.1,a.2]).length:Int)),(21,SI s21)],[.box 188 [SI a.1,SI a.2],.box 188 [SI b.1,SI b.2],.box 188 [SI 0,SI 0],.row 2 axf ([a.1,a.2])],0,[]⟩
def qT(a b:(Int×Int))(s21 x1 s6 s7 s31:Int):Cfg:=⟨222,[.blk 2,.blk 1,.seq 45,.lp 8,.blk 0,.seq 46],[(3,.box 1 0),(4,.box 2 0),(6,SI s6),(7,SI s7),(9,SI x1),(19,.own 3),(20,SI (([a.1,a.2]).length:Int)),(21,SI s21),(29,.own 4),(30,SI (([b.1,b.2]).length:Int)),(31,SI s31)],[.box 188 [SI a.1,SI a.2],.box 188 [SI b.1,SI b.2],.box 188 [SI 0,SI 0],.row 2 axf ([a.1,a.2]),.row 2 axf ([b.1,b.2])],0,[]⟩
def aow(a b:(Int×Int))(k:KT):Option (List RV):=k 8 (rR a b 0 2305843009213693952 (-2305843009213693952))
theorem arz(a b:(Int×Int)):RS ou 222 [.d tG a,.d tG b] (aow a b):=rsX
def xU(a b:(Int×Int))(s21 s6 s7:Int)(k:KT):Option (List RV):=match decide (s21<(([a.1,a.2]).length:Int))with|true=>(match bi ([a.1,a.2]) s21 with|some _=>(match true,([a.1,a.2])[(s21).toNat]? with|true,some x1=>k 22 (qT a b s21 x1 s6 s7 0)|_,_=>none)|none=>none)|false=>some [RV.d tG (s6,s7),RV.d .bool true]
theorem Hu(a b:(Int×Int))(s21 s6 s7:Int):RN ou 8 (rR a b s21 s6 s7) (xU a b s21 s6 s7):=rnX
def qN(a b:(Int×Int))(s21 x1 s6 s7 s31:Int)(k:KT):Option (List RV):=match decide (s31<(([b.1,b.2]).length:Int))with|true=>(match bi ([b.1,b.2]) s31 with|some _=>(match true,([b.1,b.2])[(s31).toNat]? with|true,some x2=>(match decide (scP x1 x2)with|true=>(match !((scF x1 x2).2)with|true=>some [RV.d tG (0,0),RV.d .bool false]|false=>k 22 (qT a b s21 x1 (if(scF x1 x2).1.1<s6 then(scF x1 x2).1.1 else s6) (if(scF x1 x2).1.2>s7 then(scF x1 x2).1.2 else s7) (i64.wrap (s31+1))))|false=>none)|_,_=>none)|none=>none)|false=>k 8 (rR a b (i64.wrap (s21+1)) s6 s7)
theorem vo(a b:(Int×Int))(s21 x1 s6 s7 s31:Int):RN ou 22 (qT a b s21 x1 s6 s7 s31) (qN a b s21 x1 s6 s7 s31):=rnX
theorem SY(a b:Iv)(ha:prI a)(hb:prI b)(s21 x:Int)(hx:x=a.1∨x=a.2)(s:Iv)(r:List RV)(h:∀s2:Iv×Bool,s2=gY (gY (s,true) x b.1) x b.2→bif s2.2 then ou.Runs 8 (rR a b (i64.wrap (s21+1)) s2.1.1 s2.1.2) r else r=[RV.d tG (0,0),RV.d .bool false]):
  ou.Runs 22 (qT a b s21 x s.1 s.2 0) r:=by
 have h:=h _ rfl
 refine vo _ _ _ _ _ _ _ ?_
 unfold qN
 have g1:decide ((0:Int)<(([b.1,b.2]).length:Int))=true:=by simp
 have g2:decide ((1:Int)<(([b.1,b.2]).length:Int))=true:=by simp
 have g3:decide ((2:Int)<(([b.1,b.2]).length:Int))=false:=by simp
 rw[g1]
 simp only[show bi [b.1,b.2] 0=some b.1 from rfl,show [b.1,b.2][(0:Int).toNat]?=some b.1 from rfl,dT (V8 ha hb hx (.inl rfl))]
 cases e1:(scF x b.1).2
 ·rw[show gY (gY (s,true) x b.1) x b.2=(iv0,false) by unfold gY;rw[e1];rfl]at h
  exact⟨0,by rw[h];rfl⟩
 ·try dsimp only[Bool.not_true]
  have e0:gY (s,true) x b.1=((if(scF x b.1).1.1<s.1 then(scF x b.1).1.1 else s.1,if(scF x b.1).1.2>s.2 then(scF x b.1).1.2 else s.2),true):=by unfold gY;rw[e1];rfl
  rw[e0]at h
  suffices hh:ou.Runs 22 (qT a b s21 x (if(scF x b.1).1.1<s.1 then(scF x b.1).1.1 else s.1) (if(scF x b.1).1.2>s.2 then(scF x b.1).1.2 else s.2) (i64.wrap (0+1))) r by
   obtain⟨n,hn⟩:=hh
   exact⟨n,hn⟩
  rw[show i64.wrap (0+1)=1 by decide]
  refine vo _ _ _ _ _ _ _ ?_
  unfold qN
  rw[g2]
  simp only[show bi [b.1,b.2] 1=some b.2 from rfl,show [b.1,b.2][(1:Int).toNat]?=some b.2 from rfl,dT (V8 ha hb hx (.inr rfl))]
  cases e2:(scF x b.2).2
  ·unfold gY at h
   rw[e2]at h
   exact⟨0,by rw[show r=[RV.d tG (0,0),RV.d .bool false] from h];rfl⟩
  ·try dsimp only[Bool.not_true]
   unfold gY at h
   rw[e2]at h
   simp only[atY,cond_true]at h
   suffices hh:ou.Runs 22 (qT a b s21 x _ _ (i64.wrap (1+1))) r by
    obtain⟨n,hn⟩:=hh
    exact⟨n,hn⟩
   rw[show i64.wrap (1+1)=2 by decide]
   refine vo _ _ _ _ _ _ _ ?_
   unfold qN
   rw[g3]
   obtain⟨n,hn⟩:=h
   exact⟨n,hn⟩
theorem Lx(a b:Iv)(ha:prI a)(hb:prI b)(x i:Int)(hi:(i=0∧x=a.1)∨(i=1∧x=a.2))(s:Iv)(r:List RV)(h:∀s2:Iv×Bool,s2=gY (gY (s,true) x b.1) x b.2→bif s2.2 then ou.Runs 8 (rR a b (i+1) s2.1.1 s2.1.2) r else r=[RV.d tG (0,0),RV.d .bool false]):
  ou.Runs 8 (rR a b i s.1 s.2) r:=by
 refine Hu _ _ _ _ _ ?_
 unfold xU
 rcases hi with⟨rfl,rfl⟩|⟨rfl,rfl⟩
 ·obtain⟨n,hn⟩:=SY a b ha hb 0 a.1 (.inl rfl) s r (by rw[show i64.wrap (0+1)=0+1 by decide];exact h)
  exact⟨n,hn⟩
 ·obtain⟨n,hn⟩:=SY a b ha hb 1 a.2 (.inr rfl) s r (by rw[show i64.wrap (1+1)=1+1 by decide];exact h)
  exact⟨n,hn⟩
theorem Ze{s:Iv×Bool}{x y:Int}(h:s.2=false):gY s x y=(iv0,false):=by unfold gY;rw[h];rfl
theorem anP{s:Iv×Bool}(h:s.2=true):s=(s.1,true):=by rw[←h]
theorem ael(a b:(Int×Int))(h:prI a∧prI b):Con Tryz.prog 222 [.d tG a,.d tG b] [.d tG ((cV a b).1),.d .bool ((cV a b).2)]:=by
 obtain⟨ha,hb⟩:=h
 refine aP yZ (show ou.Res _ _ _ from ?_)
 refine arz _ _ ?_
 suffices hh:ou.Runs 8 (rR a b 0 2305843009213693952 (-2305843009213693952)) [.d tG (cV a b).1,.d .bool (cV a b).2] by
  obtain⟨n,hn⟩:=hh
  exact⟨n,hn⟩
 refine Lx a b ha hb a.1 0 (.inl ⟨rfl,rfl⟩) (2305843009213693952,-2305843009213693952) _ fun s1 e1=>?_
 have hm:cV a b=gY (gY s1 a.2 b.1) a.2 b.2:=by rw[e1];rfl
 cases c1:s1.2
 ·rw[hm,Ze (Ze c1▸rfl)]
  rfl
 ·rw[cond_true]
  refine Lx a b ha hb a.2 1 (.inr ⟨rfl,rfl⟩) s1.1 _ fun s2 e2=>?_
  rw[←anP c1,←hm]at e2
  cases c2:s2.2
  ·rw[←e2]
   rw[show s2=(iv0,false) by
    rw[e2,hm]
    rw[e2,hm]at c2
    unfold gY at c2 ⊢
    revert c2
    cases(_:Bool)&&(scF a.2 b.2).2
    ·intro _;rfl
    ·intro h;cases h]
   rfl
  ·rw[cond_true,←e2]
   refine Hu _ _ _ _ _ ⟨0,?_⟩
   unfold xU
   rw[show decide ((1+1:Int)<(([a.1,a.2]).length:Int))=false from by simp,c2]
def Es:aN:=spN false true [tG,tG] (fun x=>decide (prI x.1∧prI x.2.1)) (fun x=>[RV.d tG (hid ((cV x.1 x.2.1).1)),RV.d .bool ((cV x.1 x.2.1).2)])
theorem zo:SpK 222 Es:=spX fun x h=>by simp only[ak];exact ael x.1 x.2.1 (atS h)
def aqH:Ctx:=CX M6 []
def afY(n:Int)(_k:KT):Option (List RV):=match decide (bO n)with|true=>(match decide (bO (65536:Int))with|true=>(match decide (okI (hid (aj n))∧okI (hid (aj (65536:Int))))with|true=>(match decide (okI (hid (aj (ag (hid (aj n))*ag (hid (aj (65536:Int)))))))with|true=>(match decide (okI (hid (fC (hid (aj (ag (hid (aj n))*ag (hid (aj (65536:Int)))))))))with|true=>(match decide (okI (hid (fC (hid (aj (ag (hid (aj n))*ag (hid (aj (65536:Int))))))))∧okI (hid (fC (hid (aj (ag (hid (aj n))*ag (hid (aj (65536:Int)))))))))with|true=>(match decide (okI (hid (aj (ag (hid (fC (hid (aj (ag (hid (aj n))*ag (hid (aj (65536:Int))))))))*ag (hid (fC (hid (aj (ag (hid (aj n))*ag (hid (aj (65536:Int)))))))))))∧okI (hid (aj (ag (hid (aj n))*ag (hid (aj (65536:Int)))))))with|true=>some [RV.d axf (bif decide (bO (ag (hid (fC (hid (aj (ag (hid (aj n))*ag (hid (aj (65536:Int))))))))))then ag (hid (fC (hid (aj (ag (hid (aj n))*ag (hid (aj (65536:Int))))))))else 0),RV.d .bool ((cH (ag (hid (aj (ag (hid (fC (hid (aj (ag (hid (aj n))*ag (hid (aj (65536:Int))))))))*ag (hid (fC (hid (aj (ag (hid (aj n))*ag (hid (aj (65536:Int)))))))))))) (ag (hid (aj (ag (hid (aj n))*ag (hid (aj (65536:Int))))))))==0)]|false=>none)|false=>none)|false=>none)|false=>none)|false=>none)|false=>none)|false=>none
theorem anE(n:Int):RS aqH 277 [SI n] (afY n):=rsX
theorem adS(n:Int)(h:Ea n):Con Tryz.prog 277 [.d axf n] [.d axf (d8 n),.d .bool (decide (d8 n*d8 n=n*65536))]:=by
 refine aP yZ (anE _ ⟨0,?_⟩)
 have hr:=Mr h
 obtain⟨h0,h1⟩:=h
 have i1:bO n:=⟨by omega,by omega⟩
 have i2:bO 65536:=by decide
 have o1:okI (aj (n*65536)):=bK (by have:=c9 (jJ i1) (jJ i2);omega)
 have o2:okI (aj (d8 n)):=Ut ⟨by omega,by omega⟩
 have o3:okI (aj (d8 n*d8 n)):=bK (by have:=c9 (jJ (n:=d8 n) ⟨by omega,by omega⟩) (jJ (n:=d8 n) ⟨by omega,by omega⟩);omega)
 have o4:okI (aj n)∧okI (aj 65536):=⟨Ut i1,Ut i2⟩
 have o5:okI (aj (d8 n))∧okI (aj (d8 n)):=⟨o2,o2⟩
 have o6:okI (aj (d8 n*d8 n))∧okI (aj (n*65536)):=⟨o3,o1⟩
 have o7:bO (d8 n):=⟨by omega,by omega⟩
 unfold afY
 simp only[ak,dec_enc,dT i1,dT i2,dT o4,dT o1,ED o1]
 have e:b9 (n*65536)=d8 n:=rfl
 simp only[e,dT o2,dT o5,dT o6,dT o7,cond_true,l6]
def X4:aN:=spN false true [axf] (fun x=>decide (Ea x.1)) (fun x=>[RV.d axf (d8 x.1),RV.d .bool (decide (d8 x.1*d8 x.1=x.1*65536))])
theorem XM:SpK 277 X4:=spX fun x h=>adS x.1 (atS h)
def Vn:Env:=(222,Es)::(277,X4)::M6
theorem Hw:EnvAll Tryz.prog Vn:=⟨zo,XM,yZ⟩
def anv:Ctx:=CX Vn []
def aft(a:(Int×Int))(_k:KT):Option (List RV):=match decide (a.2<0)with|true=>some [RV.d tG (0,0),RV.d .bool false]|false=>(match decide (Ea (if 0>a.1 then 0 else a.1))with|true=>(match decide (Ea a.2)with|true=>(match !(decide (d8 a.2*d8 a.2=a.2*65536))with|true=>some [RV.d tG (hid ((mt (d8 (if 0>a.1 then 0 else a.1)) (i64.wrap ((d8 a.2)+1))).1)),RV.d .bool ((mt (d8 (if 0>a.1 then 0 else a.1)) (i64.wrap ((d8 a.2)+1))).2)]|false=>some [RV.d tG (hid ((mt (d8 (if 0>a.1 then 0 else a.1)) (d8 a.2)).1)),RV.d .bool ((mt (d8 (if 0>a.1 then 0 else a.1)) (d8 a.2)).2)])|false=>none)|false=>none)
theorem aoT(a:(Int×Int)):RS anv 258 [.d tG a] (aft a):=rsX
theorem adG(a:(Int×Int))(h:prI a):Con Tryz.prog 258 [.d tG a] [.d tG ((sqF a).1),.d .bool ((sqF a).2)]:=by
 refine aP Hw (aoT _ ⟨0,?_⟩)
 obtain⟨a1,a2,a3⟩:=h
 unfold aft sqF
 cases hn:decide (a.2<0)
 ·have hn:=au4 hn
  have r2:Ea a.2:=⟨by omega,by omega⟩
  have r1:Ea (if 0>a.1 then 0 else a.1):=⟨by split<;>omega,by split<;>omega⟩
  have b2:=Mr r2
  simp only[dT r1,dT r2,ak,bz (x:=d8 a.2+1) (by omega) (by omega)]
  cases decide (d8 a.2*d8 a.2=a.2*65536)<;>rfl
 ·rfl
def Jk:aN:=spN false true [tG] (fun x=>decide (prI x.1)) (fun x=>[RV.d tG (hid ((sqF x.1).1)),RV.d .bool ((sqF x.1).2)])
theorem E5:SpK 258 Jk:=spX fun x h=>by simp only[ak];exact adG x.1 (atS h)
def LG:Env:=(258,Jk)::Vn
theorem xX:EnvAll Tryz.prog LG:=⟨E5,Hw⟩
def ao3:Ctx:=CX LG []
def ahu(r:BO3)(_k:KT):Option (List RV):=match decide (ok Rat 200000 r.1)with|true=>(match !((frF (ae r.1)).2)with|true=>some [RV.d tG (hid ((frF (ae r.1)).1)),RV.d .bool ((frF (ae r.1)).2)]|false=>(match decide (okR r.2.1)with|true=>(match(aS (ae r.2.1) 0)==0 with|true=>some [RV.d tG (hid ((frF (ae r.1)).1)),RV.d .bool ((frF (ae r.1)).2)]|false=>(match decide (ok Rat 200000 r.2.1)with|true=>(match decide (ok Rat 200000 r.2.2)with|true=>(match !((frF (ae r.2.1)).2)with|true=>some [RV.d tG (0,0),RV.d .bool false]|false=>(match !((frF (ae r.2.2)).2)with|true=>some [RV.d tG (0,0),RV.d .bool false]|false=>(match decide (okR r.2.2)with|true=>(match decide ((aS (ae r.2.2) 0)<0)with|true=>some [RV.d tG (0,0),RV.d .bool false]|false=>(match decide (prI (hid ((frF (ae r.2.2)).1)))with|true=>(match !((sqF (hid ((frF (ae r.2.2)).1))).2)with|true=>some [RV.d tG (0,0),RV.d .bool false]|false=>(match decide (prI (hid ((frF (ae r.2.1)).1))∧prI (hid ((sqF (hid ((frF (ae r.2.2)).1))).1)))with|true=>(match !((cV (hid ((frF (ae r.2.1)).1)) (hid ((sqF (hid ((frF (ae r.2.2)).1))).1))).2)with|true=>some [RV.d tG (0,0),RV.d .bool false]|false=>(match decide (prI (hid ((frF (ae r.1)).1))∧prI (hid ((cV (hid ((frF (ae r.2.1)).1)) (hid ((sqF (hid ((frF (ae r.2.2)).1))).1))).1)))with|true=>some [RV.d tG (hid ((dG (hid ((frF (ae r.1)).1)) (hid ((cV (hid ((frF (ae r.2.1)).1)) (hid ((sqF (hid ((frF (ae r.2.2)).1))).1))).1))).1)),RV.d .bool ((dG (hid ((frF (ae r.1)).1)) (hid ((cV (hid ((frF (ae r.2.1)).1)) (hid ((sqF (hid ((frF (ae r.2.2)).1))).1))).1))).2)]|false=>none))|false=>none))|false=>none))|false=>none)))|false=>none)|false=>none))|false=>none))|false=>none
theorem aok(r:BO3):RS ao3 226 [.d tO r] (ahu r):=rsX
theorem abq(r:BO3)(h:ok Rt 100000 r):Con Tryz.prog 226 [.d tO r] [.d tG ((b8 (dec r)).1),.d .bool ((b8 (dec r)).2)]:=by
 refine aP xX (aok _ ⟨0,?_⟩)
 have hr:=h
 obtain⟨r,rfl,br⟩:=aZ hr
 have p1:prI (frF r.1).1:=RE.frF_pr _
 have p2:prI (frF r.2.1).1:=RE.frF_pr _
 have p3:prI (frF r.2.2).1:=RE.frF_pr _
 have p4:prI (sqF (frF r.2.2).1).1:=RE.sqF_pr p3
 have p5:prI (cV (frF r.2.1).1 (sqF (frF r.2.2).1).1).1:=ut _ _
 unfold ahu
 simp only[ak,aq,aI,aL,aF,az,aD,aX,Nat.reduceLeDiff,aE,aH,dT p3,dT (show prI (frF r.2.1).1∧prI (sqF (frF r.2.2).1).1 from⟨p2,p4⟩),dT (show prI (frF r.1).1∧prI (cV (frF r.2.1).1 (sqF (frF r.2.2).1).1).1 from⟨p1,p5⟩)]
 unfold b8
 clear p1 p2 p3 p4 p5
 generalize frF r.1=A
 generalize frF r.2.1=B
 generalize frF r.2.2=C
 generalize sqF C.1=S
 generalize cV B.1 S.1=M
 generalize dG A.1 M.1=U
 obtain⟨_,a⟩:=A
 obtain⟨_,b⟩:=B
 obtain⟨_,c⟩:=C
 obtain⟨_,s⟩:=S
 obtain⟨_,m⟩:=M
 cases a<;>cases decide (r.2.1=0)<;>cases b<;>cases c<;>cases decide (r.2.2<0)<;>cases s<;>cases m<;>rfl
def amC:Ctx:=CX LG []
def agF(a:(Int×Int))(_k:KT):Option (List RV):=match decide (a.1>0)with|true=>some [RV.d axf 1,RV.d .bool true]|false=>(match decide (a.2<0)with|true=>some [RV.d axf (-1),RV.d .bool true]|false=>(match a.1==0 with|true=>some [RV.d axf 0,RV.d .bool (a.2==0)]|false=>some [RV.d axf 0,RV.d .bool false]))
theorem asb(a:(Int×Int)):RS amC 225 [.d tG a] (agF a):=rsX
theorem adw(a:(Int×Int)):Con Tryz.prog 225 [.d tG a] [.d axf ((sgF a).1),.d .bool ((sgF a).2)]:=by
 refine aP xX (asb _ ⟨0,?_⟩)
 unfold agF sgF
 cases decide (a.1>0)<;>cases decide (a.2<0)<;>try rfl
 by_cases e1:a.1=0
 ·rw[atT e1,show(a.1==0)=true by simp[e1]]
  by_cases e2:a.2=0
  ·rw[atT e2,show(a.2==0)=true by simp[e2]];rfl
  ·rw[atV e2,show(a.2==0)=false by simp[e2]];rfl
 ·rw[atV e1,show(a.1==0)=false by simp[e1]];rfl
def zb:aN:=spN false true [tO] (fun x=>decide (ok Rt 100000 x.1)) (fun x=>[RV.d tG (hid ((b8 (dec x.1)).1)),RV.d .bool ((b8 (dec x.1)).2)])
theorem sW:SpK 226 zb:=spX fun x h=>by simp only[ak];exact abq x.1 (atS h)
def Ex:aN:=spN false true [tG] (fun _=>true) (fun x=>[RV.d axf ((sgF x.1).1),RV.d .bool ((sgF x.1).2)])
theorem xB:SpK 225 Ex:=spX fun x _=>adw x.1
def af7:Env:=(226,zb)::(225,Ex)::LG
theorem Y2:EnvAll Tryz.prog af7:=⟨sW,xB,xX⟩
def aoC:Ctx:=CX af7 []
def af2(n:BR)(a:(Int×Int))(g:Bool)(_k:KT):Option (List RV):=match decide (ok Rat 200000 n)with|true=>(match !g with|true=>some [RV.d tG (0,0),RV.d .bool false]|false=>(match !((frF (ae n)).2)with|true=>some [RV.d tG (0,0),RV.d .bool false]|false=>(match decide (prI (hid ((frF (ae n)).1))∧prI a)with|true=>some [RV.d tG (hid ((cV (hid ((frF (ae n)).1)) a).1)),RV.d .bool ((cV (hid ((frF (ae n)).1)) a).2)]|false=>none)))|false=>none
theorem anJ(n:BR)(a:(Int×Int))(g:Bool):RS aoC 227 [.d tR n,.d tG a,SB g] (af2 n a g):=rsX
theorem adt(n:BR)(a:(Int×Int))(g:Bool)(h:ok Rat 100000 n∧prI a):Con Tryz.prog 227 [.d tR n,.d tG a,.d .bool g] [.d tG ((iq (ae n) a g).1),.d .bool ((iq (ae n) a g).2)]:=by
 refine aP Y2 (anJ _ _ _ ⟨0,?_⟩)
 obtain⟨hn,ha⟩:=h
 obtain⟨n,rfl,bn⟩:=aZ hn
 unfold af2
 simp only[ak,aF,az,aD,Nat.reduceLeDiff,dT (show prI (frF n).1∧prI a from⟨RE.frF_pr _,ha⟩)]
 unfold iq
 generalize frF n=A
 obtain⟨_,q⟩:=A
 cases g<;>cases q<;>rfl
section
section
variable {u:Nat} {w w':World} {size n:Nat} {v:Value} {xs:List Value}
end
section
variable {P:Program} {fn:Func} {R:Ending→World→Prop} {B:Code} {K:List KI} {i:Nat} {a:Act} {w:World}
end
end
section
section
variable {P:Program} {a:Act} {w:World}
end
end
theorem yk{w w1 w2:World}{o:Option Nat}(h:w.grownBy w1 o)(hb:Below w1.heap.size w1 w2):w.grownBy w2 o:=
 ⟨hb.os.trans h.os,hb.tape.trans h.tape,hb.output.trans h.output,auh h.size hb.size,fun i hi hn=>(hb.block i (avA hi h.size)).trans (h.block i hi hn)⟩
theorem sO{w w1 w2:World}{c b:Nat}(h:w.grownBy w1 (some c))(hu:Upd w1 w2 b)(hb:b=c∨w.heap.size≤b):w.grownBy w2 (some c):=
 ⟨hu.os.trans h.os,hu.tape.trans h.tape,hu.output.trans h.output,by rw[hu.size];exact h.size,fun i hi hn=>(hu.block i (fun e=>by
  subst e
  rcases hb with hb|hb
  ·subst hb;exact hn rfl
  ·omega)).trans (h.block i hi hn)⟩
def acU:Code:=Tryz.f278.body.getD .skip
set_option maxRecDepth 100000 in
theorem Oj:aqi Tryz.prog 278 232:=by
 intro w c b ok x y _ hc
 have hB:w.grownBy w (some c):=World.grownBy.refl _ _
 have hlt:=hc.lt
 refine enter (B:=acU) (args:=[.pointer (some ⟨c,0,none⟩),.agg #[.int .i64 x,.int .i64 y],.bool ok]) Tryz.func278 (by kernel_rfl) (by kernel_rfl) ?_
 rw[show Tryz.f278.ntmps=18 from by kernel_rfl]
 intro a hs
 replace hs:=hs.pick (ts:=[0,1,2]) (L':=[(0,.pointer (some ⟨c,0,none⟩)),(1,.agg #[.int .i64 x,.int .i64 y]),(2,.bool ok)]) (by kernel_rfl)
 refine yl (j:=2) (by kernel_rfl) ?_
 refine mh (id:=0) (by kernel_rfl) ?_
 refine vk hs (by kernel_rfl) (amA (t:=188) (cs:= #[.int .i64 x,.int .i64 y]) (fun rb_=>.pointer (some ⟨rb_,0,none⟩)) [0,2,4] (fun rb_=>[(0,.pointer (some ⟨c,0,none⟩)),(2,.bool ok),(4,.pointer (some ⟨rb_,0,none⟩))]) hs (fun _=>by kernel_rfl) (fun _=>by kernel_rfl) ?_)
 clear hs a;intro a w1 b1 hn hs
 have B1:=hn.blk
 have l1:w.heap.size≤b1:=by rw[hn.at_];exact hB.size
 replace hc:=hc.below hn.below hc.lt
 replace hB:=yk hB hn.below
 clear hn
 refine vk hs (by kernel_rfl) (amA (t:=188) (cs:= #[.int .i64 0,.int .i64 0]) (fun rb_=>.pointer (some ⟨rb_,0,none⟩)) [0,2,4,6] (fun rb_=>[(0,.pointer (some ⟨c,0,none⟩)),(2,.bool ok),(4,.pointer (some ⟨b1,0,none⟩)),(6,.pointer (some ⟨rb_,0,none⟩))]) hs (fun _=>by kernel_rfl) (fun _=>by kernel_rfl) ?_)
 clear hs a;intro a w2 b2 hn hs
 have B2:=hn.blk
 have l2:w.heap.size≤b2:=by rw[hn.at_];exact hB.size
 have l2':b1<b2:=by rw[hn.at_];exact B1.lt
 replace hc:=hc.below hn.below hc.lt
 replace B1:=B1.below hn.below B1.lt
 replace hB:=yk hB hn.below
 clear hn
 refine qm (by kernel_rfl) ?_
 refine mA rfl ?_
 refine yl (j:=4) (by kernel_rfl) ?_
 refine mh (id:=1) (by kernel_rfl) ?_
 refine tk (m:=6) (H:=[(4,none,[.bool b])]) (ts:=[2,4,6,7,12]) (L':=[(2,.bool ok),(4,.pointer (some ⟨b1,0,none⟩)),(6,.pointer (some ⟨b2,0,none⟩)),(7,.pointer (some ⟨c,0,none⟩)),(12,.bool b)]) (O:=fun w=>(w.cell? ⟨c,0,none⟩=some (.bool b))∧True) hs (by kernel_rfl) ⟨hc.cell 0 rfl,trivial⟩ ?_
 clear hs a;intro a hs
 rcases Bool.eq_false_or_eq_true (b)with hb|hb
 ·replace hs:=hs.know (t:=12) rfl hb
  have cd1:=hb;have cd1b:=hb;clear hb
  replace hs:=hs.pick (ts:=[2,4,6,7,12]) (L':=[(2,.bool ok),(4,.pointer (some ⟨b1,0,none⟩)),(6,.pointer (some ⟨b2,0,none⟩)),(7,.pointer (some ⟨c,0,none⟩)),(12,.bool true)]) (by kernel_rfl)
  refine tk (m:=4) (H:=[]) (ts:=[4,6,14,16]) (L':=[(4,.pointer (some ⟨b1,0,none⟩)),(6,.pointer (some ⟨b2,0,none⟩)),(14,.bool ok),(16,.pointer (some ⟨c,0,none⟩))]) (O:=fun w=>True) hs (by kernel_rfl) trivial ?_
  clear hs a;intro a hs
  refine vk hs (by kernel_rfl) (Dg (b:=c) (cs:= #[.bool b]) #[.bool ok] [(0,.bool ok)] [4,6] [(4,.pointer (some ⟨b1,0,none⟩)),(6,.pointer (some ⟨b2,0,none⟩))] hs hc (by kernel_rfl) ⟨at6 rfl,trivial,trivial⟩ rfl (by kernel_rfl) ?_)
  clear hs a;intro a w3 hc' hu hs
  replace hc:=hc';clear hc'
  replace B1:=hu.blk B1 (by omega)
  replace B2:=hu.blk B2 (by omega)
  replace hB:=sO hB hu (by omega)
  clear hu
  refine qm (by kernel_rfl) ?_
  refine mA rfl ?_
  refine yl (j:=6) (by kernel_rfl) ?_
  refine mh (id:=2) (by kernel_rfl) ?_
  refine tk (m:=1) (H:=[(0,none,[.int .i64 x,.int .i64 y])]) (ts:=[6,17]) (L':=[(6,.pointer (some ⟨b2,0,none⟩)),(17,.agg #[.int .i64 x,.int .i64 y])]) (O:=fun w=>(w.cell? ⟨b1,0,none⟩=some (.int .i64 x))∧(w.cell? ⟨b1,1,none⟩=some (.int .i64 y))∧True) hs (by kernel_rfl) ⟨B1.cell 0 rfl,B1.cell 1 rfl,trivial⟩ ?_
  clear hs a;intro a hs
  refine vk hs (by kernel_rfl) (Dg (b:=b2) (cs:= #[.int .i64 0,.int .i64 0]) #[.int .i64 x,.int .i64 y] [(0,.int .i64 x),(1,.int .i64 y)] [6] [(6,.pointer (some ⟨b2,0,none⟩))] hs B2 (by kernel_rfl) ⟨at6 rfl,trivial,⟨at6 rfl,trivial,trivial⟩⟩ rfl (by kernel_rfl) ?_)
  clear hs a;intro a w4 B2' hu hs
  replace B2:=B2';clear B2'
  replace hc:=hu.blk hc (by omega)
  replace B1:=hu.blk B1 (by omega)
  replace hB:=sO hB hu (by omega)
  clear hu
  refine qm (by kernel_rfl) ?_
  refine mA rfl ?_
  refine Ji (by kernel_rfl) ?_
  refine XU (vs:=[.agg #[.int .i64 x,.int .i64 y]]) (H:=[.int .i64 x,.int .i64 y]) (v:=.agg #[.int .i64 x,.int .i64 y]) (O:=fun w=>(w.cell? ⟨b2,0,none⟩=some (.int .i64 x))∧(w.cell? ⟨b2,1,none⟩=some (.int .i64 y))∧True) hs (by kernel_rfl) rfl ⟨B2.cell 0 rfl,B2.cell 1 rfl,trivial⟩ ?_
  exact⟨rfl,by rw[cd1];exact hc,hB⟩
 ·replace hs:=hs.know (t:=12) rfl hb
  have cd1:=hb;have cd1b:=hb;clear hb
  replace hs:=hs.pick (ts:=[2,4,6,7,12]) (L':=[(2,.bool ok),(4,.pointer (some ⟨b1,0,none⟩)),(6,.pointer (some ⟨b2,0,none⟩)),(7,.pointer (some ⟨c,0,none⟩)),(12,.bool false)]) (by kernel_rfl)
  refine tk (m:=4) (H:=[]) (ts:=[4,6,14,16]) (L':=[(4,.pointer (some ⟨b1,0,none⟩)),(6,.pointer (some ⟨b2,0,none⟩)),(14,.bool false),(16,.pointer (some ⟨c,0,none⟩))]) (O:=fun w=>True) hs (by kernel_rfl) trivial ?_
  clear hs a;intro a hs
  refine vk hs (by kernel_rfl) (Dg (b:=c) (cs:= #[.bool b]) #[.bool false] [(0,.bool false)] [4,6] [(4,.pointer (some ⟨b1,0,none⟩)),(6,.pointer (some ⟨b2,0,none⟩))] hs hc (by kernel_rfl) ⟨at6 rfl,trivial,trivial⟩ rfl (by kernel_rfl) ?_)
  clear hs a;intro a w5 hc' hu hs
  replace hc:=hc';clear hc'
  replace B1:=hu.blk B1 (by omega)
  replace B2:=hu.blk B2 (by omega)
  replace hB:=sO hB hu (by omega)
  clear hu
  refine qm (by kernel_rfl) ?_
  refine mA rfl ?_
  refine yl (j:=6) (by kernel_rfl) ?_
  refine mh (id:=2) (by kernel_rfl) ?_
  refine tk (m:=1) (H:=[(0,none,[.int .i64 x,.int .i64 y])]) (ts:=[6,17]) (L':=[(6,.pointer (some ⟨b2,0,none⟩)),(17,.agg #[.int .i64 x,.int .i64 y])]) (O:=fun w=>(w.cell? ⟨b1,0,none⟩=some (.int .i64 x))∧(w.cell? ⟨b1,1,none⟩=some (.int .i64 y))∧True) hs (by kernel_rfl) ⟨B1.cell 0 rfl,B1.cell 1 rfl,trivial⟩ ?_
  clear hs a;intro a hs
  refine vk hs (by kernel_rfl) (Dg (b:=b2) (cs:= #[.int .i64 0,.int .i64 0]) #[.int .i64 x,.int .i64 y] [(0,.int .i64 x),(1,.int .i64 y)] [6] [(6,.pointer (some ⟨b2,0,none⟩))] hs B2 (by kernel_rfl) ⟨at6 rfl,trivial,⟨at6 rfl,trivial,trivial⟩⟩ rfl (by kernel_rfl) ?_)
  clear hs a;intro a w6 B2' hu hs
  replace B2:=B2';clear B2'
  replace hc:=hu.blk hc (by omega)
  replace B1:=hu.blk B1 (by omega)
  replace hB:=sO hB hu (by omega)
  clear hu
  refine qm (by kernel_rfl) ?_
  refine mA rfl ?_
  refine Ji (by kernel_rfl) ?_
  refine XU (vs:=[.agg #[.int .i64 x,.int .i64 y]]) (H:=[.int .i64 x,.int .i64 y]) (v:=.agg #[.int .i64 x,.int .i64 y]) (O:=fun w=>(w.cell? ⟨b2,0,none⟩=some (.int .i64 x))∧(w.cell? ⟨b2,1,none⟩=some (.int .i64 y))∧True) hs (by kernel_rfl) rfl ⟨B2.cell 0 rfl,B2.cell 1 rfl,trivial⟩ ?_
  exact⟨rfl,by rw[cd1];exact hc,hB⟩
def D3:aN:=spN false true [tO,tO] (fun x=>decide (ok Rt 15000 x.1∧ok Rt 15000 x.2.1)) (fun x=>[RV.d tQ (hid (enc (suT (dec x.1) (dec x.2.1))))])
theorem zu:SpK 231 D3:=spX fun x h=>by simp only[ak];exact acj x.1 x.2.1 (atS h)
def IZ:aN:=spN false true [tR,tG,.bool] (fun x=>decide (ok Rat 100000 x.1∧prI x.2.1)) (fun x=>[RV.d tG (hid ((iq (ae x.1) x.2.1 x.2.2.1).1)),RV.d .bool ((iq (ae x.1) x.2.1 x.2.2.1).2)])
theorem Hi:SpK 227 IZ:=spX fun x h=>by simp only[ak];exact adt x.1 x.2.1 x.2.2.1 (atS h)
def V5:aN:={keep:=true,tame:=true,run:=fun _ _ _=>none,mut_:=some ⟨true,fun l=>l,some 232⟩}
theorem YE:SpK 278 V5:=by
 refine⟨by kernel_rfl,fun R args k r h=>(by cases h),fun g h=>?_⟩
 injection h with h
 subst h
 exact Oj
def ae4:Env:=[(151,ke),(76,ky),(144,oZ),(74,lS),(145,rU),(255,Ec),(75,m6),(147,kJ),(250,Ac),(229,uX),(231,D3),(261,Jc),(256,CM),(221,DA),(223,C4),(224,Cp),(276,Ey),(275,DX),(257,IN),(222,Es),(258,Jk),(226,zb),(225,Ex),(227,IZ),(278,V5)]
theorem Ts:EnvAll Tryz.prog ae4:=⟨gu,gh,kV,ic,mu,zB,jo,gj,ug,oS,zu,FO,zj,xM,yK,yg,xQ,xT,EY,zo,E5,sW,xB,Hi,YE,trivial⟩
def alv:NT:=[((259,5),{keep:=[1,4,13,14,17,20,21,24],hl:=0}),((259,7),{keep:=[1,4,5,25,26,29,32,33,36],hl:=0})]
def aor:Ctx:=CX ae4 alv
def afT(q:BQ)(_k:KT):Option (List RV):=let y1:=frF (ae q.2.2.2.2.1);let y2:=ok Rat 200000 q.2.2.2.2.2;let y3:=frF (ae q.2.2.2.2.2);let y4:=sqF (hid (y3.1));let y5:=hid ((frF (ae q.2.1)).1);let y6:=hid ((sqF (hid (y1.1))).1);let y7:=frF (ae q.2.2.1);let y8:=frF (ae q.2.2.2.1);let y9:=cV y6 (hid (y4.1));let y10:=cV (hid (y7.1)) (hid (y4.1));let y11:=cV (hid (y8.1)) (hid (y9.1));let y12:=hid ((frF (ae q.1)).1);let y13:=hid ((cV y5 y6).1);let y14:=hid ((dG y12 y13).1);let y15:=dG (hid (y10.1)) (hid (y11.1));let y16:=dG y14 (hid (y15.1));let y17:Option (List RV):=match decide (prI (hid (y3.1)))with|true=>some [RV.d axf 0,RV.d .bool false]|false=>none;match decide (ok Rat 200000 q.2.2.2.2.1)with|true=>(match decide (prI (hid (y1.1)))with|true=>(match y1.2 with|true=>(match decide y2 with|true=>(match(sqF (hid (y1.1))).2 with|true=>(match decide (prI (hid (y3.1)))with|true=>(match y3.2 with|true=>(match !(y4.2)with|true=>some [RV.d axf 0,RV.d .bool false]|false=>(match decide (ok Rat 200000 q.2.1)with|true=>(match decide (prI y5∧prI y6)with|true=>(match decide (ok Rat 200000 q.2.2.1)with|true=>(match decide (prI (hid (y7.1))∧prI (hid (y4.1)))with|true=>(match decide (ok Rat 200000 q.2.2.2.1)with|true=>(match decide (prI y6∧prI (hid (y4.1)))with|true=>(match decide (prI (hid (y8.1))∧prI (hid (y9.1)))with|true=>(match !(((((((y4.2&&(frF (ae q.2.1)).2)&&(cV y5 y6).2)&&y7.2)&&y10.2)&&y8.2)&&y9.2)&&y11.2)with|true=>some [RV.d axf 0,RV.d .bool false]|false=>(match decide (ok Rat 200000 q.1)with|true=>(match decide (prI y12∧prI y13)with|true=>(match decide (prI (hid (y10.1))∧prI (hid (y11.1)))with|true=>(match decide (prI y14∧prI (hid (y15.1)))with|true=>(match !(((((((((((y4.2&&(frF (ae q.2.1)).2)&&(cV y5 y6).2)&&y7.2)&&y10.2)&&y8.2)&&y9.2)&&y11.2)&&(frF (ae q.1)).2)&&(dG y12 y13).2)&&y15.2)&&y16.2)with|true=>some [RV.d axf 0,RV.d .bool false]|false=>some [RV.d axf ((sgF (hid (y16.1))).1),RV.d .bool ((sgF (hid (y16.1))).2)])|false=>none)|false=>none)|false=>none)|false=>none))|false=>none)|false=>none)|false=>none)|false=>none)|false=>none)|false=>none)|false=>none))|false=>some [RV.d axf 0,RV.d .bool false])|false=>none)|false=>y17)|false=>none)|false=>(match decide y2 with|true=>y17|false=>none))|false=>none)|false=>none
theorem arV(q:BQ):RS aor 259 [.d tQ q] (afT q):=rsX
theorem aed(q:BQ)(h:okQ q):Con Tryz.prog 259 [.d tQ q] [.d axf ((quF (dec q)).1),.d .bool ((quF (dec q)).2)]:=by
 refine aP Ts (arV _ ⟨0,?_⟩)
 obtain⟨A,B,C,D,M,N,rfl,bA,bB,bC,bD,bM,bN,hM,hN⟩:=IL h
 rw[aq]
 have pf:∀q,prI (frF q).1:=RE.frF_pr
 have pm:∀a b,prI (cV a b).1:=ut
 have ps:∀q,prI (sqF (frF q).1).1:=fun q=>RE.sqF_pr (pf q)
 have pa:∀{a b},prI a→prI b→prI (dG a b).1:=fun ha hb=>RE.addF_pr ha hb
 have d1:∀q,decide (prI (frF q).1)=true:=fun q=>dT (pf q)
 have d2:∀q m,decide (prI (frF q).1∧prI (sqF (frF m).1).1)=true:=fun q m=>dT ⟨pf q,ps m⟩
 have d3:∀q m,decide (prI (sqF (frF q).1).1∧prI (sqF (frF m).1).1)=true:=fun q m=>dT ⟨ps q,ps m⟩
 have d4:∀q a b,decide (prI (frF q).1∧prI (cV a b).1)=true:=fun q a b=>dT ⟨pf q,pm a b⟩
 have d5:∀a b c d,decide (prI (cV a b).1∧prI (cV c d).1)=true:=fun a b c d=>dT ⟨pm a b,pm c d⟩
 have d6:∀q a b c d e f,decide (prI (dG (frF q).1 (cV a b).1).1∧prI (dG (cV c d).1 (cV e f).1).1)=true:=fun q a b c d e f=>dT ⟨pa (pf q) (pm a b),pa (pm c d) (pm e f)⟩
 unfold afT
 simp only[ak,aT,aF,az,aD,atW,atY,Nat.reduceLeDiff,atW,dT (pf _),dT (pm _ _),dT (ps _),dT (pa (pf _) (pm _ _)),dT (pa (pm _ _) (pm _ _))]
 unfold quF qu1 qu2 qu3 quA quB sfF mfF
 generalize frF M=FM
 generalize frF N=FN
 generalize sqF FM.1=SM
 generalize sqF FN.1=SN
 generalize frF A=FA
 generalize frF B=FB
 generalize frF C=FC
 generalize frF D=FD
 generalize cV FB.1 SM.1=MB
 generalize cV FC.1 SN.1=MC
 generalize cV SM.1 SN.1=MM
 generalize cV FD.1 MM.1=MD
 generalize dG FA.1 MB.1=A1
 generalize dG MC.1 MD.1=A2
 generalize dG A1.1 A2.1=A3
 generalize sgF A3.1=S
 obtain⟨_,fm⟩:=FM
 obtain⟨_,fn⟩:=FN
 obtain⟨_,sm⟩:=SM
 obtain⟨_,sn⟩:=SN
 cases fm<;>cases sm<;>cases fn<;>cases sn<;>try rfl
 dsimp only
 simp only[atX,atY]
 generalize (FB.2&&MB.2&&FC.2&&MC.2&&FD.2&&MM.2&&MD.2)=c2
 cases c2
 ·rfl
 ·simp only[atX]
  generalize (FA.2&&A1.2&&A2.2&&A3.2)=c3
  cases c3<;>rfl
end Go.Proofs.YtgddhgcjmddjfaaGreat
end
