/- integer: divide. -/
import Derived.Test.YtgddhgcjmddjfaaGreatC7
noncomputable section
namespace Go.Proofs.YtgddhgcjmddjfaaGreat
open Go.RowKit Go.IntKind
theorem auM:type_of% @List.length_pos_iff:=@List.length_pos_iff
theorem au9:type_of% @Rat.num_divInt_den:=@Rat.num_divInt_den
theorem avb:type_of% @beq_iff_eq:=@beq_iff_eq
theorem ave:type_of% @Classical.choose_spec:=@Classical.choose_spec
theorem avf:type_of% @Int.eq_ofNat_of_zero_le:=@Int.eq_ofNat_of_zero_le
theorem avn:type_of% @Int.natAbs_natCast:=@Int.natAbs_natCast
theorem avR:type_of% @List.length_nil:=@List.length_nil
theorem avS:type_of% @Int.lt_or_lt_of_ne:=@Int.lt_or_lt_of_ne
theorem avW:type_of% @Int.ediv_le_self:=@Int.ediv_le_self
theorem avX:type_of% @decide_eq_decide:=@decide_eq_decide
theorem av5:type_of% @Nat.gcd_comm:=@Nat.gcd_comm
theorem awn:type_of% @Rat.divInt_ofNat:=@Rat.divInt_ofNat
theorem awt:type_of% @Rat.sub_eq_add_neg:=@Rat.sub_eq_add_neg
theorem awy:type_of% @Nat.mul_ne_zero:=@Nat.mul_ne_zero
theorem awz:type_of% @Int.mul_ne_zero:=@Int.mul_ne_zero
theorem awA:type_of% @Rat.divInt_mul_divInt:=@Rat.divInt_mul_divInt
theorem awK:type_of% @Int.natAbs_mul:=@Int.natAbs_mul
theorem awX:type_of% @Rat.num_mkRat:=@Rat.num_mkRat
theorem awY:type_of% @Rat.den_mkRat:=@Rat.den_mkRat
theorem aw3:type_of% @Int.mul_neg:=@Int.mul_neg
theorem aw4:type_of% @Rat.div_def:=@Rat.div_def
theorem aw8:type_of% @Prod.ext:=@Prod.ext
section
section
variable (b:List Int) (x2:Int) (v:List Int) (m:Nat) (hN:(ah (val b).toNat).length=m+2) (hv:ah (val (dig ((ah (val b).toNat).length+([u32.wrap (u64.wrap (Int.tdiv 1000000000 (u64.wrap ((u64.wrap x2)+1))))]).length) (val (ah (val b).toNat)*val ([u32.wrap (u64.wrap (Int.tdiv 1000000000 (u64.wrap ((u64.wrap x2)+1))))])))).toNat=v) (lv:Lim v) (hvl:v.length=m+2)
include hN hv lv hvl
set_option maxHeartbeats 2000000 in
theorem XB(sc:Int)(hsc:u32.wrap (u64.wrap (Int.tdiv 1000000000 (u64.wrap ((u64.wrap x2)+1))))=sc)(hs1:1≤sc)(hs2:sc≤500000000)(htop:500000000≤v[m+1])(A:Int):
  ∀(M:Nat) (r5 r1:List Int),Lim r5→Lim r1→r1.length=r5.length+(m+2)→r1.length≤1000000000→M≤r5.length→val v*val r5+val r1=A→(∀j (hj:j<r5.length),j<M→r5[j]=0)→val r1<val v*pw M→
   ∃qL rL,(Lim qL∧Lim rL∧qL.length=r5.length∧rL.length≤m+2∧val qL=A/val v∧val rL=A%val v/sc)∧gv.Runs 34 (qP b x2 ((M:Int)-1) r5 r1) [.d axe qL,.d axe rL]:=by
 have hVlt:=cr lv
 rw[hvl]at hVlt
 have hV0:0<val v:=by
  rw[Gb hvl]
  have h1:=bg (lv.take m)
  have h2:=lv.get (show m<v.length by omega)
  have h3:=Int.mul_pos (ct m) (show 0<v[m]+1000000000*v[m+1] by omega)
  omega
 intro M
 induction M with
 |zero=>
  intro r5 r1 l5 l1 hlen hsz hM hA hz hlt
  rw[nI,awk]at hlt
  have h0:=bg l1
  have eQ:A/val v=val r5:=by rw[←hA,awS,avQ _ _ (by omega),avl h0 hlt];omega
  have eR:A%val v=val r1:=by rw[←hA,awS,av2];exact awd h0 hlt
  have ht:val (r1.take (m+2))=val r1:=by
   have hs:=fZ r1 (m+2)
   rw[auF (by omega)]at hs
   have h2:=bg (l1.drop (m+2))
   have h3:=bg (l1.take (m+2))
   rcases auA 0 (val (r1.drop (m+2)))with hc|hc
   ·have:=aua (show 1≤val (r1.drop (m+2)) by omega) (auH (ct (m+2)))
    omega
   ·have e:val (r1.drop (m+2))=0:=by omega
    rw[e]at hs
    omega
  have hlX:(ah (val r1).toNat).length≤m+2:=dt (by omega)
  have hX:=bW (val r1).toNat
  have hXv:val (ah (val r1).toNat)=val r1:=by omega
  have hd0:0≤val r1/sc:=au8 h0 (by omega)
  have hd1:val r1/sc≤val r1:=avW _ h0
  have hXl:=cr (cA (val r1).toNat)
  refine⟨r5,dig (ah (val r1).toNat).length (val r1/sc),⟨l5,nO _ _,rfl,by rw[iN];exact hlX,eQ.symm,by rw[eR,gX _ _ hd0 (by omega)]⟩,A8 _ _ _ _ _ ⟨0,?_⟩⟩
  unfold vn
  rw[atV (by omega),hN,hsc,aQ,show(0:Int).toNat=0 from rfl,awQ,avz,atT (show(0:Int)≤0∧(0:Int)≤((m+2:Nat):Int)∧((m+2:Nat):Int)≤(r1.length:Int) by omega),ht,hXv,
   atT (show bj (r1.take (m+2)) from⟨l1.take _,by rw[auG];omega⟩),atT (show GC (ah (val r1).toNat) sc from⟨⟨cA _,by omega⟩,hs1,by omega⟩)]
 |succ k ih=>
  intro r5 r1 l5 l1 hlen hsz hM hA hz hlt
  have hk3:k+(m+2)+1≤r1.length:=by omega
  have hP:=ct k
  have hr0:=bg l1
  have hz1:val (r1.drop (k+(m+2)+1))=0:=by
   have hs:=fZ r1 (k+(m+2)+1)
   rw[auF hk3]at hs
   have h2:=bg (l1.drop (k+(m+2)+1))
   have h3:=bg (l1.take (k+(m+2)+1))
   rcases auA 0 (val (r1.drop (k+(m+2)+1)))with hc|hc
   ·exfalso
    have e1:=aua (show 1≤val (r1.drop (k+(m+2)+1)) by omega) (auH (ct (k+(m+2)+1)))
    have e2:=auj (auH hVlt) (auH (ct (k+1)))
    rw[←fB,show m+2+(k+1)=k+(m+2)+1 by omega]at e2
    omega
   ·omega
  have hw1:=MX hk3 hz1
  have hwb:=Sn l1 hk3
  have hwlt:win k (m+2) r1<val v*1000000000:=by
   rcases auA (win k (m+2) r1) (val v*1000000000)with hc|hc
   ·exact hc
   ·exfalso
    have e1:=aua hc (auH hP)
    have e2:=bg (l1.take k)
    have e3:val v*pw (k+1)=pw k*(val v*1000000000):=by rw[cB];grind
    omega
  have K:=aqk lv hvl l1 (show k+m+3≤r1.length by omega) htop hwlt
  have htk:=cr (l1.take k)
  rw[auG,auF (by omega)]at htk
  have htk0:=bg (l1.take k)
  have hk5:k<r5.length:=by omega
  have hr5:=hz k hk5 (by omega)
  have e1:i64.wrap ((k:Int)+((m+2:Nat):Int))=((k+(m+2):Nat):Int):=by rw[bz (by omega) (by omega)];simp
  have e2:i64.wrap (((k+(m+2):Nat):Int)+1)=((k+(m+2)+1:Nat):Int):=co (by omega)
  have e3:k+(m+2)+1-k=m+2+1:=by omega
  have fin:∀(d:Int) (r:List Int),0≤d→d<1000000000→Lim r→r.length=r1.length→r.take k=r1.take k→r.drop (k+(m+2)+1)=r1.drop (k+(m+2)+1)→val r=val r1-pw k*(d*val v)→win k (m+2) r1-d*val v<val v→
    ∃qL rL,(Lim qL∧Lim rL∧qL.length=r5.length∧rL.length≤m+2∧val qL=A/val v∧val rL=A%val v/sc)∧gv.Runs 34 (qP b x2 ((k:Int)-1) (r5.set k d) r) [.d axe qL,.d axe rL]:=by
   intro d r d0 d1 lr hl ht hd hval hwd
   obtain⟨qL,rL,⟨a1,a2,a3,a4,a5,a6⟩,a7⟩:=ih (r5.set k d) r (l5.set k ⟨d0,d1⟩) lr (by simp;omega) (by omega) (by simp;omega) (by
     rw[fp hk5,hr5,hval,←hA];grind) (fun j hj hjk=>by rw[avs (by omega)];exact hz j (by simpa using hj) (by omega)) (by
     rw[hval,hw1]
     have e4:=aua (show win k (m+2) r1-d*val v≤val v-1 by omega) (auH hP)
     rw[Int.mul_sub,Int.mul_sub,awk]at e4
     rw[avG (val v)]
     omega)
   exact⟨qL,rL,⟨a1,a2,by simpa using a3,a4,a5,a6⟩,a7⟩
  have wof:∀(r:List Int) (x:Int),Lim r→r.length=r1.length→r.take k=r1.take k→r.drop (k+(m+2)+1)=r1.drop (k+(m+2)+1)→val r=val r1+pw k*x→win k (m+2) r=win k (m+2) r1+x∧0≤win k (m+2) r∧win k (m+2) r<pw (m+2+1):=by
   intro r x lr hl ht hd hval
   have h1:=MX (k:=k) (n:=m+2) (r:=r) (by omega) (by rw[hd];exact hz1)
   rw[ht]at h1
   have h2:=Sn (k:=k) (n:=m+2) lr (by omega)
   refine⟨?_,h2⟩
   have:pw k*win k (m+2) r=pw k*(win k (m+2) r1+x):=by rw[aw1];omega
   exact Int.eq_of_mul_eq_mul_left (by omega) this
  have hpw:pw (k+(m+2)+1)=pw k*pw (m+2+1):=by rw[←fB];congr 1
  have xt:=K.u2
  have xt1:=K.u1
  have xv:=K.v1
  have hg0:0≤(r1[k+m+2]*1000000000+r1[k+m+1])/v[m+1]:=au8 (by omega) (by omega)
  have hg1:(r1[k+m+2]*1000000000+r1[k+m+1])/v[m+1]<2000000000:=avy (by omega) (by
   have:=aua xv.1 (show(0:Int)≤2000000000 by decide)
   omega)
  have md:=auR (r1[k+m+2]*1000000000+r1[k+m+1]) v[m+1]
  have m0:=avc (r1[k+m+2]*1000000000+r1[k+m+1]) (show v[m+1]≠0 by omega)
  have m1:=auJ (r1[k+m+2]*1000000000+r1[k+m+1]) (show 0<v[m+1] by omega)
  have key:∃qL rL,(Lim qL∧Lim rL∧qL.length=r5.length∧rL.length≤m+2∧val qL=A/val v∧val rL=A%val v/sc)∧gv.Runs 49 (nL b x2 (k:Int) r1 r5 ((r1[k+m+2]*1000000000+r1[k+m+1])/v[m+1]) ((r1[k+m+2]*1000000000+r1[k+m+1])%v[m+1])) [.d axe qL,.d axe rL]:=by
   have hex:∃g,0≤g∧g<1000000000∧g*val v≤win k (m+2) r1∧win k (m+2) r1<(g+1)*val v:=by
    have h1:=auR (win k (m+2) r1) (val v)
    have h2:=avc (win k (m+2) r1) (show val v≠0 by omega)
    have h3:=auJ (win k (m+2) r1) hV0
    refine⟨win k (m+2) r1/val v,au8 hwb.1 (by omega),avy hV0 (by rw[avG];exact hwlt),?_,?_⟩
    ·rw[avG];omega
    ·rw[Int.add_mul,aw2,avG];omega
   obtain⟨d,d0,d1,d2,d3⟩:=hex
   have dv0:0≤d*val v:=au1 d0 (by omega)
   have hrow:∃r,Lim r∧r.length=r1.length∧r.take k=r1.take k∧r.drop (k+(m+2)+1)=r1.drop (k+(m+2)+1)∧val r=val r1-pw k*(d*val v):=by
    refine⟨r1.take k++(dig (m+2+1) (win k (m+2) r1-d*val v)++r1.drop (k+(m+2)+1)),(l1.take k).append ((nO _ _).append (l1.drop _)),by simp[iN];omega,?_,?_,?_⟩
    ·rw[avU (by simp;omega),aw7,Nat.min_self]
    ·rw[←aut,List.drop_append_of_le_length (by simp[iN];omega),auY (by simp[iN];omega),awT]
    ·rw[dH,dH,hz1,gX _ _ (by omega) (by omega),auG,auF (by omega),hw1]
     grind
   obtain⟨rr,q1,q2,q3,q4,q5⟩:=hrow
   obtain⟨qL,rL,hf,hrun⟩:=fin d rr d0 d1 q1 q2 q3 q4 q5 (by rw[Int.add_mul,aw2]at d3;omega)
   refine⟨qL,rL,hf,H7 b x2 v m hN hv lv hvl k r1 r5 (by omega) (by omega) _ K ?_ 2000000000 _ _ (by omega) hg0 (by omega) m0 (by omega) (by rw[avG];omega) (K.first rfl)⟩
   intro g g0 g1 hg2 hg3
   have same:∀r,Lim r→r.length=r1.length→r.take k=r1.take k→r.drop (k+(m+2)+1)=r1.drop (k+(m+2)+1)→val r=val r1-pw k*(d*val v)→r=rr:=fun r a1 a2 a3 a4 a5=>CO a1 q1 (by omega) (by omega)
   refine WA b x2 v m hN hv lv hvl k r1 r5 g ⟨g0,g1⟩ hk3 (by omega) _ ?_ ?_ (m+2+1) 0 0 0 r1 (by omega) (by omega) (by omega) (fun _=>rfl) (by omega) (by omega) l1 rfl rfl rfl (by simp[val])
   ·intro r a1 a2 a3 a4 a5
    obtain⟨w1,w2,w3⟩:=wof r (-(g*val v)) a1 a2 a3 a4 (by rw[a5,aw3];omega)
    have hgd:g=d:=by
     have h1:¬g<d:=fun hc=>by
      have:=auj (show g+1≤d by omega) (auH hV0)
      omega
     have h2:¬d<g:=fun hc=>by
      have:=auj (show d+1≤g by omega) (auH hV0)
      omega
     omega
    subst hgd
    rw[same r a1 a2 a3 a4 a5]
    obtain⟨q,hq⟩:=hrun
    refine⟨q,?_⟩
    unfold dv
    rw[hv,hN,e1,e2,aQ,aQ,e3,cz (at5 _),atV (show ¬(0:Int)>0 by decide),aA r5 k,atU hk5,dp (x:=g) (by omega) (by omega),bz (x:=(k:Int)-1) (by omega) (by omega)]
    exact hq
   ·intro r a1 a2 a3 a4 a5
    obtain⟨w1,w2,w3⟩:=wof r (-(g*val v)+pw (m+2+1)) a1 a2 a3 a4 (by rw[a5,hpw,aw1,aw3];omega)
    have hwg:win k (m+2) r1<g*val v:=by omega
    have hgd:g=d+1:=by
     have h1:¬g<d+1:=fun hc=>by
      have:=auj (show g≤d by omega) (auH hV0)
      omega
     have h2:¬d+1<g:=fun hc=>by
      have:=auj (show d+2≤g by omega) (auH hV0)
      rw[Int.add_mul]at this d3
      omega
     omega
    subst hgd
    have hres:gv.Runs 5 (dM b x2 (k:Int) r5 (d+1) 0 0 r) [.d axe qL,.d axe rL]:=by
     refine ZC b x2 v m hN hv lv hvl k r r5 (d+1) (by omega) (by omega) _ ?_ (m+2+1) 0 0 r (by omega) (by omega) (by omega) a1 rfl rfl rfl (by simp[val])
     intro r' c b1 b2 b3 b4 c0 c1 b5
     obtain⟨u1,u2,u3⟩:=wof r' (-((d+1)*val v)+pw (m+2+1)+val v-pw (m+2+1)*c) b1 (by omega) (b3.trans a3) (b4.trans a4) (by rw[b5,a5,hpw,Int.mul_sub,aw1,aw1,aw3];grind)
     have hc:c=1:=by
      rcases(show c=0∨c=1 by omega)with hc|hc
      ·exfalso
       subst hc
       rw[awf,Int.sub_zero]at u1
       rw[Int.add_mul,aw2]at u1
       omega
      ·exact hc
     subst hc
     rw[same r' b1 (by omega) (b3.trans a3) (b4.trans a4) (by rw[b5,a5];grind)]
     obtain⟨q,hq⟩:=hrun
     refine⟨q,?_⟩
     unfold eD
     rw[hN,e1,e2,aQ,aQ,e3,cz (at5 _),aA r5 k,atU hk5,show d+1-1=d by omega,bU (x:=d) (by omega) (by omega),dp (x:=d) (by omega) (by omega),bz (x:=(k:Int)-1) (by omega) (by omega)]
     exact hq
    obtain⟨q,hq⟩:=hres
    refine⟨q,?_⟩
    unfold dv
    rw[hv,hN,e1,e2,aQ,aQ,e3,cz (at5 _),atT (show(1:Int)>0 by decide),atT (show(0:Int)≤(k:Int)∧(k:Int)≤((k+(m+2)+1:Nat):Int)∧((k+(m+2)+1:Nat):Int)≤(r.length:Int) by omega)]
    exact hq
  obtain⟨qL,rL,hf,q,hq⟩:=key
  refine⟨qL,rL,hf,A8 _ _ _ _ _ ⟨q,?_⟩⟩
  have e4:i64.wrap (((k+(m+2):Nat):Int)-1)=((k+m+1:Nat):Int):=by rw[bz (by omega) (by omega)];omega
  have e5:i64.wrap (((m+2:Nat):Int)-1)=((m+1:Nat):Int):=by rw[bz (by omega) (by omega)];omega
  unfold vn
  rw[show((k+1:Nat):Int)-1=(k:Int) by omega,atT (by omega),hv,hN,e1,e4,e5,aA r1 (k+(m+2)),aQ,atU (show k+(m+2)<r1.length by omega),aA r1 (k+m+1),aQ,atU (show k+m+1<r1.length by omega),aA v (m+1),atU (show m+1<v.length by omega)]
  dsimp only
  rw[bU (x:=v[m+1]) (by omega) (by omega),atV (show ¬v[m+1]=0 by omega)]
  dsimp only
  have e6:r1[k+(m+2)]=r1[k+m+2]:=rfl
  rw[e6,bU (x:=r1[k+m+2]) (by omega) (by omega),bU (x:=r1[k+m+1]) (by omega) (by omega),bU (x:=r1[k+m+2]*1000000000) (by omega) (by omega),bU (x:=r1[k+m+2]*1000000000+r1[k+m+1]) (by omega) (by omega),gi (by omega),jk (by omega),bU (x:=(r1[k+m+2]*1000000000+r1[k+m+1])/v[m+1]) (by omega) (by omega)]
  exact hq
end
end
def pD(a b:List Int):Prop:=(Lim a∧a.length≤100000000)∧(Lim b∧b.length≤100000000)∧0<val b
instance (a b:List Int):Decidable (pD a b):=by unfold pD;infer_instance
structure apU (a b q r:List Int):Prop where
 lq:Lim q
 lr:Lim r
 sq:q.length≤200000000
 sr:r.length≤200000000
 q:val q=val a/val b
 r:val r=val a%val b
theorem wZ(x:Int):val [x]=x:=by simp[val]
theorem vM{l:List Int}(h:can l){m:Nat}(hl:l.length=m+1):1≤l[m]:=by
 have h2:=h.2
 rw[List.getLast?_eq_getElem?,hl,Nat.add_sub_cancel,atU (by omega)]at h2
 have h1:=h.1.get (show m<l.length by omega)
 have:l[m]≠0:=fun e=>h2 (by rw[e])
 omega
set_option maxHeartbeats 1000000 in
theorem Eu(a b:List Int)(h:pD a b):∃q r,apU a b q r∧Con Tryz.prog 247 [.d axe a,.d axe b] [.d axe q,.d axe r]:=by
 obtain⟨⟨la,sa⟩,⟨lb,sb⟩,hb⟩:=h
 have ha:bj a:=⟨la,by omega⟩
 have hb':bj b:=⟨lb,by omega⟩
 have va:=bW (val a).toNat
 have vb:=bW (val b).toNat
 have na:=bg la
 have va':val (ah (val a).toNat)=val a:=by omega
 have vb':val (ah (val b).toNat)=val b:=by omega
 have lna:=jN la
 have lnb:=jN lb
 have ca:=eh (val a).toNat
 have cb:=eh (val b).toNat
 have hla:bj (ah (val a).toNat):=⟨ca.1,by omega⟩
 have hlb:bj (ah (val b).toNat):=⟨cb.1,by omega⟩
 have go:∀{q r},gv.Res 247 [.d axe a,.d axe b] [.d axe q,.d axe r]→Con Tryz.prog 247 [.d axe a,.d axe b] [.d axe q,.d axe r]:=fun hr=>aP ND hr
 have hb0:ah (val b).toNat≠[]:=fun e=>by rw[gS]at e;omega
 by_cases h1:(ah (val b).toNat).length=1
 ·have t1:=vM cb (m:=0) h1
  have t2:=cb.1.get (show 0<(ah (val b).toNat).length by omega)
  have e0:(ah (val b).toNat)[0]=val b:=by
   obtain⟨x,hx⟩:=List.length_eq_one_iff.1 h1
   have:=vb'
   rw[hx,wZ]at this
   simp[hx,this]
  have hq0:0≤val a/val b:=au8 na (by omega)
  have hq1:val a/val b≤val a:=avW _ na
  have hr0:=avc (val a) (show val b≠0 by omega)
  have hr1:=auJ (val a) hb
  have hal:=cr ca.1
  refine⟨dig (ah (val a).toNat).length (val a/val b),[val a%val b],⟨nO _ _,Lim.cons ⟨hr0,by omega⟩ Lim.nil,by rw[iN];omega,by simp,gX _ _ hq0 (by omega),wZ _⟩,go (WW _ _ ⟨0,?_⟩)⟩
  unfold JY
  rw[atT ha,atT hb',h1,BY,atU (show 0<(ah (val b).toNat).length by omega),e0]
  dsimp only
  rw[atT (show GC (ah (val a).toNat) (val b) from⟨hla,by omega,by omega⟩),va']
  rfl
 have hlen:2≤(ah (val b).toNat).length:=by
  rcases auw (ah (val b).toNat).length 2 with h|h
  ·exfalso
   have:(ah (val b).toNat).length≠0:=fun e=>hb0 (avV e)
   omega
  ·exact h
 by_cases hlt:val a<val b
 ·refine⟨[],ah (val a).toNat,⟨Lim.nil,ca.1,by simp,by omega,?_,?_⟩,go (WW _ _ ⟨0,?_⟩)⟩
  ·rw[avl na hlt];rfl
  ·rw[awd na hlt];exact va'
  ·unfold JY
   rw[atT ha,atT hb',show(((ah (val b).toNat).length:Int)==1)=false by simp;omega,atT (show bj (ah (val a).toNat)∧bj (ah (val b).toNat) from⟨hla,hlb⟩),va',vb',df hlt,atT (show(ah (val a).toNat).length*4≤140737488355328∧(ah (val a).toNat).length≤140737488355328 by omega)]
   rfl
 ·obtain⟨m,hm⟩:∃m,(ah (val b).toNat).length=m+2:=⟨(ah (val b).toNat).length-2,by omega⟩
  have hxm:m+1<(ah (val b).toNat).length:=by omega
  have t1:=vM cb (m:=m+1) hm
  have t2:=cb.1.get hxm
  generalize hx2:(ah (val b).toNat)[m+1]=x2 at t1 t2
  obtain⟨s1,s2,s3,s4⟩:=W3 t1 t2.2
  have esc:u32.wrap (u64.wrap (Int.tdiv 1000000000 (u64.wrap ((u64.wrap x2)+1))))=1000000000/(x2+1):=by
   rw[bU (x:=x2) (by omega) (by omega),bU (x:=x2+1) (by omega) (by omega),gi (by omega),bU (x:=1000000000/(x2+1)) (by omega) (by omega),dp (x:=1000000000/(x2+1)) (by omega) (by omega)]
  generalize hsc:1000000000/(x2+1)=sc at s1 s2 s3 s4 esc
  have hsl:bj [sc]:=⟨Lim.cons ⟨by omega,by omega⟩ Lim.nil,by simp⟩
  have hbl:=cr cb.1
  rw[vb',hm]at hbl
  have hP:=ct (m+1)
  have hbtop:=bJ hxm
  rw[auT (by omega),vb',hx2]at hbtop
  have hbt0:=bg (cb.1.take (m+1))
  have hbt1:=cr (cb.1.take (m+1))
  rw[auG,auF (by omega)]at hbt1
  have hVhi:val b*sc<pw (m+2):=by
   have e1:val b*sc<(pw (m+1)*(x2+1))*sc:=Int.mul_lt_mul_of_pos_right (by rw[aw1,awk];omega) (by omega)
   have e2:(pw (m+1)*(x2+1))*sc=pw (m+1)*((x2+1)*sc):=Int.mul_assoc _ _ _
   have e3:pw (m+1)*((x2+1)*sc)≤pw (m+1)*1000000000:=aua s3 (auH hP)
   rw[cB]
   omega
  have hVlo:pw (m+1)*500000000≤val b*sc:=by
   have e1:pw (m+1)*x2*sc≤val b*sc:=auj (by omega) (by omega)
   have e2:pw (m+1)*x2*sc=pw (m+1)*(x2*sc):=Int.mul_assoc _ _ _
   have e3:pw (m+1)*500000000≤pw (m+1)*(x2*sc):=aua s4 (auH hP)
   omega
  have hV0:0<val b*sc:=Int.mul_pos hb (by omega)
  have edv:val (dig (m+2+1) (val b*sc))=val b*sc:=gX _ _ (by omega) (by rw[cB];omega)
  obtain⟨v,hv⟩:∃v,ah (val b*sc).toNat=v:=⟨_,rfl⟩
  have cv:=eh (val b*sc).toNat
  have vv:=bW (val b*sc).toNat
  rw[hv]at cv vv
  have hvv:val v=val b*sc:=by omega
  have hvl:v.length=m+2:=by
   have h1:v.length≤m+2:=by rw[←hv];exact dt (by omega)
   have h2:m+1<v.length:=by rw[←hv];exact DI (by omega)
   omega
  have htop:500000000≤v[m+1]:=by
   rcases auA v[m+1] 500000000 with hc|hc
   ·exfalso
    have e1:=bJ (l:=v) (n:=m+1) (by omega)
    rw[auT (by omega),hvv]at e1
    have e2:=cr (cv.1.take (m+1))
    rw[auG,auF (by omega)]at e2
    have e3:=aua (show v[m+1]≤499999999 by omega) (auH hP)
    omega
   ·exact hc
  have hal:=cr ca.1
  rw[va']at hal
  have hA0:0≤val a*sc:=au1 na (by omega)
  have hA1:val a*sc<pw ((ah (val a).toNat).length+1):=by
   have e1:val a*sc≤pw (ah (val a).toNat).length*sc:=auj (by omega) (by omega)
   have e2:pw (ah (val a).toNat).length*sc<pw (ah (val a).toNat).length*1000000000:=Int.mul_lt_mul_of_pos_left (by omega) (ct _)
   rw[cB]
   omega
  have lab:m+2≤(ah (val a).toNat).length:=by
   rw[←hm]
   rcases auw (ah (val a).toNat).length (ah (val b).toNat).length with hc|hc
   ·have:=xi hc;omega
   ·exact hc
  generalize hlA:(ah (val a).toNat).length=L at*
  have hdl:(dig (L+1) (val a*sc)++[0]).length=L+2:=by simp[iN]
  have hdv:val (dig (L+1) (val a*sc)++[0])=val a*sc:=by rw[dH,gX _ _ hA0 hA1];simp[val]
  have hmul:=hvv
  obtain⟨q,r,⟨f1,f2,f3,f4,f5,f6⟩,n,hrun⟩:=XB b x2 v m hm (by rw[esc,hm,vb',wZ];simp only[aur];rw[edv];exact hv) cv.1 hvl sc esc s1 s2 htop (val a*sc) (L-m) (List.replicate (L-m) 0) (dig (L+1) (val a*sc)++[0])
   (Lim.rep _) ((nO _ _).append (Lim.cons (by decide) Lim.nil)) (by rw[hdl];simp;omega) (by rw[hdl];omega) (by simp) (by rw[gG,hdv];omega) (fun j hj _=>by simp) (by
    rw[hdv,hvv]
    have e1:pw (m+1)*500000000*pw (L-m)≤val b*sc*pw (L-m):=auj hVlo (auH (ct _))
    have e2:pw (m+1)*500000000*pw (L-m)=pw (L+1)*500000000:=by
     rw[show L+1=m+1+(L-m) by omega,fB (m+1) (L-m),Int.mul_right_comm]
    have:=ct (L+1)
    omega)
  have hq:val a*sc/(val b*sc)=val a/val b:=Int.mul_ediv_mul_of_pos_left _ _ (by omega)
  have hr:val a*sc%(val b*sc)/sc=val a%val b:=by
   rw[avG (val a),avG (val b),Int.mul_emod_mul_of_pos _ _ (by omega),avG]
   exact Int.mul_ediv_cancel _ (by omega)
  rw[hvv]at f5 f6
  rw[hq]at f5
  rw[hr]at f6
  refine⟨q,r,⟨f1,f2,by rw[f3];simp;omega,by omega,f5,f6⟩,go (WW _ _ ⟨n,?_⟩)⟩
  unfold JY
  have e1:i64.wrap (((m+2:Nat):Int)-1)=((m+1:Nat):Int):=by rw[bz (by omega) (by omega)];omega
  have e2:i64.wrap (((L+2:Nat):Int)-((m+2:Nat):Int))=((L-m:Nat):Int):=by rw[bz (by omega) (by omega)];omega
  have e3:i64.wrap (((L-m:Nat):Int)-1)=((L-m:Nat):Int)-1:=bz (by omega) (by omega)
  rw[atT ha,atT hb',hm,show(((m+2:Nat):Int)==1)=false by simp;omega,atT (show bj (ah (val a).toNat)∧bj (ah (val b).toNat) from⟨hla,hlb⟩),va',vb',show decide (cH (val a) (val b)<0)=false by
   rcases auA (val b) (val a)with hc|hc
   ·rw[cZ hc];rfl
   ·rw[show val a=val b by omega,dV];rfl,e1,aA (ah (val b).toNat) (m+1),atU hxm,hx2]
  dsimp only
  rw[esc,bU (x:=x2) (by omega) (by omega),bU (x:=x2+1) (by omega) (by omega),atV (show ¬x2+1=0 by omega),atT (show bj (ah (val a).toNat)∧bj [sc] from⟨hla,hsl⟩),atT (show bj (ah (val b).toNat)∧bj [sc] from⟨hlb,hsl⟩),wZ,hlA]
  rw[aur,aur,hdl,iN (L+1)]
  rw[atT (show(L+1+1)*4≤140737488355328∧L+1+1≤140737488355328 by omega),atT (show bj (dig (m+2+1) (val b*sc)) from ju (by omega) _),e2,uq (by omega),aQ,e3]
  exact hrun
abbrev BI:=Bool×List Int
def okI(x:BI):Prop:=can x.2∧(x.1=true→x.2≠[])∧x.2.length≤1000000
instance (x:BI):Decidable (okI x):=by unfold okI;infer_instance
theorem ce(x:BI):ag x=cC x.1 (val x.2):=rfl
theorem ij{x:BI}(h:okI x):x=aj (ag x):=by
 obtain⟨h1,h2,h3⟩:=h
 have h0:=bg h1.1
 rw[ce,l4 _ h0,←oG h1]
 refine aw8 ?_ rfl
 show x.1=(x.1&&decide (0<val x.2))
 cases hx:x.1
 ·rfl
 ·rw[atT (eM h1 (h2 hx))];rfl
def szI(z:Int):Nat:=(ah z.natAbs).length
theorem bK{z:Int}(h:szI z≤1000000):okI (aj z):=by
 refine⟨eh _,fun e=>?_,h⟩
 unfold aj at e ⊢
 simp only[decide_eq_true_eq]at e
 intro e'
 rw[gS]at e'
 omega
theorem fu{z:Int}{k:Nat}(h1: -pw k<z)(h2:z<pw k):szI z≤k:=dt (by omega)
theorem Iq(z:Int): -pw (szI z)<z∧z<pw (szI z):=by
 have h:=cr (cA z.natAbs)
 rw[bW]at h
 unfold szI
 omega
theorem nJ{z:Int}{k:Nat}(h:szI z≤k): -pw k<z∧z<pw k:=by
 have h1:=Iq z
 have h2:=du h
 omega
theorem iY(z:Int):szI (-z)=szI z:=by unfold szI;rw[Int.natAbs_neg]
theorem wH{a b:Int}{k:Nat}(h1:szI a≤k)(h2:szI b≤k):szI (a+b)≤k+1:=by
 have e1:=nJ h1
 have e2:=nJ h2
 have hp:=ct k
 exact fu (by rw[cB];omega) (by rw[cB];omega)
theorem c9{a b:Int}{j k:Nat}(h1:szI a≤j)(h2:szI b≤k):szI (a*b)≤j+k:=by
 have e1:=nJ h1
 have e2:=nJ h2
 have h:(a*b).natAbs<(pw (j+k)).toNat:=by
  rw[awK,fB]
  have p1:=ct j
  have p2:=ct k
  have:(pw j*pw k).toNat=(pw j).toNat*(pw k).toNat:=Int.toNat_mul (by omega) (by omega)
  rw[this]
  exact Nat.mul_lt_mul'' (by omega) (by omega)
 have hp:=ct (j+k)
 exact fu (by omega) (by omega)
theorem dE{a b:Int}(h:a.natAbs≤b.natAbs):szI a≤szI b:=by
 have:=Iq b
 exact fu (by omega) (by omega)
theorem iI{x:BI}(h:okI x):szI (ag x)≤1000000:=by
 have:=ij h
 have h3:=h.2.2
 unfold szI
 rw[this]at h3
 exact h3
theorem fQ{x:BI}(h:okI x):bj x.2:=⟨h.1.1,by have:=h.2.2;omega⟩
theorem cN{x:BI}(h:okI x):0≤val x.2∧(x.1=true→0<val x.2)∧(x.2=[]↔val x.2=0):=by
 refine⟨bg h.1.1,fun e=>eM h.1 (h.2.1 e),⟨fun e=>by rw[e];rfl,fun e=>?_⟩⟩
 rcases List.eq_nil_or_concat x.2 with h'|⟨l,y,h'⟩
 ·exact h'
 ·have:=eM h.1 (by rw[h'];simp)
  omega
def oN:aN:=spN false false [axf] (fun x=>decide (bO x.1)) (fun x=>[RV.d y2Y (aj x.1)])
theorem kg:SpK 206 oN:=spX fun x h=>K9 x.1 (atS h)
def dvQ(a b:List Int):List Int:=if h:pD a b then Classical.choose (Eu a b h)else []
def dvR(a b:List Int):List Int:=if h:pD a b then Classical.choose (ave (Eu a b h))else []
theorem af5{a b:List Int}(h:pD a b):apU a b (dvQ a b) (dvR a b):=by
 unfold dvQ dvR
 rw[dif_pos h,dif_pos h]
 exact(ave (ave (Eu a b h))).1
theorem ab9(a b:List Int)(h:pD a b):Con Tryz.prog 247 [.d axe a,.d axe b] [.d axe (dvQ a b),.d axe (dvR a b)]:=by
 unfold dvQ dvR
 rw[dif_pos h,dif_pos h]
 exact(ave (ave (Eu a b h))).2
def JR:aN:=spN false false [axe,axe] (fun x=>decide (pD x.1 x.2.1)) (fun x=>[RV.d axe (dvQ x.1 x.2.1),RV.d axe (dvR x.1 x.2.1)])
theorem Hv:SpK 247 JR:=spX fun x h=>ab9 x.1 x.2.1 (atS h)
def rF:Env:=[(200,yS),(246,CW),(242,IW),(243,HS),(201,IJ),(199,Iu),(206,oN),(247,JR)]
theorem j9:EnvAll Tryz.prog rF:=⟨tt,zD,Hl,FW,FU,FK,kg,Hv,trivial⟩
def amt:Ctx:=CX rF []
def afm(x y:Bool×List Int)(_k:KT):Option (List RV):=match !(x.1==y.1)with|true=>(match x.1 with|true=>some [RV.d axf (-1)]|false=>some [RV.d axf 1])|false=>(match x.1 with|true=>(match decide (bj y.2∧bj x.2)with|true=>some [RV.d axf (cH (val y.2) (val x.2))]|false=>none)|false=>(match decide (bj x.2∧bj y.2)with|true=>some [RV.d axf (cH (val x.2) (val y.2))]|false=>none))
theorem amV(x y:Bool×List Int):RS amt 148 [.d y2Y x,.d y2Y y] (afm x y):=rsX
def ara:Ctx:=CX rF []
def ahy(x y:Bool×List Int)(_k:KT):Option (List RV):=match x.1==y.1 with|true=>(match decide (bj x.2∧bj y.2)with|true=>(match decide (bj (dig (max x.2.length y.2.length+1) (val x.2+val y.2)))with|true=>some [RV.d y2Y (aj (cC x.1 (val (dig (max x.2.length y.2.length+1) (val x.2+val y.2)))))]|false=>none)|false=>none)|false=>(match decide (bj x.2∧bj y.2)with|true=>(match decide ((cH (val x.2) (val y.2))<0)with|true=>(match decide (nH y.2 x.2)with|true=>(match decide (bj (dig y.2.length (val y.2-val x.2)))with|true=>some [RV.d y2Y (aj (cC y.1 (val (dig y.2.length (val y.2-val x.2)))))]|false=>none)|false=>none)|false=>(match decide (nH x.2 y.2)with|true=>(match decide (bj (dig x.2.length (val x.2-val y.2)))with|true=>some [RV.d y2Y (aj (cC x.1 (val (dig x.2.length (val x.2-val y.2)))))]|false=>none)|false=>none))|false=>none)
theorem aqV(x y:Bool×List Int):RS ara 195 [.d y2Y x,.d y2Y y] (ahy x y):=rsX
def aq1:Ctx:=CX rF []
def afv(x y:Bool×List Int)(_k:KT):Option (List RV):=match decide (bj x.2∧bj y.2)with|true=>(match decide (bj (dig (x.2.length+y.2.length) (val x.2*val y.2)))with|true=>some [RV.d y2Y (aj (cC (!(x.1==y.1)) (val (dig (x.2.length+y.2.length) (val x.2*val y.2)))))]|false=>none)|false=>none
theorem an4(x y:Bool×List Int):RS aq1 149 [.d y2Y x,.d y2Y y] (afv x y):=rsX
def apA:Ctx:=CX rF []
def agb(x:Bool×List Int)(_k:KT):Option (List RV):=match decide (x.2.length*4≤140737488355328∧x.2.length≤140737488355328)with|true=>(match decide (bj x.2)with|true=>some [RV.d y2Y (aj (cC (!x.1) (val x.2)))]|false=>none)|false=>none
theorem arZ(x:Bool×List Int):RS apA 196 [.d y2Y x] (agb x):=rsX
def amw:Ctx:=CX rF []
def aeO(x:Bool×List Int)(_k:KT):Option (List RV):=match x.1 with|true=>some [RV.d axf (-1)]|false=>(match decide ((x.2.length:Int)>0)with|true=>some [RV.d axf 1]|false=>some [RV.d axf 0])
theorem arp(x:Bool×List Int):RS amw 198 [.d y2Y x] (aeO x):=rsX
theorem aca(x:BI)(h:okI x):Con Tryz.prog 198 [.d y2Y x] [.d axf (cH (ag x) 0)]:=by
 refine aP j9 (arp _ ⟨0,?_⟩)
 obtain⟨h0,h1,h2⟩:=cN h
 unfold aeO
 rw[ce]
 unfold cC
 cases hx:x.1
 ·simp only[cond_false]
  rcases auA 0 (val x.2)with hc|hc
  ·have:x.2≠[]:=fun e=>by rw[h2]at e;omega
   have:=auM.2 this
   rw[atT (by omega),cZ hc]
  ·have e:x.2=[]:=h2.2 (by omega)
   rw[e]
   rfl
 ·simp only[cond_true]
  rw[df (by have:=h1 hx;omega)]
theorem MQ{a b:Int}(_ha:0≤a)(_hb:0≤b):cH (-a) (-b)=cH b a:=by
 rcases avZ a b with h|h|h
 ·rw[cZ (by omega),cZ h]
 ·rw[h,dV,dV]
 ·rw[df (by omega),df h]
theorem MT(x y:BI)(h:okI x∧okI y):Con Tryz.prog 148 [.d y2Y x,.d y2Y y] [.d axf (cH (ag x) (ag y))]:=by
 refine aP j9 (amV _ _ ⟨0,?_⟩)
 obtain⟨hx,hy⟩:=h
 obtain⟨x0,x1,x2⟩:=cN hx
 obtain⟨y0,y1,y2⟩:=cN hy
 have lx:=fQ hx
 have ly:=fQ hy
 unfold afm
 rw[ce,ce,atT (show bj x.2∧bj y.2 from⟨lx,ly⟩),atT (show bj y.2∧bj x.2 from⟨ly,lx⟩)]
 unfold cC
 cases ex:x.1<;>cases ey:y.1<;>simp only[cond_true,cond_false]
 ·rfl
 ·have:=y1 ey
  rw[cZ (a:=val x.2) (b:= -val y.2) (by omega)]
  rfl
 ·have:=x1 ex
  rw[df (a:= -val x.2) (b:=val y.2) (by omega)]
  rfl
 ·rw[MQ x0 y0]
  rfl
theorem ZB{a b:List Int}(ha:Lim a)(hb:Lim b):val (dig (max a.length b.length+1) (val a+val b))=val a+val b:=by
 have h1:=cr ha
 have h2:=cr hb
 have h3:=bg ha
 have h4:=bg hb
 have h5:=du (Nat.le_max_left a.length b.length)
 have h6:=du (Nat.le_max_right a.length b.length)
 have:=ct (max a.length b.length)
 exact gX _ _ (by omega) (by rw[cB];omega)
theorem BB{a b:List Int}(ha:Lim a)(hb:Lim b)(hle:val b≤val a):val (dig a.length (val a-val b))=val a-val b:=by
 have h1:=cr ha
 have h4:=bg hb
 exact gX _ _ (by omega) (by omega)
theorem NZ{a b:List Int}(ha:Lim a)(hb:Lim b):val (dig (a.length+b.length) (val a*val b))=val a*val b:=by
 have h1:=cr ha
 have h2:=cr hb
 have h3:=bg ha
 have h4:=bg hb
 refine gX _ _ (au1 h3 h4) ?_
 rw[fB]
 have e1:=auj (auH h1) h4
 have e2:=Int.mul_lt_mul_of_pos_left h2 (ct a.length)
 omega
theorem aev(x y:BI)(h:okI x∧okI y):Con Tryz.prog 195 [.d y2Y x,.d y2Y y] [.d y2Y (aj (ag x+ag y))]:=by
 refine aP j9 (aqV _ _ ⟨0,?_⟩)
 obtain⟨hx,hy⟩:=h
 obtain⟨x0,x1,x2⟩:=cN hx
 obtain⟨y0,y1,y2⟩:=cN hy
 have lx:=fQ hx
 have ly:=fQ hy
 have sx:=hx.2.2
 have sy:=hy.2.2
 unfold ahy
 rw[ce,ce,atT (show bj x.2∧bj y.2 from⟨lx,ly⟩),atT (show bj (dig (max x.2.length y.2.length+1) (val x.2+val y.2)) from ju (by omega) _),ZB lx.1 ly.1,atT (show bj (dig x.2.length (val x.2-val y.2)) from ju (by omega) _),atT (show bj (dig y.2.length (val y.2-val x.2)) from ju (by omega) _)]
 cases hs:x.1==y.1
 ·dsimp only
  rcases auA (val x.2) (val y.2)with hc|hc
  ·rw[df hc,atT (show(-1:Int)<0 by decide),atT (show nH y.2 x.2 from⟨ly,lx,by omega⟩),BB ly.1 lx.1 (by omega)]
   dsimp only
   unfold cC
   cases ex:x.1<;>cases ey:y.1<;>simp_all<;>congr 2<;>omega
  ·have hcm:decide (cH (val x.2) (val y.2)<0)=false:=by
    rcases auA (val y.2) (val x.2)with h|h
    ·rw[cZ h];rfl
    ·rw[show val x.2=val y.2 by omega,dV];rfl
   rw[hcm,atT (show nH x.2 y.2 from⟨lx,ly,hc⟩),BB lx.1 ly.1 hc]
   dsimp only
   unfold cC
   cases ex:x.1<;>cases ey:y.1<;>simp_all<;>congr 2<;>omega
 ·dsimp only
  have e:=avb.1 hs
  rw[←e]
  unfold cC
  cases x.1
  ·rfl
  ·simp only[cond_true]
   rw[show-(val x.2+val y.2)= -val x.2+ -val y.2 by omega]
theorem MZ(x:BI)(h:okI x):Con Tryz.prog 196 [.d y2Y x] [.d y2Y (aj (-ag x))]:=by
 refine aP j9 (arZ _ ⟨0,?_⟩)
 have sx:=h.2.2
 unfold agb
 rw[ce,atT (show x.2.length*4≤140737488355328∧x.2.length≤140737488355328 by omega),atT (fQ h)]
 unfold cC
 cases x.1<;>simp
theorem K5(x y:BI)(h:okI x∧okI y):Con Tryz.prog 149 [.d y2Y x,.d y2Y y] [.d y2Y (aj (ag x*ag y))]:=by
 refine aP j9 (an4 _ _ ⟨0,?_⟩)
 obtain⟨hx,hy⟩:=h
 have lx:=fQ hx
 have ly:=fQ hy
 have sx:=hx.2.2
 have sy:=hy.2.2
 unfold afv
 rw[ce,ce,atT (show bj x.2∧bj y.2 from⟨lx,ly⟩),atT (show bj (dig (x.2.length+y.2.length) (val x.2*val y.2)) from ju (by omega) _),NZ lx.1 ly.1]
 unfold cC
 cases x.1<;>cases y.1<;>simp[Int.neg_mul,aw3]
def ph:aN:=spN false false [y2Y,y2Y] (fun x=>decide (okI x.1∧okI x.2.1)) (fun x=>[RV.d y2Y (aj (ag x.1+ag x.2.1))])
theorem kR:SpK 195 ph:=spX fun x h=>aev x.1 x.2.1 (atS h)
def HV:Env:=(195,ph)::rF
theorem Bt:EnvAll Tryz.prog HV:=⟨kR,j9⟩
def anB:Ctx:=CX HV []
def ahK(x y:Bool×List Int)(_k:KT):Option (List RV):=match !y.1 with|true=>(match decide (okI x∧okI (decide ((y.2.length:Int)>0),y.2))with|true=>some [RV.d y2Y (aj (ag x+ag (decide ((y.2.length:Int)>0),y.2)))]|false=>none)|false=>(match decide (okI x∧okI (false,y.2))with|true=>some [RV.d y2Y (aj (ag x+ag (false,y.2)))]|false=>none)
theorem amv(x y:Bool×List Int):RS anB 272 [.d y2Y x,.d y2Y y] (ahK x y):=rsX
theorem Rs{y:BI}(h:okI y):okI (!y.1&&decide ((y.2.length:Int)>0),y.2)∧ag (!y.1&&decide ((y.2.length:Int)>0),y.2)= -ag y:=by
 obtain⟨y0,y1,y2⟩:=cN h
 refine⟨⟨h.1,fun e=>?_,h.2.2⟩,?_⟩
 ·simp only[at3,decide_eq_true_eq]at e
  intro e'
  have e2:=e.2
  have e'':y.2=[]:=e'
  rw[e'']at e2
  simp at e2
 ·rw[ce,ce]
  unfold cC
  dsimp only
  cases ey:y.1
  ·simp only[Bool.not_false,atX,cond_false]
   rcases auA 0 (val y.2)with hc|hc
   ·have:y.2≠[]:=fun e=>by rw[y2]at e;omega
    have:=auM.2 this
    rw[atT (by omega)]
    rfl
   ·have e:y.2=[]:=y2.2 (by omega)
    rw[e]
    rfl
  ·simp
theorem acN(x y:BI)(h:okI x∧okI y):Con Tryz.prog 272 [.d y2Y x,.d y2Y y] [.d y2Y (aj (ag x-ag y))]:=by
 refine aP Bt (amv _ _ ⟨0,?_⟩)
 obtain⟨hx,hy⟩:=h
 obtain⟨f1,f2⟩:=Rs hy
 rw[Int.sub_eq_add_neg,←f2]
 unfold ahK
 cases ey:y.1
 ·rw[ey]at f1
  simp only[Bool.not_false,atX]at f1 ⊢
  rw[atT ⟨hx,f1⟩]
 ·rw[ey]at f1
  simp only[Bool.not_true,Bool.false_and]at f1 ⊢
  rw[atT ⟨hx,f1⟩]
def U6:aN:=spN false false [y2Y,y2Y] (fun x=>decide (okI x.1∧okI x.2.1)) (fun x=>[RV.d y2Y (aj (ag x.1-ag x.2.1))])
theorem Zk:SpK 272 U6:=spX fun x h=>acN x.1 x.2.1 (atS h)
def Sr:Env:=(272,U6)::HV
theorem NU:EnvAll Tryz.prog Sr:=⟨Zk,Bt⟩
def amN:Ctx:=CX Sr []
def agf(x y:Bool×List Int)(_k:KT):Option (List RV):=let y1:=bj (dvQ x.2 y.2);let y2:=bj (dvR x.2 y.2);let y3:=aj (cC x.1 (val (dvR x.2 y.2)));let y4:=aj (cC (!(x.1==y.1)) (val (dvQ x.2 y.2)));let y5:Option (List RV):=match decide (((y3.2).length:Int)>0)with|true=>(match !((y3.1)==y.1)with|true=>(match decide (bO (1:Int))with|true=>(match decide (okI y4∧okI (aj (1:Int)))with|true=>(match decide (okI y3∧okI y)with|true=>dup (.b .l .l) (some [RV.d y2Y (aj (ag y4-ag (aj (1:Int)))),RV.d y2Y (aj (ag y3+ag y)),RV.d axf 0])|false=>none)|false=>none)|false=>none)|false=>dup (.b .l .l) (some [RV.d y2Y y4,RV.d y2Y y3,RV.d axf 0]))|false=>dup (.b .l .l) (some [RV.d y2Y y4,RV.d y2Y y3,RV.d axf 0]);let y6:Option (List RV):=match decide y2 with|true=>y5|false=>none;match(y.2.length:Int)==0 with|true=>some [RV.d y2Y (false,[]),RV.d y2Y (false,[]),RV.d axf 6]|false=>(match decide (pD x.2 y.2)with|true=>dl (match decide y1 with|true=>dl (match decide y2 with|true=>dup (.b .l .l) y5|false=>none) (dup (.b (.b .l .l) (.b .l .l)) y6)|false=>none) (dup (.b .l .l) (dl (match decide y1 with|true=>dup (.b .l .l) y6|false=>none) (match decide y1 with|true=>y6|false=>none)))|false=>none)
theorem arf(x y:Bool×List Int):RS amN 248 [.d y2Y x,.d y2Y y] (agf x y):=rsX
def fv(x y:BI):Prop:=okI x∧okI y∧0<ag y
instance (x y:BI):Decidable (fv x y):=by unfold fv;infer_instance
theorem Mu{a b:Int}(_ha:0≤a)(hb:0<b):(a%b=0→ -a/b= -(a/b)∧ -a%b=0)∧(0<a%b→ -a/b= -(a/b)-1∧ -a%b= -(a%b)+b):=by
 have h1:=avc a (show b≠0 by omega)
 have h2:=auJ a hb
 have h3:=auR a b
 constructor
 ·intro h
  have e: -a=b* -(a/b):=by rw[aw3];omega
  constructor
  ·rw[e,awe _ (by omega)]
  ·rw[e,Int.mul_emod_right]
 ·intro h
  have e: -a=(b-a%b)+b*(-(a/b)-1):=by rw[Int.mul_sub,aw3,awk];omega
  constructor
  ·rw[e,avQ _ _ (by omega),avl (by omega) (by omega)];omega
  ·rw[e,av2,awd (by omega) (by omega)];omega
theorem qu:okI (aj 1):=by decide
theorem CT(n:Bool){v:Int}:szI (cC n v)=szI v:=by unfold cC;cases n<;>simp[iY]
theorem Kf(x y:BI)(h:fv x y):Con Tryz.prog 248 [.d y2Y x,.d y2Y y] [.d y2Y (aj (ag x/ag y)),.d y2Y (aj (ag x%ag y)),.d axf 0]:=by
 refine aP NU (arf _ _ ⟨0,?_⟩)
 obtain⟨hx,hy,hp⟩:=h
 obtain⟨x0,x1,x2⟩:=cN hx
 obtain⟨y0,y1,y2⟩:=cN hy
 have sx:=hx.2.2
 have sy:=hy.2.2
 have ey:y.1=false:=by
  cases e:y.1
  ·rfl
  ·rw[ce,e]at hp
   simp only[cC,cond_true]at hp
   omega
 have dy:ag y=val y.2:=by rw[ce,ey];rfl
 rw[dy]at hp
 have hdv:pD x.2 y.2:=⟨⟨hx.1.1,by omega⟩,⟨hy.1.1,by omega⟩,hp⟩
 obtain⟨lq,lr,sq,sr,vq,vr⟩:=af5 hdv
 have hne:y.2≠[]:=fun e=>by rw[y2]at e;omega
 have hylen:=auM.2 hne
 have r0:=avc (val x.2) (show val y.2≠0 by omega)
 have r1:=auJ (val x.2) hp
 have q0:0≤val x.2/val y.2:=au8 x0 y0
 have q1:val x.2/val y.2≤val x.2:=avW _ x0
 have vx:=cr hx.1.1
 have vy:=cr hy.1.1
 have szq:szI (val x.2/val y.2)≤1000000:=fu (by have:=ct 1000000;omega) (by have:=du sx;omega)
 have szr:szI (val x.2%val y.2)≤1000000:=fu (by have:=ct 1000000;omega) (by have:=du sy;omega)
 unfold agf
 simp only[aO]
 rw[show((y.2.length:Int)==0)=false by simp;omega,atT hdv,atT (show bj (dvQ x.2 y.2) from⟨lq,by omega⟩),atT (show bj (dvR x.2 y.2) from⟨lr,by omega⟩),atT (show bO 1 by decide),vq,vr,
  atT (show okI (aj (cC (!(x.1==y.1)) (val x.2/val y.2)))∧okI (aj (1:Int)) from⟨bK (by rw[CT];exact szq),qu⟩),atT (show okI (aj (cC x.1 (val x.2%val y.2)))∧okI y from⟨bK (by rw[CT];exact szr),hy⟩)]
 simp only[dec_enc,dy,au]
 have hE1:(aj (cC x.1 (val x.2%val y.2))).1=(x.1&&decide (0<val x.2%val y.2)):=by rw[l4 x.1 r0]
 have hE2:(aj (cC x.1 (val x.2%val y.2))).2=ah (val x.2%val y.2).toNat:=by rw[l4 x.1 r0]
 rw[hE1,hE2,ce x,ey]
 have hlen:(((ah (val x.2%val y.2).toNat).length:Int)>0)↔0<val x.2%val y.2:=by
  constructor
  ·intro hl
   rcases auA 0 (val x.2%val y.2)with h|h
   ·exact h
   ·rw[show(val x.2%val y.2).toNat=0 by omega,fq]at hl
    simp at hl
  ·intro hl
   have:ah (val x.2%val y.2).toNat≠[]:=fun e=>by rw[gS]at e;omega
   have:=auM.2 this
   omega
 obtain⟨n1,n2⟩:=Mu (a:=val x.2) (b:=val y.2) x0 hp
 rcases auA 0 (val x.2%val y.2)with hr|hr
 ·rw[atT (hlen.2 hr),atT hr]
  cases x.1
  ·rfl
  ·obtain⟨e1,e2⟩:=n2 hr
   simp only[cC,cond_true,Bool.not_false,atX,show((true==false):Bool)=false from rfl]
   rw[e1,e2]
 ·rw[atV (fun h'=>by have:=hlen.1 h';omega)]
  dsimp only
  have e0:val x.2%val y.2=0:=by omega
  cases x.1
  ·simp only[cC,cond_false,show((false==false):Bool)=true from rfl,Bool.not_true]
  ·obtain⟨e1,e2⟩:=n1 e0
   simp only[cC,cond_true,show((true==false):Bool)=false from rfl,Bool.not_false]
   rw[e1,e2,e0]
   rfl
def kO(x:BI):Bool:=decide (x.2.length≤2)
def Ar(x:BI):Int:=bif kO x then val x.2 else 0
def aph:Ctx:=CX [] []
def afK(x:Bool×List Int)(_k:KT):Option (List RV):=match(x.2.length:Int)==0 with|true=>some [RV.d (.int .u64) 0,RV.d .bool true]|false=>(match(x.2.length:Int)==1 with|true=>(match bi x.2 0 with|some x1=>some [RV.d (.int .u64) (u64.wrap x1),RV.d .bool true]|none=>none)|false=>(match(x.2.length:Int)==2 with|true=>(match bi x.2 1 with|some x2=>(match bi x.2 0 with|some x3=>some [RV.d (.int .u64) (u64.wrap ((u64.wrap ((u64.wrap x2)*1000000000))+(u64.wrap x3))),RV.d .bool true]|none=>none)|none=>none)|false=>some [RV.d (.int .u64) 0,RV.d .bool false]))
theorem ano(x:Bool×List Int):RS aph 245 [.d y2Y x] (afK x):=rsX
theorem abF(x:BI)(h:okI x):Con Tryz.prog 245 [.d y2Y x] [.d (.int .u64) (Ar x),.d .bool (kO x)]:=by
 refine aP (E:=[]) trivial (ano _ ⟨0,?_⟩)
 obtain⟨neg,l⟩:=x
 have hl:=h.1.1
 unfold afK Ar kO
 match l,hl with
 |[],_=>rfl
 |[a],hl=>
  have:=hl.head
  simp only[aur,BY,auO]
  rw[bU (x:=a) (by omega) (by omega)]
  simp[val]
 |[a,b],hl=>
  have h1:=hl.head
  have h2:=hl.tail.head
  have e1:bi [a,b] 1=some b:=rfl
  have e0:bi [a,b] 0=some a:=rfl
  simp only[e1,e0,aui,avR]
  rw[bU (x:=a) (by omega) (by omega),bU (x:=b) (by omega) (by omega),bU (x:=b*1000000000) (by omega) (by omega),bU (x:=b*1000000000+a) (by omega) (by omega)]
  rw[show val [a,b]=b*1000000000+a by simp only[val];omega]
  rfl
 |a::b::c::l,hl=>
  have e:decide ((a::b::c::l).length≤2)=false:=atV (by simp)
  rw[e,show(((a::b::c::l).length:Int)==0)=false by simp;omega,show(((a::b::c::l).length:Int)==1)=false by simp;omega,show(((a::b::c::l).length:Int)==2)=false by simp;omega]
  rfl
def Re:aN:=spN false false [y2Y] (fun x=>decide (okI x.1)) (fun x=>[RV.d (.int .u64) (Ar x.1),RV.d .bool (kO x.1)])
theorem R5:SpK 245 Re:=spX fun x h=>abF x.1 (atS h)
def Y4:Env:=[(200,yS),(246,CW),(247,JR),(245,Re)]
theorem NK:EnvAll Tryz.prog Y4:=⟨tt,zD,Hv,R5,trivial⟩
def ajW:NT:=[((202,6),{keep:=[4,5,6],hl:=5}),((202,24),{keep:=[4,7,9],hl:=3})]
def ia:Ctx:=CX Y4 ajW
def lT(x y:Bool×List Int)(b3_0:Bool)(b3_1:List Int)(b4_0:Bool)(b4_1:List Int):Cfg:=⟨202,[.blk 0,.seq 40],[(4,.box 2 0),(5,.box 3 0),(6,.box 4 0)],[.box 33 [SB x.1,.d axe x.2],.box 33 [SB y.1,.d axe y.2],.box 33 [SB false,.nil],.box 33 [SB b3_0,.d axe b3_1],.box 33 [SB b4_0,.d axe b4_1]],0,[]⟩
def gr(x y:Bool×List Int)(b3_0:Bool)(b3_1:List Int)(b4_0:Bool)(b4_1:List Int):Cfg:=⟨202,[.blk 0,.seq 40],[(4,.box 2 0),(5,.box 4 0),(6,.box 3 0)],[.box 33 [SB x.1,.d axe x.2],.box 33 [SB y.1,.d axe y.2],.box 33 [SB false,.nil],.box 33 [SB b3_0,.d axe b3_1],.box 33 [SB b4_0,.d axe b4_1]],0,[]⟩
def iW(x y:Bool×List Int)(s7 s9:Int):Cfg:=⟨202,[.blk 2,.seq 33,.seq 37,.blk 1,.lp 6,.blk 0,.seq 40],[(4,.box 2 0),(7,.d (.int .u64) s7),(9,.d (.int .u64) s9)],[.box 33 [SB x.1,.d axe x.2],.box 33 [SB y.1,.d axe y.2],.box 33 [SB false,.nil]],0,[]⟩
def agC(x y:Bool×List Int)(k:KT):Option (List RV):=let y1:=aj (cC false (val x.2));let y2:=aj (cC false (val y.2));let y3:=lT x y (y1.1) (y1.2) (y2.1) (y2.2);let y4:=gr x y (y2.1) (y2.2) (y1.1) (y1.2);let y5:Option (List RV):=match decide (bj y.2)with|true=>k 6 y3|false=>none;let y6:Option (List RV):=match decide (bj y.2)with|true=>k 6 y4|false=>none;dl (match decide (bj x.2)with|true=>dl (match decide (bj y.2)with|true=>dl (k 6 y3) (k 6 y4)|false=>none) (dl (dup (.b .l .l) y5) (dup (.b .l .l) y6))|false=>none) (dl (dl (match decide (bj x.2)with|true=>dup (.b .l .l) y5|false=>none) (match decide (bj x.2)with|true=>y5|false=>none)) (dl (match decide (bj x.2)with|true=>dup (.b .l .l) y6|false=>none) (match decide (bj x.2)with|true=>y6|false=>none)))
theorem aoM(x y:Bool×List Int):RS ia 202 [.d y2Y x,.d y2Y y] (agC x y):=rsX
def YP(x y:Bool×List Int)(b3_0:Bool)(b3_1:List Int)(b4_0:Bool)(b4_1:List Int)(k:KT):Option (List RV):=match decide ((b4_1.length:Int)>0)with|true=>(match decide (okI (b3_0,b3_1))with|true=>(match decide (okI (b4_0,b4_1))with|true=>(match kO (b3_0,b3_1)with|true=>(match kO (b4_0,b4_1)with|true=>k 24 (iW x y (Ar (b3_0,b3_1)) (Ar (b4_0,b4_1)))|false=>(match decide (pD b3_1 b4_1)with|true=>(match decide (bj (dvR b3_1 b4_1))with|true=>k 6 (lT x y b4_0 b4_1 ((aj (cC false (val (dvR b3_1 b4_1)))).1) ((aj (cC false (val (dvR b3_1 b4_1)))).2))|false=>none)|false=>none))|false=>(match decide (pD b3_1 b4_1)with|true=>(match decide (bj (dvR b3_1 b4_1))with|true=>k 6 (lT x y b4_0 b4_1 ((aj (cC false (val (dvR b3_1 b4_1)))).1) ((aj (cC false (val (dvR b3_1 b4_1)))).2))|false=>none)|false=>none))|false=>none)|false=>none)|false=>(match decide (b3_1.length*4≤140737488355328∧b3_1.length≤140737488355328)with|true=>(match decide (bj b3_1)with|true=>some [RV.d y2Y (aj (cC false (val b3_1)))]|false=>none)|false=>none)
theorem Rx(x y:Bool×List Int)(b3_0:Bool)(b3_1:List Int)(b4_0:Bool)(b4_1:List Int):RL ia 6 (lT x y b3_0 b3_1 b4_0 b4_1) (YP x y b3_0 b3_1 b4_0 b4_1):=rlX
def Jw(x y:Bool×List Int)(b3_0:Bool)(b3_1:List Int)(b4_0:Bool)(b4_1:List Int)(k:KT):Option (List RV):=match decide ((b3_1.length:Int)>0)with|true=>(match decide (okI (b4_0,b4_1))with|true=>(match decide (okI (b3_0,b3_1))with|true=>(match kO (b4_0,b4_1)with|true=>(match kO (b3_0,b3_1)with|true=>k 24 (iW x y (Ar (b4_0,b4_1)) (Ar (b3_0,b3_1)))|false=>(match decide (pD b4_1 b3_1)with|true=>(match decide (bj (dvR b4_1 b3_1))with|true=>k 6 (gr x y ((aj (cC false (val (dvR b4_1 b3_1)))).1) ((aj (cC false (val (dvR b4_1 b3_1)))).2) b3_0 b3_1)|false=>none)|false=>none))|false=>(match decide (pD b4_1 b3_1)with|true=>(match decide (bj (dvR b4_1 b3_1))with|true=>k 6 (gr x y ((aj (cC false (val (dvR b4_1 b3_1)))).1) ((aj (cC false (val (dvR b4_1 b3_1)))).2) b3_0 b3_1)|false=>none)|false=>none))|false=>none)|false=>none)|false=>(match decide (b4_1.length*4≤140737488355328∧b4_1.length≤140737488355328)with|true=>(match decide (bj b4_1)with|true=>some [RV.d y2Y (aj (cC false (val b4_1)))]|false=>none)|false=>none)
theorem IT(x y:Bool×List Int)(b3_0:Bool)(b3_1:List Int)(b4_0:Bool)(b4_1:List Int):RL ia 6 (gr x y b3_0 b3_1 b4_0 b4_1) (Jw x y b3_0 b3_1 b4_0 b4_1):=rlX
def uu(x y:Bool×List Int)(s7 s9:Int)(k:KT):Option (List RV):=match decide (s9>0)with|true=>(match decide (s9=(0:Int))with|true=>none|false=>k 24 (iW x y s9 (Int.tmod s7 s9)))|false=>(match decide (gL s7)with|true=>(match decide (bj (dig 3 s7))with|true=>some [RV.d y2Y (aj (cC false (val (dig 3 s7))))]|false=>none)|false=>none)
theorem A4(x y:Bool×List Int)(s7 s9:Int):RL ia 24 (iW x y s7 s9) (uu x y s7 s9):=rlX
theorem Xv(x y:BI)(B:Nat)(hB:(B:Int)<18446744073709551616):∀(v u:Nat),u≤B→v≤B→ia.RunsE 24 (iW x y (u:Int) (v:Int)) [.d y2Y (aj ((Nat.gcd u v:Nat):Int))]:=by
 intro v
 induction v using Nat.strongRecOn with
 |ind v ih=>
  intro u hu hv
  rcases auI v with h0|h0
  ·refine A4 _ _ _ _ ⟨0,fun n _=>?_⟩
   have hp:gL (u:Int):=⟨by omega,by omega⟩
   unfold uu
   rw[atV (show ¬(v:Int)>0 by omega),atT hp,atT (ju (n:=3) (by decide) (u:Int)),zg hp,show Nat.gcd u v=u by rw[h0];exact Nat.gcd_zero_right u]
   rfl
  ·obtain⟨n0,hn⟩:=ih (u%v) (awP _ h0) v hv (auh (Nat.le_of_lt (awP _ h0)) hv)
   refine A4 _ _ _ _ ⟨n0,fun n hn'=>?_⟩
   unfold uu
   rw[atT (by omega),atV (by omega),jk (by omega)]
   dsimp only
   rw[show((u:Int)%(v:Int))=((u%v:Nat):Int) by simp,av5 u v,Nat.gcd_rec v u,av5]
   exact hn n hn'
theorem Bi(v:Int):cC false v=v:=rfl
theorem i9(u:Nat):aj (u:Int)=(false,ah u):=by unfold aj;rw[atV (by omega),avn]
theorem B9{u:Nat}(h:(ah u).length≤2):u≤(pw 2).toNat:=by
 have h1:=cr (cA u)
 rw[bW]at h1
 have h2:=du h
 omega
theorem ajc:(((pw 2).toNat:Nat):Int)<18446744073709551616:=by
 have h3:pw 2=1000000000000000000:=by decide
 rw[h3]
 decide
theorem FE{k:Nat→Cfg→Option (List RV)}{u v:Nat}(hu:szI u≤1000000)(hv:szI v≤1000000){r:List RV}{H:Int→Int→Cfg}{D:Int→Cfg}
  (h1:v=0→r=[.d y2Y (aj (u:Int))]) (h2:v≠0→kO (aj (u:Int))=true→kO (aj (v:Int))=true→k 24 (H (u:Int) (v:Int))=some r) (h3:v≠0→k 6 (D ((u%v:Nat):Int))=some r) (D':List Int→Cfg) (hD:D' (dvR (ah u) (ah v))=D (val (dvR (ah u) (ah v)))):
  (match decide (((ah v).length:Int)>0)with
   |true=>(match decide (okI (aj (u:Int)))with
    |true=>(match decide (okI (aj (v:Int)))with
     |true=>(match kO (aj (u:Int))with
      |true=>(match kO (aj (v:Int))with
       |true=>k 24 (H (Ar (aj (u:Int))) (Ar (aj (v:Int))))
       |false=>(match decide (pD (ah u) (ah v))with
        |true=>(match decide (bj (dvR (ah u) (ah v)))with
         |true=>k 6 (D' (dvR (ah u) (ah v)))
         |false=>none)
        |false=>none))
      |false=>(match decide (pD (ah u) (ah v))with
        |true=>(match decide (bj (dvR (ah u) (ah v)))with
         |true=>k 6 (D' (dvR (ah u) (ah v)))
         |false=>none)
        |false=>none))
     |false=>none)
    |false=>none)
   |false=>(match decide ((ah u).length*4≤140737488355328∧(ah u).length≤140737488355328)with
    |true=>(match decide (bj (ah u))with
     |true=>some [.d y2Y (aj (cC false (val (ah u))))]
     |false=>none)
    |false=>none))=some r:=by
 have lu:(ah u).length≤1000000:=by have:=hu;unfold szI at this;rwa [avn]at this
 have lv:(ah v).length≤1000000:=by have:=hv;unfold szI at this;rwa [avn]at this
 rcases auI v with h0|h0
 ·subst h0
  rw[h1 rfl,show decide (((ah 0).length:Int)>0)=false from rfl,atT (show(ah u).length*4≤140737488355328∧(ah u).length≤140737488355328 by omega),atT (show bj (ah u) from⟨cA u,by omega⟩),bW]
  rfl
 ·have hne:ah v≠[]:=fun e=>by rw[gS]at e;omega
  have hl:=auM.2 hne
  have hvv:=bW v
  have hvu:=bW u
  have hdv:pD (ah u) (ah v):=⟨⟨cA u,by omega⟩,⟨cA v,by omega⟩,by omega⟩
  obtain⟨_,lr,_,sr,_,vr⟩:=af5 hdv
  have hD2:k 6 (D' (dvR (ah u) (ah v)))=some r:=by
   rw[hD,vr,hvv,hvu]
   exact h3 (by omega)
  rw[atT (by omega),atT (bK hu),atT (bK hv),atT hdv,atT (show bj (dvR (ah u) (ah v)) from⟨lr,by omega⟩)]
  dsimp only
  cases hb1:kO (aj (u:Int))
  ·exact hD2
  ·cases hb2:kO (aj (v:Int))
   ·exact hD2
   ·dsimp only
    have:=h2 (by omega) hb1 hb2
    unfold Ar
    rw[hb1,hb2]
    simp only[cond_true,i9]
    rw[hvv,hvu]
    exact this
theorem S3(x y:BI):∀(v u:Nat),szI u≤1000000→szI v≤1000000→
  ia.RunsE 6 (lT x y false (ah u) false (ah v)) [.d y2Y (aj ((Nat.gcd u v:Nat):Int))]∧ia.RunsE 6 (gr x y false (ah v) false (ah u)) [.d y2Y (aj ((Nat.gcd u v:Nat):Int))]:=by
 intro v
 induction v using Nat.strongRecOn with
 |ind v ih=>
  intro u hu hv
  have hw:kO (aj (u:Int))=true→kO (aj (v:Int))=true→ia.RunsE 24 (iW x y (u:Int) (v:Int)) [.d y2Y (aj ((Nat.gcd u v:Nat):Int))]:=fun h1 h2=>by
   unfold kO at h1 h2
   rw[i9]at h1 h2
   exact Xv x y _ ajc v u (B9 (atS h1)) (B9 (atS h2))
  have hd:v≠0→ia.RunsE 6 (lT x y false (ah v) false (ah (u%v))) [.d y2Y (aj ((Nat.gcd u v:Nat):Int))]∧ia.RunsE 6 (gr x y false (ah (u%v)) false (ah v)) [.d y2Y (aj ((Nat.gcd u v:Nat):Int))]:=fun h0=>by
   have hm:=awP u (Nat.pos_of_ne_zero h0)
   have:=ih (u%v) hm v hv (auh (dE (by omega)) hv)
   rw[av5 u v,Nat.gcd_rec v u,av5 (u%v) v]
   exact this
  have hcommon:∃n0,∀n,n0≤n→(kO (aj (u:Int))=true→kO (aj (v:Int))=true→ia.k n 24 (iW x y (u:Int) (v:Int))=some [.d y2Y (aj ((Nat.gcd u v:Nat):Int))])∧(v≠0→ia.k n 6 (lT x y false (ah v) false (ah (u%v)))=some [.d y2Y (aj ((Nat.gcd u v:Nat):Int))]∧ia.k n 6 (gr x y false (ah (u%v)) false (ah v))=some [.d y2Y (aj ((Nat.gcd u v:Nat):Int))]):=by
   have g1:∃n1,∀n,n1≤n→(kO (aj (u:Int))=true→kO (aj (v:Int))=true→ia.k n 24 (iW x y (u:Int) (v:Int))=some [.d y2Y (aj ((Nat.gcd u v:Nat):Int))]):=by
    by_cases hb:kO (aj (u:Int))=true∧kO (aj (v:Int))=true
    ·obtain⟨n,h⟩:=hw hb.1 hb.2
     exact⟨n,fun m hm _ _=>h m hm⟩
    ·exact⟨0,fun n _ h1 h2=>absurd ⟨h1,h2⟩ hb⟩
   have g2:∃n1,∀n,n1≤n→(v≠0→ia.k n 6 (lT x y false (ah v) false (ah (u%v)))=some [.d y2Y (aj ((Nat.gcd u v:Nat):Int))]∧ia.k n 6 (gr x y false (ah (u%v)) false (ah v))=some [.d y2Y (aj ((Nat.gcd u v:Nat):Int))]):=by
    by_cases hb:v=0
    ·exact⟨0,fun n _ h=>absurd hb h⟩
    ·obtain⟨⟨n1,h1⟩,⟨n2,h2⟩⟩:=hd hb
     exact⟨max n1 n2,fun n hn _=>⟨h1 n (by omega),h2 n (by omega)⟩⟩
   obtain⟨n1,h1⟩:=g1
   obtain⟨n2,h2⟩:=g2
   exact⟨max n1 n2,fun n hn=>⟨h1 n (by omega),h2 n (by omega)⟩⟩
  obtain⟨n0,hc⟩:=hcommon
  have hz:v=0→([.d y2Y (aj ((Nat.gcd u v:Nat):Int))]:List RV)=[.d y2Y (aj (u:Int))]:=fun e=>by subst e;rw[Nat.gcd_zero_right]
  constructor
  ·refine Rx _ _ _ _ _ _ ⟨n0,fun n hn=>?_⟩
   have:=FE (k:=ia.k n) hu hv (H:=fun a b=>iW x y a b) (D:=fun z=>lT x y false (ah v) (aj z).1 (aj z).2) hz (fun _ h1 h2=>(hc n hn).1 h1 h2) (fun h0=>by rw[i9];exact((hc n hn).2 h0).1) (fun l=>lT x y false (ah v) (aj (cC false (val l))).1 (aj (cC false (val l))).2) rfl
   rw[i9,i9]at this
   exact this
  ·refine IT _ _ _ _ _ _ ⟨n0,fun n hn=>?_⟩
   have:=FE (k:=ia.k n) hu hv (H:=fun a b=>iW x y a b) (D:=fun z=>gr x y (aj z).1 (aj z).2 false (ah v)) hz (fun _ h1 h2=>(hc n hn).1 h1 h2) (fun h0=>by rw[i9];exact((hc n hn).2 h0).2) (fun l=>gr x y (aj (cC false (val l))).1 (aj (cC false (val l))).2 false (ah v)) rfl
   rw[i9,i9]at this
   exact this
theorem aar(x y:BI)(h:okI x∧okI y):Con Tryz.prog 202 [.d y2Y x,.d y2Y y] [.d y2Y (aj ((Int.gcd (ag x) (ag y):Nat):Int))]:=by
 refine aP NK (show ia.Res _ _ _ from ?_)
 obtain⟨hx,hy⟩:=h
 obtain⟨x0,_,_⟩:=cN hx
 obtain⟨y0,_,_⟩:=cN hy
 have ex:((ag x).natAbs:Int)=val x.2:=by rw[ce];unfold cC;cases x.1<;>simp<;>omega
 have ey:((ag y).natAbs:Int)=val y.2:=by rw[ce];unfold cC;cases y.1<;>simp<;>omega
 have szx:szI ((ag x).natAbs:Int)≤1000000:=auh (dE (by omega)) (iI hx)
 have szy:szI ((ag y).natAbs:Int)≤1000000:=auh (dE (by omega)) (iI hy)
 obtain⟨⟨n1,h1⟩,⟨n2,h2⟩⟩:=S3 x y (ag y).natAbs (ag x).natAbs szx szy
 refine aoM _ _ ⟨max n1 n2,?_⟩
 have h1:=h1 (max n1 n2) (by omega)
 have h2:=h2 (max n1 n2) (by omega)
 unfold agC
 simp only[aO]
 rw[atT (fQ hx),atT (fQ hy),Bi,Bi,←ex,←ey,i9,i9]
 dsimp only
 rw[h1,h2]
 simp only[au]
 rfl
abbrev BR:=BI×BI
def ai(q:Rat):BR:=(aj q.num,aj (q.den:Int))
def ae(x:BR):Rat:=mkRat (ag x.1) (ag x.2).toNat
theorem az(q:Rat):ae (ai q)=q:=by
 unfold ae ai
 dsimp only
 rw[dec_enc,dec_enc,avM,Rat.mkRat_self]
def okR(x:BR):Prop:=okI x.1∧okI x.2∧0<ag x.2∧Int.gcd (ag x.1) (ag x.2)=1∧x.1.2.length≤480000∧x.2.2.length≤480000
instance (x:BR):Decidable (okR x):=by unfold okR;infer_instance
theorem c8{x:BR}(h:okR x):(ae x).num=ag x.1∧((ae x).den:Int)=ag x.2:=by
 obtain⟨h1,h2,h3,h4,_⟩:=h
 unfold ae
 rw[awX,awY]
 have hg:(ag x.2).toNat.gcd (ag x.1).natAbs=1:=by
  rw[av5,show(ag x.2).toNat=(ag x.2).natAbs by omega]
  exact h4
 rw[hg,aum (by omega),aum (by omega)]
 constructor
 ·simp
 ·rw[Nat.div_one];omega
theorem Yu{x:BR}(h:okR x):x=ai (ae x):=by
 obtain⟨e1,e2⟩:=c8 h
 unfold ai
 rw[e1,e2,←ij h.1,←ij h.2.1]
def bdR(k:Nat)(q:Rat):Prop:=szI q.num≤k∧szI (q.den:Int)≤k
theorem qp{q:Rat}{k:Nat}(h:bdR k q)(hk:k≤480000):okR (ai q):=by
 obtain⟨h1,h2⟩:=h
 have hd:=q.den_pos
 refine⟨bK (by omega),bK (by omega),?_,?_,by show szI q.num≤480000;omega,by show szI (q.den:Int)≤480000;omega⟩
 ·show 0<ag (aj (q.den:Int))
  rw[dec_enc];omega
 ·show Int.gcd (ag (aj q.num)) (ag (aj (q.den:Int)))=1
  rw[dec_enc,dec_enc]
  exact q.reduced
theorem Cy{x:BR}(h:okR x):bdR 480000 (ae x):=by
 obtain⟨e1,e2⟩:=c8 h
 obtain⟨h1,h2,_,_,h5,h6⟩:=h
 unfold bdR szI
 rw[e1,e2]
 rw[ij h1]at h5
 rw[ij h2]at h6
 exact⟨h5,h6⟩
theorem cK{j k:Nat}{q:Rat}(h:bdR j q)(hk:j≤k):bdR k q:=⟨auh h.1 hk,auh h.2 hk⟩
theorem KR(a:Int)(g:Nat):(a/(g:Int)).natAbs≤a.natAbs∨¬(g:Int)∣a:=by
 by_cases h:(g:Int)∣a
 ·left
  obtain⟨k,rfl⟩:=h
  rcases auI g with h0|h0
  ·subst h0;simp
  ·rw[awe _ (by omega),awK]
   exact Nat.le_mul_of_pos_left _ (by omega)
 ·exact .inr h
theorem vg{n:Int}{d k:Nat}(hd:d≠0)(h1:szI n≤k)(h2:szI (d:Int)≤k):bdR k (mkRat n d):=by
 unfold bdR
 rw[awX,awY,aum hd,aum hd]
 constructor
 ·refine auh (dE ?_) h1
  refine(KR n (d.gcd n.natAbs)).resolve_right (fun h=>h ?_)
  have:=Nat.gcd_dvd_right d n.natAbs
  exact Int.ofNat_dvd_left.2 this
 ·exact auh (dE (by rw[avn,avn];exact Nat.div_le_self _ _)) h2
theorem wB{k:Nat}{a:Rat}(h:bdR k a):bdR k (-a):=by
 refine⟨?_,h.2⟩
 rw[Rat.neg_num,iY]
 exact h.1
theorem KH{j k:Nat}{a b:Rat}(ha:bdR j a)(hb:bdR k b):bdR (j+k+1) (a+b):=by
 rw[Rat.add_def']
 have d1:=a.den_pos
 have d2:=b.den_pos
 refine vg (awy (by omega) (by omega)) (wH (c9 ha.1 hb.2) ?_) ?_
 ·rw[Nat.add_comm];exact c9 hb.1 ha.2
 ·rw[avq];exact auh (c9 ha.2 hb.2) (by omega)
theorem ac6{j k:Nat}{a b:Rat}(ha:bdR j a)(hb:bdR k b):bdR (j+k+1) (a-b):=by
 rw[awt];exact KH ha (wB hb)
theorem Kp{j k:Nat}{a b:Rat}(ha:bdR j a)(hb:bdR k b):bdR (j+k) (a*b):=by
 rw[Rat.mul_def']
 have d1:=a.den_pos
 have d2:=b.den_pos
 refine vg (awy (by omega) (by omega)) (c9 ha.1 hb.1) ?_
 rw[avq]
 exact c9 ha.2 hb.2
theorem ace{k:Nat}{a:Rat}(h:bdR k a)(h0:a≠0):bdR k a⁻¹:=by
 have hn:a.num≠0:=fun e=>h0 (Rat.num_eq_zero.1 e)
 rw[Rat.inv_def]
 rcases avS hn with h1|h1
 ·rw[←Rat.neg_divInt_neg,show-a.num=(((-a.num).toNat:Nat):Int) by omega,awn]
  refine vg (by omega) (by rw[iY];exact h.2) ?_
  rw[show(((-a.num).toNat:Nat):Int)= -a.num by omega,iY]
  exact h.1
 ·rw[show a.num=((a.num.toNat:Nat):Int) by omega,awn]
  refine vg (by omega) h.2 ?_
  rw[show((a.num.toNat:Nat):Int)=a.num by omega]
  exact h.1
theorem acF{j k:Nat}{a b:Rat}(ha:bdR j a)(hb:bdR k b)(h0:b≠0):bdR (j+k) (a/b):=by
 rw[aw4];exact Kp ha (ace hb h0)
def eZ(x y:BI):BR:=ai (Rat.divInt (ag x) (ag y))
def io(x y:BI):Prop:=okI x∧okI y∧ag y≠0
instance (x y:BI):Decidable (io x y):=by unfold io;infer_instance
theorem m7{n d:Int}(hd:0<d):ai (Rat.divInt n d)=(aj (n/(Int.gcd n d:Int)),aj (d/(Int.gcd n d:Int))):=by
 obtain⟨D,rfl⟩:=avf (auH hd)
 unfold ai
 rw[awn,awX,awY,aum (by omega),aum (by omega)]
 have e:Int.gcd n (D:Int)=D.gcd n.natAbs:=by rw[av5];rfl
 rw[e,Int.natCast_ediv]
def vj:aN:=spN true false [y2Y] (fun x=>decide (okI x.1)) (fun x=>[RV.d axf (cH (ag x.1) 0)])
theorem oM:SpK 198 vj:=spX fun x h=>aca x.1 (atS h)
def rO:aN:=spN true false [y2Y,y2Y] (fun x=>decide (okI x.1∧okI x.2.1)) (fun x=>[RV.d axf (cH (ag x.1) (ag x.2.1))])
theorem mp:SpK 148 rO:=spX fun x h=>MT x.1 x.2.1 (atS h)
def wb:aN:=spN false false [y2Y] (fun x=>decide (okI x.1)) (fun x=>[RV.d y2Y (aj (-ag x.1))])
theorem pc:SpK 196 wb:=spX fun x h=>MZ x.1 (atS h)
def vK:aN:=spN false false [y2Y,y2Y] (fun x=>decide (okI x.1∧okI x.2.1)) (fun x=>[RV.d y2Y (aj (ag x.1*ag x.2.1))])
theorem pu:SpK 149 vK:=spX fun x h=>K5 x.1 x.2.1 (atS h)
def DB:aN:=spN false false [y2Y,y2Y] (fun x=>decide (fv x.1 x.2.1)) (fun x=>[RV.d y2Y (aj (ag x.1/ag x.2.1)),RV.d y2Y (aj (ag x.1%ag x.2.1)),RV.d axf 0])
theorem zR:SpK 248 DB:=spX fun x h=>Kf x.1 x.2.1 (atS h)
def JW:aN:=spN false false [y2Y,y2Y] (fun x=>decide (okI x.1∧okI x.2.1)) (fun x=>[RV.d y2Y (aj ((Int.gcd (ag x.1) (ag x.2.1):Nat):Int))])
theorem Gk:SpK 202 JW:=spX fun x h=>aar x.1 x.2.1 (atS h)
def Jg:Env:=[(206,oN),(198,vj),(148,rO),(195,ph),(196,wb),(149,vK),(248,DB),(202,JW)]
theorem BZ:EnvAll Tryz.prog Jg:=⟨kg,oM,mp,kR,pc,pu,zR,Gk,trivial⟩
def apc:Ctx:=CX Jg []
def ae3(_k:KT):Option (List RV):=match decide (bO (1:Int))with|true=>some [RV.d y2Y (aj (1:Int))]|false=>none
theorem aqP:RS apc 203 [] (ae3):=rsX
def ar7:Ctx:=CX Jg []
def af1(x y:Bool×List Int)(_k:KT):Option (List RV):=match decide (fv x y)with|true=>some [RV.d y2Y (aj (ag x/ag y))]|false=>none
theorem arj(x y:Bool×List Int):RS ar7 204 [.d y2Y x,.d y2Y y] (af1 x y):=rsX
theorem ad7:Con Tryz.prog 203 [] [.d y2Y (aj 1)]:=by
 refine aP BZ (aqP ⟨0,?_⟩)
 unfold ae3
 rw[atT (show bO 1 by decide)]
theorem adA(x y:BI)(h:fv x y):Con Tryz.prog 204 [.d y2Y x,.d y2Y y] [.d y2Y (aj (ag x/ag y))]:=by
 refine aP BZ (arj _ _ ⟨0,?_⟩)
 unfold af1
 rw[atT h]
def zL:aN:=spN false false [] (fun _=>true) (fun _=>[RV.d y2Y (aj 1)])
theorem t6:SpK 203 zL:=spX fun _ _=>ad7
def Q7:aN:=spN false false [y2Y,y2Y] (fun x=>decide (fv x.1 x.2.1)) (fun x=>[RV.d y2Y (aj (ag x.1/ag x.2.1))])
theorem WZ:SpK 204 Q7:=spX fun x h=>adA x.1 x.2.1 (atS h)
def X1:Env:=[(206,oN),(198,vj),(148,rO),(195,ph),(196,wb),(149,vK),(248,DB),(202,JW),(203,zL),(204,Q7)]
theorem On:EnvAll Tryz.prog X1:=⟨kg,oM,mp,kR,pc,pu,zR,Gk,t6,WZ,trivial⟩
def anz:Ctx:=CX X1 []
def ahw(x y:Bool×List Int)(_k:KT):Option (List RV):=match decide (okI y)with|true=>(match decide ((cH (ag y) 0)<0)with|true=>(match decide (okI x)with|true=>(match decide (okI y)with|true=>(match decide (okI (aj (-ag x))∧okI (aj (-ag y)))with|true=>(match decide (okI (aj ((Int.gcd (ag (aj (-ag x))) (ag (aj (-ag y))):Nat):Int))∧okI (aj 1))with|true=>(match(cH (ag (aj ((Int.gcd (ag (aj (-ag x))) (ag (aj (-ag y))):Nat):Int))) (ag (aj 1))) !=0 with|true=>(match decide (fv (aj (-ag x)) (aj ((Int.gcd (ag (aj (-ag x))) (ag (aj (-ag y))):Nat):Int)))with|true=>(match decide (fv (aj (-ag y)) (aj ((Int.gcd (ag (aj (-ag x))) (ag (aj (-ag y))):Nat):Int)))with|true=>some [RV.d (.st (.pair y2Y y2Y)) ((aj (ag (aj (-ag x))/ag (aj ((Int.gcd (ag (aj (-ag x))) (ag (aj (-ag y))):Nat):Int)))),(aj (ag (aj (-ag y))/ag (aj ((Int.gcd (ag (aj (-ag x))) (ag (aj (-ag y))):Nat):Int)))))]|false=>none)|false=>none)|false=>some [RV.d (.st (.pair y2Y y2Y)) ((aj (-ag x)),(aj (-ag y)))])|false=>none)|false=>none)|false=>none)|false=>none)|false=>(match decide (okI x∧okI y)with|true=>(match decide (okI (aj ((Int.gcd (ag x) (ag y):Nat):Int))∧okI (aj 1))with|true=>(match(cH (ag (aj ((Int.gcd (ag x) (ag y):Nat):Int))) (ag (aj 1))) !=0 with|true=>(match decide (fv x (aj ((Int.gcd (ag x) (ag y):Nat):Int)))with|true=>(match decide (fv y (aj ((Int.gcd (ag x) (ag y):Nat):Int)))with|true=>some [RV.d (.st (.pair y2Y y2Y)) ((aj (ag x/ag (aj ((Int.gcd (ag x) (ag y):Nat):Int)))),(aj (ag y/ag (aj ((Int.gcd (ag x) (ag y):Nat):Int)))))]|false=>none)|false=>none)|false=>some [RV.d (.st (.pair y2Y y2Y)) (x,y)])|false=>none)|false=>none))|false=>none
theorem an5(x y:Bool×List Int):RS anz 150 [.d y2Y x,.d y2Y y] (ahw x y):=rsX
theorem WX{a b:Int}(hb:b≠0){k:Nat}(h:szI b≤k):szI ((Int.gcd a b:Nat):Int)≤k:=by
 refine auh (dE ?_) h
 rw[avn]
 exact Nat.le_of_dvd (by omega) (Nat.gcd_dvd_right a.natAbs b.natAbs)
theorem abJ(x y:BI)(h:io x y):Con Tryz.prog 150 [.d y2Y x,.d y2Y y] [.d (.st (.pair y2Y y2Y)) (eZ x y)]:=by
 refine aP On (an5 _ _ ⟨0,?_⟩)
 obtain⟨hx,hy,hne⟩:=h
 have sx:=iI hx
 have sy:=iI hy
 have hgp:0<Int.gcd (ag x) (ag y):=Nat.pos_of_ne_zero fun e=>hne (Int.gcd_eq_zero_iff.1 e).2
 have hgs:=WX (a:=ag x) hne sy
 unfold ahw eZ
 rw[atT hy]
 dsimp only
 rcases avS hne with hn|hn
 ·rw[df hn,atT (show(-1:Int)<0 by decide),atT hx]
  have o1:okI (aj (-ag x)):=bK (by rw[iY];exact sx)
  have o2:okI (aj (-ag y)):=bK (by rw[iY];exact sy)
  simp only[dec_enc,Int.gcd_neg,Int.neg_gcd]
  have og:okI (aj ((Int.gcd (ag x) (ag y):Nat):Int)):=bK hgs
  rw[atT (show okI (aj (-ag x))∧okI (aj (-ag y)) from⟨o1,o2⟩),atT (show okI (aj ((Int.gcd (ag x) (ag y):Nat):Int))∧okI (aj 1) from⟨og,qu⟩)]
  rw[←Rat.neg_divInt_neg,m7 (by omega),Int.gcd_neg,Int.neg_gcd]
  dsimp only
  by_cases h1:Int.gcd (ag x) (ag y)=1
  ·rw[h1]
   simp[dV]
  ·have hc:(cH ((Int.gcd (ag x) (ag y):Nat):Int) 1 !=0)=true:=by
    rw[cZ (by omega)];rfl
   rw[hc,atT (show fv (aj (-ag x)) (aj ((Int.gcd (ag x) (ag y):Nat):Int)) from⟨o1,og,by rw[dec_enc];omega⟩),atT (show fv (aj (-ag y)) (aj ((Int.gcd (ag x) (ag y):Nat):Int)) from⟨o2,og,by rw[dec_enc];omega⟩)]
 ·rw[cZ hn,atV (show ¬(1:Int)<0 by decide)]
  simp only[dec_enc]
  have og:okI (aj ((Int.gcd (ag x) (ag y):Nat):Int)):=bK hgs
  rw[atT (show okI x∧okI y from⟨hx,hy⟩),atT (show okI (aj ((Int.gcd (ag x) (ag y):Nat):Int))∧okI (aj 1) from⟨og,qu⟩),m7 hn]
  dsimp only
  by_cases h1:Int.gcd (ag x) (ag y)=1
  ·rw[h1]
   simp only[Int.natCast_one,dV,Int.ediv_one,←ij hx,←ij hy]
   rfl
  ·have hc:(cH ((Int.gcd (ag x) (ag y):Nat):Int) 1 !=0)=true:=by
    rw[cZ (by omega)];rfl
   rw[hc,atT (show fv x (aj ((Int.gcd (ag x) (ag y):Nat):Int)) from⟨hx,og,by rw[dec_enc];omega⟩),atT (show fv y (aj ((Int.gcd (ag x) (ag y):Nat):Int)) from⟨hy,og,by rw[dec_enc];omega⟩)]
def aS(a b:Rat):Int:=bif decide (a<b)then-1 else bif decide (b<a)then 1 else 0
theorem dK{a b:Rat}(h:a<b):aS a b= -1:=by unfold aS;rw[atT h];rfl
theorem dA{a b:Rat}(h:b<a):aS a b=1:=by unfold aS;rw[atV (by grind),atT h];rfl
theorem dY(a:Rat):aS a a=0:=by unfold aS;rw[atV (by grind)];rfl
theorem xL(a b:Rat):cH (a.num*(b.den:Int)) (b.num*(a.den:Int))=aS a b:=by
 unfold cH aS
 rw[show decide (a.num*(b.den:Int)<b.num*(a.den:Int))=decide (a<b) from avX.2 (Rat.lt_iff a b).symm,show decide (b.num*(a.den:Int)<a.num*(b.den:Int))=decide (b<a) from avX.2 (Rat.lt_iff b a).symm]
theorem uW(a:Rat):cH a.num 0=aS a 0:=by
 rw[←xL]
 simp
def Ew:aN:=spN false false [y2Y,y2Y] (fun x=>decide (io x.1 x.2.1)) (fun x=>[RV.d (.st (.pair y2Y y2Y)) (eZ x.1 x.2.1)])
theorem zI:SpK 150 Ew:=spX fun x h=>abJ x.1 x.2.1 (atS h)
def ahP:NT:=[((146,3),{keep:=[0,1,8],hl:=0}),((146,5),{keep:=[0,1,5,10],hl:=0})]
def anD:Ctx:=CX [] ahP
def afH(x y:Int)(_k:KT):Option (List RV):=match x !=x with|true=>(match y !=y with|true=>some [RV.d axf 0]|false=>some [RV.d axf (-1)])|false=>(match y !=y with|true=>some [RV.d axf 1]|false=>(match decide (x<y)with|true=>some [RV.d axf (-1)]|false=>(match decide (x>y)with|true=>some [RV.d axf 1]|false=>some [RV.d axf 0])))
theorem aq0(x y:Int):RS anD 146 [SI x,SI y] (afH x y):=rsX
theorem abQ(x y:Int):Con Tryz.prog 146 [.d axf x,.d axf y] [.d axf (cH x y)]:=by
 refine aP (E:=[]) trivial (aq0 _ _ ⟨0,?_⟩)
 unfold afH
 rw[show(x !=x)=false by simp,show(y !=y)=false by simp]
 dsimp only
 rcases avZ x y with h|h|h
 ·rw[df h,atT h]
 ·subst h;rw[dV,atV (show ¬x<x by omega)]
 ·rw[cZ h,atV (show ¬x<y by omega),atT (show x>y from h)]
def Eb:aN:=spN true false [axf,axf] (fun _=>true) (fun x=>[RV.d axf (cH x.1 x.2.1)])
theorem yy:SpK 146 Eb:=spX fun x _=>abQ x.1 x.2.1
def HR:Env:=[(206,oN),(198,vj),(148,rO),(195,ph),(196,wb),(149,vK),(203,zL),(150,Ew),(146,Eb)]
theorem AS:EnvAll Tryz.prog HR:=⟨kg,oM,mp,kR,pc,pu,t6,zI,yy,trivial⟩
def aqC:Ctx:=CX HR []
def ar5(x:Bool×List Int)(_k:KT):Option (List RV):=some [RV.d (.st (.pair y2Y y2Y)) (x,(aj 1))]
theorem ao2(x:Bool×List Int):RS aqC 205 [.d y2Y x] (ar5 x):=rsX
theorem aa9(x:BI):Con Tryz.prog 205 [.d y2Y x] [.d (.st (.pair y2Y y2Y)) (x,aj 1)]:=
 aP AS (ao2 _ ⟨0,rfl⟩)
def I1:aN:=spN false false [y2Y] (fun _=>true) (fun x=>[RV.d (.st (.pair y2Y y2Y)) (x.1,aj 1)])
theorem Hm:SpK 205 I1:=spX fun x _=>aa9 x.1
def aqq:Ctx:=CX HR []
def ahe(a:(Bool×List Int)×Bool×List Int)(_k:KT):Option (List RV):=match decide (okI a.1)with|true=>some [RV.d axf (cH (ag a.1) 0)]|false=>none
theorem aqv(a:(Bool×List Int)×Bool×List Int):RS aqq 147 [.d (.st (.pair y2Y y2Y)) a] (ahe a):=rsX
theorem Nb(a:BR)(h:okR a):Con Tryz.prog 147 [.d (.st (.pair y2Y y2Y)) a] [.d axf (aS (ae a) 0)]:=by
 refine aP AS (aqv _ ⟨0,?_⟩)
 unfold ahe
 rw[atT h.1,←uW,(c8 h).1]
def JH:aN:=spN true false [(.st (.pair y2Y y2Y))] (fun x=>decide (okR x.1)) (fun x=>[RV.d axf (aS (ae x.1) 0)])
theorem HL:SpK 147 JH:=spX fun x h=>Nb x.1 (atS h)
def mX:Env:=[(206,oN),(198,vj),(148,rO),(195,ph),(196,wb),(149,vK),(203,zL),(150,Ew),(146,Eb),(205,I1),(147,JH)]
theorem iA:EnvAll Tryz.prog mX:=⟨kg,oM,mp,kR,pc,pu,t6,zI,yy,Hm,HL,trivial⟩
def amK:Ctx:=CX mX []
def af6(n:Int)(_k:KT):Option (List RV):=match decide (bO n)with|true=>some [RV.d (.st (.pair y2Y y2Y)) ((aj n),(aj 1))]|false=>none
theorem aoG(n:Int):RS amK 151 [SI n] (af6 n):=rsX
def asp:Ctx:=CX mX []
def ahl(a b:(Bool×List Int)×Bool×List Int)(_k:KT):Option (List RV):=match decide (okR a)with|true=>(match decide (okR b)with|true=>(match(cH (aS (ae a) 0) (aS (ae b) 0)) !=0 with|true=>some [RV.d axf (cH (aS (ae a) 0) (aS (ae b) 0))]|false=>(match decide (okI a.1∧okI b.2)with|true=>(match decide (okI b.1∧okI a.2)with|true=>(match decide (okI (aj (ag a.1*ag b.2))∧okI (aj (ag b.1*ag a.2)))with|true=>some [RV.d axf (cH (ag (aj (ag a.1*ag b.2))) (ag (aj (ag b.1*ag a.2))))]|false=>none)|false=>none)|false=>none))|false=>none)|false=>none
theorem amS(a b:(Bool×List Int)×Bool×List Int):RS asp 75 [.d (.st (.pair y2Y y2Y)) a,.d (.st (.pair y2Y y2Y)) b] (ahl a b):=rsX
def am0:Ctx:=CX mX []
def ahg(a b:(Bool×List Int)×Bool×List Int)(_k:KT):Option (List RV):=match decide (okI a.2∧okI b.2)with|true=>(match(cH (ag a.2) (ag b.2))==0 with|true=>(match decide (okI a.1∧okI b.1)with|true=>(match decide (io (aj (ag a.1+ag b.1)) a.2)with|true=>some [RV.d (.st (.pair y2Y y2Y)) (((eZ (aj (ag a.1+ag b.1)) a.2).1),((eZ (aj (ag a.1+ag b.1)) a.2).2))]|false=>none)|false=>none)|false=>(match decide (okI a.1∧okI b.2)with|true=>(match decide (okI b.1∧okI a.2)with|true=>(match decide (okI (aj (ag a.1*ag b.2))∧okI (aj (ag b.1*ag a.2)))with|true=>(match decide (okI a.2∧okI b.2)with|true=>(match decide (io (aj (ag (aj (ag a.1*ag b.2))+ag (aj (ag b.1*ag a.2)))) (aj (ag a.2*ag b.2)))with|true=>some [RV.d (.st (.pair y2Y y2Y)) (((eZ (aj (ag (aj (ag a.1*ag b.2))+ag (aj (ag b.1*ag a.2)))) (aj (ag a.2*ag b.2))).1),((eZ (aj (ag (aj (ag a.1*ag b.2))+ag (aj (ag b.1*ag a.2)))) (aj (ag a.2*ag b.2))).2))]|false=>none)|false=>none)|false=>none)|false=>none)|false=>none))|false=>none
theorem aqt(a b:(Bool×List Int)×Bool×List Int):RS am0 144 [.d (.st (.pair y2Y y2Y)) a,.d (.st (.pair y2Y y2Y)) b] (ahg a b):=rsX
def ap3:Ctx:=CX mX []
def agQ(a:(Bool×List Int)×Bool×List Int)(_k:KT):Option (List RV):=match decide (okI a.1)with|true=>some [RV.d (.st (.pair y2Y y2Y)) ((aj (-ag a.1)),a.2)]|false=>none
theorem aol(a:(Bool×List Int)×Bool×List Int):RS ap3 145 [.d (.st (.pair y2Y y2Y)) a] (agQ a):=rsX
def amB:Ctx:=CX mX []
def afn(a b:(Bool×List Int)×Bool×List Int)(_k:KT):Option (List RV):=match decide (okI a.1∧okI b.1)with|true=>(match decide (okI a.2∧okI b.2)with|true=>(match decide (io (aj (ag a.1*ag b.1)) (aj (ag a.2*ag b.2)))with|true=>some [RV.d (.st (.pair y2Y y2Y)) (((eZ (aj (ag a.1*ag b.1)) (aj (ag a.2*ag b.2))).1),((eZ (aj (ag a.1*ag b.1)) (aj (ag a.2*ag b.2))).2))]|false=>none)|false=>none)|false=>none
theorem aoZ(a b:(Bool×List Int)×Bool×List Int):RS amB 76 [.d (.st (.pair y2Y y2Y)) a,.d (.st (.pair y2Y y2Y)) b] (afn a b):=rsX
def amQ:Ctx:=CX mX []
def aeY(a b:(Bool×List Int)×Bool×List Int)(_k:KT):Option (List RV):=match decide (okR b)with|true=>(match(aS (ae b) 0)==0 with|true=>some [RV.d (.st (.pair y2Y y2Y)) ((false,[]),(false,[])),RV.d axf 6]|false=>(match decide (okI a.1∧okI b.2)with|true=>(match decide (okI a.2∧okI b.1)with|true=>(match decide (io (aj (ag a.1*ag b.2)) (aj (ag a.2*ag b.1)))with|true=>some [RV.d (.st (.pair y2Y y2Y)) (((eZ (aj (ag a.1*ag b.2)) (aj (ag a.2*ag b.1))).1),((eZ (aj (ag a.1*ag b.2)) (aj (ag a.2*ag b.1))).2)),RV.d axf 0]|false=>none)|false=>none)|false=>none))|false=>none
theorem ap0(a b:(Bool×List Int)×Bool×List Int):RS amQ 194 [.d (.st (.pair y2Y y2Y)) a,.d (.st (.pair y2Y y2Y)) b] (aeY a b):=rsX
theorem aet(n:Int)(h:bO n):Con Tryz.prog 151 [.d axf n] [.d (.st (.pair y2Y y2Y)) (ai (n:Rat))]:=by
 refine aP iA (aoG _ ⟨0,?_⟩)
 unfold af6 ai
 rw[atT h,Rat.num_intCast,Rat.den_intCast]
 rfl
theorem gb{a:BR}(h:okR a):szI (ag a.1)≤480000∧szI (ag a.2)≤480000:=by
 have h1:=Cy h
 obtain⟨e1,e2⟩:=c8 h
 unfold bdR at h1
 rw[e1,e2]at h1
 exact h1
theorem Ou(a b:Rat):(cH (aS a 0) (aS b 0)≠0→cH (aS a 0) (aS b 0)=aS a b):=by
 rcases(by grind:a<0∨a=0∨0<a)with h1|h1|h1<;>rcases(by grind:b<0∨b=0∨0<b)with h2|h2|h2
 ·rw[dK h1,dK h2];intro h;exact absurd (dV _) h
 ·rw[dK h1,h2,dY,dK h1];intro;rfl
 ·rw[dK h1,dA h2,dK (by grind)];intro;rfl
 ·rw[h1,dY,dK h2,dA h2];intro;rfl
 ·rw[h1,h2,dY];intro h;exact absurd (dV _) h
 ·rw[h1,dY,dA h2,dK h2];intro;rfl
 ·rw[dA h1,dK h2,dA (by grind)];intro;rfl
 ·rw[dA h1,h2,dY,dA h1];intro;rfl
 ·rw[dA h1,dA h2];intro h;exact absurd (dV _) h
theorem aah(a b:BR)(h:okR a∧okR b):Con Tryz.prog 75 [.d (.st (.pair y2Y y2Y)) a,.d (.st (.pair y2Y y2Y)) b] [.d axf (aS (ae a) (ae b))]:=by
 refine aP iA (amS _ _ ⟨0,?_⟩)
 obtain⟨ha,hb⟩:=h
 obtain⟨a1,a2⟩:=c8 ha
 obtain⟨b1,b2⟩:=c8 hb
 obtain⟨sa1,sa2⟩:=gb ha
 obtain⟨sb1,sb2⟩:=gb hb
 have h1:=c9 sa1 sb2
 have h2:=c9 sb1 sa2
 unfold ahl
 rw[atT ha,atT hb]
 dsimp only
 have hs:=Ou (ae a) (ae b)
 by_cases hc:cH (aS (ae a) 0) (aS (ae b) 0)=0
 ·rw[hc,atT (show okI a.1∧okI b.2 from⟨ha.1,hb.2.1⟩),atT (show okI b.1∧okI a.2 from⟨hb.1,ha.2.1⟩),atT (show okI (aj (ag a.1*ag b.2))∧okI (aj (ag b.1*ag a.2)) from⟨bK (by omega),bK (by omega)⟩),dec_enc,dec_enc,←a1,←a2,←b1,←b2,xL]
  rfl
 ·rw[show(cH (aS (ae a) 0) (aS (ae b) 0) !=0)=true by simpa using hc,hs hc]
theorem J3(a:BR)(h:okR a):Con Tryz.prog 145 [.d (.st (.pair y2Y y2Y)) a] [.d (.st (.pair y2Y y2Y)) (ai (-ae a))]:=by
 refine aP iA (aol _ ⟨0,?_⟩)
 obtain⟨a1,a2⟩:=c8 h
 unfold agQ
 have e:ai (-ae a)=(aj (-ag a.1),a.2):=by
  unfold ai
  rw[Rat.neg_num,a1,show((-ae a).den:Int)=((ae a).den:Int) from rfl,a2,←ij h.2.1]
 rw[atT h.1,e]
theorem KL(a b:BR)(h:okR a∧okR b):Con Tryz.prog 144 [.d (.st (.pair y2Y y2Y)) a,.d (.st (.pair y2Y y2Y)) b] [.d (.st (.pair y2Y y2Y)) (ai (ae a+ae b))]:=by
 refine aP iA (aqt _ _ ⟨0,?_⟩)
 obtain⟨ha,hb⟩:=h
 obtain⟨a1,a2⟩:=c8 ha
 obtain⟨b1,b2⟩:=c8 hb
 obtain⟨sa1,sa2⟩:=gb ha
 obtain⟨sb1,sb2⟩:=gb hb
 have pa:=ha.2.2.1
 have pb:=hb.2.2.1
 have h1:=c9 sa1 sb2
 have h2:=c9 sb1 sa2
 have h3:=c9 sa2 sb2
 have h4:=wH h1 h2
 have h5:=wH sa1 sb1
 have hda:ae a=Rat.divInt (ag a.1) (ag a.2):=by rw[←a1,←a2,au9]
 have hdb:ae b=Rat.divInt (ag b.1) (ag b.2):=by rw[←b1,←b2,au9]
 unfold ahg
 rw[atT (show okI a.2∧okI b.2 from⟨ha.2.1,hb.2.1⟩)]
 dsimp only
 by_cases hc:ag a.2=ag b.2
 ·rw[hc,dV,atT (show okI a.1∧okI b.1 from⟨ha.1,hb.1⟩)]
  rw[atT (show io (aj (ag a.1+ag b.1)) a.2 from⟨bK (by omega),ha.2.1,by omega⟩)]
  have e:eZ (aj (ag a.1+ag b.1)) a.2=ai (ae a+ae b):=by
   unfold eZ
   rw[dec_enc,hda,hdb,←hc,Rat.divInt_eq_div,Rat.divInt_eq_div,Rat.divInt_eq_div,Rat.intCast_add]
   congr 1
   grind
  rw[e]
  rfl
 ·have hcm:(cH (ag a.2) (ag b.2)==0)=false:=by
   rcases avS hc with h|h
   ·rw[df h];rfl
   ·rw[cZ h];rfl
  rw[hcm,atT (show okI a.1∧okI b.2 from⟨ha.1,hb.2.1⟩),atT (show okI b.1∧okI a.2 from⟨hb.1,ha.2.1⟩),atT (show okI (aj (ag a.1*ag b.2))∧okI (aj (ag b.1*ag a.2)) from⟨bK (by omega),bK (by omega)⟩)]
  simp only[dec_enc]
  rw[atT (show io (aj (ag a.1*ag b.2+ag b.1*ag a.2)) (aj (ag a.2*ag b.2)) from⟨bK (by omega),bK (by omega),by rw[dec_enc];exact awz (by omega) (by omega)⟩)]
  have e:eZ (aj (ag a.1*ag b.2+ag b.1*ag a.2)) (aj (ag a.2*ag b.2))=ai (ae a+ae b):=by
   unfold eZ
   rw[dec_enc,dec_enc,hda,hdb,Rat.divInt_add_divInt _ _ (by omega) (by omega)]
  rw[e]
theorem ZT(a b:BR)(h:okR a∧okR b):Con Tryz.prog 76 [.d (.st (.pair y2Y y2Y)) a,.d (.st (.pair y2Y y2Y)) b] [.d (.st (.pair y2Y y2Y)) (ai (ae a*ae b))]:=by
 refine aP iA (aoZ _ _ ⟨0,?_⟩)
 obtain⟨ha,hb⟩:=h
 obtain⟨a1,a2⟩:=c8 ha
 obtain⟨b1,b2⟩:=c8 hb
 obtain⟨sa1,sa2⟩:=gb ha
 obtain⟨sb1,sb2⟩:=gb hb
 have pa:=ha.2.2.1
 have pb:=hb.2.2.1
 have h1:=c9 sa1 sb1
 have h3:=c9 sa2 sb2
 have hda:ae a=Rat.divInt (ag a.1) (ag a.2):=by rw[←a1,←a2,au9]
 have hdb:ae b=Rat.divInt (ag b.1) (ag b.2):=by rw[←b1,←b2,au9]
 unfold afn
 rw[atT (show okI a.1∧okI b.1 from⟨ha.1,hb.1⟩),atT (show okI a.2∧okI b.2 from⟨ha.2.1,hb.2.1⟩),atT (show io (aj (ag a.1*ag b.1)) (aj (ag a.2*ag b.2)) from⟨bK (by omega),bK (by omega),by rw[dec_enc];exact awz (by omega) (by omega)⟩)]
 have e:eZ (aj (ag a.1*ag b.1)) (aj (ag a.2*ag b.2))=ai (ae a*ae b):=by
  unfold eZ
  rw[dec_enc,dec_enc,hda,hdb,awA]
 rw[e]
def fS(a b:BR):Prop:=okR a∧okR b∧ag b.1≠0
instance (a b:BR):Decidable (fS a b):=by unfold fS;infer_instance
theorem ack(a b:BR)(h:fS a b):Con Tryz.prog 194 [.d (.st (.pair y2Y y2Y)) a,.d (.st (.pair y2Y y2Y)) b] [.d (.st (.pair y2Y y2Y)) (ai (ae a/ae b)),.d axf 0]:=by
 refine aP iA (ap0 _ _ ⟨0,?_⟩)
 obtain⟨ha,hb,hne⟩:=h
 obtain⟨a1,a2⟩:=c8 ha
 obtain⟨b1,b2⟩:=c8 hb
 obtain⟨sa1,sa2⟩:=gb ha
 obtain⟨sb1,sb2⟩:=gb hb
 have pa:=ha.2.2.1
 have h1:=c9 sa1 sb2
 have h3:=c9 sa2 sb1
 have hda:ae a=Rat.divInt (ag a.1) (ag a.2):=by rw[←a1,←a2,au9]
 have hdb:ae b=Rat.divInt (ag b.1) (ag b.2):=by rw[←b1,←b2,au9]
 have hnz:(aS (ae b) 0==0)=false:=by
  rw[←uW,b1]
  rcases avS hne with h|h
  ·rw[df h];rfl
  ·rw[cZ h];rfl
 unfold aeY
 rw[atT hb,hnz,atT (show okI a.1∧okI b.2 from⟨ha.1,hb.2.1⟩),atT (show okI a.2∧okI b.1 from⟨ha.2.1,hb.1⟩),atT (show io (aj (ag a.1*ag b.2)) (aj (ag a.2*ag b.1)) from⟨bK (by omega),bK (by omega),by rw[dec_enc];exact awz (by omega) hne⟩)]
 have e:eZ (aj (ag a.1*ag b.2)) (aj (ag a.2*ag b.1))=ai (ae a/ae b):=by
  unfold eZ
  rw[dec_enc,dec_enc,hda,hdb,aw4,Rat.inv_divInt,awA]
 rw[e]
def VX:aN:=spN false false [(.st (.pair y2Y y2Y)),(.st (.pair y2Y y2Y))] (fun x=>decide (okR x.1∧okR x.2.1)) (fun x=>[RV.d (.st (.pair y2Y y2Y)) (ai (ae x.1+ae x.2.1))])
theorem Wj:SpK 144 VX:=spX fun x h=>KL x.1 x.2.1 (atS h)
def YM:aN:=spN false false [(.st (.pair y2Y y2Y))] (fun x=>decide (okR x.1)) (fun x=>[RV.d (.st (.pair y2Y y2Y)) (ai (-ae x.1))])
theorem WK:SpK 145 YM:=spX fun x h=>J3 x.1 (atS h)
def Mq:Env:=[(206,oN),(198,vj),(148,rO),(195,ph),(196,wb),(149,vK),(203,zL),(150,Ew),(146,Eb),(205,I1),(147,JH),(144,VX),(145,YM)]
theorem IV:EnvAll Tryz.prog Mq:=⟨kg,oM,mp,kR,pc,pu,t6,zI,yy,Hm,HL,Wj,WK,trivial⟩
def ao5:Ctx:=CX Mq []
def ahk(a b:(Bool×List Int)×Bool×List Int)(_k:KT):Option (List RV):=match decide (okR b)with|true=>(match decide (okR a∧okR (ai (-ae b)))with|true=>some [RV.d (.st (.pair y2Y y2Y)) (((ai (ae a+ae (ai (-ae b)))).1),((ai (ae a+ae (ai (-ae b)))).2))]|false=>none)|false=>none
theorem amU(a b:(Bool×List Int)×Bool×List Int):RS ao5 74 [.d (.st (.pair y2Y y2Y)) a,.d (.st (.pair y2Y y2Y)) b] (ahk a b):=rsX
theorem abN(a b:BR)(h:okR a∧okR b):Con Tryz.prog 74 [.d (.st (.pair y2Y y2Y)) a,.d (.st (.pair y2Y y2Y)) b] [.d (.st (.pair y2Y y2Y)) (ai (ae a-ae b))]:=by
 refine aP IV (amU _ _ ⟨0,?_⟩)
 obtain⟨ha,hb⟩:=h
 unfold ahk
 rw[atT hb,az,awt,atT (show okR a∧okR (ai (-ae b)) from⟨ha,qp (wB (Cy hb)) (at5 _)⟩)]
end Go.Proofs.YtgddhgcjmddjfaaGreat
end
